/- Plain words: posts whose places differ; maps of places. -/
import Derived.Test.YtmmjaobpoiofdaaGreatNRight
import Derived.Test.YtmmjaobpoiofdaaGreatSeq
import Derived.Maps.OwnSet
import Derived.DeepKeys4
namespace Go.Proofs.YtmmjaobpoiofdaaGreat
open Go Go.RowKit Go.Maps Go.ChangeMaps
set_option linter.unusedVariables false
/-- two notes have one place -/
def plcB (x y : N6) : Bool := x.st == y.st && x.ce == y.ce && x.di == y.di
theorem plcB_iff {x y : N6} : plcB x y = true ↔ x.st = y.st ∧ x.ce = y.ce ∧ x.di = y.di := by simp [plcB, and_assoc]
/-- is the place of x that of one of the first k notes? -/
def metB (p : Nat → N6) (x : N6) : Nat → Bool | 0 => false | k + 1 => metB p x k || plcB (p k) x
theorem metB_iff {p : Nat → N6} {x : N6} : ∀ {k}, metB p x k = true ↔ ∃ j, j < k ∧ plcB (p j) x = true
  | 0 => by simp [metB]
  | k + 1 => by
    simp only [metB, Bool.or_eq_true, metB_iff]
    constructor
    · rintro (⟨j, h1, h2⟩ | h)
      · exact ⟨j, by omega, h2⟩
      · exact ⟨k, by omega, h⟩
    · rintro ⟨j, h1, h2⟩
      by_cases e : j = k
      · subst e; exact .inr h2
      · exact .inl ⟨j, by omega, h2⟩
/-- a valid post -/
def postB (W H : Nat) (o : Nat → Int) (no m : Nat) (p : Nat → N6) : Bool := decide (m ≤ 100000 ∧ (∀ k, k < m → noteB W H o no (p k) = true) ∧ ∀ k, k < m → metB p (p k) k = false)
theorem postB_iff {W H : Nat} {o : Nat → Int} {no m : Nat} {p : Nat → N6} : postB W H o no m p = true ↔ (m ≤ 100000 ∧ (∀ k, k < m → noteB W H o no (p k) = true) ∧ ∀ k, k < m → metB p (p k) k = false) := by simp [postB]
theorem postB_no {W H : Nat} {o : Nat → Int} {no m : Nat} {p : Nat → N6} : postB W H o no m p = false ↔ ¬ (m ≤ 100000 ∧ (∀ k, k < m → noteB W H o no (p k) = true) ∧ ∀ k, k < m → metB p (p k) k = false) := by rw [← postB_iff]; simp
/-- the key of a place -/
def plV (x : N6) : Value := .agg #[.int .i64 x.st, .int .i64 x.ce, .int .i64 x.di]
def plL (x : N6) : Lit := .string (keyBytes [.int .i64 x.st, .int .i64 x.ce, .int .i64 x.di])
/-- the numbers of a note are ints of 64 bits -/
def wfN (x : N6) : Prop := ∀ j, j < 6 → (Lit.int .i64 (x.get j)).wf = true
theorem laid_out : laidOutB Tryz.prog = true := by kernel_rfl
theorem law_place : WideMaps.KeyLaw Tryz.prog 101 := deep_law_laid laid_out (m := 2) (by omega) (of_decide_eq_true (by kernel_rfl)) (by kernel_rfl) (by kernel_rfl)
theorem key_place {x : N6} (h : wfN x) : keyOf Tryz.prog 101 (plV x) = some (plL x) := by
  have h0 : (Lit.int .i64 x.st).wf = true := h 0 (by omega)
  have h3 : (Lit.int .i64 x.ce).wf = true := h 3 (by omega)
  have h4 : (Lit.int .i64 x.di).wf = true := h 4 (by omega)
  have hc : Tryz.prog.cellsOf 101 = 3 := by kernel_rfl
  have hi : Tryz.prog.cellsOf 3 = 1 := by kernel_rfl
  have hk : Tryz.prog.keyType 101 = true := by kernel_rfl
  have hf : (plV x).formed Tryz.prog 101 = true := by simp [plV, Value.formed, Tryz.underlying101, hc]
  unfold keyOf
  rw [Tryz.underlying101]
  simp only [hk, hf]
  obtain ⟨m, hm⟩ : ∃ m, Tryz.prog.types.size + 1 = m + 2 := ⟨Tryz.prog.types.size - 1, by have : 1 ≤ Tryz.prog.types.size := of_decide_eq_true (by kernel_rfl); omega⟩
  rw [hm]
  have hcl : (plV x).cells.toList = [.int .i64 x.st, .int .i64 x.ce, .int .i64 x.di] := rfl
  rw [hcl]
  have g0 : Tryz.prog.keyLits (m + 1) 3 [.int .i64 x.st] = some [.int .i64 x.st] := by simp [Program.keyLits, Tryz.underlying3, h0]
  have g1 : Tryz.prog.keyLits (m + 1) 3 [.int .i64 x.ce] = some [.int .i64 x.ce] := by simp [Program.keyLits, Tryz.underlying3, h3]
  have g2 : Tryz.prog.keyLits (m + 1) 3 [.int .i64 x.di] = some [.int .i64 x.di] := by simp [Program.keyLits, Tryz.underlying3, h4]
  unfold Program.keyLits
  simp [Tryz.underlying101, hc, hi, g0, g1, g2, plL]
theorem plL_inj {x y : N6} (hx : wfN x) (hy : wfN y) (h : plL x = plL y) : plcB x y = true := by
  have e := (Keyed.of_law law_place).inj (key_place hx) ((key_place hy).trans (congrArg some h.symm))
  simp only [plV, Value.agg.injEq, Array.mk.injEq, List.cons.injEq, Value.int.injEq, true_and, and_true] at e
  exact plcB_iff.2 ⟨e.1, e.2.1, e.2.2⟩
theorem plL_eq {x y : N6} (h : plcB x y = true) : plL x = plL y := by
  obtain ⟨h1, h2, h3⟩ := plcB_iff.1 h
  unfold plL; rw [h1, h2, h3]
theorem plainElem_bool_invN {H : Type} {P : Program} {e : TypeId} (he : P.underlying e = some .bool) {v : Value} {z : DataW H × List MemPlace} (h : plainElem P e v = some z) : ∃ x, v = .bool x ∧ z = (.lit (.bool x), []) := by
  unfold plainElem at h
  rw [he] at h
  cases v <;> simp at h
  exact ⟨_, rfl, h.symm⟩
/-- block b is a map of at most n places that says of each whether it is in S -/
def PlM (K : TypeId) (w : World) (b n : Nat) (S : N6 → Bool) : Prop :=
  ∃ D : DataW Unit, w.ownsMap Tryz.prog K (plainElem Tryz.prog 4) b n D ∧ ∀ x, wfN x → D.atKey (plL x) (.lit (.bool false)) = .lit (.bool (S x))
theorem plm_made (K : TypeId) (w : World) : PlM K (w.alloc (.map #[] 0)) w.heap.size 0 (fun _ => false) :=
  ⟨.map [], World.ownsMap_made w _ _ _, fun i _ => by simp [DataW.atKey]⟩
theorem plm_below {K : TypeId} {w w' : World} {b n : Nat} {S : N6 → Bool} (h : PlM K w b n S) (hb : Below w.heap.size w w') : PlM K w' b n S := by
  obtain ⟨D, ⟨es, clock, h1, h2⟩, hat⟩ := h
  refine ⟨D, ⟨es, clock, ?_, h2⟩, hat⟩
  rw [hb.block b ?_]
  · exact h1
  · rcases Nat.lt_or_ge b w.heap.size with h' | h'
    · exact h'
    · rw [Array.getElem?_eq_none h'] at h1; cases h1
theorem plm_congr {K : TypeId} {w : World} {b n : Nat} {S S' : N6 → Bool} (h : PlM K w b n S) (e : ∀ x, S x = S' x) : PlM K w b n S' := by
  obtain ⟨D, h1, h2⟩ := h
  exact ⟨D, h1, fun x hx => by rw [h2 x hx, e x]⟩
theorem plm_lt {K : TypeId} {w : World} {b n : Nat} {S : N6 → Bool} (h : PlM K w b n S) : b < w.heap.size := by
  obtain ⟨D, ⟨es, clock, h1, h2⟩, hat⟩ := h
  exact (Array.getElem?_eq_some_iff.1 h1).1
section
variable {K T : TypeId} (law : WideMaps.KeyLaw Tryz.prog K) (hkey : ∀ {x : N6}, wfN x → keyOf Tryz.prog K (plV x) = some (plL x)) (ht : Tryz.prog.underlying T = some (.map K 4))
include law hkey ht
theorem plm_look {w : World} {b n : Nat} {S : N6 → Bool} (h : PlM K w b n S) {x : N6} (hx : wfN x) :
    (Instr.lookup T (.map (some b)) (plV x) false).run Tryz.prog w = .ok (.bool (S x)) w := by
  obtain ⟨D, ho, hat⟩ := h
  obtain ⟨v, ps, hrun, hv⟩ := ho.lookup (Keyed.of_law law) ht (z := .bool false) (by kernel_rfl) (plainElem_bool Tryz.underlying4 false) (hkey hx)
  obtain ⟨y, rfl, hy⟩ := plainElem_bool_invN Tryz.underlying4 hv
  rw [hat x hx] at hy
  simp only [Prod.mk.injEq, DataW.lit.injEq, Lit.bool.injEq] at hy
  rw [hrun, hy.1]
theorem plm_store {w : World} {b n : Nat} {S : N6 → Bool} (h : PlM K w b n S) (hn : n < maxLen) {x : N6} (hx : wfN x) :
    ∃ w', (Instr.mapUpdate T (.map (some b)) (plV x) (.bool true)).run Tryz.prog w = .ok () w' ∧ PlM K w' b (n + 1) (fun y => S y || plcB x y) ∧ w.mapTurned w' b := by
  obtain ⟨D, ho, hat⟩ := h
  obtain ⟨w', hrun, ho', htn⟩ := ho.store (Keyed.of_law law) ht hn (hkey hx) (plainElem_bool Tryz.underlying4 true)
  refine ⟨w', hrun, ⟨_, ho', fun y hy => ?_⟩, htn⟩
  cases e : plcB x y
  · rw [atKey_put_other (by intro h'; have := plL_inj hx hy h'.symm; rw [e] at this; cases this), hat y hy]
    simp [e]
  · rw [← plL_eq e, atKey_put_same ho.isMap (by trivial)]
    simp [e]
end
theorem pl_look {w : World} {b n : Nat} {S : N6 → Bool} (h : PlM 101 w b n S) {x : N6} (hx : wfN x) : (Instr.lookup 118 (.map (some b)) (plV x) false).run Tryz.prog w = .ok (.bool (S x)) w := plm_look law_place key_place Tryz.underlying118 h hx
theorem pl_store {w : World} {b n : Nat} {S : N6 → Bool} (h : PlM 101 w b n S) (hn : n < maxLen) {x : N6} (hx : wfN x) :
    ∃ w', (Instr.mapUpdate 118 (.map (some b)) (plV x) (.bool true)).run Tryz.prog w = .ok () w' ∧ PlM 101 w' b (n + 1) (fun y => S y || plcB x y) ∧ w.mapTurned w' b := plm_store law_place key_place Tryz.underlying118 h hn hx
end Go.Proofs.YtmmjaobpoiofdaaGreat
