/- A region that draws its order: what only reads is taken first, under a word S on the world; S need not outlast the last operations (number T on), each of which waits for all before them. A region that draws its order: two operations may come up. -/
import Derived.Test.YtpbobhobhbbimaaGreatDoorPk1
import Derived.OrdersHeld
import Derived.Test.YtpbobhobhbbimaaGreatDoorPk2
import Derived.Maps.OwnSet
import Derived.DeepKeys4
namespace Go.Proofs.YtpbobhobhbbimaaGreatDoor
open Go Go.RowKit
set_option linter.unusedVariables false
section
variable {P : Program} {ops : Array Oper} {Q : Exit → Act → World → Prop} {md : Region.Mode} {S : World → Prop} {T : Nat}
/-- the operations from number T on wait for number i -/
def tailB (md : Region.Mode) (ops : Array Oper) (T i : Nat) : Bool :=
  (List.range ops.size).all fun t => decide (t < T) || ((ops[t]?).map fun o => o.after.any fun e => Region.binds md e && e.on == i).getD false
theorem tailB_spec {i : Nat} (h : tailB md ops T i = true) {t : Nat} {o : Oper} (ho : ops[t]? = some o) (ht : T ≤ t) : ∃ e ∈ o.after, Region.binds md e = true ∧ e.on = i := by
  have hlt : t < ops.size := (Array.getElem?_eq_some_iff.1 ho).1
  have h1 := (List.all_eq_true.1 h) t (by simpa using hlt)
  rw [Bool.or_eq_true] at h1
  rcases h1 with h1 | h1
  · have := of_decide_eq_true h1; omega
  · rw [ho] at h1
    simp only [Option.map_some, Option.getD_some] at h1
    obtain ⟨k, hk, h3⟩ := Array.any_eq_true.1 h1
    rw [Bool.and_eq_true] at h3
    exact ⟨o.after[k], Array.getElem_mem _, h3.1, by simpa using h3.2⟩
def anyS (P : Program) (md : Region.Mode) (ops : Array Oper) (Q : Exit → Act → World → Prop) (S : World → Prop) (T : Nat) : Nat → Array Bool → Act → World → Prop
  | 0, listed, a, w => Region.ready md ops listed = [] ∧ Q .normal a w
  | fuel + 1, listed, a, w =>
    (Region.ready md ops listed = [] → Q .normal a w) ∧
    ∀ i ∈ Region.ready md ops listed, wpOp P ops Q i (fun a' w' => (i < T → S w → S w') ∧ anyS P md ops Q S T fuel (listed.setIfInBounds i true) a' w') a w
theorem any_of_S : ∀ (fuel : Nat) (listed : Array Bool) (a : Act) (w : World), anyS P md ops Q S T fuel listed a w → wpAny P md ops Q fuel listed a w
  | 0, _, _, _, h => h
  | fuel + 1, _, _, _, h => ⟨h.1, fun i hi => wpOp_mono (fun a' w' h' => any_of_S fuel _ a' w' h'.2) (h.2 i hi)⟩
theorem anyS_first {S' : World → Prop} {i : Nat} {oi : Oper} {v : Value} (hT : ∀ j oj, ops[j]? = some oj → (∀ e ∈ oj.after, Region.binds md e = true → e.on ≠ i) → j < T ∨ ∀ w, S' w) (hp : ∀ w w', (S w → S w') → S' w → S' w') (hi : ops[i]? = some oi) (hsel : ∀ (j : Nat) (o : Oper) cs b, ops[j]? = some o → o.op ≠ .select cs b)
    (hQ : ∀ c a w, Q (.panic c) (a.put oi.dst v) w → Q (.panic c) a w) :
    ∀ (fuel : Nat) (listed : Array Bool) (a : Act) (w : World),
      (∀ j oj, ops[j]? = some oj → j ≠ i → listed.getD j true = false → (∀ e ∈ oj.after, Region.binds md e = true → e.on ≠ i) → oi.apart ops oj = true) →
      i ∈ Region.ready md ops listed → YieldsIf P ops S' oi v a → S' w →
      anyS P md ops Q S T fuel (listed.setIfInBounds i true) (a.put oi.dst v) w → anyS P md ops Q S T (fuel + 1) listed a w := by
  intro fuel
  induction fuel with
  | zero =>
    intro listed a w _ hr hy hS H
    refine ⟨fun h => (by rw [h] at hr; cases hr), fun j hj => ?_⟩
    by_cases hji : j = i
    · subst hji; exact hy.wpOp hi hS ⟨fun _ h => h, H⟩
    · have := ready_mono hj hji
      rw [H.1] at this
      cases this
  | succ fuel ih =>
    intro listed a w hfree hr hy hS H
    refine ⟨fun h => (by rw [h] at hr; cases hr), fun j hj => ?_⟩
    by_cases hji : j = i
    · subst hji; exact hy.wpOp hi hS ⟨fun _ h => h, H⟩
    · have h1 := H.2 j (ready_mono hj hji)
      obtain ⟨hjun, oj, hoj, hall⟩ := mem_ready.1 hj
      have hnot : ∀ e ∈ oj.after, Region.binds md e = true → e.on ≠ i := fun e he hb heq => by
        have h1 := hall e he hb
        have h0 := (mem_ready.1 hr).1
        rw [heq] at h1
        rcases Nat.lt_or_ge i listed.size with h' | h'
        · simp [h'] at h0 h1; rw [h0] at h1; cases h1
        · simp [Array.getElem?_eq_none h'] at h1
      have h2 := wpOp_putIf hoj (hfree j oj hoj hji hjun hnot) (fun cs b => hsel i oi cs b hi) (fun cs b => hsel j oj cs b hoj) hQ hy h1
      have hfree' : ∀ k ok, ops[k]? = some ok → k ≠ i → (listed.setIfInBounds j true).getD k true = false →
          (∀ e ∈ ok.after, Region.binds md e = true → e.on ≠ i) → oi.apart ops ok = true := fun k ok hk hki hun hno => by
        refine hfree k ok hk hki ?_ hno
        by_cases hjk : j = k
        · subst hjk; exact hjun
        · rw [getD_set_ne true hjk] at hun; exact hun
      refine wpOp_mono (fun a' w' h3 => ⟨h3.2.1, ih (listed.setIfInBounds j true) a' w' hfree' (ready_mono hr (Ne.symm hji)) h3.1 (by rcases hT j oj hoj hnot with h' | h'; exact hp w w' (h3.2.1 h') hS; exact h' w') ?_⟩) h2
      rw [Array.setIfInBounds_comm _ _ hji]
      exact h3.2.2
/-- take number i first -/
theorem anyS_take {i : Nat} {oi : Oper} {v : Value} {fuel : Nat} {listed : Array Bool} {a : Act} {w : World} (hi : ops[i]? = some oi)
    (hk : (tailB md ops T i && Region.noSelect ops && Region.free md ops listed i && (Region.ready md ops listed).contains i) = true)
    (hQ : ∀ c a w, Q (.panic c) (a.put oi.dst v) w → Q (.panic c) a w) (hy : YieldsIf P ops S oi v a) (hS : S w)
    (h : anyS P md ops Q S T fuel (listed.setIfInBounds i true) (a.put oi.dst v) w) : anyS P md ops Q S T (fuel + 1) listed a w := by
  simp only [Bool.and_eq_true] at hk
  refine anyS_first (S' := S) (fun j oj hj hn => ?_) (fun _ _ h hs => h hs) hi (Region.noSelect_spec hk.1.1.2) hQ fuel listed a w (Region.free_spec hi hk.1.2) (by simpa using hk.2) hy hS h
  rcases Nat.lt_or_ge j T with h' | h'
  · exact .inl h'
  · obtain ⟨e, he, hb, ho⟩ := tailB_spec hk.1.1.1 hj h'
    exact absurd ho (hn e he hb)
/-- take number i first, which asks nothing of the world -/
theorem anyS_pure {i : Nat} {oi : Oper} {v : Value} {fuel : Nat} {listed : Array Bool} {a : Act} {w : World} (hi : ops[i]? = some oi)
    (hk : (Region.noSelect ops && Region.free md ops listed i && (Region.ready md ops listed).contains i) = true)
    (hQ : ∀ c a w, Q (.panic c) (a.put oi.dst v) w → Q (.panic c) a w) (hy : YieldsIf P ops (fun _ => True) oi v a)
    (h : anyS P md ops Q S T fuel (listed.setIfInBounds i true) (a.put oi.dst v) w) : anyS P md ops Q S T (fuel + 1) listed a w := by
  simp only [Bool.and_eq_true] at hk
  exact anyS_first (S' := fun _ => True) (fun _ _ _ _ => .inr fun _ => trivial) (fun _ _ _ h => h) hi (Region.noSelect_spec hk.1.1) hQ fuel listed a w (Region.free_spec hi hk.1.2) (by simpa using hk.2) hy trivial h
/-- number i alone may come up -/
theorem anyS_one {i : Nat} {oi : Oper} {fuel : Nat} {listed : Array Bool} {a : Act} {w : World} (hr : Region.ready md ops listed = [i]) (hi : ops[i]? = some oi) (hw : Region.wanted oi (yielded ops a.tmps) = true)
    (h : ∀ K : Act → World → Prop, (∀ a' w', (i < T → S w → S w') → anyS P md ops Q S T fuel (listed.setIfInBounds i true) a' w' → K a' w') → Oper.wp P oi a w K Q) : anyS P md ops Q S T (fuel + 1) listed a w := by
  refine ⟨fun h0 => (by rw [h0] at hr; cases hr), fun j hj => ?_⟩
  rw [hr] at hj
  obtain rfl : j = i := by simpa using hj
  unfold wpOp
  simp only [hi, hw, if_true]
  exact .inl (h _ (fun a' w' hs ha => ⟨hs, ha⟩))
theorem anyS_done {listed : Array Bool} {a : Act} {w : World} (hr : Region.ready md ops listed = []) (h : Q .normal a w) : ∀ fuel, anyS P md ops Q S T fuel listed a w
  | 0 => ⟨hr, h⟩
  | _ + 1 => ⟨fun _ => h, by rw [hr]; simp⟩
theorem wp_region_S {id : Nat} {a : Act} {w : World} (S : World → Prop) (T : Nat) (hm : P.follows .mixedOrders = true)
    (h : anyS P .any ops Q S T ops.size (Array.replicate ops.size false) a w.drew) : (Code.region id ops true).wp P Q a w :=
  wp_region_any hm (any_of_S _ _ _ _ h)
end
end Go.Proofs.YtpbobhobhbbimaaGreatDoor
namespace Go.Proofs.YtpbobhobhbbimaaGreatDoor
open Go Go.RowKit
set_option linter.unusedVariables false
section
variable {P : Program} {ops : Array Oper} {Q : Exit → Act → World → Prop} {md : Region.Mode} {S : World → Prop} {T : Nat}
theorem anyS_two {i j : Nat} {oi oj : Oper} {fuel : Nat} {listed : Array Bool} {a : Act} {w : World} (hr : Region.ready md ops listed = [i, j]) (hi : ops[i]? = some oi) (hj : ops[j]? = some oj)
    (hw : Region.wanted oi (yielded ops a.tmps) = true) (hw2 : Region.wanted oj (yielded ops a.tmps) = true)
    (h1 : ∀ K : Act → World → Prop, (∀ a' w', (i < T → S w → S w') → anyS P md ops Q S T fuel (listed.setIfInBounds i true) a' w' → K a' w') → Oper.wp P oi a w K Q)
    (h2 : ∀ K : Act → World → Prop, (∀ a' w', (j < T → S w → S w') → anyS P md ops Q S T fuel (listed.setIfInBounds j true) a' w' → K a' w') → Oper.wp P oj a w K Q) : anyS P md ops Q S T (fuel + 1) listed a w := by
  refine ⟨fun h0 => (by rw [h0] at hr; cases hr), fun k hk => ?_⟩
  rw [hr] at hk
  simp only [List.mem_cons, List.not_mem_nil, or_false] at hk
  rcases hk with rfl | rfl
  · unfold wpOp
    simp only [hi, hw, if_true]
    exact .inl (h1 _ (fun a' w' hs ha => ⟨hs, ha⟩))
  · unfold wpOp
    simp only [hj, hw2, if_true]
    exact .inl (h2 _ (fun a' w' hs ha => ⟨hs, ha⟩))
end
end Go.Proofs.YtpbobhobhbbimaaGreatDoor
/- Plain words: posts whose places differ; maps of places. -/
namespace Go.Proofs.YtpbobhobhbbimaaGreatDoor
open Go Go.RowKit Go.Maps Go.ChangeMaps
set_option linter.unusedVariables false
/-- two notes have one place -/
def plcB (x y : N6) : Bool := x.st == y.st && x.ce == y.ce && x.di == y.di
theorem plcB_iff {x y : N6} : plcB x y = true ↔ x.st = y.st ∧ x.ce = y.ce ∧ x.di = y.di := by simp [plcB, and_assoc]
/-- is the place of x that of one of the first k notes? -/
def metB (p : Nat → N6) (x : N6) : Nat → Bool | 0 => false | k + 1 => metB p x k || plcB (p k) x
theorem metB_iff {p : Nat → N6} {x : N6} : ∀ {k}, metB p x k = true ↔ ∃ j, j < k ∧ plcB (p j) x = true
  | 0 => by simp [metB]
  | k + 1 => by
    simp only [metB, Bool.or_eq_true, metB_iff]
    constructor
    · rintro (⟨j, h1, h2⟩ | h)
      · exact ⟨j, by omega, h2⟩
      · exact ⟨k, by omega, h⟩
    · rintro ⟨j, h1, h2⟩
      by_cases e : j = k
      · subst e; exact .inr h2
      · exact .inl ⟨j, by omega, h2⟩
/-- a valid post -/
def postB (W H : Nat) (o : Nat → Int) (no m : Nat) (p : Nat → N6) : Bool := decide (m ≤ 100000 ∧ (∀ k, k < m → noteB W H o no (p k) = true) ∧ ∀ k, k < m → metB p (p k) k = false)
theorem postB_iff {W H : Nat} {o : Nat → Int} {no m : Nat} {p : Nat → N6} : postB W H o no m p = true ↔ (m ≤ 100000 ∧ (∀ k, k < m → noteB W H o no (p k) = true) ∧ ∀ k, k < m → metB p (p k) k = false) := by simp [postB]
theorem postB_no {W H : Nat} {o : Nat → Int} {no m : Nat} {p : Nat → N6} : postB W H o no m p = false ↔ ¬ (m ≤ 100000 ∧ (∀ k, k < m → noteB W H o no (p k) = true) ∧ ∀ k, k < m → metB p (p k) k = false) := by rw [← postB_iff]; simp
/-- the key of a place -/
def plV (x : N6) : Value := .agg #[.int .i64 x.st, .int .i64 x.ce, .int .i64 x.di]
def plL (x : N6) : Lit := .string (keyBytes [.int .i64 x.st, .int .i64 x.ce, .int .i64 x.di])
/-- the numbers of a note are ints of 64 bits -/
def wfN (x : N6) : Prop := ∀ j, j < 6 → (Lit.int .i64 (x.get j)).wf = true
theorem laid_out : laidOutB Tryz.prog = true := by kernel_rfl
theorem law_place : WideMaps.KeyLaw Tryz.prog 107 := deep_law_laid laid_out (m := 2) (by omega) (of_decide_eq_true (by kernel_rfl)) (by kernel_rfl) (by kernel_rfl)
theorem key_place {x : N6} (h : wfN x) : keyOf Tryz.prog 107 (plV x) = some (plL x) := by
  have h0 : (Lit.int .i64 x.st).wf = true := h 0 (by omega)
  have h3 : (Lit.int .i64 x.ce).wf = true := h 3 (by omega)
  have h4 : (Lit.int .i64 x.di).wf = true := h 4 (by omega)
  have hc : Tryz.prog.cellsOf 107 = 3 := by kernel_rfl
  have hi : Tryz.prog.cellsOf 3 = 1 := by kernel_rfl
  have hk : Tryz.prog.keyType 107 = true := by kernel_rfl
  have hf : (plV x).formed Tryz.prog 107 = true := by simp [plV, Value.formed, Tryz.underlying107, hc]
  unfold keyOf
  rw [Tryz.underlying107]
  simp only [hk, hf]
  obtain ⟨m, hm⟩ : ∃ m, Tryz.prog.types.size + 1 = m + 2 := ⟨Tryz.prog.types.size - 1, by have : 1 ≤ Tryz.prog.types.size := of_decide_eq_true (by kernel_rfl); omega⟩
  rw [hm]
  have hcl : (plV x).cells.toList = [.int .i64 x.st, .int .i64 x.ce, .int .i64 x.di] := rfl
  rw [hcl]
  have g0 : Tryz.prog.keyLits (m + 1) 3 [.int .i64 x.st] = some [.int .i64 x.st] := by simp [Program.keyLits, Tryz.underlying3, h0]
  have g1 : Tryz.prog.keyLits (m + 1) 3 [.int .i64 x.ce] = some [.int .i64 x.ce] := by simp [Program.keyLits, Tryz.underlying3, h3]
  have g2 : Tryz.prog.keyLits (m + 1) 3 [.int .i64 x.di] = some [.int .i64 x.di] := by simp [Program.keyLits, Tryz.underlying3, h4]
  unfold Program.keyLits
  simp [Tryz.underlying107, hc, hi, g0, g1, g2, plL]
theorem plL_inj {x y : N6} (hx : wfN x) (hy : wfN y) (h : plL x = plL y) : plcB x y = true := by
  have e := (Keyed.of_law law_place).inj (key_place hx) ((key_place hy).trans (congrArg some h.symm))
  simp only [plV, Value.agg.injEq, Array.mk.injEq, List.cons.injEq, Value.int.injEq, true_and, and_true] at e
  exact plcB_iff.2 ⟨e.1, e.2.1, e.2.2⟩
theorem plL_eq {x y : N6} (h : plcB x y = true) : plL x = plL y := by
  obtain ⟨h1, h2, h3⟩ := plcB_iff.1 h
  unfold plL; rw [h1, h2, h3]
theorem plainElem_bool_invN {H : Type} {P : Program} {e : TypeId} (he : P.underlying e = some .bool) {v : Value} {z : DataW H × List MemPlace} (h : plainElem P e v = some z) : ∃ x, v = .bool x ∧ z = (.lit (.bool x), []) := by
  unfold plainElem at h
  rw [he] at h
  cases v <;> simp at h
  exact ⟨_, rfl, h.symm⟩
/-- block b is a map of at most n places that says of each whether it is in S -/
def PlM (K : TypeId) (w : World) (b n : Nat) (S : N6 → Bool) : Prop :=
  ∃ D : DataW Unit, w.ownsMap Tryz.prog K (plainElem Tryz.prog 4) b n D ∧ ∀ x, wfN x → D.atKey (plL x) (.lit (.bool false)) = .lit (.bool (S x))
theorem plm_made (K : TypeId) (w : World) : PlM K (w.alloc (.map #[] 0)) w.heap.size 0 (fun _ => false) :=
  ⟨.map [], World.ownsMap_made w _ _ _, fun i _ => by simp [DataW.atKey]⟩
theorem plm_below {K : TypeId} {w w' : World} {b n : Nat} {S : N6 → Bool} (h : PlM K w b n S) (hb : Below w.heap.size w w') : PlM K w' b n S := by
  obtain ⟨D, ⟨es, clock, h1, h2⟩, hat⟩ := h
  refine ⟨D, ⟨es, clock, ?_, h2⟩, hat⟩
  rw [hb.block b ?_]
  · exact h1
  · rcases Nat.lt_or_ge b w.heap.size with h' | h'
    · exact h'
    · rw [Array.getElem?_eq_none h'] at h1; cases h1
theorem plm_congr {K : TypeId} {w : World} {b n : Nat} {S S' : N6 → Bool} (h : PlM K w b n S) (e : ∀ x, S x = S' x) : PlM K w b n S' := by
  obtain ⟨D, h1, h2⟩ := h
  exact ⟨D, h1, fun x hx => by rw [h2 x hx, e x]⟩
theorem plm_lt {K : TypeId} {w : World} {b n : Nat} {S : N6 → Bool} (h : PlM K w b n S) : b < w.heap.size := by
  obtain ⟨D, ⟨es, clock, h1, h2⟩, hat⟩ := h
  exact (Array.getElem?_eq_some_iff.1 h1).1
section
variable {K T : TypeId} (law : WideMaps.KeyLaw Tryz.prog K) (hkey : ∀ {x : N6}, wfN x → keyOf Tryz.prog K (plV x) = some (plL x)) (ht : Tryz.prog.underlying T = some (.map K 4))
include law hkey ht
theorem plm_look {w : World} {b n : Nat} {S : N6 → Bool} (h : PlM K w b n S) {x : N6} (hx : wfN x) :
    (Instr.lookup T (.map (some b)) (plV x) false).run Tryz.prog w = .ok (.bool (S x)) w := by
  obtain ⟨D, ho, hat⟩ := h
  obtain ⟨v, ps, hrun, hv⟩ := ho.lookup (Keyed.of_law law) ht (z := .bool false) (by kernel_rfl) (plainElem_bool Tryz.underlying4 false) (hkey hx)
  obtain ⟨y, rfl, hy⟩ := plainElem_bool_invN Tryz.underlying4 hv
  rw [hat x hx] at hy
  simp only [Prod.mk.injEq, DataW.lit.injEq, Lit.bool.injEq] at hy
  rw [hrun, hy.1]
theorem plm_store {w : World} {b n : Nat} {S : N6 → Bool} (h : PlM K w b n S) (hn : n < maxLen) {x : N6} (hx : wfN x) :
    ∃ w', (Instr.mapUpdate T (.map (some b)) (plV x) (.bool true)).run Tryz.prog w = .ok () w' ∧ PlM K w' b (n + 1) (fun y => S y || plcB x y) ∧ w.mapTurned w' b := by
  obtain ⟨D, ho, hat⟩ := h
  obtain ⟨w', hrun, ho', htn⟩ := ho.store (Keyed.of_law law) ht hn (hkey hx) (plainElem_bool Tryz.underlying4 true)
  refine ⟨w', hrun, ⟨_, ho', fun y hy => ?_⟩, htn⟩
  cases e : plcB x y
  · rw [atKey_put_other (by intro h'; have := plL_inj hx hy h'.symm; rw [e] at this; cases this), hat y hy]
    simp [e]
  · rw [← plL_eq e, atKey_put_same ho.isMap (by trivial)]
    simp [e]
end
theorem pl_look {w : World} {b n : Nat} {S : N6 → Bool} (h : PlM 107 w b n S) {x : N6} (hx : wfN x) : (Instr.lookup 127 (.map (some b)) (plV x) false).run Tryz.prog w = .ok (.bool (S x)) w := plm_look law_place key_place Tryz.underlying127 h hx
theorem pl_store {w : World} {b n : Nat} {S : N6 → Bool} (h : PlM 107 w b n S) (hn : n < maxLen) {x : N6} (hx : wfN x) :
    ∃ w', (Instr.mapUpdate 127 (.map (some b)) (plV x) (.bool true)).run Tryz.prog w = .ok () w' ∧ PlM 107 w' b (n + 1) (fun y => S y || plcB x y) ∧ w.mapTurned w' b := plm_store law_place key_place Tryz.underlying127 h hn hx
end Go.Proofs.YtpbobhobhbbimaaGreatDoor
/- Walks: ValidPost, of the program and of the reference. Walk: counts, the map of a post from places to counts. -/
namespace Go.Proofs.YtpbobhobhbbimaaGreatDoor
open Go Go.RowKit Go.Maps
set_option linter.unusedVariables false
theorem node_of (x : N6) (w : World) : Calls Tryz.prog 54 #[.agg #[.int .i64 x.st, .int .i64 x.fr, .int .i64 x.to, .int .i64 x.ce, .int .i64 x.di, .int .i64 x.co]] w fun e w' => e = .returned (.agg #[.int .i64 x.st, .int .i64 x.ce, .int .i64 x.di]) ∧ Below w.heap.size w w' := by
  go_enter Tryz.func54, Tryz.ntmps54
  go_wp2
  refine bodyPost_ret (v := .agg #[.int .i64 x.st, .int .i64 x.ce, .int .i64 x.di]) (by simp [results, Tryz.results54, go_sem]) rfl ⟨rfl, ?_⟩
  (repeat' (first | with_reducible assumption | with_reducible exact Below.refl _ _ | with_reducible refine Below.drew ?_ | with_reducible refine below_drewN ?_ _ | with_reducible refine balloc ?_ _ | with_reducible refine bset ?_ ?_ _ | with_reducible refine Below.setCell ?_ ?_ _ | with_reducible refine Below.alloc ?_ ?_ _ | omega | (simp; done) | (simp; omega)))
theorem below_turned {B b : Nat} {w0 w w' : World} (h : Below B w0 w) (ht : w.mapTurned w' b) (hb : B ≤ b) (hB : B ≤ w.heap.size) : Below B w0 w' := h.grown ht.grown hB (fun g e => by injection e with e; omega)
theorem Bx.turned {w w' : World} {b c : Nat} {vs : Array Value} (h : Bx w c vs) (ht : w.mapTurned w' b) (hne : c ≠ b) : Bx w' c vs := h.grown ht.grown (fun e => hne (by injection e))
set_option maxRecDepth 100000 in
set_option maxHeartbeats 4000000 in
theorem node_ValidPost (wide high : Int) (a ao ap : Option Addr) (n no m c co cp : Nat) (g : Nat → C4) (o : Nat → Int) (p : Nat → N6) (w : World) (hn : n ≤ 100000000) (hno : no ≤ 100000000) (hm : m ≤ 100000000) (H : Sc w a n g) (HO : Sl w ao no o) (HP : Sn w ap m p) (HW : ∀ k, k < m → wfN (p k)) :
    Calls Tryz.prog 53 #[.agg #[.int .i64 wide, .int .i64 high, .slice a n c], .slice ao no co, .slice ap m cp] w fun e w' => e = .returned (.bool (validM wide high n g no o && postB wide.toNat high.toNat o no m p)) ∧ Below w.heap.size w w' := by
  have I := H.alloc (.cells #[.int .i64 wide, .int .i64 high, .slice a n c] 24)
  have IO := HO.alloc (.cells #[.int .i64 wide, .int .i64 high, .slice a n c] 24)
  have IP := HP.alloc (.cells #[.int .i64 wide, .int .i64 high, .slice a n c] 24)
  have X := Bx.new w #[.int .i64 wide, .int .i64 high, .slice a n c] 24
  cases hv : validM wide high n g no o
  · go_enter Tryz.func53, Tryz.ntmps53
    go_wp2_with (go_at_call 12; refine (node_ValidMap wide high _ _ n no _ _ g o _ hn hno I IO).mono ?_; rintro e w1 ⟨rfl, hb1⟩; rw [hv])
    go_ret
    exact ⟨rfl, bvia (by (repeat' (first | with_reducible assumption | with_reducible exact Below.refl _ _ | with_reducible refine Below.drew ?_ | with_reducible refine below_drewN ?_ _ | with_reducible refine balloc ?_ _ | with_reducible refine bset ?_ ?_ _ | with_reducible refine Below.setCell ?_ ?_ _ | with_reducible refine Below.alloc ?_ ?_ _ | omega | (simp; done) | (simp; omega)))) hb1⟩
  obtain ⟨Wd, Hd, rfl, rfl, p1, p2, u1, u2, hnn, hn4, hoo, hob, _, _⟩ := validM_sides hv
  have HNW : Hid (no = Wd * Hd) := hid (by omega)
  simp only [Int.toNat_natCast]
  have HWF := hid HW; clear HW
  clear hnn hoo hob
  by_cases hbig : 100000 < m
  · have hF : postB Wd Hd o no m p = false := postB_no.2 (fun h => by omega)
    have HF := hid hF; clear hF
    go_enter Tryz.func53, Tryz.ntmps53
    go_wp2_with (go_at_call 12; refine (node_ValidMap _ _ _ _ n no _ _ g o _ hn hno I IO).mono ?_; rintro e w1 ⟨rfl, hb1⟩; rw [hv])
    go_ret
    rw [HF.out]
    exact ⟨rfl, bvia (by (repeat' (first | with_reducible assumption | with_reducible exact Below.refl _ _ | with_reducible refine Below.drew ?_ | with_reducible refine below_drewN ?_ _ | with_reducible refine balloc ?_ _ | with_reducible refine bset ?_ ?_ _ | with_reducible refine Below.setCell ?_ ?_ _ | with_reducible refine Below.alloc ?_ ?_ _ | omega | (simp; done) | (simp; omega)))) hb1⟩
  have hmm := @run_makeMap Tryz.prog
  go_enter Tryz.func53, Tryz.ntmps53
  go_wp2_with fail
  refine (node_ValidMap _ _ _ _ n no _ _ g o _ hn hno I IO).mono ?_
  rintro e w1 ⟨rfl, hb1⟩
  rw [hv]
  clear hv
  have X1 := X.below hb1
  have x0 := X1.at_ 0 rfl; have x1 := X1.at_ 1 rfl; have x2 := X1.at_ 2 rfl; have lx := X1.lt
  have B1 := bvia (below_alloc w (.cells #[.int .i64 (Wd : Int), .int .i64 (Hd : Int), .slice a n c] 24)) hb1
  have O1 := IO.below hb1; have P1 := IP.below hb1
  clear hb1 I IO IP X
  go_wp2_with fail
  have X2 := (Bx.new w1 #[.int .i64 (Wd : Int), .int .i64 (Hd : Int), .slice a n c, .slice ao no co] 57).alloc (.map #[] 0)
  have B2 := balloc (balloc B1 (.cells #[.int .i64 (Wd : Int), .int .i64 (Hd : Int), .slice a n c, .slice ao no co] 57)) (.map #[] 0)
  have C2 := balloc (below_alloc w1 (.cells #[.int .i64 (Wd : Int), .int .i64 (Hd : Int), .slice a n c, .slice ao no co] 57)) (.map #[] 0)
  have M2 := plm_made 107 (w1.alloc (.cells #[.int .i64 (Wd : Int), .int .i64 (Hd : Int), .slice a n c, .slice ao no co] 57))
  rw [World.size_alloc] at M2
  have hs1 := B1.size
  clear hmm x0 x1 x2 lx X1
  go_loopw [26] (fun i wr => ∃ k : Nat, k ≤ m ∧ i = .int .i64 k ∧ (∀ j, j < k → noteB Wd Hd o no (p j) = true ∧ metB p (p j) j = false) ∧ PlM 107 wr (w1.heap.size + 1) k (fun y => metB p y k) ∧ Bx wr w1.heap.size #[.int .i64 (Wd : Int), .int .i64 (Hd : Int), .slice a n c, .slice ao no co] ∧ Below w.heap.size w wr ∧ Below w1.heap.size w1 wr) (fun i _ => m - (intOf i).toNat)
  case atStart => exact ⟨0, Nat.zero_le _, rfl, fun j hj => by omega, M2, X2, B2, C2⟩
  case round =>
    obtain ⟨k, hk, rfl, hok, hM, hX, hB, hC⟩ := hrel
    have HOK := hid hok; clear hok
    by_cases hlt : k < m
    · obtain ⟨b1, o1, rfl, hb1, c0, c1, c2, c3, c4, c5⟩ := (P1.below hC).six hlt
      have hwf := HWF.out k hlt
      have hr := fun W S => node_right Wd Hd a ao n c no co o (p k) W ⟨p1, p2⟩ ⟨u1, u2⟩ HNW.out S
      unfold cluV at hr
      have Xn := Bx.new wr #[.int .i64 (p k).st, .int .i64 (p k).fr, .int .i64 (p k).to, .int .i64 (p k).ce, .int .i64 (p k).di, .int .i64 (p k).co] 70
      have X3 := hX.alloc (.cells #[.int .i64 (p k).st, .int .i64 (p k).fr, .int .i64 (p k).to, .int .i64 (p k).ce, .int .i64 (p k).di, .int .i64 (p k).co] 70)
      have M3 := plm_below hM (below_alloc wr (.cells #[.int .i64 (p k).st, .int .i64 (p k).fr, .int .i64 (p k).to, .int .i64 (p k).ce, .int .i64 (p k).di, .int .i64 (p k).co] 70))
      have B3 := balloc hB (.cells #[.int .i64 (p k).st, .int .i64 (p k).fr, .int .i64 (p k).to, .int .i64 (p k).ce, .int .i64 (p k).di, .int .i64 (p k).co] 70)
      have C3 := balloc hC (.cells #[.int .i64 (p k).st, .int .i64 (p k).fr, .int .i64 (p k).to, .int .i64 (p k).ce, .int .i64 (p k).di, .int .i64 (p k).co] 70)
      have O3 := (O1.below hC).alloc (.cells #[.int .i64 (p k).st, .int .i64 (p k).fr, .int .i64 (p k).to, .int .i64 (p k).ce, .int .i64 (p k).di, .int .i64 (p k).co] 70)
      have hsz := hC.size
      have g0 := hX.at_ 0 rfl; have g1 := hX.at_ 1 rfl; have g2 := hX.at_ 2 rfl; have g3 := hX.at_ 3 rfl; have lg := hX.lt
      have hof := fun W => node_of (p k) W
      have hmet : ∀ y, metB p y (k + 1) = (metB p y k || plcB (p k) y) := fun y => rfl
      have HM := hid hmet; clear hmet
      cases hs : noteB Wd Hd o no (p k)
      · have hF : postB Wd Hd o no m p = false := postB_no.2 (fun h => by have := h.2.1 k hlt; rw [hs] at this; cases this)
        have HF := hid hF; clear hF
        rw [hs] at hr
        clear hs
        go_wp2_with fail
        refine (hr _ O3).mono ?_
        rintro e w3 ⟨rfl, hb3⟩
        go_wp2
        go_ret
        rw [HF.out]
        exact ⟨rfl, bvia B3 hb3⟩
      rw [hs] at hr
      have HS := hid hs; clear hs
      go_wp2_with fail
      refine (hr _ O3).mono ?_
      rintro e w3 ⟨rfl, hb3⟩
      have B4 := bvia B3 hb3; have C4 := bvia C3 hb3
      have Xn4 := Xn.below hb3; have X4 := X3.below hb3; have M4 := plm_below M3 hb3
      clear hr hb3 Xn X3 M3 g0 g1 g2 g3 lg c0 c1 c2 c3 c4 c5 hX hM O3 hB hC B3 C3
      have y0 := Xn4.at_ 0 rfl; have y1 := Xn4.at_ 1 rfl; have y2 := Xn4.at_ 2 rfl; have y3 := Xn4.at_ 3 rfl; have y4 := Xn4.at_ 4 rfl; have y5 := Xn4.at_ 5 rfl; have ly := Xn4.lt
      go_wp2_with fail
      refine (hof _).mono ?_
      rintro e w5 ⟨rfl, hb5⟩
      have B5 := bvia B4 hb5; have C5 := bvia C4 hb5
      have Xn5 := Xn4.below hb5; have X5 := X4.below hb5; have M5 := plm_below M4 hb5
      have hl := pl_look M5 hwf
      unfold plV at hl
      clear y0 y1 y2 y3 y4 y5 ly hb5 Xn4 X4 M4 B4 C4
      have y0 := Xn5.at_ 0 rfl; have y1 := Xn5.at_ 1 rfl; have y2 := Xn5.at_ 2 rfl; have y3 := Xn5.at_ 3 rfl; have y4 := Xn5.at_ 4 rfl; have y5 := Xn5.at_ 5 rfl; have ly := Xn5.lt
      cases hq : metB p (p k) k
      rotate_left
      · rw [hq] at hl
        have hF : postB Wd Hd o no m p = false := postB_no.2 (fun h => by have := h.2.2 k hlt; rw [hq] at this; cases this)
        have HF := hid hF; clear hF hq
        go_wp2
        go_ret
        rw [HF.out]
        exact ⟨rfl, B5⟩
      rw [hq] at hl
      have HQ := hid hq; clear hq
      go_wp2_with fail
      refine (hof _).mono ?_
      rintro e w6 ⟨rfl, hb6⟩
      have B6 := bvia B5 hb6; have C6 := bvia C5 hb6
      have X6 := X5.below hb6; have M6 := plm_below M5 hb6
      obtain ⟨w7, hrun, M7, ht⟩ := pl_store M6 (by simp [maxLen]; omega) hwf
      unfold plV at hrun
      have hs6 := C6.size
      have B7 := below_turned B6 ht (by omega) B6.size
      have C7 := below_turned C6 ht (by omega) C6.size
      have X7 := X6.turned ht (by omega)
      clear hl y0 y1 y2 y3 y4 y5 ly hb6 hof
      go_wp2_with fail
      go_roundw
      case rel => exact ⟨k + 1, by omega, by go_num, fun j hj => by
          rcases Nat.lt_succ_iff_lt_or_eq.1 hj with h' | rfl
          · exact HOK.out j h'
          · exact ⟨HS.out, HQ.out⟩, plm_congr M7 (fun y => (HM.out y).symm), X7, B7, C7⟩
      case measure => simp [intOf]; omega
    · obtain rfl : k = m := (by omega)
      have hF : postB Wd Hd o no k p = true := postB_iff.2 ⟨by omega, fun j hj => (HOK.out j hj).1, fun j hj => (HOK.out j hj).2⟩
      have HF := hid hF; clear hF
      go_wp2
      go_ret
      rw [HF.out]
      exact ⟨rfl, hB⟩
end Go.Proofs.YtpbobhobhbbimaaGreatDoor
namespace Go.Proofs.YtpbobhobhbbimaaGreatDoor
open Go Go.RowKit Go.Maps Go.ChangeMaps
set_option linter.unusedVariables false
set_option linter.unusedSimpArgs false
/-- the count at the place of x of the first k notes -/
def cntV (p : Nat → N6) (x : N6) : Nat → Int | 0 => 0 | k + 1 => if plcB (p k) x then (p k).co else cntV p x k
/-- block b is a map of at most n places to ints: which it has, and what they are -/
def PcM (w : World) (b n : Nat) (S : N6 → Bool) (V : N6 → Int) : Prop :=
  ∃ D : DataW Unit, w.ownsMap Tryz.prog 107 (plainElem Tryz.prog 3) b n D ∧ ∀ x, wfN x → Maps.has D (plL x) = S x ∧ D.atKey (plL x) (.lit (.int .i64 0)) = .lit (.int .i64 (V x))
theorem pcm_made (w : World) : PcM (w.alloc (.map #[] 0)) w.heap.size 0 (fun _ => false) (fun _ => 0) :=
  ⟨.map [], World.ownsMap_made w _ _ _, fun i _ => by simp [DataW.atKey, Maps.has]⟩
theorem pcm_below {w w' : World} {b n : Nat} {S : N6 → Bool} {V : N6 → Int} (h : PcM w b n S V) (hb : Below w.heap.size w w') : PcM w' b n S V := by
  obtain ⟨D, ⟨es, clock, h1, h2⟩, hat⟩ := h
  refine ⟨D, ⟨es, clock, ?_, h2⟩, hat⟩
  rw [hb.block b ?_]
  · exact h1
  · rcases Nat.lt_or_ge b w.heap.size with h' | h'
    · exact h'
    · rw [Array.getElem?_eq_none h'] at h1; cases h1
theorem pcm_congr {w : World} {b n : Nat} {S S' : N6 → Bool} {V V' : N6 → Int} (h : PcM w b n S V) (e : ∀ x, S x = S' x) (e' : ∀ x, V x = V' x) : PcM w b n S' V' := by
  obtain ⟨D, h1, h2⟩ := h
  exact ⟨D, h1, fun x hx => by rw [← e x, ← e' x]; exact h2 x hx⟩
theorem pcm_lt {w : World} {b n : Nat} {S : N6 → Bool} {V : N6 → Int} (h : PcM w b n S V) : b < w.heap.size := by
  obtain ⟨D, ⟨es, clock, h1, h2⟩, hat⟩ := h
  exact (Array.getElem?_eq_some_iff.1 h1).1
theorem pcm_look {w : World} {b n : Nat} {S : N6 → Bool} {V : N6 → Int} (h : PcM w b n S V) {x : N6} (hx : wfN x) :
    (Instr.lookup 65 (.map (some b)) (plV x) true).run Tryz.prog w = .ok (.tuple #[.int .i64 (V x), .bool (S x)]) w := by
  obtain ⟨D, ho, hat⟩ := h
  obtain ⟨v, ps, hrun, hv⟩ := ho.look_ok (Keyed.of_law law_place) Tryz.underlying65 (z := .int .i64 0) (by kernel_rfl) (plainElem_int Tryz.underlying3 (by decide)) (key_place hx)
  obtain ⟨c, rfl, hc, _⟩ := plainElem_int_inv Tryz.underlying3 hv
  obtain ⟨h1, h2⟩ := hat x hx
  rw [h2] at hc
  simp only [Prod.mk.injEq, DataW.lit.injEq, Lit.int.injEq, true_and] at hc
  rw [hrun, h1, hc.1]
theorem pcm_store {w : World} {b n : Nat} {S : N6 → Bool} {V : N6 → Int} (h : PcM w b n S V) (hn : n < maxLen) {x : N6} (hx : wfN x) (c : Int) (hc : (Lit.int .i64 c).wf = true) :
    ∃ w', (Instr.mapUpdate 65 (.map (some b)) (plV x) (.int .i64 c)).run Tryz.prog w = .ok () w' ∧ PcM w' b (n + 1) (fun y => S y || plcB x y) (fun y => if plcB x y then c else V y) ∧ w.mapTurned w' b := by
  obtain ⟨D, ho, hat⟩ := h
  obtain ⟨w', hrun, ho', htn⟩ := ho.store (Keyed.of_law law_place) Tryz.underlying65 hn (key_place hx) (plainElem_int Tryz.underlying3 hc)
  refine ⟨w', hrun, ⟨_, ho', fun y hy => ?_⟩, htn⟩
  cases e : plcB x y
  · have hne : plL y ≠ plL x := by intro h'; have := plL_inj hx hy h'.symm; rw [e] at this; cases this
    rw [atKey_put_other hne, has_put_other hne, (hat y hy).1, (hat y hy).2]
    simp [e]
  · rw [← plL_eq e, atKey_put_same ho.isMap (by trivial), has_put_same ho.isMap (by trivial)]
    simp [e]
set_option maxRecDepth 100000 in
set_option maxHeartbeats 4000000 in
theorem node_counts (ap : Option Addr) (q cp : Nat) (p : Nat → N6) (w : World) (hq : q ≤ 100000000) (HP : Sn w ap q p) (HW : ∀ k, k < q → wfN (p k)) :
    Calls Tryz.prog 23 #[.slice ap q cp] w fun e w' => ∃ b, e = .returned (.map (some b)) ∧ PcM w' b q (fun y => metB p y q) (fun y => cntV p y q) ∧ Below w.heap.size w w' := by
  have hmm := @run_makeMap Tryz.prog
  have P1 := HP.alloc (.map #[] 0)
  have M1 := pcm_made w
  have B1 := below_alloc w (.map #[] 0)
  have HWF := hid HW; clear HW
  go_enter Tryz.func23, Tryz.ntmps23
  go_wp2
  clear hmm
  go_loopw [9] (fun i wr => ∃ k : Nat, k ≤ q ∧ i = .int .i64 k ∧ PcM wr w.heap.size k (fun y => metB p y k) (fun y => cntV p y k) ∧ Below w.heap.size w wr) (fun i _ => q - (intOf i).toNat)
  case atStart => exact ⟨0, Nat.zero_le _, rfl, M1, B1⟩
  case round =>
    obtain ⟨k, hk, rfl, hM, hB⟩ := hrel
    have hkey := pcm_lt hM
    by_cases hlt : k < q
    · obtain ⟨b1, o1, rfl, hb1, c0, c1, c2, c3, c4, c5⟩ := (HP.below hB).six hlt
      have hwf := HWF.out k hlt
      have hof := fun W => node_of (p k) W
      go_wp2_with fail
      have hW : Below wr.heap.size wr (wr.alloc (.cells #[.int .i64 (p k).st, .int .i64 (p k).fr, .int .i64 (p k).to, .int .i64 (p k).ce, .int .i64 (p k).di, .int .i64 (p k).co] 70)) := by (repeat' (first | with_reducible assumption | with_reducible exact Below.refl _ _ | with_reducible refine Below.drew ?_ | with_reducible refine below_drewN ?_ _ | with_reducible refine balloc ?_ _ | with_reducible refine bset ?_ ?_ _ | with_reducible refine Below.setCell ?_ ?_ _ | with_reducible refine Below.alloc ?_ ?_ _ | omega | (simp; done) | (simp; omega)))
      have Xs := Bx.new wr #[.int .i64 (p k).st, .int .i64 (p k).fr, .int .i64 (p k).to, .int .i64 (p k).ce, .int .i64 (p k).di, .int .i64 (p k).co] 70
      have M5 := pcm_below hM hW
      have B5 := bvia hB hW
      clear hM c0 c1 c2 c3 c4 c5
      generalize hWg : (wr.alloc (.cells #[.int .i64 (p k).st, .int .i64 (p k).fr, .int .i64 (p k).to, .int .i64 (p k).ce, .int .i64 (p k).di, .int .i64 (p k).co] 70)) = W5 at *
      clear hWg
      have s0 : ∀ Y, Below W5.heap.size W5 Y → Y.cell? ⟨wr.heap.size, 0, none⟩ = some (.int .i64 (p k).st) := fun Y h => (Xs.below h).at_ 0 rfl
      have s1 : ∀ Y, Below W5.heap.size W5 Y → Y.cell? ⟨wr.heap.size, 1, none⟩ = some (.int .i64 (p k).fr) := fun Y h => (Xs.below h).at_ 1 rfl
      have s2 : ∀ Y, Below W5.heap.size W5 Y → Y.cell? ⟨wr.heap.size, 2, none⟩ = some (.int .i64 (p k).to) := fun Y h => (Xs.below h).at_ 2 rfl
      have s3 : ∀ Y, Below W5.heap.size W5 Y → Y.cell? ⟨wr.heap.size, 3, none⟩ = some (.int .i64 (p k).ce) := fun Y h => (Xs.below h).at_ 3 rfl
      have s4 : ∀ Y, Below W5.heap.size W5 Y → Y.cell? ⟨wr.heap.size, 4, none⟩ = some (.int .i64 (p k).di) := fun Y h => (Xs.below h).at_ 4 rfl
      have s5 : ∀ Y, Below W5.heap.size W5 Y → Y.cell? ⟨wr.heap.size, 5, none⟩ = some (.int .i64 (p k).co) := fun Y h => (Xs.below h).at_ 5 rfl
      have hz := hW.size
      refine wp_region_S (fun Y => Below W5.heap.size W5 Y) 5 (by kernel_rfl) ?_
      refine anyS_take (i := 0) rfl (by kernel_rfl) (fun _ _ _ h => h) (Or.inl ⟨by rfl, fun Y hYb => (by (try dsimp only at hYb); go_simp; rfl)⟩) (by repeat' (first | with_reducible assumption | with_reducible exact Below.refl _ _ | with_reducible refine Below.drew ?_ | with_reducible refine below_drewN ?_ _)) ?_
      simp only [List.getElem_toArray, List.getElem_cons_succ, List.getElem_cons_zero, Act.put, List.setIfInBounds_toArray, List.set_cons_zero, List.set_cons_succ]
      refine anyS_take (i := 1) rfl (by kernel_rfl) (fun _ _ _ h => h) (Or.inl ⟨by rfl, fun Y hYb => (by (try dsimp only at hYb); go_simp; rfl)⟩) (by repeat' (first | with_reducible assumption | with_reducible exact Below.refl _ _ | with_reducible refine Below.drew ?_ | with_reducible refine below_drewN ?_ _)) ?_
      simp only [List.getElem_toArray, List.getElem_cons_succ, List.getElem_cons_zero, Act.put, List.setIfInBounds_toArray, List.set_cons_zero, List.set_cons_succ]
      refine anyS_take (i := 3) rfl (by kernel_rfl) (fun _ _ _ h => h) (Or.inl ⟨by rfl, fun Y hYb => (by (try dsimp only at hYb); go_simp; rfl)⟩) (by repeat' (first | with_reducible assumption | with_reducible exact Below.refl _ _ | with_reducible refine Below.drew ?_ | with_reducible refine below_drewN ?_ _)) ?_
      simp only [List.getElem_toArray, List.getElem_cons_succ, List.getElem_cons_zero, Act.put, List.setIfInBounds_toArray, List.set_cons_zero, List.set_cons_succ]
      refine anyS_take (i := 4) rfl (by kernel_rfl) (fun _ _ _ h => h) (Or.inl ⟨by rfl, fun Y hYb => (by (try dsimp only at hYb); go_simp; rfl)⟩) (by repeat' (first | with_reducible assumption | with_reducible exact Below.refl _ _ | with_reducible refine Below.drew ?_ | with_reducible refine below_drewN ?_ _)) ?_
      simp only [List.getElem_toArray, List.getElem_cons_succ, List.getElem_cons_zero, Act.put, List.setIfInBounds_toArray, List.set_cons_zero, List.set_cons_succ]
      refine anyS_one (i := 2) (by kernel_rfl) rfl (by rfl) (fun K hK => ?_)
      go_simp
      refine (hof _).mono ?_
      rintro e w6 ⟨rfl, hb6⟩
      dsimp only
      have hS6 : Below W5.heap.size W5 w6 := bvia (by (repeat' (first | with_reducible assumption | with_reducible exact Below.refl _ _ | with_reducible refine Below.drew ?_ | with_reducible refine below_drewN ?_ _ | with_reducible refine balloc ?_ _ | with_reducible refine bset ?_ ?_ _ | with_reducible refine Below.setCell ?_ ?_ _ | with_reducible refine Below.alloc ?_ ?_ _ | omega | (simp; done) | (simp; omega)))) hb6
      refine hK _ _ (fun _ _ => hS6) ?_
      clear hK K hb6
      have M6 := pcm_below M5 hS6
      have B6 := bvia B5 hS6
      obtain ⟨w7, hrun, M7, ht⟩ := pcm_store M6 (by simp [maxLen]; omega) hwf (p k).co (hwf 5 (by omega))
      unfold plV at hrun
      have hs6 := hS6.size
      have B7 := below_turned B6 ht (Nat.le_refl _) B6.size
      refine anyS_one (i := 5) (by kernel_rfl) rfl (by rfl) (fun K hK => ?_)
      go_simp
      refine hK _ _ (fun h _ => absurd h (by decide)) ?_
      clear hK K
      refine anyS_done (by kernel_rfl) ?_ _
      go_wp2
      go_roundw
      case rel => exact ⟨k + 1, by omega, by go_num, pcm_congr M7 (fun y => rfl) (fun y => rfl), B7⟩
      case measure => simp [intOf]; omega
    · obtain rfl : k = q := (by omega)
      go_wp2
      go_ret
      exact ⟨_, rfl, hM, hB⟩
end Go.Proofs.YtpbobhobhbbimaaGreatDoor
/- Walks: SameInts, Same. -/
namespace Go.Proofs.YtpbobhobhbbimaaGreatDoor
open Go.RowKit
set_option linter.unusedVariables false
def sameL (n : Nat) (f : Nat → Int) (m : Nat) (g : Nat → Int) : Bool := decide (n = m ∧ ∀ k, k < n → f k = g k)
theorem sameL_iff {n : Nat} {f : Nat → Int} {m : Nat} {g : Nat → Int} : sameL n f m g = true ↔ (n = m ∧ ∀ k, k < n → f k = g k) := by simp [sameL]
theorem sameL_no {n : Nat} {f : Nat → Int} {m : Nat} {g : Nat → Int} : sameL n f m g = false ↔ ¬ (n = m ∧ ∀ k, k < n → f k = g k) := by rw [← sameL_iff]; simp
end Go.Proofs.YtpbobhobhbbimaaGreatDoor
