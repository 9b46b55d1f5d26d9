/- Plain words: lists of pairs of ints that are made by append; pairs that are held against each other. -/
import Derived.Test.YtgpcmkoimgnlbaaLists
import Derived.Laws.StructEq
import Derived.ChangeKeysEq
namespace Go.Proofs.Ytgpcmkoimgnlbaa
open Go Go.RowKit
set_option linter.unusedVariables false
theorem infoP : (Try.prog.info? 46).map (fun i => (i.zero, i.size, i.bytes)) = some (some (.agg #[.int .i64 0, .int .i64 0]), 2, 16) := by kernel_rfl
/-- a slice of pairs -/
def Sq (w : World) (a : Option Addr) (n : Nat) (p : Nat → Int × Int) : Prop :=
  ∀ k, k < n → ∃ b off, a = some ⟨b, off, none⟩ ∧ b < w.heap.size ∧ w.cell? ⟨b, off + k * 2, none⟩ = some (.int .i64 (p k).1) ∧ w.cell? ⟨b, off + k * 2 + 1, none⟩ = some (.int .i64 (p k).2)
theorem Sq.below {w w' : World} {a : Option Addr} {n : Nat} {p : Nat → Int × Int} (h : Sq w a n p) (hb : Below w.heap.size w w') : Sq w' a n p := fun k hkn => by
  obtain ⟨b, off, h1, h2, h3, h4⟩ := h k hkn
  exact ⟨b, off, h1, by have := hb.size; omega, (bcell hb _ _ h2).trans h3, (bcell hb _ _ h2).trans h4⟩
theorem Sq.alloc {w : World} {a : Option Addr} {n : Nat} {p : Nat → Int × Int} (h : Sq w a n p) (o : Obj) : Sq (w.alloc o) a n p := h.below (below_alloc _ _)
def prow (p : Int × Int) : List Value := [.int .i64 p.1, .int .i64 p.2]
def flatP : List (Int × Int) → List Value
  | [] => []
  | p :: L => prow p ++ flatP L
theorem flatP_length : ∀ L, (flatP L).length = L.length * 2
  | [] => rfl
  | p :: L => by simp [flatP, prow, flatP_length L]; omega
theorem flatP_snoc : ∀ L p, flatP (L ++ [p]) = flatP L ++ prow p
  | [], p => by simp [flatP]
  | q :: L, p => by simp [flatP, flatP_snoc L p]
theorem flatP_get : ∀ (L : List (Int × Int)) (k : Nat), k < L.length → (flatP L)[k * 2]? = some (.int .i64 (L.getD k (0, 0)).1) ∧ (flatP L)[k * 2 + 1]? = some (.int .i64 (L.getD k (0, 0)).2)
  | [], k, h => by simp at h
  | p :: L, 0, h => by simp [flatP, prow]
  | p :: L, k + 1, h => by
    have ih := flatP_get L k (by simpa using h)
    have e1 : (k + 1) * 2 = k * 2 + 2 := by omega
    have e2 : (k + 1) * 2 + 1 = k * 2 + 1 + 2 := by omega
    simp only [flatP, prow, e1, List.getD_cons_succ]
    exact ih
theorem sq_of_own {w : World} {base : Nat} {v : Value} {xs : List (Int × Int)} (h : w.ownsRow base 46 2 v xs.length (flatP xs)) :
    ∃ a c, v = .slice a xs.length c ∧ Sq w a xs.length (fun k => xs.getD k (0, 0)) := by
  rcases h.2 with ⟨rfl, h0⟩ | ⟨g, cap, cur, rfl, hb, hh, hn, hm, hc, ht⟩
  · exact ⟨none, 0, by rw [h0], fun k hk => by omega⟩
  · refine ⟨some ⟨g, 0, none⟩, cap, rfl, fun k hk => ⟨g, 0, rfl, ?_, ?_, ?_⟩⟩
    · rcases Nat.lt_or_ge g w.heap.size with h' | h'
      · exact h'
      · rw [Array.getElem?_eq_none h'] at hh; cases hh
    · rw [Nat.zero_add, cell_of_row w g (k * 2) cur 46 (0, 0) hh]
      have h1 : (cur.toList.take (xs.length * 2))[k * 2]? = (flatP xs)[k * 2]? := by rw [ht]
      rw [List.getElem?_take, if_pos (by omega), (flatP_get xs k hk).1] at h1
      simpa using h1
    · rw [Nat.zero_add, cell_of_row w g (k * 2 + 1) cur 46 (0, 0) hh]
      have h1 : (cur.toList.take (xs.length * 2))[k * 2 + 1]? = (flatP xs)[k * 2 + 1]? := by rw [ht]
      rw [List.getElem?_take, if_pos (by omega), (flatP_get xs k hk).2] at h1
      simpa using h1
theorem pown_snoc {w : World} {base : Nat} {v : Value} {xs : List (Int × Int)} {p : Int × Int} (h : w.ownsRow base 46 2 v (xs.length + 1) (flatP xs ++ prow p)) :
    w.ownsRow base 46 2 v (xs ++ [p]).length (flatP (xs ++ [p])) := by
  rw [flatP_snoc, List.length_append]; exact h
theorem pcells_new (w : World) (p : Int × Int) (t : TypeId) : ∀ j u, (prow p)[j]? = some u → (w.alloc (.cells #[.int .i64 p.1, .int .i64 p.2] t)).cell? ((⟨w.heap.size, 0, none⟩ : Addr).add j) = some u := by
  intro j u hj
  have h := cell_new w #[.int .i64 p.1, .int .i64 p.2] t j u (by simpa [prow] using hj)
  have e : (⟨w.heap.size, 0, none⟩ : Addr).add j = ⟨w.heap.size, j, none⟩ := by by_cases hj0 : j = 0 <;> simp [Addr.add, hj0]
  rw [e]
  exact h
/-- a list of pairs and an error -/
def PairPost (xs : List (Int × Int)) (err : Int) (w : World) (e : Ending) (w' : World) : Prop :=
  ∃ a c, e = .returned (.tuple #[.slice a xs.length c, .int .i64 err]) ∧ Sq w' a xs.length (fun k => xs.getD k (0, 0)) ∧ Below w.heap.size w w'
theorem pairPost_nil {w w' : World} {err : Int} (hb : Below w.heap.size w w') : PairPost [] err w (.returned (.tuple #[.slice none 0 0, .int .i64 err])) w' :=
  ⟨none, 0, rfl, fun k hk => absurd hk (by simp), hb⟩
theorem pairPost_own {w w' : World} {base : Nat} {v : Value} {xs : List (Int × Int)} {err : Int} (h : w'.ownsRow base 46 2 v xs.length (flatP xs)) (hb : Below w.heap.size w w') :
    PairPost xs err w (.returned (.tuple #[v, .int .i64 err])) w' := by
  obtain ⟨a, c, rfl, hs⟩ := sq_of_own h
  exact ⟨a, c, rfl, hs, hb⟩
theorem cellsI1 : Try.prog.cellsOf 3 = 1 := by kernel_rfl
theorem equalIn_i (d : Nat) (a b : Int) (w : World) : (Op.equalIn (d + 1) 3 (.int .i64 a) (.int .i64 b)).run Try.prog w = .ok (a == b) w := by
  simp [Op.equalIn, run_underlying Try.underlying3]
theorem equalIn_pair (n : Nat) (a b e f : Int) (w : World) : (Op.equalIn (n + 2) 46 (.agg #[.int .i64 a, .int .i64 b]) (.agg #[.int .i64 e, .int .i64 f])).run Try.prog w
    = .ok (a == e && b == f) w := by
  obtain ⟨i0, hi, hz0, hz1, hz2⟩ := info_parts infoI
  rw [run_equalIn_array w (n + 1) _ _ Try.underlying46 hi, cellsI1]
  have hp : ∀ (cs : Array Value) (j : Nat) (v : Value), cs[j]? = some v → ∀ (w : World), (part 3 cs j).run Try.prog w = .ok v w := by
    intro cs j v hv w
    simp [part, hv, go_sem]
  have h0 := hp #[.int .i64 a, .int .i64 b] 0 (.int .i64 a) rfl
  have h1 := hp #[.int .i64 a, .int .i64 b] 1 (.int .i64 b) rfl
  have k0 := hp #[.int .i64 e, .int .i64 f] 0 (.int .i64 e) rfl
  have k1 := hp #[.int .i64 e, .int .i64 f] 1 (.int .i64 f) rfl
  simp only [Op.eqItems, List.range, List.range.loop, Nat.mul_one, Sem.run_bind, h0, h1, k0, k1, Result.andThen_ok, equalIn_i, Sem.run_ite, Sem.run_pure]
  cases (a == e) <;> cases (b == f) <;> rfl
theorem neq_pair (a b e f : Int) (w : World) : (binOp .neq 46 (.agg #[.int .i64 a, .int .i64 b]) (.agg #[.int .i64 e, .int .i64 f])).run Try.prog w
    = .ok (.bool (!(a == e && b == f))) w := by
  simp only [binOp]
  simp [Op.equal, Op.maxDepth, equalIn_pair 9998]
end Go.Proofs.Ytgpcmkoimgnlbaa
