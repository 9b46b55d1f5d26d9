/- Walk: is a land small? Walk: is a state light enough to ask of it? Walk: equal lists of notes. -/
import Derived.Test.YtmmjaobpoiofdaaGreatBase
import Derived.Test.YtmmjaobpoiofdaaGreatNMassP
namespace Go.Proofs.YtmmjaobpoiofdaaGreat
open Go Go.RowKit
set_option linter.unusedVariables false
def smallL (n no : Nat) (k : Int) : Bool := decide ((n : Int) ≤ k) && decide ((no : Int) ≤ k)
theorem smallL_iff {n no : Nat} {k : Int} : smallL n no k = true ↔ ((n : Int) ≤ k ∧ (no : Int) ≤ k) := by simp [smallL]
theorem law5_Small (wide high k : Int) (a ao : Option Addr) (n no c co : Nat) (w : World) :
    Calls Tryz.prog 6 #[.agg #[.int .i64 wide, .int .i64 high, .slice a n c, .slice ao no co], .int .i64 k] w fun e w' => e = .returned (.bool (smallL n no k)) ∧ Below w.heap.size w w' := by
  cases h1 : decide ((n : Int) ≤ k)
  all_goals
    go_enter Tryz.func6, Tryz.ntmps6
    go_wp2
    go_ret
    exact ⟨by simp [smallL, h1], by (repeat' (first | with_reducible assumption | with_reducible exact Below.refl _ _ | with_reducible refine Below.drew ?_ | with_reducible refine below_drewN ?_ _ | with_reducible refine balloc ?_ _ | with_reducible refine bset ?_ ?_ _ | with_reducible refine Below.setCell ?_ ?_ _ | with_reducible refine Below.alloc ?_ ?_ _ | omega | (simp; done) | (simp; omega)))⟩
end Go.Proofs.YtmmjaobpoiofdaaGreat
namespace Go.Proofs.YtmmjaobpoiofdaaGreat
open Go Go.RowKit
set_option linter.unusedVariables false
/-- equal notes -/
def eqN (x y : N6) : Bool := x.st == y.st && x.fr == y.fr && x.to == y.to && x.ce == y.ce && x.di == y.di && x.co == y.co
theorem eqN_iff {x y : N6} : eqN x y = true ↔ x = y := by
  unfold eqN
  constructor
  · intro h
    simp only [Bool.and_eq_true, beq_iff_eq] at h
    obtain ⟨⟨⟨⟨⟨h0, h1⟩, h2⟩, h3⟩, h4⟩, h5⟩ := h
    cases x; cases y; simp_all
  · rintro rfl; simp
set_option maxRecDepth 100000 in
theorem equalIn_note (k : Nat) (w : World) (x y : N6) : (Op.equalIn (k + 2) 78 (.agg #[.int .i64 x.st, .int .i64 x.fr, .int .i64 x.to, .int .i64 x.ce, .int .i64 x.di, .int .i64 x.co]) (.agg #[.int .i64 y.st, .int .i64 y.fr, .int .i64 y.to, .int .i64 y.ce, .int .i64 y.di, .int .i64 y.co])).run Tryz.prog w = .ok (eqN x y) w := by
  rw [run_equalIn_struct w (k + 1) _ _ _ (by kernel_rfl) (by kernel_rfl)]
  have key : (Tryz.prog.fieldsOf 78).toList.map (fun f => (f.type, f.offset, f.name == "_")) = [(3, 0, false), (3, 1, false), (3, 2, false), (3, 3, false), (3, 4, false), (3, 5, false)] := by kernel_rfl
  generalize (Tryz.prog.fieldsOf 78).toList = l at key ⊢
  rcases l with _ | ⟨f0, _ | ⟨f1, _ | ⟨f2, _ | ⟨f3, _ | ⟨f4, _ | ⟨f5, _ | ⟨f6, l⟩⟩⟩⟩⟩⟩⟩
  · simp at key
  · simp at key
  · simp at key
  · simp at key
  · simp at key
  · simp at key
  · skip
    simp only [List.map_cons, List.map_nil, List.cons.injEq, Prod.mk.injEq, and_true] at key
    obtain ⟨⟨t0, o0, m0⟩, ⟨t1, o1, m1⟩, ⟨t2, o2, m2⟩, ⟨t3, o3, m3⟩, ⟨t4, o4, m4⟩, t5, o5, m5⟩ := key
    have m0' : ¬ f0.name = "_" := by simpa using m0
    have m1' : ¬ f1.name = "_" := by simpa using m1
    have m2' : ¬ f2.name = "_" := by simpa using m2
    have m3' : ¬ f3.name = "_" := by simpa using m3
    have m4' : ¬ f4.name = "_" := by simpa using m4
    have m5' : ¬ f5.name = "_" := by simpa using m5
    simp [Op.eqFields, t0, o0, t1, o1, t2, o2, t3, o3, t4, o4, t5, o5, go_sem, m0', m1', m2', m3', m4', m5', eqN]
    by_cases h0 : x.st = y.st <;> by_cases h1 : x.fr = y.fr <;> by_cases h2 : x.to = y.to <;> by_cases h3 : x.ce = y.ce <;> by_cases h4 : x.di = y.di <;> by_cases h5 : x.co = y.co <;> simp [h0, h1, h2, h3, h4, h5]
  · simp at key
theorem neq_note (x y : N6) (w : World) : (binOp .neq 78 (.agg #[.int .i64 x.st, .int .i64 x.fr, .int .i64 x.to, .int .i64 x.ce, .int .i64 x.di, .int .i64 x.co]) (.agg #[.int .i64 y.st, .int .i64 y.fr, .int .i64 y.to, .int .i64 y.ce, .int .i64 y.di, .int .i64 y.co])).run Tryz.prog w = .ok (.bool (!eqN x y)) w := by
  simp only [binOp]
  simp [Op.equal, Op.maxDepth, equalIn_note 9998]
/-- equal lists of notes -/
def sameN (n : Nat) (f : Nat → N6) (m : Nat) (g : Nat → N6) : Bool := decide (n = m) && (List.range n).all fun k => eqN (f k) (g k)
theorem sameN_iff {n : Nat} {f : Nat → N6} {m : Nat} {g : Nat → N6} : sameN n f m g = true ↔ (n = m ∧ ∀ k, k < n → f k = g k) := by simp [sameN, eqN_iff]
theorem sameN_no {n : Nat} {f : Nat → N6} {m : Nat} {g : Nat → N6} : sameN n f m g = false ↔ ¬ (n = m ∧ ∀ k, k < n → f k = g k) := by rw [← sameN_iff]; simp
theorem sameN_self (n : Nat) (f : Nat → N6) : sameN n f n f = true := sameN_iff.2 ⟨rfl, fun _ _ => rfl⟩
set_option maxRecDepth 100000 in
set_option maxHeartbeats 2000000 in
theorem ref5_SameNotes (a b : Option Addr) (n m cap cap' : Nat) (f g : Nat → N6) (w : World) (hn : n ≤ 100000000) (hm : m ≤ 100000000) (H : Sn w a n f) (H' : Sn w b m g) :
    Calls Tryz.prog 12 #[.slice a n cap, .slice b m cap'] w fun e w' => e = .returned (.bool (sameN n f m g)) ∧ Below w.heap.size w w' := by
  cases hne : ((n : Int) != m)
  · have hnm : n = m := by simp at hne; omega
    subst hnm
    go_enter Tryz.func12, Tryz.ntmps12
    go_wp2
    go_loopw [5] (fun i wr => ∃ k : Nat, k ≤ n ∧ i = .int .i64 k ∧ (∀ j, j < k → f j = g j) ∧ Below w.heap.size w wr) (fun i _ => n - (intOf i).toNat)
    case atStart => exact ⟨0, Nat.zero_le _, rfl, fun j hj => by omega, by (repeat' (first | with_reducible assumption | with_reducible exact Below.refl _ _ | with_reducible refine Below.drew ?_ | with_reducible refine below_drewN ?_ _ | with_reducible refine balloc ?_ _ | with_reducible refine bset ?_ ?_ _ | with_reducible refine Below.setCell ?_ ?_ _ | with_reducible refine Below.alloc ?_ ?_ _ | omega | (simp; done) | (simp; omega)))⟩
    case round =>
      obtain ⟨k, hk, rfl, hok, hB⟩ := hrel
      have HOK := hid hok; clear hok
      by_cases hlt : k < n
      · obtain ⟨b1, o1, rfl, _, c0, c1, c2, c3, c4, c5⟩ := (H.below hB).six hlt
        obtain ⟨b2, o2, rfl, _, d0, d1, d2, d3, d4, d5⟩ := (H'.below hB).six hlt
        have hq := neq_note (f k) (g k)
        cases he : eqN (f k) (g k)
        · have he' : ¬ f k = g k := fun e => by rw [eqN_iff.2 e] at he; cases he
          have HE := hid he'
          rw [he] at hq
          clear he he'
          go_wp2
          go_quiet (fail)
          go_wp2
          go_ret
          exact ⟨ret_bool (sameN_no.2 (fun h => HE.out (h.2 k hlt))).symm, by (repeat' (first | with_reducible assumption | with_reducible exact Below.refl _ _ | with_reducible refine Below.drew ?_ | with_reducible refine below_drewN ?_ _ | with_reducible refine balloc ?_ _ | with_reducible refine bset ?_ ?_ _ | with_reducible refine Below.setCell ?_ ?_ _ | with_reducible refine Below.alloc ?_ ?_ _ | omega | (simp; done) | (simp; omega)))⟩
        · have HE := hid (eqN_iff.1 he)
          rw [he] at hq
          clear he
          go_wp2
          go_quiet (fail)
          go_wp2
          go_roundw
          case rel => exact ⟨k + 1, by omega, by go_num, fun j hj => by
              rcases Nat.lt_succ_iff_lt_or_eq.1 hj with h' | rfl
              · exact HOK.out j h'
              · exact HE.out, by (repeat' (first | with_reducible assumption | with_reducible exact Below.refl _ _ | with_reducible refine Below.drew ?_ | with_reducible refine below_drewN ?_ _ | with_reducible refine balloc ?_ _ | with_reducible refine bset ?_ ?_ _ | with_reducible refine Below.setCell ?_ ?_ _ | with_reducible refine Below.alloc ?_ ?_ _ | omega | (simp; done) | (simp; omega)))⟩
          case measure => simp [intOf]; omega
      · go_wp2
        go_ret
        obtain rfl : k = n := (by omega)
        exact ⟨ret_bool (sameN_iff.2 ⟨rfl, HOK.out⟩).symm, hB⟩
  · have hnm : ¬ n = m := by simp at hne; omega
    go_enter Tryz.func12, Tryz.ntmps12
    go_wp2
    go_ret
    exact ⟨ret_bool (sameN_no.2 (fun h => hnm h.1)).symm, by (repeat' (first | with_reducible assumption | with_reducible exact Below.refl _ _ | with_reducible refine Below.drew ?_ | with_reducible refine below_drewN ?_ _ | with_reducible refine balloc ?_ _ | with_reducible refine bset ?_ ?_ _ | with_reducible refine Below.setCell ?_ ?_ _ | with_reducible refine Below.alloc ?_ ?_ _ | omega | (simp; done) | (simp; omega)))⟩
end Go.Proofs.YtmmjaobpoiofdaaGreat
