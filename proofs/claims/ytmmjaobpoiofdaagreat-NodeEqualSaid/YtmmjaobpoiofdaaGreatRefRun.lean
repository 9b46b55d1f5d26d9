/- Walks: the reference's met, step and back of a grid in walls. Walks: the first error of a run, of the program and of the reference. Walks: the reference's Run, Undo, Step and Back of a grid in walls. -/
import Derived.Test.YtmmjaobpoiofdaaGreatRefGrid
import Derived.Test.YtmmjaobpoiofdaaGreatSeq
import Derived.Test.YtmmjaobpoiofdaaGreatWStepPlain
import Derived.Test.YtmmjaobpoiofdaaGreatR3Valid
import Derived.Test.YtmmjaobpoiofdaaGreatCellStep
import Derived.Test.YtmmjaobpoiofdaaGreatGridP
namespace Go.Proofs.YtmmjaobpoiofdaaGreat
open Go Go.RowKit
set_option linter.unusedVariables false
set_option maxRecDepth 100000 in
set_option maxHeartbeats 1000000 in
theorem ref2_Flow (W H : Nat) (a : Option Addr) (ca : Nat) (g : Nat → C4) (w : World) (h1 : 1 ≤ W ∧ W ≤ 64) (h2 : 1 ≤ H ∧ H ≤ 64) (S : Sc w a (W * H) g) :
    Calls Tryz.prog 137 #[.agg #[.int .i64 (W : Int), .int .i64 (H : Int), .slice a (W * H) ca]] w (GridRow W H (W * H) (flow W H g) w) := by
  have hp := fun W' S' => ref2_pulled false W H a ca g W' h1 h2 S'
  have e : pulG false W H g = flow W H g := rfl
  rw [e] at hp
  clear e
  generalize flow W H g = G at *
  generalize W * H = n at *
  have X0 := (Bx.new w #[.int .i64 (W : Int), .int .i64 (H : Int), .slice a n ca] 24).alloc (.cells #[.int .i64 0, .int .i64 0, .slice none 0 0] 24)
  have X1 := Bx.new (w.alloc (.cells #[.int .i64 (W : Int), .int .i64 (H : Int), .slice a n ca] 24)) #[.int .i64 0, .int .i64 0, .slice none 0 0] 24
  simp only [World.size_alloc] at X1
  have hB0 : Below w.heap.size w ((w.alloc (.cells #[.int .i64 (W : Int), .int .i64 (H : Int), .slice a n ca] 24)).alloc (.cells #[.int .i64 0, .int .i64 0, .slice none 0 0] 24)) := by (repeat' (first | with_reducible assumption | with_reducible exact Below.refl _ _ | with_reducible refine Below.drew ?_ | with_reducible refine below_drewN ?_ _ | with_reducible refine balloc ?_ _ | with_reducible refine bset ?_ ?_ _ | with_reducible refine Below.setCell ?_ ?_ _ | with_reducible refine Below.alloc ?_ ?_ _ | omega | (simp; done) | (simp; omega)))
  go_enter Tryz.func137, Tryz.ntmps137
  go_wp2_with fail
  generalize ((w.alloc (.cells #[.int .i64 (W : Int), .int .i64 (H : Int), .slice a n ca] 24)).alloc (.cells #[.int .i64 0, .int .i64 0, .slice none 0 0] 24)) = W0 at X0 X1 hB0 ⊢
  have z0 := X0.lt
  have z1 := X1.lt
  refine (hp _ (S.below hB0)).mono ?_
  rintro e w1 ⟨g', cap, rfl, hg', R, hcap, hb1⟩
  have hB := hB0
  clear hB0 hp
  replace X0 := X0.below hb1
  replace X1 := X1.below hb1
  replace hB := bvia hB hb1
  clear hb1
  have X1_0 := X1.at_ 0 rfl
  have X1_1 := X1.at_ 1 rfl
  have X1_2 := X1.at_ 2 rfl
  have X1f := X1.free
  have X1z := X1.lt
  go_wp2_with fail
  refine bodyPost_ret (v := .agg #[.int .i64 (W : Int), .int .i64 (H : Int), .slice (some ⟨g', 0, none⟩) n cap]) (by simp [results, Tryz.results137, go_sem, X1_0, X1_1, X1_2]) rfl ⟨g', cap, rfl, by omega, by (repeat' (first | with_reducible assumption | with_reducible refine Ro.drew ?_ | with_reducible refine Ro.drewN ?_ _ | with_reducible refine Ro.alloc ?_ _ | with_reducible refine Ro.far ?_ ?_ _ | (show _ ≠ _; dsimp only; omega))), hcap, by (repeat' (first | with_reducible assumption | with_reducible exact Below.refl _ _ | with_reducible refine Below.drew ?_ | with_reducible refine below_drewN ?_ _ | with_reducible refine balloc ?_ _ | with_reducible refine bset ?_ ?_ _ | with_reducible refine Below.setCell ?_ ?_ _ | with_reducible refine Below.alloc ?_ ?_ _ | omega | (simp; done) | (simp; omega)))⟩
end Go.Proofs.YtmmjaobpoiofdaaGreat
namespace Go.Proofs.YtmmjaobpoiofdaaGreat
open Go Go.RowKit
set_option linter.unusedVariables false
/-- a run of m steps from t on is one -/
def timesB (t m : Int) : Bool := within t 0 1000000 && within m 0 1000 && (decide (m = 0) || decide (t + m - 1 ≤ 1000000))
theorem timesB_iff (t m : Int) : timesB t m = true ↔ (0 ≤ t ∧ t ≤ 1000000 ∧ 0 ≤ m ∧ m ≤ 1000 ∧ (m = 0 ∨ t + m - 1 ≤ 1000000)) := by
  simp only [timesB, Bool.and_eq_true, Bool.or_eq_true, within_iff, decide_eq_true_eq]
  constructor
  · rintro ⟨⟨⟨a, b⟩, c, d⟩, e⟩; exact ⟨a, b, c, d, e⟩
  · rintro ⟨a, b, c, d, e⟩; exact ⟨⟨⟨a, b⟩, c, d⟩, e⟩
def rnE (v r t : Bool) : Int := if v && r then (if t then 0 else 7) else 1
theorem timesB_no1 {t m : Int} (h : within t 0 1000000 = false) : timesB t m = false := by simp [timesB, h]
theorem timesB_no2 {t m : Int} (h : within m 0 1000 = false) : timesB t m = false := by simp [timesB, h]
theorem ref2_Times (t m : Int) (w : World) : Calls Tryz.prog 136 #[.int .i64 t, .int .i64 m] w fun e w' => e = .returned (.bool (timesB t m)) ∧ w = w' := by
  have hw1 := fun W => ref2_within t 0 1000000 W
  have hw2 := fun W => ref2_within m 0 1000 W
  cases h1 : within t 0 1000000
  · rw [timesB_no1 h1]
    rw [h1] at hw1
    go_enter Tryz.func136, Tryz.ntmps136
    go_wp2_with (go_at_call 146; refine (hw1 _).mono ?_; rintro e w' ⟨rfl, rfl⟩)
    go_ret
    exact ⟨rfl, rfl⟩
  · obtain ⟨t0, t1⟩ := (within_iff _ _ _).1 h1
    rw [h1] at hw1
    cases h2 : within m 0 1000
    · rw [timesB_no2 h2]
      rw [h2] at hw2
      clear h1 h2
      go_enter Tryz.func136, Tryz.ntmps136
      go_wp2_with fail
      refine (hw1 _).mono ?_
      rintro e w' ⟨rfl, rfl⟩
      go_wp2_with fail
      refine (hw2 _).mono ?_
      rintro e w' ⟨rfl, rfl⟩
      go_wp2_with fail
      go_ret
      exact ⟨rfl, rfl⟩
    · obtain ⟨m0, m1⟩ := (within_iff _ _ _).1 h2
      rw [h2] at hw2
      have e : timesB t m = (decide (m = 0) || decide (t + m - 1 ≤ 1000000)) := by simp [timesB, h1, h2]
      rw [e]
      clear e h1 h2
      by_cases hm : m = 0
      · subst hm
        go_enter Tryz.func136, Tryz.ntmps136
        go_wp2_with fail
        refine (hw1 _).mono ?_
        rintro e w' ⟨rfl, rfl⟩
        go_wp2_with fail
        refine (hw2 _).mono ?_
        rintro e w' ⟨rfl, rfl⟩
        go_wp2_with fail
        go_ret
        exact ⟨rfl, rfl⟩
      · have hmb : (m == 0) = false := by simpa using hm
        have hmd := hid (show decide (m = 0) = false by simpa using hm)
        clear hm
        go_enter Tryz.func136, Tryz.ntmps136
        go_wp2_with fail
        refine (hw1 _).mono ?_
        rintro e w' ⟨rfl, rfl⟩
        go_wp2_with fail
        refine (hw2 _).mono ?_
        rintro e w' ⟨rfl, rfl⟩
        go_wp2_with fail
        go_ret
        exact ⟨ret_bool (by rw [hmd.out]; simp), rfl⟩
end Go.Proofs.YtmmjaobpoiofdaaGreat
namespace Go.Proofs.YtmmjaobpoiofdaaGreat
open Go Go.RowKit
set_option linter.unusedVariables false
/-- the rule of a step -/
def rlAt (nr : Nat) (r : Nat → Int × Int) (s : Nat) : Int × Int := r (s % nr)
theorem rnE_zero {v u s : Bool} (h : rnE v u s = 0) : v = true ∧ u = true ∧ s = true := by
  cases v <;> cases u <;> cases s <;> simp [rnE] at h ⊢
end Go.Proofs.YtmmjaobpoiofdaaGreat
