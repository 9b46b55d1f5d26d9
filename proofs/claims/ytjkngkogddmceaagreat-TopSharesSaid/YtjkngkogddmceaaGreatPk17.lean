/- Walks: the reference's met, step and back of a grid in walls. Walks: the first error of a run, of the program and of the reference. Walks: the reference's Run, Undo, Step and Back of a grid in walls. -/
import Derived.Test.YtjkngkogddmceaaGreatPk16
import Derived.Test.YtjkngkogddmceaaGreatPk4
namespace Go.Proofs.YtjkngkogddmceaaGreat
open Go Go.RowKit
set_option linter.unusedVariables false
/-- a run of m steps from t on is one -/
def timesB (t m : Int) : Bool := within t 0 1000000 && within m 0 1000 && (decide (m = 0) || decide (t + m - 1 ≤ 1000000))
theorem timesB_iff (t m : Int) : timesB t m = true ↔ (0 ≤ t ∧ t ≤ 1000000 ∧ 0 ≤ m ∧ m ≤ 1000 ∧ (m = 0 ∨ t + m - 1 ≤ 1000000)) := by
  simp only [timesB, Bool.and_eq_true, Bool.or_eq_true, within_iff, decide_eq_true_eq]
  constructor
  · rintro ⟨⟨⟨a, b⟩, c, d⟩, e⟩; exact ⟨a, b, c, d, e⟩
  · rintro ⟨a, b, c, d, e⟩; exact ⟨⟨⟨a, b⟩, c, d⟩, e⟩
def rnE (v r t : Bool) : Int := if v && r then (if t then 0 else 7) else 1
theorem timesB_no1 {t m : Int} (h : within t 0 1000000 = false) : timesB t m = false := by simp [timesB, h]
theorem timesB_no2 {t m : Int} (h : within m 0 1000 = false) : timesB t m = false := by simp [timesB, h]
end Go.Proofs.YtjkngkogddmceaaGreat
namespace Go.Proofs.YtjkngkogddmceaaGreat
open Go Go.RowKit
set_option linter.unusedVariables false
/-- the rule of a step -/
def rlAt (nr : Nat) (r : Nat → Int × Int) (s : Nat) : Int × Int := r (s % nr)
theorem rnE_zero {v u s : Bool} (h : rnE v u s = 0) : v = true ∧ u = true ∧ s = true := by
  cases v <;> cases u <;> cases s <;> simp [rnE] at h ⊢
end Go.Proofs.YtjkngkogddmceaaGreat
