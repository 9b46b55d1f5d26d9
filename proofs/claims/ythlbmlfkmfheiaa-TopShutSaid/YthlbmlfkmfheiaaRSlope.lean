/- Walks: the reference's Slope. -/
import Derived.Test.YthlbmlfkmfheiaaRBox
namespace Go.Proofs.Ythlbmlfkmfheiaa
open Go.RowKit
attribute [local go_sem ↓] Go.wp_at_zero Go.wp_at_succ
set_option linter.unusedVariables false
def slY (p : Int × Int) (up : Bool) (k : Nat) : Int := if up then p.2 + k else p.2 - k
def slKind (up : Bool) : Int := if up then 2 else 3
/-- the slope's first k places -/
def slTo (wide high : Int) (p : Int × Int) (up : Bool) : Nat → Nat → Int
  | 0 => fun _ => 0
  | k + 1 => if onB wide high (p.1 + k) (slY p up k) then upd (slTo wide high p up k) (p.1 + k + wide * slY p up k).toNat (slKind up) else slTo wide high p up k
def slS (wide high : Int) (p : Int × Int) (m : Int) (up : Bool) : Nat → Int := slTo wide high p up m.toNat
theorem onB_iff {wide high x y : Int} : onB wide high x y = true ↔ (0 ≤ x ∧ x ≤ wide - 1) ∧ 0 ≤ y ∧ y ≤ high - 1 := by
  simp [onB, within]
theorem allOn_one {wide high : Int} {p q : Int × Int} {ok : Bool} (h : allOn wide high (pts2 p q) ok 1 = true) : ok = true ∧ 0 ≤ p.1 ∧ p.1 ≤ wide - 1 ∧ 0 ≤ p.2 ∧ p.2 ≤ high - 1 := by
  simp only [allOn, Bool.and_eq_true, pts2, onB_iff] at h
  exact ⟨h.1, by omega, by omega, by omega, by omega⟩
/-- the index of a place on the grid -/
theorem idx_lt {wide high x y : Int} {n : Nat} (v1 : 1 ≤ wide) (hn : (n : Int) = wide * high) (hx : 0 ≤ x) (hx' : x ≤ wide - 1) (hy : 0 ≤ y) (hy' : y ≤ high - 1) : ∃ J : Nat, x + wide * y = J ∧ J < n ∧ 0 ≤ wide * y ∧ wide * y ≤ n := by
  have a : 0 ≤ wide * y := Int.mul_nonneg (by omega) hy
  have b : wide * y ≤ wide * (high - 1) := Int.mul_le_mul_of_nonneg_left hy' (by omega)
  rw [Int.mul_sub, Int.mul_one] at b
  exact ⟨(x + wide * y).toNat, by omega, by omega, a, by omega⟩
end Go.Proofs.Ythlbmlfkmfheiaa
