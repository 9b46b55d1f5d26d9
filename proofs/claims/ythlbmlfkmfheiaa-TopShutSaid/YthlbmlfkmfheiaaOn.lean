/- Walks: places on a grid. -/
import Derived.Test.YthlbmlfkmfheiaaR3Valid
namespace Go.Proofs.Ythlbmlfkmfheiaa
open Go.RowKit
set_option linter.unusedVariables false
def onB (wide high x y : Int) : Bool := within x 0 (wide - 1) && within y 0 (high - 1)
set_option maxRecDepth 100000 in
set_option maxHeartbeats 1000000 in
theorem wall_on (wide high x y : Int) (a : Option Addr) (n c : Nat) (w : World) (h1 : 1 ≤ wide ∧ wide ≤ 64) (h2 : 1 ≤ high ∧ high ≤ 64) :
    Calls Try.prog 17 #[.agg #[.int .i64 wide, .int .i64 high, .slice a n c], .agg #[.int .i64 x, .int .i64 y]] w
      fun e w' => e = .returned (.bool (onB wide high x y)) ∧ Below w.heap.size w w' := by
  cases hx : within x 0 (wide - 1)
  · go_enter Try.func17, Try.ntmps17
    go_wp2_with (go_at_call 39; refine (wall_within _ _ _ _).mono ?_; rintro e w' ⟨rfl, rfl⟩)
    go_ret
    exact ⟨by simp [onB, hx], by (repeat' (first | with_reducible assumption | with_reducible exact Below.refl _ _ | with_reducible refine Below.drew ?_ | with_reducible refine below_drewN ?_ _ | with_reducible refine balloc ?_ _ | with_reducible refine bset ?_ ?_ _ | with_reducible refine Below.setCell ?_ ?_ _ | with_reducible refine Below.alloc ?_ ?_ _ | omega | (simp; done) | (simp; omega)))⟩
  · go_enter Try.func17, Try.ntmps17
    go_wp2_with (go_at_call 39; refine (wall_within _ _ _ _).mono ?_; rintro e w' ⟨rfl, rfl⟩)
    go_ret
    exact ⟨by simp [onB, hx], by (repeat' (first | with_reducible assumption | with_reducible exact Below.refl _ _ | with_reducible refine Below.drew ?_ | with_reducible refine below_drewN ?_ _ | with_reducible refine balloc ?_ _ | with_reducible refine bset ?_ ?_ _ | with_reducible refine Below.setCell ?_ ?_ _ | with_reducible refine Below.alloc ?_ ?_ _ | omega | (simp; done) | (simp; omega)))⟩
set_option maxRecDepth 100000 in
set_option maxHeartbeats 1000000 in
theorem wall_index (wide high x y : Int) (a : Option Addr) (n c : Nat) (w : World) (h1 : 1 ≤ wide ∧ wide ≤ 64) (h2 : 0 ≤ x ∧ x ≤ 1000) (h3 : 0 ≤ y ∧ y ≤ 1000) :
    Calls Try.prog 18 #[.agg #[.int .i64 wide, .int .i64 high, .slice a n c], .agg #[.int .i64 x, .int .i64 y]] w
      fun e w' => e = .returned (.int .i64 (x + wide * y)) ∧ Below w.heap.size w w' := by
  have m0 : 0 ≤ wide * y := Int.mul_nonneg (by omega) h3.1
  have m1 : wide * y ≤ 64 * 1000 := Int.mul_le_mul h1.2 h3.2 h3.1 (by omega)
  generalize hq : wide * y = q at m0 m1 ⊢
  have e1 : wrap64 (wide * y) = q := by rw [hq]; unfold wrap64; omega
  have e2 : wrap64 (x + q) = x + q := by unfold wrap64; omega
  go_enter Try.func18, Try.ntmps18
  go_wp2
  go_ret
  exact ⟨by first | rfl | (simp only [e1, e2]) | (simp [hq, e1, e2]), by (repeat' (first | with_reducible assumption | with_reducible exact Below.refl _ _ | with_reducible refine Below.drew ?_ | with_reducible refine below_drewN ?_ _ | with_reducible refine balloc ?_ _ | with_reducible refine bset ?_ ?_ _ | with_reducible refine Below.setCell ?_ ?_ _ | with_reducible refine Below.alloc ?_ ?_ _ | omega | (simp; done) | (simp; omega)))⟩
def betB (n a b : Int) : Bool := within n a b || within n b a
end Go.Proofs.Ythlbmlfkmfheiaa
