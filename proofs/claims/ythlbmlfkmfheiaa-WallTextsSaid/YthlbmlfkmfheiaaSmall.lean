/- Walk: the laws' Small. -/
import Derived.Test.YthlbmlfkmfheiaaBase
namespace Go.Proofs.Ythlbmlfkmfheiaa
open Go.RowKit
set_option linter.unusedVariables false
def smallB (n nk nb : Nat) (m : Int) : Bool := decide ((n : Int) ≤ m ∧ (nk : Int) ≤ m ∧ (nb : Int) ≤ m)
theorem law3_small (wide high m : Int) (a ak ab : Option Addr) (n nk nb c ck cb : Nat) (w : World) (hn : n ≤ maxLen) (hk : nk ≤ maxLen) (hb : nb ≤ maxLen) :
    Calls Try.prog 5 #[.agg #[.int .i64 wide, .int .i64 high, .slice a n c, .slice ak nk ck, .slice ab nb cb], .int .i64 m] w
    fun e w' => e = .returned (.bool (smallB n nk nb m)) ∧ Below w.heap.size w w' := by
  unfold maxLen at hn hk hb
  cases h1 : decide ((n : Int) ≤ m)
  · have hr : smallB n nk nb m = false := by simp [smallB] at *; omega
    go_enter Try.func5, Try.ntmps5
    go_wp2
    go_ret
    exact ⟨by rw [hr]; rfl, by (repeat' (first | with_reducible assumption | with_reducible exact Below.refl _ _ | with_reducible refine Below.drew ?_ | with_reducible refine below_drewN ?_ _ | with_reducible refine balloc ?_ _ | with_reducible refine bset ?_ ?_ _ | with_reducible refine Below.setCell ?_ ?_ _ | with_reducible refine Below.alloc ?_ ?_ _ | omega | (simp; done) | (simp; omega)))⟩
  cases h2 : decide ((nk : Int) ≤ m)
  · have hr : smallB n nk nb m = false := by simp [smallB] at *; omega
    go_enter Try.func5, Try.ntmps5
    go_wp2
    go_ret
    exact ⟨by rw [hr]; rfl, by (repeat' (first | with_reducible assumption | with_reducible exact Below.refl _ _ | with_reducible refine Below.drew ?_ | with_reducible refine below_drewN ?_ _ | with_reducible refine balloc ?_ _ | with_reducible refine bset ?_ ?_ _ | with_reducible refine Below.setCell ?_ ?_ _ | with_reducible refine Below.alloc ?_ ?_ _ | omega | (simp; done) | (simp; omega)))⟩
  · have hr : smallB n nk nb m = decide ((nb : Int) ≤ m) := by simp at h1 h2; rw [Bool.eq_iff_iff]; simp [smallB]; omega
    have HR := hid hr; clear hr
    go_enter Try.func5, Try.ntmps5
    go_wp2
    go_ret
    exact ⟨by rw [HR.out]; rfl, by (repeat' (first | with_reducible assumption | with_reducible exact Below.refl _ _ | with_reducible refine Below.drew ?_ | with_reducible refine below_drewN ?_ _ | with_reducible refine balloc ?_ _ | with_reducible refine bset ?_ ?_ _ | with_reducible refine Below.setCell ?_ ?_ _ | with_reducible refine Below.alloc ?_ ?_ _ | omega | (simp; done) | (simp; omega)))⟩
end Go.Proofs.Ythlbmlfkmfheiaa
