/- Walk: is a land small? Walk: is a state light enough to ask of it? Walk: equal lists of notes. -/
import Derived.Test.YtmmjaobpoiofdaaGreatBase
import Derived.Test.YtmmjaobpoiofdaaGreatNMassP
namespace Go.Proofs.YtmmjaobpoiofdaaGreat
open Go Go.RowKit
set_option linter.unusedVariables false
def smallL (n no : Nat) (k : Int) : Bool := decide ((n : Int) ≤ k) && decide ((no : Int) ≤ k)
theorem smallL_iff {n no : Nat} {k : Int} : smallL n no k = true ↔ ((n : Int) ≤ k ∧ (no : Int) ≤ k) := by simp [smallL]
theorem law5_Small (wide high k : Int) (a ao : Option Addr) (n no c co : Nat) (w : World) :
    Calls Tryz.prog 6 #[.agg #[.int .i64 wide, .int .i64 high, .slice a n c, .slice ao no co], .int .i64 k] w fun e w' => e = .returned (.bool (smallL n no k)) ∧ Below w.heap.size w w' := by
  cases h1 : decide ((n : Int) ≤ k)
  all_goals
    go_enter Tryz.func6, Tryz.ntmps6
    go_wp2
    go_ret
    exact ⟨by simp [smallL, h1], by (repeat' (first | with_reducible assumption | with_reducible exact Below.refl _ _ | with_reducible refine Below.drew ?_ | with_reducible refine below_drewN ?_ _ | with_reducible refine balloc ?_ _ | with_reducible refine bset ?_ ?_ _ | with_reducible refine Below.setCell ?_ ?_ _ | with_reducible refine Below.alloc ?_ ?_ _ | omega | (simp; done) | (simp; omega)))⟩
end Go.Proofs.YtmmjaobpoiofdaaGreat
