/- Walks: SameInts, Same. -/
import Derived.Test.YtmmjaobpoiofdaaGreatBase
namespace Go.Proofs.YtmmjaobpoiofdaaGreat
open Go.RowKit
set_option linter.unusedVariables false
def sameL (n : Nat) (f : Nat → Int) (m : Nat) (g : Nat → Int) : Bool := decide (n = m ∧ ∀ k, k < n → f k = g k)
theorem sameL_iff {n : Nat} {f : Nat → Int} {m : Nat} {g : Nat → Int} : sameL n f m g = true ↔ (n = m ∧ ∀ k, k < n → f k = g k) := by simp [sameL]
theorem sameL_no {n : Nat} {f : Nat → Int} {m : Nat} {g : Nat → Int} : sameL n f m g = false ↔ ¬ (n = m ∧ ∀ k, k < n → f k = g k) := by rw [← sameL_iff]; simp
end Go.Proofs.YtmmjaobpoiofdaaGreat
