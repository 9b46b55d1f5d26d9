/- Plain words: what a function leaves that returns a grid and an error. -/
import Derived.Test.YtmmjaobpoiofdaaGreatCRow
namespace Go.Proofs.YtmmjaobpoiofdaaGreat
open Go Go.RowKit
set_option linter.unusedVariables false
theorem Sc.far {W : World} {a : Option Addr} {n : Nat} {g : Nat → C4} (h : Sc W a n g) {p : Addr} (hp : ∀ b off, a = some ⟨b, off, none⟩ → p.block ≠ b) (u : Value) : Sc (W.setCell p u) a n g := fun k hk => by
  obtain ⟨b, off, e, h1, h2, h3, h4, h5⟩ := h k hk
  have hne := hp b off e
  refine ⟨b, off, e, by simpa [World.setCell] using h1, ?_, ?_, ?_, ?_⟩
  all_goals
    rw [World.cell?_setCell_other _ _ _ _ (fun e' => hne (by rw [e']))]
    assumption
end Go.Proofs.YtmmjaobpoiofdaaGreat
