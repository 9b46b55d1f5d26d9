/- How a pair of numbers reads. -/
import Derived.Test.YtnnaegnkkpknpaaLiftShape
namespace Go.Proofs.Ytnnaegnkkpknpaa
open Go.ChangeShapes Go.WideShapes Go.ChangeAt Go.RowKit Go.Deep
set_option linter.unusedVariables false
theorem Try.cells57 : Try.prog.cellsOf 57 = 2 := by kernel_rfl
section
variable {H : Type} {enc : TypeId × Value → H} {w : World} {spare : Nat → Bool} {held : Bool} {fuel : Nat} {cs : List Value} {x : DataW H × List MemPlace}
theorem lift_ints2 (h : DataW.trod enc Try.prog w 0 spare held fuel 57 cs = some x) : ∃ a b : Int, cs = [.int .i64 a, .int .i64 b] := by
  obtain ⟨xs, m, _, _, hlen, hxl, hat⟩ := DataW.trod_array Try.underlying57 h
  rw [Try.cells57] at hlen
  obtain ⟨v0, v1, rfl⟩ := list2 hlen
  obtain ⟨y0, y1, rfl⟩ := list2 hxl
  rw [Try.cells3] at hat
  obtain ⟨a, e0, _⟩ := lift_int (hat 0 (by omega))
  obtain ⟨b, e1, _⟩ := lift_int (hat 1 (by omega))
  simp at e0 e1
  subst e0 e1
  exact ⟨a, b, rfl⟩
end
end Go.Proofs.Ytnnaegnkkpknpaa
