/- What a land reads as, as words on a world. -/
import Derived.Test.YtcakccfhcgjofaaLift
namespace Go.Proofs.Ytcakccfhcgjofaa
open Go Go.RowKit Go.ChangeShapes Go.WideShapes
set_option linter.unusedVariables false
theorem Try.cells33 : Try.prog.cellsOf 33 = 4 := by kernel_rfl
section
variable {H : Type} {enc : TypeId × Value → H} {w : World} {spare : Nat → Bool} {held : Bool} {fuel : Nat} {cs : List Value} {x : DataW H × List MemPlace}
theorem lift_land (h : DataW.trod enc Try.prog w 0 spare held fuel 33 cs = some x) :
    ∃ (wide high : Int) (a ao : Option Addr) (n no c co : Nat) (g : Nat → C4) (o : Nat → Int), cs = [.int .i64 wide, .int .i64 high, .slice a n c, .slice ao no co] ∧
      n ≤ maxLen ∧ no ≤ maxLen ∧ Sc w a n g ∧ Sl w ao no o := by
  obtain ⟨y0, y1, m, hlen, h0, h1⟩ := trod_fields2 Try.underlying33 Try.cells33 Try.cells24 Try.cells25 h
  obtain ⟨v0, v1, v2, v3, rfl⟩ := list4 hlen
  obtain ⟨wide, high, a, n, c, g, e0, f0, f1, b1, _, _, hs⟩ := lift_grid h0
  obtain ⟨ao, no, co, o, e1, b2, _, _, ho, _⟩ := lift_ints h1
  simp at e0 e1
  obtain ⟨rfl, rfl, rfl⟩ := e0
  subst e1
  exact ⟨wide, high, a, ao, n, no, c, co, g, o, rfl, b1, b2, hs, ho⟩
end
end Go.Proofs.Ytcakccfhcgjofaa
