/- How an array of four ints reads. -/
import Derived.Test.YtnnaegnkkpknpaaLift
namespace Go.Proofs.Ytnnaegnkkpknpaa
open Go.ChangeShapes Go.WideShapes Go.ChangeAt Go.RowKit Go.Deep
set_option linter.unusedVariables false
theorem Try.cells30 : Try.prog.cellsOf 30 = 4 := by kernel_rfl
theorem lift_ints4 {H : Type} {enc : TypeId × Value → H} {w : World} {spare : Nat → Bool} {held : Bool} {fuel : Nat} {cs : List Value} {x : DataW H × List MemPlace} (h : DataW.trod enc Try.prog w 0 spare held fuel 30 cs = some x) :
    ∃ a b c d : Int, cs = [.int .i64 a, .int .i64 b, .int .i64 c, .int .i64 d] := by
  obtain ⟨v0, v1, v2, v3, y0, y1, y2, y3, m, rfl, h0, h1, h2, h3⟩ := trod_array4 Try.underlying30 Try.cells3 Try.cells30 h
  obtain ⟨n0, e0, f0⟩ := lift_int h0
  obtain ⟨n1, e1, f1⟩ := lift_int h1
  obtain ⟨n2, e2, f2⟩ := lift_int h2
  obtain ⟨n3, e3, f3⟩ := lift_int h3
  simp only [List.cons.injEq, and_true] at e0 e1 e2 e3
  subst e0 e1 e2 e3
  exact ⟨n0, n1, n2, n3, rfl⟩
end Go.Proofs.Ytnnaegnkkpknpaa
