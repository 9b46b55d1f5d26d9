/- How a point and a shape read: opened to cells. -/
import Derived.Test.YthlbmlfkmfheiaaLift
namespace Go.Proofs.Ythlbmlfkmfheiaa
open Go.ChangeShapes Go.WideShapes Go.ChangeAt Go.RowKit Go.Deep
set_option linter.unusedVariables false
theorem Try.cells4 : Try.prog.cellsOf 4 = 1 := by kernel_rfl
theorem Try.cells31 : Try.prog.cellsOf 31 = 2 := by kernel_rfl
theorem list6 {α : Type} {l : List α} (h : l.length = 6) : ∃ a b c d e f, l = [a, b, c, d, e, f] := by
  match l, h with
  | [a, b, c, d, e, f], _ => exact ⟨a, b, c, d, e, f, rfl⟩
theorem list8 {α : Type} {l : List α} (h : l.length = 8) : ∃ a b c d e f g i, l = [a, b, c, d, e, f, g, i] := by
  match l, h with
  | [a, b, c, d, e, f, g, i], _ => exact ⟨a, b, c, d, e, f, g, i, rfl⟩
section
variable {H : Type} {enc : TypeId × Value → H} {P : Program} {w : World} {spare : Nat → Bool} {held : Bool} {fuel : Nat} {cs : List Value} {x : DataW H × List MemPlace}
theorem trod_fields6 {t : TypeId} {f0 f1 f2 f3 f4 f5 : Field} (ht : P.underlying t = some (.struct #[f0, f1, f2, f3, f4, f5]))
    (h : DataW.trod enc P w 0 spare held fuel t cs = some x) :
    ∃ (y0 y1 y2 y3 y4 y5 : DataW H × List MemPlace) (m : Nat), cs.length = P.cellsOf t ∧ DataW.trod enc P w 0 spare held m f0.type ((cs.drop f0.offset).take (P.cellsOf f0.type)) = some y0 ∧
      DataW.trod enc P w 0 spare held m f1.type ((cs.drop f1.offset).take (P.cellsOf f1.type)) = some y1 ∧ DataW.trod enc P w 0 spare held m f2.type ((cs.drop f2.offset).take (P.cellsOf f2.type)) = some y2 ∧
      DataW.trod enc P w 0 spare held m f3.type ((cs.drop f3.offset).take (P.cellsOf f3.type)) = some y3 ∧ DataW.trod enc P w 0 spare held m f4.type ((cs.drop f4.offset).take (P.cellsOf f4.type)) = some y4 ∧
      DataW.trod enc P w 0 spare held m f5.type ((cs.drop f5.offset).take (P.cellsOf f5.type)) = some y5 := by
  obtain ⟨xs, m, _, _, hlen, hxl, hat⟩ := DataW.trod_struct ht h
  obtain ⟨y0, y1, y2, y3, y4, y5, rfl⟩ := list6 (hxl.trans rfl)
  exact ⟨y0, y1, y2, y3, y4, y5, m, hlen, hat 0 f0 rfl, hat 1 f1 rfl, hat 2 f2 rfl, hat 3 f3 rfl, hat 4 f4 rfl, hat 5 f5 rfl⟩
end
section
variable {H : Type} {enc : TypeId × Value → H} {w : World} {spare : Nat → Bool} {held : Bool} {fuel : Nat} {cs : List Value} {x : DataW H × List MemPlace}
theorem lift_bool (h : DataW.trod enc Try.prog w 0 spare held fuel 4 cs = some x) : ∃ b : Bool, cs = [.bool b] := by
  obtain ⟨b, h1, _⟩ := DataW.trod_bool Try.underlying4 h
  exact ⟨b, h1⟩
theorem lift_point (h : DataW.trod enc Try.prog w 0 spare held fuel 31 cs = some x) : ∃ a b : Int, cs = [.int .i64 a, .int .i64 b] := by
  obtain ⟨y0, y1, m, hlen, h0, h1⟩ := trod_fields2 Try.underlying31 Try.cells31 Try.cells3 Try.cells3 h
  obtain ⟨v0, v1, rfl⟩ := list2 hlen
  obtain ⟨a, e0, _⟩ := lift_int h0
  obtain ⟨b, e1, _⟩ := lift_int h1
  simp at e0 e1
  subst e0 e1
  exact ⟨a, b, rfl⟩
end
end Go.Proofs.Ythlbmlfkmfheiaa
