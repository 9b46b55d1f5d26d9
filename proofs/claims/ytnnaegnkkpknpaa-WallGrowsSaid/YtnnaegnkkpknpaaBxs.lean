/- Plain words: boxes that are laid and written. -/
import Derived.Test.YtnnaegnkkpknpaaBase
namespace Go.Proofs.Ytnnaegnkkpknpaa
open Go.RowKit
set_option linter.unusedVariables false
theorem Bx.newE {W : World} {b : Nat} (h : b = W.heap.size) (vs : Array Value) (t : TypeId) : Bx (W.alloc (.cells vs t)) b vs := by
  rw [h]
  exact Bx.new W vs t
theorem Bx.far2 {W : World} {b : Nat} {vs : Array Value} {p : Addr} (hp : p.block ≠ b) (h : Bx W b vs) (u : Value) : Bx (W.setCell p u) b vs := h.far hp u
theorem Bx.two {W : World} {b : Nat} {x0 x1 y0 y1 : Value} (h : Bx W b #[x0, x1]) :
    Bx ((W.setCell ⟨b, 0, none⟩ y0).setCell ⟨b, 1, none⟩ y1) b #[y0, y1] :=
  (h.set_ 0 (by simp) y0).set_ 1 (by simp) y1
theorem Bx.two_eq {W : World} {b : Nat} {x0 x1 y0 y1 z0 z1 : Value} (h : Bx W b #[x0, x1]) (h0 : y0 = z0) (h1 : y1 = z1) :
    Bx ((W.setCell ⟨b, 0, none⟩ y0).setCell ⟨b, 1, none⟩ y1) b #[z0, z1] := by
  rw [← h0, ← h1]
  exact h.two
theorem Bx.four {W : World} {b : Nat} {y0 y1 y2 y3 : Value} (h : Bx W b #[.int .i64 0, .int .i64 0, .int .i64 0, .int .i64 0]) :
    Bx ((((W.setCell ⟨b, 0, none⟩ y0).setCell ⟨b, 1, none⟩ y1).setCell ⟨b, 2, none⟩ y2).setCell ⟨b, 3, none⟩ y3) b #[y0, y1, y2, y3] :=
  (((h.set_ 0 (by simp) y0).set_ 1 (by simp) y1).set_ 2 (by simp) y2).set_ 3 (by simp) y3
end Go.Proofs.Ytnnaegnkkpknpaa
