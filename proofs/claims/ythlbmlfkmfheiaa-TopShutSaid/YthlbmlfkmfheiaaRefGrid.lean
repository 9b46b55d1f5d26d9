/- Walks: a grid in new memory, streaming, of the reference. -/
import Derived.Test.YthlbmlfkmfheiaaRefCell
import Derived.Test.YthlbmlfkmfheiaaCRow
import Derived.Test.YthlbmlfkmfheiaaFrom
import Derived.Test.YthlbmlfkmfheiaaSent3
namespace Go.Proofs.Ythlbmlfkmfheiaa
open Go Go.RowKit
set_option linter.unusedVariables false
/-- a grid with a row of cells of its own -/
def GridRow (W H n : Nat) (g : Nat → C4) (w : World) (e : Ending) (w' : World) : Prop :=
  ∃ b cap, e = .returned (.agg #[.int .i64 (W : Int), .int .i64 (H : Int), .slice (some ⟨b, 0, none⟩) n cap]) ∧ w.heap.size ≤ b ∧ Ro w' b (n * 4) (flatC g) ∧ n ≤ cap ∧ Below w.heap.size w w'
theorem Sc.get {w : World} {a : Option Addr} {n k d : Nat} {g : Nat → C4} (h : Sc w a n g) (hk : k < n) (hd : d < 4) : ∃ b off, a = some ⟨b, off, none⟩ ∧ b < w.heap.size ∧ w.cell? ⟨b, off + k * 4 + d, none⟩ = some (.int .i64 ((g k).get d)) := by
  obtain ⟨b, off, e, hb, c0, c1, c2, c3⟩ := h k hk
  refine ⟨b, off, e, hb, ?_⟩
  rcases (by omega : d = 0 ∨ d = 1 ∨ d = 2 ∨ d = 3) with rfl | rfl | rfl | rfl
  · exact c0
  · exact c1
  · exact c2
  · exact c3
theorem flat_zero : flatC (fun _ => C4.zero) = fun _ => 0 := by
  funext k
  have hm : k % 4 < 4 := Nat.mod_lt _ (by omega)
  simp only [flatC, C4.zero]
  rcases (by omega : k % 4 = 0 ∨ k % 4 = 1 ∨ k % 4 = 2 ∨ k % 4 = 3) with h | h | h | h <;> simp [h, C4.get]
/-- the way in which particles are pulled, and what they give -/
def pulD (bk : Bool) (d : Nat) : Nat := if bk then (d + 2) % 4 else d
def pulG (bk : Bool) (W H : Nat) (g : Nat → C4) : Nat → C4 := if bk then ebb W H g else flow W H g
theorem pulG_get (bk : Bool) (W H : Nat) (g : Nat → C4) (i d : Nat) (hd : d < 4) : (pulG bk W H g i).get d = (g (nbT W H i (pulD bk d))).get d := by
  cases bk <;> rcases (by omega : d = 0 ∨ d = 1 ∨ d = 2 ∨ d = 3) with rfl | rfl | rfl | rfl <;> rfl
end Go.Proofs.Ythlbmlfkmfheiaa
