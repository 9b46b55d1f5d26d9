/- Walks: the program's steps of a grid: collided, forth. -/
import Derived.Test.YthlbmlfkmfheiaaWStream2
import Derived.Test.YthlbmlfkmfheiaaWStepPlain
import Derived.Test.YthlbmlfkmfheiaaCellStep2
namespace Go.Proofs.Ythlbmlfkmfheiaa
open Go Go.RowKit
set_option linter.unusedVariables false
theorem But.setN {C : Nat → Prop} {X Y : World} (h : But C X Y) {p : Addr} (hp : X.heap.size ≤ p.block) (u : Value) : But C X (Y.setCell p u) :=
  ⟨h.os, h.tape, h.output, by simpa [World.setCell] using h.size, fun b hb hc => (Below.heap_setCell Y p u b (fun e => by omega)).trans (h.block b hb hc)⟩
/-- all cells collided -/
def collF (k b : Int) (g : Nat → C4) : Nat → C4 := fun i => coll k b (g i)
theorem collF_met (k b : Int) (g : Nat → C4) : collF k b g = metF k b (fun _ => 0) g := by
  funext i; simp [collF, metF]
/-- the machine in the box p has another grid; what else was, is as it was, but for the cells that it had -/
def MacPost (p b W H n : Nat) (v3 : Value) (G : Nat → C4) (w : World) (e : Ending) (w' : World) : Prop :=
  ∃ b' cap, (∃ v, e = .returned v) ∧ Bx w' p #[.int .i64 (W : Int), .int .i64 (H : Int), .slice (some ⟨b', 0, none⟩) n cap, v3] ∧ Ro w' b' (n * 4) (flatC G) ∧ w.heap.size ≤ b' ∧ n ≤ cap ∧ But (fun q => q = p ∨ q = b) w w'
/-- a step of a grid without walls -/
def stepG (W H : Nat) (r : Int × Int) (g : Nat → C4) : Nat → C4 := stepW W H r (fun _ => 0) g
end Go.Proofs.Ythlbmlfkmfheiaa
