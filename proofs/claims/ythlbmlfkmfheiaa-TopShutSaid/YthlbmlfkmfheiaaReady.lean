/- Walks: wall.ready. -/
import Derived.Test.YthlbmlfkmfheiaaOn
namespace Go.Proofs.Ythlbmlfkmfheiaa
open Go.RowKit
set_option linter.unusedVariables false
/-- a slice of points -/
def Sp (w : World) (a : Option Addr) (n : Nat) (p : Nat → Int × Int) : Prop :=
  ∀ k, k < n → ∃ b o, a = some ⟨b, o, none⟩ ∧ b < w.heap.size ∧ w.cell? ⟨b, o + k * 2, none⟩ = some (.int .i64 (p k).1) ∧ w.cell? ⟨b, o + k * 2 + 1, none⟩ = some (.int .i64 (p k).2)
theorem Sp.below {w w' : World} {a : Option Addr} {n : Nat} {p : Nat → Int × Int} (h : Sp w a n p) (hb : Below w.heap.size w w') : Sp w' a n p := fun k hk => by
  obtain ⟨b, o, e, hlt, c0, c1⟩ := h k hk
  exact ⟨b, o, e, by have := hb.size; omega, (bcell hb _ _ hlt).trans c0, (bcell hb _ _ hlt).trans c1⟩
theorem Sp.alloc {w : World} {a : Option Addr} {n : Nat} {p : Nat → Int × Int} (h : Sp w a n p) (o : Obj) : Sp (w.alloc o) a n p := h.below ((Below.refl _ w).alloc (Nat.le_refl _) o)
def allOn (wide high : Int) (p : Nat → Int × Int) (ok : Bool) : Nat → Bool | 0 => ok | k + 1 => allOn wide high p ok k && onB wide high (p k).1 (p k).2
def readyE (v ok : Bool) (body : Int) : Int := if v then (if ok && within body 1 9 then 0 else 7) else 1
end Go.Proofs.Ythlbmlfkmfheiaa
