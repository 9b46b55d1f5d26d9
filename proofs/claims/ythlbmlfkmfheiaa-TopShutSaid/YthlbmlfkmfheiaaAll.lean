/- Walks: the iterators of the walls' shapes: all places for which something is true. -/
import Derived.Test.YthlbmlfkmfheiaaIter
import Derived.Test.YthlbmlfkmfheiaaRSlope
import Derived.LoopIn
import Derived.Sort.CutIn
import Derived.LoopNIn
import Derived.TacticsInMore
import Derived.Shelf.Abstract
namespace Go.Proofs.Ythlbmlfkmfheiaa
open Go Go.RowKit
attribute [local go_sem] Oper.semAt_some
attribute [local go_sem ↓] Go.wp_at_zero Go.wp_at_succ
set_option linter.unusedVariables false
/-- a function value that tells for each place in D a number -/
def TellsB (g : Nat) (lb : Array Value) (D : Int → Int → Prop) (f : Int → Int → Bool) (w₀ : World) : Prop :=
  ∀ x y W, D x y → Below w₀.heap.size w₀ W → Calls Try.prog g (#[.agg #[.int .i64 x, .int .i64 y]] ++ lb) W fun e W' => e = .returned (.bool (f x y)) ∧ Below W.heap.size W W'
def TellsI (g : Nat) (lb : Array Value) (D : Int → Int → Prop) (f : Int → Int → Int) (w₀ : World) : Prop :=
  ∀ x y W, D x y → Below w₀.heap.size w₀ W → Calls Try.prog g (#[.agg #[.int .i64 x, .int .i64 y]] ++ lb) W fun e W' => e = .returned (.int .i64 (f x y)) ∧ Below W.heap.size W W'
def encP (p : Int × Int) : Array Value := #[.agg #[.int .i64 p.1, .int .i64 p.2]]
/-- the places below k for which f is true, in order -/
def placesTo (wide : Int) (f : Int → Int → Bool) : Nat → List (Int × Int)
  | 0 => []
  | k + 1 => if f ((k : Int) % wide) ((k : Int) / wide) then placesTo wide f k ++ [((k : Int) % wide, (k : Int) / wide)] else placesTo wide f k
theorem placesTo_pre (wide : Int) (f : Int → Int → Bool) (k : Nat) : ∀ n, k ≤ n → placesTo wide f k <+: placesTo wide f n
  | 0, h => by rw [show k = 0 from by omega]; exact List.prefix_refl _
  | n + 1, h => by
    rcases Nat.lt_or_ge k (n + 1) with h' | h'
    · refine (placesTo_pre wide f k n (by omega)).trans ?_
      simp only [placesTo]
      split
      · exact List.prefix_append _ _
      · exact List.prefix_refl _
    · rw [show k = n + 1 from by omega]; exact List.prefix_refl _
end Go.Proofs.Ythlbmlfkmfheiaa
