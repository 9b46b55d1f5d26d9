/- Plain words: a shape put into a wall; walk: the reference's put. -/
import Derived.Test.YthlbmlfkmfheiaaClo
namespace Go.Proofs.Ythlbmlfkmfheiaa
open Go.RowKit
attribute [local go_sem ↓] Go.wp_at_zero Go.wp_at_succ
set_option linter.unusedVariables false
/-- some place of the shape belongs to another body -/
def putBad (s B : Nat → Int) (body : Int) (n : Nat) : Bool := decide (∃ i, i < n ∧ s i ≠ 0 ∧ B i ≠ 0 ∧ B i ≠ body)
theorem putBad_yes {s B : Nat → Int} {body : Int} {n i : Nat} (hi : i < n) (h : s i ≠ 0) (h1 : B i ≠ 0) (h2 : B i ≠ body) : putBad s B body n = true := by
  simp only [putBad, decide_eq_true_eq]; exact ⟨i, hi, h, h1, h2⟩
theorem putBad_no {s B : Nat → Int} {body : Int} {n : Nat} (h : ∀ i, i < n → ¬ (s i ≠ 0 ∧ B i ≠ 0 ∧ B i ≠ body)) : putBad s B body n = false := by
  simp only [putBad, decide_eq_false_iff_not]; rintro ⟨i, hi, h'⟩; exact h i hi h'
/-- the first k places put in -/
def putTo (s f : Nat → Int) (v : Nat → Int) (k : Nat) : Nat → Int := fun j => if j < k ∧ s j ≠ 0 then v j else f j
theorem putTo_zero (s f v : Nat → Int) : putTo s f v 0 = f := by funext j; simp [putTo]
theorem putTo_at (s f v : Nat → Int) (k : Nat) : putTo s f v k k = f k := by simp [putTo]
theorem putTo_skip {s f v : Nat → Int} {k : Nat} (h : s k = 0) : putTo s f v (k + 1) = putTo s f v k := by
  funext j; unfold putTo
  by_cases e : j = k
  · subst e; simp [h]
  · simp only [show (j < k + 1) = (j < k) from propext ⟨by omega, by omega⟩]
theorem putTo_set {s f v : Nat → Int} {k : Nat} (h : s k ≠ 0) : putTo s f v (k + 1) = upd (putTo s f v k) k (v k) := by
  funext j; unfold upd putTo
  by_cases e : j = k
  · subst e; simp [h]
  · simp only [if_neg e, show (j < k + 1) = (j < k) from propext ⟨by omega, by omega⟩]
/-- a wall and an error -/
def WallPost (err : Int) (m : Nat) (K B : Nat → Int) (w : World) (e : Ending) (w' : World) : Prop :=
  ∃ a a' c c', e = .returned (.tuple #[.agg #[.slice a m c, .slice a' m c'], .int .i64 err]) ∧ Sl w' a m K ∧ Sl w' a' m B ∧ Below w.heap.size w w'
theorem wallPost_none {err : Int} {K B : Nat → Int} {w w' : World} (hb : Below w.heap.size w w') : WallPost err 0 K B w (.returned (.tuple #[.agg #[.slice none 0 0, .slice none 0 0], .int .i64 err])) w' :=
  ⟨none, none, 0, 0, rfl, fun k hk => by omega, fun k hk => by omega, hb⟩
def putErr (s B : Nat → Int) (body : Int) (n : Nat) : Int := if putBad s B body n then 11 else 0
def putLen (s B : Nat → Int) (body : Int) (n : Nat) : Nat := if putBad s B body n then 0 else n
end Go.Proofs.Ythlbmlfkmfheiaa
