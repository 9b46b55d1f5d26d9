/- Walks: collisions of one cell, of the reference. -/
import Derived.Test.YthlbmlfkmfheiaaCellStep2
import Derived.Test.YthlbmlfkmfheiaaIter
namespace Go.Proofs.Ythlbmlfkmfheiaa
open Go Go.RowKit
set_option linter.unusedVariables false
/-- a number without its sign -/
def sz (n : Int) : Int := if n < 0 then -n else n
theorem mn_comm (a b : Int) : mn a b = mn b a := by unfold mn; split <;> split <;> omega
/-- how many pairs -/
def prs (c : C4) : Int := mn c.e c.w + mn c.n c.s
theorem prs_of {c : C4} (hv : validC c = true) : c.e + c.n + c.w + c.s - sz (c.e - c.w) - sz (c.n - c.s) = 2 * prs c ∧ 0 ≤ prs c ∧ prs c ≤ 1000000000 := by
  obtain ⟨a1, a2, a3, a4, a5, a6, a7, a8, a9, a10, a11⟩ := pairs_bd hv
  simp only [prs, sz, mn] at *
  split <;> split <;> split <;> split <;> simp_all <;> omega
end Go.Proofs.Ythlbmlfkmfheiaa
