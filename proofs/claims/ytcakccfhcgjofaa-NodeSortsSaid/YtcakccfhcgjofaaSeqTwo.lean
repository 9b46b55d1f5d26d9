/- A region that draws its order: two operations may come up. -/
import Derived.Test.YtcakccfhcgjofaaSeq
namespace Go.Proofs.Ytcakccfhcgjofaa
open Go Go.RowKit
set_option linter.unusedVariables false
section
variable {P : Program} {ops : Array Oper} {Q : Exit → Act → World → Prop} {md : Region.Mode} {S : World → Prop} {T : Nat}
theorem anyS_two {i j : Nat} {oi oj : Oper} {fuel : Nat} {listed : Array Bool} {a : Act} {w : World} (hr : Region.ready md ops listed = [i, j]) (hi : ops[i]? = some oi) (hj : ops[j]? = some oj)
    (hw : Region.wanted oi (yielded ops a.tmps) = true) (hw2 : Region.wanted oj (yielded ops a.tmps) = true)
    (h1 : ∀ K : Act → World → Prop, (∀ a' w', (i < T → S w → S w') → anyS P md ops Q S T fuel (listed.setIfInBounds i true) a' w' → K a' w') → Oper.wp P oi a w K Q)
    (h2 : ∀ K : Act → World → Prop, (∀ a' w', (j < T → S w → S w') → anyS P md ops Q S T fuel (listed.setIfInBounds j true) a' w' → K a' w') → Oper.wp P oj a w K Q) : anyS P md ops Q S T (fuel + 1) listed a w := by
  refine ⟨fun h0 => (by rw [h0] at hr; cases hr), fun k hk => ?_⟩
  rw [hr] at hk
  simp only [List.mem_cons, List.not_mem_nil, or_false] at hk
  rcases hk with rfl | rfl
  · unfold wpOp
    simp only [hi, hw, if_true]
    exact .inl (h1 _ (fun a' w' hs ha => ⟨hs, ha⟩))
  · unfold wpOp
    simp only [hj, hw2, if_true]
    exact .inl (h2 _ (fun a' w' hs ha => ⟨hs, ha⟩))
end
/-- two ways that come to one goal: it is shown once -/
theorem dup3 {X : Prop} {H G : World → Nat → Nat → Prop} (main : (∀ w5 bx bg, H w5 bx bg → G w5 bx bg) → X) (key : ∀ w5 bx bg, H w5 bx bg → G w5 bx bg) : X := main key
end Go.Proofs.Ytcakccfhcgjofaa
