/- Lifting: a state, with what else its post's slice tells. -/
import Derived.Test.YtcakccfhcgjofaaLiftState
namespace Go.Proofs.Ytcakccfhcgjofaa
open Go Go.RowKit Go.ChangeShapes Go.WideShapes Go.Deep
set_option linter.unusedVariables false
section
variable {H : Type} {enc : TypeId × Value → H} {w : World} {spare : Nat → Bool} {held : Bool} {fuel : Nat} {cs : List Value} {x : DataW H × List MemPlace}
theorem lift_state2 (h : DataW.trod enc Try.prog w 0 spare held fuel 45 cs = some x) :
    ∃ (al ap : Option Addr) (m q cl cp : Nat) (f : Nat → SiteR) (p : Nat → N6), cs = [.slice al m cl, .slice ap q cp] ∧ m ≤ maxLen ∧ q ≤ maxLen ∧ q ≤ cp ∧ (ap = none → cp = 0) ∧ (∀ k, k < m → (f k).ni ≤ maxLen ∧ (f k).nc ≤ maxLen) ∧ Ss w al m f ∧ Sn w ap q p ∧ ∀ k, k < q → wfN (p k) := by
  obtain ⟨y0, y1, m, hlen, h0, h1⟩ := trod_fields2 Try.underlying45 Try.cells45 Try.cells43 Try.cells35 h
  obtain ⟨v0, v1, rfl⟩ := list2 hlen
  obtain ⟨a, n, c, f, e0, b0, _, _, H0, H0'⟩ := lift_sites h0
  obtain ⟨a', n', c', p, e1, b1, b2, _, H1, H1'⟩ := lift_notes h1
  have hz : a' = none → c' = 0 := by
    rcases open_slice Try.underlying35 h1 with ⟨hcs, _⟩ | ⟨a2, len, cap, mm, nf, D, Pl, hcs, _⟩
    · rw [e1] at hcs
      simp at hcs
      exact fun _ => hcs.2.2
    · rw [e1] at hcs
      simp at hcs
      intro h
      rw [h] at hcs
      cases hcs.1
  simp at e0 e1
  subst e0 e1
  exact ⟨a, a', n, n', c, c', f, p, rfl, b0, b1, b2, hz, H0', H0, H1, H1'⟩
end
end Go.Proofs.Ytcakccfhcgjofaa
