/- Plain law: the numbers of the notes that are due. Walks: Neighbours, of the program and of the reference. Walk: Neighbours of the reference. -/
import Derived.Test.YtmmjaobpoiofdaaGreatNSite
import Derived.Test.YtmmjaobpoiofdaaGreatNDueF
import Derived.Test.YtmmjaobpoiofdaaGreatNPost
namespace Go.Proofs.YtmmjaobpoiofdaaGreat
open Go Go.RowKit
set_option linter.unusedVariables false
theorem dueC_fro {W H : Nat} {o : Nat → Int} {nd st : Int} {i : Nat} {P : Int → Prop} : ∀ {d}, (∀ e, e < d → P (o (nbT W H i e))) → ∀ x ∈ dueC W H o nd st i d, P x.fr
  | 0, _, x, h => by simp [dueC] at h
  | d + 1, hp, x, h => by
    simp only [dueC] at h
    split at h
    · exact dueC_fro (fun e he => hp e (by omega)) x h
    · rcases List.mem_append.1 h with h | h
      · exact dueC_fro (fun e he => hp e (by omega)) x h
      · rw [List.mem_singleton] at h; subst h; exact hp d (by omega)
theorem dueL_fro {W H : Nat} {o : Nat → Int} {nd st : Int} {P : Int → Prop} (hp : ∀ k, k < W * H → P (o k)) : ∀ {n}, n ≤ W * H → ∀ x ∈ dueL W H o nd st n, P x.fr
  | 0, _, x, h => by simp [dueL] at h
  | n + 1, hn, x, h => by
    simp only [dueL] at h
    split at h
    · rcases List.mem_append.1 h with h | h
      · exact dueL_fro hp (by omega) x h
      · exact dueC_fro (fun e he => hp _ (nbT_lt (by omega) he)) x h
    · exact dueL_fro hp (by omega) x h
theorem dueC_num {W H : Nat} {o : Nat → Int} {nd st : Int} {i : Nat} : ∀ {d}, ∀ x ∈ dueC W H o nd st i d, x.st = st ∧ x.to = nd ∧ x.ce = i ∧ 0 ≤ x.di ∧ x.di < d ∧ x.co = 0
  | 0, x, h => by simp [dueC] at h
  | d + 1, x, h => by
    have up : ∀ x ∈ dueC W H o nd st i d, x.st = st ∧ x.to = nd ∧ x.ce = i ∧ 0 ≤ x.di ∧ x.di < (d + 1 : Nat) ∧ x.co = 0 := fun x h => by
      obtain ⟨a1, a2, a3, a4, a5, a6⟩ := dueC_num x h
      exact ⟨a1, a2, a3, a4, by omega, a6⟩
    simp only [dueC] at h
    split at h
    · exact up x h
    · rcases List.mem_append.1 h with h | h
      · exact up x h
      · rw [List.mem_singleton] at h; subst h; exact ⟨rfl, rfl, rfl, by simp, (by show (d : Int) < ((d + 1 : Nat) : Int); omega), rfl⟩
theorem dueL_num {W H : Nat} {o : Nat → Int} {nd st : Int} : ∀ {n}, ∀ x ∈ dueL W H o nd st n, x.st = st ∧ x.to = nd ∧ 0 ≤ x.ce ∧ x.ce < n ∧ 0 ≤ x.di ∧ x.di < 4 ∧ x.co = 0
  | 0, x, h => by simp [dueL] at h
  | n + 1, x, h => by
    have up : ∀ x ∈ dueL W H o nd st n, x.st = st ∧ x.to = nd ∧ 0 ≤ x.ce ∧ x.ce < (n + 1 : Nat) ∧ 0 ≤ x.di ∧ x.di < 4 ∧ x.co = 0 := fun x h => by
      obtain ⟨a1, a2, a3, a4, a5⟩ := dueL_num x h
      exact ⟨a1, a2, a3, by omega, a5⟩
    simp only [dueL] at h
    split at h
    · rcases List.mem_append.1 h with h | h
      · exact up x h
      · obtain ⟨a1, a2, a3, a4, a5, a6⟩ := dueC_num x h
        exact ⟨a1, a2, by omega, by omega, a4, by omega, a6⟩
    · exact up x h
/-- every note due to a site that is right has numbers of 64 bits -/
theorem due_wf {wide high : Int} {n no : Nat} {g : Nat → C4} {o : Nat → Int} {s : SiteR} (hv : validM wide high n g no o = true) (hh : hasB o no s.nd = true) (hb : siteB o no s = true) :
    ∀ x, x ∈ dueL wide.toNat high.toNat o s.nd s.st no → wfN x := by
  intro x hx
  obtain ⟨Wd, Hd, rfl, rfl, p1, p2, u1, u2, hnn, hn4, hoo, hob, _, _⟩ := validM_sides hv
  simp only [Int.toNat_natCast] at hx
  obtain ⟨a1, a2, a3, a4, a5, a6, a7⟩ := dueL_num x hx
  have hf := dueL_fro (P := fun x => 0 ≤ x ∧ x ≤ 7) (fun k hk => hob k (by omega)) (show no ≤ Wd * Hd by omega) x hx
  obtain ⟨k, hk, e⟩ := hasB_iff.1 hh
  have hn7 := hob k (by omega)
  rw [e] at hn7
  obtain ⟨hw, _⟩ := siteB_iff.1 hb
  have hw' : 0 ≤ s.st ∧ s.st ≤ 1000000 := by simpa [within] using hw
  intro j hj
  apply WalkArith.wf_i64
  rcases (by omega : j = 0 ∨ j = 1 ∨ j = 2 ∨ j = 3 ∨ j = 4 ∨ j = 5) with rfl | rfl | rfl | rfl | rfl | rfl <;> simp only [N6.get] <;> omega
end Go.Proofs.YtmmjaobpoiofdaaGreat
