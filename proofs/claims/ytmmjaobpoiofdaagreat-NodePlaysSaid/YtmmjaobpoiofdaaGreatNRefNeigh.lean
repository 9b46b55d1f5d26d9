/- Plain law: the numbers of the notes that are due. Walks: Neighbours, of the program and of the reference. Walk: Neighbours of the reference. -/
import Derived.Test.YtmmjaobpoiofdaaGreatNSite
import Derived.Test.YtmmjaobpoiofdaaGreatNDueF
import Derived.Test.YtmmjaobpoiofdaaGreatNPost
namespace Go.Proofs.YtmmjaobpoiofdaaGreat
open Go Go.RowKit
set_option linter.unusedVariables false
theorem dueC_fro {W H : Nat} {o : Nat → Int} {nd st : Int} {i : Nat} {P : Int → Prop} : ∀ {d}, (∀ e, e < d → P (o (nbT W H i e))) → ∀ x ∈ dueC W H o nd st i d, P x.fr
  | 0, _, x, h => by simp [dueC] at h
  | d + 1, hp, x, h => by
    simp only [dueC] at h
    split at h
    · exact dueC_fro (fun e he => hp e (by omega)) x h
    · rcases List.mem_append.1 h with h | h
      · exact dueC_fro (fun e he => hp e (by omega)) x h
      · rw [List.mem_singleton] at h; subst h; exact hp d (by omega)
theorem dueL_fro {W H : Nat} {o : Nat → Int} {nd st : Int} {P : Int → Prop} (hp : ∀ k, k < W * H → P (o k)) : ∀ {n}, n ≤ W * H → ∀ x ∈ dueL W H o nd st n, P x.fr
  | 0, _, x, h => by simp [dueL] at h
  | n + 1, hn, x, h => by
    simp only [dueL] at h
    split at h
    · rcases List.mem_append.1 h with h | h
      · exact dueL_fro hp (by omega) x h
      · exact dueC_fro (fun e he => hp _ (nbT_lt (by omega) he)) x h
    · exact dueL_fro hp (by omega) x h
theorem dueC_num {W H : Nat} {o : Nat → Int} {nd st : Int} {i : Nat} : ∀ {d}, ∀ x ∈ dueC W H o nd st i d, x.st = st ∧ x.to = nd ∧ x.ce = i ∧ 0 ≤ x.di ∧ x.di < d ∧ x.co = 0
  | 0, x, h => by simp [dueC] at h
  | d + 1, x, h => by
    have up : ∀ x ∈ dueC W H o nd st i d, x.st = st ∧ x.to = nd ∧ x.ce = i ∧ 0 ≤ x.di ∧ x.di < (d + 1 : Nat) ∧ x.co = 0 := fun x h => by
      obtain ⟨a1, a2, a3, a4, a5, a6⟩ := dueC_num x h
      exact ⟨a1, a2, a3, a4, by omega, a6⟩
    simp only [dueC] at h
    split at h
    · exact up x h
    · rcases List.mem_append.1 h with h | h
      · exact up x h
      · rw [List.mem_singleton] at h; subst h; exact ⟨rfl, rfl, rfl, by simp, (by show (d : Int) < ((d + 1 : Nat) : Int); omega), rfl⟩
theorem dueL_num {W H : Nat} {o : Nat → Int} {nd st : Int} : ∀ {n}, ∀ x ∈ dueL W H o nd st n, x.st = st ∧ x.to = nd ∧ 0 ≤ x.ce ∧ x.ce < n ∧ 0 ≤ x.di ∧ x.di < 4 ∧ x.co = 0
  | 0, x, h => by simp [dueL] at h
  | n + 1, x, h => by
    have up : ∀ x ∈ dueL W H o nd st n, x.st = st ∧ x.to = nd ∧ 0 ≤ x.ce ∧ x.ce < (n + 1 : Nat) ∧ 0 ≤ x.di ∧ x.di < 4 ∧ x.co = 0 := fun x h => by
      obtain ⟨a1, a2, a3, a4, a5⟩ := dueL_num x h
      exact ⟨a1, a2, a3, by omega, a5⟩
    simp only [dueL] at h
    split at h
    · rcases List.mem_append.1 h with h | h
      · exact up x h
      · obtain ⟨a1, a2, a3, a4, a5, a6⟩ := dueC_num x h
        exact ⟨a1, a2, by omega, by omega, a4, by omega, a6⟩
    · exact up x h
end Go.Proofs.YtmmjaobpoiofdaaGreat
