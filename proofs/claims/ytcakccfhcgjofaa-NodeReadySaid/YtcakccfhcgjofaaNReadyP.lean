/- Plain law: a due note's place is in a valid post just if the post has the note but for its count. -/
import Derived.Test.YtcakccfhcgjofaaNReadyF
import Derived.Test.YtcakccfhcgjofaaNSame
namespace Go.Proofs.Ytcakccfhcgjofaa
open Go Go.RowKit
set_option linter.unusedVariables false
set_option linter.unusedSimpArgs false
/-- the note without its count -/
def bare (x : N6) : N6 := { x with co := 0 }
/-- is x one of the first k notes, but for their counts? -/
def hasN (p : Nat → N6) (x : N6) : Nat → Bool | 0 => false | k + 1 => hasN p x k || eqN (bare (p k)) x
theorem hasN_iff {p : Nat → N6} {x : N6} : ∀ {k}, hasN p x k = true ↔ ∃ j, j < k ∧ bare (p j) = x
  | 0 => by simp [hasN]
  | k + 1 => by
    simp only [hasN, Bool.or_eq_true, hasN_iff, eqN_iff]
    constructor
    · rintro (⟨j, h1, h2⟩ | h)
      · exact ⟨j, by omega, h2⟩
      · exact ⟨k, by omega, h⟩
    · rintro ⟨j, h1, h2⟩
      by_cases e : j = k
      · subst e; exact .inr h2
      · exact .inl ⟨j, by omega, h2⟩
theorem dueC_fr {W H : Nat} {o : Nat → Int} {nd st : Int} {i : Nat} : ∀ {d}, ∀ x ∈ dueC W H o nd st i d, x.fr = o (nbT W H x.ce.toNat x.di.toNat)
  | 0, x, h => by simp [dueC] at h
  | d + 1, x, h => by
    simp only [dueC] at h
    split at h
    · exact dueC_fr x h
    · rcases List.mem_append.1 h with h | h
      · exact dueC_fr x h
      · rw [List.mem_singleton] at h; subst h; simp
theorem dueL_fr {W H : Nat} {o : Nat → Int} {nd st : Int} : ∀ {n}, ∀ x ∈ dueL W H o nd st n, x.fr = o (nbT W H x.ce.toNat x.di.toNat) ∧ o x.ce.toNat = nd
  | 0, x, h => by simp [dueL] at h
  | n + 1, x, h => by
    simp only [dueL] at h
    split at h
    · rename_i hn
      rcases List.mem_append.1 h with h | h
      · exact dueL_fr x h
      · have h2 := (dueC_num x h).2.2.1
        exact ⟨dueC_fr x h, by rw [h2]; simpa using hn⟩
    · exact dueL_fr x h
theorem met_has {W H : Nat} {o : Nat → Int} {no q n : Nat} {p : Nat → N6} {nd st : Int} (hp : postB W H o no q p = true) {x : N6} (hx : x ∈ dueL W H o nd st n) : metB p x q = hasN p x q := by
  obtain ⟨a1, a2, a3, a4, a5, a6, a7⟩ := dueL_num x hx
  obtain ⟨b1, b2⟩ := dueL_fr x hx
  rw [Bool.eq_iff_iff, metB_iff, hasN_iff]
  constructor
  · rintro ⟨j, hj, h⟩
    refine ⟨j, hj, ?_⟩
    obtain ⟨c1, c2, c3⟩ := plcB_iff.1 h
    have hn := (postB_iff.1 hp).2.1 j hj
    simp only [noteB, Bool.and_eq_true] at hn
    have ho := hn.2
    simp only [noteO, Bool.and_eq_true, beq_iff_eq] at ho
    obtain ⟨⟨o1, o2⟩, _⟩ := ho
    rw [c2] at o1 o2
    rw [c3] at o2
    cases x
    simp only [bare] at *
    simp_all
  · rintro ⟨j, hj, h⟩
    exact ⟨j, hj, plcB_iff.2 (by rw [← h]; exact ⟨rfl, rfl, rfl⟩)⟩
end Go.Proofs.Ytcakccfhcgjofaa
