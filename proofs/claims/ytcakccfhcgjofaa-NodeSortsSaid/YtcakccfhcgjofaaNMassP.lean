/- Plain words and laws: the mass of sites and notes, as a list of numbers. No program in sight. -/
import Derived.Test.YtcakccfhcgjofaaNSites
namespace Go.Proofs.Ytcakccfhcgjofaa
open Go Go.RowKit
set_option linter.unusedVariables false
def sumL : List Int → Int | [] => 0 | x :: l => x + sumL l
theorem sumL_app : ∀ l m : List Int, sumL (l ++ m) = sumL l + sumL m
  | [], m => by simp [sumL]
  | x :: l, m => by simp only [List.cons_append, sumL, sumL_app l m]; omega
theorem sumL_snoc (l : List Int) (x : Int) : sumL (l ++ [x]) = sumL l + x := by rw [sumL_app]; simp [sumL]
theorem sumL_nonneg : ∀ {l : List Int}, (∀ x ∈ l, 0 ≤ x) → 0 ≤ sumL l
  | [], _ => by simp [sumL]
  | x :: l, h => by
    have h1 := h x (List.mem_cons_self ..)
    have h2 := sumL_nonneg (l := l) fun y hy => h y (List.mem_cons_of_mem _ hy)
    simp only [sumL]; omega
theorem sumL_ge : ∀ {l : List Int} {x : Int}, (∀ x ∈ l, 0 ≤ x) → x ∈ l → x ≤ sumL l
  | [], _, _, h => by cases h
  | y :: l, x, h, hx => by
    have h1 := h y (List.mem_cons_self ..)
    have h2 := sumL_nonneg (l := l) fun y hy => h y (List.mem_cons_of_mem _ hy)
    simp only [sumL]
    rcases List.mem_cons.1 hx with rfl | hx
    · omega
    · have := sumL_ge (l := l) (fun y hy => h y (List.mem_cons_of_mem _ hy)) hx; omega
theorem sumL_le : ∀ {l : List Int}, (∀ x ∈ l, x ≤ 1000000000) → sumL l ≤ l.length * 1000000000
  | [], _ => by simp [sumL]
  | x :: l, h => by
    have h1 := h x (List.mem_cons_self ..)
    have h2 := sumL_le (l := l) fun y hy => h y (List.mem_cons_of_mem _ hy)
    simp only [sumL, List.length_cons]; omega
/-- the mass of numbers: their sum, 0 where one is below 0 or the sum is too great -/
def mssL (l : List Int) : Int := if (∀ x ∈ l, 0 ≤ x) ∧ sumL l ≤ 1000000000 then sumL l else 0
theorem mssL_bad {l P : List Int} {x : Int} (h : P ++ [x] <+: l) (hx : ¬ (0 ≤ x ∧ x ≤ 1000000000)) : mssL l = 0 := by
  have hm : x ∈ l := h.subset (by simp)
  unfold mssL
  rw [if_neg]
  rintro ⟨h1, h2⟩
  have := h1 x hm
  have := sumL_ge h1 hm
  omega
theorem mssL_over {l P : List Int} {x : Int} (h : P ++ [x] <+: l) (h0 : ∀ y ∈ l, 0 ≤ y) (hx : 1000000000 < sumL P + x) : mssL l = 0 := by
  obtain ⟨t, rfl⟩ := h
  unfold mssL
  rw [if_neg]
  rintro ⟨h1, h2⟩
  rw [sumL_app, sumL_snoc] at h2
  have := sumL_nonneg (l := t) fun y hy => h1 y (List.mem_append.2 (.inr hy))
  omega
/-- a part of the numbers from the first on, each in bounds -/
def PreM (l P : List Int) : Prop := P <+: l ∧ ∀ x ∈ P, 0 ≤ x ∧ x ≤ 1000000000
theorem PreM.nil (l : List Int) : PreM l [] := ⟨List.nil_prefix, fun x hx => by cases hx⟩
theorem PreM.bnd {l P : List Int} (h : PreM l P) (hl : l.length ≤ 100000000) : 0 ≤ sumL P ∧ sumL P ≤ 100000000000000000 := by
  have h1 := sumL_nonneg fun x hx => (h.2 x hx).1
  have h2 := sumL_le fun x hx => (h.2 x hx).2
  have h3 := h.1.length_le
  omega
theorem PreM.snoc {l P : List Int} {x : Int} (h : PreM l P) (h2 : P ++ [x] <+: l) (hx : 0 ≤ x ∧ x ≤ 1000000000) : PreM l (P ++ [x]) :=
  ⟨h2, fun y hy => by
    rcases List.mem_append.1 hy with h' | h'
    · exact h.2 y h'
    · rw [List.mem_singleton.1 h']; exact hx⟩
theorem PreM.all {l : List Int} (h : PreM l l) : mssL l = if 1000000000 < sumL l then 0 else sumL l := by
  unfold mssL
  by_cases h1 : 1000000000 < sumL l
  · rw [if_pos h1, if_neg (by omega)]
  · rw [if_neg h1, if_pos ⟨fun x hx => (h.2 x hx).1, by omega⟩]
def cL (c : C4) : List Int := [c.e, c.n, c.w, c.s]
def cellsI (C : Nat → C4) : Nat → List Int | 0 => [] | n + 1 => cellsI C n ++ cL (C n)
def siteI (F : Nat → SiteR) : Nat → List Int | 0 => [] | m + 1 => siteI F m ++ cellsI (F m).C (F m).nc
def postI (p : Nat → N6) : Nat → List Int | 0 => [] | q + 1 => postI p q ++ [(p q).co]
def allI (F : Nat → SiteR) (m : Nat) (p : Nat → N6) (q : Nat) : List Int := siteI F m ++ postI p q
theorem cellsI_pre (C : Nat → C4) {i n : Nat} (h : i ≤ n) : cellsI C i <+: cellsI C n := by
  induction n with
  | zero => rw [show i = 0 by omega]; exact List.prefix_refl _
  | succ n ih =>
    rcases Nat.lt_or_ge i (n + 1) with h' | h'
    · exact (ih (by omega)).trans (List.prefix_append _ _)
    · rw [show i = n + 1 by omega]; exact List.prefix_refl _
theorem siteI_pre (F : Nat → SiteR) {i n : Nat} (h : i ≤ n) : siteI F i <+: siteI F n := by
  induction n with
  | zero => rw [show i = 0 by omega]; exact List.prefix_refl _
  | succ n ih =>
    rcases Nat.lt_or_ge i (n + 1) with h' | h'
    · exact (ih (by omega)).trans (List.prefix_append _ _)
    · rw [show i = n + 1 by omega]; exact List.prefix_refl _
theorem postI_pre (p : Nat → N6) {i n : Nat} (h : i ≤ n) : postI p i <+: postI p n := by
  induction n with
  | zero => rw [show i = 0 by omega]; exact List.prefix_refl _
  | succ n ih =>
    rcases Nat.lt_or_ge i (n + 1) with h' | h'
    · exact (ih (by omega)).trans (List.prefix_append _ _)
    · rw [show i = n + 1 by omega]; exact List.prefix_refl _
theorem cL_take (c : C4) {d : Nat} (hd : d < 4) : (cL c).take (d + 1) = (cL c).take d ++ [c.get d] := by
  rcases (by omega : d = 0 ∨ d = 1 ∨ d = 2 ∨ d = 3) with rfl | rfl | rfl | rfl <;> rfl
theorem allI_cell (F : Nat → SiteR) {m : Nat} (p : Nat → N6) (q : Nat) {k i : Nat} (hk : k < m) (hi : i < (F k).nc) : siteI F k ++ cellsI (F k).C (i + 1) <+: allI F m p q := by
  refine List.IsPrefix.trans ?_ ((siteI_pre F (show k + 1 ≤ m by omega)).trans (List.prefix_append _ _))
  simp only [siteI]
  exact (List.prefix_append_right_inj _).2 (cellsI_pre _ (by omega))
theorem allI_dir (F : Nat → SiteR) {m : Nat} (p : Nat → N6) (q : Nat) {k i d : Nat} (hk : k < m) (hi : i < (F k).nc) (hd : d < 4) :
    (siteI F k ++ cellsI (F k).C i ++ (cL ((F k).C i)).take d) ++ [((F k).C i).get d] <+: allI F m p q := by
  refine List.IsPrefix.trans ?_ (allI_cell F p q hk hi)
  rw [List.append_assoc, ← cL_take _ hd]
  simp only [cellsI, List.append_assoc]
  exact (List.prefix_append_right_inj _).2 ((List.prefix_append_right_inj _).2 (List.take_prefix _ _))
theorem allI_post (F : Nat → SiteR) (m : Nat) (p : Nat → N6) {q j : Nat} (hj : j < q) : (siteI F m ++ postI p j) ++ [(p j).co] <+: allI F m p q := by
  rw [List.append_assoc]
  exact (List.prefix_append_right_inj _).2 (postI_pre p (show j + 1 ≤ q by omega))
end Go.Proofs.Ytcakccfhcgjofaa
