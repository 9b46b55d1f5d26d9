/- Plain laws of shares: cuts and weights, peaks, the first best share. No program in sight. -/
import Derived.Test.YtgpcmkoimgnlbaaSharePlain
namespace Go.Proofs.Ytgpcmkoimgnlbaa
set_option linter.unusedVariables false
/-! ### cuts and weights -/
def validK (n m : Nat) (c : Nat → Int) : Prop := m < 16 ∧ ∀ i, i < m → 0 ≤ c i ∧ c i ≤ n ∧ (0 < i → c (i - 1) ≤ c i)
/-- where the nodes begin: node j has the columns from bd j to bd (j + 1) - 1 -/
def bd (n m : Nat) (c : Nat → Int) : Nat → Nat
  | 0 => 0
  | j + 1 => if j < m then (c j).toNat else n
theorem bd_le {n m : Nat} {c : Nat → Int} (h : validK n m c) : ∀ j, bd n m c j ≤ n
  | 0 => Nat.zero_le _
  | j + 1 => by
    simp only [bd]
    split
    · rename_i hj; have := h.2 j hj; omega
    · exact Nat.le_refl _
theorem bd_step {n m : Nat} {c : Nat → Int} (h : validK n m c) (j : Nat) : bd n m c j ≤ bd n m c (j + 1) := by
  cases j with
  | zero => exact Nat.zero_le _
  | succ j =>
    simp only [bd]
    split
    · rename_i hj
      split
      · rename_i hj2
        have h1 := h.2 (j + 1) hj2
        have h2 := h1.2.2 (by omega)
        rw [Nat.add_sub_cancel] at h2
        omega
      · have := h.2 j hj; omega
    · split
      · omega
      · exact Nat.le_refl _
theorem bd_mono {n m : Nat} {c : Nat → Int} (h : validK n m c) {i : Nat} : ∀ j, i ≤ j → bd n m c i ≤ bd n m c j
  | 0, hij => by obtain rfl : i = 0 := (by omega); exact Nat.le_refl _
  | j + 1, hij => by
    rcases Nat.lt_or_ge j i with h' | h'
    · obtain rfl : i = j + 1 := (by omega); exact Nat.le_refl _
    · exact Nat.le_trans (bd_mono h j h') (bd_step h j)
theorem bd_last (n m : Nat) (c : Nat → Int) : bd n m c (m + 1) = n := by simp [bd]
/-- the weight of node j -/
def wt (f : Nat → Int) (n m : Nat) (c : Nat → Int) (j : Nat) : Int := sg f (bd n m c j) (bd n m c (j + 1))
theorem wt_nonneg {f : Nat → Int} {n m : Nat} {c : Nat → Int} (h : ∀ k, k < n → 0 ≤ f k) (hc : validK n m c) (j : Nat) : 0 ≤ wt f n m c j := sg_nonneg h (bd_step hc j) (bd_le hc _)
theorem wt_sum (f : Nat → Int) (n m : Nat) (c : Nat → Int) : ∀ j, sumTo (wt f n m c) j = sg f 0 (bd n m c j)
  | 0 => by simp [sumTo, bd, sg_self]
  | j + 1 => by
    simp only [sumTo, wt_sum f n m c j, wt]
    rw [sg_cat f 0 (bd n m c j) (bd n m c (j + 1))]
theorem wt_all (f : Nat → Int) (n m : Nat) (c : Nat → Int) : sumTo (wt f n m c) (m + 1) = sumTo f n := by
  rw [wt_sum, bd_last]; simp [sg, sumTo]
theorem wt_le {f : Nat → Int} {n m : Nat} {c : Nat → Int} (h : ∀ k, k < n → 0 ≤ f k) (hc : validK n m c) (j : Nat) : wt f n m c j ≤ sumTo f n := by
  have h1 := sg_left h (Nat.zero_le _) (bd_step hc j) (bd_le hc _)
  have h2 := sg_right h (a := 0) (bd_le hc (j + 1)) (Nat.le_refl n)
  have h3 : sg f 0 n = sumTo f n := by simp [sg, sumTo]
  unfold wt; omega
/-- the node of a column: how many of the first cuts are not beyond it -/
def nodeTo (c : Nat → Int) (x : Nat) (m : Nat) : Nat → Nat
  | 0 => 0
  | fuel + 1 => let j := nodeTo c x m fuel; if j < m ∧ c j ≤ x then j + 1 else j
/-- the part of node j among the first x columns -/
def wtTo (f : Nat → Int) (n m : Nat) (c : Nat → Int) (x j : Nat) : Int := sg f (min (bd n m c j) x) (min (bd n m c (j + 1)) x)
theorem wtTo_zero (f : Nat → Int) (n m : Nat) (c : Nat → Int) (j : Nat) : wtTo f n m c 0 j = 0 := by simp [wtTo, sg_self]
theorem wtTo_end {f : Nat → Int} {n m : Nat} {c : Nat → Int} (hc : validK n m c) (j : Nat) : wtTo f n m c n j = wt f n m c j := by
  unfold wtTo wt; rw [Nat.min_eq_left (bd_le hc _), Nat.min_eq_left (bd_le hc _)]
theorem wtTo_in {f : Nat → Int} {n m : Nat} {c : Nat → Int} {x j : Nat} (h1 : bd n m c j ≤ x) (h2 : x < bd n m c (j + 1)) : wtTo f n m c (x + 1) j = wtTo f n m c x j + f x := by
  unfold wtTo
  rw [Nat.min_eq_left (by omega), Nat.min_eq_right (by omega), Nat.min_eq_left h1, Nat.min_eq_right (by omega), sg_succ]
theorem wtTo_out {f : Nat → Int} {n m : Nat} {c : Nat → Int} {x j : Nat} (hs : bd n m c j ≤ bd n m c (j + 1)) (h : x < bd n m c j ∨ bd n m c (j + 1) ≤ x) : wtTo f n m c (x + 1) j = wtTo f n m c x j := by
  unfold wtTo
  rcases h with h | h
  · rw [Nat.min_eq_right (by omega), Nat.min_eq_right (by omega), Nat.min_eq_right (by omega), Nat.min_eq_right (by omega), sg_self, sg_self]
  · rw [Nat.min_eq_left (by omega), Nat.min_eq_left (by omega), Nat.min_eq_left (by omega), Nat.min_eq_left (by omega)]
/-- the node j of a column x: all cuts below j are not beyond x, the next one is -/
def IsNode (m : Nat) (c : Nat → Int) (x j : Nat) : Prop := j ≤ m ∧ (∀ i, i < j → c i ≤ x) ∧ (j < m → (x : Int) < c j)
theorem isNode_bd {n m : Nat} {c : Nat → Int} {x j : Nat} (hc : validK n m c) (hx : x < n) (h : IsNode m c x j) : bd n m c j ≤ x ∧ x < bd n m c (j + 1) := by
  obtain ⟨h1, h2, h3⟩ := h
  refine ⟨?_, ?_⟩
  · cases j with
    | zero => exact Nat.zero_le _
    | succ j =>
      have := h2 j (by omega); have := hc.2 j (by omega)
      simp only [bd, if_pos (show j < m by omega)]; omega
  · simp only [bd]
    split
    · rename_i hj; have := h3 hj; omega
    · exact hx
theorem wtTo_node {f : Nat → Int} {n m : Nat} {c : Nat → Int} {x j : Nat} (hc : validK n m c) (hx : x < n) (h : IsNode m c x j) (i : Nat) : wtTo f n m c (x + 1) i = if i = j then wtTo f n m c x j + f x else wtTo f n m c x i := by
  obtain ⟨h1, h2⟩ := isNode_bd hc hx h
  split
  · rename_i e; subst e; exact wtTo_in h1 h2
  · rename_i e
    refine wtTo_out (bd_step hc i) ?_
    rcases Nat.lt_or_ge i j with h' | h'
    · right; exact Nat.le_trans (bd_mono hc j (by omega)) h1
    · left; exact Nat.lt_of_lt_of_le h2 (bd_mono hc i (by omega))
/-! ### peaks -/
def mxTo (w : Nat → Int) : Nat → Int
  | 0 => 0
  | j + 1 => if mxTo w j < w j then w j else mxTo w j
theorem mxTo_le {w : Nat → Int} {M : Int} (hM : 0 ≤ M) : ∀ j, mxTo w j ≤ M ↔ ∀ i, i < j → w i ≤ M
  | 0 => by simp [mxTo, hM]
  | j + 1 => by
    have ih := mxTo_le (w := w) hM j
    simp only [mxTo]
    constructor
    · intro h i hi
      rcases Nat.lt_succ_iff_lt_or_eq.1 hi with h' | rfl
      · exact ih.1 (by split at h <;> omega) i h'
      · split at h <;> omega
    · intro h
      have h1 := h j (by omega)
      have h2 := ih.2 (fun i hi => h i (by omega))
      split <;> omega
theorem mxTo_nonneg (w : Nat → Int) : ∀ j, 0 ≤ mxTo w j
  | 0 => by simp [mxTo]
  | j + 1 => by have := mxTo_nonneg w j; simp only [mxTo]; split <;> omega
theorem mxTo_congr {w v : Nat → Int} : ∀ j, (∀ i, i < j → w i = v i) → mxTo w j = mxTo v j
  | 0, _ => rfl
  | j + 1, h => by simp only [mxTo, mxTo_congr j (fun i hi => h i (by omega)), h j (by omega)]
theorem rk_of_bd {f : Nat → Int} {n m : Nat} {c : Nat → Int} {M : Int} (hc : validK n m c) (h : ∀ i, i < m + 1 → wt f n m c i ≤ M) : ∀ j, j ≤ m + 1 → Rk f M j 0 (bd n m c j)
  | 0, _ => rfl
  | j + 1, hj => Rk.back.2 ⟨_, rk_of_bd hc h j (by omega), bd_step hc j, h j (by omega)⟩
/-- the peak of a share -/
def peakL (f : Nat → Int) (n m : Nat) (c : Nat → Int) : Int := mxTo (wt f n m c) (m + 1)
theorem peakL_nonneg (f : Nat → Int) (n m : Nat) (c : Nat → Int) : 0 ≤ peakL f n m c := mxTo_nonneg _ _
theorem least_peak {f : Nat → Int} {n m : Nat} {c : Nat → Int} (h : ∀ k, k < n → 0 ≤ f k) (hc : validK n m c) : leastL f n (m + 1) ≤ peakL f n m c := by
  rw [leastL_iff h (by omega) (peakL_nonneg ..)]
  have := rk_of_bd hc ((mxTo_le (peakL_nonneg f n m c) (m + 1)).1 (Int.le_refl _)) (m + 1) (Nat.le_refl _)
  rwa [bd_last] at this
/-! ### the first best share -/
def firstN (P : Nat → Bool) : Nat → Nat → Nat
  | 0, x => x
  | fuel + 1, x => if P x then x else firstN P fuel (x + 1)
theorem firstN_spec {P : Nat → Bool} : ∀ fuel x, x ≤ firstN P fuel x ∧ firstN P fuel x ≤ x + fuel ∧ (∀ y, x ≤ y → y < firstN P fuel x → P y = false) ∧ (firstN P fuel x < x + fuel → P (firstN P fuel x) = true)
  | 0, x => ⟨Nat.le_refl _, Nat.le_refl _, fun y h1 h2 => by simp only [firstN] at h2; omega, fun h => by simp only [firstN] at h; omega⟩
  | fuel + 1, x => by
    simp only [firstN]
    by_cases hp : P x = true
    · rw [if_pos hp]
      exact ⟨Nat.le_refl _, by omega, fun y h1 h2 => by omega, fun _ => hp⟩
    · rw [if_neg hp]
      obtain ⟨h1, h2, h3, h4⟩ := firstN_spec (P := P) fuel (x + 1)
      refine ⟨by omega, by omega, fun y hy1 hy2 => ?_, fun h => h4 (by omega)⟩
      rcases Nat.eq_or_lt_of_le hy1 with rfl | h'
      · simpa using hp
      · exact h3 y h' hy2
theorem firstN_unique {P : Nat → Bool} {n x z : Nat} (hx : x ≤ n) (h1 : x ≤ z) (h2 : z ≤ n) (h3 : ∀ y, x ≤ y → y < z → P y = false) (h4 : z < n → P z = true) : firstN P (n - x) x = z := by
  obtain ⟨a1, a2, a3, a4⟩ := firstN_spec (P := P) (n - x) x
  rcases Nat.lt_trichotomy (firstN P (n - x) x) z with h | h | h
  · have := a4 (by omega)
    rw [h3 _ a1 h] at this
    cases this
  · exact h
  · have := a3 z h1 h
    rw [h4 (by omega)] at this
    cases this
/-- can the columns from x on go to so many nodes? -/
def goB (f : Nat → Int) (n : Nat) (M : Int) (left x : Nat) : Bool := decide (x = n) || fitsB (fun i => f (x + i)) (n - x) left M
theorem goB_iff {f : Nat → Int} {n : Nat} {M : Int} (h : ∀ k, k < n → 0 ≤ f k) (hM : 0 ≤ M) {left x : Nat} (hx : x ≤ n) : goB f n M left x = true ↔ Rk f M left x n := by
  unfold goB
  rw [Bool.or_eq_true, decide_eq_true_iff]
  rcases Nat.eq_or_lt_of_le hx with rfl | hlt
  · exact ⟨fun _ => rk_rest hM left, fun _ => .inl rfl⟩
  · rw [fits_rest h hlt hM]
    exact ⟨fun h' => h'.elim (fun e => by omega) id, .inr⟩
def cutN (f : Nat → Int) (n : Nat) (M : Int) (left x : Nat) : Nat := firstN (goB f n M left) (n - x) x
def bestL (f : Nat → Int) (n : Nat) (M : Int) : Nat → Nat → List Int
  | 0, _ => []
  | left + 1, x => (cutN f n M (left + 1) x : Int) :: bestL f n M left (cutN f n M (left + 1) x)
theorem bestL_length (f : Nat → Int) (n : Nat) (M : Int) : ∀ left x, (bestL f n M left x).length = left
  | 0, _ => rfl
  | left + 1, x => by simp [bestL, bestL_length f n M left]
/-- the cut: the rest can go on, and what lies before is not too much -/
theorem cutN_spec {f : Nat → Int} {n : Nat} {M : Int} (h : ∀ k, k < n → 0 ≤ f k) (hM : 0 ≤ M) {left x : Nat} (hx : x ≤ n) (hr : Rk f M (left + 1) x n) :
    x ≤ cutN f n M left x ∧ cutN f n M left x ≤ n ∧ sg f x (cutN f n M left x) ≤ M ∧ Rk f M left (cutN f n M left x) n ∧ ∀ y, x ≤ y → y < cutN f n M left x → ¬ Rk f M left y n := by
  obtain ⟨a1, a2, a3, a4⟩ := firstN_spec (P := goB f n M left) (n - x) x
  have hc : firstN (goB f n M left) (n - x) x = cutN f n M left x := rfl
  rw [hc] at a1 a2 a3 a4
  obtain ⟨z, z1, z2, z3⟩ := hr
  have hzn := z3.le
  have hle : cutN f n M left x ≤ z := by
    rcases Nat.lt_or_ge z (cutN f n M left x) with h' | h'
    · have := a3 z z1 h'
      rw [(goB_iff h hM hzn).2 z3] at this
      cases this
    · exact h'
  refine ⟨a1, by omega, Int.le_trans (sg_right h hle hzn) z2, ?_, fun y hy1 hy2 hy3 => ?_⟩
  · rcases Nat.eq_or_lt_of_le (show cutN f n M left x ≤ n by omega) with e | h'
    · rw [e]; exact rk_rest hM left
    · exact (goB_iff h hM (by omega)).1 (a4 (by omega))
  · have := a3 y hy1 hy2
    rw [(goB_iff h hM (by omega)).2 hy3] at this
    cases this
/-- the same for the table -/
theorem cutN_tbl {f : Nat → Int} {n : Nat} {M : Int} (h : ∀ k, k < n → 0 ≤ f k) (hM : 0 ≤ M) {left x : Nat} (hl : 0 < left) (hx : x ≤ n) (hr : Rk f M (left + 1) x n) :
    tbl f n left (cutN f n M left x) ≤ M ∧ ∀ y, x ≤ y → y < cutN f n M left x → M < tbl f n left y := by
  obtain ⟨a1, a2, a3, a4, a5⟩ := cutN_spec h hM hx hr
  refine ⟨((tbl_iff hM left _ a2).2 a4).2, fun y h1 h2 => ?_⟩
  have h3 := a5 y h1 h2
  rw [← tbl_iff hM left y (by omega)] at h3
  have := tbl_nonneg h hl (show y ≤ n by omega)
  omega
/-- what a list of cuts from x on must be: going up, and each part not too heavy -/
def Cuts (f : Nat → Int) (n : Nat) (M : Int) : List Int → Nat → Prop
  | [], x => x ≤ n ∧ sg f x n ≤ M
  | c :: cs, x => ∃ z : Nat, c = (z : Int) ∧ x ≤ z ∧ z ≤ n ∧ sg f x z ≤ M ∧ Cuts f n M cs z
theorem bestL_cuts {f : Nat → Int} {n : Nat} {M : Int} (h : ∀ k, k < n → 0 ≤ f k) (hM : 0 ≤ M) : ∀ left x, x ≤ n → Rk f M (left + 1) x n → Cuts f n M (bestL f n M left x) x
  | 0, x, hx, hr => by
    obtain ⟨z, z1, z2, z3⟩ := hr
    cases z3
    exact ⟨z1, z2⟩
  | left + 1, x, hx, hr => by
    obtain ⟨a1, a2, a3, a4, a5⟩ := cutN_spec h hM hx hr
    exact ⟨_, rfl, a1, a2, a3, bestL_cuts h hM left _ a2 a4⟩
/-- such a list is a share with the peak M or less -/
theorem cuts_valid {f : Nat → Int} {n : Nat} {M : Int} : ∀ (cs : List Int) (x : Nat), Cuts f n M cs x → (∀ i, i < cs.length → (x : Int) ≤ cs.getD i 0 ∧ cs.getD i 0 ≤ n ∧ (0 < i → cs.getD (i - 1) 0 ≤ cs.getD i 0))
  | [], x, _, i, hi => by simp at hi
  | c :: cs, x, ⟨z, e, h1, h2, h3, h4⟩, i, hi => by
    have ih := cuts_valid cs z h4
    cases i with
    | zero => subst e; simp; omega
    | succ i =>
      simp only [List.length_cons] at hi
      have h5 := ih i (by omega)
      simp only [List.getD_cons_succ, Nat.add_sub_cancel]
      refine ⟨by omega, h5.2.1, fun _ => ?_⟩
      cases i with
      | zero => subst e; simp only [List.getD_cons_zero]; exact h5.1
      | succ i => simp only [List.getD_cons_succ]; exact h5.2.2 (by omega)
theorem cuts_parts {f : Nat → Int} {n : Nat} {M : Int} : ∀ (cs : List Int) (x : Nat), Cuts f n M cs x → ∀ j, j ≤ cs.length → sg f (if j = 0 then x else (cs.getD (j - 1) 0).toNat) (if j < cs.length then (cs.getD j 0).toNat else n) ≤ M
  | [], x, ⟨h1, h2⟩, j, hj => by
    obtain rfl : j = 0 := by simpa using hj
    simpa using h2
  | c :: cs, x, ⟨z, e, h1, h2, h3, h4⟩, j, hj => by
    have ih := cuts_parts cs z h4
    cases j with
    | zero => subst e; simpa using h3
    | succ j =>
      simp only [List.length_cons] at hj ⊢
      have h5 := ih j (by omega)
      simp only [List.getD_cons_succ, Nat.add_sub_cancel, if_neg (Nat.succ_ne_zero j), Nat.succ_lt_succ_iff]
      cases j with
      | zero => subst e; simpa using h5
      | succ j => simpa using h5
theorem peak_cuts {f : Nat → Int} {n : Nat} {M : Int} (hM : 0 ≤ M) {cs : List Int} (h : Cuts f n M cs 0) (hl : cs.length < 16) : validK n cs.length (fun i => cs.getD i 0) ∧ peakL f n cs.length (fun i => cs.getD i 0) ≤ M := by
  refine ⟨⟨hl, fun i hi => ?_⟩, (mxTo_le hM _).2 fun j hj => ?_⟩
  · have := cuts_valid cs 0 h i hi
    exact ⟨by simpa using this.1, this.2⟩
  · have := cuts_parts cs 0 h j (by omega)
    unfold wt
    cases j with
    | zero => simpa [bd] using this
    | succ j => simpa [bd, show j < cs.length by omega] using this
theorem best_peak {f : Nat → Int} {n k : Nat} (h : ∀ k, k < n → 0 ≤ f k) (hk : 0 < k) (hk2 : k ≤ 16) :
    validK n (bestL f n (leastL f n k) (k - 1) 0).length (fun i => (bestL f n (leastL f n k) (k - 1) 0).getD i 0) ∧ peakL f n (bestL f n (leastL f n k) (k - 1) 0).length (fun i => (bestL f n (leastL f n k) (k - 1) 0).getD i 0) = leastL f n k := by
  have hM := leastL_nonneg h hk
  have hr := (leastL_iff h hk hM).1 (Int.le_refl _)
  obtain ⟨m, rfl⟩ : ∃ m, k = m + 1 := ⟨k - 1, by omega⟩
  have hc := bestL_cuts h hM m 0 (Nat.zero_le _) hr
  have hl := bestL_length f n (leastL f n (m + 1)) m 0
  obtain ⟨h1, h2⟩ := peak_cuts hM hc (by omega)
  refine ⟨h1, Int.le_antisymm h2 ?_⟩
  have h3 := least_peak h h1
  rw [hl] at h3
  simp only [Nat.add_sub_cancel]
  rw [hl]
  exact h3
/-- more nodes never make it greater -/
theorem least_more {f : Nat → Int} {n k : Nat} (h : ∀ k, k < n → 0 ≤ f k) (hk : 0 < k) : leastL f n (k + 1) ≤ leastL f n k := by
  have hM := leastL_nonneg h hk
  rw [leastL_iff h (by omega) hM]
  exact ((leastL_iff h hk hM).1 (Int.le_refl _)).more hM
end Go.Proofs.Ytgpcmkoimgnlbaa
