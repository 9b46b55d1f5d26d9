/- Plain laws of shares: proofs that no share has a lesser peak. No program in sight. -/
import Derived.Test.YtgpcmkoimgnlbaaSharePlain2
namespace Go.Proofs.Ytgpcmkoimgnlbaa
set_option linter.unusedVariables false
theorem validL_nonneg {n : Nat} {f : Nat → Int} (h : validL n f) : ∀ k, k < n → 0 ≤ f k := fun k hk => (h.2.2 k hk).1
/-- what Proves asks of the pair i -/
def okP (f : Nat → Int) (n : Nat) (b : Int) (m : Nat) (p : Nat → Int × Int) (i : Nat) : Prop :=
  0 ≤ (p i).1 ∧ (p i).1 ≤ (p i).2 ∧ (p i).2 < n ∧ b < sg f (p i).1.toNat ((p i).2.toNat + 1) ∧ (0 < i → (p (i - 1)).2 ≤ (p i).1) ∧ ((p i).1 = (p i).2 → m ≤ 1)
def provesP (f : Nat → Int) (n : Nat) (k b : Int) (m : Nat) (p : Nat → Int × Int) : Prop :=
  validL n f ∧ 1 ≤ k ∧ k ≤ 16 ∧ 0 ≤ b ∧ (∀ i, i < m → okP f n b m p i) ∧ ((m = 1 ∧ (p 0).1 = (p 0).2) ∨ (m : Int) = k)
theorem proves_least {f : Nat → Int} {n m : Nat} {k b : Int} {p : Nat → Int × Int} (h : provesP f n k b m p) : b < leastL f n k.toNat := by
  obtain ⟨hv, k1, k2, hb, hp, hm⟩ := h
  have hf := validL_nonneg hv
  have hk : 0 < k.toNat := by omega
  refine Int.lt_of_not_ge fun hle => ?_
  have hr := (leastL_iff hf hk hb).1 hle
  rcases hm with ⟨rfl, he⟩ | hm
  · obtain ⟨a1, a2, a3, a4, _, _⟩ := hp 0 (by omega)
    have e : (p 0).2.toNat = (p 0).1.toNat := by omega
    rw [e, sg_succ, sg_self] at a4
    have := rk_heavy (M := b) hf (show (p 0).1.toNat < n by omega) (by omega) (Nat.le_refl n) hr
    omega
  · have key : ∀ t, t < m → ∀ x, x ≤ n → Rk f b (t + 1) 0 x → x ≤ (p t).2.toNat := by
      intro t
      induction t with
      | zero =>
        intro ht x hx hr
        obtain ⟨a1, a2, a3, a4, _, _⟩ := hp 0 ht
        obtain ⟨z, h1, h2, h3⟩ := Rk.back.1 hr
        cases h1
        rcases Nat.lt_or_ge (p 0).2.toNat x with h' | h'
        · exfalso
          have b1 := sg_left hf (Nat.zero_le (p 0).1.toNat) (by omega : (p 0).1.toNat ≤ x) hx
          have b2 := sg_right hf (a := (p 0).1.toNat) (by omega : (p 0).2.toNat + 1 ≤ x) hx
          omega
        · exact h'
      | succ t ih =>
        intro ht x hx hr
        obtain ⟨a1, a2, a3, a4, a5, _⟩ := hp (t + 1) ht
        obtain ⟨z, h1, h2, h3⟩ := Rk.back.1 hr
        have hz := ih (by omega) z (by omega) h1
        have a6 := a5 (by omega)
        rw [Nat.add_sub_cancel] at a6
        rcases Nat.lt_or_ge (p (t + 1)).2.toNat x with h' | h'
        · exfalso
          have b1 := sg_left hf (show z ≤ (p (t + 1)).1.toNat by omega) (by omega : (p (t + 1)).1.toNat ≤ x) hx
          have b2 := sg_right hf (a := (p (t + 1)).1.toNat) (by omega : (p (t + 1)).2.toNat + 1 ≤ x) hx
          omega
        · exact h'
    have hk2 : k.toNat = (m - 1) + 1 := by omega
    rw [hk2] at hr
    have h1 := key (m - 1) (by omega) n (Nat.le_refl _) hr
    obtain ⟨a1, a2, a3, _⟩ := hp (m - 1) (by omega)
    omega
/-- the first column at which the sum from x on is at least l -/
def lastOf (f : Nat → Int) (l : Int) (n x : Nat) : Nat := firstN (fun y => decide (l ≤ sg f x (y + 1))) (n - x) x
def aN (f : Nat → Int) (l : Int) (n : Nat) : Nat → Nat
  | 0 => 0
  | t + 1 => lastOf f l n (aN f l n t)
theorem lastOf_spec {f : Nat → Int} {l : Int} {n x : Nat} (hx : x ≤ n) : x ≤ lastOf f l n x ∧ lastOf f l n x ≤ n ∧ (∀ y, x ≤ y → y < lastOf f l n x → sg f x (y + 1) < l) ∧ (lastOf f l n x < n → l ≤ sg f x (lastOf f l n x + 1)) := by
  obtain ⟨a1, a2, a3, a4⟩ := firstN_spec (P := fun y => decide (l ≤ sg f x (y + 1))) (n - x) x
  refine ⟨a1, by unfold lastOf; omega, fun y h1 h2 => ?_, fun h => ?_⟩
  · have := a3 y h1 h2
    simp only [decide_eq_false_iff_not] at this
    omega
  · have := a4 (by unfold lastOf at h; omega)
    exact of_decide_eq_true this
/-- where no load alone is the least peak: the chain goes through -/
theorem chain_spec {f : Nat → Int} {n k : Nat} (h : ∀ k, k < n → 0 ≤ f k) (hn : 0 < n) (hk : 0 < k) (hl : 0 < leastL f n k) (hne : ∀ i, i < n → f i ≠ leastL f n k) :
    ∀ t, t ≤ k → aN f (leastL f n k) n t < n ∧ Rk f (leastL f n k - 1) t 0 (aN f (leastL f n k) n t) ∧ (t < k → aN f (leastL f n k) n t < aN f (leastL f n k) n (t + 1) ∧ leastL f n k ≤ sg f (aN f (leastL f n k) n t) (aN f (leastL f n k) n (t + 1) + 1)) := by
  have hnot : ¬ Rk f (leastL f n k - 1) k 0 n := fun hr => by
    have := (leastL_iff h hk (show 0 ≤ leastL f n k - 1 by omega)).2 hr
    omega
  have hlt : ∀ i, i < n → f i < leastL f n k := fun i hi => by
    have h1 := (leastL_iff h hk (leastL_nonneg h hk)).1 (Int.le_refl _)
    have h2 := hne i hi
    rcases Int.lt_or_le (leastL f n k) (f i) with h' | h'
    · have := rk_heavy h hi h' (Nat.le_refl n) h1
      omega
    · omega
  generalize leastL f n k = l at *
  have step : ∀ t, t < k → aN f l n t < n → Rk f (l - 1) t 0 (aN f l n t) → aN f l n (t + 1) < n ∧ Rk f (l - 1) (t + 1) 0 (aN f l n (t + 1)) ∧ aN f l n t < aN f l n (t + 1) ∧ l ≤ sg f (aN f l n t) (aN f l n (t + 1) + 1) := by
    intro t ht ha hr
    obtain ⟨a1, a2, a3, a4⟩ := lastOf_spec (f := f) (l := l) (n := n) (x := aN f l n t) (by omega)
    have e : lastOf f l n (aN f l n t) = aN f l n (t + 1) := rfl
    rw [e] at a1 a2 a3 a4
    have h1 : aN f l n (t + 1) < n := by
      rcases Nat.lt_or_ge (aN f l n (t + 1)) n with h' | h'
      · exact h'
      · exfalso
        have h2 := a3 (n - 1) (by omega) (by omega)
        rw [Nat.sub_add_cancel (by omega)] at h2
        exact hnot ((Rk.back.2 ⟨_, hr, by omega, by omega⟩ : Rk f (l - 1) (t + 1) 0 n).moreN (by omega) k (by omega))
    have h3 := a4 h1
    have h4 : aN f l n t < aN f l n (t + 1) := by
      rcases Nat.eq_or_lt_of_le a1 with e' | h'
      · exfalso
        rw [← e', sg_succ, sg_self] at h3
        have := hlt _ ha
        omega
      · exact h'
    refine ⟨h1, Rk.back.2 ⟨_, hr, a1, ?_⟩, h4, h3⟩
    have h5 := a3 (aN f l n (t + 1) - 1) (by omega) (by omega)
    rw [Nat.sub_add_cancel (by omega)] at h5
    omega
  intro t
  induction t with
  | zero =>
    intro _
    have h0 : aN f l n 0 = 0 := rfl
    refine ⟨by rw [h0]; exact hn, by rw [h0]; exact rfl, fun ht => ?_⟩
    obtain ⟨_, _, b3, b4⟩ := step 0 ht (by rw [h0]; exact hn) (by rw [h0]; exact rfl)
    exact ⟨b3, b4⟩
  | succ t ih =>
    intro ht
    obtain ⟨c1, c2, _⟩ := ih (by omega)
    obtain ⟨b1, b2, _, _⟩ := step t (by omega) c1 c2
    refine ⟨b1, b2, fun ht2 => ?_⟩
    obtain ⟨_, _, d3, d4⟩ := step (t + 1) ht2 b1 b2
    exact ⟨d3, d4⟩
/-- the first column that weighs so much; n if there is none -/
def indexOf (f : Nat → Int) (l : Int) (n : Nat) : Nat := firstN (fun y => decide (f y = l)) n 0
theorem indexOf_spec (f : Nat → Int) (l : Int) (n : Nat) : indexOf f l n ≤ n ∧ (∀ y, y < indexOf f l n → f y ≠ l) ∧ (indexOf f l n < n → f (indexOf f l n) = l) := by
  obtain ⟨a1, a2, a3, a4⟩ := firstN_spec (P := fun y => decide (f y = l)) n 0
  refine ⟨by unfold indexOf; omega, fun y h => ?_, fun h => ?_⟩
  · have := a3 y (Nat.zero_le _) h
    simpa using this
  · have := a4 (by unfold indexOf at h; omega)
    exact of_decide_eq_true this
/-- the pairs of a proof -/
def proofN (f : Nat → Int) (n k : Nat) : Nat := if leastL f n k = 0 then 0 else if indexOf f (leastL f n k) n < n then 1 else k
def proofF (f : Nat → Int) (n k : Nat) : Nat → Int × Int := fun t =>
  if indexOf f (leastL f n k) n < n then ((indexOf f (leastL f n k) n : Int), (indexOf f (leastL f n k) n : Int)) else ((aN f (leastL f n k) n t : Int), (aN f (leastL f n k) n (t + 1) : Int))
theorem proof_proves {f : Nat → Int} {n k : Nat} (hv : validL n f) (hk : 0 < k) (hk2 : k ≤ 16) (hl : leastL f n k ≠ 0) : provesP f n k (leastL f n k - 1) (proofN f n k) (proofF f n k) := by
  have hf := validL_nonneg hv
  have h0 := leastL_nonneg hf hk
  obtain ⟨i1, i2, i3⟩ := indexOf_spec f (leastL f n k) n
  have hn : 0 < n := hv.1
  refine ⟨hv, by omega, by omega, by omega, fun t ht => ?_, ?_⟩
  · simp only [proofN, if_neg hl] at ht
    by_cases hi : indexOf f (leastL f n k) n < n
    · rw [if_pos hi] at ht
      obtain rfl : t = 0 := by omega
      simp only [okP, proofF, if_pos hi, proofN, if_neg hl, Int.toNat_natCast, sg_succ, sg_self]
      have := i3 hi
      omega
    · rw [if_neg hi] at ht
      obtain ⟨c1, c2, c3⟩ := chain_spec hf hn hk (by omega) (fun i h => i2 i (by omega)) t (by omega)
      obtain ⟨d1, d2⟩ := c3 ht
      obtain ⟨e1, _, _⟩ := chain_spec hf hn hk (by omega) (fun i h => i2 i (by omega)) (t + 1) (by omega)
      simp only [okP, proofF, if_neg hi, proofN, if_neg hl, Int.toNat_natCast]
      refine ⟨by omega, by omega, by omega, by omega, fun h => ?_, fun h => by omega⟩
      rw [Nat.sub_add_cancel (by omega)]; exact Int.le_refl _
  · simp only [proofN, if_neg hl, proofF]
    by_cases hi : indexOf f (leastL f n k) n < n
    · rw [if_pos hi]; left; exact ⟨rfl, by rw [if_pos hi]⟩
    · rw [if_neg hi]; right; rfl
end Go.Proofs.Ytgpcmkoimgnlbaa
