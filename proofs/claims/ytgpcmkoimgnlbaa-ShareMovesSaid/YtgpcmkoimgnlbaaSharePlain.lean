/- Plain laws of shares: sums of loads, shares with a bounded peak, the greedy share, the table of least peaks. No program in sight. -/
import Derived.Test.YtgpcmkoimgnlbaaBase
namespace Go.Proofs.Ytgpcmkoimgnlbaa
set_option linter.unusedVariables false
/-- what the columns from a to b - 1 weigh -/
def sg (f : Nat → Int) (a b : Nat) : Int := sumTo f b - sumTo f a
def validL (n : Nat) (f : Nat → Int) : Prop := 1 ≤ n ∧ n ≤ 64 ∧ ∀ k, k < n → 0 ≤ f k ∧ f k ≤ 1000000000
theorem sg_self (f : Nat → Int) (a : Nat) : sg f a a = 0 := by simp [sg]
theorem sg_succ (f : Nat → Int) (a b : Nat) : sg f a (b + 1) = sg f a b + f b := by simp only [sg, sumTo]; omega
theorem sg_head (f : Nat → Int) (a b : Nat) : sg f a b = f a + sg f (a + 1) b := by simp only [sg, sumTo]; omega
theorem sg_cat (f : Nat → Int) (a b c : Nat) : sg f a c = sg f a b + sg f b c := by simp only [sg]; omega
theorem sumTo_grow {f : Nat → Int} {n : Nat} (h : ∀ k, k < n → 0 ≤ f k) {a : Nat} : ∀ b, a ≤ b → b ≤ n → sumTo f a ≤ sumTo f b
  | 0, hab, _ => by obtain rfl : a = 0 := (by omega); exact Int.le_refl _
  | b + 1, hab, hb => by
    rcases Nat.lt_or_ge b a with h' | h'
    · obtain rfl : a = b + 1 := (by omega); exact Int.le_refl _
    · have := sumTo_grow h b h' (by omega)
      have := h b (by omega)
      simp only [sumTo]; omega
theorem sg_nonneg {f : Nat → Int} {n : Nat} (h : ∀ k, k < n → 0 ≤ f k) {a b : Nat} (hab : a ≤ b) (hb : b ≤ n) : 0 ≤ sg f a b := by
  have := sumTo_grow h b hab hb
  simp only [sg]; omega
theorem sg_left {f : Nat → Int} {n : Nat} (h : ∀ k, k < n → 0 ≤ f k) {a a' b : Nat} (haa : a ≤ a') (hab : a' ≤ b) (hb : b ≤ n) : sg f a' b ≤ sg f a b := by
  have := sumTo_grow h a' haa (by omega)
  simp only [sg]; omega
theorem sg_right {f : Nat → Int} {n : Nat} (h : ∀ k, k < n → 0 ≤ f k) {a b b' : Nat} (hbb : b ≤ b') (hb : b' ≤ n) : sg f a b ≤ sg f a b' := by
  have := sumTo_grow h b' hbb hb
  simp only [sg]; omega
theorem sumTo_most {f : Nat → Int} {n : Nat} (h : ∀ k, k < n → 0 ≤ f k ∧ f k ≤ 1000000000) : ∀ b, b ≤ n → 0 ≤ sumTo f b ∧ sumTo f b ≤ b * 1000000000
  | 0, _ => by simp [sumTo]
  | b + 1, hb => by
    have := sumTo_most h b (by omega)
    have := h b (by omega)
    simp only [sumTo]; omega
/-- from x to y by k nodes of at most M each -/
def Rk (f : Nat → Int) (M : Int) : Nat → Nat → Nat → Prop
  | 0, x, y => x = y
  | k + 1, x, y => ∃ z, x ≤ z ∧ sg f x z ≤ M ∧ Rk f M k z y
theorem Rk.le {f : Nat → Int} {M : Int} : ∀ {k x y : Nat}, Rk f M k x y → x ≤ y
  | 0, x, y, h => by cases h; exact Nat.le_refl _
  | k + 1, x, y, h => by obtain ⟨z, h1, _, h3⟩ := h; exact Nat.le_trans h1 h3.le
theorem Rk.mono {f : Nat → Int} {M M' : Int} (hM : M ≤ M') : ∀ {k x y : Nat}, Rk f M k x y → Rk f M' k x y
  | 0, x, y, h => h
  | k + 1, x, y, h => by obtain ⟨z, h1, h2, h3⟩ := h; exact ⟨z, h1, by omega, h3.mono hM⟩
theorem Rk.more {f : Nat → Int} {M : Int} (hM : 0 ≤ M) {k x y : Nat} (h : Rk f M k x y) : Rk f M (k + 1) x y := ⟨x, Nat.le_refl _, by rw [sg_self]; exact hM, h⟩
theorem Rk.moreN {f : Nat → Int} {M : Int} (hM : 0 ≤ M) {k x y : Nat} (h : Rk f M k x y) : ∀ m, k ≤ m → Rk f M m x y
  | 0, hm => by obtain rfl : k = 0 := (by omega); exact h
  | m + 1, hm => by
    rcases Nat.lt_or_ge m k with h' | h'
    · obtain rfl : k = m + 1 := (by omega); exact h
    · exact (h.moreN hM m h').more hM
/-- the last node -/
theorem Rk.back {f : Nat → Int} {M : Int} : ∀ {k x y : Nat}, Rk f M (k + 1) x y ↔ ∃ z, Rk f M k x z ∧ z ≤ y ∧ sg f z y ≤ M
  | 0, x, y => by
    constructor
    · rintro ⟨z, h1, h2, h3⟩; cases h3; exact ⟨x, rfl, h1, h2⟩
    · rintro ⟨z, h1, h2, h3⟩; cases h1; exact ⟨y, h2, h3, rfl⟩
  | k + 1, x, y => by
    constructor
    · rintro ⟨z, h1, h2, h3⟩
      obtain ⟨u, hu, h4, h5⟩ := Rk.back.1 h3
      exact ⟨u, ⟨z, h1, h2, hu⟩, h4, h5⟩
    · rintro ⟨u, ⟨z, h1, h2, h3⟩, h4, h5⟩
      exact ⟨z, h1, h2, Rk.back.2 ⟨u, h3, h4, h5⟩⟩
theorem Rk.all {f : Nat → Int} {M : Int} (k : Nat) {x y : Nat} (hxy : x ≤ y) (hS : sg f x y ≤ M) (hM : 0 ≤ M) : Rk f M (k + 1) x y :=
  Rk.moreN hM (show Rk f M 1 x y from ⟨y, hxy, hS, rfl⟩) _ (by omega)
/-- a node more on the left, or less of it -/
theorem Rk.left {f : Nat → Int} {M : Int} {n : Nat} (h : ∀ k, k < n → 0 ≤ f k) {k x x' y : Nat} (hk : Rk f M (k + 1) x y) (hx : x ≤ x') (hy : x' ≤ y) (hn : y ≤ n) (hM : 0 ≤ M) : Rk f M (k + 1) x' y := by
  induction k generalizing x x' with
  | zero =>
    obtain ⟨z, h1, h2, h3⟩ := hk; cases h3
    exact ⟨y, hy, Int.le_trans (sg_left h hx hy hn) h2, rfl⟩
  | succ k ih =>
    obtain ⟨z, h1, h2, h3⟩ := hk
    rcases Nat.lt_or_ge z x' with h' | h'
    · exact (ih h3 (by omega) hy).more hM
    · exact ⟨z, h', Int.le_trans (sg_left h hx h' (Nat.le_trans h3.le hn)) h2, h3⟩
/-! ### the greedy share -/
/-- after i columns: the cuts and what the node has now; none if a column weighs more -/
def gr (f : Nat → Int) (M : Int) : Nat → Option (List Int × Int)
  | 0 => some ([], 0)
  | i + 1 => match gr f M i with
    | none => none
    | some (cs, now) => if M < f i then none else if M < now + f i then some (cs ++ [(i : Int)], f i) else some (cs, now + f i)
/-- the last cut -/
def lastC (cs : List Int) : Nat := (cs.getLastD 0).toNat
theorem lastC_snoc (cs : List Int) (i : Nat) : lastC (cs ++ [(i : Int)]) = i := by simp [lastC]
theorem gr_inv {f : Nat → Int} {M : Int} {n : Nat} (h : ∀ k, k < n → 0 ≤ f k) (hM : 0 ≤ M) : ∀ i, i ≤ n → ∀ cs now, gr f M i = some (cs, now) →
    lastC cs ≤ i ∧ (0 < cs.length → lastC cs < i) ∧ cs.length ≤ i ∧ now = sg f (lastC cs) i ∧ now ≤ M ∧ Rk f M cs.length 0 (lastC cs) ∧ ∀ x, x ≤ n → Rk f M cs.length 0 x → x ≤ lastC cs
  | 0, _, cs, now, e => by
    simp only [gr, Option.some.injEq, Prod.mk.injEq] at e
    obtain ⟨rfl, rfl⟩ := e
    exact ⟨by simp [lastC], by simp, by simp, by simp [sg_self, lastC], hM, by simp [lastC, Rk], fun x _ hx => by cases hx; exact Nat.zero_le _⟩
  | i + 1, hi, cs, now, e => by
    simp only [gr] at e
    split at e
    · cases e
    · rename_i cs0 now0 e0
      obtain ⟨h1, h1', hl, h2, h3, h4, h5⟩ := gr_inv h hM i (by omega) cs0 now0 e0
      have hf := h i (by omega)
      split at e
      · cases e
      · rename_i hle
        split at e
        · rename_i hgt
          simp only [Option.some.injEq, Prod.mk.injEq] at e
          obtain ⟨rfl, rfl⟩ := e
          have hlen : (cs0 ++ [(i : Int)]).length = cs0.length + 1 := by simp
          rw [lastC_snoc, hlen]
          refine ⟨by omega, by omega, by omega, by rw [sg_succ, sg_self]; omega, by omega, Rk.back.2 ⟨_, h4, h1, by omega⟩, fun x hxn hx => ?_⟩
          obtain ⟨z, hz1, hz2, hz3⟩ := Rk.back.1 hx
          have hz := h5 z (by omega) hz1
          rcases Nat.lt_or_ge i x with h' | h'
          · exfalso
            have a1 := sg_left h hz (by omega : lastC cs0 ≤ x) hxn
            have a2 := sg_right h (a := lastC cs0) (by omega : i + 1 ≤ x) hxn
            rw [sg_succ] at a2
            omega
          · exact h'
        · rename_i hgt
          simp only [Option.some.injEq, Prod.mk.injEq] at e
          obtain ⟨rfl, rfl⟩ := e
          exact ⟨by omega, by omega, by omega, by rw [sg_succ]; omega, by omega, h4, h5⟩
theorem gr_none {f : Nat → Int} {M : Int} {n : Nat} : ∀ i, i ≤ n → gr f M i = none → ∃ j, j < i ∧ M < f j
  | 0, _, e => by simp [gr] at e
  | i + 1, hi, e => by
    simp only [gr] at e
    split at e
    · rename_i e0
      obtain ⟨j, h1, h2⟩ := gr_none (n := n) i (by omega) e0
      exact ⟨j, by omega, h2⟩
    · split at e
      · rename_i hgt; exact ⟨i, by omega, hgt⟩
      · split at e <;> cases e
theorem rk_heavy {f : Nat → Int} {M : Int} {n : Nat} (h : ∀ k, k < n → 0 ≤ f k) {j : Nat} (hj : j < n) (hM : M < f j) : ∀ {t x : Nat}, x ≤ n → Rk f M t 0 x → x ≤ j
  | 0, x, _, hx => by cases hx; exact Nat.zero_le _
  | t + 1, x, hxn, hx => by
    obtain ⟨z, h1, h2, h3⟩ := Rk.back.1 hx
    have hz := rk_heavy h hj hM (Nat.le_trans h2 hxn) h1
    rcases Nat.lt_or_ge j x with h' | h'
    · exfalso
      have a1 := sg_left h hz (by omega : j ≤ x) hxn
      have a2 := sg_right h (a := j) (by omega : j + 1 ≤ x) hxn
      rw [sg_succ, sg_self] at a2
      omega
    · exact h'
def fitsB (f : Nat → Int) (n : Nat) (k : Nat) (M : Int) : Bool := match gr f M n with
  | none => false
  | some (cs, _) => decide (cs.length < k)
theorem fitsB_iff {f : Nat → Int} {M : Int} {n k : Nat} (h : ∀ k, k < n → 0 ≤ f k) (hM : 0 ≤ M) (hn : 0 < n) : fitsB f n k M = true ↔ Rk f M k 0 n := by
  unfold fitsB
  split
  · rename_i e
    obtain ⟨j, h1, h2⟩ := gr_none n (Nat.le_refl _) e
    refine ⟨fun h' => (by cases h'), fun hr => ?_⟩
    have := rk_heavy h h1 h2 (Nat.le_refl _) hr
    omega
  · rename_i cs now e
    obtain ⟨h1, h1', hl, h2, h3, h4, h5⟩ := gr_inv h hM n (Nat.le_refl _) cs now e
    rw [decide_eq_true_iff]
    constructor
    · intro hlt
      exact Rk.moreN hM (Rk.back.2 ⟨_, h4, h1, by omega⟩) k (by omega)
    · intro hr
      rcases Nat.lt_or_ge cs.length k with h' | h'
      · exact h'
      · exfalso
        have hc := h5 n (Nat.le_refl _) (hr.moreN hM _ h')
        rcases Nat.eq_zero_or_pos cs.length with h0 | h0
        · have : cs = [] := List.length_eq_zero_iff.1 h0
          subst this
          simp [lastC] at hc; omega
        · have := h1' h0; omega
/-- loads that begin later -/
theorem sumTo_shift (f : Nat → Int) (a : Nat) : ∀ b, sumTo (fun i => f (a + i)) b = sumTo f (a + b) - sumTo f a
  | 0 => by simp [sumTo]
  | b + 1 => by
    have e : sumTo f (a + (b + 1)) = sumTo f (a + b) + f (a + b) := rfl
    rw [e]; simp only [sumTo, sumTo_shift f a b]; omega
theorem sg_shift (f : Nat → Int) (a x y : Nat) : sg (fun i => f (a + i)) x y = sg f (a + x) (a + y) := by simp only [sg, sumTo_shift]; omega
theorem rk_shift {f : Nat → Int} {M : Int} (a : Nat) : ∀ {k x y : Nat}, Rk (fun i => f (a + i)) M k x y ↔ Rk f M k (a + x) (a + y)
  | 0, x, y => by simp [Rk]
  | k + 1, x, y => by
    simp only [Rk, sg_shift]
    constructor
    · rintro ⟨z, h1, h2, h3⟩; exact ⟨a + z, by omega, h2, (rk_shift a).1 h3⟩
    · rintro ⟨z, h1, h2, h3⟩
      obtain ⟨u, rfl⟩ : ∃ u, z = a + u := ⟨z - a, by omega⟩
      exact ⟨u, by omega, h2, (rk_shift a).2 h3⟩
/-! ### the table of least peaks -/
def bestTo (f : Nat → Int) (rest : Nat → Int) (x : Nat) : Nat → Int
  | 0 => -1
  | j + 1 => if rest (x + j) < 0 then bestTo f rest x j else
    let p := if sg f x (x + j) < rest (x + j) then rest (x + j) else sg f x (x + j)
    if bestTo f rest x j < 0 ∨ p < bestTo f rest x j then p else bestTo f rest x j
def tbl (f : Nat → Int) (n : Nat) : Nat → Nat → Int
  | 0, x => if x = n then 0 else -1
  | k + 1, x => bestTo f (tbl f n k) x (n + 1 - x)
theorem ex_succ {P : Nat → Prop} {j : Nat} : (∃ c, c < j + 1 ∧ P c) ↔ (∃ c, c < j ∧ P c) ∨ P j := by
  constructor
  · rintro ⟨c, h1, h2⟩
    rcases Nat.lt_succ_iff_lt_or_eq.1 h1 with h | rfl
    · exact .inl ⟨c, h, h2⟩
    · exact .inr h2
  · rintro (⟨c, h1, h2⟩ | h)
    · exact ⟨c, by omega, h2⟩
    · exact ⟨j, by omega, h⟩
theorem bestTo_iff {f : Nat → Int} {rest : Nat → Int} {x : Nat} {M : Int} : ∀ j, (0 ≤ bestTo f rest x j ∧ bestTo f rest x j ≤ M) ↔ ∃ c, c < j ∧ (0 ≤ rest (x + c) ∧ rest (x + c) ≤ M ∧ sg f x (x + c) ≤ M)
  | 0 => by simp [bestTo]
  | j + 1 => by
    rw [ex_succ, ← bestTo_iff j]
    simp only [bestTo]
    generalize bestTo f rest x j = b
    generalize rest (x + j) = r
    generalize sg f x (x + j) = s
    repeat' split
    all_goals omega
theorem bestTo_lo {f : Nat → Int} {rest : Nat → Int} {x : Nat} : ∀ j, -1 ≤ bestTo f rest x j
  | 0 => by simp [bestTo]
  | j + 1 => by
    have ih := bestTo_lo (f := f) (rest := rest) (x := x) j
    simp only [bestTo]
    generalize bestTo f rest x j = b at *
    generalize rest (x + j) = r
    generalize sg f x (x + j) = s
    repeat' split
    all_goals omega
theorem tbl_iff {f : Nat → Int} {n : Nat} {M : Int} (hM : 0 ≤ M) : ∀ k x, x ≤ n → ((0 ≤ tbl f n k x ∧ tbl f n k x ≤ M) ↔ Rk f M k x n)
  | 0, x, hx => by
    simp only [tbl, Rk]
    split
    · rename_i e; simp [e, hM]
    · rename_i e; simp [e]
  | k + 1, x, hx => by
    simp only [tbl, Rk]
    rw [bestTo_iff]
    constructor
    · rintro ⟨c, h1, h2, h3, h4⟩
      exact ⟨x + c, by omega, h4, (tbl_iff hM k (x + c) (by omega)).1 ⟨h2, h3⟩⟩
    · rintro ⟨z, h1, h2, h3⟩
      have hz := h3.le
      obtain ⟨c, rfl⟩ : ∃ c, z = x + c := ⟨z - x, by omega⟩
      obtain ⟨a, b⟩ := (tbl_iff hM k (x + c) (by omega)).2 h3
      exact ⟨c, by omega, a, b, h2⟩
theorem tbl_nonneg {f : Nat → Int} {n : Nat} (h : ∀ k, k < n → 0 ≤ f k) {k x : Nat} (hk : 0 < k) (hx : x ≤ n) : 0 ≤ tbl f n k x := by
  obtain ⟨m, rfl⟩ : ∃ m, k = m + 1 := ⟨k - 1, by omega⟩
  have h0 := sg_nonneg h hx (Nat.le_refl n)
  exact ((tbl_iff (M := sg f x n) h0 (m + 1) x hx).2 (Rk.all m hx (Int.le_refl _) h0)).1
/-- the least peak -/
def leastL (f : Nat → Int) (n k : Nat) : Int := tbl f n k 0
theorem leastL_iff {f : Nat → Int} {n : Nat} {M : Int} (h : ∀ k, k < n → 0 ≤ f k) {k : Nat} (hk : 0 < k) (hM : 0 ≤ M) : leastL f n k ≤ M ↔ Rk f M k 0 n := by
  rw [← tbl_iff hM k 0 (Nat.zero_le _)]
  exact ⟨fun h' => ⟨tbl_nonneg h hk (Nat.zero_le _), h'⟩, fun h' => h'.2⟩
theorem leastL_nonneg {f : Nat → Int} {n : Nat} (h : ∀ k, k < n → 0 ≤ f k) {k : Nat} (hk : 0 < k) : 0 ≤ leastL f n k := tbl_nonneg h hk (Nat.zero_le _)
theorem leastL_le {f : Nat → Int} {n : Nat} (h : ∀ k, k < n → 0 ≤ f k) {k : Nat} (hk : 0 < k) : leastL f n k ≤ sumTo f n := by
  have h0 : sg f 0 n = sumTo f n := by simp [sg, sumTo]
  have h1 := sg_nonneg h (Nat.zero_le n) (Nat.le_refl n)
  obtain ⟨m, rfl⟩ : ∃ m, k = m + 1 := ⟨k - 1, by omega⟩
  exact (leastL_iff h hk (by omega)).2 (Rk.all m (Nat.zero_le _) (by omega) (by omega))
theorem fits_least {f : Nat → Int} {n : Nat} (h : ∀ k, k < n → 0 ≤ f k) (hn : 0 < n) {k : Nat} (hk : 0 < k) {M : Int} (hM : 0 ≤ M) : fitsB f n k M = decide (leastL f n k ≤ M) := by
  rw [Bool.eq_iff_iff, fitsB_iff h hM hn, decide_eq_true_iff, leastL_iff h hk hM]
/-- the rest of the columns -/
theorem fits_rest {f : Nat → Int} {n : Nat} (h : ∀ k, k < n → 0 ≤ f k) {x : Nat} (hx : x < n) {k : Nat} {M : Int} (hM : 0 ≤ M) : fitsB (fun i => f (x + i)) (n - x) k M = true ↔ Rk f M k x n := by
  rw [fitsB_iff (fun i hi => h (x + i) (by omega)) hM (by omega), rk_shift]
  rw [Nat.add_zero, Nat.add_sub_of_le (by omega)]
theorem rk_rest {f : Nat → Int} {n : Nat} {M : Int} (hM : 0 ≤ M) (k : Nat) : Rk f M k n n := (show Rk f M 0 n n from rfl).moreN hM k (Nat.zero_le _)
end Go.Proofs.Ytgpcmkoimgnlbaa
