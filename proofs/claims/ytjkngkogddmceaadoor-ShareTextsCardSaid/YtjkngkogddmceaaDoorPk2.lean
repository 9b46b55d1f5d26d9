/- Plain laws of shares: sums of loads, shares with a bounded peak, the greedy share, the table of least peaks. No program in sight. -/
import Derived.Test.YtjkngkogddmceaaDoorPk1
import Derived.Laws.StructEq
import Derived.ChangeKeysEq
import Derived.OrdersIn
import Derived.OrdersHeld
import Derived.OwnWalkIn
import Derived.Deep.Quiet
import Derived.BigQuiet
import Derived.StillTail
import Derived.RangeFuncNested
import Derived.Test.YtjkngkogddmceaaDoorRows
import Derived.ProofKit
import Derived.OpenShut
import Derived.ShutString
import Derived.ChangeOld
import Derived.Deep.Slices
namespace Go.Proofs.YtjkngkogddmceaaDoor
set_option linter.unusedVariables false
/-- what the columns from a to b - 1 weigh -/
def sg (f : Nat → Int) (a b : Nat) : Int := sumTo f b - sumTo f a
def validL (n : Nat) (f : Nat → Int) : Prop := 1 ≤ n ∧ n ≤ 64 ∧ ∀ k, k < n → 0 ≤ f k ∧ f k ≤ 1000000000
theorem sg_self (f : Nat → Int) (a : Nat) : sg f a a = 0 := by simp [sg]
theorem sg_succ (f : Nat → Int) (a b : Nat) : sg f a (b + 1) = sg f a b + f b := by simp only [sg, sumTo]; omega
theorem sumTo_grow {f : Nat → Int} {n : Nat} (h : ∀ k, k < n → 0 ≤ f k) {a : Nat} : ∀ b, a ≤ b → b ≤ n → sumTo f a ≤ sumTo f b
  | 0, hab, _ => by obtain rfl : a = 0 := (by omega); exact Int.le_refl _
  | b + 1, hab, hb => by
    rcases Nat.lt_or_ge b a with h' | h'
    · obtain rfl : a = b + 1 := (by omega); exact Int.le_refl _
    · have := sumTo_grow h b h' (by omega)
      have := h b (by omega)
      simp only [sumTo]; omega
theorem sg_nonneg {f : Nat → Int} {n : Nat} (h : ∀ k, k < n → 0 ≤ f k) {a b : Nat} (hab : a ≤ b) (hb : b ≤ n) : 0 ≤ sg f a b := by
  have := sumTo_grow h b hab hb
  simp only [sg]; omega
theorem sg_left {f : Nat → Int} {n : Nat} (h : ∀ k, k < n → 0 ≤ f k) {a a' b : Nat} (haa : a ≤ a') (hab : a' ≤ b) (hb : b ≤ n) : sg f a' b ≤ sg f a b := by
  have := sumTo_grow h a' haa (by omega)
  simp only [sg]; omega
theorem sg_right {f : Nat → Int} {n : Nat} (h : ∀ k, k < n → 0 ≤ f k) {a b b' : Nat} (hbb : b ≤ b') (hb : b' ≤ n) : sg f a b ≤ sg f a b' := by
  have := sumTo_grow h b' hbb hb
  simp only [sg]; omega
theorem sumTo_most {f : Nat → Int} {n : Nat} (h : ∀ k, k < n → 0 ≤ f k ∧ f k ≤ 1000000000) : ∀ b, b ≤ n → 0 ≤ sumTo f b ∧ sumTo f b ≤ b * 1000000000
  | 0, _ => by simp [sumTo]
  | b + 1, hb => by
    have := sumTo_most h b (by omega)
    have := h b (by omega)
    simp only [sumTo]; omega
/-- from x to y by k nodes of at most M each -/
def Rk (f : Nat → Int) (M : Int) : Nat → Nat → Nat → Prop
  | 0, x, y => x = y
  | k + 1, x, y => ∃ z, x ≤ z ∧ sg f x z ≤ M ∧ Rk f M k z y
theorem Rk.le {f : Nat → Int} {M : Int} : ∀ {k x y : Nat}, Rk f M k x y → x ≤ y
  | 0, x, y, h => by cases h; exact Nat.le_refl _
  | k + 1, x, y, h => by obtain ⟨z, h1, _, h3⟩ := h; exact Nat.le_trans h1 h3.le
theorem Rk.mono {f : Nat → Int} {M M' : Int} (hM : M ≤ M') : ∀ {k x y : Nat}, Rk f M k x y → Rk f M' k x y
  | 0, x, y, h => h
  | k + 1, x, y, h => by obtain ⟨z, h1, h2, h3⟩ := h; exact ⟨z, h1, by omega, h3.mono hM⟩
theorem Rk.more {f : Nat → Int} {M : Int} (hM : 0 ≤ M) {k x y : Nat} (h : Rk f M k x y) : Rk f M (k + 1) x y := ⟨x, Nat.le_refl _, by rw [sg_self]; exact hM, h⟩
theorem Rk.moreN {f : Nat → Int} {M : Int} (hM : 0 ≤ M) {k x y : Nat} (h : Rk f M k x y) : ∀ m, k ≤ m → Rk f M m x y
  | 0, hm => by obtain rfl : k = 0 := (by omega); exact h
  | m + 1, hm => by
    rcases Nat.lt_or_ge m k with h' | h'
    · obtain rfl : k = m + 1 := (by omega); exact h
    · exact (h.moreN hM m h').more hM
/-- the last node -/
theorem Rk.back {f : Nat → Int} {M : Int} : ∀ {k x y : Nat}, Rk f M (k + 1) x y ↔ ∃ z, Rk f M k x z ∧ z ≤ y ∧ sg f z y ≤ M
  | 0, x, y => by
    constructor
    · rintro ⟨z, h1, h2, h3⟩; cases h3; exact ⟨x, rfl, h1, h2⟩
    · rintro ⟨z, h1, h2, h3⟩; cases h1; exact ⟨y, h2, h3, rfl⟩
  | k + 1, x, y => by
    constructor
    · rintro ⟨z, h1, h2, h3⟩
      obtain ⟨u, hu, h4, h5⟩ := Rk.back.1 h3
      exact ⟨u, ⟨z, h1, h2, hu⟩, h4, h5⟩
    · rintro ⟨u, ⟨z, h1, h2, h3⟩, h4, h5⟩
      exact ⟨z, h1, h2, Rk.back.2 ⟨u, h3, h4, h5⟩⟩
theorem Rk.all {f : Nat → Int} {M : Int} (k : Nat) {x y : Nat} (hxy : x ≤ y) (hS : sg f x y ≤ M) (hM : 0 ≤ M) : Rk f M (k + 1) x y :=
  Rk.moreN hM (show Rk f M 1 x y from ⟨y, hxy, hS, rfl⟩) _ (by omega)
/-- a node more on the left, or less of it -/
theorem Rk.left {f : Nat → Int} {M : Int} {n : Nat} (h : ∀ k, k < n → 0 ≤ f k) {k x x' y : Nat} (hk : Rk f M (k + 1) x y) (hx : x ≤ x') (hy : x' ≤ y) (hn : y ≤ n) (hM : 0 ≤ M) : Rk f M (k + 1) x' y := by
  induction k generalizing x x' with
  | zero =>
    obtain ⟨z, h1, h2, h3⟩ := hk; cases h3
    exact ⟨y, hy, Int.le_trans (sg_left h hx hy hn) h2, rfl⟩
  | succ k ih =>
    obtain ⟨z, h1, h2, h3⟩ := hk
    rcases Nat.lt_or_ge z x' with h' | h'
    · exact (ih h3 (by omega) hy).more hM
    · exact ⟨z, h', Int.le_trans (sg_left h hx h' (Nat.le_trans h3.le hn)) h2, h3⟩
/-! ### the greedy share -/
/-- after i columns: the cuts and what the node has now; none if a column weighs more -/
def gr (f : Nat → Int) (M : Int) : Nat → Option (List Int × Int)
  | 0 => some ([], 0)
  | i + 1 => match gr f M i with
    | none => none
    | some (cs, now) => if M < f i then none else if M < now + f i then some (cs ++ [(i : Int)], f i) else some (cs, now + f i)
/-- the last cut -/
def lastC (cs : List Int) : Nat := (cs.getLastD 0).toNat
theorem lastC_snoc (cs : List Int) (i : Nat) : lastC (cs ++ [(i : Int)]) = i := by simp [lastC]
theorem gr_inv {f : Nat → Int} {M : Int} {n : Nat} (h : ∀ k, k < n → 0 ≤ f k) (hM : 0 ≤ M) : ∀ i, i ≤ n → ∀ cs now, gr f M i = some (cs, now) →
    lastC cs ≤ i ∧ (0 < cs.length → lastC cs < i) ∧ cs.length ≤ i ∧ now = sg f (lastC cs) i ∧ now ≤ M ∧ Rk f M cs.length 0 (lastC cs) ∧ ∀ x, x ≤ n → Rk f M cs.length 0 x → x ≤ lastC cs
  | 0, _, cs, now, e => by
    simp only [gr, Option.some.injEq, Prod.mk.injEq] at e
    obtain ⟨rfl, rfl⟩ := e
    exact ⟨by simp [lastC], by simp, by simp, by simp [sg_self, lastC], hM, by simp [lastC, Rk], fun x _ hx => by cases hx; exact Nat.zero_le _⟩
  | i + 1, hi, cs, now, e => by
    simp only [gr] at e
    split at e
    · cases e
    · rename_i cs0 now0 e0
      obtain ⟨h1, h1', hl, h2, h3, h4, h5⟩ := gr_inv h hM i (by omega) cs0 now0 e0
      have hf := h i (by omega)
      split at e
      · cases e
      · rename_i hle
        split at e
        · rename_i hgt
          simp only [Option.some.injEq, Prod.mk.injEq] at e
          obtain ⟨rfl, rfl⟩ := e
          have hlen : (cs0 ++ [(i : Int)]).length = cs0.length + 1 := by simp
          rw [lastC_snoc, hlen]
          refine ⟨by omega, by omega, by omega, by rw [sg_succ, sg_self]; omega, by omega, Rk.back.2 ⟨_, h4, h1, by omega⟩, fun x hxn hx => ?_⟩
          obtain ⟨z, hz1, hz2, hz3⟩ := Rk.back.1 hx
          have hz := h5 z (by omega) hz1
          rcases Nat.lt_or_ge i x with h' | h'
          · exfalso
            have a1 := sg_left h hz (by omega : lastC cs0 ≤ x) hxn
            have a2 := sg_right h (a := lastC cs0) (by omega : i + 1 ≤ x) hxn
            rw [sg_succ] at a2
            omega
          · exact h'
        · rename_i hgt
          simp only [Option.some.injEq, Prod.mk.injEq] at e
          obtain ⟨rfl, rfl⟩ := e
          exact ⟨by omega, by omega, by omega, by rw [sg_succ]; omega, by omega, h4, h5⟩
theorem gr_none {f : Nat → Int} {M : Int} {n : Nat} : ∀ i, i ≤ n → gr f M i = none → ∃ j, j < i ∧ M < f j
  | 0, _, e => by simp [gr] at e
  | i + 1, hi, e => by
    simp only [gr] at e
    split at e
    · rename_i e0
      obtain ⟨j, h1, h2⟩ := gr_none (n := n) i (by omega) e0
      exact ⟨j, by omega, h2⟩
    · split at e
      · rename_i hgt; exact ⟨i, by omega, hgt⟩
      · split at e <;> cases e
theorem rk_heavy {f : Nat → Int} {M : Int} {n : Nat} (h : ∀ k, k < n → 0 ≤ f k) {j : Nat} (hj : j < n) (hM : M < f j) : ∀ {t x : Nat}, x ≤ n → Rk f M t 0 x → x ≤ j
  | 0, x, _, hx => by cases hx; exact Nat.zero_le _
  | t + 1, x, hxn, hx => by
    obtain ⟨z, h1, h2, h3⟩ := Rk.back.1 hx
    have hz := rk_heavy h hj hM (Nat.le_trans h2 hxn) h1
    rcases Nat.lt_or_ge j x with h' | h'
    · exfalso
      have a1 := sg_left h hz (by omega : j ≤ x) hxn
      have a2 := sg_right h (a := j) (by omega : j + 1 ≤ x) hxn
      rw [sg_succ, sg_self] at a2
      omega
    · exact h'
def fitsB (f : Nat → Int) (n : Nat) (k : Nat) (M : Int) : Bool := match gr f M n with
  | none => false
  | some (cs, _) => decide (cs.length < k)
theorem fitsB_iff {f : Nat → Int} {M : Int} {n k : Nat} (h : ∀ k, k < n → 0 ≤ f k) (hM : 0 ≤ M) (hn : 0 < n) : fitsB f n k M = true ↔ Rk f M k 0 n := by
  unfold fitsB
  split
  · rename_i e
    obtain ⟨j, h1, h2⟩ := gr_none n (Nat.le_refl _) e
    refine ⟨fun h' => (by cases h'), fun hr => ?_⟩
    have := rk_heavy h h1 h2 (Nat.le_refl _) hr
    omega
  · rename_i cs now e
    obtain ⟨h1, h1', hl, h2, h3, h4, h5⟩ := gr_inv h hM n (Nat.le_refl _) cs now e
    rw [decide_eq_true_iff]
    constructor
    · intro hlt
      exact Rk.moreN hM (Rk.back.2 ⟨_, h4, h1, by omega⟩) k (by omega)
    · intro hr
      rcases Nat.lt_or_ge cs.length k with h' | h'
      · exact h'
      · exfalso
        have hc := h5 n (Nat.le_refl _) (hr.moreN hM _ h')
        rcases Nat.eq_zero_or_pos cs.length with h0 | h0
        · have : cs = [] := List.length_eq_zero_iff.1 h0
          subst this
          simp [lastC] at hc; omega
        · have := h1' h0; omega
/-- loads that begin later -/
theorem sumTo_shift (f : Nat → Int) (a : Nat) : ∀ b, sumTo (fun i => f (a + i)) b = sumTo f (a + b) - sumTo f a
  | 0 => by simp [sumTo]
  | b + 1 => by
    have e : sumTo f (a + (b + 1)) = sumTo f (a + b) + f (a + b) := rfl
    rw [e]; simp only [sumTo, sumTo_shift f a b]; omega
theorem sg_shift (f : Nat → Int) (a x y : Nat) : sg (fun i => f (a + i)) x y = sg f (a + x) (a + y) := by simp only [sg, sumTo_shift]; omega
theorem rk_shift {f : Nat → Int} {M : Int} (a : Nat) : ∀ {k x y : Nat}, Rk (fun i => f (a + i)) M k x y ↔ Rk f M k (a + x) (a + y)
  | 0, x, y => by simp [Rk]
  | k + 1, x, y => by
    simp only [Rk, sg_shift]
    constructor
    · rintro ⟨z, h1, h2, h3⟩; exact ⟨a + z, by omega, h2, (rk_shift a).1 h3⟩
    · rintro ⟨z, h1, h2, h3⟩
      obtain ⟨u, rfl⟩ : ∃ u, z = a + u := ⟨z - a, by omega⟩
      exact ⟨u, by omega, h2, (rk_shift a).2 h3⟩
/-! ### the table of least peaks -/
def bestTo (f : Nat → Int) (rest : Nat → Int) (x : Nat) : Nat → Int
  | 0 => -1
  | j + 1 => if rest (x + j) < 0 then bestTo f rest x j else
    let p := if sg f x (x + j) < rest (x + j) then rest (x + j) else sg f x (x + j)
    if bestTo f rest x j < 0 ∨ p < bestTo f rest x j then p else bestTo f rest x j
def tbl (f : Nat → Int) (n : Nat) : Nat → Nat → Int
  | 0, x => if x = n then 0 else -1
  | k + 1, x => bestTo f (tbl f n k) x (n + 1 - x)
theorem ex_succ {P : Nat → Prop} {j : Nat} : (∃ c, c < j + 1 ∧ P c) ↔ (∃ c, c < j ∧ P c) ∨ P j := by
  constructor
  · rintro ⟨c, h1, h2⟩
    rcases Nat.lt_succ_iff_lt_or_eq.1 h1 with h | rfl
    · exact .inl ⟨c, h, h2⟩
    · exact .inr h2
  · rintro (⟨c, h1, h2⟩ | h)
    · exact ⟨c, by omega, h2⟩
    · exact ⟨j, by omega, h⟩
theorem bestTo_iff {f : Nat → Int} {rest : Nat → Int} {x : Nat} {M : Int} : ∀ j, (0 ≤ bestTo f rest x j ∧ bestTo f rest x j ≤ M) ↔ ∃ c, c < j ∧ (0 ≤ rest (x + c) ∧ rest (x + c) ≤ M ∧ sg f x (x + c) ≤ M)
  | 0 => by simp [bestTo]
  | j + 1 => by
    rw [ex_succ, ← bestTo_iff j]
    simp only [bestTo]
    generalize bestTo f rest x j = b
    generalize rest (x + j) = r
    generalize sg f x (x + j) = s
    repeat' split
    all_goals omega
theorem tbl_iff {f : Nat → Int} {n : Nat} {M : Int} (hM : 0 ≤ M) : ∀ k x, x ≤ n → ((0 ≤ tbl f n k x ∧ tbl f n k x ≤ M) ↔ Rk f M k x n)
  | 0, x, hx => by
    simp only [tbl, Rk]
    split
    · rename_i e; simp [e, hM]
    · rename_i e; simp [e]
  | k + 1, x, hx => by
    simp only [tbl, Rk]
    rw [bestTo_iff]
    constructor
    · rintro ⟨c, h1, h2, h3, h4⟩
      exact ⟨x + c, by omega, h4, (tbl_iff hM k (x + c) (by omega)).1 ⟨h2, h3⟩⟩
    · rintro ⟨z, h1, h2, h3⟩
      have hz := h3.le
      obtain ⟨c, rfl⟩ : ∃ c, z = x + c := ⟨z - x, by omega⟩
      obtain ⟨a, b⟩ := (tbl_iff hM k (x + c) (by omega)).2 h3
      exact ⟨c, by omega, a, b, h2⟩
theorem tbl_nonneg {f : Nat → Int} {n : Nat} (h : ∀ k, k < n → 0 ≤ f k) {k x : Nat} (hk : 0 < k) (hx : x ≤ n) : 0 ≤ tbl f n k x := by
  obtain ⟨m, rfl⟩ : ∃ m, k = m + 1 := ⟨k - 1, by omega⟩
  have h0 := sg_nonneg h hx (Nat.le_refl n)
  exact ((tbl_iff (M := sg f x n) h0 (m + 1) x hx).2 (Rk.all m hx (Int.le_refl _) h0)).1
/-- the least peak -/
def leastL (f : Nat → Int) (n k : Nat) : Int := tbl f n k 0
theorem leastL_iff {f : Nat → Int} {n : Nat} {M : Int} (h : ∀ k, k < n → 0 ≤ f k) {k : Nat} (hk : 0 < k) (hM : 0 ≤ M) : leastL f n k ≤ M ↔ Rk f M k 0 n := by
  rw [← tbl_iff hM k 0 (Nat.zero_le _)]
  exact ⟨fun h' => ⟨tbl_nonneg h hk (Nat.zero_le _), h'⟩, fun h' => h'.2⟩
theorem leastL_nonneg {f : Nat → Int} {n : Nat} (h : ∀ k, k < n → 0 ≤ f k) {k : Nat} (hk : 0 < k) : 0 ≤ leastL f n k := tbl_nonneg h hk (Nat.zero_le _)
theorem leastL_le {f : Nat → Int} {n : Nat} (h : ∀ k, k < n → 0 ≤ f k) {k : Nat} (hk : 0 < k) : leastL f n k ≤ sumTo f n := by
  have h0 : sg f 0 n = sumTo f n := by simp [sg, sumTo]
  have h1 := sg_nonneg h (Nat.zero_le n) (Nat.le_refl n)
  obtain ⟨m, rfl⟩ : ∃ m, k = m + 1 := ⟨k - 1, by omega⟩
  exact (leastL_iff h hk (by omega)).2 (Rk.all m (Nat.zero_le _) (by omega) (by omega))
theorem fits_least {f : Nat → Int} {n : Nat} (h : ∀ k, k < n → 0 ≤ f k) (hn : 0 < n) {k : Nat} (hk : 0 < k) {M : Int} (hM : 0 ≤ M) : fitsB f n k M = decide (leastL f n k ≤ M) := by
  rw [Bool.eq_iff_iff, fitsB_iff h hM hn, decide_eq_true_iff, leastL_iff h hk hM]
/-- the rest of the columns -/
theorem fits_rest {f : Nat → Int} {n : Nat} (h : ∀ k, k < n → 0 ≤ f k) {x : Nat} (hx : x < n) {k : Nat} {M : Int} (hM : 0 ≤ M) : fitsB (fun i => f (x + i)) (n - x) k M = true ↔ Rk f M k x n := by
  rw [fitsB_iff (fun i hi => h (x + i) (by omega)) hM (by omega), rk_shift]
  rw [Nat.add_zero, Nat.add_sub_of_le (by omega)]
theorem rk_rest {f : Nat → Int} {n : Nat} {M : Int} (hM : 0 ≤ M) (k : Nat) : Rk f M k n n := (show Rk f M 0 n n from rfl).moreN hM k (Nat.zero_le _)
end Go.Proofs.YtjkngkogddmceaaDoor
/- Plain laws of shares: cuts and weights, peaks, the first best share. No program in sight. -/
namespace Go.Proofs.YtjkngkogddmceaaDoor
set_option linter.unusedVariables false
/-! ### cuts and weights -/
def validK (n m : Nat) (c : Nat → Int) : Prop := m < 16 ∧ ∀ i, i < m → 0 ≤ c i ∧ c i ≤ n ∧ (0 < i → c (i - 1) ≤ c i)
/-! ### peaks -/
/-! ### the first best share -/
def firstN (P : Nat → Bool) : Nat → Nat → Nat
  | 0, x => x
  | fuel + 1, x => if P x then x else firstN P fuel (x + 1)
theorem firstN_spec {P : Nat → Bool} : ∀ fuel x, x ≤ firstN P fuel x ∧ firstN P fuel x ≤ x + fuel ∧ (∀ y, x ≤ y → y < firstN P fuel x → P y = false) ∧ (firstN P fuel x < x + fuel → P (firstN P fuel x) = true)
  | 0, x => ⟨Nat.le_refl _, Nat.le_refl _, fun y h1 h2 => by simp only [firstN] at h2; omega, fun h => by simp only [firstN] at h; omega⟩
  | fuel + 1, x => by
    simp only [firstN]
    by_cases hp : P x = true
    · rw [if_pos hp]
      exact ⟨Nat.le_refl _, by omega, fun y h1 h2 => by omega, fun _ => hp⟩
    · rw [if_neg hp]
      obtain ⟨h1, h2, h3, h4⟩ := firstN_spec (P := P) fuel (x + 1)
      refine ⟨by omega, by omega, fun y hy1 hy2 => ?_, fun h => h4 (by omega)⟩
      rcases Nat.eq_or_lt_of_le hy1 with rfl | h'
      · simpa using hp
      · exact h3 y h' hy2
theorem firstN_unique {P : Nat → Bool} {n x z : Nat} (hx : x ≤ n) (h1 : x ≤ z) (h2 : z ≤ n) (h3 : ∀ y, x ≤ y → y < z → P y = false) (h4 : z < n → P z = true) : firstN P (n - x) x = z := by
  obtain ⟨a1, a2, a3, a4⟩ := firstN_spec (P := P) (n - x) x
  rcases Nat.lt_trichotomy (firstN P (n - x) x) z with h | h | h
  · have := a4 (by omega)
    rw [h3 _ a1 h] at this
    cases this
  · exact h
  · have := a3 z h1 h
    rw [h4 (by omega)] at this
    cases this
/-- can the columns from x on go to so many nodes? -/
def goB (f : Nat → Int) (n : Nat) (M : Int) (left x : Nat) : Bool := decide (x = n) || fitsB (fun i => f (x + i)) (n - x) left M
theorem goB_iff {f : Nat → Int} {n : Nat} {M : Int} (h : ∀ k, k < n → 0 ≤ f k) (hM : 0 ≤ M) {left x : Nat} (hx : x ≤ n) : goB f n M left x = true ↔ Rk f M left x n := by
  unfold goB
  rw [Bool.or_eq_true, decide_eq_true_iff]
  rcases Nat.eq_or_lt_of_le hx with rfl | hlt
  · exact ⟨fun _ => rk_rest hM left, fun _ => .inl rfl⟩
  · rw [fits_rest h hlt hM]
    exact ⟨fun h' => h'.elim (fun e => by omega) id, .inr⟩
def cutN (f : Nat → Int) (n : Nat) (M : Int) (left x : Nat) : Nat := firstN (goB f n M left) (n - x) x
def bestL (f : Nat → Int) (n : Nat) (M : Int) : Nat → Nat → List Int
  | 0, _ => []
  | left + 1, x => (cutN f n M (left + 1) x : Int) :: bestL f n M left (cutN f n M (left + 1) x)
theorem bestL_length (f : Nat → Int) (n : Nat) (M : Int) : ∀ left x, (bestL f n M left x).length = left
  | 0, _ => rfl
  | left + 1, x => by simp [bestL, bestL_length f n M left]
/-- the cut: the rest can go on, and what lies before is not too much -/
theorem cutN_spec {f : Nat → Int} {n : Nat} {M : Int} (h : ∀ k, k < n → 0 ≤ f k) (hM : 0 ≤ M) {left x : Nat} (hx : x ≤ n) (hr : Rk f M (left + 1) x n) :
    x ≤ cutN f n M left x ∧ cutN f n M left x ≤ n ∧ sg f x (cutN f n M left x) ≤ M ∧ Rk f M left (cutN f n M left x) n ∧ ∀ y, x ≤ y → y < cutN f n M left x → ¬ Rk f M left y n := by
  obtain ⟨a1, a2, a3, a4⟩ := firstN_spec (P := goB f n M left) (n - x) x
  have hc : firstN (goB f n M left) (n - x) x = cutN f n M left x := rfl
  rw [hc] at a1 a2 a3 a4
  obtain ⟨z, z1, z2, z3⟩ := hr
  have hzn := z3.le
  have hle : cutN f n M left x ≤ z := by
    rcases Nat.lt_or_ge z (cutN f n M left x) with h' | h'
    · have := a3 z z1 h'
      rw [(goB_iff h hM hzn).2 z3] at this
      cases this
    · exact h'
  refine ⟨a1, by omega, Int.le_trans (sg_right h hle hzn) z2, ?_, fun y hy1 hy2 hy3 => ?_⟩
  · rcases Nat.eq_or_lt_of_le (show cutN f n M left x ≤ n by omega) with e | h'
    · rw [e]; exact rk_rest hM left
    · exact (goB_iff h hM (by omega)).1 (a4 (by omega))
  · have := a3 y hy1 hy2
    rw [(goB_iff h hM (by omega)).2 hy3] at this
    cases this
end Go.Proofs.YtjkngkogddmceaaDoor
/- Plain laws of shares: proofs that no share has a lesser peak. No program in sight. -/
namespace Go.Proofs.YtjkngkogddmceaaDoor
set_option linter.unusedVariables false
theorem validL_nonneg {n : Nat} {f : Nat → Int} (h : validL n f) : ∀ k, k < n → 0 ≤ f k := fun k hk => (h.2.2 k hk).1
/-- the first column at which the sum from x on is at least l -/
def lastOf (f : Nat → Int) (l : Int) (n x : Nat) : Nat := firstN (fun y => decide (l ≤ sg f x (y + 1))) (n - x) x
def aN (f : Nat → Int) (l : Int) (n : Nat) : Nat → Nat
  | 0 => 0
  | t + 1 => lastOf f l n (aN f l n t)
theorem lastOf_spec {f : Nat → Int} {l : Int} {n x : Nat} (hx : x ≤ n) : x ≤ lastOf f l n x ∧ lastOf f l n x ≤ n ∧ (∀ y, x ≤ y → y < lastOf f l n x → sg f x (y + 1) < l) ∧ (lastOf f l n x < n → l ≤ sg f x (lastOf f l n x + 1)) := by
  obtain ⟨a1, a2, a3, a4⟩ := firstN_spec (P := fun y => decide (l ≤ sg f x (y + 1))) (n - x) x
  refine ⟨a1, by unfold lastOf; omega, fun y h1 h2 => ?_, fun h => ?_⟩
  · have := a3 y h1 h2
    simp only [decide_eq_false_iff_not] at this
    omega
  · have := a4 (by unfold lastOf at h; omega)
    exact of_decide_eq_true this
/-- where no load alone is the least peak: the chain goes through -/
theorem chain_spec {f : Nat → Int} {n k : Nat} (h : ∀ k, k < n → 0 ≤ f k) (hn : 0 < n) (hk : 0 < k) (hl : 0 < leastL f n k) (hne : ∀ i, i < n → f i ≠ leastL f n k) :
    ∀ t, t ≤ k → aN f (leastL f n k) n t < n ∧ Rk f (leastL f n k - 1) t 0 (aN f (leastL f n k) n t) ∧ (t < k → aN f (leastL f n k) n t < aN f (leastL f n k) n (t + 1) ∧ leastL f n k ≤ sg f (aN f (leastL f n k) n t) (aN f (leastL f n k) n (t + 1) + 1)) := by
  have hnot : ¬ Rk f (leastL f n k - 1) k 0 n := fun hr => by
    have := (leastL_iff h hk (show 0 ≤ leastL f n k - 1 by omega)).2 hr
    omega
  have hlt : ∀ i, i < n → f i < leastL f n k := fun i hi => by
    have h1 := (leastL_iff h hk (leastL_nonneg h hk)).1 (Int.le_refl _)
    have h2 := hne i hi
    rcases Int.lt_or_le (leastL f n k) (f i) with h' | h'
    · have := rk_heavy h hi h' (Nat.le_refl n) h1
      omega
    · omega
  generalize leastL f n k = l at *
  have step : ∀ t, t < k → aN f l n t < n → Rk f (l - 1) t 0 (aN f l n t) → aN f l n (t + 1) < n ∧ Rk f (l - 1) (t + 1) 0 (aN f l n (t + 1)) ∧ aN f l n t < aN f l n (t + 1) ∧ l ≤ sg f (aN f l n t) (aN f l n (t + 1) + 1) := by
    intro t ht ha hr
    obtain ⟨a1, a2, a3, a4⟩ := lastOf_spec (f := f) (l := l) (n := n) (x := aN f l n t) (by omega)
    have e : lastOf f l n (aN f l n t) = aN f l n (t + 1) := rfl
    rw [e] at a1 a2 a3 a4
    have h1 : aN f l n (t + 1) < n := by
      rcases Nat.lt_or_ge (aN f l n (t + 1)) n with h' | h'
      · exact h'
      · exfalso
        have h2 := a3 (n - 1) (by omega) (by omega)
        rw [Nat.sub_add_cancel (by omega)] at h2
        exact hnot ((Rk.back.2 ⟨_, hr, by omega, by omega⟩ : Rk f (l - 1) (t + 1) 0 n).moreN (by omega) k (by omega))
    have h3 := a4 h1
    have h4 : aN f l n t < aN f l n (t + 1) := by
      rcases Nat.eq_or_lt_of_le a1 with e' | h'
      · exfalso
        rw [← e', sg_succ, sg_self] at h3
        have := hlt _ ha
        omega
      · exact h'
    refine ⟨h1, Rk.back.2 ⟨_, hr, a1, ?_⟩, h4, h3⟩
    have h5 := a3 (aN f l n (t + 1) - 1) (by omega) (by omega)
    rw [Nat.sub_add_cancel (by omega)] at h5
    omega
  intro t
  induction t with
  | zero =>
    intro _
    have h0 : aN f l n 0 = 0 := rfl
    refine ⟨by rw [h0]; exact hn, by rw [h0]; exact rfl, fun ht => ?_⟩
    obtain ⟨_, _, b3, b4⟩ := step 0 ht (by rw [h0]; exact hn) (by rw [h0]; exact rfl)
    exact ⟨b3, b4⟩
  | succ t ih =>
    intro ht
    obtain ⟨c1, c2, _⟩ := ih (by omega)
    obtain ⟨b1, b2, _, _⟩ := step t (by omega) c1 c2
    refine ⟨b1, b2, fun ht2 => ?_⟩
    obtain ⟨_, _, d3, d4⟩ := step (t + 1) ht2 b1 b2
    exact ⟨d3, d4⟩
/-- the first column that weighs so much; n if there is none -/
def indexOf (f : Nat → Int) (l : Int) (n : Nat) : Nat := firstN (fun y => decide (f y = l)) n 0
theorem indexOf_spec (f : Nat → Int) (l : Int) (n : Nat) : indexOf f l n ≤ n ∧ (∀ y, y < indexOf f l n → f y ≠ l) ∧ (indexOf f l n < n → f (indexOf f l n) = l) := by
  obtain ⟨a1, a2, a3, a4⟩ := firstN_spec (P := fun y => decide (f y = l)) n 0
  refine ⟨by unfold indexOf; omega, fun y h => ?_, fun h => ?_⟩
  · have := a3 y (Nat.zero_le _) h
    simpa using this
  · have := a4 (by unfold indexOf at h; omega)
    exact of_decide_eq_true this
/-- the pairs of a proof -/
def proofN (f : Nat → Int) (n k : Nat) : Nat := if leastL f n k = 0 then 0 else if indexOf f (leastL f n k) n < n then 1 else k
def proofF (f : Nat → Int) (n k : Nat) : Nat → Int × Int := fun t =>
  if indexOf f (leastL f n k) n < n then ((indexOf f (leastL f n k) n : Int), (indexOf f (leastL f n k) n : Int)) else ((aN f (leastL f n k) n t : Int), (aN f (leastL f n k) n (t + 1) : Int))
end Go.Proofs.YtjkngkogddmceaaDoor
/- Plain words: lists of pairs of ints that are made by append; pairs that are held against each other. -/
namespace Go.Proofs.YtjkngkogddmceaaDoor
open Go Go.RowKit
set_option linter.unusedVariables false
theorem infoP : (Tryd.prog.info? 37).map (fun i => (i.zero, i.size, i.bytes)) = some (some (.agg #[.int .i64 0, .int .i64 0]), 2, 16) := by kernel_rfl
/-- a slice of pairs -/
def Sq (w : World) (a : Option Addr) (n : Nat) (p : Nat → Int × Int) : Prop :=
  ∀ k, k < n → ∃ b off, a = some ⟨b, off, none⟩ ∧ b < w.heap.size ∧ w.cell? ⟨b, off + k * 2, none⟩ = some (.int .i64 (p k).1) ∧ w.cell? ⟨b, off + k * 2 + 1, none⟩ = some (.int .i64 (p k).2)
theorem Sq.below {w w' : World} {a : Option Addr} {n : Nat} {p : Nat → Int × Int} (h : Sq w a n p) (hb : Below w.heap.size w w') : Sq w' a n p := fun k hkn => by
  obtain ⟨b, off, h1, h2, h3, h4⟩ := h k hkn
  exact ⟨b, off, h1, by have := hb.size; omega, (bcell hb _ _ h2).trans h3, (bcell hb _ _ h2).trans h4⟩
theorem Sq.alloc {w : World} {a : Option Addr} {n : Nat} {p : Nat → Int × Int} (h : Sq w a n p) (o : Obj) : Sq (w.alloc o) a n p := h.below (below_alloc _ _)
def prow (p : Int × Int) : List Value := [.int .i64 p.1, .int .i64 p.2]
def flatP : List (Int × Int) → List Value
  | [] => []
  | p :: L => prow p ++ flatP L
theorem flatP_snoc : ∀ L p, flatP (L ++ [p]) = flatP L ++ prow p
  | [], p => by simp [flatP]
  | q :: L, p => by simp [flatP, flatP_snoc L p]
theorem flatP_get : ∀ (L : List (Int × Int)) (k : Nat), k < L.length → (flatP L)[k * 2]? = some (.int .i64 (L.getD k (0, 0)).1) ∧ (flatP L)[k * 2 + 1]? = some (.int .i64 (L.getD k (0, 0)).2)
  | [], k, h => by simp at h
  | p :: L, 0, h => by simp [flatP, prow]
  | p :: L, k + 1, h => by
    have ih := flatP_get L k (by simpa using h)
    have e1 : (k + 1) * 2 = k * 2 + 2 := by omega
    have e2 : (k + 1) * 2 + 1 = k * 2 + 1 + 2 := by omega
    simp only [flatP, prow, e1, List.getD_cons_succ]
    exact ih
theorem sq_of_own {w : World} {base : Nat} {v : Value} {xs : List (Int × Int)} (h : w.ownsRow base 37 2 v xs.length (flatP xs)) :
    ∃ a c, v = .slice a xs.length c ∧ Sq w a xs.length (fun k => xs.getD k (0, 0)) := by
  rcases h.2 with ⟨rfl, h0⟩ | ⟨g, cap, cur, rfl, hb, hh, hn, hm, hc, ht⟩
  · exact ⟨none, 0, by rw [h0], fun k hk => by omega⟩
  · refine ⟨some ⟨g, 0, none⟩, cap, rfl, fun k hk => ⟨g, 0, rfl, ?_, ?_, ?_⟩⟩
    · rcases Nat.lt_or_ge g w.heap.size with h' | h'
      · exact h'
      · rw [Array.getElem?_eq_none h'] at hh; cases hh
    · rw [Nat.zero_add, cell_of_row w g (k * 2) cur 37 (0, 0) hh]
      have h1 : (cur.toList.take (xs.length * 2))[k * 2]? = (flatP xs)[k * 2]? := by rw [ht]
      rw [List.getElem?_take, if_pos (by omega), (flatP_get xs k hk).1] at h1
      simpa using h1
    · rw [Nat.zero_add, cell_of_row w g (k * 2 + 1) cur 37 (0, 0) hh]
      have h1 : (cur.toList.take (xs.length * 2))[k * 2 + 1]? = (flatP xs)[k * 2 + 1]? := by rw [ht]
      rw [List.getElem?_take, if_pos (by omega), (flatP_get xs k hk).2] at h1
      simpa using h1
theorem pown_snoc {w : World} {base : Nat} {v : Value} {xs : List (Int × Int)} {p : Int × Int} (h : w.ownsRow base 37 2 v (xs.length + 1) (flatP xs ++ prow p)) :
    w.ownsRow base 37 2 v (xs ++ [p]).length (flatP (xs ++ [p])) := by
  rw [flatP_snoc, List.length_append]; exact h
theorem pcells_new (w : World) (p : Int × Int) (t : TypeId) : ∀ j u, (prow p)[j]? = some u → (w.alloc (.cells #[.int .i64 p.1, .int .i64 p.2] t)).cell? ((⟨w.heap.size, 0, none⟩ : Addr).add j) = some u := by
  intro j u hj
  have h := cell_new w #[.int .i64 p.1, .int .i64 p.2] t j u (by simpa [prow] using hj)
  have e : (⟨w.heap.size, 0, none⟩ : Addr).add j = ⟨w.heap.size, j, none⟩ := by by_cases hj0 : j = 0 <;> simp [Addr.add, hj0]
  rw [e]
  exact h
/-- a list of pairs and an error -/
def PairPost (xs : List (Int × Int)) (err : Int) (w : World) (e : Ending) (w' : World) : Prop :=
  ∃ a c, e = .returned (.tuple #[.slice a xs.length c, .int .i64 err]) ∧ Sq w' a xs.length (fun k => xs.getD k (0, 0)) ∧ Below w.heap.size w w'
theorem pairPost_nil {w w' : World} {err : Int} (hb : Below w.heap.size w w') : PairPost [] err w (.returned (.tuple #[.slice none 0 0, .int .i64 err])) w' :=
  ⟨none, 0, rfl, fun k hk => absurd hk (by simp), hb⟩
theorem pairPost_own {w w' : World} {base : Nat} {v : Value} {xs : List (Int × Int)} {err : Int} (h : w'.ownsRow base 37 2 v xs.length (flatP xs)) (hb : Below w.heap.size w w') :
    PairPost xs err w (.returned (.tuple #[v, .int .i64 err])) w' := by
  obtain ⟨a, c, rfl, hs⟩ := sq_of_own h
  exact ⟨a, c, rfl, hs, hb⟩
theorem cellsI1 : Tryd.prog.cellsOf 3 = 1 := by kernel_rfl
theorem equalIn_i (d : Nat) (a b : Int) (w : World) : (Op.equalIn (d + 1) 3 (.int .i64 a) (.int .i64 b)).run Tryd.prog w = .ok (a == b) w := by
  simp [Op.equalIn, run_underlying Tryd.underlying3]
theorem equalIn_pair (n : Nat) (a b e f : Int) (w : World) : (Op.equalIn (n + 2) 37 (.agg #[.int .i64 a, .int .i64 b]) (.agg #[.int .i64 e, .int .i64 f])).run Tryd.prog w
    = .ok (a == e && b == f) w := by
  obtain ⟨i0, hi, hz0, hz1, hz2⟩ := info_parts infoI
  rw [run_equalIn_array w (n + 1) _ _ Tryd.underlying37 hi, cellsI1]
  have hp : ∀ (cs : Array Value) (j : Nat) (v : Value), cs[j]? = some v → ∀ (w : World), (part 3 cs j).run Tryd.prog w = .ok v w := by
    intro cs j v hv w
    simp [part, hv, go_sem]
  have h0 := hp #[.int .i64 a, .int .i64 b] 0 (.int .i64 a) rfl
  have h1 := hp #[.int .i64 a, .int .i64 b] 1 (.int .i64 b) rfl
  have k0 := hp #[.int .i64 e, .int .i64 f] 0 (.int .i64 e) rfl
  have k1 := hp #[.int .i64 e, .int .i64 f] 1 (.int .i64 f) rfl
  simp only [Op.eqItems, List.range, List.range.loop, Nat.mul_one, Sem.run_bind, h0, h1, k0, k1, Result.andThen_ok, equalIn_i, Sem.run_ite, Sem.run_pure]
  cases (a == e) <;> cases (b == f) <;> rfl
theorem neq_pair (a b e f : Int) (w : World) : (binOp .neq 37 (.agg #[.int .i64 a, .int .i64 b]) (.agg #[.int .i64 e, .int .i64 f])).run Tryd.prog w
    = .ok (.bool (!(a == e && b == f))) w := by
  simp only [binOp]
  simp [Op.equal, Op.maxDepth, equalIn_pair 9998]
end Go.Proofs.YtjkngkogddmceaaDoor
/- A region that draws its order within a round of a range over a function: what only reads may be taken first. Iterators: what a range over a function asks of the function that is ranged over, and the law of the loop. Iterators that read blocks which the caller carries: the law of the loop. -/
namespace Go.Proofs.YtjkngkogddmceaaDoor
open Go Go.RowKit
section
variable {F : Fence} {n : Nat} {P : Program} {ops : Array Oper} {Q : Exit → Act → World → Prop} {md : Region.Mode} {S : World → Prop}
/-! ### from a walk outside of rounds to one within -/
end
end Go.Proofs.YtjkngkogddmceaaDoor
namespace Go.Proofs.YtjkngkogddmceaaDoor
open Go Go.RowKit
set_option linter.unusedVariables false
/-- W' is W but for the blocks in C and new ones -/
structure But (C : Nat → Prop) (W W' : World) : Prop where
  os : W'.os = W.os
  tape : W'.tape = W.tape
  output : W'.output = W.output
  size : W.heap.size ≤ W'.heap.size
  block : ∀ b, b < W.heap.size → ¬ C b → W'.heap[b]? = W.heap[b]?
theorem But.refl (C : Nat → Prop) (W : World) : But C W W := ⟨rfl, rfl, rfl, Nat.le_refl _, fun _ _ _ => rfl⟩
theorem But.trans {C : Nat → Prop} {X Y Z : World} (h : But C X Y) (k : But C Y Z) : But C X Z :=
  ⟨k.os.trans h.os, k.tape.trans h.tape, k.output.trans h.output, Nat.le_trans h.size k.size, fun b hb hc => (k.block b (Nat.lt_of_lt_of_le hb h.size) hc).trans (h.block b hb hc)⟩
theorem But.mono {C D : Nat → Prop} {X Y : World} (h : But C X Y) (hcd : ∀ b, b < X.heap.size → C b → D b) : But D X Y :=
  ⟨h.os, h.tape, h.output, h.size, fun b hb hd => h.block b hb (fun hc => hd (hcd b hb hc))⟩
theorem But.below {B : Nat} {C : Nat → Prop} {X Y : World} (h : But C X Y) (hc : ∀ b, C b → B ≤ b) : X.heap.size < B ∨ B ≤ X.heap.size → B ≤ X.heap.size → Below B X Y := fun _ hB =>
  ⟨h.os, h.tape, h.output, h.size, fun b hb => h.block b (Nat.lt_of_lt_of_le hb hB) (fun h' => by have := hc b h'; omega)⟩
theorem But.set_ {C : Nat → Prop} {X Y : World} (h : But C X Y) {p : Addr} (hp : C p.block) (u : Value) : But C X (Y.setCell p u) :=
  ⟨h.os, h.tape, h.output, by simpa [World.setCell] using h.size, fun b hb hc => (Below.heap_setCell Y p u b (fun e => hc (e ▸ hp))).trans (h.block b hb hc)⟩
theorem But.drew {C : Nat → Prop} {X Y : World} (h : But C X Y) : But C X Y.drew := ⟨h.os, h.tape, h.output, h.size, h.block⟩
theorem But.drewN {C : Nat → Prop} {X Y : World} (h : But C X Y) (k : Nat) : But C X (Y.drewN k) := ⟨h.os, h.tape, h.output, h.size, h.block⟩
theorem But.alloc {C : Nat → Prop} {X Y : World} (h : But C X Y) (o : Obj) : But C X (Y.alloc o) :=
  ⟨h.os, h.tape, h.output, by have := h.size; simp; omega, fun b hb hc => (Below.heap_alloc Y o b (Nat.lt_of_lt_of_le hb h.size)).trans (h.block b hb hc)⟩
theorem Bx.but {C : Nat → Prop} {X Y : World} {b : Nat} {vs : Array Value} (h : Bx X b vs) (hb : But C X Y) (hc : ¬ C b) : Bx Y b vs := by
  have e := hb.block b h.lt hc
  refine ⟨Nat.lt_of_lt_of_le h.lt hb.size, fun i v hi => ?_, fun i => ?_⟩
  · rw [World.cell?_of_block (w := X) (a := ⟨b, i, none⟩) e]; exact h.cells i v hi
  · rw [World.frozen?_of_block (w := X) (a := ⟨b, i, none⟩) e]; exact h.free i
/-- J hangs on the blocks in C and on those below n₀ alone -/
def Stab {β : Type} (n₀ : Nat) (J : β → (Nat → Prop) → World → Prop) : Prop := ∀ s C A B, J s C A → But (fun b => n₀ ≤ b ∧ ¬ C b) A B → J s C B
/-- C' is C and what is new since X -/
def Grw (C C' : Nat → Prop) (X : World) : Prop := ∀ b, C' b → C b ∨ X.heap.size ≤ b
theorem Grw.refl (C : Nat → Prop) (X : World) : Grw C C X := fun _ h => .inl h
/-- a round's answer -/
def Ans {α : Type} (J Jx : List α → (Nat → Prop) → World → Prop) (pre : List α) (C : Nat → Prop) (X : World) (e : Ending) (X' : World) : Prop :=
  ∃ C', But C X X' ∧ Grw C C' X ∧ ((e = .returned (.bool true) ∧ J pre C' X') ∨ (e = .returned (.bool false) ∧ Jx pre C' X'))
/-- the function g with lb calls yield with the elements of L, one by one, till a round says no more; all that it reads lies in w₀ -/
def Iter {α : Type} (P : Program) (g : Nat) (lb : Array Value) (enc : α → Array Value) (L : List α) (w₀ : World) : Prop :=
  ∀ (l : Nat) (J Jx : List α → (Nat → Prop) → World → Prop) (C₀ : Nat → Prop) (W : World),
    Below w₀.heap.size w₀ W → (∀ pre C X, J pre C X → ∀ b, C b → w₀.heap.size ≤ b ∧ b < X.heap.size) → Stab w₀.heap.size J → Stab w₀.heap.size Jx →
    (∀ pre x C X, J pre C X → Below w₀.heap.size w₀ X → pre ++ [x] <+: L → YieldAt Fence.wide 0 P l (enc x) X (Ans J Jx (pre ++ [x]) C X)) →
    J [] C₀ W →
    Calls P g (#[.func (.yield l) #[] #[]] ++ lb) W fun e X => (∃ v, e = .returned v) ∧ ∃ C', But C₀ W X ∧ Grw C₀ C' W ∧ (J L C' X ∨ ∃ pre, pre <+: L ∧ Jx pre C' X)
/-- what the caller's word says at a later beginning, said at the elder one -/
def Elder {α : Type} (w₀ w₁ : World) (J : List α → (Nat → Prop) → World → Prop) (C₀ : Nat → Prop) (W : World) (pre : List α) (C : Nat → Prop) (X : World) : Prop :=
  ∃ D, C = (fun b => D b ∨ (w₀.heap.size ≤ b ∧ b < w₁.heap.size)) ∧ J pre D X ∧ Below w₁.heap.size w₁ X ∧ Grw C₀ D W ∧ W.heap.size ≤ X.heap.size
theorem elder_stab {α : Type} {w₀ w₁ : World} {J : List α → (Nat → Prop) → World → Prop} {C₀ : Nat → Prop} {W : World} (hs : w₀.heap.size ≤ w₁.heap.size) (hJ : Stab w₁.heap.size J) : Stab w₀.heap.size (Elder w₀ w₁ J C₀ W) := by
  rintro pre C A B ⟨D, rfl, hj, hX, hg, hz⟩ hbut
  refine ⟨D, rfl, hJ pre D A B hj (hbut.mono fun b _ h' => ⟨by omega, fun h2 => h'.2 (.inl h2)⟩), ?_, hg, Nat.le_trans hz hbut.size⟩
  exact hX.trans ⟨hbut.os, hbut.tape, hbut.output, hbut.size, fun b hb' => hbut.block b (by have := hX.size; omega) (fun h2 => h2.2 (.inr ⟨h2.1, hb'⟩))⟩
theorem Iter.later {α : Type} {P : Program} {g : Nat} {lb : Array Value} {enc : α → Array Value} {L : List α} {w₀ w₁ : World} (h : Iter P g lb enc L w₀) (hb : Below w₀.heap.size w₀ w₁) : Iter P g lb enc L w₁ := by
  intro l J Jx C₀ W hW hC hJ hJx hY h0
  have hs := hb.size
  refine (h l (Elder w₀ w₁ J C₀ W) (Elder w₀ w₁ Jx C₀ W) (fun b => C₀ b ∨ (w₀.heap.size ≤ b ∧ b < w₁.heap.size)) W (hb.trans (hW.mono hs)) ?_ (elder_stab hs hJ) (elder_stab hs hJx) ?_ ⟨C₀, rfl, h0, hW, Grw.refl _ _, Nat.le_refl _⟩).mono ?_
  · rintro pre C X ⟨D, rfl, hj, hX, _, _⟩ b (hb' | hb')
    · have := hC pre D X hj b hb'; omega
    · have := hX.size; omega
  · rintro pre x C X ⟨D, rfl, hj, hX, hgD, hz⟩ _ hpre
    obtain ⟨fn, tmps, assign, body, hy, hR⟩ := hY pre x D X hj hX hpre
    refine ⟨fn, tmps, assign, body, hy, hR.mono fun e X' hA => ?_⟩
    obtain ⟨D', hbut, hg, hor⟩ := hA
    have hX' : Below w₁.heap.size w₁ X' := hX.trans ⟨hbut.os, hbut.tape, hbut.output, hbut.size, fun b hb' => hbut.block b (by have := hX.size; omega) (fun h2 => by have := hC pre D X hj b h2; omega)⟩
    have hgD' : Grw C₀ D' W := fun b hd => by
      rcases hg b hd with h2 | h2
      · exact hgD b h2
      · exact .inr (by omega)
    have hz' := Nat.le_trans hz hbut.size
    refine ⟨fun b => D' b ∨ (w₀.heap.size ≤ b ∧ b < w₁.heap.size), hbut.mono (fun b _ h2 => .inl h2), fun b h2 => h2.elim (fun h3 => (hg b h3).imp .inl id) (fun h3 => .inl (.inr h3)), ?_⟩
    exact hor.imp (fun h => ⟨h.1, D', rfl, h.2, hX', hgD', hz'⟩) (fun h => ⟨h.1, D', rfl, h.2, hX', hgD', hz'⟩)
  · rintro e X ⟨hv, C', hbut, _, hor⟩
    have key : Below w₁.heap.size w₁ X → But C₀ W X := fun hX => ⟨hbut.os, hbut.tape, hbut.output, hbut.size, fun b hb' hc => by
        by_cases h1 : b < w₁.heap.size
        · exact (hX.block b h1).trans (hW.block b h1).symm
        · exact hbut.block b hb' (fun h2 => h2.elim hc (fun h3 => h1 h3.2))⟩
    refine ⟨hv, ?_⟩
    rcases hor with ⟨D, _, hj, hX, hg, _⟩ | ⟨pre, hpre, D, _, hj, hX, hg, _⟩
    · exact ⟨D, key hX, hg, .inl hj⟩
    · exact ⟨D, key hX, hg, .inr ⟨pre, hpre, hj⟩⟩
/-! ### the law of the loop -/
section
variable {α : Type} {P : Program} {g : Operand} {ps : Array Tmp} {assign body : Code} {a : Act} {gf : Nat} {lb : Array Value} {enc : α → Array Value} {L : List α} {w₀ : World}
end
end Go.Proofs.YtjkngkogddmceaaDoor
namespace Go.Proofs.YtjkngkogddmceaaDoor
open Go Go.RowKit
set_option linter.unusedVariables false
section
variable {α : Type} {P : Program} {g : Operand} {ps : Array Tmp} {assign body : Code} {a : Act} {gf : Nat} {lb : Array Value} {enc : α → Array Value} {L : List α} {w₀ : World}
end
end Go.Proofs.YtjkngkogddmceaaDoor
/- Walks: SameInts, Same. -/
namespace Go.Proofs.YtjkngkogddmceaaDoor
open Go.RowKit
set_option linter.unusedVariables false
def sameL (n : Nat) (f : Nat → Int) (m : Nat) (g : Nat → Int) : Bool := decide (n = m ∧ ∀ k, k < n → f k = g k)
theorem sameL_iff {n : Nat} {f : Nat → Int} {m : Nat} {g : Nat → Int} : sameL n f m g = true ↔ (n = m ∧ ∀ k, k < n → f k = g k) := by simp [sameL]
theorem sameL_no {n : Nat} {f : Nat → Int} {m : Nat} {g : Nat → Int} : sameL n f m g = false ↔ ¬ (n = m ∧ ∀ k, k < n → f k = g k) := by rw [← sameL_iff]; simp
end Go.Proofs.YtjkngkogddmceaaDoor
/- How plain arguments read: ints and lists of ints. How the arguments of this seat's laws read: opened to cells. -/
namespace Go.Proofs.YtjkngkogddmceaaDoor
open Go.ChangeShapes Go.WideShapes Go.ChangeAt Go.RowKit Go.Deep
set_option linter.unusedVariables false
theorem Tryd.cells3 : Tryd.prog.cellsOf 3 = 1 := by kernel_rfl
section
variable {H : Type} {enc : TypeId × Value → H} {w : World} {spare : Nat → Bool} {held : Bool} {fuel : Nat} {cs : List Value} {x : DataW H × List MemPlace}
theorem lift_ints (h : DataW.trod enc Tryd.prog w 0 spare held fuel 22 cs = some x) :
    ∃ (a : Option Addr) (n c : Nat) (f : Nat → Int), cs = [.slice a n c] ∧ n ≤ maxLen ∧ n ≤ c ∧ c ≤ maxLen ∧ Sl w a n f ∧ ∀ k, k < n → (Lit.int .i64 (f k)).wf = true := by
  rcases open_ints Tryd.underlying22 Tryd.underlying3 Tryd.cells3 h with ⟨hcs, _⟩ | ⟨a, len, cap, zs, hcs, _, hl, hm, hz, _, hcell, hwz⟩
  · exact ⟨none, 0, 0, fun _ => 0, hcs, by simp, by simp, by simp, fun k hk => by omega, fun k hk => by omega⟩
  · have hlen : len ≤ zs.length := by rw [hz]; split <;> omega
    refine ⟨some a, len, cap, fun i => zs.getD i 0, hcs, Nat.le_trans hl hm, hl, hm, fun k hk => ?_, fun k hk => ?_⟩
    · have hc := hcell k (by omega)
      have h0 := hcell 0 (by omega)
      obtain ⟨b, off, spot⟩ := a
      have hspot : spot = none := by simpa [Addr.add] using World.cell?_spot h0
      subst hspot
      refine ⟨b, off, rfl, ?_, ?_⟩
      · exact World.block_lt_of_cell? w _ h0
      · rw [← hc]; by_cases h : k = 0 <;> simp [Addr.add, h]
    · have : zs.getD k 0 = zs[k]'(by omega) := by rw [List.getD_eq_getElem?_getD, List.getElem?_eq_getElem (by omega)]; rfl
      show (Lit.int .i64 (zs.getD k 0)).wf = true
      rw [this]
      exact hwz _ (List.getElem_mem _)
end
theorem slice_of {a a' : Option Addr} {n n' c c' : Nat} (h : (Value.slice a n c).cells.toList = [.slice a' n' c']) : a = a' ∧ n = n' ∧ c = c' := by
  simpa [Value.cells] using h
theorem own : ownKnob Tryd.prog.godebug = none := by kernel_rfl
theorem laidOut : laidOutB Tryd.prog = true := by kernel_rfl
end Go.Proofs.YtjkngkogddmceaaDoor
namespace Go.Proofs.YtjkngkogddmceaaDoor
open Go.ChangeShapes Go.WideShapes Go.ChangeAt Go.RowKit Go.Deep
set_option linter.unusedVariables false
section
variable {H : Type} {enc : TypeId × Value → H} {P : Program} {w : World} {spare : Nat → Bool} {held : Bool} {fuel : Nat} {cs : List Value} {x : DataW H × List MemPlace}
end
section
variable {H : Type} {enc : TypeId × Value → H} {w : World} {spare : Nat → Bool} {held : Bool} {fuel : Nat} {cs : List Value} {x : DataW H × List MemPlace}
end
end Go.Proofs.YtjkngkogddmceaaDoor
