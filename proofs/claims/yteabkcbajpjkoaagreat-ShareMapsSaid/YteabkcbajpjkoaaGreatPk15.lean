/- Walks of the share layer: validity, sums, the greedy share, of the program and of the reference. -/
import Derived.Test.YteabkcbajpjkoaaGreatPk1
import Derived.Test.YteabkcbajpjkoaaGreatPk2
import Derived.Laws.EntriesVeiled
import Derived.Deep.DeepCutAuto
import Derived.Test.YteabkcbajpjkoaaGreatPk3
import Derived.LoopIn
import Derived.Sort.CutIn
import Derived.LoopNIn
import Derived.TacticsInMore
import Derived.Shelf.Abstract
import Derived.Deep.LoopGhost
namespace Go.Proofs.YteabkcbajpjkoaaGreat
open Go Go.RowKit
set_option linter.unusedVariables false
theorem share_within (n lo hi : Int) (w : World) : Calls Tryz.prog 26 #[.int .i64 n, .int .i64 lo, .int .i64 hi] w fun e w' => e = .returned (.bool (within n lo hi)) ∧ w = w' := by
  cases h1 : decide (lo ≤ n)
  all_goals
    go_enter Tryz.func26, Tryz.ntmps26
    go_wp2
    go_ret
    exact ⟨by simp [within, h1], rfl⟩
theorem ref9_within (n lo hi : Int) (w : World) : Calls Tryz.prog 30 #[.int .i64 n, .int .i64 lo, .int .i64 hi] w fun e w' => e = .returned (.bool (within n lo hi)) ∧ w = w' := by
  cases h1 : decide (lo ≤ n)
  all_goals
    go_enter Tryz.func30, Tryz.ntmps30
    go_wp2
    go_ret
    exact ⟨by simp [within, h1], rfl⟩
def vL (n : Nat) (f : Nat → Int) : Bool := decide (1 ≤ n ∧ n ≤ 64 ∧ ∀ k, k < n → 0 ≤ f k ∧ f k ≤ 1000000000)
theorem vL_iff (n : Nat) (f : Nat → Int) : vL n f = true ↔ validL n f := by simp [vL, validL]
theorem share_valid1 (n : Int) (w : World) : Calls Tryz.prog 112 #[.int .i64 n] w fun e w' => e = .returned (.bool (!within n 0 1000000000)) ∧ w = w' := by
  go_enter Tryz.func112, Tryz.ntmps112
  go_wp2_with (go_at_call 26; refine (share_within _ _ _ _).mono ?_; rintro e w' ⟨rfl, rfl⟩)
  go_ret
  exact ⟨rfl, rfl⟩
/-- the first number out of range; n if there is none -/
def badI (f : Nat → Int) (n : Nat) : Nat := firstN (fun y => !within (f y) 0 1000000000) n 0
theorem badI_spec (f : Nat → Int) (n : Nat) : badI f n ≤ n ∧ (∀ y, y < badI f n → within (f y) 0 1000000000 = true) ∧ (badI f n < n → within (f (badI f n)) 0 1000000000 = false) := by
  obtain ⟨a1, a2, a3, a4⟩ := firstN_spec (P := fun y => !within (f y) 0 1000000000) n 0
  refine ⟨by unfold badI; omega, fun y h => ?_, fun h => ?_⟩
  · have h1 := a3 y (Nat.zero_le _) h
    revert h1; cases within (f y) 0 1000000000 <;> simp
  · have h1 := a4 (by unfold badI at h; omega)
    have h2 : (!within (f (badI f n)) 0 1000000000) = true := h1
    revert h2; cases within (f (badI f n)) 0 1000000000 <;> simp
def badR (f : Nat → Int) (n : Nat) : Int := if badI f n < n then (badI f n : Int) else -1
set_option maxHeartbeats 400000 in
theorem indexFunc_bad (a : Option Addr) (n c : Nat) (f : Nat → Int) (w : World) (hn : n ≤ 100000000) (H : Sl w a n f) :
    Calls Tryz.prog 99 #[.slice a n c, .func (.func 112) #[] #[]] w fun e w' => e = .returned (.int .i64 (badR f n)) ∧ w = w' := by
  obtain ⟨s1, s2, s3⟩ := badI_spec f n
  have HS2 := hid s2; have HS3 := hid s3; clear s2 s3
  go_enter Tryz.func99, Tryz.ntmps99
  go_wp2
  go_loop [8] (fun i => ∃ k : Nat, k ≤ badI f n ∧ i = .int .i64 k) (fun i => n - (intOf i).toNat)
  case atStart => exact ⟨0, Nat.zero_le _, rfl⟩
  case round =>
    obtain ⟨k, hk, rfl⟩ := hrel
    by_cases hlt : k < n
    · obtain ⟨b, off, rfl, hb, hc⟩ := H k hlt
      cases hw : within (f k) 0 1000000000
      · have hke : k = badI f n := by
          rcases Nat.eq_or_lt_of_le hk with e | h'
          · exact e
          · have := HS2.out k h'; rw [hw] at this; cases this
        have HKE := hid hke; clear hke
        go_wp2_with (go_at_call 112; refine (share_valid1 _ _).mono ?_; rintro e w' ⟨rfl, rfl⟩)
        go_ret
        exact ⟨ret_int (by rw [badR, ← HKE.out, if_pos hlt]), rfl⟩
      · have hke : k + 1 ≤ badI f n := by
          rcases Nat.eq_or_lt_of_le hk with e | h'
          · have := HS3.out (by omega); rw [← e, hw] at this; cases this
          · exact h'
        go_wp2_with (go_at_call 112; refine (share_valid1 _ _).mono ?_; rintro e w' ⟨rfl, rfl⟩)
        go_round
        case rel => exact ⟨k + 1, hke, by go_num⟩
        case measure => simp [intOf]; omega
    · go_wp2
      go_ret
      exact ⟨ret_int (by rw [badR, if_neg (by omega)]), rfl⟩
theorem containsFunc_bad (a : Option Addr) (n c : Nat) (f : Nat → Int) (w : World) (hn : n ≤ 100000000) (H : Sl w a n f) :
    Calls Tryz.prog 61 #[.slice a n c, .func (.func 112) #[] #[]] w fun e w' => e = .returned (.bool (decide (badI f n < n))) ∧ w = w' := by
  by_cases hb : badI f n < n
  · have h := fun W H => indexFunc_bad a n c f W hn H
    simp only [badR, if_pos hb] at h
    have hd : decide (badI f n < n) = true := by simpa using hb
    rw [hd]
    generalize badI f n = j at *
    clear hd
    go_enter Tryz.func61, Tryz.ntmps61
    go_wp2_with (go_at_call 99; refine (h _ H).mono ?_; rintro e w' ⟨rfl, rfl⟩)
    go_ret
    exact ⟨rfl, rfl⟩
  · have h := fun W H => indexFunc_bad a n c f W hn H
    simp only [badR, if_neg hb] at h
    have hd : decide (badI f n < n) = false := by simpa using hb
    rw [hd]
    generalize badI f n = j at *
    clear hd
    go_enter Tryz.func61, Tryz.ntmps61
    go_wp2_with (go_at_call 99; refine (h _ H).mono ?_; rintro e w' ⟨rfl, rfl⟩)
    go_ret
    exact ⟨rfl, rfl⟩
theorem vL_bad (f : Nat → Int) (n : Nat) : vL n f = (within n 1 64 && !decide (badI f n < n)) := by
  obtain ⟨s1, s2, s3⟩ := badI_spec f n
  rw [Bool.eq_iff_iff, vL_iff, Bool.and_eq_true, within_iff]
  simp only [validL, Bool.not_eq_true', decide_eq_false_iff_not]
  constructor
  · rintro ⟨h1, h2, h3⟩
    refine ⟨by omega, fun hb => ?_⟩
    have := s3 hb
    rw [within_no] at this
    exact this (h3 _ hb)
  · rintro ⟨h1, h2⟩
    refine ⟨by omega, by omega, fun k hk => ?_⟩
    have := s2 k (by omega)
    rwa [within_iff] at this
set_option maxHeartbeats 400000 in
theorem share_valid (a : Option Addr) (n c : Nat) (f : Nat → Int) (w : World) (hn : n ≤ 100000000) (H : Sl w a n f) : Calls Tryz.prog 78 #[.slice a n c] w fun e w' => e = .returned (.bool (vL n f)) ∧ w = w' := by
  rw [vL_bad]
  cases hw : within (n : Int) 1 64
  · go_enter Tryz.func78, Tryz.ntmps78
    go_wp2_with (go_at_call 26; refine (share_within _ _ _ _).mono ?_; rintro e w' ⟨rfl, rfl⟩)
    go_ret
    exact ⟨rfl, rfl⟩
  · have h := fun W H => containsFunc_bad a n c f W hn H
    generalize decide (badI f n < n) = d at *
    go_enter Tryz.func78, Tryz.ntmps78
    go_wp2_with (first | (go_at_call 26; refine (share_within _ _ _ _).mono ?_; rintro e w' ⟨rfl, rfl⟩) | (go_at_call 61; refine (h _ H).mono ?_; rintro e w' ⟨rfl, rfl⟩))
    go_ret
    exact ⟨by cases d <;> rfl, rfl⟩
end Go.Proofs.YteabkcbajpjkoaaGreat
/- Walks of the share layer: cuts, the first errors, sums, the greedy share. -/
namespace Go.Proofs.YteabkcbajpjkoaaGreat
open Go Go.RowKit
set_option linter.unusedVariables false
def okC (n : Nat) (c : Nat → Int) (i : Nat) : Prop := 0 ≤ c i ∧ c i ≤ n ∧ (0 < i → c (i - 1) ≤ c i)
def vK (n m : Nat) (c : Nat → Int) : Bool := decide (m < 16 ∧ ∀ i, i < m → 0 ≤ c i ∧ c i ≤ n ∧ (0 < i → c (i - 1) ≤ c i))
theorem vK_iff (n m : Nat) (c : Nat → Int) : vK n m c = true ↔ validK n m c := by simp [vK, validK]
theorem vK_no {n m i : Nat} {c : Nat → Int} (hi : i < m) (h : ¬ okC n c i) : vK n m c = false := by
  cases e : vK n m c
  · rfl
  · exact absurd (((vK_iff n m c).1 e).2 i hi) h
theorem vK_end {n m : Nat} {c : Nat → Int} (h : ∀ i, i < m → okC n c i) : vK n m c = decide (m < 16) := by
  rw [Bool.eq_iff_iff, vK_iff, decide_eq_true_iff]
  exact ⟨fun h' => h'.1, fun h' => ⟨h', h⟩⟩
theorem okC_succ {n k : Nat} {c : Nat → Int} (h : ∀ j, j < k → okC n c j) (hk : okC n c k) : ∀ j, j < k + 1 → okC n c j := fun j hj => by
  rcases Nat.lt_succ_iff_lt_or_eq.1 hj with h' | rfl
  · exact h j h'
  · exact hk
set_option maxHeartbeats 1000000 in
theorem share_validCuts (a : Option Addr) (m cap n : Nat) (c : Nat → Int) (w : World) (hm : m ≤ 100000000) (hn : n ≤ 100000000) (H : Sl w a m c) : Calls Tryz.prog 21 #[.slice a m cap, .int .i64 (n : Int)] w fun e w' => e = .returned (.bool (vK n m c)) ∧ w = w' := by
  go_enter Tryz.func21, Tryz.ntmps21
  go_wp2
  go_loop [9] (fun i => ∃ k : Nat, k ≤ m ∧ i = .int .i64 k ∧ ∀ j, j < k → okC n c j) (fun i => m - (intOf i).toNat)
  case atStart => exact ⟨0, Nat.zero_le _, rfl, fun j hj => by omega⟩
  case round =>
    obtain ⟨k, hk, rfl, hok⟩ := hrel
    have HOK := hid hok; clear hok
    by_cases hlt : k < m
    · obtain ⟨b, off, rfl, hb, hc⟩ := H k hlt
      cases hw : within (c k) 0 n
      · have hv := hid (vK_no (n := n) (c := c) hlt fun h => (within_no _ _ _).1 hw ⟨h.1, h.2.1⟩)
        go_wp2_with (go_at_call 26; refine (share_within _ _ _ _).mono ?_; rintro e w' ⟨rfl, rfl⟩)
        go_ret
        exact ⟨ret_bool hv.out.symm, rfl⟩
      · have hw2 := (within_iff _ _ _).1 hw
        obtain ⟨g0, g1⟩ := hw2
        by_cases hk0 : k = 0
        · subst hk0
          rw [Nat.add_zero] at hc
          go_wp2_with (go_at_call 26; refine (share_within _ _ _ _).mono ?_; rintro e w' ⟨rfl, rfl⟩)
          go_round
          case rel => exact ⟨0 + 1, by omega, by go_num, okC_succ HOK.out ⟨g0, g1, fun h => by omega⟩⟩
          case measure => simp [intOf]; omega
        · obtain ⟨b2, off2, e2, hb2, hc2⟩ := H (k - 1) (by omega)
          injection e2 with e2; injection e2 with e21 e22 _
          subst e21 e22
          obtain ⟨j, rfl⟩ : ∃ j, k = j + 1 := ⟨k - 1, by omega⟩
          rw [Nat.add_sub_cancel] at hc2
          by_cases hlt2 : c (j + 1) < c j
          · have hv := hid (vK_no (n := n) (c := c) hlt fun h => by have := h.2.2 (by omega); rw [Nat.add_sub_cancel] at this; omega)
            go_wp2_with (go_at_call 26; refine (share_within _ _ _ _).mono ?_; rintro e w' ⟨rfl, rfl⟩)
            go_ret
            exact ⟨ret_bool hv.out.symm, rfl⟩
          · go_wp2_with (go_at_call 26; refine (share_within _ _ _ _).mono ?_; rintro e w' ⟨rfl, rfl⟩)
            go_round
            case rel => exact ⟨j + 1 + 1, by omega, by go_num, okC_succ HOK.out ⟨g0, g1, fun h => by rw [Nat.add_sub_cancel]; omega⟩⟩
            case measure => simp [intOf]; omega
    · obtain rfl : k = m := (by omega)
      have hv := hid (vK_end HOK.out)
      by_cases h16 : k < 16
      · go_wp2
        go_ret
        exact ⟨ret_bool (by rw [hv.out]; simp; omega), rfl⟩
      · go_wp2
        go_ret
        exact ⟨ret_bool (by rw [hv.out]; simp; omega), rfl⟩
theorem ref9_within_b {n lo hi : Int} {b : Bool} (h : within n lo hi = b) (w : World) : Calls Tryz.prog 30 #[.int .i64 n, .int .i64 lo, .int .i64 hi] w fun e w' => e = .returned (.bool b) ∧ w = w' := h ▸ ref9_within n lo hi w
set_option maxHeartbeats 1000000 in
theorem ref9_shared (a : Option Addr) (m cap n : Nat) (c : Nat → Int) (w : World) (hm : m ≤ 100000000) (hn : n ≤ 100000000) (H : Sl w a m c) : Calls Tryz.prog 24 #[.int .i64 (n : Int), .slice a m cap] w fun e w' => e = .returned (.bool (vK n m c)) ∧ Below w.heap.size w w' := by
  go_enter Tryz.func24, Tryz.ntmps24
  go_wp2
  go_loopw [5] (fun i wr => ∃ k : Nat, k ≤ m ∧ i = .int .i64 k ∧ (∀ j, j < k → okC n c j) ∧ Below w.heap.size w wr) (fun i _ => m - (intOf i).toNat)
  case atStart => exact ⟨0, Nat.zero_le _, rfl, fun j hj => by omega, Below.refl _ _⟩
  case round =>
    obtain ⟨k, hk, rfl, hok, hbw⟩ := hrel
    have HOK := hid hok; clear hok
    by_cases hlt : k < m
    · obtain ⟨b, off, rfl, hb, hc⟩ := (H.below hbw) k hlt
      cases hw : within (c k) 0 n
      · have hv := hid (vK_no (n := n) (c := c) hlt fun h => (within_no _ _ _).1 hw ⟨h.1, h.2.1⟩)
        go_upto_region 4 with (fail)
        go_quiet ((go_at_call 30; exact quiet_left (ref9_within_b hw _)))
        go_wp2
        go_ret
        exact ⟨ret_bool hv.out.symm, by (repeat' (first | with_reducible assumption | with_reducible exact Below.refl _ _ | with_reducible refine Below.drew ?_ | with_reducible refine below_drewN ?_ _ | with_reducible refine balloc ?_ _ | with_reducible refine bset ?_ ?_ _ | with_reducible refine Below.setCell ?_ ?_ _ | with_reducible refine Below.alloc ?_ ?_ _ | omega | (simp; done) | (simp; omega)))⟩
      · have hw2 := (within_iff _ _ _).1 hw
        obtain ⟨g0, g1⟩ := hw2
        by_cases hk0 : k = 0
        · subst hk0
          rw [Nat.add_zero] at hc
          go_upto_region 4 with (fail)
          go_quiet ((go_at_call 30; exact quiet_left (ref9_within_b hw _)))
          go_wp2
          go_roundw
          case rel => exact ⟨0 + 1, by omega, by go_num, okC_succ HOK.out ⟨g0, g1, fun h => by omega⟩, by (repeat' (first | with_reducible assumption | with_reducible exact Below.refl _ _ | with_reducible refine Below.drew ?_ | with_reducible refine below_drewN ?_ _ | with_reducible refine balloc ?_ _ | with_reducible refine bset ?_ ?_ _ | with_reducible refine Below.setCell ?_ ?_ _ | with_reducible refine Below.alloc ?_ ?_ _ | omega | (simp; done) | (simp; omega)))⟩
          case measure => simp [intOf]; omega
        · obtain ⟨b2, off2, e2, hb2, hc2⟩ := (H.below hbw) (k - 1) (by omega)
          injection e2 with e2; injection e2 with e21 e22 _
          subst e21 e22
          obtain ⟨j, rfl⟩ : ∃ j, k = j + 1 := ⟨k - 1, by omega⟩
          rw [Nat.add_sub_cancel] at hc2
          have hs1 : IntKind.i64.wrap (((j + 1 : Nat) : Int) - 1) = j := by rw [IntWalk.i64_in _ (by omega)]; omega
          cases hlt2 : decide (c (j + 1) < c j)
          · have hge : ¬ c (j + 1) < c j := by simpa using hlt2
            have HG := hid hge; clear hge
            go_upto_region 4 with (fail)
            go_quiet ((go_at_call 30; exact quiet_left (ref9_within_b hw _)))
            go_wp2
            go_roundw
            case rel => exact ⟨j + 1 + 1, by omega, by go_num, okC_succ HOK.out ⟨g0, g1, fun h => by have := HG.out; rw [Nat.add_sub_cancel]; omega⟩, by (repeat' (first | with_reducible assumption | with_reducible exact Below.refl _ _ | with_reducible refine Below.drew ?_ | with_reducible refine below_drewN ?_ _ | with_reducible refine balloc ?_ _ | with_reducible refine bset ?_ ?_ _ | with_reducible refine Below.setCell ?_ ?_ _ | with_reducible refine Below.alloc ?_ ?_ _ | omega | (simp; done) | (simp; omega)))⟩
            case measure => simp [intOf]; omega
          · have hv := hid (vK_no (n := n) (c := c) hlt fun h => by have := h.2.2 (by omega); rw [Nat.add_sub_cancel] at this; have := of_decide_eq_true hlt2; omega)
            go_upto_region 4 with (fail)
            go_quiet ((go_at_call 30; exact quiet_left (ref9_within_b hw _)))
            go_wp2
            go_ret
            exact ⟨ret_bool hv.out.symm, by (repeat' (first | with_reducible assumption | with_reducible exact Below.refl _ _ | with_reducible refine Below.drew ?_ | with_reducible refine below_drewN ?_ _ | with_reducible refine balloc ?_ _ | with_reducible refine bset ?_ ?_ _ | with_reducible refine Below.setCell ?_ ?_ _ | with_reducible refine Below.alloc ?_ ?_ _ | omega | (simp; done) | (simp; omega)))⟩
    · obtain rfl : k = m := (by omega)
      have hv := hid (vK_end HOK.out)
      by_cases h16 : k < 16
      · go_wp2
        go_ret
        exact ⟨ret_bool (by rw [hv.out]; simp; omega), by (repeat' (first | with_reducible assumption | with_reducible exact Below.refl _ _ | with_reducible refine Below.drew ?_ | with_reducible refine below_drewN ?_ _ | with_reducible refine balloc ?_ _ | with_reducible refine bset ?_ ?_ _ | with_reducible refine Below.setCell ?_ ?_ _ | with_reducible refine Below.alloc ?_ ?_ _ | omega | (simp; done) | (simp; omega)))⟩
      · go_wp2
        go_ret
        exact ⟨ret_bool (by rw [hv.out]; simp; omega), by (repeat' (first | with_reducible assumption | with_reducible exact Below.refl _ _ | with_reducible refine Below.drew ?_ | with_reducible refine below_drewN ?_ _ | with_reducible refine balloc ?_ _ | with_reducible refine bset ?_ ?_ _ | with_reducible refine Below.setCell ?_ ?_ _ | with_reducible refine Below.alloc ?_ ?_ _ | omega | (simp; done) | (simp; omega)))⟩
/-- the first error of loads and cuts; of loads and a number of nodes -/
def askS (v k : Bool) : Int := if v then (if k then 0 else 7) else 1
set_option maxHeartbeats 400000 in
theorem share_among (a : Option Addr) (n ca : Nat) (k : Int) (f : Nat → Int) (w : World) (hn : n ≤ 100000000) (H : Sl w a n f) : Calls Tryz.prog 44 #[.slice a n ca, .int .i64 k] w fun e w' => e = .returned (.int .i64 (askS (vL n f) (within k 1 16))) ∧ w = w' := by
  cases hv : vL n f
  · go_enter Tryz.func44, Tryz.ntmps44
    go_wp2_with (go_at_call 78; refine (share_valid _ _ _ f _ hn H).mono ?_; rintro e w' ⟨rfl, rfl⟩)
    go_ret
    exact ⟨rfl, rfl⟩
  · cases hk : within k 1 16
    · go_enter Tryz.func44, Tryz.ntmps44
      go_wp2_with (first | (go_at_call 78; refine (share_valid _ _ _ f _ hn H).mono ?_; rintro e w' ⟨rfl, rfl⟩) | (go_at_call 26; refine (share_within _ _ _ _).mono ?_; rintro e w1 ⟨rfl, rfl⟩))
      go_ret
      exact ⟨rfl, rfl⟩
    · go_enter Tryz.func44, Tryz.ntmps44
      go_wp2_with (first | (go_at_call 78; refine (share_valid _ _ _ f _ hn H).mono ?_; rintro e w' ⟨rfl, rfl⟩) | (go_at_call 26; refine (share_within _ _ _ _).mono ?_; rintro e w1 ⟨rfl, rfl⟩))
      go_ret
      exact ⟨rfl, rfl⟩
end Go.Proofs.YteabkcbajpjkoaaGreat
/- Walks of the share layer: the iterator over the nodes of a share. -/
namespace Go.Proofs.YteabkcbajpjkoaaGreat
open Go Go.RowKit
attribute [local go_sem] Oper.semAt_some
set_option linter.unusedVariables false
/-- the loads of node j -/
def partV (b off n m : Nat) (c : Nat → Int) (j : Nat) : Value :=
  if bd n m c j = bd n m c (j + 1) then .slice (some ⟨b, off, none⟩) 0 0 else .slice (some ⟨b, off + bd n m c j, none⟩) (bd n m c (j + 1) - bd n m c j) (bd n m c (j + 1) - bd n m c j)
def encS (b off n m : Nat) (c : Nat → Int) (j : Nat) : Array Value := #[.int .i64 (j : Int), partV b off n m c j]
theorem range_preS (k : Nat) : ∀ n, k ≤ n → List.range k <+: List.range n
  | 0, h => by rw [show k = 0 from by omega]; exact List.prefix_refl _
  | n + 1, h => by
    rcases Nat.lt_or_ge k (n + 1) with h' | h'
    · rw [List.range_succ]; exact (range_preS k n (by omega)).trans (List.prefix_append _ _)
    · rw [show k = n + 1 from by omega]; exact List.prefix_refl _
set_option maxRecDepth 100000 in
set_option maxHeartbeats 4000000 in
theorem parts_iter (bl bc b off n ca m cc : Nat) (ac : Option Addr) (c : Nat → Int) (w₀ : World) (hn : n ≤ 64) (hca : n ≤ ca) (hca2 : ca ≤ maxLen) (hc : validK n m c)
    (HC : Sl w₀ ac m c) :
    IterR Tryz.prog 90 #[.pointer (some ⟨bc, 0, none⟩), .pointer (some ⟨bl, 0, none⟩)] (encS b off n m c) (List.range (m + 1)) w₀ (fun X => Bx X bl #[.slice (some ⟨b, off, none⟩) n ca] ∧ Bx X bc #[.slice ac m cc]) := by
  intro l J Jx C₀ W hR0 hW hC hJ hJx hY h0
  refine callsIn_wide.1 (callsIn_of_wp (F := Fence.wide) (n := 0) Tryz.func90 rfl trivial ?_)
  simp only [Tryz.ntmps90, List.size_toArray, List.length_cons, List.length_nil, Nat.reduceAdd, Nat.reduceSub, Array.replicate_succ, Array.replicate_zero, List.push_toArray, List.append_toArray, List.nil_append, List.cons_append]
  have hs0 := hW.size
  unfold maxLen at hca2
  have hm16 := hc.1
  have HV := hid hc; clear hc
  have c0 := (hR0 _ _ _ h0).2.at_ 0 rfl
  gi_wp2
  gi_loopw [4, 10] (fun s4 i wr => ∃ k : Nat, k ≤ m + 1 ∧ i = .int .i64 k ∧ s4 = .int .i64 (bd n m c k : Nat) ∧ ∃ C, J (List.range k) C wr ∧ But C₀ W wr ∧ Grw C₀ C W ∧ Below w₀.heap.size w₀ wr ∧ W.heap.size ≤ wr.heap.size) (fun _ i _ => m + 1 - (intOf i).toNat)
  case atStart => exact ⟨0, Nat.zero_le _, rfl, rfl, C₀, h0, But.refl _ _, Grw.refl _ _, hW, Nat.le_refl _⟩
  case round =>
    clear c0
    obtain ⟨k, hk, rfl, rfl, C, hj, hbut, hg, hB, hz⟩ := hrel
    have l0 := (hR0 _ _ _ hj).1.at_ 0 rfl
    have c0 := (hR0 _ _ _ hj).2.at_ 0 rfl
    by_cases hlt : k < m + 1
    · have b0 := bd_step HV.out k
      have b1 := bd_le HV.out (k + 1)
      obtain ⟨fn, tmps, asg, bdy, hy, hR⟩ := hY (List.range k) k C wr hj hB (by rw [← List.range_succ]; exact range_preS (k + 1) (m + 1) (by omega))
      simp only [encS] at hy
      have hto : k < m → c k = ((bd n m c (k + 1) : Nat) : Int) := fun h => by
        have := HV.out.2 k h
        simp only [bd, if_pos h]; omega
      have hto2 : ¬ k < m → n = bd n m c (k + 1) := fun h => by simp [bd, h]
      have hp : partV b off n m c k = if bd n m c k = bd n m c (k + 1) then .slice (some ⟨b, off, none⟩) 0 0 else .slice (some ⟨b, off + bd n m c k, none⟩) (bd n m c (k + 1) - bd n m c k) (bd n m c (k + 1) - bd n m c k) := rfl
      generalize bd n m c k = x at *
      generalize hY' : bd n m c (k + 1) = y at *
      have HY := hid hY'; clear hY'
      by_cases hkm : k < m
      · obtain ⟨b2, o2, rfl, hb2, cc0⟩ := (HC.below hB) k hkm
        rw [hto hkm] at cc0
        clear hto hto2
        by_cases hxy : x = y
        · subst hxy
          rw [hp, if_pos rfl] at hy
          clear hp
          gi_wp2_with fail
          refine ⟨rfl, hR.mono ?_⟩
          rintro e W4 ⟨C', hbut4, hg4, (⟨rfl, hj4⟩ | ⟨rfl, hj4⟩)⟩
          · have hs4 := hbut4.size
            have hBw4 : Below w₀.heap.size w₀ W4 := hB.trans ⟨hbut4.os, hbut4.tape, hbut4.output, hbut4.size, fun b hb => hbut4.block b (by have := hB.size; omega) (fun h => by have := (hC _ _ _ hj b h).1; omega)⟩
            gi_wp2_with fail
            go_roundw
            case rel => exact ⟨k + 1, by omega, by go_num, by rw [HY.out], C', by rw [List.range_succ]; exact hj4, hbut.trans' hbut4 hg, fun b h => (hg4 b h).elim (hg b) (fun h2 => .inr (by omega)), hBw4, by omega⟩
            case measure => simp [intOf]; omega
          · gi_wp2_with fail
            refine bodyPost_ret (results_none rfl _ _ _) rfl ?_
            exact ⟨⟨_, rfl⟩, C', hbut.trans' hbut4 hg, fun b h => (hg4 b h).elim (hg b) (fun h2 => .inr (by omega)), .inr ⟨_, by rw [← List.range_succ]; exact range_preS (k + 1) (m + 1) (by omega), hj4⟩⟩
        · rw [hp, if_neg hxy] at hy
          have hne : ¬ y - x = 0 := by omega
          have hsub : (y : Int) - (x : Int) = ((y - x : Nat) : Int) := by omega
          clear hp
          gi_wp2_with fail
          refine ⟨rfl, hR.mono ?_⟩
          rintro e W4 ⟨C', hbut4, hg4, (⟨rfl, hj4⟩ | ⟨rfl, hj4⟩)⟩
          · have hs4 := hbut4.size
            have hBw4 : Below w₀.heap.size w₀ W4 := hB.trans ⟨hbut4.os, hbut4.tape, hbut4.output, hbut4.size, fun b hb => hbut4.block b (by have := hB.size; omega) (fun h => by have := (hC _ _ _ hj b h).1; omega)⟩
            gi_wp2_with fail
            go_roundw
            case rel => exact ⟨k + 1, by omega, by go_num, by rw [HY.out], C', by rw [List.range_succ]; exact hj4, hbut.trans' hbut4 hg, fun b h => (hg4 b h).elim (hg b) (fun h2 => .inr (by omega)), hBw4, by omega⟩
            case measure => simp [intOf]; omega
          · gi_wp2_with fail
            refine bodyPost_ret (results_none rfl _ _ _) rfl ?_
            exact ⟨⟨_, rfl⟩, C', hbut.trans' hbut4 hg, fun b h => (hg4 b h).elim (hg b) (fun h2 => .inr (by omega)), .inr ⟨_, by rw [← List.range_succ]; exact range_preS (k + 1) (m + 1) (by omega), hj4⟩⟩
      · have hny := hto2 hkm
        clear hto hto2
        subst hny
        by_cases hxy : x = n
        · subst hxy
          rw [hp, if_pos rfl] at hy
          clear hp
          gi_wp2_with fail
          refine ⟨rfl, hR.mono ?_⟩
          rintro e W4 ⟨C', hbut4, hg4, (⟨rfl, hj4⟩ | ⟨rfl, hj4⟩)⟩
          · have hs4 := hbut4.size
            have hBw4 : Below w₀.heap.size w₀ W4 := hB.trans ⟨hbut4.os, hbut4.tape, hbut4.output, hbut4.size, fun b hb => hbut4.block b (by have := hB.size; omega) (fun h => by have := (hC _ _ _ hj b h).1; omega)⟩
            gi_wp2_with fail
            go_roundw
            case rel => exact ⟨k + 1, by omega, by go_num, by rw [HY.out], C', by rw [List.range_succ]; exact hj4, hbut.trans' hbut4 hg, fun b h => (hg4 b h).elim (hg b) (fun h2 => .inr (by omega)), hBw4, by omega⟩
            case measure => simp [intOf]; omega
          · gi_wp2_with fail
            refine bodyPost_ret (results_none rfl _ _ _) rfl ?_
            exact ⟨⟨_, rfl⟩, C', hbut.trans' hbut4 hg, fun b h => (hg4 b h).elim (hg b) (fun h2 => .inr (by omega)), .inr ⟨_, by rw [← List.range_succ]; exact range_preS (k + 1) (m + 1) (by omega), hj4⟩⟩
        · rw [hp, if_neg hxy] at hy
          have hne : ¬ n - x = 0 := by omega
          have hsub : (n : Int) - (x : Int) = ((n - x : Nat) : Int) := by omega
          clear hp
          gi_wp2_with fail
          refine ⟨rfl, hR.mono ?_⟩
          rintro e W4 ⟨C', hbut4, hg4, (⟨rfl, hj4⟩ | ⟨rfl, hj4⟩)⟩
          · have hs4 := hbut4.size
            have hBw4 : Below w₀.heap.size w₀ W4 := hB.trans ⟨hbut4.os, hbut4.tape, hbut4.output, hbut4.size, fun b hb => hbut4.block b (by have := hB.size; omega) (fun h => by have := (hC _ _ _ hj b h).1; omega)⟩
            gi_wp2_with fail
            go_roundw
            case rel => exact ⟨k + 1, by omega, by go_num, by rw [HY.out], C', by rw [List.range_succ]; exact hj4, hbut.trans' hbut4 hg, fun b h => (hg4 b h).elim (hg b) (fun h2 => .inr (by omega)), hBw4, by omega⟩
            case measure => simp [intOf]; omega
          · gi_wp2_with fail
            refine bodyPost_ret (results_none rfl _ _ _) rfl ?_
            exact ⟨⟨_, rfl⟩, C', hbut.trans' hbut4 hg, fun b h => (hg4 b h).elim (hg b) (fun h2 => .inr (by omega)), .inr ⟨_, by rw [← List.range_succ]; exact range_preS (k + 1) (m + 1) (by omega), hj4⟩⟩
    · obtain rfl : k = m + 1 := (by omega)
      gi_wp2
      go_end0
      exact ⟨⟨_, rfl⟩, C, hbut, hg, .inl hj⟩
end Go.Proofs.YteabkcbajpjkoaaGreat
/- Walks of the share layer: sums, the greedy share, halving, the least peak of the program. -/
namespace Go.Proofs.YteabkcbajpjkoaaGreat
open Go Go.RowKit
set_option linter.unusedVariables false
def okF (n : Nat) (f : Nat → Int) : Prop := ∀ k, k < n → 0 ≤ f k ∧ f k ≤ 1000000000
theorem okF_pos {n : Nat} {f : Nat → Int} (h : okF n f) : ∀ k, k < n → 0 ≤ f k := fun k hk => (h k hk).1
theorem share_sum (a : Option Addr) (n ca : Nat) (f : Nat → Int) (w : World) (hn : n ≤ 64) (hf : okF n f) (H : Sl w a n f) : Calls Tryz.prog 58 #[.slice a n ca] w fun e w' => e = .returned (.int .i64 (sumTo f n)) ∧ w = w' := by
  have HF := hid hf; clear hf
  go_enter Tryz.func58, Tryz.ntmps58
  go_wp2
  go_loop [3, 8] (fun t i => ∃ k : Nat, k ≤ n ∧ i = .int .i64 k ∧ t = .int .i64 (sumTo f k)) (fun _ i => n - (intOf i).toNat)
  case atStart => exact ⟨0, Nat.zero_le _, rfl, rfl⟩
  case round =>
    obtain ⟨k, hk, rfl, rfl⟩ := hrel
    obtain ⟨s0, s1⟩ := sumTo_most HF.out k hk
    by_cases hlt : k < n
    · obtain ⟨b, off, rfl, hb, hc⟩ := H k hlt
      obtain ⟨f0, f1⟩ := HF.out k hlt
      go_wp2
      go_round
      case rel => exact ⟨k + 1, by omega, by go_num, rfl⟩
      case measure => simp [intOf]; omega
    · obtain rfl : k = n := (by omega)
      go_wp2
      go_ret
      exact ⟨rfl, rfl⟩
/-- what greedy gives: a list and whether it goes -/
def grL (f : Nat → Int) (M : Int) (n : Nat) : List Int := match gr f M n with | none => [] | some (cs, _) => cs
def grB (f : Nat → Int) (M : Int) (n : Nat) : Bool := (gr f M n).isSome
def ListB (xs : List Int) (b : Bool) (w : World) (e : Ending) (w' : World) : Prop :=
  ∃ a c, e = .returned (.tuple #[.slice a xs.length c, .bool b]) ∧ Sl w' a xs.length (fun k => xs.getD k 0) ∧ Below w.heap.size w w'
theorem listB_own {w w' : World} {base : Nat} {v : Value} {xs : List Int} {b : Bool} (h : w'.ownsRow base 3 1 v xs.length (xs.map vInt)) (hb : Below w.heap.size w w') :
    ListB xs b w (.returned (.tuple #[v, .bool b])) w' := by
  obtain ⟨a, c, rfl, hs⟩ := sl_of_own h
  exact ⟨a, c, rfl, hs, hb⟩
theorem gr_fall {f : Nat → Int} {M : Int} {k : Nat} (h : gr f M k = none ∨ M < f k) : ∀ n, k < n → gr f M n = none
  | 0, hn => by omega
  | n + 1, hn => by
    rcases Nat.lt_succ_iff_lt_or_eq.1 hn with h' | rfl
    · simp only [gr, gr_fall h n h']
    · rcases h with h | h
      · simp only [gr, h]
      · simp only [gr]
        cases gr f M k with
        | none => rfl
        | some p => simp [h]
theorem gr_step {f : Nat → Int} {M now : Int} {k : Nat} {cs : List Int} (e : gr f M k = some (cs, now)) (hf : f k ≤ M) : gr f M (k + 1) = if M < now + f k then some (cs ++ [(k : Int)], f k) else some (cs, now + f k) := by
  simp only [gr, e]; rw [if_neg (by omega)]
set_option maxRecDepth 100000 in
set_option maxHeartbeats 1000000 in
theorem share_greedy (a : Option Addr) (n ca : Nat) (f : Nat → Int) (M : Int) (w : World) (hn : n ≤ 64) (hf : okF n f) (hM : 0 ≤ M) (hM2 : M ≤ 64000000000) (H : Sl w a n f) : Calls Tryz.prog 113 #[.slice a n ca, .int .i64 M] w (ListB (grL f M n) (grB f M n) w) := by
  obtain ⟨i0, hi, hz0, hz1, hz2⟩ := info_parts infoI
  have HF := hid hf; clear hf
  go_enter Tryz.func113, Tryz.ntmps113
  go_wp2
  go_loopw [6, 7, 12] (fun v t i wr => ∃ (k : Nat) (cs : List Int) (now : Int), k ≤ n ∧ i = .int .i64 k ∧ t = .int .i64 now ∧ wr.ownsRow w.heap.size 3 1 v cs.length (cs.map vInt) ∧ gr f M k = some (cs, now) ∧ Below w.heap.size w wr) (fun _ _ i _ => n - (intOf i).toNat)
  case atStart => exact ⟨0, [], 0, Nat.zero_le _, rfl, rfl, World.ownsRow_nil .., rfl, Below.refl _ _⟩
  case round =>
    obtain ⟨k, cs, now, hk, rfl, rfl, hown, hgr, hb⟩ := hrel
    obtain ⟨_, _, hl, hnow, hle, _, _⟩ := gr_inv (okF_pos HF.out) hM k hk cs now hgr
    have hn0 : 0 ≤ now := by rw [hnow]; exact sg_nonneg (okF_pos HF.out) (gr_inv (okF_pos HF.out) hM k hk cs now hgr).1 hk
    have HG := hid hgr
    clear hnow hgr
    by_cases hlt : k < n
    · obtain ⟨b, off, rfl, hbl, hc⟩ := (H.below hb) k hlt
      obtain ⟨f0, f1⟩ := HF.out k hlt
      by_cases hgt : M < f k
      · have hnone := gr_fall (.inr hgt) n hlt
        have HN := hid hnone; clear hnone
        go_wp2
        go_ret2
        have e1 : grL f M n = [] := by simp [grL, HN.out]
        have e2 : grB f M n = false := by simp [grB, HN.out]
        rw [e1, e2]
        exact ⟨none, 0, rfl, fun k hk => absurd hk (by simp), hb⟩
      · have hst := gr_step HG.out (by omega)
        by_cases hgt2 : M < now + f k
        · rw [if_pos hgt2] at hst
          have HST := hid hst; clear hst
          have hzb := hb.size
          go_wp2_with (at_builtin; refine wpList_append_own _ rfl _ _ 25 rfl (w.heap.size) 3 i0 (.int .i64 0) 1 8 Tryz.underlying25 hi hz0 hz1 hz2 rfl (by decide) _ _ _ rfl ((hown).alloc _) ⟨wr.heap.size, 0, none⟩ 1 1 [.int .i64 ((k : Int))] rfl rfl (cell_one_new _ _ _) (by simp [Value.oneCell']) (by simp [maxLen]; omega) (by omega) (by simp; omega) ?_; intro v' w1 hown' hgrow _)
          go_roundw
          case rel => exact ⟨k + 1, cs ++ [(k : Int)], f k, by omega, by go_num, by simp, own_snoc hown', HST.out, (hb.alloc hb.size _).grown hgrow (by have := hb.size; simp; omega) (own_base hown)⟩
          case measure => simp [intOf]; omega
        · rw [if_neg hgt2] at hst
          have HST := hid hst; clear hst
          go_wp2
          go_roundw
          case rel => exact ⟨k + 1, cs, now + f k, by omega, by go_num, rfl, hown, HST.out, hb⟩
          case measure => simp [intOf]; omega
    · obtain rfl : k = n := (by omega)
      go_wp2
      go_ret2
      have e1 : grL f M k = cs := by simp [grL, HG.out]
      have e2 : grB f M k = true := by simp [grB, HG.out]
      rw [e1, e2]
      exact listB_own hown hb
theorem fitsB_gr (f : Nat → Int) (n k : Nat) (M : Int) : fitsB f n k M = (grB f M n && decide ((grL f M n).length < k)) := by
  unfold fitsB grB grL
  split
  · rename_i e; simp [e]
  · rename_i e; simp [e]
set_option maxRecDepth 100000 in
theorem share_fits (a : Option Addr) (n ca k : Nat) (f : Nat → Int) (M : Int) (w : World) (hn : n ≤ 64) (hf : okF n f) (hM : 0 ≤ M) (hM2 : M ≤ 64000000000) (H : Sl w a n f) : Calls Tryz.prog 81 #[.slice a n ca, .int .i64 (k : Int), .int .i64 M] w fun e w' => e = .returned (.bool (fitsB f n k M)) ∧ Below w.heap.size w w' := by
  have hg := fun W H => share_greedy a n ca f M W hn hf hM hM2 H
  rw [fitsB_gr]
  cases hb : grB f M n
  · rw [hb] at hg
    go_enter Tryz.func81, Tryz.ntmps81
    go_wp2_with (go_at_call 113; refine (hg _ H).mono ?_; rintro e w1 ⟨a1, c1, rfl, S1, hb1⟩)
    go_ret
    exact ⟨rfl, hb1⟩
  · rw [hb] at hg
    by_cases hlt : (grL f M n).length < k
    · go_enter Tryz.func81, Tryz.ntmps81
      go_wp2_with (go_at_call 113; refine (hg _ H).mono ?_; rintro e w1 ⟨a1, c1, rfl, S1, hb1⟩)
      go_ret
      exact ⟨ret_bool (by simp; omega), hb1⟩
    · go_enter Tryz.func81, Tryz.ntmps81
      go_wp2_with (go_at_call 113; refine (hg _ H).mono ?_; rintro e w1 ⟨a1, c1, rfl, S1, hb1⟩)
      go_ret
      exact ⟨ret_bool (by simp; omega), hb1⟩
/-- halving: the least number at which something holds -/
def HalfPost (P : Int → Bool) (lo hi : Int) (w : World) (e : Ending) (w' : World) : Prop :=
  ∃ z : Int, e = .returned (.int .i64 z) ∧ lo ≤ z ∧ z ≤ hi ∧ (∀ y, lo ≤ y → y < z → P y = false) ∧ (z < hi → P z = true) ∧ Below w.heap.size w w'
set_option maxRecDepth 100000 in
set_option maxHeartbeats 1000000 in
theorem share_halved (P : Int → Bool) (lo hi : Int) (gf : Nat) (lb : Array Value) (w : World) (h0 : 0 ≤ lo) (h1 : lo ≤ hi) (h2 : hi ≤ 64000000000)
    (hmono : ∀ x y, lo ≤ x → x ≤ y → y < hi → P x = true → P y = true) (hf : ∀ n W, lo ≤ n → n < hi → Below w.heap.size w W → Calls Tryz.prog gf (#[.int .i64 n] ++ lb) W fun e W' => e = .returned (.bool (P n)) ∧ Below W.heap.size W W')
    (eg : ∀ args w, (callFunc gf args).run Tryz.prog w = .ok (.enter gf args) w) :
    Calls Tryz.prog 79 #[.int .i64 lo, .int .i64 hi, .func (.func gf) #[] lb] w (HalfPost P lo hi w) := by
  have HM := hid hmono; clear hmono
  go_enter Tryz.func79, Tryz.ntmps79
  go_wp2
  go_loopw [0, 1] (fun s0 s1 wr => ∃ l h : Int, s0 = .int .i64 l ∧ s1 = .int .i64 h ∧ lo ≤ l ∧ l ≤ h ∧ h ≤ hi ∧ (∀ y, lo ≤ y → y < l → P y = false) ∧ (h < hi → P h = true) ∧ Below w.heap.size w wr) (fun s0 s1 _ => (intOf s1 - intOf s0).toNat)
  case atStart => exact ⟨lo, hi, rfl, rfl, by omega, h1, by omega, fun y a b => by omega, fun h => by omega, Below.refl _ _⟩
  case round =>
    obtain ⟨l, h, rfl, rfl, g1, g2, g3, g4, g5, hb⟩ := hrel
    have G4 := hid g4; have G5 := hid g5; clear g4 g5
    by_cases hlt : l < h
    · have m1 : l ≤ (l + h) / 2 := by omega
      have m2 : (l + h) / 2 < h := by omega
      have hcall := hf ((l + h) / 2) wr (by omega) (by omega) hb
      obtain ⟨m, hm⟩ : ∃ m, (l + h) / 2 = m := ⟨_, rfl⟩
      rw [hm] at hcall m1 m2
      have HMM := hid hm
      cases hp : P m
      · rw [hp] at hcall
        have hfalse : ∀ y, lo ≤ y → y < m + 1 → P y = false := fun y a b => by
          cases hy : P y
          · rfl
          · have := HM.out y m a (by omega) (by omega) hy; rw [hp] at this; cases this
        have HFA := hid hfalse; clear hfalse hm
        go_wp2_with fail
        rw [HMM.out]
        refine hcall.mono ?_
        rintro e w1 ⟨rfl, hb1⟩
        go_wp2
        go_roundw
        case rel => exact ⟨m + 1, h, rfl, rfl, by omega, by omega, g3, HFA.out, G5.out, bvia hb hb1⟩
        case measure => have := HMM.out; simp [intOf]; omega
      · rw [hp] at hcall
        have HP := hid hp; clear hp hm
        go_wp2_with fail
        rw [HMM.out]
        refine hcall.mono ?_
        rintro e w1 ⟨rfl, hb1⟩
        go_wp2
        go_roundw
        case rel => exact ⟨l, m, rfl, rfl, g1, m1, by omega, G4.out, fun _ => HP.out, bvia hb hb1⟩
        case measure => have := HMM.out; simp [intOf]; omega
    · obtain rfl : l = h := (by omega)
      go_wp2
      go_ret
      exact ⟨l, rfl, g1, g3, G4.out, G5.out, hb⟩
end Go.Proofs.YteabkcbajpjkoaaGreat
/- Walks of the share layer: the least peak and the best share of the program. -/
namespace Go.Proofs.YteabkcbajpjkoaaGreat
open Go Go.RowKit
set_option linter.unusedVariables false
theorem ent_least : ∀ args w, (callFunc 80 args).run Tryz.prog w = .ok (.enter 80 args) w := Go.Proofs.enters_of Tryz.func80 (by kernel_rfl) rfl
set_option maxRecDepth 100000 in
theorem share_least1 (n k ca bl bk : Nat) (a : Option Addr) (f : Nat → Int) (w₀ : World) (hn : n ≤ 64) (hf : okF n f) (Xl : Bx w₀ bl #[.slice a n ca]) (Xk : Bx w₀ bk #[.int .i64 (k : Int)]) (H : Sl w₀ a n f)
    (M : Int) (W : World) (hM : 0 ≤ M) (hM2 : M ≤ 64000000000) (hW : Below w₀.heap.size w₀ W) :
    Calls Tryz.prog 80 (#[.int .i64 M] ++ #[.pointer (some ⟨bl, 0, none⟩), .pointer (some ⟨bk, 0, none⟩)]) W fun e W' => e = .returned (.bool (fitsB f n k M)) ∧ Below W.heap.size W W' := by
  have l0 := (Xl.below hW).at_ 0 rfl
  have k0 := (Xk.below hW).at_ 0 rfl
  have HW := H.below hW
  show Calls Tryz.prog 80 #[.int .i64 M, .pointer (some ⟨bl, 0, none⟩), .pointer (some ⟨bk, 0, none⟩)] W _
  go_enter Tryz.func80, Tryz.ntmps80
  go_wp2_with (go_at_call 81; refine (share_fits a n ca k f M _ hn hf hM hM2 HW).mono ?_; rintro e w1 ⟨rfl, hb1⟩)
  go_ret
  exact ⟨rfl, hb1⟩
theorem fits_mono {f : Nat → Int} {n k : Nat} (hn : 0 < n) (h : ∀ k, k < n → 0 ≤ f k) {x y : Int} (h0 : 0 ≤ x) (hxy : x ≤ y) (hx : fitsB f n k x = true) : fitsB f n k y = true :=
  (fitsB_iff h (by omega) hn).2 (((fitsB_iff h h0 hn).1 hx).mono hxy)
theorem half_least {f : Nat → Int} {n k : Nat} (hn : 0 < n) (h : ∀ k, k < n → 0 ≤ f k) (hk : 0 < k) {z : Int} (z0 : 0 ≤ z) (z1 : z ≤ sumTo f n) (z2 : ∀ y, 0 ≤ y → y < z → fitsB f n k y = false) (z3 : z < sumTo f n → fitsB f n k z = true) : z = leastL f n k := by
  have l0 := leastL_nonneg h hk
  have l1 := leastL_le h hk
  rcases Int.lt_trichotomy z (leastL f n k) with h' | h' | h'
  · have := z3 (by omega)
    rw [fits_least h hn hk z0] at this
    have := of_decide_eq_true this
    omega
  · exact h'
  · have := z2 _ l0 h'
    rw [fits_least h hn hk l0] at this
    simp at this
set_option maxRecDepth 100000 in
set_option maxHeartbeats 1000000 in
theorem share_least (a : Option Addr) (n ca k : Nat) (f : Nat → Int) (w : World) (hv : validL n f) (hk : 0 < k) (H : Sl w a n f) :
    Calls Tryz.prog 45 #[.slice a n ca, .int .i64 (k : Int)] w fun e w' => e = .returned (.int .i64 (leastL f n k)) ∧ Below w.heap.size w w' := by
  obtain ⟨v1, v2, hf⟩ := hv
  obtain ⟨s0, s1⟩ := sumTo_most hf n (Nat.le_refl _)
  have hs0 := s0
  have X0 := (Bx.new w #[.slice a n ca] 25).alloc (.cells #[.int .i64 (k : Int)] 3)
  have X1 := Bx.new (w.alloc (.cells #[.slice a n ca] 25)) #[.int .i64 (k : Int)] 3
  simp only [World.size_alloc] at X1
  have hB0 : Below w.heap.size w ((w.alloc (.cells #[.slice a n ca] 25)).alloc (.cells #[.int .i64 (k : Int)] 3)) := by (repeat' (first | with_reducible assumption | with_reducible exact Below.refl _ _ | with_reducible refine Below.drew ?_ | with_reducible refine below_drewN ?_ _ | with_reducible refine balloc ?_ _ | with_reducible refine bset ?_ ?_ _ | with_reducible refine Below.setCell ?_ ?_ _ | with_reducible refine Below.alloc ?_ ?_ _ | omega | (simp; done) | (simp; omega)))
  have H0 := H.below hB0
  have hcall := fun M W => share_least1 n k ca w.heap.size (w.heap.size + 1) a f _ v2 hf X0 X1 H0 M W
  have hhalf := share_halved (fitsB f n k) 0 (sumTo f n) 80 #[.pointer (some ⟨w.heap.size, 0, none⟩), .pointer (some ⟨w.heap.size + 1, 0, none⟩)] ((w.alloc (.cells #[.slice a n ca] 25)).alloc (.cells #[.int .i64 (k : Int)] 3)) (by omega) s0 (by omega)
    (fun x y hx hxy _ h => fits_mono v1 (okF_pos hf) hx hxy h) (fun n W h0 h1 hW => hcall n W h0 (by omega) hW) ent_least
  clear hcall
  have HF := hid hf; clear hf
  go_enter Tryz.func45, Tryz.ntmps45
  go_wp2_with fail
  refine (share_sum a n ca f _ v2 HF.out H0).mono ?_
  rintro e w' ⟨rfl, rfl⟩
  go_wp2_with fail
  refine hhalf.mono ?_
  rintro e w2 ⟨z, rfl, z0, z1, z2, z3, hb2⟩
  have hz := half_least v1 (okF_pos HF.out) hk z0 z1 z2 z3
  have HZ := hid hz
  clear z2 z3 hz hhalf
  go_wp2_with fail
  go_ret
  exact ⟨ret_int HZ.out, bvia hB0 hb2⟩
/-- what Least gives -/
def leaR (f : Nat → Int) (n : Nat) (k : Int) : Int := if vL n f && within k 1 16 then leastL f n k.toNat else 0
set_option maxRecDepth 100000 in
set_option maxHeartbeats 1000000 in
theorem share_Least (a : Option Addr) (n ca : Nat) (k : Int) (f : Nat → Int) (w : World) (hn : n ≤ 100000000) (H : Sl w a n f) :
    Calls Tryz.prog 15 #[.slice a n ca, .int .i64 k] w fun e w' => e = .returned (.tuple #[.int .i64 (leaR f n k), .int .i64 (askS (vL n f) (within k 1 16))]) ∧ Below w.heap.size w w' := by
  cases hv : vL n f
  · have hE := hid (show leaR f n k = 0 by simp [leaR, hv])
    go_enter Tryz.func15, Tryz.ntmps15
    go_wp2_with (go_at_call 44; refine (share_among a n ca k f _ hn H).mono ?_; rintro e w' ⟨rfl, rfl⟩; rw [hv])
    all_goals
      go_ret2
      rw [hE.out]
      exact ⟨rfl, by (repeat' (first | with_reducible assumption | with_reducible exact Below.refl _ _ | with_reducible refine Below.drew ?_ | with_reducible refine below_drewN ?_ _ | with_reducible refine balloc ?_ _ | with_reducible refine bset ?_ ?_ _ | with_reducible refine Below.setCell ?_ ?_ _ | with_reducible refine Below.alloc ?_ ?_ _ | omega | (simp; done) | (simp; omega)))⟩
  · cases hk : within k 1 16
    · have hE := hid (show leaR f n k = 0 by simp [leaR, hk])
      go_enter Tryz.func15, Tryz.ntmps15
      go_wp2_with (go_at_call 44; refine (share_among a n ca k f _ hn H).mono ?_; rintro e w' ⟨rfl, rfl⟩; rw [hv, hk])
      go_ret2
      rw [hE.out]
      exact ⟨rfl, by (repeat' (first | with_reducible assumption | with_reducible exact Below.refl _ _ | with_reducible refine Below.drew ?_ | with_reducible refine below_drewN ?_ _ | with_reducible refine balloc ?_ _ | with_reducible refine bset ?_ ?_ _ | with_reducible refine Below.setCell ?_ ?_ _ | with_reducible refine Below.alloc ?_ ?_ _ | omega | (simp; done) | (simp; omega)))⟩
    · have hk2 := (within_iff _ _ _).1 hk
      obtain ⟨m, rfl⟩ : ∃ m : Nat, k = (m : Int) := ⟨k.toNat, by omega⟩
      have hE := hid (show leaR f n m = leastL f n m by simp [leaR, hv, hk])
      have hV := (vL_iff _ _).1 hv
      have hl := fun W H => share_least a n ca m f W hV (by omega) H
      generalize leastL f n m = L at *
      go_enter Tryz.func15, Tryz.ntmps15
      go_wp2_with (first | (go_at_call 44; refine (share_among a n ca m f _ hn H).mono ?_; rintro e w' ⟨rfl, rfl⟩; rw [hv, hk]) | (go_at_call 45; refine (hl _ H).mono ?_; rintro e w1 ⟨rfl, hb1⟩))
      go_ret2
      rw [hE.out]
      exact ⟨rfl, hb1⟩
end Go.Proofs.YteabkcbajpjkoaaGreat
/- Walks of the share layer: the best share of the program. -/
namespace Go.Proofs.YteabkcbajpjkoaaGreat
open Go Go.RowKit
set_option linter.unusedVariables false
theorem Sl.sub {w : World} {b off n x : Nat} {f : Nat → Int} (h : Sl w (some ⟨b, off, none⟩) n f) (hx : x ≤ n) : Sl w (some ⟨b, off + x, none⟩) (n - x) (fun i => f (x + i)) := fun k hk => by
  obtain ⟨b', o', e, h1, h2⟩ := h (x + k) (by omega)
  injection e with e; injection e with e1 e2 _
  subst e1 e2
  exact ⟨b, off + x, rfl, h1, by rw [Nat.add_assoc]; exact h2⟩
theorem ent_best : ∀ args w, (callFunc 82 args).run Tryz.prog w = .ok (.enter 82 args) w := Go.Proofs.enters_of Tryz.func82 (by kernel_rfl) rfl
set_option maxRecDepth 100000 in
set_option maxHeartbeats 1000000 in
theorem share_best1 (n ca left bl bk bm x : Nat) (a : Option Addr) (f : Nat → Int) (M : Int) (W : World) (hn : n ≤ 64) (hca : n ≤ ca) (hca2 : ca ≤ maxLen) (hf : okF n f) (hM : 0 ≤ M) (hM2 : M ≤ 64000000000) (Xl : Bx W bl #[.slice a n ca]) (Xk : Bx W bk #[.int .i64 (left : Int)]) (Xm : Bx W bm #[.int .i64 M]) (H : Sl W a n f) (hx : x ≤ n) :
    Calls Tryz.prog 82 (#[.int .i64 (x : Int)] ++ #[.pointer (some ⟨bl, 0, none⟩), .pointer (some ⟨bk, 0, none⟩), .pointer (some ⟨bm, 0, none⟩)]) W fun e W' => e = .returned (.bool (goB f n M left x)) ∧ Below W.heap.size W W' := by
  show Calls Tryz.prog 82 #[.int .i64 (x : Int), .pointer (some ⟨bl, 0, none⟩), .pointer (some ⟨bk, 0, none⟩), .pointer (some ⟨bm, 0, none⟩)] W _
  unfold maxLen at hca2
  by_cases hxn : x = n
  · subst hxn
    have l0 := Xl.at_ 0 rfl
    have hg : goB f x M left x = true := by simp [goB]
    have HG := hid hg; clear hg
    go_enter Tryz.func82, Tryz.ntmps82
    go_upto_region 1 with (fail)
    go_quiet (fail)
    go_wp2
    go_ret
    exact ⟨ret_bool HG.out.symm, by (repeat' (first | with_reducible assumption | with_reducible exact Below.refl _ _ | with_reducible refine Below.drew ?_ | with_reducible refine below_drewN ?_ _ | with_reducible refine balloc ?_ _ | with_reducible refine bset ?_ ?_ _ | with_reducible refine Below.setCell ?_ ?_ _ | with_reducible refine Below.alloc ?_ ?_ _ | omega | (simp; done) | (simp; omega)))⟩
  · have hlt : x < n := by omega
    obtain ⟨b, off, rfl, hb, hc0⟩ := H x hlt
    have HS := H.sub hx
    have hg : goB f n M left x = fitsB (fun i => f (x + i)) (n - x) left M := by simp [goB, hxn]
    rw [hg]
    have hfit := fun Y (hY : Below W.heap.size W Y) => share_fits (some ⟨b, off + x, none⟩) (n - x) (ca - x) left (fun i => f (x + i)) M Y (by omega) (fun k hk => hf (x + k) (by omega)) hM hM2 (HS.below hY)
    generalize fitsB (fun i => f (x + i)) (n - x) left M = v at *
    have r0 : ∀ Y, Below W.heap.size W Y → Y.cell? ⟨bl, 0, none⟩ = some (.slice (some ⟨b, off, none⟩) n ca) := fun Y h => (Xl.below h).at_ 0 rfl
    have r1 : ∀ Y, Below W.heap.size W Y → Y.cell? ⟨bk, 0, none⟩ = some (.int .i64 (left : Int)) := fun Y h => (Xk.below h).at_ 0 rfl
    have r2 : ∀ Y, Below W.heap.size W Y → Y.cell? ⟨bm, 0, none⟩ = some (.int .i64 M) := fun Y h => (Xm.below h).at_ 0 rfl
    have hne : ((x : Int) == (n : Int)) = false := by simp; omega
    have hd1 : (0 : Int) ≤ (x : Int) := by omega
    have hd2 : (x : Int) ≤ (n : Int) := by omega
    have hd3 : (n : Int) ≤ (ca : Int) := by omega
    have hd4 : ¬ ca = x := by omega
    clear hg HS hc0 Xl Xk Xm H hf
    go_enter Tryz.func82, Tryz.ntmps82
    go_upto_region 1 with (fail)
    go_region_held3 (fun Y => Below W.heap.size W Y) ((repeat' (first | with_reducible assumption | with_reducible exact Below.refl _ _ | with_reducible refine Below.drew ?_ | with_reducible refine below_drewN ?_ _ | with_reducible refine balloc ?_ _ | with_reducible refine bset ?_ ?_ _ | with_reducible refine Below.setCell ?_ ?_ _ | with_reducible refine Below.alloc ?_ ?_ _ | omega | (simp; done) | (simp; omega))))
      ((first
        | (go_at_call 81; refine (hfit _ (by (repeat' (first | with_reducible assumption | with_reducible exact Below.refl _ _ | with_reducible refine Below.drew ?_ | with_reducible refine below_drewN ?_ _ | with_reducible refine balloc ?_ _ | with_reducible refine bset ?_ ?_ _ | with_reducible refine Below.setCell ?_ ?_ _ | with_reducible refine Below.alloc ?_ ?_ _ | omega | (simp; done) | (simp; omega))))).mono ?_; rintro e w1 ⟨rfl, hb1⟩; have hB1 : Below W.heap.size W w1 := bvia (by (repeat' (first | with_reducible assumption | with_reducible exact Below.refl _ _ | with_reducible refine Below.drew ?_ | with_reducible refine below_drewN ?_ _ | with_reducible refine balloc ?_ _ | with_reducible refine bset ?_ ?_ _ | with_reducible refine Below.setCell ?_ ?_ _ | with_reducible refine Below.alloc ?_ ?_ _ | omega | (simp; done) | (simp; omega)))) hb1)
        | fail))
    all_goals
      go_wp2_with fail
      go_ret
      exact ⟨rfl, by (repeat' (first | with_reducible assumption | with_reducible exact Below.refl _ _ | with_reducible refine Below.drew ?_ | with_reducible refine below_drewN ?_ _ | with_reducible refine balloc ?_ _ | with_reducible refine bset ?_ ?_ _ | with_reducible refine Below.setCell ?_ ?_ _ | with_reducible refine Below.alloc ?_ ?_ _ | omega | (simp; done) | (simp; omega)))⟩
theorem goB_mono {f : Nat → Int} {n : Nat} {M : Int} (h : ∀ k, k < n → 0 ≤ f k) (hM : 0 ≤ M) {left x y : Nat} (hl : 0 < left) (hxy : x ≤ y) (hy : y ≤ n) (hx : goB f n M left x = true) : goB f n M left y = true := by
  obtain ⟨m, rfl⟩ : ∃ m, left = m + 1 := ⟨left - 1, by omega⟩
  exact (goB_iff h hM hy).2 (((goB_iff h hM (by omega)).1 hx).left h hxy hy (Nat.le_refl _) hM)
theorem best_next {f : Nat → Int} {n left x : Nat} {M : Int} {cs L : List Int} (h : cs ++ bestL f n M (left + 1) x = L) : (cs ++ [(cutN f n M (left + 1) x : Int)]) ++ bestL f n M left (cutN f n M (left + 1) x) = L := by
  rw [← h]; simp [bestL]
theorem append_le {cs t L : List Int} (h : cs ++ t = L) : cs.length ≤ L.length := by rw [← h]; simp
set_option maxRecDepth 100000 in
set_option maxHeartbeats 4000000 in
theorem share_best (a : Option Addr) (n ca k : Nat) (f : Nat → Int) (w : World) (hv : validL n f) (hk : 0 < k) (hk2 : k ≤ 16) (hca : n ≤ ca) (hca2 : ca ≤ maxLen) (H : Sl w a n f) :
    Calls Tryz.prog 46 #[.slice a n ca, .int .i64 (k : Int)] w fun e w' => ∃ v, e = .returned v ∧ w'.ownsRow w.heap.size 3 1 v (bestL f n (leastL f n k) (k - 1) 0).length ((bestL f n (leastL f n k) (k - 1) 0).map vInt) ∧ Below w.heap.size w w' := by
  obtain ⟨i0, hi, hz0, hz1, hz2⟩ := info_parts infoI
  have hll := hid (bestL_length f n (leastL f n k) (k - 1) 0)
  have HR := hid ((leastL_iff (validL_nonneg hv) hk (leastL_nonneg (validL_nonneg hv) hk)).1 (Int.le_refl _))
  have l0 := leastL_nonneg (validL_nonneg hv) hk
  have l1 := leastL_le (validL_nonneg hv) hk
  have l2 := (sumTo_most hv.2.2 n (Nat.le_refl _)).2
  have hl := fun W H => share_least a n ca k f W hv hk H
  obtain ⟨v1, v2, hf⟩ := hv
  obtain ⟨L, hL⟩ : ∃ L, leastL f n k = L := ⟨_, rfl⟩
  rw [hL] at hll HR l0 l1 hl
  have l3 : L ≤ 64000000000 := by omega
  clear l1 l2
  have HL := hid hL; clear hL
  have HF := hid hf; clear hf
  have X0 := Bx.new w #[.slice a n ca] 25
  have hB0 : Below w.heap.size w (w.alloc (.cells #[.slice a n ca] 25)) := by (repeat' (first | with_reducible assumption | with_reducible exact Below.refl _ _ | with_reducible refine Below.drew ?_ | with_reducible refine below_drewN ?_ _ | with_reducible refine balloc ?_ _ | with_reducible refine bset ?_ ?_ _ | with_reducible refine Below.setCell ?_ ?_ _ | with_reducible refine Below.alloc ?_ ?_ _ | omega | (simp; done) | (simp; omega)))
  go_enter Tryz.func46, Tryz.ntmps46
  go_wp2_with fail
  generalize (w.alloc (.cells #[.slice a n ca] 25)) = W0 at X0 hB0 ⊢
  have z0 := X0.lt
  have hB := hB0
  clear hB0
  replace H := H.below hB
  refine (hl _ H).mono ?_
  rintro e w1 ⟨rfl, hb1⟩
  replace X0 := X0.below hb1
  replace H := H.below hb1
  replace hB := bvia hB hb1
  clear hb1
  replace X0 := X0.alloc (.cells #[.int .i64 L] 3)
  replace H := H.alloc (.cells #[.int .i64 L] 3)
  have XM := Bx.new w1 #[.int .i64 L] 3
  replace hB := balloc hB (.cells #[.int .i64 L] 3)
  obtain ⟨w2, hw2⟩ : ∃ w2, w1.alloc (.cells #[.int .i64 L] 3) = w2 := ⟨_, rfl⟩
  have XK := Bx.new w2 #[.int .i64 ((k : Int) - 1)] 3
  have hbk : Below w2.heap.size w2 (w2.alloc (.cells #[.int .i64 ((k : Int) - 1)] 3)) := below_alloc _ _
  have hs2 : w2.heap.size = w1.heap.size + 1 := by rw [← hw2]; simp
  rw [hw2] at X0 H XM hB
  go_wp2_with fail
  have hkk : (k : Int) - 1 = ((k - 1 : Nat) : Int) := by omega
  generalize w2.alloc (.cells #[.int .i64 ((k : Int) - 1)] 3) = w3 at XK hbk ⊢
  rw [hkk] at XK
  obtain ⟨m, hm⟩ : ∃ m, k - 1 = m := ⟨_, rfl⟩
  have hk16 : m ≤ 15 := by omega
  have hk17 : k = m + 1 := by omega
  rw [hm] at XK hll
  rw [hk17] at HR
  have HMK := hid hm; clear hm hk17
  have hzz : w1.heap.size + 1 = w2.heap.size := hs2.symm
  clear hw2 hs2 hkk
  go_loopg [6, 7, 8] m (fun left v s7 s8 wr => ∃ (x : Nat) (cs : List Int) (bl : Nat), s7 = .int .i64 (x : Int) ∧ s8 = .pointer (some ⟨bl, 0, none⟩) ∧ w2.heap.size ≤ bl ∧ Bx wr bl #[.int .i64 (left : Int)] ∧ (∀ g, v.ownBlock = some g → g ≠ bl) ∧ wr.ownsRow w2.heap.size 3 1 v cs.length (cs.map vInt) ∧ cs ++ bestL f n L left x = bestL f n L m 0 ∧ Rk f L (left + 1) x n ∧ x ≤ n ∧ Below w2.heap.size w2 wr)
  case atStart => exact ⟨0, [], w1.heap.size + 1, rfl, rfl, by omega, by rw [hzz]; exact XK, fun g hg => (by cases hg), World.ownsRow_nil .., by simp, HR.out, Nat.zero_le _, hbk⟩
  case round =>
    clear XK hbk
    obtain ⟨x, cs, bl, rfl, rfl, hbl, XB, hne, hown, hcs, hr, hx, hb⟩ := hrel
    have U0 := X0.below hb; have UM := XM.below hb; have HU := H.below hb
    have hzb := hb.size
    have hcl := append_le hcs
    rw [hll.out] at hcl
    have HNE := hid hne; clear hne
    rcases Nat.eq_zero_or_pos gk with h0 | h0
    · subst h0
      have hc : cs = bestL f n L m 0 := by rw [← hcs]; simp [bestL]
      have HC := hid hc; clear hc hcs
      have b0 := XB.at_ 0 rfl
      go_wp2_with fail
      go_ret
      rw [HL.out, HMK.out, ← HC.out]
      exact ⟨_, rfl, own_mono hown (by have := hB.size; omega), bvia hB hb⟩
    · obtain ⟨j, rfl⟩ : ∃ j, gk = j + 1 := ⟨gk - 1, by omega⟩
      have hj15 : j ≤ 15 := by
        have h := congrArg List.length hcs
        rw [List.length_append, bestL_length, bestL_length] at h
        omega
      have HCS := hid hcs; have HRR := hid hr; clear hcs hr
      have hcall := share_halved (fun y => goB f n L (j + 1) y.toNat) (x : Int) (n : Int) 82 #[.pointer (some ⟨w.heap.size, 0, none⟩), .pointer (some ⟨bl, 0, none⟩), .pointer (some ⟨w1.heap.size, 0, none⟩)] wr (by omega) (by omega) (by omega)
        (fun y z hy hyz hz h => goB_mono (okF_pos HF.out) l0 (by omega) (by omega) (by omega) h)
        (fun nn W h0 h1 hW => by
          have h := share_best1 n ca (j + 1) w.heap.size bl w1.heap.size nn.toNat a f L W v2 hca hca2 HF.out l0 l3 (U0.below hW) (XB.below hW) (UM.below hW) (HU.below hW) (by omega)
          rw [Int.toNat_of_nonneg (by omega)] at h
          exact h) ent_best
      have u0 := U0.at_ 0 rfl; have b0 := XB.at_ 0 rfl
      go_wp2_with fail
      refine hcall.mono ?_
      rintro e w4 ⟨z, rfl, z0, z1, z2, z3, hb4⟩
      have hz : cutN f n L (j + 1) x = z.toNat := firstN_unique hx (by omega) (by omega) (fun y h1 h2 => by have := z2 y (by omega) (by omega); simpa using this) (fun h => z3 (by omega))
      obtain ⟨d1, d2, d3, d4, d5⟩ := cutN_spec (okF_pos HF.out) l0 hx HRR.out
      obtain ⟨y, rfl⟩ : ∃ y : Nat, z = (y : Int) := ⟨z.toNat, by omega⟩
      rw [Int.toNat_natCast] at hz
      have hnext := best_next HCS.out
      rw [hz] at d1 d2 d4 hnext
      have hle2 := append_le hnext
      rw [hll.out] at hle2
      simp only [List.length_append, List.length_cons, List.length_nil] at hle2
      have HN := hid hnext; have HD := hid d4
      clear z2 z3 hz d3 d4 d5 hnext hcall u0 b0 hcl
      have hown4 := own_below hown hb4
      have XB4 := XB.below hb4
      have hbw4 := hb.trans (hb4.mono hzb)
      have hz4 := hb4.size
      have hlt4 := XB4.lt
      go_upto_region 8 with (fail)
      go_wp2_with ((at_builtin; refine wpList_append_own _ rfl _ _ 25 rfl (w2.heap.size) 3 i0 (.int .i64 0) 1 8 Tryz.underlying25 hi hz0 hz1 hz2 rfl (by decide) _ _ _ rfl ((hown4).alloc _) ⟨w4.heap.size, 0, none⟩ 1 1 [.int .i64 ((y : Int))] rfl rfl (cell_one_new _ _ _) (by simp [Value.oneCell']) (by simp [maxLen]; omega) (by omega) (by simp; omega) ?_; intro v' w5 hown' hgrow _); have XB5 := (XB4.alloc (.cells #[.int .i64 (y : Int)] 3)).grown hgrow (fun e => HNE.out bl e.symm rfl); have b5 := XB5.at_ 0 rfl)
      have hb5 : Below w2.heap.size w2 w5 := (hbw4.alloc (by omega) _).grown hgrow (by simp; omega) (own_base hown)
      have hz5 := hb5.size
      have hlt5 := own_lt hown'
      go_roundg j
      case measure => omega
      case rel =>
        refine ⟨y, cs ++ [(y : Int)], w5.heap.size, rfl, rfl, by omega, ?_, fun g hg => by have := hlt5 g hg; omega, (own_snoc hown').alloc _, HN.out, HD.out, by omega, hb5.alloc (by omega) _⟩
        first
          | exact Bx.new w5 _ _
          | (have e : ((j : Int) + 1 - 1) = (j : Int) := (by omega); have h := Bx.new w5 #[.int .i64 ((j : Int) + 1 - 1)] 3; rw [e] at h; exact h)
end Go.Proofs.YteabkcbajpjkoaaGreat
