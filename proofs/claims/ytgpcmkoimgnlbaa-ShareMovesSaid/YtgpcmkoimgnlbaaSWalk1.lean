/- Walks of the share layer: validity, sums, the greedy share, of the program and of the reference. -/
import Derived.Test.YtgpcmkoimgnlbaaSharePlain3
import Derived.Test.YtgpcmkoimgnlbaaLists
import Derived.Laws.EntriesVeiled
import Derived.Deep.DeepCutAuto
namespace Go.Proofs.Ytgpcmkoimgnlbaa
open Go Go.RowKit
set_option linter.unusedVariables false
theorem share_within (n lo hi : Int) (w : World) : Calls Try.prog 46 #[.int .i64 n, .int .i64 lo, .int .i64 hi] w fun e w' => e = .returned (.bool (within n lo hi)) ∧ w = w' := by
  cases h1 : decide (lo ≤ n)
  all_goals
    go_enter Try.func46, Try.ntmps46
    go_wp2
    go_ret
    exact ⟨by simp [within, h1], rfl⟩
theorem ref9_within (n lo hi : Int) (w : World) : Calls Try.prog 48 #[.int .i64 n, .int .i64 lo, .int .i64 hi] w fun e w' => e = .returned (.bool (within n lo hi)) ∧ w = w' := by
  cases h1 : decide (lo ≤ n)
  all_goals
    go_enter Try.func48, Try.ntmps48
    go_wp2
    go_ret
    exact ⟨by simp [within, h1], rfl⟩
def vL (n : Nat) (f : Nat → Int) : Bool := decide (1 ≤ n ∧ n ≤ 64 ∧ ∀ k, k < n → 0 ≤ f k ∧ f k ≤ 1000000000)
theorem vL_iff (n : Nat) (f : Nat → Int) : vL n f = true ↔ validL n f := by simp [vL, validL]
theorem vL_no {n : Nat} {f : Nat → Int} (h : ¬ validL n f) : vL n f = false := by
  cases e : vL n f
  · rfl
  · exact absurd ((vL_iff n f).1 e) h
theorem share_valid1 (n : Int) (w : World) : Calls Try.prog 55 #[.int .i64 n] w fun e w' => e = .returned (.bool (!within n 0 1000000000)) ∧ w = w' := by
  go_enter Try.func55, Try.ntmps55
  go_wp2_with (go_at_call 46; refine (share_within _ _ _ _).mono ?_; rintro e w' ⟨rfl, rfl⟩)
  go_ret
  exact ⟨rfl, rfl⟩
/-- the first number out of range; n if there is none -/
def badI (f : Nat → Int) (n : Nat) : Nat := firstN (fun y => !within (f y) 0 1000000000) n 0
theorem badI_spec (f : Nat → Int) (n : Nat) : badI f n ≤ n ∧ (∀ y, y < badI f n → within (f y) 0 1000000000 = true) ∧ (badI f n < n → within (f (badI f n)) 0 1000000000 = false) := by
  obtain ⟨a1, a2, a3, a4⟩ := firstN_spec (P := fun y => !within (f y) 0 1000000000) n 0
  refine ⟨by unfold badI; omega, fun y h => ?_, fun h => ?_⟩
  · have h1 := a3 y (Nat.zero_le _) h
    revert h1; cases within (f y) 0 1000000000 <;> simp
  · have h1 := a4 (by unfold badI at h; omega)
    have h2 : (!within (f (badI f n)) 0 1000000000) = true := h1
    revert h2; cases within (f (badI f n)) 0 1000000000 <;> simp
def badR (f : Nat → Int) (n : Nat) : Int := if badI f n < n then (badI f n : Int) else -1
set_option maxHeartbeats 400000 in
theorem indexFunc_bad (a : Option Addr) (n c : Nat) (f : Nat → Int) (w : World) (hn : n ≤ 100000000) (H : Sl w a n f) :
    Calls Try.prog 73 #[.slice a n c, .func (.func 55) #[] #[]] w fun e w' => e = .returned (.int .i64 (badR f n)) ∧ w = w' := by
  obtain ⟨s1, s2, s3⟩ := badI_spec f n
  have HS2 := hid s2; have HS3 := hid s3; clear s2 s3
  go_enter Try.func73, Try.ntmps73
  go_wp2
  go_loop [8] (fun i => ∃ k : Nat, k ≤ badI f n ∧ i = .int .i64 k) (fun i => n - (intOf i).toNat)
  case atStart => exact ⟨0, Nat.zero_le _, rfl⟩
  case round =>
    obtain ⟨k, hk, rfl⟩ := hrel
    by_cases hlt : k < n
    · obtain ⟨b, off, rfl, hb, hc⟩ := H k hlt
      cases hw : within (f k) 0 1000000000
      · have hke : k = badI f n := by
          rcases Nat.eq_or_lt_of_le hk with e | h'
          · exact e
          · have := HS2.out k h'; rw [hw] at this; cases this
        have HKE := hid hke; clear hke
        go_wp2_with (go_at_call 55; refine (share_valid1 _ _).mono ?_; rintro e w' ⟨rfl, rfl⟩)
        go_ret
        exact ⟨ret_int (by rw [badR, ← HKE.out, if_pos hlt]), rfl⟩
      · have hke : k + 1 ≤ badI f n := by
          rcases Nat.eq_or_lt_of_le hk with e | h'
          · have := HS3.out (by omega); rw [← e, hw] at this; cases this
          · exact h'
        go_wp2_with (go_at_call 55; refine (share_valid1 _ _).mono ?_; rintro e w' ⟨rfl, rfl⟩)
        go_round
        case rel => exact ⟨k + 1, hke, by go_num⟩
        case measure => simp [intOf]; omega
    · go_wp2
      go_ret
      exact ⟨ret_int (by rw [badR, if_neg (by omega)]), rfl⟩
theorem containsFunc_bad (a : Option Addr) (n c : Nat) (f : Nat → Int) (w : World) (hn : n ≤ 100000000) (H : Sl w a n f) :
    Calls Try.prog 54 #[.slice a n c, .func (.func 55) #[] #[]] w fun e w' => e = .returned (.bool (decide (badI f n < n))) ∧ w = w' := by
  by_cases hb : badI f n < n
  · have h := fun W H => indexFunc_bad a n c f W hn H
    simp only [badR, if_pos hb] at h
    have hd : decide (badI f n < n) = true := by simpa using hb
    rw [hd]
    generalize badI f n = j at *
    clear hd
    go_enter Try.func54, Try.ntmps54
    go_wp2_with (go_at_call 73; refine (h _ H).mono ?_; rintro e w' ⟨rfl, rfl⟩)
    go_ret
    exact ⟨rfl, rfl⟩
  · have h := fun W H => indexFunc_bad a n c f W hn H
    simp only [badR, if_neg hb] at h
    have hd : decide (badI f n < n) = false := by simpa using hb
    rw [hd]
    generalize badI f n = j at *
    clear hd
    go_enter Try.func54, Try.ntmps54
    go_wp2_with (go_at_call 73; refine (h _ H).mono ?_; rintro e w' ⟨rfl, rfl⟩)
    go_ret
    exact ⟨rfl, rfl⟩
theorem vL_bad (f : Nat → Int) (n : Nat) : vL n f = (within n 1 64 && !decide (badI f n < n)) := by
  obtain ⟨s1, s2, s3⟩ := badI_spec f n
  rw [Bool.eq_iff_iff, vL_iff, Bool.and_eq_true, within_iff]
  simp only [validL, Bool.not_eq_true', decide_eq_false_iff_not]
  constructor
  · rintro ⟨h1, h2, h3⟩
    refine ⟨by omega, fun hb => ?_⟩
    have := s3 hb
    rw [within_no] at this
    exact this (h3 _ hb)
  · rintro ⟨h1, h2⟩
    refine ⟨by omega, by omega, fun k hk => ?_⟩
    have := s2 k (by omega)
    rwa [within_iff] at this
set_option maxHeartbeats 400000 in
theorem share_valid (a : Option Addr) (n c : Nat) (f : Nat → Int) (w : World) (hn : n ≤ 100000000) (H : Sl w a n f) : Calls Try.prog 20 #[.slice a n c] w fun e w' => e = .returned (.bool (vL n f)) ∧ w = w' := by
  rw [vL_bad]
  cases hw : within (n : Int) 1 64
  · go_enter Try.func20, Try.ntmps20
    go_wp2_with (go_at_call 46; refine (share_within _ _ _ _).mono ?_; rintro e w' ⟨rfl, rfl⟩)
    go_ret
    exact ⟨rfl, rfl⟩
  · have h := fun W H => containsFunc_bad a n c f W hn H
    generalize decide (badI f n < n) = d at *
    go_enter Try.func20, Try.ntmps20
    go_wp2_with (first | (go_at_call 46; refine (share_within _ _ _ _).mono ?_; rintro e w' ⟨rfl, rfl⟩) | (go_at_call 54; refine (h _ H).mono ?_; rintro e w' ⟨rfl, rfl⟩))
    go_ret
    exact ⟨by cases d <;> rfl, rfl⟩
set_option maxHeartbeats 400000 in
theorem ref9_valid (a : Option Addr) (n c : Nat) (f : Nat → Int) (w : World) (hn : n ≤ 100000000) (H : Sl w a n f) : Calls Try.prog 21 #[.slice a n c] w fun e w' => e = .returned (.bool (vL n f)) ∧ w = w' := by
  go_enter Try.func21, Try.ntmps21
  go_wp2
  go_loop [3] (fun i => ∃ k : Nat, k ≤ n ∧ i = .int .i64 k ∧ ∀ j, j < k → within (f j) 0 1000000000 = true) (fun i => n - (intOf i).toNat)
  case atStart => exact ⟨0, Nat.zero_le _, rfl, fun j hj => by omega⟩
  case round =>
    obtain ⟨k, hk, rfl, hok⟩ := hrel
    have HOK := hid hok; clear hok
    by_cases hlt : k < n
    · obtain ⟨b, off, rfl, hb, hc⟩ := H k hlt
      cases hw : within (f k) 0 1000000000
      · have hv : vL n f = false := vL_no fun hv => (within_no _ _ _).1 hw (hv.2.2 k hlt)
        have HV := hid hv; clear hv
        go_wp2_with (go_at_call 48; refine (ref9_within _ _ _ _).mono ?_; rintro e w' ⟨rfl, rfl⟩)
        go_ret
        exact ⟨ret_bool HV.out.symm, rfl⟩
      · go_wp2_with (go_at_call 48; refine (ref9_within _ _ _ _).mono ?_; rintro e w' ⟨rfl, rfl⟩)
        go_round
        case rel => exact ⟨k + 1, by omega, by go_num, fun j hj => by
          rcases Nat.lt_succ_iff_lt_or_eq.1 hj with h' | rfl
          · exact HOK.out j h'
          · exact hw⟩
        case measure => simp [intOf]; omega
    · obtain rfl : k = n := (by omega)
      have hv : vL k f = within (k : Int) 1 64 := by
        rw [Bool.eq_iff_iff, vL_iff, within_iff]
        refine ⟨fun h => by have := h.1; have := h.2.1; omega, fun h => ⟨by omega, by omega, fun j hj => (within_iff _ _ _).1 (HOK.out j hj)⟩⟩
      have HV := hid hv; clear hv
      go_wp2_with (go_at_call 48; refine (ref9_within _ _ _ _).mono ?_; rintro e w' ⟨rfl, rfl⟩)
      go_ret
      exact ⟨ret_bool HV.out.symm, rfl⟩
end Go.Proofs.Ytgpcmkoimgnlbaa
