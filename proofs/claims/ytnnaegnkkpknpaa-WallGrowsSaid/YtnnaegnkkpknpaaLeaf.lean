/- Walks of the small functions of cell, grid, wall and the references: validity. -/
import Derived.Test.YtnnaegnkkpknpaaBase
namespace Go.Proofs.Ytnnaegnkkpknpaa
open Go.RowKit
theorem wall_within (n lo hi : Int) (w : World) : Calls Try.prog 66 #[.int .i64 n, .int .i64 lo, .int .i64 hi] w fun e w' => e = .returned (.bool (within n lo hi)) ∧ w = w' := by
  cases h1 : decide (lo ≤ n)
  all_goals
    go_enter Try.func66, Try.ntmps66
    go_wp2
    go_ret
    exact ⟨by simp [within, h1], rfl⟩
theorem cell_within (n lo hi : Int) (w : World) : Calls Try.prog 163 #[.int .i64 n, .int .i64 lo, .int .i64 hi] w fun e w' => e = .returned (.bool (within n lo hi)) ∧ w = w' := by
  cases h1 : decide (lo ≤ n)
  all_goals
    go_enter Try.func163, Try.ntmps163
    go_wp2
    go_ret
    exact ⟨by simp [within, h1], rfl⟩
theorem grid_within (n lo hi : Int) (w : World) : Calls Try.prog 126 #[.int .i64 n, .int .i64 lo, .int .i64 hi] w fun e w' => e = .returned (.bool (within n lo hi)) ∧ w = w' := by
  cases h1 : decide (lo ≤ n)
  all_goals
    go_enter Try.func126, Try.ntmps126
    go_wp2
    go_ret
    exact ⟨by simp [within, h1], rfl⟩
theorem ref1_within (n lo hi : Int) (w : World) : Calls Try.prog 131 #[.int .i64 n, .int .i64 lo, .int .i64 hi] w fun e w' => e = .returned (.bool (within n lo hi)) ∧ w = w' := by
  cases h1 : decide (lo ≤ n)
  all_goals
    go_enter Try.func131, Try.ntmps131
    go_wp2
    go_ret
    exact ⟨by simp [within, h1], rfl⟩
theorem ref2_within (n lo hi : Int) (w : World) : Calls Try.prog 137 #[.int .i64 n, .int .i64 lo, .int .i64 hi] w fun e w' => e = .returned (.bool (within n lo hi)) ∧ w = w' := by
  cases h1 : decide (lo ≤ n)
  all_goals
    go_enter Try.func137, Try.ntmps137
    go_wp2
    go_ret
    exact ⟨by simp [within, h1], rfl⟩
theorem ref3_within (n lo hi : Int) (w : World) : Calls Try.prog 67 #[.int .i64 n, .int .i64 lo, .int .i64 hi] w fun e w' => e = .returned (.bool (within n lo hi)) ∧ w = w' := by
  cases h1 : decide (lo ≤ n)
  all_goals
    go_enter Try.func67, Try.ntmps67
    go_wp2
    go_ret
    exact ⟨by simp [within, h1], rfl⟩
set_option maxHeartbeats 400000 in
theorem cell_sum (a : Option Addr) (n cap : Nat) (f : Nat → Int) (w : World) (hn : n ≤ 100000) (H : Sl w a n f) : Calls Try.prog 130 #[.slice a n cap] w fun e w' => e = .returned (.int .i64 (sumR f n)) ∧ w = w' := by
  go_enter Try.func130, Try.ntmps130
  go_wp2
  go_loop [3, 8] (fun t i => ∃ k : Nat, k ≤ n ∧ i = .int .i64 k ∧ t = .int .i64 (sumTo f k) ∧ okTo f k) (fun _ i => n - (intOf i).toNat)
  case atStart => exact ⟨0, Nat.zero_le _, rfl, rfl, fun j hj => by omega⟩
  case round =>
    obtain ⟨k, hk, rfl, rfl, hok⟩ := hrel
    have s0 := sumTo_nonneg f k hok
    have s1 := sumTo_le f k hok
    by_cases hlt : k < n
    · obtain ⟨b, off, rfl, hb, hc⟩ := H k hlt
      have HOK := hid hok; clear hok
      cases hw : within (f k) 0 1000000000 with
      | true =>
        have hb1 := (within_iff _ _ _).1 hw
        obtain ⟨hb1, hb2⟩ := hb1
        by_cases hs : 1000000000 < sumTo f k + f k
        · go_wp2_with (go_at_call 163; refine (cell_within _ _ _ _).mono ?_; rintro e w' ⟨rfl, rfl⟩)
          go_ret
          exact ⟨ret_int (sumR_no hlt (by omega)).symm, rfl⟩
        · go_wp2_with (go_at_call 163; refine (cell_within _ _ _ _).mono ?_; rintro e w' ⟨rfl, rfl⟩)
          go_round
          case rel => exact ⟨k + 1, by omega, by go_num, rfl, okTo_succ HOK.out (by omega) (by omega)⟩
          case measure => simp [intOf]; omega
      | false =>
        go_wp2_with (go_at_call 163; refine (cell_within _ _ _ _).mono ?_; rintro e w' ⟨rfl, rfl⟩)
        go_ret
        have hb1 := (within_no _ _ _).1 hw
        exact ⟨ret_int (sumR_no hlt (by omega)).symm, rfl⟩
    · go_wp2
      go_ret
      obtain rfl : k = n := (by omega)
      exact ⟨ret_int (by rw [sumR, if_pos hok]), rfl⟩
end Go.Proofs.Ytnnaegnkkpknpaa
