/- Walks of the small functions of cell, grid, wall and the references: validity. Walks: cell.Valid, cell.Mass, the reference's Valid. -/
import Derived.Test.YtmmjaobpoiofdaaGreatBase
namespace Go.Proofs.YtmmjaobpoiofdaaGreat
open Go.RowKit
theorem cell_within (n lo hi : Int) (w : World) : Calls Tryz.prog 70 #[.int .i64 n, .int .i64 lo, .int .i64 hi] w fun e w' => e = .returned (.bool (within n lo hi)) ∧ w = w' := by
  cases h1 : decide (lo ≤ n)
  all_goals
    go_enter Tryz.func70, Tryz.ntmps70
    go_wp2
    go_ret
    exact ⟨by simp [within, h1], rfl⟩
theorem grid_within (n lo hi : Int) (w : World) : Calls Tryz.prog 112 #[.int .i64 n, .int .i64 lo, .int .i64 hi] w fun e w' => e = .returned (.bool (within n lo hi)) ∧ w = w' := by
  cases h1 : decide (lo ≤ n)
  all_goals
    go_enter Tryz.func112, Tryz.ntmps112
    go_wp2
    go_ret
    exact ⟨by simp [within, h1], rfl⟩
theorem ref1_within (n lo hi : Int) (w : World) : Calls Tryz.prog 80 #[.int .i64 n, .int .i64 lo, .int .i64 hi] w fun e w' => e = .returned (.bool (within n lo hi)) ∧ w = w' := by
  cases h1 : decide (lo ≤ n)
  all_goals
    go_enter Tryz.func80, Tryz.ntmps80
    go_wp2
    go_ret
    exact ⟨by simp [within, h1], rfl⟩
theorem ref2_within (n lo hi : Int) (w : World) : Calls Tryz.prog 146 #[.int .i64 n, .int .i64 lo, .int .i64 hi] w fun e w' => e = .returned (.bool (within n lo hi)) ∧ w = w' := by
  cases h1 : decide (lo ≤ n)
  all_goals
    go_enter Tryz.func146, Tryz.ntmps146
    go_wp2
    go_ret
    exact ⟨by simp [within, h1], rfl⟩
set_option maxHeartbeats 400000 in
theorem cell_sum (a : Option Addr) (n cap : Nat) (f : Nat → Int) (w : World) (hn : n ≤ 100000) (H : Sl w a n f) : Calls Tryz.prog 142 #[.slice a n cap] w fun e w' => e = .returned (.int .i64 (sumR f n)) ∧ w = w' := by
  go_enter Tryz.func142, Tryz.ntmps142
  go_wp2
  go_loop [3, 8] (fun t i => ∃ k : Nat, k ≤ n ∧ i = .int .i64 k ∧ t = .int .i64 (sumTo f k) ∧ okTo f k) (fun _ i => n - (intOf i).toNat)
  case atStart => exact ⟨0, Nat.zero_le _, rfl, rfl, fun j hj => by omega⟩
  case round =>
    obtain ⟨k, hk, rfl, rfl, hok⟩ := hrel
    have s0 := sumTo_nonneg f k hok
    have s1 := sumTo_le f k hok
    by_cases hlt : k < n
    · obtain ⟨b, off, rfl, hb, hc⟩ := H k hlt
      have HOK := hid hok; clear hok
      cases hw : within (f k) 0 1000000000 with
      | true =>
        have hb1 := (within_iff _ _ _).1 hw
        obtain ⟨hb1, hb2⟩ := hb1
        by_cases hs : 1000000000 < sumTo f k + f k
        · go_wp2_with (go_at_call 70; refine (cell_within _ _ _ _).mono ?_; rintro e w' ⟨rfl, rfl⟩)
          go_ret
          exact ⟨ret_int (sumR_no hlt (by omega)).symm, rfl⟩
        · go_wp2_with (go_at_call 70; refine (cell_within _ _ _ _).mono ?_; rintro e w' ⟨rfl, rfl⟩)
          go_round
          case rel => exact ⟨k + 1, by omega, by go_num, rfl, okTo_succ HOK.out (by omega) (by omega)⟩
          case measure => simp [intOf]; omega
      | false =>
        go_wp2_with (go_at_call 70; refine (cell_within _ _ _ _).mono ?_; rintro e w' ⟨rfl, rfl⟩)
        go_ret
        have hb1 := (within_no _ _ _).1 hw
        exact ⟨ret_int (sumR_no hlt (by omega)).symm, rfl⟩
    · go_wp2
      go_ret
      obtain rfl : k = n := (by omega)
      exact ⟨ret_int (by rw [sumR, if_pos hok]), rfl⟩
end Go.Proofs.YtmmjaobpoiofdaaGreat
namespace Go.Proofs.YtmmjaobpoiofdaaGreat
open Go.RowKit
theorem sl_box (w : World) (c : C4) (t : TypeId) : Sl (w.alloc (.cells #[.int .i64 c.e, .int .i64 c.n, .int .i64 c.w, .int .i64 c.s] t)) (some ⟨w.heap.size, 0, none⟩) 4 c.get := fun k hk => by
  refine ⟨w.heap.size, 0, rfl, by simp, ?_⟩
  have : k = 0 ∨ k = 1 ∨ k = 2 ∨ k = 3 := by omega
  rcases this with rfl | rfl | rfl | rfl <;> simp [go_sem, C4.get]
theorem sumR4_nonneg (c : C4) : decide (0 ≤ sumR c.get 4) = validC c := by
  rw [sumR4]
  cases h : validC c
  · simp
  · have := (validC_iff c).1 h
    simp [C4.mass]; omega
set_option maxHeartbeats 400000 in
theorem cell_valid (c : C4) (w : World) : Calls Tryz.prog 121 #[.agg #[.int .i64 c.e, .int .i64 c.n, .int .i64 c.w, .int .i64 c.s]] w fun e w' => e = .returned (.bool (validC c)) ∧ Below w.heap.size w w' := by
  rw [← sumR4_nonneg]
  go_enter Tryz.func121, Tryz.ntmps121
  go_wp2_with (go_at_call 142; refine (cell_sum _ 4 _ c.get _ (by omega) (sl_box w c 80)).mono ?_; rintro e w' ⟨rfl, rfl⟩)
  go_ret
  exact ⟨rfl, below_alloc _ _⟩
def massR (c : C4) : Int := if validC c then c.mass else 0
def errR (b : Bool) (n : Int) : Int := if b then 0 else n
set_option maxHeartbeats 400000 in
theorem cell_mass (c : C4) (w : World) : Calls Tryz.prog 118 #[.agg #[.int .i64 c.e, .int .i64 c.n, .int .i64 c.w, .int .i64 c.s]] w
    fun e w' => e = .returned (.tuple #[.int .i64 (massR c), .int .i64 (errR (validC c) 1)]) ∧ Below w.heap.size w w' := by
  have hs := sumR4 c
  cases hv : validC c
  · go_enter Tryz.func118, Tryz.ntmps118
    go_wp2_with (go_at_call 121; refine (cell_valid c _).mono ?_; rintro e w1 ⟨rfl, hb1⟩)
    go_ret2
    exact ⟨by simp [massR, errR, hv], (below_alloc _ _).trans (hb1.mono (by simp))⟩
  · rw [hv] at hs
    go_enter Tryz.func118, Tryz.ntmps118
    go_wp2_with fail
    refine (cell_valid c _).mono ?_
    rintro e w1 ⟨rfl, hb1⟩
    have hsl := (sl_box w c 80).below hb1
    go_wp2_with (go_at_call 142; refine (cell_sum _ 4 _ c.get _ (by omega) hsl).mono ?_; rintro e w' ⟨rfl, rfl⟩)
    go_ret2
    exact ⟨by simp [massR, errR, hv], (below_alloc _ _).trans (hb1.mono (by simp))⟩
theorem get_le (c : C4) (k : Nat) (hk : k < 4) (h : validC c = true) : 0 ≤ c.get k ∧ c.get k ≤ 1000000000 := by
  have h := (validC_iff c).1 h
  have : k = 0 ∨ k = 1 ∨ k = 2 ∨ k = 3 := by omega
  rcases this with rfl | rfl | rfl | rfl <;> simp [C4.get] <;> omega
theorem sumTo_bd (f : Nat → Int) : ∀ k, (∀ j, j < k → 0 ≤ f j ∧ f j ≤ 1000000000) → 0 ≤ sumTo f k ∧ sumTo f k ≤ k * 1000000000
  | 0, _ => by simp [sumTo]
  | k + 1, h => by have := sumTo_bd f k (fun j hj => h j (by omega)); have := h k (by omega); simp only [sumTo]; omega
theorem validC_end (c : C4) (h : ∀ j, j < 4 → 0 ≤ c.get j ∧ c.get j ≤ 1000000000) : decide (sumTo c.get 4 ≤ 1000000000) = validC c := by
  have h0 := h 0 (by omega); have h1 := h 1 (by omega); have h2 := h 2 (by omega); have h3 := h 3 (by omega)
  rw [sumTo4]; simp only [C4.get] at h0 h1 h2 h3
  rw [Bool.eq_iff_iff, validC_iff, decide_eq_true_iff]; omega
set_option maxHeartbeats 1000000 in
theorem ref1_valid (c : C4) (w : World) : Calls Tryz.prog 124 #[.agg #[.int .i64 c.e, .int .i64 c.n, .int .i64 c.w, .int .i64 c.s]] w fun e w' => e = .returned (.bool (validC c)) ∧ Below w.heap.size w w' := by
  have hs := sl_box w c 80
  go_enter Tryz.func124, Tryz.ntmps124
  go_wp2
  go_loop [3, 4] (fun t i => ∃ k : Nat, k ≤ 4 ∧ i = .int .i64 k ∧ t = .int .i64 (sumTo c.get k) ∧ (∀ j, j < k → 0 ≤ c.get j ∧ c.get j ≤ 1000000000)) (fun _ i => 4 - (intOf i).toNat)
  case atStart => exact ⟨0, Nat.zero_le _, rfl, rfl, fun j hj => by omega⟩
  case round =>
    obtain ⟨k, hk, rfl, rfl, hok⟩ := hrel
    by_cases hlt : k < 4
    · obtain ⟨b, off, e1, hb, hc⟩ := hs k hlt
      obtain ⟨rfl, rfl⟩ : b = w.heap.size ∧ off = 0 := by simpa [eq_comm] using e1
      rw [Nat.zero_add] at hc
      clear e1 hs hb
      obtain ⟨b1, b2⟩ := sumTo_bd _ _ hok
      have HOK := hid hok; clear hok
      cases hw : within (c.get k) 0 1000000000 with
      | true =>
        obtain ⟨hb1, hb2⟩ := (within_iff _ _ _).1 hw
        go_wp2_with (go_at_call 80; refine (ref1_within _ _ _ _).mono ?_; rintro e w' ⟨rfl, rfl⟩)
        go_round
        case rel => exact ⟨k + 1, by omega, by go_num, rfl, fun j hj => by
          rcases Nat.lt_succ_iff_lt_or_eq.1 hj with h' | rfl
          · exact HOK.out j h'
          · exact ⟨hb1, hb2⟩⟩
        case measure => simp [intOf]; omega
      | false =>
        have hno := (within_no _ _ _).1 hw
        have hv : validC c = false := by
          cases hv : validC c
          · rfl
          · exact absurd (get_le c k hlt hv) hno
        go_wp2_with (go_at_call 80; refine (ref1_within _ _ _ _).mono ?_; rintro e w' ⟨rfl, rfl⟩)
        go_ret
        exact ⟨by rw [hv]; rfl, below_alloc _ _⟩
    · obtain rfl : k = 4 := (by omega)
      have he := hid (validC_end c hok)
      obtain ⟨b1, b2⟩ := sumTo_bd _ _ hok
      clear hok hs
      go_wp2
      go_ret
      exact ⟨ret_bool he.out, below_alloc _ _⟩
end Go.Proofs.YtmmjaobpoiofdaaGreat
