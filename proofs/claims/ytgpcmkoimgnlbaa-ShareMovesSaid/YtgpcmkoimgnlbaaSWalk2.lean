/- Walks of the share layer: cuts, the first errors, sums, the greedy share. -/
import Derived.Test.YtgpcmkoimgnlbaaSWalk1
namespace Go.Proofs.Ytgpcmkoimgnlbaa
open Go Go.RowKit
set_option linter.unusedVariables false
def okC (n : Nat) (c : Nat → Int) (i : Nat) : Prop := 0 ≤ c i ∧ c i ≤ n ∧ (0 < i → c (i - 1) ≤ c i)
def vK (n m : Nat) (c : Nat → Int) : Bool := decide (m < 16 ∧ ∀ i, i < m → 0 ≤ c i ∧ c i ≤ n ∧ (0 < i → c (i - 1) ≤ c i))
theorem vK_iff (n m : Nat) (c : Nat → Int) : vK n m c = true ↔ validK n m c := by simp [vK, validK]
theorem vK_no {n m i : Nat} {c : Nat → Int} (hi : i < m) (h : ¬ okC n c i) : vK n m c = false := by
  cases e : vK n m c
  · rfl
  · exact absurd (((vK_iff n m c).1 e).2 i hi) h
theorem vK_end {n m : Nat} {c : Nat → Int} (h : ∀ i, i < m → okC n c i) : vK n m c = decide (m < 16) := by
  rw [Bool.eq_iff_iff, vK_iff, decide_eq_true_iff]
  exact ⟨fun h' => h'.1, fun h' => ⟨h', h⟩⟩
theorem okC_succ {n k : Nat} {c : Nat → Int} (h : ∀ j, j < k → okC n c j) (hk : okC n c k) : ∀ j, j < k + 1 → okC n c j := fun j hj => by
  rcases Nat.lt_succ_iff_lt_or_eq.1 hj with h' | rfl
  · exact h j h'
  · exact hk
set_option maxHeartbeats 1000000 in
theorem share_validCuts (a : Option Addr) (m cap n : Nat) (c : Nat → Int) (w : World) (hm : m ≤ 100000000) (hn : n ≤ 100000000) (H : Sl w a m c) : Calls Try.prog 62 #[.slice a m cap, .int .i64 (n : Int)] w fun e w' => e = .returned (.bool (vK n m c)) ∧ w = w' := by
  go_enter Try.func62, Try.ntmps62
  go_wp2
  go_loop [9] (fun i => ∃ k : Nat, k ≤ m ∧ i = .int .i64 k ∧ ∀ j, j < k → okC n c j) (fun i => m - (intOf i).toNat)
  case atStart => exact ⟨0, Nat.zero_le _, rfl, fun j hj => by omega⟩
  case round =>
    obtain ⟨k, hk, rfl, hok⟩ := hrel
    have HOK := hid hok; clear hok
    by_cases hlt : k < m
    · obtain ⟨b, off, rfl, hb, hc⟩ := H k hlt
      cases hw : within (c k) 0 n
      · have hv := hid (vK_no (n := n) (c := c) hlt fun h => (within_no _ _ _).1 hw ⟨h.1, h.2.1⟩)
        go_wp2_with (go_at_call 46; refine (share_within _ _ _ _).mono ?_; rintro e w' ⟨rfl, rfl⟩)
        go_ret
        exact ⟨ret_bool hv.out.symm, rfl⟩
      · have hw2 := (within_iff _ _ _).1 hw
        obtain ⟨g0, g1⟩ := hw2
        by_cases hk0 : k = 0
        · subst hk0
          rw [Nat.add_zero] at hc
          go_wp2_with (go_at_call 46; refine (share_within _ _ _ _).mono ?_; rintro e w' ⟨rfl, rfl⟩)
          go_round
          case rel => exact ⟨0 + 1, by omega, by go_num, okC_succ HOK.out ⟨g0, g1, fun h => by omega⟩⟩
          case measure => simp [intOf]; omega
        · obtain ⟨b2, off2, e2, hb2, hc2⟩ := H (k - 1) (by omega)
          injection e2 with e2; injection e2 with e21 e22 _
          subst e21 e22
          obtain ⟨j, rfl⟩ : ∃ j, k = j + 1 := ⟨k - 1, by omega⟩
          rw [Nat.add_sub_cancel] at hc2
          by_cases hlt2 : c (j + 1) < c j
          · have hv := hid (vK_no (n := n) (c := c) hlt fun h => by have := h.2.2 (by omega); rw [Nat.add_sub_cancel] at this; omega)
            go_wp2_with (go_at_call 46; refine (share_within _ _ _ _).mono ?_; rintro e w' ⟨rfl, rfl⟩)
            go_ret
            exact ⟨ret_bool hv.out.symm, rfl⟩
          · go_wp2_with (go_at_call 46; refine (share_within _ _ _ _).mono ?_; rintro e w' ⟨rfl, rfl⟩)
            go_round
            case rel => exact ⟨j + 1 + 1, by omega, by go_num, okC_succ HOK.out ⟨g0, g1, fun h => by rw [Nat.add_sub_cancel]; omega⟩⟩
            case measure => simp [intOf]; omega
    · obtain rfl : k = m := (by omega)
      have hv := hid (vK_end HOK.out)
      by_cases h16 : k < 16
      · go_wp2
        go_ret
        exact ⟨ret_bool (by rw [hv.out]; simp; omega), rfl⟩
      · go_wp2
        go_ret
        exact ⟨ret_bool (by rw [hv.out]; simp; omega), rfl⟩
theorem ref9_within_b {n lo hi : Int} {b : Bool} (h : within n lo hi = b) (w : World) : Calls Try.prog 48 #[.int .i64 n, .int .i64 lo, .int .i64 hi] w fun e w' => e = .returned (.bool b) ∧ w = w' := h ▸ ref9_within n lo hi w
set_option maxHeartbeats 1000000 in
theorem ref9_shared (a : Option Addr) (m cap n : Nat) (c : Nat → Int) (w : World) (hm : m ≤ 100000000) (hn : n ≤ 100000000) (H : Sl w a m c) : Calls Try.prog 63 #[.int .i64 (n : Int), .slice a m cap] w fun e w' => e = .returned (.bool (vK n m c)) ∧ Below w.heap.size w w' := by
  go_enter Try.func63, Try.ntmps63
  go_wp2
  go_loopw [5] (fun i wr => ∃ k : Nat, k ≤ m ∧ i = .int .i64 k ∧ (∀ j, j < k → okC n c j) ∧ Below w.heap.size w wr) (fun i _ => m - (intOf i).toNat)
  case atStart => exact ⟨0, Nat.zero_le _, rfl, fun j hj => by omega, Below.refl _ _⟩
  case round =>
    obtain ⟨k, hk, rfl, hok, hbw⟩ := hrel
    have HOK := hid hok; clear hok
    by_cases hlt : k < m
    · obtain ⟨b, off, rfl, hb, hc⟩ := (H.below hbw) k hlt
      cases hw : within (c k) 0 n
      · have hv := hid (vK_no (n := n) (c := c) hlt fun h => (within_no _ _ _).1 hw ⟨h.1, h.2.1⟩)
        go_upto_region 4 with (fail)
        go_quiet ((go_at_call 48; exact quiet_left (ref9_within_b hw _)))
        go_wp2
        go_ret
        exact ⟨ret_bool hv.out.symm, by (repeat' (first | with_reducible assumption | with_reducible exact Below.refl _ _ | with_reducible refine Below.drew ?_ | with_reducible refine below_drewN ?_ _ | with_reducible refine balloc ?_ _ | with_reducible refine bset ?_ ?_ _ | with_reducible refine Below.setCell ?_ ?_ _ | with_reducible refine Below.alloc ?_ ?_ _ | omega | (simp; done) | (simp; omega)))⟩
      · have hw2 := (within_iff _ _ _).1 hw
        obtain ⟨g0, g1⟩ := hw2
        by_cases hk0 : k = 0
        · subst hk0
          rw [Nat.add_zero] at hc
          go_upto_region 4 with (fail)
          go_quiet ((go_at_call 48; exact quiet_left (ref9_within_b hw _)))
          go_wp2
          go_roundw
          case rel => exact ⟨0 + 1, by omega, by go_num, okC_succ HOK.out ⟨g0, g1, fun h => by omega⟩, by (repeat' (first | with_reducible assumption | with_reducible exact Below.refl _ _ | with_reducible refine Below.drew ?_ | with_reducible refine below_drewN ?_ _ | with_reducible refine balloc ?_ _ | with_reducible refine bset ?_ ?_ _ | with_reducible refine Below.setCell ?_ ?_ _ | with_reducible refine Below.alloc ?_ ?_ _ | omega | (simp; done) | (simp; omega)))⟩
          case measure => simp [intOf]; omega
        · obtain ⟨b2, off2, e2, hb2, hc2⟩ := (H.below hbw) (k - 1) (by omega)
          injection e2 with e2; injection e2 with e21 e22 _
          subst e21 e22
          obtain ⟨j, rfl⟩ : ∃ j, k = j + 1 := ⟨k - 1, by omega⟩
          rw [Nat.add_sub_cancel] at hc2
          have hs1 : IntKind.i64.wrap (((j + 1 : Nat) : Int) - 1) = j := by rw [IntWalk.i64_in _ (by omega)]; omega
          cases hlt2 : decide (c (j + 1) < c j)
          · have hge : ¬ c (j + 1) < c j := by simpa using hlt2
            have HG := hid hge; clear hge
            go_upto_region 4 with (fail)
            go_quiet ((go_at_call 48; exact quiet_left (ref9_within_b hw _)))
            go_wp2
            go_roundw
            case rel => exact ⟨j + 1 + 1, by omega, by go_num, okC_succ HOK.out ⟨g0, g1, fun h => by have := HG.out; rw [Nat.add_sub_cancel]; omega⟩, by (repeat' (first | with_reducible assumption | with_reducible exact Below.refl _ _ | with_reducible refine Below.drew ?_ | with_reducible refine below_drewN ?_ _ | with_reducible refine balloc ?_ _ | with_reducible refine bset ?_ ?_ _ | with_reducible refine Below.setCell ?_ ?_ _ | with_reducible refine Below.alloc ?_ ?_ _ | omega | (simp; done) | (simp; omega)))⟩
            case measure => simp [intOf]; omega
          · have hv := hid (vK_no (n := n) (c := c) hlt fun h => by have := h.2.2 (by omega); rw [Nat.add_sub_cancel] at this; have := of_decide_eq_true hlt2; omega)
            go_upto_region 4 with (fail)
            go_quiet ((go_at_call 48; exact quiet_left (ref9_within_b hw _)))
            go_wp2
            go_ret
            exact ⟨ret_bool hv.out.symm, by (repeat' (first | with_reducible assumption | with_reducible exact Below.refl _ _ | with_reducible refine Below.drew ?_ | with_reducible refine below_drewN ?_ _ | with_reducible refine balloc ?_ _ | with_reducible refine bset ?_ ?_ _ | with_reducible refine Below.setCell ?_ ?_ _ | with_reducible refine Below.alloc ?_ ?_ _ | omega | (simp; done) | (simp; omega)))⟩
    · obtain rfl : k = m := (by omega)
      have hv := hid (vK_end HOK.out)
      by_cases h16 : k < 16
      · go_wp2
        go_ret
        exact ⟨ret_bool (by rw [hv.out]; simp; omega), by (repeat' (first | with_reducible assumption | with_reducible exact Below.refl _ _ | with_reducible refine Below.drew ?_ | with_reducible refine below_drewN ?_ _ | with_reducible refine balloc ?_ _ | with_reducible refine bset ?_ ?_ _ | with_reducible refine Below.setCell ?_ ?_ _ | with_reducible refine Below.alloc ?_ ?_ _ | omega | (simp; done) | (simp; omega)))⟩
      · go_wp2
        go_ret
        exact ⟨ret_bool (by rw [hv.out]; simp; omega), by (repeat' (first | with_reducible assumption | with_reducible exact Below.refl _ _ | with_reducible refine Below.drew ?_ | with_reducible refine below_drewN ?_ _ | with_reducible refine balloc ?_ _ | with_reducible refine bset ?_ ?_ _ | with_reducible refine Below.setCell ?_ ?_ _ | with_reducible refine Below.alloc ?_ ?_ _ | omega | (simp; done) | (simp; omega)))⟩
/-- the first error of loads and cuts; of loads and a number of nodes -/
def askE (v k : Bool) : Int := if v then (if k then 0 else 7) else 1
set_option maxHeartbeats 400000 in
theorem share_asked (a b : Option Addr) (n m ca cb : Nat) (f c : Nat → Int) (w : World) (hn : n ≤ 100000000) (hm : m ≤ 100000000) (H : Sl w a n f) (HC : Sl w b m c) : Calls Try.prog 49 #[.slice a n ca, .slice b m cb] w fun e w' => e = .returned (.int .i64 (askE (vL n f) (vK n m c))) ∧ Below w.heap.size w w' := by
  cases hv : vL n f
  · go_enter Try.func49, Try.ntmps49
    go_wp2_with (go_at_call 20; refine (share_valid _ _ _ f _ hn H).mono ?_; rintro e w' ⟨rfl, rfl⟩)
    go_ret
    exact ⟨rfl, by (repeat' (first | with_reducible assumption | with_reducible exact Below.refl _ _ | with_reducible refine Below.drew ?_ | with_reducible refine below_drewN ?_ _ | with_reducible refine balloc ?_ _ | with_reducible refine bset ?_ ?_ _ | with_reducible refine Below.setCell ?_ ?_ _ | with_reducible refine Below.alloc ?_ ?_ _ | omega | (simp; done) | (simp; omega)))⟩
  · cases hk : vK n m c
    · go_enter Try.func49, Try.ntmps49
      go_wp2_with (first | (go_at_call 20; refine (share_valid _ _ _ f _ hn H).mono ?_; rintro e w' ⟨rfl, rfl⟩) | (go_at_call 62; refine (share_validCuts _ _ _ n c _ hm hn HC).mono ?_; rintro e w1 ⟨rfl, hb1⟩))
      go_ret
      exact ⟨rfl, by rw [hb1]; exact Below.refl _ _⟩
    · go_enter Try.func49, Try.ntmps49
      go_wp2_with (first | (go_at_call 20; refine (share_valid _ _ _ f _ hn H).mono ?_; rintro e w' ⟨rfl, rfl⟩) | (go_at_call 62; refine (share_validCuts _ _ _ n c _ hm hn HC).mono ?_; rintro e w1 ⟨rfl, hb1⟩))
      go_ret
      exact ⟨rfl, by rw [hb1]; exact Below.refl _ _⟩
set_option maxHeartbeats 400000 in
theorem ref9_asked (a b : Option Addr) (n m ca cb : Nat) (f c : Nat → Int) (w : World) (hn : n ≤ 100000000) (hm : m ≤ 100000000) (H : Sl w a n f) (HC : Sl w b m c) : Calls Try.prog 52 #[.slice a n ca, .slice b m cb] w fun e w' => e = .returned (.int .i64 (askE (vL n f) (vK n m c))) ∧ Below w.heap.size w w' := by
  cases hv : vL n f
  · go_enter Try.func52, Try.ntmps52
    go_wp2_with (go_at_call 21; refine (ref9_valid _ _ _ f _ hn H).mono ?_; rintro e w' ⟨rfl, rfl⟩)
    go_ret
    exact ⟨rfl, by (repeat' (first | with_reducible assumption | with_reducible exact Below.refl _ _ | with_reducible refine Below.drew ?_ | with_reducible refine below_drewN ?_ _ | with_reducible refine balloc ?_ _ | with_reducible refine bset ?_ ?_ _ | with_reducible refine Below.setCell ?_ ?_ _ | with_reducible refine Below.alloc ?_ ?_ _ | omega | (simp; done) | (simp; omega)))⟩
  · cases hk : vK n m c
    · go_enter Try.func52, Try.ntmps52
      go_wp2_with (first | (go_at_call 21; refine (ref9_valid _ _ _ f _ hn H).mono ?_; rintro e w' ⟨rfl, rfl⟩) | (go_at_call 63; refine (ref9_shared _ _ _ n c _ hm hn HC).mono ?_; rintro e w1 ⟨rfl, hb1⟩))
      go_ret
      exact ⟨rfl, hb1⟩
    · go_enter Try.func52, Try.ntmps52
      go_wp2_with (first | (go_at_call 21; refine (ref9_valid _ _ _ f _ hn H).mono ?_; rintro e w' ⟨rfl, rfl⟩) | (go_at_call 63; refine (ref9_shared _ _ _ n c _ hm hn HC).mono ?_; rintro e w1 ⟨rfl, hb1⟩))
      go_ret
      exact ⟨rfl, hb1⟩
set_option maxHeartbeats 400000 in
theorem share_among (a : Option Addr) (n ca : Nat) (k : Int) (f : Nat → Int) (w : World) (hn : n ≤ 100000000) (H : Sl w a n f) : Calls Try.prog 40 #[.slice a n ca, .int .i64 k] w fun e w' => e = .returned (.int .i64 (askE (vL n f) (within k 1 16))) ∧ w = w' := by
  cases hv : vL n f
  · go_enter Try.func40, Try.ntmps40
    go_wp2_with (go_at_call 20; refine (share_valid _ _ _ f _ hn H).mono ?_; rintro e w' ⟨rfl, rfl⟩)
    go_ret
    exact ⟨rfl, rfl⟩
  · cases hk : within k 1 16
    · go_enter Try.func40, Try.ntmps40
      go_wp2_with (first | (go_at_call 20; refine (share_valid _ _ _ f _ hn H).mono ?_; rintro e w' ⟨rfl, rfl⟩) | (go_at_call 46; refine (share_within _ _ _ _).mono ?_; rintro e w1 ⟨rfl, rfl⟩))
      go_ret
      exact ⟨rfl, rfl⟩
    · go_enter Try.func40, Try.ntmps40
      go_wp2_with (first | (go_at_call 20; refine (share_valid _ _ _ f _ hn H).mono ?_; rintro e w' ⟨rfl, rfl⟩) | (go_at_call 46; refine (share_within _ _ _ _).mono ?_; rintro e w1 ⟨rfl, rfl⟩))
      go_ret
      exact ⟨rfl, rfl⟩
set_option maxHeartbeats 400000 in
theorem ref9_noded (a : Option Addr) (n ca : Nat) (k : Int) (f : Nat → Int) (w : World) (hn : n ≤ 100000000) (H : Sl w a n f) : Calls Try.prog 42 #[.slice a n ca, .int .i64 k] w fun e w' => e = .returned (.int .i64 (askE (vL n f) (within k 1 16))) ∧ w = w' := by
  cases hv : vL n f
  · go_enter Try.func42, Try.ntmps42
    go_wp2_with (go_at_call 21; refine (ref9_valid _ _ _ f _ hn H).mono ?_; rintro e w' ⟨rfl, rfl⟩)
    go_ret
    exact ⟨rfl, rfl⟩
  · cases hk : within k 1 16
    · go_enter Try.func42, Try.ntmps42
      go_wp2_with (first | (go_at_call 21; refine (ref9_valid _ _ _ f _ hn H).mono ?_; rintro e w' ⟨rfl, rfl⟩) | (go_at_call 48; refine (ref9_within _ _ _ _).mono ?_; rintro e w1 ⟨rfl, rfl⟩))
      go_ret
      exact ⟨rfl, rfl⟩
    · go_enter Try.func42, Try.ntmps42
      go_wp2_with (first | (go_at_call 21; refine (ref9_valid _ _ _ f _ hn H).mono ?_; rintro e w' ⟨rfl, rfl⟩) | (go_at_call 48; refine (ref9_within _ _ _ _).mono ?_; rintro e w1 ⟨rfl, rfl⟩))
      go_ret
      exact ⟨rfl, rfl⟩
end Go.Proofs.Ytgpcmkoimgnlbaa
