/- Walks: grid.Valid and the reference's. -/
import Derived.Test.YtnnaegnkkpknpaaCell
import Derived.Handy
namespace Go.Proofs.Ytnnaegnkkpknpaa
open Go.RowKit
set_option linter.unusedVariables false
theorem mul_bd {a b : Int} (h1 : 1 ≤ a) (h2 : a ≤ 64) (h3 : 1 ≤ b) (h4 : b ≤ 64) : 1 ≤ a * b ∧ a * b ≤ 4096 := by
  refine ⟨?_, ?_⟩
  · have := Int.mul_le_mul h1 h3 (by omega) (by omega); omega
  · have := Int.mul_le_mul h2 h4 (by omega) (by omega); omega
theorem validG_false_w {wide high : Int} {n : Nat} {g : Nat → C4} (h : within wide 1 64 = false) : validG wide high n g = false := by
  rw [validG_no]; rw [within_no] at h; omega
set_option maxHeartbeats 1000000 in
theorem grid_valid (wide high : Int) (a : Option Addr) (n cap : Nat) (g : Nat → C4) (w : World) (hn : n ≤ 100000000) (H : Sc w a n g) : Calls Try.prog 64 #[.agg #[.int .i64 wide, .int .i64 high, .slice a n cap]] w
    fun e w' => e = .returned (.bool (validG wide high n g)) ∧ Below w.heap.size w w' := by
  cases hw : within wide 1 64
  · go_enter Try.func64, Try.ntmps64
    go_wp2_with (go_at_call 126; refine (grid_within _ _ _ _).mono ?_; rintro e w' ⟨rfl, rfl⟩)
    go_ret
    exact ⟨ret_bool (validG_false_w hw).symm, by (repeat' (first | with_reducible assumption | with_reducible exact Below.refl _ _ | with_reducible refine Below.drew ?_ | with_reducible refine below_drewN ?_ _ | with_reducible refine balloc ?_ _ | with_reducible refine bset ?_ ?_ _ | omega | (simp; done) | (simp; omega)))⟩
  cases hh : within high 1 64
  · go_enter Try.func64, Try.ntmps64
    go_wp2_with (go_at_call 126; refine (grid_within _ _ _ _).mono ?_; rintro e w' ⟨rfl, rfl⟩)
    go_ret
    refine ⟨ret_bool ?_, by (repeat' (first | with_reducible assumption | with_reducible exact Below.refl _ _ | with_reducible refine Below.drew ?_ | with_reducible refine below_drewN ?_ _ | with_reducible refine balloc ?_ _ | with_reducible refine bset ?_ ?_ _ | omega | (simp; done) | (simp; omega)))⟩
    symm; rw [validG_no]; rw [within_no] at hh; omega
  obtain ⟨h1, h2⟩ := (within_iff _ _ _).1 hw
  obtain ⟨h3, h4⟩ := (within_iff _ _ _).1 hh
  obtain ⟨m1, m2⟩ := mul_bd h1 h2 h3 h4
  by_cases hm : 1024 < wide * high
  · go_enter Try.func64, Try.ntmps64
    go_wp2_with (go_at_call 126; refine (grid_within _ _ _ _).mono ?_; rintro e w' ⟨rfl, rfl⟩)
    go_ret
    refine ⟨ret_bool ?_, by (repeat' (first | with_reducible assumption | with_reducible exact Below.refl _ _ | with_reducible refine Below.drew ?_ | with_reducible refine below_drewN ?_ _ | with_reducible refine balloc ?_ _ | with_reducible refine bset ?_ ?_ _ | omega | (simp; done) | (simp; omega)))⟩
    symm; rw [validG_no]; omega
  have hm' : decide (1024 < wide * high) = false := by simpa using hm
  cases he : ((n : Int) != wide * high)
  · have he' : (n : Int) = wide * high := by simpa using he
    have HE := hid he'; clear he'
    go_enter Try.func64, Try.ntmps64
    go_wp2_with (go_at_call 126; refine (grid_within _ _ _ _).mono ?_; rintro e w' ⟨rfl, rfl⟩)
    go_loopw [3, 40] (fun m i wr => ∃ k : Nat, k ≤ n ∧ i = .int .i64 k ∧ m = .int .i64 (massTo g k) ∧ (∀ j, j < k → validC (g j) = true) ∧ massTo g k ≤ 1000000000 ∧ Below w.heap.size w wr) (fun _ i _ => n - (intOf i).toNat)
    case atStart => exact ⟨0, Nat.zero_le _, rfl, rfl, fun j hj => by omega, by simp [massTo], by (repeat' (first | with_reducible assumption | with_reducible exact Below.refl _ _ | with_reducible refine Below.drew ?_ | with_reducible refine below_drewN ?_ _ | with_reducible refine balloc ?_ _ | with_reducible refine bset ?_ ?_ _ | omega | (simp; done) | (simp; omega)))⟩
    case round =>
      obtain ⟨k, hk, rfl, rfl, hok, hle, hB⟩ := hrel
      have h0 := massTo_nonneg g k hok
      by_cases hlt : k < n
      · obtain ⟨b, off, rfl, hb, c0, c1, c2, c3⟩ := (H.below hB) k hlt
        have HOK := hid hok; clear hok
        go_wp2_with fail
        refine (cell_mass _ _).mono ?_
        rintro e w1 ⟨rfl, hb1⟩
        have hB1 : Below w.heap.size w w1 := bvia (balloc hB _) hb1
        cases hv : validC (g k)
        · simp only [massR, errR, hv]
          go_wp2_with fail
          go_ret
          refine ⟨ret_bool ?_, hB1⟩
          symm; rw [validG_no]; intro h; have := h.2.2.2.2.2.2.1 k hlt; rw [hv] at this; cases this
        · simp only [massR, errR, hv]
          have b0 := (validC_iff _).1 hv
          have e1 : (g k).mass = (g k).e + (g k).n + (g k).w + (g k).s := rfl
          have b1 : 0 ≤ (g k).mass := by omega
          have b2 : (g k).mass ≤ 1000000000 := by omega
          clear e1 b0
          by_cases hs : 1000000000 < massTo g k + (g k).mass
          · go_wp2_with fail
            go_ret
            refine ⟨ret_bool ?_, hB1⟩
            symm; rw [validG_no]; intro h
            have hm1 := massTo_mono g (k := k + 1) (n := n) (by omega) h.2.2.2.2.2.2.1
            simp only [massTo] at hm1
            have := h.2.2.2.2.2.2.2
            omega
          · go_wp2_with fail
            go_roundw
            case rel => exact ⟨k + 1, by omega, by go_num, rfl, fun j hj => by
              rcases Nat.lt_succ_iff_lt_or_eq.1 hj with h' | rfl
              · exact HOK.out j h'
              · exact hv, by simp only [massTo]; omega, hB1⟩
            case measure => simp [intOf]; omega
      · go_wp2
        go_ret
        obtain rfl : k = n := (by omega)
        refine ⟨ret_bool ?_, hB⟩
        symm; rw [validG_iff]; exact ⟨h1, h2, h3, h4, by omega, HE.out, hok, hle⟩
  · have he' : ¬ ((n : Int) = wide * high) := by simpa using he
    have HE := hid he'; clear he'
    go_enter Try.func64, Try.ntmps64
    go_wp2_with (go_at_call 126; refine (grid_within _ _ _ _).mono ?_; rintro e w' ⟨rfl, rfl⟩)
    go_ret
    refine ⟨ret_bool ?_, by (repeat' (first | with_reducible assumption | with_reducible exact Below.refl _ _ | with_reducible refine Below.drew ?_ | with_reducible refine below_drewN ?_ _ | with_reducible refine balloc ?_ _ | with_reducible refine bset ?_ ?_ _ | omega | (simp; done) | (simp; omega)))⟩
    symm; rw [validG_no]; intro h; exact HE.out h.2.2.2.2.2.1
end Go.Proofs.Ytnnaegnkkpknpaa
