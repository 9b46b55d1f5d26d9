/- Walks: grid.Valid and the reference's. Walks: the reference's grid validity. Walks: wall.Valid and the reference's. Walks: the reference's wall validity. -/
import Derived.Test.YtmmjaobpoiofdaaGreatCell
import Derived.Handy
namespace Go.Proofs.YtmmjaobpoiofdaaGreat
open Go.RowKit
set_option linter.unusedVariables false
theorem mul_bd {a b : Int} (h1 : 1 ≤ a) (h2 : a ≤ 64) (h3 : 1 ≤ b) (h4 : b ≤ 64) : 1 ≤ a * b ∧ a * b ≤ 4096 := by
  refine ⟨?_, ?_⟩
  · have := Int.mul_le_mul h1 h3 (by omega) (by omega); omega
  · have := Int.mul_le_mul h2 h4 (by omega) (by omega); omega
theorem validG_false_w {wide high : Int} {n : Nat} {g : Nat → C4} (h : within wide 1 64 = false) : validG wide high n g = false := by
  rw [validG_no]; rw [within_no] at h; omega
set_option maxHeartbeats 1000000 in
theorem grid_valid (wide high : Int) (a : Option Addr) (n cap : Nat) (g : Nat → C4) (w : World) (hn : n ≤ 100000000) (H : Sc w a n g) : Calls Tryz.prog 66 #[.agg #[.int .i64 wide, .int .i64 high, .slice a n cap]] w
    fun e w' => e = .returned (.bool (validG wide high n g)) ∧ Below w.heap.size w w' := by
  cases hw : within wide 1 64
  · go_enter Tryz.func66, Tryz.ntmps66
    go_wp2_with (go_at_call 112; refine (grid_within _ _ _ _).mono ?_; rintro e w' ⟨rfl, rfl⟩)
    go_ret
    exact ⟨ret_bool (validG_false_w hw).symm, by (repeat' (first | with_reducible assumption | with_reducible exact Below.refl _ _ | with_reducible refine Below.drew ?_ | with_reducible refine below_drewN ?_ _ | with_reducible refine balloc ?_ _ | with_reducible refine bset ?_ ?_ _ | with_reducible refine Below.setCell ?_ ?_ _ | with_reducible refine Below.alloc ?_ ?_ _ | omega | (simp; done) | (simp; omega)))⟩
  cases hh : within high 1 64
  · go_enter Tryz.func66, Tryz.ntmps66
    go_wp2_with (go_at_call 112; refine (grid_within _ _ _ _).mono ?_; rintro e w' ⟨rfl, rfl⟩)
    go_ret
    refine ⟨ret_bool ?_, by (repeat' (first | with_reducible assumption | with_reducible exact Below.refl _ _ | with_reducible refine Below.drew ?_ | with_reducible refine below_drewN ?_ _ | with_reducible refine balloc ?_ _ | with_reducible refine bset ?_ ?_ _ | with_reducible refine Below.setCell ?_ ?_ _ | with_reducible refine Below.alloc ?_ ?_ _ | omega | (simp; done) | (simp; omega)))⟩
    symm; rw [validG_no]; rw [within_no] at hh; omega
  obtain ⟨h1, h2⟩ := (within_iff _ _ _).1 hw
  obtain ⟨h3, h4⟩ := (within_iff _ _ _).1 hh
  obtain ⟨m1, m2⟩ := mul_bd h1 h2 h3 h4
  by_cases hm : 1024 < wide * high
  · go_enter Tryz.func66, Tryz.ntmps66
    go_wp2_with (go_at_call 112; refine (grid_within _ _ _ _).mono ?_; rintro e w' ⟨rfl, rfl⟩)
    go_ret
    refine ⟨ret_bool ?_, by (repeat' (first | with_reducible assumption | with_reducible exact Below.refl _ _ | with_reducible refine Below.drew ?_ | with_reducible refine below_drewN ?_ _ | with_reducible refine balloc ?_ _ | with_reducible refine bset ?_ ?_ _ | with_reducible refine Below.setCell ?_ ?_ _ | with_reducible refine Below.alloc ?_ ?_ _ | omega | (simp; done) | (simp; omega)))⟩
    symm; rw [validG_no]; omega
  have hm' : decide (1024 < wide * high) = false := by simpa using hm
  cases he : ((n : Int) != wide * high)
  · have he' : (n : Int) = wide * high := by simpa using he
    have HE := hid he'; clear he'
    go_enter Tryz.func66, Tryz.ntmps66
    go_wp2_with (go_at_call 112; refine (grid_within _ _ _ _).mono ?_; rintro e w' ⟨rfl, rfl⟩)
    go_loopw [3, 40] (fun m i wr => ∃ k : Nat, k ≤ n ∧ i = .int .i64 k ∧ m = .int .i64 (massTo g k) ∧ (∀ j, j < k → validC (g j) = true) ∧ massTo g k ≤ 1000000000 ∧ Below w.heap.size w wr) (fun _ i _ => n - (intOf i).toNat)
    case atStart => exact ⟨0, Nat.zero_le _, rfl, rfl, fun j hj => by omega, by simp [massTo], by (repeat' (first | with_reducible assumption | with_reducible exact Below.refl _ _ | with_reducible refine Below.drew ?_ | with_reducible refine below_drewN ?_ _ | with_reducible refine balloc ?_ _ | with_reducible refine bset ?_ ?_ _ | with_reducible refine Below.setCell ?_ ?_ _ | with_reducible refine Below.alloc ?_ ?_ _ | omega | (simp; done) | (simp; omega)))⟩
    case round =>
      obtain ⟨k, hk, rfl, rfl, hok, hle, hB⟩ := hrel
      have h0 := massTo_nonneg g k hok
      by_cases hlt : k < n
      · obtain ⟨b, off, rfl, hb, c0, c1, c2, c3⟩ := (H.below hB) k hlt
        have HOK := hid hok; clear hok
        go_wp2_with fail
        refine (cell_mass _ _).mono ?_
        rintro e w1 ⟨rfl, hb1⟩
        have hB1 : Below w.heap.size w w1 := bvia (balloc hB _) hb1
        cases hv : validC (g k)
        · simp only [massR, errR, hv]
          go_wp2_with fail
          go_ret
          refine ⟨ret_bool ?_, hB1⟩
          symm; rw [validG_no]; intro h; have := h.2.2.2.2.2.2.1 k hlt; rw [hv] at this; cases this
        · simp only [massR, errR, hv]
          have b0 := (validC_iff _).1 hv
          have e1 : (g k).mass = (g k).e + (g k).n + (g k).w + (g k).s := rfl
          have b1 : 0 ≤ (g k).mass := by omega
          have b2 : (g k).mass ≤ 1000000000 := by omega
          clear e1 b0
          by_cases hs : 1000000000 < massTo g k + (g k).mass
          · go_wp2_with fail
            go_ret
            refine ⟨ret_bool ?_, hB1⟩
            symm; rw [validG_no]; intro h
            have hm1 := massTo_mono g (k := k + 1) (n := n) (by omega) h.2.2.2.2.2.2.1
            simp only [massTo] at hm1
            have := h.2.2.2.2.2.2.2
            omega
          · go_wp2_with fail
            go_roundw
            case rel => exact ⟨k + 1, by omega, by go_num, rfl, fun j hj => by
              rcases Nat.lt_succ_iff_lt_or_eq.1 hj with h' | rfl
              · exact HOK.out j h'
              · exact hv, by simp only [massTo]; omega, hB1⟩
            case measure => simp [intOf]; omega
      · go_wp2
        go_ret
        obtain rfl : k = n := (by omega)
        refine ⟨ret_bool ?_, hB⟩
        symm; rw [validG_iff]; exact ⟨h1, h2, h3, h4, by omega, HE.out, hok, hle⟩
  · have he' : ¬ ((n : Int) = wide * high) := by simpa using he
    have HE := hid he'; clear he'
    go_enter Tryz.func66, Tryz.ntmps66
    go_wp2_with (go_at_call 112; refine (grid_within _ _ _ _).mono ?_; rintro e w' ⟨rfl, rfl⟩)
    go_ret
    refine ⟨ret_bool ?_, by (repeat' (first | with_reducible assumption | with_reducible exact Below.refl _ _ | with_reducible refine Below.drew ?_ | with_reducible refine below_drewN ?_ _ | with_reducible refine balloc ?_ _ | with_reducible refine bset ?_ ?_ _ | with_reducible refine Below.setCell ?_ ?_ _ | with_reducible refine Below.alloc ?_ ?_ _ | omega | (simp; done) | (simp; omega)))⟩
    symm; rw [validG_no]; intro h; exact HE.out h.2.2.2.2.2.1
end Go.Proofs.YtmmjaobpoiofdaaGreat
namespace Go.Proofs.YtmmjaobpoiofdaaGreat
open Go.RowKit
set_option linter.unusedVariables false
def sidesB (wide high cells : Int) : Bool := decide (1 ≤ wide ∧ wide ≤ 64 ∧ 1 ≤ high ∧ high ≤ 64 ∧ wide * high ≤ 1024 ∧ cells = wide * high)
theorem sidesB_iff (wide high cells : Int) : sidesB wide high cells = true ↔ (1 ≤ wide ∧ wide ≤ 64 ∧ 1 ≤ high ∧ high ≤ 64 ∧ wide * high ≤ 1024 ∧ cells = wide * high) := by simp [sidesB]
theorem sidesB_no (wide high cells : Int) : sidesB wide high cells = false ↔ ¬ (1 ≤ wide ∧ wide ≤ 64 ∧ 1 ≤ high ∧ high ≤ 64 ∧ wide * high ≤ 1024 ∧ cells = wide * high) := by rw [← sidesB_iff]; simp
set_option maxHeartbeats 1000000 in
theorem ref2_sides (wide high cells : Int) (w : World) : Calls Tryz.prog 123 #[.int .i64 wide, .int .i64 high, .int .i64 cells] w
    fun e w' => e = .returned (.bool (sidesB wide high cells)) ∧ w = w' := by
  cases hw : within wide 1 64
  · have hr : sidesB wide high cells = false := by rw [sidesB_no]; rw [within_no] at hw; omega
    go_enter Tryz.func123, Tryz.ntmps123
    go_wp2_with (go_at_call 146; refine (ref2_within _ _ _ _).mono ?_; rintro e w' ⟨rfl, rfl⟩)
    go_ret
    exact ⟨by rw [hr]; rfl, rfl⟩
  cases hh : within high 1 64
  · have hr : sidesB wide high cells = false := by rw [sidesB_no]; rw [within_no] at hh; omega
    go_enter Tryz.func123, Tryz.ntmps123
    go_wp2_with (go_at_call 146; refine (ref2_within _ _ _ _).mono ?_; rintro e w' ⟨rfl, rfl⟩)
    go_ret
    exact ⟨by rw [hr]; rfl, rfl⟩
  obtain ⟨h1, h2⟩ := (within_iff _ _ _).1 hw
  obtain ⟨h3, h4⟩ := (within_iff _ _ _).1 hh
  obtain ⟨m1, m2⟩ := mul_bd h1 h2 h3 h4
  by_cases hm : 1024 < wide * high
  · have hr : sidesB wide high cells = false := by rw [sidesB_no]; omega
    have hm' : decide (wide * high ≤ 1024) = false := by simpa using hm
    go_enter Tryz.func123, Tryz.ntmps123
    go_wp2_with (go_at_call 146; refine (ref2_within _ _ _ _).mono ?_; rintro e w' ⟨rfl, rfl⟩)
    go_ret
    exact ⟨by rw [hr]; rfl, rfl⟩
  have hr : sidesB wide high cells = (cells == wide * high) := by
    rw [Bool.eq_iff_iff, sidesB_iff, beq_iff_eq]; omega
  have hm' : decide (wide * high ≤ 1024) = true := by simp; omega
  have HR := hid hr; clear hr
  go_enter Tryz.func123, Tryz.ntmps123
  go_wp2_with (go_at_call 146; refine (ref2_within _ _ _ _).mono ?_; rintro e w' ⟨rfl, rfl⟩)
  go_ret
  exact ⟨by rw [HR.out]; rfl, rfl⟩
set_option maxHeartbeats 1000000 in
theorem ref2_weight (a : Option Addr) (n cap : Nat) (g : Nat → C4) (w : World) (hn : n ≤ 100000000) (H : Sc w a n g) (hv : ∀ k, k < n → validC (g k) = true) : Calls Tryz.prog 106 #[.slice a n cap] w
    fun e w' => e = .returned (.int .i64 (massTo g n)) ∧ Below w.heap.size w w' := by
  go_enter Tryz.func106, Tryz.ntmps106
  go_wp2
  go_loopw [3, 4] (fun m i wr => ∃ k : Nat, k ≤ n ∧ i = .int .i64 k ∧ m = .int .i64 (massTo g k) ∧ Below w.heap.size w wr) (fun _ i _ => n - (intOf i).toNat)
  case atStart => exact ⟨0, Nat.zero_le _, rfl, rfl, by (repeat' (first | with_reducible assumption | with_reducible exact Below.refl _ _ | with_reducible refine Below.drew ?_ | with_reducible refine below_drewN ?_ _ | with_reducible refine balloc ?_ _ | with_reducible refine bset ?_ ?_ _ | with_reducible refine Below.setCell ?_ ?_ _ | with_reducible refine Below.alloc ?_ ?_ _ | omega | (simp; done) | (simp; omega)))⟩
  case round =>
    obtain ⟨k, hk, rfl, rfl, hB⟩ := hrel
    have h0 := massTo_nonneg g k (fun j hj => hv j (by omega))
    have h1 := massTo_le g k (fun j hj => hv j (by omega))
    by_cases hlt : k < n
    · obtain ⟨b, off, rfl, hb, c0, c1, c2, c3⟩ := (H.below hB) k hlt
      have b0 := (validC_iff _).1 (hv k hlt)
      obtain ⟨b0, b1, b2, b3, b4⟩ := b0
      have HV := hid hv; clear hv
      go_wp2
      go_quiet (fail)
      go_wp2
      go_roundw
      case rel => exact ⟨k + 1, by omega, by go_num, congrArg (Value.int .i64) (by simp only [massTo, C4.mass]; omega), by (repeat' (first | with_reducible assumption | with_reducible exact Below.refl _ _ | with_reducible refine Below.drew ?_ | with_reducible refine below_drewN ?_ _ | with_reducible refine balloc ?_ _ | with_reducible refine bset ?_ ?_ _ | with_reducible refine Below.setCell ?_ ?_ _ | with_reducible refine Below.alloc ?_ ?_ _ | omega | (simp; done) | (simp; omega)))⟩
      case measure => simp [intOf]; omega
    · go_wp2
      go_ret
      obtain rfl : k = n := (by omega)
      exact ⟨rfl, hB⟩
theorem validG_sides {wide high : Int} {n : Nat} {g : Nat → C4} (h : sidesB wide high n = false) : validG wide high n g = false := by
  rw [validG_no]; rw [sidesB_no] at h; intro hh; exact h ⟨hh.1, hh.2.1, hh.2.2.1, hh.2.2.2.1, hh.2.2.2.2.1, hh.2.2.2.2.2.1⟩
set_option maxHeartbeats 1000000 in
theorem ref2_valid (wide high : Int) (a : Option Addr) (n cap : Nat) (g : Nat → C4) (w : World) (hn : n ≤ 100000000) (H : Sc w a n g) : Calls Tryz.prog 78 #[.agg #[.int .i64 wide, .int .i64 high, .slice a n cap]] w
    fun e w' => e = .returned (.bool (validG wide high n g)) ∧ Below w.heap.size w w' := by
  cases hs : sidesB wide high n
  · go_enter Tryz.func78, Tryz.ntmps78
    go_wp2_with (go_at_call 123; refine (ref2_sides _ _ _ _).mono ?_; rintro e w' ⟨rfl, rfl⟩)
    go_ret
    exact ⟨ret_bool (validG_sides hs).symm, by (repeat' (first | with_reducible assumption | with_reducible exact Below.refl _ _ | with_reducible refine Below.drew ?_ | with_reducible refine below_drewN ?_ _ | with_reducible refine balloc ?_ _ | with_reducible refine bset ?_ ?_ _ | with_reducible refine Below.setCell ?_ ?_ _ | with_reducible refine Below.alloc ?_ ?_ _ | omega | (simp; done) | (simp; omega)))⟩
  · have HS := hid ((sidesB_iff _ _ _).1 hs)
    go_enter Tryz.func78, Tryz.ntmps78
    go_wp2_with (go_at_call 123; refine (ref2_sides _ _ _ _).mono ?_; rintro e w' ⟨rfl, rfl⟩)
    go_loopw [3] (fun i wr => ∃ k : Nat, k ≤ n ∧ i = .int .i64 k ∧ (∀ j, j < k → validC (g j) = true) ∧ Below w.heap.size w wr ∧ (w.heap.size < wr.heap.size) ∧ wr.cell? ⟨w.heap.size, 2, none⟩ = some (.slice a n cap)) (fun i _ => n - (intOf i).toNat)
    case atStart => exact ⟨0, Nat.zero_le _, rfl, fun j hj => by omega, by (repeat' (first | with_reducible assumption | with_reducible exact Below.refl _ _ | with_reducible refine Below.drew ?_ | with_reducible refine below_drewN ?_ _ | with_reducible refine balloc ?_ _ | with_reducible refine bset ?_ ?_ _ | with_reducible refine Below.setCell ?_ ?_ _ | with_reducible refine Below.alloc ?_ ?_ _ | omega | (simp; done) | (simp; omega))), by simp, by simp [go_sem]⟩
    case round =>
      obtain ⟨k, hk, rfl, hok, hB, hz, hc⟩ := hrel
      by_cases hlt : k < n
      · obtain ⟨b, off, rfl, hb, c0, c1, c2, c3⟩ := (H.below hB) k hlt
        have HOK := hid hok; clear hok
        cases hv : validC (g k)
        · go_wp2_with (go_at_call 124; refine (ref1_valid (g k) _).mono ?_; rintro e w1 ⟨rfl, hb1⟩)
          go_ret
          refine ⟨ret_bool ?_, hB.trans (hb1.mono hB.size)⟩
          symm; rw [validG_no]; intro h; have := h.2.2.2.2.2.2.1 k hlt; rw [hv] at this; cases this
        · go_wp2_with (go_at_call 124; refine (ref1_valid (g k) _).mono ?_; rintro e w1 ⟨rfl, hb1⟩)
          go_roundw
          case rel => exact ⟨k + 1, by omega, by go_num, fun j hj => by
              rcases Nat.lt_succ_iff_lt_or_eq.1 hj with h' | rfl
              · exact HOK.out j h'
              · exact hv, hB.trans (hb1.mono hB.size), by have := hb1.size; omega, (bcell hb1 _ _ hz).trans hc⟩
          case measure => simp [intOf]; omega
      · obtain rfl : k = n := (by omega)
        have hle := massTo_le g k hok
        have HOK := hid hok
        go_wp2_with (go_at_call 106; refine (ref2_weight _ _ _ g _ hn (H.below hB) HOK.out).mono ?_; rintro e w1 ⟨rfl, hb1⟩)
        go_ret
        refine ⟨ret_bool ?_, hB.trans (hb1.mono hB.size)⟩
        rw [Bool.eq_iff_iff, validG_iff, decide_eq_true_iff]
        have h := HS.out
        exact ⟨fun hh => ⟨h.1, h.2.1, h.2.2.1, h.2.2.2.1, h.2.2.2.2.1, h.2.2.2.2.2, HOK.out, hh⟩, fun hh => hh.2.2.2.2.2.2.2⟩
end Go.Proofs.YtmmjaobpoiofdaaGreat
