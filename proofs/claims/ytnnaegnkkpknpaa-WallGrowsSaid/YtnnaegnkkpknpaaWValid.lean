/- Walks: wall.Valid and the reference's. -/
import Derived.Test.YtnnaegnkkpknpaaRValid
namespace Go.Proofs.Ytnnaegnkkpknpaa
open Go.RowKit
set_option linter.unusedVariables false
def okK (K B : Nat → Int) (k : Nat) : Prop := 0 ≤ K k ∧ K k ≤ 3 ∧ (K k = 0 ↔ B k = 0) ∧ 0 ≤ B k ∧ B k ≤ 9
theorem validW_noG {wide high : Int} {n : Nat} {g : Nat → C4} {nk nb : Nat} {K B : Nat → Int} (h : validG wide high n g = false) : validW wide high n g nk nb K B = false := by simp [validW, h]
theorem validW_noK {wide high : Int} {n : Nat} {g : Nat → C4} {nk nb : Nat} {K B : Nat → Int} (h : ¬ nk = n) : validW wide high n g nk nb K B = false := by rw [validW_no]; intro hh; exact h hh.2.1
theorem validW_noB {wide high : Int} {n : Nat} {g : Nat → C4} {nk nb : Nat} {K B : Nat → Int} (h : ¬ nb = n) : validW wide high n g nk nb K B = false := by rw [validW_no]; intro hh; exact h hh.2.2.1
theorem validW_noE {wide high : Int} {n : Nat} {g : Nat → C4} {nk nb : Nat} {K B : Nat → Int} {k : Nat} (hk : k < n) (h : ¬ okK K B k) : validW wide high n g nk nb K B = false := by rw [validW_no]; intro hh; exact h (hh.2.2.2 k hk)
set_option maxHeartbeats 1000000 in
theorem wall_valid (wide high : Int) (a ak ab : Option Addr) (n nk nb c ck cb : Nat) (g : Nat → C4) (K B : Nat → Int) (w : World) (hn : n ≤ 100000000) (hnk : nk ≤ 100000000) (hnb : nb ≤ 100000000) (H : Sc w a n g) (HK : Sl w ak nk K) (HB : Sl w ab nb B) :
    Calls Try.prog 20 #[.agg #[.int .i64 wide, .int .i64 high, .slice a n c], .agg #[.slice ak nk ck, .slice ab nb cb]] w
    fun e w' => e = .returned (.bool (validW wide high n g nk nb K B)) ∧ Below w.heap.size w w' := by
  have I := (H.alloc (.cells #[.int .i64 wide, .int .i64 high, .slice a n c] 24)).alloc (.cells #[.slice ak nk ck, .slice ab nb cb] 27)
  cases hg : validG wide high n g
  · go_enter Try.func20, Try.ntmps20
    go_wp2_with (go_at_call 64; refine (grid_valid wide high _ n _ g _ hn I).mono ?_; rintro e w1 ⟨rfl, hb1⟩)
    go_ret
    exact ⟨ret_bool (validW_noG hg).symm, bvia (by (repeat' (first | with_reducible assumption | with_reducible exact Below.refl _ _ | with_reducible refine Below.drew ?_ | with_reducible refine below_drewN ?_ _ | with_reducible refine balloc ?_ _ | with_reducible refine bset ?_ ?_ _ | omega | (simp; done) | (simp; omega)))) hb1⟩
  cases hk : ((nk : Int) != n)
  · cases hbn : ((nb : Int) != n)
    · have e1 : nk = n := by simp at hk; omega
      have e2 : nb = n := by simp at hbn; omega
      subst e1
      subst e2
      clear hk hbn
      go_enter Try.func20, Try.ntmps20
      go_wp2_with fail
      refine (grid_valid wide high _ _ _ g _ hn I).mono ?_
      rintro e w1 ⟨rfl, hb1⟩
      rw [hg]
      have hB1 : Below w.heap.size w w1 := bvia (by (repeat' (first | with_reducible assumption | with_reducible exact Below.refl _ _ | with_reducible refine Below.drew ?_ | with_reducible refine below_drewN ?_ _ | with_reducible refine balloc ?_ _ | with_reducible refine bset ?_ ?_ _ | omega | (simp; done) | (simp; omega)))) hb1
      have hc1 := bcell hb1
      have hf1 := bfrozen hb1
      have hz1 := hb1.size
      try simp at hz1
      have hz1a : w.heap.size < w1.heap.size := by omega
      have hz1b : w.heap.size + 1 < w1.heap.size := by omega
      go_wp2_with fail
      have J1 := ((HK.alloc (.cells #[.int .i64 wide, .int .i64 high, .slice a nb c] 24)).alloc (.cells #[.slice ak nb ck, .slice ab nb cb] 27)).below hb1
      have J2 := ((HB.alloc (.cells #[.int .i64 wide, .int .i64 high, .slice a nb c] 24)).alloc (.cells #[.slice ak nb ck, .slice ab nb cb] 27)).below hb1
      go_loop [31] (fun i => ∃ k : Nat, k ≤ nb ∧ i = .int .i64 k ∧ (∀ j, j < k → okK K B j)) (fun i => nb - (intOf i).toNat)
      case atStart => exact ⟨0, Nat.zero_le _, rfl, fun j hj => by omega⟩
      case round =>
        obtain ⟨k, hk, rfl, hok⟩ := hrel
        have HOK := hid hok; clear hok
        by_cases hlt : k < nb
        · obtain ⟨b1, o1, rfl, _, c1⟩ := J1 k hlt
          obtain ⟨b2, o2, rfl, _, c2⟩ := J2 k hlt
          cases hw : within (K k) 0 3
          · go_wp2_with (go_at_call 66; refine (wall_within _ _ _ _).mono ?_; rintro e w' ⟨rfl, rfl⟩)
            go_ret
            exact ⟨ret_bool (validW_noE hlt (fun h => by rw [within_no] at hw; exact hw ⟨h.1, h.2.1⟩)).symm, hB1⟩
          · have hb := (within_iff _ _ _).1 hw
            obtain ⟨k0, k3⟩ := hb
            by_cases h1 : 1 < K k
            · cases hwb : within (B k) 1 9
              · go_wp2_with (go_at_call 66; refine (wall_within _ _ _ _).mono ?_; rintro e w' ⟨rfl, rfl⟩)
                go_ret
                exact ⟨ret_bool (validW_noE hlt (fun h => by rw [within_no] at hwb; unfold okK at h; omega)).symm, hB1⟩
              · go_wp2_with (go_at_call 66; refine (wall_within _ _ _ _).mono ?_; rintro e w' ⟨rfl, rfl⟩)
                go_round
                case rel => exact ⟨k + 1, by omega, by go_num, fun j hj => by
                    rcases Nat.lt_succ_iff_lt_or_eq.1 hj with h' | rfl
                    · exact HOK.out j h'
                    · rw [within_iff] at hwb; unfold okK; omega⟩
                case measure => simp [intOf]; omega
            · cases hwb : within (B k) (K k) (K k * 9)
              · go_wp2_with (go_at_call 66; refine (wall_within _ _ _ _).mono ?_; rintro e w' ⟨rfl, rfl⟩)
                go_ret
                exact ⟨ret_bool (validW_noE hlt (fun h => by rw [within_no] at hwb; unfold okK at h; omega)).symm, hB1⟩
              · go_wp2_with (go_at_call 66; refine (wall_within _ _ _ _).mono ?_; rintro e w' ⟨rfl, rfl⟩)
                go_round
                case rel => exact ⟨k + 1, by omega, by go_num, fun j hj => by
                    rcases Nat.lt_succ_iff_lt_or_eq.1 hj with h' | rfl
                    · exact HOK.out j h'
                    · rw [within_iff] at hwb; unfold okK; omega⟩
                case measure => simp [intOf]; omega
        · obtain rfl : k = nb := (by omega)
          go_wp2
          go_ret
          exact ⟨ret_bool ((validW_iff _ _ _ _ _ _ _ _).2 ⟨hg, rfl, rfl, HOK.out⟩).symm, hB1⟩
    · have e1 : nk = n := by simp at hk; omega
      subst e1
      clear hk
      go_enter Try.func20, Try.ntmps20
      go_wp2_with fail
      refine (grid_valid wide high _ _ _ g _ hn I).mono ?_
      rintro e w1 ⟨rfl, hb1⟩
      rw [hg]
      have hc1 := bcell hb1
      have hf1 := bfrozen hb1
      have hz1 := hb1.size
      try simp at hz1
      have hz1a : w.heap.size < w1.heap.size := by omega
      have hz1b : w.heap.size + 1 < w1.heap.size := by omega
      go_wp2_with fail
      go_ret
      exact ⟨ret_bool (validW_noB (by simp at hbn; omega)).symm, bvia (by (repeat' (first | with_reducible assumption | with_reducible exact Below.refl _ _ | with_reducible refine Below.drew ?_ | with_reducible refine below_drewN ?_ _ | with_reducible refine balloc ?_ _ | with_reducible refine bset ?_ ?_ _ | omega | (simp; done) | (simp; omega)))) hb1⟩
  · go_enter Try.func20, Try.ntmps20
    go_wp2_with fail
    refine (grid_valid wide high _ _ _ g _ hn I).mono ?_
    rintro e w1 ⟨rfl, hb1⟩
    rw [hg]
    have hc1 := bcell hb1
    have hf1 := bfrozen hb1
    have hz1 := hb1.size
    try simp at hz1
    have hz1a : w.heap.size < w1.heap.size := by omega
    have hz1b : w.heap.size + 1 < w1.heap.size := by omega
    go_wp2_with fail
    go_ret
    exact ⟨ret_bool (validW_noK (by simp at hk; omega)).symm, bvia (by (repeat' (first | with_reducible assumption | with_reducible exact Below.refl _ _ | with_reducible refine Below.drew ?_ | with_reducible refine below_drewN ?_ _ | with_reducible refine balloc ?_ _ | with_reducible refine bset ?_ ?_ _ | omega | (simp; done) | (simp; omega)))) hb1⟩
end Go.Proofs.Ytnnaegnkkpknpaa
