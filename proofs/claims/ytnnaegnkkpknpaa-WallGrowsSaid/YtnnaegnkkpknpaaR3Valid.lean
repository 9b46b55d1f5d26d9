/- Walks: the reference's wall validity. -/
import Derived.Test.YtnnaegnkkpknpaaWValid
namespace Go.Proofs.Ytnnaegnkkpknpaa
open Go.RowKit
set_option linter.unusedVariables false
set_option maxHeartbeats 2000000 in
theorem ref3_valid (wide high : Int) (a ak ab : Option Addr) (n nk nb c ck cb : Nat) (g : Nat → C4) (K B : Nat → Int) (w : World) (hn : n ≤ 100000000) (hnk : nk ≤ 100000000) (hnb : nb ≤ 100000000) (H : Sc w a n g) (HK : Sl w ak nk K) (HB : Sl w ab nb B) :
    Calls Try.prog 21 #[.agg #[.int .i64 wide, .int .i64 high, .slice a n c], .agg #[.slice ak nk ck, .slice ab nb cb]] w
    fun e w' => e = .returned (.bool (validW wide high n g nk nb K B)) ∧ Below w.heap.size w w' := by
  have I := (H.alloc (.cells #[.int .i64 wide, .int .i64 high, .slice a n c] 24)).alloc (.cells #[.slice ak nk ck, .slice ab nb cb] 27)
  cases hg : validG wide high n g
  · go_enter Try.func21, Try.ntmps21
    go_wp2_with (go_at_call 65; refine (ref2_valid wide high _ n _ g _ hn I).mono ?_; rintro e w1 ⟨rfl, hb1⟩)
    go_ret
    exact ⟨ret_bool (validW_noG hg).symm, bvia (by (repeat' (first | with_reducible assumption | with_reducible exact Below.refl _ _ | with_reducible refine Below.drew ?_ | with_reducible refine below_drewN ?_ _ | with_reducible refine balloc ?_ _ | with_reducible refine bset ?_ ?_ _ | omega | (simp; done) | (simp; omega)))) hb1⟩
  cases hk : ((nk : Int) != n)
  · cases hbn : ((nb : Int) != n)
    · have e1 : nk = n := by simp at hk; omega
      have e2 : nb = n := by simp at hbn; omega
      subst e1
      subst e2
      clear hk hbn
      go_enter Try.func21, Try.ntmps21
      go_wp2_with fail
      refine (ref2_valid wide high _ _ _ g _ hn I).mono ?_
      rintro e w1 ⟨rfl, hb1⟩
      rw [hg]
      have hB1 : Below w.heap.size w w1 := bvia (by (repeat' (first | with_reducible assumption | with_reducible exact Below.refl _ _ | with_reducible refine Below.drew ?_ | with_reducible refine below_drewN ?_ _ | with_reducible refine balloc ?_ _ | with_reducible refine bset ?_ ?_ _ | omega | (simp; done) | (simp; omega)))) hb1
      have J1 := ((HK.alloc (.cells #[.int .i64 wide, .int .i64 high, .slice a nb c] 24)).alloc (.cells #[.slice ak nb ck, .slice ab nb cb] 27)).below hb1
      have J2 := ((HB.alloc (.cells #[.int .i64 wide, .int .i64 high, .slice a nb c] 24)).alloc (.cells #[.slice ak nb ck, .slice ab nb cb] 27)).below hb1
      have hc1 := bcell hb1
      have hf1 := bfrozen hb1
      have hz1 := hb1.size
      try simp at hz1
      have hz1a : w.heap.size < w1.heap.size := by omega
      have hz1b : w.heap.size + 1 < w1.heap.size := by omega
      have d0 : w1.cell? ⟨w.heap.size + 1, 0, none⟩ = some (.slice ak nb ck) := by rw [hc1 _ _ (by simp)]; simp [go_sem]
      have d1 : w1.cell? ⟨w.heap.size + 1, 1, none⟩ = some (.slice ab nb cb) := by rw [hc1 _ _ (by simp)]; simp [go_sem]
      go_wp2_with fail
      go_loopw [5] (fun i wr => ∃ k : Nat, k ≤ nb ∧ i = .int .i64 k ∧ (∀ j, j < k → okK K B j) ∧ Below w1.heap.size w1 wr) (fun i _ => nb - (intOf i).toNat)
      case atStart => exact ⟨0, Nat.zero_le _, rfl, fun j hj => by omega, Below.refl _ _⟩
      case round =>
        clear hc1 hf1 I H HK HB hb1
        obtain ⟨k, hk, rfl, hok, hb2⟩ := hrel
        have HOK := hid hok; clear hok
        have f0 := (bcell hb2 (w.heap.size + 1) 0 (by omega)).trans d0
        have f1 := (bcell hb2 (w.heap.size + 1) 1 (by omega)).trans d1
        by_cases hlt : k < nb
        · obtain ⟨b1, o1, rfl, _, c1⟩ := (J1.below hb2) k hlt
          obtain ⟨b2, o2, rfl, _, c2⟩ := (J2.below hb2) k hlt
          clear J1 J2
          cases hw : within (K k) 0 3
          · have hno := hid ((within_no _ _ _).1 hw)
            go_wp2
            go_quiet ((go_at_call 67; exact quiet_left (ref3_within _ _ _ _)))
            go_wp2
            go_ret
            exact ⟨ret_bool (validW_noE hlt (fun h => by exact hno.out ⟨h.1, h.2.1⟩)).symm, hB1.trans ((below_drewN hb2 _).mono hB1.size)⟩
          · have hyes := hid ((within_iff _ _ _).1 hw)
            cases hK0 : (K k == 0)
            · cases hB0 : (B k == 0)
              · cases hwb : within (B k) 0 9
                · have hno := hid ((within_no _ _ _).1 hwb)
                  go_wp2
                  go_quiet ((go_at_call 67; exact quiet_left (ref3_within _ _ _ _)))
                  go_wp2
                  go_ret
                  exact ⟨ret_bool (validW_noE hlt (fun h => by exact hno.out ⟨h.2.2.2.1, h.2.2.2.2⟩)).symm, hB1.trans ((below_drewN hb2 _).mono hB1.size)⟩
                · have hyb := hid ((within_iff _ _ _).1 hwb)
                  go_wp2
                  go_quiet ((go_at_call 67; exact quiet_left (ref3_within _ _ _ _)))
                  go_wp2
                  go_roundw
                  case rel => exact ⟨k + 1, by omega, by go_num, fun j hj => by
                      rcases Nat.lt_succ_iff_lt_or_eq.1 hj with h' | rfl
                      · exact HOK.out j h'
                      · have a1 := hyes.out; have a2 := hyb.out; simp at hK0 hB0; exact ⟨a1.1, a1.2, ⟨fun h => absurd h hK0, fun h => absurd h hB0⟩, a2.1, a2.2⟩, by (repeat' (first | with_reducible assumption | with_reducible exact Below.refl _ _ | with_reducible refine Below.drew ?_ | with_reducible refine below_drewN ?_ _ | with_reducible refine balloc ?_ _ | with_reducible refine bset ?_ ?_ _ | omega | (simp; done) | (simp; omega)))⟩
                  case measure => simp [intOf]; omega
              · go_wp2
                go_quiet ((go_at_call 67; exact quiet_left (ref3_within _ _ _ _)))
                go_wp2
                go_ret
                exact ⟨ret_bool (validW_noE hlt (fun h => by simp at hK0 hB0; exact hK0 (h.2.2.1.2 hB0))).symm, hB1.trans ((below_drewN hb2 _).mono hB1.size)⟩
            · cases hB0 : (B k == 0)
              · go_wp2
                go_quiet ((go_at_call 67; exact quiet_left (ref3_within _ _ _ _)))
                go_wp2
                go_ret
                exact ⟨ret_bool (validW_noE hlt (fun h => by simp at hK0 hB0; exact hB0 (h.2.2.1.1 hK0))).symm, hB1.trans ((below_drewN hb2 _).mono hB1.size)⟩
              · cases hwb : within (B k) 0 9
                · have hno := hid ((within_no _ _ _).1 hwb)
                  go_wp2
                  go_quiet ((go_at_call 67; exact quiet_left (ref3_within _ _ _ _)))
                  go_wp2
                  go_ret
                  exact ⟨ret_bool (validW_noE hlt (fun h => by exact hno.out ⟨h.2.2.2.1, h.2.2.2.2⟩)).symm, hB1.trans ((below_drewN hb2 _).mono hB1.size)⟩
                · have hyb := hid ((within_iff _ _ _).1 hwb)
                  go_wp2
                  go_quiet ((go_at_call 67; exact quiet_left (ref3_within _ _ _ _)))
                  go_wp2
                  go_roundw
                  case rel => exact ⟨k + 1, by omega, by go_num, fun j hj => by
                      rcases Nat.lt_succ_iff_lt_or_eq.1 hj with h' | rfl
                      · exact HOK.out j h'
                      · have a1 := hyes.out; have a2 := hyb.out; simp at hK0 hB0; exact ⟨a1.1, a1.2, ⟨fun _ => hB0, fun _ => hK0⟩, a2.1, a2.2⟩, by (repeat' (first | with_reducible assumption | with_reducible exact Below.refl _ _ | with_reducible refine Below.drew ?_ | with_reducible refine below_drewN ?_ _ | with_reducible refine balloc ?_ _ | with_reducible refine bset ?_ ?_ _ | omega | (simp; done) | (simp; omega)))⟩
                  case measure => simp [intOf]; omega
        · obtain rfl : k = nb := (by omega)
          go_wp2
          go_ret
          exact ⟨ret_bool ((validW_iff _ _ _ _ _ _ _ _).2 ⟨hg, rfl, rfl, HOK.out⟩).symm, hB1.trans (hb2.mono hB1.size)⟩
    · have e1 : nk = n := by simp at hk; omega
      subst e1
      clear hk
      go_enter Try.func21, Try.ntmps21
      go_wp2_with fail
      refine (ref2_valid wide high _ _ _ g _ hn I).mono ?_
      rintro e w1 ⟨rfl, hb1⟩
      rw [hg]
      have hc1 := bcell hb1
      have hf1 := bfrozen hb1
      have hz1 := hb1.size
      try simp at hz1
      have hz1a : w.heap.size < w1.heap.size := by omega
      have hz1b : w.heap.size + 1 < w1.heap.size := by omega
      go_wp2_with fail
      go_ret
      exact ⟨ret_bool (validW_noB (by simp at hbn; omega)).symm, bvia (by (repeat' (first | with_reducible assumption | with_reducible exact Below.refl _ _ | with_reducible refine Below.drew ?_ | with_reducible refine below_drewN ?_ _ | with_reducible refine balloc ?_ _ | with_reducible refine bset ?_ ?_ _ | omega | (simp; done) | (simp; omega)))) hb1⟩
  · go_enter Try.func21, Try.ntmps21
    go_wp2_with fail
    refine (ref2_valid wide high _ _ _ g _ hn I).mono ?_
    rintro e w1 ⟨rfl, hb1⟩
    rw [hg]
    have hc1 := bcell hb1
    have hf1 := bfrozen hb1
    have hz1 := hb1.size
    try simp at hz1
    have hz1a : w.heap.size < w1.heap.size := by omega
    have hz1b : w.heap.size + 1 < w1.heap.size := by omega
    go_wp2_with fail
    go_ret
    exact ⟨ret_bool (validW_noK (by simp at hk; omega)).symm, bvia (by (repeat' (first | with_reducible assumption | with_reducible exact Below.refl _ _ | with_reducible refine Below.drew ?_ | with_reducible refine below_drewN ?_ _ | with_reducible refine balloc ?_ _ | with_reducible refine bset ?_ ?_ _ | omega | (simp; done) | (simp; omega)))) hb1⟩
end Go.Proofs.Ytnnaegnkkpknpaa
