/- Walks: the reference's Impulse. -/
import Derived.Test.YtnnaegnkkpknpaaRImp
namespace Go.Proofs.Ytnnaegnkkpknpaa
open Go.RowKit
set_option linter.unusedVariables false
set_option maxRecDepth 100000 in
set_option maxHeartbeats 2000000 in
theorem ref3_Impulse (wide high body : Int) (a ak ab : Option Addr) (n nk nb c ck cb : Nat) (g : Nat → C4) (K B : Nat → Int) (w : World) (hn : n ≤ 1000000) (hnk : nk ≤ 1000000) (hnb : nb ≤ 1000000) (H : Sc w a n g) (HK : Sl w ak nk K) (HB : Sl w ab nb B) :
    Calls Try.prog 25 #[.agg #[.int .i64 wide, .int .i64 high, .slice a n c], .agg #[.slice ak nk ck, .slice ab nb cb], .int .i64 body] w
      fun e w' => e = .returned (.tuple #[impVal (validW wide high n g nk nb K B) g K B body nb, .int .i64 (impErr (validW wide high n g nk nb K B) B body nb)]) ∧ Below w.heap.size w w' := by
  have I := ((H.alloc (.cells #[.int .i64 wide, .int .i64 high, .slice a n c] 24)).alloc (.cells #[.slice ak nk ck, .slice ab nb cb] 27)).alloc (.cells #[.int .i64 0, .int .i64 0] 43)
  have IK := ((HK.alloc (.cells #[.int .i64 wide, .int .i64 high, .slice a n c] 24)).alloc (.cells #[.slice ak nk ck, .slice ab nb cb] 27)).alloc (.cells #[.int .i64 0, .int .i64 0] 43)
  have IB := ((HB.alloc (.cells #[.int .i64 wide, .int .i64 high, .slice a n c] 24)).alloc (.cells #[.slice ak nk ck, .slice ab nb cb] 27)).alloc (.cells #[.int .i64 0, .int .i64 0] 43)
  go_enter Try.func25, Try.ntmps25
  go_wp2_with fail
  refine (ref3_valid wide high _ _ _ _ _ _ _ _ _ g K B _ (by omega) (by omega) (by omega) I IK IB).mono ?_
  rintro e w1 ⟨rfl, hb1⟩
  have hB1 : Below w.heap.size w w1 := bvia (by (repeat' (first | with_reducible assumption | with_reducible exact Below.refl _ _ | with_reducible refine Below.drew ?_ | with_reducible refine below_drewN ?_ _ | with_reducible refine balloc ?_ _ | with_reducible refine bset ?_ ?_ _ | omega | (simp; done) | (simp; omega)))) hb1
  have X0 := (((Bx.new w #[.int .i64 wide, .int .i64 high, .slice a n c] 24).alloc (.cells #[.slice ak nk ck, .slice ab nb cb] 27)).alloc (.cells #[.int .i64 0, .int .i64 0] 43)).below hb1
  have X1 := ((Bx.new (w.alloc (.cells #[.int .i64 wide, .int .i64 high, .slice a n c] 24)) #[.slice ak nk ck, .slice ab nb cb] 27).alloc (.cells #[.int .i64 0, .int .i64 0] 43)).below hb1
  have X2 := (Bx.new ((w.alloc (.cells #[.int .i64 wide, .int .i64 high, .slice a n c] 24)).alloc (.cells #[.slice ak nk ck, .slice ab nb cb] 27)) #[.int .i64 0, .int .i64 0] 43).below hb1
  simp only [World.size_alloc] at X1 X2
  have x00 := X0.at_ 0 rfl; have x01 := X0.at_ 1 rfl; have x02 := X0.at_ 2 rfl
  have x10 := X1.at_ 0 rfl; have x11 := X1.at_ 1 rfl
  have x20 := X2.at_ 0 rfl; have x21 := X2.at_ 1 rfl
  have f2 := X2.free
  have l2 := X2.lt
  cases hv : validW wide high n g nk nb K B
  · go_wp2_with fail
    refine bodyPost_ret (v := .tuple #[.agg #[.int .i64 0, .int .i64 0], .int .i64 1]) (by simp [results, Try.results25, go_sem, x20, x21]) rfl ⟨by simp [impVal, impErr, hv], by (repeat' (first | with_reducible assumption | with_reducible exact Below.refl _ _ | with_reducible refine Below.drew ?_ | with_reducible refine below_drewN ?_ _ | with_reducible refine balloc ?_ _ | with_reducible refine bset ?_ ?_ _ | omega | (simp; done) | (simp; omega)))⟩
  · obtain ⟨hG, rfl, rfl, hK⟩ := (validW_iff ..).1 hv
    obtain ⟨_, _, _, _, _, _, hC, _⟩ := (validG_iff ..).1 hG
    have HC := hid hC; clear hC
    have HK' := hid hK; clear hK
    cases hw : within body 1 9
    · go_wp2_with (go_at_call 74; refine (ref3_isBody _ _).mono ?_; rintro e w' ⟨rfl, rfl⟩)
      refine bodyPost_ret (v := .tuple #[.agg #[.int .i64 0, .int .i64 0], .int .i64 7]) (by simp [results, Try.results25, go_sem, x20, x21]) rfl ⟨by simp [impVal, impErr, bodE, hv, hw], by (repeat' (first | with_reducible assumption | with_reducible exact Below.refl _ _ | with_reducible refine Below.drew ?_ | with_reducible refine below_drewN ?_ _ | with_reducible refine balloc ?_ _ | with_reducible refine bset ?_ ?_ _ | omega | (simp; done) | (simp; omega)))⟩
    · go_wp2_with (go_at_call 74; refine (ref3_isBody _ _).mono ?_; rintro e w' ⟨rfl, rfl⟩)
      refine (ref3_own _ _ _ _ _ _ B body _ (by omega) (IB.below hb1)).mono ?_
      rintro e w2 ⟨v, rfl, hown, hb2⟩
      obtain ⟨a0, c0, rfl, HL⟩ := sl_of_own hown
      have hB2 : Below w.heap.size w w2 := hB1.trans (hb2.mono hB1.size)
      have Y0 := X0.below hb2; have Y1 := X1.below hb2; have Y2 := X2.below hb2
      have y00 := Y0.at_ 0 rfl; have y01 := Y0.at_ 1 rfl; have y02 := Y0.at_ 2 rfl
      have y10 := Y1.at_ 0 rfl; have y11 := Y1.at_ 1 rfl
      have y20 := Y2.at_ 0 rfl; have y21 := Y2.at_ 1 rfl
      have g2 := Y2.free
      have m2 := Y2.lt
      have hh := hasL_own B body nb
      have hlen := ownL_length B body nb
      by_cases hz : (ownL B body nb).length = 0
      · rw [hz] at hh ⊢
        have q : bodE B body nb = 8 := by simp [bodE, hw, hh]
        clear hown HL
        go_wp2_with fail
        refine bodyPost_ret (v := .tuple #[.agg #[.int .i64 0, .int .i64 0], .int .i64 8]) (by simp [results, Try.results25, go_sem, y20, y21]) rfl ⟨by simp [impVal, impErr, hv, q], by (repeat' (first | with_reducible assumption | with_reducible exact Below.refl _ _ | with_reducible refine Below.drew ?_ | with_reducible refine below_drewN ?_ _ | with_reducible refine balloc ?_ _ | with_reducible refine bset ?_ ?_ _ | omega | (simp; done) | (simp; omega)))⟩
      · have hh' : hasL B body nb = true := by rw [hh]; simp only [decide_eq_true_eq]; omega
        have q : bodE B body nb = 0 := by simp [bodE, hw, hh']
        go_wp2_with fail
        refine (ref3_impulse wide high body _ _ _ _ _ _ _ g K B _ hn ((I.below hb1).below hb2) ((IK.below hb1).below hb2) ((IB.below hb1).below hb2) HC.out (fun k hk => ⟨(HK'.out k hk).1, (HK'.out k hk).2.1⟩)).mono ?_
        rintro e w3 ⟨rfl, hb3⟩
        have hB3 : Below w.heap.size w w3 := bvia hB2 hb3
        have Z2 := Y2.below hb3
        have z20 := Z2.at_ 0 rfl; have z21 := Z2.at_ 1 rfl
        have z2 := Z2.free
        have k2 := Z2.lt
        go_wp2_with fail
        refine bodyPost_ret (v := .tuple #[.agg #[.int .i64 (impE g K B body nb), .int .i64 (impN g K B body nb)], .int .i64 0]) (by simp [results, Try.results25, go_sem, z20, z21]) rfl ⟨by simp [impVal, impErr, hv, q], by (repeat' (first | with_reducible assumption | with_reducible exact Below.refl _ _ | with_reducible refine Below.drew ?_ | with_reducible refine below_drewN ?_ _ | with_reducible refine balloc ?_ _ | with_reducible refine bset ?_ ?_ _ | omega | (simp; done) | (simp; omega)))⟩
end Go.Proofs.Ytnnaegnkkpknpaa
