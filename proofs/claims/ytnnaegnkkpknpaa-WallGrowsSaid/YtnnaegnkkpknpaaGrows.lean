/- The walk of the law WallGrows. -/
import Derived.Test.YtnnaegnkkpknpaaGrowW
import Derived.Test.YtnnaegnkkpknpaaSends
namespace Go.Proofs.Ytnnaegnkkpknpaa
open Go Go.RowKit
attribute [local go_sem ↓] Go.wp_at_zero Go.wp_at_succ
set_option linter.unusedVariables false
theorem sameL_two (n : Nat) (f g : Nat → Int) : (sameL n f n f && sameL n g n g) = true := by
  rw [sameL_iff.2 ⟨rfl, fun _ _ => rfl⟩, sameL_iff.2 ⟨rfl, fun _ _ => rfl⟩]; rfl
section
variable {wide high : Int} {n : Nat} {g : Nat → C4} (hG : validG wide high n g = true) (hn : n ≤ 100000)
include hG hn
theorem grow_disc (q : Int) (p : Int × Int) (a ak ab : Option Addr) (c ck cb : Nat) (w : World) (H : Sc w a n g) (HK : Sl w ak n zI) (HB : Sl w ab n zI) :
    Calls Try.prog 35 #[.agg #[.int .i64 wide, .int .i64 high, .slice a n c], .agg #[.slice ak n ck, .slice ab n cb], .agg #[.int .i64 p.1, .int .i64 p.2], .int .i64 q, .int .i64 1] w
      (WallPost (discE wide high q 1 p n n n g zI zI) (okL (discE wide high q 1 p n n n g zI zI) n) (fS wide (dIn wide high p q) (fun _ _ => 1)) (bI wide (dIn wide high p q)) w) := by
  obtain ⟨v1, _, _, _, _, v6, _, _⟩ := (validG_iff ..).1 hG
  refine (wall_Disc wide high q 1 p a ak ab n n n c ck cb g zI zI w hn hn hn H HK HB).mono fun e w' h => ?_
  have h' := shape_flat (shape_of_brick (s := fS wide (dIn wide high p q) (fun _ _ => 1)) h (fun _ => f_agree v1 v6 (fun _ _ => by simp)))
  rw [shErr_zero, shLen_zero] at h'
  have hl := okL_le (discE wide high q 1 p n n n g zI zI) n
  exact h'.congr rfl (fun j hj => put_K (by omega)) (fun j hj => put_B (fun _ _ => by simp) (by omega))
theorem grow_smooth (q : Int) (p : Int × Int) (a ak ab : Option Addr) (c ck cb : Nat) (w : World) (H : Sc w a n g) (HK : Sl w ak n zI) (HB : Sl w ab n zI) :
    Calls Try.prog 37 #[.agg #[.int .i64 wide, .int .i64 high, .slice a n c], .agg #[.slice ak n ck, .slice ab n cb], .agg #[.int .i64 p.1, .int .i64 p.2], .int .i64 q, .int .i64 1] w
      (WallPost (discE wide high q 1 p n n n g zI zI) (okL (discE wide high q 1 p n n n g zI zI) n) (fS wide (dIn wide high p q) (mirF wide high p q)) (bI wide (dIn wide high p q)) w) := by
  obtain ⟨v1, _, _, _, _, v6, _, _⟩ := (validG_iff ..).1 hG
  refine (wall_Smooth wide high q 1 p a ak ab n n n c ck cb g zI zI w hn hn hn H HK HB).mono fun e w' h => ?_
  have h' := shape_flat (shape_of_brick (s := fS wide (dIn wide high p q) (mirF wide high p q)) h (fun _ => f_agree v1 v6 (fun _ _ => mirS_ne _ _ _ _)))
  rw [shErr_zero, shLen_zero] at h'
  have hl := okL_le (discE wide high q 1 p n n n g zI zI) n
  exact h'.congr rfl (fun j hj => put_K (by omega)) (fun j hj => put_B (fun _ _ => mirS_ne _ _ _ _) (by omega))
theorem grow_mir {f : Int → Int → Bool} {kf : Int → Int → Int} (hk : ∀ x y, 1 ≤ kf x y ∧ kf x y ≤ 3) (hf : ∀ x y, f (wide - 1 - x) y = f x y) (hks : ∀ x y, kf (wide - 1 - x) y = swp (kf x y)) (a ak ab : Option Addr) (c ck cb : Nat) (w : World) (H : Sc w a n g) (HK : Sl w ak n (fS wide f kf)) (HB : Sl w ab n (bI wide f)) :
    Calls Try.prog 41 #[.agg #[.int .i64 wide, .int .i64 high, .slice a n c], .agg #[.slice ak n ck, .slice ab n cb]] w (WallPost 0 n (fS wide f kf) (bI wide f) w) := by
  obtain ⟨v1, _, _, _, _, v6, _, _⟩ := (validG_iff ..).1 hG
  refine (wall_Mirrored wide high a ak ab n n n c ck cb g (fS wide f kf) (bI wide f) w hn hn hn H HK HB).mono fun e w' h => ?_
  rw [valid_put hG hk] at h
  exact h.congr rfl (fun j hj => fS_mir v1 v6 hj hf hks) (fun j hj => bI_mir v1 v6 hj hf)
end
set_option maxRecDepth 100000 in
set_option maxHeartbeats 8000000 in
theorem walk_grows (wide high q0 q1 : Int) (p : Int × Int) (a : Option Addr) (n c : Nat) (g : Nat → C4) (w : World) (hn : n ≤ maxLen) (H : Sc w a n g) :
    Calls Try.prog 8 #[.agg #[.int .i64 wide, .int .i64 high, .slice a n c], .agg #[.int .i64 p.1, .int .i64 p.2], .agg #[.int .i64 q0, .int .i64 q1]] w
    fun e w' => e = .returned (.bool true) ∧ Below w.heap.size w w' := by
  have X0 := ((Bx.new w #[.int .i64 wide, .int .i64 high, .slice a n c] 24).alloc (.cells #[.int .i64 p.1, .int .i64 p.2] 51)).alloc (.cells #[.int .i64 q0, .int .i64 q1] 57)
  have X1 := (Bx.new (w.alloc (.cells #[.int .i64 wide, .int .i64 high, .slice a n c] 24)) #[.int .i64 p.1, .int .i64 p.2] 51).alloc (.cells #[.int .i64 q0, .int .i64 q1] 57)
  have X2 := Bx.new ((w.alloc (.cells #[.int .i64 wide, .int .i64 high, .slice a n c] 24)).alloc (.cells #[.int .i64 p.1, .int .i64 p.2] 51)) #[.int .i64 q0, .int .i64 q1] 57
  simp only [World.size_alloc] at X1 X2
  have hB0 : Below w.heap.size w (((w.alloc (.cells #[.int .i64 wide, .int .i64 high, .slice a n c] 24)).alloc (.cells #[.int .i64 p.1, .int .i64 p.2] 51)).alloc (.cells #[.int .i64 q0, .int .i64 q1] 57)) := by (repeat' (first | with_reducible assumption | with_reducible exact Below.refl _ _ | with_reducible refine Below.drew ?_ | with_reducible refine below_drewN ?_ _ | with_reducible refine balloc ?_ _ | with_reducible refine bset ?_ ?_ _ | with_reducible refine Below.setCell ?_ ?_ _ | with_reducible refine Below.alloc ?_ ?_ _ | omega | (simp; done) | (simp; omega)))
  by_cases hsm : n ≤ 1200
  · go_enter Try.func8, Try.ntmps8
    go_wp2_with fail
    generalize (((w.alloc (.cells #[.int .i64 wide, .int .i64 high, .slice a n c] 24)).alloc (.cells #[.int .i64 p.1, .int .i64 p.2] 51)).alloc (.cells #[.int .i64 q0, .int .i64 q1] 57)) = W0 at X0 X1 X2 hB0 ⊢
    have z0 := X0.lt
    have z1 := X1.lt
    have z2 := X2.lt
    refine (wall_Open wide high a n c g _ (by omega) (H.below hB0)).mono ?_
    rintro e w1 ⟨ao, ao', m, co, co', rfl, rfl, So, So', hb1⟩
    have Y0 := X0.below hb1; have Y1 := X1.below hb1; have Y2 := X2.below hb1
    have hB1 : Below w.heap.size w w1 := bvia hB0 hb1
    clear X0 X1 X2 z0 z1 z2 hB0 hb1
    cases hG : validG wide high n g
    · go_wp2_with (go_at_call 16; refine (awake_true _).mono ?_; rintro e w2 ⟨rfl, hb2⟩)
      go_ret
      exact ⟨rfl, bvia (by (repeat' (first | with_reducible assumption | with_reducible exact Below.refl _ _ | with_reducible refine Below.drew ?_ | with_reducible refine below_drewN ?_ _ | with_reducible refine balloc ?_ _ | with_reducible refine bset ?_ ?_ _ | with_reducible refine Below.setCell ?_ ?_ _ | with_reducible refine Below.alloc ?_ ?_ _ | omega | (simp; done) | (simp; omega)))) hb2⟩
    · rw [hG] at So So'
      simp only [if_true] at So So' ⊢
      have XA := Y0.alloc (.cells #[.slice ao n co, .slice ao' n co'] 27); have ZA := Y1.alloc (.cells #[.slice ao n co, .slice ao' n co'] 27); have VA := Y2.alloc (.cells #[.slice ao n co, .slice ao' n co'] 27)
      have OA := Bx.new w1 #[.slice ao n co, .slice ao' n co'] 27
      have JA := (H.below hB1).alloc (.cells #[.slice ao n co, .slice ao' n co'] 27)
      have SO := So.alloc (.cells #[.slice ao n co, .slice ao' n co'] 27); have SO' := So'.alloc (.cells #[.slice ao n co, .slice ao' n co'] 27)
      have hBA := balloc hB1 (.cells #[.slice ao n co, .slice ao' n co'] 27)
      clear Y0 Y1 Y2 So So'
      have HG := hid hG
      obtain ⟨v1, v2, -, -, -, -, -, -⟩ := (validG_iff ..).1 hG
      have hp0 : discE wide high q0 1 p n n n g zI zI = 0 → 0 ≤ p.1 ∧ p.1 ≤ 63 := fun h0 => by
        obtain ⟨_, hO, _⟩ := readyE_zero h0
        obtain ⟨_, o1, o2, _, _⟩ := allOn_one hO
        exact ⟨o1, by omega⟩
      have D0 := fun a ak ab c ck cb w h1 h2 h3 => grow_disc hG (show n ≤ 100000 by omega) q0 p a ak ab c ck cb w h1 h2 h3
      have D1 := fun a ak ab c ck cb w h1 h2 h3 => grow_disc hG (show n ≤ 100000 by omega) q1 p a ak ab c ck cb w h1 h2 h3
      have DS := fun a ak ab c ck cb w h1 h2 h3 => grow_smooth hG (show n ≤ 100000 by omega) q0 p a ak ab c ck cb w h1 h2 h3
      generalize discE wide high q0 1 p n n n g zI zI = E0 at hp0 D0 DS
      generalize discE wide high q1 1 p n n n g zI zI = E1 at D1
      clear hG
      go_upto_region 6 with (fail)
      generalize w1.alloc (.cells #[.slice ao n co, .slice ao' n co'] 27) = wa at XA ZA VA OA JA SO SO' hBA ⊢
      have C1 := Below.refl wa.heap.size wa
      have x0 := (XA.below C1).at_ 0 rfl; have x1 := (XA.below C1).at_ 1 rfl; have x2 := (XA.below C1).at_ 2 rfl; have lx := (XA.below C1).lt
      have zz0 := (ZA.below C1).at_ 0 rfl; have zz1 := (ZA.below C1).at_ 1 rfl; have lz := (ZA.below C1).lt
      have vv0 := (VA.below C1).at_ 0 rfl; have vv1 := (VA.below C1).at_ 1 rfl; have lv := (VA.below C1).lt
      have oo0 := (OA.below C1).at_ 0 rfl; have oo1 := (OA.below C1).at_ 1 rfl; have lo := (OA.below C1).lt
      go_wp2_with fail
      refine (D0 a ao ao' c co co' _ JA SO SO').mono ?_
      rintro e w2 ⟨a2, a2', c2, c2', rfl, S2, S2', hb2⟩
      clear x0 x1 x2 lx zz0 zz1 lz vv0 vv1 lv oo0 oo1 lo
      have C2 := balloc hb2 (.cells #[.slice a2 (okL E0 n) c2, .slice a2' (okL E0 n) c2'] 27)
      have A2 := Bx.new w2 #[.slice a2 (okL E0 n) c2, .slice a2' (okL E0 n) c2'] 27
      have S3 := S2.alloc (.cells #[.slice a2 (okL E0 n) c2, .slice a2' (okL E0 n) c2'] 27)
      have S3' := S2'.alloc (.cells #[.slice a2 (okL E0 n) c2, .slice a2' (okL E0 n) c2'] 27)
      clear S2 S2' D0
      have x0 := (XA.below C2).at_ 0 rfl; have x1 := (XA.below C2).at_ 1 rfl; have x2 := (XA.below C2).at_ 2 rfl; have lx := (XA.below C2).lt
      have zz0 := (ZA.below C2).at_ 0 rfl; have zz1 := (ZA.below C2).at_ 1 rfl; have lz := (ZA.below C2).lt
      have vv0 := (VA.below C2).at_ 0 rfl; have vv1 := (VA.below C2).at_ 1 rfl; have lv := (VA.below C2).lt
      have oo0 := (OA.below C2).at_ 0 rfl; have oo1 := (OA.below C2).at_ 1 rfl; have lo := (OA.below C2).lt
      go_wp2_with fail
      refine (D1 a ao ao' c co co' _ (JA.below C2) (SO.below C2) (SO'.below C2)).mono ?_
      rintro e w3 ⟨a3, a3', c3, c3', rfl, T3, T3', hb3⟩
      clear x0 x1 x2 lx zz0 zz1 lz vv0 vv1 lv oo0 oo1 lo D1
      have C4 := balloc (bvia C2 hb3) (.cells #[.slice a3 (okL E1 n) c3, .slice a3' (okL E1 n) c3'] 27)
      have A4 := (A2.below hb3).alloc (.cells #[.slice a3 (okL E1 n) c3, .slice a3' (okL E1 n) c3'] 27)
      have S4 := (S3.below hb3).alloc (.cells #[.slice a3 (okL E1 n) c3, .slice a3' (okL E1 n) c3'] 27)
      have S4' := (S3'.below hb3).alloc (.cells #[.slice a3 (okL E1 n) c3, .slice a3' (okL E1 n) c3'] 27)
      have B4 := Bx.new w3 #[.slice a3 (okL E1 n) c3, .slice a3' (okL E1 n) c3'] 27
      have T4 := T3.alloc (.cells #[.slice a3 (okL E1 n) c3, .slice a3' (okL E1 n) c3'] 27)
      have T4' := T3'.alloc (.cells #[.slice a3 (okL E1 n) c3, .slice a3' (okL E1 n) c3'] 27)
      clear A2 S3 S3' T3 T3' hb3 C2 C1
      go_upto_region 8 with (fail)
      generalize w3.alloc (.cells #[.slice a3 (okL E1 n) c3, .slice a3' (okL E1 n) c3'] 27) = w4 at A4 S4 S4' B4 T4 T4' C4 ⊢
      by_cases e0 : E0 = 0
      · subst e0
        obtain ⟨pb0, pb1⟩ := hp0 rfl
        have hl : okL 0 n = n := rfl
        have HL := hid hl
        rw [hl] at A4 S4 S4' ⊢
        clear hl hp0
        by_cases e1 : E1 = 0
        · subst e1
          by_cases e2 : q0 ≤ q1
          · rw [HL.out] at T4 T4' B4 ⊢
            have x0 := (XA.below C4).at_ 0 rfl; have x1 := (XA.below C4).at_ 1 rfl; have x2 := (XA.below C4).at_ 2 rfl; have lx := (XA.below C4).lt
            have zz0 := (ZA.below C4).at_ 0 rfl; have zz1 := (ZA.below C4).at_ 1 rfl; have lz := (ZA.below C4).lt
            have vv0 := (VA.below C4).at_ 0 rfl; have vv1 := (VA.below C4).at_ 1 rfl; have lv := (VA.below C4).lt
            have oo0 := (OA.below C4).at_ 0 rfl; have oo1 := (OA.below C4).at_ 1 rfl; have lo := (OA.below C4).lt
            have ax := A4.at_ 1 rfl; have la := A4.lt; have bx := B4.at_ 1 rfl; have lb := B4.lt
            go_wp2_with fail
            clear x0 x1 x2 lx zz0 zz1 lz vv0 vv1 lv oo0 oo1 lo
            go_loopw [13] (fun i wr => ∃ k : Nat, k ≤ n ∧ i = .int .i64 k ∧ wr = w4) (fun i _ => n - (intOf i).toNat)
            case atStart => exact ⟨0, Nat.zero_le _, rfl, rfl⟩
            case round =>
              obtain ⟨k, hk, rfl, hw⟩ := hrel
              obtain rfl := hw.symm
              by_cases hlt : k < n
              · obtain ⟨ba, oa, rfl, hba, c0⟩ := S4' k hlt
                obtain ⟨bb, ob, rfl, hbb, d0⟩ := T4' k hlt
                cases hd : dIn wide high p q0 ((k : Int) % wide) ((k : Int) / wide)
                · have e : bI wide (dIn wide high p q0) k = 0 := by simp [bI, hd]
                  rw [e] at c0
                  clear e
                  go_wp2_with fail
                  go_roundw
                  case rel => exact ⟨k + 1, by omega, by go_num, trivial⟩
                  case measure => simp [intOf]; omega
                · have e : bI wide (dIn wide high p q0) k = 1 := by simp [bI, hd]
                  have e' : bI wide (dIn wide high p q1) k = 1 := by simp [bI, dIn_mono e2 hd]
                  rw [e] at c0
                  rw [e'] at d0
                  clear e e'
                  go_wp2_with fail
                  go_roundw
                  case rel => exact ⟨k + 1, by omega, by go_num, trivial⟩
                  case measure => simp [intOf]; omega
              · obtain rfl : n = k := (by omega)
                by_cases hm : 2 * p.1 + 1 = wide
                · skip
                  have HM := hid hm
                  have x0 := (XA.below C4).at_ 0 rfl; have x1 := (XA.below C4).at_ 1 rfl; have x2 := (XA.below C4).at_ 2 rfl; have lx := (XA.below C4).lt
                  have zz0 := (ZA.below C4).at_ 0 rfl; have zz1 := (ZA.below C4).at_ 1 rfl; have lz := (ZA.below C4).lt
                  have vv0 := (VA.below C4).at_ 0 rfl; have vv1 := (VA.below C4).at_ 1 rfl; have lv := (VA.below C4).lt
                  have oo0 := (OA.below C4).at_ 0 rfl; have oo1 := (OA.below C4).at_ 1 rfl; have lo := (OA.below C4).lt
                  go_wp2_with fail
                  refine (DS a ao ao' c co co' _ (JA.below C4) (SO.below C4) (SO'.below C4)).mono ?_
                  rintro e w5 ⟨a5, a5', c5, c5', rfl, S5, S5', hb5⟩
                  rw [HL.out] at S5 S5' ⊢
                  clear x0 x1 x2 lx zz0 zz1 lz vv0 vv1 lv oo0 oo1 lo
                  have C5 := balloc (bvia C4 hb5) (.cells #[.slice a5 n c5, .slice a5' n c5'] 27)
                  have A5 := (A4.below hb5).alloc (.cells #[.slice a5 n c5, .slice a5' n c5'] 27)
                  have P5 := (S4.below hb5).alloc (.cells #[.slice a5 n c5, .slice a5' n c5'] 27)
                  have P5' := (S4'.below hb5).alloc (.cells #[.slice a5 n c5, .slice a5' n c5'] 27)
                  have M5 := Bx.new w5 #[.slice a5 n c5, .slice a5' n c5'] 27
                  have R5 := S5.alloc (.cells #[.slice a5 n c5, .slice a5' n c5'] 27)
                  have R5' := S5'.alloc (.cells #[.slice a5 n c5, .slice a5' n c5'] 27)
                  clear S5 S5' hb5
                  have x0 := (XA.below C5).at_ 0 rfl; have x1 := (XA.below C5).at_ 1 rfl; have x2 := (XA.below C5).at_ 2 rfl; have lx := (XA.below C5).lt
                  have u0 := A5.at_ 0 rfl; have u1 := A5.at_ 1 rfl; have lu := A5.lt
                  go_wp2_with fail
                  refine (grow_mir HG.out (by omega) (f := dIn wide high p q0) (kf := fun _ _ => 1) (fun _ _ => by decide) (dIn_mir HM.out) (fun _ _ => by decide) a a2 a2' c c2 c2' _ (JA.below C5) P5 P5').mono ?_
                  rintro e w6 ⟨a6, a6', c6, c6', rfl, S6, S6', hb6⟩
                  clear x0 x1 x2 lx u0 u1 lu
                  have C6 := balloc (bvia C5 hb6) (.cells #[.slice a6 n c6, .slice a6' n c6'] 27)
                  have A6 := (A5.below hb6).alloc (.cells #[.slice a6 n c6, .slice a6' n c6'] 27)
                  have P6 := (P5.below hb6).alloc (.cells #[.slice a6 n c6, .slice a6' n c6'] 27)
                  have P6' := (P5'.below hb6).alloc (.cells #[.slice a6 n c6, .slice a6' n c6'] 27)
                  have M6 := (M5.below hb6).alloc (.cells #[.slice a6 n c6, .slice a6' n c6'] 27)
                  have R6 := (R5.below hb6).alloc (.cells #[.slice a6 n c6, .slice a6' n c6'] 27)
                  have R6' := (R5'.below hb6).alloc (.cells #[.slice a6 n c6, .slice a6' n c6'] 27)
                  have N6 := Bx.new w6 #[.slice a6 n c6, .slice a6' n c6'] 27
                  have Q6 := S6.alloc (.cells #[.slice a6 n c6, .slice a6' n c6'] 27)
                  have Q6' := S6'.alloc (.cells #[.slice a6 n c6, .slice a6' n c6'] 27)
                  clear S6 S6' hb6 A5 P5 P5' M5 R5 R5' C5
                  have x0 := (XA.below C6).at_ 0 rfl; have x1 := (XA.below C6).at_ 1 rfl; have x2 := (XA.below C6).at_ 2 rfl; have lx := (XA.below C6).lt
                  have u0 := M6.at_ 0 rfl; have u1 := M6.at_ 1 rfl; have lu := M6.lt
                  go_wp2_with fail
                  refine (grow_mir HG.out (by omega) (f := dIn wide high p q0) (kf := mirF wide high p q0) (fun _ _ => mirS_in _ _ _ _) (dIn_mir HM.out) (mirF_mir HM.out) a a5 a5' c c5 c5' _ (JA.below C6) R6 R6').mono ?_
                  rintro e w7 ⟨a7, a7', c7, c7', rfl, S7, S7', hb7⟩
                  clear x0 x1 x2 lx u0 u1 lu
                  have C7 := balloc (bvia C6 hb7) (.cells #[.slice a7 n c7, .slice a7' n c7'] 27)
                  have A7 := (A6.below hb7).alloc (.cells #[.slice a7 n c7, .slice a7' n c7'] 27)
                  have P7 := (P6.below hb7).alloc (.cells #[.slice a7 n c7, .slice a7' n c7'] 27)
                  have P7' := (P6'.below hb7).alloc (.cells #[.slice a7 n c7, .slice a7' n c7'] 27)
                  have M7 := (M6.below hb7).alloc (.cells #[.slice a7 n c7, .slice a7' n c7'] 27)
                  have R7 := (R6.below hb7).alloc (.cells #[.slice a7 n c7, .slice a7' n c7'] 27)
                  have R7' := (R6'.below hb7).alloc (.cells #[.slice a7 n c7, .slice a7' n c7'] 27)
                  have N7 := (N6.below hb7).alloc (.cells #[.slice a7 n c7, .slice a7' n c7'] 27)
                  have Q7 := (Q6.below hb7).alloc (.cells #[.slice a7 n c7, .slice a7' n c7'] 27)
                  have Q7' := (Q6'.below hb7).alloc (.cells #[.slice a7 n c7, .slice a7' n c7'] 27)
                  have O7 := Bx.new w7 #[.slice a7 n c7, .slice a7' n c7'] 27
                  have T7 := S7.alloc (.cells #[.slice a7 n c7, .slice a7' n c7'] 27)
                  have T7' := S7'.alloc (.cells #[.slice a7 n c7, .slice a7' n c7'] 27)
                  clear S7 S7' hb7 A6 P6 P6' M6 R6 R6' C6 N6 Q6 Q6'
                  have u0 := A7.at_ 0 rfl; have u1 := A7.at_ 1 rfl; have lu := A7.lt
                  have y0 := N7.at_ 0 rfl; have y1 := N7.at_ 1 rfl; have ly := N7.lt
                  go_wp2_with fail
                  refine (ref3_same _ _ _ _ _ _ _ _ _ _ _ _ _ _ _ _ _ (by omega) (by omega) (by omega) (by omega) P7 P7' Q7 Q7').mono ?_
                  rintro e w8 ⟨rfl, hb8⟩
                  rw [sameL_two]
                  clear u0 u1 lu y0 y1 ly
                  have M8 := M7.below hb8; have O8 := O7.below hb8; have C8 := bvia C7 hb8
                  have u0 := M8.at_ 0 rfl; have u1 := M8.at_ 1 rfl; have lu := M8.lt
                  have y0 := O8.at_ 0 rfl; have y1 := O8.at_ 1 rfl; have ly := O8.lt
                  go_wp2_with fail
                  refine (ref3_same _ _ _ _ _ _ _ _ _ _ _ _ _ _ _ _ _ (by omega) (by omega) (by omega) (by omega) (R7.below hb8) (R7'.below hb8) (T7.below hb8) (T7'.below hb8)).mono ?_
                  rintro e w9 ⟨rfl, hb9⟩
                  rw [sameL_two]
                  have C9 := bvia hBA (bvia C8 hb9)
                  clear u0 u1 lu y0 y1 ly M8 O8
                  go_wp2_with (go_at_call 16; refine (awake_true _).mono ?_; rintro e w10 ⟨rfl, hb10⟩)
                  go_ret
                  exact ⟨rfl, bvia C9 hb10⟩
                · skip
                  have x0 := (XA.below C4).at_ 0 rfl; have x1 := (XA.below C4).at_ 1 rfl; have x2 := (XA.below C4).at_ 2 rfl; have lx := (XA.below C4).lt
                  have zz0 := (ZA.below C4).at_ 0 rfl; have zz1 := (ZA.below C4).at_ 1 rfl; have lz := (ZA.below C4).lt
                  have vv0 := (VA.below C4).at_ 0 rfl; have vv1 := (VA.below C4).at_ 1 rfl; have lv := (VA.below C4).lt
                  have oo0 := (OA.below C4).at_ 0 rfl; have oo1 := (OA.below C4).at_ 1 rfl; have lo := (OA.below C4).lt
                  go_wp2_with (go_at_call 16; refine (awake_true _).mono ?_; rintro e w10 ⟨rfl, hb10⟩)
                  go_ret
                  exact ⟨rfl, bvia (bvia hBA C4) hb10⟩
          · skip
            by_cases hm : 2 * p.1 + 1 = wide
            · skip
              have HM := hid hm
              have x0 := (XA.below C4).at_ 0 rfl; have x1 := (XA.below C4).at_ 1 rfl; have x2 := (XA.below C4).at_ 2 rfl; have lx := (XA.below C4).lt
              have zz0 := (ZA.below C4).at_ 0 rfl; have zz1 := (ZA.below C4).at_ 1 rfl; have lz := (ZA.below C4).lt
              have vv0 := (VA.below C4).at_ 0 rfl; have vv1 := (VA.below C4).at_ 1 rfl; have lv := (VA.below C4).lt
              have oo0 := (OA.below C4).at_ 0 rfl; have oo1 := (OA.below C4).at_ 1 rfl; have lo := (OA.below C4).lt
              go_wp2_with fail
              refine (DS a ao ao' c co co' _ (JA.below C4) (SO.below C4) (SO'.below C4)).mono ?_
              rintro e w5 ⟨a5, a5', c5, c5', rfl, S5, S5', hb5⟩
              rw [HL.out] at S5 S5' ⊢
              clear x0 x1 x2 lx zz0 zz1 lz vv0 vv1 lv oo0 oo1 lo
              have C5 := balloc (bvia C4 hb5) (.cells #[.slice a5 n c5, .slice a5' n c5'] 27)
              have A5 := (A4.below hb5).alloc (.cells #[.slice a5 n c5, .slice a5' n c5'] 27)
              have P5 := (S4.below hb5).alloc (.cells #[.slice a5 n c5, .slice a5' n c5'] 27)
              have P5' := (S4'.below hb5).alloc (.cells #[.slice a5 n c5, .slice a5' n c5'] 27)
              have M5 := Bx.new w5 #[.slice a5 n c5, .slice a5' n c5'] 27
              have R5 := S5.alloc (.cells #[.slice a5 n c5, .slice a5' n c5'] 27)
              have R5' := S5'.alloc (.cells #[.slice a5 n c5, .slice a5' n c5'] 27)
              clear S5 S5' hb5
              have x0 := (XA.below C5).at_ 0 rfl; have x1 := (XA.below C5).at_ 1 rfl; have x2 := (XA.below C5).at_ 2 rfl; have lx := (XA.below C5).lt
              have u0 := A5.at_ 0 rfl; have u1 := A5.at_ 1 rfl; have lu := A5.lt
              go_wp2_with fail
              refine (grow_mir HG.out (by omega) (f := dIn wide high p q0) (kf := fun _ _ => 1) (fun _ _ => by decide) (dIn_mir HM.out) (fun _ _ => by decide) a a2 a2' c c2 c2' _ (JA.below C5) P5 P5').mono ?_
              rintro e w6 ⟨a6, a6', c6, c6', rfl, S6, S6', hb6⟩
              clear x0 x1 x2 lx u0 u1 lu
              have C6 := balloc (bvia C5 hb6) (.cells #[.slice a6 n c6, .slice a6' n c6'] 27)
              have A6 := (A5.below hb6).alloc (.cells #[.slice a6 n c6, .slice a6' n c6'] 27)
              have P6 := (P5.below hb6).alloc (.cells #[.slice a6 n c6, .slice a6' n c6'] 27)
              have P6' := (P5'.below hb6).alloc (.cells #[.slice a6 n c6, .slice a6' n c6'] 27)
              have M6 := (M5.below hb6).alloc (.cells #[.slice a6 n c6, .slice a6' n c6'] 27)
              have R6 := (R5.below hb6).alloc (.cells #[.slice a6 n c6, .slice a6' n c6'] 27)
              have R6' := (R5'.below hb6).alloc (.cells #[.slice a6 n c6, .slice a6' n c6'] 27)
              have N6 := Bx.new w6 #[.slice a6 n c6, .slice a6' n c6'] 27
              have Q6 := S6.alloc (.cells #[.slice a6 n c6, .slice a6' n c6'] 27)
              have Q6' := S6'.alloc (.cells #[.slice a6 n c6, .slice a6' n c6'] 27)
              clear S6 S6' hb6 A5 P5 P5' M5 R5 R5' C5
              have x0 := (XA.below C6).at_ 0 rfl; have x1 := (XA.below C6).at_ 1 rfl; have x2 := (XA.below C6).at_ 2 rfl; have lx := (XA.below C6).lt
              have u0 := M6.at_ 0 rfl; have u1 := M6.at_ 1 rfl; have lu := M6.lt
              go_wp2_with fail
              refine (grow_mir HG.out (by omega) (f := dIn wide high p q0) (kf := mirF wide high p q0) (fun _ _ => mirS_in _ _ _ _) (dIn_mir HM.out) (mirF_mir HM.out) a a5 a5' c c5 c5' _ (JA.below C6) R6 R6').mono ?_
              rintro e w7 ⟨a7, a7', c7, c7', rfl, S7, S7', hb7⟩
              clear x0 x1 x2 lx u0 u1 lu
              have C7 := balloc (bvia C6 hb7) (.cells #[.slice a7 n c7, .slice a7' n c7'] 27)
              have A7 := (A6.below hb7).alloc (.cells #[.slice a7 n c7, .slice a7' n c7'] 27)
              have P7 := (P6.below hb7).alloc (.cells #[.slice a7 n c7, .slice a7' n c7'] 27)
              have P7' := (P6'.below hb7).alloc (.cells #[.slice a7 n c7, .slice a7' n c7'] 27)
              have M7 := (M6.below hb7).alloc (.cells #[.slice a7 n c7, .slice a7' n c7'] 27)
              have R7 := (R6.below hb7).alloc (.cells #[.slice a7 n c7, .slice a7' n c7'] 27)
              have R7' := (R6'.below hb7).alloc (.cells #[.slice a7 n c7, .slice a7' n c7'] 27)
              have N7 := (N6.below hb7).alloc (.cells #[.slice a7 n c7, .slice a7' n c7'] 27)
              have Q7 := (Q6.below hb7).alloc (.cells #[.slice a7 n c7, .slice a7' n c7'] 27)
              have Q7' := (Q6'.below hb7).alloc (.cells #[.slice a7 n c7, .slice a7' n c7'] 27)
              have O7 := Bx.new w7 #[.slice a7 n c7, .slice a7' n c7'] 27
              have T7 := S7.alloc (.cells #[.slice a7 n c7, .slice a7' n c7'] 27)
              have T7' := S7'.alloc (.cells #[.slice a7 n c7, .slice a7' n c7'] 27)
              clear S7 S7' hb7 A6 P6 P6' M6 R6 R6' C6 N6 Q6 Q6'
              have u0 := A7.at_ 0 rfl; have u1 := A7.at_ 1 rfl; have lu := A7.lt
              have y0 := N7.at_ 0 rfl; have y1 := N7.at_ 1 rfl; have ly := N7.lt
              go_wp2_with fail
              refine (ref3_same _ _ _ _ _ _ _ _ _ _ _ _ _ _ _ _ _ (by omega) (by omega) (by omega) (by omega) P7 P7' Q7 Q7').mono ?_
              rintro e w8 ⟨rfl, hb8⟩
              rw [sameL_two]
              clear u0 u1 lu y0 y1 ly
              have M8 := M7.below hb8; have O8 := O7.below hb8; have C8 := bvia C7 hb8
              have u0 := M8.at_ 0 rfl; have u1 := M8.at_ 1 rfl; have lu := M8.lt
              have y0 := O8.at_ 0 rfl; have y1 := O8.at_ 1 rfl; have ly := O8.lt
              go_wp2_with fail
              refine (ref3_same _ _ _ _ _ _ _ _ _ _ _ _ _ _ _ _ _ (by omega) (by omega) (by omega) (by omega) (R7.below hb8) (R7'.below hb8) (T7.below hb8) (T7'.below hb8)).mono ?_
              rintro e w9 ⟨rfl, hb9⟩
              rw [sameL_two]
              have C9 := bvia hBA (bvia C8 hb9)
              clear u0 u1 lu y0 y1 ly M8 O8
              go_wp2_with (go_at_call 16; refine (awake_true _).mono ?_; rintro e w10 ⟨rfl, hb10⟩)
              go_ret
              exact ⟨rfl, bvia C9 hb10⟩
            · skip
              have x0 := (XA.below C4).at_ 0 rfl; have x1 := (XA.below C4).at_ 1 rfl; have x2 := (XA.below C4).at_ 2 rfl; have lx := (XA.below C4).lt
              have zz0 := (ZA.below C4).at_ 0 rfl; have zz1 := (ZA.below C4).at_ 1 rfl; have lz := (ZA.below C4).lt
              have vv0 := (VA.below C4).at_ 0 rfl; have vv1 := (VA.below C4).at_ 1 rfl; have lv := (VA.below C4).lt
              have oo0 := (OA.below C4).at_ 0 rfl; have oo1 := (OA.below C4).at_ 1 rfl; have lo := (OA.below C4).lt
              go_wp2_with (go_at_call 16; refine (awake_true _).mono ?_; rintro e w10 ⟨rfl, hb10⟩)
              go_ret
              exact ⟨rfl, bvia (bvia hBA C4) hb10⟩
        · skip
          by_cases hm : 2 * p.1 + 1 = wide
          · skip
            have HM := hid hm
            have x0 := (XA.below C4).at_ 0 rfl; have x1 := (XA.below C4).at_ 1 rfl; have x2 := (XA.below C4).at_ 2 rfl; have lx := (XA.below C4).lt
            have zz0 := (ZA.below C4).at_ 0 rfl; have zz1 := (ZA.below C4).at_ 1 rfl; have lz := (ZA.below C4).lt
            have vv0 := (VA.below C4).at_ 0 rfl; have vv1 := (VA.below C4).at_ 1 rfl; have lv := (VA.below C4).lt
            have oo0 := (OA.below C4).at_ 0 rfl; have oo1 := (OA.below C4).at_ 1 rfl; have lo := (OA.below C4).lt
            go_wp2_with fail
            refine (DS a ao ao' c co co' _ (JA.below C4) (SO.below C4) (SO'.below C4)).mono ?_
            rintro e w5 ⟨a5, a5', c5, c5', rfl, S5, S5', hb5⟩
            rw [HL.out] at S5 S5' ⊢
            clear x0 x1 x2 lx zz0 zz1 lz vv0 vv1 lv oo0 oo1 lo
            have C5 := balloc (bvia C4 hb5) (.cells #[.slice a5 n c5, .slice a5' n c5'] 27)
            have A5 := (A4.below hb5).alloc (.cells #[.slice a5 n c5, .slice a5' n c5'] 27)
            have P5 := (S4.below hb5).alloc (.cells #[.slice a5 n c5, .slice a5' n c5'] 27)
            have P5' := (S4'.below hb5).alloc (.cells #[.slice a5 n c5, .slice a5' n c5'] 27)
            have M5 := Bx.new w5 #[.slice a5 n c5, .slice a5' n c5'] 27
            have R5 := S5.alloc (.cells #[.slice a5 n c5, .slice a5' n c5'] 27)
            have R5' := S5'.alloc (.cells #[.slice a5 n c5, .slice a5' n c5'] 27)
            clear S5 S5' hb5
            have x0 := (XA.below C5).at_ 0 rfl; have x1 := (XA.below C5).at_ 1 rfl; have x2 := (XA.below C5).at_ 2 rfl; have lx := (XA.below C5).lt
            have u0 := A5.at_ 0 rfl; have u1 := A5.at_ 1 rfl; have lu := A5.lt
            go_wp2_with fail
            refine (grow_mir HG.out (by omega) (f := dIn wide high p q0) (kf := fun _ _ => 1) (fun _ _ => by decide) (dIn_mir HM.out) (fun _ _ => by decide) a a2 a2' c c2 c2' _ (JA.below C5) P5 P5').mono ?_
            rintro e w6 ⟨a6, a6', c6, c6', rfl, S6, S6', hb6⟩
            clear x0 x1 x2 lx u0 u1 lu
            have C6 := balloc (bvia C5 hb6) (.cells #[.slice a6 n c6, .slice a6' n c6'] 27)
            have A6 := (A5.below hb6).alloc (.cells #[.slice a6 n c6, .slice a6' n c6'] 27)
            have P6 := (P5.below hb6).alloc (.cells #[.slice a6 n c6, .slice a6' n c6'] 27)
            have P6' := (P5'.below hb6).alloc (.cells #[.slice a6 n c6, .slice a6' n c6'] 27)
            have M6 := (M5.below hb6).alloc (.cells #[.slice a6 n c6, .slice a6' n c6'] 27)
            have R6 := (R5.below hb6).alloc (.cells #[.slice a6 n c6, .slice a6' n c6'] 27)
            have R6' := (R5'.below hb6).alloc (.cells #[.slice a6 n c6, .slice a6' n c6'] 27)
            have N6 := Bx.new w6 #[.slice a6 n c6, .slice a6' n c6'] 27
            have Q6 := S6.alloc (.cells #[.slice a6 n c6, .slice a6' n c6'] 27)
            have Q6' := S6'.alloc (.cells #[.slice a6 n c6, .slice a6' n c6'] 27)
            clear S6 S6' hb6 A5 P5 P5' M5 R5 R5' C5
            have x0 := (XA.below C6).at_ 0 rfl; have x1 := (XA.below C6).at_ 1 rfl; have x2 := (XA.below C6).at_ 2 rfl; have lx := (XA.below C6).lt
            have u0 := M6.at_ 0 rfl; have u1 := M6.at_ 1 rfl; have lu := M6.lt
            go_wp2_with fail
            refine (grow_mir HG.out (by omega) (f := dIn wide high p q0) (kf := mirF wide high p q0) (fun _ _ => mirS_in _ _ _ _) (dIn_mir HM.out) (mirF_mir HM.out) a a5 a5' c c5 c5' _ (JA.below C6) R6 R6').mono ?_
            rintro e w7 ⟨a7, a7', c7, c7', rfl, S7, S7', hb7⟩
            clear x0 x1 x2 lx u0 u1 lu
            have C7 := balloc (bvia C6 hb7) (.cells #[.slice a7 n c7, .slice a7' n c7'] 27)
            have A7 := (A6.below hb7).alloc (.cells #[.slice a7 n c7, .slice a7' n c7'] 27)
            have P7 := (P6.below hb7).alloc (.cells #[.slice a7 n c7, .slice a7' n c7'] 27)
            have P7' := (P6'.below hb7).alloc (.cells #[.slice a7 n c7, .slice a7' n c7'] 27)
            have M7 := (M6.below hb7).alloc (.cells #[.slice a7 n c7, .slice a7' n c7'] 27)
            have R7 := (R6.below hb7).alloc (.cells #[.slice a7 n c7, .slice a7' n c7'] 27)
            have R7' := (R6'.below hb7).alloc (.cells #[.slice a7 n c7, .slice a7' n c7'] 27)
            have N7 := (N6.below hb7).alloc (.cells #[.slice a7 n c7, .slice a7' n c7'] 27)
            have Q7 := (Q6.below hb7).alloc (.cells #[.slice a7 n c7, .slice a7' n c7'] 27)
            have Q7' := (Q6'.below hb7).alloc (.cells #[.slice a7 n c7, .slice a7' n c7'] 27)
            have O7 := Bx.new w7 #[.slice a7 n c7, .slice a7' n c7'] 27
            have T7 := S7.alloc (.cells #[.slice a7 n c7, .slice a7' n c7'] 27)
            have T7' := S7'.alloc (.cells #[.slice a7 n c7, .slice a7' n c7'] 27)
            clear S7 S7' hb7 A6 P6 P6' M6 R6 R6' C6 N6 Q6 Q6'
            have u0 := A7.at_ 0 rfl; have u1 := A7.at_ 1 rfl; have lu := A7.lt
            have y0 := N7.at_ 0 rfl; have y1 := N7.at_ 1 rfl; have ly := N7.lt
            go_wp2_with fail
            refine (ref3_same _ _ _ _ _ _ _ _ _ _ _ _ _ _ _ _ _ (by omega) (by omega) (by omega) (by omega) P7 P7' Q7 Q7').mono ?_
            rintro e w8 ⟨rfl, hb8⟩
            rw [sameL_two]
            clear u0 u1 lu y0 y1 ly
            have M8 := M7.below hb8; have O8 := O7.below hb8; have C8 := bvia C7 hb8
            have u0 := M8.at_ 0 rfl; have u1 := M8.at_ 1 rfl; have lu := M8.lt
            have y0 := O8.at_ 0 rfl; have y1 := O8.at_ 1 rfl; have ly := O8.lt
            go_wp2_with fail
            refine (ref3_same _ _ _ _ _ _ _ _ _ _ _ _ _ _ _ _ _ (by omega) (by omega) (by omega) (by omega) (R7.below hb8) (R7'.below hb8) (T7.below hb8) (T7'.below hb8)).mono ?_
            rintro e w9 ⟨rfl, hb9⟩
            rw [sameL_two]
            have C9 := bvia hBA (bvia C8 hb9)
            clear u0 u1 lu y0 y1 ly M8 O8
            go_wp2_with (go_at_call 16; refine (awake_true _).mono ?_; rintro e w10 ⟨rfl, hb10⟩)
            go_ret
            exact ⟨rfl, bvia C9 hb10⟩
          · skip
            have x0 := (XA.below C4).at_ 0 rfl; have x1 := (XA.below C4).at_ 1 rfl; have x2 := (XA.below C4).at_ 2 rfl; have lx := (XA.below C4).lt
            have zz0 := (ZA.below C4).at_ 0 rfl; have zz1 := (ZA.below C4).at_ 1 rfl; have lz := (ZA.below C4).lt
            have vv0 := (VA.below C4).at_ 0 rfl; have vv1 := (VA.below C4).at_ 1 rfl; have lv := (VA.below C4).lt
            have oo0 := (OA.below C4).at_ 0 rfl; have oo1 := (OA.below C4).at_ 1 rfl; have lo := (OA.below C4).lt
            go_wp2_with (go_at_call 16; refine (awake_true _).mono ?_; rintro e w10 ⟨rfl, hb10⟩)
            go_ret
            exact ⟨rfl, bvia (bvia hBA C4) hb10⟩
      · skip
        have x0 := (XA.below C4).at_ 0 rfl; have x1 := (XA.below C4).at_ 1 rfl; have x2 := (XA.below C4).at_ 2 rfl; have lx := (XA.below C4).lt
        have zz0 := (ZA.below C4).at_ 0 rfl; have zz1 := (ZA.below C4).at_ 1 rfl; have lz := (ZA.below C4).lt
        have vv0 := (VA.below C4).at_ 0 rfl; have vv1 := (VA.below C4).at_ 1 rfl; have lv := (VA.below C4).lt
        have oo0 := (OA.below C4).at_ 0 rfl; have oo1 := (OA.below C4).at_ 1 rfl; have lo := (OA.below C4).lt
        go_wp2_with (go_at_call 16; refine (awake_true _).mono ?_; rintro e w10 ⟨rfl, hb10⟩)
        go_ret
        exact ⟨rfl, bvia (bvia hBA C4) hb10⟩
  · go_enter Try.func8, Try.ntmps8
    go_wp2_with (go_at_call 16; refine (awake_true _).mono ?_; rintro e w2 ⟨rfl, hb2⟩)
    go_ret
    exact ⟨rfl, bvia (by (repeat' (first | with_reducible assumption | with_reducible exact Below.refl _ _ | with_reducible refine Below.drew ?_ | with_reducible refine below_drewN ?_ _ | with_reducible refine balloc ?_ _ | with_reducible refine bset ?_ ?_ _ | with_reducible refine Below.setCell ?_ ?_ _ | with_reducible refine Below.alloc ?_ ?_ _ | omega | (simp; done) | (simp; omega)))) hb2⟩
end Go.Proofs.Ytnnaegnkkpknpaa
