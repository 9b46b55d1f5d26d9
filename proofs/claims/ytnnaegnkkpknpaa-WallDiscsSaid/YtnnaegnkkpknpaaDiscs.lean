/- The walk of the law WallDiscs. -/
import Derived.Test.YtnnaegnkkpknpaaWDisc
import Derived.Test.YtnnaegnkkpknpaaRDisc2
import Derived.Test.YtnnaegnkkpknpaaSends
namespace Go.Proofs.Ytnnaegnkkpknpaa
open Go Go.RowKit
set_option linter.unusedVariables false
theorem shErr_congr {e0 : Int} {s s' : Nat → Int} (h : ∀ j, s j ≠ 0 ↔ s' j ≠ 0) (B : Nat → Int) (body : Int) (n : Nat) : shErr e0 s B body n = shErr e0 s' B body n := by
  simp only [shErr, putErr_congr h]
theorem shLen_congr {e0 : Int} {s s' : Nat → Int} (h : ∀ j, s j ≠ 0 ↔ s' j ≠ 0) (B : Nat → Int) (body : Int) (n : Nat) : shLen e0 s B body n = shLen e0 s' B body n := by
  simp only [shLen, putLen_congr h]
theorem sameL_self (n : Nat) (f g : Nat → Int) : (sameL n f n f && sameL n g n g) = true := by
  rw [sameL_iff.2 ⟨rfl, fun _ _ => rfl⟩, sameL_iff.2 ⟨rfl, fun _ _ => rfl⟩]; rfl
theorem sameL_self1 (n : Nat) (f : Nat → Int) : sameL n f n f = true := sameL_iff.2 ⟨rfl, fun _ _ => rfl⟩
theorem brick_flat {e0 wide high body : Int} {L : List Brick} {s K B : Nat → Int} {n : Nat} {w w' : World} {e : Ending} (h : BrickPost e0 wide high body L n K B w e w') (ha : e0 = 0 → Agree wide high L s n) :
    WallPost (shErr e0 s B body n) (shLen e0 s B body n) (putTo s K s n) (putTo s B (fun _ => body) n) w e w' := shape_flat (shape_of_brick h ha)
theorem disc_zero {wide high q body : Int} {p : Int × Int} {n nk nb : Nat} {g : Nat → C4} {K B : Nat → Int} (h0 : discE wide high q body p n nk nb g K B = 0) : 1 ≤ wide ∧ (n : Int) = wide * high := by
  obtain ⟨hV, hO, hW⟩ := readyE_zero h0
  obtain ⟨hG, _, _, _⟩ := (validW_iff ..).1 hV
  obtain ⟨v1, _, _, _, _, v6, _, _⟩ := (validG_iff ..).1 hG
  exact ⟨v1, v6⟩
theorem discs_both (wide high q body : Int) (p : Int × Int) (n nk nb : Nat) (g : Nat → C4) (K B : Nat → Int) (hn : n ≤ 100000) (hnk : nk ≤ 100000) (hnb : nb ≤ 100000) :
    ∃ (er : Int) (ln : Nat) (KF KG BF : Nat → Int), ln ≤ n ∧ ∀ (a ak ab : Option Addr) (c ck cb : Nat) (w : World), Sc w a n g → Sl w ak nk K → Sl w ab nb B →
      Calls Try.prog 35 #[.agg #[.int .i64 wide, .int .i64 high, .slice a n c], .agg #[.slice ak nk ck, .slice ab nb cb], .agg #[.int .i64 p.1, .int .i64 p.2], .int .i64 q, .int .i64 body] w (WallPost er ln KF BF w) ∧
      Calls Try.prog 36 #[.agg #[.int .i64 wide, .int .i64 high, .slice a n c], .agg #[.slice ak nk ck, .slice ab nb cb], .agg #[.int .i64 p.1, .int .i64 p.2], .int .i64 q, .int .i64 body] w (WallPost er ln KF BF w) ∧
      Calls Try.prog 37 #[.agg #[.int .i64 wide, .int .i64 high, .slice a n c], .agg #[.slice ak nk ck, .slice ab nb cb], .agg #[.int .i64 p.1, .int .i64 p.2], .int .i64 q, .int .i64 body] w (WallPost er ln KG BF w) ∧
      Calls Try.prog 38 #[.agg #[.int .i64 wide, .int .i64 high, .slice a n c], .agg #[.slice ak nk ck, .slice ab nb cb], .agg #[.int .i64 p.1, .int .i64 p.2], .int .i64 q, .int .i64 body] w (WallPost er ln KG BF w) := by
  have hne : ∀ j, fS wide (dIn wide high p q) (discK true wide high p q) j ≠ 0 ↔ fS wide (dIn wide high p q) (discK false wide high p q) j ≠ 0 := fS_ne (discK_ne _ _ _ _ _) (discK_ne _ _ _ _ _)
  refine ⟨shErr (discE wide high q body p n nk nb g K B) (fS wide (dIn wide high p q) (discK false wide high p q)) B body n, shLen (discE wide high q body p n nk nb g K B) (fS wide (dIn wide high p q) (discK false wide high p q)) B body n, putTo (fS wide (dIn wide high p q) (discK false wide high p q)) K (fS wide (dIn wide high p q) (discK false wide high p q)) n, putTo (fS wide (dIn wide high p q) (discK true wide high p q)) K (fS wide (dIn wide high p q) (discK true wide high p q)) n, putTo (fS wide (dIn wide high p q) (discK false wide high p q)) B (fun _ => body) n, shLen_le _ _ _ _ _, fun a ak ab c ck cb w H HK HB => ⟨?_, ?_, ?_, ?_⟩⟩
  rotate_left
  · exact ref3_Disc wide high q body p a ak ab n nk nb c ck cb g K B w hn hnk hnb H HK HB
  rotate_left
  · have h := ref3_Smooth wide high q body p a ak ab n nk nb c ck cb g K B w hn hnk hnb H HK HB
    rw [shErr_congr hne, shLen_congr hne, putTo_congr hne B] at h
    exact h
  · refine (wall_Disc wide high q body p a ak ab n nk nb c ck cb g K B w hn hnk hnb H HK HB).mono fun e w' h => brick_flat h fun h0 => ?_
    obtain ⟨v1, v6⟩ := disc_zero h0
    exact f_agree v1 v6 (fun _ _ => by simp)
  · refine (wall_Smooth wide high q body p a ak ab n nk nb c ck cb g K B w hn hnk hnb H HK HB).mono fun e w' h => ?_
    have h' := brick_flat (s := fS wide (dIn wide high p q) (discK true wide high p q)) h fun h0 => by
      obtain ⟨v1, v6⟩ := disc_zero h0
      exact f_agree v1 v6 (fun _ _ => mirS_ne _ _ _ _)
    rw [shErr_congr hne, shLen_congr hne, putTo_congr hne B] at h'
    exact h'
set_option maxRecDepth 100000 in
set_option maxHeartbeats 8000000 in
theorem walk_discs (wide high q body : Int) (p : Int × Int) (a ak ab : Option Addr) (n nk nb c ck cb : Nat) (g : Nat → C4) (K B : Nat → Int) (w : World) (hn : n ≤ maxLen) (hk : nk ≤ maxLen) (hb : nb ≤ maxLen) (H : Sc w a n g) (HK : Sl w ak nk K) (HB : Sl w ab nb B) :
    Calls Try.prog 6 #[.agg #[.int .i64 wide, .int .i64 high, .slice a n c, .slice ak nk ck, .slice ab nb cb], .agg #[.int .i64 p.1, .int .i64 p.2], .agg #[.int .i64 q, .int .i64 body]] w
    fun e w' => e = .returned (.bool true) ∧ Below w.heap.size w w' := by
  cases hs : smallB n nk nb 1200
  · go_enter Try.func6, Try.ntmps6
    go_wp2_with fail
    refine (law3_small _ _ _ _ _ _ _ _ _ _ _ _ _ hn hk hb).mono ?_
    rintro e w1 ⟨rfl, hb1⟩
    rw [hs]
    go_wp2_with (go_at_call 16; refine (awake_true _).mono ?_; rintro e w2 ⟨rfl, hb2⟩)
    go_ret
    exact ⟨rfl, bvia (bvia (by (repeat' (first | with_reducible assumption | with_reducible exact Below.refl _ _ | with_reducible refine Below.drew ?_ | with_reducible refine below_drewN ?_ _ | with_reducible refine balloc ?_ _ | with_reducible refine bset ?_ ?_ _ | with_reducible refine Below.setCell ?_ ?_ _ | with_reducible refine Below.alloc ?_ ?_ _ | omega | (simp; done) | (simp; omega)))) hb1) hb2⟩
  have hsm : n ≤ 1200 ∧ nk ≤ 1200 ∧ nb ≤ 1200 := by simp [smallB] at hs; omega
  obtain ⟨n1, n2, n3⟩ := hsm
  have HS := hid hs; clear hs
  have X0 := ((Bx.new w #[.int .i64 wide, .int .i64 high, .slice a n c, .slice ak nk ck, .slice ab nb cb] 29).alloc (.cells #[.int .i64 p.1, .int .i64 p.2] 51)).alloc (.cells #[.int .i64 q, .int .i64 body] 57)
  have X1 := (Bx.new (w.alloc (.cells #[.int .i64 wide, .int .i64 high, .slice a n c, .slice ak nk ck, .slice ab nb cb] 29)) #[.int .i64 p.1, .int .i64 p.2] 51).alloc (.cells #[.int .i64 q, .int .i64 body] 57)
  have X2 := Bx.new ((w.alloc (.cells #[.int .i64 wide, .int .i64 high, .slice a n c, .slice ak nk ck, .slice ab nb cb] 29)).alloc (.cells #[.int .i64 p.1, .int .i64 p.2] 51)) #[.int .i64 q, .int .i64 body] 57
  simp only [World.size_alloc] at X1 X2
  have hB0 : Below w.heap.size w (((w.alloc (.cells #[.int .i64 wide, .int .i64 high, .slice a n c, .slice ak nk ck, .slice ab nb cb] 29)).alloc (.cells #[.int .i64 p.1, .int .i64 p.2] 51)).alloc (.cells #[.int .i64 q, .int .i64 body] 57)) := by (repeat' (first | with_reducible assumption | with_reducible exact Below.refl _ _ | with_reducible refine Below.drew ?_ | with_reducible refine below_drewN ?_ _ | with_reducible refine balloc ?_ _ | with_reducible refine bset ?_ ?_ _ | with_reducible refine Below.setCell ?_ ?_ _ | with_reducible refine Below.alloc ?_ ?_ _ | omega | (simp; done) | (simp; omega)))
  go_enter Try.func6, Try.ntmps6
  go_wp2_with fail
  generalize (((w.alloc (.cells #[.int .i64 wide, .int .i64 high, .slice a n c, .slice ak nk ck, .slice ab nb cb] 29)).alloc (.cells #[.int .i64 p.1, .int .i64 p.2] 51)).alloc (.cells #[.int .i64 q, .int .i64 body] 57)) = W0 at X0 X1 X2 hB0 ⊢
  have z0 := X0.lt
  have z1 := X1.lt
  have z2 := X2.lt
  refine (law3_small _ _ _ _ _ _ _ _ _ _ _ _ _ hn hk hb).mono ?_
  rintro e w1 ⟨rfl, hb1⟩
  rw [HS.out]
  have J0 := H.below hB0; have K0 := HK.below hB0; have L0 := HB.below hB0; have Z0 := X1; have V0 := X2
  clear X1 X2 z0 z1 z2
  have X1 := X0.below hb1; have Z1 := Z0.below hb1; have V1 := V0.below hb1; have J1 := J0.below hb1; have K1 := K0.below hb1; have L1 := L0.below hb1; have hB1 := bvia hB0 hb1
  clear X0 Z0 V0 J0 K0 L0 hB0
  obtain ⟨er, ln, KF, KG, BF, hln, both⟩ := discs_both wide high q body p n nk nb g K B (by omega) (by omega) (by omega)
  have p0 := X1.at_ 0 rfl; have p1 := X1.at_ 1 rfl; have p2 := X1.at_ 2 rfl; have p3 := X1.at_ 3 rfl; have p4 := X1.at_ 4 rfl; have zx := X1.lt
  have s0 := Z1.at_ 0 rfl; have s1 := Z1.at_ 1 rfl; have zs := Z1.lt
  have v0 := V1.at_ 0 rfl; have v1 := V1.at_ 1 rfl; have zv := V1.lt
  go_wp2_with fail
  refine (both _ _ _ _ _ _ _ J1 K1 L1).1.mono ?_
  rintro e w2 ⟨a1, a1', c1, c1', rfl, S1, S1', hb2⟩
  clear p0 p1 p2 p3 p4 zx s0 s1 zs v0 v1 zv
  have X2 := X1.below hb2; have Z2 := Z1.below hb2; have V2 := V1.below hb2; have J2 := J1.below hb2; have K2 := K1.below hb2; have L2 := L1.below hb2; have hB2 := bvia hB1 hb2
  clear X1 Z1 V1 J1 K1 L1 hB1
  have p0 := X2.at_ 0 rfl; have p1 := X2.at_ 1 rfl; have p2 := X2.at_ 2 rfl; have p3 := X2.at_ 3 rfl; have p4 := X2.at_ 4 rfl; have zx := X2.lt
  have s0 := Z2.at_ 0 rfl; have s1 := Z2.at_ 1 rfl; have zs := Z2.lt
  have v0 := V2.at_ 0 rfl; have v1 := V2.at_ 1 rfl; have zv := V2.lt
  go_wp2_with fail
  refine (both _ _ _ _ _ _ _ (J2.alloc _) (K2.alloc _) (L2.alloc _)).2.1.mono ?_
  rintro e w3 ⟨a2, a2', c2, c2', rfl, S2, S2', hb3⟩
  clear p0 p1 p2 p3 p4 zx s0 s1 zs v0 v1 zv
  have A3 := (Bx.new w2 #[.slice a1 ln c1, .slice a1' ln c1'] 27).below hb3
  have S3 := (S1.alloc (.cells #[.slice a1 ln c1, .slice a1' ln c1'] 27)).below hb3
  have S3' := (S1'.alloc (.cells #[.slice a1 ln c1, .slice a1' ln c1'] 27)).below hb3
  have X3 := (X2.alloc (.cells #[.slice a1 ln c1, .slice a1' ln c1'] 27)).below hb3; have Z3 := (Z2.alloc (.cells #[.slice a1 ln c1, .slice a1' ln c1'] 27)).below hb3; have V3 := (V2.alloc (.cells #[.slice a1 ln c1, .slice a1' ln c1'] 27)).below hb3; have J3 := (J2.alloc (.cells #[.slice a1 ln c1, .slice a1' ln c1'] 27)).below hb3; have K3 := (K2.alloc (.cells #[.slice a1 ln c1, .slice a1' ln c1'] 27)).below hb3; have L3 := (L2.alloc (.cells #[.slice a1 ln c1, .slice a1' ln c1'] 27)).below hb3; have hB3 := bvia (balloc hB2 (.cells #[.slice a1 ln c1, .slice a1' ln c1'] 27)) hb3
  clear X2 Z2 V2 J2 K2 L2 hB2
  have q0 := A3.at_ 0 rfl; have q1 := A3.at_ 1 rfl; have zq := A3.lt
  have A4 := A3.alloc (.cells #[.slice a2 ln c2, .slice a2' ln c2'] 27)
  have T4' := S3'.alloc (.cells #[.slice a2 ln c2, .slice a2' ln c2'] 27)
  go_wp2_with fail
  refine (ref3_same _ _ _ _ _ _ _ _ _ _ _ _ _ _ _ _ _ (by omega) (by omega) (by omega) (by omega) (S3.alloc _) (S3'.alloc _) (S2.alloc _) (S2'.alloc _)).mono ?_
  rintro e w5 ⟨rfl, hb5⟩
  rw [sameL_self]
  clear q0 q1 zq S1 S1' S2 S2' S3 S3' A3 hb3
  have A5 := A4.below hb5; have T5' := T4'.below hb5
  clear A4 T4'
  have X5 := (X3.alloc (.cells #[.slice a2 ln c2, .slice a2' ln c2'] 27)).below hb5; have Z5 := (Z3.alloc (.cells #[.slice a2 ln c2, .slice a2' ln c2'] 27)).below hb5; have V5 := (V3.alloc (.cells #[.slice a2 ln c2, .slice a2' ln c2'] 27)).below hb5; have J5 := (J3.alloc (.cells #[.slice a2 ln c2, .slice a2' ln c2'] 27)).below hb5; have K5 := (K3.alloc (.cells #[.slice a2 ln c2, .slice a2' ln c2'] 27)).below hb5; have L5 := (L3.alloc (.cells #[.slice a2 ln c2, .slice a2' ln c2'] 27)).below hb5; have hB5 := bvia (balloc hB3 (.cells #[.slice a2 ln c2, .slice a2' ln c2'] 27)) hb5
  clear X3 Z3 V3 J3 K3 L3 hB3
  have p0 := X5.at_ 0 rfl; have p1 := X5.at_ 1 rfl; have p2 := X5.at_ 2 rfl; have p3 := X5.at_ 3 rfl; have p4 := X5.at_ 4 rfl; have zx := X5.lt
  have s0 := Z5.at_ 0 rfl; have s1 := Z5.at_ 1 rfl; have zs := Z5.lt
  have v0 := V5.at_ 0 rfl; have v1 := V5.at_ 1 rfl; have zv := V5.lt
  go_wp2_with fail
  refine (both _ _ _ _ _ _ _ J5 K5 L5).2.2.1.mono ?_
  rintro e w6 ⟨a3, a3', c3, c3', rfl, S6, S6', hb6⟩
  clear p0 p1 p2 p3 p4 zx s0 s1 zs v0 v1 zv
  have A6 := A5.below hb6; have T6' := T5'.below hb6
  clear A5 T5'
  have X6 := X5.below hb6; have Z6 := Z5.below hb6; have V6 := V5.below hb6; have J6 := J5.below hb6; have K6 := K5.below hb6; have L6 := L5.below hb6; have hB6 := bvia hB5 hb6
  clear X5 Z5 V5 J5 K5 L5 hB5
  have p0 := X6.at_ 0 rfl; have p1 := X6.at_ 1 rfl; have p2 := X6.at_ 2 rfl; have p3 := X6.at_ 3 rfl; have p4 := X6.at_ 4 rfl; have zx := X6.lt
  have s0 := Z6.at_ 0 rfl; have s1 := Z6.at_ 1 rfl; have zs := Z6.lt
  have v0 := V6.at_ 0 rfl; have v1 := V6.at_ 1 rfl; have zv := V6.lt
  go_wp2_with fail
  refine (both _ _ _ _ _ _ _ (J6.alloc _) (K6.alloc _) (L6.alloc _)).2.2.2.mono ?_
  rintro e w7 ⟨a4, a4', c4, c4', rfl, S7, S7', hb7⟩
  clear p0 p1 p2 p3 p4 zx s0 s1 zs v0 v1 zv
  have B7 := (Bx.new w6 #[.slice a3 ln c3, .slice a3' ln c3'] 27).below hb7
  have A7 := (A6.alloc (.cells #[.slice a3 ln c3, .slice a3' ln c3'] 27)).below hb7
  have T7' := (T6'.alloc (.cells #[.slice a3 ln c3, .slice a3' ln c3'] 27)).below hb7
  have S8 := (S6.alloc (.cells #[.slice a3 ln c3, .slice a3' ln c3'] 27)).below hb7
  have S8' := (S6'.alloc (.cells #[.slice a3 ln c3, .slice a3' ln c3'] 27)).below hb7
  have X7 := (X6.alloc (.cells #[.slice a3 ln c3, .slice a3' ln c3'] 27)).below hb7; have Z7 := (Z6.alloc (.cells #[.slice a3 ln c3, .slice a3' ln c3'] 27)).below hb7; have V7 := (V6.alloc (.cells #[.slice a3 ln c3, .slice a3' ln c3'] 27)).below hb7; have J7 := (J6.alloc (.cells #[.slice a3 ln c3, .slice a3' ln c3'] 27)).below hb7; have K7 := (K6.alloc (.cells #[.slice a3 ln c3, .slice a3' ln c3'] 27)).below hb7; have L7 := (L6.alloc (.cells #[.slice a3 ln c3, .slice a3' ln c3'] 27)).below hb7; have hB7 := bvia (balloc hB6 (.cells #[.slice a3 ln c3, .slice a3' ln c3'] 27)) hb7
  clear X6 Z6 V6 J6 K6 L6 hB6
  have q0 := B7.at_ 0 rfl; have q1 := B7.at_ 1 rfl; have zq := B7.lt
  have A8 := A7.alloc (.cells #[.slice a4 ln c4, .slice a4' ln c4'] 27)
  have B8 := B7.alloc (.cells #[.slice a4 ln c4, .slice a4' ln c4'] 27)
  have T8' := T7'.alloc (.cells #[.slice a4 ln c4, .slice a4' ln c4'] 27)
  have R8' := S8'.alloc (.cells #[.slice a4 ln c4, .slice a4' ln c4'] 27)
  go_wp2_with fail
  refine (ref3_same _ _ _ _ _ _ _ _ _ _ _ _ _ _ _ _ _ (by omega) (by omega) (by omega) (by omega) (S8.alloc _) (S8'.alloc _) (S7.alloc _) (S7'.alloc _)).mono ?_
  rintro e w9 ⟨rfl, hb9⟩
  rw [sameL_self]
  clear q0 q1 zq S6 S6' S7 S7' S8 S8' A7 B7 T7' A6 T6'
  have A9 := A8.below hb9; have B9 := B8.below hb9; have T9' := T8'.below hb9; have R9' := R8'.below hb9
  have hB9 := bvia (balloc hB7 (.cells #[.slice a4 ln c4, .slice a4' ln c4'] 27)) hb9
  clear A8 B8 T8' R8' hB7 hb9
  have u1 := A9.at_ 1 rfl; have y1 := B9.at_ 1 rfl; have zu := A9.lt; have zy := B9.lt
  go_wp2_with fail
  refine (ref1_sameInts _ _ _ _ _ _ _ _ _ (by omega) (by omega) T9' R9').mono ?_
  rintro e w10 ⟨rfl, hb10⟩
  rw [sameL_self1]
  have hB10 := bvia hB9 hb10
  clear T9' R9' A9 B9 u1 y1 hb10
  go_wp2_with (go_at_call 16; refine (awake_true _).mono ?_; rintro e w11 ⟨rfl, hb11⟩)
  go_ret
  exact ⟨rfl, bvia hB10 hb11⟩
end Go.Proofs.Ytnnaegnkkpknpaa
