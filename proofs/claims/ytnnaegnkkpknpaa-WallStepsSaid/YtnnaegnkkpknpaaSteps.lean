/- The walk of the law WallSteps. -/
import Derived.Test.YtnnaegnkkpknpaaWRun2
import Derived.Test.YtnnaegnkkpknpaaRefStep
import Derived.Test.YtnnaegnkkpknpaaSameG
import Derived.Test.YtnnaegnkkpknpaaSmall
namespace Go.Proofs.Ytnnaegnkkpknpaa
open Go Go.RowKit
set_option linter.unusedVariables false
set_option maxRecDepth 100000 in
set_option maxHeartbeats 8000000 in
theorem walk_steps (wide high t : Int) (a ak ab ar : Option Addr) (n nk nb nr c ck cb cr : Nat) (g : Nat → C4) (K B : Nat → Int) (r : Nat → Int × Int) (w : World) (hn : n ≤ maxLen) (hk : nk ≤ maxLen) (hb : nb ≤ maxLen) (hr : nr ≤ maxLen) (S : Sc w a n g) (SK : Sl w ak nk K) (SB : Sl w ab nb B) (SR : Sr w ar nr r) :
    Calls Try.prog 10 #[.agg #[.int .i64 wide, .int .i64 high, .slice a n c, .slice ak nk ck, .slice ab nb cb], .slice ar nr cr, .int .i64 t] w fun e w' => e = .returned (.bool true) ∧ Below w.heap.size w w' := by
  cases hs : smallB n nk nb 1200
  · have HSM := hid hs
    clear hs
    have X0 := Bx.new w #[.int .i64 wide, .int .i64 high, .slice a n c, .slice ak nk ck, .slice ab nb cb] 29
    have hB0 : Below w.heap.size w (w.alloc (.cells #[.int .i64 wide, .int .i64 high, .slice a n c, .slice ak nk ck, .slice ab nb cb] 29)) := by (repeat' (first | with_reducible assumption | with_reducible exact Below.refl _ _ | with_reducible refine Below.drew ?_ | with_reducible refine below_drewN ?_ _ | with_reducible refine balloc ?_ _ | with_reducible refine bset ?_ ?_ _ | with_reducible refine Below.setCell ?_ ?_ _ | with_reducible refine Below.alloc ?_ ?_ _ | omega | (simp; done) | (simp; omega)))
    go_enter Try.func10, Try.ntmps10
    go_wp2_with fail
    generalize (w.alloc (.cells #[.int .i64 wide, .int .i64 high, .slice a n c, .slice ak nk ck, .slice ab nb cb] 29)) = W0 at X0 hB0 ⊢
    have z0 := X0.lt
    refine (law3_small _ _ _ _ _ _ _ _ _ _ _ _ _ hn hk hb).mono ?_
    rintro e w1 ⟨rfl, hb1⟩
    rw [HSM.out]
    have hB := hB0
    clear hB0
    replace X0 := X0.below hb1
    replace hB := bvia hB hb1
    clear hb1
    have X0_0 := X0.at_ 0 rfl
    have X0_1 := X0.at_ 1 rfl
    have X0_2 := X0.at_ 2 rfl
    have X0_3 := X0.at_ 3 rfl
    have X0_4 := X0.at_ 4 rfl
    have X0z := X0.lt
    go_wp2_with fail
    refine (awake_true _).mono ?_
    rintro e w2 ⟨rfl, hb2⟩
    go_wp2_with fail
    go_ret
    exact ⟨rfl, bvia hB hb2⟩
  have HSM := hid hs
  have hsm : n ≤ 1200 ∧ nk ≤ 1200 ∧ nb ≤ 1200 := by simp [smallB] at hs; omega
  obtain ⟨n1, n2, n3⟩ := hsm
  clear hs
  have hr' := hr
  unfold maxLen at hr'
  by_cases hr20 : 20 < nr
  · skip
    have X0 := Bx.new w #[.int .i64 wide, .int .i64 high, .slice a n c, .slice ak nk ck, .slice ab nb cb] 29
    have hB0 : Below w.heap.size w (w.alloc (.cells #[.int .i64 wide, .int .i64 high, .slice a n c, .slice ak nk ck, .slice ab nb cb] 29)) := by (repeat' (first | with_reducible assumption | with_reducible exact Below.refl _ _ | with_reducible refine Below.drew ?_ | with_reducible refine below_drewN ?_ _ | with_reducible refine balloc ?_ _ | with_reducible refine bset ?_ ?_ _ | with_reducible refine Below.setCell ?_ ?_ _ | with_reducible refine Below.alloc ?_ ?_ _ | omega | (simp; done) | (simp; omega)))
    go_enter Try.func10, Try.ntmps10
    go_wp2_with fail
    generalize (w.alloc (.cells #[.int .i64 wide, .int .i64 high, .slice a n c, .slice ak nk ck, .slice ab nb cb] 29)) = W0 at X0 hB0 ⊢
    have z0 := X0.lt
    refine (law3_small _ _ _ _ _ _ _ _ _ _ _ _ _ hn hk hb).mono ?_
    rintro e w1 ⟨rfl, hb1⟩
    rw [HSM.out]
    have hB := hB0
    clear hB0
    replace X0 := X0.below hb1
    replace hB := bvia hB hb1
    clear hb1
    have X0_0 := X0.at_ 0 rfl
    have X0_1 := X0.at_ 1 rfl
    have X0_2 := X0.at_ 2 rfl
    have X0_3 := X0.at_ 3 rfl
    have X0_4 := X0.at_ 4 rfl
    have X0z := X0.lt
    go_wp2_with fail
    refine (awake_true _).mono ?_
    rintro e w2 ⟨rfl, hb2⟩
    go_wp2_with fail
    go_ret
    exact ⟨rfl, bvia hB hb2⟩
  have hR := fun W' S' SK' SB' SR' => wall_Step wide high a ak ab ar n nk nb nr c ck cb cr g K B r t W' (by omega) (by omega) (by omega) (by omega) S' SK' SB' SR'
  have hR9 := fun W' S' SK' SB' SR' => ref3_Step wide high a ak ab ar n nk nb nr c ck cb cr g K B r t W' (by omega) (by omega) (by omega) (by omega) S' SK' SB' SR'
  have hU := fun W' S' SK' SB' SR' => wall_Back wide high a ak ab ar n nk nb nr c ck cb cr g K B r t W' (by omega) (by omega) (by omega) (by omega) S' SK' SB' SR'
  have hU9 := fun W' S' SK' SB' SR' => ref3_Back wide high a ak ab ar n nk nb nr c ck cb cr g K B r t W' (by omega) (by omega) (by omega) (by omega) S' SK' SB' SR'
  have hen : erN (rnE (validW wide high n g nk nb K B) (rulesB nr r) (timesB t 1)) n ≤ 100000000 := by unfold erN; split <;> omega
  generalize rnE (validW wide high n g nk nb K B) (rulesB nr r) (timesB t 1) = er at *
  clear hr'
  generalize erZ er wide = eW at *
  generalize erZ er high = eH at *
  generalize erN er n = en at *
  generalize stepW wide.toNat high.toNat (rlAt nr r t.toNat) K g = G at *
  generalize backW wide.toNat high.toNat (rlAt nr r t.toNat) K g = U at *
  have X0 := Bx.new w #[.int .i64 wide, .int .i64 high, .slice a n c, .slice ak nk ck, .slice ab nb cb] 29
  have hB0 : Below w.heap.size w (w.alloc (.cells #[.int .i64 wide, .int .i64 high, .slice a n c, .slice ak nk ck, .slice ab nb cb] 29)) := by (repeat' (first | with_reducible assumption | with_reducible exact Below.refl _ _ | with_reducible refine Below.drew ?_ | with_reducible refine below_drewN ?_ _ | with_reducible refine balloc ?_ _ | with_reducible refine bset ?_ ?_ _ | with_reducible refine Below.setCell ?_ ?_ _ | with_reducible refine Below.alloc ?_ ?_ _ | omega | (simp; done) | (simp; omega)))
  go_enter Try.func10, Try.ntmps10
  go_wp2_with fail
  generalize (w.alloc (.cells #[.int .i64 wide, .int .i64 high, .slice a n c, .slice ak nk ck, .slice ab nb cb] 29)) = W0 at X0 hB0 ⊢
  have z0 := X0.lt
  refine (law3_small _ _ _ _ _ _ _ _ _ _ _ _ _ hn hk hb).mono ?_
  rintro e w1 ⟨rfl, hb1⟩
  rw [HSM.out]
  have hB := hB0
  clear hB0
  replace X0 := X0.below hb1
  replace hB := bvia hB hb1
  clear hb1
  have X0_0 := X0.at_ 0 rfl
  have X0_1 := X0.at_ 1 rfl
  have X0_2 := X0.at_ 2 rfl
  have X0_3 := X0.at_ 3 rfl
  have X0_4 := X0.at_ 4 rfl
  have X0z := X0.lt
  go_wp2_with fail
  refine (hR _ (S.below hB) (SK.below hB) (SB.below hB) (SR.below hB)).mono ?_
  rintro e w2 ⟨a1, c1, rfl, S1, _, hb2⟩
  clear X0_0 X0_1 X0_2 X0_3 X0_4 X0z
  replace X0 := X0.below hb2
  replace hB := bvia hB hb2
  clear hb2
  have X0_0 := X0.at_ 0 rfl
  have X0_1 := X0.at_ 1 rfl
  have X0_2 := X0.at_ 2 rfl
  have X0_3 := X0.at_ 3 rfl
  have X0_4 := X0.at_ 4 rfl
  have X0z := X0.lt
  have hw2 := X0.lt
  go_wp2_with fail
  clear X0_0 X0_1 X0_2 X0_3 X0_4 X0z
  replace X0 := X0.alloc (.cells #[.int .i64 eW, .int .i64 eH, .slice a1 en c1] 24)
  replace S1 := S1.alloc (.cells #[.int .i64 eW, .int .i64 eH, .slice a1 en c1] 24)
  have X2 := Bx.new w2 #[.int .i64 eW, .int .i64 eH, .slice a1 en c1] 24
  replace hB := balloc hB (.cells #[.int .i64 eW, .int .i64 eH, .slice a1 en c1] 24)
  have X0_0 := X0.at_ 0 rfl
  have X0_1 := X0.at_ 1 rfl
  have X0_2 := X0.at_ 2 rfl
  have X0_3 := X0.at_ 3 rfl
  have X0_4 := X0.at_ 4 rfl
  have X0z := X0.lt
  have X2_0 := X2.at_ 0 rfl
  have X2_1 := X2.at_ 1 rfl
  have X2_2 := X2.at_ 2 rfl
  have X2z := X2.lt
  have X2f := X2.free
  refine (hR9 _ (S.below hB) (SK.below hB) (SB.below hB) (SR.below hB)).mono ?_
  rintro e w3 ⟨a2, c2, rfl, S2, _, hb2⟩
  clear X0_0 X0_1 X0_2 X0_3 X0_4 X0z X2_0 X2_1 X2_2 X2z X2f
  replace X0 := X0.below hb2
  replace S1 := S1.below hb2
  replace X2 := X2.below hb2
  replace hB := bvia hB hb2
  clear hb2
  have X0_0 := X0.at_ 0 rfl
  have X0_1 := X0.at_ 1 rfl
  have X0_2 := X0.at_ 2 rfl
  have X0_3 := X0.at_ 3 rfl
  have X0_4 := X0.at_ 4 rfl
  have X0z := X0.lt
  have X2_0 := X2.at_ 0 rfl
  have X2_1 := X2.at_ 1 rfl
  have X2_2 := X2.at_ 2 rfl
  have X2z := X2.lt
  have X2f := X2.free
  have hw3 := X2.lt
  go_wp2_with fail
  clear X0_0 X0_1 X0_2 X0_3 X0_4 X0z X2_0 X2_1 X2_2 X2z X2f
  replace X0 := X0.alloc (.cells #[.int .i64 eW, .int .i64 eH, .slice a2 en c2] 24)
  replace S1 := S1.alloc (.cells #[.int .i64 eW, .int .i64 eH, .slice a2 en c2] 24)
  replace X2 := X2.alloc (.cells #[.int .i64 eW, .int .i64 eH, .slice a2 en c2] 24)
  replace S2 := S2.alloc (.cells #[.int .i64 eW, .int .i64 eH, .slice a2 en c2] 24)
  have X3 := Bx.new w3 #[.int .i64 eW, .int .i64 eH, .slice a2 en c2] 24
  replace hB := balloc hB (.cells #[.int .i64 eW, .int .i64 eH, .slice a2 en c2] 24)
  have X0_0 := X0.at_ 0 rfl
  have X0_1 := X0.at_ 1 rfl
  have X0_2 := X0.at_ 2 rfl
  have X0_3 := X0.at_ 3 rfl
  have X0_4 := X0.at_ 4 rfl
  have X0z := X0.lt
  have X2_0 := X2.at_ 0 rfl
  have X2_1 := X2.at_ 1 rfl
  have X2_2 := X2.at_ 2 rfl
  have X2z := X2.lt
  have X2f := X2.free
  have X3_0 := X3.at_ 0 rfl
  have X3_1 := X3.at_ 1 rfl
  have X3_2 := X3.at_ 2 rfl
  have X3z := X3.lt
  have X3f := X3.free
  refine (ref2_Same _ _ _ _ _ _ _ _ _ _ hen S1 S2 (fun _ _ => rfl)).mono ?_
  rintro e w4 ⟨rfl, hb2⟩
  clear X0_0 X0_1 X0_2 X0_3 X0_4 X0z X2_0 X2_1 X2_2 X2z X2f X3_0 X3_1 X3_2 X3z X3f
  replace X0 := X0.below hb2
  replace S1 := S1.below hb2
  replace X2 := X2.below hb2
  replace S2 := S2.below hb2
  replace X3 := X3.below hb2
  replace hB := bvia hB hb2
  clear hb2
  have X0_0 := X0.at_ 0 rfl
  have X0_1 := X0.at_ 1 rfl
  have X0_2 := X0.at_ 2 rfl
  have X0_3 := X0.at_ 3 rfl
  have X0_4 := X0.at_ 4 rfl
  have X0z := X0.lt
  have X2_0 := X2.at_ 0 rfl
  have X2_1 := X2.at_ 1 rfl
  have X2_2 := X2.at_ 2 rfl
  have X2z := X2.lt
  have X2f := X2.free
  have X3_0 := X3.at_ 0 rfl
  have X3_1 := X3.at_ 1 rfl
  have X3_2 := X3.at_ 2 rfl
  have X3z := X3.lt
  have X3f := X3.free
  clear S1 S2
  have hw4 := X3.lt
  go_wp2_with fail
  refine (hU _ (S.below hB) (SK.below hB) (SB.below hB) (SR.below hB)).mono ?_
  rintro e w5 ⟨a3, c3, rfl, S3, hn3, hb2⟩
  clear X0_0 X0_1 X0_2 X0_3 X0_4 X0z X2_0 X2_1 X2_2 X2z X2f X3_0 X3_1 X3_2 X3z X3f
  replace X0 := X0.below hb2
  replace X2 := X2.below hb2
  replace X3 := X3.below hb2
  replace hB := bvia hB hb2
  clear hb2
  have X0_0 := X0.at_ 0 rfl
  have X0_1 := X0.at_ 1 rfl
  have X0_2 := X0.at_ 2 rfl
  have X0_3 := X0.at_ 3 rfl
  have X0_4 := X0.at_ 4 rfl
  have X0z := X0.lt
  have X2_0 := X2.at_ 0 rfl
  have X2_1 := X2.at_ 1 rfl
  have X2_2 := X2.at_ 2 rfl
  have X2z := X2.lt
  have X2f := X2.free
  have X3_0 := X3.at_ 0 rfl
  have X3_1 := X3.at_ 1 rfl
  have X3_2 := X3.at_ 2 rfl
  have X3z := X3.lt
  have X3f := X3.free
  have ne1 : ¬ w2.heap.size = w.heap.size := by omega
  have ne2 : ¬ w.heap.size = w2.heap.size := by omega
  go_wp2_with fail
  clear X0_0 X0_1 X0_2 X0_3 X0_4 X0z X2_0 X2_1 X2_2 X2z X2f X3_0 X3_1 X3_2 X3z X3f
  replace X0 := (((X0.far (p := ⟨w2.heap.size, 0, none⟩) (by first | (simp; done) | (simp; omega) | (dsimp only; omega)) (.int .i64 eW)).far (p := ⟨w2.heap.size, 1, none⟩) (by first | (simp; done) | (simp; omega) | (dsimp only; omega)) (.int .i64 eH)).far (p := ⟨w2.heap.size, 2, none⟩) (by first | (simp; done) | (simp; omega) | (dsimp only; omega)) (.slice a3 en c3))
  replace X3 := (((X3.far (p := ⟨w2.heap.size, 0, none⟩) (by first | (simp; done) | (simp; omega) | (dsimp only; omega)) (.int .i64 eW)).far (p := ⟨w2.heap.size, 1, none⟩) (by first | (simp; done) | (simp; omega) | (dsimp only; omega)) (.int .i64 eH)).far (p := ⟨w2.heap.size, 2, none⟩) (by first | (simp; done) | (simp; omega) | (dsimp only; omega)) (.slice a3 en c3))
  replace X2 : Bx _ (w2.heap.size) #[.int .i64 eW, .int .i64 eH, .slice a3 en c3] := (((X2.set_ 0 (by simp) (.int .i64 eW)).set_ 1 (by simp) (.int .i64 eH)).set_ 2 (by simp) (.slice a3 en c3))
  replace hB := (bset (bset (bset hB (p := ⟨w2.heap.size, 0, none⟩) (by first | exact Nat.le_refl _ | (simp; done) | (simp; omega)) (.int .i64 eW)) (p := ⟨w2.heap.size, 1, none⟩) (by first | exact Nat.le_refl _ | (simp; done) | (simp; omega)) (.int .i64 eH)) (p := ⟨w2.heap.size, 2, none⟩) (by first | exact Nat.le_refl _ | (simp; done) | (simp; omega)) (.slice a3 en c3))
  have X0_0 := X0.at_ 0 rfl
  have X0_1 := X0.at_ 1 rfl
  have X0_2 := X0.at_ 2 rfl
  have X0_3 := X0.at_ 3 rfl
  have X0_4 := X0.at_ 4 rfl
  have X0z := X0.lt
  have X2_0 := X2.at_ 0 rfl
  have X2_1 := X2.at_ 1 rfl
  have X2_2 := X2.at_ 2 rfl
  have X2z := X2.lt
  have X2f := X2.free
  have X3_0 := X3.at_ 0 rfl
  have X3_1 := X3.at_ 1 rfl
  have X3_2 := X3.at_ 2 rfl
  have X3z := X3.lt
  have X3f := X3.free
  replace S3 := (((S3.far (p := ⟨w2.heap.size, 0, none⟩) (fun b off h => by have := hn3 b off h; dsimp only; omega) (.int .i64 eW)).far (p := ⟨w2.heap.size, 1, none⟩) (fun b off h => by have := hn3 b off h; dsimp only; omega) (.int .i64 eH)).far (p := ⟨w2.heap.size, 2, none⟩) (fun b off h => by have := hn3 b off h; dsimp only; omega) (.slice a3 en c3))
  generalize ((w5.setCell ⟨w2.heap.size, 0, none⟩ (.int .i64 eW)).setCell ⟨w2.heap.size, 1, none⟩ (.int .i64 eH)).setCell ⟨w2.heap.size, 2, none⟩ (.slice a3 en c3) = W5 at *
  have hw5 := X3.lt
  refine (hU9 _ (S.below hB) (SK.below hB) (SB.below hB) (SR.below hB)).mono ?_
  rintro e w6 ⟨a4, c4, rfl, S4, hn4, hb2⟩
  replace S3 := S3.below hb2
  clear X0_0 X0_1 X0_2 X0_3 X0_4 X0z X2_0 X2_1 X2_2 X2z X2f X3_0 X3_1 X3_2 X3z X3f
  replace X0 := X0.below hb2
  replace X2 := X2.below hb2
  replace X3 := X3.below hb2
  replace hB := bvia hB hb2
  clear hb2
  have X0_0 := X0.at_ 0 rfl
  have X0_1 := X0.at_ 1 rfl
  have X0_2 := X0.at_ 2 rfl
  have X0_3 := X0.at_ 3 rfl
  have X0_4 := X0.at_ 4 rfl
  have X0z := X0.lt
  have X2_0 := X2.at_ 0 rfl
  have X2_1 := X2.at_ 1 rfl
  have X2_2 := X2.at_ 2 rfl
  have X2z := X2.lt
  have X2f := X2.free
  have X3_0 := X3.at_ 0 rfl
  have X3_1 := X3.at_ 1 rfl
  have X3_2 := X3.at_ 2 rfl
  have X3z := X3.lt
  have X3f := X3.free
  have ne3 : ¬ w2.heap.size = w3.heap.size := by omega
  have ne4 : ¬ w3.heap.size = w2.heap.size := by omega
  go_wp2_with fail
  clear X0_0 X0_1 X0_2 X0_3 X0_4 X0z X2_0 X2_1 X2_2 X2z X2f X3_0 X3_1 X3_2 X3z X3f
  replace X0 := (((X0.far (p := ⟨w3.heap.size, 0, none⟩) (by first | (simp; done) | (simp; omega) | (dsimp only; omega)) (.int .i64 eW)).far (p := ⟨w3.heap.size, 1, none⟩) (by first | (simp; done) | (simp; omega) | (dsimp only; omega)) (.int .i64 eH)).far (p := ⟨w3.heap.size, 2, none⟩) (by first | (simp; done) | (simp; omega) | (dsimp only; omega)) (.slice a4 en c4))
  replace X2 := (((X2.far (p := ⟨w3.heap.size, 0, none⟩) (by first | (simp; done) | (simp; omega) | (dsimp only; omega)) (.int .i64 eW)).far (p := ⟨w3.heap.size, 1, none⟩) (by first | (simp; done) | (simp; omega) | (dsimp only; omega)) (.int .i64 eH)).far (p := ⟨w3.heap.size, 2, none⟩) (by first | (simp; done) | (simp; omega) | (dsimp only; omega)) (.slice a4 en c4))
  replace X3 : Bx _ (w3.heap.size) #[.int .i64 eW, .int .i64 eH, .slice a4 en c4] := (((X3.set_ 0 (by simp) (.int .i64 eW)).set_ 1 (by simp) (.int .i64 eH)).set_ 2 (by simp) (.slice a4 en c4))
  replace hB := (bset (bset (bset hB (p := ⟨w3.heap.size, 0, none⟩) (by first | exact Nat.le_refl _ | (simp; done) | (simp; omega)) (.int .i64 eW)) (p := ⟨w3.heap.size, 1, none⟩) (by first | exact Nat.le_refl _ | (simp; done) | (simp; omega)) (.int .i64 eH)) (p := ⟨w3.heap.size, 2, none⟩) (by first | exact Nat.le_refl _ | (simp; done) | (simp; omega)) (.slice a4 en c4))
  have X0_0 := X0.at_ 0 rfl
  have X0_1 := X0.at_ 1 rfl
  have X0_2 := X0.at_ 2 rfl
  have X0_3 := X0.at_ 3 rfl
  have X0_4 := X0.at_ 4 rfl
  have X0z := X0.lt
  have X2_0 := X2.at_ 0 rfl
  have X2_1 := X2.at_ 1 rfl
  have X2_2 := X2.at_ 2 rfl
  have X2z := X2.lt
  have X2f := X2.free
  have X3_0 := X3.at_ 0 rfl
  have X3_1 := X3.at_ 1 rfl
  have X3_2 := X3.at_ 2 rfl
  have X3z := X3.lt
  have X3f := X3.free
  replace S3 := (((S3.far (p := ⟨w3.heap.size, 0, none⟩) (fun b off h => by have := hn3 b off h; dsimp only; omega) (.int .i64 eW)).far (p := ⟨w3.heap.size, 1, none⟩) (fun b off h => by have := hn3 b off h; dsimp only; omega) (.int .i64 eH)).far (p := ⟨w3.heap.size, 2, none⟩) (fun b off h => by have := hn3 b off h; dsimp only; omega) (.slice a4 en c4))
  replace S4 := (((S4.far (p := ⟨w3.heap.size, 0, none⟩) (fun b off h => by have := hn4 b off h; dsimp only; omega) (.int .i64 eW)).far (p := ⟨w3.heap.size, 1, none⟩) (fun b off h => by have := hn4 b off h; dsimp only; omega) (.int .i64 eH)).far (p := ⟨w3.heap.size, 2, none⟩) (fun b off h => by have := hn4 b off h; dsimp only; omega) (.slice a4 en c4))
  clear X0_0 X0_1 X0_2 X0_3 X0_4 X0z X2_0 X2_1 X2_2 X2z X2f X3_0 X3_1 X3_2 X3z X3f
  refine (ref2_Same _ _ _ _ _ _ _ _ _ _ hen S3 S4 (fun _ _ => rfl)).mono ?_
  rintro e w7 ⟨rfl, hb7⟩
  replace hB := bvia hB hb7
  go_wp2_with fail
  refine (awake_true _).mono ?_
  rintro e w8 ⟨rfl, hb8⟩
  go_wp2_with fail
  go_ret
  exact ⟨rfl, bvia hB hb8⟩
end Go.Proofs.Ytnnaegnkkpknpaa
