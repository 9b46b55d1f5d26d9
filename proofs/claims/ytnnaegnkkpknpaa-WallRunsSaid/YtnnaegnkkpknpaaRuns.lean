/- The walk of the law WallRuns. -/
import Derived.Test.YtnnaegnkkpknpaaWRun2
import Derived.Test.YtnnaegnkkpknpaaSameG
import Derived.Test.YtnnaegnkkpknpaaSmall
namespace Go.Proofs.Ytnnaegnkkpknpaa
open Go Go.RowKit
set_option linter.unusedVariables false
set_option maxRecDepth 100000 in
set_option maxHeartbeats 8000000 in
theorem walk_runs (wide high t m : Int) (a ak ab ar : Option Addr) (n nk nb nr c ck cb cr : Nat) (g : Nat → C4) (K B : Nat → Int) (r : Nat → Int × Int) (w : World) (hn : n ≤ maxLen) (hk : nk ≤ maxLen) (hb : nb ≤ maxLen) (hr : nr ≤ maxLen) (S : Sc w a n g) (SK : Sl w ak nk K) (SB : Sl w ab nb B) (SR : Sr w ar nr r) :
    Calls Try.prog 9 #[.agg #[.int .i64 wide, .int .i64 high, .slice a n c, .slice ak nk ck, .slice ab nb cb], .slice ar nr cr, .agg #[.int .i64 t, .int .i64 m]] w fun e w' => e = .returned (.bool true) ∧ Below w.heap.size w w' := by
  cases hs : smallB n nk nb 200
  · have HSM := hid hs
    clear hs
    have X0 := (Bx.new w #[.int .i64 wide, .int .i64 high, .slice a n c, .slice ak nk ck, .slice ab nb cb] 29).alloc (.cells #[.int .i64 t, .int .i64 m] 57)
    have X1 := Bx.new (w.alloc (.cells #[.int .i64 wide, .int .i64 high, .slice a n c, .slice ak nk ck, .slice ab nb cb] 29)) #[.int .i64 t, .int .i64 m] 57
    simp only [World.size_alloc] at X1
    have hB0 : Below w.heap.size w ((w.alloc (.cells #[.int .i64 wide, .int .i64 high, .slice a n c, .slice ak nk ck, .slice ab nb cb] 29)).alloc (.cells #[.int .i64 t, .int .i64 m] 57)) := by (repeat' (first | with_reducible assumption | with_reducible exact Below.refl _ _ | with_reducible refine Below.drew ?_ | with_reducible refine below_drewN ?_ _ | with_reducible refine balloc ?_ _ | with_reducible refine bset ?_ ?_ _ | with_reducible refine Below.setCell ?_ ?_ _ | with_reducible refine Below.alloc ?_ ?_ _ | omega | (simp; done) | (simp; omega)))
    go_enter Try.func9, Try.ntmps9
    go_wp2_with fail
    generalize ((w.alloc (.cells #[.int .i64 wide, .int .i64 high, .slice a n c, .slice ak nk ck, .slice ab nb cb] 29)).alloc (.cells #[.int .i64 t, .int .i64 m] 57)) = W0 at X0 X1 hB0 ⊢
    have z0 := X0.lt
    have z1 := X1.lt
    refine (law3_small _ _ _ _ _ _ _ _ _ _ _ _ _ hn hk hb).mono ?_
    rintro e w1 ⟨rfl, hb1⟩
    rw [HSM.out]
    have hB := hB0
    clear hB0
    replace X0 := X0.below hb1
    replace X1 := X1.below hb1
    replace hB := bvia hB hb1
    clear hb1
    have X0_0 := X0.at_ 0 rfl
    have X0_1 := X0.at_ 1 rfl
    have X0_2 := X0.at_ 2 rfl
    have X0_3 := X0.at_ 3 rfl
    have X0_4 := X0.at_ 4 rfl
    have X0z := X0.lt
    have X1_0 := X1.at_ 0 rfl
    have X1_1 := X1.at_ 1 rfl
    have X1z := X1.lt
    go_wp2_with fail
    refine (awake_true _).mono ?_
    rintro e w2 ⟨rfl, hb2⟩
    go_wp2_with fail
    go_ret
    exact ⟨rfl, bvia hB hb2⟩
  have HSM := hid hs
  have hsm : n ≤ 200 ∧ nk ≤ 200 ∧ nb ≤ 200 := by simp [smallB] at hs; omega
  obtain ⟨n1, n2, n3⟩ := hsm
  clear hs
  have hr' := hr
  unfold maxLen at hr'
  by_cases hr20 : 20 < nr
  · skip
    have X0 := (Bx.new w #[.int .i64 wide, .int .i64 high, .slice a n c, .slice ak nk ck, .slice ab nb cb] 29).alloc (.cells #[.int .i64 t, .int .i64 m] 57)
    have X1 := Bx.new (w.alloc (.cells #[.int .i64 wide, .int .i64 high, .slice a n c, .slice ak nk ck, .slice ab nb cb] 29)) #[.int .i64 t, .int .i64 m] 57
    simp only [World.size_alloc] at X1
    have hB0 : Below w.heap.size w ((w.alloc (.cells #[.int .i64 wide, .int .i64 high, .slice a n c, .slice ak nk ck, .slice ab nb cb] 29)).alloc (.cells #[.int .i64 t, .int .i64 m] 57)) := by (repeat' (first | with_reducible assumption | with_reducible exact Below.refl _ _ | with_reducible refine Below.drew ?_ | with_reducible refine below_drewN ?_ _ | with_reducible refine balloc ?_ _ | with_reducible refine bset ?_ ?_ _ | with_reducible refine Below.setCell ?_ ?_ _ | with_reducible refine Below.alloc ?_ ?_ _ | omega | (simp; done) | (simp; omega)))
    go_enter Try.func9, Try.ntmps9
    go_wp2_with fail
    generalize ((w.alloc (.cells #[.int .i64 wide, .int .i64 high, .slice a n c, .slice ak nk ck, .slice ab nb cb] 29)).alloc (.cells #[.int .i64 t, .int .i64 m] 57)) = W0 at X0 X1 hB0 ⊢
    have z0 := X0.lt
    have z1 := X1.lt
    refine (law3_small _ _ _ _ _ _ _ _ _ _ _ _ _ hn hk hb).mono ?_
    rintro e w1 ⟨rfl, hb1⟩
    rw [HSM.out]
    have hB := hB0
    clear hB0
    replace X0 := X0.below hb1
    replace X1 := X1.below hb1
    replace hB := bvia hB hb1
    clear hb1
    have X0_0 := X0.at_ 0 rfl
    have X0_1 := X0.at_ 1 rfl
    have X0_2 := X0.at_ 2 rfl
    have X0_3 := X0.at_ 3 rfl
    have X0_4 := X0.at_ 4 rfl
    have X0z := X0.lt
    have X1_0 := X1.at_ 0 rfl
    have X1_1 := X1.at_ 1 rfl
    have X1z := X1.lt
    go_wp2_with fail
    refine (awake_true _).mono ?_
    rintro e w2 ⟨rfl, hb2⟩
    go_wp2_with fail
    go_ret
    exact ⟨rfl, bvia hB hb2⟩
  by_cases hm25 : 25 < m ∧ m ≤ 1000
  · obtain ⟨m1, m2⟩ := hm25
    have X0 := (Bx.new w #[.int .i64 wide, .int .i64 high, .slice a n c, .slice ak nk ck, .slice ab nb cb] 29).alloc (.cells #[.int .i64 t, .int .i64 m] 57)
    have X1 := Bx.new (w.alloc (.cells #[.int .i64 wide, .int .i64 high, .slice a n c, .slice ak nk ck, .slice ab nb cb] 29)) #[.int .i64 t, .int .i64 m] 57
    simp only [World.size_alloc] at X1
    have hB0 : Below w.heap.size w ((w.alloc (.cells #[.int .i64 wide, .int .i64 high, .slice a n c, .slice ak nk ck, .slice ab nb cb] 29)).alloc (.cells #[.int .i64 t, .int .i64 m] 57)) := by (repeat' (first | with_reducible assumption | with_reducible exact Below.refl _ _ | with_reducible refine Below.drew ?_ | with_reducible refine below_drewN ?_ _ | with_reducible refine balloc ?_ _ | with_reducible refine bset ?_ ?_ _ | with_reducible refine Below.setCell ?_ ?_ _ | with_reducible refine Below.alloc ?_ ?_ _ | omega | (simp; done) | (simp; omega)))
    go_enter Try.func9, Try.ntmps9
    go_wp2_with fail
    generalize ((w.alloc (.cells #[.int .i64 wide, .int .i64 high, .slice a n c, .slice ak nk ck, .slice ab nb cb] 29)).alloc (.cells #[.int .i64 t, .int .i64 m] 57)) = W0 at X0 X1 hB0 ⊢
    have z0 := X0.lt
    have z1 := X1.lt
    refine (law3_small _ _ _ _ _ _ _ _ _ _ _ _ _ hn hk hb).mono ?_
    rintro e w1 ⟨rfl, hb1⟩
    rw [HSM.out]
    have hB := hB0
    clear hB0
    replace X0 := X0.below hb1
    replace X1 := X1.below hb1
    replace hB := bvia hB hb1
    clear hb1
    have X0_0 := X0.at_ 0 rfl
    have X0_1 := X0.at_ 1 rfl
    have X0_2 := X0.at_ 2 rfl
    have X0_3 := X0.at_ 3 rfl
    have X0_4 := X0.at_ 4 rfl
    have X0z := X0.lt
    have X1_0 := X1.at_ 0 rfl
    have X1_1 := X1.at_ 1 rfl
    have X1z := X1.lt
    go_wp2_with fail
    refine (awake_true _).mono ?_
    rintro e w2 ⟨rfl, hb2⟩
    go_wp2_with fail
    go_ret
    exact ⟨rfl, bvia hB hb2⟩
  have hm3 : m ≤ 25 ∨ 1000 < m := by omega
  clear hm25
  have hR := fun W' S' SK' SB' SR' => wall_Run wide high a ak ab ar n nk nb nr c ck cb cr g K B r t m W' (by omega) (by omega) (by omega) (by omega) S' SK' SB' SR'
  have hR9 := fun W' S' SK' SB' SR' => ref3_Run wide high a ak ab ar n nk nb nr c ck cb cr g K B r t m W' (by omega) (by omega) (by omega) (by omega) S' SK' SB' SR'
  have hU := fun W' S' SK' SB' SR' => wall_Undo wide high a ak ab ar n nk nb nr c ck cb cr g K B r t m W' (by omega) (by omega) (by omega) (by omega) S' SK' SB' SR'
  have hU9 := fun W' S' SK' SB' SR' => ref3_Undo wide high a ak ab ar n nk nb nr c ck cb cr g K B r t m W' (by omega) (by omega) (by omega) (by omega) S' SK' SB' SR'
  have hen : erN (rnE (validW wide high n g nk nb K B) (rulesB nr r) (timesB t m)) n ≤ 100000000 := by unfold erN; split <;> omega
  generalize her : rnE (validW wide high n g nk nb K B) (rulesB nr r) (timesB t m) = er at *
  have HER := hid her
  clear her hr'
  by_cases hz : er = 0
  rotate_left
  · have hzb : (er == 0) = false := by simpa using hz
    have hzc : (er != 0) = true := by simpa using hz
    clear hz HER
    generalize erZ er wide = eW at *
    generalize erZ er high = eH at *
    generalize erN er n = en at *
    generalize runW wide.toNat high.toNat (rlAt nr r) K g t.toNat m.toNat = G at *
    generalize undoW wide.toNat high.toNat (rlAt nr r) K t.toNat m.toNat g = U at *
    rcases hm3 with hm3 | hm3
    · skip
      have X0 := (Bx.new w #[.int .i64 wide, .int .i64 high, .slice a n c, .slice ak nk ck, .slice ab nb cb] 29).alloc (.cells #[.int .i64 t, .int .i64 m] 57)
      have X1 := Bx.new (w.alloc (.cells #[.int .i64 wide, .int .i64 high, .slice a n c, .slice ak nk ck, .slice ab nb cb] 29)) #[.int .i64 t, .int .i64 m] 57
      simp only [World.size_alloc] at X1
      have hB0 : Below w.heap.size w ((w.alloc (.cells #[.int .i64 wide, .int .i64 high, .slice a n c, .slice ak nk ck, .slice ab nb cb] 29)).alloc (.cells #[.int .i64 t, .int .i64 m] 57)) := by (repeat' (first | with_reducible assumption | with_reducible exact Below.refl _ _ | with_reducible refine Below.drew ?_ | with_reducible refine below_drewN ?_ _ | with_reducible refine balloc ?_ _ | with_reducible refine bset ?_ ?_ _ | with_reducible refine Below.setCell ?_ ?_ _ | with_reducible refine Below.alloc ?_ ?_ _ | omega | (simp; done) | (simp; omega)))
      go_enter Try.func9, Try.ntmps9
      go_wp2_with fail
      generalize ((w.alloc (.cells #[.int .i64 wide, .int .i64 high, .slice a n c, .slice ak nk ck, .slice ab nb cb] 29)).alloc (.cells #[.int .i64 t, .int .i64 m] 57)) = W0 at X0 X1 hB0 ⊢
      have z0 := X0.lt
      have z1 := X1.lt
      refine (law3_small _ _ _ _ _ _ _ _ _ _ _ _ _ hn hk hb).mono ?_
      rintro e w1 ⟨rfl, hb1⟩
      rw [HSM.out]
      have hB := hB0
      clear hB0
      replace X0 := X0.below hb1
      replace X1 := X1.below hb1
      replace hB := bvia hB hb1
      clear hb1
      have X0_0 := X0.at_ 0 rfl
      have X0_1 := X0.at_ 1 rfl
      have X0_2 := X0.at_ 2 rfl
      have X0_3 := X0.at_ 3 rfl
      have X0_4 := X0.at_ 4 rfl
      have X0z := X0.lt
      have X1_0 := X1.at_ 0 rfl
      have X1_1 := X1.at_ 1 rfl
      have X1z := X1.lt
      go_wp2_with fail
      refine (hR _ (S.below hB) (SK.below hB) (SB.below hB) (SR.below hB)).mono ?_
      rintro e w2 ⟨a1, c1, rfl, S1, _, hb2⟩
      clear X0_0 X0_1 X0_2 X0_3 X0_4 X0z X1_0 X1_1 X1z
      replace X0 := X0.below hb2
      replace X1 := X1.below hb2
      replace hB := bvia hB hb2
      clear hb2
      have X0_0 := X0.at_ 0 rfl
      have X0_1 := X0.at_ 1 rfl
      have X0_2 := X0.at_ 2 rfl
      have X0_3 := X0.at_ 3 rfl
      have X0_4 := X0.at_ 4 rfl
      have X0z := X0.lt
      have X1_0 := X1.at_ 0 rfl
      have X1_1 := X1.at_ 1 rfl
      have X1z := X1.lt
      go_wp2_with fail
      clear X0_0 X0_1 X0_2 X0_3 X0_4 X0z X1_0 X1_1 X1z
      replace X0 := X0.alloc (.cells #[.int .i64 eW, .int .i64 eH, .slice a1 en c1] 24)
      replace X1 := X1.alloc (.cells #[.int .i64 eW, .int .i64 eH, .slice a1 en c1] 24)
      replace S1 := S1.alloc (.cells #[.int .i64 eW, .int .i64 eH, .slice a1 en c1] 24)
      have X2 := Bx.new w2 #[.int .i64 eW, .int .i64 eH, .slice a1 en c1] 24
      replace hB := balloc hB (.cells #[.int .i64 eW, .int .i64 eH, .slice a1 en c1] 24)
      have X0_0 := X0.at_ 0 rfl
      have X0_1 := X0.at_ 1 rfl
      have X0_2 := X0.at_ 2 rfl
      have X0_3 := X0.at_ 3 rfl
      have X0_4 := X0.at_ 4 rfl
      have X0z := X0.lt
      have X1_0 := X1.at_ 0 rfl
      have X1_1 := X1.at_ 1 rfl
      have X1z := X1.lt
      have X2_0 := X2.at_ 0 rfl
      have X2_1 := X2.at_ 1 rfl
      have X2_2 := X2.at_ 2 rfl
      have X2z := X2.lt
      refine (hR9 _ (S.below hB) (SK.below hB) (SB.below hB) (SR.below hB)).mono ?_
      rintro e w3 ⟨a2, c2, rfl, S2, _, hb2⟩
      clear X0_0 X0_1 X0_2 X0_3 X0_4 X0z X1_0 X1_1 X1z X2_0 X2_1 X2_2 X2z
      replace X0 := X0.below hb2
      replace X1 := X1.below hb2
      replace S1 := S1.below hb2
      replace X2 := X2.below hb2
      replace hB := bvia hB hb2
      clear hb2
      have X0_0 := X0.at_ 0 rfl
      have X0_1 := X0.at_ 1 rfl
      have X0_2 := X0.at_ 2 rfl
      have X0_3 := X0.at_ 3 rfl
      have X0_4 := X0.at_ 4 rfl
      have X0z := X0.lt
      have X1_0 := X1.at_ 0 rfl
      have X1_1 := X1.at_ 1 rfl
      have X1z := X1.lt
      have X2_0 := X2.at_ 0 rfl
      have X2_1 := X2.at_ 1 rfl
      have X2_2 := X2.at_ 2 rfl
      have X2z := X2.lt
      go_wp2_with fail
      clear X0_0 X0_1 X0_2 X0_3 X0_4 X0z X1_0 X1_1 X1z X2_0 X2_1 X2_2 X2z
      replace X0 := X0.alloc (.cells #[.int .i64 eW, .int .i64 eH, .slice a2 en c2] 24)
      replace X1 := X1.alloc (.cells #[.int .i64 eW, .int .i64 eH, .slice a2 en c2] 24)
      replace S1 := S1.alloc (.cells #[.int .i64 eW, .int .i64 eH, .slice a2 en c2] 24)
      replace X2 := X2.alloc (.cells #[.int .i64 eW, .int .i64 eH, .slice a2 en c2] 24)
      replace S2 := S2.alloc (.cells #[.int .i64 eW, .int .i64 eH, .slice a2 en c2] 24)
      have X3 := Bx.new w3 #[.int .i64 eW, .int .i64 eH, .slice a2 en c2] 24
      replace hB := balloc hB (.cells #[.int .i64 eW, .int .i64 eH, .slice a2 en c2] 24)
      have X0_0 := X0.at_ 0 rfl
      have X0_1 := X0.at_ 1 rfl
      have X0_2 := X0.at_ 2 rfl
      have X0_3 := X0.at_ 3 rfl
      have X0_4 := X0.at_ 4 rfl
      have X0z := X0.lt
      have X1_0 := X1.at_ 0 rfl
      have X1_1 := X1.at_ 1 rfl
      have X1z := X1.lt
      have X2_0 := X2.at_ 0 rfl
      have X2_1 := X2.at_ 1 rfl
      have X2_2 := X2.at_ 2 rfl
      have X2z := X2.lt
      refine (ref2_Same _ _ _ _ _ _ _ _ _ _ hen S1 S2 (fun _ _ => rfl)).mono ?_
      rintro e w4 ⟨rfl, hb2⟩
      clear X0_0 X0_1 X0_2 X0_3 X0_4 X0z X1_0 X1_1 X1z X2_0 X2_1 X2_2 X2z
      replace X0 := X0.below hb2
      replace X1 := X1.below hb2
      replace S1 := S1.below hb2
      replace X2 := X2.below hb2
      replace S2 := S2.below hb2
      replace X3 := X3.below hb2
      replace hB := bvia hB hb2
      clear hb2
      have X0_0 := X0.at_ 0 rfl
      have X0_1 := X0.at_ 1 rfl
      have X0_2 := X0.at_ 2 rfl
      have X0_3 := X0.at_ 3 rfl
      have X0_4 := X0.at_ 4 rfl
      have X0z := X0.lt
      have X1_0 := X1.at_ 0 rfl
      have X1_1 := X1.at_ 1 rfl
      have X1z := X1.lt
      have X2_0 := X2.at_ 0 rfl
      have X2_1 := X2.at_ 1 rfl
      have X2_2 := X2.at_ 2 rfl
      have X2z := X2.lt
      go_wp2_with fail
      refine (hU _ (S.below hB) (SK.below hB) (SB.below hB) (SR.below hB)).mono ?_
      rintro e w5 ⟨a3, c3, rfl, S3, _, hb2⟩
      clear X0_0 X0_1 X0_2 X0_3 X0_4 X0z X1_0 X1_1 X1z X2_0 X2_1 X2_2 X2z
      replace X0 := X0.below hb2
      replace X1 := X1.below hb2
      replace S1 := S1.below hb2
      replace X2 := X2.below hb2
      replace S2 := S2.below hb2
      replace X3 := X3.below hb2
      replace hB := bvia hB hb2
      clear hb2
      have X0_0 := X0.at_ 0 rfl
      have X0_1 := X0.at_ 1 rfl
      have X0_2 := X0.at_ 2 rfl
      have X0_3 := X0.at_ 3 rfl
      have X0_4 := X0.at_ 4 rfl
      have X0z := X0.lt
      have X1_0 := X1.at_ 0 rfl
      have X1_1 := X1.at_ 1 rfl
      have X1z := X1.lt
      have X2_0 := X2.at_ 0 rfl
      have X2_1 := X2.at_ 1 rfl
      have X2_2 := X2.at_ 2 rfl
      have X2z := X2.lt
      have hw5 := X0.lt
      go_wp2_with fail
      clear X0_0 X0_1 X0_2 X0_3 X0_4 X0z X1_0 X1_1 X1z X2_0 X2_1 X2_2 X2z
      replace X0 := X0.alloc (.cells #[.int .i64 eW, .int .i64 eH, .slice a3 en c3] 24)
      replace X1 := X1.alloc (.cells #[.int .i64 eW, .int .i64 eH, .slice a3 en c3] 24)
      replace S1 := S1.alloc (.cells #[.int .i64 eW, .int .i64 eH, .slice a3 en c3] 24)
      replace X2 := X2.alloc (.cells #[.int .i64 eW, .int .i64 eH, .slice a3 en c3] 24)
      replace S2 := S2.alloc (.cells #[.int .i64 eW, .int .i64 eH, .slice a3 en c3] 24)
      replace X3 := X3.alloc (.cells #[.int .i64 eW, .int .i64 eH, .slice a3 en c3] 24)
      replace S3 := S3.alloc (.cells #[.int .i64 eW, .int .i64 eH, .slice a3 en c3] 24)
      have X4 := Bx.new w5 #[.int .i64 eW, .int .i64 eH, .slice a3 en c3] 24
      replace hB := balloc hB (.cells #[.int .i64 eW, .int .i64 eH, .slice a3 en c3] 24)
      have X0_0 := X0.at_ 0 rfl
      have X0_1 := X0.at_ 1 rfl
      have X0_2 := X0.at_ 2 rfl
      have X0_3 := X0.at_ 3 rfl
      have X0_4 := X0.at_ 4 rfl
      have X0z := X0.lt
      have X1_0 := X1.at_ 0 rfl
      have X1_1 := X1.at_ 1 rfl
      have X1z := X1.lt
      have X2_0 := X2.at_ 0 rfl
      have X2_1 := X2.at_ 1 rfl
      have X2_2 := X2.at_ 2 rfl
      have X2z := X2.lt
      have X4_0 := X4.at_ 0 rfl
      have X4_1 := X4.at_ 1 rfl
      have X4_2 := X4.at_ 2 rfl
      have X4z := X4.lt
      refine (hU9 _ (S.below hB) (SK.below hB) (SB.below hB) (SR.below hB)).mono ?_
      rintro e w6 ⟨a4, c4, rfl, S4, _, hb2⟩
      clear X0_0 X0_1 X0_2 X0_3 X0_4 X0z X1_0 X1_1 X1z X2_0 X2_1 X2_2 X2z X4_0 X4_1 X4_2 X4z
      replace X0 := X0.below hb2
      replace X1 := X1.below hb2
      replace S1 := S1.below hb2
      replace X2 := X2.below hb2
      replace S2 := S2.below hb2
      replace X3 := X3.below hb2
      replace S3 := S3.below hb2
      replace X4 := X4.below hb2
      replace hB := bvia hB hb2
      clear hb2
      have X0_0 := X0.at_ 0 rfl
      have X0_1 := X0.at_ 1 rfl
      have X0_2 := X0.at_ 2 rfl
      have X0_3 := X0.at_ 3 rfl
      have X0_4 := X0.at_ 4 rfl
      have X0z := X0.lt
      have X1_0 := X1.at_ 0 rfl
      have X1_1 := X1.at_ 1 rfl
      have X1z := X1.lt
      have X2_0 := X2.at_ 0 rfl
      have X2_1 := X2.at_ 1 rfl
      have X2_2 := X2.at_ 2 rfl
      have X2z := X2.lt
      have X4_0 := X4.at_ 0 rfl
      have X4_1 := X4.at_ 1 rfl
      have X4_2 := X4.at_ 2 rfl
      have X4z := X4.lt
      go_wp2_with fail
      clear X0_0 X0_1 X0_2 X0_3 X0_4 X0z X1_0 X1_1 X1z X2_0 X2_1 X2_2 X2z X4_0 X4_1 X4_2 X4z
      replace X0 := X0.alloc (.cells #[.int .i64 eW, .int .i64 eH, .slice a4 en c4] 24)
      replace X1 := X1.alloc (.cells #[.int .i64 eW, .int .i64 eH, .slice a4 en c4] 24)
      replace S1 := S1.alloc (.cells #[.int .i64 eW, .int .i64 eH, .slice a4 en c4] 24)
      replace X2 := X2.alloc (.cells #[.int .i64 eW, .int .i64 eH, .slice a4 en c4] 24)
      replace S2 := S2.alloc (.cells #[.int .i64 eW, .int .i64 eH, .slice a4 en c4] 24)
      replace X3 := X3.alloc (.cells #[.int .i64 eW, .int .i64 eH, .slice a4 en c4] 24)
      replace S3 := S3.alloc (.cells #[.int .i64 eW, .int .i64 eH, .slice a4 en c4] 24)
      replace X4 := X4.alloc (.cells #[.int .i64 eW, .int .i64 eH, .slice a4 en c4] 24)
      replace S4 := S4.alloc (.cells #[.int .i64 eW, .int .i64 eH, .slice a4 en c4] 24)
      have X5 := Bx.new w6 #[.int .i64 eW, .int .i64 eH, .slice a4 en c4] 24
      replace hB := balloc hB (.cells #[.int .i64 eW, .int .i64 eH, .slice a4 en c4] 24)
      have X0_0 := X0.at_ 0 rfl
      have X0_1 := X0.at_ 1 rfl
      have X0_2 := X0.at_ 2 rfl
      have X0_3 := X0.at_ 3 rfl
      have X0_4 := X0.at_ 4 rfl
      have X0z := X0.lt
      have X1_0 := X1.at_ 0 rfl
      have X1_1 := X1.at_ 1 rfl
      have X1z := X1.lt
      have X2_0 := X2.at_ 0 rfl
      have X2_1 := X2.at_ 1 rfl
      have X2_2 := X2.at_ 2 rfl
      have X2z := X2.lt
      have X4_0 := X4.at_ 0 rfl
      have X4_1 := X4.at_ 1 rfl
      have X4_2 := X4.at_ 2 rfl
      have X4z := X4.lt
      refine (ref2_Same _ _ _ _ _ _ _ _ _ _ hen S3 S4 (fun _ _ => rfl)).mono ?_
      rintro e w7 ⟨rfl, hb2⟩
      clear X0_0 X0_1 X0_2 X0_3 X0_4 X0z X1_0 X1_1 X1z X2_0 X2_1 X2_2 X2z X4_0 X4_1 X4_2 X4z
      replace X0 := X0.below hb2
      replace X1 := X1.below hb2
      replace S1 := S1.below hb2
      replace X2 := X2.below hb2
      replace S2 := S2.below hb2
      replace X3 := X3.below hb2
      replace S3 := S3.below hb2
      replace X4 := X4.below hb2
      replace S4 := S4.below hb2
      replace X5 := X5.below hb2
      replace hB := bvia hB hb2
      clear hb2
      have X0_0 := X0.at_ 0 rfl
      have X0_1 := X0.at_ 1 rfl
      have X0_2 := X0.at_ 2 rfl
      have X0_3 := X0.at_ 3 rfl
      have X0_4 := X0.at_ 4 rfl
      have X0z := X0.lt
      have X1_0 := X1.at_ 0 rfl
      have X1_1 := X1.at_ 1 rfl
      have X1z := X1.lt
      have X2_0 := X2.at_ 0 rfl
      have X2_1 := X2.at_ 1 rfl
      have X2_2 := X2.at_ 2 rfl
      have X2z := X2.lt
      have X4_0 := X4.at_ 0 rfl
      have X4_1 := X4.at_ 1 rfl
      have X4_2 := X4.at_ 2 rfl
      have X4z := X4.lt
      go_wp2_with fail
      refine (awake_true _).mono ?_
      rintro e w8 ⟨rfl, hb8⟩
      go_wp2_with fail
      go_ret
      exact ⟨rfl, bvia hB hb8⟩
    · skip
      have X0 := (Bx.new w #[.int .i64 wide, .int .i64 high, .slice a n c, .slice ak nk ck, .slice ab nb cb] 29).alloc (.cells #[.int .i64 t, .int .i64 m] 57)
      have X1 := Bx.new (w.alloc (.cells #[.int .i64 wide, .int .i64 high, .slice a n c, .slice ak nk ck, .slice ab nb cb] 29)) #[.int .i64 t, .int .i64 m] 57
      simp only [World.size_alloc] at X1
      have hB0 : Below w.heap.size w ((w.alloc (.cells #[.int .i64 wide, .int .i64 high, .slice a n c, .slice ak nk ck, .slice ab nb cb] 29)).alloc (.cells #[.int .i64 t, .int .i64 m] 57)) := by (repeat' (first | with_reducible assumption | with_reducible exact Below.refl _ _ | with_reducible refine Below.drew ?_ | with_reducible refine below_drewN ?_ _ | with_reducible refine balloc ?_ _ | with_reducible refine bset ?_ ?_ _ | with_reducible refine Below.setCell ?_ ?_ _ | with_reducible refine Below.alloc ?_ ?_ _ | omega | (simp; done) | (simp; omega)))
      go_enter Try.func9, Try.ntmps9
      go_wp2_with fail
      generalize ((w.alloc (.cells #[.int .i64 wide, .int .i64 high, .slice a n c, .slice ak nk ck, .slice ab nb cb] 29)).alloc (.cells #[.int .i64 t, .int .i64 m] 57)) = W0 at X0 X1 hB0 ⊢
      have z0 := X0.lt
      have z1 := X1.lt
      refine (law3_small _ _ _ _ _ _ _ _ _ _ _ _ _ hn hk hb).mono ?_
      rintro e w1 ⟨rfl, hb1⟩
      rw [HSM.out]
      have hB := hB0
      clear hB0
      replace X0 := X0.below hb1
      replace X1 := X1.below hb1
      replace hB := bvia hB hb1
      clear hb1
      have X0_0 := X0.at_ 0 rfl
      have X0_1 := X0.at_ 1 rfl
      have X0_2 := X0.at_ 2 rfl
      have X0_3 := X0.at_ 3 rfl
      have X0_4 := X0.at_ 4 rfl
      have X0z := X0.lt
      have X1_0 := X1.at_ 0 rfl
      have X1_1 := X1.at_ 1 rfl
      have X1z := X1.lt
      go_wp2_with fail
      refine (hR _ (S.below hB) (SK.below hB) (SB.below hB) (SR.below hB)).mono ?_
      rintro e w2 ⟨a1, c1, rfl, S1, _, hb2⟩
      clear X0_0 X0_1 X0_2 X0_3 X0_4 X0z X1_0 X1_1 X1z
      replace X0 := X0.below hb2
      replace X1 := X1.below hb2
      replace hB := bvia hB hb2
      clear hb2
      have X0_0 := X0.at_ 0 rfl
      have X0_1 := X0.at_ 1 rfl
      have X0_2 := X0.at_ 2 rfl
      have X0_3 := X0.at_ 3 rfl
      have X0_4 := X0.at_ 4 rfl
      have X0z := X0.lt
      have X1_0 := X1.at_ 0 rfl
      have X1_1 := X1.at_ 1 rfl
      have X1z := X1.lt
      go_wp2_with fail
      clear X0_0 X0_1 X0_2 X0_3 X0_4 X0z X1_0 X1_1 X1z
      replace X0 := X0.alloc (.cells #[.int .i64 eW, .int .i64 eH, .slice a1 en c1] 24)
      replace X1 := X1.alloc (.cells #[.int .i64 eW, .int .i64 eH, .slice a1 en c1] 24)
      replace S1 := S1.alloc (.cells #[.int .i64 eW, .int .i64 eH, .slice a1 en c1] 24)
      have X2 := Bx.new w2 #[.int .i64 eW, .int .i64 eH, .slice a1 en c1] 24
      replace hB := balloc hB (.cells #[.int .i64 eW, .int .i64 eH, .slice a1 en c1] 24)
      have X0_0 := X0.at_ 0 rfl
      have X0_1 := X0.at_ 1 rfl
      have X0_2 := X0.at_ 2 rfl
      have X0_3 := X0.at_ 3 rfl
      have X0_4 := X0.at_ 4 rfl
      have X0z := X0.lt
      have X1_0 := X1.at_ 0 rfl
      have X1_1 := X1.at_ 1 rfl
      have X1z := X1.lt
      have X2_0 := X2.at_ 0 rfl
      have X2_1 := X2.at_ 1 rfl
      have X2_2 := X2.at_ 2 rfl
      have X2z := X2.lt
      refine (hR9 _ (S.below hB) (SK.below hB) (SB.below hB) (SR.below hB)).mono ?_
      rintro e w3 ⟨a2, c2, rfl, S2, _, hb2⟩
      clear X0_0 X0_1 X0_2 X0_3 X0_4 X0z X1_0 X1_1 X1z X2_0 X2_1 X2_2 X2z
      replace X0 := X0.below hb2
      replace X1 := X1.below hb2
      replace S1 := S1.below hb2
      replace X2 := X2.below hb2
      replace hB := bvia hB hb2
      clear hb2
      have X0_0 := X0.at_ 0 rfl
      have X0_1 := X0.at_ 1 rfl
      have X0_2 := X0.at_ 2 rfl
      have X0_3 := X0.at_ 3 rfl
      have X0_4 := X0.at_ 4 rfl
      have X0z := X0.lt
      have X1_0 := X1.at_ 0 rfl
      have X1_1 := X1.at_ 1 rfl
      have X1z := X1.lt
      have X2_0 := X2.at_ 0 rfl
      have X2_1 := X2.at_ 1 rfl
      have X2_2 := X2.at_ 2 rfl
      have X2z := X2.lt
      go_wp2_with fail
      clear X0_0 X0_1 X0_2 X0_3 X0_4 X0z X1_0 X1_1 X1z X2_0 X2_1 X2_2 X2z
      replace X0 := X0.alloc (.cells #[.int .i64 eW, .int .i64 eH, .slice a2 en c2] 24)
      replace X1 := X1.alloc (.cells #[.int .i64 eW, .int .i64 eH, .slice a2 en c2] 24)
      replace S1 := S1.alloc (.cells #[.int .i64 eW, .int .i64 eH, .slice a2 en c2] 24)
      replace X2 := X2.alloc (.cells #[.int .i64 eW, .int .i64 eH, .slice a2 en c2] 24)
      replace S2 := S2.alloc (.cells #[.int .i64 eW, .int .i64 eH, .slice a2 en c2] 24)
      have X3 := Bx.new w3 #[.int .i64 eW, .int .i64 eH, .slice a2 en c2] 24
      replace hB := balloc hB (.cells #[.int .i64 eW, .int .i64 eH, .slice a2 en c2] 24)
      have X0_0 := X0.at_ 0 rfl
      have X0_1 := X0.at_ 1 rfl
      have X0_2 := X0.at_ 2 rfl
      have X0_3 := X0.at_ 3 rfl
      have X0_4 := X0.at_ 4 rfl
      have X0z := X0.lt
      have X1_0 := X1.at_ 0 rfl
      have X1_1 := X1.at_ 1 rfl
      have X1z := X1.lt
      have X2_0 := X2.at_ 0 rfl
      have X2_1 := X2.at_ 1 rfl
      have X2_2 := X2.at_ 2 rfl
      have X2z := X2.lt
      refine (ref2_Same _ _ _ _ _ _ _ _ _ _ hen S1 S2 (fun _ _ => rfl)).mono ?_
      rintro e w4 ⟨rfl, hb2⟩
      clear X0_0 X0_1 X0_2 X0_3 X0_4 X0z X1_0 X1_1 X1z X2_0 X2_1 X2_2 X2z
      replace X0 := X0.below hb2
      replace X1 := X1.below hb2
      replace S1 := S1.below hb2
      replace X2 := X2.below hb2
      replace S2 := S2.below hb2
      replace X3 := X3.below hb2
      replace hB := bvia hB hb2
      clear hb2
      have X0_0 := X0.at_ 0 rfl
      have X0_1 := X0.at_ 1 rfl
      have X0_2 := X0.at_ 2 rfl
      have X0_3 := X0.at_ 3 rfl
      have X0_4 := X0.at_ 4 rfl
      have X0z := X0.lt
      have X1_0 := X1.at_ 0 rfl
      have X1_1 := X1.at_ 1 rfl
      have X1z := X1.lt
      have X2_0 := X2.at_ 0 rfl
      have X2_1 := X2.at_ 1 rfl
      have X2_2 := X2.at_ 2 rfl
      have X2z := X2.lt
      go_wp2_with fail
      refine (hU _ (S.below hB) (SK.below hB) (SB.below hB) (SR.below hB)).mono ?_
      rintro e w5 ⟨a3, c3, rfl, S3, _, hb2⟩
      clear X0_0 X0_1 X0_2 X0_3 X0_4 X0z X1_0 X1_1 X1z X2_0 X2_1 X2_2 X2z
      replace X0 := X0.below hb2
      replace X1 := X1.below hb2
      replace S1 := S1.below hb2
      replace X2 := X2.below hb2
      replace S2 := S2.below hb2
      replace X3 := X3.below hb2
      replace hB := bvia hB hb2
      clear hb2
      have X0_0 := X0.at_ 0 rfl
      have X0_1 := X0.at_ 1 rfl
      have X0_2 := X0.at_ 2 rfl
      have X0_3 := X0.at_ 3 rfl
      have X0_4 := X0.at_ 4 rfl
      have X0z := X0.lt
      have X1_0 := X1.at_ 0 rfl
      have X1_1 := X1.at_ 1 rfl
      have X1z := X1.lt
      have X2_0 := X2.at_ 0 rfl
      have X2_1 := X2.at_ 1 rfl
      have X2_2 := X2.at_ 2 rfl
      have X2z := X2.lt
      have hw5 := X0.lt
      go_wp2_with fail
      clear X0_0 X0_1 X0_2 X0_3 X0_4 X0z X1_0 X1_1 X1z X2_0 X2_1 X2_2 X2z
      replace X0 := X0.alloc (.cells #[.int .i64 eW, .int .i64 eH, .slice a3 en c3] 24)
      replace X1 := X1.alloc (.cells #[.int .i64 eW, .int .i64 eH, .slice a3 en c3] 24)
      replace S1 := S1.alloc (.cells #[.int .i64 eW, .int .i64 eH, .slice a3 en c3] 24)
      replace X2 := X2.alloc (.cells #[.int .i64 eW, .int .i64 eH, .slice a3 en c3] 24)
      replace S2 := S2.alloc (.cells #[.int .i64 eW, .int .i64 eH, .slice a3 en c3] 24)
      replace X3 := X3.alloc (.cells #[.int .i64 eW, .int .i64 eH, .slice a3 en c3] 24)
      replace S3 := S3.alloc (.cells #[.int .i64 eW, .int .i64 eH, .slice a3 en c3] 24)
      have X4 := Bx.new w5 #[.int .i64 eW, .int .i64 eH, .slice a3 en c3] 24
      replace hB := balloc hB (.cells #[.int .i64 eW, .int .i64 eH, .slice a3 en c3] 24)
      have X0_0 := X0.at_ 0 rfl
      have X0_1 := X0.at_ 1 rfl
      have X0_2 := X0.at_ 2 rfl
      have X0_3 := X0.at_ 3 rfl
      have X0_4 := X0.at_ 4 rfl
      have X0z := X0.lt
      have X1_0 := X1.at_ 0 rfl
      have X1_1 := X1.at_ 1 rfl
      have X1z := X1.lt
      have X2_0 := X2.at_ 0 rfl
      have X2_1 := X2.at_ 1 rfl
      have X2_2 := X2.at_ 2 rfl
      have X2z := X2.lt
      have X4_0 := X4.at_ 0 rfl
      have X4_1 := X4.at_ 1 rfl
      have X4_2 := X4.at_ 2 rfl
      have X4z := X4.lt
      refine (hU9 _ (S.below hB) (SK.below hB) (SB.below hB) (SR.below hB)).mono ?_
      rintro e w6 ⟨a4, c4, rfl, S4, _, hb2⟩
      clear X0_0 X0_1 X0_2 X0_3 X0_4 X0z X1_0 X1_1 X1z X2_0 X2_1 X2_2 X2z X4_0 X4_1 X4_2 X4z
      replace X0 := X0.below hb2
      replace X1 := X1.below hb2
      replace S1 := S1.below hb2
      replace X2 := X2.below hb2
      replace S2 := S2.below hb2
      replace X3 := X3.below hb2
      replace S3 := S3.below hb2
      replace X4 := X4.below hb2
      replace hB := bvia hB hb2
      clear hb2
      have X0_0 := X0.at_ 0 rfl
      have X0_1 := X0.at_ 1 rfl
      have X0_2 := X0.at_ 2 rfl
      have X0_3 := X0.at_ 3 rfl
      have X0_4 := X0.at_ 4 rfl
      have X0z := X0.lt
      have X1_0 := X1.at_ 0 rfl
      have X1_1 := X1.at_ 1 rfl
      have X1z := X1.lt
      have X2_0 := X2.at_ 0 rfl
      have X2_1 := X2.at_ 1 rfl
      have X2_2 := X2.at_ 2 rfl
      have X2z := X2.lt
      have X4_0 := X4.at_ 0 rfl
      have X4_1 := X4.at_ 1 rfl
      have X4_2 := X4.at_ 2 rfl
      have X4z := X4.lt
      go_wp2_with fail
      clear X0_0 X0_1 X0_2 X0_3 X0_4 X0z X1_0 X1_1 X1z X2_0 X2_1 X2_2 X2z X4_0 X4_1 X4_2 X4z
      replace X0 := X0.alloc (.cells #[.int .i64 eW, .int .i64 eH, .slice a4 en c4] 24)
      replace X1 := X1.alloc (.cells #[.int .i64 eW, .int .i64 eH, .slice a4 en c4] 24)
      replace S1 := S1.alloc (.cells #[.int .i64 eW, .int .i64 eH, .slice a4 en c4] 24)
      replace X2 := X2.alloc (.cells #[.int .i64 eW, .int .i64 eH, .slice a4 en c4] 24)
      replace S2 := S2.alloc (.cells #[.int .i64 eW, .int .i64 eH, .slice a4 en c4] 24)
      replace X3 := X3.alloc (.cells #[.int .i64 eW, .int .i64 eH, .slice a4 en c4] 24)
      replace S3 := S3.alloc (.cells #[.int .i64 eW, .int .i64 eH, .slice a4 en c4] 24)
      replace X4 := X4.alloc (.cells #[.int .i64 eW, .int .i64 eH, .slice a4 en c4] 24)
      replace S4 := S4.alloc (.cells #[.int .i64 eW, .int .i64 eH, .slice a4 en c4] 24)
      have X5 := Bx.new w6 #[.int .i64 eW, .int .i64 eH, .slice a4 en c4] 24
      replace hB := balloc hB (.cells #[.int .i64 eW, .int .i64 eH, .slice a4 en c4] 24)
      have X0_0 := X0.at_ 0 rfl
      have X0_1 := X0.at_ 1 rfl
      have X0_2 := X0.at_ 2 rfl
      have X0_3 := X0.at_ 3 rfl
      have X0_4 := X0.at_ 4 rfl
      have X0z := X0.lt
      have X1_0 := X1.at_ 0 rfl
      have X1_1 := X1.at_ 1 rfl
      have X1z := X1.lt
      have X2_0 := X2.at_ 0 rfl
      have X2_1 := X2.at_ 1 rfl
      have X2_2 := X2.at_ 2 rfl
      have X2z := X2.lt
      have X4_0 := X4.at_ 0 rfl
      have X4_1 := X4.at_ 1 rfl
      have X4_2 := X4.at_ 2 rfl
      have X4z := X4.lt
      refine (ref2_Same _ _ _ _ _ _ _ _ _ _ hen S3 S4 (fun _ _ => rfl)).mono ?_
      rintro e w7 ⟨rfl, hb2⟩
      clear X0_0 X0_1 X0_2 X0_3 X0_4 X0z X1_0 X1_1 X1z X2_0 X2_1 X2_2 X2z X4_0 X4_1 X4_2 X4z
      replace X0 := X0.below hb2
      replace X1 := X1.below hb2
      replace S1 := S1.below hb2
      replace X2 := X2.below hb2
      replace S2 := S2.below hb2
      replace X3 := X3.below hb2
      replace S3 := S3.below hb2
      replace X4 := X4.below hb2
      replace S4 := S4.below hb2
      replace X5 := X5.below hb2
      replace hB := bvia hB hb2
      clear hb2
      have X0_0 := X0.at_ 0 rfl
      have X0_1 := X0.at_ 1 rfl
      have X0_2 := X0.at_ 2 rfl
      have X0_3 := X0.at_ 3 rfl
      have X0_4 := X0.at_ 4 rfl
      have X0z := X0.lt
      have X1_0 := X1.at_ 0 rfl
      have X1_1 := X1.at_ 1 rfl
      have X1z := X1.lt
      have X2_0 := X2.at_ 0 rfl
      have X2_1 := X2.at_ 1 rfl
      have X2_2 := X2.at_ 2 rfl
      have X2z := X2.lt
      have X4_0 := X4.at_ 0 rfl
      have X4_1 := X4.at_ 1 rfl
      have X4_2 := X4.at_ 2 rfl
      have X4z := X4.lt
      go_wp2_with fail
      refine (awake_true _).mono ?_
      rintro e w8 ⟨rfl, hb8⟩
      go_wp2_with fail
      go_ret
      exact ⟨rfl, bvia hB hb8⟩
  · subst hz
    have hU2 := fun a1 c1 (G : Nat → C4) W' S' SK' SB' SR' => wall_Undo wide high a1 ak ab ar n nk nb nr c1 ck cb cr G K B r t m W' (by omega) (by omega) (by omega) (by omega) S' SK' SB' SR'
    obtain ⟨W, H, T, M, rfl, rfl, rfl, rfl, w1, h1, rfl, rfl, rfl, hok, hKb, hr0, hr8, hru, hT, hM, hTM⟩ := run_ok HER.out
    obtain ⟨v1, v2, v3⟩ := rnE_zero HER.out
    obtain ⟨q1, q2, q3, q4⟩ := (validW_iff _ _ _ _ _ _ _ _).1 v1
    simp only [Int.toNat_natCast] at hR hR9 hU hU9 hU2
    have hm24 : W * H ≤ 1024 := by omega
    have hokG := runW_ok (r := rlAt nr r) (K := K) (t := T) hok M
    have hV2 : validW (W : Int) (H : Int) (W * H) (runW W H (rlAt nr r) K g T M) (W * H) (W * H) K B = true := (validW_iff _ _ _ _ _ _ _ _).2 ⟨validG_of w1 h1 hm24 hokG, rfl, rfl, q4⟩
    replace hU2 := fun a1 c1 => hU2 a1 c1 (runW W H (rlAt nr r) K g T M)
    rw [hV2, v2, v3] at hU2
    have e0 : rnE true true true = 0 := rfl
    rw [e0] at hU2
    simp only [erZ, erN, if_true] at hR hR9 hU hU9 hU2 hen
    have hback := undoW_runW (r := rlAt nr r) (K := K) (t := T) hok M
    clear e0 hV2 hokG q1 q2 q3 q4 v1 v2 v3 hTM hru hKb hok HER
    generalize undoW W H (rlAt nr r) K T M (runW W H (rlAt nr r) K g T M) = U2 at *
    generalize runW W H (rlAt nr r) K g T M = G at *
    generalize undoW W H (rlAt nr r) K T M g = U at *
    have HBK := hid hback
    have hM25 : (M : Int) ≤ 25 := by omega
    clear hback hm3
    have X0 := (Bx.new w #[.int .i64 (W : Int), .int .i64 (H : Int), .slice a (W * H) c, .slice ak (W * H) ck, .slice ab (W * H) cb] 29).alloc (.cells #[.int .i64 (T : Int), .int .i64 (M : Int)] 57)
    have X1 := Bx.new (w.alloc (.cells #[.int .i64 (W : Int), .int .i64 (H : Int), .slice a (W * H) c, .slice ak (W * H) ck, .slice ab (W * H) cb] 29)) #[.int .i64 (T : Int), .int .i64 (M : Int)] 57
    simp only [World.size_alloc] at X1
    have hB0 : Below w.heap.size w ((w.alloc (.cells #[.int .i64 (W : Int), .int .i64 (H : Int), .slice a (W * H) c, .slice ak (W * H) ck, .slice ab (W * H) cb] 29)).alloc (.cells #[.int .i64 (T : Int), .int .i64 (M : Int)] 57)) := by (repeat' (first | with_reducible assumption | with_reducible exact Below.refl _ _ | with_reducible refine Below.drew ?_ | with_reducible refine below_drewN ?_ _ | with_reducible refine balloc ?_ _ | with_reducible refine bset ?_ ?_ _ | with_reducible refine Below.setCell ?_ ?_ _ | with_reducible refine Below.alloc ?_ ?_ _ | omega | (simp; done) | (simp; omega)))
    go_enter Try.func9, Try.ntmps9
    go_wp2_with fail
    generalize ((w.alloc (.cells #[.int .i64 (W : Int), .int .i64 (H : Int), .slice a (W * H) c, .slice ak (W * H) ck, .slice ab (W * H) cb] 29)).alloc (.cells #[.int .i64 (T : Int), .int .i64 (M : Int)] 57)) = W0 at X0 X1 hB0 ⊢
    have z0 := X0.lt
    have z1 := X1.lt
    refine (law3_small _ _ _ _ _ _ _ _ _ _ _ _ _ hn hk hb).mono ?_
    rintro e w1 ⟨rfl, hb1⟩
    rw [HSM.out]
    have hB := hB0
    clear hB0
    replace X0 := X0.below hb1
    replace X1 := X1.below hb1
    replace hB := bvia hB hb1
    clear hb1
    have X0_0 := X0.at_ 0 rfl
    have X0_1 := X0.at_ 1 rfl
    have X0_2 := X0.at_ 2 rfl
    have X0_3 := X0.at_ 3 rfl
    have X0_4 := X0.at_ 4 rfl
    have X0z := X0.lt
    have X1_0 := X1.at_ 0 rfl
    have X1_1 := X1.at_ 1 rfl
    have X1z := X1.lt
    go_wp2_with fail
    refine (hR _ (S.below hB) (SK.below hB) (SB.below hB) (SR.below hB)).mono ?_
    rintro e w2 ⟨a1, c1, rfl, S1, _, hb2⟩
    clear X0_0 X0_1 X0_2 X0_3 X0_4 X0z X1_0 X1_1 X1z
    replace X0 := X0.below hb2
    replace X1 := X1.below hb2
    replace hB := bvia hB hb2
    clear hb2
    have X0_0 := X0.at_ 0 rfl
    have X0_1 := X0.at_ 1 rfl
    have X0_2 := X0.at_ 2 rfl
    have X0_3 := X0.at_ 3 rfl
    have X0_4 := X0.at_ 4 rfl
    have X0z := X0.lt
    have X1_0 := X1.at_ 0 rfl
    have X1_1 := X1.at_ 1 rfl
    have X1z := X1.lt
    go_wp2_with fail
    clear X0_0 X0_1 X0_2 X0_3 X0_4 X0z X1_0 X1_1 X1z
    replace X0 := X0.alloc (.cells #[.int .i64 (W : Int), .int .i64 (H : Int), .slice a1 (W * H) c1] 24)
    replace X1 := X1.alloc (.cells #[.int .i64 (W : Int), .int .i64 (H : Int), .slice a1 (W * H) c1] 24)
    replace S1 := S1.alloc (.cells #[.int .i64 (W : Int), .int .i64 (H : Int), .slice a1 (W * H) c1] 24)
    have X2 := Bx.new w2 #[.int .i64 (W : Int), .int .i64 (H : Int), .slice a1 (W * H) c1] 24
    replace hB := balloc hB (.cells #[.int .i64 (W : Int), .int .i64 (H : Int), .slice a1 (W * H) c1] 24)
    have X0_0 := X0.at_ 0 rfl
    have X0_1 := X0.at_ 1 rfl
    have X0_2 := X0.at_ 2 rfl
    have X0_3 := X0.at_ 3 rfl
    have X0_4 := X0.at_ 4 rfl
    have X0z := X0.lt
    have X1_0 := X1.at_ 0 rfl
    have X1_1 := X1.at_ 1 rfl
    have X1z := X1.lt
    have X2_0 := X2.at_ 0 rfl
    have X2_1 := X2.at_ 1 rfl
    have X2_2 := X2.at_ 2 rfl
    have X2z := X2.lt
    refine (hR9 _ (S.below hB) (SK.below hB) (SB.below hB) (SR.below hB)).mono ?_
    rintro e w3 ⟨a2, c2, rfl, S2, _, hb2⟩
    clear X0_0 X0_1 X0_2 X0_3 X0_4 X0z X1_0 X1_1 X1z X2_0 X2_1 X2_2 X2z
    replace X0 := X0.below hb2
    replace X1 := X1.below hb2
    replace S1 := S1.below hb2
    replace X2 := X2.below hb2
    replace hB := bvia hB hb2
    clear hb2
    have X0_0 := X0.at_ 0 rfl
    have X0_1 := X0.at_ 1 rfl
    have X0_2 := X0.at_ 2 rfl
    have X0_3 := X0.at_ 3 rfl
    have X0_4 := X0.at_ 4 rfl
    have X0z := X0.lt
    have X1_0 := X1.at_ 0 rfl
    have X1_1 := X1.at_ 1 rfl
    have X1z := X1.lt
    have X2_0 := X2.at_ 0 rfl
    have X2_1 := X2.at_ 1 rfl
    have X2_2 := X2.at_ 2 rfl
    have X2z := X2.lt
    go_wp2_with fail
    clear X0_0 X0_1 X0_2 X0_3 X0_4 X0z X1_0 X1_1 X1z X2_0 X2_1 X2_2 X2z
    replace X0 := X0.alloc (.cells #[.int .i64 (W : Int), .int .i64 (H : Int), .slice a2 (W * H) c2] 24)
    replace X1 := X1.alloc (.cells #[.int .i64 (W : Int), .int .i64 (H : Int), .slice a2 (W * H) c2] 24)
    replace S1 := S1.alloc (.cells #[.int .i64 (W : Int), .int .i64 (H : Int), .slice a2 (W * H) c2] 24)
    replace X2 := X2.alloc (.cells #[.int .i64 (W : Int), .int .i64 (H : Int), .slice a2 (W * H) c2] 24)
    replace S2 := S2.alloc (.cells #[.int .i64 (W : Int), .int .i64 (H : Int), .slice a2 (W * H) c2] 24)
    have X3 := Bx.new w3 #[.int .i64 (W : Int), .int .i64 (H : Int), .slice a2 (W * H) c2] 24
    replace hB := balloc hB (.cells #[.int .i64 (W : Int), .int .i64 (H : Int), .slice a2 (W * H) c2] 24)
    have X0_0 := X0.at_ 0 rfl
    have X0_1 := X0.at_ 1 rfl
    have X0_2 := X0.at_ 2 rfl
    have X0_3 := X0.at_ 3 rfl
    have X0_4 := X0.at_ 4 rfl
    have X0z := X0.lt
    have X1_0 := X1.at_ 0 rfl
    have X1_1 := X1.at_ 1 rfl
    have X1z := X1.lt
    have X2_0 := X2.at_ 0 rfl
    have X2_1 := X2.at_ 1 rfl
    have X2_2 := X2.at_ 2 rfl
    have X2z := X2.lt
    refine (ref2_Same _ _ _ _ _ _ _ _ _ _ hen S1 S2 (fun _ _ => rfl)).mono ?_
    rintro e w4 ⟨rfl, hb2⟩
    clear X0_0 X0_1 X0_2 X0_3 X0_4 X0z X1_0 X1_1 X1z X2_0 X2_1 X2_2 X2z
    replace X0 := X0.below hb2
    replace X1 := X1.below hb2
    replace S1 := S1.below hb2
    replace X2 := X2.below hb2
    replace S2 := S2.below hb2
    replace X3 := X3.below hb2
    replace hB := bvia hB hb2
    clear hb2
    have X0_0 := X0.at_ 0 rfl
    have X0_1 := X0.at_ 1 rfl
    have X0_2 := X0.at_ 2 rfl
    have X0_3 := X0.at_ 3 rfl
    have X0_4 := X0.at_ 4 rfl
    have X0z := X0.lt
    have X1_0 := X1.at_ 0 rfl
    have X1_1 := X1.at_ 1 rfl
    have X1z := X1.lt
    have X2_0 := X2.at_ 0 rfl
    have X2_1 := X2.at_ 1 rfl
    have X2_2 := X2.at_ 2 rfl
    have X2z := X2.lt
    go_wp2_with fail
    refine (hU _ (S.below hB) (SK.below hB) (SB.below hB) (SR.below hB)).mono ?_
    rintro e w5 ⟨a3, c3, rfl, S3, _, hb2⟩
    clear X0_0 X0_1 X0_2 X0_3 X0_4 X0z X1_0 X1_1 X1z X2_0 X2_1 X2_2 X2z
    replace X0 := X0.below hb2
    replace X1 := X1.below hb2
    replace S1 := S1.below hb2
    replace X2 := X2.below hb2
    replace S2 := S2.below hb2
    replace X3 := X3.below hb2
    replace hB := bvia hB hb2
    clear hb2
    have X0_0 := X0.at_ 0 rfl
    have X0_1 := X0.at_ 1 rfl
    have X0_2 := X0.at_ 2 rfl
    have X0_3 := X0.at_ 3 rfl
    have X0_4 := X0.at_ 4 rfl
    have X0z := X0.lt
    have X1_0 := X1.at_ 0 rfl
    have X1_1 := X1.at_ 1 rfl
    have X1z := X1.lt
    have X2_0 := X2.at_ 0 rfl
    have X2_1 := X2.at_ 1 rfl
    have X2_2 := X2.at_ 2 rfl
    have X2z := X2.lt
    have hw5 := X0.lt
    go_wp2_with fail
    clear X0_0 X0_1 X0_2 X0_3 X0_4 X0z X1_0 X1_1 X1z X2_0 X2_1 X2_2 X2z
    replace X0 := X0.alloc (.cells #[.int .i64 (W : Int), .int .i64 (H : Int), .slice a3 (W * H) c3] 24)
    replace X1 := X1.alloc (.cells #[.int .i64 (W : Int), .int .i64 (H : Int), .slice a3 (W * H) c3] 24)
    replace S1 := S1.alloc (.cells #[.int .i64 (W : Int), .int .i64 (H : Int), .slice a3 (W * H) c3] 24)
    replace X2 := X2.alloc (.cells #[.int .i64 (W : Int), .int .i64 (H : Int), .slice a3 (W * H) c3] 24)
    replace S2 := S2.alloc (.cells #[.int .i64 (W : Int), .int .i64 (H : Int), .slice a3 (W * H) c3] 24)
    replace X3 := X3.alloc (.cells #[.int .i64 (W : Int), .int .i64 (H : Int), .slice a3 (W * H) c3] 24)
    replace S3 := S3.alloc (.cells #[.int .i64 (W : Int), .int .i64 (H : Int), .slice a3 (W * H) c3] 24)
    have X4 := Bx.new w5 #[.int .i64 (W : Int), .int .i64 (H : Int), .slice a3 (W * H) c3] 24
    replace hB := balloc hB (.cells #[.int .i64 (W : Int), .int .i64 (H : Int), .slice a3 (W * H) c3] 24)
    have X0_0 := X0.at_ 0 rfl
    have X0_1 := X0.at_ 1 rfl
    have X0_2 := X0.at_ 2 rfl
    have X0_3 := X0.at_ 3 rfl
    have X0_4 := X0.at_ 4 rfl
    have X0z := X0.lt
    have X1_0 := X1.at_ 0 rfl
    have X1_1 := X1.at_ 1 rfl
    have X1z := X1.lt
    have X2_0 := X2.at_ 0 rfl
    have X2_1 := X2.at_ 1 rfl
    have X2_2 := X2.at_ 2 rfl
    have X2z := X2.lt
    have X4_0 := X4.at_ 0 rfl
    have X4_1 := X4.at_ 1 rfl
    have X4_2 := X4.at_ 2 rfl
    have X4z := X4.lt
    refine (hU9 _ (S.below hB) (SK.below hB) (SB.below hB) (SR.below hB)).mono ?_
    rintro e w6 ⟨a4, c4, rfl, S4, _, hb2⟩
    clear X0_0 X0_1 X0_2 X0_3 X0_4 X0z X1_0 X1_1 X1z X2_0 X2_1 X2_2 X2z X4_0 X4_1 X4_2 X4z
    replace X0 := X0.below hb2
    replace X1 := X1.below hb2
    replace S1 := S1.below hb2
    replace X2 := X2.below hb2
    replace S2 := S2.below hb2
    replace X3 := X3.below hb2
    replace S3 := S3.below hb2
    replace X4 := X4.below hb2
    replace hB := bvia hB hb2
    clear hb2
    have X0_0 := X0.at_ 0 rfl
    have X0_1 := X0.at_ 1 rfl
    have X0_2 := X0.at_ 2 rfl
    have X0_3 := X0.at_ 3 rfl
    have X0_4 := X0.at_ 4 rfl
    have X0z := X0.lt
    have X1_0 := X1.at_ 0 rfl
    have X1_1 := X1.at_ 1 rfl
    have X1z := X1.lt
    have X2_0 := X2.at_ 0 rfl
    have X2_1 := X2.at_ 1 rfl
    have X2_2 := X2.at_ 2 rfl
    have X2z := X2.lt
    have X4_0 := X4.at_ 0 rfl
    have X4_1 := X4.at_ 1 rfl
    have X4_2 := X4.at_ 2 rfl
    have X4z := X4.lt
    go_wp2_with fail
    clear X0_0 X0_1 X0_2 X0_3 X0_4 X0z X1_0 X1_1 X1z X2_0 X2_1 X2_2 X2z X4_0 X4_1 X4_2 X4z
    replace X0 := X0.alloc (.cells #[.int .i64 (W : Int), .int .i64 (H : Int), .slice a4 (W * H) c4] 24)
    replace X1 := X1.alloc (.cells #[.int .i64 (W : Int), .int .i64 (H : Int), .slice a4 (W * H) c4] 24)
    replace S1 := S1.alloc (.cells #[.int .i64 (W : Int), .int .i64 (H : Int), .slice a4 (W * H) c4] 24)
    replace X2 := X2.alloc (.cells #[.int .i64 (W : Int), .int .i64 (H : Int), .slice a4 (W * H) c4] 24)
    replace S2 := S2.alloc (.cells #[.int .i64 (W : Int), .int .i64 (H : Int), .slice a4 (W * H) c4] 24)
    replace X3 := X3.alloc (.cells #[.int .i64 (W : Int), .int .i64 (H : Int), .slice a4 (W * H) c4] 24)
    replace S3 := S3.alloc (.cells #[.int .i64 (W : Int), .int .i64 (H : Int), .slice a4 (W * H) c4] 24)
    replace X4 := X4.alloc (.cells #[.int .i64 (W : Int), .int .i64 (H : Int), .slice a4 (W * H) c4] 24)
    replace S4 := S4.alloc (.cells #[.int .i64 (W : Int), .int .i64 (H : Int), .slice a4 (W * H) c4] 24)
    have X5 := Bx.new w6 #[.int .i64 (W : Int), .int .i64 (H : Int), .slice a4 (W * H) c4] 24
    replace hB := balloc hB (.cells #[.int .i64 (W : Int), .int .i64 (H : Int), .slice a4 (W * H) c4] 24)
    have X0_0 := X0.at_ 0 rfl
    have X0_1 := X0.at_ 1 rfl
    have X0_2 := X0.at_ 2 rfl
    have X0_3 := X0.at_ 3 rfl
    have X0_4 := X0.at_ 4 rfl
    have X0z := X0.lt
    have X1_0 := X1.at_ 0 rfl
    have X1_1 := X1.at_ 1 rfl
    have X1z := X1.lt
    have X2_0 := X2.at_ 0 rfl
    have X2_1 := X2.at_ 1 rfl
    have X2_2 := X2.at_ 2 rfl
    have X2z := X2.lt
    have X4_0 := X4.at_ 0 rfl
    have X4_1 := X4.at_ 1 rfl
    have X4_2 := X4.at_ 2 rfl
    have X4z := X4.lt
    refine (ref2_Same _ _ _ _ _ _ _ _ _ _ hen S3 S4 (fun _ _ => rfl)).mono ?_
    rintro e w7 ⟨rfl, hb2⟩
    clear X0_0 X0_1 X0_2 X0_3 X0_4 X0z X1_0 X1_1 X1z X2_0 X2_1 X2_2 X2z X4_0 X4_1 X4_2 X4z
    replace X0 := X0.below hb2
    replace X1 := X1.below hb2
    replace S1 := S1.below hb2
    replace X2 := X2.below hb2
    replace S2 := S2.below hb2
    replace X3 := X3.below hb2
    replace S3 := S3.below hb2
    replace X4 := X4.below hb2
    replace S4 := S4.below hb2
    replace X5 := X5.below hb2
    replace hB := bvia hB hb2
    clear hb2
    have X0_0 := X0.at_ 0 rfl
    have X0_1 := X0.at_ 1 rfl
    have X0_2 := X0.at_ 2 rfl
    have X0_3 := X0.at_ 3 rfl
    have X0_4 := X0.at_ 4 rfl
    have X0z := X0.lt
    have X1_0 := X1.at_ 0 rfl
    have X1_1 := X1.at_ 1 rfl
    have X1z := X1.lt
    have X2_0 := X2.at_ 0 rfl
    have X2_1 := X2.at_ 1 rfl
    have X2_2 := X2.at_ 2 rfl
    have X2z := X2.lt
    have X4_0 := X4.at_ 0 rfl
    have X4_1 := X4.at_ 1 rfl
    have X4_2 := X4.at_ 2 rfl
    have X4z := X4.lt
    go_wp2_with fail
    refine (hU2 _ _ _ S1 (SK.below hB) (SB.below hB) (SR.below hB)).mono ?_
    rintro e w8 ⟨a5, c5, rfl, S5, hnew, hb2⟩
    have hz5 := X4.lt
    clear X0_0 X0_1 X0_2 X0_3 X0_4 X0z X1_0 X1_1 X1z X2_0 X2_1 X2_2 X2z X4_0 X4_1 X4_2 X4z
    replace X0 := X0.below hb2
    replace X1 := X1.below hb2
    replace S1 := S1.below hb2
    replace X2 := X2.below hb2
    replace S2 := S2.below hb2
    replace X3 := X3.below hb2
    replace S3 := S3.below hb2
    replace X4 := X4.below hb2
    replace S4 := S4.below hb2
    replace X5 := X5.below hb2
    replace hB := bvia hB hb2
    clear hb2
    have X0_0 := X0.at_ 0 rfl
    have X0_1 := X0.at_ 1 rfl
    have X0_2 := X0.at_ 2 rfl
    have X0_3 := X0.at_ 3 rfl
    have X0_4 := X0.at_ 4 rfl
    have X0z := X0.lt
    have X1_0 := X1.at_ 0 rfl
    have X1_1 := X1.at_ 1 rfl
    have X1z := X1.lt
    have X2_0 := X2.at_ 0 rfl
    have X2_1 := X2.at_ 1 rfl
    have X2_2 := X2.at_ 2 rfl
    have X2z := X2.lt
    have X4_0 := X4.at_ 0 rfl
    have X4_1 := X4.at_ 1 rfl
    have X4_2 := X4.at_ 2 rfl
    have X4z := X4.lt
    have X4f := X4.free
    have ne1 : ¬ w5.heap.size = w.heap.size := by omega
    have ne2 : ¬ w.heap.size = w5.heap.size := by omega
    go_wp2_with fail
    have hB' : Below w.heap.size w (((w8.setCell ⟨w5.heap.size, 0, none⟩ (.int .i64 (W : Int))).setCell ⟨w5.heap.size, 1, none⟩ (.int .i64 (H : Int))).setCell ⟨w5.heap.size, 2, none⟩ (.slice a5 (W * H) c5)) := bset (bset (bset hB (by dsimp only; omega) _) (by dsimp only; omega) _) (by dsimp only; omega) _
    have S5' : Sc (((w8.setCell ⟨w5.heap.size, 0, none⟩ (.int .i64 (W : Int))).setCell ⟨w5.heap.size, 1, none⟩ (.int .i64 (H : Int))).setCell ⟨w5.heap.size, 2, none⟩ (.slice a5 (W * H) c5)) a5 (W * H) U2 := ((S5.far (fun b off h => by have := hnew b off h; dsimp only; omega) _).far (fun b off h => by have := hnew b off h; dsimp only; omega) _).far (fun b off h => by have := hnew b off h; dsimp only; omega) _
    refine (ref2_Same _ _ _ _ _ _ _ _ _ _ hen S5' (S.below hB') HBK.out).mono ?_
    rintro e w9 ⟨rfl, hb9⟩
    replace hB := bvia hB' hb9
    go_wp2_with fail
    refine (awake_true _).mono ?_
    rintro e w10 ⟨rfl, hb10⟩
    go_wp2_with fail
    go_ret
    exact ⟨rfl, bvia hB hb10⟩
end Go.Proofs.Ytnnaegnkkpknpaa
