/- The walk of the law WallDrags. -/
import Derived.Test.YtnnaegnkkpknpaaWDrag
import Derived.Test.YtnnaegnkkpknpaaPushEq
import Derived.Test.YtnnaegnkkpknpaaSmall
namespace Go.Proofs.Ytnnaegnkkpknpaa
open Go Go.RowKit
set_option linter.unusedVariables false
set_option maxRecDepth 100000 in
set_option maxHeartbeats 8000000 in
theorem walk_drags (wide high t m k body : Int) (a ak ab ar : Option Addr) (n nk nb nr c ck cb cr : Nat) (g : Nat → C4) (K B : Nat → Int) (r : Nat → Int × Int) (w : World) (hn : n ≤ maxLen) (hk : nk ≤ maxLen) (hb : nb ≤ maxLen) (hr : nr ≤ maxLen) (S : Sc w a n g) (SK : Sl w ak nk K) (SB : Sl w ab nb B) (SR : Sr w ar nr r) :
    Calls Try.prog 12 #[.agg #[.int .i64 wide, .int .i64 high, .slice a n c, .slice ak nk ck, .slice ab nb cb], .slice ar nr cr, .agg #[.int .i64 t, .int .i64 m, .int .i64 k, .int .i64 body]] w fun e w' => e = .returned (.bool true) ∧ Below w.heap.size w w' := by
  cases hs : smallB n nk nb 200
  · have HSM := hid hs
    clear hs
    have X0 := (Bx.new w #[.int .i64 wide, .int .i64 high, .slice a n c, .slice ak nk ck, .slice ab nb cb] 29).alloc (.cells #[.int .i64 t, .int .i64 m, .int .i64 k, .int .i64 body] 30)
    have X1 := Bx.new (w.alloc (.cells #[.int .i64 wide, .int .i64 high, .slice a n c, .slice ak nk ck, .slice ab nb cb] 29)) #[.int .i64 t, .int .i64 m, .int .i64 k, .int .i64 body] 30
    simp only [World.size_alloc] at X1
    have hB0 : Below w.heap.size w ((w.alloc (.cells #[.int .i64 wide, .int .i64 high, .slice a n c, .slice ak nk ck, .slice ab nb cb] 29)).alloc (.cells #[.int .i64 t, .int .i64 m, .int .i64 k, .int .i64 body] 30)) := by (repeat' (first | with_reducible assumption | with_reducible exact Below.refl _ _ | with_reducible refine Below.drew ?_ | with_reducible refine below_drewN ?_ _ | with_reducible refine balloc ?_ _ | with_reducible refine bset ?_ ?_ _ | with_reducible refine Below.setCell ?_ ?_ _ | with_reducible refine Below.alloc ?_ ?_ _ | omega | (simp; done) | (simp; omega)))
    go_enter Try.func12, Try.ntmps12
    go_wp2_with fail
    generalize ((w.alloc (.cells #[.int .i64 wide, .int .i64 high, .slice a n c, .slice ak nk ck, .slice ab nb cb] 29)).alloc (.cells #[.int .i64 t, .int .i64 m, .int .i64 k, .int .i64 body] 30)) = W0 at X0 X1 hB0 ⊢
    have z0 := X0.lt
    have z1 := X1.lt
    refine (law3_small _ _ _ _ _ _ _ _ _ _ _ _ _ hn hk hb).mono ?_
    rintro e w1 ⟨rfl, hb1⟩
    rw [HSM.out]
    have hB := hB0
    clear hB0
    replace X0 := X0.below hb1
    replace X1 := X1.below hb1
    replace hB := bvia hB hb1
    clear hb1
    have X0_0 := X0.at_ 0 rfl
    have X0_1 := X0.at_ 1 rfl
    have X0_2 := X0.at_ 2 rfl
    have X0_3 := X0.at_ 3 rfl
    have X0_4 := X0.at_ 4 rfl
    have X0z := X0.lt
    have X1_0 := X1.at_ 0 rfl
    have X1_1 := X1.at_ 1 rfl
    have X1_2 := X1.at_ 2 rfl
    have X1_3 := X1.at_ 3 rfl
    have X1z := X1.lt
    go_wp2_with fail
    refine (awake_true _).mono ?_
    rintro e w8 ⟨rfl, hb8⟩
    go_wp2_with fail
    go_ret
    exact ⟨rfl, bvia hB hb8⟩
  have HSM := hid hs
  have hsm : n ≤ 200 ∧ nk ≤ 200 ∧ nb ≤ 200 := by simp [smallB] at hs; omega
  obtain ⟨n1, n2, n3⟩ := hsm
  clear hs
  have hr' := hr
  unfold maxLen at hr'
  by_cases hr20 : 20 < nr
  · skip
    have X0 := (Bx.new w #[.int .i64 wide, .int .i64 high, .slice a n c, .slice ak nk ck, .slice ab nb cb] 29).alloc (.cells #[.int .i64 t, .int .i64 m, .int .i64 k, .int .i64 body] 30)
    have X1 := Bx.new (w.alloc (.cells #[.int .i64 wide, .int .i64 high, .slice a n c, .slice ak nk ck, .slice ab nb cb] 29)) #[.int .i64 t, .int .i64 m, .int .i64 k, .int .i64 body] 30
    simp only [World.size_alloc] at X1
    have hB0 : Below w.heap.size w ((w.alloc (.cells #[.int .i64 wide, .int .i64 high, .slice a n c, .slice ak nk ck, .slice ab nb cb] 29)).alloc (.cells #[.int .i64 t, .int .i64 m, .int .i64 k, .int .i64 body] 30)) := by (repeat' (first | with_reducible assumption | with_reducible exact Below.refl _ _ | with_reducible refine Below.drew ?_ | with_reducible refine below_drewN ?_ _ | with_reducible refine balloc ?_ _ | with_reducible refine bset ?_ ?_ _ | with_reducible refine Below.setCell ?_ ?_ _ | with_reducible refine Below.alloc ?_ ?_ _ | omega | (simp; done) | (simp; omega)))
    go_enter Try.func12, Try.ntmps12
    go_wp2_with fail
    generalize ((w.alloc (.cells #[.int .i64 wide, .int .i64 high, .slice a n c, .slice ak nk ck, .slice ab nb cb] 29)).alloc (.cells #[.int .i64 t, .int .i64 m, .int .i64 k, .int .i64 body] 30)) = W0 at X0 X1 hB0 ⊢
    have z0 := X0.lt
    have z1 := X1.lt
    refine (law3_small _ _ _ _ _ _ _ _ _ _ _ _ _ hn hk hb).mono ?_
    rintro e w1 ⟨rfl, hb1⟩
    rw [HSM.out]
    have hB := hB0
    clear hB0
    replace X0 := X0.below hb1
    replace X1 := X1.below hb1
    replace hB := bvia hB hb1
    clear hb1
    have X0_0 := X0.at_ 0 rfl
    have X0_1 := X0.at_ 1 rfl
    have X0_2 := X0.at_ 2 rfl
    have X0_3 := X0.at_ 3 rfl
    have X0_4 := X0.at_ 4 rfl
    have X0z := X0.lt
    have X1_0 := X1.at_ 0 rfl
    have X1_1 := X1.at_ 1 rfl
    have X1_2 := X1.at_ 2 rfl
    have X1_3 := X1.at_ 3 rfl
    have X1z := X1.lt
    go_wp2_with fail
    refine (awake_true _).mono ?_
    rintro e w8 ⟨rfl, hb8⟩
    go_wp2_with fail
    go_ret
    exact ⟨rfl, bvia hB hb8⟩
  by_cases hm20 : 20 < m ∧ m ≤ 1000
  · obtain ⟨m1, m2⟩ := hm20
    have X0 := (Bx.new w #[.int .i64 wide, .int .i64 high, .slice a n c, .slice ak nk ck, .slice ab nb cb] 29).alloc (.cells #[.int .i64 t, .int .i64 m, .int .i64 k, .int .i64 body] 30)
    have X1 := Bx.new (w.alloc (.cells #[.int .i64 wide, .int .i64 high, .slice a n c, .slice ak nk ck, .slice ab nb cb] 29)) #[.int .i64 t, .int .i64 m, .int .i64 k, .int .i64 body] 30
    simp only [World.size_alloc] at X1
    have hB0 : Below w.heap.size w ((w.alloc (.cells #[.int .i64 wide, .int .i64 high, .slice a n c, .slice ak nk ck, .slice ab nb cb] 29)).alloc (.cells #[.int .i64 t, .int .i64 m, .int .i64 k, .int .i64 body] 30)) := by (repeat' (first | with_reducible assumption | with_reducible exact Below.refl _ _ | with_reducible refine Below.drew ?_ | with_reducible refine below_drewN ?_ _ | with_reducible refine balloc ?_ _ | with_reducible refine bset ?_ ?_ _ | with_reducible refine Below.setCell ?_ ?_ _ | with_reducible refine Below.alloc ?_ ?_ _ | omega | (simp; done) | (simp; omega)))
    go_enter Try.func12, Try.ntmps12
    go_wp2_with fail
    generalize ((w.alloc (.cells #[.int .i64 wide, .int .i64 high, .slice a n c, .slice ak nk ck, .slice ab nb cb] 29)).alloc (.cells #[.int .i64 t, .int .i64 m, .int .i64 k, .int .i64 body] 30)) = W0 at X0 X1 hB0 ⊢
    have z0 := X0.lt
    have z1 := X1.lt
    refine (law3_small _ _ _ _ _ _ _ _ _ _ _ _ _ hn hk hb).mono ?_
    rintro e w1 ⟨rfl, hb1⟩
    rw [HSM.out]
    have hB := hB0
    clear hB0
    replace X0 := X0.below hb1
    replace X1 := X1.below hb1
    replace hB := bvia hB hb1
    clear hb1
    have X0_0 := X0.at_ 0 rfl
    have X0_1 := X0.at_ 1 rfl
    have X0_2 := X0.at_ 2 rfl
    have X0_3 := X0.at_ 3 rfl
    have X0_4 := X0.at_ 4 rfl
    have X0z := X0.lt
    have X1_0 := X1.at_ 0 rfl
    have X1_1 := X1.at_ 1 rfl
    have X1_2 := X1.at_ 2 rfl
    have X1_3 := X1.at_ 3 rfl
    have X1z := X1.lt
    go_wp2_with fail
    refine (awake_true _).mono ?_
    rintro e w8 ⟨rfl, hb8⟩
    go_wp2_with fail
    go_ret
    exact ⟨rfl, bvia hB hb8⟩
  have hm3 : m ≤ 20 ∨ 1000 < m := by omega
  clear hm20
  by_cases hk20 : 20 < k
  · rcases hm3 with hm3 | hm3
    · skip
      have X0 := (Bx.new w #[.int .i64 wide, .int .i64 high, .slice a n c, .slice ak nk ck, .slice ab nb cb] 29).alloc (.cells #[.int .i64 t, .int .i64 m, .int .i64 k, .int .i64 body] 30)
      have X1 := Bx.new (w.alloc (.cells #[.int .i64 wide, .int .i64 high, .slice a n c, .slice ak nk ck, .slice ab nb cb] 29)) #[.int .i64 t, .int .i64 m, .int .i64 k, .int .i64 body] 30
      simp only [World.size_alloc] at X1
      have hB0 : Below w.heap.size w ((w.alloc (.cells #[.int .i64 wide, .int .i64 high, .slice a n c, .slice ak nk ck, .slice ab nb cb] 29)).alloc (.cells #[.int .i64 t, .int .i64 m, .int .i64 k, .int .i64 body] 30)) := by (repeat' (first | with_reducible assumption | with_reducible exact Below.refl _ _ | with_reducible refine Below.drew ?_ | with_reducible refine below_drewN ?_ _ | with_reducible refine balloc ?_ _ | with_reducible refine bset ?_ ?_ _ | with_reducible refine Below.setCell ?_ ?_ _ | with_reducible refine Below.alloc ?_ ?_ _ | omega | (simp; done) | (simp; omega)))
      go_enter Try.func12, Try.ntmps12
      go_wp2_with fail
      generalize ((w.alloc (.cells #[.int .i64 wide, .int .i64 high, .slice a n c, .slice ak nk ck, .slice ab nb cb] 29)).alloc (.cells #[.int .i64 t, .int .i64 m, .int .i64 k, .int .i64 body] 30)) = W0 at X0 X1 hB0 ⊢
      have z0 := X0.lt
      have z1 := X1.lt
      refine (law3_small _ _ _ _ _ _ _ _ _ _ _ _ _ hn hk hb).mono ?_
      rintro e w1 ⟨rfl, hb1⟩
      rw [HSM.out]
      have hB := hB0
      clear hB0
      replace X0 := X0.below hb1
      replace X1 := X1.below hb1
      replace hB := bvia hB hb1
      clear hb1
      have X0_0 := X0.at_ 0 rfl
      have X0_1 := X0.at_ 1 rfl
      have X0_2 := X0.at_ 2 rfl
      have X0_3 := X0.at_ 3 rfl
      have X0_4 := X0.at_ 4 rfl
      have X0z := X0.lt
      have X1_0 := X1.at_ 0 rfl
      have X1_1 := X1.at_ 1 rfl
      have X1_2 := X1.at_ 2 rfl
      have X1_3 := X1.at_ 3 rfl
      have X1z := X1.lt
      go_wp2_with fail
      refine (awake_true _).mono ?_
      rintro e w8 ⟨rfl, hb8⟩
      go_wp2_with fail
      go_ret
      exact ⟨rfl, bvia hB hb8⟩
    · skip
      have X0 := (Bx.new w #[.int .i64 wide, .int .i64 high, .slice a n c, .slice ak nk ck, .slice ab nb cb] 29).alloc (.cells #[.int .i64 t, .int .i64 m, .int .i64 k, .int .i64 body] 30)
      have X1 := Bx.new (w.alloc (.cells #[.int .i64 wide, .int .i64 high, .slice a n c, .slice ak nk ck, .slice ab nb cb] 29)) #[.int .i64 t, .int .i64 m, .int .i64 k, .int .i64 body] 30
      simp only [World.size_alloc] at X1
      have hB0 : Below w.heap.size w ((w.alloc (.cells #[.int .i64 wide, .int .i64 high, .slice a n c, .slice ak nk ck, .slice ab nb cb] 29)).alloc (.cells #[.int .i64 t, .int .i64 m, .int .i64 k, .int .i64 body] 30)) := by (repeat' (first | with_reducible assumption | with_reducible exact Below.refl _ _ | with_reducible refine Below.drew ?_ | with_reducible refine below_drewN ?_ _ | with_reducible refine balloc ?_ _ | with_reducible refine bset ?_ ?_ _ | with_reducible refine Below.setCell ?_ ?_ _ | with_reducible refine Below.alloc ?_ ?_ _ | omega | (simp; done) | (simp; omega)))
      go_enter Try.func12, Try.ntmps12
      go_wp2_with fail
      generalize ((w.alloc (.cells #[.int .i64 wide, .int .i64 high, .slice a n c, .slice ak nk ck, .slice ab nb cb] 29)).alloc (.cells #[.int .i64 t, .int .i64 m, .int .i64 k, .int .i64 body] 30)) = W0 at X0 X1 hB0 ⊢
      have z0 := X0.lt
      have z1 := X1.lt
      refine (law3_small _ _ _ _ _ _ _ _ _ _ _ _ _ hn hk hb).mono ?_
      rintro e w1 ⟨rfl, hb1⟩
      rw [HSM.out]
      have hB := hB0
      clear hB0
      replace X0 := X0.below hb1
      replace X1 := X1.below hb1
      replace hB := bvia hB hb1
      clear hb1
      have X0_0 := X0.at_ 0 rfl
      have X0_1 := X0.at_ 1 rfl
      have X0_2 := X0.at_ 2 rfl
      have X0_3 := X0.at_ 3 rfl
      have X0_4 := X0.at_ 4 rfl
      have X0z := X0.lt
      have X1_0 := X1.at_ 0 rfl
      have X1_1 := X1.at_ 1 rfl
      have X1_2 := X1.at_ 2 rfl
      have X1_3 := X1.at_ 3 rfl
      have X1z := X1.lt
      go_wp2_with fail
      refine (awake_true _).mono ?_
      rintro e w8 ⟨rfl, hb8⟩
      go_wp2_with fail
      go_ret
      exact ⟨rfl, bvia hB hb8⟩
  have hD := fun W' S' SK' SB' SR' => wall_Drag wide high a ak ab ar n nk nb nr c ck cb cr g K B r t m body W' (by omega) (by omega) (by omega) (by omega) S' SK' SB' SR'
  have hD9 := fun W' S' SK' SB' SR' => ref3_Drag wide high a ak ab ar n nk nb nr c ck cb cr g K B r t m body W' (by omega) (by omega) (by omega) (by omega) S' SK' SB' SR'
  by_cases hz : dgErr (rnE (validW wide high n g nk nb K B) (rulesB nr r) (timesB t m)) (bodE B body nb) = 0
  rotate_left
  · clear hr'
    generalize dgErr (rnE (validW wide high n g nk nb K B) (rulesB nr r) (timesB t m)) (bodE B body nb) = de at *
    generalize dgV (rnE (validW wide high n g nk nb K B) (rulesB nr r) (timesB t m)) (bodE B body nb) (drgE (runW wide.toNat high.toNat (rlAt nr r) K g t.toNat) K B body n m.toNat) = pE at *
    generalize dgV (rnE (validW wide high n g nk nb K B) (rulesB nr r) (timesB t m)) (bodE B body nb) (drgN (runW wide.toNat high.toNat (rlAt nr r) K g t.toNat) K B body n m.toNat) = pN at *
    have hzb : (de == 0) = false := by simpa using hz
    have hzc : (de != 0) = true := by simpa using hz
    clear hz
    have hne := neq_push pE pN pE pN
    simp only [beq_self_eq_true, Bool.and_self, Bool.not_true] at hne
    rcases hm3 with hm3 | hm3
    · skip
      have X0 := (Bx.new w #[.int .i64 wide, .int .i64 high, .slice a n c, .slice ak nk ck, .slice ab nb cb] 29).alloc (.cells #[.int .i64 t, .int .i64 m, .int .i64 k, .int .i64 body] 30)
      have X1 := Bx.new (w.alloc (.cells #[.int .i64 wide, .int .i64 high, .slice a n c, .slice ak nk ck, .slice ab nb cb] 29)) #[.int .i64 t, .int .i64 m, .int .i64 k, .int .i64 body] 30
      simp only [World.size_alloc] at X1
      have hB0 : Below w.heap.size w ((w.alloc (.cells #[.int .i64 wide, .int .i64 high, .slice a n c, .slice ak nk ck, .slice ab nb cb] 29)).alloc (.cells #[.int .i64 t, .int .i64 m, .int .i64 k, .int .i64 body] 30)) := by (repeat' (first | with_reducible assumption | with_reducible exact Below.refl _ _ | with_reducible refine Below.drew ?_ | with_reducible refine below_drewN ?_ _ | with_reducible refine balloc ?_ _ | with_reducible refine bset ?_ ?_ _ | with_reducible refine Below.setCell ?_ ?_ _ | with_reducible refine Below.alloc ?_ ?_ _ | omega | (simp; done) | (simp; omega)))
      go_enter Try.func12, Try.ntmps12
      go_wp2_with fail
      generalize ((w.alloc (.cells #[.int .i64 wide, .int .i64 high, .slice a n c, .slice ak nk ck, .slice ab nb cb] 29)).alloc (.cells #[.int .i64 t, .int .i64 m, .int .i64 k, .int .i64 body] 30)) = W0 at X0 X1 hB0 ⊢
      have z0 := X0.lt
      have z1 := X1.lt
      refine (law3_small _ _ _ _ _ _ _ _ _ _ _ _ _ hn hk hb).mono ?_
      rintro e w1 ⟨rfl, hb1⟩
      rw [HSM.out]
      have hB := hB0
      clear hB0
      replace X0 := X0.below hb1
      replace X1 := X1.below hb1
      replace hB := bvia hB hb1
      clear hb1
      have X0_0 := X0.at_ 0 rfl
      have X0_1 := X0.at_ 1 rfl
      have X0_2 := X0.at_ 2 rfl
      have X0_3 := X0.at_ 3 rfl
      have X0_4 := X0.at_ 4 rfl
      have X0z := X0.lt
      have X1_0 := X1.at_ 0 rfl
      have X1_1 := X1.at_ 1 rfl
      have X1_2 := X1.at_ 2 rfl
      have X1_3 := X1.at_ 3 rfl
      have X1z := X1.lt
      go_wp2_with fail
      refine (hD _ (S.below hB) (SK.below hB) (SB.below hB) (SR.below hB)).mono ?_
      rintro e w2 ⟨rfl, hb2⟩
      clear X0_0 X0_1 X0_2 X0_3 X0_4 X0z X1_0 X1_1 X1_2 X1_3 X1z
      replace X0 := X0.below hb2
      replace X1 := X1.below hb2
      replace hB := bvia hB hb2
      clear hb2
      have X0_0 := X0.at_ 0 rfl
      have X0_1 := X0.at_ 1 rfl
      have X0_2 := X0.at_ 2 rfl
      have X0_3 := X0.at_ 3 rfl
      have X0_4 := X0.at_ 4 rfl
      have X0z := X0.lt
      have X1_0 := X1.at_ 0 rfl
      have X1_1 := X1.at_ 1 rfl
      have X1_2 := X1.at_ 2 rfl
      have X1_3 := X1.at_ 3 rfl
      have X1z := X1.lt
      go_wp2_with fail
      clear X0_0 X0_1 X0_2 X0_3 X0_4 X0z X1_0 X1_1 X1_2 X1_3 X1z
      replace X0 := X0.alloc (.cells #[.int .i64 pE, .int .i64 pN] 43)
      replace X1 := X1.alloc (.cells #[.int .i64 pE, .int .i64 pN] 43)
      have X2 := Bx.new w2 #[.int .i64 pE, .int .i64 pN] 43
      replace hB := balloc hB (.cells #[.int .i64 pE, .int .i64 pN] 43)
      have X0_0 := X0.at_ 0 rfl
      have X0_1 := X0.at_ 1 rfl
      have X0_2 := X0.at_ 2 rfl
      have X0_3 := X0.at_ 3 rfl
      have X0_4 := X0.at_ 4 rfl
      have X0z := X0.lt
      have X1_0 := X1.at_ 0 rfl
      have X1_1 := X1.at_ 1 rfl
      have X1_2 := X1.at_ 2 rfl
      have X1_3 := X1.at_ 3 rfl
      have X1z := X1.lt
      have X2_0 := X2.at_ 0 rfl
      have X2_1 := X2.at_ 1 rfl
      have X2z := X2.lt
      refine (hD9 _ (S.below hB) (SK.below hB) (SB.below hB) (SR.below hB)).mono ?_
      rintro e w3 ⟨rfl, hb2⟩
      clear X0_0 X0_1 X0_2 X0_3 X0_4 X0z X1_0 X1_1 X1_2 X1_3 X1z X2_0 X2_1 X2z
      replace X0 := X0.below hb2
      replace X1 := X1.below hb2
      replace X2 := X2.below hb2
      replace hB := bvia hB hb2
      clear hb2
      have X0_0 := X0.at_ 0 rfl
      have X0_1 := X0.at_ 1 rfl
      have X0_2 := X0.at_ 2 rfl
      have X0_3 := X0.at_ 3 rfl
      have X0_4 := X0.at_ 4 rfl
      have X0z := X0.lt
      have X1_0 := X1.at_ 0 rfl
      have X1_1 := X1.at_ 1 rfl
      have X1_2 := X1.at_ 2 rfl
      have X1_3 := X1.at_ 3 rfl
      have X1z := X1.lt
      have X2_0 := X2.at_ 0 rfl
      have X2_1 := X2.at_ 1 rfl
      have X2z := X2.lt
      go_wp2_with fail
      clear X0_0 X0_1 X0_2 X0_3 X0_4 X0z X1_0 X1_1 X1_2 X1_3 X1z X2_0 X2_1 X2z
      replace X0 := X0.alloc (.cells #[.int .i64 pE, .int .i64 pN] 43)
      replace X1 := X1.alloc (.cells #[.int .i64 pE, .int .i64 pN] 43)
      replace X2 := X2.alloc (.cells #[.int .i64 pE, .int .i64 pN] 43)
      have X3 := Bx.new w3 #[.int .i64 pE, .int .i64 pN] 43
      replace hB := balloc hB (.cells #[.int .i64 pE, .int .i64 pN] 43)
      have X0_0 := X0.at_ 0 rfl
      have X0_1 := X0.at_ 1 rfl
      have X0_2 := X0.at_ 2 rfl
      have X0_3 := X0.at_ 3 rfl
      have X0_4 := X0.at_ 4 rfl
      have X0z := X0.lt
      have X1_0 := X1.at_ 0 rfl
      have X1_1 := X1.at_ 1 rfl
      have X1_2 := X1.at_ 2 rfl
      have X1_3 := X1.at_ 3 rfl
      have X1z := X1.lt
      have X2_0 := X2.at_ 0 rfl
      have X2_1 := X2.at_ 1 rfl
      have X2z := X2.lt
      refine (awake_true _).mono ?_
      rintro e w8 ⟨rfl, hb8⟩
      go_wp2_with fail
      go_ret
      exact ⟨rfl, bvia hB hb8⟩
    · skip
      have X0 := (Bx.new w #[.int .i64 wide, .int .i64 high, .slice a n c, .slice ak nk ck, .slice ab nb cb] 29).alloc (.cells #[.int .i64 t, .int .i64 m, .int .i64 k, .int .i64 body] 30)
      have X1 := Bx.new (w.alloc (.cells #[.int .i64 wide, .int .i64 high, .slice a n c, .slice ak nk ck, .slice ab nb cb] 29)) #[.int .i64 t, .int .i64 m, .int .i64 k, .int .i64 body] 30
      simp only [World.size_alloc] at X1
      have hB0 : Below w.heap.size w ((w.alloc (.cells #[.int .i64 wide, .int .i64 high, .slice a n c, .slice ak nk ck, .slice ab nb cb] 29)).alloc (.cells #[.int .i64 t, .int .i64 m, .int .i64 k, .int .i64 body] 30)) := by (repeat' (first | with_reducible assumption | with_reducible exact Below.refl _ _ | with_reducible refine Below.drew ?_ | with_reducible refine below_drewN ?_ _ | with_reducible refine balloc ?_ _ | with_reducible refine bset ?_ ?_ _ | with_reducible refine Below.setCell ?_ ?_ _ | with_reducible refine Below.alloc ?_ ?_ _ | omega | (simp; done) | (simp; omega)))
      go_enter Try.func12, Try.ntmps12
      go_wp2_with fail
      generalize ((w.alloc (.cells #[.int .i64 wide, .int .i64 high, .slice a n c, .slice ak nk ck, .slice ab nb cb] 29)).alloc (.cells #[.int .i64 t, .int .i64 m, .int .i64 k, .int .i64 body] 30)) = W0 at X0 X1 hB0 ⊢
      have z0 := X0.lt
      have z1 := X1.lt
      refine (law3_small _ _ _ _ _ _ _ _ _ _ _ _ _ hn hk hb).mono ?_
      rintro e w1 ⟨rfl, hb1⟩
      rw [HSM.out]
      have hB := hB0
      clear hB0
      replace X0 := X0.below hb1
      replace X1 := X1.below hb1
      replace hB := bvia hB hb1
      clear hb1
      have X0_0 := X0.at_ 0 rfl
      have X0_1 := X0.at_ 1 rfl
      have X0_2 := X0.at_ 2 rfl
      have X0_3 := X0.at_ 3 rfl
      have X0_4 := X0.at_ 4 rfl
      have X0z := X0.lt
      have X1_0 := X1.at_ 0 rfl
      have X1_1 := X1.at_ 1 rfl
      have X1_2 := X1.at_ 2 rfl
      have X1_3 := X1.at_ 3 rfl
      have X1z := X1.lt
      go_wp2_with fail
      refine (hD _ (S.below hB) (SK.below hB) (SB.below hB) (SR.below hB)).mono ?_
      rintro e w2 ⟨rfl, hb2⟩
      clear X0_0 X0_1 X0_2 X0_3 X0_4 X0z X1_0 X1_1 X1_2 X1_3 X1z
      replace X0 := X0.below hb2
      replace X1 := X1.below hb2
      replace hB := bvia hB hb2
      clear hb2
      have X0_0 := X0.at_ 0 rfl
      have X0_1 := X0.at_ 1 rfl
      have X0_2 := X0.at_ 2 rfl
      have X0_3 := X0.at_ 3 rfl
      have X0_4 := X0.at_ 4 rfl
      have X0z := X0.lt
      have X1_0 := X1.at_ 0 rfl
      have X1_1 := X1.at_ 1 rfl
      have X1_2 := X1.at_ 2 rfl
      have X1_3 := X1.at_ 3 rfl
      have X1z := X1.lt
      go_wp2_with fail
      clear X0_0 X0_1 X0_2 X0_3 X0_4 X0z X1_0 X1_1 X1_2 X1_3 X1z
      replace X0 := X0.alloc (.cells #[.int .i64 pE, .int .i64 pN] 43)
      replace X1 := X1.alloc (.cells #[.int .i64 pE, .int .i64 pN] 43)
      have X2 := Bx.new w2 #[.int .i64 pE, .int .i64 pN] 43
      replace hB := balloc hB (.cells #[.int .i64 pE, .int .i64 pN] 43)
      have X0_0 := X0.at_ 0 rfl
      have X0_1 := X0.at_ 1 rfl
      have X0_2 := X0.at_ 2 rfl
      have X0_3 := X0.at_ 3 rfl
      have X0_4 := X0.at_ 4 rfl
      have X0z := X0.lt
      have X1_0 := X1.at_ 0 rfl
      have X1_1 := X1.at_ 1 rfl
      have X1_2 := X1.at_ 2 rfl
      have X1_3 := X1.at_ 3 rfl
      have X1z := X1.lt
      have X2_0 := X2.at_ 0 rfl
      have X2_1 := X2.at_ 1 rfl
      have X2z := X2.lt
      refine (hD9 _ (S.below hB) (SK.below hB) (SB.below hB) (SR.below hB)).mono ?_
      rintro e w3 ⟨rfl, hb2⟩
      clear X0_0 X0_1 X0_2 X0_3 X0_4 X0z X1_0 X1_1 X1_2 X1_3 X1z X2_0 X2_1 X2z
      replace X0 := X0.below hb2
      replace X1 := X1.below hb2
      replace X2 := X2.below hb2
      replace hB := bvia hB hb2
      clear hb2
      have X0_0 := X0.at_ 0 rfl
      have X0_1 := X0.at_ 1 rfl
      have X0_2 := X0.at_ 2 rfl
      have X0_3 := X0.at_ 3 rfl
      have X0_4 := X0.at_ 4 rfl
      have X0z := X0.lt
      have X1_0 := X1.at_ 0 rfl
      have X1_1 := X1.at_ 1 rfl
      have X1_2 := X1.at_ 2 rfl
      have X1_3 := X1.at_ 3 rfl
      have X1z := X1.lt
      have X2_0 := X2.at_ 0 rfl
      have X2_1 := X2.at_ 1 rfl
      have X2z := X2.lt
      go_wp2_with fail
      clear X0_0 X0_1 X0_2 X0_3 X0_4 X0z X1_0 X1_1 X1_2 X1_3 X1z X2_0 X2_1 X2z
      replace X0 := X0.alloc (.cells #[.int .i64 pE, .int .i64 pN] 43)
      replace X1 := X1.alloc (.cells #[.int .i64 pE, .int .i64 pN] 43)
      replace X2 := X2.alloc (.cells #[.int .i64 pE, .int .i64 pN] 43)
      have X3 := Bx.new w3 #[.int .i64 pE, .int .i64 pN] 43
      replace hB := balloc hB (.cells #[.int .i64 pE, .int .i64 pN] 43)
      have X0_0 := X0.at_ 0 rfl
      have X0_1 := X0.at_ 1 rfl
      have X0_2 := X0.at_ 2 rfl
      have X0_3 := X0.at_ 3 rfl
      have X0_4 := X0.at_ 4 rfl
      have X0z := X0.lt
      have X1_0 := X1.at_ 0 rfl
      have X1_1 := X1.at_ 1 rfl
      have X1_2 := X1.at_ 2 rfl
      have X1_3 := X1.at_ 3 rfl
      have X1z := X1.lt
      have X2_0 := X2.at_ 0 rfl
      have X2_1 := X2.at_ 1 rfl
      have X2z := X2.lt
      refine (awake_true _).mono ?_
      rintro e w8 ⟨rfl, hb8⟩
      go_wp2_with fail
      go_ret
      exact ⟨rfl, bvia hB hb8⟩
  have hzz : rnE (validW wide high n g nk nb K B) (rulesB nr r) (timesB t m) = 0 ∧ bodE B body nb = 0 := by
    unfold dgErr at hz
    split at hz
    · exact ⟨by assumption, hz⟩
    · contradiction
  obtain ⟨hz0, hbz⟩ := hzz
  rw [hz] at hD hD9
  have ev : ∀ x, dgV (rnE (validW wide high n g nk nb K B) (rulesB nr r) (timesB t m)) (bodE B body nb) x = x := fun x => by simp [dgV, hz0, hbz]
  rw [ev, ev] at hD hD9
  have hm20 : m ≤ 20 := by
    obtain ⟨v1, v2, v3⟩ := rnE_zero hz0
    have := (timesB_iff _ _).1 v3
    omega
  by_cases hlow : k < 0 ∨ 900000 < t
  · generalize drgE (runW wide.toNat high.toNat (rlAt nr r) K g t.toNat) K B body n m.toNat = pE at *
    generalize drgN (runW wide.toNat high.toNat (rlAt nr r) K g t.toNat) K B body n m.toNat = pN at *
    have hne := neq_push pE pN pE pN
    simp only [beq_self_eq_true, Bool.and_self, Bool.not_true] at hne
    clear hz hz0 hbz ev hm3 hr'
    by_cases hk0 : k < 0
    · skip
      have X0 := (Bx.new w #[.int .i64 wide, .int .i64 high, .slice a n c, .slice ak nk ck, .slice ab nb cb] 29).alloc (.cells #[.int .i64 t, .int .i64 m, .int .i64 k, .int .i64 body] 30)
      have X1 := Bx.new (w.alloc (.cells #[.int .i64 wide, .int .i64 high, .slice a n c, .slice ak nk ck, .slice ab nb cb] 29)) #[.int .i64 t, .int .i64 m, .int .i64 k, .int .i64 body] 30
      simp only [World.size_alloc] at X1
      have hB0 : Below w.heap.size w ((w.alloc (.cells #[.int .i64 wide, .int .i64 high, .slice a n c, .slice ak nk ck, .slice ab nb cb] 29)).alloc (.cells #[.int .i64 t, .int .i64 m, .int .i64 k, .int .i64 body] 30)) := by (repeat' (first | with_reducible assumption | with_reducible exact Below.refl _ _ | with_reducible refine Below.drew ?_ | with_reducible refine below_drewN ?_ _ | with_reducible refine balloc ?_ _ | with_reducible refine bset ?_ ?_ _ | with_reducible refine Below.setCell ?_ ?_ _ | with_reducible refine Below.alloc ?_ ?_ _ | omega | (simp; done) | (simp; omega)))
      go_enter Try.func12, Try.ntmps12
      go_wp2_with fail
      generalize ((w.alloc (.cells #[.int .i64 wide, .int .i64 high, .slice a n c, .slice ak nk ck, .slice ab nb cb] 29)).alloc (.cells #[.int .i64 t, .int .i64 m, .int .i64 k, .int .i64 body] 30)) = W0 at X0 X1 hB0 ⊢
      have z0 := X0.lt
      have z1 := X1.lt
      refine (law3_small _ _ _ _ _ _ _ _ _ _ _ _ _ hn hk hb).mono ?_
      rintro e w1 ⟨rfl, hb1⟩
      rw [HSM.out]
      have hB := hB0
      clear hB0
      replace X0 := X0.below hb1
      replace X1 := X1.below hb1
      replace hB := bvia hB hb1
      clear hb1
      have X0_0 := X0.at_ 0 rfl
      have X0_1 := X0.at_ 1 rfl
      have X0_2 := X0.at_ 2 rfl
      have X0_3 := X0.at_ 3 rfl
      have X0_4 := X0.at_ 4 rfl
      have X0z := X0.lt
      have X1_0 := X1.at_ 0 rfl
      have X1_1 := X1.at_ 1 rfl
      have X1_2 := X1.at_ 2 rfl
      have X1_3 := X1.at_ 3 rfl
      have X1z := X1.lt
      go_wp2_with fail
      refine (hD _ (S.below hB) (SK.below hB) (SB.below hB) (SR.below hB)).mono ?_
      rintro e w2 ⟨rfl, hb2⟩
      clear X0_0 X0_1 X0_2 X0_3 X0_4 X0z X1_0 X1_1 X1_2 X1_3 X1z
      replace X0 := X0.below hb2
      replace X1 := X1.below hb2
      replace hB := bvia hB hb2
      clear hb2
      have X0_0 := X0.at_ 0 rfl
      have X0_1 := X0.at_ 1 rfl
      have X0_2 := X0.at_ 2 rfl
      have X0_3 := X0.at_ 3 rfl
      have X0_4 := X0.at_ 4 rfl
      have X0z := X0.lt
      have X1_0 := X1.at_ 0 rfl
      have X1_1 := X1.at_ 1 rfl
      have X1_2 := X1.at_ 2 rfl
      have X1_3 := X1.at_ 3 rfl
      have X1z := X1.lt
      go_wp2_with fail
      clear X0_0 X0_1 X0_2 X0_3 X0_4 X0z X1_0 X1_1 X1_2 X1_3 X1z
      replace X0 := X0.alloc (.cells #[.int .i64 pE, .int .i64 pN] 43)
      replace X1 := X1.alloc (.cells #[.int .i64 pE, .int .i64 pN] 43)
      have X2 := Bx.new w2 #[.int .i64 pE, .int .i64 pN] 43
      replace hB := balloc hB (.cells #[.int .i64 pE, .int .i64 pN] 43)
      have X0_0 := X0.at_ 0 rfl
      have X0_1 := X0.at_ 1 rfl
      have X0_2 := X0.at_ 2 rfl
      have X0_3 := X0.at_ 3 rfl
      have X0_4 := X0.at_ 4 rfl
      have X0z := X0.lt
      have X1_0 := X1.at_ 0 rfl
      have X1_1 := X1.at_ 1 rfl
      have X1_2 := X1.at_ 2 rfl
      have X1_3 := X1.at_ 3 rfl
      have X1z := X1.lt
      have X2_0 := X2.at_ 0 rfl
      have X2_1 := X2.at_ 1 rfl
      have X2z := X2.lt
      refine (hD9 _ (S.below hB) (SK.below hB) (SB.below hB) (SR.below hB)).mono ?_
      rintro e w3 ⟨rfl, hb2⟩
      clear X0_0 X0_1 X0_2 X0_3 X0_4 X0z X1_0 X1_1 X1_2 X1_3 X1z X2_0 X2_1 X2z
      replace X0 := X0.below hb2
      replace X1 := X1.below hb2
      replace X2 := X2.below hb2
      replace hB := bvia hB hb2
      clear hb2
      have X0_0 := X0.at_ 0 rfl
      have X0_1 := X0.at_ 1 rfl
      have X0_2 := X0.at_ 2 rfl
      have X0_3 := X0.at_ 3 rfl
      have X0_4 := X0.at_ 4 rfl
      have X0z := X0.lt
      have X1_0 := X1.at_ 0 rfl
      have X1_1 := X1.at_ 1 rfl
      have X1_2 := X1.at_ 2 rfl
      have X1_3 := X1.at_ 3 rfl
      have X1z := X1.lt
      have X2_0 := X2.at_ 0 rfl
      have X2_1 := X2.at_ 1 rfl
      have X2z := X2.lt
      go_wp2_with fail
      clear X0_0 X0_1 X0_2 X0_3 X0_4 X0z X1_0 X1_1 X1_2 X1_3 X1z X2_0 X2_1 X2z
      replace X0 := X0.alloc (.cells #[.int .i64 pE, .int .i64 pN] 43)
      replace X1 := X1.alloc (.cells #[.int .i64 pE, .int .i64 pN] 43)
      replace X2 := X2.alloc (.cells #[.int .i64 pE, .int .i64 pN] 43)
      have X3 := Bx.new w3 #[.int .i64 pE, .int .i64 pN] 43
      replace hB := balloc hB (.cells #[.int .i64 pE, .int .i64 pN] 43)
      have X0_0 := X0.at_ 0 rfl
      have X0_1 := X0.at_ 1 rfl
      have X0_2 := X0.at_ 2 rfl
      have X0_3 := X0.at_ 3 rfl
      have X0_4 := X0.at_ 4 rfl
      have X0z := X0.lt
      have X1_0 := X1.at_ 0 rfl
      have X1_1 := X1.at_ 1 rfl
      have X1_2 := X1.at_ 2 rfl
      have X1_3 := X1.at_ 3 rfl
      have X1z := X1.lt
      have X2_0 := X2.at_ 0 rfl
      have X2_1 := X2.at_ 1 rfl
      have X2z := X2.lt
      refine (awake_true _).mono ?_
      rintro e w8 ⟨rfl, hb8⟩
      go_wp2_with fail
      go_ret
      exact ⟨rfl, bvia hB hb8⟩
    · have ht9 : 900000 < t := by omega
      clear hlow
      have X0 := (Bx.new w #[.int .i64 wide, .int .i64 high, .slice a n c, .slice ak nk ck, .slice ab nb cb] 29).alloc (.cells #[.int .i64 t, .int .i64 m, .int .i64 k, .int .i64 body] 30)
      have X1 := Bx.new (w.alloc (.cells #[.int .i64 wide, .int .i64 high, .slice a n c, .slice ak nk ck, .slice ab nb cb] 29)) #[.int .i64 t, .int .i64 m, .int .i64 k, .int .i64 body] 30
      simp only [World.size_alloc] at X1
      have hB0 : Below w.heap.size w ((w.alloc (.cells #[.int .i64 wide, .int .i64 high, .slice a n c, .slice ak nk ck, .slice ab nb cb] 29)).alloc (.cells #[.int .i64 t, .int .i64 m, .int .i64 k, .int .i64 body] 30)) := by (repeat' (first | with_reducible assumption | with_reducible exact Below.refl _ _ | with_reducible refine Below.drew ?_ | with_reducible refine below_drewN ?_ _ | with_reducible refine balloc ?_ _ | with_reducible refine bset ?_ ?_ _ | with_reducible refine Below.setCell ?_ ?_ _ | with_reducible refine Below.alloc ?_ ?_ _ | omega | (simp; done) | (simp; omega)))
      go_enter Try.func12, Try.ntmps12
      go_wp2_with fail
      generalize ((w.alloc (.cells #[.int .i64 wide, .int .i64 high, .slice a n c, .slice ak nk ck, .slice ab nb cb] 29)).alloc (.cells #[.int .i64 t, .int .i64 m, .int .i64 k, .int .i64 body] 30)) = W0 at X0 X1 hB0 ⊢
      have z0 := X0.lt
      have z1 := X1.lt
      refine (law3_small _ _ _ _ _ _ _ _ _ _ _ _ _ hn hk hb).mono ?_
      rintro e w1 ⟨rfl, hb1⟩
      rw [HSM.out]
      have hB := hB0
      clear hB0
      replace X0 := X0.below hb1
      replace X1 := X1.below hb1
      replace hB := bvia hB hb1
      clear hb1
      have X0_0 := X0.at_ 0 rfl
      have X0_1 := X0.at_ 1 rfl
      have X0_2 := X0.at_ 2 rfl
      have X0_3 := X0.at_ 3 rfl
      have X0_4 := X0.at_ 4 rfl
      have X0z := X0.lt
      have X1_0 := X1.at_ 0 rfl
      have X1_1 := X1.at_ 1 rfl
      have X1_2 := X1.at_ 2 rfl
      have X1_3 := X1.at_ 3 rfl
      have X1z := X1.lt
      go_wp2_with fail
      refine (hD _ (S.below hB) (SK.below hB) (SB.below hB) (SR.below hB)).mono ?_
      rintro e w2 ⟨rfl, hb2⟩
      clear X0_0 X0_1 X0_2 X0_3 X0_4 X0z X1_0 X1_1 X1_2 X1_3 X1z
      replace X0 := X0.below hb2
      replace X1 := X1.below hb2
      replace hB := bvia hB hb2
      clear hb2
      have X0_0 := X0.at_ 0 rfl
      have X0_1 := X0.at_ 1 rfl
      have X0_2 := X0.at_ 2 rfl
      have X0_3 := X0.at_ 3 rfl
      have X0_4 := X0.at_ 4 rfl
      have X0z := X0.lt
      have X1_0 := X1.at_ 0 rfl
      have X1_1 := X1.at_ 1 rfl
      have X1_2 := X1.at_ 2 rfl
      have X1_3 := X1.at_ 3 rfl
      have X1z := X1.lt
      go_wp2_with fail
      clear X0_0 X0_1 X0_2 X0_3 X0_4 X0z X1_0 X1_1 X1_2 X1_3 X1z
      replace X0 := X0.alloc (.cells #[.int .i64 pE, .int .i64 pN] 43)
      replace X1 := X1.alloc (.cells #[.int .i64 pE, .int .i64 pN] 43)
      have X2 := Bx.new w2 #[.int .i64 pE, .int .i64 pN] 43
      replace hB := balloc hB (.cells #[.int .i64 pE, .int .i64 pN] 43)
      have X0_0 := X0.at_ 0 rfl
      have X0_1 := X0.at_ 1 rfl
      have X0_2 := X0.at_ 2 rfl
      have X0_3 := X0.at_ 3 rfl
      have X0_4 := X0.at_ 4 rfl
      have X0z := X0.lt
      have X1_0 := X1.at_ 0 rfl
      have X1_1 := X1.at_ 1 rfl
      have X1_2 := X1.at_ 2 rfl
      have X1_3 := X1.at_ 3 rfl
      have X1z := X1.lt
      have X2_0 := X2.at_ 0 rfl
      have X2_1 := X2.at_ 1 rfl
      have X2z := X2.lt
      refine (hD9 _ (S.below hB) (SK.below hB) (SB.below hB) (SR.below hB)).mono ?_
      rintro e w3 ⟨rfl, hb2⟩
      clear X0_0 X0_1 X0_2 X0_3 X0_4 X0z X1_0 X1_1 X1_2 X1_3 X1z X2_0 X2_1 X2z
      replace X0 := X0.below hb2
      replace X1 := X1.below hb2
      replace X2 := X2.below hb2
      replace hB := bvia hB hb2
      clear hb2
      have X0_0 := X0.at_ 0 rfl
      have X0_1 := X0.at_ 1 rfl
      have X0_2 := X0.at_ 2 rfl
      have X0_3 := X0.at_ 3 rfl
      have X0_4 := X0.at_ 4 rfl
      have X0z := X0.lt
      have X1_0 := X1.at_ 0 rfl
      have X1_1 := X1.at_ 1 rfl
      have X1_2 := X1.at_ 2 rfl
      have X1_3 := X1.at_ 3 rfl
      have X1z := X1.lt
      have X2_0 := X2.at_ 0 rfl
      have X2_1 := X2.at_ 1 rfl
      have X2z := X2.lt
      go_wp2_with fail
      clear X0_0 X0_1 X0_2 X0_3 X0_4 X0z X1_0 X1_1 X1_2 X1_3 X1z X2_0 X2_1 X2z
      replace X0 := X0.alloc (.cells #[.int .i64 pE, .int .i64 pN] 43)
      replace X1 := X1.alloc (.cells #[.int .i64 pE, .int .i64 pN] 43)
      replace X2 := X2.alloc (.cells #[.int .i64 pE, .int .i64 pN] 43)
      have X3 := Bx.new w3 #[.int .i64 pE, .int .i64 pN] 43
      replace hB := balloc hB (.cells #[.int .i64 pE, .int .i64 pN] 43)
      have X0_0 := X0.at_ 0 rfl
      have X0_1 := X0.at_ 1 rfl
      have X0_2 := X0.at_ 2 rfl
      have X0_3 := X0.at_ 3 rfl
      have X0_4 := X0.at_ 4 rfl
      have X0z := X0.lt
      have X1_0 := X1.at_ 0 rfl
      have X1_1 := X1.at_ 1 rfl
      have X1_2 := X1.at_ 2 rfl
      have X1_3 := X1.at_ 3 rfl
      have X1z := X1.lt
      have X2_0 := X2.at_ 0 rfl
      have X2_1 := X2.at_ 1 rfl
      have X2z := X2.lt
      refine (awake_true _).mono ?_
      rintro e w8 ⟨rfl, hb8⟩
      go_wp2_with fail
      go_ret
      exact ⟨rfl, bvia hB hb8⟩
  have hk1 : 0 ≤ k := by omega
  have ht9 : t ≤ 900000 := by omega
  have hR := fun W' S' SK' SB' SR' => wall_Run wide high a ak ab ar n nk nb nr c ck cb cr g K B r t m W' (by omega) (by omega) (by omega) (by omega) S' SK' SB' SR'
  have hD2 := fun a1 c1 (G : Nat → C4) W' S' SK' SB' SR' => wall_Drag wide high a1 ak ab ar n nk nb nr c1 ck cb cr G K B r (t + m) k body W' (by omega) (by omega) (by omega) (by omega) S' SK' SB' SR'
  have hD3 := fun W' S' SK' SB' SR' => wall_Drag wide high a ak ab ar n nk nb nr c ck cb cr g K B r t (m + k) body W' (by omega) (by omega) (by omega) (by omega) S' SK' SB' SR'
  rw [hz0] at hR
  clear ev hlow hm3 hz
  obtain ⟨W, H, T, M, rfl, rfl, rfl, rfl, w1, h1, rfl, rfl, rfl, hok, hKb, hr0, hr8, hru, hT, hM, hTM⟩ := run_ok hz0
  obtain ⟨v1, v2, v3⟩ := rnE_zero hz0
  obtain ⟨q1, q2, q3, q4⟩ := (validW_iff _ _ _ _ _ _ _ _).1 v1
  obtain ⟨N, rfl⟩ := Int.eq_ofNat_of_zero_le hk1
  have hm24 : W * H ≤ 1024 := by omega
  have hokG := runW_ok (r := rlAt nr r) (K := K) (t := T) hok M
  have hV2 : validW (W : Int) (H : Int) (W * H) (runW W H (rlAt nr r) K g T M) (W * H) (W * H) K B = true := (validW_iff _ _ _ _ _ _ _ _).2 ⟨validG_of w1 h1 hm24 hokG, rfl, rfl, q4⟩
  have hs1 : (T : Int) + (M : Int) = ((T + M : Nat) : Int) := by simp
  have hs2 : (M : Int) + (N : Int) = ((M + N : Nat) : Int) := by simp
  have ht2 : timesB ((T + M : Nat) : Int) (N : Int) = true := (timesB_iff _ _).2 (by omega)
  have ht3 : timesB (T : Int) ((M + N : Nat) : Int) = true := (timesB_iff _ _).2 (by omega)
  replace hD2 := fun a1 c1 => hD2 a1 c1 (runW W H (rlAt nr r) K g T M)
  have e0 : rnE true true true = 0 := rfl
  rw [hs1] at hD2
  rw [hs2] at hD3
  rw [hV2, v2, ht2, hbz, e0] at hD2
  rw [v1, v2, ht3, hbz, e0] at hD3
  have ev : ∀ x, dgV 0 0 x = x := fun x => by simp [dgV]
  have ee : dgErr 0 0 = 0 := by simp [dgErr]
  rw [ev, ev, ee] at hD2 hD3
  simp only [Int.toNat_natCast] at hR hD hD9 hD2 hD3
  simp only [erZ, erN, if_true] at hR
  have hadd := drg_add (runW W H (rlAt nr r) K g T) K B body (W * H) M N
  have hfun : (fun i => runW W H (rlAt nr r) K g T (M + i)) = runW W H (rlAt nr r) K (runW W H (rlAt nr r) K g T M) (T + M) := funext fun i => runW_add W H _ K g T M i
  rw [hfun] at hadd
  obtain ⟨hadd1, hadd2⟩ := hadd
  have hbd1 := drg_bd (G := runW W H (rlAt nr r) K g T) K B body hm24 (fun i => runW_ok (r := rlAt nr r) (K := K) (t := T) hok i) M
  have hbd2 := drg_bd (G := runW W H (rlAt nr r) K (runW W H (rlAt nr r) K g T M) (T + M)) K B body hm24 (fun i => runW_ok (r := rlAt nr r) (K := K) (t := T + M) hokG i) N
  rw [hadd1, hadd2] at hD3
  clear e0 hV2 hokG q1 q2 q3 q4 v1 v2 v3 hTM hru hKb hok hz0 hbz hfun hadd1 hadd2 ev ee ht2 ht3 hr' hk1
  generalize drgE (runW W H (rlAt nr r) K g T) K B body (W * H) M = pE at *
  generalize drgN (runW W H (rlAt nr r) K g T) K B body (W * H) M = pN at *
  generalize drgE (runW W H (rlAt nr r) K (runW W H (rlAt nr r) K g T M) (T + M)) K B body (W * H) N = iE at *
  generalize drgN (runW W H (rlAt nr r) K (runW W H (rlAt nr r) K g T M) (T + M)) K B body (W * H) N = iN at *
  generalize runW W H (rlAt nr r) K g T M = G at *
  obtain ⟨b1, b2, b3, b4⟩ := hbd1
  obtain ⟨b5, b6, b7, b8⟩ := hbd2
  have hw1 := IntWalk.i64_in (pE + iE) (by omega)
  have hw2 := IntWalk.i64_in (pN + iN) (by omega)
  have hw3 := IntWalk.i64_in ((T : Int) + (M : Int)) (by omega)
  have hw4 := IntWalk.i64_in ((M : Int) + (N : Int)) (by omega)
  rw [← hs1] at hD2
  rw [← hs2] at hD3
  have hN0 : ¬ (N : Int) < 0 := by omega
  clear hs1 hs2
  have hne := neq_push pE pN pE pN
  simp only [beq_self_eq_true, Bool.and_self, Bool.not_true] at hne
  have heq := eql_push (pE + iE) (pN + iN) (pE + iE) (pN + iN)
  simp only [beq_self_eq_true, Bool.and_self] at heq
  have X0 := (Bx.new w #[.int .i64 (W : Int), .int .i64 (H : Int), .slice a (W * H) c, .slice ak (W * H) ck, .slice ab (W * H) cb] 29).alloc (.cells #[.int .i64 (T : Int), .int .i64 (M : Int), .int .i64 (N : Int), .int .i64 body] 30)
  have X1 := Bx.new (w.alloc (.cells #[.int .i64 (W : Int), .int .i64 (H : Int), .slice a (W * H) c, .slice ak (W * H) ck, .slice ab (W * H) cb] 29)) #[.int .i64 (T : Int), .int .i64 (M : Int), .int .i64 (N : Int), .int .i64 body] 30
  simp only [World.size_alloc] at X1
  have hB0 : Below w.heap.size w ((w.alloc (.cells #[.int .i64 (W : Int), .int .i64 (H : Int), .slice a (W * H) c, .slice ak (W * H) ck, .slice ab (W * H) cb] 29)).alloc (.cells #[.int .i64 (T : Int), .int .i64 (M : Int), .int .i64 (N : Int), .int .i64 body] 30)) := by (repeat' (first | with_reducible assumption | with_reducible exact Below.refl _ _ | with_reducible refine Below.drew ?_ | with_reducible refine below_drewN ?_ _ | with_reducible refine balloc ?_ _ | with_reducible refine bset ?_ ?_ _ | with_reducible refine Below.setCell ?_ ?_ _ | with_reducible refine Below.alloc ?_ ?_ _ | omega | (simp; done) | (simp; omega)))
  go_enter Try.func12, Try.ntmps12
  go_wp2_with fail
  generalize ((w.alloc (.cells #[.int .i64 (W : Int), .int .i64 (H : Int), .slice a (W * H) c, .slice ak (W * H) ck, .slice ab (W * H) cb] 29)).alloc (.cells #[.int .i64 (T : Int), .int .i64 (M : Int), .int .i64 (N : Int), .int .i64 body] 30)) = W0 at X0 X1 hB0 ⊢
  have z0 := X0.lt
  have z1 := X1.lt
  refine (law3_small _ _ _ _ _ _ _ _ _ _ _ _ _ hn hk hb).mono ?_
  rintro e w1 ⟨rfl, hb1⟩
  rw [HSM.out]
  have hB := hB0
  clear hB0
  replace X0 := X0.below hb1
  replace X1 := X1.below hb1
  replace hB := bvia hB hb1
  clear hb1
  have X0_0 := X0.at_ 0 rfl
  have X0_1 := X0.at_ 1 rfl
  have X0_2 := X0.at_ 2 rfl
  have X0_3 := X0.at_ 3 rfl
  have X0_4 := X0.at_ 4 rfl
  have X0z := X0.lt
  have X1_0 := X1.at_ 0 rfl
  have X1_1 := X1.at_ 1 rfl
  have X1_2 := X1.at_ 2 rfl
  have X1_3 := X1.at_ 3 rfl
  have X1z := X1.lt
  go_wp2_with fail
  refine (hD _ (S.below hB) (SK.below hB) (SB.below hB) (SR.below hB)).mono ?_
  rintro e w2 ⟨rfl, hb2⟩
  clear X0_0 X0_1 X0_2 X0_3 X0_4 X0z X1_0 X1_1 X1_2 X1_3 X1z
  replace X0 := X0.below hb2
  replace X1 := X1.below hb2
  replace hB := bvia hB hb2
  clear hb2
  have X0_0 := X0.at_ 0 rfl
  have X0_1 := X0.at_ 1 rfl
  have X0_2 := X0.at_ 2 rfl
  have X0_3 := X0.at_ 3 rfl
  have X0_4 := X0.at_ 4 rfl
  have X0z := X0.lt
  have X1_0 := X1.at_ 0 rfl
  have X1_1 := X1.at_ 1 rfl
  have X1_2 := X1.at_ 2 rfl
  have X1_3 := X1.at_ 3 rfl
  have X1z := X1.lt
  go_wp2_with fail
  clear X0_0 X0_1 X0_2 X0_3 X0_4 X0z X1_0 X1_1 X1_2 X1_3 X1z
  replace X0 := X0.alloc (.cells #[.int .i64 pE, .int .i64 pN] 43)
  replace X1 := X1.alloc (.cells #[.int .i64 pE, .int .i64 pN] 43)
  have X2 := Bx.new w2 #[.int .i64 pE, .int .i64 pN] 43
  replace hB := balloc hB (.cells #[.int .i64 pE, .int .i64 pN] 43)
  have X0_0 := X0.at_ 0 rfl
  have X0_1 := X0.at_ 1 rfl
  have X0_2 := X0.at_ 2 rfl
  have X0_3 := X0.at_ 3 rfl
  have X0_4 := X0.at_ 4 rfl
  have X0z := X0.lt
  have X1_0 := X1.at_ 0 rfl
  have X1_1 := X1.at_ 1 rfl
  have X1_2 := X1.at_ 2 rfl
  have X1_3 := X1.at_ 3 rfl
  have X1z := X1.lt
  have X2_0 := X2.at_ 0 rfl
  have X2_1 := X2.at_ 1 rfl
  have X2z := X2.lt
  refine (hD9 _ (S.below hB) (SK.below hB) (SB.below hB) (SR.below hB)).mono ?_
  rintro e w3 ⟨rfl, hb2⟩
  clear X0_0 X0_1 X0_2 X0_3 X0_4 X0z X1_0 X1_1 X1_2 X1_3 X1z X2_0 X2_1 X2z
  replace X0 := X0.below hb2
  replace X1 := X1.below hb2
  replace X2 := X2.below hb2
  replace hB := bvia hB hb2
  clear hb2
  have X0_0 := X0.at_ 0 rfl
  have X0_1 := X0.at_ 1 rfl
  have X0_2 := X0.at_ 2 rfl
  have X0_3 := X0.at_ 3 rfl
  have X0_4 := X0.at_ 4 rfl
  have X0z := X0.lt
  have X1_0 := X1.at_ 0 rfl
  have X1_1 := X1.at_ 1 rfl
  have X1_2 := X1.at_ 2 rfl
  have X1_3 := X1.at_ 3 rfl
  have X1z := X1.lt
  have X2_0 := X2.at_ 0 rfl
  have X2_1 := X2.at_ 1 rfl
  have X2z := X2.lt
  go_wp2_with fail
  clear X0_0 X0_1 X0_2 X0_3 X0_4 X0z X1_0 X1_1 X1_2 X1_3 X1z X2_0 X2_1 X2z
  replace X0 := X0.alloc (.cells #[.int .i64 pE, .int .i64 pN] 43)
  replace X1 := X1.alloc (.cells #[.int .i64 pE, .int .i64 pN] 43)
  replace X2 := X2.alloc (.cells #[.int .i64 pE, .int .i64 pN] 43)
  have X3 := Bx.new w3 #[.int .i64 pE, .int .i64 pN] 43
  replace hB := balloc hB (.cells #[.int .i64 pE, .int .i64 pN] 43)
  have X0_0 := X0.at_ 0 rfl
  have X0_1 := X0.at_ 1 rfl
  have X0_2 := X0.at_ 2 rfl
  have X0_3 := X0.at_ 3 rfl
  have X0_4 := X0.at_ 4 rfl
  have X0z := X0.lt
  have X1_0 := X1.at_ 0 rfl
  have X1_1 := X1.at_ 1 rfl
  have X1_2 := X1.at_ 2 rfl
  have X1_3 := X1.at_ 3 rfl
  have X1z := X1.lt
  have X2_0 := X2.at_ 0 rfl
  have X2_1 := X2.at_ 1 rfl
  have X2z := X2.lt
  refine (hR _ (S.below hB) (SK.below hB) (SB.below hB) (SR.below hB)).mono ?_
  rintro e w5 ⟨a5, c5, rfl, S5, hn5, hb2⟩
  clear X0_0 X0_1 X0_2 X0_3 X0_4 X0z X1_0 X1_1 X1_2 X1_3 X1z X2_0 X2_1 X2z
  replace X0 := X0.below hb2
  replace X1 := X1.below hb2
  replace X2 := X2.below hb2
  replace X3 := X3.below hb2
  replace hB := bvia hB hb2
  clear hb2
  have X0_0 := X0.at_ 0 rfl
  have X0_1 := X0.at_ 1 rfl
  have X0_2 := X0.at_ 2 rfl
  have X0_3 := X0.at_ 3 rfl
  have X0_4 := X0.at_ 4 rfl
  have X0z := X0.lt
  have X1_0 := X1.at_ 0 rfl
  have X1_1 := X1.at_ 1 rfl
  have X1_2 := X1.at_ 2 rfl
  have X1_3 := X1.at_ 3 rfl
  have X1z := X1.lt
  have X2_0 := X2.at_ 0 rfl
  have X2_1 := X2.at_ 1 rfl
  have X2z := X2.lt
  go_wp2_with fail
  clear X0_0 X0_1 X0_2 X0_3 X0_4 X0z X1_0 X1_1 X1_2 X1_3 X1z X2_0 X2_1 X2z
  replace X0 := X0.alloc (.cells #[.int .i64 (W : Int), .int .i64 (H : Int), .slice a5 (W * H) c5] 24)
  replace X1 := X1.alloc (.cells #[.int .i64 (W : Int), .int .i64 (H : Int), .slice a5 (W * H) c5] 24)
  replace X2 := X2.alloc (.cells #[.int .i64 (W : Int), .int .i64 (H : Int), .slice a5 (W * H) c5] 24)
  replace X3 := X3.alloc (.cells #[.int .i64 (W : Int), .int .i64 (H : Int), .slice a5 (W * H) c5] 24)
  replace S5 := S5.alloc (.cells #[.int .i64 (W : Int), .int .i64 (H : Int), .slice a5 (W * H) c5] 24)
  have X5 := Bx.new w5 #[.int .i64 (W : Int), .int .i64 (H : Int), .slice a5 (W * H) c5] 24
  replace hB := balloc hB (.cells #[.int .i64 (W : Int), .int .i64 (H : Int), .slice a5 (W * H) c5] 24)
  have X0_0 := X0.at_ 0 rfl
  have X0_1 := X0.at_ 1 rfl
  have X0_2 := X0.at_ 2 rfl
  have X0_3 := X0.at_ 3 rfl
  have X0_4 := X0.at_ 4 rfl
  have X0z := X0.lt
  have X1_0 := X1.at_ 0 rfl
  have X1_1 := X1.at_ 1 rfl
  have X1_2 := X1.at_ 2 rfl
  have X1_3 := X1.at_ 3 rfl
  have X1z := X1.lt
  have X2_0 := X2.at_ 0 rfl
  have X2_1 := X2.at_ 1 rfl
  have X2z := X2.lt
  have X5_0 := X5.at_ 0 rfl
  have X5_1 := X5.at_ 1 rfl
  have X5_2 := X5.at_ 2 rfl
  have X5z := X5.lt
  refine (hD2 _ _ _ S5 (SK.below hB) (SB.below hB) (SR.below hB)).mono ?_
  rintro e w6 ⟨rfl, hb2⟩
  clear X0_0 X0_1 X0_2 X0_3 X0_4 X0z X1_0 X1_1 X1_2 X1_3 X1z X2_0 X2_1 X2z X5_0 X5_1 X5_2 X5z
  replace X0 := X0.below hb2
  replace X1 := X1.below hb2
  replace X2 := X2.below hb2
  replace X3 := X3.below hb2
  replace S5 := S5.below hb2
  replace X5 := X5.below hb2
  replace hB := bvia hB hb2
  clear hb2
  have X0_0 := X0.at_ 0 rfl
  have X0_1 := X0.at_ 1 rfl
  have X0_2 := X0.at_ 2 rfl
  have X0_3 := X0.at_ 3 rfl
  have X0_4 := X0.at_ 4 rfl
  have X0z := X0.lt
  have X1_0 := X1.at_ 0 rfl
  have X1_1 := X1.at_ 1 rfl
  have X1_2 := X1.at_ 2 rfl
  have X1_3 := X1.at_ 3 rfl
  have X1z := X1.lt
  have X2_0 := X2.at_ 0 rfl
  have X2_1 := X2.at_ 1 rfl
  have X2z := X2.lt
  have X5_0 := X5.at_ 0 rfl
  have X5_1 := X5.at_ 1 rfl
  have X5_2 := X5.at_ 2 rfl
  have X5z := X5.lt
  go_wp2_with fail
  clear X0_0 X0_1 X0_2 X0_3 X0_4 X0z X1_0 X1_1 X1_2 X1_3 X1z X2_0 X2_1 X2z X5_0 X5_1 X5_2 X5z
  replace X0 := X0.alloc (.cells #[.int .i64 iE, .int .i64 iN] 43)
  replace X1 := X1.alloc (.cells #[.int .i64 iE, .int .i64 iN] 43)
  replace X2 := X2.alloc (.cells #[.int .i64 iE, .int .i64 iN] 43)
  replace X3 := X3.alloc (.cells #[.int .i64 iE, .int .i64 iN] 43)
  replace S5 := S5.alloc (.cells #[.int .i64 iE, .int .i64 iN] 43)
  replace X5 := X5.alloc (.cells #[.int .i64 iE, .int .i64 iN] 43)
  have X6 := Bx.new w6 #[.int .i64 iE, .int .i64 iN] 43
  replace hB := balloc hB (.cells #[.int .i64 iE, .int .i64 iN] 43)
  have X0_0 := X0.at_ 0 rfl
  have X0_1 := X0.at_ 1 rfl
  have X0_2 := X0.at_ 2 rfl
  have X0_3 := X0.at_ 3 rfl
  have X0_4 := X0.at_ 4 rfl
  have X0z := X0.lt
  have X1_0 := X1.at_ 0 rfl
  have X1_1 := X1.at_ 1 rfl
  have X1_2 := X1.at_ 2 rfl
  have X1_3 := X1.at_ 3 rfl
  have X1z := X1.lt
  have X2_0 := X2.at_ 0 rfl
  have X2_1 := X2.at_ 1 rfl
  have X2z := X2.lt
  have X5_0 := X5.at_ 0 rfl
  have X5_1 := X5.at_ 1 rfl
  have X5_2 := X5.at_ 2 rfl
  have X5z := X5.lt
  have X6_0 := X6.at_ 0 rfl
  have X6_1 := X6.at_ 1 rfl
  have X6z := X6.lt
  refine (hD3 _ (S.below hB) (SK.below hB) (SB.below hB) (SR.below hB)).mono ?_
  rintro e w7 ⟨rfl, hb2⟩
  clear X0_0 X0_1 X0_2 X0_3 X0_4 X0z X1_0 X1_1 X1_2 X1_3 X1z X2_0 X2_1 X2z X5_0 X5_1 X5_2 X5z X6_0 X6_1 X6z
  replace X0 := X0.below hb2
  replace X1 := X1.below hb2
  replace X2 := X2.below hb2
  replace X3 := X3.below hb2
  replace S5 := S5.below hb2
  replace X5 := X5.below hb2
  replace X6 := X6.below hb2
  replace hB := bvia hB hb2
  clear hb2
  have X0_0 := X0.at_ 0 rfl
  have X0_1 := X0.at_ 1 rfl
  have X0_2 := X0.at_ 2 rfl
  have X0_3 := X0.at_ 3 rfl
  have X0_4 := X0.at_ 4 rfl
  have X0z := X0.lt
  have X1_0 := X1.at_ 0 rfl
  have X1_1 := X1.at_ 1 rfl
  have X1_2 := X1.at_ 2 rfl
  have X1_3 := X1.at_ 3 rfl
  have X1z := X1.lt
  have X2_0 := X2.at_ 0 rfl
  have X2_1 := X2.at_ 1 rfl
  have X2z := X2.lt
  have X5_0 := X5.at_ 0 rfl
  have X5_1 := X5.at_ 1 rfl
  have X5_2 := X5.at_ 2 rfl
  have X5z := X5.lt
  have X6_0 := X6.at_ 0 rfl
  have X6_1 := X6.at_ 1 rfl
  have X6z := X6.lt
  go_wp2_with fail
  clear X0_0 X0_1 X0_2 X0_3 X0_4 X0z X1_0 X1_1 X1_2 X1_3 X1z X2_0 X2_1 X2z X5_0 X5_1 X5_2 X5z X6_0 X6_1 X6z
  replace X0 := X0.alloc (.cells #[.int .i64 (pE + iE), .int .i64 (pN + iN)] 43)
  replace X1 := X1.alloc (.cells #[.int .i64 (pE + iE), .int .i64 (pN + iN)] 43)
  replace X2 := X2.alloc (.cells #[.int .i64 (pE + iE), .int .i64 (pN + iN)] 43)
  replace X3 := X3.alloc (.cells #[.int .i64 (pE + iE), .int .i64 (pN + iN)] 43)
  replace S5 := S5.alloc (.cells #[.int .i64 (pE + iE), .int .i64 (pN + iN)] 43)
  replace X5 := X5.alloc (.cells #[.int .i64 (pE + iE), .int .i64 (pN + iN)] 43)
  replace X6 := X6.alloc (.cells #[.int .i64 (pE + iE), .int .i64 (pN + iN)] 43)
  have X7 := Bx.new w7 #[.int .i64 (pE + iE), .int .i64 (pN + iN)] 43
  replace hB := balloc hB (.cells #[.int .i64 (pE + iE), .int .i64 (pN + iN)] 43)
  have X0_0 := X0.at_ 0 rfl
  have X0_1 := X0.at_ 1 rfl
  have X0_2 := X0.at_ 2 rfl
  have X0_3 := X0.at_ 3 rfl
  have X0_4 := X0.at_ 4 rfl
  have X0z := X0.lt
  have X1_0 := X1.at_ 0 rfl
  have X1_1 := X1.at_ 1 rfl
  have X1_2 := X1.at_ 2 rfl
  have X1_3 := X1.at_ 3 rfl
  have X1z := X1.lt
  have X2_0 := X2.at_ 0 rfl
  have X2_1 := X2.at_ 1 rfl
  have X2z := X2.lt
  have X5_0 := X5.at_ 0 rfl
  have X5_1 := X5.at_ 1 rfl
  have X5_2 := X5.at_ 2 rfl
  have X5z := X5.lt
  have X6_0 := X6.at_ 0 rfl
  have X6_1 := X6.at_ 1 rfl
  have X6z := X6.lt
  refine (awake_true _).mono ?_
  rintro e w8 ⟨rfl, hb8⟩
  go_wp2_with fail
  go_ret
  exact ⟨rfl, bvia hB hb8⟩
end Go.Proofs.Ytnnaegnkkpknpaa
