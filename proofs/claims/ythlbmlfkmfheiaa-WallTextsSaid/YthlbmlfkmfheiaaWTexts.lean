/- The walk of the law WallTexts. -/
import Derived.Test.YthlbmlfkmfheiaaWTextsPlain
import Derived.Test.YthlbmlfkmfheiaaRPrs
import Derived.Test.YthlbmlfkmfheiaaSame
import Derived.Test.YthlbmlfkmfheiaaSmall
import Derived.Test.YthlbmlfkmfheiaaSent3
namespace Go.Proofs.Ythlbmlfkmfheiaa
open Go Go.RowKit
set_option linter.unusedVariables false
theorem Sl.set1 {w : World} {a : Option Addr} {n : Nat} {f : Nat → Int} (h : Sl w a n f) {p : Addr} {x : Option Addr} {y z : Nat} (hp : w.cell? p = some (.slice x y z)) (u : Value) : Sl (w.setCell p u) a n f := fun k hk => by
  obtain ⟨b, o, e, hlt, hc⟩ := h k hk
  refine ⟨b, o, e, by simpa [World.setCell] using hlt, ?_⟩
  rw [World.cell?_setCell_other _ _ _ _ (fun e' => by rw [← e', hp] at hc; cases hc)]
  exact hc
theorem Sl.set2 {w : World} {a : Option Addr} {n : Nat} {f : Nat → Int} (h : Sl w a n f) {b : Nat} {x x' : Option Addr} {y z y' z' : Nat} (X : Bx w b #[.slice x y z, .slice x' y' z']) (u v : Value) : Sl ((w.setCell ⟨b, 0, none⟩ u).setCell ⟨b, 1, none⟩ v) a n f :=
  (h.set1 (X.at_ 0 rfl) u).set1 (p := ⟨b, 1, none⟩) (x := x') (y := y') (z := z') (by rw [World.cell?_setCell_other _ _ _ _ (by simp)]; exact X.at_ 1 rfl) v
set_option maxRecDepth 100000 in
set_option maxHeartbeats 8000000 in
theorem walk_texts (wide high : Int) (a ak ab : Option Addr) (n nk nb c ck cb : Nat) (g : Nat → C4) (K B : Nat → Int) (l : List UInt8) (w : World) (hn : n ≤ maxLen) (hk : nk ≤ maxLen) (hb : nb ≤ maxLen) (S : Sc w a n g) (SK : Sl w ak nk K) (SB : Sl w ab nb B) :
    Calls Try.prog 4 #[.agg #[.int .i64 wide, .int .i64 high, .slice a n c, .slice ak nk ck, .slice ab nb cb], .string ⟨l.toArray⟩] w fun e w' => e = .returned (.bool true) ∧ Below w.heap.size w w' := by
  cases hs : smallB n nk nb 1200
  · have HSM := hid hs
    clear hs
    have X0 := Bx.new w #[.int .i64 wide, .int .i64 high, .slice a n c, .slice ak nk ck, .slice ab nb cb] 29
    have hB0 : Below w.heap.size w (w.alloc (.cells #[.int .i64 wide, .int .i64 high, .slice a n c, .slice ak nk ck, .slice ab nb cb] 29)) := by (repeat' (first | with_reducible assumption | with_reducible exact Below.refl _ _ | with_reducible refine Below.drew ?_ | with_reducible refine below_drewN ?_ _ | with_reducible refine balloc ?_ _ | with_reducible refine bset ?_ ?_ _ | with_reducible refine Below.setCell ?_ ?_ _ | with_reducible refine Below.alloc ?_ ?_ _ | omega | (simp; done) | (simp; omega)))
    go_enter Try.func4, Try.ntmps4
    go_wp2_with fail
    generalize (w.alloc (.cells #[.int .i64 wide, .int .i64 high, .slice a n c, .slice ak nk ck, .slice ab nb cb] 29)) = W0 at X0 hB0 ⊢
    have z0 := X0.lt
    refine (law3_small _ _ _ _ _ _ _ _ _ _ _ _ _ hn hk hb).mono ?_
    rintro e w1 ⟨rfl, hb1⟩
    rw [HSM.out]
    have hB := hB0
    clear hB0
    replace X0 := X0.below hb1
    replace hB := bvia hB hb1
    clear hb1
    have X0_0 := X0.at_ 0 rfl
    have X0_1 := X0.at_ 1 rfl
    have X0_2 := X0.at_ 2 rfl
    have X0_3 := X0.at_ 3 rfl
    have X0_4 := X0.at_ 4 rfl
    have X0z := X0.lt
    go_wp2_with fail
    refine (awake_true _).mono ?_
    rintro e w2 ⟨rfl, hb2⟩
    go_wp2_with fail
    go_ret
    exact ⟨rfl, bvia hB hb2⟩
  have HSM := hid hs
  have hsm : n ≤ 1200 ∧ nk ≤ 1200 ∧ nb ≤ 1200 := by simp [smallB] at hs; omega
  obtain ⟨n1, n2, n3⟩ := hsm
  clear hs
  have hPW := fun W' S' => wall_Parse wide high a n c g l W' (by omega) S'
  have hPR := fun W' S' => ref3_Parse wide high a n c g l W' (by omega) S'
  have hPT := fun t W' S' => wall_Parse wide high a n c g t W' (by omega) S'
  obtain ⟨hlk, hll⟩ := prs_size wide high n g l
  have hok := fun h => prs_right (wide := wide) (high := high) (n := n) (g := g) (l := l) h rfl rfl
  have hback := fun t ht h => fmt_right (wide := wide) (high := high) (n := n) (nk := nk) (nb := nb) (g := g) (K := K) (B := B) (l := t) ht h
  generalize prsK (validG wide high n g) wide.toNat high.toNat l = KL at *
  generalize prsL (validG wide high n g) wide.toNat high.toNat l = LL at *
  generalize prsN (validG wide high n g) wide.toNat high.toNat l = N0 at *
  generalize prsE (validG wide high n g) wide.toNat high.toNat l = E0 at *
  unfold PrsPost at hPW hPR hPT
  have hF1 := fun W' S' SK' SB' => wall_Format wide high a ak ab n nk nb c ck cb g K B W' (by omega) (by omega) (by omega) S' SK' SB'
  have hF2 := fun W' S' SK' SB' => ref3_Format wide high a ak ab n nk nb c ck cb g K B W' (by omega) (by omega) (by omega) S' SK' SB'
  replace hPT := hPT (fmtR (validW wide high n g nk nb K B) wide.toNat K B n)
  replace hback := hback (fmtR (validW wide high n g nk nb K B) wide.toNat K B n) rfl
  generalize fmtR (validW wide high n g nk nb K B) wide.toNat K B n = T at *
  have HOK := hid hok
  clear hok
  have X0 := Bx.new w #[.int .i64 wide, .int .i64 high, .slice a n c, .slice ak nk ck, .slice ab nb cb] 29
  have hB0 : Below w.heap.size w (w.alloc (.cells #[.int .i64 wide, .int .i64 high, .slice a n c, .slice ak nk ck, .slice ab nb cb] 29)) := by (repeat' (first | with_reducible assumption | with_reducible exact Below.refl _ _ | with_reducible refine Below.drew ?_ | with_reducible refine below_drewN ?_ _ | with_reducible refine balloc ?_ _ | with_reducible refine bset ?_ ?_ _ | with_reducible refine Below.setCell ?_ ?_ _ | with_reducible refine Below.alloc ?_ ?_ _ | omega | (simp; done) | (simp; omega)))
  go_enter Try.func4, Try.ntmps4
  go_wp2_with fail
  generalize (w.alloc (.cells #[.int .i64 wide, .int .i64 high, .slice a n c, .slice ak nk ck, .slice ab nb cb] 29)) = W0 at X0 hB0 ⊢
  have z0 := X0.lt
  refine (law3_small _ _ _ _ _ _ _ _ _ _ _ _ _ hn hk hb).mono ?_
  rintro e w1 ⟨rfl, hb1⟩
  rw [HSM.out]
  have hB := hB0
  clear hB0
  replace X0 := X0.below hb1
  replace hB := bvia hB hb1
  clear hb1
  have X0_0 := X0.at_ 0 rfl
  have X0_1 := X0.at_ 1 rfl
  have X0_2 := X0.at_ 2 rfl
  have X0_3 := X0.at_ 3 rfl
  have X0_4 := X0.at_ 4 rfl
  have X0z := X0.lt
  go_wp2_with fail
  refine (hPW _ (S.below hB)).mono ?_
  rintro e w2 ⟨a1, c1, a2, c2, rfl, S1, S2, hb2⟩
  clear X0_0 X0_1 X0_2 X0_3 X0_4 X0z
  replace X0 := X0.below hb2
  replace hB := bvia hB hb2
  clear hb2
  have X0_0 := X0.at_ 0 rfl
  have X0_1 := X0.at_ 1 rfl
  have X0_2 := X0.at_ 2 rfl
  have X0_3 := X0.at_ 3 rfl
  have X0_4 := X0.at_ 4 rfl
  have X0z := X0.lt
  go_wp2_with fail
  have hw2 := X0.lt
  clear X0_0 X0_1 X0_2 X0_3 X0_4 X0z
  replace X0 := X0.alloc (.cells #[.slice a1 KL.length c1, .slice a2 LL.length c2] 27)
  replace S1 := S1.alloc (.cells #[.slice a1 KL.length c1, .slice a2 LL.length c2] 27)
  replace S2 := S2.alloc (.cells #[.slice a1 KL.length c1, .slice a2 LL.length c2] 27)
  have X1 := Bx.new w2 #[.slice a1 KL.length c1, .slice a2 LL.length c2] 27
  replace hB := balloc hB (.cells #[.slice a1 KL.length c1, .slice a2 LL.length c2] 27)
  have X0_0 := X0.at_ 0 rfl
  have X0_1 := X0.at_ 1 rfl
  have X0_2 := X0.at_ 2 rfl
  have X0_3 := X0.at_ 3 rfl
  have X0_4 := X0.at_ 4 rfl
  have X0z := X0.lt
  have X1_0 := X1.at_ 0 rfl
  have X1_1 := X1.at_ 1 rfl
  have X1z := X1.lt
  refine (hPR _ (S.below hB)).mono ?_
  rintro e w3 ⟨a3, c3, a4, c4, rfl, S3, S4, hb3⟩
  clear X0_0 X0_1 X0_2 X0_3 X0_4 X0z X1_0 X1_1 X1z
  replace X0 := X0.below hb3
  replace S1 := S1.below hb3
  replace S2 := S2.below hb3
  replace X1 := X1.below hb3
  replace hB := bvia hB hb3
  clear hb3
  have X0_0 := X0.at_ 0 rfl
  have X0_1 := X0.at_ 1 rfl
  have X0_2 := X0.at_ 2 rfl
  have X0_3 := X0.at_ 3 rfl
  have X0_4 := X0.at_ 4 rfl
  have X0z := X0.lt
  have X1_0 := X1.at_ 0 rfl
  have X1_1 := X1.at_ 1 rfl
  have X1z := X1.lt
  go_wp2_with fail
  have hw3 := X1.lt
  clear X0_0 X0_1 X0_2 X0_3 X0_4 X0z X1_0 X1_1 X1z
  replace X0 := X0.alloc (.cells #[.slice a3 KL.length c3, .slice a4 LL.length c4] 27)
  replace S1 := S1.alloc (.cells #[.slice a3 KL.length c3, .slice a4 LL.length c4] 27)
  replace S2 := S2.alloc (.cells #[.slice a3 KL.length c3, .slice a4 LL.length c4] 27)
  replace X1 := X1.alloc (.cells #[.slice a3 KL.length c3, .slice a4 LL.length c4] 27)
  replace S3 := S3.alloc (.cells #[.slice a3 KL.length c3, .slice a4 LL.length c4] 27)
  replace S4 := S4.alloc (.cells #[.slice a3 KL.length c3, .slice a4 LL.length c4] 27)
  have X2 := Bx.new w3 #[.slice a3 KL.length c3, .slice a4 LL.length c4] 27
  replace hB := balloc hB (.cells #[.slice a3 KL.length c3, .slice a4 LL.length c4] 27)
  have X0_0 := X0.at_ 0 rfl
  have X0_1 := X0.at_ 1 rfl
  have X0_2 := X0.at_ 2 rfl
  have X0_3 := X0.at_ 3 rfl
  have X0_4 := X0.at_ 4 rfl
  have X0z := X0.lt
  have X1_0 := X1.at_ 0 rfl
  have X1_1 := X1.at_ 1 rfl
  have X1z := X1.lt
  have X2_0 := X2.at_ 0 rfl
  have X2_1 := X2.at_ 1 rfl
  have X2z := X2.lt
  have hne : (N0 != N0) = false := by simp
  have hee : (E0 != E0) = false := by simp
  by_cases hz : E0 = 0
  · subst hz
    have hfmt := HOK.out rfl
    have h00 : ((0 : Int) == 0) = true := rfl
    go_wp2_with fail
    refine (ref3_same _ _ _ _ _ _ _ _ _ _ _ _ _ _ _ _ _ (by omega) (by omega) (by omega) (by omega) S1 S2 S3 S4).mono ?_
    rintro e w4 ⟨rfl, hb4⟩
    rw [sameL_iff.2 ⟨rfl, fun _ _ => rfl⟩, sameL_iff.2 ⟨rfl, fun _ _ => rfl⟩]
    clear X0_0 X0_1 X0_2 X0_3 X0_4 X0z X1_0 X1_1 X1z X2_0 X2_1 X2z
    replace X0 := X0.below hb4
    replace S1 := S1.below hb4
    replace S2 := S2.below hb4
    replace X1 := X1.below hb4
    replace S3 := S3.below hb4
    replace S4 := S4.below hb4
    replace X2 := X2.below hb4
    replace hB := bvia hB hb4
    clear hb4
    have X0_0 := X0.at_ 0 rfl
    have X0_1 := X0.at_ 1 rfl
    have X0_2 := X0.at_ 2 rfl
    have X0_3 := X0.at_ 3 rfl
    have X0_4 := X0.at_ 4 rfl
    have X0z := X0.lt
    have X1_0 := X1.at_ 0 rfl
    have X1_1 := X1.at_ 1 rfl
    have X1z := X1.lt
    have X2_0 := X2.at_ 0 rfl
    have X2_1 := X2.at_ 1 rfl
    have X2z := X2.lt
    go_wp2_with fail
    refine (wall_Format wide high a a1 a2 n KL.length LL.length c c1 c2 g _ _ _ (by omega) (by omega) (by omega) (S.below hB) S1 S2).mono ?_
    rintro e w5 ⟨rfl, hb5⟩
    rw [hfmt]
    clear X0_0 X0_1 X0_2 X0_3 X0_4 X0z X1_0 X1_1 X1z X2_0 X2_1 X2z
    replace X0 := X0.below hb5
    replace S1 := S1.below hb5
    replace S2 := S2.below hb5
    replace X1 := X1.below hb5
    replace S3 := S3.below hb5
    replace S4 := S4.below hb5
    replace X2 := X2.below hb5
    replace hB := bvia hB hb5
    clear hb5
    have X0_0 := X0.at_ 0 rfl
    have X0_1 := X0.at_ 1 rfl
    have X0_2 := X0.at_ 2 rfl
    have X0_3 := X0.at_ 3 rfl
    have X0_4 := X0.at_ 4 rfl
    have X0z := X0.lt
    have X1_0 := X1.at_ 0 rfl
    have X1_1 := X1.at_ 1 rfl
    have X1z := X1.lt
    have X2_0 := X2.at_ 0 rfl
    have X2_1 := X2.at_ 1 rfl
    have X2z := X2.lt
    go_wp2_with fail
    refine (hF1 _ (S.below hB) (SK.below hB) (SB.below hB)).mono ?_
    rintro e w6 ⟨rfl, hb6⟩
    clear X0_0 X0_1 X0_2 X0_3 X0_4 X0z X1_0 X1_1 X1z X2_0 X2_1 X2z
    replace X0 := X0.below hb6
    replace S1 := S1.below hb6
    replace S2 := S2.below hb6
    replace X1 := X1.below hb6
    replace S3 := S3.below hb6
    replace S4 := S4.below hb6
    replace X2 := X2.below hb6
    replace hB := bvia hB hb6
    clear hb6
    have X0_0 := X0.at_ 0 rfl
    have X0_1 := X0.at_ 1 rfl
    have X0_2 := X0.at_ 2 rfl
    have X0_3 := X0.at_ 3 rfl
    have X0_4 := X0.at_ 4 rfl
    have X0z := X0.lt
    have X1_0 := X1.at_ 0 rfl
    have X1_1 := X1.at_ 1 rfl
    have X1z := X1.lt
    have X2_0 := X2.at_ 0 rfl
    have X2_1 := X2.at_ 1 rfl
    have X2z := X2.lt
    go_wp2_with fail
    refine (hF2 _ (S.below hB) (SK.below hB) (SB.below hB)).mono ?_
    rintro e w7 ⟨rfl, hb7⟩
    clear X0_0 X0_1 X0_2 X0_3 X0_4 X0z X1_0 X1_1 X1z X2_0 X2_1 X2z
    replace X0 := X0.below hb7
    replace S1 := S1.below hb7
    replace S2 := S2.below hb7
    replace X1 := X1.below hb7
    replace S3 := S3.below hb7
    replace S4 := S4.below hb7
    replace X2 := X2.below hb7
    replace hB := bvia hB hb7
    clear hb7
    have X0_0 := X0.at_ 0 rfl
    have X0_1 := X0.at_ 1 rfl
    have X0_2 := X0.at_ 2 rfl
    have X0_3 := X0.at_ 3 rfl
    have X0_4 := X0.at_ 4 rfl
    have X0z := X0.lt
    have X1_0 := X1.at_ 0 rfl
    have X1_1 := X1.at_ 1 rfl
    have X1z := X1.lt
    have X2_0 := X2.at_ 0 rfl
    have X2_1 := X2.at_ 1 rfl
    have X2z := X2.lt
    cases T with
    | nil =>
      clear hPT hback
      have hem : ((⟨([] : List UInt8).toArray⟩ : ByteArray) == ⟨#[]⟩) = true := rfl
      go_wp2_with fail
      refine (awake_true _).mono ?_
      rintro e w8 ⟨rfl, hb8⟩
      go_wp2_with fail
      go_ret
      exact ⟨rfl, bvia hB hb8⟩
    | cons ch t =>
      obtain ⟨q1, q2, q3, q4, q5, q6⟩ := hback (by simp)
      have q5' := q5.symm
      have q6' := q6.symm
      clear q5 q6
      subst q5'
      subst q6'
      obtain ⟨q7, q8⟩ := same_range q3 rfl
      obtain ⟨q9, q10⟩ := same_range q4 rfl
      clear hback q3 q4
      rw [q1, q2] at hPT
      generalize prsK (validG wide high n g) wide.toNat high.toNat (ch :: t) = KT at *
      generalize prsL (validG wide high n g) wide.toNat high.toNat (ch :: t) = LT at *
      clear q1 q2
      have Q8 := hid q8; have Q10 := hid q10
      clear q8 q10
      generalize hT : ch :: t = T at *
      have HPT := hid hPT
      clear hPT
      have hem : T.isEmpty = false := by subst hT; rfl
      clear hT
      go_wp2_with fail
      refine (HPT.out _ (S.below hB)).mono ?_
      rintro e w8 ⟨a5, c5, a6, c6, rfl, S5, S6, hb8⟩
      rw [q7] at S5
      rw [q9] at S6
      clear S1 S2 S3 S4
      clear X0_0 X0_1 X0_2 X0_3 X0_4 X0z X1_0 X1_1 X1z X2_0 X2_1 X2z
      replace X0 := X0.below hb8
      replace X1 := X1.below hb8
      replace X2 := X2.below hb8
      replace hB := bvia hB hb8
      clear hb8
      have X0_0 := X0.at_ 0 rfl
      have X0_1 := X0.at_ 1 rfl
      have X0_2 := X0.at_ 2 rfl
      have X0_3 := X0.at_ 3 rfl
      have X0_4 := X0.at_ 4 rfl
      have X0z := X0.lt
      have X1_0 := X1.at_ 0 rfl
      have X1_1 := X1.at_ 1 rfl
      have X1z := X1.lt
      have X2_0 := X2.at_ 0 rfl
      have X2_1 := X2.at_ 1 rfl
      have X2z := X2.lt
      have X1f := X1.free
      go_wp2_with fail
      clear X0_0 X0_1 X0_2 X0_3 X0_4 X0z X1_0 X1_1 X1z X2_0 X2_1 X2z
      clear X1f
      replace X0 := (X0.far (p := ⟨w2.heap.size, 0, none⟩) (by simp; omega) (.slice a5 n c5)).far (p := ⟨w2.heap.size, 1, none⟩) (by simp; omega) (.slice a6 n c6)
      replace X2 := (X2.far (p := ⟨w2.heap.size, 0, none⟩) (by simp; omega) (.slice a5 n c5)).far (p := ⟨w2.heap.size, 1, none⟩) (by simp; omega) (.slice a6 n c6)
      replace S5 := S5.set2 X1 (.slice a5 n c5) (.slice a6 n c6)
      replace S6 := S6.set2 X1 (.slice a5 n c5) (.slice a6 n c6)
      replace X1 := X1.two (y0 := .slice a5 n c5) (y1 := .slice a6 n c6)
      replace hB := bset (bset hB (p := ⟨w2.heap.size, 0, none⟩) (by first | exact Nat.le_refl _ | (simp; omega)) (.slice a5 n c5)) (p := ⟨w2.heap.size, 1, none⟩) (by first | exact Nat.le_refl _ | (simp; omega)) (.slice a6 n c6)
      refine (ref3_same _ _ _ _ _ _ _ _ _ _ _ _ _ _ _ _ _ (by omega) (by omega) (by omega) (by omega) S5 S6 (SK.below hB) (SB.below hB)).mono ?_
      rintro e w9 ⟨rfl, hb9⟩
      rw [sameL_iff.2 ⟨rfl, fun k hk => Q8.out k (by omega)⟩, sameL_iff.2 ⟨rfl, fun k hk => Q10.out k (by omega)⟩]
      replace X0 := X0.below hb9
      replace X1 := X1.below hb9
      replace X2 := X2.below hb9
      replace S5 := S5.below hb9
      replace S6 := S6.below hb9
      replace hB := bvia hB hb9
      clear hb9
      have X0_0 := X0.at_ 0 rfl
      have X0_1 := X0.at_ 1 rfl
      have X0_2 := X0.at_ 2 rfl
      have X0_3 := X0.at_ 3 rfl
      have X0_4 := X0.at_ 4 rfl
      have X0z := X0.lt
      have X1_0 := X1.at_ 0 rfl
      have X1_1 := X1.at_ 1 rfl
      have X1z := X1.lt
      go_wp2_with fail
      refine (awake_true _).mono ?_
      rintro e w10 ⟨rfl, hb10⟩
      go_wp2_with fail
      go_ret
      exact ⟨rfl, bvia hB hb10⟩
  · have hzb : (E0 == 0) = false := by simpa using hz
    clear hz
    go_wp2_with fail
    refine (ref3_same _ _ _ _ _ _ _ _ _ _ _ _ _ _ _ _ _ (by omega) (by omega) (by omega) (by omega) S1 S2 S3 S4).mono ?_
    rintro e w4 ⟨rfl, hb4⟩
    rw [sameL_iff.2 ⟨rfl, fun _ _ => rfl⟩, sameL_iff.2 ⟨rfl, fun _ _ => rfl⟩]
    clear X0_0 X0_1 X0_2 X0_3 X0_4 X0z X1_0 X1_1 X1z X2_0 X2_1 X2z
    replace X0 := X0.below hb4
    replace S1 := S1.below hb4
    replace S2 := S2.below hb4
    replace X1 := X1.below hb4
    replace S3 := S3.below hb4
    replace S4 := S4.below hb4
    replace X2 := X2.below hb4
    replace hB := bvia hB hb4
    clear hb4
    have X0_0 := X0.at_ 0 rfl
    have X0_1 := X0.at_ 1 rfl
    have X0_2 := X0.at_ 2 rfl
    have X0_3 := X0.at_ 3 rfl
    have X0_4 := X0.at_ 4 rfl
    have X0z := X0.lt
    have X1_0 := X1.at_ 0 rfl
    have X1_1 := X1.at_ 1 rfl
    have X1z := X1.lt
    have X2_0 := X2.at_ 0 rfl
    have X2_1 := X2.at_ 1 rfl
    have X2z := X2.lt
    go_wp2_with fail
    refine (hF1 _ (S.below hB) (SK.below hB) (SB.below hB)).mono ?_
    rintro e w6 ⟨rfl, hb6⟩
    clear X0_0 X0_1 X0_2 X0_3 X0_4 X0z X1_0 X1_1 X1z X2_0 X2_1 X2z
    replace X0 := X0.below hb6
    replace S1 := S1.below hb6
    replace S2 := S2.below hb6
    replace X1 := X1.below hb6
    replace S3 := S3.below hb6
    replace S4 := S4.below hb6
    replace X2 := X2.below hb6
    replace hB := bvia hB hb6
    clear hb6
    have X0_0 := X0.at_ 0 rfl
    have X0_1 := X0.at_ 1 rfl
    have X0_2 := X0.at_ 2 rfl
    have X0_3 := X0.at_ 3 rfl
    have X0_4 := X0.at_ 4 rfl
    have X0z := X0.lt
    have X1_0 := X1.at_ 0 rfl
    have X1_1 := X1.at_ 1 rfl
    have X1z := X1.lt
    have X2_0 := X2.at_ 0 rfl
    have X2_1 := X2.at_ 1 rfl
    have X2z := X2.lt
    go_wp2_with fail
    refine (hF2 _ (S.below hB) (SK.below hB) (SB.below hB)).mono ?_
    rintro e w7 ⟨rfl, hb7⟩
    clear X0_0 X0_1 X0_2 X0_3 X0_4 X0z X1_0 X1_1 X1z X2_0 X2_1 X2z
    replace X0 := X0.below hb7
    replace S1 := S1.below hb7
    replace S2 := S2.below hb7
    replace X1 := X1.below hb7
    replace S3 := S3.below hb7
    replace S4 := S4.below hb7
    replace X2 := X2.below hb7
    replace hB := bvia hB hb7
    clear hb7
    have X0_0 := X0.at_ 0 rfl
    have X0_1 := X0.at_ 1 rfl
    have X0_2 := X0.at_ 2 rfl
    have X0_3 := X0.at_ 3 rfl
    have X0_4 := X0.at_ 4 rfl
    have X0z := X0.lt
    have X1_0 := X1.at_ 0 rfl
    have X1_1 := X1.at_ 1 rfl
    have X1z := X1.lt
    have X2_0 := X2.at_ 0 rfl
    have X2_1 := X2.at_ 1 rfl
    have X2z := X2.lt
    cases T with
    | nil =>
      clear hPT hback
      have hem : ((⟨([] : List UInt8).toArray⟩ : ByteArray) == ⟨#[]⟩) = true := rfl
      go_wp2_with fail
      refine (awake_true _).mono ?_
      rintro e w8 ⟨rfl, hb8⟩
      go_wp2_with fail
      go_ret
      exact ⟨rfl, bvia hB hb8⟩
    | cons ch t =>
      obtain ⟨q1, q2, q3, q4, q5, q6⟩ := hback (by simp)
      have q5' := q5.symm
      have q6' := q6.symm
      clear q5 q6
      subst q5'
      subst q6'
      obtain ⟨q7, q8⟩ := same_range q3 rfl
      obtain ⟨q9, q10⟩ := same_range q4 rfl
      clear hback q3 q4
      rw [q1, q2] at hPT
      generalize prsK (validG wide high n g) wide.toNat high.toNat (ch :: t) = KT at *
      generalize prsL (validG wide high n g) wide.toNat high.toNat (ch :: t) = LT at *
      clear q1 q2
      have Q8 := hid q8; have Q10 := hid q10
      clear q8 q10
      generalize hT : ch :: t = T at *
      have HPT := hid hPT
      clear hPT
      have hem : T.isEmpty = false := by subst hT; rfl
      clear hT
      go_wp2_with fail
      refine (HPT.out _ (S.below hB)).mono ?_
      rintro e w8 ⟨a5, c5, a6, c6, rfl, S5, S6, hb8⟩
      rw [q7] at S5
      rw [q9] at S6
      clear S1 S2 S3 S4
      clear X0_0 X0_1 X0_2 X0_3 X0_4 X0z X1_0 X1_1 X1z X2_0 X2_1 X2z
      replace X0 := X0.below hb8
      replace X1 := X1.below hb8
      replace X2 := X2.below hb8
      replace hB := bvia hB hb8
      clear hb8
      have X0_0 := X0.at_ 0 rfl
      have X0_1 := X0.at_ 1 rfl
      have X0_2 := X0.at_ 2 rfl
      have X0_3 := X0.at_ 3 rfl
      have X0_4 := X0.at_ 4 rfl
      have X0z := X0.lt
      have X1_0 := X1.at_ 0 rfl
      have X1_1 := X1.at_ 1 rfl
      have X1z := X1.lt
      have X2_0 := X2.at_ 0 rfl
      have X2_1 := X2.at_ 1 rfl
      have X2z := X2.lt
      have X1f := X1.free
      go_wp2_with fail
      clear X0_0 X0_1 X0_2 X0_3 X0_4 X0z X1_0 X1_1 X1z X2_0 X2_1 X2z
      clear X1f
      replace X0 := (X0.far (p := ⟨w2.heap.size, 0, none⟩) (by simp; omega) (.slice a5 n c5)).far (p := ⟨w2.heap.size, 1, none⟩) (by simp; omega) (.slice a6 n c6)
      replace X2 := (X2.far (p := ⟨w2.heap.size, 0, none⟩) (by simp; omega) (.slice a5 n c5)).far (p := ⟨w2.heap.size, 1, none⟩) (by simp; omega) (.slice a6 n c6)
      replace S5 := S5.set2 X1 (.slice a5 n c5) (.slice a6 n c6)
      replace S6 := S6.set2 X1 (.slice a5 n c5) (.slice a6 n c6)
      replace X1 := X1.two (y0 := .slice a5 n c5) (y1 := .slice a6 n c6)
      replace hB := bset (bset hB (p := ⟨w2.heap.size, 0, none⟩) (by first | exact Nat.le_refl _ | (simp; omega)) (.slice a5 n c5)) (p := ⟨w2.heap.size, 1, none⟩) (by first | exact Nat.le_refl _ | (simp; omega)) (.slice a6 n c6)
      refine (ref3_same _ _ _ _ _ _ _ _ _ _ _ _ _ _ _ _ _ (by omega) (by omega) (by omega) (by omega) S5 S6 (SK.below hB) (SB.below hB)).mono ?_
      rintro e w9 ⟨rfl, hb9⟩
      rw [sameL_iff.2 ⟨rfl, fun k hk => Q8.out k (by omega)⟩, sameL_iff.2 ⟨rfl, fun k hk => Q10.out k (by omega)⟩]
      replace X0 := X0.below hb9
      replace X1 := X1.below hb9
      replace X2 := X2.below hb9
      replace S5 := S5.below hb9
      replace S6 := S6.below hb9
      replace hB := bvia hB hb9
      clear hb9
      have X0_0 := X0.at_ 0 rfl
      have X0_1 := X0.at_ 1 rfl
      have X0_2 := X0.at_ 2 rfl
      have X0_3 := X0.at_ 3 rfl
      have X0_4 := X0.at_ 4 rfl
      have X0z := X0.lt
      have X1_0 := X1.at_ 0 rfl
      have X1_1 := X1.at_ 1 rfl
      have X1z := X1.lt
      go_wp2_with fail
      refine (awake_true _).mono ?_
      rintro e w10 ⟨rfl, hb10⟩
      go_wp2_with fail
      go_ret
      exact ⟨rfl, bvia hB hb10⟩
end Go.Proofs.Ythlbmlfkmfheiaa
