/- The walk of the law WallRemoves. -/
import Derived.Test.YtnnaegnkkpknpaaRClo
import Derived.Test.YtnnaegnkkpknpaaRMir
import Derived.Test.YtnnaegnkkpknpaaRRem
import Derived.Test.YtnnaegnkkpknpaaSends
namespace Go.Proofs.Ytnnaegnkkpknpaa
open Go Go.RowKit
set_option linter.unusedVariables false
theorem sameL_two (n : Nat) (f g : Nat → Int) : (sameL n f n f && sameL n g n g) = true := by
  rw [sameL_iff.2 ⟨rfl, fun _ _ => rfl⟩, sameL_iff.2 ⟨rfl, fun _ _ => rfl⟩]; rfl
theorem sameL_one (n : Nat) (f : Nat → Int) : sameL n f n f = true := sameL_iff.2 ⟨rfl, fun _ _ => rfl⟩
theorem remL_le (v : Bool) (e : Int) (n : Nat) : remL v e n ≤ n := by unfold remL; split <;> omega
theorem mirL_le (v : Bool) (n : Nat) : mirL v n ≤ n := by unfold mirL; split <;> omega
theorem rem_both (wide high body : Int) (n nk nb : Nat) (g : Nat → C4) (K B : Nat → Int) (hn : n ≤ 100000) (hnk : nk ≤ 100000) (hnb : nb ≤ 100000) :
    ∃ (er : Int) (ln : Nat) (KF BF : Nat → Int), ln ≤ n ∧ ∀ (a ak ab : Option Addr) (c ck cb : Nat) (w : World), Sc w a n g → Sl w ak nk K → Sl w ab nb B →
      Calls Try.prog 39 #[.agg #[.int .i64 wide, .int .i64 high, .slice a n c], .agg #[.slice ak nk ck, .slice ab nb cb], .int .i64 body] w (WallPost er ln KF BF w) ∧ Calls Try.prog 40 #[.agg #[.int .i64 wide, .int .i64 high, .slice a n c], .agg #[.slice ak nk ck, .slice ab nb cb], .int .i64 body] w (WallPost er ln KF BF w) :=
  ⟨_, _, _, _, remL_le _ _ _, fun a ak ab c ck cb w H HK HB => ⟨wall_Removed wide high body a ak ab n nk nb c ck cb g K B w hn hnk hnb H HK HB, ref3_Removed wide high body a ak ab n nk nb c ck cb g K B w hn hnk hnb H HK HB⟩⟩
theorem mir_both (wide high : Int) (n nk nb : Nat) (g : Nat → C4) (K B : Nat → Int) (hn : n ≤ 100000) (hnk : nk ≤ 100000) (hnb : nb ≤ 100000) :
    ∃ (er : Int) (ln : Nat) (KF BF : Nat → Int), ln ≤ n ∧ ∀ (a ak ab : Option Addr) (c ck cb : Nat) (w : World), Sc w a n g → Sl w ak nk K → Sl w ab nb B →
      Calls Try.prog 41 #[.agg #[.int .i64 wide, .int .i64 high, .slice a n c], .agg #[.slice ak nk ck, .slice ab nb cb]] w (WallPost er ln KF BF w) ∧ Calls Try.prog 42 #[.agg #[.int .i64 wide, .int .i64 high, .slice a n c], .agg #[.slice ak nk ck, .slice ab nb cb]] w (WallPost er ln KF BF w) :=
  ⟨_, _, _, _, mirL_le _ _, fun a ak ab c ck cb w H HK HB => ⟨wall_Mirrored wide high a ak ab n nk nb c ck cb g K B w hn hnk hnb H HK HB, ref3_Mirrored wide high a ak ab n nk nb c ck cb g K B w hn hnk hnb H HK HB⟩⟩
theorem clPost_list {er : Int} {R : Nat → Prop} {n : Nat} {w w' : World} {e : Ending} (T : Nat → Bool) (hT : ∀ j, T j = true ↔ R j) (h : ClPost er R n w e w') : ListPost (if er = 0 then ownL (ind T) 1 n else []) er w e w' := by
  by_cases he : er = 0
  · obtain ⟨S, hS, hL⟩ := h.2 he
    have : S = T := by funext j; rw [Bool.eq_iff_iff, hS, hT]
    subst this he
    simpa using hL
  · rw [if_neg he]; exact h.1 he
theorem clo_both (wide high : Int) (p : Int × Int) (n nk nb : Nat) (g : Nat → C4) (K B : Nat → Int) (hn : n ≤ 100000) (hnk : nk ≤ 100000) (hnb : nb ≤ 100000) :
    ∃ (er : Int) (L : List Int), L.length ≤ n ∧ ∀ (a ak ab : Option Addr) (c ck cb : Nat) (w : World), Sc w a n g → Sl w ak nk K → Sl w ab nb B →
      Calls Try.prog 43 #[.agg #[.int .i64 wide, .int .i64 high, .slice a n c], .agg #[.slice ak nk ck, .slice ab nb cb], .agg #[.int .i64 p.1, .int .i64 p.2]] w (ListPost L er w) ∧ Calls Try.prog 44 #[.agg #[.int .i64 wide, .int .i64 high, .slice a n c], .agg #[.slice ak nk ck, .slice ab nb cb], .agg #[.int .i64 p.1, .int .i64 p.2]] w (ListPost L er w) := by
  have hT : ∀ j, (fun j => @decide (Rch K wide.toNat high.toNat (p.1 + wide * p.2).toNat j) (Classical.propDecidable _)) j = true ↔ Rch K wide.toNat high.toNat (p.1 + wide * p.2).toNat j := fun j => by simp
  refine ⟨clE (validW wide high n g nk nb K B) wide high p K, if clE (validW wide high n g nk nb K B) wide high p K = 0 then ownL (ind (fun j => @decide (Rch K wide.toNat high.toNat (p.1 + wide * p.2).toNat j) (Classical.propDecidable _))) 1 n else [], ?_, fun a ak ab c ck cb w H HK HB => ⟨?_, ?_⟩⟩
  rotate_left
  · exact (wall_Closed wide high p a ak ab n nk nb c ck cb g K B w hn hnk hnb H HK HB).mono fun e w' h => clPost_list _ hT h
  · exact (ref3_Closed wide high p a ak ab n nk nb c ck cb g K B w hn hnk hnb H HK HB).mono fun e w' h => clPost_list _ hT h
  · split
    · exact ownL_length _ _ _
    · simp
set_option maxRecDepth 100000 in
set_option maxHeartbeats 8000000 in
theorem walk_removes (wide high body : Int) (p : Int × Int) (a ak ab : Option Addr) (n nk nb c ck cb : Nat) (g : Nat → C4) (K B : Nat → Int) (w : World) (hn : n ≤ maxLen) (hk : nk ≤ maxLen) (hb : nb ≤ maxLen) (H : Sc w a n g) (HK : Sl w ak nk K) (HB : Sl w ab nb B) :
    Calls Try.prog 7 #[.agg #[.int .i64 wide, .int .i64 high, .slice a n c, .slice ak nk ck, .slice ab nb cb], .int .i64 body, .agg #[.int .i64 p.1, .int .i64 p.2]] w
    fun e w' => e = .returned (.bool true) ∧ Below w.heap.size w w' := by
  cases hs : smallB n nk nb 300
  · go_enter Try.func7, Try.ntmps7
    go_wp2_with fail
    refine (law3_small _ _ _ _ _ _ _ _ _ _ _ _ _ hn hk hb).mono ?_
    rintro e w1 ⟨rfl, hb1⟩
    rw [hs]
    go_wp2_with (go_at_call 16; refine (awake_true _).mono ?_; rintro e w2 ⟨rfl, hb2⟩)
    go_ret
    exact ⟨rfl, bvia (bvia (by (repeat' (first | with_reducible assumption | with_reducible exact Below.refl _ _ | with_reducible refine Below.drew ?_ | with_reducible refine below_drewN ?_ _ | with_reducible refine balloc ?_ _ | with_reducible refine bset ?_ ?_ _ | with_reducible refine Below.setCell ?_ ?_ _ | with_reducible refine Below.alloc ?_ ?_ _ | omega | (simp; done) | (simp; omega)))) hb1) hb2⟩
  have hsm : n ≤ 300 ∧ nk ≤ 300 ∧ nb ≤ 300 := by simp [smallB] at hs; omega
  obtain ⟨n1, n2, n3⟩ := hsm
  have HS := hid hs; clear hs
  have X0 := (Bx.new w #[.int .i64 wide, .int .i64 high, .slice a n c, .slice ak nk ck, .slice ab nb cb] 29).alloc (.cells #[.int .i64 p.1, .int .i64 p.2] 51)
  have X1 := Bx.new (w.alloc (.cells #[.int .i64 wide, .int .i64 high, .slice a n c, .slice ak nk ck, .slice ab nb cb] 29)) #[.int .i64 p.1, .int .i64 p.2] 51
  simp only [World.size_alloc] at X1
  have hB0 : Below w.heap.size w ((w.alloc (.cells #[.int .i64 wide, .int .i64 high, .slice a n c, .slice ak nk ck, .slice ab nb cb] 29)).alloc (.cells #[.int .i64 p.1, .int .i64 p.2] 51)) := by (repeat' (first | with_reducible assumption | with_reducible exact Below.refl _ _ | with_reducible refine Below.drew ?_ | with_reducible refine below_drewN ?_ _ | with_reducible refine balloc ?_ _ | with_reducible refine bset ?_ ?_ _ | with_reducible refine Below.setCell ?_ ?_ _ | with_reducible refine Below.alloc ?_ ?_ _ | omega | (simp; done) | (simp; omega)))
  go_enter Try.func7, Try.ntmps7
  go_wp2_with fail
  generalize ((w.alloc (.cells #[.int .i64 wide, .int .i64 high, .slice a n c, .slice ak nk ck, .slice ab nb cb] 29)).alloc (.cells #[.int .i64 p.1, .int .i64 p.2] 51)) = W0 at X0 X1 hB0 ⊢
  have z0 := X0.lt
  have z1 := X1.lt
  refine (law3_small _ _ _ _ _ _ _ _ _ _ _ _ _ hn hk hb).mono ?_
  rintro e w1 ⟨rfl, hb1⟩
  rw [HS.out]
  have J := H.below hB0; have K0 := HK.below hB0; have L := HB.below hB0; have X := X0; have Z := X1
  have hB := hB0
  clear X0 X1 z0 z1 hB0
  replace X := X.below hb1
  replace Z := Z.below hb1
  replace J := J.below hb1
  replace K0 := K0.below hb1
  replace L := L.below hb1
  replace hB := bvia hB hb1
  clear hb1
  have hBw := hB
  clear hB
  have hB : Below w1.heap.size w1 w1 := Below.refl _ _
  obtain ⟨er, ln, KF, BF, hln, both⟩ := rem_both wide high body n nk nb g K B (by omega) (by omega) (by omega)
  have p0 := (X.below hB).at_ 0 rfl; have p1 := (X.below hB).at_ 1 rfl; have p2 := (X.below hB).at_ 2 rfl; have p3 := (X.below hB).at_ 3 rfl; have p4 := (X.below hB).at_ 4 rfl; have zx := (X.below hB).lt
  have s0 := (Z.below hB).at_ 0 rfl; have s1 := (Z.below hB).at_ 1 rfl; have zs := (Z.below hB).lt
  go_wp2_with fail
  clear p0 p1 p2 p3 p4 zx s0 s1 zs
  refine (both _ _ _ _ _ _ _ (J.below hB) (K0.below hB) (L.below hB)).1.mono ?_
  rintro e w2 ⟨a1, a1', c1, c1', rfl, S1, S1', hb2⟩
  have hz21 := hb2.size
  replace hB := bvia hB hb2
  clear hb2
  replace S1 := S1.alloc (.cells #[.slice a1 ln c1, .slice a1' ln c1'] 27)
  replace S1' := S1'.alloc (.cells #[.slice a1 ln c1, .slice a1' ln c1'] 27)
  have A := Bx.new w2 #[.slice a1 ln c1, .slice a1' ln c1'] 27
  replace hB := balloc hB (.cells #[.slice a1 ln c1, .slice a1' ln c1'] 27)
  have p0 := (X.below hB).at_ 0 rfl; have p1 := (X.below hB).at_ 1 rfl; have p2 := (X.below hB).at_ 2 rfl; have p3 := (X.below hB).at_ 3 rfl; have p4 := (X.below hB).at_ 4 rfl; have zx := (X.below hB).lt
  have s0 := (Z.below hB).at_ 0 rfl; have s1 := (Z.below hB).at_ 1 rfl; have zs := (Z.below hB).lt
  go_wp2_with fail
  clear p0 p1 p2 p3 p4 zx s0 s1 zs
  refine (both _ _ _ _ _ _ _ (J.below hB) (K0.below hB) (L.below hB)).2.mono ?_
  rintro e w3 ⟨a2, a2', c2, c2', rfl, S2, S2', hb3⟩
  clear both
  replace S1 := S1.below hb3
  replace S1' := S1'.below hb3
  replace A := A.below hb3
  replace hB := bvia hB hb3
  clear hb3
  have hz32 := A.lt
  have q0 := A.at_ 0 rfl; have q1 := A.at_ 1 rfl; have zq := A.lt; have qf := A.3
  replace S1 := S1.alloc (.cells #[.slice a2 ln c2, .slice a2' ln c2'] 27)
  replace S1' := S1'.alloc (.cells #[.slice a2 ln c2, .slice a2' ln c2'] 27)
  replace A := A.alloc (.cells #[.slice a2 ln c2, .slice a2' ln c2'] 27)
  replace S2 := S2.alloc (.cells #[.slice a2 ln c2, .slice a2' ln c2'] 27)
  replace S2' := S2'.alloc (.cells #[.slice a2 ln c2, .slice a2' ln c2'] 27)
  have B3 := Bx.new w3 #[.slice a2 ln c2, .slice a2' ln c2'] 27
  replace hB := balloc hB (.cells #[.slice a2 ln c2, .slice a2' ln c2'] 27)
  go_wp2_with fail
  clear q0 q1 zq qf
  refine (ref3_same _ _ _ _ _ _ _ _ _ _ _ _ _ _ _ _ _ (by omega) (by omega) (by omega) (by omega) S1 S1' S2 S2').mono ?_
  rintro e w5 ⟨rfl, hb5⟩
  rw [sameL_two]
  replace A := A.below hb5
  replace B3 := B3.below hb5
  replace hB := bvia hB hb5
  clear hb5
  clear S1 S1' S2 S2'
  obtain ⟨er', ln', KF', BF', hln', both⟩ := mir_both wide high n nk nb g K B (by omega) (by omega) (by omega)
  have p0 := (X.below hB).at_ 0 rfl; have p1 := (X.below hB).at_ 1 rfl; have p2 := (X.below hB).at_ 2 rfl; have p3 := (X.below hB).at_ 3 rfl; have p4 := (X.below hB).at_ 4 rfl; have zx := (X.below hB).lt
  have s0 := (Z.below hB).at_ 0 rfl; have s1 := (Z.below hB).at_ 1 rfl; have zs := (Z.below hB).lt
  go_wp2_with fail
  clear p0 p1 p2 p3 p4 zx s0 s1 zs
  refine (both _ _ _ _ _ _ _ (J.below hB) (K0.below hB) (L.below hB)).1.mono ?_
  rintro e w6 ⟨a3, a3', c3, c3', rfl, S3, S3', hb6⟩
  replace A := A.below hb6
  replace B3 := B3.below hb6
  replace hB := bvia hB hb6
  clear hb6
  have q0 := A.at_ 0 rfl; have q1 := A.at_ 1 rfl; have zq := A.lt; have qf := A.3
  replace B3 := (B3.far (p := ⟨w2.heap.size, 0, none⟩) (by simp; omega) (.slice a3 ln' c3)).far (p := ⟨w2.heap.size, 1, none⟩) (by simp; omega) (.slice a3' ln' c3')
  replace S3 := S3.set2 A (.slice a3 ln' c3) (.slice a3' ln' c3')
  replace S3' := S3'.set2 A (.slice a3 ln' c3) (.slice a3' ln' c3')
  replace A := A.two (y0 := .slice a3 ln' c3) (y1 := .slice a3' ln' c3')
  replace hB := bset (bset hB (p := ⟨w2.heap.size, 0, none⟩) (by first | exact Nat.le_refl _ | (simp; omega)) (.slice a3 ln' c3)) (p := ⟨w2.heap.size, 1, none⟩) (by first | exact Nat.le_refl _ | (simp; omega)) (.slice a3' ln' c3')
  have p0 := (X.below hB).at_ 0 rfl; have p1 := (X.below hB).at_ 1 rfl; have p2 := (X.below hB).at_ 2 rfl; have p3 := (X.below hB).at_ 3 rfl; have p4 := (X.below hB).at_ 4 rfl; have zx := (X.below hB).lt
  have s0 := (Z.below hB).at_ 0 rfl; have s1 := (Z.below hB).at_ 1 rfl; have zs := (Z.below hB).lt
  go_wp2_with fail
  clear p0 p1 p2 p3 p4 zx s0 s1 zs
  refine (both _ _ _ _ _ _ _ (J.below hB) (K0.below hB) (L.below hB)).2.mono ?_
  rintro e w7 ⟨a4, a4', c4, c4', rfl, S4, S4', hb7⟩
  clear both q0 q1 zq qf
  replace A := A.below hb7
  replace B3 := B3.below hb7
  replace S3 := S3.below hb7
  replace S3' := S3'.below hb7
  replace hB := bvia hB hb7
  clear hb7
  have q0 := B3.at_ 0 rfl; have q1 := B3.at_ 1 rfl; have zq := B3.lt; have qf := B3.3
  replace A := (A.far (p := ⟨w3.heap.size, 0, none⟩) (by simp; omega) (.slice a4 ln' c4)).far (p := ⟨w3.heap.size, 1, none⟩) (by simp; omega) (.slice a4' ln' c4')
  replace S3 := S3.set2 B3 (.slice a4 ln' c4) (.slice a4' ln' c4')
  replace S3' := S3'.set2 B3 (.slice a4 ln' c4) (.slice a4' ln' c4')
  replace S4 := S4.set2 B3 (.slice a4 ln' c4) (.slice a4' ln' c4')
  replace S4' := S4'.set2 B3 (.slice a4 ln' c4) (.slice a4' ln' c4')
  replace B3 := B3.two (y0 := .slice a4 ln' c4) (y1 := .slice a4' ln' c4')
  replace hB := bset (bset hB (p := ⟨w3.heap.size, 0, none⟩) (by first | exact Nat.le_refl _ | (simp; omega)) (.slice a4 ln' c4)) (p := ⟨w3.heap.size, 1, none⟩) (by first | exact Nat.le_refl _ | (simp; omega)) (.slice a4' ln' c4')
  have u0 := A.at_ 0 rfl; have u1 := A.at_ 1 rfl; have zu := A.lt
  go_wp2_with fail
  clear q0 q1 zq qf u0 u1 zu
  refine (ref3_same _ _ _ _ _ _ _ _ _ _ _ _ _ _ _ _ _ (by omega) (by omega) (by omega) (by omega) S3 S3' S4 S4').mono ?_
  rintro e w8 ⟨rfl, hb8⟩
  rw [sameL_two]
  replace hB := bvia hB hb8
  clear hb8
  clear S3 S3' S4 S4' A B3
  obtain ⟨erc, Lc, hlc, both⟩ := clo_both wide high p n nk nb g K B (by omega) (by omega) (by omega)
  have p0 := (X.below hB).at_ 0 rfl; have p1 := (X.below hB).at_ 1 rfl; have p2 := (X.below hB).at_ 2 rfl; have p3 := (X.below hB).at_ 3 rfl; have p4 := (X.below hB).at_ 4 rfl; have zx := (X.below hB).lt
  have s0 := (Z.below hB).at_ 0 rfl; have s1 := (Z.below hB).at_ 1 rfl; have zs := (Z.below hB).lt
  go_wp2_with fail
  clear p0 p1 p2 p3 p4 zx s0 s1 zs
  refine (both _ _ _ _ _ _ _ (J.below hB) (K0.below hB) (L.below hB)).1.mono ?_
  rintro e w9 ⟨a5, c5, rfl, S5, hb9⟩
  replace hB := bvia hB hb9
  clear hb9
  have p0 := (X.below hB).at_ 0 rfl; have p1 := (X.below hB).at_ 1 rfl; have p2 := (X.below hB).at_ 2 rfl; have p3 := (X.below hB).at_ 3 rfl; have p4 := (X.below hB).at_ 4 rfl; have zx := (X.below hB).lt
  have s0 := (Z.below hB).at_ 0 rfl; have s1 := (Z.below hB).at_ 1 rfl; have zs := (Z.below hB).lt
  go_wp2_with fail
  clear p0 p1 p2 p3 p4 zx s0 s1 zs
  refine (both _ _ _ _ _ _ _ (J.below hB) (K0.below hB) (L.below hB)).2.mono ?_
  rintro e w10 ⟨a6, c6, rfl, S6, hb10⟩
  clear both
  replace S5 := S5.below hb10
  replace hB := bvia hB hb10
  clear hb10
  go_wp2_with fail
  refine (ref1_sameInts _ _ _ _ _ _ _ _ _ (by omega) (by omega) S5 S6).mono ?_
  rintro e w11 ⟨rfl, hb11⟩
  rw [sameL_one]
  clear S5 S6
  replace hB := bvia hB hb11
  clear hb11
  go_wp2_with (go_at_call 16; refine (awake_true _).mono ?_; rintro e w12 ⟨rfl, hb12⟩)
  go_ret
  exact ⟨rfl, bvia (bvia hBw hB) hb12⟩
end Go.Proofs.Ytnnaegnkkpknpaa
