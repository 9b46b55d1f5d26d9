/- The walk of the law WallShapes. -/
import Derived.Test.YtnnaegnkkpknpaaShapeEq
import Derived.Test.YtnnaegnkkpknpaaSends
namespace Go.Proofs.Ytnnaegnkkpknpaa
open Go Go.RowKit
set_option linter.unusedVariables false
def shErr (e0 : Int) (s B : Nat → Int) (body : Int) (n : Nat) : Int := if e0 = 0 then putErr s B body n else e0
def shLen (e0 : Int) (s B : Nat → Int) (body : Int) (n : Nat) : Nat := if e0 = 0 then putLen s B body n else 0
theorem shape_flat {e0 : Int} {s K B : Nat → Int} {body : Int} {n : Nat} {w w' : World} {e : Ending} (h : ShapePost e0 s body n K B w e w') : WallPost (shErr e0 s B body n) (shLen e0 s B body n) (putTo s K s n) (putTo s B (fun _ => body) n) w e w' := by
  by_cases h0 : e0 = 0
  · rw [shErr, shLen, if_pos h0, if_pos h0]; exact h.1 h0
  · rw [shErr, shLen, if_neg h0, if_neg h0]
    obtain ⟨a, a', c, c', he, _, _, hb⟩ := h.2 h0
    exact ⟨a, a', c, c', he, fun k hk => by omega, fun k hk => by omega, hb⟩
theorem shLen_le (e0 : Int) (s B : Nat → Int) (body : Int) (n : Nat) : shLen e0 s B body n ≤ n := by
  unfold shLen; split
  · exact putLen_le _ _ _ _
  · omega
section
variable (wide high : Int) (a ak ab : Option Addr) (n nk nb c ck cb : Nat) (g : Nat → C4) (K B : Nat → Int) (w : World) (hn : n ≤ 100000) (hnk : nk ≤ 100000) (hnb : nb ≤ 100000) (H : Sc w a n g) (HK : Sl w ak nk K) (HB : Sl w ab nb B)
include hn hnk hnb H HK HB
theorem wall_Box' (kind body : Int) (p q : Int × Int) :
    Calls Try.prog 31 #[.agg #[.int .i64 wide, .int .i64 high, .slice a n c], .agg #[.slice ak nk ck, .slice ab nb cb], .agg #[.int .i64 p.1, .int .i64 p.2], .agg #[.int .i64 q.1, .int .i64 q.2], .int .i64 kind, .int .i64 body] w
      (WallPost (shErr (readyE (validW wide high n g nk nb K B) (allOn wide high (pts2 p q) (within kind 1 3) 2) body) (boxS wide p q kind) B body n) (shLen (readyE (validW wide high n g nk nb K B) (allOn wide high (pts2 p q) (within kind 1 3) 2) body) (boxS wide p q kind) B body n) (putTo (boxS wide p q kind) K (boxS wide p q kind) n) (putTo (boxS wide p q kind) B (fun _ => body) n) w) := by
  refine (wall_Box wide high kind body p q a ak ab n nk nb c ck cb g K B w hn hnk hnb H HK HB).mono fun e w' h => shape_flat (shape_of_brick h fun h0 => ?_)
  obtain ⟨hV, hO, hW⟩ := readyE_zero h0
  obtain ⟨hG, _, _, _⟩ := (validW_iff ..).1 hV
  obtain ⟨v1, _, _, _, _, v6, _, _⟩ := (validG_iff ..).1 hG
  simp only [allOn, Bool.and_eq_true] at hO
  have hk := (within_iff _ _ _).1 hO.1.1
  exact box_agree v1 v6 (by omega)
theorem ref3_Box' (kind body : Int) (p q : Int × Int) :
    Calls Try.prog 32 #[.agg #[.int .i64 wide, .int .i64 high, .slice a n c], .agg #[.slice ak nk ck, .slice ab nb cb], .agg #[.int .i64 p.1, .int .i64 p.2], .agg #[.int .i64 q.1, .int .i64 q.2], .int .i64 kind, .int .i64 body] w
      (WallPost (shErr (readyE (validW wide high n g nk nb K B) (allOn wide high (pts2 p q) (within kind 1 3) 2) body) (boxS wide p q kind) B body n) (shLen (readyE (validW wide high n g nk nb K B) (allOn wide high (pts2 p q) (within kind 1 3) 2) body) (boxS wide p q kind) B body n) (putTo (boxS wide p q kind) K (boxS wide p q kind) n) (putTo (boxS wide p q kind) B (fun _ => body) n) w) :=
  (ref3_Box wide high kind body p q a ak ab n nk nb c ck cb g K B w hn hnk hnb H HK HB).mono fun e w' h => shape_flat h
theorem wall_Slope' (m body : Int) (up : Bool) (p : Int × Int) :
    Calls Try.prog 33 #[.agg #[.int .i64 wide, .int .i64 high, .slice a n c], .agg #[.slice ak nk ck, .slice ab nb cb], .agg #[.int .i64 p.1, .int .i64 p.2], .int .i64 m, .bool up, .int .i64 body] w
      (WallPost (shErr (readyE (validW wide high n g nk nb K B) (allOn wide high (pts2 p p) (within m 1 64) 1) body) (slS wide high p m up) B body n) (shLen (readyE (validW wide high n g nk nb K B) (allOn wide high (pts2 p p) (within m 1 64) 1) body) (slS wide high p m up) B body n) (putTo (slS wide high p m up) K (slS wide high p m up) n) (putTo (slS wide high p m up) B (fun _ => body) n) w) := by
  refine (wall_Slope wide high m body up p a ak ab n nk nb c ck cb g K B w hn hnk hnb H HK HB).mono fun e w' h => shape_flat (shape_of_brick h fun h0 => ?_)
  obtain ⟨hV, hO, hW⟩ := readyE_zero h0
  obtain ⟨hG, _, _, _⟩ := (validW_iff ..).1 hV
  obtain ⟨v1, _, _, _, _, v6, _, _⟩ := (validG_iff ..).1 hG
  exact slope_agree v1 v6
theorem ref3_Slope' (m body : Int) (up : Bool) (p : Int × Int) :
    Calls Try.prog 34 #[.agg #[.int .i64 wide, .int .i64 high, .slice a n c], .agg #[.slice ak nk ck, .slice ab nb cb], .agg #[.int .i64 p.1, .int .i64 p.2], .int .i64 m, .bool up, .int .i64 body] w
      (WallPost (shErr (readyE (validW wide high n g nk nb K B) (allOn wide high (pts2 p p) (within m 1 64) 1) body) (slS wide high p m up) B body n) (shLen (readyE (validW wide high n g nk nb K B) (allOn wide high (pts2 p p) (within m 1 64) 1) body) (slS wide high p m up) B body n) (putTo (slS wide high p m up) K (slS wide high p m up) n) (putTo (slS wide high p m up) B (fun _ => body) n) w) :=
  (ref3_Slope wide high m body up p a ak ab n nk nb c ck cb g K B w hn hnk hnb H HK HB).mono fun e w' h => shape_flat h
end
theorem box_both (wide high kind body : Int) (p q : Int × Int) (n nk nb : Nat) (g : Nat → C4) (K B : Nat → Int) (hn : n ≤ 100000) (hnk : nk ≤ 100000) (hnb : nb ≤ 100000) :
    ∃ (er : Int) (ln : Nat) (KF BF : Nat → Int), ln ≤ n ∧ ∀ (a ak ab : Option Addr) (c ck cb : Nat) (w : World), Sc w a n g → Sl w ak nk K → Sl w ab nb B →
      Calls Try.prog 31 #[.agg #[.int .i64 wide, .int .i64 high, .slice a n c], .agg #[.slice ak nk ck, .slice ab nb cb], .agg #[.int .i64 p.1, .int .i64 p.2], .agg #[.int .i64 q.1, .int .i64 q.2], .int .i64 kind, .int .i64 body] w (WallPost er ln KF BF w) ∧
      Calls Try.prog 32 #[.agg #[.int .i64 wide, .int .i64 high, .slice a n c], .agg #[.slice ak nk ck, .slice ab nb cb], .agg #[.int .i64 p.1, .int .i64 p.2], .agg #[.int .i64 q.1, .int .i64 q.2], .int .i64 kind, .int .i64 body] w (WallPost er ln KF BF w) :=
  ⟨_, _, _, _, shLen_le _ _ _ _ _, fun a ak ab c ck cb w H HK HB =>
    ⟨wall_Box' wide high a ak ab n nk nb c ck cb g K B w hn hnk hnb H HK HB kind body p q, ref3_Box' wide high a ak ab n nk nb c ck cb g K B w hn hnk hnb H HK HB kind body p q⟩⟩
theorem slope_both (wide high m body : Int) (up : Bool) (p : Int × Int) (n nk nb : Nat) (g : Nat → C4) (K B : Nat → Int) (hn : n ≤ 100000) (hnk : nk ≤ 100000) (hnb : nb ≤ 100000) :
    ∃ (er : Int) (ln : Nat) (KF BF : Nat → Int), ln ≤ n ∧ ∀ (a ak ab : Option Addr) (c ck cb : Nat) (w : World), Sc w a n g → Sl w ak nk K → Sl w ab nb B →
      Calls Try.prog 33 #[.agg #[.int .i64 wide, .int .i64 high, .slice a n c], .agg #[.slice ak nk ck, .slice ab nb cb], .agg #[.int .i64 p.1, .int .i64 p.2], .int .i64 m, .bool up, .int .i64 body] w (WallPost er ln KF BF w) ∧
      Calls Try.prog 34 #[.agg #[.int .i64 wide, .int .i64 high, .slice a n c], .agg #[.slice ak nk ck, .slice ab nb cb], .agg #[.int .i64 p.1, .int .i64 p.2], .int .i64 m, .bool up, .int .i64 body] w (WallPost er ln KF BF w) :=
  ⟨_, _, _, _, shLen_le _ _ _ _ _, fun a ak ab c ck cb w H HK HB =>
    ⟨wall_Slope' wide high a ak ab n nk nb c ck cb g K B w hn hnk hnb H HK HB m body up p, ref3_Slope' wide high a ak ab n nk nb c ck cb g K B w hn hnk hnb H HK HB m body up p⟩⟩
theorem sameL_self (n : Nat) (f g : Nat → Int) : (sameL n f n f && sameL n g n g) = true := by
  rw [sameL_iff.2 ⟨rfl, fun _ _ => rfl⟩, sameL_iff.2 ⟨rfl, fun _ _ => rfl⟩]; rfl
set_option maxRecDepth 100000 in
set_option maxHeartbeats 8000000 in
theorem walk_shapes (wide high kind m body : Int) (up : Bool) (p q : Int × Int) (a ak ab : Option Addr) (n nk nb c ck cb : Nat) (g : Nat → C4) (K B : Nat → Int) (w : World) (hn : n ≤ maxLen) (hk : nk ≤ maxLen) (hb : nb ≤ maxLen) (H : Sc w a n g) (HK : Sl w ak nk K) (HB : Sl w ab nb B) :
    Calls Try.prog 5 #[.agg #[.int .i64 wide, .int .i64 high, .slice a n c, .slice ak nk ck, .slice ab nb cb], .agg #[.int .i64 p.1, .int .i64 p.2, .int .i64 q.1, .int .i64 q.2, .int .i64 kind, .int .i64 m, .int .i64 body, .bool up]] w
    fun e w' => e = .returned (.bool true) ∧ Below w.heap.size w w' := by
  cases hs : smallB n nk nb 1200
  · go_enter Try.func5, Try.ntmps5
    go_wp2_with fail
    refine (law3_small _ _ _ _ _ _ _ _ _ _ _ _ _ hn hk hb).mono ?_
    rintro e w1 ⟨rfl, hb1⟩
    rw [hs]
    go_wp2_with (go_at_call 16; refine (awake_true _).mono ?_; rintro e w2 ⟨rfl, hb2⟩)
    go_ret
    exact ⟨rfl, bvia (bvia (by (repeat' (first | with_reducible assumption | with_reducible exact Below.refl _ _ | with_reducible refine Below.drew ?_ | with_reducible refine below_drewN ?_ _ | with_reducible refine balloc ?_ _ | with_reducible refine bset ?_ ?_ _ | with_reducible refine Below.setCell ?_ ?_ _ | with_reducible refine Below.alloc ?_ ?_ _ | omega | (simp; done) | (simp; omega)))) hb1) hb2⟩
  have hsm : n ≤ 1200 ∧ nk ≤ 1200 ∧ nb ≤ 1200 := by simp [smallB] at hs; omega
  obtain ⟨n1, n2, n3⟩ := hsm
  have HS := hid hs; clear hs
  have X0 := (Bx.new w #[.int .i64 wide, .int .i64 high, .slice a n c, .slice ak nk ck, .slice ab nb cb] 29).alloc (.cells #[.int .i64 p.1, .int .i64 p.2, .int .i64 q.1, .int .i64 q.2, .int .i64 kind, .int .i64 m, .int .i64 body, .bool up] 53)
  have X1 := Bx.new (w.alloc (.cells #[.int .i64 wide, .int .i64 high, .slice a n c, .slice ak nk ck, .slice ab nb cb] 29)) #[.int .i64 p.1, .int .i64 p.2, .int .i64 q.1, .int .i64 q.2, .int .i64 kind, .int .i64 m, .int .i64 body, .bool up] 53
  simp only [World.size_alloc] at X1
  have hB0 : Below w.heap.size w ((w.alloc (.cells #[.int .i64 wide, .int .i64 high, .slice a n c, .slice ak nk ck, .slice ab nb cb] 29)).alloc (.cells #[.int .i64 p.1, .int .i64 p.2, .int .i64 q.1, .int .i64 q.2, .int .i64 kind, .int .i64 m, .int .i64 body, .bool up] 53)) := by (repeat' (first | with_reducible assumption | with_reducible exact Below.refl _ _ | with_reducible refine Below.drew ?_ | with_reducible refine below_drewN ?_ _ | with_reducible refine balloc ?_ _ | with_reducible refine bset ?_ ?_ _ | with_reducible refine Below.setCell ?_ ?_ _ | with_reducible refine Below.alloc ?_ ?_ _ | omega | (simp; done) | (simp; omega)))
  go_enter Try.func5, Try.ntmps5
  go_wp2_with fail
  generalize ((w.alloc (.cells #[.int .i64 wide, .int .i64 high, .slice a n c, .slice ak nk ck, .slice ab nb cb] 29)).alloc (.cells #[.int .i64 p.1, .int .i64 p.2, .int .i64 q.1, .int .i64 q.2, .int .i64 kind, .int .i64 m, .int .i64 body, .bool up] 53)) = W0 at X0 X1 hB0 ⊢
  have z0 := X0.lt
  have z1 := X1.lt
  refine (law3_small _ _ _ _ _ _ _ _ _ _ _ _ _ hn hk hb).mono ?_
  rintro e w1 ⟨rfl, hb1⟩
  rw [HS.out]
  have J0 := H.below hB0; have K0 := HK.below hB0; have L0 := HB.below hB0; have Z0 := X1
  clear X1 z0 z1
  have X1 := X0.below hb1; have Z1 := Z0.below hb1; have J1 := J0.below hb1; have K1 := K0.below hb1; have L1 := L0.below hb1; have hB1 := bvia hB0 hb1
  clear X0 Z0 J0 K0 L0 hB0
  have p0 := X1.at_ 0 rfl; have p1 := X1.at_ 1 rfl; have p2 := X1.at_ 2 rfl; have p3 := X1.at_ 3 rfl; have p4 := X1.at_ 4 rfl; have zx := X1.lt
  have s0 := Z1.at_ 0 rfl; have s1 := Z1.at_ 1 rfl; have s2 := Z1.at_ 2 rfl; have s3 := Z1.at_ 3 rfl; have s4 := Z1.at_ 4 rfl; have s5 := Z1.at_ 5 rfl; have s6 := Z1.at_ 6 rfl; have s7 := Z1.at_ 7 rfl; have zs := Z1.lt
  obtain ⟨er, ln, KF, BF, hln, both⟩ := box_both wide high kind body p q n nk nb g K B (by omega) (by omega) (by omega)
  go_wp2_with fail
  refine (both _ _ _ _ _ _ _ J1 K1 L1).1.mono ?_
  rintro e w2 ⟨a1, a1', c1, c1', rfl, S1, S1', hb2⟩
  clear p0 p1 p2 p3 p4 zx s0 s1 s2 s3 s4 s5 s6 s7 zs
  have X2 := X1.below hb2; have Z2 := Z1.below hb2; have J2 := J1.below hb2; have K2 := K1.below hb2; have L2 := L1.below hb2; have hB2 := bvia hB1 hb2
  clear X1 Z1 J1 K1 L1 hB1
  have p0 := X2.at_ 0 rfl; have p1 := X2.at_ 1 rfl; have p2 := X2.at_ 2 rfl; have p3 := X2.at_ 3 rfl; have p4 := X2.at_ 4 rfl; have zx := X2.lt
  have s0 := Z2.at_ 0 rfl; have s1 := Z2.at_ 1 rfl; have s2 := Z2.at_ 2 rfl; have s3 := Z2.at_ 3 rfl; have s4 := Z2.at_ 4 rfl; have s5 := Z2.at_ 5 rfl; have s6 := Z2.at_ 6 rfl; have s7 := Z2.at_ 7 rfl; have zs := Z2.lt
  go_wp2_with fail
  refine (both _ _ _ _ _ _ _ (J2.alloc _) (K2.alloc _) (L2.alloc _)).2.mono ?_
  rintro e w3 ⟨a2, a2', c2, c2', rfl, S2, S2', hb3⟩
  clear p0 p1 p2 p3 p4 zx s0 s1 s2 s3 s4 s5 s6 s7 zs both
  have A3 := (Bx.new w2 #[.slice a1 ln c1, .slice a1' ln c1'] 27).below hb3
  have S3 := (S1.alloc (.cells #[.slice a1 ln c1, .slice a1' ln c1'] 27)).below hb3
  have S3' := (S1'.alloc (.cells #[.slice a1 ln c1, .slice a1' ln c1'] 27)).below hb3
  have C3 := bvia (balloc (Below.refl _ w2) (.cells #[.slice a1 ln c1, .slice a1' ln c1'] 27)) hb3
  have q0 := A3.at_ 0 rfl; have q1 := A3.at_ 1 rfl; have zq := A3.lt
  have A4 := A3.alloc (.cells #[.slice a2 ln c2, .slice a2' ln c2'] 27)
  have B4 := Bx.new w3 #[.slice a2 ln c2, .slice a2' ln c2'] 27
  have C4 := balloc C3 (.cells #[.slice a2 ln c2, .slice a2' ln c2'] 27)
  go_wp2_with fail
  refine (ref3_same _ _ _ _ _ _ _ _ _ _ _ _ _ _ _ _ _ (by omega) (by omega) (by omega) (by omega) (S3.alloc _) (S3'.alloc _) (S2.alloc _) (S2'.alloc _)).mono ?_
  rintro e w5 ⟨rfl, hb5⟩
  rw [sameL_self]
  have A5 := A4.below hb5; have B5 := B4.below hb5; have C5 := bvia C4 hb5
  clear q0 q1 S1 S1' S2 S2' S3 S3' A3 A4 B4 C3 C4 hb3
  have X5 := X2.below C5; have Z5 := Z2.below C5
  have p0 := X5.at_ 0 rfl; have p1 := X5.at_ 1 rfl; have p2 := X5.at_ 2 rfl; have p3 := X5.at_ 3 rfl; have p4 := X5.at_ 4 rfl; have zx := X5.lt
  have s0 := Z5.at_ 0 rfl; have s1 := Z5.at_ 1 rfl; have s2 := Z5.at_ 2 rfl; have s3 := Z5.at_ 3 rfl; have s4 := Z5.at_ 4 rfl; have s5 := Z5.at_ 5 rfl; have s6 := Z5.at_ 6 rfl; have s7 := Z5.at_ 7 rfl; have zs := Z5.lt
  obtain ⟨er', ln', KF', BF', hln', both⟩ := slope_both wide high m body up p n nk nb g K B (by omega) (by omega) (by omega)
  go_wp2_with fail
  refine (both _ _ _ _ _ _ _ (J2.below C5) (K2.below C5) (L2.below C5)).1.mono ?_
  rintro e w6 ⟨a3, a3', c3, c3', rfl, S6, S6', hb6⟩
  clear p0 p1 p2 p3 p4 zx s0 s1 s2 s3 s4 s5 s6 s7 zs X5 Z5
  have A6 := A5.below hb6; have B6 := B5.below hb6; have C6 := bvia C5 hb6
  clear A5 B5 C5
  have q0 := A6.at_ 0 rfl; have q1 := A6.at_ 1 rfl; have zq' := A6.lt; have qf := A6.3
  have T6 := S6.set2 A6 (.slice a3 ln' c3) (.slice a3' ln' c3')
  have T6' := S6'.set2 A6 (.slice a3 ln' c3) (.slice a3' ln' c3')
  have A7 := A6.two (y0 := .slice a3 ln' c3) (y1 := .slice a3' ln' c3')
  have C7 := bset (bset C6 (p := ⟨w2.heap.size, 0, none⟩) (Nat.le_refl _) (.slice a3 ln' c3)) (p := ⟨w2.heap.size, 1, none⟩) (Nat.le_refl _) (.slice a3' ln' c3')
  have B7 := (B6.far (p := ⟨w2.heap.size, 0, none⟩) (by simp; omega) (.slice a3 ln' c3)).far (p := ⟨w2.heap.size, 1, none⟩) (by simp; omega) (.slice a3' ln' c3')
  have X7 := X2.below C7; have Z7 := Z2.below C7
  clear S6 S6' B6 C6
  have p0 := X7.at_ 0 rfl; have p1 := X7.at_ 1 rfl; have p2 := X7.at_ 2 rfl; have p3 := X7.at_ 3 rfl; have p4 := X7.at_ 4 rfl; have zx := X7.lt
  have s0 := Z7.at_ 0 rfl; have s1 := Z7.at_ 1 rfl; have s2 := Z7.at_ 2 rfl; have s3 := Z7.at_ 3 rfl; have s4 := Z7.at_ 4 rfl; have s5 := Z7.at_ 5 rfl; have s6 := Z7.at_ 6 rfl; have s7 := Z7.at_ 7 rfl; have zs := Z7.lt
  go_wp2_with fail
  refine (both _ _ _ _ _ _ _ (J2.below C7) (K2.below C7) (L2.below C7)).2.mono ?_
  rintro e w8 ⟨a4, a4', c4, c4', rfl, S8, S8', hb8⟩
  clear p0 p1 p2 p3 p4 zx s0 s1 s2 s3 s4 s5 s6 s7 zs X7 Z7 q0 q1 zq' qf both
  have A8 := A7.below hb8; have B8 := B7.below hb8; have C8 := bvia C7 hb8
  have T8 := T6.below hb8; have T8' := T6'.below hb8
  clear A6 A7 B7 C7 T6 T6' hb8
  have q0 := B8.at_ 0 rfl; have q1 := B8.at_ 1 rfl; have zq' := B8.lt; have qf := B8.3
  have R8 := S8.set2 B8 (.slice a4 ln' c4) (.slice a4' ln' c4')
  have R8' := S8'.set2 B8 (.slice a4 ln' c4) (.slice a4' ln' c4')
  have T9 := T8.set2 B8 (.slice a4 ln' c4) (.slice a4' ln' c4')
  have T9' := T8'.set2 B8 (.slice a4 ln' c4) (.slice a4' ln' c4')
  have B9 := B8.two (y0 := .slice a4 ln' c4) (y1 := .slice a4' ln' c4')
  have C9 := bset (bset C8 (p := ⟨w3.heap.size, 0, none⟩) (by simp; omega) (.slice a4 ln' c4)) (p := ⟨w3.heap.size, 1, none⟩) (by simp; omega) (.slice a4' ln' c4')
  have A9 := (A8.far (p := ⟨w3.heap.size, 0, none⟩) (by simp; omega) (.slice a4 ln' c4)).far (p := ⟨w3.heap.size, 1, none⟩) (by simp; omega) (.slice a4' ln' c4')
  have u0 := A9.at_ 0 rfl; have u1 := A9.at_ 1 rfl; have zu := A9.lt
  clear S8 S8' T8 T8' A8 C8
  go_wp2_with fail
  refine (ref3_same _ _ _ _ _ _ _ _ _ _ _ _ _ _ _ _ _ (by omega) (by omega) (by omega) (by omega) T9 T9' R8 R8').mono ?_
  rintro e w10 ⟨rfl, hb10⟩
  rw [sameL_self]
  have C10 := bvia (bvia hB2 C9) hb10
  clear T9 T9' R8 R8' A9 B9 B8 C9 q0 q1 u0 u1
  go_wp2_with (go_at_call 16; refine (awake_true _).mono ?_; rintro e w11 ⟨rfl, hb11⟩)
  go_ret
  exact ⟨rfl, bvia C10 hb11⟩
end Go.Proofs.Ytnnaegnkkpknpaa
