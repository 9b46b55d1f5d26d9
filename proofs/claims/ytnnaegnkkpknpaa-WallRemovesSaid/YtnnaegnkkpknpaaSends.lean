/- The walk of the law WallSends. -/
import Derived.Test.YtnnaegnkkpknpaaOpen
import Derived.Test.YtnnaegnkkpknpaaSame
import Derived.Test.YtnnaegnkkpknpaaSent3
import Derived.Test.YtnnaegnkkpknpaaR3Valid
namespace Go.Proofs.Ytnnaegnkkpknpaa
open Go.RowKit
set_option linter.unusedVariables false
def smallB (n nk nb : Nat) (m : Int) : Bool := decide ((n : Int) ≤ m ∧ (nk : Int) ≤ m ∧ (nb : Int) ≤ m)
theorem law3_small (wide high m : Int) (a ak ab : Option Addr) (n nk nb c ck cb : Nat) (w : World) (hn : n ≤ maxLen) (hk : nk ≤ maxLen) (hb : nb ≤ maxLen) :
    Calls Try.prog 15 #[.agg #[.int .i64 wide, .int .i64 high, .slice a n c, .slice ak nk ck, .slice ab nb cb], .int .i64 m] w
    fun e w' => e = .returned (.bool (smallB n nk nb m)) ∧ Below w.heap.size w w' := by
  unfold maxLen at hn hk hb
  cases h1 : decide ((n : Int) ≤ m)
  · have hr : smallB n nk nb m = false := by simp [smallB] at *; omega
    go_enter Try.func15, Try.ntmps15
    go_wp2
    go_ret
    exact ⟨by rw [hr]; rfl, by (repeat' (first | with_reducible assumption | with_reducible exact Below.refl _ _ | with_reducible refine Below.drew ?_ | with_reducible refine below_drewN ?_ _ | with_reducible refine balloc ?_ _ | with_reducible refine bset ?_ ?_ _ | with_reducible refine Below.setCell ?_ ?_ _ | with_reducible refine Below.alloc ?_ ?_ _ | omega | (simp; done) | (simp; omega)))⟩
  cases h2 : decide ((nk : Int) ≤ m)
  · have hr : smallB n nk nb m = false := by simp [smallB] at *; omega
    go_enter Try.func15, Try.ntmps15
    go_wp2
    go_ret
    exact ⟨by rw [hr]; rfl, by (repeat' (first | with_reducible assumption | with_reducible exact Below.refl _ _ | with_reducible refine Below.drew ?_ | with_reducible refine below_drewN ?_ _ | with_reducible refine balloc ?_ _ | with_reducible refine bset ?_ ?_ _ | with_reducible refine Below.setCell ?_ ?_ _ | with_reducible refine Below.alloc ?_ ?_ _ | omega | (simp; done) | (simp; omega)))⟩
  · have hr : smallB n nk nb m = decide ((nb : Int) ≤ m) := by simp at h1 h2; rw [Bool.eq_iff_iff]; simp [smallB]; omega
    have HR := hid hr; clear hr
    go_enter Try.func15, Try.ntmps15
    go_wp2
    go_ret
    exact ⟨by rw [HR.out]; rfl, by (repeat' (first | with_reducible assumption | with_reducible exact Below.refl _ _ | with_reducible refine Below.drew ?_ | with_reducible refine below_drewN ?_ _ | with_reducible refine balloc ?_ _ | with_reducible refine bset ?_ ?_ _ | with_reducible refine Below.setCell ?_ ?_ _ | with_reducible refine Below.alloc ?_ ?_ _ | omega | (simp; done) | (simp; omega)))⟩
theorem sends_back (x : C4) (kind : Int) (h : sentE x kind = 0) : sentR (sentR x kind) kind = x ∧ sentE (sentR x kind) kind = 0 := by
  unfold sentE at h
  cases hv : validC x <;> cases hw : within kind 0 3 <;> simp [hv, hw] at h
  have hk := (within_iff _ _ _).1 hw
  have h2 : sentR x kind = sentC x kind := by simp [sentR, hv, hw]
  have hvx := (validC_iff x).1 hv
  have h3 : validC (sentC x kind) = true := by
    rw [validC_iff]; unfold sentC
    split
    · simp; omega
    split
    · simp; omega
    split
    · simp; omega
    · exact hvx
  have h4 : sentC (sentC x kind) kind = x := by
    unfold sentC
    by_cases h1 : kind = 1
    · simp [h1]
    by_cases h2 : kind = 2
    · simp [h2]
    by_cases h3 : kind = 3
    · simp [h3]
    · simp [h1, h2, h3]
  rw [h2]
  exact ⟨by simp [sentR, h3, hw, h4], by simp [sentE, h3, hw]⟩
set_option maxRecDepth 100000 in
set_option maxHeartbeats 4000000 in
theorem walk_sends (wide high kind : Int) (a ak ab : Option Addr) (n nk nb c ck cb : Nat) (g : Nat → C4) (K B : Nat → Int) (x : C4) (w : World) (hn : n ≤ maxLen) (hk : nk ≤ maxLen) (hb : nb ≤ maxLen) (H : Sc w a n g) (HK : Sl w ak nk K) (HB : Sl w ab nb B) :
    Calls Try.prog 3 #[.agg #[.int .i64 wide, .int .i64 high, .slice a n c, .slice ak nk ck, .slice ab nb cb], .agg #[.int .i64 x.e, .int .i64 x.n, .int .i64 x.w, .int .i64 x.s], .int .i64 kind] w
    fun e w' => e = .returned (.bool true) ∧ Below w.heap.size w w' := by
  cases hs : smallB n nk nb 1200
  · go_enter Try.func3, Try.ntmps3
    go_wp2_with fail
    refine (law3_small _ _ _ _ _ _ _ _ _ _ _ _ _ hn hk hb).mono ?_
    rintro e w1 ⟨rfl, hb1⟩
    rw [hs]
    go_wp2_with (go_at_call 16; refine (awake_true _).mono ?_; rintro e w2 ⟨rfl, hb2⟩)
    go_ret
    exact ⟨rfl, bvia (bvia (by (repeat' (first | with_reducible assumption | with_reducible exact Below.refl _ _ | with_reducible refine Below.drew ?_ | with_reducible refine below_drewN ?_ _ | with_reducible refine balloc ?_ _ | with_reducible refine bset ?_ ?_ _ | with_reducible refine Below.setCell ?_ ?_ _ | with_reducible refine Below.alloc ?_ ?_ _ | omega | (simp; done) | (simp; omega)))) hb1) hb2⟩
  have hsm : n ≤ 1200 ∧ nk ≤ 1200 ∧ nb ≤ 1200 := by simp [smallB] at hs; omega
  obtain ⟨n1, n2, n3⟩ := hsm
  have HS := hid hs; clear hs
  go_enter Try.func3, Try.ntmps3
  go_wp2_with fail
  refine (law3_small _ _ _ _ _ _ _ _ _ _ _ _ _ hn hk hb).mono ?_
  rintro e w1 ⟨rfl, hb1⟩
  rw [HS.out]
  have X1 := ((Bx.new w #[.int .i64 wide, .int .i64 high, .slice a n c, .slice ak nk ck, .slice ab nb cb] 29).alloc (.cells #[.int .i64 x.e, .int .i64 x.n, .int .i64 x.w, .int .i64 x.s] 31)).below hb1
  have C1 := (Bx.new (w.alloc (.cells #[.int .i64 wide, .int .i64 high, .slice a n c, .slice ak nk ck, .slice ab nb cb] 29)) #[.int .i64 x.e, .int .i64 x.n, .int .i64 x.w, .int .i64 x.s] 31).below hb1
  simp only [World.size_alloc] at C1
  have hB1 : Below w.heap.size w w1 := bvia (by (repeat' (first | with_reducible assumption | with_reducible exact Below.refl _ _ | with_reducible refine Below.drew ?_ | with_reducible refine below_drewN ?_ _ | with_reducible refine balloc ?_ _ | with_reducible refine bset ?_ ?_ _ | with_reducible refine Below.setCell ?_ ?_ _ | with_reducible refine Below.alloc ?_ ?_ _ | omega | (simp; done) | (simp; omega)))) hb1
  have J1 := H.below hB1
  have K1 := HK.below hB1
  have L1 := HB.below hB1
  clear hb1
  have p0 := X1.at_ 0 rfl; have p1 := X1.at_ 1 rfl; have p2 := X1.at_ 2 rfl
  go_wp2_with fail
  refine (wall_Open wide high _ _ _ g _ (by omega) J1).mono ?_
  rintro e w2 ⟨a1, a1', m1, c1, c1', rfl, hm1, O1, O1', hb2⟩
  clear p0 p1 p2
  have X2 := X1.below hb2; have C2 := C1.below hb2; have hB2 := hB1.trans (hb2.mono hB1.size)
  have J2 := J1.below hb2; have K2 := K1.below hb2; have L2 := L1.below hb2
  generalize he1 : (if validG wide high n g = true then (0 : Int) else 1) = err
  have p0 := X2.at_ 0 rfl; have p1 := X2.at_ 1 rfl; have p2 := X2.at_ 2 rfl; have z := X2.lt
  have HE1 := hid he1; clear he1
  have HM1 := hid hm1; clear hm1
  go_wp2_with fail
  refine (ref3_Open wide high _ _ _ g _ (by omega) (J2.alloc _)).mono ?_
  rintro e w3 ⟨a2, a2', m2, c2, c2', rfl, hm2, P1, P1', hb3⟩
  clear p0 p1 p2 z
  have X3 := (X2.alloc _).below hb3; have C3 := (C2.alloc _).below hb3; have hB3 := bvia (balloc hB2 _) hb3
  have J3 := (J2.alloc _).below hb3; have K3 := (K2.alloc _).below hb3; have L3 := (L2.alloc _).below hb3
  have A3 := (Bx.new w2 #[.slice a1 m1 c1, .slice a1' m1 c1'] 27).below hb3
  have Q3 := (O1.alloc _).below hb3; have Q3' := (O1'.alloc _).below hb3
  rw [HE1.out]
  obtain ⟨hm12⟩ : Nonempty (m1 = m2) := ⟨by rw [HM1.out, hm2]⟩
  subst hm12
  clear hm2
  have hm1n : m1 ≤ 1200 := by rw [HM1.out]; split <;> omega
  clear J2 K2 L2 X2 C2 O1 O1' hb3 hb2 J1 K1 L1 X1 C1 HE1 HM1
  have p0 := X3.at_ 0 rfl; have p1 := X3.at_ 1 rfl; have p2 := X3.at_ 2 rfl; have p3 := X3.at_ 3 rfl; have p4 := X3.at_ 4 rfl; have z := X3.lt
  have q0 := A3.at_ 0 rfl; have q1 := A3.at_ 1 rfl; have z' := A3.lt
  have C4' := C3.alloc (.cells #[.slice a2 m1 c2, .slice a2' m1 c2'] 27)
  have hE : Below w.heap.size w (w3.alloc (.cells #[.slice a2 m1 c2, .slice a2' m1 c2'] 27)) := balloc hB3 _
  have z'' := hE.size
  have hsl : sameL m1 (fun _ => 0) m1 (fun _ => 0) = true := sameL_iff.2 ⟨rfl, fun _ _ => rfl⟩
  have J4 := J3.alloc (.cells #[.slice a2 m1 c2, .slice a2' m1 c2'] 27); have K4 := K3.alloc (.cells #[.slice a2 m1 c2, .slice a2' m1 c2'] 27); have L4 := L3.alloc (.cells #[.slice a2 m1 c2, .slice a2' m1 c2'] 27)
  have Q4 := Q3.alloc (.cells #[.slice a2 m1 c2, .slice a2' m1 c2'] 27); have Q4' := Q3'.alloc (.cells #[.slice a2 m1 c2, .slice a2' m1 c2'] 27); have P4 := P1.alloc (.cells #[.slice a2 m1 c2, .slice a2' m1 c2'] 27); have P4' := P1'.alloc (.cells #[.slice a2 m1 c2, .slice a2' m1 c2'] 27)
  go_wp2_with fail
  go_region_held3 (fun W => W.cell? ⟨w.heap.size, 0, none⟩ = some (.int .i64 wide) ∧ W.cell? ⟨w.heap.size, 1, none⟩ = some (.int .i64 high) ∧ W.cell? ⟨w.heap.size, 2, none⟩ = some (.slice a n c) ∧ W.cell? ⟨w.heap.size, 3, none⟩ = some (.slice ak nk ck) ∧ W.cell? ⟨w.heap.size, 4, none⟩ = some (.slice ab nb cb) ∧
      W.cell? ⟨w2.heap.size, 0, none⟩ = some (.slice a1 m1 c1) ∧ W.cell? ⟨w2.heap.size, 1, none⟩ = some (.slice a1' m1 c1') ∧ W.cell? ⟨w3.heap.size, 0, none⟩ = some (.slice a2 m1 c2) ∧ W.cell? ⟨w3.heap.size, 1, none⟩ = some (.slice a2' m1 c2') ∧
      w.heap.size < W.heap.size ∧ w2.heap.size < W.heap.size ∧ w3.heap.size < W.heap.size ∧ Sc W a n g ∧ Sl W ak nk K ∧ Sl W ab nb B ∧ Sl W a1 m1 (fun _ => 0) ∧ Sl W a1' m1 (fun _ => 0) ∧ Sl W a2 m1 (fun _ => 0) ∧ Sl W a2' m1 (fun _ => 0) ∧ Bx W (w.heap.size + 1) #[.int .i64 x.e, .int .i64 x.n, .int .i64 x.w, .int .i64 x.s] ∧ Below w.heap.size w W)
    ((repeat' apply And.intro) <;> first | assumption | (refine Below.drew ?_; assumption) | (refine Bx.drew ?_; assumption) | (simp (maxDischargeDepth := 12) [*, go_sem, World.cell?_alloc_some]; done) | (simp; omega) | omega | exact Sc.below ‹Sc _ _ _ _› hbk | exact Sl.below ‹_› hbk | exact Bx.below ‹_› hbk | exact Below.trans ‹_› (hbk.mono (Below.size ‹_›)))
    ((go_split_ands; (first | (go_at_call 19; refine (ref3_same _ _ _ _ _ _ _ _ _ _ _ _ (fun _ => 0) (fun _ => 0) (fun _ => 0) (fun _ => 0) _ (by omega) (by omega) (by omega) (by omega) (by assumption) (by assumption) (by assumption) (by assumption)).mono ?_) | (go_at_call 20; refine (wall_valid wide high _ _ _ _ _ _ _ _ _ g K B _ (by omega) (by omega) (by omega) (by assumption) (by assumption) (by assumption)).mono ?_) | (go_at_call 21; refine (ref3_valid wide high _ _ _ _ _ _ _ _ _ g K B _ (by omega) (by omega) (by omega) (by assumption) (by assumption) (by assumption)).mono ?_)); rintro e w' ⟨rfl, hbk⟩; have hck := bcell hbk; have hsk := hbk.size))
  go_split_ands
  have C5 : Bx w' (w.heap.size + 1) #[.int .i64 x.e, .int .i64 x.n, .int .i64 x.w, .int .i64 x.s] := by assumption
  have hB5 : Below w.heap.size w w' := by assumption
  clear hck hsk hbk
  have y0 := C5.at_ 0 rfl; have y1 := C5.at_ 1 rfl; have y2 := C5.at_ 2 rfl; have y3 := C5.at_ 3 rfl
  go_wp2_with fail
  refine (wall_Sent x _ kind).mono ?_
  rintro e w6 ⟨rfl, hb6⟩
  clear y0 y1 y2 y3
  have C6 := C5.below hb6
  have hB6 := hB5.trans (hb6.mono hB5.size)
  clear C5 hB5 hb6
  have y0 := C6.at_ 0 rfl; have y1 := C6.at_ 1 rfl; have y2 := C6.at_ 2 rfl; have y3 := C6.at_ 3 rfl; have z6 := C6.lt
  go_wp2_with fail
  refine (ref3_Sent x _ kind).mono ?_
  rintro e w7 ⟨rfl, hb7⟩
  clear y0 y1 y2 y3
  have C7 := (C6.alloc _).below hb7
  have D7 := (Bx.new w6 #[.int .i64 (sentR x kind).e, .int .i64 (sentR x kind).n, .int .i64 (sentR x kind).w, .int .i64 (sentR x kind).s] 31).below hb7
  have hB7 := bvia (balloc hB6 _) hb7
  clear C6 hB6 hb7
  have y0 := C7.at_ 0 rfl; have y1 := C7.at_ 1 rfl; have y2 := C7.at_ 2 rfl; have y3 := C7.at_ 3 rfl; have z7 := C7.lt
  have u0 := D7.at_ 0 rfl; have u1 := D7.at_ 1 rfl; have u2 := D7.at_ 2 rfl; have u3 := D7.at_ 3 rfl; have z7' := D7.lt
  have hne := neq_cell (sentR x kind).e (sentR x kind).n (sentR x kind).w (sentR x kind).s (sentR x kind).e (sentR x kind).n (sentR x kind).w (sentR x kind).s
  simp only [beq_self_eq_true, Bool.and_self, Bool.not_true] at hne
  cases hse : (sentE x kind != 0)
  · have hback := sends_back x kind (by simpa using hse)
    have hd := wall_Sent (sentR x kind) (w7.alloc (.cells #[.int .i64 (sentR x kind).e, .int .i64 (sentR x kind).n, .int .i64 (sentR x kind).w, .int .i64 (sentR x kind).s] 31)) kind
    rw [hback.1, hback.2] at hd
    have HD := hid hd
    clear hd hback
    go_wp2_with fail
    refine (HD.out).mono ?_
    rintro e w8 ⟨rfl, hb8⟩
    clear HD y0 y1 y2 y3 u0 u1 u2 u3 hne
    have C8 := (C7.alloc _).below hb8
    have D8 := (D7.alloc _).below hb8
    have hB8 := bvia (balloc hB7 _) hb8
    clear C7 D7 hb8 hB7
    have y0 := C8.at_ 0 rfl; have y1 := C8.at_ 1 rfl; have y2 := C8.at_ 2 rfl; have y3 := C8.at_ 3 rfl; have z8 := C8.lt
    have u0 := D8.at_ 0 rfl; have u1 := D8.at_ 1 rfl; have u2 := D8.at_ 2 rfl; have u3 := D8.at_ 3 rfl; have z8' := D8.lt
    have uf := D8.free
    have ne1 : ¬ w6.heap.size = w.heap.size + 1 := by omega
    have ne2 : ¬ w.heap.size + 1 = w6.heap.size := by omega
    have heq := eql_cell x.e x.n x.w x.s x.e x.n x.w x.s
    simp only [beq_self_eq_true, Bool.and_self] at heq
    go_wp2_with (go_at_call 16; refine (awake_true _).mono ?_; rintro e w9 ⟨rfl, hb9⟩)
    go_ret
    exact ⟨rfl, bvia (by (repeat' (first | with_reducible assumption | with_reducible exact Below.refl _ _ | with_reducible refine Below.drew ?_ | with_reducible refine below_drewN ?_ _ | with_reducible refine balloc ?_ _ | with_reducible refine bset ?_ ?_ _ | with_reducible refine Below.setCell ?_ ?_ _ | with_reducible refine Below.alloc ?_ ?_ _ | omega | (simp; done) | (simp; omega)))) hb9⟩
  · go_wp2_with (go_at_call 16; refine (awake_true _).mono ?_; rintro e w8 ⟨rfl, hb8⟩)
    go_ret
    exact ⟨rfl, bvia (balloc hB7 _) hb8⟩
end Go.Proofs.Ytnnaegnkkpknpaa
