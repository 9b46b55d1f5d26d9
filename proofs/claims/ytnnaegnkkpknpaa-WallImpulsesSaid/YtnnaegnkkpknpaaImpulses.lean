/- The walk of the law WallImpulses. -/
import Derived.Test.YtnnaegnkkpknpaaRImpulse
import Derived.Test.YtnnaegnkkpknpaaSends
import Derived.Test.YtnnaegnkkpknpaaBodies
namespace Go.Proofs.Ytnnaegnkkpknpaa
open Go.RowKit
set_option linter.unusedVariables false
theorem impVal_form (ok : Bool) (g : Nat → C4) (K B : Nat → Int) (body : Int) (n : Nat) : ∃ x y : Int, impVal ok g K B body n = .agg #[.int .i64 x, .int .i64 y] := by
  unfold impVal
  split
  · exact ⟨_, _, rfl⟩
  · exact ⟨_, _, rfl⟩
theorem equalIn_push (k : Nat) (w : World) (a b c d : Int) : (Op.equalIn (k + 2) 43 (.agg #[.int .i64 a, .int .i64 b]) (.agg #[.int .i64 c, .int .i64 d])).run Try.prog w = .ok (a == c && b == d) w := by
  rw [run_equalIn_struct w (k + 1) _ _ _ (by kernel_rfl) (by kernel_rfl)]
  have key : (Try.prog.fieldsOf 43).toList.map (fun f => (f.type, f.offset, f.name == "_")) = [(3, 0, false), (3, 1, false)] := by kernel_rfl
  generalize (Try.prog.fieldsOf 43).toList = l at key ⊢
  rcases l with _ | ⟨f0, _ | ⟨f1, _ | ⟨f2, l⟩⟩⟩
  · simp at key
  · simp at key
  · skip
    simp only [List.map_cons, List.map_nil, List.cons.injEq, Prod.mk.injEq, and_true] at key
    obtain ⟨⟨t0, o0, m0⟩, t1, o1, m1⟩ := key
    have m0' : ¬ f0.name = "_" := by simpa using m0
    have m1' : ¬ f1.name = "_" := by simpa using m1
    simp [Op.eqFields, t0, o0, t1, o1, go_sem, m0', m1']
    by_cases h1 : a = c <;> by_cases h2 : b = d <;> simp [h1, h2]
  · simp at key
theorem neq_push (a b c d : Int) (w : World) : (binOp .neq 43 (.agg #[.int .i64 a, .int .i64 b]) (.agg #[.int .i64 c, .int .i64 d])).run Try.prog w
    = .ok (.bool (!(a == c && b == d))) w := by
  simp only [binOp]
  simp [Op.equal, Op.maxDepth, equalIn_push 9998]
set_option maxRecDepth 100000 in
set_option maxHeartbeats 4000000 in
theorem walk_impulses (wide high body : Int) (a ak ab : Option Addr) (n nk nb c ck cb : Nat) (g : Nat → C4) (K B : Nat → Int) (w : World) (hn : n ≤ maxLen) (hk : nk ≤ maxLen) (hb : nb ≤ maxLen) (H : Sc w a n g) (HK : Sl w ak nk K) (HB : Sl w ab nb B) :
    Calls Try.prog 4 #[.agg #[.int .i64 wide, .int .i64 high, .slice a n c, .slice ak nk ck, .slice ab nb cb], .int .i64 body] w
    fun e w' => e = .returned (.bool true) ∧ Below w.heap.size w w' := by
  cases hs : smallB n nk nb 1200
  · go_enter Try.func4, Try.ntmps4
    go_wp2_with fail
    refine (law3_small _ _ _ _ _ _ _ _ _ _ _ _ _ hn hk hb).mono ?_
    rintro e w1 ⟨rfl, hb1⟩
    rw [hs]
    go_wp2_with (go_at_call 16; refine (awake_true _).mono ?_; rintro e w2 ⟨rfl, hb2⟩)
    go_ret
    exact ⟨rfl, bvia (bvia (by (repeat' (first | with_reducible assumption | with_reducible exact Below.refl _ _ | with_reducible refine Below.drew ?_ | with_reducible refine below_drewN ?_ _ | with_reducible refine balloc ?_ _ | with_reducible refine bset ?_ ?_ _ | omega | (simp; done) | (simp; omega)))) hb1) hb2⟩
  have hsm : n ≤ 1200 ∧ nk ≤ 1200 ∧ nb ≤ 1200 := by simp [smallB] at hs; omega
  obtain ⟨n1, n2, n3⟩ := hsm
  have HS := hid hs; clear hs
  go_enter Try.func4, Try.ntmps4
  go_wp2_with fail
  refine (law3_small _ _ _ _ _ _ _ _ _ _ _ _ _ hn hk hb).mono ?_
  rintro e w1 ⟨rfl, hb1⟩
  rw [HS.out]
  have X1 := (Bx.new w #[.int .i64 wide, .int .i64 high, .slice a n c, .slice ak nk ck, .slice ab nb cb] 29).below hb1
  have hB1 : Below w.heap.size w w1 := bvia (by (repeat' (first | with_reducible assumption | with_reducible exact Below.refl _ _ | with_reducible refine Below.drew ?_ | with_reducible refine below_drewN ?_ _ | with_reducible refine balloc ?_ _ | with_reducible refine bset ?_ ?_ _ | omega | (simp; done) | (simp; omega)))) hb1
  have J1 := H.below hB1
  have K1 := HK.below hB1
  have L1 := HB.below hB1
  clear hb1
  obtain ⟨px, py, hval⟩ := impVal_form (validW wide high n g nk nb K B) g K B body nb
  generalize her : impErr (validW wide high n g nk nb K B) B body nb = er
  have p0 := X1.at_ 0 rfl; have p1 := X1.at_ 1 rfl; have p2 := X1.at_ 2 rfl; have p3 := X1.at_ 3 rfl; have p4 := X1.at_ 4 rfl
  go_wp2_with fail
  refine (wall_Impulse wide high body _ _ _ _ _ _ _ _ _ g K B _ (by omega) (by omega) (by omega) J1 K1 L1).mono ?_
  rintro e w2 ⟨rfl, hb2⟩
  rw [hval, her]
  clear p0 p1 p2 p3 p4
  have X2 := X1.below hb2; have hB2 := hB1.trans (hb2.mono hB1.size)
  have J2 := J1.below hb2; have K2 := K1.below hb2; have L2 := L1.below hb2
  have p0 := X2.at_ 0 rfl; have p1 := X2.at_ 1 rfl; have p2 := X2.at_ 2 rfl; have p3 := X2.at_ 3 rfl; have p4 := X2.at_ 4 rfl; have z := X2.lt
  go_wp2_with fail
  refine (ref3_Impulse wide high body _ _ _ _ _ _ _ _ _ g K B _ (by omega) (by omega) (by omega) (J2.alloc _) (K2.alloc _) (L2.alloc _)).mono ?_
  rintro e w3 ⟨rfl, hb3⟩
  rw [hval, her]
  clear p0 p1 p2 p3 p4 z
  have X3 := (X2.alloc _).below hb3; have hB3 := bvia (balloc hB2 _) hb3
  have J3 := (J2.alloc _).below hb3; have K3 := (K2.alloc _).below hb3; have L3 := (L2.alloc _).below hb3
  have A3 := (Bx.new w2 #[.int .i64 px, .int .i64 py] 43).below hb3
  clear J2 K2 L2 X2 hb3 hb2 J1 K1 L1 X1
  have p0 := X3.at_ 0 rfl; have p1 := X3.at_ 1 rfl; have p2 := X3.at_ 2 rfl; have p3 := X3.at_ 3 rfl; have p4 := X3.at_ 4 rfl; have z := X3.lt
  have q0 := A3.at_ 0 rfl; have q1 := A3.at_ 1 rfl; have z' := A3.lt
  have hne := neq_push px py px py
  simp only [beq_self_eq_true, Bool.and_self, Bool.not_true] at hne
  have J4 := J3.alloc (.cells #[.int .i64 px, .int .i64 py] 43); have K4 := K3.alloc (.cells #[.int .i64 px, .int .i64 py] 43); have L4 := L3.alloc (.cells #[.int .i64 px, .int .i64 py] 43)
  have X4 := X3.alloc (.cells #[.int .i64 px, .int .i64 py] 43)
  have hB4 := balloc hB3 (.cells #[.int .i64 px, .int .i64 py] 43)
  go_wp2_with fail
  refine (wall_Bodies wide high _ _ _ _ _ _ _ _ _ g K B _ (by omega) (by omega) (by omega) J4 K4 L4).mono ?_
  rintro e w5 ⟨a5, c5, rfl, S5, hb5⟩
  clear p0 p1 p2 p3 p4 z q0 q1 z'
  have X5 := X4.below hb5; have hB5 := hB4.trans (hb5.mono hB4.size)
  have J5 := J4.below hb5; have K5 := K4.below hb5; have L5 := L4.below hb5
  have p0 := X5.at_ 0 rfl; have p1 := X5.at_ 1 rfl; have p2 := X5.at_ 2 rfl; have p3 := X5.at_ 3 rfl; have p4 := X5.at_ 4 rfl; have z := X5.lt
  go_wp2_with fail
  refine (ref3_Bodies wide high _ _ _ _ _ _ _ _ _ g K B _ (by omega) (by omega) (by omega) J5 K5 L5).mono ?_
  rintro e w6 ⟨a6, c6, rfl, S6, hb6⟩
  clear p0 p1 p2 p3 p4 z
  have S5' := S5.below hb6
  have X6 := X5.below hb6; have hB6 := hB5.trans (hb6.mono hB5.size)
  have J6 := J5.below hb6; have K6 := K5.below hb6; have L6 := L5.below hb6
  clear X4 X5 J4 K4 L4 J5 K5 L5 hb5 hb6 hB4 hB5 S5 A3 X3 hB3 J3 K3 L3 hB2
  have hbn : (bodL (validW wide high n g nk nb K B) B nb).length ≤ 9 := by
    unfold bodL
    split
    · exact bodTo_length _ _ _
    · simp
  generalize bodL (validW wide high n g nk nb K B) B nb = bl at S5' S6 hbn
  generalize errR (validW wide high n g nk nb K B) 1 = be
  have hsl : sameL bl.length (fun k => bl.getD k 0) bl.length (fun k => bl.getD k 0) = true := sameL_iff.2 ⟨rfl, fun _ _ => rfl⟩
  go_wp2_with fail
  refine (ref1_sameInts _ _ _ _ _ _ _ _ _ (by omega) (by omega) S5' S6).mono ?_
  rintro e w7 ⟨rfl, hb7⟩
  rw [hsl]
  have X7 := X6.below hb7; have hB7 := hB6.trans (hb7.mono hB6.size)
  have J7 := J6.below hb7; have K7 := K6.below hb7; have L7 := L6.below hb7
  clear X6 hB6 J6 K6 L6 hb7 S5' S6 hsl hbn
  have p0 := X7.at_ 0 rfl; have p1 := X7.at_ 1 rfl; have p2 := X7.at_ 2 rfl; have p3 := X7.at_ 3 rfl; have p4 := X7.at_ 4 rfl; have z := X7.lt
  go_wp2_with fail
  refine (wall_Cells wide high body _ _ _ _ _ _ _ _ _ g K B _ (by omega) (by omega) (by omega) J7 K7 L7).mono ?_
  rintro e w8 ⟨a8, c8, rfl, S8, hb8⟩
  clear p0 p1 p2 p3 p4 z
  have X8 := X7.below hb8; have hB8 := hB7.trans (hb8.mono hB7.size)
  have J8 := J7.below hb8; have K8 := K7.below hb8; have L8 := L7.below hb8
  have p0 := X8.at_ 0 rfl; have p1 := X8.at_ 1 rfl; have p2 := X8.at_ 2 rfl; have p3 := X8.at_ 3 rfl; have p4 := X8.at_ 4 rfl; have z := X8.lt
  go_wp2_with fail
  refine (ref3_Cells wide high body _ _ _ _ _ _ _ _ _ g K B _ (by omega) (by omega) (by omega) J8 K8 L8).mono ?_
  rintro e w9 ⟨a9, c9, rfl, S9, hb9⟩
  clear p0 p1 p2 p3 p4 z
  have S8' := S8.below hb9
  have hB9 := hB8.trans (hb9.mono hB8.size)
  clear X7 X8 J7 K7 L7 J8 K8 L8 hb8 hb9 hB7 hB8 S8
  have hcn : (cellsL (validW wide high n g nk nb K B) B body nb).length ≤ nb := by
    unfold cellsL
    split
    · exact ownL_length _ _ _
    · simp
  generalize cellsL (validW wide high n g nk nb K B) B body nb = cl at S8' S9 hcn
  generalize cellsE (validW wide high n g nk nb K B) body = ce
  have hsl : sameL cl.length (fun k => cl.getD k 0) cl.length (fun k => cl.getD k 0) = true := sameL_iff.2 ⟨rfl, fun _ _ => rfl⟩
  go_wp2_with fail
  refine (ref1_sameInts _ _ _ _ _ _ _ _ _ (by omega) (by omega) S8' S9).mono ?_
  rintro e w10 ⟨rfl, hb10⟩
  rw [hsl]
  have hB10 := hB9.trans (hb10.mono hB9.size)
  clear S8' S9 hsl hb10 hB9
  go_wp2_with (go_at_call 16; refine (awake_true _).mono ?_; rintro e w11 ⟨rfl, hb11⟩)
  go_ret
  exact ⟨rfl, bvia hB10 hb11⟩
end Go.Proofs.Ytnnaegnkkpknpaa
