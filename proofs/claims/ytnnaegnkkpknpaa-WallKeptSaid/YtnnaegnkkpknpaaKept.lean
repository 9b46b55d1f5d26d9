/- The walk of the law WallKept. -/
import Derived.Test.YtnnaegnkkpknpaaWRun2
import Derived.Test.YtnnaegnkkpknpaaGRun3
import Derived.Test.YtnnaegnkkpknpaaKeptPlain
import Derived.Test.YtnnaegnkkpknpaaSameG
import Derived.Test.YtnnaegnkkpknpaaSmall
namespace Go.Proofs.Ytnnaegnkkpknpaa
open Go Go.RowKit
set_option linter.unusedVariables false
set_option maxRecDepth 100000 in
set_option maxHeartbeats 8000000 in
theorem walk_kept (wide high t : Int) (a ak ab ar : Option Addr) (n nk nb nr c ck cb cr : Nat) (g : Nat → C4) (K B : Nat → Int) (r : Nat → Int × Int) (w : World) (hn : n ≤ maxLen) (hk : nk ≤ maxLen) (hb : nb ≤ maxLen) (hr : nr ≤ maxLen) (S : Sc w a n g) (SK : Sl w ak nk K) (SB : Sl w ab nb B) (SR : Sr w ar nr r) :
    Calls Try.prog 14 #[.agg #[.int .i64 wide, .int .i64 high, .slice a n c, .slice ak nk ck, .slice ab nb cb], .slice ar nr cr, .int .i64 t] w fun e w' => e = .returned (.bool true) ∧ Below w.heap.size w w' := by
  cases hs : smallB n nk nb 400
  · have HSM := hid hs
    clear hs
    have X0 := Bx.new w #[.int .i64 wide, .int .i64 high, .slice a n c, .slice ak nk ck, .slice ab nb cb] 29
    have hB0 : Below w.heap.size w (w.alloc (.cells #[.int .i64 wide, .int .i64 high, .slice a n c, .slice ak nk ck, .slice ab nb cb] 29)) := by (repeat' (first | with_reducible assumption | with_reducible exact Below.refl _ _ | with_reducible refine Below.drew ?_ | with_reducible refine below_drewN ?_ _ | with_reducible refine balloc ?_ _ | with_reducible refine bset ?_ ?_ _ | with_reducible refine Below.setCell ?_ ?_ _ | with_reducible refine Below.alloc ?_ ?_ _ | omega | (simp; done) | (simp; omega)))
    go_enter Try.func14, Try.ntmps14
    go_wp2_with fail
    generalize (w.alloc (.cells #[.int .i64 wide, .int .i64 high, .slice a n c, .slice ak nk ck, .slice ab nb cb] 29)) = W0 at X0 hB0 ⊢
    have z0 := X0.lt
    refine (law3_small _ _ _ _ _ _ _ _ _ _ _ _ _ hn hk hb).mono ?_
    rintro e w1 ⟨rfl, hb1⟩
    rw [HSM.out]
    have hB := hB0
    clear hB0
    replace X0 := X0.below hb1
    replace hB := bvia hB hb1
    clear hb1
    have X0_0 := X0.at_ 0 rfl
    have X0_1 := X0.at_ 1 rfl
    have X0_2 := X0.at_ 2 rfl
    have X0_3 := X0.at_ 3 rfl
    have X0_4 := X0.at_ 4 rfl
    have X0z := X0.lt
    go_wp2_with fail
    refine (awake_true _).mono ?_
    rintro e w2 ⟨rfl, hb2⟩
    go_wp2_with fail
    go_ret
    exact ⟨rfl, bvia hB hb2⟩
  have HSM := hid hs
  have hsm : n ≤ 400 ∧ nk ≤ 400 ∧ nb ≤ 400 := by simp [smallB] at hs; omega
  obtain ⟨n1, n2, n3⟩ := hsm
  clear hs
  have hr' := hr
  unfold maxLen at hr'
  by_cases hr20 : 20 < nr
  · skip
    have X0 := Bx.new w #[.int .i64 wide, .int .i64 high, .slice a n c, .slice ak nk ck, .slice ab nb cb] 29
    have hB0 : Below w.heap.size w (w.alloc (.cells #[.int .i64 wide, .int .i64 high, .slice a n c, .slice ak nk ck, .slice ab nb cb] 29)) := by (repeat' (first | with_reducible assumption | with_reducible exact Below.refl _ _ | with_reducible refine Below.drew ?_ | with_reducible refine below_drewN ?_ _ | with_reducible refine balloc ?_ _ | with_reducible refine bset ?_ ?_ _ | with_reducible refine Below.setCell ?_ ?_ _ | with_reducible refine Below.alloc ?_ ?_ _ | omega | (simp; done) | (simp; omega)))
    go_enter Try.func14, Try.ntmps14
    go_wp2_with fail
    generalize (w.alloc (.cells #[.int .i64 wide, .int .i64 high, .slice a n c, .slice ak nk ck, .slice ab nb cb] 29)) = W0 at X0 hB0 ⊢
    have z0 := X0.lt
    refine (law3_small _ _ _ _ _ _ _ _ _ _ _ _ _ hn hk hb).mono ?_
    rintro e w1 ⟨rfl, hb1⟩
    rw [HSM.out]
    have hB := hB0
    clear hB0
    replace X0 := X0.below hb1
    replace hB := bvia hB hb1
    clear hb1
    have X0_0 := X0.at_ 0 rfl
    have X0_1 := X0.at_ 1 rfl
    have X0_2 := X0.at_ 2 rfl
    have X0_3 := X0.at_ 3 rfl
    have X0_4 := X0.at_ 4 rfl
    have X0z := X0.lt
    go_wp2_with fail
    refine (awake_true _).mono ?_
    rintro e w2 ⟨rfl, hb2⟩
    go_wp2_with fail
    go_ret
    exact ⟨rfl, bvia hB hb2⟩
  have hR := fun W' S' SK' SB' SR' => wall_Step wide high a ak ab ar n nk nb nr c ck cb cr g K B r t W' (by omega) (by omega) (by omega) (by omega) S' SK' SB' SR'
  have hgood := fun h => run_ok (wide := wide) (high := high) (n := n) (nk := nk) (nb := nb) (nr := nr) (g := g) (K := K) (B := B) (r := r) (t := t) (m := 1) h
  have hval := fun h => rnE_zero (v := validW wide high n g nk nb K B) (u := rulesB nr r) (s := timesB t 1) h
  generalize rnE (validW wide high n g nk nb K B) (rulesB nr r) (timesB t 1) = er at *
  by_cases hz : er = 0
  rotate_left
  · have hzc : (er != 0) = true := by simpa using hz
    have HZ := hid hz
    clear hgood hval hz
    generalize erZ er wide = eW at *
    generalize erZ er high = eH at *
    generalize erN er n = en at *
    have X0 := Bx.new w #[.int .i64 wide, .int .i64 high, .slice a n c, .slice ak nk ck, .slice ab nb cb] 29
    have hB0 : Below w.heap.size w (w.alloc (.cells #[.int .i64 wide, .int .i64 high, .slice a n c, .slice ak nk ck, .slice ab nb cb] 29)) := by (repeat' (first | with_reducible assumption | with_reducible exact Below.refl _ _ | with_reducible refine Below.drew ?_ | with_reducible refine below_drewN ?_ _ | with_reducible refine balloc ?_ _ | with_reducible refine bset ?_ ?_ _ | with_reducible refine Below.setCell ?_ ?_ _ | with_reducible refine Below.alloc ?_ ?_ _ | omega | (simp; done) | (simp; omega)))
    go_enter Try.func14, Try.ntmps14
    go_wp2_with fail
    generalize (w.alloc (.cells #[.int .i64 wide, .int .i64 high, .slice a n c, .slice ak nk ck, .slice ab nb cb] 29)) = W0 at X0 hB0 ⊢
    have z0 := X0.lt
    refine (law3_small _ _ _ _ _ _ _ _ _ _ _ _ _ hn hk hb).mono ?_
    rintro e w1 ⟨rfl, hb1⟩
    rw [HSM.out]
    have hB := hB0
    clear hB0
    replace X0 := X0.below hb1
    replace hB := bvia hB hb1
    clear hb1
    have X0_0 := X0.at_ 0 rfl
    have X0_1 := X0.at_ 1 rfl
    have X0_2 := X0.at_ 2 rfl
    have X0_3 := X0.at_ 3 rfl
    have X0_4 := X0.at_ 4 rfl
    have X0z := X0.lt
    go_wp2_with fail
    refine (hR _ (S.below hB) (SK.below hB) (SB.below hB) (SR.below hB)).mono ?_
    rintro e w2 ⟨a1, c1, rfl, S1, hn1, hb2⟩
    clear S1 hn1
    clear X0_0 X0_1 X0_2 X0_3 X0_4 X0z
    replace X0 := X0.below hb2
    replace hB := bvia hB hb2
    clear hb2
    have X0_0 := X0.at_ 0 rfl
    have X0_1 := X0.at_ 1 rfl
    have X0_2 := X0.at_ 2 rfl
    have X0_3 := X0.at_ 3 rfl
    have X0_4 := X0.at_ 4 rfl
    have X0z := X0.lt
    go_wp2_with fail
    clear X0_0 X0_1 X0_2 X0_3 X0_4 X0z
    replace X0 := X0.alloc (.cells #[.int .i64 eW, .int .i64 eH, .slice a1 en c1] 24)
    have X3 := Bx.new w2 #[.int .i64 eW, .int .i64 eH, .slice a1 en c1] 24
    replace hB := balloc hB (.cells #[.int .i64 eW, .int .i64 eH, .slice a1 en c1] 24)
    have X0_0 := X0.at_ 0 rfl
    have X0_1 := X0.at_ 1 rfl
    have X0_2 := X0.at_ 2 rfl
    have X0_3 := X0.at_ 3 rfl
    have X0_4 := X0.at_ 4 rfl
    have X0z := X0.lt
    refine (awake_true _).mono ?_
    rintro e w3 ⟨rfl, hb3⟩
    go_wp2_with fail
    go_ret
    exact ⟨rfl, bvia hB hb3⟩
  subst hz
  obtain ⟨W, H, T, M, rfl, rfl, rfl, hM1, w1, h1, rfl, rfl, rfl, hok, hKb, hr0, hr8, hru, _, _, _⟩ := hgood rfl
  clear hM1
  obtain ⟨hv, hrs, hts⟩ := hval rfl
  have hvw := (validW_iff _ _ _ _ _ _ _ _).1 hv
  have hvg := hvw.1
  have hall := hvw.2.2.2
  have hm : W * H ≤ 1024 := by
    have h := (validG_iff _ _ _ _).1 hvg
    have e : (W : Int) * (H : Int) = ((W * H : Nat) : Int) := by simp
    rw [e] at h
    omega
  have z1 : ∀ x : Int, erZ 0 x = x := fun _ => rfl
  have z2 : ∀ x : Nat, erN 0 x = x := fun _ => rfl
  simp only [z1, z2, Int.toNat_natCast] at hR
  have hokN := stepW_ok (r := rlAt nr r T) (K := K) hok
  have hvN := validG_of w1 h1 hm hokN
  have hms : massTo (stepW W H (rlAt nr r T) K g) (W * H) = massTo g (W * H) := by unfold stepW; rw [flow_mass, metF_mass]
  have hmom := kept_mom (r := rlAt nr r T) (K := K) (B := B) (g := g) (fun i hi => (hall i hi).2.2.1) (fun i hi => (hall i hi).2.2.2)
  have hnb := no_bodies (K := K) (B := B) (W := W) (H := H) (fun i hi => (hall i hi).2.2.1) (fun i hi => (hall i hi).2.2.2)
  have herr := fun j (h : j < (bodTo B (W * H) 9).length) => bodTo_err h
  have hbl := bodTo_length B (W * H) 9
  have hMass := fun W' S' => grid_Mass (W : Int) (H : Int) a (W * H) c g W' (by omega) S'
  have hMom := fun W' S' => grid_Momentum (W : Int) (H : Int) a (W * H) c g W' (by omega) S'
  have hMass2 := fun a' c' W' S' => grid_Mass (W : Int) (H : Int) a' (W * H) c' (stepW W H (rlAt nr r T) K g) W' (by omega) S'
  have hMom2 := fun a' c' W' S' => grid_Momentum (W : Int) (H : Int) a' (W * H) c' (stepW W H (rlAt nr r T) K g) W' (by omega) S'
  have hBod := fun W' S' SK' SB' => wall_Bodies (W : Int) (H : Int) a ak ab (W * H) (W * H) (W * H) c ck cb g K B W' (by omega) (by omega) (by omega) S' SK' SB'
  have hImp := fun b W' S' SK' SB' => wall_Impulse (W : Int) (H : Int) b a ak ab (W * H) (W * H) (W * H) c ck cb g K B W' (by omega) (by omega) (by omega) S' SK' SB'
  have hStp := fun W' S' SR' => grid_Step (W : Int) (H : Int) a ar (W * H) nr c cr g r (T : Int) W' (by omega) (by omega) S' SR'
  have e0 : rnE (validG (W : Int) (H : Int) (W * H) g) (rulesB nr r) (timesB (T : Int) 1) = 0 := by rw [hvg, hrs, hts]; rfl
  rw [e0] at hStp
  simp only [z1, z2, Int.toNat_natCast] at hStp
  rw [hvg] at hMass hMom
  rw [hvN] at hMass2 hMom2
  rw [hms] at hMass2
  rw [hv] at hBod hImp
  have m1 : ∀ x, mR true x = x := fun _ => rfl
  have m2 : ∀ x, errR true x = 0 := fun _ => rfl
  have m3 : bodL true B (W * H) = bodTo B (W * H) 9 := rfl
  rw [m1, m2] at hMass hMass2
  rw [m1, m1, m2] at hMom hMom2
  rw [m2, m3] at hBod
  have hImpJ : ∀ j, j < (bodTo B (W * H) 9).length → ∀ W' S' SK' SB', Calls Try.prog 24 #[.agg #[.int .i64 (W : Int), .int .i64 (H : Int), .slice a (W * H) c], .agg #[.slice ak (W * H) ck, .slice ab (W * H) cb], .int .i64 ((bodTo B (W * H) 9).getD j 0)] W'
      fun e w' => e = .returned (.tuple #[.agg #[.int .i64 (impE g K B ((bodTo B (W * H) 9).getD j 0) (W * H)), .int .i64 (impN g K B ((bodTo B (W * H) 9).getD j 0) (W * H))], .int .i64 0]) ∧ Below W'.heap.size W' w' := fun j hj W' S' SK' SB' => by
    have h := hImp ((bodTo B (W * H) 9).getD j 0) W' S' SK' SB'
    have e1 : impErr true B ((bodTo B (W * H) 9).getD j 0) (W * H) = 0 := herr j hj
    have e2 : impVal true g K B ((bodTo B (W * H) 9).getD j 0) (W * H) = .agg #[.int .i64 (impE g K B ((bodTo B (W * H) 9).getD j 0) (W * H)), .int .i64 (impN g K B ((bodTo B (W * H) 9).getD j 0) (W * H))] := by unfold impVal; rw [if_pos e1]
    rw [e1, e2] at h
    exact h
  clear hImp herr m1 m2 m3 z1 z2 e0
  have hbE := fun b => impE_bd g K B b (W * H) hok.1
  have hbN := fun b => impN_bd g K B b (W * H) hok.1
  have hg0 := gE_bd (n := W * H) hok.1
  have hgm := hok.2
  have hgz := massTo_nonneg g (W * H) hok.1
  have hsE := fun k => sumB_bd (fun b => impE g K B b (W * H)) (bodTo B (W * H) 9) ((W * H : Nat) * 4000000000) (by omega) (fun b => by have := hbE b; omega) k
  have hsN := fun k => sumB_bd (fun b => impN g K B b (W * H)) (bodTo B (W * H) 9) ((W * H : Nat) * 4000000000) (by omega) (fun b => by have := hbN b; omega) k
  have hstE := fun k => (show sumB (fun b => impE g K B b (W * H)) (bodTo B (W * H) 9) (k + 1) = sumB (fun b => impE g K B b (W * H)) (bodTo B (W * H) 9) k + impE g K B ((bodTo B (W * H) 9).getD k 0) (W * H) from rfl)
  have hstN := fun k => (show sumB (fun b => impN g K B b (W * H)) (bodTo B (W * H) 9) (k + 1) = sumB (fun b => impN g K B b (W * H)) (bodTo B (W * H) 9) k + impN g K B ((bodTo B (W * H) 9).getD k 0) (W * H) from rfl)
  have hse0 : sumB (fun b => impE g K B b (W * H)) (bodTo B (W * H) 9) 0 = 0 := rfl
  have hsn0 : sumB (fun b => impN g K B b (W * H)) (bodTo B (W * H) 9) 0 = 0 := rfl
  have hsm : ∀ i, (∀ i, i < W * H → K i = 0) → i < W * H → stepW W H (rlAt nr r T) K g i = stepG W H (rlAt nr r T) g i := fun i h hi => stepG_of h hi
  clear hok hKb hru hv hvw hvg hall hokN hvN hms hval hgood hrs hts hr0 hr8
  generalize stepG W H (rlAt nr r T) g = G2 at *
  generalize stepW W H (rlAt nr r T) K g = G1 at *
  generalize sumB (fun b => impE g K B b (W * H)) (bodTo B (W * H) 9) = sE at *
  generalize sumB (fun b => impN g K B b (W * H)) (bodTo B (W * H) 9) = sN at *
  generalize hLL : bodTo B (W * H) 9 = L at *
  clear hLL
  have hbEN : ∀ b, (-1600000000000 ≤ impE g K B b (W * H) ∧ impE g K B b (W * H) ≤ 1600000000000) ∧ (-1600000000000 ≤ impN g K B b (W * H) ∧ impN g K B b (W * H) ≤ 1600000000000) := fun b => by have h1 := hbE b; have h2 := hbN b; omega
  clear hbE hbN
  obtain ⟨vE, hvE⟩ : ∃ vE : Nat → Int, ∀ j, vE j = impE g K B (L.getD j 0) (W * H) := ⟨_, fun _ => rfl⟩
  obtain ⟨vN, hvN⟩ : ∃ vN : Nat → Int, ∀ j, vN j = impN g K B (L.getD j 0) (W * H) := ⟨_, fun _ => rfl⟩
  have hbV : ∀ j, (-1600000000000 ≤ vE j ∧ vE j ≤ 1600000000000) ∧ (-1600000000000 ≤ vN j ∧ vN j ≤ 1600000000000) := fun j => by rw [hvE, hvN]; exact hbEN _
  simp only [← hvE, ← hvN] at hImpJ hstE hstN
  clear hbEN hvE hvN
  obtain ⟨q1, q2⟩ := w1; obtain ⟨q3, q4⟩ := h1
  have hsE2 : ∀ k, k ≤ 9 → -14400000000000 ≤ sE k ∧ sE k ≤ 14400000000000 := fun k hk => by
    have h := hsE k
    have h2 : (k : Int) * ((W * H : Nat) * 4000000000) ≤ 9 * (400 * 4000000000) := Int.mul_le_mul (by omega) (by omega) (by omega) (by omega)
    omega
  have hsN2 : ∀ k, k ≤ 9 → -14400000000000 ≤ sN k ∧ sN k ≤ 14400000000000 := fun k hk => by
    have h := hsN k
    have h2 : (k : Int) * ((W * H : Nat) * 4000000000) ≤ 9 * (400 * 4000000000) := Int.mul_le_mul (by omega) (by omega) (by omega) (by omega)
    omega
  clear hsE hsN
  obtain ⟨mE, mN⟩ := hmom
  generalize gE G1 (W * H) = E1 at *
  generalize gN G1 (W * H) = N1 at *
  generalize gE g (W * H) = E0 at *
  generalize gN g (W * H) = N0 at *
  generalize massTo g (W * H) = MG at *
  generalize W * H = n at *
  have HE := hid mE; have HN := hid mN; have HSE := hid hsE2; have HSN := hid hsN2; have HV := hid hbV; have HTE := hid hstE; have HTN := hid hstN; have HS0 := hid hse0; have HS1 := hid hsn0; have HIJ := hid hImpJ; have HNB := hid hnb; have HSM2 := hid hsm
  clear mE mN hsE2 hsN2 hbV hstE hstN hse0 hsn0 hImpJ hnb hsm
  have X0 := Bx.new w #[.int .i64 (W : Int), .int .i64 (H : Int), .slice a n c, .slice ak n ck, .slice ab n cb] 29
  have hB0 : Below w.heap.size w (w.alloc (.cells #[.int .i64 (W : Int), .int .i64 (H : Int), .slice a n c, .slice ak n ck, .slice ab n cb] 29)) := by (repeat' (first | with_reducible assumption | with_reducible exact Below.refl _ _ | with_reducible refine Below.drew ?_ | with_reducible refine below_drewN ?_ _ | with_reducible refine balloc ?_ _ | with_reducible refine bset ?_ ?_ _ | with_reducible refine Below.setCell ?_ ?_ _ | with_reducible refine Below.alloc ?_ ?_ _ | omega | (simp; done) | (simp; omega)))
  go_enter Try.func14, Try.ntmps14
  go_wp2_with fail
  generalize (w.alloc (.cells #[.int .i64 (W : Int), .int .i64 (H : Int), .slice a n c, .slice ak n ck, .slice ab n cb] 29)) = W0 at X0 hB0 ⊢
  have z0 := X0.lt
  refine (law3_small _ _ _ _ _ _ _ _ _ _ _ _ _ hn hk hb).mono ?_
  rintro e w1 ⟨rfl, hb1⟩
  rw [HSM.out]
  have hB := hB0
  clear hB0
  replace X0 := X0.below hb1
  replace hB := bvia hB hb1
  clear hb1
  have X0_0 := X0.at_ 0 rfl
  have X0_1 := X0.at_ 1 rfl
  have X0_2 := X0.at_ 2 rfl
  have X0_3 := X0.at_ 3 rfl
  have X0_4 := X0.at_ 4 rfl
  have X0z := X0.lt
  go_wp2_with fail
  refine (hR _ (S.below hB) (SK.below hB) (SB.below hB) (SR.below hB)).mono ?_
  rintro e w2 ⟨a1, c1, rfl, S1, hn1, hb2⟩
  clear hn1
  clear X0_0 X0_1 X0_2 X0_3 X0_4 X0z
  replace X0 := X0.below hb2
  replace hB := bvia hB hb2
  clear hb2
  have X0_0 := X0.at_ 0 rfl
  have X0_1 := X0.at_ 1 rfl
  have X0_2 := X0.at_ 2 rfl
  have X0_3 := X0.at_ 3 rfl
  have X0_4 := X0.at_ 4 rfl
  have X0z := X0.lt
  go_wp2_with fail
  have hw2 := X0.lt
  clear X0_0 X0_1 X0_2 X0_3 X0_4 X0z
  replace X0 := X0.alloc (.cells #[.int .i64 (W : Int), .int .i64 (H : Int), .slice a1 n c1] 24)
  replace S1 := S1.alloc (.cells #[.int .i64 (W : Int), .int .i64 (H : Int), .slice a1 n c1] 24)
  have X1 := Bx.new w2 #[.int .i64 (W : Int), .int .i64 (H : Int), .slice a1 n c1] 24
  replace hB := balloc hB (.cells #[.int .i64 (W : Int), .int .i64 (H : Int), .slice a1 n c1] 24)
  have X0_0 := X0.at_ 0 rfl
  have X0_1 := X0.at_ 1 rfl
  have X0_2 := X0.at_ 2 rfl
  have X0_3 := X0.at_ 3 rfl
  have X0_4 := X0.at_ 4 rfl
  have X0z := X0.lt
  have X1_0 := X1.at_ 0 rfl
  have X1_1 := X1.at_ 1 rfl
  have X1_2 := X1.at_ 2 rfl
  have X1z := X1.lt
  refine (hMass _ (S.below hB)).mono ?_
  rintro e w3 ⟨rfl, hb3⟩
  clear X0_0 X0_1 X0_2 X0_3 X0_4 X0z X1_0 X1_1 X1_2 X1z
  replace X0 := X0.below hb3
  replace S1 := S1.below hb3
  replace X1 := X1.below hb3
  replace hB := bvia hB hb3
  clear hb3
  have X0_0 := X0.at_ 0 rfl
  have X0_1 := X0.at_ 1 rfl
  have X0_2 := X0.at_ 2 rfl
  have X0_3 := X0.at_ 3 rfl
  have X0_4 := X0.at_ 4 rfl
  have X0z := X0.lt
  have X1_0 := X1.at_ 0 rfl
  have X1_1 := X1.at_ 1 rfl
  have X1_2 := X1.at_ 2 rfl
  have X1z := X1.lt
  go_wp2_with fail
  refine (hMass2 _ _ _ S1).mono ?_
  rintro e w4 ⟨rfl, hb4⟩
  clear X0_0 X0_1 X0_2 X0_3 X0_4 X0z X1_0 X1_1 X1_2 X1z
  replace X0 := X0.below hb4
  replace S1 := S1.below hb4
  replace X1 := X1.below hb4
  replace hB := bvia hB hb4
  clear hb4
  have X0_0 := X0.at_ 0 rfl
  have X0_1 := X0.at_ 1 rfl
  have X0_2 := X0.at_ 2 rfl
  have X0_3 := X0.at_ 3 rfl
  have X0_4 := X0.at_ 4 rfl
  have X0z := X0.lt
  have X1_0 := X1.at_ 0 rfl
  have X1_1 := X1.at_ 1 rfl
  have X1_2 := X1.at_ 2 rfl
  have X1z := X1.lt
  go_wp2_with fail
  refine (hMom _ (S.below hB)).mono ?_
  rintro e w5 ⟨rfl, hb5⟩
  clear X0_0 X0_1 X0_2 X0_3 X0_4 X0z X1_0 X1_1 X1_2 X1z
  replace X0 := X0.below hb5
  replace S1 := S1.below hb5
  replace X1 := X1.below hb5
  replace hB := bvia hB hb5
  clear hb5
  have X0_0 := X0.at_ 0 rfl
  have X0_1 := X0.at_ 1 rfl
  have X0_2 := X0.at_ 2 rfl
  have X0_3 := X0.at_ 3 rfl
  have X0_4 := X0.at_ 4 rfl
  have X0z := X0.lt
  have X1_0 := X1.at_ 0 rfl
  have X1_1 := X1.at_ 1 rfl
  have X1_2 := X1.at_ 2 rfl
  have X1z := X1.lt
  go_wp2_with fail
  refine (hMom2 _ _ _ S1).mono ?_
  rintro e w6 ⟨rfl, hb6⟩
  clear X0_0 X0_1 X0_2 X0_3 X0_4 X0z X1_0 X1_1 X1_2 X1z
  replace X0 := X0.below hb6
  replace S1 := S1.below hb6
  replace X1 := X1.below hb6
  replace hB := bvia hB hb6
  clear hb6
  have X0_0 := X0.at_ 0 rfl
  have X0_1 := X0.at_ 1 rfl
  have X0_2 := X0.at_ 2 rfl
  have X0_3 := X0.at_ 3 rfl
  have X0_4 := X0.at_ 4 rfl
  have X0z := X0.lt
  have X1_0 := X1.at_ 0 rfl
  have X1_1 := X1.at_ 1 rfl
  have X1_2 := X1.at_ 2 rfl
  have X1z := X1.lt
  go_wp2_with fail
  refine (hBod _ (S.below hB) (SK.below hB) (SB.below hB)).mono ?_
  rintro e w7 ⟨al, cl, rfl, SL, hb7⟩
  clear X0_0 X0_1 X0_2 X0_3 X0_4 X0z X1_0 X1_1 X1_2 X1z
  replace X0 := X0.below hb7
  replace S1 := S1.below hb7
  replace X1 := X1.below hb7
  replace hB := bvia hB hb7
  clear hb7
  have X0_0 := X0.at_ 0 rfl
  have X0_1 := X0.at_ 1 rfl
  have X0_2 := X0.at_ 2 rfl
  have X0_3 := X0.at_ 3 rfl
  have X0_4 := X0.at_ 4 rfl
  have X0z := X0.lt
  have X1_0 := X1.at_ 0 rfl
  have X1_1 := X1.at_ 1 rfl
  have X1_2 := X1.at_ 2 rfl
  have X1z := X1.lt
  go_wp2_with fail
  clear X0_0 X0_1 X0_2 X0_3 X0_4 X0z X1_0 X1_1 X1_2 X1z
  have hw7 : w2.heap.size < w7.heap.size := X1.lt
  generalize hll : L.length = ll at *
  clear hll
  obtain ⟨wo, rfl⟩ : ∃ wo : World, wo = w7 := ⟨_, rfl⟩
  have hne1 : ¬ w2.heap.size = w.heap.size := by omega
  have hne2 : ¬ w.heap.size = w2.heap.size := by omega
  go_loopw [13, 14, 21] (fun s13 s14 s21 wr => ∃ k : Nat, k ≤ ll ∧ s21 = .int .i64 k ∧ s13 = .int .i64 (E0 + sE k) ∧ s14 = .int .i64 (N0 + sN k) ∧ Bx wr w.heap.size #[.int .i64 (W : Int), .int .i64 (H : Int), .slice a n c, .slice ak n ck, .slice ab n cb] ∧ Bx wr w2.heap.size #[.int .i64 (W : Int), .int .i64 (H : Int), .slice a1 n c1] ∧ Sc wr a1 n G1 ∧ Sl wr al ll (fun k => L.getD k 0) ∧ Below w.heap.size w wr) (fun _ _ s21 _ => ll - (intOf s21).toNat)
  case atStart => exact ⟨0, Nat.zero_le _, rfl, by rw [HS0.out]; simp, by rw [HS1.out]; simp, X0, X1, S1, SL, hB⟩
  case round =>
    clear X0 X1 S1 SL hB
    obtain ⟨k, hk', rfl, rfl, rfl, X0, X1, S1, SL, hB⟩ := hrel
    obtain ⟨s0, s1⟩ := HSE.out k (by omega)
    obtain ⟨s2, s3⟩ := HSN.out k (by omega)
    by_cases hlt : k < ll
    · obtain ⟨bl, ol, rfl, hbl', cl0⟩ := SL k hlt
      have l0 := X0.lt; have l1 := X1.lt
      have hIm := HIJ.out k hlt
      obtain ⟨⟨v0, v1⟩, v2, v3⟩ := HV.out k
      dsimp only at cl0
      have HT1 := hid (HTE.out k); have HT2 := hid (HTN.out k)
      generalize sE k = ek at *
      generalize sN k = nk' at *
      generalize vE k = ev at *
      generalize vN k = nv at *
      generalize L.getD k 0 = bk at *
      go_upto_region 16 with (fail)
      have r0 : ∀ Y, Below wr.heap.size wr Y → Y.cell? ⟨w.heap.size, 0, none⟩ = some (.int .i64 (W : Int)) := fun Y h => (X0.below h).at_ 0 rfl
      have r1 : ∀ Y, Below wr.heap.size wr Y → Y.cell? ⟨w.heap.size, 1, none⟩ = some (.int .i64 (H : Int)) := fun Y h => (X0.below h).at_ 1 rfl
      have r2 : ∀ Y, Below wr.heap.size wr Y → Y.cell? ⟨w.heap.size, 2, none⟩ = some (.slice a n c) := fun Y h => (X0.below h).at_ 2 rfl
      have r3 : ∀ Y, Below wr.heap.size wr Y → Y.cell? ⟨w.heap.size, 3, none⟩ = some (.slice ak n ck) := fun Y h => (X0.below h).at_ 3 rfl
      have r4 : ∀ Y, Below wr.heap.size wr Y → Y.cell? ⟨w.heap.size, 4, none⟩ = some (.slice ab n cb) := fun Y h => (X0.below h).at_ 4 rfl
      have r5 : ∀ Y, Below wr.heap.size wr Y → Y.cell? ⟨bl, ol + k, none⟩ = some (.int .i64 bk) := fun Y h => (bcell h _ _ hbl').trans cl0
      have Sw := S.below hB; have SKw := SK.below hB; have SBw := SB.below hB
      clear cl0
      go_region_held3 (fun Y => Below wr.heap.size wr Y) ((repeat' (first | with_reducible assumption | with_reducible exact Below.refl _ _ | with_reducible refine Below.drew ?_ | with_reducible refine below_drewN ?_ _ | with_reducible refine balloc ?_ _ | with_reducible refine bset ?_ ?_ _ | with_reducible refine Below.setCell ?_ ?_ _ | with_reducible refine Below.alloc ?_ ?_ _ | omega | (simp; done) | (simp; omega))))
        ((first
          | (go_at_call 24; refine (hIm _ (Sw.below (by (repeat' (first | with_reducible assumption | with_reducible exact Below.refl _ _ | with_reducible refine Below.drew ?_ | with_reducible refine below_drewN ?_ _ | with_reducible refine balloc ?_ _ | with_reducible refine bset ?_ ?_ _ | with_reducible refine Below.setCell ?_ ?_ _ | with_reducible refine Below.alloc ?_ ?_ _ | omega | (simp; done) | (simp; omega))))) (SKw.below (by (repeat' (first | with_reducible assumption | with_reducible exact Below.refl _ _ | with_reducible refine Below.drew ?_ | with_reducible refine below_drewN ?_ _ | with_reducible refine balloc ?_ _ | with_reducible refine bset ?_ ?_ _ | with_reducible refine Below.setCell ?_ ?_ _ | with_reducible refine Below.alloc ?_ ?_ _ | omega | (simp; done) | (simp; omega))))) (SBw.below (by (repeat' (first | with_reducible assumption | with_reducible exact Below.refl _ _ | with_reducible refine Below.drew ?_ | with_reducible refine below_drewN ?_ _ | with_reducible refine balloc ?_ _ | with_reducible refine bset ?_ ?_ _ | with_reducible refine Below.setCell ?_ ?_ _ | with_reducible refine Below.alloc ?_ ?_ _ | omega | (simp; done) | (simp; omega)))))).mono ?_; rintro e w8 ⟨rfl, hb8⟩; have hB8 : Below wr.heap.size wr w8 := bvia (by (repeat' (first | with_reducible assumption | with_reducible exact Below.refl _ _ | with_reducible refine Below.drew ?_ | with_reducible refine below_drewN ?_ _ | with_reducible refine balloc ?_ _ | with_reducible refine bset ?_ ?_ _ | with_reducible refine Below.setCell ?_ ?_ _ | with_reducible refine Below.alloc ?_ ?_ _ | omega | (simp; done) | (simp; omega)))) hb8; have hck := bcell hb8; have hfk := bfrozen hb8; have hzk := hb8.size; (try simp at hzk); (try have hz1k : wr.heap.size < w8.heap.size := (by omega)))
          | fail))
      all_goals
        go_wp2_with fail
        go_quiet (fail)
        go_wp2_with fail
        go_roundw
        case rel => exact ⟨k + 1, by omega, by go_num, by rw [HT1.out]; go_num, by rw [HT2.out]; go_num, X0.below (by (repeat' (first | with_reducible assumption | with_reducible exact Below.refl _ _ | with_reducible refine Below.drew ?_ | with_reducible refine below_drewN ?_ _ | with_reducible refine balloc ?_ _ | with_reducible refine bset ?_ ?_ _ | with_reducible refine Below.setCell ?_ ?_ _ | with_reducible refine Below.alloc ?_ ?_ _ | omega | (simp; done) | (simp; omega)))), X1.below (by (repeat' (first | with_reducible assumption | with_reducible exact Below.refl _ _ | with_reducible refine Below.drew ?_ | with_reducible refine below_drewN ?_ _ | with_reducible refine balloc ?_ _ | with_reducible refine bset ?_ ?_ _ | with_reducible refine Below.setCell ?_ ?_ _ | with_reducible refine Below.alloc ?_ ?_ _ | omega | (simp; done) | (simp; omega)))), S1.below (by (repeat' (first | with_reducible assumption | with_reducible exact Below.refl _ _ | with_reducible refine Below.drew ?_ | with_reducible refine below_drewN ?_ _ | with_reducible refine balloc ?_ _ | with_reducible refine bset ?_ ?_ _ | with_reducible refine Below.setCell ?_ ?_ _ | with_reducible refine Below.alloc ?_ ?_ _ | omega | (simp; done) | (simp; omega)))), SL.below (by (repeat' (first | with_reducible assumption | with_reducible exact Below.refl _ _ | with_reducible refine Below.drew ?_ | with_reducible refine below_drewN ?_ _ | with_reducible refine balloc ?_ _ | with_reducible refine bset ?_ ?_ _ | with_reducible refine Below.setCell ?_ ?_ _ | with_reducible refine Below.alloc ?_ ?_ _ | omega | (simp; done) | (simp; omega)))), bvia hB (by (repeat' (first | with_reducible assumption | with_reducible exact Below.refl _ _ | with_reducible refine Below.drew ?_ | with_reducible refine below_drewN ?_ _ | with_reducible refine balloc ?_ _ | with_reducible refine bset ?_ ?_ _ | with_reducible refine Below.setCell ?_ ?_ _ | with_reducible refine Below.alloc ?_ ?_ _ | omega | (simp; done) | (simp; omega))))⟩
        case measure => simp [intOf]; omega
    · obtain rfl : k = ll := (by omega)
      rw [HE.out, HN.out]
      clear s0 s1 s2 s3
      by_cases hl0 : k = 0
      rotate_left
      · have hlp : 0 < k := by omega
        clear hl0
        go_wp2_with fail
        refine (awake_true _).mono ?_
        rintro e w9 ⟨rfl, hb9⟩
        go_wp2_with fail
        go_ret
        exact ⟨rfl, bvia hB hb9⟩
      · have hK0 := HNB.out hl0
        have hsame : ∀ i, i < n → G1 i = G2 i := fun i hi => HSM2.out i hK0 hi
        have HSA := hid hsame
        clear hK0 hsame
        subst hl0
        obtain ⟨wo, rfl⟩ : ∃ wo : World, wo = wr := ⟨_, rfl⟩
        have X0_0 := X0.at_ 0 rfl
        have X0_1 := X0.at_ 1 rfl
        have X0_2 := X0.at_ 2 rfl
        have X0z := X0.lt
        have X1_0 := X1.at_ 0 rfl
        have X1_1 := X1.at_ 1 rfl
        have X1_2 := X1.at_ 2 rfl
        have X1z := X1.lt
        go_wp2_with fail
        refine (hStp _ (S.below hB) (SR.below hB)).mono ?_
        rintro e w9 ⟨a9, c9, rfl, S9, _, hb9⟩
        clear X0_0 X0_1 X0_2 X0z X1_0 X1_1 X1_2 X1z
        replace X0 := X0.below hb9
        replace X1 := X1.below hb9
        replace S1 := S1.below hb9
        replace hB := bvia hB hb9
        clear hb9
        have X0_0 := X0.at_ 0 rfl
        have X0_1 := X0.at_ 1 rfl
        have X0_2 := X0.at_ 2 rfl
        have X0z := X0.lt
        have X1_0 := X1.at_ 0 rfl
        have X1_1 := X1.at_ 1 rfl
        have X1_2 := X1.at_ 2 rfl
        have X1z := X1.lt
        go_wp2_with fail
        clear X0_0 X0_1 X0_2 X0z X1_0 X1_1 X1_2 X1z
        replace X0 := X0.alloc (.cells #[.int .i64 (W : Int), .int .i64 (H : Int), .slice a9 n c9] 24)
        replace X1 := X1.alloc (.cells #[.int .i64 (W : Int), .int .i64 (H : Int), .slice a9 n c9] 24)
        replace S1 := S1.alloc (.cells #[.int .i64 (W : Int), .int .i64 (H : Int), .slice a9 n c9] 24)
        replace S9 := S9.alloc (.cells #[.int .i64 (W : Int), .int .i64 (H : Int), .slice a9 n c9] 24)
        have X9 := Bx.new w9 #[.int .i64 (W : Int), .int .i64 (H : Int), .slice a9 n c9] 24
        replace hB := balloc hB (.cells #[.int .i64 (W : Int), .int .i64 (H : Int), .slice a9 n c9] 24)
        have X0_0 := X0.at_ 0 rfl
        have X0_1 := X0.at_ 1 rfl
        have X0_2 := X0.at_ 2 rfl
        have X0z := X0.lt
        have X1_0 := X1.at_ 0 rfl
        have X1_1 := X1.at_ 1 rfl
        have X1_2 := X1.at_ 2 rfl
        have X1z := X1.lt
        refine (ref2_Same _ _ _ _ _ _ _ _ _ _ (by omega) S1 S9 HSA.out).mono ?_
        rintro e w10 ⟨rfl, hb10⟩
        replace hB := bvia hB hb10
        go_wp2_with fail
        refine (awake_true _).mono ?_
        rintro e w11 ⟨rfl, hb11⟩
        go_wp2_with fail
        go_ret
        exact ⟨rfl, bvia hB hb11⟩
end Go.Proofs.Ytnnaegnkkpknpaa
