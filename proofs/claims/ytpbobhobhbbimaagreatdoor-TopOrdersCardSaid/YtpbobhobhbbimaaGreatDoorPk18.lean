/- The walk of the law TopOrders: any two orders of turns, in which all nodes come to so many steps, end alike. -/
import Derived.Test.YtpbobhobhbbimaaGreatDoorPk17
import Derived.Test.YtpbobhobhbbimaaGreatDoorPk13
import Derived.Test.YtpbobhobhbbimaaGreatDoorPk8
import Derived.Test.YtpbobhobhbbimaaGreatDoorPk6
import Derived.Test.YtpbobhobhbbimaaGreatDoorPk10
import Derived.Test.YtpbobhobhbbimaaGreatDoorPk2
import Derived.Test.YtpbobhobhbbimaaGreatDoorPk3
import Derived.Test.YtpbobhobhbbimaaGreatDoorPk14
namespace Go.Proofs.YtpbobhobhbbimaaGreatDoor
open Go Go.RowKit
attribute [local go_sem] Oper.semAt_some
set_option linter.unusedVariables false
set_option linter.unusedSimpArgs false
theorem sorted_wf {P : List N6} (h : ∀ j, j < P.length → wfN (pF P j)) : ∀ j, j < (sortN P).length → wfN ((fun k => (sortN P).getD k N6.zero) j) := fun j hj => by
  obtain ⟨i, hi, e⟩ := pF_ex ((sortN_perm P).mem_iff.1 (pF_mem hj))
  show wfN (pF (sortN P) j)
  rw [← e]
  exact h i hi
set_option maxRecDepth 100000 in
set_option maxHeartbeats 8000000 in
theorem walk_orders (wide high : Int) (a ao rl ad ad' : Option Addr) (n no rn k k' c co rc cd cd' : Nat) (g : Nat → C4) (o : Nat → Int) (ru : Nat → Int × Int) (f f' : Nat → Int) (N N' : Int) (w : World) (H : Sc w a n g) (HO : Sl w ao no o) (HR : Sr w rl rn ru) (HD : Sl w ad k f) (HD' : Sl w ad' k' f') (HT : Lib.TabIs Tryz.prog w "internal/strconv.uint64pow10" .u64 Lib.pow10Tab) :
    Calls Tryz.prog 3 #[.agg #[.int .i64 wide, .int .i64 high, .slice a n c, .slice ao no co], .slice rl rn rc, .agg #[.int .i64 N, .slice ad k cd, .int .i64 N', .slice ad' k' cd']] w fun e w' => e = .returned (.bool true) ∧ Below w.heap.size w w' := by
  have hsm := fun W => law5_Small wide high 40 a ao n no c co W
  have X0 := (Bx.new w #[.int .i64 wide, .int .i64 high, .slice a n c, .slice ao no co] 27).alloc (.cells #[.int .i64 N, .slice ad k cd, .int .i64 N', .slice ad' k' cd'] 31)
  have X1 := Bx.new (w.alloc (.cells #[.int .i64 wide, .int .i64 high, .slice a n c, .slice ao no co] 27)) #[.int .i64 N, .slice ad k cd, .int .i64 N', .slice ad' k' cd'] 31
  simp only [World.size_alloc] at X1
  have hB0 : Below w.heap.size w ((w.alloc (.cells #[.int .i64 wide, .int .i64 high, .slice a n c, .slice ao no co] 27)).alloc (.cells #[.int .i64 N, .slice ad k cd, .int .i64 N', .slice ad' k' cd'] 31)) := by (repeat' (first | with_reducible assumption | with_reducible exact Below.refl _ _ | with_reducible refine Below.drew ?_ | with_reducible refine below_drewN ?_ _ | with_reducible refine balloc ?_ _ | with_reducible refine bset ?_ ?_ _ | with_reducible refine Below.setCell ?_ ?_ _ | with_reducible refine Below.alloc ?_ ?_ _ | omega | (simp; done) | (simp; omega)))
  cases hs : smallL n no 40
  · rw [hs] at hsm
    go_enter Tryz.func3, Tryz.ntmps3
    go_wp2_with fail
    generalize ((w.alloc (.cells #[.int .i64 wide, .int .i64 high, .slice a n c, .slice ao no co] 27)).alloc (.cells #[.int .i64 N, .slice ad k cd, .int .i64 N', .slice ad' k' cd'] 31)) = W0 at X0 X1 hB0 ⊢
    have z0 := X0.lt
    have z1 := X1.lt
    refine (hsm _).mono ?_
    rintro e w1 ⟨rfl, hb1⟩
    replace X1 := X1.below hb1
    have x0 := X1.at_ 0 rfl; have x1 := X1.at_ 1 rfl; have x2 := X1.at_ 2 rfl; have x3 := X1.at_ 3 rfl; have xz := X1.lt
    go_wp2_with fail
    refine (awake5_true _).mono ?_
    rintro e w2 ⟨rfl, hb2⟩
    go_wp2
    go_ret
    exact ⟨rfl, bvia (bvia hB0 hb1) hb2⟩
  obtain ⟨t1, t2⟩ := smallL_iff.1 hs
  rw [hs] at hsm
  clear hs
  by_cases hr : 20 < rn
  · have hri : (20 : Int) < (rn : Int) := by omega
    go_enter Tryz.func3, Tryz.ntmps3
    go_wp2_with fail
    generalize ((w.alloc (.cells #[.int .i64 wide, .int .i64 high, .slice a n c, .slice ao no co] 27)).alloc (.cells #[.int .i64 N, .slice ad k cd, .int .i64 N', .slice ad' k' cd'] 31)) = W0 at X0 X1 hB0 ⊢
    have z0 := X0.lt
    have z1 := X1.lt
    refine (hsm _).mono ?_
    rintro e w1 ⟨rfl, hb1⟩
    replace X1 := X1.below hb1
    have x0 := X1.at_ 0 rfl; have x1 := X1.at_ 1 rfl; have x2 := X1.at_ 2 rfl; have x3 := X1.at_ 3 rfl; have xz := X1.lt
    go_wp2_with fail
    refine (awake5_true _).mono ?_
    rintro e w2 ⟨rfl, hb2⟩
    go_wp2
    go_ret
    exact ⟨rfl, bvia (bvia hB0 hb1) hb2⟩
  have hri : ¬ (20 : Int) < (rn : Int) := by omega
  by_cases hk : 80 < k
  · have hki : (80 : Int) < (k : Int) := by omega
    go_enter Tryz.func3, Tryz.ntmps3
    go_wp2_with fail
    generalize ((w.alloc (.cells #[.int .i64 wide, .int .i64 high, .slice a n c, .slice ao no co] 27)).alloc (.cells #[.int .i64 N, .slice ad k cd, .int .i64 N', .slice ad' k' cd'] 31)) = W0 at X0 X1 hB0 ⊢
    have z0 := X0.lt
    have z1 := X1.lt
    refine (hsm _).mono ?_
    rintro e w1 ⟨rfl, hb1⟩
    replace X1 := X1.below hb1
    have x0 := X1.at_ 0 rfl; have x1 := X1.at_ 1 rfl; have x2 := X1.at_ 2 rfl; have x3 := X1.at_ 3 rfl; have xz := X1.lt
    go_wp2_with fail
    refine (awake5_true _).mono ?_
    rintro e w2 ⟨rfl, hb2⟩
    go_wp2
    go_ret
    exact ⟨rfl, bvia (bvia hB0 hb1) hb2⟩
  have hki : ¬ (80 : Int) < (k : Int) := by omega
  by_cases hk' : 80 < k'
  · have hki' : (80 : Int) < (k' : Int) := by omega
    go_enter Tryz.func3, Tryz.ntmps3
    go_wp2_with fail
    generalize ((w.alloc (.cells #[.int .i64 wide, .int .i64 high, .slice a n c, .slice ao no co] 27)).alloc (.cells #[.int .i64 N, .slice ad k cd, .int .i64 N', .slice ad' k' cd'] 31)) = W0 at X0 X1 hB0 ⊢
    have z0 := X0.lt
    have z1 := X1.lt
    refine (hsm _).mono ?_
    rintro e w1 ⟨rfl, hb1⟩
    replace X1 := X1.below hb1
    have x0 := X1.at_ 0 rfl; have x1 := X1.at_ 1 rfl; have x2 := X1.at_ 2 rfl; have x3 := X1.at_ 3 rfl; have xz := X1.lt
    go_wp2_with fail
    refine (awake5_true _).mono ?_
    rintro e w2 ⟨rfl, hb2⟩
    go_wp2
    go_ret
    exact ⟨rfl, bvia (bvia hB0 hb1) hb2⟩
  have hki' : ¬ (80 : Int) < (k' : Int) := by omega
  by_cases hN : 10 < N
  · skip
    go_enter Tryz.func3, Tryz.ntmps3
    go_wp2_with fail
    generalize ((w.alloc (.cells #[.int .i64 wide, .int .i64 high, .slice a n c, .slice ao no co] 27)).alloc (.cells #[.int .i64 N, .slice ad k cd, .int .i64 N', .slice ad' k' cd'] 31)) = W0 at X0 X1 hB0 ⊢
    have z0 := X0.lt
    have z1 := X1.lt
    refine (hsm _).mono ?_
    rintro e w1 ⟨rfl, hb1⟩
    replace X1 := X1.below hb1
    have x0 := X1.at_ 0 rfl; have x1 := X1.at_ 1 rfl; have x2 := X1.at_ 2 rfl; have x3 := X1.at_ 3 rfl; have xz := X1.lt
    go_wp2_with fail
    refine (awake5_true _).mono ?_
    rintro e w2 ⟨rfl, hb2⟩
    go_wp2
    go_ret
    exact ⟨rfl, bvia (bvia hB0 hb1) hb2⟩
  obtain ⟨EP, hEP⟩ : ∃ EP, plyE (validM wide high n g no o) (rulesB rn ru) (namB o no f k) (within N 0 1000 && decide (k ≤ 2000)) = EP := ⟨_, rfl⟩
  obtain ⟨EQ, hEQ⟩ : ∃ EQ, plyE (validM wide high n g no o) (rulesB rn ru) (namB o no f' k') (within N 0 1000 && decide (k' ≤ 2000)) = EQ := ⟨_, rfl⟩
  obtain ⟨Z, hZ⟩ : ∃ Z, plyL wide.toNat high.toNat o no rn ru N (ply0 g) ((List.range k).map f) = Z := ⟨_, rfl⟩
  obtain ⟨Y, hY⟩ : ∃ Y, plyL wide.toNat high.toNat o no rn ru N (ply0 g) ((List.range k').map f') = Y := ⟨_, rfl⟩
  have hP := fun W S SO SR SD => (node_Play wide high a ao rl ad n no rn k c co rc cd g o ru f N W (by omega) (by omega) (by omega) (by omega) S SO SR SD).mono fun e w' h => playU h
  have hQ := fun W S SO SR SD => (node_Play wide high a ao rl ad' n no rn k' c co rc cd' g o ru f' N W (by omega) (by omega) (by omega) (by omega) S SO SR SD).mono fun e w' h => playU h
  rw [hEP, hZ] at hP
  rw [hEQ, hY] at hQ
  obtain ⟨E1, hE1⟩ : ∃ E1, uE EP Z = E1 := ⟨_, rfl⟩
  obtain ⟨M1, hM1⟩ : ∃ M1, uM EP o no Z = M1 := ⟨_, rfl⟩
  obtain ⟨R1, hR1⟩ : ∃ R1, uR EP Z = R1 := ⟨_, rfl⟩
  obtain ⟨C1, hC1⟩ : ∃ C1, uC EP Z = C1 := ⟨_, rfl⟩
  obtain ⟨E2, hE2⟩ : ∃ E2, uE EQ Y = E2 := ⟨_, rfl⟩
  obtain ⟨M2, hM2⟩ : ∃ M2, uM EQ o no Y = M2 := ⟨_, rfl⟩
  obtain ⟨R2, hR2⟩ : ∃ R2, uR EQ Y = R2 := ⟨_, rfl⟩
  obtain ⟨C2, hC2⟩ : ∃ C2, uC EQ Y = C2 := ⟨_, rfl⟩
  unfold PlayU at hP hQ
  rw [hE1, hM1, hR1, hC1] at hP
  rw [hE2, hM2, hR2, hC2] at hQ
  have HE1 := hid hE1; have HM1 := hid hM1; have HR1 := hid hR1; have HEP := hid hEP; have HZ := hid hZ
  have HE2 := hid hE2; have HM2 := hid hM2; have HR2 := hid hR2; have HEQ := hid hEQ; have HY := hid hY
  clear hE1 hM1 hR1 hC1 hEP hZ hE2 hM2 hR2 hC2 hEQ hY
  go_enter Tryz.func3, Tryz.ntmps3
  go_wp2_with fail
  generalize ((w.alloc (.cells #[.int .i64 wide, .int .i64 high, .slice a n c, .slice ao no co] 27)).alloc (.cells #[.int .i64 N, .slice ad k cd, .int .i64 N', .slice ad' k' cd'] 31)) = W0 at X0 X1 hB0 ⊢
  have z0 := X0.lt
  have z1 := X1.lt
  refine (hsm _).mono ?_
  rintro e w1 ⟨rfl, hb1⟩
  have X01 := X0.below hb1; have X11 := X1.below hb1
  have B1 := bvia hB0 hb1
  clear hsm hb1 X0 X1 hB0
  have x0 := X11.at_ 0 rfl; have x1 := X11.at_ 1 rfl; have x2 := X11.at_ 2 rfl; have x3 := X11.at_ 3 rfl; have lx := X11.lt
  have y0 := X01.at_ 0 rfl; have y1 := X01.at_ 1 rfl; have y2 := X01.at_ 2 rfl; have y3 := X01.at_ 3 rfl; have ly := X01.lt
  go_wp2_with fail
  refine (hP _ (H.below B1) (HO.below B1) (HR.below B1) (HD.below B1)).mono ?_
  rintro e w2 ⟨aS, cS, F, aP, cP, rfl, SS, hFQ, SP, _, _, hb2⟩
  replace X01 := X01.below hb2; replace X11 := X11.below hb2
  have B2 := bvia B1 hb2
  have HFQ := hid hFQ
  clear hP hb2 B1 hFQ x0 x1 x2 x3 lx y0 y1 y2 y3 ly
  have x0 := X11.at_ 0 rfl; have x1 := X11.at_ 1 rfl; have x2 := X11.at_ 2 rfl; have x3 := X11.at_ 3 rfl; have lx := X11.lt
  have y0 := X01.at_ 0 rfl; have y1 := X01.at_ 1 rfl; have y2 := X01.at_ 2 rfl; have y3 := X01.at_ 3 rfl; have ly := X01.lt
  go_wp2_with fail
  refine (hQ _ (H.below B2) (HO.below B2) (HR.below B2) (HD'.below B2)).mono ?_
  rintro e w3 ⟨aS', cS', F', aP', cP', rfl, SS', hFQ', SP', _, _, hb3⟩
  replace X01 := X01.below hb3; replace SS := SS.below hb3; replace SP := SP.below hb3
  have B3 := bvia B2 hb3
  have HFQ' := hid hFQ'
  clear hQ hb3 B2 hFQ' x0 x1 x2 x3 lx y0 y1 y2 y3 ly X11
  have ly := X01.lt
  cases h0 : (E1 != 0)
  rotate_left
  · go_wp2_with fail
    refine (awake5_true _).mono ?_
    rintro e w4 ⟨rfl, hb4⟩
    go_wp2
    go_ret
    exact ⟨rfl, bvia B3 hb4⟩
  cases h1 : (E2 != 0)
  rotate_left
  · go_wp2_with fail
    refine (awake5_true _).mono ?_
    rintro e w4 ⟨rfl, hb4⟩
    go_wp2
    go_ret
    exact ⟨rfl, bvia B3 hb4⟩
  have hE1 : E1 = 0 := by simpa using h0
  have hE2 : E2 = 0 := by simpa using h1
  subst hE1
  subst hE2
  clear h0 h1
  have hEP0 : EP = 0 := by
    have h := HE1.out
    unfold uE at h
    split at h
    · assumption
    · exact h
  have hM1 : M1 = (nodeL o no 8).length := by rw [← HM1.out]; exact if_pos HE1.out
  have hM2 : M2 = (nodeL o no 8).length := by rw [← HM2.out]; exact if_pos HE2.out
  have hR1 : R1 = Z.P := by rw [← HR1.out]; exact if_pos HE1.out
  have hR2 : R2 = Y.P := by rw [← HR2.out]; exact if_pos HE2.out
  have HV := hid (plyE_zero2 (HEP.out.trans hEP0))
  have HML := hid (nodeL_length o no 8)
  have HDN := fun hS => play_done (F := F) HV.out.1 (by omega) (by have := (within_iff _ _ _).1 (Bool.and_eq_true_iff.1 HV.out.2.2.2).1; omega) (by omega) (by omega) HZ.out (fun j hj => HFQ.out j (by rw [hM1]; exact hj)) hS
  have HDN' := fun hS => play_done (F := F') HV.out.1 (by omega) (by have := (within_iff _ _ _).1 (Bool.and_eq_true_iff.1 HV.out.2.2.2).1; omega) (by omega) (by omega) HY.out (fun j hj => HFQ'.out j (by rw [hM2]; exact hj)) hS
  subst hR1
  subst hR2
  subst hM1
  obtain rfl := hM2
  have HDN1 := hid HDN; have HDN2 := hid HDN'
  clear HDN HDN' HFQ HFQ' HE1 HE2 HM1 HM2 HR1 HR2 HEP HEQ HZ HY hEP0
  generalize hL : (nodeL o no 8).length = L at *
  have HL := hid hL; clear hL
  go_wp2_with fail
  go_loopw [16] (fun i wr => ∃ q : Nat, q ≤ L ∧ i = .int .i64 q ∧ (∀ j, j < q → (F j).st = N ∧ (F' j).st = N) ∧ Below w3.heap.size w3 wr) (fun i _ => L - (intOf i).toNat)
  case atStart => exact ⟨0, Nat.zero_le _, rfl, fun j hj => absurd hj (Nat.not_lt_zero _), Below.refl _ _⟩
  case round =>
    obtain ⟨q, hq, rfl, hok, hB⟩ := hrel
    have HOK := hid hok; clear hok
    have HB := hid hB
    have hm8 := HML.out
    replace X01 := X01.below hB
    have B4 := bvia B3 hB
    replace SS := SS.below hB; replace SP := SP.below hB; replace SS' := SS'.below hB; replace SP' := SP'.below hB
    clear hB B3
    by_cases hlt : q < L
    · obtain ⟨bS, oS, rfl, hbS, d0, d1, d2, d3, _⟩ := SS q hlt
      obtain ⟨bT, oT, rfl, hbT, e0, e1, e2, e3, _⟩ := SS' q hlt
      clear d0 d2 d3 e0 e2 e3
      have hnat : (q : Int) < (L : Int) := by omega
      cases hne : ((F q).st != N)
      · cases hne2 : ((F' q).st != N)
        · go_wp2_with fail
          go_roundw
          case rel =>
            refine ⟨q + 1, by omega, by go_num, fun j hj => ?_, HB.out⟩
            rcases Nat.lt_succ_iff_lt_or_eq.1 hj with h' | rfl
            · exact HOK.out j h'
            · exact ⟨by simpa using hne, by simpa using hne2⟩
          case measure => simp [intOf]; omega
        · go_wp2_with fail
          refine (awake5_true _).mono ?_
          rintro e w11 ⟨rfl, hb11⟩
          go_wp2
          go_ret
          exact ⟨rfl, bvia B4 hb11⟩
      · go_wp2_with fail
        refine (awake5_true _).mono ?_
        rintro e w11 ⟨rfl, hb11⟩
        go_wp2
        go_ret
        exact ⟨rfl, bvia B4 hb11⟩
    · obtain rfl : q = L := (by omega)
      obtain ⟨m1, m2, m3, m4, ⟨Wd, Hd, hnoE, hI, hw1, hw2⟩, m6, m7⟩ := HDN1.out fun j hj => (HOK.out j hj).1
      obtain ⟨u1, u2, u3, u4, ⟨Wd', Hd', hno2, hJ, hw1', hw2'⟩, u6, u7⟩ := HDN2.out fun j hj => (HOK.out j hj).2
      have hse : sortN Y.P = sortN Z.P := by
        rw [hw1', hw2'] at hJ
        rw [hw1, hw2] at hI hnoE
        exact ply_sorted hnoE hJ hI u6 m6
      have hmg := fun W S SO SS1 SP1 => node_Merge wide high a ao aS aP n no q Z.P.length c co cS cP g o F (pF Z.P) W (by omega) (by omega) (by omega) (by omega) m7 S SO SS1 SP1 m3
      have hmg' := fun W S SO SS1 SP1 => node_Merge wide high a ao aS' aP' n no q Y.P.length c co cS' cP' g o F' (pF Y.P) W (by omega) (by omega) (by omega) (by omega) u7 S SO SS1 SP1 u3
      rw [m1] at hmg
      rw [u1] at hmg'
      have e1 : ∀ x : Int, erZ 0 x = x := fun _ => rfl
      have e2 : ∀ x : Nat, erN 0 x = x := fun _ => rfl
      simp only [e1, e2] at hmg hmg'
      have heq : ∀ i, i < n → addTo (layS F q) (pF Z.P) Z.P.length i = addTo (layS F' q) (pF Y.P) Y.P.length i := fun i hi => by rw [m2 i hi, u2 i hi]
      generalize addTo (layS F q) (pF Z.P) Z.P.length = D at *
      generalize addTo (layS F' q) (pF Y.P) Y.P.length = D' at *
      have hso := fun W SP1 => node_Sorted aP Z.P.length cP (pF Z.P) W (by omega) SP1
      have hso' := fun W SP1 => node_Sorted aP' Y.P.length cP' (pF Y.P) W (by omega) SP1
      rw [show lstN (pF Z.P) Z.P.length = Z.P from lstN_self Z.P] at hso
      rw [show lstN (pF Y.P) Y.P.length = Y.P from lstN_self Y.P, hse] at hso'
      have hwf := sorted_wf m3
      have hfo := fun a1 c1 W SP1 HT1 => node_Format a1 (sortN Z.P).length c1 (fun k => (sortN Z.P).getD k N6.zero) W SP1 hwf HT1
      obtain ⟨R, hR⟩ : ∃ R, fmtN (fun k => (sortN Z.P).getD k N6.zero) (sortN Z.P).length = R := ⟨_, rfl⟩
      rw [hR] at hfo
      clear hR
      have HEQ := hid heq; have HSO := hid hso; have HSO' := hid hso'; have HFO := hid hfo; have HMG' := hid hmg'
      clear e1 e2 m1 m2 m3 m4 hI hJ m6 m7 u1 u2 u3 u4 u6 u7 hw1 hw2 hw1' hw2' hnoE hno2 heq hso hso' hwf hfo hse hmg' HDN1 HDN2 HOK HB hm8 hlt hq
      have y0 := X01.at_ 0 rfl; have y1 := X01.at_ 1 rfl; have y2 := X01.at_ 2 rfl; have y3 := X01.at_ 3 rfl; have ly := X01.lt
      go_wp2_with fail
      refine (hmg _ (H.below B4) (HO.below B4) SS SP).mono ?_
      rintro e w5 ⟨a5, c5, rfl, S5, _, hb5⟩
      have hb56 : Below wr.heap.size wr (w5.alloc (.cells #[.int .i64 wide, .int .i64 high, .slice a5 n c5] 24)) := balloc hb5 _
      have B5 := bvia B4 hb56
      replace X01 := X01.below hb56; replace SS' := SS'.below hb56; replace SP := SP.below hb56; replace SP' := SP'.below hb56
      have S6 := S5.alloc (.cells #[.int .i64 wide, .int .i64 high, .slice a5 n c5] 24)
      have XA := Bx.new w5 #[.int .i64 wide, .int .i64 high, .slice a5 n c5] 24
      clear hmg hb5 hb56 B4 S5 SS y0 y1 y2 y3 ly
      have y0 := X01.at_ 0 rfl; have y1 := X01.at_ 1 rfl; have y2 := X01.at_ 2 rfl; have y3 := X01.at_ 3 rfl; have ly := X01.lt
      go_wp2_with fail
      refine (HMG'.out _ (H.below B5) (HO.below B5) SS' SP').mono ?_
      rintro e w7 ⟨a7, c7, rfl, S7, _, hb7⟩
      have hb78 := balloc hb7 (.cells #[.int .i64 wide, .int .i64 high, .slice a7 n c7] 24)
      have B7 := bvia B5 hb78
      replace XA := XA.below hb78; replace SP := SP.below hb78; replace SP' := SP'.below hb78
      replace S6 := S6.below hb78
      have S8 := S7.alloc (.cells #[.int .i64 wide, .int .i64 high, .slice a7 n c7] 24)
      have XB := Bx.new w7 #[.int .i64 wide, .int .i64 high, .slice a7 n c7] 24
      clear HMG' hb7 hb78 B5 S7 SS' y0 y1 y2 y3 ly X01
      have v0 := XA.at_ 0 rfl; have v1 := XA.at_ 1 rfl; have v2 := XA.at_ 2 rfl; have lv := XA.lt
      have z0 := XB.at_ 0 rfl; have z1 := XB.at_ 1 rfl; have z2 := XB.at_ 2 rfl; have lz := XB.lt
      go_wp2_with fail
      refine (ref2_Same wide high a5 a7 n c5 c7 D D' _ (by omega) S6 S8 HEQ.out).mono ?_
      rintro e w9 ⟨rfl, hb9⟩
      have B9 := bvia B7 hb9
      replace SP := SP.below hb9; replace SP' := SP'.below hb9
      clear v0 v1 v2 lv z0 z1 z2 lz S6 S8 XA XB B7 hb9
      go_wp2_with fail
      refine (HSO.out _ SP).mono ?_
      rintro e w10 ⟨v10, rfl, ho10, hb10⟩
      obtain ⟨a10, c10, rfl, sn10⟩ := sn_of_own ho10
      have B10 := bvia B9 hb10
      replace SP' := SP'.below hb10
      clear hb10 B9 SP
      go_wp2_with fail
      refine (HFO.out a10 c10 _ sn10 (tab_below HT B10)).mono ?_
      rintro e w11 ⟨rfl, hb11⟩
      have B11 := bvia B10 hb11
      replace SP' := SP'.below hb11
      clear hb11 B10 sn10 ho10
      go_wp2_with fail
      refine (HSO'.out _ SP').mono ?_
      rintro e w12 ⟨v12, rfl, ho12, hb12⟩
      obtain ⟨a12, c12, rfl, sn12⟩ := sn_of_own ho12
      have B12 := bvia B11 hb12
      clear hb12 B11 SP'
      go_wp2_with fail
      refine (HFO.out a12 c12 _ sn12 (tab_below HT B12)).mono ?_
      rintro e w13 ⟨rfl, hb13⟩
      have B13 := bvia B12 hb13
      have hrr : ((⟨R.toArray⟩ : ByteArray) == ⟨R.toArray⟩) = true := by
        show (R.toArray == R.toArray) = true
        simp
      go_wp2_with fail
      refine (awake5_true _).mono ?_
      rintro e w14 ⟨rfl, hb14⟩
      go_wp2
      go_ret
      exact ⟨rfl, bvia B13 hb14⟩
end Go.Proofs.YtpbobhobhbbimaaGreatDoor
/- What a land reads as, as words on a world. What a state of sites and a post reads as, as words on a world. How a slice of rules reads: opened to cells. Lifting: a turn (a site and a post). Lifting: what an argument of the type Order is in the model. -/
namespace Go.Proofs.YtpbobhobhbbimaaGreatDoor
open Go Go.RowKit Go.ChangeShapes Go.WideShapes
set_option linter.unusedVariables false
theorem Tryz.cells27 : Tryz.prog.cellsOf 27 = 4 := by kernel_rfl
section
variable {H : Type} {enc : TypeId × Value → H} {w : World} {spare : Nat → Bool} {held : Bool} {fuel : Nat} {cs : List Value} {x : DataW H × List MemPlace}
theorem lift_land (h : DataW.trod enc Tryz.prog w 0 spare held fuel 27 cs = some x) :
    ∃ (wide high : Int) (a ao : Option Addr) (n no c co : Nat) (g : Nat → C4) (o : Nat → Int), cs = [.int .i64 wide, .int .i64 high, .slice a n c, .slice ao no co] ∧
      n ≤ maxLen ∧ no ≤ maxLen ∧ Sc w a n g ∧ Sl w ao no o := by
  obtain ⟨y0, y1, m, hlen, h0, h1⟩ := trod_fields2 Tryz.underlying27 Tryz.cells27 Tryz.cells24 Tryz.cells25 h
  obtain ⟨v0, v1, v2, v3, rfl⟩ := list4 hlen
  obtain ⟨wide, high, a, n, c, g, e0, f0, f1, b1, _, _, hs⟩ := lift_grid h0
  obtain ⟨ao, no, co, o, e1, b2, _, _, ho, _⟩ := lift_ints h1
  simp at e0 e1
  obtain ⟨rfl, rfl, rfl⟩ := e0
  subst e1
  exact ⟨wide, high, a, ao, n, no, c, co, g, o, rfl, b1, b2, hs, ho⟩
end
end Go.Proofs.YtpbobhobhbbimaaGreatDoor
namespace Go.Proofs.YtpbobhobhbbimaaGreatDoor
open Go Go.RowKit Go.ChangeShapes Go.WideShapes Go.ChangeAt Go.Deep
set_option linter.unusedVariables false
section
variable {H : Type} {enc : TypeId × Value → H} {P : Program} {w : World} {spare : Nat → Bool} {held : Bool} {fuel : Nat} {cs : List Value} {x : DataW H × List MemPlace}
end
section
variable {H : Type} {enc : TypeId × Value → H} {w : World} {spare : Nat → Bool} {held : Bool} {fuel : Nat} {cs : List Value} {x : DataW H × List MemPlace}
end
end Go.Proofs.YtpbobhobhbbimaaGreatDoor
namespace Go.Proofs.YtpbobhobhbbimaaGreatDoor
open Go.ChangeShapes Go.WideShapes Go.ChangeAt Go.RowKit Go.Deep
set_option linter.unusedVariables false
theorem Tryz.cells96 : Tryz.prog.cellsOf 96 = 2 := by kernel_rfl
section
variable {H : Type} {enc : TypeId × Value → H} {w : World} {spare : Nat → Bool} {held : Bool} {fuel : Nat} {cs : List Value} {x : DataW H × List MemPlace}
theorem lift_rule2 (h : DataW.trod enc Tryz.prog w 0 spare held fuel 96 cs = some x) : ∃ p : Int × Int, cs = [.int .i64 p.1, .int .i64 p.2] := by
  obtain ⟨y0, y1, m, hlen, h0, h1⟩ := trod_fields2 Tryz.underlying96 Tryz.cells96 Tryz.cells3 Tryz.cells3 h
  obtain ⟨v0, v1, rfl⟩ := list2 hlen
  obtain ⟨n0, e0, _⟩ := lift_int h0
  obtain ⟨n1, e1, _⟩ := lift_int h1
  have e0' : v0 = .int .i64 n0 := by simpa using e0
  have e1' : v1 = .int .i64 n1 := by simpa using e1
  subst e0' e1'
  exact ⟨(n0, n1), rfl⟩
theorem lift_rules (h : DataW.trod enc Tryz.prog w 0 spare held fuel 28 cs = some x) :
    ∃ (a : Option Addr) (n c : Nat) (p : Nat → Int × Int), cs = [.slice a n c] ∧ n ≤ maxLen ∧ n ≤ c ∧ c ≤ maxLen ∧ Sr w a n p := by
  rcases open_slice Tryz.underlying28 h with ⟨hcs, _⟩ | ⟨a, len, cap, m, nf, D, Pl, hcs, _, hl, hm, hmm, _, hi⟩
  · exact ⟨none, 0, 0, fun _ => (0, 0), hcs, by simp, by simp, by simp, fun k hk => by omega⟩
  · have hlm : len ≤ m := by rw [hmm]; split <;> omega
    rw [Tryz.cells96] at hi
    have each : ∀ i, i < m → ∃ p : Int × Int, a.spot = none ∧ a.block < w.heap.size ∧ w.cell? ⟨a.block, a.off + i * 2, none⟩ = some (.int .i64 p.1) ∧ w.cell? ⟨a.block, a.off + i * 2 + 1, none⟩ = some (.int .i64 p.2) := by
      intro i him
      obtain ⟨cs', hc, ht⟩ := hi i him
      obtain ⟨c, rfl⟩ := lift_rule2 ht
      obtain ⟨_, hcl, hat⟩ := World.cells?_some hc
      obtain ⟨_, hc0, ht0⟩ := hi 0 (by omega)
      obtain ⟨c0, rfl⟩ := lift_rule2 ht0
      obtain ⟨_, _, hat0⟩ := World.cells?_some hc0
      have z0 := hat0 0 (by omega)
      rw [Nat.zero_mul] at z0
      have hspot : a.spot = none := by simpa [Addr.add] using World.cell?_spot z0
      have hblk : a.block < w.heap.size := by simpa [Addr.add] using World.block_lt_of_cell? w _ z0
      obtain ⟨b, off, spot⟩ := a
      simp only at hspot hblk
      subst hspot
      have add : ∀ off p : Nat, (Addr.add ⟨b, off, none⟩ p : Addr) = ⟨b, off + p, none⟩ := fun off p => by by_cases h : p = 0 <;> simp [Addr.add, h]
      have r0 := hat 0 (by omega)
      have r1 := hat 1 (by omega)
      simp only [add] at r0 r1
      exact ⟨c, rfl, hblk, r0, r1⟩
    refine ⟨some a, len, cap, fun i => if hi : i < m then (each i hi).choose else (0, 0), hcs, Nat.le_trans hl hm, hl, hm, fun k hk => ?_⟩
    have hkm : k < m := by omega
    obtain ⟨s1, s2, s3, s4⟩ := (each k hkm).choose_spec
    refine ⟨a.block, a.off, ?_, s2, ?_, ?_⟩
    · obtain ⟨b, off, spot⟩ := a
      simp only at s1
      rw [s1]
    · simp only [hkm, dite_true]; exact s3
    · simp only [hkm, dite_true]; exact s4
end
end Go.Proofs.YtpbobhobhbbimaaGreatDoor
namespace Go.Proofs.YtpbobhobhbbimaaGreatDoor
open Go Go.RowKit Go.ChangeShapes Go.WideShapes
set_option linter.unusedVariables false
section
variable {H : Type} {enc : TypeId × Value → H} {w : World} {spare : Nat → Bool} {held : Bool} {fuel : Nat} {cs : List Value} {x : DataW H × List MemPlace}
end
end Go.Proofs.YtpbobhobhbbimaaGreatDoor
namespace Go.Proofs.YtpbobhobhbbimaaGreatDoor
open Go Go.RowKit Go.ChangeShapes Go.WideShapes
set_option linter.unusedVariables false
theorem cellsOrder : Tryz.prog.cellsOf 30 = 2 := by kernel_rfl
section
variable {H : Type} {enc : TypeId × Value → H} {w : World} {spare : Nat → Bool} {held : Bool} {fuel : Nat} {cs : List Value} {x : DataW H × List MemPlace}
theorem lift_order (h : DataW.trod enc Tryz.prog w 0 spare held fuel 30 cs = some x) :
    ∃ (n : Int) (a : Option Addr) (k c : Nat) (f : Nat → Int), cs = [.int .i64 n, .slice a k c] ∧ k ≤ maxLen ∧ Sl w a k f := by
  obtain ⟨y0, y1, m, hlen, h0, h1⟩ := trod_fields2 Tryz.underlying30 cellsOrder Tryz.cells3 Tryz.cells25 h
  obtain ⟨v0, v1, rfl⟩ := list2 hlen
  obtain ⟨n, e0, _⟩ := lift_int h0
  obtain ⟨a, k, c, f, e1, b1, _, _, hk, _⟩ := lift_ints h1
  simp at e0 e1
  subst e0 e1
  exact ⟨n, a, k, c, f, rfl, b1, hk⟩
end
end Go.Proofs.YtpbobhobhbbimaaGreatDoor
/- Lifting: what an argument of the type [2]Order is in the model. -/
namespace Go.Proofs.YtpbobhobhbbimaaGreatDoor
open Go Go.RowKit Go.ChangeShapes Go.WideShapes
set_option linter.unusedVariables false
theorem cellsOrders : Tryz.prog.cellsOf 31 = 4 := by kernel_rfl
section
variable {H : Type} {enc : TypeId × Value → H} {w : World} {spare : Nat → Bool} {held : Bool} {fuel : Nat} {cs : List Value} {x : DataW H × List MemPlace}
theorem lift_orders2 (h : DataW.trod enc Tryz.prog w 0 spare held fuel 31 cs = some x) :
    ∃ (n n' : Int) (a a' : Option Addr) (k k' c c' : Nat) (f f' : Nat → Int), cs = [.int .i64 n, .slice a k c, .int .i64 n', .slice a' k' c'] ∧ k ≤ maxLen ∧ k' ≤ maxLen ∧ Sl w a k f ∧ Sl w a' k' f' := by
  obtain ⟨xs, m, _, _, hlen, hxl, hat⟩ := DataW.trod_array Tryz.underlying31 h
  rw [cellsOrders] at hlen
  obtain ⟨v0, v1, v2, v3, rfl⟩ := list4 hlen
  obtain ⟨y0, y1, rfl⟩ := list2 hxl
  rw [cellsOrder] at hat
  obtain ⟨n, a, k, c, f, e0, hk, hs⟩ := lift_order (hat 0 (by omega))
  obtain ⟨n', a', k', c', f', e1, hk', hs'⟩ := lift_order (hat 1 (by omega))
  simp at e0 e1
  obtain ⟨rfl, rfl⟩ := e0
  obtain ⟨rfl, rfl⟩ := e1
  exact ⟨n, n', a, a', k, k', c, c', f, f', rfl, hk, hk', hs, hs'⟩
end
end Go.Proofs.YtpbobhobhbbimaaGreatDoor
