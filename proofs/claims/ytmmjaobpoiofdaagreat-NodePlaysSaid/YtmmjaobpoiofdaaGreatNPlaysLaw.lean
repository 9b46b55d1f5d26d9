/- The walk of the law NodePlays: both Plays leave the same; what the program's leaves has lost nothing and has the grid's mass. -/
import Derived.Test.YtmmjaobpoiofdaaGreatNPlyC
import Derived.Test.YtmmjaobpoiofdaaGreatNPlyF
import Derived.Test.YtmmjaobpoiofdaaGreatNRefPly
import Derived.Test.YtmmjaobpoiofdaaGreatNLostW
import Derived.Test.YtmmjaobpoiofdaaGreatNLight
import Derived.Test.YtmmjaobpoiofdaaGreatNAwake
import Derived.Test.YtmmjaobpoiofdaaGreatNSplitW
namespace Go.Proofs.YtmmjaobpoiofdaaGreat
open Go Go.RowKit
set_option linter.unusedVariables false
set_option linter.unusedSimpArgs false
theorem plyE_zero {v r nm rg : Bool} (h : plyE v r nm rg = 0) : v = true ∧ r = true ∧ nm = true ∧ rg = true := by
  cases v <;> cases r <;> cases nm <;> cases rg <;> simp [plyE] at h ⊢
set_option maxRecDepth 100000 in
set_option maxHeartbeats 2000000 in
theorem ref2_Mass (wide high : Int) (a : Option Addr) (n c : Nat) (g : Nat → C4) (w : World) (hn : n ≤ 100000000) (hv : validG wide high n g = true) (H : Sc w a n g) :
    Calls Tryz.prog 54 #[.agg #[.int .i64 wide, .int .i64 high, .slice a n c]] w fun e w' => e = .returned (.tuple #[.int .i64 (massTo g n), .int .i64 0]) ∧ Below w.heap.size w w' := by
  have h1 := fun W S => ref2_valid wide high a n c g W hn S
  have h2 := fun W S => ref2_weight a n c g W hn S (fun k hk => ((validG_iff _ _ _ _).1 hv).2.2.2.2.2.2.1 k hk)
  rw [hv] at h1
  have X0 := Bx.new w #[.int .i64 wide, .int .i64 high, .slice a n c] 24
  have hB0 : Below w.heap.size w (w.alloc (.cells #[.int .i64 wide, .int .i64 high, .slice a n c] 24)) := by (repeat' (first | with_reducible assumption | with_reducible exact Below.refl _ _ | with_reducible refine Below.drew ?_ | with_reducible refine below_drewN ?_ _ | with_reducible refine balloc ?_ _ | with_reducible refine bset ?_ ?_ _ | with_reducible refine Below.setCell ?_ ?_ _ | with_reducible refine Below.alloc ?_ ?_ _ | omega | (simp; done) | (simp; omega)))
  go_enter Tryz.func54, Tryz.ntmps54
  go_wp2_with fail
  generalize (w.alloc (.cells #[.int .i64 wide, .int .i64 high, .slice a n c] 24)) = W0 at X0 hB0 ⊢
  have z0 := X0.lt
  refine (h1 _ (H.below hB0)).mono ?_
  rintro e w1 ⟨rfl, hb1⟩
  replace X0 := X0.below hb1
  have B1 := bvia hB0 hb1
  have x2 := X0.at_ 2 rfl; have xl := X0.lt
  go_wp2_with fail
  refine (h2 _ (H.below B1)).mono ?_
  rintro e w2 ⟨rfl, hb2⟩
  go_wp2_with fail
  go_ret2
  exact ⟨rfl, bvia B1 hb2⟩
set_option maxRecDepth 100000 in
theorem law5_mass (wide high : Int) (a : Option Addr) (n c : Nat) (g : Nat → C4) (w : World) (hn : n ≤ 100000000) (hv : validG wide high n g = true) (H : Sc w a n g) :
    Calls Tryz.prog 19 #[.agg #[.int .i64 wide, .int .i64 high, .slice a n c]] w fun e w' => e = .returned (.int .i64 (massTo g n)) ∧ Below w.heap.size w w' := by
  have h1 := fun W S => ref2_Mass wide high a n c g W hn hv S
  have X0 := Bx.new w #[.int .i64 wide, .int .i64 high, .slice a n c] 24
  have hB0 : Below w.heap.size w (w.alloc (.cells #[.int .i64 wide, .int .i64 high, .slice a n c] 24)) := by (repeat' (first | with_reducible assumption | with_reducible exact Below.refl _ _ | with_reducible refine Below.drew ?_ | with_reducible refine below_drewN ?_ _ | with_reducible refine balloc ?_ _ | with_reducible refine bset ?_ ?_ _ | with_reducible refine Below.setCell ?_ ?_ _ | with_reducible refine Below.alloc ?_ ?_ _ | omega | (simp; done) | (simp; omega)))
  go_enter Tryz.func19, Tryz.ntmps19
  go_wp2_with fail
  generalize (w.alloc (.cells #[.int .i64 wide, .int .i64 high, .slice a n c] 24)) = W0 at X0 hB0 ⊢
  have z0 := X0.lt
  refine (h1 _ (H.below hB0)).mono ?_
  rintro e w1 ⟨rfl, hb1⟩
  have B1 := bvia hB0 hb1
  go_wp2_with fail
  go_ret
  exact ⟨rfl, B1⟩
theorem lstN_of2 (l : List N6) : lstN (fun k => l.getD k N6.zero) l.length = l := List.ext_getElem (by simp [lstN]) (fun i h1 h2 => by simp [lstN, List.getD_eq_getElem?_getD, h2])
set_option maxRecDepth 100000 in
set_option maxHeartbeats 8000000 in
theorem walk_plays (wide high : Int) (a ao rl ad : Option Addr) (n no rn k c co rc cd : Nat) (g : Nat → C4) (o : Nat → Int) (ru : Nat → Int × Int) (f : Nat → Int) (N : Int) (w : World) (hn : n ≤ maxLen) (hno : no ≤ maxLen) (hrm : rn ≤ maxLen) (hk : k ≤ maxLen) (H : Sc w a n g) (HO : Sl w ao no o) (HR : Sr w rl rn ru) (HD : Sl w ad k f) :
    Calls Tryz.prog 4 #[.agg #[.int .i64 wide, .int .i64 high, .slice a n c, .slice ao no co], .slice rl rn rc, .agg #[.int .i64 N, .slice ad k cd]] w fun e w' => e = .returned (.bool true) ∧ Below w.heap.size w w' := by
  have hsm := fun W => law5_Small wide high 64 a ao n no c co W
  unfold maxLen at hn hno hrm hk
  have X0 := (Bx.new w #[.int .i64 wide, .int .i64 high, .slice a n c, .slice ao no co] 27).alloc (.cells #[.int .i64 N, .slice ad k cd] 48)
  have X1 := Bx.new (w.alloc (.cells #[.int .i64 wide, .int .i64 high, .slice a n c, .slice ao no co] 27)) #[.int .i64 N, .slice ad k cd] 48
  simp only [World.size_alloc] at X1
  have hB0 : Below w.heap.size w ((w.alloc (.cells #[.int .i64 wide, .int .i64 high, .slice a n c, .slice ao no co] 27)).alloc (.cells #[.int .i64 N, .slice ad k cd] 48)) := by (repeat' (first | with_reducible assumption | with_reducible exact Below.refl _ _ | with_reducible refine Below.drew ?_ | with_reducible refine below_drewN ?_ _ | with_reducible refine balloc ?_ _ | with_reducible refine bset ?_ ?_ _ | with_reducible refine Below.setCell ?_ ?_ _ | with_reducible refine Below.alloc ?_ ?_ _ | omega | (simp; done) | (simp; omega)))
  cases hs : smallL n no 64
  · rw [hs] at hsm
    go_enter Tryz.func4, Tryz.ntmps4
    go_wp2_with fail
    generalize ((w.alloc (.cells #[.int .i64 wide, .int .i64 high, .slice a n c, .slice ao no co] 27)).alloc (.cells #[.int .i64 N, .slice ad k cd] 48)) = W0 at X0 X1 hB0 ⊢
    have z0 := X0.lt
    have z1 := X1.lt
    refine (hsm _).mono ?_
    rintro e w1 ⟨rfl, hb1⟩
    go_wp2_with fail
    refine (awake_node _).mono ?_
    rintro e w2 ⟨rfl, hb2⟩
    go_wp2
    go_ret
    exact ⟨rfl, bvia (bvia hB0 hb1) hb2⟩
  obtain ⟨t1, t2⟩ := smallL_iff.1 hs
  rw [hs] at hsm
  clear hs
  by_cases hr : 20 < rn
  · have hri : (20 : Int) < (rn : Int) := by omega
    go_enter Tryz.func4, Tryz.ntmps4
    go_wp2_with fail
    generalize ((w.alloc (.cells #[.int .i64 wide, .int .i64 high, .slice a n c, .slice ao no co] 27)).alloc (.cells #[.int .i64 N, .slice ad k cd] 48)) = W0 at X0 X1 hB0 ⊢
    have z0 := X0.lt
    have z1 := X1.lt
    refine (hsm _).mono ?_
    rintro e w1 ⟨rfl, hb1⟩
    go_wp2_with fail
    refine (awake_node _).mono ?_
    rintro e w2 ⟨rfl, hb2⟩
    go_wp2
    go_ret
    exact ⟨rfl, bvia (bvia hB0 hb1) hb2⟩
  have hri : ¬ (20 : Int) < (rn : Int) := by omega
  have hcase : (100 < k ∧ k ≤ 2000) ∨ 2100 < k ∨ (k ≤ 100 ∨ (2000 < k ∧ k ≤ 2100)) := by omega
  rcases hcase with hk1 | hk1 | hk1
  · have q1 : (100 : Int) < (k : Int) := by omega
    have q2 : (k : Int) ≤ 2000 := by omega
    clear hk1
    go_enter Tryz.func4, Tryz.ntmps4
    go_wp2_with fail
    generalize ((w.alloc (.cells #[.int .i64 wide, .int .i64 high, .slice a n c, .slice ao no co] 27)).alloc (.cells #[.int .i64 N, .slice ad k cd] 48)) = W0 at X0 X1 hB0 ⊢
    have z0 := X0.lt
    have z1 := X1.lt
    refine (hsm _).mono ?_
    rintro e w1 ⟨rfl, hb1⟩
    replace X1 := X1.below hb1
    have x0 := X1.at_ 0 rfl; have x1 := X1.at_ 1 rfl; have lx := X1.lt
    go_wp2_with fail
    refine (awake_node _).mono ?_
    rintro e w2 ⟨rfl, hb2⟩
    go_wp2
    go_ret
    exact ⟨rfl, bvia (bvia hB0 hb1) hb2⟩
  · have q1 : (100 : Int) < (k : Int) := by omega
    have q2 : ¬ (k : Int) ≤ 2000 := by omega
    have q3 : (2100 : Int) < (k : Int) := by omega
    clear hk1
    go_enter Tryz.func4, Tryz.ntmps4
    go_wp2_with fail
    generalize ((w.alloc (.cells #[.int .i64 wide, .int .i64 high, .slice a n c, .slice ao no co] 27)).alloc (.cells #[.int .i64 N, .slice ad k cd] 48)) = W0 at X0 X1 hB0 ⊢
    have z0 := X0.lt
    have z1 := X1.lt
    refine (hsm _).mono ?_
    rintro e w1 ⟨rfl, hb1⟩
    replace X1 := X1.below hb1
    have x0 := X1.at_ 0 rfl; have x1 := X1.at_ 1 rfl; have lx := X1.lt
    go_wp2_with fail
    refine (awake_node _).mono ?_
    rintro e w2 ⟨rfl, hb2⟩
    go_wp2
    go_ret
    exact ⟨rfl, bvia (bvia hB0 hb1) hb2⟩
  have hP := fun W S SO SR SD => (node_Play wide high a ao rl ad n no rn k c co rc cd g o ru f N W (by omega) (by omega) (by omega) (by omega) S SO SR SD).mono fun e w' h => playU h
  have hR := fun W S SO SR SD => (ref5_Play wide high a ao rl ad n no rn k c co rc cd g o ru f N W (by omega) (by omega) (by omega) (by omega) S SO SR SD).mono fun e w' h => playU h
  obtain ⟨E, hE⟩ : ∃ E, plyE (validM wide high n g no o) (rulesB rn ru) (namB o no f k) (within N 0 1000 && decide (k ≤ 2000)) = E := ⟨_, rfl⟩
  obtain ⟨Z, hZ⟩ : ∃ Z, plyL wide.toNat high.toNat o no rn ru N (ply0 g) ((List.range k).map f) = Z := ⟨_, rfl⟩
  rw [hE, hZ] at hP hR
  have q0 : k ≤ 100 ∧ ¬ (100 : Int) < (k : Int) ∨ (100 : Int) < (k : Int) ∧ ¬ (k : Int) ≤ 2000 ∧ ¬ (2100 : Int) < (k : Int) := by omega
  have hZI : uE E Z = 0 → ∃ (Wd Hd : Nat), wide = Wd ∧ high = Hd ∧ validM wide high n g no o = true ∧ no = Wd * Hd ∧ Wd * Hd ≤ 1024 ∧ n = no ∧ (∀ i, i < no → 0 ≤ o i ∧ o i ≤ 7) ∧ ((∀ i, i < Wd * Hd → validC (g i) = true) ∧ massTo g (Wd * Hd) ≤ 1000000000) ∧ 0 ≤ N ∧ N ≤ 1000 ∧ k ≤ 100 ∧ PlyI Wd Hd o no rn ru g N Z ∧ Z.cnt ≤ k := fun h0 => by
    have hE0 : E = 0 := by
      unfold uE at h0
      split at h0
      · assumption
      · exact h0
    rw [hE0] at hE
    obtain ⟨v1, v2, v3, v4⟩ := plyE_zero hE
    rw [Bool.and_eq_true, decide_eq_true_iff] at v4
    obtain ⟨v4, v5⟩ := v4
    obtain ⟨m1, m2⟩ := (within_iff _ _ _).1 v4
    have v1' := v1
    obtain ⟨Wd, Hd, rfl, rfl, p1, p2, u1, u2, hnn, hn4, hoo, hob, hgv, hgm⟩ := validM_sides v1
    simp only [Int.toNat_natCast] at hZ
    have hnoE : no = Wd * Hd := by omega
    have hg' : (∀ i, i < Wd * Hd → validC (g i) = true) ∧ massTo g (Wd * Hd) ≤ 1000000000 := ⟨fun i hi => hgv i (by omega), by first | exact hgm | (rw [← hnn]; exact hgm)⟩
    have hk100 : k ≤ 100 := by omega
    have hfew := ply_few (o := o) (rn := rn) (ru := ru) hnoE hg' (by omega : N ≤ 1000000) ((List.range k).map f) (ply0 g) (ply_start m1) (by
      have e1 : (ply0 g).cnt + ((List.range k).map f).length = k := by simp [ply0]
      rw [e1]
      have : 4 * no * k ≤ 256 * 100 := Nat.mul_le_mul (by omega) hk100
      omega)
    rw [hZ] at hfew
    exact ⟨Wd, Hd, rfl, rfl, v1', hnoE, hn4, by omega, fun i hi => hob i (by omega), hg', m1, m2, hk100, hfew.1, by have := hfew.2; simpa [ply0] using this⟩
  have hRlen : (uR E Z).length ≤ 1000000 := by
    unfold uR
    split
    · rename_i h0
      obtain ⟨Wd, Hd, _, _, _, _, _, _, _, _, _, _, _, hI, _⟩ := hZI h0
      have := hI.len
      omega
    · simp
  have HZI := hid hZI; have HRL := hid hRlen
  have hMle : uM E o no Z ≤ 8 := by
    unfold uM
    split
    · exact nodeL_length o no 8
    · omega
  have HML := hid hMle
  clear hE hZ hZI hRlen hMle
  obtain ⟨E1, hE1⟩ : ∃ E1, uE E Z = E1 := ⟨_, rfl⟩
  obtain ⟨M1, hM1⟩ : ∃ M1, uM E o no Z = M1 := ⟨_, rfl⟩
  obtain ⟨R1, hR1⟩ : ∃ R1, uR E Z = R1 := ⟨_, rfl⟩
  obtain ⟨C1, hC1⟩ : ∃ C1, uC E Z = C1 := ⟨_, rfl⟩
  unfold PlayU at hP hR
  rw [hE1, hM1, hR1, hC1] at hP hR
  have HE1 := hid hE1; have HM1 := hid hM1; have HR1 := hid hR1
  have HRL1 := hid (show R1.length ≤ 1000000 from by rw [← hR1]; exact HRL.out)
  have HML1 := hid (show M1 ≤ 8 from by rw [← hM1]; exact HML.out)
  clear hE1 hM1 hR1 hC1 HRL HML
  go_enter Tryz.func4, Tryz.ntmps4
  go_wp2_with fail
  generalize ((w.alloc (.cells #[.int .i64 wide, .int .i64 high, .slice a n c, .slice ao no co] 27)).alloc (.cells #[.int .i64 N, .slice ad k cd] 48)) = W0 at X0 X1 hB0 ⊢
  have z0 := X0.lt
  have z1 := X1.lt
  refine (hsm _).mono ?_
  rintro e w1 ⟨rfl, hb1⟩
  have X01 := X0.below hb1; have X11 := X1.below hb1
  have B1 := bvia hB0 hb1
  clear hsm hb1 X0 X1 hB0
  have x0 := X11.at_ 0 rfl; have x1 := X11.at_ 1 rfl; have lx := X11.lt
  have y0 := X01.at_ 0 rfl; have y1 := X01.at_ 1 rfl; have y2 := X01.at_ 2 rfl; have y3 := X01.at_ 3 rfl; have ly := X01.lt
  rcases q0 with ⟨q1, q2⟩ | ⟨q2, q3, q4⟩
  all_goals
    go_wp2_with fail
    refine (hP _ (H.below B1) (HO.below B1) (HR.below B1) (HD.below B1)).mono ?_
    rintro e w2 ⟨aS, cS, F, aP, cP, rfl, SS, hQ, SP, hcP, haP, hb2⟩
    have HQ := hid hQ; have HCP := hid hcP; have HAP := hid haP
    replace X01 := X01.below hb2; replace X11 := X11.below hb2
    have B2 := bvia B1 hb2
    clear hQ hcP haP hb2 hP x0 x1 lx y0 y1 y2 y3 ly
    have x0 := X11.at_ 0 rfl; have x1 := X11.at_ 1 rfl; have lx := X11.lt
    have y0 := X01.at_ 0 rfl; have y1 := X01.at_ 1 rfl; have y2 := X01.at_ 2 rfl; have y3 := X01.at_ 3 rfl; have ly := X01.lt
    go_wp2_with fail
    refine (hR _ (H.below B2) (HO.below B2) (HR.below B2) (HD.below B2)).mono ?_
    rintro e w3 ⟨bS, dS, G, bP, dP, rfl, TS, hT, TP, hdP, hbP, hb3⟩
    have HT := hid hT; have HDP := hid hdP; have HBP := hid hbP
    replace X01 := X01.below hb3; replace X11 := X11.below hb3
    have B3 := bvia B2 hb3
    replace SS := SS.below hb3; replace SP := SP.below hb3
    clear hT hdP hbP hb3 hR x0 x1 lx y0 y1 y2 y3 ly B2 B1
    have hown := fun k (hk : k < M1) => Nat.le_trans (Nat.le_of_eq (HQ.out k hk).2.2.1) (ownL_length o ((nodeL o no 8).getD k 0) no)
    have heq : ∀ k, k < M1 → eqS (F k) (G k) ∧ (F k).ni ≤ 100000 ∧ (F k).nc ≤ 100000 := fun k hk => by
      obtain ⟨f1, f2, f3, f4, f5⟩ := HQ.out k hk
      obtain ⟨g1, g2, g3, g4, g5⟩ := HT.out k hk
      have := hown k hk
      exact ⟨⟨f1.trans g1.symm, f2.trans g2.symm, f3.trans g3.symm, by rw [f4, g4, f3, g3], fun j hj => (f5 j hj).1.trans (g5 j (by omega)).1.symm, fun j hj => (f5 j (by omega)).2.trans (g5 j (by omega)).2.symm⟩, by omega, by omega⟩
    have hss := fun W S1 S2 => ref5_SameSites aS bS M1 cS dS F G W (by have := HML1.out; omega) heq S1 S2
    have hs1 := fun W S => ref5_Sorted aP R1.length cP (fun k => R1.getD k N6.zero) W HRL1.out HCP.out HAP.out S
    have hs2 := fun W S => ref5_Sorted bP R1.length dP (fun k => R1.getD k N6.zero) W HRL1.out HDP.out HBP.out S
    rw [lstN_of2] at hs1 hs2
    clear heq
    go_wp2_with fail
    refine (hss _ SS TS).mono ?_
    rintro e w4 ⟨rfl, hb4⟩
    replace SS := SS.below hb4; replace SP := SP.below hb4; replace TP := TP.below hb4
    replace X01 := X01.below hb4; replace X11 := X11.below hb4
    have B4 := bvia B3 hb4
    clear hss hb4 TS B3
    go_wp2_with fail
    refine (hs1 _ SP).mono ?_
    rintro e w5 ⟨v5, rfl, hO5, hb5⟩
    obtain ⟨p5, c5, rfl, S5⟩ := sn_of_own hO5
    replace SS := SS.below hb5; replace SP := SP.below hb5; replace TP := TP.below hb5
    replace X01 := X01.below hb5; replace X11 := X11.below hb5
    have B5 := bvia B4 hb5
    clear hs1 hb5 hO5 B4
    go_wp2_with fail
    refine (hs2 _ TP).mono ?_
    rintro e w6 ⟨v6, rfl, hO6, hb6⟩
    obtain ⟨p6, c6, rfl, S6⟩ := sn_of_own hO6
    replace SS := SS.below hb6; replace SP := SP.below hb6; replace S5 := S5.below hb6
    replace X01 := X01.below hb6; replace X11 := X11.below hb6
    have B6 := bvia B5 hb6
    have hl5 : (sortN R1).length ≤ 100000000 := by rw [sortN_length]; have := HRL1.out; omega
    have hsn := fun W S1 S2 => ref5_SameNotes p5 p6 (sortN R1).length (sortN R1).length c5 c6 (fun k => (sortN R1).getD k N6.zero) (fun k => (sortN R1).getD k N6.zero) W hl5 hl5 S1 S2
    rw [sameN_self] at hsn
    clear hs2 hb6 hO6 TP B5 hl5
    go_wp2_with fail
    refine (hsn _ S5 S6).mono ?_
    rintro e w7 ⟨rfl, hb7⟩
    replace SS := SS.below hb7; replace SP := SP.below hb7
    replace X01 := X01.below hb7; replace X11 := X11.below hb7
    have B7 := bvia B6 hb7
    clear hsn hb7 S5 S6 B6
    cases h0 : (E1 != 0)
    rotate_left
    · go_wp2_with fail
      refine (awake_node _).mono ?_
      rintro e w10 ⟨rfl, hb10⟩
      go_wp2
      go_ret
      exact ⟨rfl, bvia B7 hb10⟩
    have hE0 : E1 = 0 := by simpa using h0
    subst hE0
    clear h0
    obtain ⟨Wd, Hd, rfl, rfl, hv, hnoE, hn4, hnn, hob, hg', hN0, hN1, hk100, hI, hcn⟩ := HZI.out HE1.out
  rotate_left
  · exfalso; omega
  have hM : M1 = (nodeL o no 8).length := by rw [← HM1.out]; exact if_pos HE1.out
  have hR' : R1 = Z.P := by rw [← HR1.out]; exact if_pos HE1.out
  subst hM
  subst hR'
  have hsit : ∀ j, j < (nodeL o no 8).length → siteQ o no Z.st Z.G ((nodeL o no 8).getD j 0) (F j) := fun j hj => HQ.out j hj
  have hwh : wholeB (Wd : Int) (Hd : Int) n g no o (nodeL o no 8).length F Z.P.length (pF Z.P) = true := wholeB_iff.2 ⟨hv, ply_sites hnoE hg' (by omega) hob hI hsit, by simpa using ply_post hnoE hg' (by omega) hI⟩
  have hn8 := nodeL_length o no 8
  have hlo := fun W S SO SS' SP' => node_Lost (Wd : Int) (Hd : Int) a ao aS aP n no (nodeL o no 8).length Z.P.length c co cS cP 100 g o F (pF Z.P) W (by omega) (by omega) (by omega) (by have := HRL1.out; omega) (fun k hk => by
    have h1 := hown k hk
    have h2 := (hsit k hk).2.2.2.1
    exact ⟨by omega, by omega⟩) (ply_cnt hN0 hI hsit (by omega)) (by
    have h1 : (nodeL o no 8).length * (100 * (4 * no)) ≤ 8 * (100 * 256) := Nat.mul_le_mul hn8 (Nat.mul_le_mul_left _ (by omega))
    omega) S SO SS' SP' (fun k hk => ply_wf hnoE hob hn4 hg' (by omega) hI hk)
  rw [hwh] at hlo
  simp only [Int.toNat_natCast] at hlo
  rw [ply_lost hnoE hg' (by omega) hob hI hsit] at hlo
  have hX : lostX true [] = [] := by
    have h1 : sortN [] = [] := List.length_eq_zero_iff.1 (by rw [sortN_length]; rfl)
    simp [lostX, h1]
  rw [hX, show errR true 1 = 0 from rfl] at hlo
  have hms := fun W S P => node_Mass aS aP (nodeL o no 8).length Z.P.length cS cP F (pF Z.P) W (by omega) (fun k hk => by
    have h1 := hown k hk
    have h2 := (hsit k hk).2.2.2.1
    omega) HRL1.out (by
    unfold allI
    rw [List.length_append, postI_length]
    have h1 := siteI_len (F := F) (c := 64) (m := (nodeL o no 8).length) (fun k hk => by
      have h1 := hown k hk
      have h2 := (hsit k hk).2.2.2.1
      omega)
    have h2 := HRL1.out
    have h3 : (nodeL o no 8).length * (4 * 64) ≤ 8 * (4 * 64) := Nat.mul_le_mul_right _ hn8
    omega) S P
  rw [ply_mass hnoE hg' (by omega) hob hI hsit] at hms
  have hmn := fun W => node_Mass none none 0 0 0 0 (fun _ => SiteR.zero) (fun _ => N6.zero) W (by omega) (fun k hk => absurd hk (Nat.not_lt_zero _)) (by omega) (by simp [allI, siteI, postI]) (fun k hk => absurd hk (Nat.not_lt_zero _)) (fun k hk => absurd hk (Nat.not_lt_zero _))
  have hm0 : mssL (allI (fun _ => SiteR.zero) 0 (fun _ => N6.zero) 0) = 0 := by simp [mssL, allI, siteI, postI, sumL]
  rw [hm0] at hmn
  have hvg : validG (Wd : Int) (Hd : Int) n g = true := ((validM_iff _ _ _ _ _ _).1 hv).1
  have hmg := fun W S => law5_mass (Wd : Int) (Hd : Int) a n c g W (by omega) hvg S
  have hnm : massTo g n = massTo g no := by rw [hnn]
  rw [hnm] at hmg
  obtain ⟨Mg, hMg⟩ : ∃ Mg, Mg = massTo g no := ⟨_, rfl⟩
  have hMb : 0 ≤ Mg ∧ Mg ≤ 1000000000 := by
    rw [hMg, hnoE]
    exact ⟨massTo_nonneg g _ hg'.1, hg'.2⟩
  rw [← hMg] at hms hmg
  have hwr : IntKind.i64.wrap Mg = Mg := IntWalk.i64_in _ (by omega)
  have HHN := hid hnn; have HNE := hid hnoE
  clear hMg hnm hm0 hX hwh hsit hv hnoE hn4 hnn hob hg' hI hcn hown hvg hn8 HZI HQ HT HCP HDP HAP HBP HM1 HR1 HE1 X11
  (try clear x0 x1 lx); (try clear y0 y1 y2 y3 ly)
  have y0 := X01.at_ 0 rfl; have y1 := X01.at_ 1 rfl; have y2 := X01.at_ 2 rfl; have y3 := X01.at_ 3 rfl; have ly := X01.lt
  go_wp2_with fail
  refine (hlo _ (H.below B7) (HO.below B7) SS SP).mono ?_
  rintro e w8 ⟨aL, cL, rfl, _, hb8⟩
  replace SS := SS.below hb8; replace SP := SP.below hb8
  replace X01 := X01.below hb8
  have B8 := bvia B7 hb8
  clear hlo hb8 B7 y0 y1 y2 y3 ly
  go_upto_region 10 with (fail)
  have r0 : ∀ Y, Below w8.heap.size w8 Y → Y.cell? ⟨w.heap.size, 0, none⟩ = some (.int .i64 (Wd : Int)) := fun Y h => (X01.below h).at_ 0 rfl
  have r1 : ∀ Y, Below w8.heap.size w8 Y → Y.cell? ⟨w.heap.size, 1, none⟩ = some (.int .i64 (Hd : Int)) := fun Y h => (X01.below h).at_ 1 rfl
  have r2 : ∀ Y, Below w8.heap.size w8 Y → Y.cell? ⟨w.heap.size, 2, none⟩ = some (.slice a n c) := fun Y h => (X01.below h).at_ 2 rfl
  refine wp_region_S (fun Y => Below w8.heap.size w8 Y) 22 (by kernel_rfl) ?_
  refine anyS_take (i := 0) rfl (by kernel_rfl) (fun _ _ _ h => h) (Or.inl ⟨by rfl, fun Y hYb => (by (try dsimp only at hYb); go_simp; rfl)⟩) (by repeat' (first | with_reducible assumption | with_reducible exact Below.refl _ _ | with_reducible refine Below.drew ?_ | with_reducible refine below_drewN ?_ _)) ?_
  simp only [List.getElem_toArray, List.getElem_cons_succ, List.getElem_cons_zero, Act.put, List.setIfInBounds_toArray, List.set_cons_zero, List.set_cons_succ]
  refine anyS_take (i := 1) rfl (by kernel_rfl) (fun _ _ _ h => h) (Or.inl ⟨by rfl, fun Y hYb => (by (try dsimp only at hYb); go_simp; rfl)⟩) (by repeat' (first | with_reducible assumption | with_reducible exact Below.refl _ _ | with_reducible refine Below.drew ?_ | with_reducible refine below_drewN ?_ _)) ?_
  simp only [List.getElem_toArray, List.getElem_cons_succ, List.getElem_cons_zero, Act.put, List.setIfInBounds_toArray, List.set_cons_zero, List.set_cons_succ]
  refine anyS_take (i := 2) rfl (by kernel_rfl) (fun _ _ _ h => h) (Or.inl ⟨by rfl, fun Y hYb => (by (try dsimp only at hYb); go_simp; rfl)⟩) (by repeat' (first | with_reducible assumption | with_reducible exact Below.refl _ _ | with_reducible refine Below.drew ?_ | with_reducible refine below_drewN ?_ _)) ?_
  simp only [List.getElem_toArray, List.getElem_cons_succ, List.getElem_cons_zero, Act.put, List.setIfInBounds_toArray, List.set_cons_zero, List.set_cons_succ]
  refine anyS_take (i := 3) rfl (by kernel_rfl) (fun _ _ _ h => h) (Or.inl ⟨by rfl, fun Y hYb => (by (try dsimp only at hYb); go_simp; rfl)⟩) (by repeat' (first | with_reducible assumption | with_reducible exact Below.refl _ _ | with_reducible refine Below.drew ?_ | with_reducible refine below_drewN ?_ _)) ?_
  simp only [List.getElem_toArray, List.getElem_cons_succ, List.getElem_cons_zero, Act.put, List.setIfInBounds_toArray, List.set_cons_zero, List.set_cons_succ]
  refine anyS_take (i := 4) rfl (by kernel_rfl) (fun _ _ _ h => h) (Or.inl ⟨by rfl, fun Y hYb => (by (try dsimp only at hYb); go_simp; rfl)⟩) (by repeat' (first | with_reducible assumption | with_reducible exact Below.refl _ _ | with_reducible refine Below.drew ?_ | with_reducible refine below_drewN ?_ _)) ?_
  simp only [List.getElem_toArray, List.getElem_cons_succ, List.getElem_cons_zero, Act.put, List.setIfInBounds_toArray, List.set_cons_zero, List.set_cons_succ]
  refine anyS_take (i := 5) rfl (by kernel_rfl) (fun _ _ _ h => h) (Or.inl ⟨by rfl, fun Y hYb => (by (try dsimp only at hYb); go_simp; rfl)⟩) (by repeat' (first | with_reducible assumption | with_reducible exact Below.refl _ _ | with_reducible refine Below.drew ?_ | with_reducible refine below_drewN ?_ _)) ?_
  simp only [List.getElem_toArray, List.getElem_cons_succ, List.getElem_cons_zero, Act.put, List.setIfInBounds_toArray, List.set_cons_zero, List.set_cons_succ]
  refine anyS_take (i := 6) rfl (by kernel_rfl) (fun _ _ _ h => h) (Or.inl ⟨by rfl, fun Y hYb => (by (try dsimp only at hYb); go_simp; rfl)⟩) (by repeat' (first | with_reducible assumption | with_reducible exact Below.refl _ _ | with_reducible refine Below.drew ?_ | with_reducible refine below_drewN ?_ _)) ?_
  simp only [List.getElem_toArray, List.getElem_cons_succ, List.getElem_cons_zero, Act.put, List.setIfInBounds_toArray, List.set_cons_zero, List.set_cons_succ]
  refine anyS_take (i := 7) rfl (by kernel_rfl) (fun _ _ _ h => h) (Or.inl ⟨by rfl, fun Y hYb => (by (try dsimp only at hYb); go_simp; rfl)⟩) (by repeat' (first | with_reducible assumption | with_reducible exact Below.refl _ _ | with_reducible refine Below.drew ?_ | with_reducible refine below_drewN ?_ _)) ?_
  simp only [List.getElem_toArray, List.getElem_cons_succ, List.getElem_cons_zero, Act.put, List.setIfInBounds_toArray, List.set_cons_zero, List.set_cons_succ]
  refine anyS_take (i := 8) rfl (by kernel_rfl) (fun _ _ _ h => h) (Or.inl ⟨by rfl, fun Y hYb => (by (try dsimp only at hYb); go_simp; rfl)⟩) (by repeat' (first | with_reducible assumption | with_reducible exact Below.refl _ _ | with_reducible refine Below.drew ?_ | with_reducible refine below_drewN ?_ _)) ?_
  simp only [List.getElem_toArray, List.getElem_cons_succ, List.getElem_cons_zero, Act.put, List.setIfInBounds_toArray, List.set_cons_zero, List.set_cons_succ]
  refine anyS_take (i := 9) rfl (by kernel_rfl) (fun _ _ _ h => h) (Or.inl ⟨by rfl, fun Y hYb => (by (try dsimp only at hYb); go_simp; rfl)⟩) (by repeat' (first | with_reducible assumption | with_reducible exact Below.refl _ _ | with_reducible refine Below.drew ?_ | with_reducible refine below_drewN ?_ _)) ?_
  simp only [List.getElem_toArray, List.getElem_cons_succ, List.getElem_cons_zero, Act.put, List.setIfInBounds_toArray, List.set_cons_zero, List.set_cons_succ]
  refine anyS_take (i := 12) rfl (by kernel_rfl) (fun _ _ _ h => h) (Or.inl ⟨by rfl, fun Y hYb => (by (try dsimp only at hYb); go_simp; rfl)⟩) (by repeat' (first | with_reducible assumption | with_reducible exact Below.refl _ _ | with_reducible refine Below.drew ?_ | with_reducible refine below_drewN ?_ _)) ?_
  simp only [List.getElem_toArray, List.getElem_cons_succ, List.getElem_cons_zero, Act.put, List.setIfInBounds_toArray, List.set_cons_zero, List.set_cons_succ]
  refine anyS_take (i := 13) rfl (by kernel_rfl) (fun _ _ _ h => h) (Or.inl ⟨by rfl, fun Y hYb => (by (try dsimp only at hYb); go_simp; rfl)⟩) (by repeat' (first | with_reducible assumption | with_reducible exact Below.refl _ _ | with_reducible refine Below.drew ?_ | with_reducible refine below_drewN ?_ _)) ?_
  simp only [List.getElem_toArray, List.getElem_cons_succ, List.getElem_cons_zero, Act.put, List.setIfInBounds_toArray, List.set_cons_zero, List.set_cons_succ]
  clear r0 r1 r2
  refine anyS_one (i := 10) (by kernel_rfl) rfl (by rfl) (fun K hK => ?_)
  go_simp
  refine (hms _ (SS.below (Below.refl _ _).drew) (SP.below (Below.refl _ _).drew)).mono ?_
  rintro e w9 ⟨rfl, hb9⟩
  dsimp only
  have hS9 : Below w8.heap.size w8 w9 := bvia (Below.refl _ w8).drew hb9
  refine hK _ _ (fun _ _ => hS9) ?_
  clear hK K hb9
  refine anyS_one (i := 11) (by kernel_rfl) rfl (by rfl) (fun K hK => ?_)
  go_simp
  refine (hmn _).mono ?_
  rintro e w10 ⟨rfl, hb10⟩
  dsimp only
  have hS10 : Below w8.heap.size w8 w10 := bvia hS9 hb10
  refine hK _ _ (fun _ _ => hS10) ?_
  clear hK K hb10
  refine anyS_one (i := 14) (by kernel_rfl) rfl (by rfl) (fun K hK => ?_)
  go_simp
  refine (hmg _ (H.below (B8.trans (hS10.mono B8.size)))).mono ?_
  rintro e w11 ⟨rfl, hb11⟩
  dsimp only
  have hS11 : Below w8.heap.size w8 w11 := bvia hS10 hb11
  refine hK _ _ (fun _ _ => hS11) ?_
  clear hK K hb11
  refine anyS_take (i := 15) rfl (by kernel_rfl) (fun _ _ _ h => h) (Or.inl ⟨by rfl, fun Y hYb => (by (try dsimp only at hYb); go_simp; rfl)⟩) (by repeat' (first | with_reducible assumption | with_reducible exact Below.refl _ _ | with_reducible refine Below.drew ?_ | with_reducible refine below_drewN ?_ _)) ?_
  simp only [List.getElem_toArray, List.getElem_cons_succ, List.getElem_cons_zero, Act.put, List.setIfInBounds_toArray, List.set_cons_zero, List.set_cons_succ]
  refine anyS_take (i := 16) rfl (by kernel_rfl) (fun _ _ _ h => h) (Or.inl ⟨by rfl, fun Y hYb => (by (try dsimp only at hYb); go_simp; rfl)⟩) (by repeat' (first | with_reducible assumption | with_reducible exact Below.refl _ _ | with_reducible refine Below.drew ?_ | with_reducible refine below_drewN ?_ _)) ?_
  simp only [List.getElem_toArray, List.getElem_cons_succ, List.getElem_cons_zero, Act.put, List.setIfInBounds_toArray, List.set_cons_zero, List.set_cons_succ]
  refine anyS_take (i := 17) rfl (by kernel_rfl) (fun _ _ _ h => h) (Or.inl ⟨by rfl, fun Y hYb => (by (try dsimp only at hYb); go_simp; rfl)⟩) (by repeat' (first | with_reducible assumption | with_reducible exact Below.refl _ _ | with_reducible refine Below.drew ?_ | with_reducible refine below_drewN ?_ _)) ?_
  simp only [List.getElem_toArray, List.getElem_cons_succ, List.getElem_cons_zero, Act.put, List.setIfInBounds_toArray, List.set_cons_zero, List.set_cons_succ]
  refine anyS_take (i := 18) rfl (by kernel_rfl) (fun _ _ _ h => h) (Or.inl ⟨by rfl, fun Y hYb => (by (try dsimp only at hYb); go_simp; rfl)⟩) (by repeat' (first | with_reducible assumption | with_reducible exact Below.refl _ _ | with_reducible refine Below.drew ?_ | with_reducible refine below_drewN ?_ _)) ?_
  simp only [List.getElem_toArray, List.getElem_cons_succ, List.getElem_cons_zero, Act.put, List.setIfInBounds_toArray, List.set_cons_zero, List.set_cons_succ]
  refine anyS_one (i := 19) (by kernel_rfl) rfl (by rfl) (fun K hK => ?_)
  go_simp
  refine (awake_node _).mono ?_
  rintro e w12 ⟨rfl, hb12⟩
  dsimp only
  have hS12 : Below w8.heap.size w8 w12 := bvia hS11 hb12
  refine hK _ _ (fun _ _ => hS12) ?_
  clear hK K hb12
  refine anyS_take (i := 20) rfl (by kernel_rfl) (fun _ _ _ h => h) (Or.inl ⟨by rfl, fun Y hYb => (by (try dsimp only at hYb); go_simp; rfl)⟩) (by repeat' (first | with_reducible assumption | with_reducible exact Below.refl _ _ | with_reducible refine Below.drew ?_ | with_reducible refine below_drewN ?_ _)) ?_
  simp only [List.getElem_toArray, List.getElem_cons_succ, List.getElem_cons_zero, Act.put, List.setIfInBounds_toArray, List.set_cons_zero, List.set_cons_succ]
  refine anyS_take (i := 21) rfl (by kernel_rfl) (fun _ _ _ h => h) (Or.inl ⟨by rfl, fun Y hYb => (by (try dsimp only at hYb); go_simp; rfl)⟩) (by repeat' (first | with_reducible assumption | with_reducible exact Below.refl _ _ | with_reducible refine Below.drew ?_ | with_reducible refine below_drewN ?_ _)) ?_
  simp only [List.getElem_toArray, List.getElem_cons_succ, List.getElem_cons_zero, Act.put, List.setIfInBounds_toArray, List.set_cons_zero, List.set_cons_succ]
  refine anyS_done (by kernel_rfl) ?_ _
  go_wp2_with fail
  go_ret
  exact ⟨rfl, B8.trans (hS12.mono B8.size)⟩
end Go.Proofs.YtmmjaobpoiofdaaGreat
