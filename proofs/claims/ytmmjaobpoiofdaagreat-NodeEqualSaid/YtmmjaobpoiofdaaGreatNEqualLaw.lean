/- The walk of the law NodeEqual: a run on nodes is the grid's run; and so is a play in which all nodes come to so many steps, merged. -/
import Derived.Test.YtmmjaobpoiofdaaGreatRef2Run
import Derived.Test.YtmmjaobpoiofdaaGreatNPlyC
import Derived.Test.YtmmjaobpoiofdaaGreatNLight
import Derived.Test.YtmmjaobpoiofdaaGreatNAwake
import Derived.Test.YtmmjaobpoiofdaaGreatSameG
namespace Go.Proofs.YtmmjaobpoiofdaaGreat
open Go Go.RowKit
set_option linter.unusedVariables false
set_option linter.unusedSimpArgs false
theorem runE_zero {v r rg : Bool} (h : runE v r rg = 0) : v = true ∧ r = true ∧ rg = true := by
  cases v <;> cases r <;> cases rg <;> simp [runE] at h ⊢
theorem plyE_zero2 {v r nm rg : Bool} (h : plyE v r nm rg = 0) : v = true ∧ r = true ∧ nm = true ∧ rg = true := by
  cases v <;> cases r <;> cases nm <;> cases rg <;> simp [plyE] at h ⊢
section
variable {W H : Nat} {o : Nat → Int} {no rn : Nat} {ru : Nat → Int × Int} {g : Nat → C4} {n : Int} {X : Ply} {F : Nat → SiteR}
/-- what Merge asks holds, where all nodes have come to N -/
theorem ply_merged {N : Nat} (hno : no = W * H) (hg : (∀ i, i < W * H → validC (g i) = true) ∧ massTo g (W * H) ≤ 1000000000) (hn : n ≤ 1000000) (ho : ∀ k, k < no → 0 ≤ o k ∧ o k ≤ 7) (I : PlyI W H o no rn ru g n X) (hst : ∀ k, k < (nodeL o no 8).length → X.st ((nodeL o no 8).getD k 0) = N)
    (h : ∀ j, j < (nodeL o no 8).length → siteQ o no X.st X.G ((nodeL o no 8).getD j 0) (F j)) (h0 : 0 < (nodeL o no 8).length) :
    stepsB F (nodeL o no 8).length = true ∧ readyA W H o no X.P.length (pF X.P) F (nodeL o no 8).length = true ∧ postS (pF X.P) X.P.length (F 0).st = true ∧ massTo (addTo (layS F (nodeL o no 8).length) (pF X.P) X.P.length) no ≤ 1000000000 := by
  have hF : ∀ k, k < (nodeL o no 8).length → (F k).st = N := fun k hk => by rw [(h k hk).2.1, hst k hk]
  have hall : ∀ j, j < no → X.st (o j) = N := fun j hj => by
    obtain ⟨k, hk, e⟩ := node_ex ho hj
    rw [← e]; exact hst k hk
  refine ⟨stepsB_iff.2 fun k hk => by rw [hF k hk, hF 0 h0], readyA_iff.2 fun k hk => ?_, postS_iff.2 fun k hk => ?_, ?_⟩
  · unfold readyB
    rw [Bool.or_eq_true]
    by_cases hz : (F k).st = 0
    · exact .inl (by rw [hz]; rfl)
    refine .inr (List.all_eq_true.2 fun x hx => ?_)
    obtain ⟨i, d, hi, hd, hoi, hne, rfl⟩ := dueL_pl hx
    have hnb : nbT W H i d < no := by rw [hno]; exact nbT_lt (by omega) hd
    have hFk := hF k hk
    have hh := I.has N i d hi hd (by rw [hoi]; exact hne) (by omega) (by rw [hall i hi]; exact Int.le_refl _) (by rw [hall _ hnb]; exact Int.le_refl _)
    obtain ⟨u, hu, e⟩ := pF_ex hh
    refine metB_iff.2 ⟨u, hu, plcB_pl.2 ?_⟩
    rw [e]
    exact ⟨hFk.symm, rfl, rfl⟩
  · obtain ⟨t, i, d, q1, q2, q3, q4, q5, q6, e⟩ := I.note _ (pF_mem hk)
    have hnb : nbT W H i d < no := by rw [hno]; exact nbT_lt (by omega) q2
    rw [hall i q1] at q5; rw [hall _ hnb] at q6
    rw [e, hF 0 h0]
    show (t : Int) = N
    omega
  · rw [massTo_congr (h := gT W H rn ru g N) fun i hi => ply_grid hno hg hn ho I hst h hi, hno, (gT_ok hg N).2]
    exact hg.2
end
set_option maxRecDepth 100000 in
set_option maxHeartbeats 8000000 in
theorem walk_equal (wide high : Int) (a ao rl ad : Option Addr) (n no rn k c co rc cd : Nat) (g : Nat → C4) (o : Nat → Int) (ru : Nat → Int × Int) (f : Nat → Int) (N : Int) (w : World) (hn : n ≤ maxLen) (hno : no ≤ maxLen) (hrm : rn ≤ maxLen) (hk : k ≤ maxLen) (H : Sc w a n g) (HO : Sl w ao no o) (HR : Sr w rl rn ru) (HD : Sl w ad k f) :
    Calls Tryz.prog 5 #[.agg #[.int .i64 wide, .int .i64 high, .slice a n c, .slice ao no co], .slice rl rn rc, .agg #[.int .i64 N, .slice ad k cd]] w fun e w' => e = .returned (.bool true) ∧ Below w.heap.size w w' := by
  have hsm := fun W => law5_Small wide high 64 a ao n no c co W
  unfold maxLen at hn hno hrm hk
  have X0 := (Bx.new w #[.int .i64 wide, .int .i64 high, .slice a n c, .slice ao no co] 27).alloc (.cells #[.int .i64 N, .slice ad k cd] 48)
  have X1 := Bx.new (w.alloc (.cells #[.int .i64 wide, .int .i64 high, .slice a n c, .slice ao no co] 27)) #[.int .i64 N, .slice ad k cd] 48
  simp only [World.size_alloc] at X1
  have hB0 : Below w.heap.size w ((w.alloc (.cells #[.int .i64 wide, .int .i64 high, .slice a n c, .slice ao no co] 27)).alloc (.cells #[.int .i64 N, .slice ad k cd] 48)) := by (repeat' (first | with_reducible assumption | with_reducible exact Below.refl _ _ | with_reducible refine Below.drew ?_ | with_reducible refine below_drewN ?_ _ | with_reducible refine balloc ?_ _ | with_reducible refine bset ?_ ?_ _ | with_reducible refine Below.setCell ?_ ?_ _ | with_reducible refine Below.alloc ?_ ?_ _ | omega | (simp; done) | (simp; omega)))
  cases hs : smallL n no 64
  · rw [hs] at hsm
    go_enter Tryz.func5, Tryz.ntmps5
    go_wp2_with fail
    generalize ((w.alloc (.cells #[.int .i64 wide, .int .i64 high, .slice a n c, .slice ao no co] 27)).alloc (.cells #[.int .i64 N, .slice ad k cd] 48)) = W0 at X0 X1 hB0 ⊢
    have z0 := X0.lt
    have z1 := X1.lt
    refine (hsm _).mono ?_
    rintro e w1 ⟨rfl, hb1⟩
    go_wp2_with fail
    refine (awake_node _).mono ?_
    rintro e w2 ⟨rfl, hb2⟩
    go_wp2
    go_ret
    exact ⟨rfl, bvia (bvia hB0 hb1) hb2⟩
  obtain ⟨t1, t2⟩ := smallL_iff.1 hs
  rw [hs] at hsm
  clear hs
  by_cases hr : 20 < rn
  · have hri : (20 : Int) < (rn : Int) := by omega
    go_enter Tryz.func5, Tryz.ntmps5
    go_wp2_with fail
    generalize ((w.alloc (.cells #[.int .i64 wide, .int .i64 high, .slice a n c, .slice ao no co] 27)).alloc (.cells #[.int .i64 N, .slice ad k cd] 48)) = W0 at X0 X1 hB0 ⊢
    have z0 := X0.lt
    have z1 := X1.lt
    refine (hsm _).mono ?_
    rintro e w1 ⟨rfl, hb1⟩
    go_wp2_with fail
    refine (awake_node _).mono ?_
    rintro e w2 ⟨rfl, hb2⟩
    go_wp2
    go_ret
    exact ⟨rfl, bvia (bvia hB0 hb1) hb2⟩
  have hri : ¬ (20 : Int) < (rn : Int) := by omega
  have hcase : (8 < N ∧ N ≤ 1000) ∨ (N ≤ 8 ∧ 100 < k) ∨ (1000 < N ∧ 100 < k) ∨ ((N ≤ 8 ∨ 1000 < N) ∧ k ≤ 100) := by omega
  rcases hcase with hk1 | hk1 | hk1 | hk1
  · obtain ⟨q1, q2⟩ := hk1
    go_enter Tryz.func5, Tryz.ntmps5
    go_wp2_with fail
    generalize ((w.alloc (.cells #[.int .i64 wide, .int .i64 high, .slice a n c, .slice ao no co] 27)).alloc (.cells #[.int .i64 N, .slice ad k cd] 48)) = W0 at X0 X1 hB0 ⊢
    have z0 := X0.lt
    have z1 := X1.lt
    refine (hsm _).mono ?_
    rintro e w1 ⟨rfl, hb1⟩
    replace X1 := X1.below hb1
    have x0 := X1.at_ 0 rfl; have x1 := X1.at_ 1 rfl; have lx := X1.lt
    go_wp2_with fail
    refine (awake_node _).mono ?_
    rintro e w2 ⟨rfl, hb2⟩
    go_wp2
    go_ret
    exact ⟨rfl, bvia (bvia hB0 hb1) hb2⟩
  · obtain ⟨q1, q2⟩ := hk1
    have q3 : ¬ 8 < N := by omega
    have q4 : (100 : Int) < (k : Int) := by omega
    clear q1 q2
    go_enter Tryz.func5, Tryz.ntmps5
    go_wp2_with fail
    generalize ((w.alloc (.cells #[.int .i64 wide, .int .i64 high, .slice a n c, .slice ao no co] 27)).alloc (.cells #[.int .i64 N, .slice ad k cd] 48)) = W0 at X0 X1 hB0 ⊢
    have z0 := X0.lt
    have z1 := X1.lt
    refine (hsm _).mono ?_
    rintro e w1 ⟨rfl, hb1⟩
    replace X1 := X1.below hb1
    have x0 := X1.at_ 0 rfl; have x1 := X1.at_ 1 rfl; have lx := X1.lt
    go_wp2_with fail
    refine (awake_node _).mono ?_
    rintro e w2 ⟨rfl, hb2⟩
    go_wp2
    go_ret
    exact ⟨rfl, bvia (bvia hB0 hb1) hb2⟩
  · obtain ⟨q1, q2⟩ := hk1
    have q3 : 8 < N := by omega
    have q5 : ¬ N ≤ 1000 := by omega
    have q4 : (100 : Int) < (k : Int) := by omega
    clear q1 q2
    go_enter Tryz.func5, Tryz.ntmps5
    go_wp2_with fail
    generalize ((w.alloc (.cells #[.int .i64 wide, .int .i64 high, .slice a n c, .slice ao no co] 27)).alloc (.cells #[.int .i64 N, .slice ad k cd] 48)) = W0 at X0 X1 hB0 ⊢
    have z0 := X0.lt
    have z1 := X1.lt
    refine (hsm _).mono ?_
    rintro e w1 ⟨rfl, hb1⟩
    replace X1 := X1.below hb1
    have x0 := X1.at_ 0 rfl; have x1 := X1.at_ 1 rfl; have lx := X1.lt
    go_wp2_with fail
    refine (awake_node _).mono ?_
    rintro e w2 ⟨rfl, hb2⟩
    go_wp2
    go_ret
    exact ⟨rfl, bvia (bvia hB0 hb1) hb2⟩
  obtain ⟨hN8, hk100⟩ := hk1
  have q0 : ¬ 8 < N ∨ 8 < N ∧ ¬ N ≤ 1000 := by omega
  have q2 : ¬ (100 : Int) < (k : Int) := by omega
  have hnR := fun W S SO SR => node_Run wide high a ao rl n no rn c co rc g o ru N W (by omega) (by omega) (by omega) (fun hw => by
    have := (within_iff _ _ _).1 hw
    have h1 : 4 * no * (N.toNat * 8) ≤ 4 * 64 * (8 * 8) := Nat.mul_le_mul (by omega) (by omega)
    omega) S SO SR
  have hrR := fun W S SO SR => ref5_Run wide high a ao rl n no rn c co rc g o ru N W (by omega) (by omega) (by omega) S SO SR
  obtain ⟨E, hE⟩ : ∃ E, runE (validM wide high n g no o) (rulesB rn ru) (within N 0 1000) = E := ⟨_, rfl⟩
  obtain ⟨G, hG⟩ : ∃ G, gT wide.toNat high.toNat rn ru g N.toNat = G := ⟨_, rfl⟩
  rw [hE, hG] at hnR hrR
  have HEE := hid hE; have HG := hid hG
  clear hE hG
  go_enter Tryz.func5, Tryz.ntmps5
  go_wp2_with fail
  generalize ((w.alloc (.cells #[.int .i64 wide, .int .i64 high, .slice a n c, .slice ao no co] 27)).alloc (.cells #[.int .i64 N, .slice ad k cd] 48)) = W0 at X0 X1 hB0 ⊢
  have z0 := X0.lt
  have z1 := X1.lt
  refine (hsm _).mono ?_
  rintro e w1 ⟨rfl, hb1⟩
  have X01 := X0.below hb1; have X11 := X1.below hb1
  have B1 := bvia hB0 hb1
  clear hsm hb1 X0 X1 hB0
  have x0 := X11.at_ 0 rfl; have x1 := X11.at_ 1 rfl; have lx := X11.lt
  have y0 := X01.at_ 0 rfl; have y1 := X01.at_ 1 rfl; have y2 := X01.at_ 2 rfl; have y3 := X01.at_ 3 rfl; have ly := X01.lt
  have hEN : E = 0 → ¬ 8 < N ∧ 0 ≤ N := fun h0 => by
    have h1 := HEE.out
    rw [h0] at h1
    have := (within_iff _ _ _).1 (runE_zero h1).2.2
    omega
  have HEN := hid hEN
  have HK := hid hk100
  clear hEN hN8 hk100
  rcases q0 with q1 | ⟨q1, q3⟩
  all_goals
    go_wp2_with fail
    refine (hnR _ (H.below B1) (HO.below B1) (HR.below B1)).mono ?_
    rintro e w2 ⟨a2, c2, rfl, S2, hg2, hb2⟩
    have hen : erN E n ≤ 100000000 := by unfold erN; split <;> omega
    replace X01 := X01.below hb2; replace X11 := X11.below hb2
    have B2 := bvia B1 hb2
    have XA := Bx.new w2 #[.int .i64 (erZ E wide), .int .i64 (erZ E high), .slice a2 (erN E n) c2] 24
    have hb23 : Below w2.heap.size w2 (w2.alloc (.cells #[.int .i64 (erZ E wide), .int .i64 (erZ E high), .slice a2 (erN E n) c2] 24)) := below_alloc _ _
    replace X01 := X01.below hb23; replace X11 := X11.below hb23
    have B3 := bvia B2 hb23
    have S3 := S2.below hb23
    clear hnR hb2 x0 x1 lx y0 y1 y2 y3 ly B1 B2 S2
    have x0 := X11.at_ 0 rfl; have x1 := X11.at_ 1 rfl; have lx := X11.lt
    have y0 := X01.at_ 0 rfl; have y1 := X01.at_ 1 rfl; have y2 := X01.at_ 2 rfl; have y3 := X01.at_ 3 rfl; have ly := X01.lt
    go_wp2_with fail
    refine (hrR _ (H.below B3) (HO.below B3) (HR.below B3)).mono ?_
    rintro e w4 ⟨a4, c4, rfl, S4, hg4, hb4⟩
    replace X01 := X01.below hb4; replace X11 := X11.below hb4; replace XA := XA.below hb4
    have B4 := bvia B3 hb4
    have S5 := S3.below hb4
    have XB := Bx.new w4 #[.int .i64 (erZ E wide), .int .i64 (erZ E high), .slice a4 (erN E n) c4] 24
    have hb45 : Below w4.heap.size w4 (w4.alloc (.cells #[.int .i64 (erZ E wide), .int .i64 (erZ E high), .slice a4 (erN E n) c4] 24)) := below_alloc _ _
    replace X01 := X01.below hb45; replace X11 := X11.below hb45; replace XA := XA.below hb45
    have B5 := bvia B4 hb45
    replace S5 := S5.below hb45
    have S6 := S4.below hb45
    clear hrR hb4 hb23 x0 x1 lx y0 y1 y2 y3 ly B3 B4 S3 S4
    have x0 := X11.at_ 0 rfl; have x1 := X11.at_ 1 rfl; have lx := X11.lt
    have y0 := X01.at_ 0 rfl; have y1 := X01.at_ 1 rfl; have y2 := X01.at_ 2 rfl; have y3 := X01.at_ 3 rfl; have ly := X01.lt
    have u0 := XA.at_ 0 rfl; have u1 := XA.at_ 1 rfl; have u2 := XA.at_ 2 rfl; have ul := XA.lt
    have v0 := XB.at_ 0 rfl; have v1 := XB.at_ 1 rfl; have v2 := XB.at_ 2 rfl; have vl := XB.lt
    go_wp2_with fail
    refine (ref2_Same (erZ E wide) (erZ E high) a2 a4 (erN E n) c2 c4 G G _ hen S5 S6 (fun _ _ => rfl)).mono ?_
    rintro e w6 ⟨rfl, hb6⟩
    replace X01 := X01.below hb6; replace X11 := X11.below hb6; replace XA := XA.below hb6
    have B6 := bvia B5 hb6
    have S7 := S5.below hb6
    clear hb6 hb45 x0 x1 lx y0 y1 y2 y3 ly u0 u1 u2 ul v0 v1 v2 vl XB B5 S5 S6
    cases h0 : (E != 0)
    rotate_left
    · go_wp2_with fail
      refine (awake_node _).mono ?_
      rintro e w10 ⟨rfl, hb10⟩
      go_wp2
      go_ret
      exact ⟨rfl, bvia B6 hb10⟩
    have hE0 : E = 0 := by simpa using h0
    subst hE0
    clear h0
    obtain ⟨h8, hN0⟩ := HEN.out rfl
  rotate_left
  · exfalso; omega
  have e1 : ∀ x : Int, erZ 0 x = x := fun _ => rfl
  have e2 : ∀ x : Nat, erN 0 x = x := fun _ => rfl
  simp only [e1, e2] at XA S7 ⊢
  clear e1 e2 hen
  obtain ⟨hv, hrb, hw⟩ := runE_zero HEE.out
  have hvg : validG wide high n g = true := ((validM_iff _ _ _ _ _ _).1 hv).1
  have htm : timesB 0 N = true := (timesB_iff _ _).2 ⟨by omega, by omega, by omega, by omega, by omega⟩
  have hgr := fun W S SR => grid_Run wide high a rl n rn c rc g ru 0 N W (by omega) (by omega) S SR
  rw [hvg, hrb, htm, show rnE true true true = 0 from rfl, show (0 : Int).toNat = 0 from rfl, ← gT_run, HG.out] at hgr
  have e1 : ∀ x : Int, erZ 0 x = x := fun _ => rfl
  have e2 : ∀ x : Nat, erN 0 x = x := fun _ => rfl
  simp only [e1, e2] at hgr
  clear e1 e2
  obtain ⟨EP, hEP⟩ : ∃ EP, plyE (validM wide high n g no o) (rulesB rn ru) (namB o no f k) (within N 0 1000 && decide (k ≤ 2000)) = EP := ⟨_, rfl⟩
  obtain ⟨Z, hZ⟩ : ∃ Z, plyL wide.toNat high.toNat o no rn ru N (ply0 g) ((List.range k).map f) = Z := ⟨_, rfl⟩
  have hP := fun W S SO SR SD => (node_Play wide high a ao rl ad n no rn k c co rc cd g o ru f N W (by omega) (by omega) (by omega) (by omega) S SO SR SD).mono fun e w' h => playU h
  rw [hEP, hZ] at hP
  obtain ⟨E1, hE1⟩ : ∃ E1, uE EP Z = E1 := ⟨_, rfl⟩
  obtain ⟨M1, hM1⟩ : ∃ M1, uM EP o no Z = M1 := ⟨_, rfl⟩
  obtain ⟨R1, hR1⟩ : ∃ R1, uR EP Z = R1 := ⟨_, rfl⟩
  obtain ⟨C1, hC1⟩ : ∃ C1, uC EP Z = C1 := ⟨_, rfl⟩
  unfold PlayU at hP
  rw [hE1, hM1, hR1, hC1] at hP
  have HE1 := hid hE1; have HM1 := hid hM1; have HR1 := hid hR1; have HEP := hid hEP; have HZ := hid hZ; have HV := hid hv; have HW := hid hw; have HRB := hid hrb
  have HML1 := hid (show M1 ≤ 8 from by
    rw [← hM1]
    unfold uM
    split
    · exact nodeL_length o no 8
    · omega)
  clear hE1 hM1 hR1 hC1 hEP hZ hv hw hrb hvg htm
  have x0 := X11.at_ 0 rfl; have x1 := X11.at_ 1 rfl; have lx := X11.lt
  have y0 := X01.at_ 0 rfl; have y1 := X01.at_ 1 rfl; have y2 := X01.at_ 2 rfl; have y3 := X01.at_ 3 rfl; have ly := X01.lt
  go_wp2_with fail
  refine (hgr _ (H.below B6) (HR.below B6)).mono ?_
  rintro e w7 ⟨a7, c7, rfl, S8, hg7, hb7⟩
  replace X01 := X01.below hb7; replace X11 := X11.below hb7; replace XA := XA.below hb7
  have B7 := bvia B6 hb7
  replace S7 := S7.below hb7
  have XB := Bx.new w7 #[.int .i64 wide, .int .i64 high, .slice a7 n c7] 24
  have hb78 : Below w7.heap.size w7 (w7.alloc (.cells #[.int .i64 wide, .int .i64 high, .slice a7 n c7] 24)) := below_alloc _ _
  replace X01 := X01.below hb78; replace X11 := X11.below hb78; replace XA := XA.below hb78
  have B8 := bvia B7 hb78
  replace S7 := S7.below hb78
  have S9 := S8.below hb78
  clear hgr hb7 x0 x1 lx y0 y1 y2 y3 ly B6 B7 S8
  have u0 := XA.at_ 0 rfl; have u1 := XA.at_ 1 rfl; have u2 := XA.at_ 2 rfl; have ul := XA.lt
  have v0 := XB.at_ 0 rfl; have v1 := XB.at_ 1 rfl; have v2 := XB.at_ 2 rfl; have vl := XB.lt
  go_wp2_with fail
  refine (ref2_Same wide high a2 a7 n c2 c7 G G _ (by omega) S7 S9 (fun _ _ => rfl)).mono ?_
  rintro e w9 ⟨rfl, hb9⟩
  replace X01 := X01.below hb9; replace X11 := X11.below hb9; replace XA := XA.below hb9
  have B9 := bvia B8 hb9
  replace S7 := S7.below hb9
  clear hb9 hb78 u0 u1 u2 ul v0 v1 v2 vl XB B8 S9
  have x0 := X11.at_ 0 rfl; have x1 := X11.at_ 1 rfl; have lx := X11.lt
  have y0 := X01.at_ 0 rfl; have y1 := X01.at_ 1 rfl; have y2 := X01.at_ 2 rfl; have y3 := X01.at_ 3 rfl; have ly := X01.lt
  go_wp2_with fail
  refine (hP _ (H.below B9) (HO.below B9) (HR.below B9) (HD.below B9)).mono ?_
  rintro e w10 ⟨aS, cS, F, aP, cP, rfl, SS, hQ, SP, hcP, haP, hb10⟩
  replace X01 := X01.below hb10; replace X11 := X11.below hb10; replace XA := XA.below hb10
  have B10 := bvia B9 hb10
  replace S7 := S7.below hb10
  have HQ := hid hQ
  clear hP hb10 x0 x1 lx y0 y1 y2 y3 ly B9 hcP haP hQ
  cases h0 : (E1 != 0)
  rotate_left
  · go_wp2_with fail
    refine (awake_node _).mono ?_
    rintro e w11 ⟨rfl, hb11⟩
    go_wp2
    go_ret
    exact ⟨rfl, bvia B10 hb11⟩
  have hE0 : E1 = 0 := by simpa using h0
  subst hE0
  clear h0
  go_wp2_with fail
  go_loopw [17] (fun i wr => ∃ q : Nat, q ≤ M1 ∧ i = .int .i64 q ∧ (∀ j, j < q → (F j).st = N) ∧ Below w10.heap.size w10 wr) (fun i _ => M1 - (intOf i).toNat)
  case atStart => exact ⟨0, Nat.zero_le _, rfl, fun j hj => absurd hj (Nat.not_lt_zero _), Below.refl _ _⟩
  case round =>
    obtain ⟨q, hq, rfl, hok, hB⟩ := hrel
    have HOK := hid hok; clear hok
    have HB := hid hB
    have hm8 := HML1.out
    replace X01 := X01.below hB; replace X11 := X11.below hB; replace XA := XA.below hB
    have B11 := bvia B10 hB
    replace S7 := S7.below hB
    replace SS := SS.below hB; replace SP := SP.below hB
    clear hB B10
    by_cases hlt : q < M1
    · obtain ⟨bS, oS, rfl, hbS, d0, d1, d2, d3, _⟩ := SS q hlt
      have r0 : ∀ Y, Below wr.heap.size wr Y → Y.cell? ⟨bS, oS + q * 4 + 1, none⟩ = some (.int .i64 (F q).st) := fun Y h => (bcell h _ _ hbS).trans d1
      have r1 : ∀ Y, Below wr.heap.size wr Y → Y.cell? ⟨w.heap.size + 1, 0, none⟩ = some (.int .i64 N) := fun Y h => (X11.below h).at_ 0 rfl
      clear d0 d1 d2 d3
      go_upto_region 18 with (fail)
      refine wp_region_S (fun Y => Below wr.heap.size wr Y) 8 (by kernel_rfl) ?_
      refine anyS_take (i := 0) rfl (by kernel_rfl) (fun _ _ _ h => h) (Or.inl ⟨by rfl, fun Y hYb => (by (try dsimp only at hYb); go_simp; rfl)⟩) (by repeat' (first | with_reducible assumption | with_reducible exact Below.refl _ _ | with_reducible refine Below.drew ?_ | with_reducible refine below_drewN ?_ _)) ?_
      simp only [List.getElem_toArray, List.getElem_cons_succ, List.getElem_cons_zero, Act.put, List.setIfInBounds_toArray, List.set_cons_zero, List.set_cons_succ]
      refine anyS_take (i := 1) rfl (by kernel_rfl) (fun _ _ _ h => h) (Or.inl ⟨by rfl, fun Y hYb => (by (try dsimp only at hYb); go_simp; rfl)⟩) (by repeat' (first | with_reducible assumption | with_reducible exact Below.refl _ _ | with_reducible refine Below.drew ?_ | with_reducible refine below_drewN ?_ _)) ?_
      simp only [List.getElem_toArray, List.getElem_cons_succ, List.getElem_cons_zero, Act.put, List.setIfInBounds_toArray, List.set_cons_zero, List.set_cons_succ]
      refine anyS_take (i := 2) rfl (by kernel_rfl) (fun _ _ _ h => h) (Or.inl ⟨by rfl, fun Y hYb => (by (try dsimp only at hYb); go_simp; rfl)⟩) (by repeat' (first | with_reducible assumption | with_reducible exact Below.refl _ _ | with_reducible refine Below.drew ?_ | with_reducible refine below_drewN ?_ _)) ?_
      simp only [List.getElem_toArray, List.getElem_cons_succ, List.getElem_cons_zero, Act.put, List.setIfInBounds_toArray, List.set_cons_zero, List.set_cons_succ]
      refine anyS_take (i := 3) rfl (by kernel_rfl) (fun _ _ _ h => h) (Or.inl ⟨by rfl, fun Y hYb => (by (try dsimp only at hYb); go_simp; rfl)⟩) (by repeat' (first | with_reducible assumption | with_reducible exact Below.refl _ _ | with_reducible refine Below.drew ?_ | with_reducible refine below_drewN ?_ _)) ?_
      simp only [List.getElem_toArray, List.getElem_cons_succ, List.getElem_cons_zero, Act.put, List.setIfInBounds_toArray, List.set_cons_zero, List.set_cons_succ]
      refine anyS_take (i := 4) rfl (by kernel_rfl) (fun _ _ _ h => h) (Or.inl ⟨by rfl, fun Y hYb => (by (try dsimp only at hYb); go_simp; rfl)⟩) (by repeat' (first | with_reducible assumption | with_reducible exact Below.refl _ _ | with_reducible refine Below.drew ?_ | with_reducible refine below_drewN ?_ _)) ?_
      simp only [List.getElem_toArray, List.getElem_cons_succ, List.getElem_cons_zero, Act.put, List.setIfInBounds_toArray, List.set_cons_zero, List.set_cons_succ]
      refine anyS_take (i := 5) rfl (by kernel_rfl) (fun _ _ _ h => h) (Or.inl ⟨by rfl, fun Y hYb => (by (try dsimp only at hYb); go_simp; rfl)⟩) (by repeat' (first | with_reducible assumption | with_reducible exact Below.refl _ _ | with_reducible refine Below.drew ?_ | with_reducible refine below_drewN ?_ _)) ?_
      simp only [List.getElem_toArray, List.getElem_cons_succ, List.getElem_cons_zero, Act.put, List.setIfInBounds_toArray, List.set_cons_zero, List.set_cons_succ]
      refine anyS_take (i := 6) rfl (by kernel_rfl) (fun _ _ _ h => h) (Or.inl ⟨by rfl, fun Y hYb => (by (try dsimp only at hYb); go_simp; rfl)⟩) (by repeat' (first | with_reducible assumption | with_reducible exact Below.refl _ _ | with_reducible refine Below.drew ?_ | with_reducible refine below_drewN ?_ _)) ?_
      simp only [List.getElem_toArray, List.getElem_cons_succ, List.getElem_cons_zero, Act.put, List.setIfInBounds_toArray, List.set_cons_zero, List.set_cons_succ]
      cases hne : ((F q).st != N)
      · skip
        refine anyS_take (i := 7) rfl (by kernel_rfl) (fun _ _ _ h => h) (Or.inl ⟨by rfl, fun Y hYb => (by (try dsimp only at hYb); go_simp; rfl)⟩) (by repeat' (first | with_reducible assumption | with_reducible exact Below.refl _ _ | with_reducible refine Below.drew ?_ | with_reducible refine below_drewN ?_ _)) ?_
        simp only [List.getElem_toArray, List.getElem_cons_succ, List.getElem_cons_zero, Act.put, List.setIfInBounds_toArray, List.set_cons_zero, List.set_cons_succ]
        refine anyS_done (by kernel_rfl) ?_ _
        clear r0 r1
        go_wp2_with fail
        go_roundw
        case rel =>
          refine ⟨q + 1, by omega, by go_num, fun j hj => ?_, HB.out.drew⟩
          rcases Nat.lt_succ_iff_lt_or_eq.1 hj with h' | rfl
          · exact HOK.out j h'
          · simpa using hne
        case measure => simp [intOf]; omega
      · skip
        refine anyS_take (i := 7) rfl (by kernel_rfl) (fun _ _ _ h => h) (Or.inl ⟨by rfl, fun Y hYb => (by (try dsimp only at hYb); go_simp; rfl)⟩) (by repeat' (first | with_reducible assumption | with_reducible exact Below.refl _ _ | with_reducible refine Below.drew ?_ | with_reducible refine below_drewN ?_ _)) ?_
        simp only [List.getElem_toArray, List.getElem_cons_succ, List.getElem_cons_zero, Act.put, List.setIfInBounds_toArray, List.set_cons_zero, List.set_cons_succ]
        refine anyS_done (by kernel_rfl) ?_ _
        clear r0 r1
        go_wp2_with fail
        refine (awake_node _).mono ?_
        rintro e w11 ⟨rfl, hb11⟩
        go_wp2
        go_ret
        exact ⟨rfl, bvia B11.drew hb11⟩
    · obtain rfl : q = M1 := (by omega)
      have hEP0 : EP = 0 := by
        have h := HE1.out
        unfold uE at h
        split at h
        · assumption
        · exact h
      obtain ⟨v1, v2, v3, v4⟩ := plyE_zero2 (HEP.out.trans hEP0)
      have hM : q = (nodeL o no 8).length := by rw [← HM1.out]; exact if_pos HE1.out
      have hR' : R1 = Z.P := by rw [← HR1.out]; exact if_pos HE1.out
      subst hM
      subst hR'
      have hv := HV.out
      obtain ⟨Wd, Hd, hwd, hhd, p1, p2, u1, u2, hnn, hn4, hoo, hob, hgv, hgm⟩ := validM_sides hv
      have hZ := HZ.out
      have hGG := HG.out
      rw [hwd, hhd] at hZ hGG
      simp only [Int.toNat_natCast] at hZ hGG
      have hnoE : no = Wd * Hd := by omega
      have hg' : (∀ i, i < Wd * Hd → validC (g i) = true) ∧ massTo g (Wd * Hd) ≤ 1000000000 := ⟨fun i hi => hgv i (by omega), by first | exact hgm | (rw [← hnn]; exact hgm)⟩
      have ho : ∀ i, i < no → 0 ≤ o i ∧ o i ≤ 7 := fun i hi => hob i (by omega)
      have hk100 := HK.out
      have hfew := ply_few (o := o) (rn := rn) (ru := ru) hnoE hg' (by omega : N ≤ 1000000) ((List.range k).map f) (ply0 g) (ply_start hN0) (by
        have e1 : (ply0 g).cnt + ((List.range k).map f).length = k := by simp [ply0]
        rw [e1]
        have : 4 * no * k ≤ 256 * 100 := Nat.mul_le_mul (by omega) hk100
        omega)
      rw [hZ] at hfew
      have hI := hfew.1
      have hsit : ∀ j, j < (nodeL o no 8).length → siteQ o no Z.st Z.G ((nodeL o no 8).getD j 0) (F j) := fun j hj => HQ.out j hj
      obtain ⟨NN, hNN⟩ : ∃ NN : Nat, N = NN := ⟨N.toNat, by omega⟩
      have hst : ∀ j, j < (nodeL o no 8).length → Z.st ((nodeL o no 8).getD j 0) = NN := fun j hj => by
        rw [← (hsit j hj).2.1, HOK.out j hj, hNN]
      have h0no : 0 < no := by rw [hnoE]; exact Nat.mul_pos (by omega) (by omega)
      have hl0 : 0 < (nodeL o no 8).length := by
        obtain ⟨u, hu, _⟩ := node_ex ho h0no
        omega
      obtain ⟨m1, m2, m3, m4⟩ := ply_merged hnoE hg' (by omega) ho hI hst hsit hl0
      have hwh : wholeB wide high n g no o (nodeL o no 8).length F Z.P.length (pF Z.P) = true := wholeB_iff.2 ⟨hv, ply_sites hnoE hg' (by omega) ho hI hsit, by rw [hwd, hhd]; simpa using ply_post hnoE hg' (by omega) hI⟩
      have hn2 : n = no := by omega
      have hmg := fun W S SO SS' SP' => node_Merge wide high a ao aS aP n no (nodeL o no 8).length Z.P.length c co cS cP g o F (pF Z.P) W (by omega) (by omega) (by omega) (by have := hI.len; omega) (fun j hj => by
        have h1 := ownL_length o ((nodeL o no 8).getD j 0) no
        have h2 := (hsit j hj).2.2.1
        have h3 := (hsit j hj).2.2.2.1
        exact ⟨by omega, by omega⟩) S SO SS' SP' (fun j hj => ply_wf hnoE ho hn4 hg' (by omega) hI hj)
      have m5 : decide (massTo (addTo (layS F (nodeL o no 8).length) (pF Z.P) Z.P.length) n ≤ 1000000000) = true := by rw [hn2]; simpa using m4
      have m6 : readyA wide.toNat high.toNat o no Z.P.length (pF Z.P) F (nodeL o no 8).length = true := by rw [hwd, hhd]; simpa using m2
      rw [hwh, m1, m6, m3, m5, show mrgE true true true true true = 0 from rfl] at hmg
      have e1 : ∀ x : Int, erZ 0 x = x := fun _ => rfl
      have e2 : ∀ x : Nat, erN 0 x = x := fun _ => rfl
      simp only [e1, e2] at hmg
      have heq : ∀ i, i < n → addTo (layS F (nodeL o no 8).length) (pF Z.P) Z.P.length i = G i := fun i hi => by
        rw [ply_grid hnoE hg' (by omega) ho hI hst hsit (by omega), ← hGG, hNN, Int.toNat_natCast]
      have HEQ := hid heq; have HN2 := hid hn2; have hnb : n ≤ 64 := by omega
      generalize addTo (layS F (nodeL o no 8).length) (pF Z.P) Z.P.length = D at *
      clear e1 e2 m1 m2 m3 m4 m5 m6 hwh hl0 h0no hst hNN hsit hI hfew hk100 ho hg' hnoE hGG hZ hwd hhd p1 p2 u1 u2 hnn hn4 hoo hob hgv hgm hv v1 v2 v3 v4 hEP0 heq hn2 HQ HOK
      have y0 := X01.at_ 0 rfl; have y1 := X01.at_ 1 rfl; have y2 := X01.at_ 2 rfl; have y3 := X01.at_ 3 rfl; have ly := X01.lt
      go_wp2_with fail
      refine (hmg _ (H.below B11) (HO.below B11) SS SP).mono ?_
      rintro e w12 ⟨a12, c12, rfl, S12, hg12, hb12⟩
      replace XA := XA.below hb12
      have B12 := bvia B11 hb12
      replace S7 := S7.below hb12
      have XD := Bx.new w12 #[.int .i64 wide, .int .i64 high, .slice a12 n c12] 24
      have hb13 : Below w12.heap.size w12 (w12.alloc (.cells #[.int .i64 wide, .int .i64 high, .slice a12 n c12] 24)) := below_alloc _ _
      replace XA := XA.below hb13
      have B13 := bvia B12 hb13
      replace S7 := S7.below hb13
      have S13 := S12.below hb13
      clear hmg hb12 y0 y1 y2 y3 ly B11 B12 S12 X01 X11 SS SP
      have u0 := XA.at_ 0 rfl; have u1 := XA.at_ 1 rfl; have u2 := XA.at_ 2 rfl; have ul := XA.lt
      have v0 := XD.at_ 0 rfl; have v1 := XD.at_ 1 rfl; have v2 := XD.at_ 2 rfl; have vl := XD.lt
      go_wp2_with fail
      refine (ref2_Same wide high a12 a2 n c12 c2 D G _ (by omega) S13 S7 HEQ.out).mono ?_
      rintro e w14 ⟨rfl, hb14⟩
      have B14 := bvia B13 hb14
      go_wp2_with fail
      refine (awake_node _).mono ?_
      rintro e w15 ⟨rfl, hb15⟩
      go_wp2_with fail
      go_ret
      exact ⟨rfl, bvia B14 hb15⟩
end Go.Proofs.YtmmjaobpoiofdaaGreat
