/- The walk of the law NodeSplits. -/
import Derived.Test.YtcakccfhcgjofaaNSplitW
import Derived.Test.YtcakccfhcgjofaaNMergeF
import Derived.Test.YtcakccfhcgjofaaNLight
import Derived.Test.YtcakccfhcgjofaaNAwake
namespace Go.Proofs.Ytcakccfhcgjofaa
open Go Go.RowKit
set_option linter.unusedVariables false
set_option linter.unusedSimpArgs false
theorem split_eq {o : Nat → Int} {no : Nat} {g : Nat → C4} {nd : Int} {x y : SiteR} (hx : splitS o no g nd x) (hy : splitS o no g nd y) : eqS x y ∧ x.ni ≤ no ∧ x.nc ≤ no := by
  obtain ⟨h1, h2, h3, h4, h5⟩ := hx
  obtain ⟨k1, k2, k3, k4, k5⟩ := hy
  have hl := ownL_length o nd no
  refine ⟨⟨by rw [h1, k1], by rw [h2, k2], by rw [h3, k3], by rw [h4, k4, h3, k3], fun j hj => ?_, fun j hj => ?_⟩, by omega, by omega⟩
  · rw [(h5 j hj).1, (k5 j (by omega)).1]
  · rw [(h5 j (by omega)).2, (k5 j (by omega)).2]
/-- merging what was split has no error -/
theorem split_merge {wide high : Int} {n : Nat} {g : Nat → C4} {no : Nat} {o : Nat → Int} {m : Nat} {F : Nat → SiteR} {p : Nat → N6} (hv : validM wide high n g no o = true) (hl : m = (nodeL o no 8).length) (h : ∀ k, k < m → splitS o no g ((nodeL o no 8).getD k 0) (F k)) :
    mrgE (wholeB wide high n g no o m F 0 p) (stepsB F m) (readyA wide.toNat high.toNat o no 0 p F m) (postS p 0 (F 0).st) (decide (massTo (addTo (layS F m) p 0) n ≤ 1000000000)) = 0 ∧ ∀ i, i < n → layS F m i = g i := by
  obtain ⟨W', H', e1, e2, p1, p2, u1, u2, hnn, hn4, hoo, hob, hvc, hms⟩ := validM_sides hv
  have hob' : ∀ k, k < no → 0 ≤ o k ∧ o k ≤ 7 := fun k hk => hob k (by omega)
  have hg := layS_grid hob' hl h
  have hg' : ∀ i, i < n → layS F m i = g i := fun i hi => hg i (by omega)
  have hs := split_sites hob' (fun k hk => hvc k (by omega)) (by rw [hoo]; exact hms) hl h
  have hw : wholeB wide high n g no o m F 0 p = true := wholeB_iff.2 ⟨hv, hs, postB_iff.2 ⟨by omega, fun k hk => by omega, fun k hk => by omega⟩⟩
  have h1 : stepsB F m = true := stepsB_iff.2 fun k hk => by rw [(h k hk).2.1, (h 0 (by omega)).2.1]
  have h2 : readyA wide.toNat high.toNat o no 0 p F m = true := readyA_iff.2 fun k hk => by unfold readyB; rw [(h k hk).2.1]; rfl
  have h3 : postS p 0 (F 0).st = true := postS_iff.2 fun k hk => by omega
  have h4 : decide (massTo (addTo (layS F m) p 0) n ≤ 1000000000) = true := by
    rw [decide_eq_true_iff]
    show massTo (layS F m) n ≤ _
    rw [massTo_congr hg']; exact hms
  rw [hw, h1, h2, h3, h4]
  exact ⟨rfl, hg'⟩
set_option maxRecDepth 100000 in
set_option maxHeartbeats 20000000 in
theorem walk_splits (wide high : Int) (a ao : Option Addr) (n no c co : Nat) (g : Nat → C4) (o : Nat → Int) (w : World) (hn : n ≤ maxLen) (hno : no ≤ maxLen) (H : Sc w a n g) (HO : Sl w ao no o) :
    Calls Try.prog 8 #[.agg #[.int .i64 wide, .int .i64 high, .slice a n c, .slice ao no co]] w fun e w' => e = .returned (.bool true) ∧ Below w.heap.size w w' := by
  have hsm := fun W => law5_Small wide high 1200 a ao n no c co W
  unfold maxLen at hn hno
  have X0 := Bx.new w #[.int .i64 wide, .int .i64 high, .slice a n c, .slice ao no co] 33
  have hB0 : Below w.heap.size w (w.alloc (.cells #[.int .i64 wide, .int .i64 high, .slice a n c, .slice ao no co] 33)) := by (repeat' (first | with_reducible assumption | with_reducible exact Below.refl _ _ | with_reducible refine Below.drew ?_ | with_reducible refine below_drewN ?_ _ | with_reducible refine balloc ?_ _ | with_reducible refine bset ?_ ?_ _ | with_reducible refine Below.setCell ?_ ?_ _ | with_reducible refine Below.alloc ?_ ?_ _ | omega | (simp; done) | (simp; omega)))
  cases hs : smallL n no 1200
  · rw [hs] at hsm
    go_enter Try.func8, Try.ntmps8
    go_wp2_with fail
    generalize (w.alloc (.cells #[.int .i64 wide, .int .i64 high, .slice a n c, .slice ao no co] 33)) = W0 at X0 hB0 ⊢
    have z0 := X0.lt
    refine (hsm _).mono ?_
    rintro e w1 ⟨rfl, hb1⟩
    go_wp2_with fail
    refine (awake_node _).mono ?_
    rintro e w2 ⟨rfl, hb2⟩
    go_wp2
    go_ret
    exact ⟨rfl, bvia (bvia hB0 hb1) hb2⟩
  obtain ⟨s1, s2⟩ := smallL_iff.1 hs
  rw [hs] at hsm
  have hP := fun W S SO => node_Split wide high a ao n no c co g o W (by omega) (by omega) S SO
  have hR := fun W S SO => ref5_Split wide high a ao n no c co g o W (by omega) (by omega) S SO
  have hV := fun W S SO => node_ValidMap wide high a ao n no c co g o W (by omega) (by omega) S SO
  have hV2 := fun W S SO => ref5_ValidMap wide high a ao n no c co g o W (by omega) (by omega) S SO
  have hT := fun W S SO => node_Traffic wide high a ao n no c co g o W (by omega) (by omega) S SO
  have hT2 := fun W S SO => ref5_Traffic wide high a ao n no c co g o W (by omega) (by omega) S SO
  have hM := fun al m cl F W hm hb S SO SS => node_Merge wide high a ao al none n no m 0 c co cl 0 g o F (fun _ => N6.zero) W (by omega) (by omega) hm (by omega) hb S SO SS (fun k hk => by omega) (fun k hk => by omega)
  obtain ⟨V, hVV⟩ : ∃ V, validM wide high n g no o = V := ⟨_, rfl⟩
  rw [hVV] at hP hR hV hV2 hT hT2
  have HV := hid hVV
  obtain ⟨L, hL⟩ : ∃ L, (if V = true then nodeL o no 8 else []) = L := ⟨_, rfl⟩
  obtain ⟨ev, hev⟩ : ∃ ev, errR V 1 = ev := ⟨_, rfl⟩
  unfold SplitEP at hP hR
  simp only [hL, hev] at hP hR hT hT2
  have hL8 : L.length ≤ 8 := by rw [← hL]; split; exact nodeL_length _ _ _; simp
  have HL := hid hL; have HEV := hid hev
  clear hL hev
  generalize trafN wide high n g no o = T at *
  clear hs hVV
  go_enter Try.func8, Try.ntmps8
  go_wp2_with fail
  generalize (w.alloc (.cells #[.int .i64 wide, .int .i64 high, .slice a n c, .slice ao no co] 33)) = W0 at X0 hB0 ⊢
  have z0 := X0.lt
  refine (hsm _).mono ?_
  rintro e w1 ⟨rfl, hb1⟩
  replace X0 := X0.below hb1
  have B1 := bvia hB0 hb1
  clear hsm hb1 hB0
  have y0 := X0.at_ 0 rfl; have y1 := X0.at_ 1 rfl; have y2 := X0.at_ 2 rfl; have y3 := X0.at_ 3 rfl; have ly := X0.lt
  go_wp2_with fail
  refine (hP _ (H.below B1) (HO.below B1)).mono ?_
  rintro e w2 ⟨v1, xs1, rfl, ⟨O1, l1, f1⟩, hb2⟩
  have Y0 := X0.below hb2
  have B2 := bvia B1 hb2
  obtain ⟨a1, c1, rfl, S1⟩ := ss_of_own O1 (fun k hk => (f1 k (by omega)).2.1)
  clear hP hb2 X0 B1 y0 y1 y2 y3 ly
  have y0 := Y0.at_ 0 rfl; have y1 := Y0.at_ 1 rfl; have y2 := Y0.at_ 2 rfl; have y3 := Y0.at_ 3 rfl; have ly := Y0.lt
  go_wp2_with fail
  refine (hR _ (H.below B2) (HO.below B2)).mono ?_
  rintro e W3 ⟨v2, xs2, rfl, ⟨O2, l2, f2⟩, hb3⟩
  have Z0 := Y0.below hb3
  have B3 := bvia B2 hb3
  obtain ⟨a2, c2, rfl, S2⟩ := ss_of_own O2 (fun k hk => (f2 k (by omega)).2.1)
  replace S1 := S1.below hb3
  clear hR hb3 Y0 B2 y0 y1 y2 y3 ly O1 O2
  rw [l1] at S1
  rw [l2] at S2 ⊢
  have hF1 : ∀ k, k < L.length → splitS o no g (L.getD k 0) (xs1.getD k SiteR.zero) := fun k hk => (f1 k hk).1
  have hF2 : ∀ k, k < L.length → splitS o no g (L.getD k 0) (xs2.getD k SiteR.zero) := fun k hk => (f2 k hk).1
  have hEQ := fun k (hk : k < L.length) => split_eq (hF1 k hk) (hF2 k hk)
  have hSS := fun W X Y => ref5_SameSites a1 a2 L.length c1 c2 _ _ W (by omega) (fun k hk => by obtain ⟨e1, e2, e3⟩ := hEQ k hk; exact ⟨e1, by omega, by omega⟩) X Y
  have hni := fun k (hk : k < L.length) => (hEQ k hk).2
  have HF1 := hid hF1; have HNI := hid hni
  clear f1 f2 l1 l2 hF1 hF2 hEQ hni
  generalize hF : (fun k => xs1.getD k SiteR.zero) = F at *
  have HFF := hid hF
  clear hF
  have r0 : ∀ Y, Below W3.heap.size W3 Y → Y.cell? ⟨w.heap.size, 0, none⟩ = some (.int .i64 wide) := fun Y h => (Z0.below h).at_ 0 rfl
  have r1 : ∀ Y, Below W3.heap.size W3 Y → Y.cell? ⟨w.heap.size, 1, none⟩ = some (.int .i64 high) := fun Y h => (Z0.below h).at_ 1 rfl
  have r2 : ∀ Y, Below W3.heap.size W3 Y → Y.cell? ⟨w.heap.size, 2, none⟩ = some (.slice a n c) := fun Y h => (Z0.below h).at_ 2 rfl
  have r3 : ∀ Y, Below W3.heap.size W3 Y → Y.cell? ⟨w.heap.size, 3, none⟩ = some (.slice ao no co) := fun Y h => (Z0.below h).at_ 3 rfl
  have SS1 := hSS _ S1 S2
  have hH := H.below B3; have hO := HO.below B3
  have hx : ∀ k : Nat, k = k := fun _ => rfl
  cases V
  · obtain rfl : ev = 1 := HEV.out.symm
    go_wp2_with fail
    refine wp_region_S (fun Y => Below W3.heap.size W3 Y) 22 (by kernel_rfl) ?_
    refine anyS_take (i := 0) rfl (by kernel_rfl) (fun _ _ _ h => h) (Or.inl ⟨by rfl, fun Y hYb => (by (try dsimp only at hYb); go_simp; rfl)⟩) (by repeat' (first | with_reducible assumption | with_reducible exact Below.refl _ _ | with_reducible refine Below.drew ?_ | with_reducible refine below_drewN ?_ _)) ?_
    simp only [List.getElem_toArray, List.getElem_cons_succ, List.getElem_cons_zero, Act.put, List.setIfInBounds_toArray, List.set_cons_zero, List.set_cons_succ]
    refine anyS_take (i := 1) rfl (by kernel_rfl) (fun _ _ _ h => h) (Or.inl ⟨by rfl, fun Y hYb => (by (try dsimp only at hYb); go_simp; rfl)⟩) (by repeat' (first | with_reducible assumption | with_reducible exact Below.refl _ _ | with_reducible refine Below.drew ?_ | with_reducible refine below_drewN ?_ _)) ?_
    simp only [List.getElem_toArray, List.getElem_cons_succ, List.getElem_cons_zero, Act.put, List.setIfInBounds_toArray, List.set_cons_zero, List.set_cons_succ]
    refine anyS_take (i := 2) rfl (by kernel_rfl) (fun _ _ _ h => h) (Or.inl ⟨by rfl, fun Y hYb => (by (try dsimp only at hYb); go_simp; rfl)⟩) (by repeat' (first | with_reducible assumption | with_reducible exact Below.refl _ _ | with_reducible refine Below.drew ?_ | with_reducible refine below_drewN ?_ _)) ?_
    simp only [List.getElem_toArray, List.getElem_cons_succ, List.getElem_cons_zero, Act.put, List.setIfInBounds_toArray, List.set_cons_zero, List.set_cons_succ]
    refine anyS_take (i := 3) rfl (by kernel_rfl) (fun _ _ _ h => h) (Or.inl ⟨by rfl, fun Y hYb => (by (try dsimp only at hYb); go_simp; rfl)⟩) (by repeat' (first | with_reducible assumption | with_reducible exact Below.refl _ _ | with_reducible refine Below.drew ?_ | with_reducible refine below_drewN ?_ _)) ?_
    simp only [List.getElem_toArray, List.getElem_cons_succ, List.getElem_cons_zero, Act.put, List.setIfInBounds_toArray, List.set_cons_zero, List.set_cons_succ]
    refine anyS_take (i := 4) rfl (by kernel_rfl) (fun _ _ _ h => h) (Or.inl ⟨by rfl, fun Y hYb => (by (try dsimp only at hYb); go_simp; rfl)⟩) (by repeat' (first | with_reducible assumption | with_reducible exact Below.refl _ _ | with_reducible refine Below.drew ?_ | with_reducible refine below_drewN ?_ _)) ?_
    simp only [List.getElem_toArray, List.getElem_cons_succ, List.getElem_cons_zero, Act.put, List.setIfInBounds_toArray, List.set_cons_zero, List.set_cons_succ]
    refine anyS_take (i := 5) rfl (by kernel_rfl) (fun _ _ _ h => h) (Or.inl ⟨by rfl, fun Y hYb => (by (try dsimp only at hYb); go_simp; rfl)⟩) (by repeat' (first | with_reducible assumption | with_reducible exact Below.refl _ _ | with_reducible refine Below.drew ?_ | with_reducible refine below_drewN ?_ _)) ?_
    simp only [List.getElem_toArray, List.getElem_cons_succ, List.getElem_cons_zero, Act.put, List.setIfInBounds_toArray, List.set_cons_zero, List.set_cons_succ]
    refine anyS_one (i := 6) (by kernel_rfl) rfl (by rfl) (fun K hK => ?_)
    go_simp
    refine (hSS _ (S1.below (by (repeat' (first | with_reducible assumption | with_reducible exact Below.refl _ _ | with_reducible refine Below.drew ?_ | with_reducible refine below_drewN ?_ _ | with_reducible refine balloc ?_ _ | with_reducible refine bset ?_ ?_ _ | with_reducible refine Below.setCell ?_ ?_ _ | with_reducible refine Below.alloc ?_ ?_ _ | omega | (simp; done) | (simp; omega))))) (S2.below (by (repeat' (first | with_reducible assumption | with_reducible exact Below.refl _ _ | with_reducible refine Below.drew ?_ | with_reducible refine below_drewN ?_ _ | with_reducible refine balloc ?_ _ | with_reducible refine bset ?_ ?_ _ | with_reducible refine Below.setCell ?_ ?_ _ | with_reducible refine Below.alloc ?_ ?_ _ | omega | (simp; done) | (simp; omega)))))).mono ?_
    rintro e v6 ⟨rfl, hb6⟩
    dsimp only
    have hS6 : Below W3.heap.size W3 v6 := bvia (by (repeat' (first | with_reducible assumption | with_reducible exact Below.refl _ _ | with_reducible refine Below.drew ?_ | with_reducible refine below_drewN ?_ _ | with_reducible refine balloc ?_ _ | with_reducible refine bset ?_ ?_ _ | with_reducible refine Below.setCell ?_ ?_ _ | with_reducible refine Below.alloc ?_ ?_ _ | omega | (simp; done) | (simp; omega)))) hb6
    refine hK _ _ (fun _ _ => hS6) ?_
    clear hK K hb6
    refine anyS_take (i := 7) rfl (by kernel_rfl) (fun _ _ _ h => h) (Or.inl ⟨by rfl, fun Y hYb => (by (try dsimp only at hYb); go_simp; rfl)⟩) (by repeat' (first | with_reducible assumption | with_reducible exact Below.refl _ _ | with_reducible refine Below.drew ?_ | with_reducible refine below_drewN ?_ _)) ?_
    simp only [List.getElem_toArray, List.getElem_cons_succ, List.getElem_cons_zero, Act.put, List.setIfInBounds_toArray, List.set_cons_zero, List.set_cons_succ]
    refine anyS_take (i := 8) rfl (by kernel_rfl) (fun _ _ _ h => h) (Or.inl ⟨by rfl, fun Y hYb => (by (try dsimp only at hYb); go_simp; rfl)⟩) (by repeat' (first | with_reducible assumption | with_reducible exact Below.refl _ _ | with_reducible refine Below.drew ?_ | with_reducible refine below_drewN ?_ _)) ?_
    simp only [List.getElem_toArray, List.getElem_cons_succ, List.getElem_cons_zero, Act.put, List.setIfInBounds_toArray, List.set_cons_zero, List.set_cons_succ]
    refine anyS_take (i := 9) rfl (by kernel_rfl) (fun _ _ _ h => h) (Or.inl ⟨by rfl, fun Y hYb => (by (try dsimp only at hYb); go_simp; rfl)⟩) (by repeat' (first | with_reducible assumption | with_reducible exact Below.refl _ _ | with_reducible refine Below.drew ?_ | with_reducible refine below_drewN ?_ _)) ?_
    simp only [List.getElem_toArray, List.getElem_cons_succ, List.getElem_cons_zero, Act.put, List.setIfInBounds_toArray, List.set_cons_zero, List.set_cons_succ]
    refine anyS_take (i := 10) rfl (by kernel_rfl) (fun _ _ _ h => h) (Or.inl ⟨by rfl, fun Y hYb => (by (try dsimp only at hYb); go_simp; rfl)⟩) (by repeat' (first | with_reducible assumption | with_reducible exact Below.refl _ _ | with_reducible refine Below.drew ?_ | with_reducible refine below_drewN ?_ _)) ?_
    simp only [List.getElem_toArray, List.getElem_cons_succ, List.getElem_cons_zero, Act.put, List.setIfInBounds_toArray, List.set_cons_zero, List.set_cons_succ]
    refine anyS_take (i := 11) rfl (by kernel_rfl) (fun _ _ _ h => h) (Or.inl ⟨by rfl, fun Y hYb => (by (try dsimp only at hYb); go_simp; rfl)⟩) (by repeat' (first | with_reducible assumption | with_reducible exact Below.refl _ _ | with_reducible refine Below.drew ?_ | with_reducible refine below_drewN ?_ _)) ?_
    simp only [List.getElem_toArray, List.getElem_cons_succ, List.getElem_cons_zero, Act.put, List.setIfInBounds_toArray, List.set_cons_zero, List.set_cons_succ]
    refine anyS_take (i := 12) rfl (by kernel_rfl) (fun _ _ _ h => h) (Or.inl ⟨by rfl, fun Y hYb => (by (try dsimp only at hYb); go_simp; rfl)⟩) (by repeat' (first | with_reducible assumption | with_reducible exact Below.refl _ _ | with_reducible refine Below.drew ?_ | with_reducible refine below_drewN ?_ _)) ?_
    simp only [List.getElem_toArray, List.getElem_cons_succ, List.getElem_cons_zero, Act.put, List.setIfInBounds_toArray, List.set_cons_zero, List.set_cons_succ]
    refine anyS_take (i := 13) rfl (by kernel_rfl) (fun _ _ _ h => h) (Or.inl ⟨by rfl, fun Y hYb => (by (try dsimp only at hYb); go_simp; rfl)⟩) (by repeat' (first | with_reducible assumption | with_reducible exact Below.refl _ _ | with_reducible refine Below.drew ?_ | with_reducible refine below_drewN ?_ _)) ?_
    simp only [List.getElem_toArray, List.getElem_cons_succ, List.getElem_cons_zero, Act.put, List.setIfInBounds_toArray, List.set_cons_zero, List.set_cons_succ]
    refine anyS_take (i := 15) rfl (by kernel_rfl) (fun _ _ _ h => h) (Or.inl ⟨by rfl, fun Y hYb => (by (try dsimp only at hYb); go_simp; rfl)⟩) (by repeat' (first | with_reducible assumption | with_reducible exact Below.refl _ _ | with_reducible refine Below.drew ?_ | with_reducible refine below_drewN ?_ _)) ?_
    simp only [List.getElem_toArray, List.getElem_cons_succ, List.getElem_cons_zero, Act.put, List.setIfInBounds_toArray, List.set_cons_zero, List.set_cons_succ]
    refine anyS_take (i := 16) rfl (by kernel_rfl) (fun _ _ _ h => h) (Or.inl ⟨by rfl, fun Y hYb => (by (try dsimp only at hYb); go_simp; rfl)⟩) (by repeat' (first | with_reducible assumption | with_reducible exact Below.refl _ _ | with_reducible refine Below.drew ?_ | with_reducible refine below_drewN ?_ _)) ?_
    simp only [List.getElem_toArray, List.getElem_cons_succ, List.getElem_cons_zero, Act.put, List.setIfInBounds_toArray, List.set_cons_zero, List.set_cons_succ]
    refine anyS_take (i := 17) rfl (by kernel_rfl) (fun _ _ _ h => h) (Or.inl ⟨by rfl, fun Y hYb => (by (try dsimp only at hYb); go_simp; rfl)⟩) (by repeat' (first | with_reducible assumption | with_reducible exact Below.refl _ _ | with_reducible refine Below.drew ?_ | with_reducible refine below_drewN ?_ _)) ?_
    simp only [List.getElem_toArray, List.getElem_cons_succ, List.getElem_cons_zero, Act.put, List.setIfInBounds_toArray, List.set_cons_zero, List.set_cons_succ]
    refine anyS_take (i := 18) rfl (by kernel_rfl) (fun _ _ _ h => h) (Or.inl ⟨by rfl, fun Y hYb => (by (try dsimp only at hYb); go_simp; rfl)⟩) (by repeat' (first | with_reducible assumption | with_reducible exact Below.refl _ _ | with_reducible refine Below.drew ?_ | with_reducible refine below_drewN ?_ _)) ?_
    simp only [List.getElem_toArray, List.getElem_cons_succ, List.getElem_cons_zero, Act.put, List.setIfInBounds_toArray, List.set_cons_zero, List.set_cons_succ]
    refine anyS_one (i := 14) (by kernel_rfl) rfl (by rfl) (fun K hK => ?_)
    go_simp
    refine (hV _ (hH.below hS6) (hO.below hS6)).mono ?_
    rintro e v14 ⟨rfl, hb14⟩
    dsimp only
    have hS14 : Below W3.heap.size W3 v14 := bvia hS6 hb14
    refine hK _ _ (fun _ _ => hS14) ?_
    clear hK K hb14
    refine anyS_one (i := 19) (by kernel_rfl) rfl (by rfl) (fun K hK => ?_)
    go_simp
    refine (hV2 _ (hH.below hS14) (hO.below hS14)).mono ?_
    rintro e v19 ⟨rfl, hb19⟩
    dsimp only
    have hS19 : Below W3.heap.size W3 v19 := bvia hS14 hb19
    refine hK _ _ (fun _ _ => hS19) ?_
    clear hK K hb19
    refine anyS_take (i := 20) rfl (by kernel_rfl) (fun _ _ _ h => h) (Or.inl ⟨by rfl, fun Y hYb => (by (try dsimp only at hYb); go_simp; rfl)⟩) (by repeat' (first | with_reducible assumption | with_reducible exact Below.refl _ _ | with_reducible refine Below.drew ?_ | with_reducible refine below_drewN ?_ _)) ?_
    simp only [List.getElem_toArray, List.getElem_cons_succ, List.getElem_cons_zero, Act.put, List.setIfInBounds_toArray, List.set_cons_zero, List.set_cons_succ]
    refine anyS_take (i := 21) rfl (by kernel_rfl) (fun _ _ _ h => h) (Or.inl ⟨by rfl, fun Y hYb => (by (try dsimp only at hYb); go_simp; rfl)⟩) (by repeat' (first | with_reducible assumption | with_reducible exact Below.refl _ _ | with_reducible refine Below.drew ?_ | with_reducible refine below_drewN ?_ _)) ?_
    simp only [List.getElem_toArray, List.getElem_cons_succ, List.getElem_cons_zero, Act.put, List.setIfInBounds_toArray, List.set_cons_zero, List.set_cons_succ]
    refine anyS_done (by kernel_rfl) ?_ _
    clear r0 r1 r2 r3 hSS SS1
    replace Z0 := Z0.below hS19
    replace B3 := bvia B3 hS19
    replace S1 := S1.below hS19
    have z0 := Z0.at_ 0 rfl; have z1 := Z0.at_ 1 rfl; have z2 := Z0.at_ 2 rfl; have z3 := Z0.at_ 3 rfl; have lz := Z0.lt
    go_wp2_with fail
    refine (hT _ (H.below B3) (HO.below B3)).mono ?_
    rintro e w4 ⟨rfl, hb4⟩
    replace Z0 := Z0.below hb4
    replace S1 := S1.below hb4
    replace B3 := bvia B3 hb4
    clear hb4 z0 z1 z2 z3 lz
    have z0 := Z0.at_ 0 rfl; have z1 := Z0.at_ 1 rfl; have z2 := Z0.at_ 2 rfl; have z3 := Z0.at_ 3 rfl; have lz := Z0.lt
    go_wp2_with fail
    refine (hT2 _ (H.below B3) (HO.below B3)).mono ?_
    rintro e w5 ⟨rfl, hb5⟩
    replace Z0 := Z0.below hb5
    replace S1 := S1.below hb5
    replace B3 := bvia B3 hb5
    clear hb5 z0 z1 z2 z3 lz
    have z0 := Z0.at_ 0 rfl; have z1 := Z0.at_ 1 rfl; have z2 := Z0.at_ 2 rfl; have z3 := Z0.at_ 3 rfl; have lz := Z0.lt
    go_wp2_with fail
    refine (awake_node _).mono ?_
    rintro e w6 ⟨rfl, hb6⟩
    go_wp2
    go_ret
    exact ⟨rfl, bvia B3 hb6⟩
  · obtain rfl : ev = 0 := HEV.out.symm
    obtain rfl : nodeL o no 8 = L := HL.out
    have hmg := split_merge (p := fun _ => N6.zero) (m := (nodeL o no 8).length) (F := F) HV.out rfl (fun k hk => by rw [← HFF.out]; exact HF1.out k hk)
    go_wp2_with fail
    refine wp_region_S (fun Y => Below W3.heap.size W3 Y) 22 (by kernel_rfl) ?_
    refine anyS_take (i := 0) rfl (by kernel_rfl) (fun _ _ _ h => h) (Or.inl ⟨by rfl, fun Y hYb => (by (try dsimp only at hYb); go_simp; rfl)⟩) (by repeat' (first | with_reducible assumption | with_reducible exact Below.refl _ _ | with_reducible refine Below.drew ?_ | with_reducible refine below_drewN ?_ _)) ?_
    simp only [List.getElem_toArray, List.getElem_cons_succ, List.getElem_cons_zero, Act.put, List.setIfInBounds_toArray, List.set_cons_zero, List.set_cons_succ]
    refine anyS_take (i := 1) rfl (by kernel_rfl) (fun _ _ _ h => h) (Or.inl ⟨by rfl, fun Y hYb => (by (try dsimp only at hYb); go_simp; rfl)⟩) (by repeat' (first | with_reducible assumption | with_reducible exact Below.refl _ _ | with_reducible refine Below.drew ?_ | with_reducible refine below_drewN ?_ _)) ?_
    simp only [List.getElem_toArray, List.getElem_cons_succ, List.getElem_cons_zero, Act.put, List.setIfInBounds_toArray, List.set_cons_zero, List.set_cons_succ]
    refine anyS_take (i := 2) rfl (by kernel_rfl) (fun _ _ _ h => h) (Or.inl ⟨by rfl, fun Y hYb => (by (try dsimp only at hYb); go_simp; rfl)⟩) (by repeat' (first | with_reducible assumption | with_reducible exact Below.refl _ _ | with_reducible refine Below.drew ?_ | with_reducible refine below_drewN ?_ _)) ?_
    simp only [List.getElem_toArray, List.getElem_cons_succ, List.getElem_cons_zero, Act.put, List.setIfInBounds_toArray, List.set_cons_zero, List.set_cons_succ]
    refine anyS_take (i := 3) rfl (by kernel_rfl) (fun _ _ _ h => h) (Or.inl ⟨by rfl, fun Y hYb => (by (try dsimp only at hYb); go_simp; rfl)⟩) (by repeat' (first | with_reducible assumption | with_reducible exact Below.refl _ _ | with_reducible refine Below.drew ?_ | with_reducible refine below_drewN ?_ _)) ?_
    simp only [List.getElem_toArray, List.getElem_cons_succ, List.getElem_cons_zero, Act.put, List.setIfInBounds_toArray, List.set_cons_zero, List.set_cons_succ]
    refine anyS_take (i := 4) rfl (by kernel_rfl) (fun _ _ _ h => h) (Or.inl ⟨by rfl, fun Y hYb => (by (try dsimp only at hYb); go_simp; rfl)⟩) (by repeat' (first | with_reducible assumption | with_reducible exact Below.refl _ _ | with_reducible refine Below.drew ?_ | with_reducible refine below_drewN ?_ _)) ?_
    simp only [List.getElem_toArray, List.getElem_cons_succ, List.getElem_cons_zero, Act.put, List.setIfInBounds_toArray, List.set_cons_zero, List.set_cons_succ]
    refine anyS_take (i := 5) rfl (by kernel_rfl) (fun _ _ _ h => h) (Or.inl ⟨by rfl, fun Y hYb => (by (try dsimp only at hYb); go_simp; rfl)⟩) (by repeat' (first | with_reducible assumption | with_reducible exact Below.refl _ _ | with_reducible refine Below.drew ?_ | with_reducible refine below_drewN ?_ _)) ?_
    simp only [List.getElem_toArray, List.getElem_cons_succ, List.getElem_cons_zero, Act.put, List.setIfInBounds_toArray, List.set_cons_zero, List.set_cons_succ]
    refine anyS_one (i := 6) (by kernel_rfl) rfl (by rfl) (fun K hK => ?_)
    go_simp
    refine (hSS _ (S1.below (by (repeat' (first | with_reducible assumption | with_reducible exact Below.refl _ _ | with_reducible refine Below.drew ?_ | with_reducible refine below_drewN ?_ _ | with_reducible refine balloc ?_ _ | with_reducible refine bset ?_ ?_ _ | with_reducible refine Below.setCell ?_ ?_ _ | with_reducible refine Below.alloc ?_ ?_ _ | omega | (simp; done) | (simp; omega))))) (S2.below (by (repeat' (first | with_reducible assumption | with_reducible exact Below.refl _ _ | with_reducible refine Below.drew ?_ | with_reducible refine below_drewN ?_ _ | with_reducible refine balloc ?_ _ | with_reducible refine bset ?_ ?_ _ | with_reducible refine Below.setCell ?_ ?_ _ | with_reducible refine Below.alloc ?_ ?_ _ | omega | (simp; done) | (simp; omega)))))).mono ?_
    rintro e v6 ⟨rfl, hb6⟩
    dsimp only
    have hS6 : Below W3.heap.size W3 v6 := bvia (by (repeat' (first | with_reducible assumption | with_reducible exact Below.refl _ _ | with_reducible refine Below.drew ?_ | with_reducible refine below_drewN ?_ _ | with_reducible refine balloc ?_ _ | with_reducible refine bset ?_ ?_ _ | with_reducible refine Below.setCell ?_ ?_ _ | with_reducible refine Below.alloc ?_ ?_ _ | omega | (simp; done) | (simp; omega)))) hb6
    refine hK _ _ (fun _ _ => hS6) ?_
    clear hK K hb6
    refine anyS_take (i := 7) rfl (by kernel_rfl) (fun _ _ _ h => h) (Or.inl ⟨by rfl, fun Y hYb => (by (try dsimp only at hYb); go_simp; rfl)⟩) (by repeat' (first | with_reducible assumption | with_reducible exact Below.refl _ _ | with_reducible refine Below.drew ?_ | with_reducible refine below_drewN ?_ _)) ?_
    simp only [List.getElem_toArray, List.getElem_cons_succ, List.getElem_cons_zero, Act.put, List.setIfInBounds_toArray, List.set_cons_zero, List.set_cons_succ]
    refine anyS_take (i := 8) rfl (by kernel_rfl) (fun _ _ _ h => h) (Or.inl ⟨by rfl, fun Y hYb => (by (try dsimp only at hYb); go_simp; rfl)⟩) (by repeat' (first | with_reducible assumption | with_reducible exact Below.refl _ _ | with_reducible refine Below.drew ?_ | with_reducible refine below_drewN ?_ _)) ?_
    simp only [List.getElem_toArray, List.getElem_cons_succ, List.getElem_cons_zero, Act.put, List.setIfInBounds_toArray, List.set_cons_zero, List.set_cons_succ]
    refine anyS_take (i := 9) rfl (by kernel_rfl) (fun _ _ _ h => h) (Or.inl ⟨by rfl, fun Y hYb => (by (try dsimp only at hYb); go_simp; rfl)⟩) (by repeat' (first | with_reducible assumption | with_reducible exact Below.refl _ _ | with_reducible refine Below.drew ?_ | with_reducible refine below_drewN ?_ _)) ?_
    simp only [List.getElem_toArray, List.getElem_cons_succ, List.getElem_cons_zero, Act.put, List.setIfInBounds_toArray, List.set_cons_zero, List.set_cons_succ]
    refine anyS_take (i := 10) rfl (by kernel_rfl) (fun _ _ _ h => h) (Or.inl ⟨by rfl, fun Y hYb => (by (try dsimp only at hYb); go_simp; rfl)⟩) (by repeat' (first | with_reducible assumption | with_reducible exact Below.refl _ _ | with_reducible refine Below.drew ?_ | with_reducible refine below_drewN ?_ _)) ?_
    simp only [List.getElem_toArray, List.getElem_cons_succ, List.getElem_cons_zero, Act.put, List.setIfInBounds_toArray, List.set_cons_zero, List.set_cons_succ]
    refine anyS_take (i := 11) rfl (by kernel_rfl) (fun _ _ _ h => h) (Or.inl ⟨by rfl, fun Y hYb => (by (try dsimp only at hYb); go_simp; rfl)⟩) (by repeat' (first | with_reducible assumption | with_reducible exact Below.refl _ _ | with_reducible refine Below.drew ?_ | with_reducible refine below_drewN ?_ _)) ?_
    simp only [List.getElem_toArray, List.getElem_cons_succ, List.getElem_cons_zero, Act.put, List.setIfInBounds_toArray, List.set_cons_zero, List.set_cons_succ]
    refine anyS_take (i := 12) rfl (by kernel_rfl) (fun _ _ _ h => h) (Or.inl ⟨by rfl, fun Y hYb => (by (try dsimp only at hYb); go_simp; rfl)⟩) (by repeat' (first | with_reducible assumption | with_reducible exact Below.refl _ _ | with_reducible refine Below.drew ?_ | with_reducible refine below_drewN ?_ _)) ?_
    simp only [List.getElem_toArray, List.getElem_cons_succ, List.getElem_cons_zero, Act.put, List.setIfInBounds_toArray, List.set_cons_zero, List.set_cons_succ]
    refine anyS_take (i := 13) rfl (by kernel_rfl) (fun _ _ _ h => h) (Or.inl ⟨by rfl, fun Y hYb => (by (try dsimp only at hYb); go_simp; rfl)⟩) (by repeat' (first | with_reducible assumption | with_reducible exact Below.refl _ _ | with_reducible refine Below.drew ?_ | with_reducible refine below_drewN ?_ _)) ?_
    simp only [List.getElem_toArray, List.getElem_cons_succ, List.getElem_cons_zero, Act.put, List.setIfInBounds_toArray, List.set_cons_zero, List.set_cons_succ]
    refine anyS_take (i := 15) rfl (by kernel_rfl) (fun _ _ _ h => h) (Or.inl ⟨by rfl, fun Y hYb => (by (try dsimp only at hYb); go_simp; rfl)⟩) (by repeat' (first | with_reducible assumption | with_reducible exact Below.refl _ _ | with_reducible refine Below.drew ?_ | with_reducible refine below_drewN ?_ _)) ?_
    simp only [List.getElem_toArray, List.getElem_cons_succ, List.getElem_cons_zero, Act.put, List.setIfInBounds_toArray, List.set_cons_zero, List.set_cons_succ]
    refine anyS_take (i := 16) rfl (by kernel_rfl) (fun _ _ _ h => h) (Or.inl ⟨by rfl, fun Y hYb => (by (try dsimp only at hYb); go_simp; rfl)⟩) (by repeat' (first | with_reducible assumption | with_reducible exact Below.refl _ _ | with_reducible refine Below.drew ?_ | with_reducible refine below_drewN ?_ _)) ?_
    simp only [List.getElem_toArray, List.getElem_cons_succ, List.getElem_cons_zero, Act.put, List.setIfInBounds_toArray, List.set_cons_zero, List.set_cons_succ]
    refine anyS_take (i := 17) rfl (by kernel_rfl) (fun _ _ _ h => h) (Or.inl ⟨by rfl, fun Y hYb => (by (try dsimp only at hYb); go_simp; rfl)⟩) (by repeat' (first | with_reducible assumption | with_reducible exact Below.refl _ _ | with_reducible refine Below.drew ?_ | with_reducible refine below_drewN ?_ _)) ?_
    simp only [List.getElem_toArray, List.getElem_cons_succ, List.getElem_cons_zero, Act.put, List.setIfInBounds_toArray, List.set_cons_zero, List.set_cons_succ]
    refine anyS_take (i := 18) rfl (by kernel_rfl) (fun _ _ _ h => h) (Or.inl ⟨by rfl, fun Y hYb => (by (try dsimp only at hYb); go_simp; rfl)⟩) (by repeat' (first | with_reducible assumption | with_reducible exact Below.refl _ _ | with_reducible refine Below.drew ?_ | with_reducible refine below_drewN ?_ _)) ?_
    simp only [List.getElem_toArray, List.getElem_cons_succ, List.getElem_cons_zero, Act.put, List.setIfInBounds_toArray, List.set_cons_zero, List.set_cons_succ]
    refine anyS_one (i := 14) (by kernel_rfl) rfl (by rfl) (fun K hK => ?_)
    go_simp
    refine (hV _ (hH.below hS6) (hO.below hS6)).mono ?_
    rintro e v14 ⟨rfl, hb14⟩
    dsimp only
    have hS14 : Below W3.heap.size W3 v14 := bvia hS6 hb14
    refine hK _ _ (fun _ _ => hS14) ?_
    clear hK K hb14
    refine anyS_one (i := 19) (by kernel_rfl) rfl (by rfl) (fun K hK => ?_)
    go_simp
    refine (hV2 _ (hH.below hS14) (hO.below hS14)).mono ?_
    rintro e v19 ⟨rfl, hb19⟩
    dsimp only
    have hS19 : Below W3.heap.size W3 v19 := bvia hS14 hb19
    refine hK _ _ (fun _ _ => hS19) ?_
    clear hK K hb19
    refine anyS_take (i := 20) rfl (by kernel_rfl) (fun _ _ _ h => h) (Or.inl ⟨by rfl, fun Y hYb => (by (try dsimp only at hYb); go_simp; rfl)⟩) (by repeat' (first | with_reducible assumption | with_reducible exact Below.refl _ _ | with_reducible refine Below.drew ?_ | with_reducible refine below_drewN ?_ _)) ?_
    simp only [List.getElem_toArray, List.getElem_cons_succ, List.getElem_cons_zero, Act.put, List.setIfInBounds_toArray, List.set_cons_zero, List.set_cons_succ]
    refine anyS_take (i := 21) rfl (by kernel_rfl) (fun _ _ _ h => h) (Or.inl ⟨by rfl, fun Y hYb => (by (try dsimp only at hYb); go_simp; rfl)⟩) (by repeat' (first | with_reducible assumption | with_reducible exact Below.refl _ _ | with_reducible refine Below.drew ?_ | with_reducible refine below_drewN ?_ _)) ?_
    simp only [List.getElem_toArray, List.getElem_cons_succ, List.getElem_cons_zero, Act.put, List.setIfInBounds_toArray, List.set_cons_zero, List.set_cons_succ]
    refine anyS_done (by kernel_rfl) ?_ _
    clear r0 r1 r2 r3 hSS SS1
    replace Z0 := Z0.below hS19
    replace B3 := bvia B3 hS19
    replace S1 := S1.below hS19
    have z0 := Z0.at_ 0 rfl; have z1 := Z0.at_ 1 rfl; have z2 := Z0.at_ 2 rfl; have z3 := Z0.at_ 3 rfl; have lz := Z0.lt
    go_wp2_with fail
    refine (hT _ (H.below B3) (HO.below B3)).mono ?_
    rintro e w4 ⟨rfl, hb4⟩
    replace Z0 := Z0.below hb4
    replace S1 := S1.below hb4
    replace B3 := bvia B3 hb4
    clear hb4 z0 z1 z2 z3 lz
    have z0 := Z0.at_ 0 rfl; have z1 := Z0.at_ 1 rfl; have z2 := Z0.at_ 2 rfl; have z3 := Z0.at_ 3 rfl; have lz := Z0.lt
    go_wp2_with fail
    refine (hT2 _ (H.below B3) (HO.below B3)).mono ?_
    rintro e w5 ⟨rfl, hb5⟩
    replace Z0 := Z0.below hb5
    replace S1 := S1.below hb5
    replace B3 := bvia B3 hb5
    clear hb5 z0 z1 z2 z3 lz
    have z0 := Z0.at_ 0 rfl; have z1 := Z0.at_ 1 rfl; have z2 := Z0.at_ 2 rfl; have z3 := Z0.at_ 3 rfl; have lz := Z0.lt
    have hMM := hM a1 (nodeL o no 8).length c1 F _ (by omega) (fun k hk => by have := HNI.out k hk; rw [← HFF.out]; dsimp only; omega) (H.below B3) (HO.below B3) S1
    obtain ⟨hE, hG⟩ := hmg
    rw [show addTo (layS F (nodeL o no 8).length) (fun _ => N6.zero) 0 = layS F (nodeL o no 8).length from rfl] at hE hMM
    rw [hE, show erZ 0 wide = wide from rfl, show erZ 0 high = high from rfl, show erN 0 n = n from rfl] at hMM
    have HG := hid hG
    clear hM hE hG
    go_wp2_with fail
    refine hMM.mono ?_
    rintro e w6 ⟨a3, c3, rfl, S3, _, hb6⟩
    replace Z0 := (Z0.below hb6).alloc (.cells #[.int .i64 wide, .int .i64 high, .slice a3 n c3] 24)
    have XG := Bx.new w6 #[.int .i64 wide, .int .i64 high, .slice a3 n c3] 24
    have S4 := S3.alloc (.cells #[.int .i64 wide, .int .i64 high, .slice a3 n c3] 24)
    have B6 := balloc (bvia B3 hb6) (.cells #[.int .i64 wide, .int .i64 high, .slice a3 n c3] 24)
    clear hMM S1 S2 hb6 z0 z1 z2 z3 lz S3
    have z0 := Z0.at_ 0 rfl; have z1 := Z0.at_ 1 rfl; have z2 := Z0.at_ 2 rfl; have lz := Z0.lt
    have x0 := XG.at_ 0 rfl; have x1 := XG.at_ 1 rfl; have x2 := XG.at_ 2 rfl; have lx := XG.lt
    have hsame := ref2_Same wide high a3 a n c3 c (layS F (nodeL o no 8).length) g _ (by omega) S4 (H.below B6) HG.out
    go_wp2_with fail
    refine hsame.mono ?_
    rintro e w7 ⟨rfl, hb7⟩
    go_wp2_with fail
    refine (awake_node _).mono ?_
    rintro e w8 ⟨rfl, hb8⟩
    go_wp2
    go_ret
    exact ⟨rfl, bvia (bvia B6 hb7) hb8⟩
end Go.Proofs.Ytcakccfhcgjofaa
