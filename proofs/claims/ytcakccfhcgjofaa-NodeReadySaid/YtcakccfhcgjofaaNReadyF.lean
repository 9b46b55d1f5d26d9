/- Walks: Ready, of the program and of the reference. -/
import Derived.Test.YtcakccfhcgjofaaNAsked
import Derived.Test.YtcakccfhcgjofaaNReadyC
import Derived.Test.YtcakccfhcgjofaaNFind
import Derived.Test.YtcakccfhcgjofaaNRefNeigh
namespace Go.Proofs.Ytcakccfhcgjofaa
open Go Go.RowKit
set_option linter.unusedVariables false
set_option linter.unusedSimpArgs false
/-- what Ready answers, with its error -/
def rdyV (v q h b r : Bool) : Bool := askE v q h b == 0 && r
set_option maxRecDepth 100000 in
set_option maxHeartbeats 4000000 in
theorem ref5_Ready (wide high : Int) (a ao ap : Option Addr) (n no q c co cp : Nat) (g : Nat → C4) (o : Nat → Int) (p : Nat → N6) (s : SiteR) (w : World) (hn : n ≤ 100000000) (hno : no ≤ 100000000) (hq : q ≤ 100000000) (hni : s.ni ≤ 100000) (hnc : s.nc ≤ 100000) (H : Sc w a n g) (HO : Sl w ao no o) (HP : Sn w ap q p) (HW : ∀ k, k < q → wfN (p k)) (HS : s.lies w) :
    Calls Try.prog 27 #[.agg #[.int .i64 wide, .int .i64 high, .slice a n c], .slice ao no co, .agg s.cells, .slice ap q cp] w fun e w' => e = .returned (.tuple #[.bool (rdyV (validM wide high n g no o) (postB wide.toNat high.toNat o no q p) (hasB o no s.nd) (siteB o no s) (readyB wide.toNat high.toNat o no q p s.nd s.st)), .int .i64 (askE (validM wide high n g no o) (postB wide.toNat high.toNat o no q p) (hasB o no s.nd) (siteB o no s))]) ∧ Below w.heap.size w w' := by
  have hA := fun W S SO SP SS => ref5_siteError wide high a ao ap n no q c co cp g o p s W hn hno hq hni hnc S SO SP HW SS
  have hR : askE (validM wide high n g no o) (postB wide.toNat high.toNat o no q p) (hasB o no s.nd) (siteB o no s) = 0 → ∀ W, Sl W ao no o → Sn W ap q p → Calls Try.prog 68 #[.agg #[.int .i64 wide, .int .i64 high, .slice a n c], .slice ao no co, .agg s.cells, .slice ap q cp] W fun e w' => e = .returned (.bool (readyB wide.toNat high.toNat o no q p s.nd s.st)) ∧ Below W.heap.size W w' := fun h W SO SP => by
    obtain ⟨hv, _, _, _⟩ := askE_zero h
    obtain ⟨Wd, Hd, rfl, rfl, p1, p2, u1, u2, hnn, hn4, hoo, hob, _, _⟩ := validM_sides hv
    simp only [Int.toNat_natCast]
    exact ref5_ready Wd Hd a ao ap n no q c co cp o p s.nd s.st s.ix s.cl s.ni s.ci s.nc s.cc W ⟨p1, p2⟩ ⟨u1, u2⟩ (by omega) hq SO SP
  unfold rdyV
  generalize askE (validM wide high n g no o) (postB wide.toNat high.toNat o no q p) (hasB o no s.nd) (siteB o no s) = E at *
  generalize readyB wide.toNat high.toNat o no q p s.nd s.st = R at *
  unfold SiteR.cells at *
  have X0 := (Bx.new w #[.int .i64 wide, .int .i64 high, .slice a n c] 24).alloc (.cells #[.int .i64 s.nd, .int .i64 s.st, .slice s.ix s.ni s.ci, .slice s.cl s.nc s.cc] 51)
  have X1 := Bx.new (w.alloc (.cells #[.int .i64 wide, .int .i64 high, .slice a n c] 24)) #[.int .i64 s.nd, .int .i64 s.st, .slice s.ix s.ni s.ci, .slice s.cl s.nc s.cc] 51
  simp only [World.size_alloc] at X1
  have hB0 : Below w.heap.size w ((w.alloc (.cells #[.int .i64 wide, .int .i64 high, .slice a n c] 24)).alloc (.cells #[.int .i64 s.nd, .int .i64 s.st, .slice s.ix s.ni s.ci, .slice s.cl s.nc s.cc] 51)) := by (repeat' (first | with_reducible assumption | with_reducible exact Below.refl _ _ | with_reducible refine Below.drew ?_ | with_reducible refine below_drewN ?_ _ | with_reducible refine balloc ?_ _ | with_reducible refine bset ?_ ?_ _ | with_reducible refine Below.setCell ?_ ?_ _ | with_reducible refine Below.alloc ?_ ?_ _ | omega | (simp; done) | (simp; omega)))
  cases hE : (E == 0)
  · have hne : (E != 0) = true := by simp [bne, hE]
    rw [Bool.false_and]
    clear hR hE
    go_enter Try.func27, Try.ntmps27
    go_wp2_with fail
    generalize ((w.alloc (.cells #[.int .i64 wide, .int .i64 high, .slice a n c] 24)).alloc (.cells #[.int .i64 s.nd, .int .i64 s.st, .slice s.ix s.ni s.ci, .slice s.cl s.nc s.cc] 51)) = W0 at X0 X1 hB0 ⊢
    have z0 := X0.lt
    have z1 := X1.lt
    refine (hA _ (H.below hB0) (HO.below hB0) (HP.below hB0) (HS.below hB0)).mono ?_
    rintro e w1 ⟨rfl, hb1⟩
    go_wp2
    go_ret2
    exact ⟨rfl, bvia hB0 hb1⟩
  · obtain rfl : E = 0 := by simpa using hE
    have hR' := hR rfl
    clear hR hE
    rw [Bool.true_and]
    go_enter Try.func27, Try.ntmps27
    go_wp2_with fail
    generalize ((w.alloc (.cells #[.int .i64 wide, .int .i64 high, .slice a n c] 24)).alloc (.cells #[.int .i64 s.nd, .int .i64 s.st, .slice s.ix s.ni s.ci, .slice s.cl s.nc s.cc] 51)) = W0 at X0 X1 hB0 ⊢
    have z0 := X0.lt
    have z1 := X1.lt
    refine (hA _ (H.below hB0) (HO.below hB0) (HP.below hB0) (HS.below hB0)).mono ?_
    rintro e w1 ⟨rfl, hb1⟩
    have Y0 := X0.below hb1; have Y1 := X1.below hb1
    have B1 := bvia hB0 hb1
    clear hA hb1 X0 X1 hB0
    have y0 := Y0.at_ 0 rfl; have y1 := Y0.at_ 1 rfl; have y2 := Y0.at_ 2 rfl; have ly := Y0.lt
    have x0 := Y1.at_ 0 rfl; have x1 := Y1.at_ 1 rfl; have x2 := Y1.at_ 2 rfl; have x3 := Y1.at_ 3 rfl; have lx := Y1.lt
    go_wp2_with fail
    refine (hR' _ (HO.below B1) (HP.below B1)).mono ?_
    rintro e w2 ⟨rfl, hb2⟩
    go_wp2
    go_ret2
    exact ⟨rfl, bvia B1 hb2⟩
theorem dueC_num {W H : Nat} {o : Nat → Int} {nd st : Int} {i : Nat} : ∀ {d}, ∀ x ∈ dueC W H o nd st i d, x.st = st ∧ x.to = nd ∧ x.ce = i ∧ 0 ≤ x.di ∧ x.di < d ∧ x.co = 0
  | 0, x, h => by simp [dueC] at h
  | d + 1, x, h => by
    have up : ∀ x ∈ dueC W H o nd st i d, x.st = st ∧ x.to = nd ∧ x.ce = i ∧ 0 ≤ x.di ∧ x.di < (d + 1 : Nat) ∧ x.co = 0 := fun x h => by
      obtain ⟨a1, a2, a3, a4, a5, a6⟩ := dueC_num x h
      exact ⟨a1, a2, a3, a4, by omega, a6⟩
    simp only [dueC] at h
    split at h
    · exact up x h
    · rcases List.mem_append.1 h with h | h
      · exact up x h
      · rw [List.mem_singleton] at h; subst h; exact ⟨rfl, rfl, rfl, by simp, (by show (d : Int) < ((d + 1 : Nat) : Int); omega), rfl⟩
theorem dueL_num {W H : Nat} {o : Nat → Int} {nd st : Int} : ∀ {n}, ∀ x ∈ dueL W H o nd st n, x.st = st ∧ x.to = nd ∧ 0 ≤ x.ce ∧ x.ce < n ∧ 0 ≤ x.di ∧ x.di < 4 ∧ x.co = 0
  | 0, x, h => by simp [dueL] at h
  | n + 1, x, h => by
    have up : ∀ x ∈ dueL W H o nd st n, x.st = st ∧ x.to = nd ∧ 0 ≤ x.ce ∧ x.ce < (n + 1 : Nat) ∧ 0 ≤ x.di ∧ x.di < 4 ∧ x.co = 0 := fun x h => by
      obtain ⟨a1, a2, a3, a4, a5⟩ := dueL_num x h
      exact ⟨a1, a2, a3, by omega, a5⟩
    simp only [dueL] at h
    split at h
    · rcases List.mem_append.1 h with h | h
      · exact up x h
      · obtain ⟨a1, a2, a3, a4, a5, a6⟩ := dueC_num x h
        exact ⟨a1, a2, by omega, by omega, a4, by omega, a6⟩
    · exact up x h
/-- every note due to a site that is right has numbers of 64 bits -/
theorem due_wf {wide high : Int} {n no : Nat} {g : Nat → C4} {o : Nat → Int} {s : SiteR} (hv : validM wide high n g no o = true) (hh : hasB o no s.nd = true) (hb : siteB o no s = true) :
    ∀ x, x ∈ dueL wide.toNat high.toNat o s.nd s.st no → wfN x := by
  intro x hx
  obtain ⟨Wd, Hd, rfl, rfl, p1, p2, u1, u2, hnn, hn4, hoo, hob, _, _⟩ := validM_sides hv
  simp only [Int.toNat_natCast] at hx
  obtain ⟨a1, a2, a3, a4, a5, a6, a7⟩ := dueL_num x hx
  have hf := dueL_fro (P := fun x => 0 ≤ x ∧ x ≤ 7) (fun k hk => hob k (by omega)) (show no ≤ Wd * Hd by omega) x hx
  obtain ⟨k, hk, e⟩ := hasB_iff.1 hh
  have hn7 := hob k (by omega)
  rw [e] at hn7
  obtain ⟨hw, _⟩ := siteB_iff.1 hb
  have hw' : 0 ≤ s.st ∧ s.st ≤ 1000000 := by simpa [within] using hw
  intro j hj
  apply WalkArith.wf_i64
  rcases (by omega : j = 0 ∨ j = 1 ∨ j = 2 ∨ j = 3 ∨ j = 4 ∨ j = 5) with rfl | rfl | rfl | rfl | rfl | rfl <;> simp only [N6.get] <;> omega
set_option maxRecDepth 100000 in
set_option maxHeartbeats 4000000 in
theorem node_Ready (wide high : Int) (a ao ap : Option Addr) (n no q c co cp : Nat) (g : Nat → C4) (o : Nat → Int) (p : Nat → N6) (s : SiteR) (w : World) (hn : n ≤ 100000000) (hno : no ≤ 100000000) (hq : q ≤ 100000000) (hni : s.ni ≤ 100000) (hnc : s.nc ≤ 100000) (H : Sc w a n g) (HO : Sl w ao no o) (HP : Sn w ap q p) (HW : ∀ k, k < q → wfN (p k)) (HS : s.lies w) :
    Calls Try.prog 26 #[.agg #[.int .i64 wide, .int .i64 high, .slice a n c], .slice ao no co, .agg s.cells, .slice ap q cp] w fun e w' => e = .returned (.tuple #[.bool (rdyV (validM wide high n g no o) (postB wide.toNat high.toNat o no q p) (hasB o no s.nd) (siteB o no s) (readyB wide.toNat high.toNat o no q p s.nd s.st)), .int .i64 (askE (validM wide high n g no o) (postB wide.toNat high.toNat o no q p) (hasB o no s.nd) (siteB o no s))]) ∧ Below w.heap.size w w' := by
  have hA := fun W S SO SP SS => node_asked wide high a ao ap n no q c co cp g o p s W hn hno hq hni hnc S SO SP HW SS
  have hCo := fun W SP => node_counts ap q cp p W hq SP HW
  have hR : askE (validM wide high n g no o) (postB wide.toNat high.toNat o no q p) (hasB o no s.nd) (siteB o no s) = 0 → ∀ b W, Sl W ao no o → PcM W b q (fun y => metB p y q) (fun y => cntV p y q) → Calls Try.prog 65 #[.agg #[.int .i64 wide, .int .i64 high, .slice a n c, .slice ao no co], .agg s.cells, .map (some b)] W fun e w' => e = .returned (.bool (readyB wide.toNat high.toNat o no q p s.nd s.st)) ∧ Below W.heap.size W w' := fun h b W SO SP => by
    obtain ⟨hv, _, hh, hb⟩ := askE_zero h
    have hwf := due_wf hv hh hb
    obtain ⟨Wd, Hd, rfl, rfl, p1, p2, u1, u2, hnn, hn4, hoo, hob, _, _⟩ := validM_sides hv
    simp only [Int.toNat_natCast] at hwf ⊢
    exact node_ready Wd Hd a ao n c no co o s.nd s.st s.ix s.cl s.ni s.ci s.nc s.cc b q _ _ W ⟨p1, p2⟩ ⟨u1, u2⟩ (by omega) SO SP hwf
  unfold rdyV
  generalize askE (validM wide high n g no o) (postB wide.toNat high.toNat o no q p) (hasB o no s.nd) (siteB o no s) = E at *
  generalize readyB wide.toNat high.toNat o no q p s.nd s.st = R at *
  unfold SiteR.cells at *
  have X0 := (Bx.new w #[.int .i64 wide, .int .i64 high, .slice a n c] 24).alloc (.cells #[.int .i64 s.nd, .int .i64 s.st, .slice s.ix s.ni s.ci, .slice s.cl s.nc s.cc] 51)
  have X1 := Bx.new (w.alloc (.cells #[.int .i64 wide, .int .i64 high, .slice a n c] 24)) #[.int .i64 s.nd, .int .i64 s.st, .slice s.ix s.ni s.ci, .slice s.cl s.nc s.cc] 51
  simp only [World.size_alloc] at X1
  have hB0 : Below w.heap.size w ((w.alloc (.cells #[.int .i64 wide, .int .i64 high, .slice a n c] 24)).alloc (.cells #[.int .i64 s.nd, .int .i64 s.st, .slice s.ix s.ni s.ci, .slice s.cl s.nc s.cc] 51)) := by (repeat' (first | with_reducible assumption | with_reducible exact Below.refl _ _ | with_reducible refine Below.drew ?_ | with_reducible refine below_drewN ?_ _ | with_reducible refine balloc ?_ _ | with_reducible refine bset ?_ ?_ _ | with_reducible refine Below.setCell ?_ ?_ _ | with_reducible refine Below.alloc ?_ ?_ _ | omega | (simp; done) | (simp; omega)))
  cases hE : (E == 0)
  · have hne : (E != 0) = true := by simp [bne, hE]
    rw [Bool.false_and]
    clear hR hE hCo
    go_enter Try.func26, Try.ntmps26
    go_wp2_with fail
    generalize ((w.alloc (.cells #[.int .i64 wide, .int .i64 high, .slice a n c] 24)).alloc (.cells #[.int .i64 s.nd, .int .i64 s.st, .slice s.ix s.ni s.ci, .slice s.cl s.nc s.cc] 51)) = W0 at X0 X1 hB0 ⊢
    have z0 := X0.lt
    have z1 := X1.lt
    refine (hA _ (H.below hB0) (HO.below hB0) (HP.below hB0) (HS.below hB0)).mono ?_
    rintro e w1 ⟨rfl, hb1⟩
    go_wp2
    go_ret2
    exact ⟨rfl, bvia hB0 hb1⟩
  · obtain rfl : E = 0 := by simpa using hE
    have hR' := hR rfl
    clear hR hE
    rw [Bool.true_and]
    go_enter Try.func26, Try.ntmps26
    go_wp2_with fail
    generalize ((w.alloc (.cells #[.int .i64 wide, .int .i64 high, .slice a n c] 24)).alloc (.cells #[.int .i64 s.nd, .int .i64 s.st, .slice s.ix s.ni s.ci, .slice s.cl s.nc s.cc] 51)) = W0 at X0 X1 hB0 ⊢
    have z0 := X0.lt
    have z1 := X1.lt
    refine (hA _ (H.below hB0) (HO.below hB0) (HP.below hB0) (HS.below hB0)).mono ?_
    rintro e W1 ⟨rfl, hb1⟩
    have Y0 := X0.below hb1; have Y1 := X1.below hb1
    have B1 := bvia hB0 hb1
    clear hA hb1 X0 X1 hB0
    go_wp2_with fail
    have r0 : ∀ Y, Below W1.heap.size W1 Y → Y.cell? ⟨w.heap.size, 0, none⟩ = some (.int .i64 wide) := fun Y h => (Y0.below h).at_ 0 rfl
    have r1 : ∀ Y, Below W1.heap.size W1 Y → Y.cell? ⟨w.heap.size, 1, none⟩ = some (.int .i64 high) := fun Y h => (Y0.below h).at_ 1 rfl
    have r2 : ∀ Y, Below W1.heap.size W1 Y → Y.cell? ⟨w.heap.size, 2, none⟩ = some (.slice a n c) := fun Y h => (Y0.below h).at_ 2 rfl
    have s0 : ∀ Y, Below W1.heap.size W1 Y → Y.cell? ⟨w.heap.size + 1, 0, none⟩ = some (.int .i64 s.nd) := fun Y h => (Y1.below h).at_ 0 rfl
    have s1 : ∀ Y, Below W1.heap.size W1 Y → Y.cell? ⟨w.heap.size + 1, 1, none⟩ = some (.int .i64 s.st) := fun Y h => (Y1.below h).at_ 1 rfl
    have s2 : ∀ Y, Below W1.heap.size W1 Y → Y.cell? ⟨w.heap.size + 1, 2, none⟩ = some (.slice s.ix s.ni s.ci) := fun Y h => (Y1.below h).at_ 2 rfl
    have s3 : ∀ Y, Below W1.heap.size W1 Y → Y.cell? ⟨w.heap.size + 1, 3, none⟩ = some (.slice s.cl s.nc s.cc) := fun Y h => (Y1.below h).at_ 3 rfl
    refine wp_region_S (fun Y => Below W1.heap.size W1 Y) 9 (by kernel_rfl) ?_
    refine anyS_take (i := 0) rfl (by kernel_rfl) (fun _ _ _ h => h) (Or.inl ⟨by rfl, fun Y hYb => (by (try dsimp only at hYb); go_simp; rfl)⟩) (by repeat' (first | with_reducible assumption | with_reducible exact Below.refl _ _ | with_reducible refine Below.drew ?_ | with_reducible refine below_drewN ?_ _)) ?_
    simp only [List.getElem_toArray, List.getElem_cons_succ, List.getElem_cons_zero, Act.put, List.setIfInBounds_toArray, List.set_cons_zero, List.set_cons_succ]
    refine anyS_take (i := 1) rfl (by kernel_rfl) (fun _ _ _ h => h) (Or.inl ⟨by rfl, fun Y hYb => (by (try dsimp only at hYb); go_simp; rfl)⟩) (by repeat' (first | with_reducible assumption | with_reducible exact Below.refl _ _ | with_reducible refine Below.drew ?_ | with_reducible refine below_drewN ?_ _)) ?_
    simp only [List.getElem_toArray, List.getElem_cons_succ, List.getElem_cons_zero, Act.put, List.setIfInBounds_toArray, List.set_cons_zero, List.set_cons_succ]
    refine anyS_take (i := 2) rfl (by kernel_rfl) (fun _ _ _ h => h) (Or.inl ⟨by rfl, fun Y hYb => (by (try dsimp only at hYb); go_simp; rfl)⟩) (by repeat' (first | with_reducible assumption | with_reducible exact Below.refl _ _ | with_reducible refine Below.drew ?_ | with_reducible refine below_drewN ?_ _)) ?_
    simp only [List.getElem_toArray, List.getElem_cons_succ, List.getElem_cons_zero, Act.put, List.setIfInBounds_toArray, List.set_cons_zero, List.set_cons_succ]
    refine anyS_take (i := 3) rfl (by kernel_rfl) (fun _ _ _ h => h) (Or.inl ⟨by rfl, fun Y hYb => (by (try dsimp only at hYb); go_simp; rfl)⟩) (by repeat' (first | with_reducible assumption | with_reducible exact Below.refl _ _ | with_reducible refine Below.drew ?_ | with_reducible refine below_drewN ?_ _)) ?_
    simp only [List.getElem_toArray, List.getElem_cons_succ, List.getElem_cons_zero, Act.put, List.setIfInBounds_toArray, List.set_cons_zero, List.set_cons_succ]
    refine anyS_take (i := 4) rfl (by kernel_rfl) (fun _ _ _ h => h) (Or.inl ⟨by rfl, fun Y hYb => (by (try dsimp only at hYb); go_simp; rfl)⟩) (by repeat' (first | with_reducible assumption | with_reducible exact Below.refl _ _ | with_reducible refine Below.drew ?_ | with_reducible refine below_drewN ?_ _)) ?_
    simp only [List.getElem_toArray, List.getElem_cons_succ, List.getElem_cons_zero, Act.put, List.setIfInBounds_toArray, List.set_cons_zero, List.set_cons_succ]
    refine anyS_one (i := 5) (by kernel_rfl) rfl (by rfl) (fun K hK => ?_)
    go_simp
    refine (hCo _ (HP.below (bvia B1 (by (repeat' (first | with_reducible assumption | with_reducible exact Below.refl _ _ | with_reducible refine Below.drew ?_ | with_reducible refine below_drewN ?_ _ | with_reducible refine balloc ?_ _ | with_reducible refine bset ?_ ?_ _ | with_reducible refine Below.setCell ?_ ?_ _ | with_reducible refine Below.alloc ?_ ?_ _ | omega | (simp; done) | (simp; omega))))))).mono ?_
    rintro e v5 ⟨b, rfl, hM, hb5⟩
    dsimp only
    have hS5 : Below W1.heap.size W1 v5 := bvia (by (repeat' (first | with_reducible assumption | with_reducible exact Below.refl _ _ | with_reducible refine Below.drew ?_ | with_reducible refine below_drewN ?_ _ | with_reducible refine balloc ?_ _ | with_reducible refine bset ?_ ?_ _ | with_reducible refine Below.setCell ?_ ?_ _ | with_reducible refine Below.alloc ?_ ?_ _ | omega | (simp; done) | (simp; omega)))) hb5
    refine hK _ _ (fun _ _ => hS5) ?_
    clear hK K hb5
    refine anyS_one (i := 6) (by kernel_rfl) rfl (by rfl) (fun K hK => ?_)
    go_simp
    refine (hR' b _ (HO.below (bvia B1 hS5)) hM).mono ?_
    rintro e v6 ⟨rfl, hb6⟩
    dsimp only
    have hS6 : Below W1.heap.size W1 v6 := bvia hS5 hb6
    refine hK _ _ (fun _ _ => hS6) ?_
    clear hK K hb6
    refine anyS_take (i := 7) rfl (by kernel_rfl) (fun _ _ _ h => h) (Or.inl ⟨by rfl, fun Y hYb => (by (try dsimp only at hYb); go_simp; rfl)⟩) (by repeat' (first | with_reducible assumption | with_reducible exact Below.refl _ _ | with_reducible refine Below.drew ?_ | with_reducible refine below_drewN ?_ _)) ?_
    simp only [List.getElem_toArray, List.getElem_cons_succ, List.getElem_cons_zero, Act.put, List.setIfInBounds_toArray, List.set_cons_zero, List.set_cons_succ]
    refine anyS_take (i := 8) rfl (by kernel_rfl) (fun _ _ _ h => h) (Or.inl ⟨by rfl, fun Y hYb => (by (try dsimp only at hYb); go_simp; rfl)⟩) (by repeat' (first | with_reducible assumption | with_reducible exact Below.refl _ _ | with_reducible refine Below.drew ?_ | with_reducible refine below_drewN ?_ _)) ?_
    simp only [List.getElem_toArray, List.getElem_cons_succ, List.getElem_cons_zero, Act.put, List.setIfInBounds_toArray, List.set_cons_zero, List.set_cons_succ]
    refine anyS_done (by kernel_rfl) ?_ _
    go_wp2
    go_ret2
    exact ⟨rfl, bvia B1 hS6⟩
end Go.Proofs.Ytcakccfhcgjofaa
