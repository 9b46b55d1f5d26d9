/- Walks: what is asked of a node's arguments, of the program and of the reference. Walks: Ready, of the program and of the reference. -/
import Derived.Test.YtmmjaobpoiofdaaGreatNRefPost
import Derived.Test.YtmmjaobpoiofdaaGreatNRefSite
import Derived.Test.YtmmjaobpoiofdaaGreatNDueF
import Derived.Test.YtmmjaobpoiofdaaGreatNReadyC
import Derived.Test.YtmmjaobpoiofdaaGreatNMergeP
import Derived.Test.YtmmjaobpoiofdaaGreatNRefNeigh
namespace Go.Proofs.YtmmjaobpoiofdaaGreat
open Go Go.RowKit
set_option linter.unusedVariables false
set_option linter.unusedSimpArgs false
/-- the error: is the map valid, is the post, has the node a cell, is the site right? -/
def askE (v q h b : Bool) : Int := if v && q then (if h then (if b then 0 else 1) else 5) else 1
theorem askE_zero {v q h b : Bool} (e : askE v q h b = 0) : v = true ∧ q = true ∧ h = true ∧ b = true := by
  cases v <;> cases q <;> cases h <;> cases b <;> simp [askE] at e ⊢
theorem site_some {o : Nat → Int} {no : Nat} {s : SiteR} (h : hasB o no s.nd = true) : (siteB o no s && !((s.ni : Int) == 0)) = siteB o no s := by
  cases hb : siteB o no s
  · rfl
  · obtain ⟨_, h2, _⟩ := siteB_iff.1 hb
    have h3 := (sameL_iff.1 h2).1
    have h4 := hasB_len (o := o) (n := no) (nd := s.nd)
    rw [h] at h4
    rw [h3, h4]; rfl
set_option maxRecDepth 100000 in
set_option maxHeartbeats 4000000 in
theorem node_asked (wide high : Int) (a ao ap : Option Addr) (n no q c co cp : Nat) (g : Nat → C4) (o : Nat → Int) (p : Nat → N6) (s : SiteR) (w : World) (hn : n ≤ 100000000) (hno : no ≤ 100000000) (hq : q ≤ 100000000) (hni : s.ni ≤ 100000) (hnc : s.nc ≤ 100000) (H : Sc w a n g) (HO : Sl w ao no o) (HP : Sn w ap q p) (HW : ∀ k, k < q → wfN (p k)) (HS : s.lies w) :
    Calls Tryz.prog 26 #[.agg #[.int .i64 wide, .int .i64 high, .slice a n c], .slice ao no co, .agg s.cells, .slice ap q cp, .bool true] w fun e w' => e = .returned (.int .i64 (askE (validM wide high n g no o) (postB wide.toNat high.toNat o no q p) (hasB o no s.nd) (siteB o no s))) ∧ Below w.heap.size w w' := by
  have hV := fun W S SO => node_ValidMap wide high a ao n no c co g o W hn hno S SO
  have hQ := fun W S SO SP => node_ValidPost wide high a ao ap n no q c co cp g o p W hn hno hq S SO SP HW
  have hC := fun W h SO => ints_Contains ao no co o s.nd W h hno SO
  have hT := fun W h SO SS => node_site wide high a ao n c no co o s W h (by omega) (by omega) SO SS
  have hside : validM wide high n g no o = true → 0 < no ∧ no ≤ 100000 := fun hv => by
    obtain ⟨Wd, Hd, rfl, rfl, p1, p2, u1, u2, hnn, hn4, hoo, hob, _, _⟩ := validM_sides hv
    have : 1 * 1 ≤ Wd * Hd := Nat.mul_le_mul p1 u1
    omega
  generalize validM wide high n g no o = V at *
  generalize postB wide.toNat high.toNat o no q p = P at *
  generalize hasB o no s.nd = Hh at *
  generalize siteB o no s = B at *
  unfold SiteR.cells at *
  unfold cluV at hT
  have X0 := (Bx.new w #[.int .i64 wide, .int .i64 high, .slice a n c] 24).alloc (.cells #[.int .i64 s.nd, .int .i64 s.st, .slice s.ix s.ni s.ci, .slice s.cl s.nc s.cc] 30)
  have X1 := Bx.new (w.alloc (.cells #[.int .i64 wide, .int .i64 high, .slice a n c] 24)) #[.int .i64 s.nd, .int .i64 s.st, .slice s.ix s.ni s.ci, .slice s.cl s.nc s.cc] 30
  simp only [World.size_alloc] at X1
  have hB0 : Below w.heap.size w ((w.alloc (.cells #[.int .i64 wide, .int .i64 high, .slice a n c] 24)).alloc (.cells #[.int .i64 s.nd, .int .i64 s.st, .slice s.ix s.ni s.ci, .slice s.cl s.nc s.cc] 30)) := by (repeat' (first | with_reducible assumption | with_reducible exact Below.refl _ _ | with_reducible refine Below.drew ?_ | with_reducible refine below_drewN ?_ _ | with_reducible refine balloc ?_ _ | with_reducible refine bset ?_ ?_ _ | with_reducible refine Below.setCell ?_ ?_ _ | with_reducible refine Below.alloc ?_ ?_ _ | omega | (simp; done) | (simp; omega)))
  cases V
  · go_enter Tryz.func26, Tryz.ntmps26
    go_wp2_with fail
    generalize ((w.alloc (.cells #[.int .i64 wide, .int .i64 high, .slice a n c] 24)).alloc (.cells #[.int .i64 s.nd, .int .i64 s.st, .slice s.ix s.ni s.ci, .slice s.cl s.nc s.cc] 30)) = W0 at X0 X1 hB0 ⊢
    have z0 := X0.lt
    have z1 := X1.lt
    refine (hV _ (H.below hB0) (HO.below hB0)).mono ?_
    rintro e w1 ⟨rfl, hb1⟩
    go_wp2
    go_ret
    exact ⟨rfl, bvia hB0 hb1⟩
  obtain ⟨n0, n1⟩ := hside rfl
  clear hside
  go_enter Tryz.func26, Tryz.ntmps26
  go_wp2_with fail
  generalize ((w.alloc (.cells #[.int .i64 wide, .int .i64 high, .slice a n c] 24)).alloc (.cells #[.int .i64 s.nd, .int .i64 s.st, .slice s.ix s.ni s.ci, .slice s.cl s.nc s.cc] 30)) = W0 at X0 X1 hB0 ⊢
  have z0 := X0.lt
  have z1 := X1.lt
  refine (hV _ (H.below hB0) (HO.below hB0)).mono ?_
  rintro e w1 ⟨rfl, hb1⟩
  have Y0 := X0.below hb1; have Y1 := X1.below hb1
  have B1 := bvia hB0 hb1
  clear hV hb1 X0 X1 hB0
  have y0 := Y0.at_ 0 rfl; have y1 := Y0.at_ 1 rfl; have y2 := Y0.at_ 2 rfl; have ly := Y0.lt
  go_wp2_with fail
  refine (hQ _ (H.below B1) (HO.below B1) (HP.below B1)).mono ?_
  rintro e w2 ⟨rfl, hb2⟩
  have B2 := bvia B1 hb2
  have Z0 := Y0.below hb2; have Z1 := Y1.below hb2
  clear hQ hb2 Y0 Y1 y0 y1 y2 ly B1
  have z0 := Z0.at_ 0 rfl; have z1 := Z0.at_ 1 rfl; have z2 := Z0.at_ 2 rfl; have lz := Z0.lt
  have x0 := Z1.at_ 0 rfl; have x1 := Z1.at_ 1 rfl; have x2 := Z1.at_ 2 rfl; have x3 := Z1.at_ 3 rfl; have lx := Z1.lt
  cases P
  · go_wp2
    go_ret
    exact ⟨rfl, B2⟩
  go_wp2_with fail
  refine (hC _ n0 (HO.below B2)).mono ?_
  rintro e w3 ⟨rfl, rfl⟩
  cases Hh
  · go_wp2
    go_ret
    exact ⟨rfl, B2⟩
  go_wp2_with fail
  refine (hT _ n1 (HO.below B2) (HS.below B2)).mono ?_
  rintro e w4 ⟨rfl, hb4⟩
  cases B
  all_goals
    go_wp2
    go_ret
    exact ⟨rfl, bvia B2 hb4⟩
set_option maxRecDepth 100000 in
set_option maxHeartbeats 4000000 in
theorem ref5_siteError (wide high : Int) (a ao ap : Option Addr) (n no q c co cp : Nat) (g : Nat → C4) (o : Nat → Int) (p : Nat → N6) (s : SiteR) (w : World) (hn : n ≤ 100000000) (hno : no ≤ 100000000) (hq : q ≤ 100000000) (hni : s.ni ≤ 100000) (hnc : s.nc ≤ 100000) (H : Sc w a n g) (HO : Sl w ao no o) (HP : Sn w ap q p) (HW : ∀ k, k < q → wfN (p k)) (HS : s.lies w) :
    Calls Tryz.prog 33 #[.agg #[.int .i64 wide, .int .i64 high, .slice a n c], .slice ao no co, .agg s.cells, .slice ap q cp] w fun e w' => e = .returned (.int .i64 (askE (validM wide high n g no o) (postB wide.toNat high.toNat o no q p) (hasB o no s.nd) (siteB o no s))) ∧ Below w.heap.size w w' := by
  have hQ := fun W S SO SP => ref5_ValidPost wide high a ao ap n no q c co cp g o p W hn hno hq S SO SP HW
  have hC := fun W SO => ref5_own ao no co o s.nd W hno SO
  have hT := fun W h SO SS => ref5_siteRight ao no co o s W h (by omega) (by omega) SO SS
  have hlen := hasB_len (o := o) (n := no) (nd := s.nd)
  have hol := ownL_length o s.nd no
  have hsome := site_some (o := o) (no := no) (s := s)
  have hside : validM wide high n g no o = true → 0 < no ∧ no ≤ 100000 := fun hv => by
    obtain ⟨Wd, Hd, rfl, rfl, p1, p2, u1, u2, hnn, hn4, hoo, hob, _, _⟩ := validM_sides hv
    have : 1 * 1 ≤ Wd * Hd := Nat.mul_le_mul p1 u1
    omega
  generalize validM wide high n g no o = V at *
  generalize postB wide.toNat high.toNat o no q p = P at *
  generalize hasB o no s.nd = Hh at *
  generalize siteB o no s = B at *
  unfold SiteR.cells at *
  have X0 := (Bx.new w #[.int .i64 wide, .int .i64 high, .slice a n c] 24).alloc (.cells #[.int .i64 s.nd, .int .i64 s.st, .slice s.ix s.ni s.ci, .slice s.cl s.nc s.cc] 30)
  have X1 := Bx.new (w.alloc (.cells #[.int .i64 wide, .int .i64 high, .slice a n c] 24)) #[.int .i64 s.nd, .int .i64 s.st, .slice s.ix s.ni s.ci, .slice s.cl s.nc s.cc] 30
  simp only [World.size_alloc] at X1
  have hB0 : Below w.heap.size w ((w.alloc (.cells #[.int .i64 wide, .int .i64 high, .slice a n c] 24)).alloc (.cells #[.int .i64 s.nd, .int .i64 s.st, .slice s.ix s.ni s.ci, .slice s.cl s.nc s.cc] 30)) := by (repeat' (first | with_reducible assumption | with_reducible exact Below.refl _ _ | with_reducible refine Below.drew ?_ | with_reducible refine below_drewN ?_ _ | with_reducible refine balloc ?_ _ | with_reducible refine bset ?_ ?_ _ | with_reducible refine Below.setCell ?_ ?_ _ | with_reducible refine Below.alloc ?_ ?_ _ | omega | (simp; done) | (simp; omega)))
  cases hVP : (V && P)
  · rw [hVP] at hQ
    have hA : ∀ x y, askE V P x y = 1 := fun x y => by unfold askE; rw [hVP]; rfl
    rw [hA]
    go_enter Tryz.func33, Tryz.ntmps33
    go_wp2_with fail
    generalize ((w.alloc (.cells #[.int .i64 wide, .int .i64 high, .slice a n c] 24)).alloc (.cells #[.int .i64 s.nd, .int .i64 s.st, .slice s.ix s.ni s.ci, .slice s.cl s.nc s.cc] 30)) = W0 at X0 X1 hB0 ⊢
    have z0 := X0.lt
    have z1 := X1.lt
    refine (hQ _ (H.below hB0) (HO.below hB0) (HP.below hB0)).mono ?_
    rintro e w1 ⟨rfl, hb1⟩
    go_wp2
    go_ret
    exact ⟨rfl, bvia hB0 hb1⟩
  obtain ⟨rfl, rfl⟩ : V = true ∧ P = true := by simpa using hVP
  obtain ⟨n0, n1⟩ := hside rfl
  clear hside hVP
  go_enter Tryz.func33, Tryz.ntmps33
  go_wp2_with fail
  generalize ((w.alloc (.cells #[.int .i64 wide, .int .i64 high, .slice a n c] 24)).alloc (.cells #[.int .i64 s.nd, .int .i64 s.st, .slice s.ix s.ni s.ci, .slice s.cl s.nc s.cc] 30)) = W0 at X0 X1 hB0 ⊢
  have z0 := X0.lt
  have z1 := X1.lt
  refine (hQ _ (H.below hB0) (HO.below hB0) (HP.below hB0)).mono ?_
  rintro e w1 ⟨rfl, hb1⟩
  have B1 := bvia hB0 hb1
  have Y1 := X1.below hb1
  clear hQ hb1 X0 X1 hB0
  have y0 := Y1.at_ 0 rfl; have ly := Y1.lt
  go_wp2_with fail
  refine (hC _ (HO.below B1)).mono ?_
  rintro e w2 ⟨v, rfl, hown, hb2⟩
  obtain ⟨av, cv, rfl, _⟩ := sl_of_own hown
  have B2 := bvia B1 hb2
  have Z1 := Y1.below hb2
  clear hown hC hb2 Y1 y0 ly B1
  have x0 := Z1.at_ 0 rfl; have x1 := Z1.at_ 1 rfl; have x2 := Z1.at_ 2 rfl; have x3 := Z1.at_ 3 rfl; have lx := Z1.lt
  generalize (ownL o s.nd no).length = ln at *
  cases Hh
  · go_wp2
    go_ret
    exact ⟨rfl, B2⟩
  rw [hsome rfl] at hT
  clear hsome
  go_wp2_with fail
  refine (hT _ n1 (HO.below B2) (HS.below B2)).mono ?_
  rintro e w4 ⟨rfl, hb4⟩
  cases B
  all_goals
    go_wp2
    go_ret
    exact ⟨rfl, bvia B2 hb4⟩
end Go.Proofs.YtmmjaobpoiofdaaGreat
namespace Go.Proofs.YtmmjaobpoiofdaaGreat
open Go Go.RowKit
set_option linter.unusedVariables false
set_option linter.unusedSimpArgs false
/-- what Ready answers, with its error -/
def rdyV (v q h b r : Bool) : Bool := askE v q h b == 0 && r
end Go.Proofs.YtmmjaobpoiofdaaGreat
