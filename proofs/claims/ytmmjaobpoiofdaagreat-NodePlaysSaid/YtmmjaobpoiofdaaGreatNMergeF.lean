/- Walk: Valid, of the reference. Walk: merge, of the program: the grid of sites and the notes of a post. Walks: slices.ContainsFunc of sites and of notes; whole, of the program; stateError, of the reference. Walk: Merge, of the program. -/
import Derived.Test.YtmmjaobpoiofdaaGreatNValidS
import Derived.Test.YtmmjaobpoiofdaaGreatNDueF
import Derived.Test.YtmmjaobpoiofdaaGreatNMergeP
import Derived.Test.YtmmjaobpoiofdaaGreatNFrom
import Derived.Test.YtmmjaobpoiofdaaGreatSeq
import Derived.Test.YtmmjaobpoiofdaaGreatNCounts
import Derived.Test.YtmmjaobpoiofdaaGreatNReadyC
import Derived.Test.YtmmjaobpoiofdaaGreatNRefNeigh
import Derived.Test.YtmmjaobpoiofdaaGreatGridP
namespace Go.Proofs.YtmmjaobpoiofdaaGreat
open Go Go.RowKit
set_option linter.unusedVariables false
set_option linter.unusedSimpArgs false
/-- grid, map, sites and post are valid -/
def wholeB (wide high : Int) (n : Nat) (g : Nat → C4) (no : Nat) (o : Nat → Int) (m : Nat) (f : Nat → SiteR) (q : Nat) (p : Nat → N6) : Bool := validM wide high n g no o && sitesB o no m f && postB wide.toNat high.toNat o no q p
theorem wholeB_iff {wide high : Int} {n : Nat} {g : Nat → C4} {no : Nat} {o : Nat → Int} {m : Nat} {f : Nat → SiteR} {q : Nat} {p : Nat → N6} : wholeB wide high n g no o m f q p = true ↔ validM wide high n g no o = true ∧ sitesB o no m f = true ∧ postB wide.toNat high.toNat o no q p = true := by
  simp [wholeB, and_assoc]
set_option maxRecDepth 100000 in
set_option maxHeartbeats 2000000 in
theorem node_whole (wide high : Int) (a ao al ap : Option Addr) (n no m q c co cl cp : Nat) (g : Nat → C4) (o : Nat → Int) (f : Nat → SiteR) (p : Nat → N6) (w : World) (hn : n ≤ 100000000) (hno : no ≤ 100000000) (hm : m ≤ 1000) (hq : q ≤ 100000000) (hb : ∀ k, k < m → (f k).ni ≤ 10000 ∧ (f k).nc ≤ 10000) (H : Sc w a n g) (HO : Sl w ao no o) (HS : Ss w al m f) (HP : Sn w ap q p) (HW : ∀ k, k < q → wfN (p k)) :
    Calls Tryz.prog 49 #[.agg #[.int .i64 wide, .int .i64 high, .slice a n c], .slice ao no co, .slice al m cl, .slice ap q cp] w fun e w' => e = .returned (.bool (wholeB wide high n g no o m f q p)) ∧ Below w.heap.size w w' := by
  have hV := fun W S SO SS => node_Valid wide high a ao al n no m c co cl g o f W hn hno hm hb S SO SS
  have hP := fun W S SO SP => node_ValidPost wide high a ao ap n no q c co cp g o p W hn hno hq S SO SP HW
  have hw : wholeB wide high n g no o m f q p = (validM wide high n g no o && sitesB o no m f && (validM wide high n g no o && postB wide.toNat high.toNat o no q p)) := by
    unfold wholeB; cases validM wide high n g no o <;> cases sitesB o no m f <;> rfl
  rw [hw]
  clear hw hb
  generalize (validM wide high n g no o && sitesB o no m f) = V at *
  generalize (validM wide high n g no o && postB wide.toNat high.toNat o no q p) = U at *
  have X0 := Bx.new w #[.int .i64 wide, .int .i64 high, .slice a n c] 24
  have hB0 : Below w.heap.size w (w.alloc (.cells #[.int .i64 wide, .int .i64 high, .slice a n c] 24)) := by (repeat' (first | with_reducible assumption | with_reducible exact Below.refl _ _ | with_reducible refine Below.drew ?_ | with_reducible refine below_drewN ?_ _ | with_reducible refine balloc ?_ _ | with_reducible refine bset ?_ ?_ _ | with_reducible refine Below.setCell ?_ ?_ _ | with_reducible refine Below.alloc ?_ ?_ _ | omega | (simp; done) | (simp; omega)))
  cases V
  · go_enter Tryz.func49, Tryz.ntmps49
    go_wp2_with fail
    generalize (w.alloc (.cells #[.int .i64 wide, .int .i64 high, .slice a n c] 24)) = W0 at X0 hB0 ⊢
    have z0 := X0.lt
    refine (hV _ (H.below hB0) (HO.below hB0) (HS.below hB0)).mono ?_
    rintro e w1 ⟨rfl, hb1⟩
    go_wp2
    go_ret
    exact ⟨rfl, bvia hB0 hb1⟩
  · go_enter Tryz.func49, Tryz.ntmps49
    go_wp2_with fail
    generalize (w.alloc (.cells #[.int .i64 wide, .int .i64 high, .slice a n c] 24)) = W0 at X0 hB0 ⊢
    have z0 := X0.lt
    refine (hV _ (H.below hB0) (HO.below hB0) (HS.below hB0)).mono ?_
    rintro e w1 ⟨rfl, hb1⟩
    have Y0 := X0.below hb1
    have B1 := bvia hB0 hb1
    clear hV hb1 X0 hB0
    have y0 := Y0.at_ 0 rfl; have y1 := Y0.at_ 1 rfl; have y2 := Y0.at_ 2 rfl; have ly := Y0.lt
    go_wp2_with fail
    refine (hP _ (H.below B1) (HO.below B1) (HP.below B1)).mono ?_
    rintro e w2 ⟨rfl, hb2⟩
    go_wp2
    go_ret
    exact ⟨rfl, bvia B1 hb2⟩
end Go.Proofs.YtmmjaobpoiofdaaGreat
namespace Go.Proofs.YtmmjaobpoiofdaaGreat
open Go Go.RowKit
set_option linter.unusedVariables false
set_option linter.unusedSimpArgs false
theorem sites_has {o : Nat → Int} {no m : Nat} {f : Nat → SiteR} (hs : sitesB o no m f = true) {k : Nat} (hk : k < m) : hasB o no (f k).nd = true := by
  obtain ⟨h1, h2, _⟩ := sitesB_iff.1 hs
  have hm : (f k).nd ∈ nodeL o no 8 := by
    rw [h2 k hk, List.getD_eq_getElem?_getD, List.getElem?_eq_getElem (by omega)]; exact List.getElem_mem _
  obtain ⟨j, _, e, hne⟩ := nodeL_mem.1 hm
  rw [Ne, ownL_nil] at hne
  rw [hasB_iff]
  refine Classical.byContradiction fun hc => hne fun i hi e2 => hc ⟨i, hi, by rw [e2, e]⟩
end Go.Proofs.YtmmjaobpoiofdaaGreat
