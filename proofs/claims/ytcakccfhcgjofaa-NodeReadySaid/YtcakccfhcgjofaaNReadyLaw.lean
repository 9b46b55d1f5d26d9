/- The walk of the law NodeReady. -/
import Derived.Test.YtcakccfhcgjofaaNReadyP
import Derived.Test.YtcakccfhcgjofaaNSmall
import Derived.Test.YtcakccfhcgjofaaNLight
import Derived.Test.YtcakccfhcgjofaaNAwake
namespace Go.Proofs.Ytcakccfhcgjofaa
open Go Go.RowKit
set_option linter.unusedVariables false
set_option linter.unusedSimpArgs false
set_option maxRecDepth 100000 in
set_option maxHeartbeats 4000000 in
theorem walk_ready (wide high : Int) (a ao ap : Option Addr) (n no q c co cp : Nat) (g : Nat → C4) (o : Nat → Int) (s : SiteR) (p : Nat → N6) (w : World) (hn : n ≤ maxLen) (hno : no ≤ maxLen) (hq : q ≤ maxLen) (hni : s.ni ≤ maxLen) (hnc : s.nc ≤ maxLen) (H : Sc w a n g) (HO : Sl w ao no o) (HS : s.lies w) (HP : Sn w ap q p) (HW : ∀ k, k < q → wfN (p k)) :
    Calls Try.prog 6 #[.agg #[.int .i64 wide, .int .i64 high, .slice a n c, .slice ao no co], .agg s.cells, .slice ap q cp] w fun e w' => e = .returned (.bool true) ∧ Below w.heap.size w w' := by
  have hsm := fun W => law5_Small wide high 300 a ao n no c co W
  have hlt := fun al cl W S => law5_Light al ap 1 q cl cp (fun _ => s) W (by simp [maxLen]) hq (fun k hk => ⟨hni, hnc⟩) S
  unfold maxLen at hn hno hq hni hnc
  have hliB := fun W hb => HS.below (w' := W) hb
  unfold SiteR.cells
  have X0 := (Bx.new w #[.int .i64 wide, .int .i64 high, .slice a n c, .slice ao no co] 33).alloc (.cells #[.int .i64 s.nd, .int .i64 s.st, .slice s.ix s.ni s.ci, .slice s.cl s.nc s.cc] 51)
  have X1 := Bx.new (w.alloc (.cells #[.int .i64 wide, .int .i64 high, .slice a n c, .slice ao no co] 33)) #[.int .i64 s.nd, .int .i64 s.st, .slice s.ix s.ni s.ci, .slice s.cl s.nc s.cc] 51
  simp only [World.size_alloc] at X1
  have hB0 : Below w.heap.size w ((w.alloc (.cells #[.int .i64 wide, .int .i64 high, .slice a n c, .slice ao no co] 33)).alloc (.cells #[.int .i64 s.nd, .int .i64 s.st, .slice s.ix s.ni s.ci, .slice s.cl s.nc s.cc] 51)) := by (repeat' (first | with_reducible assumption | with_reducible exact Below.refl _ _ | with_reducible refine Below.drew ?_ | with_reducible refine below_drewN ?_ _ | with_reducible refine balloc ?_ _ | with_reducible refine bset ?_ ?_ _ | with_reducible refine Below.setCell ?_ ?_ _ | with_reducible refine Below.alloc ?_ ?_ _ | omega | (simp; done) | (simp; omega)))
  cases hs : smallL n no 300
  · rw [hs] at hsm
    clear hlt
    go_enter Try.func6, Try.ntmps6
    go_wp2_with fail
    generalize ((w.alloc (.cells #[.int .i64 wide, .int .i64 high, .slice a n c, .slice ao no co] 33)).alloc (.cells #[.int .i64 s.nd, .int .i64 s.st, .slice s.ix s.ni s.ci, .slice s.cl s.nc s.cc] 51)) = W0 at X0 X1 hB0 ⊢
    have z0 := X0.lt
    have z1 := X1.lt
    refine (hsm _).mono ?_
    rintro e w1 ⟨rfl, hb1⟩
    go_wp2_with fail
    refine (awake_node _).mono ?_
    rintro e w2 ⟨rfl, hb2⟩
    go_wp2
    go_ret
    exact ⟨rfl, bvia (bvia hB0 hb1) hb2⟩
  obtain ⟨t1, t2⟩ := smallL_iff.1 hs
  rw [hs] at hsm
  clear hs
  go_enter Try.func6, Try.ntmps6
  go_wp2_with fail
  generalize ((w.alloc (.cells #[.int .i64 wide, .int .i64 high, .slice a n c, .slice ao no co] 33)).alloc (.cells #[.int .i64 s.nd, .int .i64 s.st, .slice s.ix s.ni s.ci, .slice s.cl s.nc s.cc] 51)) = W0 at X0 X1 hB0 ⊢
  have z0 := X0.lt
  have z1 := X1.lt
  refine (hsm _).mono ?_
  rintro e w1 ⟨rfl, hb1⟩
  have X01 := X0.below hb1; have X11 := X1.below hb1
  have B1 := bvia hB0 hb1
  clear hsm hb1 X0 X1 hB0
  have y0 := X11.at_ 0 rfl; have y1 := X11.at_ 1 rfl; have y2 := X11.at_ 2 rfl; have y3 := X11.at_ 3 rfl; have ly := X11.lt
  have X02 := X01.alloc (.cells #[.int .i64 s.nd, .int .i64 s.st, .slice s.ix s.ni s.ci, .slice s.cl s.nc s.cc] 51)
  have X12 := X11.alloc (.cells #[.int .i64 s.nd, .int .i64 s.st, .slice s.ix s.ni s.ci, .slice s.cl s.nc s.cc] 51)
  have B2 := balloc B1 (.cells #[.int .i64 s.nd, .int .i64 s.st, .slice s.ix s.ni s.ci, .slice s.cl s.nc s.cc] 51)
  have XS := Bx.new w1 #[.int .i64 s.nd, .int .i64 s.st, .slice s.ix s.ni s.ci, .slice s.cl s.nc s.cc] 51
  have S2 : Ss (w1.alloc (.cells #[.int .i64 s.nd, .int .i64 s.st, .slice s.ix s.ni s.ci, .slice s.cl s.nc s.cc] 51)) (some ⟨w1.heap.size, 0, none⟩) 1 (fun _ => s) := fun k hk => by
    obtain rfl : k = 0 := by omega
    exact ⟨w1.heap.size, 0, rfl, XS.lt, XS.at_ 0 rfl, XS.at_ 1 rfl, XS.at_ 2 rfl, XS.at_ 3 rfl, hliB _ B2⟩
  go_wp2_with fail
  refine (hlt _ _ _ S2).mono ?_
  rintro e W3 ⟨⟨b, rfl, hb⟩, hb3⟩
  cases b
  · go_wp2_with fail
    refine (awake_node _).mono ?_
    rintro e w4 ⟨rfl, hb4⟩
    go_wp2
    go_ret
    exact ⟨rfl, bvia (bvia B2 hb3) hb4⟩
  have X03 := X02.below hb3; have X13 := X12.below hb3
  have B3 := bvia B2 hb3
  clear hlt hb3 X01 X11 X02 X12 XS S2 B1 B2 y0 y1 y2 y3 ly
  obtain ⟨_, m2, m3⟩ := hb rfl
  obtain ⟨m4, m5⟩ := m3 0 (by omega)
  dsimp only at m4 m5
  clear hb m3
  have hP := fun W S SO SP SS => node_Ready wide high a ao ap n no q c co cp g o p s W (by omega) (by omega) (by omega) (by omega) (by omega) S SO SP HW SS
  have hR := fun W S SO SP SS => ref5_Ready wide high a ao ap n no q c co cp g o p s W (by omega) (by omega) (by omega) (by omega) (by omega) S SO SP HW SS
  have hD := fun W S SO => node_Due wide high s.nd s.st a ao n no c co g o W (by omega) (by omega) S SO
  unfold SiteR.cells at hP hR
  obtain ⟨T, hT⟩ : ∃ T, rdyV (validM wide high n g no o) (postB wide.toNat high.toNat o no q p) (hasB o no s.nd) (siteB o no s) (readyB wide.toNat high.toNat o no q p s.nd s.st) = T := ⟨_, rfl⟩
  obtain ⟨E, hE⟩ : ∃ E, askE (validM wide high n g no o) (postB wide.toNat high.toNat o no q p) (hasB o no s.nd) (siteB o no s) = E := ⟨_, rfl⟩
  rw [hT, hE] at hP hR
  have HT := hid hT; have HE := hid hE
  clear hT hE
  have y0 := X03.at_ 0 rfl; have y1 := X03.at_ 1 rfl; have y2 := X03.at_ 2 rfl; have y3 := X03.at_ 3 rfl; have ly := X03.lt
  have x0 := X13.at_ 0 rfl; have x1 := X13.at_ 1 rfl; have x2 := X13.at_ 2 rfl; have x3 := X13.at_ 3 rfl; have lx := X13.lt
  go_wp2_with fail
  refine (hP _ (H.below B3) (HO.below B3) (HP.below B3) (HS.below B3)).mono ?_
  rintro e w4 ⟨rfl, hb4⟩
  have X04 := X03.below hb4; have X14 := X13.below hb4
  have B4 := bvia B3 hb4
  clear hP hb4 X03 X13 B3 y0 y1 y2 y3 ly x0 x1 x2 x3 lx
  have y0 := X04.at_ 0 rfl; have y1 := X04.at_ 1 rfl; have y2 := X04.at_ 2 rfl; have y3 := X04.at_ 3 rfl; have ly := X04.lt
  have x0 := X14.at_ 0 rfl; have x1 := X14.at_ 1 rfl; have x2 := X14.at_ 2 rfl; have x3 := X14.at_ 3 rfl; have lx := X14.lt
  go_wp2_with fail
  refine (hR _ (H.below B4) (HO.below B4) (HP.below B4) (HS.below B4)).mono ?_
  rintro e w5 ⟨rfl, hb5⟩
  have X05 := X04.below hb5; have X15 := X14.below hb5
  have B5 := bvia B4 hb5
  clear hR hb5 X04 X14 B4 y0 y1 y2 y3 ly x0 x1 x2 x3 lx
  have y0 := X05.at_ 0 rfl; have y1 := X05.at_ 1 rfl; have y2 := X05.at_ 2 rfl; have y3 := X05.at_ 3 rfl; have ly := X05.lt
  have x0 := X15.at_ 0 rfl; have x1 := X15.at_ 1 rfl; have x2 := X15.at_ 2 rfl; have x3 := X15.at_ 3 rfl; have lx := X15.lt
  cases h0 : (E != 0)
  rotate_left
  · cases T
    all_goals
      go_wp2_with fail
      refine (awake_node _).mono ?_
      rintro e w6 ⟨rfl, hb6⟩
      go_wp2
      go_ret
      exact ⟨rfl, bvia B5 hb6⟩
  have hE0 : E = 0 := by simpa using h0
  obtain rfl := hE0
  clear h0
  cases h1 : (s.st == 0)
  rotate_left
  · have hT1 : T = true := by
      rw [← HT.out, rdyV, HE.out, readyB, h1]; rfl
    subst hT1
    go_wp2_with fail
    refine (awake_node _).mono ?_
    rintro e w6 ⟨rfl, hb6⟩
    go_wp2
    go_ret
    exact ⟨rfl, bvia B5 hb6⟩
  obtain ⟨hv, hqq, hh, hbb⟩ := askE_zero HE.out
  have hw1 : within s.st 1 1000000 = true := by
    obtain ⟨hw, _⟩ := siteB_iff.1 hbb
    have hne : ¬ s.st = 0 := by simpa using h1
    simp [within] at hw ⊢
    omega
  have hd0 : dueE (validM wide high n g no o) (hasB o no s.nd) (within s.st 1 1000000) = 0 := by rw [hv, hh, hw1]; rfl
  have hdX : dueX wide high no o s.nd s.st 0 = dueL wide.toNat high.toNat o s.nd s.st no := by simp [dueX]
  simp only [hd0, hdX] at hD
  have hmh := fun x hx => met_has (x := x) (nd := s.nd) (st := s.st) (n := no) hqq hx
  have hTT : T = (dueL wide.toNat high.toNat o s.nd s.st no).all (fun x => hasN p x q) := by
    rw [← HT.out, rdyV, HE.out, readyB, h1, Bool.false_or]
    show (true && _) = _
    rw [Bool.true_and, Bool.eq_iff_iff, List.all_eq_true, List.all_eq_true]
    exact ⟨fun h x hx => by rw [← hmh x hx]; exact h x hx, fun h x hx => by rw [hmh x hx]; exact h x hx⟩
  have hlen : (dueL wide.toNat high.toNat o s.nd s.st no).length ≤ 4 * no := dueL_length _ _ _ _ _ _
  generalize dueL wide.toNat high.toNat o s.nd s.st no = L at *
  have HTT := hid hTT
  clear hTT hmh hd0 hdX hv hqq hh hbb hw1
  go_wp2_with fail
  refine (hD _ (H.below B5) (HO.below B5)).mono ?_
  rintro e w6 ⟨a6, c6, rfl, S6, hb6⟩
  have B6 := bvia B5 hb6
  clear hD hb6 X05 X15 B5 y0 y1 y2 y3 ly x0 x1 x2 x3 lx
  go_wp2_with fail
  go_loopw [13, 14] (fun t i wr => ∃ k : Nat, k ≤ L.length ∧ i = .int .i64 k ∧ t = .bool ((L.take k).all (fun x => hasN p x q)) ∧ Below w.heap.size w wr ∧ Below w6.heap.size w6 wr) (fun _ i _ => L.length - (intOf i).toNat)
  case atStart => exact ⟨0, Nat.zero_le _, rfl, rfl, B6, Below.refl _ _⟩
  case round =>
    obtain ⟨k, hk, rfl, rfl, hB, hC⟩ := hrel
    by_cases hlt : k < L.length
    · obtain ⟨b1, o1, rfl, hb1, c0, c1, c2, c3, c4, c5⟩ := (S6.below hC).six hlt
      try dsimp only at c0 c1 c2 c3 c4 c5
      have htk : (L.take (k + 1)).all (fun x => hasN p x q) = ((L.take k).all (fun x => hasN p x q) && hasN p (L.getD k N6.zero) q) := by
        rw [List.take_succ_eq_append_getElem hlt, List.all_append]; simp [List.getD_eq_getElem?_getD, List.getElem?_eq_getElem hlt]
      generalize L.getD k N6.zero = x at c0 c1 c2 c3 c4 c5 htk
      generalize (L.take k).all (fun x => hasN p x q) = A at *
      have HTK := hid htk; clear htk
      go_wp2_with fail
      go_loopw [15, 16] (fun t ji wr2 => ∃ j : Nat, j ≤ q ∧ ji = .int .i64 j ∧ t = .bool (hasN p x j) ∧ Below wr.heap.size wr wr2) (fun _ ji _ => q - (intOf ji).toNat)
      case atStart => exact ⟨0, Nat.zero_le _, rfl, rfl, Below.refl _ _⟩
      case round =>
        obtain ⟨j, hj, rfl, rfl, hI⟩ := hrel
        by_cases hjl : j < q
        · obtain ⟨b2, o2, rfl, hb2, d0, d1, d2, d3, d4, d5⟩ := (HP.below (bvia hB hI)).six hjl
          have hq := eql_note (bare (p j)) x
          simp only [bare] at hq
          have hst : hasN p x (j + 1) = (hasN p x j || eqN (bare (p j)) x) := rfl
          simp only [bare] at hst
          have X9 := (Bx.new wr #[.int .i64 (p j).st, .int .i64 (p j).fr, .int .i64 (p j).to, .int .i64 (p j).ce, .int .i64 (p j).di, .int .i64 (p j).co] 41).set_ 5 (by simp) (.int .i64 0)
          have B9 : Below wr.heap.size wr ((wr.alloc (.cells #[.int .i64 (p j).st, .int .i64 (p j).fr, .int .i64 (p j).to, .int .i64 (p j).ce, .int .i64 (p j).di, .int .i64 (p j).co] 41)).setCell ⟨wr.heap.size, 5, none⟩ (.int .i64 0)) := by (repeat' (first | with_reducible assumption | with_reducible exact Below.refl _ _ | with_reducible refine Below.drew ?_ | with_reducible refine below_drewN ?_ _ | with_reducible refine balloc ?_ _ | with_reducible refine bset ?_ ?_ _ | with_reducible refine Below.setCell ?_ ?_ _ | with_reducible refine Below.alloc ?_ ?_ _ | omega | (simp; done) | (simp; omega)))
          have hb9 := Nat.lt_of_lt_of_le hb1 hI.size
          have v0 := (bcell hI _ _ hb1).trans c0; have v1 := (bcell hI _ _ hb1).trans c1; have v2 := (bcell hI _ _ hb1).trans c2; have v3 := (bcell hI _ _ hb1).trans c3; have v4 := (bcell hI _ _ hb1).trans c4; have v5 := (bcell hI _ _ hb1).trans c5
          have e0 := X9.at_ 0 rfl; have e1 := X9.at_ 1 rfl; have e2 := X9.at_ 2 rfl; have e3 := X9.at_ 3 rfl; have e4 := X9.at_ 4 rfl; have e5 := X9.at_ 5 rfl
          have HST := hid hst; clear hst
          cases hA : hasN p x j
          all_goals
            rw [hA] at HST
            cases hF : eqN { st := (p j).st, fr := (p j).fr, to := (p j).to, ce := (p j).ce, di := (p j).di, co := 0 } x
            all_goals
              rw [hF] at HST hq
              clear hF
              go_wp2_with fail
              go_quiet (fail)
              go_wp2
              go_roundw
              case rel => exact ⟨j + 1, by omega, by go_num, by rw [HST.out]; rfl, bvia hI (by (repeat' (first | with_reducible assumption | with_reducible exact Below.refl _ _ | with_reducible refine Below.drew ?_ | with_reducible refine below_drewN ?_ _ | with_reducible refine balloc ?_ _ | with_reducible refine bset ?_ ?_ _ | with_reducible refine Below.setCell ?_ ?_ _ | with_reducible refine Below.alloc ?_ ?_ _ | omega | (simp; done) | (simp; omega))))⟩
              case measure => simp [intOf]; omega
        · obtain rfl : j = q := (by omega)
          have C9 := bvia hC hI; have B9 := bvia hB hI
          cases hA : A
          all_goals
            rw [hA] at HTK
            go_wp2
            go_roundw
            case rel => exact ⟨k + 1, by omega, by go_num, by rw [HTK.out]; rfl, B9, C9⟩
            case measure => simp [intOf]; omega
    · obtain rfl : k = L.length := (by omega)
      rw [List.take_length, ← HTT.out]
      cases T
      all_goals
        go_wp2_with fail
        refine (awake_node _).mono ?_
        rintro e w7 ⟨rfl, hb7⟩
        go_wp2
        go_ret
        exact ⟨rfl, bvia hB hb7⟩
end Go.Proofs.Ytcakccfhcgjofaa
