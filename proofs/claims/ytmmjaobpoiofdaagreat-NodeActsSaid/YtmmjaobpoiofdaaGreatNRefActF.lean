/- Walk: Act, of the reference. -/
import Derived.Test.YtmmjaobpoiofdaaGreatNRefAct
import Derived.Test.YtmmjaobpoiofdaaGreatNActF
namespace Go.Proofs.YtmmjaobpoiofdaaGreat
open Go Go.RowKit
set_option linter.unusedVariables false
set_option linter.unusedSimpArgs false
theorem actA_noV {rl q h b r t : Bool} : actA false rl q h b r t = 1 := rfl
set_option maxRecDepth 100000 in
set_option maxHeartbeats 8000000 in
theorem ref5_Act (wide high : Int) (a ao rl ap : Option Addr) (n no q c co rn rc cp : Nat) (g : Nat → C4) (o : Nat → Int) (ru : Nat → Int × Int) (p : Nat → N6) (s : SiteR) (w : World) (hn : n ≤ 100000000) (hno : no ≤ 100000000) (hq : q ≤ 100000000) (hni : s.ni ≤ 100000) (hnc : s.nc ≤ 100000) (hrn : rn ≤ 100000000) (H : Sc w a n g) (HO : Sl w ao no o) (HP : Sn w ap q p) (HW : ∀ k, k < q → wfN (p k)) (HS : s.lies w) (HR : Sr w rl rn ru) :
    Calls Tryz.prog 10 #[.agg #[.int .i64 wide, .int .i64 high, .slice a n c], .slice ao no co, .slice rl rn rc, .agg s.cells, .slice ap q cp] w
      (ActO (actA (validM wide high n g no o) (rulesB rn ru) (postB wide.toNat high.toNat o no q p) (hasB o no s.nd) (siteB o no s) (readyB wide.toNat high.toNat o no q p s.nd s.st) (s.st == 1000000)) wide.toNat high.toNat o (ru (s.st.toNat % rn)) no s p q w) := by
  have hV := fun W S SO => ref5_ValidMap wide high a ao n no c co g o W hn hno S SO
  have hRu := fun W S => ref1_validRules rl rn rc ru W hrn S
  have hA := fun W S SO SP SS => ref5_siteError wide high a ao ap n no q c co cp g o p s W hn hno hq hni hnc S SO SP HW SS
  have hR : askE (validM wide high n g no o) (postB wide.toNat high.toNat o no q p) (hasB o no s.nd) (siteB o no s) = 0 → ∀ W, Sl W ao no o → Sn W ap q p → Calls Tryz.prog 34 #[.agg #[.int .i64 wide, .int .i64 high, .slice a n c], .slice ao no co, .agg s.cells, .slice ap q cp] W fun e w' => e = .returned (.bool (readyB wide.toNat high.toNat o no q p s.nd s.st)) ∧ Below W.heap.size W w' := fun h W SO SP => by
    obtain ⟨hv, _, _, _⟩ := askE_zero h
    obtain ⟨Wd, Hd, rfl, rfl, p1, p2, u1, u2, hnn, hn4, hoo, hob, _, _⟩ := validM_sides hv
    simp only [Int.toNat_natCast]
    exact ref5_ready Wd Hd a ao ap n no q c co cp o p s.nd s.st s.ix s.cl s.ni s.ci s.nc s.cc W ⟨p1, p2⟩ ⟨u1, u2⟩ (by omega) hq SO SP
  have hAct : askE (validM wide high n g no o) (postB wide.toNat high.toNat o no q p) (hasB o no s.nd) (siteB o no s) = 0 → rulesB rn ru = true → s.st ≠ 1000000 → ∀ W, Sl W ao no o → s.lies W → Sn W ap q p → Sr W rl rn ru → Calls Tryz.prog 35 #[.agg #[.int .i64 wide, .int .i64 high, .slice a n c], .slice ao no co, .slice rl rn rc, .agg s.cells, .slice ap q cp] W (ActS wide.toNat high.toNat o (ru (s.st.toNat % rn)) no s p q W) := fun h hr hst W SO SS SP SR => by
    obtain ⟨hv, hp, hh, hb⟩ := askE_zero h
    have hs := hb
    obtain ⟨hw1, _, _, _⟩ := siteB_iff.1 hb
    have hst0 : 0 ≤ s.st ∧ s.st ≤ 1000000 := by simpa [within] using hw1
    obtain ⟨hI, _, _⟩ := site_I hs
    have hlen := hasB_len (o := o) (n := no) (nd := s.nd)
    rw [hh] at hlen
    have h0 : 0 < s.ni := by
      rw [hI]
      rcases Nat.eq_zero_or_pos (ownL o s.nd no).length with h | h
      · rw [h] at hlen; simp at hlen
      · exact h
    obtain ⟨Wd, Hd, rfl, rfl, p1, p2, u1, u2, hnn, hn4, hoo, hob, _, _⟩ := validM_sides hv
    simp only [Int.toNat_natCast] at hp ⊢
    exact ref5_act Wd Hd a ao rl ap n c no co rn rc q cp o ru s p W ⟨p1, p2⟩ ⟨u1, u2⟩ hn4 (by omega) hs (by omega) h0 hp hr SO SS SP SR
  generalize hrb : rulesB rn ru = RB at *
  generalize hvv : validM wide high n g no o = V at *
  generalize hqq : postB wide.toNat high.toNat o no q p = QB at *
  generalize hhh : hasB o no s.nd = HB at *
  generalize hbb : siteB o no s = SB at *
  generalize readyB wide.toNat high.toNat o no q p s.nd s.st = R at *
  clear hvv hqq hhh hbb hrb
  unfold SiteR.cells at *
  have X0 := ((Bx.new w #[.int .i64 wide, .int .i64 high, .slice a n c] 24).alloc (.cells #[.int .i64 s.nd, .int .i64 s.st, .slice s.ix s.ni s.ci, .slice s.cl s.nc s.cc] 30)).alloc (.cells #[.int .i64 0, .int .i64 0, .slice none 0 0, .slice none 0 0] 30)
  have X1 := (Bx.new (w.alloc (.cells #[.int .i64 wide, .int .i64 high, .slice a n c] 24)) #[.int .i64 s.nd, .int .i64 s.st, .slice s.ix s.ni s.ci, .slice s.cl s.nc s.cc] 30).alloc (.cells #[.int .i64 0, .int .i64 0, .slice none 0 0, .slice none 0 0] 30)
  have X2 := Bx.new ((w.alloc (.cells #[.int .i64 wide, .int .i64 high, .slice a n c] 24)).alloc (.cells #[.int .i64 s.nd, .int .i64 s.st, .slice s.ix s.ni s.ci, .slice s.cl s.nc s.cc] 30)) #[.int .i64 0, .int .i64 0, .slice none 0 0, .slice none 0 0] 30
  simp only [World.size_alloc] at X1 X2
  have hB0 : Below w.heap.size w (((w.alloc (.cells #[.int .i64 wide, .int .i64 high, .slice a n c] 24)).alloc (.cells #[.int .i64 s.nd, .int .i64 s.st, .slice s.ix s.ni s.ci, .slice s.cl s.nc s.cc] 30)).alloc (.cells #[.int .i64 0, .int .i64 0, .slice none 0 0, .slice none 0 0] 30)) := by (repeat' (first | with_reducible assumption | with_reducible exact Below.refl _ _ | with_reducible refine Below.drew ?_ | with_reducible refine below_drewN ?_ _ | with_reducible refine balloc ?_ _ | with_reducible refine bset ?_ ?_ _ | with_reducible refine Below.setCell ?_ ?_ _ | with_reducible refine Below.alloc ?_ ?_ _ | omega | (simp; done) | (simp; omega)))
  go_enter Tryz.func10, Tryz.ntmps10
  go_wp2_with fail
  generalize (((w.alloc (.cells #[.int .i64 wide, .int .i64 high, .slice a n c] 24)).alloc (.cells #[.int .i64 s.nd, .int .i64 s.st, .slice s.ix s.ni s.ci, .slice s.cl s.nc s.cc] 30)).alloc (.cells #[.int .i64 0, .int .i64 0, .slice none 0 0, .slice none 0 0] 30)) = W0 at X0 X1 X2 hB0 ⊢
  have z0 := X0.lt
  have z1 := X1.lt
  have z2 := X2.lt
  refine (hV _ (H.below hB0) (HO.below hB0)).mono ?_
  rintro e w1 ⟨rfl, hb1⟩
  replace X0 := X0.below hb1; replace X1 := X1.below hb1; replace X2 := X2.below hb1
  have B1 := bvia hB0 hb1
  clear hb1 hB0 hV
  cases V
  · clear hR hAct hA hRu
    have q0 := X2.at_ 0 rfl; have q1 := X2.at_ 1 rfl; have q2 := X2.at_ 2 rfl; have q3 := X2.at_ 3 rfl; have qf := X2.free; have ql := X2.lt
    go_wp2_with fail
    have T2 := (((X2.set_ 0 (by simp) (.int .i64 0)).set_ 1 (by simp) (.int .i64 0)).set_ 2 (by simp) (.slice none 0 0)).set_ 3 (by simp) (.slice none 0 0)
    have TB : Below w.heap.size w ((((w1.setCell ⟨w.heap.size + 1 + 1, 0, none⟩ (.int .i64 0)).setCell ⟨w.heap.size + 1 + 1, 1, none⟩ (.int .i64 0)).setCell ⟨w.heap.size + 1 + 1, 2, none⟩ (.slice none 0 0)).setCell ⟨w.heap.size + 1 + 1, 3, none⟩ (.slice none 0 0)) := by (repeat' (first | with_reducible assumption | with_reducible exact Below.refl _ _ | with_reducible refine Below.drew ?_ | with_reducible refine below_drewN ?_ _ | with_reducible refine balloc ?_ _ | with_reducible refine bset ?_ ?_ _ | with_reducible refine Below.setCell ?_ ?_ _ | with_reducible refine Below.alloc ?_ ?_ _ | omega | (simp; done) | (simp; omega)))
    have c0 := T2.at_ 0 rfl; have c1 := T2.at_ 1 rfl; have c2 := T2.at_ 2 rfl; have c3 := T2.at_ 3 rfl
    generalize (((w1.setCell ⟨w.heap.size + 1 + 1, 0, none⟩ (.int .i64 0)).setCell ⟨w.heap.size + 1 + 1, 1, none⟩ (.int .i64 0)).setCell ⟨w.heap.size + 1 + 1, 2, none⟩ (.slice none 0 0)).setCell ⟨w.heap.size + 1 + 1, 3, none⟩ (.slice none 0 0) = Wf at *
    exact bodyPost_ret (v := .tuple #[.agg #[.int .i64 0, .int .i64 0, .slice none 0 0, .slice none 0 0], .slice none 0 0, .int .i64 (1)]) (by simp [results, Tryz.results10, go_sem, c0, c1, c2, c3]) rfl (actO_fail2 actA_noV (by first | assumption | decide) rfl TB)
  · go_wp2_with fail
    refine (hRu _ (HR.below B1)).mono ?_
    rintro e w2 ⟨rfl, hb2⟩
    replace X0 := X0.below hb2; replace X1 := X1.below hb2; replace X2 := X2.below hb2
    have B2 := bvia B1 hb2
    clear hb2 B1 hRu
    cases RB
    · clear hR hAct hA
      have q0 := X2.at_ 0 rfl; have q1 := X2.at_ 1 rfl; have q2 := X2.at_ 2 rfl; have q3 := X2.at_ 3 rfl; have qf := X2.free; have ql := X2.lt
      go_wp2_with fail
      have T2 := (((X2.set_ 0 (by simp) (.int .i64 0)).set_ 1 (by simp) (.int .i64 0)).set_ 2 (by simp) (.slice none 0 0)).set_ 3 (by simp) (.slice none 0 0)
      have TB : Below w.heap.size w ((((w2.setCell ⟨w.heap.size + 1 + 1, 0, none⟩ (.int .i64 0)).setCell ⟨w.heap.size + 1 + 1, 1, none⟩ (.int .i64 0)).setCell ⟨w.heap.size + 1 + 1, 2, none⟩ (.slice none 0 0)).setCell ⟨w.heap.size + 1 + 1, 3, none⟩ (.slice none 0 0)) := by (repeat' (first | with_reducible assumption | with_reducible exact Below.refl _ _ | with_reducible refine Below.drew ?_ | with_reducible refine below_drewN ?_ _ | with_reducible refine balloc ?_ _ | with_reducible refine bset ?_ ?_ _ | with_reducible refine Below.setCell ?_ ?_ _ | with_reducible refine Below.alloc ?_ ?_ _ | omega | (simp; done) | (simp; omega)))
      have c0 := T2.at_ 0 rfl; have c1 := T2.at_ 1 rfl; have c2 := T2.at_ 2 rfl; have c3 := T2.at_ 3 rfl
      generalize (((w2.setCell ⟨w.heap.size + 1 + 1, 0, none⟩ (.int .i64 0)).setCell ⟨w.heap.size + 1 + 1, 1, none⟩ (.int .i64 0)).setCell ⟨w.heap.size + 1 + 1, 2, none⟩ (.slice none 0 0)).setCell ⟨w.heap.size + 1 + 1, 3, none⟩ (.slice none 0 0) = Wf at *
      exact bodyPost_ret (v := .tuple #[.agg #[.int .i64 0, .int .i64 0, .slice none 0 0, .slice none 0 0], .slice none 0 0, .int .i64 (1)]) (by simp [results, Tryz.results10, go_sem, c0, c1, c2, c3]) rfl (actO_fail2 actA_no (by first | assumption | decide) rfl TB)
    · have x0 := X0.at_ 0 rfl; have x1 := X0.at_ 1 rfl; have x2 := X0.at_ 2 rfl; have lx := X0.lt
      have y0 := X1.at_ 0 rfl; have y1 := X1.at_ 1 rfl; have y2 := X1.at_ 2 rfl; have y3 := X1.at_ 3 rfl; have ly := X1.lt
      go_wp2_with fail
      clear x0 x1 x2 lx y0 y1 y2 y3 ly
      refine (hA _ (H.below B2) (HO.below B2) (HP.below B2) (HS.below B2)).mono ?_
      rintro e w3 ⟨rfl, hb3⟩
      replace X0 := X0.below hb3; replace X1 := X1.below hb3; replace X2 := X2.below hb3
      have B3 := bvia B2 hb3
      clear hb3 B2 hA
      by_cases hE : askE true QB HB SB = 0
      · obtain ⟨_, rfl, rfl, rfl⟩ := askE_zero hE
        have hR' := hR hE
        have hAct' := hAct hE (by first | rfl | trivial)
        clear hR hAct
        have hEZ : askE true true true true = 0 := rfl
        rw [hEZ]
        have x0 := X0.at_ 0 rfl; have x1 := X0.at_ 1 rfl; have x2 := X0.at_ 2 rfl; have lx := X0.lt
        have y0 := X1.at_ 0 rfl; have y1 := X1.at_ 1 rfl; have y2 := X1.at_ 2 rfl; have y3 := X1.at_ 3 rfl; have ly := X1.lt
        go_wp2_with fail
        clear x0 x1 x2 lx y0 y1 y2 y3 ly
        refine (hR' _ (HO.below B3) (HP.below B3)).mono ?_
        rintro e v6 ⟨rfl, hb6⟩
        replace X0 := X0.below hb6; replace X1 := X1.below hb6; replace X2 := X2.below hb6
        have B9 := bvia B3 hb6
        clear hb6 B3 hR'
        cases R
        · skip
          have q0 := X2.at_ 0 rfl; have q1 := X2.at_ 1 rfl; have q2 := X2.at_ 2 rfl; have q3 := X2.at_ 3 rfl; have qf := X2.free; have ql := X2.lt
          go_wp2_with fail
          have T2 := (((X2.set_ 0 (by simp) (.int .i64 0)).set_ 1 (by simp) (.int .i64 0)).set_ 2 (by simp) (.slice none 0 0)).set_ 3 (by simp) (.slice none 0 0)
          have TB : Below w.heap.size w ((((v6.setCell ⟨w.heap.size + 1 + 1, 0, none⟩ (.int .i64 0)).setCell ⟨w.heap.size + 1 + 1, 1, none⟩ (.int .i64 0)).setCell ⟨w.heap.size + 1 + 1, 2, none⟩ (.slice none 0 0)).setCell ⟨w.heap.size + 1 + 1, 3, none⟩ (.slice none 0 0)) := by (repeat' (first | with_reducible assumption | with_reducible exact Below.refl _ _ | with_reducible refine Below.drew ?_ | with_reducible refine below_drewN ?_ _ | with_reducible refine balloc ?_ _ | with_reducible refine bset ?_ ?_ _ | with_reducible refine Below.setCell ?_ ?_ _ | with_reducible refine Below.alloc ?_ ?_ _ | omega | (simp; done) | (simp; omega)))
          have c0 := T2.at_ 0 rfl; have c1 := T2.at_ 1 rfl; have c2 := T2.at_ 2 rfl; have c3 := T2.at_ 3 rfl
          generalize (((v6.setCell ⟨w.heap.size + 1 + 1, 0, none⟩ (.int .i64 0)).setCell ⟨w.heap.size + 1 + 1, 1, none⟩ (.int .i64 0)).setCell ⟨w.heap.size + 1 + 1, 2, none⟩ (.slice none 0 0)).setCell ⟨w.heap.size + 1 + 1, 3, none⟩ (.slice none 0 0) = Wf at *
          exact bodyPost_ret (v := .tuple #[.agg #[.int .i64 0, .int .i64 0, .slice none 0 0, .slice none 0 0], .slice none 0 0, .int .i64 (12)]) (by simp [results, Tryz.results10, go_sem, c0, c1, c2, c3]) rfl (actO_fail2 (show _ = (12 : Int) from rfl) (by first | assumption | decide) rfl TB)
        · by_cases ht : s.st = 1000000
          · have hEE : actA true true true true true true (s.st == 1000000) = 4 := by rw [ht]; rfl
            have HEE := hid hEE
            have y1 := X1.at_ 1 rfl; have ly := X1.lt
            rw [ht] at y1
            clear ht hEE hAct'
            have q0 := X2.at_ 0 rfl; have q1 := X2.at_ 1 rfl; have q2 := X2.at_ 2 rfl; have q3 := X2.at_ 3 rfl; have qf := X2.free; have ql := X2.lt
            go_wp2_with fail
            have T2 := (((X2.set_ 0 (by simp) (.int .i64 0)).set_ 1 (by simp) (.int .i64 0)).set_ 2 (by simp) (.slice none 0 0)).set_ 3 (by simp) (.slice none 0 0)
            have TB : Below w.heap.size w ((((v6.setCell ⟨w.heap.size + 1 + 1, 0, none⟩ (.int .i64 0)).setCell ⟨w.heap.size + 1 + 1, 1, none⟩ (.int .i64 0)).setCell ⟨w.heap.size + 1 + 1, 2, none⟩ (.slice none 0 0)).setCell ⟨w.heap.size + 1 + 1, 3, none⟩ (.slice none 0 0)) := by (repeat' (first | with_reducible assumption | with_reducible exact Below.refl _ _ | with_reducible refine Below.drew ?_ | with_reducible refine below_drewN ?_ _ | with_reducible refine balloc ?_ _ | with_reducible refine bset ?_ ?_ _ | with_reducible refine Below.setCell ?_ ?_ _ | with_reducible refine Below.alloc ?_ ?_ _ | omega | (simp; done) | (simp; omega)))
            have c0 := T2.at_ 0 rfl; have c1 := T2.at_ 1 rfl; have c2 := T2.at_ 2 rfl; have c3 := T2.at_ 3 rfl
            generalize (((v6.setCell ⟨w.heap.size + 1 + 1, 0, none⟩ (.int .i64 0)).setCell ⟨w.heap.size + 1 + 1, 1, none⟩ (.int .i64 0)).setCell ⟨w.heap.size + 1 + 1, 2, none⟩ (.slice none 0 0)).setCell ⟨w.heap.size + 1 + 1, 3, none⟩ (.slice none 0 0) = Wf at *
            exact bodyPost_ret (v := .tuple #[.agg #[.int .i64 0, .int .i64 0, .slice none 0 0, .slice none 0 0], .slice none 0 0, .int .i64 (4)]) (by simp [results, Tryz.results10, go_sem, c0, c1, c2, c3]) rfl (actO_fail2 HEE.out (by first | assumption | decide) rfl TB)
          · have hEE : actA true true true true true true (s.st == 1000000) = 0 := by
              have : (s.st == 1000000) = false := by rw [beq_eq_false_iff_ne]; exact ht
              rw [this]; rfl
            have HEE := hid hEE
            have htb : (s.st == 1000000) = false := by rw [beq_eq_false_iff_ne]; exact ht
            have hac := hAct' ht v6 (HO.below B9) (HS.below B9) (HP.below B9) (HR.below B9)
            clear hAct' hEE
            have y0 := X1.at_ 0 rfl; have y1 := X1.at_ 1 rfl; have y2 := X1.at_ 2 rfl; have y3 := X1.at_ 3 rfl; have ly := X1.lt
            have x0 := X0.at_ 0 rfl; have x1 := X0.at_ 1 rfl; have x2 := X0.at_ 2 rfl; have lx := X0.lt
            go_wp2_with fail
            refine hac.mono ?_
            rintro e w8 hS
            obtain ⟨s', v', E', rfl, hb8, hmove⟩ := actS_move (k := w.heap.size + 1 + 1) hS (by have := X2.lt; omega) B9
            have Q3 := X2.below hb8
            have HMV := hid hmove
            clear hmove hS hac x0 x1 x2 lx y0 y1 y2 y3 ly
            unfold SiteR.cells at *
            obtain ⟨s2nd, s2st, s2ix, s2ni, s2ci, s2cl, s2nc, s2cc, s2I, s2C⟩ := s'
            dsimp only at *
            have q0 := Q3.at_ 0 rfl; have q1 := Q3.at_ 1 rfl; have q2 := Q3.at_ 2 rfl; have q3 := Q3.at_ 3 rfl; have qf := Q3.free; have ql := Q3.lt
            go_wp2_with fail
            have T2 := (((Q3.set_ 0 (by simp) (.int .i64 s2nd)).set_ 1 (by simp) (.int .i64 s2st)).set_ 2 (by simp) (.slice s2ix s2ni s2ci)).set_ 3 (by simp) (.slice s2cl s2nc s2cc)
            have TU : But (fun b => b = w.heap.size + 1 + 1) w8 ((((w8.setCell ⟨w.heap.size + 1 + 1, 0, none⟩ (.int .i64 s2nd)).setCell ⟨w.heap.size + 1 + 1, 1, none⟩ (.int .i64 s2st)).setCell ⟨w.heap.size + 1 + 1, 2, none⟩ (.slice s2ix s2ni s2ci)).setCell ⟨w.heap.size + 1 + 1, 3, none⟩ (.slice s2cl s2nc s2cc)) := ((((But.refl (fun b => b = w.heap.size + 1 + 1) w8).set_ (p := ⟨w.heap.size + 1 + 1, 0, none⟩) rfl _).set_ (p := ⟨w.heap.size + 1 + 1, 1, none⟩) rfl _).set_ (p := ⟨w.heap.size + 1 + 1, 2, none⟩) rfl _).set_ (p := ⟨w.heap.size + 1 + 1, 3, none⟩) rfl _
            have c0 := T2.at_ 0 rfl; have c1 := T2.at_ 1 rfl; have c2 := T2.at_ 2 rfl; have c3 := T2.at_ 3 rfl
            have hfin := HMV.out _ TU
            generalize (((w8.setCell ⟨w.heap.size + 1 + 1, 0, none⟩ (.int .i64 s2nd)).setCell ⟨w.heap.size + 1 + 1, 1, none⟩ (.int .i64 s2st)).setCell ⟨w.heap.size + 1 + 1, 2, none⟩ (.slice s2ix s2ni s2ci)).setCell ⟨w.heap.size + 1 + 1, 3, none⟩ (.slice s2cl s2nc s2cc) = Wf at *
            exact bodyPost_ret (v := .tuple #[.agg #[.int .i64 s2nd, .int .i64 s2st, .slice s2ix s2ni s2ci, .slice s2cl s2nc s2cc], v', .int .i64 E']) (by simp [results, Tryz.results10, go_sem, c0, c1, c2, c3]) rfl (actO_ok (by first | exact HEE.out | rfl) hfin)
      · have hEq := actA_ask (r := R) (t := s.st == 1000000) hE
        have HEQ := hid hEq
        clear hEq hR hAct
        generalize askE true QB HB SB = E at *
        have hEb : (E != 0) = true := by simpa [bne] using hE
        have q0 := X2.at_ 0 rfl; have q1 := X2.at_ 1 rfl; have q2 := X2.at_ 2 rfl; have q3 := X2.at_ 3 rfl; have qf := X2.free; have ql := X2.lt
        go_wp2_with fail
        have T2 := (((X2.set_ 0 (by simp) (.int .i64 0)).set_ 1 (by simp) (.int .i64 0)).set_ 2 (by simp) (.slice none 0 0)).set_ 3 (by simp) (.slice none 0 0)
        have TB : Below w.heap.size w ((((w3.setCell ⟨w.heap.size + 1 + 1, 0, none⟩ (.int .i64 0)).setCell ⟨w.heap.size + 1 + 1, 1, none⟩ (.int .i64 0)).setCell ⟨w.heap.size + 1 + 1, 2, none⟩ (.slice none 0 0)).setCell ⟨w.heap.size + 1 + 1, 3, none⟩ (.slice none 0 0)) := by (repeat' (first | with_reducible assumption | with_reducible exact Below.refl _ _ | with_reducible refine Below.drew ?_ | with_reducible refine below_drewN ?_ _ | with_reducible refine balloc ?_ _ | with_reducible refine bset ?_ ?_ _ | with_reducible refine Below.setCell ?_ ?_ _ | with_reducible refine Below.alloc ?_ ?_ _ | omega | (simp; done) | (simp; omega)))
        have c0 := T2.at_ 0 rfl; have c1 := T2.at_ 1 rfl; have c2 := T2.at_ 2 rfl; have c3 := T2.at_ 3 rfl
        generalize (((w3.setCell ⟨w.heap.size + 1 + 1, 0, none⟩ (.int .i64 0)).setCell ⟨w.heap.size + 1 + 1, 1, none⟩ (.int .i64 0)).setCell ⟨w.heap.size + 1 + 1, 2, none⟩ (.slice none 0 0)).setCell ⟨w.heap.size + 1 + 1, 3, none⟩ (.slice none 0 0) = Wf at *
        exact bodyPost_ret (v := .tuple #[.agg #[.int .i64 0, .int .i64 0, .slice none 0 0, .slice none 0 0], .slice none 0 0, .int .i64 (E)]) (by simp [results, Tryz.results10, go_sem, c0, c1, c2, c3]) rfl (actO_fail2 HEQ.out (by first | assumption | decide) rfl TB)
end Go.Proofs.YtmmjaobpoiofdaaGreat
