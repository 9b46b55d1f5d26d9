/- Walk: Act, of the program. -/
import Derived.Test.YtmmjaobpoiofdaaGreatNActW
import Derived.Test.YtmmjaobpoiofdaaGreatNReadyF
namespace Go.Proofs.YtmmjaobpoiofdaaGreat
open Go Go.RowKit
set_option linter.unusedVariables false
set_option linter.unusedSimpArgs false
/-- the error: are map, rules and post valid, has the node a cell, is the site right, ready, at the last step? -/
def actA (v rl q h b r t : Bool) : Int := if (v && rl && q) = true then (if h = true then (if b = true then (if r = true then (if t = true then 4 else 0) else 12) else 1) else 5) else 1
theorem actA_ask {v q h b r t : Bool} (e : askE v q h b ≠ 0) : actA v true q h b r t = askE v q h b := by
  revert e
  cases v <;> cases q <;> cases h <;> cases b <;> simp [actA, askE]
theorem actA_no {v q h b r t : Bool} : actA v false q h b r t = 1 := by unfold actA; rw [Bool.and_false, Bool.false_and]; rfl
/-- what Act gives -/
def ActO (E : Int) (W H : Nat) (o : Nat → Int) (ru : Int × Int) (no : Nat) (s : SiteR) (p : Nat → N6) (q : Nat) (w : World) (e : Ending) (w' : World) : Prop :=
  if E = 0 then ActS W H o ru no s p q w e w' else ActPost E 0 0 [] (fun _ => C4.zero) [] w e w'
theorem actO_fail {E : Int} {W H : Nat} {o : Nat → Int} {ru : Int × Int} {no : Nat} {s : SiteR} {p : Nat → N6} {q : Nat} {w w' : World} {e : Ending} (hE : E ≠ 0)
    (he : e = .returned (.tuple #[.agg #[.int .i64 0, .int .i64 0, .slice none 0 0, .slice none 0 0], .slice none 0 0, .int .i64 E])) (hb : Below w.heap.size w w') : ActO E W H o ru no s p q w e w' := by
  unfold ActO
  rw [if_neg hE]
  exact ⟨SiteR.zero, .slice none 0 0, he, ⟨fun _ h => absurd h (Nat.not_lt_zero _), fun _ h => absurd h (Nat.not_lt_zero _), fun _ => rfl⟩, fun _ => rfl, rfl, rfl, rfl, rfl, fun _ h => absurd h (Nat.not_lt_zero _), fun _ h => absurd h (Nat.not_lt_zero _), fun b off h => by simp [SiteR.zero] at h, ownN_nil _ _, hb⟩
theorem actO_fail2 {E E0 : Int} {W H : Nat} {o : Nat → Int} {ru : Int × Int} {no : Nat} {s : SiteR} {p : Nat → N6} {q : Nat} {w w' : World} {e : Ending} (hq : E = E0) (hE : E0 ≠ 0)
    (he : e = .returned (.tuple #[.agg #[.int .i64 0, .int .i64 0, .slice none 0 0, .slice none 0 0], .slice none 0 0, .int .i64 E0])) (hb : Below w.heap.size w w') : ActO E W H o ru no s p q w e w' := by
  subst hq
  exact actO_fail hE he hb
theorem actO_ok {E : Int} {W H : Nat} {o : Nat → Int} {ru : Int × Int} {no : Nat} {s : SiteR} {p : Nat → N6} {q : Nat} {w w' : World} {e : Ending} (hq : E = 0) (h : ActS W H o ru no s p q w e w') : ActO E W H o ru no s p q w e w' := by
  unfold ActO
  rw [if_pos hq]
  exact h
theorem actPost_move {E nd t : Int} {L : List Int} {Cn : Nat → C4} {R : List N6} {w X Y : World} {e : Ending} {k : Nat} (h : ActPost E nd t L Cn R X e Y) (hk : w.heap.size ≤ k ∧ k < X.heap.size) (hB : Below w.heap.size w X) :
    ∃ (s' : SiteR) (v : Value), e = .returned (.tuple #[.agg s'.cells, v, .int .i64 E]) ∧ Below X.heap.size X Y ∧ ∀ Z, But (fun b => b = k) Y Z → ActPost E nd t L Cn R w (.returned (.tuple #[.agg s'.cells, v, .int .i64 E])) Z := by
  obtain ⟨s', v, he, hl, h1, h2, h3, h4, h5, h6, h7, h8, h9, h10⟩ := h
  have hs := hB.size
  have hs2 := h10.size
  refine ⟨s', v, he, h10, fun Z hb => ⟨s', v, rfl, ⟨hl.1.but2 hb (fun b o e h => by have := h8 b o (.inl e); omega), hl.2.1.but2 hb (fun b o e h => by have := h8 b o (.inr e); omega), hl.2.2⟩, h1, h2, h3, h4, h5, h6, h7, fun b off h => ?_, ?_, ?_⟩⟩
  · have := h8 b off h; have := hb.size; omega
  · exact own_mono (own_but2 h9 hb (fun g hg h => by have := own_base h9 g hg; omega)) hs
  · exact (bvia hB h10).trans ⟨hb.os, hb.tape, hb.output, hb.size, fun z hz => hb.block z (by omega) (by omega)⟩
theorem actS_move {W H : Nat} {o : Nat → Int} {ru : Int × Int} {no : Nat} {s : SiteR} {p : Nat → N6} {q : Nat} {w X Y : World} {e : Ending} {k : Nat} (h : ActS W H o ru no s p q X e Y) (hk : w.heap.size ≤ k ∧ k < X.heap.size) (hB : Below w.heap.size w X) :
    ∃ (s' : SiteR) (v : Value) (E : Int), e = .returned (.tuple #[.agg s'.cells, v, .int .i64 E]) ∧ Below X.heap.size X Y ∧ ∀ Z, But (fun b => b = k) Y Z → ActS W H o ru no s p q w (.returned (.tuple #[.agg s'.cells, v, .int .i64 E])) Z := by
  unfold ActS at h
  split at h
  · rename_i hE
    obtain ⟨s', v, h1, h2, h3⟩ := actPost_move h hk hB
    exact ⟨s', v, 0, h1, h2, fun Z hb => by unfold ActS; rw [if_pos hE]; exact h3 Z hb⟩
  · rename_i hE
    obtain ⟨s', v, h1, h2, h3⟩ := actPost_move h hk hB
    exact ⟨s', v, 4, h1, h2, fun Z hb => by unfold ActS; rw [if_neg hE]; exact h3 Z hb⟩
set_option maxRecDepth 100000 in
set_option maxHeartbeats 4000000 in
theorem node_asked_no (wide high : Int) (a ao ap : Option Addr) (n no q c co cp : Nat) (g : Nat → C4) (o : Nat → Int) (p : Nat → N6) (s : SiteR) (w : World) (hn : n ≤ 100000000) (hno : no ≤ 100000000) (H : Sc w a n g) (HO : Sl w ao no o) :
    Calls Tryz.prog 26 #[.agg #[.int .i64 wide, .int .i64 high, .slice a n c], .slice ao no co, .agg s.cells, .slice ap q cp, .bool false] w fun e w' => e = .returned (.int .i64 1) ∧ Below w.heap.size w w' := by
  have hV := fun W S SO => node_ValidMap wide high a ao n no c co g o W hn hno S SO
  generalize validM wide high n g no o = V at *
  unfold SiteR.cells
  have X0 := (Bx.new w #[.int .i64 wide, .int .i64 high, .slice a n c] 24).alloc (.cells #[.int .i64 s.nd, .int .i64 s.st, .slice s.ix s.ni s.ci, .slice s.cl s.nc s.cc] 30)
  have X1 := Bx.new (w.alloc (.cells #[.int .i64 wide, .int .i64 high, .slice a n c] 24)) #[.int .i64 s.nd, .int .i64 s.st, .slice s.ix s.ni s.ci, .slice s.cl s.nc s.cc] 30
  simp only [World.size_alloc] at X1
  have hB0 : Below w.heap.size w ((w.alloc (.cells #[.int .i64 wide, .int .i64 high, .slice a n c] 24)).alloc (.cells #[.int .i64 s.nd, .int .i64 s.st, .slice s.ix s.ni s.ci, .slice s.cl s.nc s.cc] 30)) := by (repeat' (first | with_reducible assumption | with_reducible exact Below.refl _ _ | with_reducible refine Below.drew ?_ | with_reducible refine below_drewN ?_ _ | with_reducible refine balloc ?_ _ | with_reducible refine bset ?_ ?_ _ | with_reducible refine Below.setCell ?_ ?_ _ | with_reducible refine Below.alloc ?_ ?_ _ | omega | (simp; done) | (simp; omega)))
  cases V
  all_goals
    go_enter Tryz.func26, Tryz.ntmps26
    go_wp2_with fail
    generalize ((w.alloc (.cells #[.int .i64 wide, .int .i64 high, .slice a n c] 24)).alloc (.cells #[.int .i64 s.nd, .int .i64 s.st, .slice s.ix s.ni s.ci, .slice s.cl s.nc s.cc] 30)) = W0 at X0 X1 hB0 ⊢
    have z0 := X0.lt
    have z1 := X1.lt
    refine (hV _ (H.below hB0) (HO.below hB0)).mono ?_
    rintro e w1 ⟨rfl, hb1⟩
    go_wp2
    go_ret
    exact ⟨rfl, bvia hB0 hb1⟩
set_option maxRecDepth 100000 in
set_option maxHeartbeats 8000000 in
theorem node_Act (wide high : Int) (a ao rl ap : Option Addr) (n no q c co rn rc cp : Nat) (g : Nat → C4) (o : Nat → Int) (ru : Nat → Int × Int) (p : Nat → N6) (s : SiteR) (w : World) (hn : n ≤ 100000000) (hno : no ≤ 100000000) (hq : q ≤ 100000000) (hni : s.ni ≤ 100000) (hnc : s.nc ≤ 100000) (hrn : rn ≤ 100000000) (H : Sc w a n g) (HO : Sl w ao no o) (HP : Sn w ap q p) (HW : ∀ k, k < q → wfN (p k)) (HS : s.lies w) (HR : Sr w rl rn ru) :
    Calls Tryz.prog 9 #[.agg #[.int .i64 wide, .int .i64 high, .slice a n c], .slice ao no co, .slice rl rn rc, .agg s.cells, .slice ap q cp] w
      (ActO (actA (validM wide high n g no o) (rulesB rn ru) (postB wide.toNat high.toNat o no q p) (hasB o no s.nd) (siteB o no s) (readyB wide.toNat high.toNat o no q p s.nd s.st) (s.st == 1000000)) wide.toNat high.toNat o (ru (s.st.toNat % rn)) no s p q w) := by
  have hRu := fun W S => cell_validRules rl rn rc ru W hrn S
  have hA := fun W S SO SP SS => node_asked wide high a ao ap n no q c co cp g o p s W hn hno hq hni hnc S SO SP HW SS
  have hA0 := fun W S SO => node_asked_no wide high a ao ap n no q c co cp g o p s W hn hno S SO
  have hCo := fun W SP => node_counts ap q cp p W hq SP HW
  have hR : askE (validM wide high n g no o) (postB wide.toNat high.toNat o no q p) (hasB o no s.nd) (siteB o no s) = 0 → ∀ b W, Sl W ao no o → PcM W b q (fun y => metB p y q) (fun y => cntV p y q) → Calls Tryz.prog 28 #[.agg #[.int .i64 wide, .int .i64 high, .slice a n c, .slice ao no co], .agg s.cells, .map (some b)] W fun e w' => e = .returned (.bool (readyB wide.toNat high.toNat o no q p s.nd s.st)) ∧ Below W.heap.size W w' := fun h b W SO SM => by
    obtain ⟨hv, _, hh, hb⟩ := askE_zero h
    have hwf := due_wf hv hh hb
    obtain ⟨Wd, Hd, rfl, rfl, p1, p2, u1, u2, hnn, hn4, hoo, hob, _, _⟩ := validM_sides hv
    simp only [Int.toNat_natCast] at hwf ⊢
    exact node_ready Wd Hd a ao n c no co o s.nd s.st s.ix s.cl s.ni s.ci s.nc s.cc b q _ _ W ⟨p1, p2⟩ ⟨u1, u2⟩ (by omega) SO SM hwf
  have hAct : askE (validM wide high n g no o) (postB wide.toNat high.toNat o no q p) (hasB o no s.nd) (siteB o no s) = 0 → rulesB rn ru = true → s.st ≠ 1000000 → ∀ W, Sl W ao no o → s.lies W → Sn W ap q p → Sr W rl rn ru → Calls Tryz.prog 30 #[.agg #[.int .i64 wide, .int .i64 high, .slice a n c, .slice ao no co], .slice rl rn rc, .agg s.cells, .slice ap q cp] W (ActS wide.toNat high.toNat o (ru (s.st.toNat % rn)) no s p q W) := fun h hr hst W SO SS SP SR => by
    obtain ⟨hv, hp, hh, hb⟩ := askE_zero h
    have hs := hb
    obtain ⟨hw1, _, _, _⟩ := siteB_iff.1 hb
    have hst0 : 0 ≤ s.st ∧ s.st ≤ 1000000 := by simpa [within] using hw1
    obtain ⟨hI, _, _⟩ := site_I hs
    have hlen := hasB_len (o := o) (n := no) (nd := s.nd)
    rw [hh] at hlen
    have h0 : 0 < s.ni := by
      rw [hI]
      rcases Nat.eq_zero_or_pos (ownL o s.nd no).length with h | h
      · rw [h] at hlen; simp at hlen
      · exact h
    obtain ⟨Wd, Hd, rfl, rfl, p1, p2, u1, u2, hnn, hn4, hoo, hob, _, _⟩ := validM_sides hv
    simp only [Int.toNat_natCast] at hp ⊢
    obtain ⟨i, _, hi2, hi3⟩ := own_nat (o := o) (nd := s.nd) (no := no) (j := 0) (by omega)
    have hnd := hob i (by omega)
    rw [hi3] at hnd
    exact node_act Wd Hd a ao rl ap n c no co rn rc q cp o ru s p W ⟨p1, p2⟩ ⟨u1, u2⟩ hn4 (by omega) hs (by omega) h0 hnd (fun k hk => hob k (by omega)) hp hr SO SS SP SR
  generalize hrb : rulesB rn ru = RB at *
  generalize hvv : validM wide high n g no o = V at *
  generalize hqq : postB wide.toNat high.toNat o no q p = QB at *
  generalize hhh : hasB o no s.nd = HB at *
  generalize hbb : siteB o no s = SB at *
  generalize readyB wide.toNat high.toNat o no q p s.nd s.st = R at *
  clear hvv hqq hhh hbb hrb
  unfold SiteR.cells at *
  have X0 := ((Bx.new w #[.int .i64 wide, .int .i64 high, .slice a n c] 24).alloc (.cells #[.int .i64 s.nd, .int .i64 s.st, .slice s.ix s.ni s.ci, .slice s.cl s.nc s.cc] 30)).alloc (.cells #[.int .i64 0, .int .i64 0, .slice none 0 0, .slice none 0 0] 30)
  have X1 := (Bx.new (w.alloc (.cells #[.int .i64 wide, .int .i64 high, .slice a n c] 24)) #[.int .i64 s.nd, .int .i64 s.st, .slice s.ix s.ni s.ci, .slice s.cl s.nc s.cc] 30).alloc (.cells #[.int .i64 0, .int .i64 0, .slice none 0 0, .slice none 0 0] 30)
  have X2 := Bx.new ((w.alloc (.cells #[.int .i64 wide, .int .i64 high, .slice a n c] 24)).alloc (.cells #[.int .i64 s.nd, .int .i64 s.st, .slice s.ix s.ni s.ci, .slice s.cl s.nc s.cc] 30)) #[.int .i64 0, .int .i64 0, .slice none 0 0, .slice none 0 0] 30
  simp only [World.size_alloc] at X1 X2
  have hB0 : Below w.heap.size w (((w.alloc (.cells #[.int .i64 wide, .int .i64 high, .slice a n c] 24)).alloc (.cells #[.int .i64 s.nd, .int .i64 s.st, .slice s.ix s.ni s.ci, .slice s.cl s.nc s.cc] 30)).alloc (.cells #[.int .i64 0, .int .i64 0, .slice none 0 0, .slice none 0 0] 30)) := by (repeat' (first | with_reducible assumption | with_reducible exact Below.refl _ _ | with_reducible refine Below.drew ?_ | with_reducible refine below_drewN ?_ _ | with_reducible refine balloc ?_ _ | with_reducible refine bset ?_ ?_ _ | with_reducible refine Below.setCell ?_ ?_ _ | with_reducible refine Below.alloc ?_ ?_ _ | omega | (simp; done) | (simp; omega)))
  go_enter Tryz.func9, Tryz.ntmps9
  go_upto_region 1 with (fail)
  generalize (((w.alloc (.cells #[.int .i64 wide, .int .i64 high, .slice a n c] 24)).alloc (.cells #[.int .i64 s.nd, .int .i64 s.st, .slice s.ix s.ni s.ci, .slice s.cl s.nc s.cc] 30)).alloc (.cells #[.int .i64 0, .int .i64 0, .slice none 0 0, .slice none 0 0] 30)) = W0 at X0 X1 X2 hB0 ⊢
  have z0 := X0.lt
  have z1 := X1.lt
  have z2 := X2.lt
  have r0 : ∀ Y, Below W0.heap.size W0 Y → Y.cell? ⟨w.heap.size, 0, none⟩ = some (.int .i64 wide) := fun Y h => (X0.below h).at_ 0 rfl
  have r1 : ∀ Y, Below W0.heap.size W0 Y → Y.cell? ⟨w.heap.size, 1, none⟩ = some (.int .i64 high) := fun Y h => (X0.below h).at_ 1 rfl
  have r2 : ∀ Y, Below W0.heap.size W0 Y → Y.cell? ⟨w.heap.size, 2, none⟩ = some (.slice a n c) := fun Y h => (X0.below h).at_ 2 rfl
  have s0 : ∀ Y, Below W0.heap.size W0 Y → Y.cell? ⟨w.heap.size + 1, 0, none⟩ = some (.int .i64 s.nd) := fun Y h => (X1.below h).at_ 0 rfl
  have s1 : ∀ Y, Below W0.heap.size W0 Y → Y.cell? ⟨w.heap.size + 1, 1, none⟩ = some (.int .i64 s.st) := fun Y h => (X1.below h).at_ 1 rfl
  have s2 : ∀ Y, Below W0.heap.size W0 Y → Y.cell? ⟨w.heap.size + 1, 2, none⟩ = some (.slice s.ix s.ni s.ci) := fun Y h => (X1.below h).at_ 2 rfl
  have s3 : ∀ Y, Below W0.heap.size W0 Y → Y.cell? ⟨w.heap.size + 1, 3, none⟩ = some (.slice s.cl s.nc s.cc) := fun Y h => (X1.below h).at_ 3 rfl
  refine wp_region_S (fun Y => Below W0.heap.size W0 Y) 7 (by kernel_rfl) ?_
  refine anyS_take (i := 0) rfl (by kernel_rfl) (fun _ _ _ h => h) (Or.inl ⟨by rfl, fun Y hYb => (by (try dsimp only at hYb); go_simp; rfl)⟩) (by repeat' (first | with_reducible assumption | with_reducible exact Below.refl _ _ | with_reducible refine Below.drew ?_ | with_reducible refine below_drewN ?_ _)) ?_
  simp only [List.getElem_toArray, List.getElem_cons_succ, List.getElem_cons_zero, Act.put, List.setIfInBounds_toArray, List.set_cons_zero, List.set_cons_succ]
  refine anyS_take (i := 1) rfl (by kernel_rfl) (fun _ _ _ h => h) (Or.inl ⟨by rfl, fun Y hYb => (by (try dsimp only at hYb); go_simp; rfl)⟩) (by repeat' (first | with_reducible assumption | with_reducible exact Below.refl _ _ | with_reducible refine Below.drew ?_ | with_reducible refine below_drewN ?_ _)) ?_
  simp only [List.getElem_toArray, List.getElem_cons_succ, List.getElem_cons_zero, Act.put, List.setIfInBounds_toArray, List.set_cons_zero, List.set_cons_succ]
  refine anyS_take (i := 2) rfl (by kernel_rfl) (fun _ _ _ h => h) (Or.inl ⟨by rfl, fun Y hYb => (by (try dsimp only at hYb); go_simp; rfl)⟩) (by repeat' (first | with_reducible assumption | with_reducible exact Below.refl _ _ | with_reducible refine Below.drew ?_ | with_reducible refine below_drewN ?_ _)) ?_
  simp only [List.getElem_toArray, List.getElem_cons_succ, List.getElem_cons_zero, Act.put, List.setIfInBounds_toArray, List.set_cons_zero, List.set_cons_succ]
  refine anyS_take (i := 3) rfl (by kernel_rfl) (fun _ _ _ h => h) (Or.inl ⟨by rfl, fun Y hYb => (by (try dsimp only at hYb); go_simp; rfl)⟩) (by repeat' (first | with_reducible assumption | with_reducible exact Below.refl _ _ | with_reducible refine Below.drew ?_ | with_reducible refine below_drewN ?_ _)) ?_
  simp only [List.getElem_toArray, List.getElem_cons_succ, List.getElem_cons_zero, Act.put, List.setIfInBounds_toArray, List.set_cons_zero, List.set_cons_succ]
  refine anyS_take (i := 4) rfl (by kernel_rfl) (fun _ _ _ h => h) (Or.inl ⟨by rfl, fun Y hYb => (by (try dsimp only at hYb); go_simp; rfl)⟩) (by repeat' (first | with_reducible assumption | with_reducible exact Below.refl _ _ | with_reducible refine Below.drew ?_ | with_reducible refine below_drewN ?_ _)) ?_
  simp only [List.getElem_toArray, List.getElem_cons_succ, List.getElem_cons_zero, Act.put, List.setIfInBounds_toArray, List.set_cons_zero, List.set_cons_succ]
  clear r0 r1 r2 s0 s1 s2 s3
  refine anyS_one (i := 5) (by kernel_rfl) rfl (by rfl) (fun K hK => ?_)
  go_simp
  refine (hRu _ (HR.below (bvia hB0 (by (repeat' (first | with_reducible assumption | with_reducible exact Below.refl _ _ | with_reducible refine Below.drew ?_ | with_reducible refine below_drewN ?_ _ | with_reducible refine balloc ?_ _ | with_reducible refine bset ?_ ?_ _ | with_reducible refine Below.setCell ?_ ?_ _ | with_reducible refine Below.alloc ?_ ?_ _ | omega | (simp; done) | (simp; omega))))))).mono ?_
  rintro e w5 ⟨rfl, hb5⟩
  dsimp only
  have hS5 : Below W0.heap.size W0 w5 := bvia (Below.refl _ W0).drew hb5
  refine hK _ _ (fun _ _ => hS5) ?_
  clear hK K hb5 hRu
  have B5 := bvia hB0 hS5
  cases RB
  · clear hR hAct hA hCo
    refine anyS_one (i := 6) (by kernel_rfl) rfl (by rfl) (fun K hK => ?_)
    go_simp
    refine (hA0 _ (H.below B5) (HO.below B5)).mono ?_
    rintro e w6 ⟨rfl, hb6⟩
    dsimp only
    have hS6 : Below W0.heap.size W0 w6 := bvia hS5 hb6
    refine hK _ _ (fun _ _ => hS6) ?_
    clear hK K
    refine anyS_one (i := 7) (by kernel_rfl) rfl (by rfl) (fun K hK => ?_)
    go_simp
    refine hK _ _ (fun h _ => absurd h (by decide)) ?_
    clear hK K
    refine anyS_done (by kernel_rfl) ?_ _
    have Q2 := X2.below hS6
    have B6 := bvia hB0 hS6
    have q0 := Q2.at_ 0 rfl; have q1 := Q2.at_ 1 rfl; have q2 := Q2.at_ 2 rfl; have q3 := Q2.at_ 3 rfl; have qf := Q2.free; have ql := Q2.lt
    go_wp2_with fail
    have T2 := (((Q2.set_ 0 (by simp) (.int .i64 0)).set_ 1 (by simp) (.int .i64 0)).set_ 2 (by simp) (.slice none 0 0)).set_ 3 (by simp) (.slice none 0 0)
    have TB : Below w.heap.size w ((((w6.setCell ⟨w.heap.size + 1 + 1, 0, none⟩ (.int .i64 0)).setCell ⟨w.heap.size + 1 + 1, 1, none⟩ (.int .i64 0)).setCell ⟨w.heap.size + 1 + 1, 2, none⟩ (.slice none 0 0)).setCell ⟨w.heap.size + 1 + 1, 3, none⟩ (.slice none 0 0)) := by (repeat' (first | with_reducible assumption | with_reducible exact Below.refl _ _ | with_reducible refine Below.drew ?_ | with_reducible refine below_drewN ?_ _ | with_reducible refine balloc ?_ _ | with_reducible refine bset ?_ ?_ _ | with_reducible refine Below.setCell ?_ ?_ _ | with_reducible refine Below.alloc ?_ ?_ _ | omega | (simp; done) | (simp; omega)))
    have c0 := T2.at_ 0 rfl; have c1 := T2.at_ 1 rfl; have c2 := T2.at_ 2 rfl; have c3 := T2.at_ 3 rfl
    generalize (((w6.setCell ⟨w.heap.size + 1 + 1, 0, none⟩ (.int .i64 0)).setCell ⟨w.heap.size + 1 + 1, 1, none⟩ (.int .i64 0)).setCell ⟨w.heap.size + 1 + 1, 2, none⟩ (.slice none 0 0)).setCell ⟨w.heap.size + 1 + 1, 3, none⟩ (.slice none 0 0) = Wf at *
    exact bodyPost_ret (v := .tuple #[.agg #[.int .i64 0, .int .i64 0, .slice none 0 0, .slice none 0 0], .slice none 0 0, .int .i64 (1)]) (by simp [results, Tryz.results9, go_sem, c0, c1, c2, c3]) rfl (actO_fail2 actA_no (by first | assumption | decide) rfl TB)
  · skip
    refine anyS_one (i := 6) (by kernel_rfl) rfl (by rfl) (fun K hK => ?_)
    go_simp
    refine (hA _ (H.below B5) (HO.below B5) (HP.below B5) (HS.below B5)).mono ?_
    rintro e w6 ⟨rfl, hb6⟩
    dsimp only
    have hS6 : Below W0.heap.size W0 w6 := bvia hS5 hb6
    refine hK _ _ (fun _ _ => hS6) ?_
    clear hK K
    refine anyS_one (i := 7) (by kernel_rfl) rfl (by rfl) (fun K hK => ?_)
    go_simp
    refine hK _ _ (fun h _ => absurd h (by decide)) ?_
    clear hK K
    refine anyS_done (by kernel_rfl) ?_ _
    have Q0 := X0.below hS6; have Q1 := X1.below hS6; have Q2 := X2.below hS6
    have B6 := bvia hB0 hS6
    by_cases hE : askE V QB HB SB = 0
    · obtain ⟨rfl, rfl, rfl, rfl⟩ := askE_zero hE
      have hR' := hR hE
      have hAct' := hAct hE rfl
      clear hR hAct hA
      have hEZ : askE true true true true = 0 := rfl
      rw [hEZ]
      have x0 := Q0.at_ 0 rfl; have x1 := Q0.at_ 1 rfl; have x2 := Q0.at_ 2 rfl; have lx := Q0.lt
      go_upto_region 5 with (fail)
      clear x0 x1 x2 lx
      have X4 := Bx.new w6 #[.int .i64 wide, .int .i64 high, .slice a n c, .slice ao no co] 67
      have hb67 : Below w6.heap.size w6 (w6.alloc (.cells #[.int .i64 wide, .int .i64 high, .slice a n c, .slice ao no co] 67)) := below_alloc _ _
      generalize w6.alloc (.cells #[.int .i64 wide, .int .i64 high, .slice a n c, .slice ao no co] 67) = w7 at *
      replace Q1 := Q1.below hb67; replace Q2 := Q2.below hb67
      have B7 := bvia B6 hb67
      have r0 : ∀ Y, Below w7.heap.size w7 Y → Y.cell? ⟨w6.heap.size, 0, none⟩ = some (.int .i64 wide) := fun Y h => (X4.below h).at_ 0 rfl
      have r1 : ∀ Y, Below w7.heap.size w7 Y → Y.cell? ⟨w6.heap.size, 1, none⟩ = some (.int .i64 high) := fun Y h => (X4.below h).at_ 1 rfl
      have r2 : ∀ Y, Below w7.heap.size w7 Y → Y.cell? ⟨w6.heap.size, 2, none⟩ = some (.slice a n c) := fun Y h => (X4.below h).at_ 2 rfl
      have r3 : ∀ Y, Below w7.heap.size w7 Y → Y.cell? ⟨w6.heap.size, 3, none⟩ = some (.slice ao no co) := fun Y h => (X4.below h).at_ 3 rfl
      have s0 : ∀ Y, Below w7.heap.size w7 Y → Y.cell? ⟨w.heap.size + 1, 0, none⟩ = some (.int .i64 s.nd) := fun Y h => (Q1.below h).at_ 0 rfl
      have s1 : ∀ Y, Below w7.heap.size w7 Y → Y.cell? ⟨w.heap.size + 1, 1, none⟩ = some (.int .i64 s.st) := fun Y h => (Q1.below h).at_ 1 rfl
      have s2 : ∀ Y, Below w7.heap.size w7 Y → Y.cell? ⟨w.heap.size + 1, 2, none⟩ = some (.slice s.ix s.ni s.ci) := fun Y h => (Q1.below h).at_ 2 rfl
      have s3 : ∀ Y, Below w7.heap.size w7 Y → Y.cell? ⟨w.heap.size + 1, 3, none⟩ = some (.slice s.cl s.nc s.cc) := fun Y h => (Q1.below h).at_ 3 rfl
      refine wp_region_S (fun Y => Below w7.heap.size w7 Y) 7 (by kernel_rfl) ?_
      refine anyS_take (i := 0) rfl (by kernel_rfl) (fun _ _ _ h => h) (Or.inl ⟨by rfl, fun Y hYb => (by (try dsimp only at hYb); go_simp; rfl)⟩) (by repeat' (first | with_reducible assumption | with_reducible exact Below.refl _ _ | with_reducible refine Below.drew ?_ | with_reducible refine below_drewN ?_ _)) ?_
      simp only [List.getElem_toArray, List.getElem_cons_succ, List.getElem_cons_zero, Act.put, List.setIfInBounds_toArray, List.set_cons_zero, List.set_cons_succ]
      refine anyS_take (i := 1) rfl (by kernel_rfl) (fun _ _ _ h => h) (Or.inl ⟨by rfl, fun Y hYb => (by (try dsimp only at hYb); go_simp; rfl)⟩) (by repeat' (first | with_reducible assumption | with_reducible exact Below.refl _ _ | with_reducible refine Below.drew ?_ | with_reducible refine below_drewN ?_ _)) ?_
      simp only [List.getElem_toArray, List.getElem_cons_succ, List.getElem_cons_zero, Act.put, List.setIfInBounds_toArray, List.set_cons_zero, List.set_cons_succ]
      refine anyS_take (i := 2) rfl (by kernel_rfl) (fun _ _ _ h => h) (Or.inl ⟨by rfl, fun Y hYb => (by (try dsimp only at hYb); go_simp; rfl)⟩) (by repeat' (first | with_reducible assumption | with_reducible exact Below.refl _ _ | with_reducible refine Below.drew ?_ | with_reducible refine below_drewN ?_ _)) ?_
      simp only [List.getElem_toArray, List.getElem_cons_succ, List.getElem_cons_zero, Act.put, List.setIfInBounds_toArray, List.set_cons_zero, List.set_cons_succ]
      clear r0 r1 r2 r3 s0 s1 s2 s3
      refine anyS_one (i := 3) (by kernel_rfl) rfl (by rfl) (fun K hK => ?_)
      go_simp
      refine (hCo _ (HP.below (bvia B7 (by (repeat' (first | with_reducible assumption | with_reducible exact Below.refl _ _ | with_reducible refine Below.drew ?_ | with_reducible refine below_drewN ?_ _ | with_reducible refine balloc ?_ _ | with_reducible refine bset ?_ ?_ _ | with_reducible refine Below.setCell ?_ ?_ _ | with_reducible refine Below.alloc ?_ ?_ _ | omega | (simp; done) | (simp; omega))))))).mono ?_
      rintro e v5 ⟨b, rfl, hM, hb5⟩
      dsimp only
      have hS8 : Below w7.heap.size w7 v5 := bvia (by (repeat' (first | with_reducible assumption | with_reducible exact Below.refl _ _ | with_reducible refine Below.drew ?_ | with_reducible refine below_drewN ?_ _ | with_reducible refine balloc ?_ _ | with_reducible refine bset ?_ ?_ _ | with_reducible refine Below.setCell ?_ ?_ _ | with_reducible refine Below.alloc ?_ ?_ _ | omega | (simp; done) | (simp; omega)))) hb5
      refine hK _ _ (fun _ _ => hS8) ?_
      clear hK K hb5
      refine anyS_one (i := 4) (by kernel_rfl) rfl (by rfl) (fun K hK => ?_)
      go_simp
      refine (hR' b _ (HO.below (bvia B7 hS8)) hM).mono ?_
      rintro e v6 ⟨rfl, hb6'⟩
      dsimp only
      have hS9 : Below w7.heap.size w7 v6 := bvia hS8 hb6'
      refine hK _ _ (fun _ _ => hS9) ?_
      clear hK K hb6'
      refine anyS_take (i := 5) rfl (by kernel_rfl) (fun _ _ _ h => h) (Or.inl ⟨by rfl, fun Y hYb => (by (try dsimp only at hYb); go_simp; rfl)⟩) (by repeat' (first | with_reducible assumption | with_reducible exact Below.refl _ _ | with_reducible refine Below.drew ?_ | with_reducible refine below_drewN ?_ _)) ?_
      simp only [List.getElem_toArray, List.getElem_cons_succ, List.getElem_cons_zero, Act.put, List.setIfInBounds_toArray, List.set_cons_zero, List.set_cons_succ]
      refine anyS_take (i := 6) rfl (by kernel_rfl) (fun _ _ _ h => h) (Or.inl ⟨by rfl, fun Y hYb => (by (try dsimp only at hYb); go_simp; rfl)⟩) (by repeat' (first | with_reducible assumption | with_reducible exact Below.refl _ _ | with_reducible refine Below.drew ?_ | with_reducible refine below_drewN ?_ _)) ?_
      simp only [List.getElem_toArray, List.getElem_cons_succ, List.getElem_cons_zero, Act.put, List.setIfInBounds_toArray, List.set_cons_zero, List.set_cons_succ]
      refine anyS_done (by kernel_rfl) ?_ _
      replace Q1 := Q1.below hS9; replace Q2 := Q2.below hS9; replace X4 := X4.below hS9
      have B9 := bvia B7 hS9
      clear hCo hR' hS8 hM
      cases R
      · skip
        have q0 := Q2.at_ 0 rfl; have q1 := Q2.at_ 1 rfl; have q2 := Q2.at_ 2 rfl; have q3 := Q2.at_ 3 rfl; have qf := Q2.free; have ql := Q2.lt
        go_wp2_with fail
        have T2 := (((Q2.set_ 0 (by simp) (.int .i64 0)).set_ 1 (by simp) (.int .i64 0)).set_ 2 (by simp) (.slice none 0 0)).set_ 3 (by simp) (.slice none 0 0)
        have TB : Below w.heap.size w ((((v6.setCell ⟨w.heap.size + 1 + 1, 0, none⟩ (.int .i64 0)).setCell ⟨w.heap.size + 1 + 1, 1, none⟩ (.int .i64 0)).setCell ⟨w.heap.size + 1 + 1, 2, none⟩ (.slice none 0 0)).setCell ⟨w.heap.size + 1 + 1, 3, none⟩ (.slice none 0 0)) := by (repeat' (first | with_reducible assumption | with_reducible exact Below.refl _ _ | with_reducible refine Below.drew ?_ | with_reducible refine below_drewN ?_ _ | with_reducible refine balloc ?_ _ | with_reducible refine bset ?_ ?_ _ | with_reducible refine Below.setCell ?_ ?_ _ | with_reducible refine Below.alloc ?_ ?_ _ | omega | (simp; done) | (simp; omega)))
        have c0 := T2.at_ 0 rfl; have c1 := T2.at_ 1 rfl; have c2 := T2.at_ 2 rfl; have c3 := T2.at_ 3 rfl
        generalize (((v6.setCell ⟨w.heap.size + 1 + 1, 0, none⟩ (.int .i64 0)).setCell ⟨w.heap.size + 1 + 1, 1, none⟩ (.int .i64 0)).setCell ⟨w.heap.size + 1 + 1, 2, none⟩ (.slice none 0 0)).setCell ⟨w.heap.size + 1 + 1, 3, none⟩ (.slice none 0 0) = Wf at *
        exact bodyPost_ret (v := .tuple #[.agg #[.int .i64 0, .int .i64 0, .slice none 0 0, .slice none 0 0], .slice none 0 0, .int .i64 (12)]) (by simp [results, Tryz.results9, go_sem, c0, c1, c2, c3]) rfl (actO_fail2 (show _ = (12 : Int) from rfl) (by first | assumption | decide) rfl TB)
      · by_cases ht : s.st = 1000000
        · have hEE : actA true true true true true true (s.st == 1000000) = 4 := by rw [ht]; rfl
          have HEE := hid hEE
          have y1 := Q1.at_ 1 rfl; have ly := Q1.lt
          rw [ht] at y1
          clear ht hEE hAct'
          have q0 := Q2.at_ 0 rfl; have q1 := Q2.at_ 1 rfl; have q2 := Q2.at_ 2 rfl; have q3 := Q2.at_ 3 rfl; have qf := Q2.free; have ql := Q2.lt
          go_wp2_with fail
          have T2 := (((Q2.set_ 0 (by simp) (.int .i64 0)).set_ 1 (by simp) (.int .i64 0)).set_ 2 (by simp) (.slice none 0 0)).set_ 3 (by simp) (.slice none 0 0)
          have TB : Below w.heap.size w ((((v6.setCell ⟨w.heap.size + 1 + 1, 0, none⟩ (.int .i64 0)).setCell ⟨w.heap.size + 1 + 1, 1, none⟩ (.int .i64 0)).setCell ⟨w.heap.size + 1 + 1, 2, none⟩ (.slice none 0 0)).setCell ⟨w.heap.size + 1 + 1, 3, none⟩ (.slice none 0 0)) := by (repeat' (first | with_reducible assumption | with_reducible exact Below.refl _ _ | with_reducible refine Below.drew ?_ | with_reducible refine below_drewN ?_ _ | with_reducible refine balloc ?_ _ | with_reducible refine bset ?_ ?_ _ | with_reducible refine Below.setCell ?_ ?_ _ | with_reducible refine Below.alloc ?_ ?_ _ | omega | (simp; done) | (simp; omega)))
          have c0 := T2.at_ 0 rfl; have c1 := T2.at_ 1 rfl; have c2 := T2.at_ 2 rfl; have c3 := T2.at_ 3 rfl
          generalize (((v6.setCell ⟨w.heap.size + 1 + 1, 0, none⟩ (.int .i64 0)).setCell ⟨w.heap.size + 1 + 1, 1, none⟩ (.int .i64 0)).setCell ⟨w.heap.size + 1 + 1, 2, none⟩ (.slice none 0 0)).setCell ⟨w.heap.size + 1 + 1, 3, none⟩ (.slice none 0 0) = Wf at *
          exact bodyPost_ret (v := .tuple #[.agg #[.int .i64 0, .int .i64 0, .slice none 0 0, .slice none 0 0], .slice none 0 0, .int .i64 (4)]) (by simp [results, Tryz.results9, go_sem, c0, c1, c2, c3]) rfl (actO_fail2 HEE.out (by first | assumption | decide) rfl TB)
        · have hEE : actA true true true true true true (s.st == 1000000) = 0 := by
            have : (s.st == 1000000) = false := by rw [beq_eq_false_iff_ne]; exact ht
            rw [this]; rfl
          have HEE := hid hEE
          have htb : (s.st == 1000000) = false := by rw [beq_eq_false_iff_ne]; exact ht
          have hac := hAct' ht v6 (HO.below B9) (HS.below B9) (HP.below B9) (HR.below B9)
          clear hAct' hEE
          have y0 := Q1.at_ 0 rfl; have y1 := Q1.at_ 1 rfl; have y2 := Q1.at_ 2 rfl; have y3 := Q1.at_ 3 rfl; have ly := Q1.lt
          have x0 := X4.at_ 0 rfl; have x1 := X4.at_ 1 rfl; have x2 := X4.at_ 2 rfl; have x3 := X4.at_ 3 rfl; have lx := X4.lt
          go_wp2_with fail
          refine hac.mono ?_
          rintro e w8 hS
          obtain ⟨s', v', E', rfl, hb8, hmove⟩ := actS_move (k := w.heap.size + 1 + 1) hS (by have := Q2.lt; omega) B9
          have Q3 := Q2.below hb8
          have HMV := hid hmove
          clear hmove hS hac x0 x1 x2 x3 lx y0 y1 y2 y3 ly
          unfold SiteR.cells at *
          obtain ⟨s2nd, s2st, s2ix, s2ni, s2ci, s2cl, s2nc, s2cc, s2I, s2C⟩ := s'
          dsimp only at *
          have q0 := Q3.at_ 0 rfl; have q1 := Q3.at_ 1 rfl; have q2 := Q3.at_ 2 rfl; have q3 := Q3.at_ 3 rfl; have qf := Q3.free; have ql := Q3.lt
          go_wp2_with fail
          have T2 := (((Q3.set_ 0 (by simp) (.int .i64 s2nd)).set_ 1 (by simp) (.int .i64 s2st)).set_ 2 (by simp) (.slice s2ix s2ni s2ci)).set_ 3 (by simp) (.slice s2cl s2nc s2cc)
          have TU : But (fun b => b = w.heap.size + 1 + 1) w8 ((((w8.setCell ⟨w.heap.size + 1 + 1, 0, none⟩ (.int .i64 s2nd)).setCell ⟨w.heap.size + 1 + 1, 1, none⟩ (.int .i64 s2st)).setCell ⟨w.heap.size + 1 + 1, 2, none⟩ (.slice s2ix s2ni s2ci)).setCell ⟨w.heap.size + 1 + 1, 3, none⟩ (.slice s2cl s2nc s2cc)) := ((((But.refl (fun b => b = w.heap.size + 1 + 1) w8).set_ (p := ⟨w.heap.size + 1 + 1, 0, none⟩) rfl _).set_ (p := ⟨w.heap.size + 1 + 1, 1, none⟩) rfl _).set_ (p := ⟨w.heap.size + 1 + 1, 2, none⟩) rfl _).set_ (p := ⟨w.heap.size + 1 + 1, 3, none⟩) rfl _
          have c0 := T2.at_ 0 rfl; have c1 := T2.at_ 1 rfl; have c2 := T2.at_ 2 rfl; have c3 := T2.at_ 3 rfl
          have hfin := HMV.out _ TU
          generalize (((w8.setCell ⟨w.heap.size + 1 + 1, 0, none⟩ (.int .i64 s2nd)).setCell ⟨w.heap.size + 1 + 1, 1, none⟩ (.int .i64 s2st)).setCell ⟨w.heap.size + 1 + 1, 2, none⟩ (.slice s2ix s2ni s2ci)).setCell ⟨w.heap.size + 1 + 1, 3, none⟩ (.slice s2cl s2nc s2cc) = Wf at *
          exact bodyPost_ret (v := .tuple #[.agg #[.int .i64 s2nd, .int .i64 s2st, .slice s2ix s2ni s2ci, .slice s2cl s2nc s2cc], v', .int .i64 E']) (by simp [results, Tryz.results9, go_sem, c0, c1, c2, c3]) rfl (actO_ok (by first | exact HEE.out | rfl) hfin)
    · have hEq := actA_ask (r := R) (t := s.st == 1000000) hE
      have HEQ := hid hEq
      clear hEq
      generalize askE V QB HB SB = E at *
      have hEb : (E != 0) = true := by simpa [bne] using hE
      have q0 := Q2.at_ 0 rfl; have q1 := Q2.at_ 1 rfl; have q2 := Q2.at_ 2 rfl; have q3 := Q2.at_ 3 rfl; have qf := Q2.free; have ql := Q2.lt
      go_wp2_with fail
      have T2 := (((Q2.set_ 0 (by simp) (.int .i64 0)).set_ 1 (by simp) (.int .i64 0)).set_ 2 (by simp) (.slice none 0 0)).set_ 3 (by simp) (.slice none 0 0)
      have TB : Below w.heap.size w ((((w6.setCell ⟨w.heap.size + 1 + 1, 0, none⟩ (.int .i64 0)).setCell ⟨w.heap.size + 1 + 1, 1, none⟩ (.int .i64 0)).setCell ⟨w.heap.size + 1 + 1, 2, none⟩ (.slice none 0 0)).setCell ⟨w.heap.size + 1 + 1, 3, none⟩ (.slice none 0 0)) := by (repeat' (first | with_reducible assumption | with_reducible exact Below.refl _ _ | with_reducible refine Below.drew ?_ | with_reducible refine below_drewN ?_ _ | with_reducible refine balloc ?_ _ | with_reducible refine bset ?_ ?_ _ | with_reducible refine Below.setCell ?_ ?_ _ | with_reducible refine Below.alloc ?_ ?_ _ | omega | (simp; done) | (simp; omega)))
      have c0 := T2.at_ 0 rfl; have c1 := T2.at_ 1 rfl; have c2 := T2.at_ 2 rfl; have c3 := T2.at_ 3 rfl
      generalize (((w6.setCell ⟨w.heap.size + 1 + 1, 0, none⟩ (.int .i64 0)).setCell ⟨w.heap.size + 1 + 1, 1, none⟩ (.int .i64 0)).setCell ⟨w.heap.size + 1 + 1, 2, none⟩ (.slice none 0 0)).setCell ⟨w.heap.size + 1 + 1, 3, none⟩ (.slice none 0 0) = Wf at *
      exact bodyPost_ret (v := .tuple #[.agg #[.int .i64 0, .int .i64 0, .slice none 0 0, .slice none 0 0], .slice none 0 0, .int .i64 (E)]) (by simp [results, Tryz.results9, go_sem, c0, c1, c2, c3]) rfl (actO_fail2 HEQ.out (by first | assumption | decide) rfl TB)
end Go.Proofs.YtmmjaobpoiofdaaGreat
