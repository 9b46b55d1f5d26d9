/- Walk: act, of the reference. -/
import Derived.Test.YtmmjaobpoiofdaaGreatNRefInv
import Derived.Test.YtmmjaobpoiofdaaGreatRefCell
namespace Go.Proofs.YtmmjaobpoiofdaaGreat
open Go Go.RowKit
attribute [local go_sem] Oper.semAt_some
set_option linter.unusedVariables false
set_option linter.unusedSimpArgs false
theorem Ro.but3 {C : Nat → Prop} {X Y : World} {b n : Nat} {f : Nat → Int} (h : Ro X b n f) (hb : But C X Y) (hc : ¬ C b) : Ro Y b n f := by
  have e := hb.block b h.lt hc
  refine ⟨Nat.lt_of_lt_of_le h.lt hb.size, fun i hi => ?_, fun i => ?_⟩
  · rw [World.cell?_of_block (w := X) (a := ⟨b, i, none⟩) e]; exact h.cells i hi
  · rw [World.frozen?_of_block (w := X) (a := ⟨b, i, none⟩) e]; exact h.free i
theorem mine_iff {nd st : Int} {x : N6} : mineB nd st x = true ↔ x.to = nd ∧ x.st = st := by unfold mineB; rw [Bool.and_eq_true, decide_eq_true_iff, decide_eq_true_iff]
set_option maxRecDepth 100000 in
set_option maxHeartbeats 16000000 in
theorem ref5_act (Wd Hd : Nat) (a ao rl ap : Option Addr) (n c no co rn rc q cp : Nat) (o : Nat → Int) (ru : Nat → Int × Int) (s : SiteR) (p : Nat → N6) (w : World) (h1 : 1 ≤ Wd ∧ Wd ≤ 64) (h2 : 1 ≤ Hd ∧ Hd ≤ 64) (hn4 : Wd * Hd ≤ 1024) (hno : no = Wd * Hd)
    (hs : siteB o no s = true) (hst : s.st < 1000000) (h0 : 0 < s.ni) (hpb : postB Wd Hd o no q p = true) (hru : rulesB rn ru = true) (HO : Sl w ao no o) (HS : s.lies w) (HP : Sn w ap q p) (HR : Sr w rl rn ru) :
    Calls Tryz.prog 35 #[.agg #[.int .i64 (Wd : Int), .int .i64 (Hd : Int), .slice a n c], .slice ao no co, .slice rl rn rc, .agg s.cells, .slice ap q cp] w (ActS Wd Hd o (ru (s.st.toNat % rn)) no s p q w) := by
  obtain ⟨hq5, hnB, hmB⟩ := postB_iff.1 hpb
  have hfit := site_fit hs
  obtain ⟨hw1, hsl, hsc, hsm⟩ := siteB_iff.1 hs
  have hst0 : 0 ≤ s.st ∧ s.st ≤ 1000000 := by simpa [within] using hw1
  obtain ⟨hl1, hnc, hl2⟩ := site_I hs
  have hno4 : no ≤ 1024 := by omega
  have hni : s.ni ≤ no := by rw [hl1]; exact ownL_length o s.nd no
  have hpf := post_fit hpb
  have hmk := fun W' => mk_cells no no rfl (by omega) W'
  have hms := (massB_iff _ _).1 hsm
  rw [hnc] at hms
  have hm0 : 0 ≤ massTo s.C s.ni ∧ massTo s.C s.ni ≤ 1000000000 := ⟨massTo_nonneg _ _ fun j hj => hms.1 j hj, hms.2⟩
  have hwt := fun aa cc W S => ref5_weight aa s.ni cc s.C W (by omega) S hms.1
  have HSB := hid hs; have HPB := hid hpb
  have HFI := hid hfit; have HL2 := hid hl2; have HNB := hid hnB; have HMB := hid hmB; have HNO := hid hno; have HL1 := hid hl1; have HRU := hid hru; have HST := hid hst; have HPF := hid hpf
  clear hs hpb hnB hmB hw1 hsl hsc hl2 hl1 hno hru hpf hms
  have hncE := hnc
  unfold SiteR.cells
  obtain ⟨HIX, HCL, _⟩ := HS
  rw [hnc] at HCL ⊢
  have HNC := hid hnc
  clear hnc hncE
  generalize s.ix = ix at *
  generalize s.cl = cl at *
  generalize s.ci = ci at *
  generalize s.cc = cc at *
  have X0 := ((Bx.new w #[.int .i64 (Wd : Int), .int .i64 (Hd : Int), .slice a n c] 24).alloc (.cells #[.int .i64 s.nd, .int .i64 s.st, .slice ix s.ni ci, .slice cl s.ni cc] 30)).alloc (.cells #[.int .i64 0, .int .i64 0, .slice none 0 0, .slice none 0 0] 30)
  have X1 := (Bx.new (w.alloc (.cells #[.int .i64 (Wd : Int), .int .i64 (Hd : Int), .slice a n c] 24)) #[.int .i64 s.nd, .int .i64 s.st, .slice ix s.ni ci, .slice cl s.ni cc] 30).alloc (.cells #[.int .i64 0, .int .i64 0, .slice none 0 0, .slice none 0 0] 30)
  have X2 := Bx.new ((w.alloc (.cells #[.int .i64 (Wd : Int), .int .i64 (Hd : Int), .slice a n c] 24)).alloc (.cells #[.int .i64 s.nd, .int .i64 s.st, .slice ix s.ni ci, .slice cl s.ni cc] 30)) #[.int .i64 0, .int .i64 0, .slice none 0 0, .slice none 0 0] 30
  simp only [World.size_alloc] at X1 X2
  have hB0 : Below w.heap.size w (((w.alloc (.cells #[.int .i64 (Wd : Int), .int .i64 (Hd : Int), .slice a n c] 24)).alloc (.cells #[.int .i64 s.nd, .int .i64 s.st, .slice ix s.ni ci, .slice cl s.ni cc] 30)).alloc (.cells #[.int .i64 0, .int .i64 0, .slice none 0 0, .slice none 0 0] 30)) := by (repeat' (first | with_reducible assumption | with_reducible exact Below.refl _ _ | with_reducible refine Below.drew ?_ | with_reducible refine below_drewN ?_ _ | with_reducible refine balloc ?_ _ | with_reducible refine bset ?_ ?_ _ | with_reducible refine Below.setCell ?_ ?_ _ | with_reducible refine Below.alloc ?_ ?_ _ | omega | (simp; done) | (simp; omega)))
  go_enter Tryz.func35, Tryz.ntmps35
  go_upto_region 1 with (fail)
  generalize (((w.alloc (.cells #[.int .i64 (Wd : Int), .int .i64 (Hd : Int), .slice a n c] 24)).alloc (.cells #[.int .i64 s.nd, .int .i64 s.st, .slice ix s.ni ci, .slice cl s.ni cc] 30)).alloc (.cells #[.int .i64 0, .int .i64 0, .slice none 0 0, .slice none 0 0] 30)) = W0 at X0 X1 X2 hB0 ⊢
  have z0 := X0.lt
  have z1 := X1.lt
  have z2 := X2.lt
  go_wp2
  have RG := roC_made W0 no
  have hb1 : Below W0.heap.size W0 (W0.alloc (.cells (ccells no) 80)) := below_alloc _ _
  generalize hbg : W0.heap.size = bg at RG ⊢
  have hbgl : bg = W0.heap.size := hbg.symm
  clear hbg hmk
  generalize W0.alloc (.cells (ccells no) 80) = w1 at *
  replace X0 := X0.below hb1; replace X1 := X1.below hb1; replace X2 := X2.below hb1
  have B1 := bvia hB0 hb1
  have hs1 := hb1.size
  have hbg2 : w.heap.size + 1 + 1 < bg := by omega
  have hbgl1 := RG.lt
  clear hB0 hb1 hbgl z0 z1 z2
  have hL0 : layTo (fun _ => C4.zero) s 0 = fun _ => C4.zero := rfl
  rw [← hL0] at RG
  clear hL0
  have hLs : ∀ j, layTo (fun _ => C4.zero) s (j + 1) = updC (layTo (fun _ => C4.zero) s j) (s.I j).toNat (s.C j) := fun _ => rfl
  obtain ⟨LA, hLA⟩ : ∃ L, L = layTo (fun _ => C4.zero) s := ⟨_, rfl⟩
  rw [← hLA] at RG hLs
  have HLA := hid hLA; have HLS := hid hLs
  clear hLA hLs
  have hnnI : s.ni ≤ 1024 := by omega
  go_loopw [14] (fun i wr => ∃ k : Nat, k ≤ s.ni ∧ i = .int .i64 k ∧ Ro wr bg (no * 4) (flatC (LA k)) ∧ But (fun b => b = bg) w1 wr) (fun i _ => s.ni - (intOf i).toNat)
  case atStart => exact ⟨0, Nat.zero_le _, rfl, RG, But.refl _ _⟩
  case round =>
    clear RG
    obtain ⟨k, hk, rfl, RG, hU⟩ := hrel
    have Bl : Below w.heap.size w wr := below_but (C := fun b => b = bg) B1 (hU.mono (fun b _ h => ⟨by omega, h⟩))
    have Y1 := X1.but hU (by omega)
    have hsl := hU.size
    by_cases hlt : k < s.ni
    · obtain ⟨bi, oi, rfl, hbi, ci0⟩ := HIX k hlt
      obtain ⟨bc, oc, rfl, hbc, cc0, cc1, cc2, cc3⟩ := HCL k hlt
      obtain ⟨u1, u2⟩ := HFI.out.2.1 k hlt
      have hls := HLS.out k
      obtain ⟨i, hi⟩ : ∃ i : Nat, s.I k = i := ⟨(s.I k).toNat, by omega⟩
      rw [hi] at ci0 u2 hls
      rw [Int.toNat_natCast] at hls
      have hin : i < no := by omega
      generalize s.C k = cj at *
      have HLJ := hid hls
      clear hls u1 u2 hi
      have lg := RG.lt; have ly := Y1.lt
      have gi := (bcell Bl _ _ hbi).trans ci0
      have g0 := (bcell Bl _ _ hbc).trans cc0; have g1 := (bcell Bl _ _ hbc).trans cc1; have g2 := (bcell Bl _ _ hbc).trans cc2; have g3 := (bcell Bl _ _ hbc).trans cc3
      have hbi2 := Nat.lt_of_lt_of_le hbi Bl.size; have hbc2 := Nat.lt_of_lt_of_le hbc Bl.size
      have x2 := Y1.at_ 2 rfl
      go_upto_region 5 with (fail)
      clear x2
      have r0 : ∀ Y, Below wr.heap.size wr Y → Y.cell? ⟨w.heap.size + 1, 2, none⟩ = some (.slice (some ⟨bi, oi, none⟩) s.ni ci) := fun Y h => (Y1.below h).at_ 2 rfl
      have r1 : ∀ Y, Below wr.heap.size wr Y → Y.cell? ⟨w.heap.size + 1, 3, none⟩ = some (.slice (some ⟨bc, oc, none⟩) s.ni cc) := fun Y h => (Y1.below h).at_ 3 rfl
      have r3 : ∀ Y, Below wr.heap.size wr Y → Y.cell? ⟨bi, oi + k, none⟩ = some (.int .i64 (i : Int)) := fun Y h => (bcell h _ _ hbi2).trans gi
      have r4 : ∀ Y, Below wr.heap.size wr Y → Y.cell? ⟨bc, oc + k * 4, none⟩ = some (.int .i64 cj.e) := fun Y h => (bcell h _ _ hbc2).trans g0
      have r5 : ∀ Y, Below wr.heap.size wr Y → Y.cell? ⟨bc, oc + k * 4 + 1, none⟩ = some (.int .i64 cj.n) := fun Y h => (bcell h _ _ hbc2).trans g1
      have r6 : ∀ Y, Below wr.heap.size wr Y → Y.cell? ⟨bc, oc + k * 4 + 2, none⟩ = some (.int .i64 cj.w) := fun Y h => (bcell h _ _ hbc2).trans g2
      have r7 : ∀ Y, Below wr.heap.size wr Y → Y.cell? ⟨bc, oc + k * 4 + 3, none⟩ = some (.int .i64 cj.s) := fun Y h => (bcell h _ _ hbc2).trans g3
      obtain ⟨y0, y1, y2, y3⟩ := RG.scell hin
      have yf := RG.free
      clear gi g0 g1 g2 g3
      refine wp_region_S (fun Y => Below wr.heap.size wr Y) 12 (by kernel_rfl) ?_
      refine anyS_take (i := 0) rfl (by kernel_rfl) (fun _ _ _ h => h) (Or.inl ⟨by rfl, fun Y hYb => (by (try dsimp only at hYb); go_simp; rfl)⟩) (by repeat' (first | with_reducible assumption | with_reducible exact Below.refl _ _ | with_reducible refine Below.drew ?_ | with_reducible refine below_drewN ?_ _)) ?_
      simp only [List.getElem_toArray, List.getElem_cons_succ, List.getElem_cons_zero, Act.put, List.setIfInBounds_toArray, List.set_cons_zero, List.set_cons_succ]
      refine anyS_take (i := 1) rfl (by kernel_rfl) (fun _ _ _ h => h) (Or.inl ⟨by rfl, fun Y hYb => (by (try dsimp only at hYb); go_simp; rfl)⟩) (by repeat' (first | with_reducible assumption | with_reducible exact Below.refl _ _ | with_reducible refine Below.drew ?_ | with_reducible refine below_drewN ?_ _)) ?_
      simp only [List.getElem_toArray, List.getElem_cons_succ, List.getElem_cons_zero, Act.put, List.setIfInBounds_toArray, List.set_cons_zero, List.set_cons_succ]
      refine anyS_take (i := 2) rfl (by kernel_rfl) (fun _ _ _ h => h) (Or.inl ⟨by rfl, fun Y hYb => (by (try dsimp only at hYb); go_simp; rfl)⟩) (by repeat' (first | with_reducible assumption | with_reducible exact Below.refl _ _ | with_reducible refine Below.drew ?_ | with_reducible refine below_drewN ?_ _)) ?_
      simp only [List.getElem_toArray, List.getElem_cons_succ, List.getElem_cons_zero, Act.put, List.setIfInBounds_toArray, List.set_cons_zero, List.set_cons_succ]
      refine anyS_take (i := 3) rfl (by kernel_rfl) (fun _ _ _ h => h) (Or.inl ⟨by rfl, fun Y hYb => (by (try dsimp only at hYb); go_simp; rfl)⟩) (by repeat' (first | with_reducible assumption | with_reducible exact Below.refl _ _ | with_reducible refine Below.drew ?_ | with_reducible refine below_drewN ?_ _)) ?_
      simp only [List.getElem_toArray, List.getElem_cons_succ, List.getElem_cons_zero, Act.put, List.setIfInBounds_toArray, List.set_cons_zero, List.set_cons_succ]
      refine anyS_take (i := 4) rfl (by kernel_rfl) (fun _ _ _ h => h) (Or.inl ⟨by rfl, fun Y hYb => (by (try dsimp only at hYb); go_simp; rfl)⟩) (by repeat' (first | with_reducible assumption | with_reducible exact Below.refl _ _ | with_reducible refine Below.drew ?_ | with_reducible refine below_drewN ?_ _)) ?_
      simp only [List.getElem_toArray, List.getElem_cons_succ, List.getElem_cons_zero, Act.put, List.setIfInBounds_toArray, List.set_cons_zero, List.set_cons_succ]
      refine anyS_take (i := 5) rfl (by kernel_rfl) (fun _ _ _ h => h) (Or.inl ⟨by rfl, fun Y hYb => (by (try dsimp only at hYb); go_simp; rfl)⟩) (by repeat' (first | with_reducible assumption | with_reducible exact Below.refl _ _ | with_reducible refine Below.drew ?_ | with_reducible refine below_drewN ?_ _)) ?_
      simp only [List.getElem_toArray, List.getElem_cons_succ, List.getElem_cons_zero, Act.put, List.setIfInBounds_toArray, List.set_cons_zero, List.set_cons_succ]
      refine anyS_take (i := 6) rfl (by kernel_rfl) (fun _ _ _ h => h) (Or.inl ⟨by rfl, fun Y hYb => (by (try dsimp only at hYb); go_simp; rfl)⟩) (by repeat' (first | with_reducible assumption | with_reducible exact Below.refl _ _ | with_reducible refine Below.drew ?_ | with_reducible refine below_drewN ?_ _)) ?_
      simp only [List.getElem_toArray, List.getElem_cons_succ, List.getElem_cons_zero, Act.put, List.setIfInBounds_toArray, List.set_cons_zero, List.set_cons_succ]
      refine anyS_take (i := 7) rfl (by kernel_rfl) (fun _ _ _ h => h) (Or.inl ⟨by rfl, fun Y hYb => (by (try dsimp only at hYb); go_simp; rfl)⟩) (by repeat' (first | with_reducible assumption | with_reducible exact Below.refl _ _ | with_reducible refine Below.drew ?_ | with_reducible refine below_drewN ?_ _)) ?_
      simp only [List.getElem_toArray, List.getElem_cons_succ, List.getElem_cons_zero, Act.put, List.setIfInBounds_toArray, List.set_cons_zero, List.set_cons_succ]
      refine anyS_take (i := 8) rfl (by kernel_rfl) (fun _ _ _ h => h) (Or.inl ⟨by rfl, fun Y hYb => (by (try dsimp only at hYb); go_simp; rfl)⟩) (by repeat' (first | with_reducible assumption | with_reducible exact Below.refl _ _ | with_reducible refine Below.drew ?_ | with_reducible refine below_drewN ?_ _)) ?_
      simp only [List.getElem_toArray, List.getElem_cons_succ, List.getElem_cons_zero, Act.put, List.setIfInBounds_toArray, List.set_cons_zero, List.set_cons_succ]
      refine anyS_take (i := 9) rfl (by kernel_rfl) (fun _ _ _ h => h) (Or.inl ⟨by rfl, fun Y hYb => (by (try dsimp only at hYb); go_simp; rfl)⟩) (by repeat' (first | with_reducible assumption | with_reducible exact Below.refl _ _ | with_reducible refine Below.drew ?_ | with_reducible refine below_drewN ?_ _)) ?_
      simp only [List.getElem_toArray, List.getElem_cons_succ, List.getElem_cons_zero, Act.put, List.setIfInBounds_toArray, List.set_cons_zero, List.set_cons_succ]
      refine anyS_take (i := 10) rfl (by kernel_rfl) (fun _ _ _ h => h) (Or.inl ⟨by rfl, fun Y hYb => (by (try dsimp only at hYb); go_simp; rfl)⟩) (by repeat' (first | with_reducible assumption | with_reducible exact Below.refl _ _ | with_reducible refine Below.drew ?_ | with_reducible refine below_drewN ?_ _)) ?_
      simp only [List.getElem_toArray, List.getElem_cons_succ, List.getElem_cons_zero, Act.put, List.setIfInBounds_toArray, List.set_cons_zero, List.set_cons_succ]
      refine anyS_take (i := 11) rfl (by kernel_rfl) (fun _ _ _ h => h) (Or.inl ⟨by rfl, fun Y hYb => (by (try dsimp only at hYb); go_simp; rfl)⟩) (by repeat' (first | with_reducible assumption | with_reducible exact Below.refl _ _ | with_reducible refine Below.drew ?_ | with_reducible refine below_drewN ?_ _)) ?_
      simp only [List.getElem_toArray, List.getElem_cons_succ, List.getElem_cons_zero, Act.put, List.setIfInBounds_toArray, List.set_cons_zero, List.set_cons_succ]
      refine anyS_one (i := 12) (by kernel_rfl) rfl (by rfl) (fun K hK => ?_)
      go_simp
      refine hK _ _ (fun h _ => absurd h (by decide)) ?_
      clear hK K
      refine anyS_done (by kernel_rfl) ?_ _
      clear r0 r1 r3 r4 r5 r6 r7 y0 y1 y2 y3 yf
      go_wp2_with fail
      go_roundw
      case rel => exact ⟨k + 1, by omega, by go_num, by rw [HLJ.out]; exact RG.drew.setC i cj, ((((hU.drew).set_ (p := ⟨bg, i * 4, none⟩) rfl _).set_ (p := ⟨bg, i * 4 + 1, none⟩) rfl _).set_ (p := ⟨bg, i * 4 + 2, none⟩) rfl _).set_ (p := ⟨bg, i * 4 + 3, none⟩) rfl _⟩
      case measure => simp [intOf]; omega
    · obtain rfl : k = s.ni := (by omega)
      have x2 := Y1.at_ 2 rfl; have x3 := Y1.at_ 3 rfl; have ly := Y1.lt
      go_wp2_with fail
      refine (hwt _ _ _ (HCL.below Bl)).mono ?_
      rintro e w3 ⟨rfl, hb3⟩
      have hU3 := hU.trans (but_below (C := fun b => b = bg) hb3 (Nat.le_refl _))
      have Bl3 := bvia Bl hb3
      replace RG := RG.below hb3
      clear x2 x3 ly Y1 hwt hU hb3 Bl hsl HLS
      rw [HLA.out] at RG
      have hG0 : addM s.nd s.st (layTo (fun _ => C4.zero) s s.ni) p 0 = layTo (fun _ => C4.zero) s s.ni := rfl
      rw [← hG0] at RG
      clear hG0
      have hGy : ∀ j, mineB s.nd s.st (p j) = true → addM s.nd s.st (layTo (fun _ => C4.zero) s s.ni) p (j + 1) = addC (addM s.nd s.st (layTo (fun _ => C4.zero) s s.ni) p j) (p j) ∧ coM s.nd s.st p (j + 1) = coM s.nd s.st p j + (p j).co ∧ restL s.nd s.st p (j + 1) = restL s.nd s.st p j := fun j h => by
        simp only [addM, coM, restL, if_pos h]
        exact ⟨trivial, trivial, trivial⟩
      have hGn : ∀ j, mineB s.nd s.st (p j) = false → addM s.nd s.st (layTo (fun _ => C4.zero) s s.ni) p (j + 1) = addM s.nd s.st (layTo (fun _ => C4.zero) s s.ni) p j ∧ coM s.nd s.st p (j + 1) = coM s.nd s.st p j ∧ restL s.nd s.st p (j + 1) = restL s.nd s.st p j ++ [p j] := fun j h => by
        simp only [addM, coM, restL, h]
        exact ⟨if_neg (by decide), if_neg (by decide), if_neg (by decide)⟩
      have hgot : addM s.nd s.st (layTo (fun _ => C4.zero) s s.ni) p q = gotM s p q := rfl
      have hact : massTo s.C s.ni + coM s.nd s.st p q = actM s p q := rfl
      have hbd : ∀ j, j ≤ q → ∀ i d, d < 4 → 0 ≤ (addM s.nd s.st (layTo (fun _ => C4.zero) s s.ni) p j i).get d ∧ (addM s.nd s.st (layTo (fun _ => C4.zero) s s.ni) p j i).get d ≤ 2000000000 := fun j hj i d hd => by
        rw [addM_get (fun k hk => HNB.out k (by omega)) (fun k hk => HMB.out k (by omega)) i d hd]
        have e1 := validC_get (layTo_valid HFI.out (G := fun _ => C4.zero) (fun _ => by decide) s.ni (Nat.le_refl _) i) hd
        have e2 : 0 ≤ inV o Wd Hd s.nd s.st p j i d ∧ inV o Wd Hd s.nd s.st p j i d ≤ 1000000000 := by
          unfold inV
          split
          · exact cntV_bnd (n := 0) (q := 0) _ fun k hk => (noteR_iff.1 (noteB_iff.1 (HNB.out k (by omega))).1).2.2.2
          · omega
        omega
      have hcn : ∀ j, j ≤ q → 0 ≤ coM s.nd s.st p j ∧ coM s.nd s.st p j ≤ coM s.nd s.st p q := by
        have key : ∀ d j, j + d ≤ q → 0 ≤ coM s.nd s.st p j ∧ coM s.nd s.st p j ≤ coM s.nd s.st p (j + d) := by
          intro d
          induction d with
          | zero => exact fun j hj => ⟨(coM_nonneg (n := no) fun i hi => HPF.out i (by omega)).1, Int.le_refl _⟩
          | succ d ih =>
            intro j hj
            obtain ⟨e1, e2⟩ := ih j (by omega)
            refine ⟨e1, Int.le_trans e2 ?_⟩
            have := (HPF.out (j + d) (by omega)).2.2.2.2.1
            rw [← Nat.add_assoc]
            simp only [coM]
            split <;> omega
        intro j hj
        have := key (q - j) j (by omega)
        rwa [Nat.add_sub_cancel' hj] at this
      have hrl := fun j => restL_length (nd := s.nd) (st := s.st) (p := p) j
      have HGY := hid hGy; have HGN := hid hGn; have HGOT := hid hgot; have HACT := hid hact; have HBD := hid hbd; have HCN := hid hcn; have HRL := hid hrl
      clear hGy hGn hact hbd hcn hrl hgot
      obtain ⟨GA, hGA⟩ : ∃ G, G = addM s.nd s.st (layTo (fun _ => C4.zero) s s.ni) p := ⟨_, rfl⟩
      rw [← hGA] at RG HGY HGN HGOT HBD
      clear hGA HLA
      generalize massTo s.C s.ni = M0 at *
      obtain ⟨j0, hj0, hy0, hy1, hy2⟩ := info_parts infoN
      go_wp2_with fail
      go_loopw [15, 16, 17] (fun al v16 i wr => ∃ k : Nat, k ≤ q ∧ i = .int .i64 k ∧ al = .int .i64 (M0 + coM s.nd s.st p k) ∧ M0 + coM s.nd s.st p k ≤ 1000000000 ∧ OwnN wr w1.heap.size v16 (restL s.nd s.st p k) ∧ Ro wr bg (no * 4) (flatC (GA k)) ∧ But (fun b => b = bg) w1 wr) (fun _ _ i _ => q - (intOf i).toNat)
      case atStart => exact ⟨0, Nat.zero_le _, rfl, by rw [show coM s.nd s.st p 0 = 0 from rfl, Int.add_zero], by rw [show coM s.nd s.st p 0 = 0 from rfl]; omega, ownN_nil _ _, RG, hU3⟩
      case round =>
        clear RG hU3 Bl3
        obtain ⟨k, hk, rfl, rfl, hle, hN, RG, hU⟩ := hrel
        have Bl : Below w.heap.size w wr := below_but (C := fun b => b = bg) B1 (hU.mono (fun b _ h => ⟨by omega, h⟩))
        have hsl := hU.size
        have Y1 := X1.but hU (by omega)
        have hck := HCN.out k hk
        have hrlk := HRL.out k
        by_cases hlt : k < q
        · obtain ⟨b1, o1, rfl, hb1, d0, d1, d2, d3, d4, d5⟩ := HP.six hlt
          obtain ⟨n1, n2, n3, n4, n5, n6⟩ := HPF.out k hlt
          have hyes := HGY.out k; have hno' := HGN.out k
          have hbdk := HBD.out k hk
          have hcn1 := HCN.out (k + 1) hlt
          have hmi := mine_iff (nd := s.nd) (st := s.st) (x := p k)
          have c0 := (bcell Bl _ _ hb1).trans d0; have c1 := (bcell Bl _ _ hb1).trans d1; have c2 := (bcell Bl _ _ hb1).trans d2; have c3 := (bcell Bl _ _ hb1).trans d3; have c4 := (bcell Bl _ _ hb1).trans d4; have c5 := (bcell Bl _ _ hb1).trans d5
          have hb2 := Nat.lt_of_lt_of_le hb1 Bl.size
          have HYE := hid hyes; have HNE := hid hno'; have HMI := hid hmi
          clear d0 d1 d2 d3 d4 d5 hyes hno' hmi
          generalize p k = x at *
          have x0 := Y1.at_ 0 rfl; have x1 := Y1.at_ 1 rfl; have lx := Y1.lt
          obtain ⟨st', fr', to', ce', di', co'⟩ := x
          dsimp only at *
          obtain ⟨b_to, hbto⟩ : ∃ b, (to' == s.nd) = b := ⟨_, rfl⟩
          obtain ⟨b_st, hbst⟩ : ∃ b, (st' == s.st) = b := ⟨_, rfl⟩
          cases b_to
          · skip
            obtain ⟨g1, g2, g3⟩ := HNE.out (by
              rw [← Bool.not_eq_true, HMI.out]
              rintro ⟨e1, e2⟩
              rw [e1] at hbto; simp at hbto)
            have HG1 := hid g1; have HG2 := hid g2; have HG3 := hid g3
            clear g1 g2 g3
            have hnews : ∀ j u, (N6.list ⟨st', fr', to', ce', di', co'⟩)[j]? = some u → ((wr.alloc (.cells #[.int .i64 st', .int .i64 fr', .int .i64 (to'), .int .i64 ce', .int .i64 di', .int .i64 co'] 78)).alloc (.cells #[.int .i64 st', .int .i64 fr', .int .i64 (to'), .int .i64 ce', .int .i64 di', .int .i64 co'] 78)).cell? ((⟨wr.heap.size + 1, 0, none⟩ : Addr).add j) = some u := by
              have := cells_new (wr.alloc (.cells #[.int .i64 st', .int .i64 fr', .int .i64 (to'), .int .i64 ce', .int .i64 di', .int .i64 co'] 78)) (N6.list ⟨st', fr', to', ce', di', co'⟩) 78
              rw [World.size_alloc] at this
              exact this
            have hN2 := World.ownsRow.alloc (World.ownsRow.alloc hN (.cells #[.int .i64 st', .int .i64 fr', .int .i64 (to'), .int .i64 ce', .int .i64 di', .int .i64 co'] 78)) (.cells #[.int .i64 st', .int .i64 fr', .int .i64 (to'), .int .i64 ce', .int .i64 di', .int .i64 co'] 78)
            have hl9 : (restL s.nd s.st p k).length + 1 ≤ maxLen := Nat.le_trans (show _ ≤ 100001 by omega) (by decide)
            go_wp2_with (at_builtin; refine wpList_append_own_at _ rfl _ _ 31 rfl w1.heap.size 78 j0 _ 6 48 Tryz.underlying31 hj0 hy0 hy1 hy2 rfl (by decide) _ _ _ rfl hN2 ⟨wr.heap.size + 1, 0, none⟩ 1 1 (N6.list ⟨st', fr', to', ce', di', co'⟩) rfl rfl hnews (n6_one _) hl9 (by omega) (by simp; omega) ?_; intro v' w9 hown' hgrow _ hat)
            clear hnews hN2
            go_roundw
            have hS9 : But (fun b => w1.heap.size ≤ b) wr w9 := but_grownN (((But.refl _ wr).alloc _).alloc _) hgrow (fun g hg => own_base hN g hg)
            case rel => exact ⟨k + 1, by omega, by go_num, by rw [HG2.out], by rw [HG2.out]; exact hle, by rw [HG3.out]; exact ownN_snoc hown', by rw [HG1.out]; exact RG.but3 hS9 (by omega), hU.trans' hS9 (fun b hb => .inr hb)⟩
            case measure => simp [intOf]; omega
          obtain rfl : to' = s.nd := by simpa using hbto
          clear hbto
          cases b_st
          · skip
            obtain ⟨g1, g2, g3⟩ := HNE.out (by
              rw [← Bool.not_eq_true, HMI.out]
              rintro ⟨e1, e2⟩
              rw [e2] at hbst; simp at hbst)
            have HG1 := hid g1; have HG2 := hid g2; have HG3 := hid g3
            clear g1 g2 g3
            have hnews : ∀ j u, (N6.list ⟨st', fr', s.nd, ce', di', co'⟩)[j]? = some u → ((wr.alloc (.cells #[.int .i64 st', .int .i64 fr', .int .i64 (s.nd), .int .i64 ce', .int .i64 di', .int .i64 co'] 78)).alloc (.cells #[.int .i64 st', .int .i64 fr', .int .i64 (s.nd), .int .i64 ce', .int .i64 di', .int .i64 co'] 78)).cell? ((⟨wr.heap.size + 1, 0, none⟩ : Addr).add j) = some u := by
              have := cells_new (wr.alloc (.cells #[.int .i64 st', .int .i64 fr', .int .i64 (s.nd), .int .i64 ce', .int .i64 di', .int .i64 co'] 78)) (N6.list ⟨st', fr', s.nd, ce', di', co'⟩) 78
              rw [World.size_alloc] at this
              exact this
            have hN2 := World.ownsRow.alloc (World.ownsRow.alloc hN (.cells #[.int .i64 st', .int .i64 fr', .int .i64 (s.nd), .int .i64 ce', .int .i64 di', .int .i64 co'] 78)) (.cells #[.int .i64 st', .int .i64 fr', .int .i64 (s.nd), .int .i64 ce', .int .i64 di', .int .i64 co'] 78)
            have hl9 : (restL s.nd s.st p k).length + 1 ≤ maxLen := Nat.le_trans (show _ ≤ 100001 by omega) (by decide)
            go_wp2_with (at_builtin; refine wpList_append_own_at _ rfl _ _ 31 rfl w1.heap.size 78 j0 _ 6 48 Tryz.underlying31 hj0 hy0 hy1 hy2 rfl (by decide) _ _ _ rfl hN2 ⟨wr.heap.size + 1, 0, none⟩ 1 1 (N6.list ⟨st', fr', s.nd, ce', di', co'⟩) rfl rfl hnews (n6_one _) hl9 (by omega) (by simp; omega) ?_; intro v' w9 hown' hgrow _ hat)
            clear hnews hN2
            go_roundw
            have hS9 : But (fun b => w1.heap.size ≤ b) wr w9 := but_grownN (((But.refl _ wr).alloc _).alloc _) hgrow (fun g hg => own_base hN g hg)
            case rel => exact ⟨k + 1, by omega, by go_num, by rw [HG2.out], by rw [HG2.out]; exact hle, by rw [HG3.out]; exact ownN_snoc hown', by rw [HG1.out]; exact RG.but3 hS9 (by omega), hU.trans' hS9 (fun b hb => .inr hb)⟩
            case measure => simp [intOf]; omega
          obtain rfl : st' = s.st := by simpa using hbst
          clear hbst
          have hm := HMI.out.2 ⟨rfl, rfl⟩
          obtain ⟨g1, g2, g3⟩ := HYE.out hm
          have hc1 := hcn1
          rw [g2] at hc1
          obtain ⟨i, hi⟩ : ∃ i : Nat, ce' = i := ⟨ce'.toNat, by omega⟩
          obtain ⟨d, hd⟩ : ∃ d : Nat, di' = d := ⟨di'.toNat, by omega⟩
          have hin : i < no := by omega
          have hd4 : d < 4 := by omega
          obtain ⟨v1, v2⟩ := hbdk i d hd4
          have y0 := RG.2 (i * 4 + d) (by omega)
          rw [flatC_at _ _ _ hd4] at y0
          have hfl : flatC (GA (k + 1)) = upd (flatC (GA k)) (i * 4 + d) ((GA k i).get d + co') := by
            rw [g1, flatC_with _ _ _ hd4]
            unfold addC
            dsimp only
            rw [hi, hd, Int.toNat_natCast, Int.toNat_natCast]
          obtain ⟨u, hu⟩ : ∃ u, u = (GA k i).get d := ⟨_, rfl⟩
          rw [← hu] at y0 hfl v1 v2
          have HU2 := hid hu.symm
          clear hu
          have HFL := hid hfl; have HG2 := hid g2; have HG3 := hid g3
          clear hfl g1 g2 g3 hbdk hm hcn1
          subst hi hd
          have hcM : M0 + coM s.nd s.st p k + co' = M0 + (coM s.nd s.st p k + co') := by omega
          generalize coM s.nd s.st p k = cs at *
          have lg := RG.lt
          by_cases hbig : 1000000000 < M0 + cs + co'
          · have hE := hid (actE_over (W := Wd) (H := Hd) (o := o) (ru := ru (s.st.toNat % rn)) (s := s) (p := p) (q := q) (by rw [← HACT.out]; omega))
            have Q2 := X2.but hU (by omega)
            have q0 := Q2.at_ 0 rfl; have q1 := Q2.at_ 1 rfl; have q2 := Q2.at_ 2 rfl; have q3 := Q2.at_ 3 rfl; have qf := Q2.free; have ql := Q2.lt
            go_wp2_with fail
            have T2 : Bx ((((wr.setCell ⟨w.heap.size + 1 + 1, 0, none⟩ (.int .i64 0)).setCell ⟨w.heap.size + 1 + 1, 1, none⟩ (.int .i64 0)).setCell ⟨w.heap.size + 1 + 1, 2, none⟩ (.slice none 0 0)).setCell ⟨w.heap.size + 1 + 1, 3, none⟩ (.slice none 0 0)) (w.heap.size + 1 + 1) #[.int .i64 0, .int .i64 0, .slice none 0 0, .slice none 0 0] :=
              ((((Q2.set_ 0 (by simp) (.int .i64 0)).set_ 1 (by simp) (.int .i64 0)).set_ 2 (by simp) (.slice none 0 0)).set_ 3 (by simp) (.slice none 0 0))
            have TB : Below w.heap.size w ((((wr.setCell ⟨w.heap.size + 1 + 1, 0, none⟩ (.int .i64 0)).setCell ⟨w.heap.size + 1 + 1, 1, none⟩ (.int .i64 0)).setCell ⟨w.heap.size + 1 + 1, 2, none⟩ (.slice none 0 0)).setCell ⟨w.heap.size + 1 + 1, 3, none⟩ (.slice none 0 0)) := by (repeat' (first | with_reducible assumption | with_reducible exact Below.refl _ _ | with_reducible refine Below.drew ?_ | with_reducible refine below_drewN ?_ _ | with_reducible refine balloc ?_ _ | with_reducible refine bset ?_ ?_ _ | with_reducible refine Below.setCell ?_ ?_ _ | with_reducible refine Below.alloc ?_ ?_ _ | omega | (simp; done) | (simp; omega)))
            replace T2 := T2.alloc (.cells #[.int .i64 s.st, .int .i64 fr', .int .i64 s.nd, .int .i64 (i : Int), .int .i64 (d : Int), .int .i64 co'] 78); replace TB := balloc TB (.cells #[.int .i64 s.st, .int .i64 fr', .int .i64 s.nd, .int .i64 (i : Int), .int .i64 (d : Int), .int .i64 co'] 78)
            generalize ((((wr.setCell ⟨w.heap.size + 1 + 1, 0, none⟩ (.int .i64 0)).setCell ⟨w.heap.size + 1 + 1, 1, none⟩ (.int .i64 0)).setCell ⟨w.heap.size + 1 + 1, 2, none⟩ (.slice none 0 0)).setCell ⟨w.heap.size + 1 + 1, 3, none⟩ (.slice none 0 0)).alloc (.cells #[.int .i64 s.st, .int .i64 fr', .int .i64 s.nd, .int .i64 (i : Int), .int .i64 (d : Int), .int .i64 co'] 78) = Wf at *
            have c0 := T2.at_ 0 rfl; have c1 := T2.at_ 1 rfl; have c2 := T2.at_ 2 rfl; have c3 := T2.at_ 3 rfl
            exact bodyPost_ret (v := .tuple #[.agg #[.int .i64 0, .int .i64 0, .slice none 0 0, .slice none 0 0], .slice none 0 0, .int .i64 4]) (by simp [results, Tryz.results35, go_sem, c0, c1, c2, c3]) rfl (actS_fail hE.out rfl TB)
          · go_upto_region 17 with (fail)
            have T := Bx.new wr #[.int .i64 s.st, .int .i64 fr', .int .i64 s.nd, .int .i64 (i : Int), .int .i64 (d : Int), .int .i64 co'] 78
            have hbd : Below wr.heap.size wr (wr.alloc (.cells #[.int .i64 s.st, .int .i64 fr', .int .i64 s.nd, .int .i64 (i : Int), .int .i64 (d : Int), .int .i64 co'] 78)) := below_alloc _ _
            have hN2 : OwnN (wr.alloc (.cells #[.int .i64 s.st, .int .i64 fr', .int .i64 s.nd, .int .i64 (i : Int), .int .i64 (d : Int), .int .i64 co'] 78)) w1.heap.size u16 _ := own_below hN hbd
            have RG2 := RG.below hbd
            have hU2 := hU.trans (but_below (C := fun b => b = bg) hbd (Nat.le_refl _))
            clear hN RG hU x0 x1 c0 c1 c2 c3 c4 c5
            generalize wr.alloc (.cells #[.int .i64 s.st, .int .i64 fr', .int .i64 s.nd, .int .i64 (i : Int), .int .i64 (d : Int), .int .i64 co'] 78) = wd at *
            have r1 : ∀ Y, Below wd.heap.size wd Y → Y.cell? ⟨wr.heap.size, 3, none⟩ = some (.int .i64 (i : Int)) := fun Y h => (T.below h).at_ 3 rfl
            have r2 : ∀ Y, Below wd.heap.size wd Y → Y.cell? ⟨wr.heap.size, 4, none⟩ = some (.int .i64 (d : Int)) := fun Y h => (T.below h).at_ 4 rfl
            have r3 : ∀ Y, Below wd.heap.size wd Y → Y.cell? ⟨wr.heap.size, 5, none⟩ = some (.int .i64 co') := fun Y h => (T.below h).at_ 5 rfl
            have lg2 := RG2.lt
            have y0 := RG2.2 (i * 4 + d) (by omega)
            have r4 : ∀ Y, Below wd.heap.size wd Y → Y.cell? ⟨bg, i * 4 + d, none⟩ = some (.int .i64 u) := fun Y h => (bcell h _ _ lg2).trans (by rw [y0, flatC_at _ _ _ hd4]; exact congrArg _ (congrArg _ HU2.out))
            have yf := RG2.free
            have hdI : (d : Int) < 4 := by omega
            have hww : IntKind.i64.wrap (u + co') = u + co' := IntWalk.i64_in _ (by omega)
            refine wp_region_S (fun Y => Below wd.heap.size wd Y) 18 (by kernel_rfl) ?_
            refine anyS_take (i := 0) rfl (by kernel_rfl) (fun _ _ _ h => h) (Or.inl ⟨by rfl, fun Y hYb => (by (try dsimp only at hYb); go_simp; rfl)⟩) (by repeat' (first | with_reducible assumption | with_reducible exact Below.refl _ _ | with_reducible refine Below.drew ?_ | with_reducible refine below_drewN ?_ _)) ?_
            simp only [List.getElem_toArray, List.getElem_cons_succ, List.getElem_cons_zero, Act.put, List.setIfInBounds_toArray, List.set_cons_zero, List.set_cons_succ]
            refine anyS_take (i := 1) rfl (by kernel_rfl) (fun _ _ _ h => h) (Or.inl ⟨by rfl, fun Y hYb => (by (try dsimp only at hYb); go_simp; rfl)⟩) (by repeat' (first | with_reducible assumption | with_reducible exact Below.refl _ _ | with_reducible refine Below.drew ?_ | with_reducible refine below_drewN ?_ _)) ?_
            simp only [List.getElem_toArray, List.getElem_cons_succ, List.getElem_cons_zero, Act.put, List.setIfInBounds_toArray, List.set_cons_zero, List.set_cons_succ]
            refine anyS_take (i := 2) rfl (by kernel_rfl) (fun _ _ _ h => h) (Or.inl ⟨by rfl, fun Y hYb => (by (try dsimp only at hYb); go_simp; rfl)⟩) (by repeat' (first | with_reducible assumption | with_reducible exact Below.refl _ _ | with_reducible refine Below.drew ?_ | with_reducible refine below_drewN ?_ _)) ?_
            simp only [List.getElem_toArray, List.getElem_cons_succ, List.getElem_cons_zero, Act.put, List.setIfInBounds_toArray, List.set_cons_zero, List.set_cons_succ]
            refine anyS_take (i := 3) rfl (by kernel_rfl) (fun _ _ _ h => h) (Or.inl ⟨by rfl, fun Y hYb => (by (try dsimp only at hYb); go_simp; rfl)⟩) (by repeat' (first | with_reducible assumption | with_reducible exact Below.refl _ _ | with_reducible refine Below.drew ?_ | with_reducible refine below_drewN ?_ _)) ?_
            simp only [List.getElem_toArray, List.getElem_cons_succ, List.getElem_cons_zero, Act.put, List.setIfInBounds_toArray, List.set_cons_zero, List.set_cons_succ]
            refine anyS_take (i := 4) rfl (by kernel_rfl) (fun _ _ _ h => h) (Or.inl ⟨by rfl, fun Y hYb => (by (try dsimp only at hYb); go_simp; rfl)⟩) (by repeat' (first | with_reducible assumption | with_reducible exact Below.refl _ _ | with_reducible refine Below.drew ?_ | with_reducible refine below_drewN ?_ _)) ?_
            simp only [List.getElem_toArray, List.getElem_cons_succ, List.getElem_cons_zero, Act.put, List.setIfInBounds_toArray, List.set_cons_zero, List.set_cons_succ]
            refine anyS_take (i := 5) rfl (by kernel_rfl) (fun _ _ _ h => h) (Or.inl ⟨by rfl, fun Y hYb => (by (try dsimp only at hYb); go_simp; rfl)⟩) (by repeat' (first | with_reducible assumption | with_reducible exact Below.refl _ _ | with_reducible refine Below.drew ?_ | with_reducible refine below_drewN ?_ _)) ?_
            simp only [List.getElem_toArray, List.getElem_cons_succ, List.getElem_cons_zero, Act.put, List.setIfInBounds_toArray, List.set_cons_zero, List.set_cons_succ]
            refine anyS_take (i := 6) rfl (by kernel_rfl) (fun _ _ _ h => h) (Or.inl ⟨by rfl, fun Y hYb => (by (try dsimp only at hYb); go_simp; rfl)⟩) (by repeat' (first | with_reducible assumption | with_reducible exact Below.refl _ _ | with_reducible refine Below.drew ?_ | with_reducible refine below_drewN ?_ _)) ?_
            simp only [List.getElem_toArray, List.getElem_cons_succ, List.getElem_cons_zero, Act.put, List.setIfInBounds_toArray, List.set_cons_zero, List.set_cons_succ]
            refine anyS_take (i := 7) rfl (by kernel_rfl) (fun _ _ _ h => h) (Or.inl ⟨by rfl, fun Y hYb => (by (try dsimp only at hYb); go_simp; rfl)⟩) (by repeat' (first | with_reducible assumption | with_reducible exact Below.refl _ _ | with_reducible refine Below.drew ?_ | with_reducible refine below_drewN ?_ _)) ?_
            simp only [List.getElem_toArray, List.getElem_cons_succ, List.getElem_cons_zero, Act.put, List.setIfInBounds_toArray, List.set_cons_zero, List.set_cons_succ]
            refine anyS_take (i := 8) rfl (by kernel_rfl) (fun _ _ _ h => h) (Or.inl ⟨by rfl, fun Y hYb => (by (try dsimp only at hYb); go_simp; rfl)⟩) (by repeat' (first | with_reducible assumption | with_reducible exact Below.refl _ _ | with_reducible refine Below.drew ?_ | with_reducible refine below_drewN ?_ _)) ?_
            simp only [List.getElem_toArray, List.getElem_cons_succ, List.getElem_cons_zero, Act.put, List.setIfInBounds_toArray, List.set_cons_zero, List.set_cons_succ]
            refine anyS_take (i := 9) rfl (by kernel_rfl) (fun _ _ _ h => h) (Or.inl ⟨by rfl, fun Y hYb => (by (try dsimp only at hYb); go_simp; rfl)⟩) (by repeat' (first | with_reducible assumption | with_reducible exact Below.refl _ _ | with_reducible refine Below.drew ?_ | with_reducible refine below_drewN ?_ _)) ?_
            simp only [List.getElem_toArray, List.getElem_cons_succ, List.getElem_cons_zero, Act.put, List.setIfInBounds_toArray, List.set_cons_zero, List.set_cons_succ]
            refine anyS_take (i := 10) rfl (by kernel_rfl) (fun _ _ _ h => h) (Or.inl ⟨by rfl, fun Y hYb => (by (try dsimp only at hYb); go_simp; rfl)⟩) (by repeat' (first | with_reducible assumption | with_reducible exact Below.refl _ _ | with_reducible refine Below.drew ?_ | with_reducible refine below_drewN ?_ _)) ?_
            simp only [List.getElem_toArray, List.getElem_cons_succ, List.getElem_cons_zero, Act.put, List.setIfInBounds_toArray, List.set_cons_zero, List.set_cons_succ]
            refine anyS_take (i := 11) rfl (by kernel_rfl) (fun _ _ _ h => h) (Or.inl ⟨by rfl, fun Y hYb => (by (try dsimp only at hYb); go_simp; rfl)⟩) (by repeat' (first | with_reducible assumption | with_reducible exact Below.refl _ _ | with_reducible refine Below.drew ?_ | with_reducible refine below_drewN ?_ _)) ?_
            simp only [List.getElem_toArray, List.getElem_cons_succ, List.getElem_cons_zero, Act.put, List.setIfInBounds_toArray, List.set_cons_zero, List.set_cons_succ]
            refine anyS_take (i := 12) rfl (by kernel_rfl) (fun _ _ _ h => h) (Or.inl ⟨by rfl, fun Y hYb => (by (try dsimp only at hYb); go_simp; rfl)⟩) (by repeat' (first | with_reducible assumption | with_reducible exact Below.refl _ _ | with_reducible refine Below.drew ?_ | with_reducible refine below_drewN ?_ _)) ?_
            simp only [List.getElem_toArray, List.getElem_cons_succ, List.getElem_cons_zero, Act.put, List.setIfInBounds_toArray, List.set_cons_zero, List.set_cons_succ]
            refine anyS_take (i := 13) rfl (by kernel_rfl) (fun _ _ _ h => h) (Or.inl ⟨by rfl, fun Y hYb => (by (try dsimp only at hYb); go_simp; rfl)⟩) (by repeat' (first | with_reducible assumption | with_reducible exact Below.refl _ _ | with_reducible refine Below.drew ?_ | with_reducible refine below_drewN ?_ _)) ?_
            simp only [List.getElem_toArray, List.getElem_cons_succ, List.getElem_cons_zero, Act.put, List.setIfInBounds_toArray, List.set_cons_zero, List.set_cons_succ]
            refine anyS_take (i := 14) rfl (by kernel_rfl) (fun _ _ _ h => h) (Or.inl ⟨by rfl, fun Y hYb => (by (try dsimp only at hYb); go_simp; rfl)⟩) (by repeat' (first | with_reducible assumption | with_reducible exact Below.refl _ _ | with_reducible refine Below.drew ?_ | with_reducible refine below_drewN ?_ _)) ?_
            simp only [List.getElem_toArray, List.getElem_cons_succ, List.getElem_cons_zero, Act.put, List.setIfInBounds_toArray, List.set_cons_zero, List.set_cons_succ]
            refine anyS_take (i := 15) rfl (by kernel_rfl) (fun _ _ _ h => h) (Or.inl ⟨by rfl, fun Y hYb => (by (try dsimp only at hYb); go_simp; rfl)⟩) (by repeat' (first | with_reducible assumption | with_reducible exact Below.refl _ _ | with_reducible refine Below.drew ?_ | with_reducible refine below_drewN ?_ _)) ?_
            simp only [List.getElem_toArray, List.getElem_cons_succ, List.getElem_cons_zero, Act.put, List.setIfInBounds_toArray, List.set_cons_zero, List.set_cons_succ]
            refine anyS_pure (i := 16) rfl (by kernel_rfl) (fun _ _ _ h => h) (Or.inl ⟨by rfl, fun Y hYb => (by clear hYb; go_simp; rfl)⟩) ?_
            refine anyS_take (i := 17) rfl (by kernel_rfl) (fun _ _ _ h => h) (Or.inl ⟨by rfl, fun Y hYb => (by (try dsimp only at hYb); go_simp; rfl)⟩) (by repeat' (first | with_reducible assumption | with_reducible exact Below.refl _ _ | with_reducible refine Below.drew ?_ | with_reducible refine below_drewN ?_ _)) ?_
            simp only [List.getElem_toArray, List.getElem_cons_succ, List.getElem_cons_zero, Act.put, List.setIfInBounds_toArray, List.set_cons_zero, List.set_cons_succ]
            refine anyS_one (i := 18) (by kernel_rfl) rfl (by rfl) (fun K hK => ?_)
            go_simp
            refine hK _ _ (fun h _ => absurd h (by decide)) ?_
            clear hK K
            refine anyS_done (by kernel_rfl) ?_ _
            clear r1 r2 r3 r4 y0 yf
            go_wp2_with fail
            go_roundw
            have hb6 : But (fun b => b = bg) wd (wd.drew.setCell ⟨bg, i * 4 + d, none⟩ (.int .i64 (u + co'))) := ((But.refl (fun b => b = bg) wd).drew).set_ (p := ⟨bg, i * 4 + d, none⟩) rfl _
            case rel => exact ⟨k + 1, by omega, by go_num, by first | (rw [HG2.out]; done) | rw [HG2.out, Int.add_assoc] | rw [HG2.out, ← Int.add_assoc], by rw [HG2.out]; omega, by rw [HG3.out]; exact own_but2 hN2 hb6 (fun g hg => by have := own_base hN2 g hg; omega), by rw [HFL.out]; exact RG2.drew.set_ (i * 4 + d) (u + co'), hU2.trans hb6⟩
            case measure => simp [intOf]; omega
        · obtain rfl : k = q := (by omega)
          have hok : actM s p k ≤ 1000000000 := by rw [← HACT.out]; exact hle
          rw [HGOT.out] at RG
          have HOK := hid hok
          clear hok hle HGY HGN HGOT HBD HCN HRL HACT
          generalize M0 + coM s.nd s.st p k = al at *
          have hst1 := HST.out
          have hwst : IntKind.i64.wrap (s.st + 1) = s.st + 1 := IntWalk.i64_in _ (by omega)
          go_upto_region 18 with (fail)
          have r0 : ∀ Y, Below wr.heap.size wr Y → Y.cell? ⟨w.heap.size + 1, 0, none⟩ = some (.int .i64 s.nd) := fun Y h => (Y1.below h).at_ 0 rfl
          have r1 : ∀ Y, Below wr.heap.size wr Y → Y.cell? ⟨w.heap.size + 1, 1, none⟩ = some (.int .i64 s.st) := fun Y h => (Y1.below h).at_ 1 rfl
          have r2 : ∀ Y, Below wr.heap.size wr Y → Y.cell? ⟨w.heap.size + 1, 2, none⟩ = some (.slice ix s.ni ci) := fun Y h => (Y1.below h).at_ 2 rfl
          refine wp_region_S (fun Y => Below wr.heap.size wr Y) 15 (by kernel_rfl) ?_
          refine anyS_take (i := 0) rfl (by kernel_rfl) (fun _ _ _ h => h) (Or.inl ⟨by rfl, fun Y hYb => (by (try dsimp only at hYb); go_simp; rfl)⟩) (by repeat' (first | with_reducible assumption | with_reducible exact Below.refl _ _ | with_reducible refine Below.drew ?_ | with_reducible refine below_drewN ?_ _)) ?_
          simp only [List.getElem_toArray, List.getElem_cons_succ, List.getElem_cons_zero, Act.put, List.setIfInBounds_toArray, List.set_cons_zero, List.set_cons_succ]
          refine anyS_take (i := 1) rfl (by kernel_rfl) (fun _ _ _ h => h) (Or.inl ⟨by rfl, fun Y hYb => (by (try dsimp only at hYb); go_simp; rfl)⟩) (by repeat' (first | with_reducible assumption | with_reducible exact Below.refl _ _ | with_reducible refine Below.drew ?_ | with_reducible refine below_drewN ?_ _)) ?_
          simp only [List.getElem_toArray, List.getElem_cons_succ, List.getElem_cons_zero, Act.put, List.setIfInBounds_toArray, List.set_cons_zero, List.set_cons_succ]
          refine anyS_take (i := 2) rfl (by kernel_rfl) (fun _ _ _ h => h) (Or.inl ⟨by rfl, fun Y hYb => (by (try dsimp only at hYb); go_simp; rfl)⟩) (by repeat' (first | with_reducible assumption | with_reducible exact Below.refl _ _ | with_reducible refine Below.drew ?_ | with_reducible refine below_drewN ?_ _)) ?_
          simp only [List.getElem_toArray, List.getElem_cons_succ, List.getElem_cons_zero, Act.put, List.setIfInBounds_toArray, List.set_cons_zero, List.set_cons_succ]
          refine anyS_take (i := 3) rfl (by kernel_rfl) (fun _ _ _ h => h) (Or.inl ⟨by rfl, fun Y hYb => (by (try dsimp only at hYb); go_simp; rfl)⟩) (by repeat' (first | with_reducible assumption | with_reducible exact Below.refl _ _ | with_reducible refine Below.drew ?_ | with_reducible refine below_drewN ?_ _)) ?_
          simp only [List.getElem_toArray, List.getElem_cons_succ, List.getElem_cons_zero, Act.put, List.setIfInBounds_toArray, List.set_cons_zero, List.set_cons_succ]
          refine anyS_take (i := 4) rfl (by kernel_rfl) (fun _ _ _ h => h) (Or.inl ⟨by rfl, fun Y hYb => (by (try dsimp only at hYb); go_simp; rfl)⟩) (by repeat' (first | with_reducible assumption | with_reducible exact Below.refl _ _ | with_reducible refine Below.drew ?_ | with_reducible refine below_drewN ?_ _)) ?_
          simp only [List.getElem_toArray, List.getElem_cons_succ, List.getElem_cons_zero, Act.put, List.setIfInBounds_toArray, List.set_cons_zero, List.set_cons_succ]
          refine anyS_take (i := 6) rfl (by kernel_rfl) (fun _ _ _ h => h) (Or.inl ⟨by rfl, fun Y hYb => (by (try dsimp only at hYb); go_simp; rfl)⟩) (by repeat' (first | with_reducible assumption | with_reducible exact Below.refl _ _ | with_reducible refine Below.drew ?_ | with_reducible refine below_drewN ?_ _)) ?_
          simp only [List.getElem_toArray, List.getElem_cons_succ, List.getElem_cons_zero, Act.put, List.setIfInBounds_toArray, List.set_cons_zero, List.set_cons_succ]
          refine anyS_take (i := 7) rfl (by kernel_rfl) (fun _ _ _ h => h) (Or.inl ⟨by rfl, fun Y hYb => (by (try dsimp only at hYb); go_simp; rfl)⟩) (by repeat' (first | with_reducible assumption | with_reducible exact Below.refl _ _ | with_reducible refine Below.drew ?_ | with_reducible refine below_drewN ?_ _)) ?_
          simp only [List.getElem_toArray, List.getElem_cons_succ, List.getElem_cons_zero, Act.put, List.setIfInBounds_toArray, List.set_cons_zero, List.set_cons_succ]
          refine anyS_take (i := 9) rfl (by kernel_rfl) (fun _ _ _ h => h) (Or.inl ⟨by rfl, fun Y hYb => (by (try dsimp only at hYb); go_simp; rfl)⟩) (by repeat' (first | with_reducible assumption | with_reducible exact Below.refl _ _ | with_reducible refine Below.drew ?_ | with_reducible refine below_drewN ?_ _)) ?_
          simp only [List.getElem_toArray, List.getElem_cons_succ, List.getElem_cons_zero, Act.put, List.setIfInBounds_toArray, List.set_cons_zero, List.set_cons_succ]
          refine anyS_take (i := 10) rfl (by kernel_rfl) (fun _ _ _ h => h) (Or.inl ⟨by rfl, fun Y hYb => (by (try dsimp only at hYb); go_simp; rfl)⟩) (by repeat' (first | with_reducible assumption | with_reducible exact Below.refl _ _ | with_reducible refine Below.drew ?_ | with_reducible refine below_drewN ?_ _)) ?_
          simp only [List.getElem_toArray, List.getElem_cons_succ, List.getElem_cons_zero, Act.put, List.setIfInBounds_toArray, List.set_cons_zero, List.set_cons_succ]
          refine anyS_take (i := 11) rfl (by kernel_rfl) (fun _ _ _ h => h) (Or.inl ⟨by rfl, fun Y hYb => (by (try dsimp only at hYb); go_simp; rfl)⟩) (by repeat' (first | with_reducible assumption | with_reducible exact Below.refl _ _ | with_reducible refine Below.drew ?_ | with_reducible refine below_drewN ?_ _)) ?_
          simp only [List.getElem_toArray, List.getElem_cons_succ, List.getElem_cons_zero, Act.put, List.setIfInBounds_toArray, List.set_cons_zero, List.set_cons_succ]
          have hmk := fun W' => mk_cells s.ni s.ni rfl (by omega) W'
          obtain ⟨k0, hk0, hq0, hq1, hq2⟩ := info_parts infoInt
          generalize ha0 : Act.mk _ _ = a0
          refine anyS_inv (f := 1) (Inv := RInv wr s.ni s.I s.nd (s.st + 1) a0) ?hend ?hstep 5 _ _ _ ?hinit
          case hinit =>
            subst ha0
            exact ⟨false, false, false, false, false, 0, 0, 0, 0, 0, undef, undef, undef, undef, undef, rfl, fun h => h, fun h => (by cases h), by kernel_rfl, rfl, (Below.refl _ wr).drew, fun h => (by cases h), fun h => (by cases h), fun h => (by cases h), fun h => (by cases h), fun h => (by cases h), fun h => (by cases h), fun h => (by cases h), fun h => (by cases h), fun h => (by cases h)⟩
          case hstep =>
            subst ha0
            (try clear r0; try clear r1; try clear r2; try clear HSB; try clear HPB; try clear HFI; try clear HL2; try clear HNB; try clear HMB; try clear HNO; try clear HL1; try clear HRU; try clear HST; try clear HPF; try clear HNC; try clear HOK; try clear HP; try clear HO; try clear HR; try clear X0; try clear X1; try clear X2; try clear Y1; try clear RG; try clear hN; try clear hU; try clear B1; try clear hck; try clear hrlk; try clear hlt; try clear hrl; try clear hj0; try clear hy0; try clear hy1; try clear hy2; try clear hfit)
            rintro n listed a Y ⟨b5, b8, b12, b13, b14, e5, g, c, bo, bx, v106, v109, v113, v114, v19, hn, h85, h13, rfl, rfl, hR⟩
            cases b5 <;> cases b8 <;> cases b12 <;> cases b13 <;> cases b14
            all_goals first | exact absurd (h85 rfl) Bool.false_ne_true | exact absurd (h13 rfl).1 Bool.false_ne_true | exact absurd (h13 rfl).2.1 Bool.false_ne_true | exact absurd hn (Nat.succ_ne_zero _) | skip
            · refine ready_all (L := [5, 12, 14]) (by kernel_rfl) (by decide) ?_
              refine List.forall_mem_cons.2 ⟨?_, List.forall_mem_cons.2 ⟨?_, List.forall_mem_cons.2 ⟨?_, fun _ h => (by cases h)⟩⟩⟩
              · skip
                refine wpOp_step rfl (by rfl) fun K hK => ?_
                go_simp
                have hbb : Below Y.heap.size Y (Y.alloc (.cells #[] 3)) := below_alloc _ _
                have hR' := hR.op5 hbb (by simp) (own_zero wr.heap.size Y hR.bel.size)
                exact hK _ _ ⟨fun _ _ => hR'.bel, true, false, false, false, false, Y.heap.size, g, c, bo, bx, .slice (some ⟨Y.heap.size, 0, none⟩) 0 0, v109, v113, v114, v19, (by have h := hn; simp [cntF] at h ⊢; omega), by decide, fun h => (by cases h), by kernel_rfl, by kernel_rfl, hR'⟩
              · skip
                refine wpOp_step rfl (by rfl) fun K hK => ?_
                go_simp
                have hR' := hR.op12 (below_alloc Y (.cells (ccells s.ni) 80)) (roC_made Y s.ni)
                exact hK _ _ ⟨fun _ _ => hR'.bel, false, false, true, false, false, e5, g, c, Y.heap.size, bx, v106, v109, .slice (some ⟨Y.heap.size, 0, none⟩) s.ni s.ni, v114, v19, (by have h := hn; simp [cntF] at h ⊢; omega), by decide, fun h => (by cases h), by kernel_rfl, by kernel_rfl, hR'⟩
              · skip
                refine wpOp_step rfl (by rfl) fun K hK => ?_
                go_simp
                have hR' := hR.op14 (below_alloc Y (.cells #[.int .i64 0, .int .i64 0, .slice none 0 0, .slice none 0 0] 30)) (Bx.new Y #[.int .i64 0, .int .i64 0, .slice none 0 0, .slice none 0 0] 30)
                exact hK _ _ ⟨fun _ _ => hR'.bel, false, false, false, false, true, e5, g, c, bo, Y.heap.size, v106, v109, v113, v114, .pointer (some ⟨Y.heap.size, 0, none⟩), (by have h := hn; simp [cntF] at h ⊢; omega), by decide, h13, by kernel_rfl, by kernel_rfl, hR'⟩
            · refine ready_all (L := [5, 12]) (by kernel_rfl) (by decide) ?_
              refine List.forall_mem_cons.2 ⟨?_, List.forall_mem_cons.2 ⟨?_, fun _ h => (by cases h)⟩⟩
              · skip
                refine wpOp_step rfl (by rfl) fun K hK => ?_
                go_simp
                have hbb : Below Y.heap.size Y (Y.alloc (.cells #[] 3)) := below_alloc _ _
                have hR' := hR.op5 hbb (by simp) (own_zero wr.heap.size Y hR.bel.size)
                exact hK _ _ ⟨fun _ _ => hR'.bel, true, false, false, false, true, Y.heap.size, g, c, bo, bx, .slice (some ⟨Y.heap.size, 0, none⟩) 0 0, v109, v113, v114, v19, (by have h := hn; simp [cntF] at h ⊢; omega), by decide, fun h => (by cases h), by kernel_rfl, by kernel_rfl, hR'⟩
              · skip
                refine wpOp_step rfl (by rfl) fun K hK => ?_
                go_simp
                have hR' := hR.op12 (below_alloc Y (.cells (ccells s.ni) 80)) (roC_made Y s.ni)
                exact hK _ _ ⟨fun _ _ => hR'.bel, false, false, true, false, true, e5, g, c, Y.heap.size, bx, v106, v109, .slice (some ⟨Y.heap.size, 0, none⟩) s.ni s.ni, v114, v19, (by have h := hn; simp [cntF] at h ⊢; omega), by decide, fun h => (by cases h), by kernel_rfl, by kernel_rfl, hR'⟩
            · refine ready_all (L := [5, 14]) (by kernel_rfl) (by decide) ?_
              refine List.forall_mem_cons.2 ⟨?_, List.forall_mem_cons.2 ⟨?_, fun _ h => (by cases h)⟩⟩
              · skip
                refine wpOp_step rfl (by rfl) fun K hK => ?_
                go_simp
                have hbb : Below Y.heap.size Y (Y.alloc (.cells #[] 3)) := below_alloc _ _
                have hR' := hR.op5 hbb (by simp) (own_zero wr.heap.size Y hR.bel.size)
                exact hK _ _ ⟨fun _ _ => hR'.bel, true, false, true, false, false, Y.heap.size, g, c, bo, bx, .slice (some ⟨Y.heap.size, 0, none⟩) 0 0, v109, v113, v114, v19, (by have h := hn; simp [cntF] at h ⊢; omega), by decide, fun h => (by cases h), by kernel_rfl, by kernel_rfl, hR'⟩
              · skip
                refine wpOp_step rfl (by rfl) fun K hK => ?_
                go_simp
                have hR' := hR.op14 (below_alloc Y (.cells #[.int .i64 0, .int .i64 0, .slice none 0 0, .slice none 0 0] 30)) (Bx.new Y #[.int .i64 0, .int .i64 0, .slice none 0 0, .slice none 0 0] 30)
                exact hK _ _ ⟨fun _ _ => hR'.bel, false, false, true, false, true, e5, g, c, bo, Y.heap.size, v106, v109, v113, v114, .pointer (some ⟨Y.heap.size, 0, none⟩), (by have h := hn; simp [cntF] at h ⊢; omega), by decide, h13, by kernel_rfl, by kernel_rfl, hR'⟩
            · refine ready_all (L := [5]) (by kernel_rfl) (by decide) ?_
              refine List.forall_mem_cons.2 ⟨?_, fun _ h => (by cases h)⟩
              · skip
                refine wpOp_step rfl (by rfl) fun K hK => ?_
                go_simp
                have hbb : Below Y.heap.size Y (Y.alloc (.cells #[] 3)) := below_alloc _ _
                have hR' := hR.op5 hbb (by simp) (own_zero wr.heap.size Y hR.bel.size)
                exact hK _ _ ⟨fun _ _ => hR'.bel, true, false, true, false, true, Y.heap.size, g, c, bo, bx, .slice (some ⟨Y.heap.size, 0, none⟩) 0 0, v109, v113, v114, v19, (by have h := hn; simp [cntF] at h ⊢; omega), by decide, fun h => (by cases h), by kernel_rfl, by kernel_rfl, hR'⟩
            · refine ready_all (L := [8, 12, 14]) (by kernel_rfl) (by decide) ?_
              refine List.forall_mem_cons.2 ⟨?_, List.forall_mem_cons.2 ⟨?_, List.forall_mem_cons.2 ⟨?_, fun _ h => (by cases h)⟩⟩⟩
              · skip
                refine wpOp_step rfl (by rfl) fun K hK => ?_
                obtain ⟨q1, q2, q3, q4⟩ := hR.h5 rfl
                subst q1
                have HIY := HIX.below (bvia Bl hR.bel)
                obtain ⟨bi, oi, rfl, hbi, _⟩ := HIX 0 h0
                refine wp_append_at2 (.tmp 106) (.tmp 108) 25 rfl wr.heap.size 3 k0 (.int .i64 0) 1 8 Tryz.underlying25 hk0 hq0 hq1 hq2 rfl (by decide) (.slice (some ⟨e5, 0, none⟩) 0 0) 0 [] rfl (q4 rfl) ⟨bi, oi, none⟩ s.ni ci ((List.range s.ni).map fun k => .int .i64 (s.I k)) rfl (by simp) (news_sl HIY) (one_ints s.I s.ni) (Nat.le_trans (show 0 + s.ni ≤ 1024 by omega) (by decide)) (by omega) hR.bel.size ?_
                intro v' w5' hown' hgr hat
                rw [Nat.zero_add, List.nil_append] at hown'
                obtain ⟨g', c', rfl, hgb, hgl⟩ := hown'.form h0
                obtain ⟨a', c9, e', SX⟩ := sl_of_row hown'
                injection e' with e1 _ _
                subst e1
                have hg2 : g' = e5 ∨ g' = Y.heap.size := by
                  rcases hat with h | h
                  · injection h with h; exact .inl h
                  · injection h with h; exact .inr h
                have hR' := hR.op8 (c' := c') hgr hg2 hgl SX
                exact hK _ _ ⟨fun _ _ => hR'.bel, true, true, false, false, false, e5, g', c', bo, bx, .slice (some ⟨e5, 0, none⟩) 0 0, .slice (some ⟨g', 0, none⟩) s.ni c', v113, v114, v19, (by have h := hn; simp [cntF] at h ⊢; omega), by decide, fun h => (by cases h), by kernel_rfl, by kernel_rfl, hR'⟩
              · skip
                refine wpOp_step rfl (by rfl) fun K hK => ?_
                go_simp
                have hR' := hR.op12 (below_alloc Y (.cells (ccells s.ni) 80)) (roC_made Y s.ni)
                exact hK _ _ ⟨fun _ _ => hR'.bel, true, false, true, false, false, e5, g, c, Y.heap.size, bx, v106, v109, .slice (some ⟨Y.heap.size, 0, none⟩) s.ni s.ni, v114, v19, (by have h := hn; simp [cntF] at h ⊢; omega), by decide, fun h => (by cases h), by kernel_rfl, by kernel_rfl, hR'⟩
              · skip
                refine wpOp_step rfl (by rfl) fun K hK => ?_
                go_simp
                have hR' := hR.op14 (below_alloc Y (.cells #[.int .i64 0, .int .i64 0, .slice none 0 0, .slice none 0 0] 30)) (Bx.new Y #[.int .i64 0, .int .i64 0, .slice none 0 0, .slice none 0 0] 30)
                exact hK _ _ ⟨fun _ _ => hR'.bel, true, false, false, false, true, e5, g, c, bo, Y.heap.size, v106, v109, v113, v114, .pointer (some ⟨Y.heap.size, 0, none⟩), (by have h := hn; simp [cntF] at h ⊢; omega), by decide, h13, by kernel_rfl, by kernel_rfl, hR'⟩
            · refine ready_all (L := [8, 12]) (by kernel_rfl) (by decide) ?_
              refine List.forall_mem_cons.2 ⟨?_, List.forall_mem_cons.2 ⟨?_, fun _ h => (by cases h)⟩⟩
              · skip
                refine wpOp_step rfl (by rfl) fun K hK => ?_
                obtain ⟨q1, q2, q3, q4⟩ := hR.h5 rfl
                subst q1
                have HIY := HIX.below (bvia Bl hR.bel)
                obtain ⟨bi, oi, rfl, hbi, _⟩ := HIX 0 h0
                refine wp_append_at2 (.tmp 106) (.tmp 108) 25 rfl wr.heap.size 3 k0 (.int .i64 0) 1 8 Tryz.underlying25 hk0 hq0 hq1 hq2 rfl (by decide) (.slice (some ⟨e5, 0, none⟩) 0 0) 0 [] rfl (q4 rfl) ⟨bi, oi, none⟩ s.ni ci ((List.range s.ni).map fun k => .int .i64 (s.I k)) rfl (by simp) (news_sl HIY) (one_ints s.I s.ni) (Nat.le_trans (show 0 + s.ni ≤ 1024 by omega) (by decide)) (by omega) hR.bel.size ?_
                intro v' w5' hown' hgr hat
                rw [Nat.zero_add, List.nil_append] at hown'
                obtain ⟨g', c', rfl, hgb, hgl⟩ := hown'.form h0
                obtain ⟨a', c9, e', SX⟩ := sl_of_row hown'
                injection e' with e1 _ _
                subst e1
                have hg2 : g' = e5 ∨ g' = Y.heap.size := by
                  rcases hat with h | h
                  · injection h with h; exact .inl h
                  · injection h with h; exact .inr h
                have hR' := hR.op8 (c' := c') hgr hg2 hgl SX
                exact hK _ _ ⟨fun _ _ => hR'.bel, true, true, false, false, true, e5, g', c', bo, bx, .slice (some ⟨e5, 0, none⟩) 0 0, .slice (some ⟨g', 0, none⟩) s.ni c', v113, v114, v19, (by have h := hn; simp [cntF] at h ⊢; omega), by decide, fun h => (by cases h), by kernel_rfl, by kernel_rfl, hR'⟩
              · skip
                refine wpOp_step rfl (by rfl) fun K hK => ?_
                go_simp
                have hR' := hR.op12 (below_alloc Y (.cells (ccells s.ni) 80)) (roC_made Y s.ni)
                exact hK _ _ ⟨fun _ _ => hR'.bel, true, false, true, false, true, e5, g, c, Y.heap.size, bx, v106, v109, .slice (some ⟨Y.heap.size, 0, none⟩) s.ni s.ni, v114, v19, (by have h := hn; simp [cntF] at h ⊢; omega), by decide, fun h => (by cases h), by kernel_rfl, by kernel_rfl, hR'⟩
            · refine ready_all (L := [8, 14]) (by kernel_rfl) (by decide) ?_
              refine List.forall_mem_cons.2 ⟨?_, List.forall_mem_cons.2 ⟨?_, fun _ h => (by cases h)⟩⟩
              · skip
                refine wpOp_step rfl (by rfl) fun K hK => ?_
                obtain ⟨q1, q2, q3, q4⟩ := hR.h5 rfl
                subst q1
                have HIY := HIX.below (bvia Bl hR.bel)
                obtain ⟨bi, oi, rfl, hbi, _⟩ := HIX 0 h0
                refine wp_append_at2 (.tmp 106) (.tmp 108) 25 rfl wr.heap.size 3 k0 (.int .i64 0) 1 8 Tryz.underlying25 hk0 hq0 hq1 hq2 rfl (by decide) (.slice (some ⟨e5, 0, none⟩) 0 0) 0 [] rfl (q4 rfl) ⟨bi, oi, none⟩ s.ni ci ((List.range s.ni).map fun k => .int .i64 (s.I k)) rfl (by simp) (news_sl HIY) (one_ints s.I s.ni) (Nat.le_trans (show 0 + s.ni ≤ 1024 by omega) (by decide)) (by omega) hR.bel.size ?_
                intro v' w5' hown' hgr hat
                rw [Nat.zero_add, List.nil_append] at hown'
                obtain ⟨g', c', rfl, hgb, hgl⟩ := hown'.form h0
                obtain ⟨a', c9, e', SX⟩ := sl_of_row hown'
                injection e' with e1 _ _
                subst e1
                have hg2 : g' = e5 ∨ g' = Y.heap.size := by
                  rcases hat with h | h
                  · injection h with h; exact .inl h
                  · injection h with h; exact .inr h
                have hR' := hR.op8 (c' := c') hgr hg2 hgl SX
                exact hK _ _ ⟨fun _ _ => hR'.bel, true, true, true, false, false, e5, g', c', bo, bx, .slice (some ⟨e5, 0, none⟩) 0 0, .slice (some ⟨g', 0, none⟩) s.ni c', v113, v114, v19, (by have h := hn; simp [cntF] at h ⊢; omega), by decide, fun h => (by cases h), by kernel_rfl, by kernel_rfl, hR'⟩
              · skip
                refine wpOp_step rfl (by rfl) fun K hK => ?_
                go_simp
                have hR' := hR.op14 (below_alloc Y (.cells #[.int .i64 0, .int .i64 0, .slice none 0 0, .slice none 0 0] 30)) (Bx.new Y #[.int .i64 0, .int .i64 0, .slice none 0 0, .slice none 0 0] 30)
                exact hK _ _ ⟨fun _ _ => hR'.bel, true, false, true, false, true, e5, g, c, bo, Y.heap.size, v106, v109, v113, v114, .pointer (some ⟨Y.heap.size, 0, none⟩), (by have h := hn; simp [cntF] at h ⊢; omega), by decide, h13, by kernel_rfl, by kernel_rfl, hR'⟩
            · refine ready_all (L := [8]) (by kernel_rfl) (by decide) ?_
              refine List.forall_mem_cons.2 ⟨?_, fun _ h => (by cases h)⟩
              · skip
                refine wpOp_step rfl (by rfl) fun K hK => ?_
                obtain ⟨q1, q2, q3, q4⟩ := hR.h5 rfl
                subst q1
                have HIY := HIX.below (bvia Bl hR.bel)
                obtain ⟨bi, oi, rfl, hbi, _⟩ := HIX 0 h0
                refine wp_append_at2 (.tmp 106) (.tmp 108) 25 rfl wr.heap.size 3 k0 (.int .i64 0) 1 8 Tryz.underlying25 hk0 hq0 hq1 hq2 rfl (by decide) (.slice (some ⟨e5, 0, none⟩) 0 0) 0 [] rfl (q4 rfl) ⟨bi, oi, none⟩ s.ni ci ((List.range s.ni).map fun k => .int .i64 (s.I k)) rfl (by simp) (news_sl HIY) (one_ints s.I s.ni) (Nat.le_trans (show 0 + s.ni ≤ 1024 by omega) (by decide)) (by omega) hR.bel.size ?_
                intro v' w5' hown' hgr hat
                rw [Nat.zero_add, List.nil_append] at hown'
                obtain ⟨g', c', rfl, hgb, hgl⟩ := hown'.form h0
                obtain ⟨a', c9, e', SX⟩ := sl_of_row hown'
                injection e' with e1 _ _
                subst e1
                have hg2 : g' = e5 ∨ g' = Y.heap.size := by
                  rcases hat with h | h
                  · injection h with h; exact .inl h
                  · injection h with h; exact .inr h
                have hR' := hR.op8 (c' := c') hgr hg2 hgl SX
                exact hK _ _ ⟨fun _ _ => hR'.bel, true, true, true, false, true, e5, g', c', bo, bx, .slice (some ⟨e5, 0, none⟩) 0 0, .slice (some ⟨g', 0, none⟩) s.ni c', v113, v114, v19, (by have h := hn; simp [cntF] at h ⊢; omega), by decide, fun h => (by cases h), by kernel_rfl, by kernel_rfl, hR'⟩
            · refine ready_all (L := [12, 14]) (by kernel_rfl) (by decide) ?_
              refine List.forall_mem_cons.2 ⟨?_, List.forall_mem_cons.2 ⟨?_, fun _ h => (by cases h)⟩⟩
              · skip
                refine wpOp_step rfl (by rfl) fun K hK => ?_
                go_simp
                have hR' := hR.op12 (below_alloc Y (.cells (ccells s.ni) 80)) (roC_made Y s.ni)
                exact hK _ _ ⟨fun _ _ => hR'.bel, true, true, true, false, false, e5, g, c, Y.heap.size, bx, v106, v109, .slice (some ⟨Y.heap.size, 0, none⟩) s.ni s.ni, v114, v19, (by have h := hn; simp [cntF] at h ⊢; omega), by decide, fun h => (by cases h), by kernel_rfl, by kernel_rfl, hR'⟩
              · skip
                refine wpOp_step rfl (by rfl) fun K hK => ?_
                go_simp
                have hR' := hR.op14 (below_alloc Y (.cells #[.int .i64 0, .int .i64 0, .slice none 0 0, .slice none 0 0] 30)) (Bx.new Y #[.int .i64 0, .int .i64 0, .slice none 0 0, .slice none 0 0] 30)
                exact hK _ _ ⟨fun _ _ => hR'.bel, true, true, false, false, true, e5, g, c, bo, Y.heap.size, v106, v109, v113, v114, .pointer (some ⟨Y.heap.size, 0, none⟩), (by have h := hn; simp [cntF] at h ⊢; omega), by decide, h13, by kernel_rfl, by kernel_rfl, hR'⟩
            · refine ready_all (L := [12]) (by kernel_rfl) (by decide) ?_
              refine List.forall_mem_cons.2 ⟨?_, fun _ h => (by cases h)⟩
              · skip
                refine wpOp_step rfl (by rfl) fun K hK => ?_
                go_simp
                have hR' := hR.op12 (below_alloc Y (.cells (ccells s.ni) 80)) (roC_made Y s.ni)
                exact hK _ _ ⟨fun _ _ => hR'.bel, true, true, true, false, true, e5, g, c, Y.heap.size, bx, v106, v109, .slice (some ⟨Y.heap.size, 0, none⟩) s.ni s.ni, v114, v19, (by have h := hn; simp [cntF] at h ⊢; omega), by decide, fun h => (by cases h), by kernel_rfl, by kernel_rfl, hR'⟩
            · refine ready_all (L := [13, 14]) (by kernel_rfl) (by decide) ?_
              refine List.forall_mem_cons.2 ⟨?_, List.forall_mem_cons.2 ⟨?_, fun _ h => (by cases h)⟩⟩
              · skip
                refine wpOp_step rfl (by rfl) fun K hK => ?_
                obtain ⟨q1, _⟩ := hR.h8 rfl
                obtain ⟨q2, _⟩ := hR.h12 rfl
                subst q1 q2
                go_simp
                exact hK _ _ ⟨fun _ h => h, true, true, true, true, false, e5, g, c, bo, bx, v106, .slice (some ⟨g, 0, none⟩) s.ni c, .slice (some ⟨bo, 0, none⟩) s.ni s.ni, .agg #[.int .i64 s.nd, .int .i64 (s.st + 1), .slice (some ⟨g, 0, none⟩) s.ni c, .slice (some ⟨bo, 0, none⟩) s.ni s.ni], v19, (by have h := hn; simp [cntF] at h ⊢; omega), by decide, fun _ => ⟨rfl, rfl, rfl⟩, by kernel_rfl, by kernel_rfl, hR⟩
              · skip
                refine wpOp_step rfl (by rfl) fun K hK => ?_
                go_simp
                have hR' := hR.op14 (below_alloc Y (.cells #[.int .i64 0, .int .i64 0, .slice none 0 0, .slice none 0 0] 30)) (Bx.new Y #[.int .i64 0, .int .i64 0, .slice none 0 0, .slice none 0 0] 30)
                exact hK _ _ ⟨fun _ _ => hR'.bel, true, true, true, false, true, e5, g, c, bo, Y.heap.size, v106, v109, v113, v114, .pointer (some ⟨Y.heap.size, 0, none⟩), (by have h := hn; simp [cntF] at h ⊢; omega), by decide, h13, by kernel_rfl, by kernel_rfl, hR'⟩
            · refine ready_all (L := [13]) (by kernel_rfl) (by decide) ?_
              refine List.forall_mem_cons.2 ⟨?_, fun _ h => (by cases h)⟩
              · skip
                refine wpOp_step rfl (by rfl) fun K hK => ?_
                obtain ⟨q1, _⟩ := hR.h8 rfl
                obtain ⟨q2, _⟩ := hR.h12 rfl
                subst q1 q2
                go_simp
                exact hK _ _ ⟨fun _ h => h, true, true, true, true, true, e5, g, c, bo, bx, v106, .slice (some ⟨g, 0, none⟩) s.ni c, .slice (some ⟨bo, 0, none⟩) s.ni s.ni, .agg #[.int .i64 s.nd, .int .i64 (s.st + 1), .slice (some ⟨g, 0, none⟩) s.ni c, .slice (some ⟨bo, 0, none⟩) s.ni s.ni], v19, (by have h := hn; simp [cntF] at h ⊢; omega), by decide, fun _ => ⟨rfl, rfl, rfl⟩, by kernel_rfl, by kernel_rfl, hR⟩
            · refine ready_all (L := [14]) (by kernel_rfl) (by decide) ?_
              refine List.forall_mem_cons.2 ⟨?_, fun _ h => (by cases h)⟩
              · skip
                refine wpOp_step rfl (by rfl) fun K hK => ?_
                obtain ⟨_, _, q⟩ := h13 rfl
                subst q
                clear h13
                go_simp
                have hR' := hR.op14 (below_alloc Y (.cells #[.int .i64 0, .int .i64 0, .slice none 0 0, .slice none 0 0] 30)) (Bx.new Y #[.int .i64 0, .int .i64 0, .slice none 0 0, .slice none 0 0] 30)
                exact hK _ _ ⟨fun _ _ => hR'.bel, true, true, true, true, true, e5, g, c, bo, Y.heap.size, v106, v109, v113, .agg #[.int .i64 s.nd, .int .i64 (s.st + 1), v109, v113], .pointer (some ⟨Y.heap.size, 0, none⟩), (by have h := hn; simp [cntF] at h ⊢; omega), by decide, fun _ => ⟨rfl, rfl, rfl⟩, by kernel_rfl, by kernel_rfl, hR'⟩
          case hend =>
            subst ha0
            rintro listed a' Y ⟨b5, b8, b12, b13, b14, e5, g, c9, bo, bx, v106, v109, v113, v114, v19, hn, h85, h13, rfl, rfl, hR⟩
            have hall : b5 = true ∧ b8 = true ∧ b12 = true ∧ b13 = true ∧ b14 = true := by
              revert hn
              unfold cntF
              cases b5 <;> cases b8 <;> cases b12 <;> cases b13 <;> cases b14 <;> simp
            obtain ⟨rfl, rfl, rfl, rfl, rfl⟩ := hall
            obtain ⟨q1, p1, p2, _⟩ := hR.h5 rfl
            obtain ⟨q2, p3, p4, SX⟩ := hR.h8 rfl
            obtain ⟨q3, p5, RO⟩ := hR.h12 rfl
            obtain ⟨q4, p6, XB⟩ := hR.h14 rfl
            obtain ⟨_, _, q5⟩ := h13 rfl
            subst q1 q2 q3 q4 q5
            have n1 := hR.d4 rfl rfl; have n2 := hR.d5 rfl rfl; have n3 := hR.d3 rfl rfl
            have BY := hR.bel
            clear hR h13 h85 hn
            have xb0 := XB.at_ 0 rfl; have xb1 := XB.at_ 1 rfl; have xb2 := XB.at_ 2 rfl; have xb3 := XB.at_ 3 rfl; have xbf := XB.free; have xbl := XB.lt
            refine anyS_one (i := 15) (by kernel_rfl) rfl (by rfl) (fun K hK => ?_)
            go_simp
            refine hK _ _ (fun h _ => absurd h (by decide)) ?_
            clear hK K
            refine anyS_done (by kernel_rfl) ?_ _
            have XB5 : Bx ((((Y.setCell ⟨bx, 0, none⟩ (.int .i64 s.nd)).setCell ⟨bx, 1, none⟩ (.int .i64 (s.st + 1))).setCell ⟨bx, 2, none⟩ (.slice (some ⟨g, 0, none⟩) s.ni c9)).setCell ⟨bx, 3, none⟩ (.slice (some ⟨bo, 0, none⟩) s.ni s.ni)) bx #[.int .i64 s.nd, .int .i64 (s.st + 1), .slice (some ⟨g, 0, none⟩) s.ni c9, .slice (some ⟨bo, 0, none⟩) s.ni s.ni] := ((((XB.set_ 0 (by simp) (.int .i64 s.nd)).set_ 1 (by simp) (.int .i64 (s.st + 1))).set_ 2 (by simp) (.slice (some ⟨g, 0, none⟩) s.ni c9)).set_ 3 (by simp) (.slice (some ⟨bo, 0, none⟩) s.ni s.ni))
            have hb5 : But (fun b => b = bx) Y ((((Y.setCell ⟨bx, 0, none⟩ (.int .i64 s.nd)).setCell ⟨bx, 1, none⟩ (.int .i64 (s.st + 1))).setCell ⟨bx, 2, none⟩ (.slice (some ⟨g, 0, none⟩) s.ni c9)).setCell ⟨bx, 3, none⟩ (.slice (some ⟨bo, 0, none⟩) s.ni s.ni)) := ((((But.refl (fun b => b = bx) Y).set_ (p := ⟨bx, 0, none⟩) rfl _).set_ (p := ⟨bx, 1, none⟩) rfl _).set_ (p := ⟨bx, 2, none⟩) rfl _).set_ (p := ⟨bx, 3, none⟩) rfl _
            clear xb0 xb1 xb2 xb3 xbf xbl XB hmk r0 r1 r2
            generalize ((((Y.setCell ⟨bx, 0, none⟩ (.int .i64 s.nd)).setCell ⟨bx, 1, none⟩ (.int .i64 (s.st + 1))).setCell ⟨bx, 2, none⟩ (.slice (some ⟨g, 0, none⟩) s.ni c9)).setCell ⟨bx, 3, none⟩ (.slice (some ⟨bo, 0, none⟩) s.ni s.ni)) = W5 at *
            have hU5 : But (fun b => b = bg) w1 W5 := (hU.trans (but_below BY (Nat.le_refl _))).trans' hb5 (fun b e => .inr (by omega))
            have SX5 := SX.but2 hb5 (fun b _ e h => by injection e with e; injection e with e1 _ _; omega)
            have RO5 := RO.but3 hb5 n2
            have hbow5 := RO5.lt
            have RG5 := (RG.below BY).but3 hb5 (by omega)
            have hlN := own_lt hN
            have hbN := own_base hN
            have hN5 : OwnN W5 w1.heap.size u16 _ := own_but2 (own_below hN BY) hb5 (fun g hg => by have := hlN g hg; omega)
            have B5 : Below w.heap.size w W5 := below_but (C := fun b => b = bg) B1 (hU5.mono (fun b _ h => ⟨by omega, h⟩))
            have hbw5 := XB5.lt
            have hgw5 : g < W5.heap.size := by have := hb5.size; omega
            have hsw5 : wr.heap.size ≤ W5.heap.size := by have := hb5.size; have := BY.size; omega
            clear hN RG Y1 hU Bl BY hb5 RO SX
            have hrn := (rulesB_iff _ _).1 HRU.out
            have hrul := fun W (hW : Below w.heap.size w W) => ref1_rule rl rn rc s.st.toNat ru W (by omega) (by omega) (by omega) (HR.below hW)
            have hst9 : ((s.st.toNat : Nat) : Int) = s.st := Int.toNat_of_nonneg hst0.1
            rw [hst9] at hrul
            have hruok := (ruleB_iff _ _).1 (hrn.2.2 _ (Nat.mod_lt s.st.toNat (show 0 < rn by omega)))
            obtain ⟨⟨rk, rb⟩, hq⟩ : ∃ q, ru (s.st.toNat % rn) = q := ⟨_, rfl⟩
            rw [hq] at hrul hruok
            dsimp only at hrul hruok
            have HQQ := hid hq
            clear hst9
            obtain ⟨Yc, hYc⟩ : ∃ Y, Y = colM (rk, rb) s p k := ⟨_, rfl⟩
            have hYv : ∀ i, Yc i = coll rk rb (gotM s p k i) := fun i => by rw [hYc]; rfl
            have hGv : ∀ r, r < s.ni → validC (gotM s p k (Lr o s.nd no r)) = true := fun r hr => by
              have e := got_massB HSB.out HPB.out
              rw [decide_eq_true HOK.out] at e
              have := ((massB_iff _ _).1 e).1 r hr
              rw [HL2.out r hr] at this
              exact this
            have HYC := hid hYc; have HYV := hid hYv; have HGV := hid hGv
            clear hYc hYv hGv hq
            have hLr : ∀ r, r < s.ni → Lr o s.nd no r < no ∧ o (Lr o s.nd no r) = s.nd ∧ s.I r = (Lr o s.nd no r : Int) := fun r hr => by
              obtain ⟨e1, e2, e3⟩ := Lr_own (o := o) (nd := s.nd) (no := no) (r := r) (by rw [← HL1.out]; exact hr)
              exact ⟨e1, e2, by rw [HL2.out r hr, e3]⟩
            have HLR := hid hLr; clear hLr
            have hrl := restL_length (nd := s.nd) (st := s.st) (p := p) k
            generalize hRg : restL s.nd s.st p k = R0 at *
            have HRG := hid hRg; clear hRg
            generalize gotM s p k = GM at *
            go_wp2_with fail
            obtain ⟨wz, rfl⟩ : ∃ wz : World, wz = wr := ⟨_, rfl⟩
            obtain ⟨vR, rfl⟩ : ∃ v, v = u16 := ⟨_, rfl⟩
            go_loopw [16, 20] (fun v16 i wl => ∃ r : Nat, r ≤ s.ni ∧ i = .int .i64 r ∧ OwnN wl w1.heap.size v16 (R0 ++ rR Wd Hd o s.nd (s.st + 1) no Yc r) ∧ Ro wl bo (s.ni * 4) (flatC (zR Wd Hd o s.nd no Yc r)) ∧ (∀ g', v16.ownBlock = some g' → vR.ownBlock = some g' ∨ W5.heap.size ≤ g') ∧ But (fun b => b = bo ∨ vR.ownBlock = some b) W5 wl) (fun _ i _ => s.ni - (intOf i).toNat)
            case atStart => exact ⟨0, Nat.zero_le _, rfl, by rw [show rR Wd Hd o s.nd (s.st + 1) no Yc 0 = [] from rfl, List.append_nil]; exact hN5, RO5, fun g' h => .inl h, But.refl _ _⟩
            case round =>
              clear hN5 RO5
              obtain ⟨r, hr, rfl, hN, RO, hown, hU⟩ := hrel
              have hnC : ∀ b, b < w1.heap.size → ¬ (b = bo ∨ vR.ownBlock = some b) := fun b hb h => by
                rcases h with h | h
                · omega
                · have := hbN b h; omega
              have hnC2 : ∀ b, wz.heap.size ≤ b → b ≠ bo → ¬ (b = bo ∨ vR.ownBlock = some b) := fun b hb hne h => by
                rcases h with h | h
                · exact hne h
                · have := hlN b h; omega
              have Bl : Below w.heap.size w wr := below_but (C := fun b => b = bo ∨ vR.ownBlock = some b) B5 (hU.mono (fun b _ h => ⟨by
                rcases h with h | h
                · omega
                · have := hbN b h; omega, h⟩))
              have hsl := hU.size
              have X1' := (X1.but hU5 (by omega)).but hU (hnC _ (by omega))
              have hix := HIX.below Bl
              by_cases hlt : r < s.ni
              · obtain ⟨hi1, hi2, hi3⟩ := HLR.out r hlt
                obtain ⟨i, hi⟩ : ∃ i, i = Lr o s.nd no r := ⟨_, rfl⟩
                rw [← hi] at hi1 hi2 hi3
                obtain ⟨bi, oi, rfl, hbi, ci0⟩ := hix r hlt
                rw [hi3] at ci0
                have hgv := HGV.out r hlt
                rw [← hi] at hgv
                have haft := fun W => ref1_after (GM i) rk rb W hgv hruok
                rw [← HYV.out i] at haft
                obtain ⟨yc, hyc⟩ : ∃ y, y = Yc i := ⟨_, rfl⟩
                rw [← hyc] at haft
                have RG' := RG5.but3 hU (hnC _ hbgl1)
                obtain ⟨y0, y1, y2, y3⟩ := RG'.scell hi1
                have lg := RG'.lt
                have HI := hid hi; have HY := hid hyc
                clear hi hyc hgv hi3
                have x2 := X1'.at_ 2 rfl; have lx := X1'.lt
                go_upto_region 22 with (fail)
                clear x2
                have r2 : ∀ Y, Below wr.heap.size wr Y → Y.cell? ⟨w.heap.size + 1, 2, none⟩ = some (.slice (some ⟨bi, oi, none⟩) s.ni ci) := fun Y h => (X1'.below h).at_ 2 rfl
                have r1 : ∀ Y, Below wr.heap.size wr Y → Y.cell? ⟨w.heap.size + 1, 1, none⟩ = some (.int .i64 s.st) := fun Y h => (X1'.below h).at_ 1 rfl
                have r3 : ∀ Y, Below wr.heap.size wr Y → Y.cell? ⟨bi, oi + r, none⟩ = some (.int .i64 (i : Int)) := fun Y h => (bcell h _ _ hbi).trans ci0
                have g0 : ∀ Y, Below wr.heap.size wr Y → Y.cell? ⟨bg, i * 4, none⟩ = some (.int .i64 (GM i).e) := fun Y h => (bcell h _ _ lg).trans y0
                have g1 : ∀ Y, Below wr.heap.size wr Y → Y.cell? ⟨bg, i * 4 + 1, none⟩ = some (.int .i64 (GM i).n) := fun Y h => (bcell h _ _ lg).trans y1
                have g2 : ∀ Y, Below wr.heap.size wr Y → Y.cell? ⟨bg, i * 4 + 2, none⟩ = some (.int .i64 (GM i).w) := fun Y h => (bcell h _ _ lg).trans y2
                have g3 : ∀ Y, Below wr.heap.size wr Y → Y.cell? ⟨bg, i * 4 + 3, none⟩ = some (.int .i64 (GM i).s) := fun Y h => (bcell h _ _ lg).trans y3
                clear y0 y1 y2 y3
                refine wp_region_S (fun Y => Below wr.heap.size wr Y) 14 (by kernel_rfl) ?_
                refine anyS_take (i := 0) rfl (by kernel_rfl) (fun _ _ _ h => h) (Or.inl ⟨by rfl, fun Y hYb => (by (try dsimp only at hYb); go_simp; rfl)⟩) (by repeat' (first | with_reducible assumption | with_reducible exact Below.refl _ _ | with_reducible refine Below.drew ?_ | with_reducible refine below_drewN ?_ _)) ?_
                simp only [List.getElem_toArray, List.getElem_cons_succ, List.getElem_cons_zero, Act.put, List.setIfInBounds_toArray, List.set_cons_zero, List.set_cons_succ]
                refine anyS_take (i := 1) rfl (by kernel_rfl) (fun _ _ _ h => h) (Or.inl ⟨by rfl, fun Y hYb => (by (try dsimp only at hYb); go_simp; rfl)⟩) (by repeat' (first | with_reducible assumption | with_reducible exact Below.refl _ _ | with_reducible refine Below.drew ?_ | with_reducible refine below_drewN ?_ _)) ?_
                simp only [List.getElem_toArray, List.getElem_cons_succ, List.getElem_cons_zero, Act.put, List.setIfInBounds_toArray, List.set_cons_zero, List.set_cons_succ]
                refine anyS_take (i := 2) rfl (by kernel_rfl) (fun _ _ _ h => h) (Or.inl ⟨by rfl, fun Y hYb => (by (try dsimp only at hYb); go_simp; rfl)⟩) (by repeat' (first | with_reducible assumption | with_reducible exact Below.refl _ _ | with_reducible refine Below.drew ?_ | with_reducible refine below_drewN ?_ _)) ?_
                simp only [List.getElem_toArray, List.getElem_cons_succ, List.getElem_cons_zero, Act.put, List.setIfInBounds_toArray, List.set_cons_zero, List.set_cons_succ]
                refine anyS_take (i := 3) rfl (by kernel_rfl) (fun _ _ _ h => h) (Or.inl ⟨by rfl, fun Y hYb => (by (try dsimp only at hYb); go_simp; rfl)⟩) (by repeat' (first | with_reducible assumption | with_reducible exact Below.refl _ _ | with_reducible refine Below.drew ?_ | with_reducible refine below_drewN ?_ _)) ?_
                simp only [List.getElem_toArray, List.getElem_cons_succ, List.getElem_cons_zero, Act.put, List.setIfInBounds_toArray, List.set_cons_zero, List.set_cons_succ]
                refine anyS_take (i := 4) rfl (by kernel_rfl) (fun _ _ _ h => h) (Or.inl ⟨by rfl, fun Y hYb => (by (try dsimp only at hYb); go_simp; rfl)⟩) (by repeat' (first | with_reducible assumption | with_reducible exact Below.refl _ _ | with_reducible refine Below.drew ?_ | with_reducible refine below_drewN ?_ _)) ?_
                simp only [List.getElem_toArray, List.getElem_cons_succ, List.getElem_cons_zero, Act.put, List.setIfInBounds_toArray, List.set_cons_zero, List.set_cons_succ]
                refine anyS_take (i := 5) rfl (by kernel_rfl) (fun _ _ _ h => h) (Or.inl ⟨by rfl, fun Y hYb => (by (try dsimp only at hYb); go_simp; rfl)⟩) (by repeat' (first | with_reducible assumption | with_reducible exact Below.refl _ _ | with_reducible refine Below.drew ?_ | with_reducible refine below_drewN ?_ _)) ?_
                simp only [List.getElem_toArray, List.getElem_cons_succ, List.getElem_cons_zero, Act.put, List.setIfInBounds_toArray, List.set_cons_zero, List.set_cons_succ]
                refine anyS_take (i := 6) rfl (by kernel_rfl) (fun _ _ _ h => h) (Or.inl ⟨by rfl, fun Y hYb => (by (try dsimp only at hYb); go_simp; rfl)⟩) (by repeat' (first | with_reducible assumption | with_reducible exact Below.refl _ _ | with_reducible refine Below.drew ?_ | with_reducible refine below_drewN ?_ _)) ?_
                simp only [List.getElem_toArray, List.getElem_cons_succ, List.getElem_cons_zero, Act.put, List.setIfInBounds_toArray, List.set_cons_zero, List.set_cons_succ]
                refine anyS_take (i := 7) rfl (by kernel_rfl) (fun _ _ _ h => h) (Or.inl ⟨by rfl, fun Y hYb => (by (try dsimp only at hYb); go_simp; rfl)⟩) (by repeat' (first | with_reducible assumption | with_reducible exact Below.refl _ _ | with_reducible refine Below.drew ?_ | with_reducible refine below_drewN ?_ _)) ?_
                simp only [List.getElem_toArray, List.getElem_cons_succ, List.getElem_cons_zero, Act.put, List.setIfInBounds_toArray, List.set_cons_zero, List.set_cons_succ]
                refine anyS_take (i := 8) rfl (by kernel_rfl) (fun _ _ _ h => h) (Or.inl ⟨by rfl, fun Y hYb => (by (try dsimp only at hYb); go_simp; rfl)⟩) (by repeat' (first | with_reducible assumption | with_reducible exact Below.refl _ _ | with_reducible refine Below.drew ?_ | with_reducible refine below_drewN ?_ _)) ?_
                simp only [List.getElem_toArray, List.getElem_cons_succ, List.getElem_cons_zero, Act.put, List.setIfInBounds_toArray, List.set_cons_zero, List.set_cons_succ]
                refine anyS_take (i := 9) rfl (by kernel_rfl) (fun _ _ _ h => h) (Or.inl ⟨by rfl, fun Y hYb => (by (try dsimp only at hYb); go_simp; rfl)⟩) (by repeat' (first | with_reducible assumption | with_reducible exact Below.refl _ _ | with_reducible refine Below.drew ?_ | with_reducible refine below_drewN ?_ _)) ?_
                simp only [List.getElem_toArray, List.getElem_cons_succ, List.getElem_cons_zero, Act.put, List.setIfInBounds_toArray, List.set_cons_zero, List.set_cons_succ]
                refine anyS_take (i := 10) rfl (by kernel_rfl) (fun _ _ _ h => h) (Or.inl ⟨by rfl, fun Y hYb => (by (try dsimp only at hYb); go_simp; rfl)⟩) (by repeat' (first | with_reducible assumption | with_reducible exact Below.refl _ _ | with_reducible refine Below.drew ?_ | with_reducible refine below_drewN ?_ _)) ?_
                simp only [List.getElem_toArray, List.getElem_cons_succ, List.getElem_cons_zero, Act.put, List.setIfInBounds_toArray, List.set_cons_zero, List.set_cons_succ]
                clear g0 g1 g2 g3 r1 r2 r3
                generalize ha0 : Act.mk _ _ = a0
                refine anyS_inv (f := 1) (Inv := RInw wr rk rb yc a0) ?hend ?hstep 3 _ _ _ ?hinit
                case hinit =>
                  subst ha0
                  exact ⟨false, false, false, 0, u133, u134, u21, rfl, fun h => h, by kernel_rfl, rfl, (Below.refl _ wr).drew, fun h => (by cases h), fun h => (by cases h), fun h => (by cases h)⟩
                case hstep =>
                  subst ha0
                  (try clear HSB; try clear HPB; try clear HFI; try clear HL2; try clear HNB; try clear HMB; try clear HNO; try clear HL1; try clear HRU; try clear HST; try clear HPF; try clear HNC; try clear HOK; try clear HP; try clear HO; try clear HR; try clear X0; try clear X1; try clear X2; try clear X1'; try clear RG'; try clear RG5; try clear hN; try clear hU; try clear B1; try clear hrlk; try clear hj0; try clear hy0; try clear hy1; try clear hy2; try clear hk0; try clear hq0; try clear hq1; try clear hq2; try clear XB5; try clear SX5; try clear hU5; try clear hix; try clear hown; try clear RO; try clear HLR; try clear HGV; try clear HYV; try clear HYC)
                  rintro n listed a' Y ⟨b11, b12, b13, e, v133, v134, v21, hn, h85, rfl, rfl, hB, h11, h12, h13⟩
                  cases b11 <;> cases b12 <;> cases b13
                  all_goals first | exact absurd (h85 rfl) Bool.false_ne_true | exact absurd hn (Nat.succ_ne_zero _) | skip
                  · refine ready_all (L := [11, 13]) (by kernel_rfl) (by decide) ?_
                    refine List.forall_mem_cons.2 ⟨?_, List.forall_mem_cons.2 ⟨?_, fun _ h => (by cases h)⟩⟩
                    · refine wpOp_step rfl (by rfl) fun K hK => ?_
                      go_simp
                      refine (hrul _ (bvia Bl hB)).mono ?_
                      rintro e' w' ⟨rfl, hb'⟩
                      dsimp only
                      exact hK _ _ ⟨fun _ _ => bvia hB hb', true, false, false, e, (.agg #[.int .i64 rk, .int .i64 rb]), v134, v21, (by have h := hn; simp at h ⊢; omega), by decide, by kernel_rfl, by kernel_rfl, bvia hB hb', fun _ => rfl, fun h => (by cases h), fun h => (by cases h)⟩
                    · refine wpOp_step rfl (by rfl) fun K hK => ?_
                      go_simp
                      have hbb : Below Y.heap.size Y (Y.alloc (.cells #[.int .i64 0, .int .i64 0, .int .i64 0, .int .i64 0] 80)) := below_alloc _ _
                      exact hK _ _ ⟨fun _ _ => bvia hB hbb, false, false, true, Y.heap.size, v133, v134, (.pointer (some ⟨Y.heap.size, 0, none⟩)), (by have h := hn; simp at h ⊢; omega), by decide, by kernel_rfl, by kernel_rfl, bvia hB hbb, fun h => (by cases h), fun h => (by cases h), fun _ => ⟨rfl, hB.size, Bx.new Y #[.int .i64 0, .int .i64 0, .int .i64 0, .int .i64 0] 80⟩⟩
                  · refine ready_all (L := [11]) (by kernel_rfl) (by decide) ?_
                    obtain ⟨q3, p2, p3⟩ := h13 rfl
                    subst q3
                    clear h13
                    refine List.forall_mem_cons.2 ⟨?_, fun _ h => (by cases h)⟩
                    · refine wpOp_step rfl (by rfl) fun K hK => ?_
                      go_simp
                      refine (hrul _ (bvia Bl hB)).mono ?_
                      rintro e' w' ⟨rfl, hb'⟩
                      dsimp only
                      exact hK _ _ ⟨fun _ _ => bvia hB hb', true, false, true, e, (.agg #[.int .i64 rk, .int .i64 rb]), v134, (.pointer (some ⟨e, 0, none⟩)), (by have h := hn; simp at h ⊢; omega), by decide, by kernel_rfl, by kernel_rfl, bvia hB hb', fun _ => rfl, fun h => (by cases h), fun _ => ⟨rfl, p2, p3.below hb'⟩⟩
                  · refine ready_all (L := [12, 13]) (by kernel_rfl) (by decide) ?_
                    have q1 := h11 rfl
                    subst q1
                    clear h11
                    refine List.forall_mem_cons.2 ⟨?_, List.forall_mem_cons.2 ⟨?_, fun _ h => (by cases h)⟩⟩
                    · refine wpOp_step rfl (by rfl) fun K hK => ?_
                      go_simp
                      refine (haft _).mono ?_
                      rintro e' w' ⟨rfl, hb'⟩
                      dsimp only
                      exact hK _ _ ⟨fun _ _ => bvia hB hb', true, true, false, e, (.agg #[.int .i64 rk, .int .i64 rb]), (.agg #[.int .i64 yc.e, .int .i64 yc.n, .int .i64 yc.w, .int .i64 yc.s]), v21, (by have h := hn; simp at h ⊢; omega), by decide, by kernel_rfl, by kernel_rfl, bvia hB hb', fun _ => rfl, fun _ => rfl, fun h => (by cases h)⟩
                    · refine wpOp_step rfl (by rfl) fun K hK => ?_
                      go_simp
                      have hbb : Below Y.heap.size Y (Y.alloc (.cells #[.int .i64 0, .int .i64 0, .int .i64 0, .int .i64 0] 80)) := below_alloc _ _
                      exact hK _ _ ⟨fun _ _ => bvia hB hbb, true, false, true, Y.heap.size, (.agg #[.int .i64 rk, .int .i64 rb]), v134, (.pointer (some ⟨Y.heap.size, 0, none⟩)), (by have h := hn; simp at h ⊢; omega), by decide, by kernel_rfl, by kernel_rfl, bvia hB hbb, fun _ => rfl, fun h => (by cases h), fun _ => ⟨rfl, hB.size, Bx.new Y #[.int .i64 0, .int .i64 0, .int .i64 0, .int .i64 0] 80⟩⟩
                  · refine ready_all (L := [12]) (by kernel_rfl) (by decide) ?_
                    have q1 := h11 rfl
                    subst q1
                    clear h11
                    obtain ⟨q3, p2, p3⟩ := h13 rfl
                    subst q3
                    clear h13
                    refine List.forall_mem_cons.2 ⟨?_, fun _ h => (by cases h)⟩
                    · refine wpOp_step rfl (by rfl) fun K hK => ?_
                      go_simp
                      refine (haft _).mono ?_
                      rintro e' w' ⟨rfl, hb'⟩
                      dsimp only
                      exact hK _ _ ⟨fun _ _ => bvia hB hb', true, true, true, e, (.agg #[.int .i64 rk, .int .i64 rb]), (.agg #[.int .i64 yc.e, .int .i64 yc.n, .int .i64 yc.w, .int .i64 yc.s]), (.pointer (some ⟨e, 0, none⟩)), (by have h := hn; simp at h ⊢; omega), by decide, by kernel_rfl, by kernel_rfl, bvia hB hb', fun _ => rfl, fun _ => rfl, fun _ => ⟨rfl, p2, p3.below hb'⟩⟩
                  · refine ready_all (L := [13]) (by kernel_rfl) (by decide) ?_
                    have q1 := h11 rfl
                    subst q1
                    clear h11
                    have q2 := h12 rfl
                    subst q2
                    clear h12
                    refine List.forall_mem_cons.2 ⟨?_, fun _ h => (by cases h)⟩
                    · refine wpOp_step rfl (by rfl) fun K hK => ?_
                      go_simp
                      have hbb : Below Y.heap.size Y (Y.alloc (.cells #[.int .i64 0, .int .i64 0, .int .i64 0, .int .i64 0] 80)) := below_alloc _ _
                      exact hK _ _ ⟨fun _ _ => bvia hB hbb, true, true, true, Y.heap.size, (.agg #[.int .i64 rk, .int .i64 rb]), (.agg #[.int .i64 yc.e, .int .i64 yc.n, .int .i64 yc.w, .int .i64 yc.s]), (.pointer (some ⟨Y.heap.size, 0, none⟩)), (by have h := hn; simp at h ⊢; omega), by decide, by kernel_rfl, by kernel_rfl, bvia hB hbb, fun _ => rfl, fun _ => rfl, fun _ => ⟨rfl, hB.size, Bx.new Y #[.int .i64 0, .int .i64 0, .int .i64 0, .int .i64 0] 80⟩⟩
                case hend =>
                  subst ha0
                  rintro listed a' Y ⟨b11, b12, b13, e, v133, v134, v21, hn, h85, rfl, rfl, hB, h11, h12, h13⟩
                  have hall : b11 = true ∧ b12 = true ∧ b13 = true := by
                    revert hn
                    cases b11 <;> cases b12 <;> cases b13 <;> simp
                  obtain ⟨rfl, rfl, rfl⟩ := hall
                  have q1 := h11 rfl; have q2 := h12 rfl
                  obtain ⟨q3, p2, T0⟩ := h13 rfl
                  subst q1 q2 q3
                  clear h11 h12 h13 h85 hn
                  have t0 := T0.at_ 0 rfl; have t1 := T0.at_ 1 rfl; have t2 := T0.at_ 2 rfl; have t3 := T0.at_ 3 rfl; have tf := T0.free; have tl := T0.lt
                  refine anyS_one (i := 14) (by kernel_rfl) rfl (by rfl) (fun K hK => ?_)
                  go_simp
                  refine hK _ _ (fun h _ => absurd h (by decide)) ?_
                  clear hK K
                  refine anyS_done (by kernel_rfl) ?_ _
                  have T6 : Bx ((((Y.setCell ⟨e, 0, none⟩ (.int .i64 yc.e)).setCell ⟨e, 1, none⟩ (.int .i64 yc.n)).setCell ⟨e, 2, none⟩ (.int .i64 yc.w)).setCell ⟨e, 3, none⟩ (.int .i64 yc.s)) e #[.int .i64 yc.e, .int .i64 yc.n, .int .i64 yc.w, .int .i64 yc.s] := ((((T0.set_ 0 (by simp) (.int .i64 yc.e)).set_ 1 (by simp) (.int .i64 yc.n)).set_ 2 (by simp) (.int .i64 yc.w)).set_ 3 (by simp) (.int .i64 yc.s))
                  have hb6 : But (fun b => b = e) Y ((((Y.setCell ⟨e, 0, none⟩ (.int .i64 yc.e)).setCell ⟨e, 1, none⟩ (.int .i64 yc.n)).setCell ⟨e, 2, none⟩ (.int .i64 yc.w)).setCell ⟨e, 3, none⟩ (.int .i64 yc.s)) := ((((But.refl (fun b => b = e) Y).set_ (p := ⟨e, 0, none⟩) rfl _).set_ (p := ⟨e, 1, none⟩) rfl _).set_ (p := ⟨e, 2, none⟩) rfl _).set_ (p := ⟨e, 3, none⟩) rfl _
                  clear t0 t1 t2 t3 tf tl T0
                  generalize ((((Y.setCell ⟨e, 0, none⟩ (.int .i64 yc.e)).setCell ⟨e, 1, none⟩ (.int .i64 yc.n)).setCell ⟨e, 2, none⟩ (.int .i64 yc.w)).setCell ⟨e, 3, none⟩ (.int .i64 yc.s)) = W6 at *
                  have hU6 : But (fun b => b = bo ∨ vR.ownBlock = some b) W5 W6 := (hU.trans (but_below hB (Nat.le_refl _))).trans' hb6 (fun b h => .inr (by omega))
                  have hlN6 := own_lt hN
                  have hbN6 := own_base hN
                  have hlbo := RO.lt
                  have hN6 : OwnN W6 w1.heap.size u16 _ := own_but2 (own_below hN hB) hb6 (fun g hg => by have := hlN6 g hg; omega)
                  have RO6 := (RO.below hB).but3 hb6 (by omega)
                  have hs6 : wr.heap.size ≤ W6.heap.size := by have := hb6.size; have := hB.size; omega
                  clear hN RO hU hB hb6 Bl X1' hix
                  obtain ⟨ux, hux⟩ : ∃ v, v = u16 := ⟨_, rfl⟩
                  rw [← hux] at hN6 hown hlN6 hbN6
                  go_wp2_with fail
                  obtain ⟨wy, rfl⟩ : ∃ wy : World, wy = wr := ⟨_, rfl⟩
                  go_loopw [16, 22] (fun v16 i' wl => ∃ d : Nat, d ≤ 4 ∧ i' = .int .i64 d ∧ OwnN wl w1.heap.size v16 ((R0 ++ rR Wd Hd o s.nd (s.st + 1) no Yc r) ++ newD Wd Hd o s.nd (s.st + 1) Yc i d) ∧ Ro wl bo (s.ni * 4) (flatC (zD Wd Hd o s.nd no Yc r (zR Wd Hd o s.nd no Yc r) d)) ∧ (∀ g', v16.ownBlock = some g' → vR.ownBlock = some g' ∨ W5.heap.size ≤ g') ∧ (∀ g', v16.ownBlock = some g' → g' ≠ e) ∧ Bx wl e #[.int .i64 yc.e, .int .i64 yc.n, .int .i64 yc.w, .int .i64 yc.s] ∧ But (fun b => b = bo ∨ vR.ownBlock = some b) W5 wl ∧ W6.heap.size ≤ wl.heap.size) (fun _ i' _ => 4 - (intOf i').toNat)
                  case atStart => exact ⟨0, by omega, rfl, by rw [show newD Wd Hd o s.nd (s.st + 1) Yc i 0 = [] from rfl, List.append_nil, ← hux]; exact hN6, RO6, by rw [← hux]; exact hown, by rw [← hux]; exact fun g' h => by have := hlN6 g' h; omega, T6, hU6, Nat.le_refl _⟩
                  case round =>
                    clear hN6 RO6 hown T6 hU6 hux
                    obtain ⟨d, hd, rfl, hN, RO, hown, hne, T, hU, hw6⟩ := hrel
                    have Bl : Below w.heap.size w wr := below_but (C := fun b => b = bo ∨ vR.ownBlock = some b) B5 (hU.mono (fun b _ h => ⟨by
                      rcases h with h | h
                      · omega
                      · have := hbN b h; omega, h⟩))
                    have X1' := (X1.but hU5 (by omega)).but hU (hnC _ (by omega))
                    have X0' := (X0.but hU5 (by omega)).but hU (hnC _ (by omega))
                    have hix := HIX.below Bl
                    by_cases hd4 : d < 4
                    · have hiW : i < Wd * Hd := by rw [← HNO.out]; exact hi1
                      have hmn := nbT_lt (d := opp d) hiW (opp_lt hd4)
                      have hopp := fun W => ref2_opp5 (d : Int) (by omega) (by omega) W
                      rw [opp_int hd4] at hopp
                      have hfrom := fun W => ref2_From Wd Hd i (opp d) W h1 h2 hiW (opp_lt hd4)
                      have hno := fun h => newD_no (W := Wd) (H := Hd) (o := o) (nd := s.nd) (t := s.st + 1) (Y := Yc) (i := i) (d := d) h
                      have hyes := fun h => newD_yes (W := Wd) (H := Hd) (o := o) (nd := s.nd) (t := s.st + 1) (Y := Yc) (i := i) (d := d) h
                      have hzn := fun h => zD_no (W := Wd) (H := Hd) (o := o) (nd := s.nd) (no := no) (Y := Yc) (k := r) (d := d) (Z := zR Wd Hd o s.nd no Yc r) h
                      have hzy := fun h => zD_yes (W := Wd) (H := Hd) (o := o) (nd := s.nd) (no := no) (Y := Yc) (k := r) (d := d) (Z := zR Wd Hd o s.nd no Yc r) h
                      rw [← HI.out] at hzn hzy
                      rw [← HY.out] at hyes hzy
                      have hlen : ((R0 ++ rR Wd Hd o s.nd (s.st + 1) no Yc r) ++ newD Wd Hd o s.nd (s.st + 1) Yc i d).length ≤ 110000 := by
                        have e1 := rR_length (W := Wd) (H := Hd) (o := o) (nd := s.nd) (t := s.st + 1) (no := no) (Y := Yc) r
                        have e2 := newD_length Wd Hd o s.nd (s.st + 1) Yc i d
                        rw [List.length_append, List.length_append]
                        omega
                      rw [← HNO.out] at hmn
                      generalize nbT Wd Hd i (opp d) = m at *
                      have HNN := hid hno; have HYY := hid hyes; have HZN := hid hzn; have HZY := hid hzy
                      clear hno hyes hzn hzy
                      generalize hDL : newD Wd Hd o s.nd (s.st + 1) Yc i d = DL at *
                      generalize hZD : zD Wd Hd o s.nd no Yc r (zR Wd Hd o s.nd no Yc r) d = ZD at *
                      have HDL := hid hDL; have HZD := hid hZD
                      clear hDL hZD
                      obtain ⟨ob, oo, rfl, hob, ocm⟩ := HO m hmn
                      obtain ⟨b', o', e', hbi', ci0'⟩ := hix r hlt
                      injection e' with e'; injection e' with e1 e2 _
                      subst e1 e2
                      rw [(HLR.out r hlt).2.2, ← HI.out] at ci0'
                      have hob2 : ob < wr.heap.size := by have := Bl.size; omega
                      have oc' := (bcell Bl _ _ hob).trans ocm
                      go_upto_region 26 with (fail)
                      have r0 : ∀ Y, Below wr.heap.size wr Y → Y.cell? ⟨w.heap.size, 0, none⟩ = some (.int .i64 (Wd : Int)) := fun Y h => (X0'.below h).at_ 0 rfl
                      have r1 : ∀ Y, Below wr.heap.size wr Y → Y.cell? ⟨w.heap.size, 1, none⟩ = some (.int .i64 (Hd : Int)) := fun Y h => (X0'.below h).at_ 1 rfl
                      have r2 : ∀ Y, Below wr.heap.size wr Y → Y.cell? ⟨w.heap.size + 1, 2, none⟩ = some (.slice (some ⟨bi, oi, none⟩) s.ni ci) := fun Y h => (X1'.below h).at_ 2 rfl
                      have r3 : ∀ Y, Below wr.heap.size wr Y → Y.cell? ⟨bi, oi + r, none⟩ = some (.int .i64 (i : Int)) := fun Y h => (bcell h _ _ hbi').trans ci0'
                      refine wp_region_S (fun Y => Below wr.heap.size wr Y) 12 (by kernel_rfl) ?_
                      refine anyS_take (i := 0) rfl (by kernel_rfl) (fun _ _ _ h => h) (Or.inl ⟨by rfl, fun Y hYb => (by (try dsimp only at hYb); go_simp; rfl)⟩) (by repeat' (first | with_reducible assumption | with_reducible exact Below.refl _ _ | with_reducible refine Below.drew ?_ | with_reducible refine below_drewN ?_ _)) ?_
                      simp only [List.getElem_toArray, List.getElem_cons_succ, List.getElem_cons_zero, Act.put, List.setIfInBounds_toArray, List.set_cons_zero, List.set_cons_succ]
                      refine anyS_take (i := 1) rfl (by kernel_rfl) (fun _ _ _ h => h) (Or.inl ⟨by rfl, fun Y hYb => (by (try dsimp only at hYb); go_simp; rfl)⟩) (by repeat' (first | with_reducible assumption | with_reducible exact Below.refl _ _ | with_reducible refine Below.drew ?_ | with_reducible refine below_drewN ?_ _)) ?_
                      simp only [List.getElem_toArray, List.getElem_cons_succ, List.getElem_cons_zero, Act.put, List.setIfInBounds_toArray, List.set_cons_zero, List.set_cons_succ]
                      refine anyS_take (i := 2) rfl (by kernel_rfl) (fun _ _ _ h => h) (Or.inl ⟨by rfl, fun Y hYb => (by (try dsimp only at hYb); go_simp; rfl)⟩) (by repeat' (first | with_reducible assumption | with_reducible exact Below.refl _ _ | with_reducible refine Below.drew ?_ | with_reducible refine below_drewN ?_ _)) ?_
                      simp only [List.getElem_toArray, List.getElem_cons_succ, List.getElem_cons_zero, Act.put, List.setIfInBounds_toArray, List.set_cons_zero, List.set_cons_succ]
                      refine anyS_take (i := 3) rfl (by kernel_rfl) (fun _ _ _ h => h) (Or.inl ⟨by rfl, fun Y hYb => (by (try dsimp only at hYb); go_simp; rfl)⟩) (by repeat' (first | with_reducible assumption | with_reducible exact Below.refl _ _ | with_reducible refine Below.drew ?_ | with_reducible refine below_drewN ?_ _)) ?_
                      simp only [List.getElem_toArray, List.getElem_cons_succ, List.getElem_cons_zero, Act.put, List.setIfInBounds_toArray, List.set_cons_zero, List.set_cons_succ]
                      refine anyS_take (i := 4) rfl (by kernel_rfl) (fun _ _ _ h => h) (Or.inl ⟨by rfl, fun Y hYb => (by (try dsimp only at hYb); go_simp; rfl)⟩) (by repeat' (first | with_reducible assumption | with_reducible exact Below.refl _ _ | with_reducible refine Below.drew ?_ | with_reducible refine below_drewN ?_ _)) ?_
                      simp only [List.getElem_toArray, List.getElem_cons_succ, List.getElem_cons_zero, Act.put, List.setIfInBounds_toArray, List.set_cons_zero, List.set_cons_succ]
                      refine anyS_take (i := 5) rfl (by kernel_rfl) (fun _ _ _ h => h) (Or.inl ⟨by rfl, fun Y hYb => (by (try dsimp only at hYb); go_simp; rfl)⟩) (by repeat' (first | with_reducible assumption | with_reducible exact Below.refl _ _ | with_reducible refine Below.drew ?_ | with_reducible refine below_drewN ?_ _)) ?_
                      simp only [List.getElem_toArray, List.getElem_cons_succ, List.getElem_cons_zero, Act.put, List.setIfInBounds_toArray, List.set_cons_zero, List.set_cons_succ]
                      refine anyS_take (i := 6) rfl (by kernel_rfl) (fun _ _ _ h => h) (Or.inl ⟨by rfl, fun Y hYb => (by (try dsimp only at hYb); go_simp; rfl)⟩) (by repeat' (first | with_reducible assumption | with_reducible exact Below.refl _ _ | with_reducible refine Below.drew ?_ | with_reducible refine below_drewN ?_ _)) ?_
                      simp only [List.getElem_toArray, List.getElem_cons_succ, List.getElem_cons_zero, Act.put, List.setIfInBounds_toArray, List.set_cons_zero, List.set_cons_succ]
                      refine anyS_take (i := 7) rfl (by kernel_rfl) (fun _ _ _ h => h) (Or.inl ⟨by rfl, fun Y hYb => (by (try dsimp only at hYb); go_simp; rfl)⟩) (by repeat' (first | with_reducible assumption | with_reducible exact Below.refl _ _ | with_reducible refine Below.drew ?_ | with_reducible refine below_drewN ?_ _)) ?_
                      simp only [List.getElem_toArray, List.getElem_cons_succ, List.getElem_cons_zero, Act.put, List.setIfInBounds_toArray, List.set_cons_zero, List.set_cons_succ]
                      refine anyS_take (i := 8) rfl (by kernel_rfl) (fun _ _ _ h => h) (Or.inl ⟨by rfl, fun Y hYb => (by (try dsimp only at hYb); go_simp; rfl)⟩) (by repeat' (first | with_reducible assumption | with_reducible exact Below.refl _ _ | with_reducible refine Below.drew ?_ | with_reducible refine below_drewN ?_ _)) ?_
                      simp only [List.getElem_toArray, List.getElem_cons_succ, List.getElem_cons_zero, Act.put, List.setIfInBounds_toArray, List.set_cons_zero, List.set_cons_succ]
                      refine anyS_take (i := 9) rfl (by kernel_rfl) (fun _ _ _ h => h) (Or.inl ⟨by rfl, fun Y hYb => (by (try dsimp only at hYb); go_simp; rfl)⟩) (by repeat' (first | with_reducible assumption | with_reducible exact Below.refl _ _ | with_reducible refine Below.drew ?_ | with_reducible refine below_drewN ?_ _)) ?_
                      simp only [List.getElem_toArray, List.getElem_cons_succ, List.getElem_cons_zero, Act.put, List.setIfInBounds_toArray, List.set_cons_zero, List.set_cons_succ]
                      clear r0 r1 r2 r3
                      refine anyS_one (i := 10) (by kernel_rfl) rfl (by rfl) (fun K hK => ?_)
                      go_simp
                      refine (hopp _).mono ?_
                      rintro e' w' ⟨rfl, rfl⟩
                      dsimp only
                      refine hK _ _ (fun _ h => h) ?_
                      clear hK K
                      refine anyS_one (i := 11) (by kernel_rfl) rfl (by rfl) (fun K hK => ?_)
                      go_simp
                      refine (hfrom _).mono ?_
                      rintro e' w3 ⟨rfl, hb3⟩
                      dsimp only
                      have hS3 : Below wr.heap.size wr w3 := bvia (Below.refl _ wr).drew hb3
                      refine hK _ _ (fun _ _ => hS3) ?_
                      clear hK K hb3
                      refine anyS_one (i := 12) (by kernel_rfl) rfl (by rfl) (fun K hK => ?_)
                      go_simp
                      refine hK _ _ (fun h _ => absurd h (by decide)) ?_
                      clear hK K
                      refine anyS_done (by kernel_rfl) ?_ _
                      have hob3 : ob < w3.heap.size := by have := hS3.size; omega
                      have oc3 := (bcell hS3 _ _ hob2).trans oc'
                      replace X1' := X1'.below hS3; replace T := T.below hS3; replace RO := RO.below hS3
                      replace hN : OwnN w3 w1.heap.size u16 _ := own_below hN hS3
                      replace hU := hU.trans (but_below (C := fun b => b = bo ∨ vR.ownBlock = some b) hS3 (Nat.le_refl _))
                      replace Bl := bvia Bl hS3
                      replace hw6 := Nat.le_trans hw6 hS3.size
                      clear hopp hfrom hS3 X0' oc' hix ci0' hbi'
                      obtain ⟨bq, hbq⟩ : ∃ b, (o m == s.nd) = b := ⟨_, rfl⟩
                      go_upto_region 27 with (fail)
                      have r0 : ∀ Y, Below w3.heap.size w3 Y → Y.cell? ⟨ob, oo + m, none⟩ = some (.int .i64 (o m)) := fun Y h => (bcell h _ _ hob3).trans oc3
                      have r1 : ∀ Y, Below w3.heap.size w3 Y → Y.cell? ⟨w.heap.size + 1, 0, none⟩ = some (.int .i64 s.nd) := fun Y h => (X1'.below h).at_ 0 rfl
                      refine wp_region_S (fun Y => Below w3.heap.size w3 Y) 7 (by kernel_rfl) ?_
                      refine anyS_take (i := 0) rfl (by kernel_rfl) (fun _ _ _ h => h) (Or.inl ⟨by rfl, fun Y hYb => (by (try dsimp only at hYb); go_simp; rfl)⟩) (by repeat' (first | with_reducible assumption | with_reducible exact Below.refl _ _ | with_reducible refine Below.drew ?_ | with_reducible refine below_drewN ?_ _)) ?_
                      simp only [List.getElem_toArray, List.getElem_cons_succ, List.getElem_cons_zero, Act.put, List.setIfInBounds_toArray, List.set_cons_zero, List.set_cons_succ]
                      refine anyS_take (i := 1) rfl (by kernel_rfl) (fun _ _ _ h => h) (Or.inl ⟨by rfl, fun Y hYb => (by (try dsimp only at hYb); go_simp; rfl)⟩) (by repeat' (first | with_reducible assumption | with_reducible exact Below.refl _ _ | with_reducible refine Below.drew ?_ | with_reducible refine below_drewN ?_ _)) ?_
                      simp only [List.getElem_toArray, List.getElem_cons_succ, List.getElem_cons_zero, Act.put, List.setIfInBounds_toArray, List.set_cons_zero, List.set_cons_succ]
                      refine anyS_take (i := 2) rfl (by kernel_rfl) (fun _ _ _ h => h) (Or.inl ⟨by rfl, fun Y hYb => (by (try dsimp only at hYb); go_simp; rfl)⟩) (by repeat' (first | with_reducible assumption | with_reducible exact Below.refl _ _ | with_reducible refine Below.drew ?_ | with_reducible refine below_drewN ?_ _)) ?_
                      simp only [List.getElem_toArray, List.getElem_cons_succ, List.getElem_cons_zero, Act.put, List.setIfInBounds_toArray, List.set_cons_zero, List.set_cons_succ]
                      refine anyS_take (i := 3) rfl (by kernel_rfl) (fun _ _ _ h => h) (Or.inl ⟨by rfl, fun Y hYb => (by (try dsimp only at hYb); go_simp; rfl)⟩) (by repeat' (first | with_reducible assumption | with_reducible exact Below.refl _ _ | with_reducible refine Below.drew ?_ | with_reducible refine below_drewN ?_ _)) ?_
                      simp only [List.getElem_toArray, List.getElem_cons_succ, List.getElem_cons_zero, Act.put, List.setIfInBounds_toArray, List.set_cons_zero, List.set_cons_succ]
                      refine anyS_take (i := 4) rfl (by kernel_rfl) (fun _ _ _ h => h) (Or.inl ⟨by rfl, fun Y hYb => (by (try dsimp only at hYb); go_simp; rfl)⟩) (by repeat' (first | with_reducible assumption | with_reducible exact Below.refl _ _ | with_reducible refine Below.drew ?_ | with_reducible refine below_drewN ?_ _)) ?_
                      simp only [List.getElem_toArray, List.getElem_cons_succ, List.getElem_cons_zero, Act.put, List.setIfInBounds_toArray, List.set_cons_zero, List.set_cons_succ]
                      refine anyS_take (i := 5) rfl (by kernel_rfl) (fun _ _ _ h => h) (Or.inl ⟨by rfl, fun Y hYb => (by (try dsimp only at hYb); go_simp; rfl)⟩) (by repeat' (first | with_reducible assumption | with_reducible exact Below.refl _ _ | with_reducible refine Below.drew ?_ | with_reducible refine below_drewN ?_ _)) ?_
                      simp only [List.getElem_toArray, List.getElem_cons_succ, List.getElem_cons_zero, Act.put, List.setIfInBounds_toArray, List.set_cons_zero, List.set_cons_succ]
                      refine anyS_take (i := 6) rfl (by kernel_rfl) (fun _ _ _ h => h) (Or.inl ⟨by rfl, fun Y hYb => (by (try dsimp only at hYb); go_simp; rfl)⟩) (by repeat' (first | with_reducible assumption | with_reducible exact Below.refl _ _ | with_reducible refine Below.drew ?_ | with_reducible refine below_drewN ?_ _)) ?_
                      simp only [List.getElem_toArray, List.getElem_cons_succ, List.getElem_cons_zero, Act.put, List.setIfInBounds_toArray, List.set_cons_zero, List.set_cons_succ]
                      refine anyS_done (by kernel_rfl) ?_ _
                      clear r0 r1
                      have hb34 : Below w3.heap.size w3 w3.drew := by (repeat' (first | with_reducible assumption | with_reducible exact Below.refl _ _ | with_reducible refine Below.drew ?_ | with_reducible refine below_drewN ?_ _ | with_reducible refine balloc ?_ _ | with_reducible refine bset ?_ ?_ _ | with_reducible refine Below.setCell ?_ ?_ _ | with_reducible refine Below.alloc ?_ ?_ _ | omega | (simp; done) | (simp; omega)))
                      generalize w3.drew = w4 at *
                      have hob4 : ob < w4.heap.size := by have := hb34.size; omega
                      have oc4 := (bcell hb34 _ _ hob3).trans oc3
                      replace X1' := X1'.below hb34; replace T := T.below hb34; replace RO := RO.below hb34
                      replace hN : OwnN w4 w1.heap.size u16 _ := own_below hN hb34
                      replace hU := hU.trans (but_below (C := fun b => b = bo ∨ vR.ownBlock = some b) hb34 (Nat.le_refl _))
                      replace Bl := bvia Bl hb34
                      replace hw6 := Nat.le_trans hw6 hb34.size
                      clear hb34 oc3 hob3
                      cases bq
                      · have hke : o m ≠ s.nd := fun h => by rw [h] at hbq; simp at hbq
                        have g1 := HYY.out hke; have g2 := HZN.out hke
                        have HG1 := hid g1; have HG2 := hid g2
                        clear g1 g2
                        have hbs := own_base hN
                        have hlt4 := own_lt hN
                        go_upto_region 28 with (fail)
                        have r0 : ∀ Y, But (fun b => u16.ownBlock = some b) w4 Y → Y.cell? ⟨ob, oo + m, none⟩ = some (.int .i64 (o m)) := fun Y h => (World.cell?_of_block (h.block ob hob4 (fun e => by have := hbs ob e; have := B1.size; omega))).trans oc4
                        have r1 : ∀ Y, But (fun b => u16.ownBlock = some b) w4 Y → Y.cell? ⟨w.heap.size + 1, 0, none⟩ = some (.int .i64 s.nd) := fun Y h => (X1'.but h (fun e => by have := hbs _ e; omega)).at_ 0 rfl
                        have r2 : ∀ Y, But (fun b => u16.ownBlock = some b) w4 Y → Y.cell? ⟨w.heap.size + 1, 1, none⟩ = some (.int .i64 s.st) := fun Y h => (X1'.but h (fun e => by have := hbs _ e; omega)).at_ 1 rfl
                        have r3 : ∀ Y, But (fun b => u16.ownBlock = some b) w4 Y → Y.cell? ⟨e, d, none⟩ = some (.int .i64 (yc.get d)) := fun Y h => (T.but h (fun e' => hne _ e' rfl)).c4_at hd4
                        have hdI : (d : Int) < 4 := by omega
                        refine wp_region_S (fun Y => But (fun b => u16.ownBlock = some b) w4 Y) 19 (by kernel_rfl) ?_
                        refine anyS_take (i := 0) rfl (by kernel_rfl) (fun _ _ _ h => h) (Or.inl ⟨by rfl, fun Y hYb => (by (try dsimp only at hYb); go_simp; rfl)⟩) (by repeat' (first | with_reducible assumption | with_reducible exact But.refl _ _ | with_reducible refine But.drew ?_ | with_reducible refine But.drewN ?_ _)) ?_
                        simp only [List.getElem_toArray, List.getElem_cons_succ, List.getElem_cons_zero, Act.put, List.setIfInBounds_toArray, List.set_cons_zero, List.set_cons_succ]
                        refine anyS_take (i := 1) rfl (by kernel_rfl) (fun _ _ _ h => h) (Or.inl ⟨by rfl, fun Y hYb => (by (try dsimp only at hYb); go_simp; rfl)⟩) (by repeat' (first | with_reducible assumption | with_reducible exact But.refl _ _ | with_reducible refine But.drew ?_ | with_reducible refine But.drewN ?_ _)) ?_
                        simp only [List.getElem_toArray, List.getElem_cons_succ, List.getElem_cons_zero, Act.put, List.setIfInBounds_toArray, List.set_cons_zero, List.set_cons_succ]
                        refine anyS_take (i := 2) rfl (by kernel_rfl) (fun _ _ _ h => h) (Or.inl ⟨by rfl, fun Y hYb => (by (try dsimp only at hYb); go_simp; rfl)⟩) (by repeat' (first | with_reducible assumption | with_reducible exact But.refl _ _ | with_reducible refine But.drew ?_ | with_reducible refine But.drewN ?_ _)) ?_
                        simp only [List.getElem_toArray, List.getElem_cons_succ, List.getElem_cons_zero, Act.put, List.setIfInBounds_toArray, List.set_cons_zero, List.set_cons_succ]
                        refine anyS_pure (i := 3) rfl (by kernel_rfl) (fun _ _ _ h => h) (Or.inl ⟨by rfl, fun Y hYb => (by clear hYb; go_simp; rfl)⟩) ?_
                        refine anyS_take (i := 4) rfl (by kernel_rfl) (fun _ _ _ h => h) (Or.inl ⟨by rfl, fun Y hYb => (by (try dsimp only at hYb); go_simp; rfl)⟩) (by repeat' (first | with_reducible assumption | with_reducible exact But.refl _ _ | with_reducible refine But.drew ?_ | with_reducible refine But.drewN ?_ _)) ?_
                        simp only [List.getElem_toArray, List.getElem_cons_succ, List.getElem_cons_zero, Act.put, List.setIfInBounds_toArray, List.set_cons_zero, List.set_cons_succ]
                        refine anyS_take (i := 5) rfl (by kernel_rfl) (fun _ _ _ h => h) (Or.inl ⟨by rfl, fun Y hYb => (by (try dsimp only at hYb); go_simp; rfl)⟩) (by repeat' (first | with_reducible assumption | with_reducible exact But.refl _ _ | with_reducible refine But.drew ?_ | with_reducible refine But.drewN ?_ _)) ?_
                        simp only [List.getElem_toArray, List.getElem_cons_succ, List.getElem_cons_zero, Act.put, List.setIfInBounds_toArray, List.set_cons_zero, List.set_cons_succ]
                        refine anyS_take (i := 6) rfl (by kernel_rfl) (fun _ _ _ h => h) (Or.inl ⟨by rfl, fun Y hYb => (by (try dsimp only at hYb); go_simp; rfl)⟩) (by repeat' (first | with_reducible assumption | with_reducible exact But.refl _ _ | with_reducible refine But.drew ?_ | with_reducible refine But.drewN ?_ _)) ?_
                        simp only [List.getElem_toArray, List.getElem_cons_succ, List.getElem_cons_zero, Act.put, List.setIfInBounds_toArray, List.set_cons_zero, List.set_cons_succ]
                        refine anyS_take (i := 7) rfl (by kernel_rfl) (fun _ _ _ h => h) (Or.inl ⟨by rfl, fun Y hYb => (by (try dsimp only at hYb); go_simp; rfl)⟩) (by repeat' (first | with_reducible assumption | with_reducible exact But.refl _ _ | with_reducible refine But.drew ?_ | with_reducible refine But.drewN ?_ _)) ?_
                        simp only [List.getElem_toArray, List.getElem_cons_succ, List.getElem_cons_zero, Act.put, List.setIfInBounds_toArray, List.set_cons_zero, List.set_cons_succ]
                        refine anyS_take (i := 8) rfl (by kernel_rfl) (fun _ _ _ h => h) (Or.inl ⟨by rfl, fun Y hYb => (by (try dsimp only at hYb); go_simp; rfl)⟩) (by repeat' (first | with_reducible assumption | with_reducible exact But.refl _ _ | with_reducible refine But.drew ?_ | with_reducible refine But.drewN ?_ _)) ?_
                        simp only [List.getElem_toArray, List.getElem_cons_succ, List.getElem_cons_zero, Act.put, List.setIfInBounds_toArray, List.set_cons_zero, List.set_cons_succ]
                        refine anyS_take (i := 9) rfl (by kernel_rfl) (fun _ _ _ h => h) (Or.inl ⟨by rfl, fun Y hYb => (by (try dsimp only at hYb); go_simp; rfl)⟩) (by repeat' (first | with_reducible assumption | with_reducible exact But.refl _ _ | with_reducible refine But.drew ?_ | with_reducible refine But.drewN ?_ _)) ?_
                        simp only [List.getElem_toArray, List.getElem_cons_succ, List.getElem_cons_zero, Act.put, List.setIfInBounds_toArray, List.set_cons_zero, List.set_cons_succ]
                        refine anyS_take (i := 10) rfl (by kernel_rfl) (fun _ _ _ h => h) (Or.inl ⟨by rfl, fun Y hYb => (by (try dsimp only at hYb); go_simp; rfl)⟩) (by repeat' (first | with_reducible assumption | with_reducible exact But.refl _ _ | with_reducible refine But.drew ?_ | with_reducible refine But.drewN ?_ _)) ?_
                        simp only [List.getElem_toArray, List.getElem_cons_succ, List.getElem_cons_zero, Act.put, List.setIfInBounds_toArray, List.set_cons_zero, List.set_cons_succ]
                        refine anyS_take (i := 11) rfl (by kernel_rfl) (fun _ _ _ h => h) (Or.inl ⟨by rfl, fun Y hYb => (by (try dsimp only at hYb); go_simp; rfl)⟩) (by repeat' (first | with_reducible assumption | with_reducible exact But.refl _ _ | with_reducible refine But.drew ?_ | with_reducible refine But.drewN ?_ _)) ?_
                        simp only [List.getElem_toArray, List.getElem_cons_succ, List.getElem_cons_zero, Act.put, List.setIfInBounds_toArray, List.set_cons_zero, List.set_cons_succ]
                        refine anyS_take (i := 12) rfl (by kernel_rfl) (fun _ _ _ h => h) (Or.inl ⟨by rfl, fun Y hYb => (by (try dsimp only at hYb); go_simp; rfl)⟩) (by repeat' (first | with_reducible assumption | with_reducible exact But.refl _ _ | with_reducible refine But.drew ?_ | with_reducible refine But.drewN ?_ _)) ?_
                        simp only [List.getElem_toArray, List.getElem_cons_succ, List.getElem_cons_zero, Act.put, List.setIfInBounds_toArray, List.set_cons_zero, List.set_cons_succ]
                        refine anyS_take (i := 13) rfl (by kernel_rfl) (fun _ _ _ h => h) (Or.inl ⟨by rfl, fun Y hYb => (by (try dsimp only at hYb); go_simp; rfl)⟩) (by repeat' (first | with_reducible assumption | with_reducible exact But.refl _ _ | with_reducible refine But.drew ?_ | with_reducible refine But.drewN ?_ _)) ?_
                        simp only [List.getElem_toArray, List.getElem_cons_succ, List.getElem_cons_zero, Act.put, List.setIfInBounds_toArray, List.set_cons_zero, List.set_cons_succ]
                        refine anyS_take (i := 14) rfl (by kernel_rfl) (fun _ _ _ h => h) (Or.inl ⟨by rfl, fun Y hYb => (by (try dsimp only at hYb); go_simp; rfl)⟩) (by repeat' (first | with_reducible assumption | with_reducible exact But.refl _ _ | with_reducible refine But.drew ?_ | with_reducible refine But.drewN ?_ _)) ?_
                        simp only [List.getElem_toArray, List.getElem_cons_succ, List.getElem_cons_zero, Act.put, List.setIfInBounds_toArray, List.set_cons_zero, List.set_cons_succ]
                        refine anyS_take (i := 15) rfl (by kernel_rfl) (fun _ _ _ h => h) (Or.inl ⟨by rfl, fun Y hYb => (by (try dsimp only at hYb); go_simp; rfl)⟩) (by repeat' (first | with_reducible assumption | with_reducible exact But.refl _ _ | with_reducible refine But.drew ?_ | with_reducible refine But.drewN ?_ _)) ?_
                        simp only [List.getElem_toArray, List.getElem_cons_succ, List.getElem_cons_zero, Act.put, List.setIfInBounds_toArray, List.set_cons_zero, List.set_cons_succ]
                        clear r0 r1 r2 r3
                        refine anyS_one (i := 16) (by kernel_rfl) rfl (by rfl) (fun K hK => ?_)
                        go_simp
                        have hS14 : But (fun b => u16.ownBlock = some b) w4 ((w4.alloc (.cells #[.int .i64 (s.st + 1), .int .i64 s.nd, .int .i64 (o m), .int .i64 (m : Int), .int .i64 (d : Int), .int .i64 (yc.get d)] 78)).drew) := ((But.refl _ w4).alloc _).drew
                        refine hK _ _ (fun _ _ => hS14) ?_
                        clear hK K
                        have hb14 : Below w4.heap.size w4 ((w4.alloc (.cells #[.int .i64 (s.st + 1), .int .i64 s.nd, .int .i64 (o m), .int .i64 (m : Int), .int .i64 (d : Int), .int .i64 (yc.get d)] 78)).drew) := by (repeat' (first | with_reducible assumption | with_reducible exact Below.refl _ _ | with_reducible refine Below.drew ?_ | with_reducible refine below_drewN ?_ _ | with_reducible refine balloc ?_ _ | with_reducible refine bset ?_ ?_ _ | with_reducible refine Below.setCell ?_ ?_ _ | with_reducible refine Below.alloc ?_ ?_ _ | omega | (simp; done) | (simp; omega)))
                        have hs14 : w1.heap.size ≤ ((w4.alloc (.cells #[.int .i64 (s.st + 1), .int .i64 s.nd, .int .i64 (o m), .int .i64 (m : Int), .int .i64 (d : Int), .int .i64 (yc.get d)] 78)).drew).heap.size := by have := hS14.size; have := hU5.size; have := hU.size; omega
                        have hnews : ∀ j u, (N6.list ⟨s.st + 1, s.nd, o m, m, d, yc.get d⟩)[j]? = some u → ((w4.alloc (.cells #[.int .i64 (s.st + 1), .int .i64 s.nd, .int .i64 (o m), .int .i64 (m : Int), .int .i64 (d : Int), .int .i64 (yc.get d)] 78)).drew).cell? ((⟨w4.heap.size, 0, none⟩ : Addr).add j) = some u := cells_new w4 (N6.list ⟨s.st + 1, s.nd, o m, m, d, yc.get d⟩) 78
                        have hsz14 : ((w4.alloc (.cells #[.int .i64 (s.st + 1), .int .i64 s.nd, .int .i64 (o m), .int .i64 (m : Int), .int .i64 (d : Int), .int .i64 (yc.get d)] 78)).drew).heap.size = w4.heap.size + 1 := by simp
                        generalize (w4.alloc (.cells #[.int .i64 (s.st + 1), .int .i64 s.nd, .int .i64 (o m), .int .i64 (m : Int), .int .i64 (d : Int), .int .i64 (yc.get d)] 78)).drew = w14 at *
                        have hN14 : OwnN w14 w1.heap.size u16 _ := own_below hN hb14
                        have T14 := T.below hb14; have RO14 := RO.below hb14
                        have hA1 : ((R0 ++ rR Wd Hd o s.nd (s.st + 1) no Yc r) ++ DL).length + 1 ≤ maxLen := Nat.le_trans (Nat.add_le_add_right hlen 1) (by decide)
                        have hA2 : (((R0 ++ rR Wd Hd o s.nd (s.st + 1) no Yc r) ++ DL).length + 1) * 48 ≤ 140737488355328 := Nat.le_trans (Nat.mul_le_mul_right 48 (Nat.add_le_add_right hlen 1)) (by decide)
                        refine anyS_one (i := 17) (by kernel_rfl) rfl (by rfl) (fun K hK => ?_)
                        refine wp_append_at2 (.tmp 158) (.tmp 174) 31 rfl w1.heap.size 78 j0 (.agg #[.int .i64 0, .int .i64 0, .int .i64 0, .int .i64 0, .int .i64 0, .int .i64 0]) 6 48 Tryz.underlying31 hj0 hy0 hy1 hy2 rfl (by decide) u16 _ _ rfl hN14 ⟨w4.heap.size, 0, none⟩ 1 1 (N6.list ⟨s.st + 1, s.nd, o m, m, d, yc.get d⟩) rfl rfl hnews (n6_one _) hA1 hA2 hs14 ?_
                        intro v' w5' hown' hgr hat
                        have hS15 : But (fun b => u16.ownBlock = some b) w4 w5' := but_grownX hS14 hgr (fun g hg => .inl hg)
                        refine hK _ _ (fun _ _ => hS15) ?_
                        clear hK K hnews
                        refine anyS_take (i := 18) rfl (by kernel_rfl) (fun _ _ _ h => h) (Or.inl ⟨by rfl, fun Y hYb => (by (try dsimp only at hYb); go_simp; rfl)⟩) (by repeat' (first | with_reducible assumption | with_reducible exact But.refl _ _ | with_reducible refine But.drew ?_ | with_reducible refine But.drewN ?_ _)) ?_
                        simp only [List.getElem_toArray, List.getElem_cons_succ, List.getElem_cons_zero, Act.put, List.setIfInBounds_toArray, List.set_cons_zero, List.set_cons_succ]
                        refine anyS_done (by kernel_rfl) ?_ _
                        have hTl := T.lt
                        have hown2 : ∀ g', v'.ownBlock = some g' → vR.ownBlock = some g' ∨ W5.heap.size ≤ g' := fun g' hg => by
                          rcases hat with h | h
                          · exact hown g' (h ▸ hg)
                          · rw [h] at hg
                            injection hg with hg
                            have := hU.size
                            exact .inr (by omega)
                        have hne2 : ∀ g', v'.ownBlock = some g' → g' ≠ e := fun g' hg => by
                          rcases hat with h | h
                          · exact hne g' (h ▸ hg)
                          · rw [h] at hg
                            injection hg with hg
                            omega
                        have hbo9 : ¬ u16.ownBlock = some bo := fun h => by
                          rcases hown bo h with h' | h'
                          · have := hlN bo h'; omega
                          · omega
                        have hfin : OwnN w5' w1.heap.size v' ((R0 ++ rR Wd Hd o s.nd (s.st + 1) no Yc r) ++ newD Wd Hd o s.nd (s.st + 1) Yc i (d + 1)) := by
                          rw [HG1.out, ← List.append_assoc]
                          exact ownN_snoc hown'
                        have T15 := T14.grown hgr (fun e' => hne _ e'.symm rfl)
                        have RO15 := RO.but3 hS15 hbo9
                        have hU15 : But (fun b => b = bo ∨ vR.ownBlock = some b) W5 w5' := hU.trans' hS15 (fun b hb => by
                          rcases hown b hb with h | h
                          · exact .inl (.inr h)
                          · exact .inr h)
                        have hFIN := hid hfin; have HO2 := hid hown2; have HN2 := hid hne2
                        clear hfin hown2 hne2 hat hown' hgr
                        go_wp2
                        go_roundw
                        case rel => exact ⟨d + 1, by omega, by go_num, hFIN.out, by rw [HG2.out]; exact RO15, HO2.out, HN2.out, T15, hU15, Nat.le_trans hw6 hS15.size⟩
                        case measure => simp [intOf]; omega
                      · have hqe : o m = s.nd := by simpa using hbq
                        have g1 := HNN.out hqe; have g2 := HZY.out hqe
                        rw [← HL1.out] at g2
                        have HG1 := hid g1; have HG2 := hid g2
                        clear g1 g2
                        have hbs := own_base hN
                        have hbo9 : ∀ g', u16.ownBlock = some g' → g' ≠ bo := fun g' h e1 => by
                          subst e1
                          rcases hown g' h with h' | h'
                          · have := hlN g' h'; omega
                          · omega
                        have hebo : e ≠ bo := by omega
                        have hbl1 := RO.lt
                        have XB' : Bx w4 bx #[.int .i64 s.nd, .int .i64 (s.st + 1), .slice (some ⟨g, 0, none⟩) s.ni c9, .slice (some ⟨bo, 0, none⟩) s.ni s.ni] := XB5.but hU (hnC2 bx p6 (by omega))
                        rw [← zJ_zero (o := o) (nd := s.nd) (no := no) m d (yc.get d) ZD] at RO
                        go_wp2
                        obtain ⟨wx, rfl⟩ : ∃ wx : World, wx = w4 := ⟨_, rfl⟩
                        go_loopw [24] (fun i2 wl => ∃ j : Nat, j ≤ s.ni ∧ i2 = .int .i64 j ∧ Ro wl bo (s.ni * 4) (flatC (zJ o s.nd no m d (yc.get d) ZD j)) ∧ But (fun b => b = bo) wx wl) (fun i2 _ => s.ni - (intOf i2).toNat)
                        case atStart => exact ⟨0, Nat.zero_le _, rfl, RO, But.refl _ _⟩
                        case round =>
                          clear RO
                          obtain ⟨j, hj, rfl, RO, hV⟩ := hrel
                          have X2' := X1'.but hV (by omega)
                          have Bl2 : Below w.heap.size w wr := below_but (C := fun b => b = bo) Bl (hV.mono (fun b _ h => ⟨by omega, h⟩))
                          have x2 := X2'.at_ 2 rfl; have lx := X2'.lt
                          by_cases hlj : j < s.ni
                          · obtain ⟨hj1, hj2, hj3⟩ := HLR.out j hlj
                            obtain ⟨b', o', e', hbi', cj0⟩ := (HIX.below Bl2) j hlj
                            injection e' with e'; injection e' with e1 e2 _
                            subst e1 e2
                            rw [hj3] at cj0
                            have hzy := @zJ_yes o s.nd no m d (yc.get d) ZD j
                            have hzn := @zJ_no o s.nd no m d (yc.get d) ZD j
                            obtain ⟨lj, hlje⟩ : ∃ l, l = Lr o s.nd no j := ⟨_, rfl⟩
                            rw [← hlje] at cj0 hzy hzn
                            have HZ1 := hid hzy; have HZ2 := hid hzn
                            clear hzy hzn hlje hj3
                            by_cases hjm : lj = m
                            · have g3 := HZ1.out hjm
                              have HG3 := hid g3
                              clear g3
                              subst hjm
                              go_wp2_with fail
                              clear x2
                              have XB2 := XB'.but hV (by omega)
                              have TT := T.but hV hebo
                              have r0 : ∀ Y, Below wr.heap.size wr Y → Y.cell? ⟨bx, 3, none⟩ = some (.slice (some ⟨bo, 0, none⟩) s.ni s.ni) := fun Y h => (XB2.below h).at_ 3 rfl
                              have r1 : ∀ Y, Below wr.heap.size wr Y → Y.cell? ⟨e, d, none⟩ = some (.int .i64 (yc.get d)) := fun Y h => (TT.below h).c4_at hd4
                              have hdI : (d : Int) < 4 := by omega
                              have y0 := RO.2 (j * 4 + d) (by omega)
                              have yf := RO.free
                              have ylt := RO.lt
                              generalize hzz : zJ o s.nd no lj d (yc.get d) ZD j = zz at *
                              have HZZ := hid hzz
                              clear hzz
                              generalize flatC zz (j * 4 + d) = yv at *
                              refine wp_region_S (fun Y => Below wr.heap.size wr Y) 9 (by kernel_rfl) ?_
                              refine anyS_take (i := 0) rfl (by kernel_rfl) (fun _ _ _ h => h) (Or.inl ⟨by rfl, fun Y hYb => (by (try dsimp only at hYb); go_simp; rfl)⟩) (by repeat' (first | with_reducible assumption | with_reducible exact Below.refl _ _ | with_reducible refine Below.drew ?_ | with_reducible refine below_drewN ?_ _)) ?_
                              simp only [List.getElem_toArray, List.getElem_cons_succ, List.getElem_cons_zero, Act.put, List.setIfInBounds_toArray, List.set_cons_zero, List.set_cons_succ]
                              refine anyS_take (i := 1) rfl (by kernel_rfl) (fun _ _ _ h => h) (Or.inl ⟨by rfl, fun Y hYb => (by (try dsimp only at hYb); go_simp; rfl)⟩) (by repeat' (first | with_reducible assumption | with_reducible exact Below.refl _ _ | with_reducible refine Below.drew ?_ | with_reducible refine below_drewN ?_ _)) ?_
                              simp only [List.getElem_toArray, List.getElem_cons_succ, List.getElem_cons_zero, Act.put, List.setIfInBounds_toArray, List.set_cons_zero, List.set_cons_succ]
                              refine anyS_take (i := 2) rfl (by kernel_rfl) (fun _ _ _ h => h) (Or.inl ⟨by rfl, fun Y hYb => (by (try dsimp only at hYb); go_simp; rfl)⟩) (by repeat' (first | with_reducible assumption | with_reducible exact Below.refl _ _ | with_reducible refine Below.drew ?_ | with_reducible refine below_drewN ?_ _)) ?_
                              simp only [List.getElem_toArray, List.getElem_cons_succ, List.getElem_cons_zero, Act.put, List.setIfInBounds_toArray, List.set_cons_zero, List.set_cons_succ]
                              refine anyS_take (i := 3) rfl (by kernel_rfl) (fun _ _ _ h => h) (Or.inl ⟨by rfl, fun Y hYb => (by (try dsimp only at hYb); go_simp; rfl)⟩) (by repeat' (first | with_reducible assumption | with_reducible exact Below.refl _ _ | with_reducible refine Below.drew ?_ | with_reducible refine below_drewN ?_ _)) ?_
                              simp only [List.getElem_toArray, List.getElem_cons_succ, List.getElem_cons_zero, Act.put, List.setIfInBounds_toArray, List.set_cons_zero, List.set_cons_succ]
                              refine anyS_take (i := 4) rfl (by kernel_rfl) (fun _ _ _ h => h) (Or.inl ⟨by rfl, fun Y hYb => (by (try dsimp only at hYb); go_simp; rfl)⟩) (by repeat' (first | with_reducible assumption | with_reducible exact Below.refl _ _ | with_reducible refine Below.drew ?_ | with_reducible refine below_drewN ?_ _)) ?_
                              simp only [List.getElem_toArray, List.getElem_cons_succ, List.getElem_cons_zero, Act.put, List.setIfInBounds_toArray, List.set_cons_zero, List.set_cons_succ]
                              refine anyS_take (i := 5) rfl (by kernel_rfl) (fun _ _ _ h => h) (Or.inl ⟨by rfl, fun Y hYb => (by (try dsimp only at hYb); go_simp; rfl)⟩) (by repeat' (first | with_reducible assumption | with_reducible exact Below.refl _ _ | with_reducible refine Below.drew ?_ | with_reducible refine below_drewN ?_ _)) ?_
                              simp only [List.getElem_toArray, List.getElem_cons_succ, List.getElem_cons_zero, Act.put, List.setIfInBounds_toArray, List.set_cons_zero, List.set_cons_succ]
                              refine anyS_take (i := 6) rfl (by kernel_rfl) (fun _ _ _ h => h) (Or.inl ⟨by rfl, fun Y hYb => (by (try dsimp only at hYb); go_simp; rfl)⟩) (by repeat' (first | with_reducible assumption | with_reducible exact Below.refl _ _ | with_reducible refine Below.drew ?_ | with_reducible refine below_drewN ?_ _)) ?_
                              simp only [List.getElem_toArray, List.getElem_cons_succ, List.getElem_cons_zero, Act.put, List.setIfInBounds_toArray, List.set_cons_zero, List.set_cons_succ]
                              refine anyS_pure (i := 7) rfl (by kernel_rfl) (fun _ _ _ h => h) (Or.inl ⟨by rfl, fun Y hYb => (by clear hYb; go_simp; rfl)⟩) ?_
                              refine anyS_take (i := 8) rfl (by kernel_rfl) (fun _ _ _ h => h) (Or.inl ⟨by rfl, fun Y hYb => (by (try dsimp only at hYb); go_simp; rfl)⟩) (by repeat' (first | with_reducible assumption | with_reducible exact Below.refl _ _ | with_reducible refine Below.drew ?_ | with_reducible refine below_drewN ?_ _)) ?_
                              simp only [List.getElem_toArray, List.getElem_cons_succ, List.getElem_cons_zero, Act.put, List.setIfInBounds_toArray, List.set_cons_zero, List.set_cons_succ]
                              refine anyS_one (i := 9) (by kernel_rfl) rfl (by rfl) (fun K hK => ?_)
                              go_simp
                              refine hK _ _ (fun h _ => absurd h (by decide)) ?_
                              clear hK K
                              refine anyS_done (by kernel_rfl) ?_ _
                              clear r0 r1 y0 yf
                              go_wp2_with fail
                              go_roundw
                              case rel => exact ⟨j + 1, by omega, by go_num, by rw [HG3.out, ← flatC_with _ _ _ hd4]; exact RO.drew.set_ (j * 4 + d) (yc.get d), (hV.drew).set_ (p := ⟨bo, j * 4 + d, none⟩) rfl _⟩
                              case measure => simp [intOf]; omega
                            · have hjb : ((lj : Int) == (m : Int)) = false := by rw [beq_eq_false_iff_ne]; omega
                              have g3 := HZ2.out hjm
                              have HG3 := hid g3
                              clear g3
                              go_wp2_with fail
                              go_roundw
                              case rel => exact ⟨j + 1, by omega, by go_num, by rw [HG3.out]; exact RO, hV⟩
                              case measure => simp [intOf]; omega
                          · obtain rfl : j = s.ni := (by omega)
                            rw [← HG2.out] at RO
                            have hwv := hV.size
                            go_wp2_with fail
                            go_roundw
                            case rel => exact ⟨d + 1, by omega, by go_num, by rw [HG1.out]; exact own_but2 hN hV (fun g' h => hbo9 g' h), RO, hown, hne, T.but hV hebo, hU.trans (hV.mono (fun b _ h => .inl h)), Nat.le_trans hw6 hwv⟩
                            case measure => simp [intOf]; omega
                    · obtain rfl : d = 4 := (by omega)
                      have hz1 : zR Wd Hd o s.nd no Yc (r + 1) = zD Wd Hd o s.nd no Yc r (zR Wd Hd o s.nd no Yc r) 4 := rfl
                      have hz2 : rR Wd Hd o s.nd (s.st + 1) no Yc (r + 1) = rR Wd Hd o s.nd (s.st + 1) no Yc r ++ newD Wd Hd o s.nd (s.st + 1) Yc i 4 := by rw [HI.out]; rfl
                      rw [← hz1] at RO
                      rw [List.append_assoc, ← hz2] at hN
                      clear hz1 hz2
                      go_wp2
                      go_roundw
                      case rel => exact ⟨r + 1, by omega, by go_num, hN, RO, hown, hU⟩
                      case measure => simp [intOf]; omega
              · obtain rfl : r = s.ni := (by omega)
                have hperm : R0 ++ rR Wd Hd o s.nd (s.st + 1) no Yc s.ni = actR Wd Hd o (rk, rb) s p k := by
                  unfold actR
                  rw [HRG.out, HL1.out, rR_new, HYC.out, ← HNO.out]
                rw [hperm] at hN
                have hAC : actC Wd Hd o (rk, rb) s p k = flow Wd Hd (ownZ o s.nd Yc) := by
                  unfold actC
                  rw [HYC.out]
                have hZf : ∀ j, j < s.ni → zR Wd Hd o s.nd no Yc s.ni j = flow Wd Hd (ownZ o s.nd Yc) ((ownL o s.nd no).getD j 0).toNat := fun j hj => by
                  have e := zR_flow (W := Wd) (H := Hd) (o := o) (nd := s.nd) (Y := Yc) (no := no) HNO.out (j := j) (by rw [← HL1.out]; exact hj)
                  rw [← HL1.out] at e
                  exact e
                have hsrt := sortN_of (actN_perm (W := Wd) (H := Hd) (o := o) (ru := (rk, rb)) (s := s) (p := p) (q := k))
                have hlen := (actN_perm (W := Wd) (H := Hd) (o := o) (ru := (rk, rb)) (s := s) (p := p) (q := k)).length_eq
                obtain ⟨aR, hAR⟩ : ∃ l, l = actR Wd Hd o (rk, rb) s p k := ⟨_, rfl⟩
                have hAl : aR.length ≤ 110000 := by
                  rw [hAR, ← hperm, List.length_append]
                  have e1 := rR_length (W := Wd) (H := Hd) (o := o) (nd := s.nd) (t := s.st + 1) (no := no) (Y := Yc) s.ni
                  omega
                rw [← hAR] at hN hsrt hlen
                have HAC := hid hAC; have HZF := hid hZf; have HSO := hid hsrt; have HLE := hid hlen
                clear hperm hAC hZf hAR hsrt hlen
                obtain ⟨pv, cv9, rfl, hLR, hpc⟩ := listR_of_own2 hN
                have x2 := X1'.at_ 2 rfl; have lx := X1'.lt
                have Q2 := (X2.but hU5 (by omega)).but hU (hnC _ (by omega))
                have hAi : (aR.length : Int) ≤ 110000 := by omega
                by_cases hlong : 100000 < aR.length
                · have hE := hid (show actE Wd Hd o (ru (s.st.toNat % rn)) s p k = 4 by rw [HQQ.out]; exact actE_long (by rw [HLE.out]; exact hlong))
                  have q0 := Q2.at_ 0 rfl; have q1 := Q2.at_ 1 rfl; have q2 := Q2.at_ 2 rfl; have q3 := Q2.at_ 3 rfl; have qf := Q2.free; have ql := Q2.lt
                  go_wp2_with fail
                  have T2 : Bx ((((wr.setCell ⟨w.heap.size + 1 + 1, 0, none⟩ (.int .i64 0)).setCell ⟨w.heap.size + 1 + 1, 1, none⟩ (.int .i64 0)).setCell ⟨w.heap.size + 1 + 1, 2, none⟩ (.slice none 0 0)).setCell ⟨w.heap.size + 1 + 1, 3, none⟩ (.slice none 0 0)) (w.heap.size + 1 + 1) #[.int .i64 0, .int .i64 0, .slice none 0 0, .slice none 0 0] :=
                    ((((Q2.set_ 0 (by simp) (.int .i64 0)).set_ 1 (by simp) (.int .i64 0)).set_ 2 (by simp) (.slice none 0 0)).set_ 3 (by simp) (.slice none 0 0))
                  have TB : Below w.heap.size w ((((wr.setCell ⟨w.heap.size + 1 + 1, 0, none⟩ (.int .i64 0)).setCell ⟨w.heap.size + 1 + 1, 1, none⟩ (.int .i64 0)).setCell ⟨w.heap.size + 1 + 1, 2, none⟩ (.slice none 0 0)).setCell ⟨w.heap.size + 1 + 1, 3, none⟩ (.slice none 0 0)) := by (repeat' (first | with_reducible assumption | with_reducible exact Below.refl _ _ | with_reducible refine Below.drew ?_ | with_reducible refine below_drewN ?_ _ | with_reducible refine balloc ?_ _ | with_reducible refine bset ?_ ?_ _ | with_reducible refine Below.setCell ?_ ?_ _ | with_reducible refine Below.alloc ?_ ?_ _ | omega | (simp; done) | (simp; omega)))
                  skip
                  generalize (((wr.setCell ⟨w.heap.size + 1 + 1, 0, none⟩ (.int .i64 0)).setCell ⟨w.heap.size + 1 + 1, 1, none⟩ (.int .i64 0)).setCell ⟨w.heap.size + 1 + 1, 2, none⟩ (.slice none 0 0)).setCell ⟨w.heap.size + 1 + 1, 3, none⟩ (.slice none 0 0) = Wf at *
                  have c0 := T2.at_ 0 rfl; have c1 := T2.at_ 1 rfl; have c2 := T2.at_ 2 rfl; have c3 := T2.at_ 3 rfl
                  exact bodyPost_ret (v := .tuple #[.agg #[.int .i64 0, .int .i64 0, .slice none 0 0, .slice none 0 0], .slice none 0 0, .int .i64 4]) (by simp [results, Tryz.results35, go_sem, c0, c1, c2, c3]) rfl (actS_fail hE.out rfl TB)
                · have hE := hid (show actE Wd Hd o (ru (s.st.toNat % rn)) s p k = 0 by rw [HQQ.out]; exact actE_ok HOK.out (by rw [HLE.out]; omega))
                  have hai : (aR.length : Int) ≤ 100000 := by omega
                  have XB' := XB5.but hU (hnC2 bx p6 (by omega))
                  have SX' := SX5.but2 hU (fun b _ e h => by injection e with e; injection e with e1 _ _; exact hnC2 b (by omega) (by omega) h)
                  have hsort := fun W (hW : Below wr.heap.size wr W) => ref5_Sorted pv aR.length cv9 _ W (by omega) hLR.2.1 hpc (hLR.2.2.below hW)
                  rw [lstN_self] at hsort
                  go_upto_region 36 with (fail)
                  have r0 : ∀ Y, Below wr.heap.size wr Y → Y.cell? ⟨bx, 0, none⟩ = some (.int .i64 s.nd) := fun Y h => (XB'.below h).at_ 0 rfl
                  have r1 : ∀ Y, Below wr.heap.size wr Y → Y.cell? ⟨bx, 1, none⟩ = some (.int .i64 (s.st + 1)) := fun Y h => (XB'.below h).at_ 1 rfl
                  have r2 : ∀ Y, Below wr.heap.size wr Y → Y.cell? ⟨bx, 2, none⟩ = some (.slice (some ⟨g, 0, none⟩) s.ni c9) := fun Y h => (XB'.below h).at_ 2 rfl
                  have r3 : ∀ Y, Below wr.heap.size wr Y → Y.cell? ⟨bx, 3, none⟩ = some (.slice (some ⟨bo, 0, none⟩) s.ni s.ni) := fun Y h => (XB'.below h).at_ 3 rfl
                  refine wp_region_S (fun Y => Below wr.heap.size wr Y) 3 (by kernel_rfl) ?_
                  refine anyS_take (i := 0) rfl (by kernel_rfl) (fun _ _ _ h => h) (Or.inl ⟨by rfl, fun Y hYb => (by (try dsimp only at hYb); go_simp; rfl)⟩) (by repeat' (first | with_reducible assumption | with_reducible exact Below.refl _ _ | with_reducible refine Below.drew ?_ | with_reducible refine below_drewN ?_ _)) ?_
                  simp only [List.getElem_toArray, List.getElem_cons_succ, List.getElem_cons_zero, Act.put, List.setIfInBounds_toArray, List.set_cons_zero, List.set_cons_succ]
                  refine anyS_pure (i := 1) rfl (by kernel_rfl) (fun _ _ _ h => h) (Or.inl ⟨by rfl, fun Y hYb => (by clear hYb; go_simp; rfl)⟩) ?_
                  refine anyS_one (i := 2) (by kernel_rfl) rfl (by rfl) (fun K hK => ?_)
                  go_simp
                  refine (hsort _ ((Below.refl _ wr).drew)).mono ?_
                  rintro e wS ⟨vS, rfl, hOS, hbS⟩
                  dsimp only
                  have hSS : Below wr.heap.size wr wS := bvia (Below.refl _ wr).drew hbS
                  have Q9 := Q2.below hSS
                  have q0 := Q9.at_ 0 rfl; have q1 := Q9.at_ 1 rfl; have q2 := Q9.at_ 2 rfl; have q3 := Q9.at_ 3 rfl; have qf := Q9.free; have ql := Q9.lt
                  have hsS := hSS.size
                  refine hK _ _ (fun _ _ => hSS) ?_
                  clear hK K hsort r0 r1 r2 r3
                  refine anyS_one (i := 3) (by kernel_rfl) rfl (by rfl) (fun K hK => ?_)
                  go_simp
                  refine hK _ _ (fun h _ => absurd h (by decide)) ?_
                  clear hK K
                  refine anyS_pure (i := 4) rfl (by kernel_rfl) (fun _ _ _ h => h) (Or.inl ⟨by rfl, fun Y hYb => (by clear hYb; go_simp; rfl)⟩) ?_
                  refine anyS_pure (i := 5) rfl (by kernel_rfl) (fun _ _ _ h => h) (Or.inl ⟨by rfl, fun Y hYb => (by clear hYb; go_simp; rfl)⟩) ?_
                  refine anyS_done (by kernel_rfl) ?_ _
                  go_wp2
                  have T2 : Bx ((((wS.setCell ⟨w.heap.size + 1 + 1, 0, none⟩ (.int .i64 s.nd)).setCell ⟨w.heap.size + 1 + 1, 1, none⟩ (.int .i64 (s.st + 1))).setCell ⟨w.heap.size + 1 + 1, 2, none⟩ (.slice (some ⟨g, 0, none⟩) s.ni c9)).setCell ⟨w.heap.size + 1 + 1, 3, none⟩ (.slice (some ⟨bo, 0, none⟩) s.ni s.ni)) (w.heap.size + 1 + 1) #[.int .i64 s.nd, .int .i64 (s.st + 1), .slice (some ⟨g, 0, none⟩) s.ni c9, .slice (some ⟨bo, 0, none⟩) s.ni s.ni] :=
                    ((((Q9.set_ 0 (by simp) (.int .i64 s.nd)).set_ 1 (by simp) (.int .i64 (s.st + 1))).set_ 2 (by simp) (.slice (some ⟨g, 0, none⟩) s.ni c9)).set_ 3 (by simp) (.slice (some ⟨bo, 0, none⟩) s.ni s.ni))
                  have BS := bvia Bl hSS
                  have TB : Below w.heap.size w ((((wS.setCell ⟨w.heap.size + 1 + 1, 0, none⟩ (.int .i64 s.nd)).setCell ⟨w.heap.size + 1 + 1, 1, none⟩ (.int .i64 (s.st + 1))).setCell ⟨w.heap.size + 1 + 1, 2, none⟩ (.slice (some ⟨g, 0, none⟩) s.ni c9)).setCell ⟨w.heap.size + 1 + 1, 3, none⟩ (.slice (some ⟨bo, 0, none⟩) s.ni s.ni)) := by (repeat' (first | with_reducible assumption | with_reducible exact Below.refl _ _ | with_reducible refine Below.drew ?_ | with_reducible refine below_drewN ?_ _ | with_reducible refine balloc ?_ _ | with_reducible refine bset ?_ ?_ _ | with_reducible refine Below.setCell ?_ ?_ _ | with_reducible refine Below.alloc ?_ ?_ _ | omega | (simp; done) | (simp; omega)))
                  have TU : But (fun b => b = w.heap.size + 1 + 1) wS ((((wS.setCell ⟨w.heap.size + 1 + 1, 0, none⟩ (.int .i64 s.nd)).setCell ⟨w.heap.size + 1 + 1, 1, none⟩ (.int .i64 (s.st + 1))).setCell ⟨w.heap.size + 1 + 1, 2, none⟩ (.slice (some ⟨g, 0, none⟩) s.ni c9)).setCell ⟨w.heap.size + 1 + 1, 3, none⟩ (.slice (some ⟨bo, 0, none⟩) s.ni s.ni)) := ((((But.refl (fun b => b = w.heap.size + 1 + 1) wS).set_ (p := ⟨w.heap.size + 1 + 1, 0, none⟩) rfl _).set_ (p := ⟨w.heap.size + 1 + 1, 1, none⟩) rfl _).set_ (p := ⟨w.heap.size + 1 + 1, 2, none⟩) rfl _).set_ (p := ⟨w.heap.size + 1 + 1, 3, none⟩) rfl _
                  generalize (((wS.setCell ⟨w.heap.size + 1 + 1, 0, none⟩ (.int .i64 s.nd)).setCell ⟨w.heap.size + 1 + 1, 1, none⟩ (.int .i64 (s.st + 1))).setCell ⟨w.heap.size + 1 + 1, 2, none⟩ (.slice (some ⟨g, 0, none⟩) s.ni c9)).setCell ⟨w.heap.size + 1 + 1, 3, none⟩ (.slice (some ⟨bo, 0, none⟩) s.ni s.ni) = W7 at *
                  have c0 := T2.at_ 0 rfl; have c1 := T2.at_ 1 rfl; have c2 := T2.at_ 2 rfl; have c3 := T2.at_ 3 rfl
                  have S8 := (SX'.below hSS).but2 TU (fun b _ e h => by injection e with e; injection e with e1 _ _; omega)
                  have C8 := ((RO.sc).below hSS).but2 TU (fun b _ e h => by injection e with e; injection e with e1 _ _; omega)
                  have hszz := TU.size
                  have hgl := SX'
                  refine bodyPost_ret (v := .tuple #[.agg #[.int .i64 s.nd, .int .i64 (s.st + 1), .slice (some ⟨g, 0, none⟩) s.ni c9, .slice (some ⟨bo, 0, none⟩) s.ni s.ni], vS, .int .i64 0]) (by simp [results, Tryz.results35, go_sem, c0, c1, c2, c3]) rfl (actS_ok (Fl := flow Wd Hd (ownZ o s.nd Yc)) (aN := actN Wd Hd o (rk, rb) s p k) hE.out (by rw [HQQ.out]; exact HAC.out) (by rw [HQQ.out]) ?_)
                  refine ⟨⟨s.nd, s.st + 1, some ⟨g, 0, none⟩, s.ni, c9, some ⟨bo, 0, none⟩, s.ni, s.ni, s.I, zR Wd Hd o s.nd no Yc s.ni⟩, vS, rfl, ⟨S8, C8, fun h => (by cases h)⟩, fun h => (by cases h), rfl, rfl, HL1.out, HL1.out, fun j hj => HL2.out j (by rw [HL1.out]; exact hj), fun j hj => HZF.out j (by rw [HL1.out]; exact hj), ?_, ?_, TB⟩
                  · rintro b off (h | h) <;> injection h with h <;> injection h with e1 _ _ <;> omega
                  · rw [HSO.out]
                    exact own_mono (own_but2 hOS TU (fun g hg h => by have := own_base hOS g hg; simp only [World.size_drew] at this; omega)) (by simp only [World.size_drew]; omega)
end Go.Proofs.YtmmjaobpoiofdaaGreat
