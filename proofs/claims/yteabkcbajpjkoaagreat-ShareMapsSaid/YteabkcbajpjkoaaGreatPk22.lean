/- Walk: act, of the program. Walk: Act, of the program. -/
import Derived.Test.YteabkcbajpjkoaaGreatPk10
import Derived.Test.YteabkcbajpjkoaaGreatPk18
import Derived.Deep.Cut
import Derived.Test.YteabkcbajpjkoaaGreatPk7
import Derived.Test.YteabkcbajpjkoaaGreatPk6
namespace Go.Proofs.YteabkcbajpjkoaaGreat
open Go Go.RowKit
attribute [local go_sem] Oper.semAt_some
set_option linter.unusedVariables false
set_option linter.unusedSimpArgs false
/-- an end that cannot panic -/
def Qn (Q : Exit → Act → World → Prop) : Exit → Act → World → Prop | .normal, a, w => Q .normal a w | _, _, _ => False
theorem wp_region_N {P : Program} {ops : Array Oper} {Q : Exit → Act → World → Prop} {id : Nat} {a : Act} {w : World} (S : World → Prop) (T : Nat) (hm : P.follows .mixedOrders = true)
    (h : anyS P .any ops (Qn Q) S T ops.size (Array.replicate ops.size false) a w.drew) : (Code.region id ops true).wp P Q a w :=
  Code.wp_mono (fun e a w h => by
    cases e with
    | normal => exact h
    | _ => exact h.elim) (wp_region_S S T hm h)
theorem below_butE {w A B : World} {b : Nat} (hB : Below w.heap.size w A) (hb : w.heap.size ≤ b) (h : But (fun z => z = b) A B) : Below w.heap.size w B :=
  hB.trans ⟨h.os, h.tape, h.output, h.size, fun z hz => h.block z (by have := hB.size; omega) (by omega)⟩
set_option maxRecDepth 100000 in
set_option maxHeartbeats 16000000 in
theorem node_act (Wd Hd : Nat) (a ao rl ap : Option Addr) (n c no co rn rc q cp : Nat) (o : Nat → Int) (ru : Nat → Int × Int) (s : SiteR) (p : Nat → N6) (w : World) (h1 : 1 ≤ Wd ∧ Wd ≤ 64) (h2 : 1 ≤ Hd ∧ Hd ≤ 64) (hn4 : Wd * Hd ≤ 1024) (hno : no = Wd * Hd)
    (hs : siteB o no s = true) (hst : s.st < 1000000) (h0 : 0 < s.ni) (hnd : 0 ≤ s.nd ∧ s.nd ≤ 7) (hob : ∀ k, k < no → 0 ≤ o k ∧ o k ≤ 7) (hpb : postB Wd Hd o no q p = true) (hru : rulesB rn ru = true) (HO : Sl w ao no o) (HS : s.lies w) (HP : Sn w ap q p) (HR : Sr w rl rn ru) :
    Calls Tryz.prog 73 #[.agg (cluV Wd Hd a ao n c no co), .slice rl rn rc, .agg s.cells, .slice ap q cp] w (ActS Wd Hd o (ru (s.st.toNat % rn)) no s p q w) := by
  obtain ⟨hq5, hnB, hmB⟩ := postB_iff.1 hpb
  have hfit := site_fit hs
  obtain ⟨hw1, hsl, hsc, hsm⟩ := siteB_iff.1 hs
  have hst0 : 0 ≤ s.st ∧ s.st ≤ 1000000 := by simpa [within] using hw1
  have hwf : ∀ k, k < q → wfN (p k) := fun k hk => by
    obtain ⟨a1, a2, a3, a4⟩ := noteB_iff.1 (hnB k hk)
    obtain ⟨⟨b1, b2⟩, ⟨b3, b4⟩, ⟨b5, b6⟩, b7, b8⟩ := noteR_iff.1 a1
    have e1 := hob (p k).ce.toNat (by omega)
    have e2 := hob (nbT Wd Hd (p k).ce.toNat (p k).di.toNat) (by rw [hno]; exact nbT_lt (by omega) (by omega))
    intro j hj
    apply WalkArith.wf_i64
    rcases (by omega : j = 0 ∨ j = 1 ∨ j = 2 ∨ j = 3 ∨ j = 4 ∨ j = 5) with rfl | rfl | rfl | rfl | rfl | rfl <;> simp only [N6.get] <;> omega
  have hCo := fun W SP => node_counts ap q cp p W (by omega) SP hwf
  have hdu := fun W => node_due (Wd : Int) (Hd : Int) a ao n c no co s.nd s.st W
  obtain ⟨hl1, hl2⟩ := sameL_iff.1 hsl
  have hno4 : no ≤ 1024 := by omega
  have hni : s.ni ≤ no := by rw [hl1]; exact ownL_length o s.nd no
  have hnc : s.nc = s.ni := hfit.1
  have hmm := @run_makeMap Tryz.prog
  have HSB := hid hs; have HPB := hid hpb
  have HFI := hid hfit; have HL2 := hid hl2; have HNB := hid hnB; have HMB := hid hmB; have HWF := hid hwf; have HNO := hid hno; have HSM := hid hsm; have HL1 := hid hl1; have HRU := hid hru; have HOB := hid hob; have HST := hid hst; have HNC := hid hnc
  clear hs hpb hwf hnB hmB hw1 hsl hsc hsm hl2 hl1 hno hru hob hfit hnc
  unfold cluV SiteR.cells
  have hlies := HS
  have HLI := hid hlies; clear hlies
  have HIX := HS.1; have HCL := HS.2.1
  clear HS
  generalize s.ix = ix at *
  generalize s.cl = cl at *
  generalize s.ci = ci at *
  generalize s.cc = cc at *
  have X0 := ((Bx.new w #[.int .i64 (Wd : Int), .int .i64 (Hd : Int), .slice a n c, .slice ao no co] 62).alloc (.cells #[.int .i64 s.nd, .int .i64 s.st, .slice ix s.ni ci, .slice cl s.nc cc] 98)).alloc (.cells #[.int .i64 0, .int .i64 0, .slice none 0 0, .slice none 0 0] 98)
  have X1 := (Bx.new (w.alloc (.cells #[.int .i64 (Wd : Int), .int .i64 (Hd : Int), .slice a n c, .slice ao no co] 62)) #[.int .i64 s.nd, .int .i64 s.st, .slice ix s.ni ci, .slice cl s.nc cc] 98).alloc (.cells #[.int .i64 0, .int .i64 0, .slice none 0 0, .slice none 0 0] 98)
  have X2 := Bx.new ((w.alloc (.cells #[.int .i64 (Wd : Int), .int .i64 (Hd : Int), .slice a n c, .slice ao no co] 62)).alloc (.cells #[.int .i64 s.nd, .int .i64 s.st, .slice ix s.ni ci, .slice cl s.nc cc] 98)) #[.int .i64 0, .int .i64 0, .slice none 0 0, .slice none 0 0] 98
  simp only [World.size_alloc] at X1 X2
  have hB0 : Below w.heap.size w (((w.alloc (.cells #[.int .i64 (Wd : Int), .int .i64 (Hd : Int), .slice a n c, .slice ao no co] 62)).alloc (.cells #[.int .i64 s.nd, .int .i64 s.st, .slice ix s.ni ci, .slice cl s.nc cc] 98)).alloc (.cells #[.int .i64 0, .int .i64 0, .slice none 0 0, .slice none 0 0] 98)) := by (repeat' (first | with_reducible assumption | with_reducible exact Below.refl _ _ | with_reducible refine Below.drew ?_ | with_reducible refine below_drewN ?_ _ | with_reducible refine balloc ?_ _ | with_reducible refine bset ?_ ?_ _ | with_reducible refine Below.setCell ?_ ?_ _ | with_reducible refine Below.alloc ?_ ?_ _ | omega | (simp; done) | (simp; omega)))
  refine callsIn_wide.1 (callsIn_of_wp_marks (F := Fence.wide) (n := 0) Tryz.func73 rfl trivial ?_ rfl)
  simp only [Tryz.ntmps73, List.size_toArray, List.length_cons, List.length_nil, Nat.reduceAdd, Nat.reduceSub, Array.replicate_succ, Array.replicate_zero, List.push_toArray, List.append_toArray, List.nil_append, List.cons_append]
  refine wpIn_wide.2 ?_
  go_wp2_with fail
  generalize (((w.alloc (.cells #[.int .i64 (Wd : Int), .int .i64 (Hd : Int), .slice a n c, .slice ao no co] 62)).alloc (.cells #[.int .i64 s.nd, .int .i64 s.st, .slice ix s.ni ci, .slice cl s.nc cc] 98)).alloc (.cells #[.int .i64 0, .int .i64 0, .slice none 0 0, .slice none 0 0] 98)) = W0 at X0 X1 X2 hB0 ⊢
  have z0 := X0.lt
  have z1 := X1.lt
  have z2 := X2.lt
  refine (hCo _ (HP.below hB0)).mono ?_
  rintro e w1 ⟨bk, rfl, hMk, hb1⟩
  replace X0 := X0.below hb1; replace X1 := X1.below hb1; replace X2 := X2.below hb1
  replace hB0 := bvia hB0 hb1
  have hlk := pcm_lt hMk
  have hs1 := X2.lt
  clear hCo hb1
  go_upto_region 4 with (fail)
  clear hmm
  have hB3 : Below w1.heap.size w1 (((((w1.alloc (.cells #[.map (some bk)] 101)).alloc (.map #[] 0)).alloc (.cells #[.map (some (w1.heap.size + 1))] 140)).alloc (.map #[] 0)).alloc (.cells #[.map (some (w1.heap.size + 1 + 1 + 1))] 141)) := by (repeat' (first | with_reducible assumption | with_reducible exact Below.refl _ _ | with_reducible refine Below.drew ?_ | with_reducible refine below_drewN ?_ _ | with_reducible refine balloc ?_ _ | with_reducible refine bset ?_ ?_ _ | with_reducible refine Below.setCell ?_ ?_ _ | with_reducible refine Below.alloc ?_ ?_ _ | omega | (simp; done) | (simp; omega)))
  have X3 := ((((Bx.new w1 #[.map (some bk)] 101).alloc (.map #[] 0)).alloc (.cells #[.map (some (w1.heap.size + 1))] 140)).alloc (.map #[] 0)).alloc (.cells #[.map (some (w1.heap.size + 1 + 1 + 1))] 141)
  have X4 := ((Bx.newE (W := (w1.alloc (.cells #[.map (some bk)] 101)).alloc (.map #[] 0)) (b := w1.heap.size + 1 + 1) (by simp) #[.map (some (w1.heap.size + 1))] 140).alloc (.map #[] 0)).alloc (.cells #[.map (some (w1.heap.size + 1 + 1 + 1))] 141)
  have X5 := Bx.newE (W := (((w1.alloc (.cells #[.map (some bk)] 101)).alloc (.map #[] 0)).alloc (.cells #[.map (some (w1.heap.size + 1))] 140)).alloc (.map #[] 0)) (b := w1.heap.size + 1 + 1 + 1 + 1) (by simp) #[.map (some (w1.heap.size + 1 + 1 + 1))] 141
  have MU : PlM 138 (((((w1.alloc (.cells #[.map (some bk)] 101)).alloc (.map #[] 0)).alloc (.cells #[.map (some (w1.heap.size + 1))] 140)).alloc (.map #[] 0)).alloc (.cells #[.map (some (w1.heap.size + 1 + 1 + 1))] 141)) (w1.heap.size + 1) 0 (fun _ => false) := by
    have h := plm_made 138 (w1.alloc (.cells #[.map (some bk)] 101))
    rw [World.size_alloc] at h
    exact plm_below h (by (repeat' (first | with_reducible assumption | with_reducible exact Below.refl _ _ | with_reducible refine Below.drew ?_ | with_reducible refine below_drewN ?_ _ | with_reducible refine balloc ?_ _ | with_reducible refine bset ?_ ?_ _ | with_reducible refine Below.setCell ?_ ?_ _ | with_reducible refine Below.alloc ?_ ?_ _ | omega | (simp; done) | (simp; omega))))
  have MC : CmM (((((w1.alloc (.cells #[.map (some bk)] 101)).alloc (.map #[] 0)).alloc (.cells #[.map (some (w1.heap.size + 1))] 140)).alloc (.map #[] 0)).alloc (.cells #[.map (some (w1.heap.size + 1 + 1 + 1))] 141)) (w1.heap.size + 1 + 1 + 1) 0 (fun _ => false) (fun _ => C4.zero) := by
    have h := cmm_made (((w1.alloc (.cells #[.map (some bk)] 101)).alloc (.map #[] 0)).alloc (.cells #[.map (some (w1.heap.size + 1))] 140))
    rw [World.size_alloc, World.size_alloc, World.size_alloc] at h
    exact cmm_below h (by (repeat' (first | with_reducible assumption | with_reducible exact Below.refl _ _ | with_reducible refine Below.drew ?_ | with_reducible refine below_drewN ?_ _ | with_reducible refine balloc ?_ _ | with_reducible refine bset ?_ ?_ _ | with_reducible refine Below.setCell ?_ ?_ _ | with_reducible refine Below.alloc ?_ ?_ _ | omega | (simp; done) | (simp; omega))))
  replace X0 := X0.below hB3; replace X1 := X1.below hB3; replace X2 := X2.below hB3
  replace hMk := pcm_below hMk hB3
  replace hB0 := bvia hB0 hB3
  generalize hW3 : ((((w1.alloc (.cells #[.map (some bk)] 101)).alloc (.map #[] 0)).alloc (.cells #[.map (some (w1.heap.size + 1))] 140)).alloc (.map #[] 0)).alloc (.cells #[.map (some (w1.heap.size + 1 + 1 + 1))] 141) = W3 at *
  clear hW3 hB3
  have hs3 := X5.lt
  have x0 := X1.at_ 2 rfl; have lx := X1.lt
  go_wp2
  clear x0 lx
  generalize hzz : w1.heap.size = z at *
  clear hzz
  go_loopw [39] (fun i wr => ∃ k : Nat, k ≤ s.ni ∧ i = .int .i64 k ∧ CmM wr (z + 1 + 1 + 1) k (memI s.I k) (valI s.I s.C k) ∧ But (fun b => b = z + 1 + 1 + 1) W3 wr) (fun i _ => s.ni - (intOf i).toNat)
  case atStart => exact ⟨0, Nat.zero_le _, rfl, MC, But.refl _ _⟩
  case round =>
    obtain ⟨k, hk, rfl, hC, hbut⟩ := hrel
    have hBr := below_butE hB0 (by omega) hbut
    have hsz := hbut.size
    by_cases hlt : k < s.ni
    · obtain ⟨bi, oi, rfl, hbi, ci0⟩ := (HIX.below hBr) k hlt
      obtain ⟨bc, oc, rfl, hbc, cc0, cc1, cc2, cc3⟩ := (HCL.below hBr) k (by rw [HNC.out]; exact hlt)
      have hI := HFI.out.2.1 k hlt
      have Y1 := X1.but hbut (by omega); have Y5 := X5.but hbut (by omega)
      have r0 : ∀ Y, Below wr.heap.size wr Y → Y.cell? ⟨w.heap.size + 1, 2, none⟩ = some (.slice (some ⟨bi, oi, none⟩) s.ni ci) := fun Y h => (Y1.below h).at_ 2 rfl
      have r1 : ∀ Y, Below wr.heap.size wr Y → Y.cell? ⟨w.heap.size + 1, 3, none⟩ = some (.slice (some ⟨bc, oc, none⟩) s.nc cc) := fun Y h => (Y1.below h).at_ 3 rfl
      have r2 : ∀ Y, Below wr.heap.size wr Y → Y.cell? ⟨z + 1 + 1 + 1 + 1, 0, none⟩ = some (.map (some (z + 1 + 1 + 1))) := fun Y h => (Y5.below h).at_ 0 rfl
      have hst2 : ∀ Y, Below wr.heap.size wr Y → ∃ w', (Instr.mapUpdate 141 (.map (some (z + 1 + 1 + 1))) (.int .i64 (s.I k)) (s.C k).val).run Tryz.prog Y = .ok () w' ∧ CmM w' (z + 1 + 1 + 1) (k + 1) (memI s.I (k + 1)) (valI s.I s.C (k + 1)) ∧ But (fun b => b = z + 1 + 1 + 1) Y w' := fun Y hY => by
        obtain ⟨w', a1, a2, a3⟩ := cmm_store (cmm_below hC hY) (by simp [maxLen]; omega) (i := s.I k) (WalkArith.wf_i64 (by omega)) (s.C k)
        exact ⟨w', a1, a2, but_turned a3⟩
      unfold C4.val at hst2
      have s0 : ∀ Y, Below wr.heap.size wr Y → Y.cell? ⟨bi, oi + k, none⟩ = some (.int .i64 (s.I k)) := fun Y h => (bcell h _ _ hbi).trans ci0
      have s1 : ∀ Y, Below wr.heap.size wr Y → Y.cell? ⟨bc, oc + k * 4, none⟩ = some (.int .i64 (s.C k).e) := fun Y h => (bcell h _ _ hbc).trans cc0
      have s2 : ∀ Y, Below wr.heap.size wr Y → Y.cell? ⟨bc, oc + k * 4 + 1, none⟩ = some (.int .i64 (s.C k).n) := fun Y h => (bcell h _ _ hbc).trans cc1
      have s3 : ∀ Y, Below wr.heap.size wr Y → Y.cell? ⟨bc, oc + k * 4 + 2, none⟩ = some (.int .i64 (s.C k).w) := fun Y h => (bcell h _ _ hbc).trans cc2
      have s4 : ∀ Y, Below wr.heap.size wr Y → Y.cell? ⟨bc, oc + k * 4 + 3, none⟩ = some (.int .i64 (s.C k).s) := fun Y h => (bcell h _ _ hbc).trans cc3
      have hkc : k < s.nc := by rw [HNC.out]; exact hlt
      go_wp2_with fail
      refine wp_region_N (fun Y => Below wr.heap.size wr Y) 7 (by kernel_rfl) ?_
      refine anyS_take (i := 0) rfl (by kernel_rfl) (fun _ _ _ h => h) (Or.inl ⟨by rfl, fun Y hYb => (by (try dsimp only at hYb); go_simp; rfl)⟩) (by repeat' (first | with_reducible assumption | with_reducible exact Below.refl _ _ | with_reducible refine Below.drew ?_ | with_reducible refine below_drewN ?_ _)) ?_
      simp only [List.getElem_toArray, List.getElem_cons_succ, List.getElem_cons_zero, Act.put, List.setIfInBounds_toArray, List.set_cons_zero, List.set_cons_succ]
      refine anyS_take (i := 1) rfl (by kernel_rfl) (fun _ _ _ h => h) (Or.inl ⟨by rfl, fun Y hYb => (by (try dsimp only at hYb); go_simp; rfl)⟩) (by repeat' (first | with_reducible assumption | with_reducible exact Below.refl _ _ | with_reducible refine Below.drew ?_ | with_reducible refine below_drewN ?_ _)) ?_
      simp only [List.getElem_toArray, List.getElem_cons_succ, List.getElem_cons_zero, Act.put, List.setIfInBounds_toArray, List.set_cons_zero, List.set_cons_succ]
      refine anyS_take (i := 2) rfl (by kernel_rfl) (fun _ _ _ h => h) (Or.inl ⟨by rfl, fun Y hYb => (by (try dsimp only at hYb); go_simp; rfl)⟩) (by repeat' (first | with_reducible assumption | with_reducible exact Below.refl _ _ | with_reducible refine Below.drew ?_ | with_reducible refine below_drewN ?_ _)) ?_
      simp only [List.getElem_toArray, List.getElem_cons_succ, List.getElem_cons_zero, Act.put, List.setIfInBounds_toArray, List.set_cons_zero, List.set_cons_succ]
      refine anyS_take (i := 3) rfl (by kernel_rfl) (fun _ _ _ h => h) (Or.inl ⟨by rfl, fun Y hYb => (by (try dsimp only at hYb); go_simp; rfl)⟩) (by repeat' (first | with_reducible assumption | with_reducible exact Below.refl _ _ | with_reducible refine Below.drew ?_ | with_reducible refine below_drewN ?_ _)) ?_
      simp only [List.getElem_toArray, List.getElem_cons_succ, List.getElem_cons_zero, Act.put, List.setIfInBounds_toArray, List.set_cons_zero, List.set_cons_succ]
      refine anyS_take (i := 4) rfl (by kernel_rfl) (fun _ _ _ h => h) (Or.inl ⟨by rfl, fun Y hYb => (by (try dsimp only at hYb); go_simp; rfl)⟩) (by repeat' (first | with_reducible assumption | with_reducible exact Below.refl _ _ | with_reducible refine Below.drew ?_ | with_reducible refine below_drewN ?_ _)) ?_
      simp only [List.getElem_toArray, List.getElem_cons_succ, List.getElem_cons_zero, Act.put, List.setIfInBounds_toArray, List.set_cons_zero, List.set_cons_succ]
      refine anyS_take (i := 5) rfl (by kernel_rfl) (fun _ _ _ h => h) (Or.inl ⟨by rfl, fun Y hYb => (by (try dsimp only at hYb); go_simp; rfl)⟩) (by repeat' (first | with_reducible assumption | with_reducible exact Below.refl _ _ | with_reducible refine Below.drew ?_ | with_reducible refine below_drewN ?_ _)) ?_
      simp only [List.getElem_toArray, List.getElem_cons_succ, List.getElem_cons_zero, Act.put, List.setIfInBounds_toArray, List.set_cons_zero, List.set_cons_succ]
      refine anyS_take (i := 6) rfl (by kernel_rfl) (fun _ _ _ h => h) (Or.inl ⟨by rfl, fun Y hYb => (by (try dsimp only at hYb); go_simp; rfl)⟩) (by repeat' (first | with_reducible assumption | with_reducible exact Below.refl _ _ | with_reducible refine Below.drew ?_ | with_reducible refine below_drewN ?_ _)) ?_
      simp only [List.getElem_toArray, List.getElem_cons_succ, List.getElem_cons_zero, Act.put, List.setIfInBounds_toArray, List.set_cons_zero, List.set_cons_succ]
      obtain ⟨w7, hrun, C7, hb7⟩ := hst2 wr.drew (by (repeat' (first | with_reducible assumption | with_reducible exact Below.refl _ _ | with_reducible refine Below.drew ?_ | with_reducible refine below_drewN ?_ _ | with_reducible refine balloc ?_ _ | with_reducible refine bset ?_ ?_ _ | with_reducible refine Below.setCell ?_ ?_ _ | with_reducible refine Below.alloc ?_ ?_ _ | omega | (simp; done) | (simp; omega))))
      have hbut7 : But (fun b => b = z + 1 + 1 + 1) W3 w7 := hbut.drew.trans hb7
      clear hst2 r0 r1 r2 s0 s1 s2 s3 s4
      refine anyS_one (i := 7) (by kernel_rfl) rfl (by rfl) (fun K hK => ?_)
      go_simp
      refine hK _ _ (fun h _ => absurd h (by decide)) ?_
      clear hK K
      refine anyS_done (by kernel_rfl) ?_ _
      dsimp only [Qn]
      go_wp2
      go_roundw
      case rel => exact ⟨k + 1, by omega, by go_num, C7, hbut7⟩
      case measure => simp [intOf]; omega
    · have hki : k = s.ni := by omega
      subst hki
      have Y0 := X0.but hbut (by omega); have Y1 := X1.but hbut (by omega); have Y2 := X2.but hbut (by omega); have Y3 := X3.but hbut (by omega); have Y4 := X4.but hbut (by omega); have Y5 := X5.but hbut (by omega)
      have hMk2 := pcm_but hMk hbut (by omega)
      have MU2 := plm_but MU hbut (by omega)
      have hs5 := Y5.lt
      have hit := fun bc bn bs => due_iterR Wd Hd a ao n c no co o s.nd s.st bc bn bs w h1 h2 HNO.out HO
      clear X0 X1 X2 X3 X4 X5 hMk MU MC hbut hsz hB0 hlt hk
      have a0 := Y0.at_ 0 rfl; have a1 := Y0.at_ 1 rfl; have a2 := Y0.at_ 2 rfl; have a3 := Y0.at_ 3 rfl; have l0 := Y0.lt
      have e0 := Y1.at_ 0 rfl; have e1 := Y1.at_ 1 rfl; have l1 := Y1.lt
      go_wp2_with fail
      refine (hdu _).mono ?_
      rintro e w2 ⟨bc, bn, bs, rfl, Zc, Zn, Zs, ⟨g1, g2, g3⟩, hb2⟩
      have hit2 := hit bc bn bs
      have B2 := bvia hBr hb2
      have lc := Zc.lt; have ln := Zn.lt; have ls := Zs.lt
      have hs2 := hb2.size
      have hK0 : (KA w.heap.size (w.heap.size + 1) (w.heap.size + 1 + 1) z (z + 1 + 1) (z + 1 + 1 + 1 + 1) (z + 1) (z + 1 + 1 + 1) bk bc bn bs #[.int .i64 (Wd : Int), .int .i64 (Hd : Int), .slice a n c, .slice ao no co] #[.int .i64 s.nd, .int .i64 s.st, .slice ix s.ni ci, .slice cl s.nc cc] #[.int .i64 0, .int .i64 0, .slice none 0 0, .slice none 0 0] #[.map (some bk)] #[.map (some (z + 1))] #[.map (some (z + 1 + 1 + 1))] #[.int .i64 (Wd : Int), .int .i64 (Hd : Int), .slice a n c, .slice ao no co] s.nd s.st p q s.ni (memI s.I s.ni) (valI s.I s.C s.ni)) [] w2 :=
        ⟨Y0.below hb2, Y1.below hb2, Y2.below hb2, Y3.below hb2, Y4.below hb2, Y5.below hb2, ⟨Zc, Zn, Zs⟩, pcm_below hMk2 hb2, ⟨0, Nat.zero_le _, plm_congr (plm_below MU2 hb2) (fun _ => by simp [usdB])⟩, ⟨s.ni, Nat.le_refl _, cmm_below hC hb2⟩⟩
      have hmem : ∀ x ∈ dueL Wd Hd o s.nd s.st no, wfN x ∧ 0 ≤ x.di ∧ x.di < 4 ∧ (Lit.int .i64 x.ce).wf = true ∧ memI s.I s.ni x.ce = true := fun x hx => by
        obtain ⟨d1, d2, d3, d4, d5, d6, d7⟩ := dueL_num x hx
        obtain ⟨f1, f2⟩ := dueL_fr x hx
        have hf := HOB.out (nbT Wd Hd x.ce.toNat x.di.toNat) (by rw [HNO.out]; exact nbT_lt (by rw [← HNO.out]; omega) (by omega))
        refine ⟨fun j hj => WalkArith.wf_i64 ?_, d5, d6, WalkArith.wf_i64 (by omega), memI_iff.2 ?_⟩
        · rcases (by omega : j = 0 ∨ j = 1 ∨ j = 2 ∨ j = 3 ∨ j = 4 ∨ j = 5) with rfl | rfl | rfl | rfl | rfl | rfl <;> simp only [N6.get] <;> omega
        · have hown : x.ce ∈ ownL o s.nd no := ownL_mem.2 ⟨x.ce.toNat, by omega, by omega, f2⟩
          obtain ⟨i, hi⟩ := List.getElem?_of_mem hown
          have hil := (List.getElem?_eq_some_iff.1 hi).1
          refine ⟨i, by rw [HL1.out]; exact hil, ?_⟩
          rw [HL2.out i (by rw [HL1.out]; exact hil), List.getD_eq_getElem?_getD, hi]; rfl
      have hdl := dueL_length Wd Hd o s.nd s.st no
      have hcb : ∀ x, 0 ≤ cntV p x q ∧ cntV p x q ≤ 1000000000 := fun x => cntV_bnd (n := 0) (q := 0) x fun j hj => by
        obtain ⟨_, _, _, hc⟩ := noteR_iff.1 (noteB_iff.1 (HNB.out j hj)).1
        exact hc
      have HCB := hid hcb; clear hcb
      have hvb : ∀ j d, d < 4 → 0 ≤ (valI s.I s.C s.ni j).get d ∧ (valI s.I s.C s.ni j).get d ≤ 1000000000 := valI_bnd fun k hk d hd => validC_get (HFI.out.2.2 k hk) hd
      have HVB := hid hvb; clear hvb
      generalize hLL : dueL Wd Hd o s.nd s.st no = L at *
      have hlm : L.length ≤ 4096 := by omega
      have HLM := hid hlm; clear hlm hdl
      have HLL := hid hLL; clear hLL
      clear hit hdu hC hMk2 MU2 a0 a1 a2 a3 l0 e0 e1 l1 Y0 Y1 Y2 Y3 Y4 Y5 Zc Zn Zs
      go_wp2
      refine (wpIn_wide (n := 0)).1 ?_
      refine wp_rangeR rfl ent_due hit2 B2 (fun _ => rfl) (RA w w2.heap.size (KA w.heap.size (w.heap.size + 1) (w.heap.size + 1 + 1) z (z + 1 + 1) (z + 1 + 1 + 1 + 1) (z + 1) (z + 1 + 1 + 1) bk bc bn bs #[.int .i64 (Wd : Int), .int .i64 (Hd : Int), .slice a n c, .slice ao no co] #[.int .i64 s.nd, .int .i64 s.st, .slice ix s.ni ci, .slice cl s.nc cc] #[.int .i64 0, .int .i64 0, .slice none 0 0, .slice none 0 0] #[.map (some bk)] #[.map (some (z + 1))] #[.map (some (z + 1 + 1 + 1))] #[.int .i64 (Wd : Int), .int .i64 (Hd : Int), .slice a n c, .slice ao no co] s.nd s.st p q s.ni (memI s.I s.ni) (valI s.I s.C s.ni))) (fun _ _ _ _ => False) (fun b => w.heap.size ≤ b ∧ b < w2.heap.size) (fun pre C X h => KA.rd h.2.1) ?hC (ra_stab ?hSt) (fun c => fun _ _ _ _ h _ => h.elim) ?h0 ?hround ?hdone ?hstop
      case hSt => exact fun pre A B h hb => h.but hb (by intro b hb; simp at hb; omega)
      case hC =>
        rintro pre C X ⟨rfl, _, _, hz⟩ b hb
        exact ⟨hb.1, by omega⟩
      case h0 => exact ⟨rfl, hK0, B2, Nat.le_refl _⟩
      case hstop => exact fun _ _ _ _ _ _ _ _ h => h.elim
      case hround =>
        rintro l pre x C X hl hl' hnl ⟨rec2, hrec2⟩ ⟨rfl, hK, hB, hM⟩ hX hgC hpre
        obtain ⟨hwf, hdi0, hdi4, hwc, hmI⟩ := hmem x (by obtain ⟨t, ht⟩ := hpre; rw [← ht]; exact List.mem_append.2 (.inl (List.mem_append.2 (.inr (List.mem_singleton.2 rfl)))))
        have hlen : pre.length < L.length := by obtain ⟨t, ht⟩ := hpre; rw [← ht]; simp
        have hof := fun W => node_of x W
        unfold Round
        dsimp only [encN]
        gi_wp2_with fail
        refine ⟨below_alloc _ _, ?_⟩
        intro X₂ hb2' hsX2 r2' hr2'
        have hbx : But (fun z => z = l) X X₂ := (But.refl _ X |>.alloc _).trans hb2'
        have hK2 := hK.but hbx (by intro b hb; simp at hb; omega)
        have B3 : Below w.heap.size w X₂ := below_but (C := fun z => z = l) hB (hbx.mono (fun z _ h => ⟨by omega, h⟩))
        have U : Bx X₂ X.heap.size #[.int .i64 x.st, .int .i64 x.fr, .int .i64 x.to, .int .i64 x.ce, .int .i64 x.di, .int .i64 x.co] := (Bx.new X #[.int .i64 x.st, .int .i64 x.fr, .int .i64 x.to, .int .i64 x.ce, .int .i64 x.di, .int .i64 x.co] 106).but hb2' (by omega)
        have hz2' := hbx.size
        have ⟨x0, x1, x2, x3, x4, x5, rd, pc, ⟨mu, hmu, us⟩, ⟨mc, hmc, ce⟩⟩ := hK2
        have B4 : Below X₂.heap.size X₂ X₂ := Below.refl _ _
        have r0 : ∀ Y, But (fun _ => False) X₂ Y → Y.cell? ⟨z, 0, none⟩ = some (.map (some bk)) := fun Y h => (x3.but h id).at_ 0 rfl
        have u0 : ∀ Y, But (fun _ => False) X₂ Y → Y.cell? ⟨X.heap.size, 0, none⟩ = some (.int .i64 x.st) := fun Y h => (U.but h id).at_ 0 rfl
        have u1 : ∀ Y, But (fun _ => False) X₂ Y → Y.cell? ⟨X.heap.size, 1, none⟩ = some (.int .i64 x.fr) := fun Y h => (U.but h id).at_ 1 rfl
        have u2 : ∀ Y, But (fun _ => False) X₂ Y → Y.cell? ⟨X.heap.size, 2, none⟩ = some (.int .i64 x.to) := fun Y h => (U.but h id).at_ 2 rfl
        have u3 : ∀ Y, But (fun _ => False) X₂ Y → Y.cell? ⟨X.heap.size, 3, none⟩ = some (.int .i64 x.ce) := fun Y h => (U.but h id).at_ 3 rfl
        have u4 : ∀ Y, But (fun _ => False) X₂ Y → Y.cell? ⟨X.heap.size, 4, none⟩ = some (.int .i64 x.di) := fun Y h => (U.but h id).at_ 4 rfl
        have u5 : ∀ Y, But (fun _ => False) X₂ Y → Y.cell? ⟨X.heap.size, 5, none⟩ = some (.int .i64 x.co) := fun Y h => (U.but h id).at_ 5 rfl
        have hlk : ∀ Y, But (fun _ => False) X₂ Y → (Instr.lookup 101 (.map (some bk)) (plV x) true).run Tryz.prog Y = .ok (.tuple #[.int .i64 (cntV p x q), .bool (metB p x q)]) Y := fun Y h =>
          pcm_look (pcm_but pc h id) hwf
        unfold plV at hlk
        gi_upto_region 11 with (fail)
        refine wpIn_region_R (But (fun _ => False) X₂) (by kernel_rfl) ?_
        refine anyR_take (i := 0) (fun _ => trivial) rfl (by kernel_rfl) (fun _ _ _ h => h) (Or.inl ⟨by rfl, fun Y hYb => (by (try dsimp only at hYb); go_simp; rfl)⟩) (by repeat' (first | assumption | exact But.refl _ _ | refine But.drew ?_ | refine But.drewN ?_ _)) ?_
        simp only [Act.put, List.setIfInBounds_toArray, List.set_cons_zero, List.set_cons_succ]
        refine anyR_take (i := 1) (fun _ => trivial) rfl (by kernel_rfl) (fun _ _ _ h => h) (Or.inl ⟨by rfl, fun Y hYb => (by (try dsimp only at hYb); go_simp; rfl)⟩) (by repeat' (first | assumption | exact But.refl _ _ | refine But.drew ?_ | refine But.drewN ?_ _)) ?_
        simp only [Act.put, List.setIfInBounds_toArray, List.set_cons_zero, List.set_cons_succ]
        refine anyR_one (i := 2) (by kernel_rfl) rfl (by rfl) (fun K hK => ?_)
        go_simp
        refine ⟨trivial, rfl, callsIn_of ((hof _).mono ?_)⟩
        rintro e X4 ⟨rfl, hb4⟩
        have hs4 : But (fun _ => False) X₂ X4 := (But.refl _ X₂).drew.trans (but_below hb4 (Nat.le_refl _))
        refine hK _ _ hs4 ?_
        clear hK K hb4
        cases hSx : metB p x q
        all_goals
          rw [hSx] at hlk
          refine anyR_take (i := 3) (fun _ => trivial) rfl (by kernel_rfl) (fun _ _ _ h => h) (Or.inl ⟨by rfl, fun Y hYb => (by (try dsimp only at hYb); go_simp; rfl)⟩) (by repeat' (first | assumption | exact But.refl _ _ | refine But.drew ?_ | refine But.drewN ?_ _)) ?_
          simp only [Act.put, List.setIfInBounds_toArray, List.set_cons_zero, List.set_cons_succ]
          refine anyR_take (i := 4) (fun _ => trivial) rfl (by kernel_rfl) (fun _ _ _ h => h) (Or.inl ⟨by rfl, fun Y hYb => (by (try dsimp only at hYb); go_simp; rfl)⟩) (by repeat' (first | assumption | exact But.refl _ _ | refine But.drew ?_ | refine But.drewN ?_ _)) ?_
          simp only [Act.put, List.setIfInBounds_toArray, List.set_cons_zero, List.set_cons_succ]
          refine anyR_take (i := 5) (fun _ => trivial) rfl (by kernel_rfl) (fun _ _ _ h => h) (Or.inl ⟨by rfl, fun Y hYb => (by (try dsimp only at hYb); go_simp; rfl)⟩) (by repeat' (first | assumption | exact But.refl _ _ | refine But.drew ?_ | refine But.drewN ?_ _)) ?_
          simp only [Act.put, List.setIfInBounds_toArray, List.set_cons_zero, List.set_cons_succ]
          refine anyR_take (i := 6) (fun _ => trivial) rfl (by kernel_rfl) (fun _ _ _ h => h) (Or.inl ⟨by rfl, fun Y hYb => (by (try dsimp only at hYb); go_simp; rfl)⟩) (by repeat' (first | assumption | exact But.refl _ _ | refine But.drew ?_ | refine But.drewN ?_ _)) ?_
          simp only [Act.put, List.setIfInBounds_toArray, List.set_cons_zero, List.set_cons_succ]
          refine anyR_take (i := 7) (fun _ => trivial) rfl (by kernel_rfl) (fun _ _ _ h => h) (Or.inl ⟨by rfl, fun Y hYb => (by (try dsimp only at hYb); go_simp; rfl)⟩) (by repeat' (first | assumption | exact But.refl _ _ | refine But.drew ?_ | refine But.drewN ?_ _)) ?_
          simp only [Act.put, List.setIfInBounds_toArray, List.set_cons_zero, List.set_cons_succ]
          refine anyR_take (i := 8) (fun _ => trivial) rfl (by kernel_rfl) (fun _ _ _ h => h) (Or.inl ⟨by rfl, fun Y hYb => (by (try dsimp only at hYb); go_simp; rfl)⟩) (by repeat' (first | assumption | exact But.refl _ _ | refine But.drew ?_ | refine But.drewN ?_ _)) ?_
          simp only [Act.put, List.setIfInBounds_toArray, List.set_cons_zero, List.set_cons_succ]
          refine anyR_done (by kernel_rfl) ?_ _
        · have hfin := (hK2.no hSx).but hs4 (by simp)
          clear hlk u0 u1 u2 u3 u4 u5 r0
          gi_wp2_with fail
          have hzz : But (fun _ => False) X₂ _ := (by repeat' (first | assumption | exact But.refl _ _ | refine But.drew ?_ | refine But.drewN ?_ _ | exact But.set_ (by repeat' (first | assumption | exact But.refl _ _ | refine But.drew ?_ | refine But.drewN ?_ _)) (.inl rfl) _ | exact But.set_ (by repeat' (first | assumption | exact But.refl _ _ | refine But.drew ?_ | refine But.drewN ?_ _)) (.inr rfl) _))
          refine ⟨_, hzz.mono (fun _ _ h => h.elim), Grw.refl _ _, rfl, (hK2.no hSx).but hzz (by simp), below_but (C := fun _ => False) B3 (hzz.mono (fun _ _ h => h.elim)), ?_⟩
          have := hzz.size; omega
        · clear hlk u0 u1 u2 u3 u4 u5 r0
          have y5 := (x5.but hs4 id).at_ 0 rfl; have yl5 := (x5.but hs4 id).lt
          have y3 := (U.but hs4 id).at_ 3 rfl; have y4 := (U.but hs4 id).at_ 4 rfl; have yl := (U.but hs4 id).lt
          have hV := addI_bnd (p := p) (q := q) (B := 1000000000) HCB.out (L := pre) (V := valI s.I s.C s.ni) (A := 1000000000) (by omega) HVB.out (by obtain ⟨t, ht⟩ := hpre; exact fun y hy => ⟨(hmem y (by rw [← ht]; exact List.mem_append.2 (.inl (List.mem_append.2 (.inl hy))))).2.1, (hmem y (by rw [← ht]; exact List.mem_append.2 (.inl (List.mem_append.2 (.inl hy))))).2.2.1⟩) x.ce x.di.toNat (by omega)
          have hcnt := HCB.out x
          have hlk2 := cmm_look (cmm_but ce hs4 id) hwc
          generalize hcc : addI p q (valI s.I s.C s.ni) pre x.ce = cc1 at *
          unfold C4.val at hlk2
          gi_upto_region 14 with (fail)
          have T := Bx.new X4 #[.int .i64 cc1.e, .int .i64 cc1.n, .int .i64 cc1.w, .int .i64 cc1.s] 49
          have hW5b := (But.refl (fun _ => False) X4).alloc (.cells #[.int .i64 cc1.e, .int .i64 cc1.n, .int .i64 cc1.w, .int .i64 cc1.s] 49)
          have hW5s : (X4.alloc (.cells #[.int .i64 cc1.e, .int .i64 cc1.n, .int .i64 cc1.w, .int .i64 cc1.s] 49)).heap.size = X4.heap.size + 1 := by simp
          generalize hW5 : X4.alloc (.cells #[.int .i64 cc1.e, .int .i64 cc1.n, .int .i64 cc1.w, .int .i64 cc1.s] 49) = W5 at *
          clear y5 yl5 y3 y4 yl hlk2 hW5
          have hs5' : But (fun _ => False) X₂ W5 := hs4.trans hW5b
          obtain ⟨d, hd⟩ : ∃ d : Nat, x.di = d := ⟨x.di.toNat, by omega⟩
          have y4 := (U.but hs5' id).at_ 4 rfl; have yl := (U.but hs5' id).lt
          rw [hd] at y4
          have hdn : x.di.toNat = d := by omega
          rw [hdn] at hV
          have hd4 : d < 4 := by omega
          have t0 := T.c4_at hd4; have tl := T.lt; have tf := T.free
          have hLm := HLM.out
          have hsum : -9000000000000000000 ≤ cc1.get d + cntV p x q ∧ cc1.get d + cntV p x q ≤ 9000000000000000000 := by omega
          gi_upto_region 15 with (fail)
          have T6 := T.c4_set hd4 (cc1.get d + cntV p x q)
          have hb6 : But (fun b => b = X4.heap.size) W5 (W5.setCell ⟨X4.heap.size, d, none⟩ (.int .i64 (cc1.get d + cntV p x q))) := But.set_ (But.refl (fun b => b = X4.heap.size) W5) (p := ⟨X4.heap.size, d, none⟩) rfl _
          have h4s := hs4.size
          generalize hW6 : W5.setCell ⟨X4.heap.size, d, none⟩ (.int .i64 (cc1.get d + cntV p x q)) = W6 at *
          clear hW6 t0 tl tf T y4 yl hV hsum hW5b
          have hs6 : But (fun _ => False) X₂ W6 := hs5'.trans' hb6 (fun b e => .inr (by omega))
          have y5 := (x5.but hs6 id).at_ 0 rfl; have yl5 := (x5.but hs6 id).lt
          have y3 := (U.but hs6 id).at_ 3 rfl; have yl := (U.but hs6 id).lt
          obtain ⟨cc2, hcc2⟩ : ∃ c, c = cc1.with d (cc1.get d + cntV p x q) := ⟨_, rfl⟩
          rw [← hcc2] at T6
          have HC2 := hid hcc2
          have t0 := T6.at_ 0 rfl; have t1 := T6.at_ 1 rfl; have t2 := T6.at_ 2 rfl; have t3 := T6.at_ 3 rfl; have tl := T6.lt
          obtain ⟨w7, hrun7, C7, hb7⟩ := cmm_store (cmm_but ce hs6 id) (by simp [maxLen]; omega) hwc cc2
          unfold C4.val at hrun7
          replace hb7 := but_turned hb7
          clear hcc2 hcnt HCB hLm x0 x1 x2 x3 rd pc
          gi_upto_region 16 with (fail)
          clear hrun7 t0 t1 t2 t3 tl y3 y5 yl5 yl
          have HD := hid hdn; have HCC := hid hcc
          clear hd hdn hcc hd4 T6 hb6 hW5s
          have hs7 : But (fun b => b = z + 1 + 1 + 1) X₂ w7 := (hs6.mono (fun _ _ h => h.elim)).trans hb7
          have r0 : ∀ Y, But (fun b => b = z + 1) w7 Y → Y.cell? ⟨z + 1 + 1, 0, none⟩ = some (.map (some (z + 1))) := fun Y h => ((x4.but hs7 (by omega)).but h (by omega)).at_ 0 rfl
          have U7 := U.but hs7 (by omega)
          have u0 : ∀ Y, But (fun b => b = z + 1) w7 Y → Y.cell? ⟨X.heap.size, 0, none⟩ = some (.int .i64 x.st) := fun Y h => (U7.but h (by omega)).at_ 0 rfl
          have u1 : ∀ Y, But (fun b => b = z + 1) w7 Y → Y.cell? ⟨X.heap.size, 1, none⟩ = some (.int .i64 x.fr) := fun Y h => (U7.but h (by omega)).at_ 1 rfl
          have u2 : ∀ Y, But (fun b => b = z + 1) w7 Y → Y.cell? ⟨X.heap.size, 2, none⟩ = some (.int .i64 x.to) := fun Y h => (U7.but h (by omega)).at_ 2 rfl
          have u3 : ∀ Y, But (fun b => b = z + 1) w7 Y → Y.cell? ⟨X.heap.size, 3, none⟩ = some (.int .i64 x.ce) := fun Y h => (U7.but h (by omega)).at_ 3 rfl
          have u4 : ∀ Y, But (fun b => b = z + 1) w7 Y → Y.cell? ⟨X.heap.size, 4, none⟩ = some (.int .i64 x.di) := fun Y h => (U7.but h (by omega)).at_ 4 rfl
          have u5 : ∀ Y, But (fun b => b = z + 1) w7 Y → Y.cell? ⟨X.heap.size, 5, none⟩ = some (.int .i64 x.co) := fun Y h => (U7.but h (by omega)).at_ 5 rfl
          refine wpIn_region_R (But (fun b => b = z + 1) w7) (by kernel_rfl) ?_
          refine anyR_take (i := 0) (fun _ => trivial) rfl (by kernel_rfl) (fun _ _ _ h => h) (Or.inl ⟨by rfl, fun Y hYb => (by (try dsimp only at hYb); go_simp; rfl)⟩) (by repeat' (first | assumption | exact But.refl _ _ | refine But.drew ?_ | refine But.drewN ?_ _)) ?_
          simp only [Act.put, List.setIfInBounds_toArray, List.set_cons_zero, List.set_cons_succ]
          refine anyR_take (i := 1) (fun _ => trivial) rfl (by kernel_rfl) (fun _ _ _ h => h) (Or.inl ⟨by rfl, fun Y hYb => (by (try dsimp only at hYb); go_simp; rfl)⟩) (by repeat' (first | assumption | exact But.refl _ _ | refine But.drew ?_ | refine But.drewN ?_ _)) ?_
          simp only [Act.put, List.setIfInBounds_toArray, List.set_cons_zero, List.set_cons_succ]
          refine anyR_one (i := 2) (by kernel_rfl) rfl (by rfl) (fun K hK => ?_)
          go_simp
          refine ⟨trivial, rfl, callsIn_of ((hof _).mono ?_)⟩
          rintro e X8 ⟨rfl, hb8⟩
          have hs8 : But (fun b => b = z + 1) w7 X8 := (But.refl _ w7).drew.trans (but_below hb8 (Nat.le_refl _))
          have hs7' : But (fun b => b = z + 1 + 1 + 1) X₂ X8 := hs7.drew.trans (but_below hb8 (Nat.le_refl _))
          refine hK _ _ hs8 ?_
          clear hK K r0 u0 u1 u2 u3 u4 u5
          have hs78 : But (fun b => b = z + 1 + 1 + 1 ∨ b = z + 1) X₂ X8 := (hs7.mono (fun _ _ h => .inl h)).trans (hs8.mono (fun _ _ h => .inr h))
          obtain ⟨w9, hrun9, U9, hb9⟩ := pl_store (plm_but us hs7' (by omega)) (by have := HLM.out; simp [maxLen]; omega) hwf
          unfold plV at hrun9
          replace hb9 := but_turned hb9
          have hs9 : But (fun b => b = z + 1) w7 w9 := hs8.trans hb9
          refine anyR_one (i := 3) (by kernel_rfl) rfl (by rfl) (fun K hK => ?_)
          go_simp
          refine hK _ _ hs9 ?_
          clear hK K
          refine anyR_done (by kernel_rfl) ?_ _
          have hs29 : But (fun b => b = z + 1 + 1 + 1 ∨ b = z + 1) X₂ w9 := hs78.trans (hb9.mono (fun _ _ h => .inr h))
          have C9 := cmm_but C7 hs9 (by omega)
          rw [HC2.out, ← HD.out, ← HCC.out] at C9
          gi_wp2_with fail
          refine ⟨_, hs29.mono (fun b _ h => ⟨by omega, by omega⟩), Grw.refl _ _, rfl, hK2.yes hSx hmI hs29 (by intro b hb; simp at hb; omega) hmu hmc U9 C9, below_but (C := fun b => b = z + 1 + 1 + 1 ∨ b = z + 1) B3 (hs29.mono (fun b _ h => ⟨by omega, h⟩)), ?_⟩
          have := hs29.size; omega
      case hdone =>
        rintro Dd C X hDd hnD ⟨rfl, hK, hB, hM⟩ hbut hgC hdef
        have hbig : z + 1 + 1 + 1 + 1 < w2.heap.size ∧ w.heap.size + 1 + 1 < z := ⟨by omega, by omega⟩
        have HLM2 := HLM
        clear hit2 hK0 hmem B2 lc ln ls hs2 hbut hgC HCB HVB HLM
        obtain ⟨X0, X1, X2, X3, X4, X5, _, PC, ⟨mu, hmu, MU⟩, ⟨mc, hmc, MC⟩⟩ := hK
        go_wp2_with fail
        have HIXX := HIX.below hB
        obtain ⟨bi, oi, rfl, hbi, _⟩ := HIXX 0 h0
        obtain ⟨N0, hN0⟩ : ∃ N, N = X.heap.size := ⟨_, rfl⟩
        have r0 : ∀ Y, Below N0 X Y → Y.cell? ⟨w.heap.size + 1, 0, none⟩ = some (.int .i64 s.nd) := fun Y h => (X1.below (by rw [← hN0]; exact h)).at_ 0 rfl
        have r1 : ∀ Y, Below N0 X Y → Y.cell? ⟨w.heap.size + 1, 1, none⟩ = some (.int .i64 s.st) := fun Y h => (X1.below (by rw [← hN0]; exact h)).at_ 1 rfl
        have r2 : ∀ Y, Below N0 X Y → Y.cell? ⟨w.heap.size + 1, 2, none⟩ = some (.slice (some ⟨bi, oi, none⟩) s.ni ci) := fun Y h => (X1.below (by rw [← hN0]; exact h)).at_ 2 rfl
        have hcl := fun (Y : World) (hY : Below N0 X Y) => Tryz.slices_Clone_int bi oi s.ni ci (ownersL s.I s.ni) Y (by rw [ownersL_length]; exact Nat.le_refl _) (by omega) (fun j hj => by
          rw [ownersL_length] at hj
          obtain ⟨b', off', e, _, hc⟩ := HIXX.below (by rw [← hN0]; exact hY) j hj
          injection e with e; injection e with e1 e2 _
          subst e1 e2
          rw [ownersL_get _ _ _ hj]; exact hc)
        have ht : ((ownersL s.I s.ni).take s.ni).map (Value.int .i64) = (List.range s.ni).map fun k => .int .i64 (s.I k) := by rw [List.take_of_length_le (by rw [ownersL_length]; exact Nat.le_refl _)]; simp [ownersL, Function.comp_def]
        have HN0 := hid hN0
        have hst1 := HST.out
        have hwr : IntKind.i64.wrap (s.st + 1) = s.st + 1 := IntWalk.i64_in _ (by omega)
        clear hN0
        have hXX : Below N0 X X.drew := by (repeat' (first | with_reducible assumption | with_reducible exact Below.refl _ _ | with_reducible refine Below.drew ?_ | with_reducible refine below_drewN ?_ _ | with_reducible refine balloc ?_ _ | with_reducible refine bset ?_ ?_ _ | with_reducible refine Below.setCell ?_ ?_ _ | with_reducible refine Below.alloc ?_ ?_ _ | omega | (simp; done) | (simp; omega)))
        refine wp_region_N (fun Y => Below N0 X Y) 10 (by kernel_rfl) ?_
        refine anyS_take (i := 0) rfl (by kernel_rfl) (fun _ _ _ h => h) (Or.inl ⟨by rfl, fun Y hYb => (by (try dsimp only at hYb); go_simp; rfl)⟩) (by repeat' (first | with_reducible assumption | with_reducible exact Below.refl _ _ | with_reducible refine Below.drew ?_ | with_reducible refine below_drewN ?_ _)) ?_
        refine anyS_take (i := 1) rfl (by kernel_rfl) (fun _ _ _ h => h) (Or.inl ⟨by rfl, fun Y hYb => (by (try dsimp only at hYb); go_simp; rfl)⟩) (by repeat' (first | with_reducible assumption | with_reducible exact Below.refl _ _ | with_reducible refine Below.drew ?_ | with_reducible refine below_drewN ?_ _)) ?_
        refine anyS_take (i := 2) rfl (by kernel_rfl) (fun _ _ _ h => h) (Or.inl ⟨by rfl, fun Y hYb => (by (try dsimp only at hYb); go_simp; rfl)⟩) (by repeat' (first | with_reducible assumption | with_reducible exact Below.refl _ _ | with_reducible refine Below.drew ?_ | with_reducible refine below_drewN ?_ _)) ?_
        refine anyS_take (i := 3) rfl (by kernel_rfl) (fun _ _ _ h => h) (Or.inl ⟨by rfl, fun Y hYb => (by (try dsimp only at hYb); go_simp; rfl)⟩) (by repeat' (first | with_reducible assumption | with_reducible exact Below.refl _ _ | with_reducible refine Below.drew ?_ | with_reducible refine below_drewN ?_ _)) ?_
        refine anyS_take (i := 4) rfl (by kernel_rfl) (fun _ _ _ h => h) (Or.inl ⟨by rfl, fun Y hYb => (by (try dsimp only at hYb); go_simp; rfl)⟩) (by repeat' (first | with_reducible assumption | with_reducible exact Below.refl _ _ | with_reducible refine Below.drew ?_ | with_reducible refine below_drewN ?_ _)) ?_
        refine anyS_take (i := 5) rfl (by kernel_rfl) (fun _ _ _ h => h) (Or.inl ⟨by rfl, fun Y hYb => (by (try dsimp only at hYb); go_simp; rfl)⟩) (by repeat' (first | with_reducible assumption | with_reducible exact Below.refl _ _ | with_reducible refine Below.drew ?_ | with_reducible refine below_drewN ?_ _)) ?_
        refine anyS_take (i := 6) rfl (by kernel_rfl) (fun _ _ _ h => h) (Or.inl ⟨by rfl, fun Y hYb => (by (try dsimp only at hYb); go_simp; rfl)⟩) (by repeat' (first | with_reducible assumption | with_reducible exact Below.refl _ _ | with_reducible refine Below.drew ?_ | with_reducible refine below_drewN ?_ _)) ?_
        apply dupV (H := SiN N0 X s.nd (s.st + 1) s.ni s.I)
        case main =>
          intro KEY
          refine anyS_two (i := 7) (j := 9) (by kernel_rfl) rfl rfl (by rfl) (by rfl) (fun K hK => ?_) (fun K hK => ?_)
          · go_simp
            refine (hcl _ hXX).mono ?_
            rintro e w7 ⟨v7, rfl, hv7, hne7, hb7⟩
            rw [ht] at hv7
            obtain ⟨g7, c7, rfl, hg7b, hg7⟩ := hv7.form h0
            dsimp only
            have hS7 : Below N0 X w7 := hXX.trans (hb7.mono (by rw [HN0.out]; simp))
            have hsz7 := hS7.size
            refine hK _ _ (fun _ _ => hS7) ?_
            clear hK K
            refine anyS_take (i := 8) rfl (by kernel_rfl) (fun _ _ _ h => h) (Or.inl ⟨by rfl, fun Y hYb => (by (try dsimp only at hYb); go_simp; rfl)⟩) (by repeat' (first | with_reducible assumption | with_reducible exact Below.refl _ _ | with_reducible refine Below.drew ?_ | with_reducible refine below_drewN ?_ _)) ?_
            refine anyS_one (i := 9) (by kernel_rfl) rfl (by rfl) (fun K hK => ?_)
            go_simp
            refine hK _ _ (fun _ _ => hS7.trans ((below_alloc _ _).mono (by rw [HN0.out]; exact hsz7))) ?_
            clear hK K
            refine anyS_one (i := 10) (by kernel_rfl) rfl (by rfl) (fun K hK => ?_)
            go_simp
            refine hK _ _ (fun h _ => absurd h (by decide)) ?_
            clear hK K
            refine anyS_done (by kernel_rfl) ?_ _
            dsimp only [Qn]
            have hh : SiN N0 X s.nd (s.st + 1) s.ni s.I (w7.alloc (.cells #[.int .i64 s.nd, .int .i64 (s.st + 1), (.slice (some ⟨g7, 0, none⟩) s.ni c7), .slice none 0 0] 98)) w7.heap.size (.slice (some ⟨g7, 0, none⟩) s.ni c7) := SiN.new (own_mono hv7 (by rw [HN0.out]; simp)) hne7 (by rw [HN0.out]; exact hsz7) hS7
            generalize w7.alloc (.cells #[.int .i64 s.nd, .int .i64 (s.st + 1), (.slice (some ⟨g7, 0, none⟩) s.ni c7), .slice none 0 0] 98) = w5 at hh ⊢
            generalize w7.heap.size = bx at hh ⊢
            generalize Value.slice (some ⟨g7, 0, none⟩) s.ni c7 = v5 at hh ⊢
            exact KEY w5 bx v5 hh
          · go_simp
            have hXA : Below N0 X (X.alloc (.cells #[.int .i64 0, .int .i64 0, .slice none 0 0, .slice none 0 0] 98)).drew := by rw [HN0.out]; exact (below_alloc _ _).drew
            refine hK _ _ (fun _ _ => hXA) ?_
            clear hK K
            refine anyS_one (i := 7) (by kernel_rfl) rfl (by rfl) (fun K hK => ?_)
            go_simp
            refine (hcl _ hXA).mono ?_
            rintro e w7 ⟨v7, rfl, hv7, hne7, hb7⟩
            rw [ht] at hv7
            obtain ⟨g7, c7, rfl, hg7b, hg7⟩ := hv7.form h0
            dsimp only
            have hS7 : Below N0 X w7 := hXA.trans (hb7.mono (by rw [HN0.out]; simp))
            have hsz7 := hS7.size
            have Z := ((Bx.new X #[.int .i64 0, .int .i64 0, .slice none 0 0, .slice none 0 0] 98).drew).below hb7
            refine hK _ _ (fun _ _ => hS7) ?_
            clear hK K
            refine anyS_take (i := 8) rfl (by kernel_rfl) (fun _ _ _ h => h) (Or.inl ⟨by rfl, fun Y hYb => (by (try dsimp only at hYb); go_simp; rfl)⟩) (by repeat' (first | with_reducible assumption | with_reducible exact Below.refl _ _ | with_reducible refine Below.drew ?_ | with_reducible refine below_drewN ?_ _)) ?_
            have z0 := Z.at_ 0 rfl; have z1 := Z.at_ 1 rfl; have z2 := Z.at_ 2 rfl; have z3 := Z.at_ 3 rfl; have zf := Z.free; have zl := Z.lt
            refine anyS_one (i := 10) (by kernel_rfl) rfl (by rfl) (fun K hK => ?_)
            go_simp
            refine hK _ _ (fun h _ => absurd h (by decide)) ?_
            clear hK K
            refine anyS_done (by kernel_rfl) ?_ _
            dsimp only [Qn]
            have hh := SiN.store (N0 := N0) (X := X) (nd := s.nd) (st := s.st + 1) (I := s.I) Z (own_mono hv7 (by simp)) hne7 (by rw [HN0.out]; exact Nat.le_refl _) hS7 (by rw [HN0.out]; exact Nat.le_refl _)
            generalize ((((w7.setCell ⟨X.heap.size, 0, none⟩ (.int .i64 s.nd)).setCell ⟨X.heap.size, 1, none⟩ (.int .i64 (s.st + 1))).setCell ⟨X.heap.size, 2, none⟩ (.slice (some ⟨g7, 0, none⟩) s.ni c7)).setCell ⟨X.heap.size, 3, none⟩ (.slice none 0 0)) = w5 at hh ⊢
            generalize X.heap.size = bx at hh ⊢
            generalize Value.slice (some ⟨g7, 0, none⟩) s.ni c7 = v5 at hh ⊢
            exact KEY w5 bx v5 hh
        case key =>
          rintro w5 bx v5 ⟨Xn, hrow, hne5, hbo, hNb, hb5⟩
          rw [HN0.out] at hb5 hrow hNb
          replace X0 := X0.below hb5; replace X1 := X1.below hb5; replace X2 := X2.below hb5; replace X3 := X3.below hb5; replace X4 := X4.below hb5; replace X5 := X5.below hb5
          replace PC := pcm_below PC hb5; replace MU := plm_below MU hb5; replace MC := cmm_below MC hb5
          have hsz5 := hb5.size
          have B5 : Below w.heap.size w w5 := hB.trans (hb5.mono hB.size)
          have hdef5 : w5.heap[Dd]? = some (.deferred (some [])) := (hb5.block Dd (Array.getElem?_eq_some_iff.1 hdef).1).trans hdef
          have hDl := (Array.getElem?_eq_some_iff.1 hdef).1
          have hXw := hB.size
          clear r0 r1 r2 hcl ht hst1 hXX hb5 hdef
          generalize hV : addI p q (valI s.I s.C s.ni) L = V at *
          have HV := hid hV; clear hV
          have x0 := X1.at_ 2 rfl; have lx := X1.lt
          obtain ⟨i0, hi, hz0, hz1, hz2⟩ := info_parts infoC
          go_wp2
          clear x0 lx
          go_loopw [21, 97] (fun v i wr => ∃ k : Nat, k ≤ s.ni ∧ i = .int .i64 k ∧ wr.ownsRow w5.heap.size 49 4 v k (rowC (fun j => V (s.I j)) k) ∧ Below w5.heap.size w5 wr) (fun _ i _ => s.ni - (intOf i).toNat)
          case atStart => exact ⟨0, Nat.zero_le _, rfl, World.ownsRow_nil _ _ _ _, Below.refl _ _⟩
          case round =>
            obtain ⟨k, hk, rfl, hown, hbr⟩ := hrel
            have Bwr := bvia B5 hbr
            by_cases hlt : k < s.ni
            · obtain ⟨b', o', e', hbi', ci0⟩ := (HIX.below Bwr) k hlt
              injection e' with e'; injection e' with e1 e2 _
              subst e1 e2
              have hIk := HFI.out.2.1 k hlt
              have y5 := (X5.below hbr).at_ 0 rfl; have yl5 := (X5.below hbr).lt
              have hlk := cmm_look (cmm_below MC hbr) (WalkArith.wf_i64 (n := s.I k) (by omega))
              obtain ⟨c4, hc4⟩ : ∃ c, c = V (s.I k) := ⟨_, rfl⟩
              rw [← hc4] at hlk
              have HC4 := hid hc4; clear hc4
              unfold C4.val at hlk
              have hrs := hbr.size
              go_wp2_with (at_builtin; refine wpList_append_own_at _ rfl _ _ 22 rfl w5.heap.size 49 i0 _ 4 32 Tryz.underlying22 hi hz0 hz1 hz2 rfl (by decide) _ _ _ rfl (World.ownsRow.alloc hown _) ⟨wr.heap.size, 0, none⟩ 1 1 [.int .i64 c4.e, .int .i64 c4.n, .int .i64 c4.w, .int .i64 c4.s] rfl rfl (cells_new _ _ _) (by simp [Value.oneCell']) (by simp [maxLen]; omega) (by omega) (by simp; omega) ?_; intro v' w9 hown' hgrow _ hat)
              go_roundw
              case rel => exact ⟨k + 1, by omega, by go_num, by rw [rowC_more, ← HC4.out]; exact hown', (balloc hbr _).grown hgrow (by (try simp); omega) (own_base hown)⟩
              case measure => simp [intOf]; omega
            · have hki : k = s.ni := by omega
              subst hki
              obtain ⟨gw, cw, rfl⟩ := ownForm4 hown h0
              obtain ⟨_, hRoW⟩ := roC_of_own hown h0
              have hma := node_mass (some ⟨gw, 0, none⟩) s.ni cw (fun j => V (s.I j)) wr (by omega) hRoW.sc
              go_wp2_with fail
              refine hma.mono ?_
              rintro e w6 ⟨rfl, hb6⟩
              have hC6 : Below w5.heap.size w5 w6 := bvia hbr hb6
              have B6 := bvia Bwr hb6
              clear hma hown hRoW hbr hb6 Bwr
              obtain ⟨mv, hmv⟩ : ∃ m, m = massV s.ni (fun j => V (s.I j)) := ⟨_, rfl⟩
              rw [← hmv]
              have Q2 := X2.below hC6
              have Q5 := X5.below hC6
              have hdef6 : w6.heap[Dd]? = some (.deferred (some [])) := (hC6.block Dd (by omega)).trans hdef5
              have hmB : massB s.ni (fun j => V (s.I j)) = decide (actM s p q ≤ 1000000000) := by
                rw [← HV.out, ← HLL.out]
                exact act_massB HSB.out HPB.out
              have hsg := massV_sign s.ni (fun j => V (s.I j))
              rw [← hmv, hmB] at hsg
              have hsz6 := hC6.size
              rcases Int.lt_or_le mv 0 with hneg | hneg
              · have hE := hid (actE_over (W := Wd) (H := Hd) (o := o) (ru := ru (s.st.toNat % rn)) (s := s) (p := p) (q := q) (by
                  rw [decide_eq_false (by omega)] at hsg
                  have := of_decide_eq_false hsg.symm
                  omega))
                clear hsg hmB
                have q0 := Q2.at_ 0 rfl; have q1 := Q2.at_ 1 rfl; have q2 := Q2.at_ 2 rfl; have q3 := Q2.at_ 3 rfl; have qf := Q2.free; have ql := Q2.lt
                go_wp2_with fail
                have T2 : Bx ((((w6.setCell ⟨w.heap.size + 1 + 1, 0, none⟩ (.int .i64 0)).setCell ⟨w.heap.size + 1 + 1, 1, none⟩ (.int .i64 0)).setCell ⟨w.heap.size + 1 + 1, 2, none⟩ (.slice none 0 0)).setCell ⟨w.heap.size + 1 + 1, 3, none⟩ (.slice none 0 0)) (w.heap.size + 1 + 1) #[.int .i64 0, .int .i64 0, .slice none 0 0, .slice none 0 0] :=
                  ((((Q2.set_ 0 (by simp) (.int .i64 0)).set_ 1 (by simp) (.int .i64 0)).set_ 2 (by simp) (.slice none 0 0)).set_ 3 (by simp) (.slice none 0 0))
                have TB : Below w.heap.size w ((((w6.setCell ⟨w.heap.size + 1 + 1, 0, none⟩ (.int .i64 0)).setCell ⟨w.heap.size + 1 + 1, 1, none⟩ (.int .i64 0)).setCell ⟨w.heap.size + 1 + 1, 2, none⟩ (.slice none 0 0)).setCell ⟨w.heap.size + 1 + 1, 3, none⟩ (.slice none 0 0)) := by (repeat' (first | with_reducible assumption | with_reducible exact Below.refl _ _ | with_reducible refine Below.drew ?_ | with_reducible refine below_drewN ?_ _ | with_reducible refine balloc ?_ _ | with_reducible refine bset ?_ ?_ _ | with_reducible refine Below.setCell ?_ ?_ _ | with_reducible refine Below.alloc ?_ ?_ _ | omega | (simp; done) | (simp; omega)))
                have TD : ((((w6.setCell ⟨w.heap.size + 1 + 1, 0, none⟩ (.int .i64 0)).setCell ⟨w.heap.size + 1 + 1, 1, none⟩ (.int .i64 0)).setCell ⟨w.heap.size + 1 + 1, 2, none⟩ (.slice none 0 0)).setCell ⟨w.heap.size + 1 + 1, 3, none⟩ (.slice none 0 0)).heap[Dd]? = some (.deferred (some [])) := by
                  rw [Below.heap_setCell _ _ _ _ (by dsimp only; omega), Below.heap_setCell _ _ _ _ (by dsimp only; omega), Below.heap_setCell _ _ _ _ (by dsimp only; omega), Below.heap_setCell _ _ _ _ (by dsimp only; omega)]
                  exact hdef6
                generalize ((((w6.setCell ⟨w.heap.size + 1 + 1, 0, none⟩ (.int .i64 0)).setCell ⟨w.heap.size + 1 + 1, 1, none⟩ (.int .i64 0)).setCell ⟨w.heap.size + 1 + 1, 2, none⟩ (.slice none 0 0)).setCell ⟨w.heap.size + 1 + 1, 3, none⟩ (.slice none 0 0)) = W7 at *
                have hbp := but_putObj W7 Dd (.deferred none)
                have U2 := T2.but hbp (by omega)
                have c0 := U2.at_ 0 rfl; have c1 := U2.at_ 1 rfl; have c2 := U2.at_ 2 rfl; have c3 := U2.at_ 3 rfl
                have B7 := TB.trans (⟨hbp.os, hbp.tape, hbp.output, hbp.size, fun z hz => hbp.block z (by have := TB.size; omega) (by omega)⟩ : Below w.heap.size _ _)
                refine ⟨by simp, .inl ⟨_, _, rfl, run_takeDeferred TD, ?_⟩⟩
                exact ⟨.tuple #[.agg #[.int .i64 0, .int .i64 0, .slice none 0 0, .slice none 0 0], .slice none 0 0, .int .i64 4], by simp [results, Tryz.results73, go_sem, c0, c1, c2, c3], actS_fail hE.out rfl B7⟩
              · have hok : actM s p q ≤ 1000000000 := by
                  rw [decide_eq_true hneg] at hsg
                  exact of_decide_eq_true hsg.symm
                have hVv : ∀ k, k < s.ni → validC (V (s.I k)) = true := by
                  rw [decide_eq_true hok] at hmB
                  exact ((massB_iff _ _).1 hmB).1
                have HOK := hid hok; have HVV := hid hVv
                clear hsg hmB hok hVv hmv
                have MC6 := cmm_below MC hC6
                obtain ⟨w7, cnt7, hrun7, R7, hg7, hz7⟩ := rgc_start MC6
                have q0 := Q5.at_ 0 rfl; have ql := Q5.lt
                go_wp2
                clear hrun7 q0 ql
                have hbut7 : But (fun _ => False) w6 w7 := ⟨hg7.os, hg7.tape, hg7.output, hg7.size, fun b hb _ => hg7.block b hb (by simp)⟩
                have B7 : Below w.heap.size w w7 := below_but (C := fun _ => False) B6 (hbut7.mono (fun _ _ h => h.elim))
                have hrn := (rulesB_iff _ _).1 HRU.out
                have hj : s.st.toNat % rn < rn := Nat.mod_lt _ (by omega)
                have htm : s.st.tmod (rn : Int) = ((s.st.toNat % rn : Nat) : Int) := by
                  have e : ((s.st.toNat : Nat) : Int) = s.st := Int.toNat_of_nonneg (by omega)
                  rw [Int.tmod_eq_emod_of_nonneg (by omega), Int.natCast_emod, e]
                have hru := (ruleB_iff _ _).1 (hrn.2.2 _ hj)
                obtain ⟨br, orr, rfl, hbr, d0, d1⟩ := HR _ hj
                generalize hj2 : s.st.toNat % rn = jr at *
                generalize hq : ru jr = qr at *
                obtain ⟨rk, rb⟩ := qr
                have HJ := hid hj2; have HQ := hid hq
                clear hj2 hq MC6 hg7
                have hr6 : w6.heap.size + 1 = w7.heap.size := hz7.symm
                generalize w6.heap.size = r6 at *
                have Z0 := ((X0.below hC6).but hbut7 id); have Z1 := ((X1.below hC6).but hbut7 id); have Z2 := (Q2.but hbut7 id); have Z4 := ((X4.below hC6).but hbut7 id); have Z5 := (Q5.but hbut7 id); have Zn := ((Xn.below hC6).but hbut7 id)
                have hbxl := Xn.lt
                obtain ⟨g5, c5, rfl, hg5b, hg5⟩ := hrow.form h0
                have hg5x : g5 ≠ bx := hbo g5 rfl
                have S7 : Sl w7 (some ⟨g5, 0, none⟩) s.ni s.I := by
                  obtain ⟨a', c', e', S⟩ := sl_of_row hrow
                  injection e' with e1 _ _
                  rw [e1]
                  exact (S.below hC6).but2 hbut7 (fun _ _ _ h => h)
                have MU7 := plm_but (plm_below MU hC6) hbut7 id
                have hdef7 : w7.heap[Dd]? = some (.deferred (some [])) := (hbut7.block Dd (Array.getElem?_eq_some_iff.1 hdef6).1 id).trans hdef6
                clear X0 X1 X2 X3 X4 X5 Xn Q2 Q5 MU MC PC hdef5 hdef6 hz7 B6 hbut7
                go_loopw [24] (fun _ wr => ∃ (Lf : Int → Bool) (cnt : Nat), RgC wr (z + 1 + 1 + 1) r6 mc (memI s.I s.ni) (colS (memI s.I s.ni) Lf rk rb V) Lf cnt ∧ (∀ j, Lf j = true → memI s.I s.ni j = true) ∧ But (fun b => b = z + 1 + 1 + 1 ∨ b = r6) w7 wr) (fun _ wr => wr.rangeLeft (z + 1 + 1 + 1) r6)
                case atStart => exact ⟨memI s.I s.ni, cnt7, by rw [colS_start]; exact R7, fun _ h => h, But.refl _ _⟩
                case round =>
                  clear R7
                  obtain ⟨Lf, cnt, hR, hLs, hbut⟩ := hrel
                  have hRL := rgc_left hR
                  rcases rgc_next hR 0 with ⟨hend, hnx⟩ | ⟨i, w8, cnt', hwi, hLi, ⟨c', hR8, hc'⟩, hltc, hnx, hg8, hz8, hen, hst⟩
                  · have MC2 := rgc_owns hR
                    obtain ⟨wo, rfl⟩ : ∃ wo : World, wo = wr := ⟨_, rfl⟩
                    have Bwo : Below w.heap.size w wo := below_but (C := fun b => b = z + 1 + 1 + 1 ∨ b = r6) B7 (hbut.mono (fun b _ h => ⟨by omega, h⟩))
                    have hs7 := hbut.size
                    have Y0 := Z0.but hbut (by omega); have Y1 := Z1.but hbut (by omega); have Y2 := Z2.but hbut (by omega); have Y4 := Z4.but hbut (by omega); have Y5 := Z5.but hbut (by omega); have Yn := Zn.but hbut (by omega)
                    have MU2 := plm_but MU7 hbut (by omega)
                    have S2 := S7.but2 hbut (fun b _ e h => by injection e with e; injection e with e1 _ _; omega)
                    have hdef2 : wo.heap[Dd]? = some (.deferred (some [])) := (hbut.block Dd (Array.getElem?_eq_some_iff.1 hdef7).1 (by omega)).trans hdef7
                    clear Z0 Z1 Z2 Z4 Z5 Zn MU7 S7 hdef7 hR hRL hLs
                    have hclo := notes_Clone ap q cp p wo (by omega) (HP.below Bwo)
                    go_wp2_with fail
                    refine hclo.mono ?_
                    rintro e wA ⟨vA, rfl, hA, hbA⟩
                    have hdel := notes_DeleteFunc (usdB p q L) 107 #[.pointer (some ⟨z + 1 + 1, 0, none⟩)] vA (lstN p q) wo.heap.size wA (by rw [lstN_length]; omega) hbA.size hA (fun x hx W hW => by
                      obtain ⟨k, hk, rfl⟩ : ∃ k, k < q ∧ p k = x := by
                        unfold lstN at hx
                        obtain ⟨k, hk, e⟩ := List.mem_map.1 hx
                        exact ⟨k, List.mem_range.1 hk, e⟩
                      have hW2 := hbA.trans hW
                      exact act_used (p k) (z + 1 + 1) (z + 1) mu (usdB p q L) W (HWF.out k hk) (Y4.below hW2) (plm_below MU2 hW2)) ent_act1
                    have hlist : (lstN p q).filter (fun x => !usdB p q L x) = restL s.nd s.st p q := rest_filter q fun k hk => by
                      rw [← HLL.out]
                      exact used_mine (by rw [HNO.out]; exact Nat.le_refl _) HNB.out hk
                    rw [hlist] at hdel
                    have hR0 := restL_length (nd := s.nd) (st := s.st) (p := p) q
                    clear hclo hlist hA
                    go_wp2_with fail
                    refine hdel.mono ?_
                    rintro e wB ⟨vB, rfl, hN, hbB⟩
                    have hbAB : Below wo.heap.size wo wB := hbA.trans hbB
                    have hbutB : But (fun b => b = bx) wo wB := but_below hbAB (Nat.le_refl _)
                    obtain ⟨Yc, hYc⟩ : ∃ Y, Y = colM (rk, rb) s p q := ⟨_, rfl⟩
                    have hlook : ∀ W, But (fun b => b = bx) wo W → ∀ i : Nat, i < no → o i = s.nd → (Instr.lookup 141 (.map (some (z + 1 + 1 + 1))) (.int .i64 (i : Int)) false).run Tryz.prog W = .ok (.agg #[.int .i64 (Yc i).e, .int .i64 (Yc i).n, .int .i64 (Yc i).w, .int .i64 (Yc i).s]) W := fun W hW i hi ho => by
                      have hwf : (Lit.int .i64 (i : Int)).wf = true := WalkArith.wf_i64 (by omega)
                      have hmm : memI s.I s.ni (i : Int) = true := by
                        refine memI_iff.2 ?_
                        have hown : (i : Int) ∈ ownL o s.nd no := ownL_mem.2 ⟨i, hi, rfl, ho⟩
                        obtain ⟨j, hj⟩ := List.getElem?_of_mem hown
                        have hjl := (List.getElem?_eq_some_iff.1 hj).1
                        exact ⟨j, by rw [HL1.out]; exact hjl, by rw [HL2.out j (by rw [HL1.out]; exact hjl), List.getD_eq_getElem?_getD, hj]; rfl⟩
                      have h := cmm_look (cmm_but MC2 hW (by omega)) hwf
                      rw [colS_end hmm (hend _ hwf)] at h
                      have hv : V (i : Int) = gotM s p q i := by
                        rw [← HV.out, ← HLL.out]
                        exact act_V HSB.out HPB.out hi
                      rw [h, hv, hYc]; rfl
                    have HLK := hid hlook
                    obtain ⟨Fl, hFl⟩ : ∃ F, F = flow Wd Hd (ownZ o s.nd Yc) := ⟨_, rfl⟩
                    have hfl : ∀ i d, d < 4 → (Fl i).get d = if o (nbT Wd Hd i d) = s.nd then (Yc (nbT Wd Hd i d)).get d else 0 := fun i d hd => by rw [hFl]; exact flowZ_get Wd Hd o s.nd Yc i hd
                    have HFL := hid hfl; have HF2 := hid hFl; have HYC := hid hYc
                    generalize hR0g : restL s.nd s.st p q = R0 at *
                    have HRG := hid hR0g
                    clear hlook hfl hFl hYc hR0g hdel hend MC2 MU2
                    have hnn : no ≤ 1024 := hno4
                    obtain ⟨j0, hj0, hy0, hy1, hy2⟩ := info_parts infoN
                    have x3 := (Y0.but hbutB (by omega)).at_ 3 rfl; have xl := (Y0.but hbutB (by omega)).lt
                    go_wp2
                    clear x3 xl
                    go_loopw [26, 141] (fun v26 i wl => ∃ (k : Nat) (vc : Value), k ≤ no ∧ i = .int .i64 k ∧ OwnN wl wo.heap.size v26 (R0 ++ newN Wd Hd o s.nd (s.st + 1) Yc k) ∧ Bx wl bx #[.int .i64 s.nd, .int .i64 (s.st + 1), .slice (some ⟨g5, 0, none⟩) s.ni c5, vc] ∧ wl.ownsRow wo.heap.size 49 4 vc (ownL o s.nd k).length (rowO Fl o s.nd k) ∧ (∀ g, vc.ownBlock = some g → v26.ownBlock ≠ some g) ∧ But (fun b => b = bx) wo wl) (fun _ i _ => no - (intOf i).toNat)
                    case atStart => exact ⟨0, .slice none 0 0, Nat.zero_le _, rfl, by rw [show newN Wd Hd o s.nd (s.st + 1) Yc 0 = [] from rfl, List.append_nil]; exact hN, Yn.below hbAB, World.ownsRow_nil _ _ _ _, fun g hg => by simp [Value.ownBlock] at hg, hbutB⟩
                    case round =>
                      clear hN
                      obtain ⟨k, vc, hk, rfl, hN, Xb, hC, hdis, hU⟩ := hrel
                      have Bl : Below w.heap.size w wr := below_but (C := fun b => b = bx) Bwo (hU.mono (fun b _ h => ⟨by omega, h⟩))
                      have hsl := hU.size
                      by_cases hlt : k < no
                      · obtain ⟨ob, oo, rfl, hob, oc⟩ := HO k hlt
                        have hob2 : ob < wr.heap.size := by have := Bl.size; omega
                        have oc' := (bcell Bl _ _ hob).trans oc
                        obtain ⟨wi, rfl⟩ : ∃ wi : World, wi = wr := ⟨_, rfl⟩
                        go_wp2
                        have T0 := Bx.new wi #[.int .i64 0, .int .i64 0, .int .i64 0, .int .i64 0] 49
                        have hbd : Below wi.heap.size wi (wi.alloc (.cells #[.int .i64 0, .int .i64 0, .int .i64 0, .int .i64 0] 49)) := below_alloc _ _
                        generalize wi.alloc (.cells #[.int .i64 0, .int .i64 0, .int .i64 0, .int .i64 0] 49) = wd at *
                        have hN1 : OwnN wd wo.heap.size _ _ := own_below hN hbd
                        have hC1 := own_below hC hbd
                        have hnt1 := own_lt hN
                        have hct1 := own_lt hC
                        have hbx1 := Xb.lt
                        have hUd : But (fun b => b = bx) wo wd := hU.trans (but_below hbd (Nat.le_refl _))
                        have Xb1 := Xb.below hbd
                        clear oc' oc hN hC Xb hbd hU
                        go_loopw [26, 146] (fun v26 i wl => ∃ d : Nat, d ≤ 4 ∧ i = .int .i64 d ∧ OwnN wl wo.heap.size v26 ((R0 ++ newN Wd Hd o s.nd (s.st + 1) Yc k) ++ exN Wd Hd o s.nd (s.st + 1) Yc k d) ∧ Bx wl wi.heap.size #[.int .i64 (cuC o s.nd Fl k d).e, .int .i64 (cuC o s.nd Fl k d).n, .int .i64 (cuC o s.nd Fl k d).w, .int .i64 (cuC o s.nd Fl k d).s] ∧ Bx wl bx #[.int .i64 s.nd, .int .i64 (s.st + 1), .slice (some ⟨g5, 0, none⟩) s.ni c5, vc] ∧ wl.ownsRow wo.heap.size 49 4 vc (ownL o s.nd k).length (rowO Fl o s.nd k) ∧ (∀ g, vc.ownBlock = some g → v26.ownBlock ≠ some g) ∧ (∀ g, v26.ownBlock = some g → g ≠ wi.heap.size) ∧ But (fun b => b = bx) wo wl ∧ wd.heap.size ≤ wl.heap.size) (fun _ i _ => 4 - (intOf i).toNat)
                        case atStart => exact ⟨0, by omega, rfl, by rw [exN_zero, List.append_nil]; exact hN1, by rw [cuC_zero]; exact T0, Xb1, hC1, hdis, fun g hg => by have := hnt1 g hg; omega, hUd, Nat.le_refl _⟩
                        case round =>
                          clear hN1 T0 Xb1 hC1 hdis hUd hnt1
                          obtain ⟨d, hd, rfl, hN, T, Xb, hC, hdis, hnt, hU, hwd⟩ := hrel
                          have Bl : Below w.heap.size w wr := below_but (C := fun b => b = bx) Bwo (hU.mono (fun b _ h => ⟨by omega, h⟩))
                          by_cases hd4 : d < 4
                          · have hkW : k < Wd * Hd := by rw [← HNO.out]; exact hlt
                            have hmn := nbT_lt (d := d) hkW hd4
                            have hfrom := fun W => node_from Wd Hd k d a (some ⟨ob, oo, none⟩) n c no co W h1 h2 hkW hd4
                            have hskip : o (nbT Wd Hd k d) ≠ s.nd → exN Wd Hd o s.nd (s.st + 1) Yc k (d + 1) = exN Wd Hd o s.nd (s.st + 1) Yc k d ∧ cuC o s.nd Fl k (d + 1) = cuC o s.nd Fl k d := fun h => ⟨ex_skip h, cu_skip hd4 fun _ => by rw [HFL.out k d hd4, if_neg h]⟩
                            have hput : o k = s.nd → o (nbT Wd Hd k d) = s.nd → exN Wd Hd o s.nd (s.st + 1) Yc k (d + 1) = exN Wd Hd o s.nd (s.st + 1) Yc k d ∧ cuC o s.nd Fl k (d + 1) = (cuC o s.nd Fl k d).with d ((Yc (nbT Wd Hd k d)).get d) := fun h h2 => ⟨ex_own h, by rw [← cu_put hd4 h, HFL.out k d hd4, if_pos h2]⟩
                            have happ : o k ≠ s.nd → o (nbT Wd Hd k d) = s.nd → exN Wd Hd o s.nd (s.st + 1) Yc k (d + 1) = exN Wd Hd o s.nd (s.st + 1) Yc k d ++ [⟨s.st + 1, s.nd, o k, k, d, (Yc (nbT Wd Hd k d)).get d⟩] ∧ cuC o s.nd Fl k (d + 1) = cuC o s.nd Fl k d := fun h h2 => ⟨ex_more h h2, cu_else h⟩
                            rw [← HNO.out] at hmn
                            unfold cluV at hfrom
                            generalize nbT Wd Hd k d = m at *
                            have HSK := hid hskip; have HPT := hid hput; have HAP := hid happ
                            clear hskip hput happ
                            have hlen : ((R0 ++ newN Wd Hd o s.nd (s.st + 1) Yc k) ++ exN Wd Hd o s.nd (s.st + 1) Yc k d).length ≤ 110000 := by
                              have e1 := newN_length Wd Hd o s.nd (s.st + 1) Yc k
                              have e2 : (exN Wd Hd o s.nd (s.st + 1) Yc k d).length ≤ d := by
                                unfold exN
                                split
                                · simp
                                · exact newC_length ..
                              rw [List.length_append, List.length_append]
                              omega
                            generalize hex : exN Wd Hd o s.nd (s.st + 1) Yc k d = ex at *
                            generalize hcu : cuC o s.nd Fl k d = cu at *
                            have HEX := hid hex; have HCU := hid hcu
                            clear hex hcu
                            obtain ⟨_, _, e', _, ocm⟩ := HO m hmn
                            injection e' with e'; injection e' with e1 e2 _
                            subst e1 e2
                            have X0 := Y0.but hU (by omega); have X1 := Y1.but hU (by omega); have X5 := Y5.but hU (by omega)
                            have x0 := X0.at_ 0 rfl; have x1 := X0.at_ 1 rfl; have x2 := X0.at_ 2 rfl; have x3 := X0.at_ 3 rfl; have xl := X0.lt
                            go_wp2_with fail
                            refine (hfrom _).mono ?_
                            rintro e w3 ⟨rfl, hb3⟩
                            clear x0 x1 x2 x3 xl hfrom
                            replace X0 := X0.below hb3; replace X1 := X1.below hb3; replace X5 := X5.below hb3
                            replace hN : OwnN w3 wo.heap.size _ _ := own_below hN hb3
                            replace hC := own_below hC hb3
                            replace T := T.below hb3; replace Xb := Xb.below hb3
                            replace hU := hU.trans (but_below (C := fun b => b = bx) hb3 (Nat.le_refl _))
                            have Bl3 := bvia Bl hb3
                            replace hwd := Nat.le_trans hwd hb3.size
                            have hob3 : ob < w3.heap.size := by have := Bl3.size; omega
                            obtain ⟨bq, hbq⟩ : ∃ b, (o m == s.nd) = b := ⟨_, rfl⟩
                            have r0 : ∀ Y, Below w3.heap.size w3 Y → Y.cell? ⟨w.heap.size, 3, none⟩ = some (.slice (some ⟨ob, oo, none⟩) no co) := fun Y h => (X0.below h).at_ 3 rfl
                            have r1 : ∀ Y, Below w3.heap.size w3 Y → Y.cell? ⟨ob, oo + m, none⟩ = some (.int .i64 (o m)) := fun Y h => (bcell h _ _ hob3).trans ((bcell Bl3 _ _ hob).trans ocm)
                            have r2 : ∀ Y, Below w3.heap.size w3 Y → Y.cell? ⟨w.heap.size + 1, 0, none⟩ = some (.int .i64 s.nd) := fun Y h => (X1.below h).at_ 0 rfl
                            go_wp2_with fail
                            refine wp_region_N (fun Y => Below w3.heap.size w3 Y) 9 (by kernel_rfl) ?_
                            refine anyS_take (i := 0) rfl (by kernel_rfl) (fun _ _ _ h => h) (Or.inl ⟨by rfl, fun Y hYb => (by (try dsimp only at hYb); go_simp; rfl)⟩) (by repeat' (first | with_reducible assumption | with_reducible exact Below.refl _ _ | with_reducible refine Below.drew ?_ | with_reducible refine below_drewN ?_ _)) ?_
                            simp only [List.getElem_toArray, List.getElem_cons_succ, List.getElem_cons_zero, Act.put, List.setIfInBounds_toArray, List.set_cons_zero, List.set_cons_succ]
                            refine anyS_take (i := 1) rfl (by kernel_rfl) (fun _ _ _ h => h) (Or.inl ⟨by rfl, fun Y hYb => (by (try dsimp only at hYb); go_simp; rfl)⟩) (by repeat' (first | with_reducible assumption | with_reducible exact Below.refl _ _ | with_reducible refine Below.drew ?_ | with_reducible refine below_drewN ?_ _)) ?_
                            simp only [List.getElem_toArray, List.getElem_cons_succ, List.getElem_cons_zero, Act.put, List.setIfInBounds_toArray, List.set_cons_zero, List.set_cons_succ]
                            refine anyS_take (i := 2) rfl (by kernel_rfl) (fun _ _ _ h => h) (Or.inl ⟨by rfl, fun Y hYb => (by (try dsimp only at hYb); go_simp; rfl)⟩) (by repeat' (first | with_reducible assumption | with_reducible exact Below.refl _ _ | with_reducible refine Below.drew ?_ | with_reducible refine below_drewN ?_ _)) ?_
                            simp only [List.getElem_toArray, List.getElem_cons_succ, List.getElem_cons_zero, Act.put, List.setIfInBounds_toArray, List.set_cons_zero, List.set_cons_succ]
                            refine anyS_take (i := 3) rfl (by kernel_rfl) (fun _ _ _ h => h) (Or.inl ⟨by rfl, fun Y hYb => (by (try dsimp only at hYb); go_simp; rfl)⟩) (by repeat' (first | with_reducible assumption | with_reducible exact Below.refl _ _ | with_reducible refine Below.drew ?_ | with_reducible refine below_drewN ?_ _)) ?_
                            simp only [List.getElem_toArray, List.getElem_cons_succ, List.getElem_cons_zero, Act.put, List.setIfInBounds_toArray, List.set_cons_zero, List.set_cons_succ]
                            refine anyS_take (i := 4) rfl (by kernel_rfl) (fun _ _ _ h => h) (Or.inl ⟨by rfl, fun Y hYb => (by (try dsimp only at hYb); go_simp; rfl)⟩) (by repeat' (first | with_reducible assumption | with_reducible exact Below.refl _ _ | with_reducible refine Below.drew ?_ | with_reducible refine below_drewN ?_ _)) ?_
                            simp only [List.getElem_toArray, List.getElem_cons_succ, List.getElem_cons_zero, Act.put, List.setIfInBounds_toArray, List.set_cons_zero, List.set_cons_succ]
                            refine anyS_take (i := 5) rfl (by kernel_rfl) (fun _ _ _ h => h) (Or.inl ⟨by rfl, fun Y hYb => (by (try dsimp only at hYb); go_simp; rfl)⟩) (by repeat' (first | with_reducible assumption | with_reducible exact Below.refl _ _ | with_reducible refine Below.drew ?_ | with_reducible refine below_drewN ?_ _)) ?_
                            simp only [List.getElem_toArray, List.getElem_cons_succ, List.getElem_cons_zero, Act.put, List.setIfInBounds_toArray, List.set_cons_zero, List.set_cons_succ]
                            refine anyS_take (i := 6) rfl (by kernel_rfl) (fun _ _ _ h => h) (Or.inl ⟨by rfl, fun Y hYb => (by (try dsimp only at hYb); go_simp; rfl)⟩) (by repeat' (first | with_reducible assumption | with_reducible exact Below.refl _ _ | with_reducible refine Below.drew ?_ | with_reducible refine below_drewN ?_ _)) ?_
                            simp only [List.getElem_toArray, List.getElem_cons_succ, List.getElem_cons_zero, Act.put, List.setIfInBounds_toArray, List.set_cons_zero, List.set_cons_succ]
                            refine anyS_take (i := 7) rfl (by kernel_rfl) (fun _ _ _ h => h) (Or.inl ⟨by rfl, fun Y hYb => (by (try dsimp only at hYb); go_simp; rfl)⟩) (by repeat' (first | with_reducible assumption | with_reducible exact Below.refl _ _ | with_reducible refine Below.drew ?_ | with_reducible refine below_drewN ?_ _)) ?_
                            simp only [List.getElem_toArray, List.getElem_cons_succ, List.getElem_cons_zero, Act.put, List.setIfInBounds_toArray, List.set_cons_zero, List.set_cons_succ]
                            refine anyS_take (i := 8) rfl (by kernel_rfl) (fun _ _ _ h => h) (Or.inl ⟨by rfl, fun Y hYb => (by (try dsimp only at hYb); go_simp; rfl)⟩) (by repeat' (first | with_reducible assumption | with_reducible exact Below.refl _ _ | with_reducible refine Below.drew ?_ | with_reducible refine below_drewN ?_ _)) ?_
                            simp only [List.getElem_toArray, List.getElem_cons_succ, List.getElem_cons_zero, Act.put, List.setIfInBounds_toArray, List.set_cons_zero, List.set_cons_succ]
                            refine anyS_done (by kernel_rfl) ?_ _
                            dsimp only [Qn]
                            clear r0 r1 r2
                            have hb34 : Below w3.heap.size w3 w3.drew := by (repeat' (first | with_reducible assumption | with_reducible exact Below.refl _ _ | with_reducible refine Below.drew ?_ | with_reducible refine below_drewN ?_ _ | with_reducible refine balloc ?_ _ | with_reducible refine bset ?_ ?_ _ | with_reducible refine Below.setCell ?_ ?_ _ | with_reducible refine Below.alloc ?_ ?_ _ | omega | (simp; done) | (simp; omega)))
                            generalize w3.drew = w4 at *
                            replace X0 := X0.below hb34; replace X1 := X1.below hb34; replace X5 := X5.below hb34
                            replace hN : OwnN w4 wo.heap.size _ _ := own_below hN hb34
                            replace hC := own_below hC hb34
                            replace T := T.below hb34; replace Xb := Xb.below hb34
                            replace hU := hU.trans (but_below (C := fun b => b = bx) hb34 (Nat.le_refl _))
                            replace hwd := Nat.le_trans hwd hb34.size
                            cases bq
                            · have hne : o m ≠ s.nd := fun h => by rw [h] at hbq; simp at hbq
                              obtain ⟨g1, g2⟩ := HSK.out hne
                              have HG1 := hid g1; have HG2 := hid g2
                              clear g1 g2
                              go_wp2
                              go_roundw
                              case rel => exact ⟨d + 1, by omega, by go_num, by rw [HG1.out]; exact hN, by rw [HG2.out]; exact T, Xb, hC, hdis, hnt, hU, hwd⟩
                              case measure => simp [intOf]; omega
                            · have hqe : o m = s.nd := by simpa using hbq
                              obtain ⟨bk, hbk⟩ : ∃ b, (o k == s.nd) = b := ⟨_, rfl⟩
                              have hlk := HLK.out _ hU m hmn hqe
                              have x0 := X1.at_ 0 rfl; have xl := X1.lt; have x5 := X5.at_ 0 rfl; have xl5 := X5.lt
                              obtain ⟨c4, hc4⟩ : ∃ c, c = Yc m := ⟨_, rfl⟩
                              rw [← hc4] at hlk
                              have hix := idx4e c4 hd4
                              have hwid := hU.size
                              cases bk
                              · have hke : o k ≠ s.nd := fun h => by rw [h] at hbk; simp at hbk
                                obtain ⟨g1, g2⟩ := HAP.out hke hqe
                                rw [← hc4] at g1
                                have HG1 := hid g1; have HG2 := hid g2
                                clear g1 g2 hlk
                                go_wp2_with fail
                                clear x0 xl x5 xl5
                                have r0 : ∀ Y, But (fun b => wo.heap.size ≤ b) w4 Y → Y.cell? ⟨bx, 1, none⟩ = some (.int .i64 (s.st + 1)) := fun Y h => (Xb.but h (by omega)).at_ 1 rfl
                                have r1 : ∀ Y, But (fun b => wo.heap.size ≤ b) w4 Y → Y.cell? ⟨w.heap.size + 1, 0, none⟩ = some (.int .i64 s.nd) := fun Y h => (X1.but h (by omega)).at_ 0 rfl
                                have r2 : ∀ Y, But (fun b => wo.heap.size ≤ b) w4 Y → Y.cell? ⟨z + 1 + 1 + 1 + 1, 0, none⟩ = some (.map (some (z + 1 + 1 + 1))) := fun Y h => (X5.but h (by omega)).at_ 0 rfl
                                have hlk : ∀ Y, But (fun b => wo.heap.size ≤ b) w4 Y → (Instr.lookup 141 (.map (some (z + 1 + 1 + 1))) (.int .i64 (m : Int)) false).run Tryz.prog Y = .ok (.agg #[.int .i64 c4.e, .int .i64 c4.n, .int .i64 c4.w, .int .i64 c4.s]) Y := fun Y h => by
                                  rw [hc4]; exact HLK.out Y (hU.trans' h (fun b hb => .inr hb)) m hmn hqe
                                have hHC4 := hid hc4
                                clear hc4
                                refine wp_region_N (fun Y => But (fun b => wo.heap.size ≤ b) w4 Y) 17 (by kernel_rfl) ?_
                                refine anyS_take (i := 0) rfl (by kernel_rfl) (fun _ _ _ h => h) (Or.inl ⟨by rfl, fun Y hYb => (by (try dsimp only at hYb); go_simp; rfl)⟩) (by repeat' (first | with_reducible assumption | with_reducible exact But.refl _ _ | with_reducible refine But.drew ?_ | with_reducible refine But.drewN ?_ _)) ?_
                                simp only [List.getElem_toArray, List.getElem_cons_succ, List.getElem_cons_zero, Act.put, List.setIfInBounds_toArray, List.set_cons_zero, List.set_cons_succ]
                                refine anyS_take (i := 1) rfl (by kernel_rfl) (fun _ _ _ h => h) (Or.inl ⟨by rfl, fun Y hYb => (by (try dsimp only at hYb); go_simp; rfl)⟩) (by repeat' (first | with_reducible assumption | with_reducible exact But.refl _ _ | with_reducible refine But.drew ?_ | with_reducible refine But.drewN ?_ _)) ?_
                                simp only [List.getElem_toArray, List.getElem_cons_succ, List.getElem_cons_zero, Act.put, List.setIfInBounds_toArray, List.set_cons_zero, List.set_cons_succ]
                                refine anyS_take (i := 2) rfl (by kernel_rfl) (fun _ _ _ h => h) (Or.inl ⟨by rfl, fun Y hYb => (by (try dsimp only at hYb); go_simp; rfl)⟩) (by repeat' (first | with_reducible assumption | with_reducible exact But.refl _ _ | with_reducible refine But.drew ?_ | with_reducible refine But.drewN ?_ _)) ?_
                                simp only [List.getElem_toArray, List.getElem_cons_succ, List.getElem_cons_zero, Act.put, List.setIfInBounds_toArray, List.set_cons_zero, List.set_cons_succ]
                                refine anyS_take (i := 3) rfl (by kernel_rfl) (fun _ _ _ h => h) (Or.inl ⟨by rfl, fun Y hYb => (by (try dsimp only at hYb); go_simp; rfl)⟩) (by repeat' (first | with_reducible assumption | with_reducible exact But.refl _ _ | with_reducible refine But.drew ?_ | with_reducible refine But.drewN ?_ _)) ?_
                                simp only [List.getElem_toArray, List.getElem_cons_succ, List.getElem_cons_zero, Act.put, List.setIfInBounds_toArray, List.set_cons_zero, List.set_cons_succ]
                                refine anyS_take (i := 4) rfl (by kernel_rfl) (fun _ _ _ h => h) (Or.inl ⟨by rfl, fun Y hYb => (by (try dsimp only at hYb); go_simp; rfl)⟩) (by repeat' (first | with_reducible assumption | with_reducible exact But.refl _ _ | with_reducible refine But.drew ?_ | with_reducible refine But.drewN ?_ _)) ?_
                                simp only [List.getElem_toArray, List.getElem_cons_succ, List.getElem_cons_zero, Act.put, List.setIfInBounds_toArray, List.set_cons_zero, List.set_cons_succ]
                                refine anyS_take (i := 5) rfl (by kernel_rfl) (fun _ _ _ h => h) (Or.inl ⟨by rfl, fun Y hYb => (by (try dsimp only at hYb); go_simp; rfl)⟩) (by repeat' (first | with_reducible assumption | with_reducible exact But.refl _ _ | with_reducible refine But.drew ?_ | with_reducible refine But.drewN ?_ _)) ?_
                                simp only [List.getElem_toArray, List.getElem_cons_succ, List.getElem_cons_zero, Act.put, List.setIfInBounds_toArray, List.set_cons_zero, List.set_cons_succ]
                                refine anyS_take (i := 6) rfl (by kernel_rfl) (fun _ _ _ h => h) (Or.inl ⟨by rfl, fun Y hYb => (by (try dsimp only at hYb); go_simp; rfl)⟩) (by repeat' (first | with_reducible assumption | with_reducible exact But.refl _ _ | with_reducible refine But.drew ?_ | with_reducible refine But.drewN ?_ _)) ?_
                                simp only [List.getElem_toArray, List.getElem_cons_succ, List.getElem_cons_zero, Act.put, List.setIfInBounds_toArray, List.set_cons_zero, List.set_cons_succ]
                                refine anyS_take (i := 7) rfl (by kernel_rfl) (fun _ _ _ h => h) (Or.inl ⟨by rfl, fun Y hYb => (by (try dsimp only at hYb); go_simp; rfl)⟩) (by repeat' (first | with_reducible assumption | with_reducible exact But.refl _ _ | with_reducible refine But.drew ?_ | with_reducible refine But.drewN ?_ _)) ?_
                                simp only [List.getElem_toArray, List.getElem_cons_succ, List.getElem_cons_zero, Act.put, List.setIfInBounds_toArray, List.set_cons_zero, List.set_cons_succ]
                                refine anyS_take (i := 8) rfl (by kernel_rfl) (fun _ _ _ h => h) (Or.inl ⟨by rfl, fun Y hYb => (by (try dsimp only at hYb); go_simp; rfl)⟩) (by repeat' (first | with_reducible assumption | with_reducible exact But.refl _ _ | with_reducible refine But.drew ?_ | with_reducible refine But.drewN ?_ _)) ?_
                                simp only [List.getElem_toArray, List.getElem_cons_succ, List.getElem_cons_zero, Act.put, List.setIfInBounds_toArray, List.set_cons_zero, List.set_cons_succ]
                                refine anyS_take (i := 9) rfl (by kernel_rfl) (fun _ _ _ h => h) (Or.inl ⟨by rfl, fun Y hYb => (by (try dsimp only at hYb); go_simp; rfl)⟩) (by repeat' (first | with_reducible assumption | with_reducible exact But.refl _ _ | with_reducible refine But.drew ?_ | with_reducible refine But.drewN ?_ _)) ?_
                                simp only [List.getElem_toArray, List.getElem_cons_succ, List.getElem_cons_zero, Act.put, List.setIfInBounds_toArray, List.set_cons_zero, List.set_cons_succ]
                                refine anyS_take (i := 10) rfl (by kernel_rfl) (fun _ _ _ h => h) (Or.inl ⟨by rfl, fun Y hYb => (by (try dsimp only at hYb); go_simp; rfl)⟩) (by repeat' (first | with_reducible assumption | with_reducible exact But.refl _ _ | with_reducible refine But.drew ?_ | with_reducible refine But.drewN ?_ _)) ?_
                                simp only [List.getElem_toArray, List.getElem_cons_succ, List.getElem_cons_zero, Act.put, List.setIfInBounds_toArray, List.set_cons_zero, List.set_cons_succ]
                                refine anyS_take (i := 11) rfl (by kernel_rfl) (fun _ _ _ h => h) (Or.inl ⟨by rfl, fun Y hYb => (by (try dsimp only at hYb); go_simp; rfl)⟩) (by repeat' (first | with_reducible assumption | with_reducible exact But.refl _ _ | with_reducible refine But.drew ?_ | with_reducible refine But.drewN ?_ _)) ?_
                                simp only [List.getElem_toArray, List.getElem_cons_succ, List.getElem_cons_zero, Act.put, List.setIfInBounds_toArray, List.set_cons_zero, List.set_cons_succ]
                                refine anyS_take (i := 12) rfl (by kernel_rfl) (fun _ _ _ h => h) (Or.inl ⟨by rfl, fun Y hYb => (by (try dsimp only at hYb); go_simp; rfl)⟩) (by repeat' (first | with_reducible assumption | with_reducible exact But.refl _ _ | with_reducible refine But.drew ?_ | with_reducible refine But.drewN ?_ _)) ?_
                                simp only [List.getElem_toArray, List.getElem_cons_succ, List.getElem_cons_zero, Act.put, List.setIfInBounds_toArray, List.set_cons_zero, List.set_cons_succ]
                                refine anyS_take (i := 13) rfl (by kernel_rfl) (fun _ _ _ h => h) (Or.inl ⟨by rfl, fun Y hYb => (by (try dsimp only at hYb); go_simp; rfl)⟩) (by repeat' (first | with_reducible assumption | with_reducible exact But.refl _ _ | with_reducible refine But.drew ?_ | with_reducible refine But.drewN ?_ _)) ?_
                                simp only [List.getElem_toArray, List.getElem_cons_succ, List.getElem_cons_zero, Act.put, List.setIfInBounds_toArray, List.set_cons_zero, List.set_cons_succ]
                                clear r0 r1 r2 hlk
                                refine anyS_one (i := 14) (by kernel_rfl) rfl (by rfl) (fun K hK => ?_)
                                go_simp
                                have hS14 : But (fun b => wo.heap.size ≤ b) w4 ((w4.alloc (.cells #[.int .i64 (s.st + 1), .int .i64 s.nd, .int .i64 (o k), .int .i64 (k : Int), .int .i64 (d : Int), .int .i64 (c4.get d)] 106)).drew) := ((But.refl _ w4).alloc _).drew
                                refine hK _ _ (fun _ _ => hS14) ?_
                                clear hK K
                                have hs14 : wo.heap.size ≤ ((w4.alloc (.cells #[.int .i64 (s.st + 1), .int .i64 s.nd, .int .i64 (o k), .int .i64 (k : Int), .int .i64 (d : Int), .int .i64 (c4.get d)] 106)).drew).heap.size := Nat.le_trans hwid hS14.size
                                have hb14 : Below w4.heap.size w4 ((w4.alloc (.cells #[.int .i64 (s.st + 1), .int .i64 s.nd, .int .i64 (o k), .int .i64 (k : Int), .int .i64 (d : Int), .int .i64 (c4.get d)] 106)).drew) := by (repeat' (first | with_reducible assumption | with_reducible exact Below.refl _ _ | with_reducible refine Below.drew ?_ | with_reducible refine below_drewN ?_ _ | with_reducible refine balloc ?_ _ | with_reducible refine bset ?_ ?_ _ | with_reducible refine Below.setCell ?_ ?_ _ | with_reducible refine Below.alloc ?_ ?_ _ | omega | (simp; done) | (simp; omega)))
                                have hnews : ∀ j u, (N6.list ⟨s.st + 1, s.nd, o k, k, d, c4.get d⟩)[j]? = some u → ((w4.alloc (.cells #[.int .i64 (s.st + 1), .int .i64 s.nd, .int .i64 (o k), .int .i64 (k : Int), .int .i64 (d : Int), .int .i64 (c4.get d)] 106)).drew).cell? ((⟨w4.heap.size, 0, none⟩ : Addr).add j) = some u := cells_new w4 (N6.list ⟨s.st + 1, s.nd, o k, k, d, c4.get d⟩) 106
                                have hsz14 : ((w4.alloc (.cells #[.int .i64 (s.st + 1), .int .i64 s.nd, .int .i64 (o k), .int .i64 (k : Int), .int .i64 (d : Int), .int .i64 (c4.get d)] 106)).drew).heap.size = w4.heap.size + 1 := by simp
                                generalize (w4.alloc (.cells #[.int .i64 (s.st + 1), .int .i64 s.nd, .int .i64 (o k), .int .i64 (k : Int), .int .i64 (d : Int), .int .i64 (c4.get d)] 106)).drew = w14 at *
                                have hN14 : OwnN w14 wo.heap.size u26 _ := own_below hN hb14
                                have hC14 := own_below hC hb14
                                have T14 := T.below hb14; have Xb14 := Xb.below hb14
                                have hcl4 := own_lt hC
                                refine anyS_one (i := 15) (by kernel_rfl) rfl (by rfl) (fun K hK => ?_)
                                have hA1 : ((R0 ++ newN Wd Hd o s.nd (s.st + 1) Yc k) ++ ex).length + 1 ≤ maxLen := Nat.le_trans (Nat.add_le_add_right hlen 1) (by decide)
                                have hA2 : (((R0 ++ newN Wd Hd o s.nd (s.st + 1) Yc k) ++ ex).length + 1) * 48 ≤ 140737488355328 := Nat.le_trans (Nat.mul_le_mul_right 48 (Nat.add_le_add_right hlen 1)) (by decide)
                                refine wp_append_at2 (.tmp 153) (.tmp 167) 67 rfl wo.heap.size 106 j0 (.agg #[.int .i64 0, .int .i64 0, .int .i64 0, .int .i64 0, .int .i64 0, .int .i64 0]) 6 48 Tryz.underlying67 hj0 hy0 hy1 hy2 rfl (by decide) u26 _ _ rfl hN14 ⟨w4.heap.size, 0, none⟩ 1 1 (N6.list ⟨s.st + 1, s.nd, o k, k, d, c4.get d⟩) rfl rfl hnews (n6_one _) hA1 hA2 hs14 ?_
                                intro v' w5' hown' hgr hat
                                have hS15 : But (fun b => wo.heap.size ≤ b) w4 w5' := but_grownN hS14 hgr (fun g hg => own_base hN g hg)
                                refine hK _ _ (fun _ _ => hS15) ?_
                                clear hK K hnews
                                refine anyS_take (i := 16) rfl (by kernel_rfl) (fun _ _ _ h => h) (Or.inl ⟨by rfl, fun Y hYb => (by (try dsimp only at hYb); go_simp; rfl)⟩) (by repeat' (first | with_reducible assumption | with_reducible exact But.refl _ _ | with_reducible refine But.drew ?_ | with_reducible refine But.drewN ?_ _)) ?_
                                simp only [List.getElem_toArray, List.getElem_cons_succ, List.getElem_cons_zero, Act.put, List.setIfInBounds_toArray, List.set_cons_zero, List.set_cons_succ]
                                refine anyS_done (by kernel_rfl) ?_ _
                                dsimp only [Qn]
                                have hdis2 : ∀ g, vc.ownBlock = some g → v'.ownBlock ≠ some g := fun g hg e => by
                                  rcases hat with h | h
                                  · exact hdis g hg (h ▸ e)
                                  · have := hcl4 g hg
                                    rw [h] at e
                                    injection e with e
                                    omega
                                have hnt2 : ∀ g, v'.ownBlock = some g → g ≠ wi.heap.size := fun g hg => by
                                  have := T.lt
                                  rcases hat with h | h
                                  · exact hnt g (h ▸ hg)
                                  · rw [h] at hg
                                    injection hg with hg
                                    omega
                                have hfin : OwnN w5' wo.heap.size v' ((R0 ++ newN Wd Hd o s.nd (s.st + 1) Yc k) ++ exN Wd Hd o s.nd (s.st + 1) Yc k (d + 1)) := by
                                  rw [HG1.out, ← List.append_assoc]
                                  exact ownN_snoc hown'
                                have T15 := T14.grown hgr (fun e => hnt _ e.symm rfl)
                                have Xb15 := Xb14.grown hgr (fun e => by have := own_base hN _ e.symm; omega)
                                have hC15 := own_grown hC14 hgr (fun g hg e => hdis g hg e.symm)
                                have hFIN := hid hfin; have HD2 := hid hdis2; have HN2 := hid hnt2
                                clear hfin hdis2 hnt2 hat hown' hgr
                                go_wp2
                                go_roundw
                                case rel => exact ⟨d + 1, by omega, by go_num, hFIN.out, by rw [HG2.out]; exact T15, Xb15, hC15, HD2.out, HN2.out, hU.trans' hS15 (fun b hb => .inr hb), Nat.le_trans hwd hS15.size⟩
                                case measure => simp [intOf]; omega
                              · have hke : o k = s.nd := by simpa using hbk
                                obtain ⟨g1, g2⟩ := HPT.out hke hqe
                                rw [← hc4] at g2
                                have HG1 := hid g1; have HG2 := hid g2; have HC4 := hid hc4
                                clear g1 g2 hc4
                                have t0 := T.c4_at hd4; have tl := T.lt; have tf := T.free
                                go_wp2
                                go_roundw
                                have hb6 : But (fun b => b = wi.heap.size) w4 (w4.setCell ⟨wi.heap.size, d, none⟩ (.int .i64 (c4.get d))) := But.set_ (But.refl (fun b => b = wi.heap.size) w4) (p := ⟨wi.heap.size, d, none⟩) rfl _
                                case rel => exact ⟨d + 1, by omega, by go_num, by rw [HG1.out]; exact own_but2 hN hb6 (fun g hg => hnt g hg), by rw [HG2.out]; exact T.c4_set hd4 _, Xb.but hb6 (by omega), own_but2 hC hb6 (fun g hg => by have := hct1 g hg; omega), hdis, hnt, hU.trans' hb6 (fun b e => .inr (by omega)), Nat.le_trans hwd hb6.size⟩
                                case measure => simp [intOf]; omega
                          · obtain rfl : d = 4 := (by omega)
                            rw [List.append_assoc, ← new_next] at hN
                            have X1 := Y1.but hU (by omega)
                            have x0 := X1.at_ 0 rfl; have xl := X1.lt
                            obtain ⟨bk, hbk⟩ : ∃ b, (o k == s.nd) = b := ⟨_, rfl⟩
                            cases bk
                            · have hke : o k ≠ s.nd := fun h => by rw [h] at hbk; simp at hbk
                              obtain ⟨g1, g2⟩ := rowO_no (Fl := Fl) hke
                              have HG1 := hid g1; have HG2 := hid g2
                              clear g1 g2
                              go_wp2
                              go_roundw
                              case rel => exact ⟨k + 1, vc, by omega, by go_num, hN, Xb, by rw [HG1.out, HG2.out]; exact hC, hdis, hU⟩
                              case measure => simp [intOf]; omega
                            · have hke : o k = s.nd := by simpa using hbk
                              rw [cuC_own hke] at T
                              obtain ⟨g1, g2⟩ := rowO_yes (Fl := Fl) hke
                              have HG1 := hid g1; have HG2 := hid g2
                              clear g1 g2
                              have hol := ownL_length o s.nd k
                              have t0 := T.at_ 0 rfl; have t1 := T.at_ 1 rfl; have t2 := T.at_ 2 rfl; have t3 := T.at_ 3 rfl; have tl := T.lt
                              have y3 := Xb.at_ 3 rfl; have yf := Xb.free; have yl := Xb.lt
                              have hwid := hU.size
                              generalize Fl k = fk at *
                              generalize (ownL o s.nd k).length = lk at *
                              go_wp2_with (at_builtin; refine wpList_append_own_at _ rfl _ _ 22 rfl wo.heap.size 49 i0 _ 4 32 Tryz.underlying22 hi hz0 hz1 hz2 rfl (by decide) _ _ _ rfl (World.ownsRow.alloc hC _) ⟨wr.heap.size, 0, none⟩ 1 1 [.int .i64 fk.e, .int .i64 fk.n, .int .i64 fk.w, .int .i64 fk.s] rfl rfl (cells_new _ _ _) (by simp [Value.oneCell']) (by simp only [maxLen]; omega) (by omega) (by simp; omega) ?_; intro v' w9 hown' hgrow _ hat; obtain ⟨av', nv', cv', rfl⟩ := own_sliceN hown'; have Xb9 := (Xb.alloc (.cells #[.int .i64 fk.e, .int .i64 fk.n, .int .i64 fk.w, .int .i64 fk.s] 49)).grown hgrow (fun e => (by have := own_base hC _ e.symm; omega)); have z3 := Xb9.at_ 3 rfl; have zf := Xb9.free; have zl := Xb9.lt)
                              go_roundw
                              have hb6 : But (fun b => b = bx) w9 (w9.setCell ⟨bx, 3, none⟩ (.slice av' nv' cv')) := But.set_ (But.refl (fun b => b = bx) w9) (p := ⟨bx, 3, none⟩) rfl _
                              have hNa := own_grown (World.ownsRow.alloc hN (.cells #[.int .i64 fk.e, .int .i64 fk.n, .int .i64 fk.w, .int .i64 fk.s] 49)) hgrow (fun g hg e => hdis g e.symm hg)
                              have hS9 : But (fun b => wo.heap.size ≤ b) wr w9 := but_grownN ((But.refl _ wr).alloc _) hgrow (fun g hg => own_base hC g hg)
                              have hlN := own_lt hN
                              have hdis2 : ∀ g, (Value.slice av' nv' cv').ownBlock = some g → u26.ownBlock ≠ some g := fun g hg e => by
                                rcases hat with h | h
                                · exact hdis g (h ▸ hg) e
                                · have := hlN g e
                                  rw [h] at hg
                                  injection hg with hg
                                  simp at hg
                                  omega
                              case rel => exact ⟨k + 1, .slice av' nv' cv', by omega, by go_num, own_but2 hNa hb6 (fun g hg => by have := own_base hN g hg; omega), Xb9.set_ 3 (by simp) (.slice av' nv' cv'), by rw [HG1.out, HG2.out]; exact own_but2 hown' hb6 (fun g hg => by have := own_base hown' g hg; omega), hdis2, (hU.trans' hS9 (fun b hb => .inr hb)).trans hb6⟩
                              case measure => simp [intOf]; omega
                      · obtain rfl : k = no := (by omega)
                        have hperm : R0 ++ newN Wd Hd o s.nd (s.st + 1) Yc k = actN Wd Hd o (rk, rb) s p q := by
                          unfold actN
                          rw [HRG.out, HYC.out, ← HNO.out]
                        rw [hperm] at hN
                        have hLen : ((actN Wd Hd o (rk, rb) s p q).length : Int) ≤ 110000 := by
                          rw [← hperm, List.length_append]
                          have e1 := newN_length Wd Hd o s.nd (s.st + 1) Yc k
                          omega
                        have hAC : actC Wd Hd o (rk, rb) s p q = Fl := by
                          unfold actC
                          rw [HF2.out, HYC.out]
                        have HAC := hid hAC
                        obtain ⟨aN, hAN⟩ : ∃ l, l = actN Wd Hd o (rk, rb) s p q := ⟨_, rfl⟩
                        rw [← hAN] at hN hLen
                        have HAN := hid hAN
                        clear hperm hAC hAN
                        obtain ⟨pv, cv9, rfl, SN⟩ := sn_of_own hN
                        have hdef9 : wr.heap[Dd]? = some (.deferred (some [])) := (hU.block Dd (Array.getElem?_eq_some_iff.1 hdef2).1 (by omega)).trans hdef2
                        have hD9 := (Array.getElem?_eq_some_iff.1 hdef9).1
                        have Q2 := Y2.but hU (by omega)
                        have hwid := hU.size
                        by_cases hlong : 100000 < aN.length
                        · have hE := hid (actE_long (W := Wd) (H := Hd) (o := o) (ru := (rk, rb)) (s := s) (p := p) (q := q) (by rw [← HAN.out]; exact hlong))
                          have q0 := Q2.at_ 0 rfl; have q1 := Q2.at_ 1 rfl; have q2 := Q2.at_ 2 rfl; have q3 := Q2.at_ 3 rfl; have qf := Q2.free; have ql := Q2.lt
                          go_wp2_with fail
                          have T2 : Bx ((((wr.setCell ⟨w.heap.size + 1 + 1, 0, none⟩ (.int .i64 0)).setCell ⟨w.heap.size + 1 + 1, 1, none⟩ (.int .i64 0)).setCell ⟨w.heap.size + 1 + 1, 2, none⟩ (.slice none 0 0)).setCell ⟨w.heap.size + 1 + 1, 3, none⟩ (.slice none 0 0)) (w.heap.size + 1 + 1) #[.int .i64 0, .int .i64 0, .slice none 0 0, .slice none 0 0] :=
                            ((((Q2.set_ 0 (by simp) (.int .i64 0)).set_ 1 (by simp) (.int .i64 0)).set_ 2 (by simp) (.slice none 0 0)).set_ 3 (by simp) (.slice none 0 0))
                          have TB : Below w.heap.size w ((((wr.setCell ⟨w.heap.size + 1 + 1, 0, none⟩ (.int .i64 0)).setCell ⟨w.heap.size + 1 + 1, 1, none⟩ (.int .i64 0)).setCell ⟨w.heap.size + 1 + 1, 2, none⟩ (.slice none 0 0)).setCell ⟨w.heap.size + 1 + 1, 3, none⟩ (.slice none 0 0)) := by (repeat' (first | with_reducible assumption | with_reducible exact Below.refl _ _ | with_reducible refine Below.drew ?_ | with_reducible refine below_drewN ?_ _ | with_reducible refine balloc ?_ _ | with_reducible refine bset ?_ ?_ _ | with_reducible refine Below.setCell ?_ ?_ _ | with_reducible refine Below.alloc ?_ ?_ _ | omega | (simp; done) | (simp; omega)))
                          have TD : ((((wr.setCell ⟨w.heap.size + 1 + 1, 0, none⟩ (.int .i64 0)).setCell ⟨w.heap.size + 1 + 1, 1, none⟩ (.int .i64 0)).setCell ⟨w.heap.size + 1 + 1, 2, none⟩ (.slice none 0 0)).setCell ⟨w.heap.size + 1 + 1, 3, none⟩ (.slice none 0 0)).heap[Dd]? = some (.deferred (some [])) := by
                            rw [Below.heap_setCell _ _ _ _ (by dsimp only; omega), Below.heap_setCell _ _ _ _ (by dsimp only; omega), Below.heap_setCell _ _ _ _ (by dsimp only; omega), Below.heap_setCell _ _ _ _ (by dsimp only; omega)]
                            exact hdef9
                          generalize (((wr.setCell ⟨w.heap.size + 1 + 1, 0, none⟩ (.int .i64 0)).setCell ⟨w.heap.size + 1 + 1, 1, none⟩ (.int .i64 0)).setCell ⟨w.heap.size + 1 + 1, 2, none⟩ (.slice none 0 0)).setCell ⟨w.heap.size + 1 + 1, 3, none⟩ (.slice none 0 0) = W7 at *
                          have hbp := but_putObj W7 Dd (.deferred none)
                          have U2 := T2.but hbp (by omega)
                          have c0 := U2.at_ 0 rfl; have c1 := U2.at_ 1 rfl; have c2 := U2.at_ 2 rfl; have c3 := U2.at_ 3 rfl
                          have B7 := TB.trans (⟨hbp.os, hbp.tape, hbp.output, hbp.size, fun z hz => hbp.block z (by have := TB.size; omega) (by omega)⟩ : Below w.heap.size _ _)
                          refine ⟨by simp, .inl ⟨_, _, rfl, run_takeDeferred TD, ?_⟩⟩
                          exact ⟨.tuple #[.agg #[.int .i64 0, .int .i64 0, .slice none 0 0, .slice none 0 0], .slice none 0 0, .int .i64 4], by simp [results, Tryz.results73, go_sem, c0, c1, c2, c3], actS_fail hE.out rfl B7⟩
                        · have hE := hid (actE_ok (W := Wd) (H := Hd) (o := o) (ru := (rk, rb)) (s := s) (p := p) (q := q) HOK.out (by rw [← HAN.out]; omega))
                          unfold rowO at hC
                          have hl1 := HL1.out
                          rw [← hl1] at hC
                          obtain ⟨gc, cc9, rfl⟩ := ownForm4 hC h0
                          obtain ⟨hgcb, RC⟩ := roC_of_own hC h0
                          have HL9 := hid hl1; clear hl1
                          have S9 := S2.but2 hU (fun b _ e h => by injection e with e; injection e with e1 _ _; omega)
                          have hgcl := RC.lt
                          have r0 : ∀ Y, Below wr.heap.size wr Y → Y.cell? ⟨bx, 0, none⟩ = some (.int .i64 s.nd) := fun Y h => (Xb.below h).at_ 0 rfl
                          have r1 : ∀ Y, Below wr.heap.size wr Y → Y.cell? ⟨bx, 1, none⟩ = some (.int .i64 (s.st + 1)) := fun Y h => (Xb.below h).at_ 1 rfl
                          have r2 : ∀ Y, Below wr.heap.size wr Y → Y.cell? ⟨bx, 2, none⟩ = some (.slice (some ⟨g5, 0, none⟩) s.ni c5) := fun Y h => (Xb.below h).at_ 2 rfl
                          have r3 : ∀ Y, Below wr.heap.size wr Y → Y.cell? ⟨bx, 3, none⟩ = some (.slice (some ⟨gc, 0, none⟩) s.ni cc9) := fun Y h => (Xb.below h).at_ 3 rfl
                          have hsort := fun W (hW : Below wr.heap.size wr W) => node_Sorted pv aN.length cv9 _ W (by omega) (SN.below hW)
                          rw [lstN_self] at hsort
                          have hlint : (aN.length : Int) ≤ 100000 := by omega
                          go_wp2_with fail
                          refine wp_region_N (fun Y => Below wr.heap.size wr Y) 3 (by kernel_rfl) ?_
                          refine anyS_take (i := 0) rfl (by kernel_rfl) (fun _ _ _ h => h) (Or.inl ⟨by rfl, fun Y hYb => (by (try dsimp only at hYb); go_simp; rfl)⟩) (by repeat' (first | with_reducible assumption | with_reducible exact Below.refl _ _ | with_reducible refine Below.drew ?_ | with_reducible refine below_drewN ?_ _)) ?_
                          simp only [List.getElem_toArray, List.getElem_cons_succ, List.getElem_cons_zero, Act.put, List.setIfInBounds_toArray, List.set_cons_zero, List.set_cons_succ]
                          refine anyS_pure (i := 1) rfl (by kernel_rfl) (fun _ _ _ h => h) (Or.inl ⟨by rfl, fun Y hYb => (by clear hYb; go_simp; rfl)⟩) ?_
                          refine anyS_one (i := 2) (by kernel_rfl) rfl (by rfl) (fun K hK => ?_)
                          go_simp
                          refine (hsort _ ((Below.refl _ wr).drew)).mono ?_
                          rintro e wS ⟨vS, rfl, hOS, hbS⟩
                          dsimp only
                          have hSS : Below wr.heap.size wr wS := bvia (Below.refl _ wr).drew hbS
                          have Q9 := Q2.below hSS
                          have q0 := Q9.at_ 0 rfl; have q1 := Q9.at_ 1 rfl; have q2 := Q9.at_ 2 rfl; have q3 := Q9.at_ 3 rfl; have qf := Q9.free; have ql := Q9.lt
                          have hsS := hSS.size
                          refine hK _ _ (fun _ _ => hSS) ?_
                          clear hK K hsort r0 r1 r2 r3
                          refine anyS_one (i := 3) (by kernel_rfl) rfl (by rfl) (fun K hK => ?_)
                          go_simp
                          refine hK _ _ (fun h _ => absurd h (by decide)) ?_
                          clear hK K
                          refine anyS_pure (i := 4) rfl (by kernel_rfl) (fun _ _ _ h => h) (Or.inl ⟨by rfl, fun Y hYb => (by clear hYb; go_simp; rfl)⟩) ?_
                          refine anyS_pure (i := 5) rfl (by kernel_rfl) (fun _ _ _ h => h) (Or.inl ⟨by rfl, fun Y hYb => (by clear hYb; go_simp; rfl)⟩) ?_
                          refine anyS_done (by kernel_rfl) ?_ _
                          dsimp only [Qn]
                          go_wp2
                          have T2 : Bx ((((wS.setCell ⟨w.heap.size + 1 + 1, 0, none⟩ (.int .i64 s.nd)).setCell ⟨w.heap.size + 1 + 1, 1, none⟩ (.int .i64 (s.st + 1))).setCell ⟨w.heap.size + 1 + 1, 2, none⟩ (.slice (some ⟨g5, 0, none⟩) s.ni c5)).setCell ⟨w.heap.size + 1 + 1, 3, none⟩ (.slice (some ⟨gc, 0, none⟩) s.ni cc9)) (w.heap.size + 1 + 1) #[.int .i64 s.nd, .int .i64 (s.st + 1), .slice (some ⟨g5, 0, none⟩) s.ni c5, .slice (some ⟨gc, 0, none⟩) s.ni cc9] :=
                            ((((Q9.set_ 0 (by simp) (.int .i64 s.nd)).set_ 1 (by simp) (.int .i64 (s.st + 1))).set_ 2 (by simp) (.slice (some ⟨g5, 0, none⟩) s.ni c5)).set_ 3 (by simp) (.slice (some ⟨gc, 0, none⟩) s.ni cc9))
                          have BS := bvia Bl hSS
                          have TB : Below w.heap.size w ((((wS.setCell ⟨w.heap.size + 1 + 1, 0, none⟩ (.int .i64 s.nd)).setCell ⟨w.heap.size + 1 + 1, 1, none⟩ (.int .i64 (s.st + 1))).setCell ⟨w.heap.size + 1 + 1, 2, none⟩ (.slice (some ⟨g5, 0, none⟩) s.ni c5)).setCell ⟨w.heap.size + 1 + 1, 3, none⟩ (.slice (some ⟨gc, 0, none⟩) s.ni cc9)) := by (repeat' (first | with_reducible assumption | with_reducible exact Below.refl _ _ | with_reducible refine Below.drew ?_ | with_reducible refine below_drewN ?_ _ | with_reducible refine balloc ?_ _ | with_reducible refine bset ?_ ?_ _ | with_reducible refine Below.setCell ?_ ?_ _ | with_reducible refine Below.alloc ?_ ?_ _ | omega | (simp; done) | (simp; omega)))
                          have TU : But (fun b => b = w.heap.size + 1 + 1) wS ((((wS.setCell ⟨w.heap.size + 1 + 1, 0, none⟩ (.int .i64 s.nd)).setCell ⟨w.heap.size + 1 + 1, 1, none⟩ (.int .i64 (s.st + 1))).setCell ⟨w.heap.size + 1 + 1, 2, none⟩ (.slice (some ⟨g5, 0, none⟩) s.ni c5)).setCell ⟨w.heap.size + 1 + 1, 3, none⟩ (.slice (some ⟨gc, 0, none⟩) s.ni cc9)) := ((((But.refl (fun b => b = w.heap.size + 1 + 1) wS).set_ (p := ⟨w.heap.size + 1 + 1, 0, none⟩) rfl _).set_ (p := ⟨w.heap.size + 1 + 1, 1, none⟩) rfl _).set_ (p := ⟨w.heap.size + 1 + 1, 2, none⟩) rfl _).set_ (p := ⟨w.heap.size + 1 + 1, 3, none⟩) rfl _
                          have TD : ((((wS.setCell ⟨w.heap.size + 1 + 1, 0, none⟩ (.int .i64 s.nd)).setCell ⟨w.heap.size + 1 + 1, 1, none⟩ (.int .i64 (s.st + 1))).setCell ⟨w.heap.size + 1 + 1, 2, none⟩ (.slice (some ⟨g5, 0, none⟩) s.ni c5)).setCell ⟨w.heap.size + 1 + 1, 3, none⟩ (.slice (some ⟨gc, 0, none⟩) s.ni cc9)).heap[Dd]? = some (.deferred (some [])) := by
                            rw [Below.heap_setCell _ _ _ _ (by dsimp only; omega), Below.heap_setCell _ _ _ _ (by dsimp only; omega), Below.heap_setCell _ _ _ _ (by dsimp only; omega), Below.heap_setCell _ _ _ _ (by dsimp only; omega)]
                            exact (hSS.block Dd hD9).trans hdef9
                          generalize (((wS.setCell ⟨w.heap.size + 1 + 1, 0, none⟩ (.int .i64 s.nd)).setCell ⟨w.heap.size + 1 + 1, 1, none⟩ (.int .i64 (s.st + 1))).setCell ⟨w.heap.size + 1 + 1, 2, none⟩ (.slice (some ⟨g5, 0, none⟩) s.ni c5)).setCell ⟨w.heap.size + 1 + 1, 3, none⟩ (.slice (some ⟨gc, 0, none⟩) s.ni cc9) = W7 at *
                          have hbp := but_putObj W7 Dd (.deferred none)
                          have U2 := T2.but hbp (by omega)
                          have c0 := U2.at_ 0 rfl; have c1 := U2.at_ 1 rfl; have c2 := U2.at_ 2 rfl; have c3 := U2.at_ 3 rfl
                          have B7 := TB.trans (⟨hbp.os, hbp.tape, hbp.output, hbp.size, fun z hz => hbp.block z (by have := TB.size; omega) (by omega)⟩ : Below w.heap.size _ _)
                          have hz8 : But (fun b => b = w.heap.size + 1 + 1 ∨ b = Dd) wS _ := (TU.mono (fun b _ h => .inl h)).trans (hbp.mono (fun b _ h => .inr h))
                          have S8 := (S9.below hSS).but2 hz8 (fun b _ e h => by injection e with e; injection e with e1 _ _; omega)
                          have hszz := hz8.size
                          refine ⟨by simp, .inl ⟨_, _, rfl, run_takeDeferred TD, ?_⟩⟩
                          refine ⟨.tuple #[.agg #[.int .i64 s.nd, .int .i64 (s.st + 1), .slice (some ⟨g5, 0, none⟩) s.ni c5, .slice (some ⟨gc, 0, none⟩) s.ni cc9], vS, .int .i64 0], by simp [results, Tryz.results73, go_sem, c0, c1, c2, c3], actS_ok hE.out HAC.out HAN.out ?_⟩
                          have C8 := ((RC.sc).below hSS).but2 hz8 (fun b _ e h => by injection e with e; injection e with e1 _ _; omega)
                          refine ⟨⟨s.nd, s.st + 1, some ⟨g5, 0, none⟩, s.ni, c5, some ⟨gc, 0, none⟩, s.ni, cc9, s.I, fun j => Fl ((ownL o s.nd k).getD j 0).toNat⟩, vS, rfl, ⟨S8, C8, fun h => (by cases h)⟩, fun h => (by cases h), rfl, rfl, HL9.out, HL9.out, fun j hj => HL2.out j (by rw [HL9.out]; exact hj), fun _ _ => rfl, ?_, ?_, B7⟩
                          · rintro b off (h | h) <;> injection h with h <;> injection h with e1 _ _ <;> omega
                          · exact own_mono (own_but2 hOS hz8 (fun g hg h => by have := own_base hOS g hg; simp only [World.size_drew] at this; omega)) (by simp only [World.size_drew]; omega)
                  · have hSi := hLs i hLi
                    have hval : validC (V i) = true := by
                      obtain ⟨k, hk, e⟩ := memI_iff.1 hSi
                      rw [← e]; exact HVV.out k hk
                    have hcall := fun W => cell_Collide (V i) rk rb W hval hru
                    rw [colS_left hLi] at hnx hen
                    have hst2 := hst (coll rk rb (V i)) (by have := HLM2.out; simp [maxLen]; omega)
                    rw [memS_next hSi, colS_next hSi] at hst2
                    clear hst hR8
                    have hbut8 := but_grown1 hbut hg8 (.inr rfl)
                    have B8 : Below w.heap.size w w8 := below_but (C := fun b => b = z + 1 + 1 + 1 ∨ b = r6) B7 (hbut8.mono (fun b _ h => ⟨by omega, h⟩))
                    generalize hc4 : coll rk rb (V i) = cN at *
                    generalize hci : V i = cI at *
                    unfold C4.val at hnx hen hst2
                    go_wp2
                    have T9 := Bx.new w8 #[.int .i64 cI.e, .int .i64 cI.n, .int .i64 cI.w, .int .i64 cI.s] 49
                    rw [hz8] at T9
                    have hb89 : Below w8.heap.size w8 (w8.alloc (.cells #[.int .i64 cI.e, .int .i64 cI.n, .int .i64 cI.w, .int .i64 cI.s] 49)) := below_alloc _ _
                    generalize w8.alloc (.cells #[.int .i64 cI.e, .int .i64 cI.n, .int .i64 cI.w, .int .i64 cI.s] 49) = w9 at *
                    have hs9 := hb89.size
                    have hs7 := hbut8.size
                    have hbut9 : But (fun b => b = z + 1 + 1 + 1 ∨ b = r6) w7 w9 := hbut8.trans (but_below hb89 (Nat.le_refl _))
                    have B9 := bvia B8 hb89
                    have Y1 := Z1.but hbut9 (by omega); have Y5 := Z5.but hbut9 (by omega)
                    have hb9 : br < w9.heap.size := by have := B9.size; omega
                    have d0' := (bcell B9 _ _ hbr).trans d0; have d1' := (bcell B9 _ _ hbr).trans d1
                    have hrn0 : ¬ (rn : Int) = 0 := by omega
                    have hrn1 : ¬ rn = 0 := by omega
                    have r0 : ∀ Y, Below w9.heap.size w9 Y → Y.cell? ⟨z + 1 + 1 + 1 + 1, 0, none⟩ = some (.map (some (z + 1 + 1 + 1))) := fun Y h => (Y5.below h).at_ 0 rfl
                    have r1 : ∀ Y, Below w9.heap.size w9 Y → Y.cell? ⟨w.heap.size + 1, 1, none⟩ = some (.int .i64 s.st) := fun Y h => (Y1.below h).at_ 1 rfl
                    have r2 : ∀ Y, Below w9.heap.size w9 Y → Y.cell? ⟨wr.heap.size, 0, none⟩ = some (.int .i64 cI.e) := fun Y h => (T9.below h).at_ 0 rfl
                    have r3 : ∀ Y, Below w9.heap.size w9 Y → Y.cell? ⟨wr.heap.size, 1, none⟩ = some (.int .i64 cI.n) := fun Y h => (T9.below h).at_ 1 rfl
                    have r4 : ∀ Y, Below w9.heap.size w9 Y → Y.cell? ⟨wr.heap.size, 2, none⟩ = some (.int .i64 cI.w) := fun Y h => (T9.below h).at_ 2 rfl
                    have r5 : ∀ Y, Below w9.heap.size w9 Y → Y.cell? ⟨wr.heap.size, 3, none⟩ = some (.int .i64 cI.s) := fun Y h => (T9.below h).at_ 3 rfl
                    have q0 : ∀ Y, Below w9.heap.size w9 Y → Y.cell? ⟨br, orr + jr * 2, none⟩ = some (.int .i64 rk) := fun Y h => (bcell h _ _ hb9).trans d0'
                    have q1 : ∀ Y, Below w9.heap.size w9 Y → Y.cell? ⟨br, orr + jr * 2 + 1, none⟩ = some (.int .i64 rb) := fun Y h => (bcell h _ _ hb9).trans d1'
                    clear d0' d1' hnx hen
                    refine wp_region_N (fun Y => Below w9.heap.size w9 Y) 15 (by kernel_rfl) ?_
                    refine anyS_take (i := 0) rfl (by kernel_rfl) (fun _ _ _ h => h) (Or.inl ⟨by rfl, fun Y hYb => (by (try dsimp only at hYb); go_simp; rfl)⟩) (by repeat' (first | with_reducible assumption | with_reducible exact Below.refl _ _ | with_reducible refine Below.drew ?_ | with_reducible refine below_drewN ?_ _)) ?_
                    simp only [List.getElem_toArray, List.getElem_cons_succ, List.getElem_cons_zero, Act.put, List.setIfInBounds_toArray, List.set_cons_zero, List.set_cons_succ]
                    refine anyS_take (i := 1) rfl (by kernel_rfl) (fun _ _ _ h => h) (Or.inl ⟨by rfl, fun Y hYb => (by (try dsimp only at hYb); go_simp; rfl)⟩) (by repeat' (first | with_reducible assumption | with_reducible exact Below.refl _ _ | with_reducible refine Below.drew ?_ | with_reducible refine below_drewN ?_ _)) ?_
                    simp only [List.getElem_toArray, List.getElem_cons_succ, List.getElem_cons_zero, Act.put, List.setIfInBounds_toArray, List.set_cons_zero, List.set_cons_succ]
                    refine anyS_take (i := 2) rfl (by kernel_rfl) (fun _ _ _ h => h) (Or.inl ⟨by rfl, fun Y hYb => (by (try dsimp only at hYb); go_simp; rfl)⟩) (by repeat' (first | with_reducible assumption | with_reducible exact Below.refl _ _ | with_reducible refine Below.drew ?_ | with_reducible refine below_drewN ?_ _)) ?_
                    simp only [List.getElem_toArray, List.getElem_cons_succ, List.getElem_cons_zero, Act.put, List.setIfInBounds_toArray, List.set_cons_zero, List.set_cons_succ]
                    refine anyS_take (i := 3) rfl (by kernel_rfl) (fun _ _ _ h => h) (Or.inl ⟨by rfl, fun Y hYb => (by (try dsimp only at hYb); go_simp; rfl)⟩) (by repeat' (first | with_reducible assumption | with_reducible exact Below.refl _ _ | with_reducible refine Below.drew ?_ | with_reducible refine below_drewN ?_ _)) ?_
                    simp only [List.getElem_toArray, List.getElem_cons_succ, List.getElem_cons_zero, Act.put, List.setIfInBounds_toArray, List.set_cons_zero, List.set_cons_succ]
                    refine anyS_take (i := 4) rfl (by kernel_rfl) (fun _ _ _ h => h) (Or.inl ⟨by rfl, fun Y hYb => (by (try dsimp only at hYb); go_simp; rfl)⟩) (by repeat' (first | with_reducible assumption | with_reducible exact Below.refl _ _ | with_reducible refine Below.drew ?_ | with_reducible refine below_drewN ?_ _)) ?_
                    simp only [List.getElem_toArray, List.getElem_cons_succ, List.getElem_cons_zero, Act.put, List.setIfInBounds_toArray, List.set_cons_zero, List.set_cons_succ]
                    refine anyS_take (i := 5) rfl (by kernel_rfl) (fun _ _ _ h => h) (Or.inl ⟨by rfl, fun Y hYb => (by (try dsimp only at hYb); go_simp; rfl)⟩) (by repeat' (first | with_reducible assumption | with_reducible exact Below.refl _ _ | with_reducible refine Below.drew ?_ | with_reducible refine below_drewN ?_ _)) ?_
                    simp only [List.getElem_toArray, List.getElem_cons_succ, List.getElem_cons_zero, Act.put, List.setIfInBounds_toArray, List.set_cons_zero, List.set_cons_succ]
                    refine anyS_take (i := 6) rfl (by kernel_rfl) (fun _ _ _ h => h) (Or.inl ⟨by rfl, fun Y hYb => (by (try dsimp only at hYb); go_simp; rfl)⟩) (by repeat' (first | with_reducible assumption | with_reducible exact Below.refl _ _ | with_reducible refine Below.drew ?_ | with_reducible refine below_drewN ?_ _)) ?_
                    simp only [List.getElem_toArray, List.getElem_cons_succ, List.getElem_cons_zero, Act.put, List.setIfInBounds_toArray, List.set_cons_zero, List.set_cons_succ]
                    refine anyS_take (i := 7) rfl (by kernel_rfl) (fun _ _ _ h => h) (Or.inl ⟨by rfl, fun Y hYb => (by (try dsimp only at hYb); go_simp; rfl)⟩) (by repeat' (first | with_reducible assumption | with_reducible exact Below.refl _ _ | with_reducible refine Below.drew ?_ | with_reducible refine below_drewN ?_ _)) ?_
                    simp only [List.getElem_toArray, List.getElem_cons_succ, List.getElem_cons_zero, Act.put, List.setIfInBounds_toArray, List.set_cons_zero, List.set_cons_succ]
                    refine anyS_take (i := 8) rfl (by kernel_rfl) (fun _ _ _ h => h) (Or.inl ⟨by rfl, fun Y hYb => (by (try dsimp only at hYb); go_simp; rfl)⟩) (by repeat' (first | with_reducible assumption | with_reducible exact Below.refl _ _ | with_reducible refine Below.drew ?_ | with_reducible refine below_drewN ?_ _)) ?_
                    simp only [List.getElem_toArray, List.getElem_cons_succ, List.getElem_cons_zero, Act.put, List.setIfInBounds_toArray, List.set_cons_zero, List.set_cons_succ]
                    refine anyS_take (i := 9) rfl (by kernel_rfl) (fun _ _ _ h => h) (Or.inl ⟨by rfl, fun Y hYb => (by (try dsimp only at hYb); go_simp; rfl)⟩) (by repeat' (first | with_reducible assumption | with_reducible exact Below.refl _ _ | with_reducible refine Below.drew ?_ | with_reducible refine below_drewN ?_ _)) ?_
                    simp only [List.getElem_toArray, List.getElem_cons_succ, List.getElem_cons_zero, Act.put, List.setIfInBounds_toArray, List.set_cons_zero, List.set_cons_succ]
                    refine anyS_take (i := 10) rfl (by kernel_rfl) (fun _ _ _ h => h) (Or.inl ⟨by rfl, fun Y hYb => (by (try dsimp only at hYb); go_simp; rfl)⟩) (by repeat' (first | with_reducible assumption | with_reducible exact Below.refl _ _ | with_reducible refine Below.drew ?_ | with_reducible refine below_drewN ?_ _)) ?_
                    simp only [List.getElem_toArray, List.getElem_cons_succ, List.getElem_cons_zero, Act.put, List.setIfInBounds_toArray, List.set_cons_zero, List.set_cons_succ]
                    refine anyS_one (i := 11) (by kernel_rfl) rfl (by rfl) (fun K hK => ?_)
                    go_simp
                    refine (hcall _).mono ?_
                    rintro e w10 ⟨rfl, hb10⟩
                    dsimp only
                    have hS10 : Below w9.heap.size w9 w10 := bvia (Below.refl _ w9).drew hb10
                    obtain ⟨w11, hrun11, R11, ht11⟩ := hst2 w10 (bvia hb89 hS10)
                    try unfold C4.val at hrun11
                    refine hK _ _ (fun _ _ => hS10) ?_
                    clear hK K hb10 hst2 r0 r1 r2 r3 r4 r5 q0 q1 hcall
                    refine anyS_take (i := 12) rfl (by kernel_rfl) (fun _ _ _ h => h) (Or.inl ⟨by rfl, fun Y hYb => (by (try dsimp only at hYb); go_simp; rfl)⟩) (by repeat' (first | with_reducible assumption | with_reducible exact Below.refl _ _ | with_reducible refine Below.drew ?_ | with_reducible refine below_drewN ?_ _)) ?_
                    simp only [List.getElem_toArray, List.getElem_cons_succ, List.getElem_cons_zero, Act.put, List.setIfInBounds_toArray, List.set_cons_zero, List.set_cons_succ]
                    refine anyS_take (i := 13) rfl (by kernel_rfl) (fun _ _ _ h => h) (Or.inl ⟨by rfl, fun Y hYb => (by (try dsimp only at hYb); go_simp; rfl)⟩) (by repeat' (first | with_reducible assumption | with_reducible exact Below.refl _ _ | with_reducible refine Below.drew ?_ | with_reducible refine below_drewN ?_ _)) ?_
                    simp only [List.getElem_toArray, List.getElem_cons_succ, List.getElem_cons_zero, Act.put, List.setIfInBounds_toArray, List.set_cons_zero, List.set_cons_succ]
                    refine anyS_pure (i := 14) rfl (by kernel_rfl) (fun _ _ _ h => h) (Or.inl ⟨by rfl, fun Y hYb => (by clear hYb; go_simp; rfl)⟩) ?_
                    refine anyS_one (i := 15) (by kernel_rfl) rfl (by rfl) (fun K hK => ?_)
                    go_simp
                    refine hK _ _ (fun h _ => absurd h (by decide)) ?_
                    clear hK K
                    refine anyS_done (by kernel_rfl) ?_ _
                    dsimp only [Qn]
                    have hbut11 : But (fun b => b = z + 1 + 1 + 1 ∨ b = r6) w7 w11 := (hbut9.trans (but_below hS10 (Nat.le_refl _))).trans ((but_turned ht11).mono (fun _ _ h => .inl h))
                    go_wp2
                    go_roundw
                    case rel => exact ⟨_, cnt', R11, fun j hj => hLs j (by simp at hj; exact hj.1), hbut11⟩
                    case measure => rw [rgc_left R11, hRL]; exact hltc
end Go.Proofs.YteabkcbajpjkoaaGreat
