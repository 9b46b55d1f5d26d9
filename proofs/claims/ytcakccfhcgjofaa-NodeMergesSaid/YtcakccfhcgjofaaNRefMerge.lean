/- Walks: merge and Merge, of the reference. -/
import Derived.Test.YtcakccfhcgjofaaNMergeF
namespace Go.Proofs.Ytcakccfhcgjofaa
open Go Go.RowKit
set_option linter.unusedVariables false
set_option linter.unusedSimpArgs false
set_option maxRecDepth 100000 in
set_option maxHeartbeats 8000000 in
theorem ref5_merge (Wd Hd : Nat) (a ao al ap : Option Addr) (n no m q c co cl cp : Nat) (o : Nat → Int) (f : Nat → SiteR) (p : Nat → N6) (w : World) (p12 : 1 ≤ Wd ∧ Wd ≤ 64) (u12 : 1 ≤ Hd ∧ Hd ≤ 64) (hnW : no = Wd * Hd) (hm0 : 0 < m) (hm : m ≤ 1000) (hq : q ≤ 100000) (hb : ∀ k, k < m → (f k).ni ≤ 10000)
    (hf : ∀ k, k < m → fitS no (f k)) (hp : ∀ k, k < q → fitN no (p k)) (hsM : siteM f m ≤ 1000000000) (HO : Sl w ao no o) (HS : Ss w al m f) (HP : Sn w ap q p) :
    Calls Try.prog 76 #[.agg #[.int .i64 (Wd : Int), .int .i64 (Hd : Int), .slice a n c], .slice ao no co, .slice al m cl, .slice ap q cp] w
      (GridPost (mrgE true (stepsB f m) (readyA Wd Hd o no q p f m) (postS p q (f 0).st) (decide (massTo (addTo (layS f m) p q) no ≤ 1000000000)))
        (erZ (mrgE true (stepsB f m) (readyA Wd Hd o no q p f m) (postS p q (f 0).st) (decide (massTo (addTo (layS f m) p q) no ≤ 1000000000))) (Wd : Int))
        (erZ (mrgE true (stepsB f m) (readyA Wd Hd o no q p f m) (postS p q (f 0).st) (decide (massTo (addTo (layS f m) p q) no ≤ 1000000000))) (Hd : Int))
        (erN (mrgE true (stepsB f m) (readyA Wd Hd o no q p f m) (postS p q (f 0).st) (decide (massTo (addTo (layS f m) p q) no ≤ 1000000000))) no)
        (addTo (layS f m) p q) w) := by
  have hno5 : no ≤ 4096 := by rw [hnW]; exact Nat.mul_le_mul p12.2 u12.2
  have hmk := fun W' => mk_cells no no rfl (by omega) W'
  have hlv := layS_valid (n := no) (f := f) m hf
  have hwt := fun aa cc W S => ref5_weight aa no cc (layS f m) W (by omega) S (fun k _ => hlv k)
  have hlm : massTo (layS f m) no ≤ 1000000000 := by have := layS_mass (n := no) (f := f) m hf; omega
  have hlm0 : 0 ≤ massTo (layS f m) no := massTo_nonneg _ _ fun j _ => hlv j
  have hms := (addTo_spec (n := no) hlv q hp).2
  have hbd := fun j (hj : j ≤ q) => (addTo_spec (n := no) hlv j (fun i hi => hp i (by omega))).1
  have hcn := coS_nonneg (n := no) (p := p) q hp
  have hcm := fun k (hk : k ≤ q) => coS_mono (n := no) (p := p) hk hp
  have hc0 := fun k (hk : k ≤ q) => (coS_nonneg (n := no) (p := p) k (fun j hj => hp j (by omega))).1
  have hrd := fun k (hk : k < m) W SO SP => ref5_ready Wd Hd a ao ap n no q c co cp o p (f k).nd (f k).st (f k).ix (f k).cl (f k).ni (f k).ci (f k).nc (f k).cc W p12 u12 hnW (by omega) SO SP
  have hra := readyA_iff (W := Wd) (H := Hd) (o := o) (no := no) (q := q) (p := p) (f := f) (m := m)
  obtain ⟨E, hE⟩ : ∃ E, mrgE true (stepsB f m) (readyA Wd Hd o no q p f m) (postS p q (f 0).st) (decide (massTo (addTo (layS f m) p q) no ≤ 1000000000)) = E := ⟨_, rfl⟩
  rw [hE]
  rw [hms] at hE
  have HE := hid hE
  have HF := hid hf; have HN := hid hb; have HPF := hid hp; have HRD := hid hrd; have HRA := hid hra; have HBD := hid hbd; have HCM := hid hcm; have HC0 := hid hc0
  clear hE hf hb hp hrd hra hbd hcm hc0 hlv hms hnW hsM
  have X0 := (Bx.new w #[.int .i64 (Wd : Int), .int .i64 (Hd : Int), .slice a n c] 24).alloc (.cells #[.int .i64 0, .int .i64 0, .slice none 0 0] 24)
  have X1 := Bx.new (w.alloc (.cells #[.int .i64 (Wd : Int), .int .i64 (Hd : Int), .slice a n c] 24)) #[.int .i64 0, .int .i64 0, .slice none 0 0] 24
  simp only [World.size_alloc] at X1
  have hB0 : Below w.heap.size w ((w.alloc (.cells #[.int .i64 (Wd : Int), .int .i64 (Hd : Int), .slice a n c] 24)).alloc (.cells #[.int .i64 0, .int .i64 0, .slice none 0 0] 24)) := by (repeat' (first | with_reducible assumption | with_reducible exact Below.refl _ _ | with_reducible refine Below.drew ?_ | with_reducible refine below_drewN ?_ _ | with_reducible refine balloc ?_ _ | with_reducible refine bset ?_ ?_ _ | with_reducible refine Below.setCell ?_ ?_ _ | with_reducible refine Below.alloc ?_ ?_ _ | omega | (simp; done) | (simp; omega)))
  obtain ⟨bs, os, rfl, hbs, d0, d1, d2, d3, _⟩ := HS 0 hm0
  rw [Nat.zero_mul, Nat.add_zero] at d1
  generalize hst0 : (f 0).st = st0 at *
  have HST0 := hid hst0
  clear hst0 d0 d2 d3
  go_enter Try.func76, Try.ntmps76
  go_upto_region 1 with (fail)
  generalize ((w.alloc (.cells #[.int .i64 (Wd : Int), .int .i64 (Hd : Int), .slice a n c] 24)).alloc (.cells #[.int .i64 0, .int .i64 0, .slice none 0 0] 24)) = W0 at X0 X1 hB0 ⊢
  have z0 := X0.lt
  have z1 := X1.lt
  have c1 := (bcell hB0 _ _ hbs).trans d1
  have hbs2 := Nat.lt_of_lt_of_le hbs hB0.size
  go_wp2_with fail
  go_loop [11] (fun i => ∃ k : Nat, k ≤ m ∧ i = .int .i64 k ∧ ∀ j, j < k → (f j).st = st0) (fun i => m - (intOf i).toNat)
  case atStart => exact ⟨0, Nat.zero_le _, rfl, fun j hj => by omega⟩
  case round =>
    obtain ⟨k, hk, rfl, hok⟩ := hrel
    have HOK := hid hok; clear hok
    by_cases hlt : k < m
    · obtain ⟨bs2, os2, e2, hbs2, d0, d1, d2, d3, hli⟩ := HS k hlt
      injection e2 with e2; injection e2 with e2 e3 _; subst e2 e3
      have c0 := (bcell hB0 _ _ hbs2).trans d1
      have hyes : (f k).st = st0 → ∀ j, j < k + 1 → (f j).st = st0 := fun h j hj => by
        rcases Nat.lt_succ_iff_lt_or_eq.1 hj with h' | rfl
        · exact HOK.out j h'
        · exact h
      have hbad : ¬ (f k).st = st0 → stepsB f m = false := fun h => by
        rw [← Bool.not_eq_true, stepsB_iff]
        intro h2
        exact h ((h2 k hlt).trans HST0.out)
      have HYES := hid hyes; have HBAD := hid hbad
      clear hyes hbad d0 d1 d2 d3 hli
      generalize (f k).st = sk at *
      by_cases hs : sk = st0
      · subst hs
        go_wp2_with fail
        go_round
        case rel => exact ⟨k + 1, by omega, by go_num, HYES.out (by first | trivial | rfl)⟩
        case measure => simp [intOf]; omega
      · have hs2 : (sk != st0) = true := by simpa using hs
        have h3 := HBAD.out hs
        obtain rfl : E = 10 := by rw [← HE.out, h3]; rfl
        clear h3 hs
        have hB := hB0
        have y0 := X1.at_ 0 rfl; have y1 := X1.at_ 1 rfl; have y2 := X1.at_ 2 rfl; have yf := X1.free; have yl := X1.lt
        go_wp2_with fail
        refine bodyPost_ret (v := .tuple #[.agg #[.int .i64 0, .int .i64 0, .slice none 0 0], .int .i64 10]) (by simp [results, Try.results76, go_sem, y0, y1, y2]) rfl (gridPost_none (by decide) (by (repeat' (first | with_reducible assumption | with_reducible exact Below.refl _ _ | with_reducible refine Below.drew ?_ | with_reducible refine below_drewN ?_ _ | with_reducible refine balloc ?_ _ | with_reducible refine bset ?_ ?_ _ | with_reducible refine Below.setCell ?_ ?_ _ | with_reducible refine Below.alloc ?_ ?_ _ | omega | (simp; done) | (simp; omega)))))
    · obtain rfl : m = k := (by omega)
      have hs : stepsB f m = true := stepsB_iff.2 fun j hj => (HOK.out j hj).trans HST0.out.symm
      rw [hs] at HE
      clear hs HOK c1
      obtain ⟨N0, hN0⟩ : ∃ N0, N0 = W0.heap.size := ⟨_, rfl⟩
      have r0 : ∀ Y, Below N0 W0 Y → Y.cell? ⟨w.heap.size, 0, none⟩ = some (.int .i64 (Wd : Int)) := fun Y h => (X0.below (by rw [← hN0]; exact h)).at_ 0 rfl
      have r1 : ∀ Y, Below N0 W0 Y → Y.cell? ⟨w.heap.size, 1, none⟩ = some (.int .i64 (Hd : Int)) := fun Y h => (X0.below (by rw [← hN0]; exact h)).at_ 1 rfl
      have hsz0 := hB0.size
      go_upto_region 7 with (fail)
      have HN0 := hid hN0
      clear hN0
      refine wp_region_S (fun Y => Below N0 W0 Y) 9 (by kernel_rfl) ?_
      refine anyS_take (i := 0) rfl (by kernel_rfl) (fun _ _ _ h => h) (Or.inl ⟨by rfl, fun Y hYb => (by (try dsimp only at hYb); go_simp; rfl)⟩) (by repeat' (first | with_reducible assumption | with_reducible exact Below.refl _ _ | with_reducible refine Below.drew ?_ | with_reducible refine below_drewN ?_ _)) ?_
      refine anyS_take (i := 1) rfl (by kernel_rfl) (fun _ _ _ h => h) (Or.inl ⟨by rfl, fun Y hYb => (by (try dsimp only at hYb); go_simp; rfl)⟩) (by repeat' (first | with_reducible assumption | with_reducible exact Below.refl _ _ | with_reducible refine Below.drew ?_ | with_reducible refine below_drewN ?_ _)) ?_
      refine anyS_take (i := 2) rfl (by kernel_rfl) (fun _ _ _ h => h) (Or.inl ⟨by rfl, fun Y hYb => (by (try dsimp only at hYb); go_simp; rfl)⟩) (by repeat' (first | with_reducible assumption | with_reducible exact Below.refl _ _ | with_reducible refine Below.drew ?_ | with_reducible refine below_drewN ?_ _)) ?_
      refine anyS_take (i := 3) rfl (by kernel_rfl) (fun _ _ _ h => h) (Or.inl ⟨by rfl, fun Y hYb => (by (try dsimp only at hYb); go_simp; rfl)⟩) (by repeat' (first | with_reducible assumption | with_reducible exact Below.refl _ _ | with_reducible refine Below.drew ?_ | with_reducible refine below_drewN ?_ _)) ?_
      refine anyS_take (i := 4) rfl (by kernel_rfl) (fun _ _ _ h => h) (Or.inl ⟨by rfl, fun Y hYb => (by (try dsimp only at hYb); go_simp; rfl)⟩) (by repeat' (first | with_reducible assumption | with_reducible exact Below.refl _ _ | with_reducible refine Below.drew ?_ | with_reducible refine below_drewN ?_ _)) ?_
      refine anyS_take (i := 5) rfl (by kernel_rfl) (fun _ _ _ h => h) (Or.inl ⟨by rfl, fun Y hYb => (by (try dsimp only at hYb); go_simp; rfl)⟩) (by repeat' (first | with_reducible assumption | with_reducible exact Below.refl _ _ | with_reducible refine Below.drew ?_ | with_reducible refine below_drewN ?_ _)) ?_
      apply dup3 (H := fun w5 bx bg => bg ≠ bx ∧ w.heap.size + 1 < bx ∧ w.heap.size + 1 < bg ∧ Bx w5 bx #[.int .i64 0, .int .i64 0, .slice none 0 0] ∧ Ro w5 bg (no * 4) (flatC fun _ => C4.zero) ∧ Below w.heap.size w w5 ∧ Bx w5 w.heap.size #[.int .i64 (Wd : Int), .int .i64 (Hd : Int), .slice a n c] ∧ Bx w5 (w.heap.size + 1) #[.int .i64 0, .int .i64 0, .slice none 0 0])
      case main =>
        intro KEY
        refine anyS_two (i := 6) (j := 8) (by kernel_rfl) rfl rfl (by rfl) (by rfl) (fun K hK => ?_) (fun K hK => ?_)
        · go_simp
          have hS : Below W0.heap.size W0 (W0.alloc (.cells (ccells no) 110)).drew := (below_alloc _ _).drew
          refine hK _ _ (fun _ _ => (by rw [HN0.out]; exact hS)) ?_
          clear hK K
          have hS' : Below N0 W0 _ := (by rw [HN0.out]; exact hS)
          refine anyS_take (i := 7) rfl (by kernel_rfl) (fun _ _ _ h => h) (Or.inl ⟨by rfl, fun Y hYb => (by (try dsimp only at hYb); go_simp; rfl)⟩) (by repeat' (first | with_reducible assumption | with_reducible exact Below.refl _ _ | with_reducible refine Below.drew ?_ | with_reducible refine below_drewN ?_ _)) ?_
          refine anyS_one (i := 8) (by kernel_rfl) rfl (by rfl) (fun K hK => ?_)
          go_simp
          have hS2 : Below W0.heap.size W0 ((W0.alloc (.cells (ccells no) 110)).alloc (.cells #[.int .i64 0, .int .i64 0, .slice none 0 0] 24)).drew := (balloc (below_alloc _ _) _).drew
          refine hK _ _ (fun _ _ => (by rw [HN0.out]; exact hS2)) ?_
          clear hK K hS
          have XG := (Bx.new (W0.alloc (.cells (ccells no) 110)) #[.int .i64 0, .int .i64 0, .slice none 0 0] 24).drew
          simp only [World.size_alloc] at XG
          have RG := ((roC_made W0 no).alloc (.cells #[.int .i64 0, .int .i64 0, .slice none 0 0] 24)).drew
          have hh : W0.heap.size ≠ W0.heap.size + 1 ∧ w.heap.size + 1 < W0.heap.size + 1 ∧ w.heap.size + 1 < W0.heap.size ∧ Bx _ (W0.heap.size + 1) #[.int .i64 0, .int .i64 0, .slice none 0 0] ∧ Ro _ W0.heap.size (no * 4) (flatC fun _ => C4.zero) ∧ Below w.heap.size w _ ∧ Bx _ w.heap.size #[.int .i64 (Wd : Int), .int .i64 (Hd : Int), .slice a n c] ∧ Bx _ (w.heap.size + 1) #[.int .i64 0, .int .i64 0, .slice none 0 0] := ⟨by omega, by omega, z1, XG, RG, bvia hB0 hS2, X0.below hS2, X1.below hS2⟩
          generalize ((W0.alloc (.cells (ccells no) 110)).alloc (.cells #[.int .i64 0, .int .i64 0, .slice none 0 0] 24)).drew = w5 at hh ⊢
          generalize W0.heap.size + 1 = bx at hh ⊢
          generalize W0.heap.size = bg at hh ⊢
          try simp only [List.setIfInBounds_toArray, List.set_cons_zero, List.set_cons_succ]
          exact KEY w5 bx bg hh
        · go_simp
          have hS : Below W0.heap.size W0 (W0.alloc (.cells #[.int .i64 0, .int .i64 0, .slice none 0 0] 24)).drew := (below_alloc _ _).drew
          refine hK _ _ (fun _ _ => (by rw [HN0.out]; exact hS)) ?_
          clear hK K
          refine anyS_one (i := 6) (by kernel_rfl) rfl (by rfl) (fun K hK => ?_)
          go_simp
          have hS2 : Below W0.heap.size W0 ((W0.alloc (.cells #[.int .i64 0, .int .i64 0, .slice none 0 0] 24)).alloc (.cells (ccells no) 110)).drew := (balloc (below_alloc _ _) _).drew
          refine hK _ _ (fun _ _ => (by rw [HN0.out]; exact hS2)) ?_
          clear hK K hS
          have hS' : Below N0 W0 _ := (by rw [HN0.out]; exact hS2)
          refine anyS_take (i := 7) rfl (by kernel_rfl) (fun _ _ _ h => h) (Or.inl ⟨by rfl, fun Y hYb => (by (try dsimp only at hYb); go_simp; rfl)⟩) (by repeat' (first | with_reducible assumption | with_reducible exact Below.refl _ _ | with_reducible refine Below.drew ?_ | with_reducible refine below_drewN ?_ _)) ?_
          have RG := (roC_made (W0.alloc (.cells #[.int .i64 0, .int .i64 0, .slice none 0 0] 24)) no).drew
          simp only [World.size_alloc] at RG
          have XG := ((Bx.new W0 #[.int .i64 0, .int .i64 0, .slice none 0 0] 24).alloc (.cells (ccells no) 110)).drew
          have hh : W0.heap.size + 1 ≠ W0.heap.size ∧ w.heap.size + 1 < W0.heap.size ∧ w.heap.size + 1 < W0.heap.size + 1 ∧ Bx _ W0.heap.size #[.int .i64 0, .int .i64 0, .slice none 0 0] ∧ Ro _ (W0.heap.size + 1) (no * 4) (flatC fun _ => C4.zero) ∧ Below w.heap.size w _ ∧ Bx _ w.heap.size #[.int .i64 (Wd : Int), .int .i64 (Hd : Int), .slice a n c] ∧ Bx _ (w.heap.size + 1) #[.int .i64 0, .int .i64 0, .slice none 0 0] := ⟨by omega, z1, by omega, XG, RG, bvia hB0 hS2, X0.below hS2, X1.below hS2⟩
          generalize ((W0.alloc (.cells #[.int .i64 0, .int .i64 0, .slice none 0 0] 24)).alloc (.cells (ccells no) 110)).drew = w5 at hh ⊢
          generalize W0.heap.size + 1 = bg at hh ⊢
          generalize W0.heap.size = bx at hh ⊢
          try simp only [List.setIfInBounds_toArray, List.set_cons_zero, List.set_cons_succ]
          exact KEY w5 bx bg hh
      case key =>
        clear hmk r0 r1 X0 X1 hB0 z0 z1 hsz0 HN0
        intro w5 bx bg ⟨hne, hbx, hbg2, XG, RG, hb5, Y0, Y1⟩
        have hbg : w.heap.size ≤ bg := by omega
        have xg0 := XG.at_ 0 rfl; have xg1 := XG.at_ 1 rfl; have xg2 := XG.at_ 2 rfl; have xgf := XG.free; have xgl := XG.lt
        refine anyS_one (i := 9) (by kernel_rfl) rfl (by rfl) (fun K hK => ?_)
        go_simp
        refine hK _ _ (fun h _ => absurd h (by decide)) ?_
        clear hK K
        refine anyS_done (by kernel_rfl) ?_ _
        have hb6 : Below w.heap.size w (((w5.setCell ⟨bx, 0, none⟩ (.int .i64 (Wd : Int))).setCell ⟨bx, 1, none⟩ (.int .i64 (Hd : Int))).setCell ⟨bx, 2, none⟩ (.slice (some ⟨bg, 0, none⟩) no no)) := ((hb5.setCell (by dsimp only; omega) _).setCell (by dsimp only; omega) _).setCell (by dsimp only; omega) _
        replace XG : Bx (((w5.setCell ⟨bx, 0, none⟩ (.int .i64 (Wd : Int))).setCell ⟨bx, 1, none⟩ (.int .i64 (Hd : Int))).setCell ⟨bx, 2, none⟩ (.slice (some ⟨bg, 0, none⟩) no no)) bx #[.int .i64 (Wd : Int), .int .i64 (Hd : Int), .slice (some ⟨bg, 0, none⟩) no no] := ((XG.set_ 0 (by simp) _).set_ 1 (by simp) _).set_ 2 (by simp) _
        replace RG := ((RG.far (p := ⟨bx, 0, none⟩) (Ne.symm hne) (.int .i64 (Wd : Int))).far (p := ⟨bx, 1, none⟩) (Ne.symm hne) (.int .i64 (Hd : Int))).far (p := ⟨bx, 2, none⟩) (Ne.symm hne) (.slice (some ⟨bg, 0, none⟩) no no)
        replace Y0 := ((Y0.far (p := ⟨bx, 0, none⟩) (by dsimp only; omega) (.int .i64 (Wd : Int))).far (p := ⟨bx, 1, none⟩) (by dsimp only; omega) (.int .i64 (Hd : Int))).far (p := ⟨bx, 2, none⟩) (by dsimp only; omega) (.slice (some ⟨bg, 0, none⟩) no no)
        replace Y1 := ((Y1.far (p := ⟨bx, 0, none⟩) (by dsimp only; omega) (.int .i64 (Wd : Int))).far (p := ⟨bx, 1, none⟩) (by dsimp only; omega) (.int .i64 (Hd : Int))).far (p := ⟨bx, 2, none⟩) (by dsimp only; omega) (.slice (some ⟨bg, 0, none⟩) no no)
        clear xg0 xg1 xg2 xgf xgl hb5
        generalize ((w5.setCell ⟨bx, 0, none⟩ (.int .i64 (Wd : Int))).setCell ⟨bx, 1, none⟩ (.int .i64 (Hd : Int))).setCell ⟨bx, 2, none⟩ (.slice (some ⟨bg, 0, none⟩) no no) = w6 at *
        go_wp2_with fail
        go_loopw [13] (fun i wr => ∃ k : Nat, k ≤ m ∧ i = .int .i64 k ∧ (∀ j, j < k → readyB Wd Hd o no q p (f j).nd (f j).st = true) ∧ Ro wr bg (no * 4) (flatC (layS f k)) ∧ Bx wr bx #[.int .i64 (Wd : Int), .int .i64 (Hd : Int), .slice (some ⟨bg, 0, none⟩) no no] ∧ Bx wr w.heap.size #[.int .i64 (Wd : Int), .int .i64 (Hd : Int), .slice a n c] ∧ Bx wr (w.heap.size + 1) #[.int .i64 0, .int .i64 0, .slice none 0 0] ∧ Below w.heap.size w wr) (fun i _ => m - (intOf i).toNat)
        case atStart => exact ⟨0, Nat.zero_le _, rfl, fun j hj => by omega, RG, XG, Y0, Y1, hb6⟩
        case round =>
          clear RG XG Y0 Y1 hb6
          obtain ⟨k, hk, rfl, hok, RG, XG, Y0, Y1, hB⟩ := hrel
          have HOK := hid hok; clear hok
          by_cases hlt : k < m
          · obtain ⟨bs2, os2, e2, hbs, d0, d1, d2, d3, hI, hC, hcc⟩ := HS k hlt
            injection e2 with e2; injection e2 with e2 e3 _; subst e2 e3
            have hli := (HS k hlt).choose_spec.choose_spec.2.2.2.2.2.2
            have hfk := HF.out k hlt
            have hnk := HN.out k hlt
            have hrd := HRD.out k hlt
            have hno2 : readyB Wd Hd o no q p (f k).nd (f k).st = false → readyA Wd Hd o no q p f m = false := fun h => by
              rw [← Bool.not_eq_true, HRA.out]
              intro h2
              rw [h2 k hlt] at h; cases h
            have hyes : readyB Wd Hd o no q p (f k).nd (f k).st = true → ∀ j, j < k + 1 → readyB Wd Hd o no q p (f j).nd (f j).st = true := fun h j hj => by
              rcases Nat.lt_succ_iff_lt_or_eq.1 hj with h' | rfl
              · exact HOK.out j h'
              · exact h
            have HYES := hid hyes; have HNO2 := hid hno2
            clear hyes hno2
            generalize readyB Wd Hd o no q p (f k).nd (f k).st = R at *
            obtain ⟨L, hL0, hLs, hLn⟩ : ∃ L : Nat → Nat → C4, L 0 = layS f k ∧ (∀ j, L (j + 1) = updC (L j) ((f k).I j).toNat ((f k).C j)) ∧ layS f (k + 1) = L (f k).ni := ⟨layTo (layS f k) (f k), rfl, fun _ => rfl, rfl⟩
            rw [← hL0] at RG
            clear hL0
            have HLS := hid hLs; have HLN := hid hLn
            obtain ⟨hnc, hix, hva⟩ := hfk
            rw [hnc] at d3 hC hrd
            have HIX := hid hix
            clear hix hva hnc hLs hLn
            generalize f k = s at *
            obtain ⟨nd, st, ix, ni, ci, cl', nc, cc, I, C⟩ := s
            dsimp only at *
            clear hcc hli
            go_wp2_with fail
            have lbg := RG.lt; have lbx := XG.lt; have ly1 := Y1.lt; have ly0 := Y0.lt
            obtain ⟨wo, rfl⟩ : ∃ wo : World, wo = wr := ⟨_, rfl⟩
            go_loopw [14] (fun i2 wr2 => ∃ j : Nat, j ≤ ni ∧ i2 = .int .i64 j ∧ Ro wr2 bg (no * 4) (flatC (L j)) ∧ Bx wr2 bx #[.int .i64 (Wd : Int), .int .i64 (Hd : Int), .slice (some ⟨bg, 0, none⟩) no no] ∧ Bx wr2 w.heap.size #[.int .i64 (Wd : Int), .int .i64 (Hd : Int), .slice a n c] ∧ Bx wr2 (w.heap.size + 1) #[.int .i64 0, .int .i64 0, .slice none 0 0] ∧ Below w.heap.size w wr2) (fun i2 _ => ni - (intOf i2).toNat)
            case atStart => exact ⟨0, Nat.zero_le _, rfl, RG, XG, Y0, Y1, hB⟩
            case round =>
              clear RG XG Y0 Y1 hB
              obtain ⟨j, hj, rfl, RG, XG, Y0, Y1, hB⟩ := hrel
              have c0 := (bcell hB _ _ hbs).trans d0; have c1 := (bcell hB _ _ hbs).trans d1; have c2 := (bcell hB _ _ hbs).trans d2; have c3 := (bcell hB _ _ hbs).trans d3
              have hbs2 := Nat.lt_of_lt_of_le hbs hB.size
              by_cases hlj : j < ni
              · obtain ⟨bi, oi, rfl, hbi, ei⟩ := hI j hlj
                obtain ⟨bc, oc, rfl, hbc, e0, e1, e2, e3⟩ := hC j hlj
                obtain ⟨u1, u2⟩ := HIX.out j hlj
                have hls := HLS.out j
                obtain ⟨i, hi⟩ : ∃ i : Nat, I j = i := ⟨(I j).toNat, by omega⟩
                rw [hi] at ei u2 hls
                rw [Int.toNat_natCast] at hls
                have hin : i < no := by omega
                generalize C j = cj at *
                have HLJ := hid hls
                clear hls u1 u2 hi
                have lg := RG.lt; have lx := XG.lt; have ly := Y1.lt; have ly0 := Y0.lt
                have gi := (bcell hB _ _ hbi).trans ei
                have g0 := (bcell hB _ _ hbc).trans e0; have g1 := (bcell hB _ _ hbc).trans e1; have g2 := (bcell hB _ _ hbc).trans e2; have g3 := (bcell hB _ _ hbc).trans e3
                have hbi2 := Nat.lt_of_lt_of_le hbi hB.size; have hbc2 := Nat.lt_of_lt_of_le hbc hB.size
                clear ei e0 e1 e2 e3
                go_upto_region 14 with (fail)
                have r0 : ∀ Y, Below wr.heap.size wr Y → Y.cell? ⟨bx, 2, none⟩ = some (.slice (some ⟨bg, 0, none⟩) no no) := fun Y h => (XG.below h).at_ 2 rfl
                have r1 : ∀ Y, Below wr.heap.size wr Y → Y.cell? ⟨bs, os + k * 4 + 2, none⟩ = some (.slice (some ⟨bi, oi, none⟩) ni ci) := fun Y h => (bcell h _ _ hbs2).trans c2
                have r2 : ∀ Y, Below wr.heap.size wr Y → Y.cell? ⟨bs, os + k * 4 + 3, none⟩ = some (.slice (some ⟨bc, oc, none⟩) ni cc) := fun Y h => (bcell h _ _ hbs2).trans c3
                have r3 : ∀ Y, Below wr.heap.size wr Y → Y.cell? ⟨bi, oi + j, none⟩ = some (.int .i64 (i : Int)) := fun Y h => (bcell h _ _ hbi2).trans gi
                have r4 : ∀ Y, Below wr.heap.size wr Y → Y.cell? ⟨bc, oc + j * 4, none⟩ = some (.int .i64 cj.e) := fun Y h => (bcell h _ _ hbc2).trans g0
                have r5 : ∀ Y, Below wr.heap.size wr Y → Y.cell? ⟨bc, oc + j * 4 + 1, none⟩ = some (.int .i64 cj.n) := fun Y h => (bcell h _ _ hbc2).trans g1
                have r6 : ∀ Y, Below wr.heap.size wr Y → Y.cell? ⟨bc, oc + j * 4 + 2, none⟩ = some (.int .i64 cj.w) := fun Y h => (bcell h _ _ hbc2).trans g2
                have r7 : ∀ Y, Below wr.heap.size wr Y → Y.cell? ⟨bc, oc + j * 4 + 3, none⟩ = some (.int .i64 cj.s) := fun Y h => (bcell h _ _ hbc2).trans g3
                obtain ⟨y0, y1, y2, y3⟩ := RG.scell hin
                have yf := RG.free
                clear gi g0 g1 g2 g3 c0 c1 c2 c3
                refine wp_region_S (fun Y => Below wr.heap.size wr Y) 19 (by kernel_rfl) ?_
                refine anyS_take (i := 0) rfl (by kernel_rfl) (fun _ _ _ h => h) (Or.inl ⟨by rfl, fun Y hYb => (by (try dsimp only at hYb); go_simp; rfl)⟩) (by repeat' (first | with_reducible assumption | with_reducible exact Below.refl _ _ | with_reducible refine Below.drew ?_ | with_reducible refine below_drewN ?_ _)) ?_
                simp only [List.getElem_toArray, List.getElem_cons_succ, List.getElem_cons_zero, Act.put, List.setIfInBounds_toArray, List.set_cons_zero, List.set_cons_succ]
                refine anyS_take (i := 1) rfl (by kernel_rfl) (fun _ _ _ h => h) (Or.inl ⟨by rfl, fun Y hYb => (by (try dsimp only at hYb); go_simp; rfl)⟩) (by repeat' (first | with_reducible assumption | with_reducible exact Below.refl _ _ | with_reducible refine Below.drew ?_ | with_reducible refine below_drewN ?_ _)) ?_
                simp only [List.getElem_toArray, List.getElem_cons_succ, List.getElem_cons_zero, Act.put, List.setIfInBounds_toArray, List.set_cons_zero, List.set_cons_succ]
                refine anyS_take (i := 2) rfl (by kernel_rfl) (fun _ _ _ h => h) (Or.inl ⟨by rfl, fun Y hYb => (by (try dsimp only at hYb); go_simp; rfl)⟩) (by repeat' (first | with_reducible assumption | with_reducible exact Below.refl _ _ | with_reducible refine Below.drew ?_ | with_reducible refine below_drewN ?_ _)) ?_
                simp only [List.getElem_toArray, List.getElem_cons_succ, List.getElem_cons_zero, Act.put, List.setIfInBounds_toArray, List.set_cons_zero, List.set_cons_succ]
                refine anyS_take (i := 3) rfl (by kernel_rfl) (fun _ _ _ h => h) (Or.inl ⟨by rfl, fun Y hYb => (by (try dsimp only at hYb); go_simp; rfl)⟩) (by repeat' (first | with_reducible assumption | with_reducible exact Below.refl _ _ | with_reducible refine Below.drew ?_ | with_reducible refine below_drewN ?_ _)) ?_
                simp only [List.getElem_toArray, List.getElem_cons_succ, List.getElem_cons_zero, Act.put, List.setIfInBounds_toArray, List.set_cons_zero, List.set_cons_succ]
                refine anyS_take (i := 4) rfl (by kernel_rfl) (fun _ _ _ h => h) (Or.inl ⟨by rfl, fun Y hYb => (by (try dsimp only at hYb); go_simp; rfl)⟩) (by repeat' (first | with_reducible assumption | with_reducible exact Below.refl _ _ | with_reducible refine Below.drew ?_ | with_reducible refine below_drewN ?_ _)) ?_
                simp only [List.getElem_toArray, List.getElem_cons_succ, List.getElem_cons_zero, Act.put, List.setIfInBounds_toArray, List.set_cons_zero, List.set_cons_succ]
                refine anyS_take (i := 5) rfl (by kernel_rfl) (fun _ _ _ h => h) (Or.inl ⟨by rfl, fun Y hYb => (by (try dsimp only at hYb); go_simp; rfl)⟩) (by repeat' (first | with_reducible assumption | with_reducible exact Below.refl _ _ | with_reducible refine Below.drew ?_ | with_reducible refine below_drewN ?_ _)) ?_
                simp only [List.getElem_toArray, List.getElem_cons_succ, List.getElem_cons_zero, Act.put, List.setIfInBounds_toArray, List.set_cons_zero, List.set_cons_succ]
                refine anyS_take (i := 6) rfl (by kernel_rfl) (fun _ _ _ h => h) (Or.inl ⟨by rfl, fun Y hYb => (by (try dsimp only at hYb); go_simp; rfl)⟩) (by repeat' (first | with_reducible assumption | with_reducible exact Below.refl _ _ | with_reducible refine Below.drew ?_ | with_reducible refine below_drewN ?_ _)) ?_
                simp only [List.getElem_toArray, List.getElem_cons_succ, List.getElem_cons_zero, Act.put, List.setIfInBounds_toArray, List.set_cons_zero, List.set_cons_succ]
                refine anyS_take (i := 7) rfl (by kernel_rfl) (fun _ _ _ h => h) (Or.inl ⟨by rfl, fun Y hYb => (by (try dsimp only at hYb); go_simp; rfl)⟩) (by repeat' (first | with_reducible assumption | with_reducible exact Below.refl _ _ | with_reducible refine Below.drew ?_ | with_reducible refine below_drewN ?_ _)) ?_
                simp only [List.getElem_toArray, List.getElem_cons_succ, List.getElem_cons_zero, Act.put, List.setIfInBounds_toArray, List.set_cons_zero, List.set_cons_succ]
                refine anyS_take (i := 8) rfl (by kernel_rfl) (fun _ _ _ h => h) (Or.inl ⟨by rfl, fun Y hYb => (by (try dsimp only at hYb); go_simp; rfl)⟩) (by repeat' (first | with_reducible assumption | with_reducible exact Below.refl _ _ | with_reducible refine Below.drew ?_ | with_reducible refine below_drewN ?_ _)) ?_
                simp only [List.getElem_toArray, List.getElem_cons_succ, List.getElem_cons_zero, Act.put, List.setIfInBounds_toArray, List.set_cons_zero, List.set_cons_succ]
                refine anyS_take (i := 9) rfl (by kernel_rfl) (fun _ _ _ h => h) (Or.inl ⟨by rfl, fun Y hYb => (by (try dsimp only at hYb); go_simp; rfl)⟩) (by repeat' (first | with_reducible assumption | with_reducible exact Below.refl _ _ | with_reducible refine Below.drew ?_ | with_reducible refine below_drewN ?_ _)) ?_
                simp only [List.getElem_toArray, List.getElem_cons_succ, List.getElem_cons_zero, Act.put, List.setIfInBounds_toArray, List.set_cons_zero, List.set_cons_succ]
                refine anyS_take (i := 10) rfl (by kernel_rfl) (fun _ _ _ h => h) (Or.inl ⟨by rfl, fun Y hYb => (by (try dsimp only at hYb); go_simp; rfl)⟩) (by repeat' (first | with_reducible assumption | with_reducible exact Below.refl _ _ | with_reducible refine Below.drew ?_ | with_reducible refine below_drewN ?_ _)) ?_
                simp only [List.getElem_toArray, List.getElem_cons_succ, List.getElem_cons_zero, Act.put, List.setIfInBounds_toArray, List.set_cons_zero, List.set_cons_succ]
                refine anyS_take (i := 11) rfl (by kernel_rfl) (fun _ _ _ h => h) (Or.inl ⟨by rfl, fun Y hYb => (by (try dsimp only at hYb); go_simp; rfl)⟩) (by repeat' (first | with_reducible assumption | with_reducible exact Below.refl _ _ | with_reducible refine Below.drew ?_ | with_reducible refine below_drewN ?_ _)) ?_
                simp only [List.getElem_toArray, List.getElem_cons_succ, List.getElem_cons_zero, Act.put, List.setIfInBounds_toArray, List.set_cons_zero, List.set_cons_succ]
                refine anyS_take (i := 12) rfl (by kernel_rfl) (fun _ _ _ h => h) (Or.inl ⟨by rfl, fun Y hYb => (by (try dsimp only at hYb); go_simp; rfl)⟩) (by repeat' (first | with_reducible assumption | with_reducible exact Below.refl _ _ | with_reducible refine Below.drew ?_ | with_reducible refine below_drewN ?_ _)) ?_
                simp only [List.getElem_toArray, List.getElem_cons_succ, List.getElem_cons_zero, Act.put, List.setIfInBounds_toArray, List.set_cons_zero, List.set_cons_succ]
                refine anyS_take (i := 13) rfl (by kernel_rfl) (fun _ _ _ h => h) (Or.inl ⟨by rfl, fun Y hYb => (by (try dsimp only at hYb); go_simp; rfl)⟩) (by repeat' (first | with_reducible assumption | with_reducible exact Below.refl _ _ | with_reducible refine Below.drew ?_ | with_reducible refine below_drewN ?_ _)) ?_
                simp only [List.getElem_toArray, List.getElem_cons_succ, List.getElem_cons_zero, Act.put, List.setIfInBounds_toArray, List.set_cons_zero, List.set_cons_succ]
                refine anyS_take (i := 14) rfl (by kernel_rfl) (fun _ _ _ h => h) (Or.inl ⟨by rfl, fun Y hYb => (by (try dsimp only at hYb); go_simp; rfl)⟩) (by repeat' (first | with_reducible assumption | with_reducible exact Below.refl _ _ | with_reducible refine Below.drew ?_ | with_reducible refine below_drewN ?_ _)) ?_
                simp only [List.getElem_toArray, List.getElem_cons_succ, List.getElem_cons_zero, Act.put, List.setIfInBounds_toArray, List.set_cons_zero, List.set_cons_succ]
                refine anyS_take (i := 15) rfl (by kernel_rfl) (fun _ _ _ h => h) (Or.inl ⟨by rfl, fun Y hYb => (by (try dsimp only at hYb); go_simp; rfl)⟩) (by repeat' (first | with_reducible assumption | with_reducible exact Below.refl _ _ | with_reducible refine Below.drew ?_ | with_reducible refine below_drewN ?_ _)) ?_
                simp only [List.getElem_toArray, List.getElem_cons_succ, List.getElem_cons_zero, Act.put, List.setIfInBounds_toArray, List.set_cons_zero, List.set_cons_succ]
                refine anyS_take (i := 16) rfl (by kernel_rfl) (fun _ _ _ h => h) (Or.inl ⟨by rfl, fun Y hYb => (by (try dsimp only at hYb); go_simp; rfl)⟩) (by repeat' (first | with_reducible assumption | with_reducible exact Below.refl _ _ | with_reducible refine Below.drew ?_ | with_reducible refine below_drewN ?_ _)) ?_
                simp only [List.getElem_toArray, List.getElem_cons_succ, List.getElem_cons_zero, Act.put, List.setIfInBounds_toArray, List.set_cons_zero, List.set_cons_succ]
                refine anyS_take (i := 17) rfl (by kernel_rfl) (fun _ _ _ h => h) (Or.inl ⟨by rfl, fun Y hYb => (by (try dsimp only at hYb); go_simp; rfl)⟩) (by repeat' (first | with_reducible assumption | with_reducible exact Below.refl _ _ | with_reducible refine Below.drew ?_ | with_reducible refine below_drewN ?_ _)) ?_
                simp only [List.getElem_toArray, List.getElem_cons_succ, List.getElem_cons_zero, Act.put, List.setIfInBounds_toArray, List.set_cons_zero, List.set_cons_succ]
                refine anyS_take (i := 18) rfl (by kernel_rfl) (fun _ _ _ h => h) (Or.inl ⟨by rfl, fun Y hYb => (by (try dsimp only at hYb); go_simp; rfl)⟩) (by repeat' (first | with_reducible assumption | with_reducible exact Below.refl _ _ | with_reducible refine Below.drew ?_ | with_reducible refine below_drewN ?_ _)) ?_
                simp only [List.getElem_toArray, List.getElem_cons_succ, List.getElem_cons_zero, Act.put, List.setIfInBounds_toArray, List.set_cons_zero, List.set_cons_succ]
                refine anyS_one (i := 19) (by kernel_rfl) rfl (by rfl) (fun K hK => ?_)
                go_simp
                refine hK _ _ (fun h _ => absurd h (by decide)) ?_
                clear hK K
                refine anyS_done (by kernel_rfl) ?_ _
                clear r0 r1 r2 r3 r4 r5 r6 r7 y0 y1 y2 y3 yf
                have n0 : bg ≠ bx := hne
                have n1 : bg ≠ w.heap.size + 1 := by omega
                have n2 : bg ≠ w.heap.size := by omega
                go_wp2_with fail
                go_roundw
                case rel => exact ⟨j + 1, by omega, by go_num, by rw [HLJ.out]; exact RG.drew.setC i cj, (((XG.drew.far (p := ⟨bg, i * 4, none⟩) n0 _).far (p := ⟨bg, i * 4 + 1, none⟩) n0 _).far (p := ⟨bg, i * 4 + 2, none⟩) n0 _).far (p := ⟨bg, i * 4 + 3, none⟩) n0 _, (((Y0.drew.far (p := ⟨bg, i * 4, none⟩) n2 _).far (p := ⟨bg, i * 4 + 1, none⟩) n2 _).far (p := ⟨bg, i * 4 + 2, none⟩) n2 _).far (p := ⟨bg, i * 4 + 3, none⟩) n2 _, (((Y1.drew.far (p := ⟨bg, i * 4, none⟩) n1 _).far (p := ⟨bg, i * 4 + 1, none⟩) n1 _).far (p := ⟨bg, i * 4 + 2, none⟩) n1 _).far (p := ⟨bg, i * 4 + 3, none⟩) n1 _, by (repeat' (first | with_reducible assumption | with_reducible exact Below.refl _ _ | with_reducible refine Below.drew ?_ | with_reducible refine below_drewN ?_ _ | with_reducible refine balloc ?_ _ | with_reducible refine bset ?_ ?_ _ | with_reducible refine Below.setCell ?_ ?_ _ | with_reducible refine Below.alloc ?_ ?_ _ | omega | (simp; done) | (simp; omega)))⟩
                case measure => simp [intOf]; omega
              · obtain rfl : ni = j := (by omega)
                rw [← HLN.out] at RG
                have lg := RG.lt; have lx := XG.lt; have ly := Y1.lt; have ly0 := Y0.lt
                go_upto_region 15 with (fail)
                have r0 : ∀ Y, Below wr.heap.size wr Y → Y.cell? ⟨w.heap.size, 0, none⟩ = some (.int .i64 (Wd : Int)) := fun Y h => (Y0.below h).at_ 0 rfl
                have r1 : ∀ Y, Below wr.heap.size wr Y → Y.cell? ⟨w.heap.size, 1, none⟩ = some (.int .i64 (Hd : Int)) := fun Y h => (Y0.below h).at_ 1 rfl
                have r2 : ∀ Y, Below wr.heap.size wr Y → Y.cell? ⟨w.heap.size, 2, none⟩ = some (.slice a n c) := fun Y h => (Y0.below h).at_ 2 rfl
                have s0 : ∀ Y, Below wr.heap.size wr Y → Y.cell? ⟨bs, os + k * 4, none⟩ = some (.int .i64 nd) := fun Y h => (bcell h _ _ hbs2).trans c0
                have s1 : ∀ Y, Below wr.heap.size wr Y → Y.cell? ⟨bs, os + k * 4 + 1, none⟩ = some (.int .i64 st) := fun Y h => (bcell h _ _ hbs2).trans c1
                have s2 : ∀ Y, Below wr.heap.size wr Y → Y.cell? ⟨bs, os + k * 4 + 2, none⟩ = some (.slice ix ni ci) := fun Y h => (bcell h _ _ hbs2).trans c2
                have s3 : ∀ Y, Below wr.heap.size wr Y → Y.cell? ⟨bs, os + k * 4 + 3, none⟩ = some (.slice cl' ni cc) := fun Y h => (bcell h _ _ hbs2).trans c3
                clear c0 c1 c2 c3
                refine wp_region_S (fun Y => Below wr.heap.size wr Y) 9 (by kernel_rfl) ?_
                refine anyS_take (i := 0) rfl (by kernel_rfl) (fun _ _ _ h => h) (Or.inl ⟨by rfl, fun Y hYb => (by (try dsimp only at hYb); go_simp; rfl)⟩) (by repeat' (first | with_reducible assumption | with_reducible exact Below.refl _ _ | with_reducible refine Below.drew ?_ | with_reducible refine below_drewN ?_ _)) ?_
                simp only [List.getElem_toArray, List.getElem_cons_succ, List.getElem_cons_zero, Act.put, List.setIfInBounds_toArray, List.set_cons_zero, List.set_cons_succ]
                refine anyS_take (i := 1) rfl (by kernel_rfl) (fun _ _ _ h => h) (Or.inl ⟨by rfl, fun Y hYb => (by (try dsimp only at hYb); go_simp; rfl)⟩) (by repeat' (first | with_reducible assumption | with_reducible exact Below.refl _ _ | with_reducible refine Below.drew ?_ | with_reducible refine below_drewN ?_ _)) ?_
                simp only [List.getElem_toArray, List.getElem_cons_succ, List.getElem_cons_zero, Act.put, List.setIfInBounds_toArray, List.set_cons_zero, List.set_cons_succ]
                refine anyS_take (i := 2) rfl (by kernel_rfl) (fun _ _ _ h => h) (Or.inl ⟨by rfl, fun Y hYb => (by (try dsimp only at hYb); go_simp; rfl)⟩) (by repeat' (first | with_reducible assumption | with_reducible exact Below.refl _ _ | with_reducible refine Below.drew ?_ | with_reducible refine below_drewN ?_ _)) ?_
                simp only [List.getElem_toArray, List.getElem_cons_succ, List.getElem_cons_zero, Act.put, List.setIfInBounds_toArray, List.set_cons_zero, List.set_cons_succ]
                refine anyS_take (i := 3) rfl (by kernel_rfl) (fun _ _ _ h => h) (Or.inl ⟨by rfl, fun Y hYb => (by (try dsimp only at hYb); go_simp; rfl)⟩) (by repeat' (first | with_reducible assumption | with_reducible exact Below.refl _ _ | with_reducible refine Below.drew ?_ | with_reducible refine below_drewN ?_ _)) ?_
                simp only [List.getElem_toArray, List.getElem_cons_succ, List.getElem_cons_zero, Act.put, List.setIfInBounds_toArray, List.set_cons_zero, List.set_cons_succ]
                refine anyS_take (i := 4) rfl (by kernel_rfl) (fun _ _ _ h => h) (Or.inl ⟨by rfl, fun Y hYb => (by (try dsimp only at hYb); go_simp; rfl)⟩) (by repeat' (first | with_reducible assumption | with_reducible exact Below.refl _ _ | with_reducible refine Below.drew ?_ | with_reducible refine below_drewN ?_ _)) ?_
                simp only [List.getElem_toArray, List.getElem_cons_succ, List.getElem_cons_zero, Act.put, List.setIfInBounds_toArray, List.set_cons_zero, List.set_cons_succ]
                refine anyS_take (i := 5) rfl (by kernel_rfl) (fun _ _ _ h => h) (Or.inl ⟨by rfl, fun Y hYb => (by (try dsimp only at hYb); go_simp; rfl)⟩) (by repeat' (first | with_reducible assumption | with_reducible exact Below.refl _ _ | with_reducible refine Below.drew ?_ | with_reducible refine below_drewN ?_ _)) ?_
                simp only [List.getElem_toArray, List.getElem_cons_succ, List.getElem_cons_zero, Act.put, List.setIfInBounds_toArray, List.set_cons_zero, List.set_cons_succ]
                refine anyS_take (i := 6) rfl (by kernel_rfl) (fun _ _ _ h => h) (Or.inl ⟨by rfl, fun Y hYb => (by (try dsimp only at hYb); go_simp; rfl)⟩) (by repeat' (first | with_reducible assumption | with_reducible exact Below.refl _ _ | with_reducible refine Below.drew ?_ | with_reducible refine below_drewN ?_ _)) ?_
                simp only [List.getElem_toArray, List.getElem_cons_succ, List.getElem_cons_zero, Act.put, List.setIfInBounds_toArray, List.set_cons_zero, List.set_cons_succ]
                refine anyS_one (i := 7) (by kernel_rfl) rfl (by rfl) (fun K hK => ?_)
                go_simp
                refine (hrd _ (HO.below (bvia hB (by (repeat' (first | with_reducible assumption | with_reducible exact Below.refl _ _ | with_reducible refine Below.drew ?_ | with_reducible refine below_drewN ?_ _ | with_reducible refine balloc ?_ _ | with_reducible refine bset ?_ ?_ _ | with_reducible refine Below.setCell ?_ ?_ _ | with_reducible refine Below.alloc ?_ ?_ _ | omega | (simp; done) | (simp; omega)))))) (HP.below (bvia hB (by (repeat' (first | with_reducible assumption | with_reducible exact Below.refl _ _ | with_reducible refine Below.drew ?_ | with_reducible refine below_drewN ?_ _ | with_reducible refine balloc ?_ _ | with_reducible refine bset ?_ ?_ _ | with_reducible refine Below.setCell ?_ ?_ _ | with_reducible refine Below.alloc ?_ ?_ _ | omega | (simp; done) | (simp; omega))))))).mono ?_
                rintro e w7 ⟨rfl, hb7⟩
                dsimp only
                have hS7 : Below wr.heap.size wr w7 := bvia (by (repeat' (first | with_reducible assumption | with_reducible exact Below.refl _ _ | with_reducible refine Below.drew ?_ | with_reducible refine below_drewN ?_ _ | with_reducible refine balloc ?_ _ | with_reducible refine bset ?_ ?_ _ | with_reducible refine Below.setCell ?_ ?_ _ | with_reducible refine Below.alloc ?_ ?_ _ | omega | (simp; done) | (simp; omega)))) hb7
                refine hK _ _ (fun _ _ => hS7) ?_
                clear hK K hb7
                refine anyS_take (i := 8) rfl (by kernel_rfl) (fun _ _ _ h => h) (Or.inl ⟨by rfl, fun Y hYb => (by (try dsimp only at hYb); go_simp; rfl)⟩) (by repeat' (first | with_reducible assumption | with_reducible exact Below.refl _ _ | with_reducible refine Below.drew ?_ | with_reducible refine below_drewN ?_ _)) ?_
                simp only [List.getElem_toArray, List.getElem_cons_succ, List.getElem_cons_zero, Act.put, List.setIfInBounds_toArray, List.set_cons_zero, List.set_cons_succ]
                refine anyS_done (by kernel_rfl) ?_ _
                clear r0 r1 r2 s0 s1 s2 s3
                replace RG := RG.below hS7; replace XG := XG.below hS7; replace Y0 := Y0.below hS7; replace Y1 := Y1.below hS7
                replace hB := bvia hB hS7
                cases R
                · obtain rfl : E = 12 := by rw [← HE.out, HNO2.out (by first | trivial | rfl)]; rfl
                  have y0 := Y1.at_ 0 rfl; have y1 := Y1.at_ 1 rfl; have y2 := Y1.at_ 2 rfl; have yf := Y1.free; have yl := Y1.lt
                  go_wp2_with fail
                  refine bodyPost_ret (v := .tuple #[.agg #[.int .i64 0, .int .i64 0, .slice none 0 0], .int .i64 12]) (by simp [results, Try.results76, go_sem, y0, y1, y2]) rfl (gridPost_none (by decide) (by (repeat' (first | with_reducible assumption | with_reducible exact Below.refl _ _ | with_reducible refine Below.drew ?_ | with_reducible refine below_drewN ?_ _ | with_reducible refine balloc ?_ _ | with_reducible refine bset ?_ ?_ _ | with_reducible refine Below.setCell ?_ ?_ _ | with_reducible refine Below.alloc ?_ ?_ _ | omega | (simp; done) | (simp; omega)))))
                · go_wp2
                  go_roundw
                  case rel => exact ⟨k + 1, by omega, by go_num, HYES.out (by first | trivial | rfl), RG, XG, Y0, Y1, hB⟩
                  case measure => simp [intOf]; omega
          · obtain rfl : m = k := (by omega)
            have hra := HRA.out.2 HOK.out
            rw [hra] at HE
            clear hra HOK HRA HRD HF HN
            have lbg := RG.lt; have lbx := XG.lt; have ly1 := Y1.lt
            go_wp2_with fail
            go_loop [15] (fun i => ∃ k : Nat, k ≤ q ∧ i = .int .i64 k ∧ ∀ j, j < k → (p j).st = st0) (fun i => q - (intOf i).toNat)
            case atStart => exact ⟨0, Nat.zero_le _, rfl, fun j hj => by omega⟩
            case round =>
              obtain ⟨k, hk, rfl, hok⟩ := hrel
              have HOK := hid hok; clear hok
              by_cases hlt : k < q
              · obtain ⟨b1, o1, rfl, hb1, d0, d1, d2, d3, d4, d5⟩ := (HP.below hB).six hlt
                have hyes : (p k).st = st0 → ∀ j, j < k + 1 → (p j).st = st0 := fun h j hj => by
                  rcases Nat.lt_succ_iff_lt_or_eq.1 hj with h' | rfl
                  · exact HOK.out j h'
                  · exact h
                have hbad : ¬ (p k).st = st0 → postS p q st0 = false := fun h => by
                  rw [← Bool.not_eq_true, postS_iff]
                  intro h2
                  exact h (h2 k hlt)
                have HYES := hid hyes; have HBAD := hid hbad
                clear hyes hbad d1 d2 d3 d4 d5
                generalize (p k).st = sk at *
                by_cases hs : sk = st0
                · subst hs
                  go_wp2_with fail
                  go_round
                  case rel => exact ⟨k + 1, by omega, by go_num, HYES.out (by first | trivial | rfl)⟩
                  case measure => simp [intOf]; omega
                · have hs2 : (sk != st0) = true := by simpa using hs
                  have h3 := HBAD.out hs
                  obtain rfl : E = 10 := by rw [← HE.out, h3]; rfl
                  clear h3 hs
                  have y0 := Y1.at_ 0 rfl; have y1 := Y1.at_ 1 rfl; have y2 := Y1.at_ 2 rfl; have yf := Y1.free; have yl := Y1.lt
                  go_wp2_with fail
                  refine bodyPost_ret (v := .tuple #[.agg #[.int .i64 0, .int .i64 0, .slice none 0 0], .int .i64 10]) (by simp [results, Try.results76, go_sem, y0, y1, y2]) rfl (gridPost_none (by decide) (by (repeat' (first | with_reducible assumption | with_reducible exact Below.refl _ _ | with_reducible refine Below.drew ?_ | with_reducible refine below_drewN ?_ _ | with_reducible refine balloc ?_ _ | with_reducible refine bset ?_ ?_ _ | with_reducible refine Below.setCell ?_ ?_ _ | with_reducible refine Below.alloc ?_ ?_ _ | omega | (simp; done) | (simp; omega)))))
              · obtain rfl : q = k := (by omega)
                have hps : postS p q st0 = true := postS_iff.2 HOK.out
                rw [hps] at HE
                clear hps HOK
                have xg2 := XG.at_ 2 rfl
                have hw2 := hwt _ no _ RG.sc
                clear hwt
                have hL0 : addTo (layS f m) p 0 = layS f m := rfl
                have hLs : ∀ j, addTo (layS f m) p (j + 1) = addC (addTo (layS f m) p j) (p j) := fun _ => rfl
                rw [← hL0] at RG
                generalize hAA : addTo (layS f m) p = AA at *
                clear hAA hL0
                generalize massTo (layS f m) no = M0 at *
                have HLS := hid hLs
                clear hLs HS
                go_wp2_with fail
                refine hw2.mono ?_
                rintro e w8 ⟨rfl, hb8⟩
                replace RG := RG.below hb8; replace XG := XG.below hb8; replace Y0 := Y0.below hb8; replace Y1 := Y1.below hb8; replace hB := bvia hB hb8
                clear hw2 hb8 xg2 lbg lbx ly1
                have e0 : coS p 0 = 0 := rfl
                go_wp2_with fail
                go_loopw [16, 17] (fun al i wr => ∃ k : Nat, k ≤ q ∧ i = .int .i64 k ∧ al = .int .i64 (M0 + coS p k) ∧ M0 + coS p k ≤ 1000000000 ∧ Ro wr bg (no * 4) (flatC (AA k)) ∧ Bx wr bx #[.int .i64 (Wd : Int), .int .i64 (Hd : Int), .slice (some ⟨bg, 0, none⟩) no no] ∧ Bx wr (w.heap.size + 1) #[.int .i64 0, .int .i64 0, .slice none 0 0] ∧ Below w.heap.size w wr) (fun _ i _ => q - (intOf i).toNat)
                case atStart => exact ⟨0, Nat.zero_le _, rfl, by rw [e0, Int.add_zero], by rw [e0]; omega, RG, XG, Y1, hB⟩
                case round =>
                  clear RG XG Y0 Y1 hB e0
                  obtain ⟨j, hj, rfl, rfl, hle, RG, XG, Y1, hB⟩ := hrel
                  by_cases hlj : j < q
                  · obtain ⟨b1, o1, rfl, hb1, d0, d1, d2, d3, d4, d5⟩ := HP.six hlj
                    obtain ⟨n1, n2, n3, n4, n5, n6⟩ := HPF.out j hlj
                    have hls := HLS.out j
                    have hbd := HBD.out j hj
                    have hcm := HCM.out (j + 1) hlj
                    have hc0 := HC0.out j hj
                    have hcs : coS p (j + 1) = coS p j + (p j).co := rfl
                    have c0 := (bcell hB _ _ hb1).trans d0; have c1 := (bcell hB _ _ hb1).trans d1; have c2 := (bcell hB _ _ hb1).trans d2; have c3 := (bcell hB _ _ hb1).trans d3; have c4 := (bcell hB _ _ hb1).trans d4; have c5 := (bcell hB _ _ hb1).trans d5
                    have hb2 := Nat.lt_of_lt_of_le hb1 hB.size
                    clear d0 d1 d2 d3 d4 d5
                    generalize p j = x at *
                    obtain ⟨st, fr, to, ce, di, co⟩ := x
                    dsimp only at *
                    obtain ⟨i, rfl⟩ : ∃ i : Nat, ce = i := ⟨ce.toNat, by omega⟩
                    obtain ⟨d, rfl⟩ : ∃ d : Nat, di = d := ⟨di.toNat, by omega⟩
                    have hd4 : d < 4 := by omega
                    have hin : i < no := by omega
                    obtain ⟨v1, v2⟩ := hbd i d hd4
                    unfold addC at hls
                    dsimp only [Int.toNat_natCast] at hls
                    have y0 := RG.2 (i * 4 + d) (by omega)
                    rw [flatC_at _ _ _ hd4] at y0
                    have hfl : flatC (AA (j + 1)) = upd (flatC (AA j)) (i * 4 + d) ((AA j i).get d + co) := by rw [hls, flatC_with _ _ _ hd4]
                    generalize (AA j i).get d = u at *
                    have HFL := hid hfl
                    clear hfl hls hbd
                    have u3 : u + co ≤ 1000000000000000 := by omega
                    have u4 : 0 ≤ u + co := by omega
                    have HCS := hid hcs
                    clear hcs
                    generalize coS p j = cs at *
                    have lg := RG.lt; have lx := XG.lt; have ly := Y1.lt
                    by_cases hbig : 1000000000 < M0 + cs + co
                    · have hbg0 : M0 + coS p (j + 1) ≤ M0 + coS p q := by omega
                      have hD : decide (M0 + coS p q ≤ 1000000000) = false := by
                        rw [decide_eq_false_iff_not]
                        have := HCS.out
                        omega
                      obtain rfl : E = 4 := by rw [← HE.out, hD]; rfl
                      clear hD hbg0 hcm
                      have y0 := Y1.at_ 0 rfl; have y1 := Y1.at_ 1 rfl; have y2 := Y1.at_ 2 rfl; have yf := Y1.free; have yl := Y1.lt
                      go_wp2_with fail
                      refine bodyPost_ret (v := .tuple #[.agg #[.int .i64 0, .int .i64 0, .slice none 0 0], .int .i64 4]) (by simp [results, Try.results76, go_sem, y0, y1, y2]) rfl (gridPost_none (by decide) (by (repeat' (first | with_reducible assumption | with_reducible exact Below.refl _ _ | with_reducible refine Below.drew ?_ | with_reducible refine below_drewN ?_ _ | with_reducible refine balloc ?_ _ | with_reducible refine bset ?_ ?_ _ | with_reducible refine Below.setCell ?_ ?_ _ | with_reducible refine Below.alloc ?_ ?_ _ | omega | (simp; done) | (simp; omega)))))
                    · go_upto_region 29 with (fail)
                      have r0 : ∀ Y, Below wr.heap.size wr Y → Y.cell? ⟨bx, 2, none⟩ = some (.slice (some ⟨bg, 0, none⟩) no no) := fun Y h => (XG.below h).at_ 2 rfl
                      have r1 : ∀ Y, Below wr.heap.size wr Y → Y.cell? ⟨b1, o1 + j * 6 + 3, none⟩ = some (.int .i64 (i : Int)) := fun Y h => (bcell h _ _ hb2).trans c3
                      have r2 : ∀ Y, Below wr.heap.size wr Y → Y.cell? ⟨b1, o1 + j * 6 + 4, none⟩ = some (.int .i64 (d : Int)) := fun Y h => (bcell h _ _ hb2).trans c4
                      have r3 : ∀ Y, Below wr.heap.size wr Y → Y.cell? ⟨b1, o1 + j * 6 + 5, none⟩ = some (.int .i64 co) := fun Y h => (bcell h _ _ hb2).trans c5
                      have r4 : ∀ Y, Below wr.heap.size wr Y → Y.cell? ⟨bg, i * 4 + d, none⟩ = some (.int .i64 u) := fun Y h => (bcell h _ _ lg).trans y0
                      have yf := RG.free
                      have hdI : (d : Int) < 4 := by omega
                      have hww : IntKind.i64.wrap (u + co) = u + co := IntWalk.i64_in _ (by omega)
                      clear c0 c1 c2 c3 c4 c5
                      refine wp_region_S (fun Y => Below wr.heap.size wr Y) 35 (by kernel_rfl) ?_
                      refine anyS_take (i := 0) rfl (by kernel_rfl) (fun _ _ _ h => h) (Or.inl ⟨by rfl, fun Y hYb => (by (try dsimp only at hYb); go_simp; rfl)⟩) (by repeat' (first | with_reducible assumption | with_reducible exact Below.refl _ _ | with_reducible refine Below.drew ?_ | with_reducible refine below_drewN ?_ _)) ?_
                      simp only [List.getElem_toArray, List.getElem_cons_succ, List.getElem_cons_zero, Act.put, List.setIfInBounds_toArray, List.set_cons_zero, List.set_cons_succ]
                      refine anyS_take (i := 1) rfl (by kernel_rfl) (fun _ _ _ h => h) (Or.inl ⟨by rfl, fun Y hYb => (by (try dsimp only at hYb); go_simp; rfl)⟩) (by repeat' (first | with_reducible assumption | with_reducible exact Below.refl _ _ | with_reducible refine Below.drew ?_ | with_reducible refine below_drewN ?_ _)) ?_
                      simp only [List.getElem_toArray, List.getElem_cons_succ, List.getElem_cons_zero, Act.put, List.setIfInBounds_toArray, List.set_cons_zero, List.set_cons_succ]
                      refine anyS_take (i := 2) rfl (by kernel_rfl) (fun _ _ _ h => h) (Or.inl ⟨by rfl, fun Y hYb => (by (try dsimp only at hYb); go_simp; rfl)⟩) (by repeat' (first | with_reducible assumption | with_reducible exact Below.refl _ _ | with_reducible refine Below.drew ?_ | with_reducible refine below_drewN ?_ _)) ?_
                      simp only [List.getElem_toArray, List.getElem_cons_succ, List.getElem_cons_zero, Act.put, List.setIfInBounds_toArray, List.set_cons_zero, List.set_cons_succ]
                      refine anyS_take (i := 3) rfl (by kernel_rfl) (fun _ _ _ h => h) (Or.inl ⟨by rfl, fun Y hYb => (by (try dsimp only at hYb); go_simp; rfl)⟩) (by repeat' (first | with_reducible assumption | with_reducible exact Below.refl _ _ | with_reducible refine Below.drew ?_ | with_reducible refine below_drewN ?_ _)) ?_
                      simp only [List.getElem_toArray, List.getElem_cons_succ, List.getElem_cons_zero, Act.put, List.setIfInBounds_toArray, List.set_cons_zero, List.set_cons_succ]
                      refine anyS_take (i := 4) rfl (by kernel_rfl) (fun _ _ _ h => h) (Or.inl ⟨by rfl, fun Y hYb => (by (try dsimp only at hYb); go_simp; rfl)⟩) (by repeat' (first | with_reducible assumption | with_reducible exact Below.refl _ _ | with_reducible refine Below.drew ?_ | with_reducible refine below_drewN ?_ _)) ?_
                      simp only [List.getElem_toArray, List.getElem_cons_succ, List.getElem_cons_zero, Act.put, List.setIfInBounds_toArray, List.set_cons_zero, List.set_cons_succ]
                      refine anyS_take (i := 5) rfl (by kernel_rfl) (fun _ _ _ h => h) (Or.inl ⟨by rfl, fun Y hYb => (by (try dsimp only at hYb); go_simp; rfl)⟩) (by repeat' (first | with_reducible assumption | with_reducible exact Below.refl _ _ | with_reducible refine Below.drew ?_ | with_reducible refine below_drewN ?_ _)) ?_
                      simp only [List.getElem_toArray, List.getElem_cons_succ, List.getElem_cons_zero, Act.put, List.setIfInBounds_toArray, List.set_cons_zero, List.set_cons_succ]
                      refine anyS_take (i := 6) rfl (by kernel_rfl) (fun _ _ _ h => h) (Or.inl ⟨by rfl, fun Y hYb => (by (try dsimp only at hYb); go_simp; rfl)⟩) (by repeat' (first | with_reducible assumption | with_reducible exact Below.refl _ _ | with_reducible refine Below.drew ?_ | with_reducible refine below_drewN ?_ _)) ?_
                      simp only [List.getElem_toArray, List.getElem_cons_succ, List.getElem_cons_zero, Act.put, List.setIfInBounds_toArray, List.set_cons_zero, List.set_cons_succ]
                      refine anyS_take (i := 7) rfl (by kernel_rfl) (fun _ _ _ h => h) (Or.inl ⟨by rfl, fun Y hYb => (by (try dsimp only at hYb); go_simp; rfl)⟩) (by repeat' (first | with_reducible assumption | with_reducible exact Below.refl _ _ | with_reducible refine Below.drew ?_ | with_reducible refine below_drewN ?_ _)) ?_
                      simp only [List.getElem_toArray, List.getElem_cons_succ, List.getElem_cons_zero, Act.put, List.setIfInBounds_toArray, List.set_cons_zero, List.set_cons_succ]
                      refine anyS_take (i := 8) rfl (by kernel_rfl) (fun _ _ _ h => h) (Or.inl ⟨by rfl, fun Y hYb => (by (try dsimp only at hYb); go_simp; rfl)⟩) (by repeat' (first | with_reducible assumption | with_reducible exact Below.refl _ _ | with_reducible refine Below.drew ?_ | with_reducible refine below_drewN ?_ _)) ?_
                      simp only [List.getElem_toArray, List.getElem_cons_succ, List.getElem_cons_zero, Act.put, List.setIfInBounds_toArray, List.set_cons_zero, List.set_cons_succ]
                      refine anyS_take (i := 9) rfl (by kernel_rfl) (fun _ _ _ h => h) (Or.inl ⟨by rfl, fun Y hYb => (by (try dsimp only at hYb); go_simp; rfl)⟩) (by repeat' (first | with_reducible assumption | with_reducible exact Below.refl _ _ | with_reducible refine Below.drew ?_ | with_reducible refine below_drewN ?_ _)) ?_
                      simp only [List.getElem_toArray, List.getElem_cons_succ, List.getElem_cons_zero, Act.put, List.setIfInBounds_toArray, List.set_cons_zero, List.set_cons_succ]
                      refine anyS_take (i := 10) rfl (by kernel_rfl) (fun _ _ _ h => h) (Or.inl ⟨by rfl, fun Y hYb => (by (try dsimp only at hYb); go_simp; rfl)⟩) (by repeat' (first | with_reducible assumption | with_reducible exact Below.refl _ _ | with_reducible refine Below.drew ?_ | with_reducible refine below_drewN ?_ _)) ?_
                      simp only [List.getElem_toArray, List.getElem_cons_succ, List.getElem_cons_zero, Act.put, List.setIfInBounds_toArray, List.set_cons_zero, List.set_cons_succ]
                      refine anyS_take (i := 11) rfl (by kernel_rfl) (fun _ _ _ h => h) (Or.inl ⟨by rfl, fun Y hYb => (by (try dsimp only at hYb); go_simp; rfl)⟩) (by repeat' (first | with_reducible assumption | with_reducible exact Below.refl _ _ | with_reducible refine Below.drew ?_ | with_reducible refine below_drewN ?_ _)) ?_
                      simp only [List.getElem_toArray, List.getElem_cons_succ, List.getElem_cons_zero, Act.put, List.setIfInBounds_toArray, List.set_cons_zero, List.set_cons_succ]
                      refine anyS_take (i := 12) rfl (by kernel_rfl) (fun _ _ _ h => h) (Or.inl ⟨by rfl, fun Y hYb => (by (try dsimp only at hYb); go_simp; rfl)⟩) (by repeat' (first | with_reducible assumption | with_reducible exact Below.refl _ _ | with_reducible refine Below.drew ?_ | with_reducible refine below_drewN ?_ _)) ?_
                      simp only [List.getElem_toArray, List.getElem_cons_succ, List.getElem_cons_zero, Act.put, List.setIfInBounds_toArray, List.set_cons_zero, List.set_cons_succ]
                      refine anyS_take (i := 13) rfl (by kernel_rfl) (fun _ _ _ h => h) (Or.inl ⟨by rfl, fun Y hYb => (by (try dsimp only at hYb); go_simp; rfl)⟩) (by repeat' (first | with_reducible assumption | with_reducible exact Below.refl _ _ | with_reducible refine Below.drew ?_ | with_reducible refine below_drewN ?_ _)) ?_
                      simp only [List.getElem_toArray, List.getElem_cons_succ, List.getElem_cons_zero, Act.put, List.setIfInBounds_toArray, List.set_cons_zero, List.set_cons_succ]
                      refine anyS_take (i := 14) rfl (by kernel_rfl) (fun _ _ _ h => h) (Or.inl ⟨by rfl, fun Y hYb => (by (try dsimp only at hYb); go_simp; rfl)⟩) (by repeat' (first | with_reducible assumption | with_reducible exact Below.refl _ _ | with_reducible refine Below.drew ?_ | with_reducible refine below_drewN ?_ _)) ?_
                      simp only [List.getElem_toArray, List.getElem_cons_succ, List.getElem_cons_zero, Act.put, List.setIfInBounds_toArray, List.set_cons_zero, List.set_cons_succ]
                      refine anyS_take (i := 15) rfl (by kernel_rfl) (fun _ _ _ h => h) (Or.inl ⟨by rfl, fun Y hYb => (by (try dsimp only at hYb); go_simp; rfl)⟩) (by repeat' (first | with_reducible assumption | with_reducible exact Below.refl _ _ | with_reducible refine Below.drew ?_ | with_reducible refine below_drewN ?_ _)) ?_
                      simp only [List.getElem_toArray, List.getElem_cons_succ, List.getElem_cons_zero, Act.put, List.setIfInBounds_toArray, List.set_cons_zero, List.set_cons_succ]
                      refine anyS_take (i := 16) rfl (by kernel_rfl) (fun _ _ _ h => h) (Or.inl ⟨by rfl, fun Y hYb => (by (try dsimp only at hYb); go_simp; rfl)⟩) (by repeat' (first | with_reducible assumption | with_reducible exact Below.refl _ _ | with_reducible refine Below.drew ?_ | with_reducible refine below_drewN ?_ _)) ?_
                      simp only [List.getElem_toArray, List.getElem_cons_succ, List.getElem_cons_zero, Act.put, List.setIfInBounds_toArray, List.set_cons_zero, List.set_cons_succ]
                      refine anyS_take (i := 17) rfl (by kernel_rfl) (fun _ _ _ h => h) (Or.inl ⟨by rfl, fun Y hYb => (by (try dsimp only at hYb); go_simp; rfl)⟩) (by repeat' (first | with_reducible assumption | with_reducible exact Below.refl _ _ | with_reducible refine Below.drew ?_ | with_reducible refine below_drewN ?_ _)) ?_
                      simp only [List.getElem_toArray, List.getElem_cons_succ, List.getElem_cons_zero, Act.put, List.setIfInBounds_toArray, List.set_cons_zero, List.set_cons_succ]
                      refine anyS_take (i := 18) rfl (by kernel_rfl) (fun _ _ _ h => h) (Or.inl ⟨by rfl, fun Y hYb => (by (try dsimp only at hYb); go_simp; rfl)⟩) (by repeat' (first | with_reducible assumption | with_reducible exact Below.refl _ _ | with_reducible refine Below.drew ?_ | with_reducible refine below_drewN ?_ _)) ?_
                      simp only [List.getElem_toArray, List.getElem_cons_succ, List.getElem_cons_zero, Act.put, List.setIfInBounds_toArray, List.set_cons_zero, List.set_cons_succ]
                      refine anyS_take (i := 19) rfl (by kernel_rfl) (fun _ _ _ h => h) (Or.inl ⟨by rfl, fun Y hYb => (by (try dsimp only at hYb); go_simp; rfl)⟩) (by repeat' (first | with_reducible assumption | with_reducible exact Below.refl _ _ | with_reducible refine Below.drew ?_ | with_reducible refine below_drewN ?_ _)) ?_
                      simp only [List.getElem_toArray, List.getElem_cons_succ, List.getElem_cons_zero, Act.put, List.setIfInBounds_toArray, List.set_cons_zero, List.set_cons_succ]
                      refine anyS_take (i := 20) rfl (by kernel_rfl) (fun _ _ _ h => h) (Or.inl ⟨by rfl, fun Y hYb => (by (try dsimp only at hYb); go_simp; rfl)⟩) (by repeat' (first | with_reducible assumption | with_reducible exact Below.refl _ _ | with_reducible refine Below.drew ?_ | with_reducible refine below_drewN ?_ _)) ?_
                      simp only [List.getElem_toArray, List.getElem_cons_succ, List.getElem_cons_zero, Act.put, List.setIfInBounds_toArray, List.set_cons_zero, List.set_cons_succ]
                      refine anyS_take (i := 21) rfl (by kernel_rfl) (fun _ _ _ h => h) (Or.inl ⟨by rfl, fun Y hYb => (by (try dsimp only at hYb); go_simp; rfl)⟩) (by repeat' (first | with_reducible assumption | with_reducible exact Below.refl _ _ | with_reducible refine Below.drew ?_ | with_reducible refine below_drewN ?_ _)) ?_
                      simp only [List.getElem_toArray, List.getElem_cons_succ, List.getElem_cons_zero, Act.put, List.setIfInBounds_toArray, List.set_cons_zero, List.set_cons_succ]
                      refine anyS_take (i := 22) rfl (by kernel_rfl) (fun _ _ _ h => h) (Or.inl ⟨by rfl, fun Y hYb => (by (try dsimp only at hYb); go_simp; rfl)⟩) (by repeat' (first | with_reducible assumption | with_reducible exact Below.refl _ _ | with_reducible refine Below.drew ?_ | with_reducible refine below_drewN ?_ _)) ?_
                      simp only [List.getElem_toArray, List.getElem_cons_succ, List.getElem_cons_zero, Act.put, List.setIfInBounds_toArray, List.set_cons_zero, List.set_cons_succ]
                      refine anyS_take (i := 23) rfl (by kernel_rfl) (fun _ _ _ h => h) (Or.inl ⟨by rfl, fun Y hYb => (by (try dsimp only at hYb); go_simp; rfl)⟩) (by repeat' (first | with_reducible assumption | with_reducible exact Below.refl _ _ | with_reducible refine Below.drew ?_ | with_reducible refine below_drewN ?_ _)) ?_
                      simp only [List.getElem_toArray, List.getElem_cons_succ, List.getElem_cons_zero, Act.put, List.setIfInBounds_toArray, List.set_cons_zero, List.set_cons_succ]
                      refine anyS_take (i := 24) rfl (by kernel_rfl) (fun _ _ _ h => h) (Or.inl ⟨by rfl, fun Y hYb => (by (try dsimp only at hYb); go_simp; rfl)⟩) (by repeat' (first | with_reducible assumption | with_reducible exact Below.refl _ _ | with_reducible refine Below.drew ?_ | with_reducible refine below_drewN ?_ _)) ?_
                      simp only [List.getElem_toArray, List.getElem_cons_succ, List.getElem_cons_zero, Act.put, List.setIfInBounds_toArray, List.set_cons_zero, List.set_cons_succ]
                      refine anyS_take (i := 25) rfl (by kernel_rfl) (fun _ _ _ h => h) (Or.inl ⟨by rfl, fun Y hYb => (by (try dsimp only at hYb); go_simp; rfl)⟩) (by repeat' (first | with_reducible assumption | with_reducible exact Below.refl _ _ | with_reducible refine Below.drew ?_ | with_reducible refine below_drewN ?_ _)) ?_
                      simp only [List.getElem_toArray, List.getElem_cons_succ, List.getElem_cons_zero, Act.put, List.setIfInBounds_toArray, List.set_cons_zero, List.set_cons_succ]
                      refine anyS_take (i := 26) rfl (by kernel_rfl) (fun _ _ _ h => h) (Or.inl ⟨by rfl, fun Y hYb => (by (try dsimp only at hYb); go_simp; rfl)⟩) (by repeat' (first | with_reducible assumption | with_reducible exact Below.refl _ _ | with_reducible refine Below.drew ?_ | with_reducible refine below_drewN ?_ _)) ?_
                      simp only [List.getElem_toArray, List.getElem_cons_succ, List.getElem_cons_zero, Act.put, List.setIfInBounds_toArray, List.set_cons_zero, List.set_cons_succ]
                      refine anyS_take (i := 27) rfl (by kernel_rfl) (fun _ _ _ h => h) (Or.inl ⟨by rfl, fun Y hYb => (by (try dsimp only at hYb); go_simp; rfl)⟩) (by repeat' (first | with_reducible assumption | with_reducible exact Below.refl _ _ | with_reducible refine Below.drew ?_ | with_reducible refine below_drewN ?_ _)) ?_
                      simp only [List.getElem_toArray, List.getElem_cons_succ, List.getElem_cons_zero, Act.put, List.setIfInBounds_toArray, List.set_cons_zero, List.set_cons_succ]
                      refine anyS_take (i := 28) rfl (by kernel_rfl) (fun _ _ _ h => h) (Or.inl ⟨by rfl, fun Y hYb => (by (try dsimp only at hYb); go_simp; rfl)⟩) (by repeat' (first | with_reducible assumption | with_reducible exact Below.refl _ _ | with_reducible refine Below.drew ?_ | with_reducible refine below_drewN ?_ _)) ?_
                      simp only [List.getElem_toArray, List.getElem_cons_succ, List.getElem_cons_zero, Act.put, List.setIfInBounds_toArray, List.set_cons_zero, List.set_cons_succ]
                      refine anyS_take (i := 29) rfl (by kernel_rfl) (fun _ _ _ h => h) (Or.inl ⟨by rfl, fun Y hYb => (by (try dsimp only at hYb); go_simp; rfl)⟩) (by repeat' (first | with_reducible assumption | with_reducible exact Below.refl _ _ | with_reducible refine Below.drew ?_ | with_reducible refine below_drewN ?_ _)) ?_
                      simp only [List.getElem_toArray, List.getElem_cons_succ, List.getElem_cons_zero, Act.put, List.setIfInBounds_toArray, List.set_cons_zero, List.set_cons_succ]
                      refine anyS_take (i := 30) rfl (by kernel_rfl) (fun _ _ _ h => h) (Or.inl ⟨by rfl, fun Y hYb => (by (try dsimp only at hYb); go_simp; rfl)⟩) (by repeat' (first | with_reducible assumption | with_reducible exact Below.refl _ _ | with_reducible refine Below.drew ?_ | with_reducible refine below_drewN ?_ _)) ?_
                      simp only [List.getElem_toArray, List.getElem_cons_succ, List.getElem_cons_zero, Act.put, List.setIfInBounds_toArray, List.set_cons_zero, List.set_cons_succ]
                      refine anyS_take (i := 31) rfl (by kernel_rfl) (fun _ _ _ h => h) (Or.inl ⟨by rfl, fun Y hYb => (by (try dsimp only at hYb); go_simp; rfl)⟩) (by repeat' (first | with_reducible assumption | with_reducible exact Below.refl _ _ | with_reducible refine Below.drew ?_ | with_reducible refine below_drewN ?_ _)) ?_
                      simp only [List.getElem_toArray, List.getElem_cons_succ, List.getElem_cons_zero, Act.put, List.setIfInBounds_toArray, List.set_cons_zero, List.set_cons_succ]
                      refine anyS_take (i := 32) rfl (by kernel_rfl) (fun _ _ _ h => h) (Or.inl ⟨by rfl, fun Y hYb => (by (try dsimp only at hYb); go_simp; rfl)⟩) (by repeat' (first | with_reducible assumption | with_reducible exact Below.refl _ _ | with_reducible refine Below.drew ?_ | with_reducible refine below_drewN ?_ _)) ?_
                      simp only [List.getElem_toArray, List.getElem_cons_succ, List.getElem_cons_zero, Act.put, List.setIfInBounds_toArray, List.set_cons_zero, List.set_cons_succ]
                      refine anyS_pure (i := 33) rfl (by kernel_rfl) (fun _ _ _ h => h) (Or.inl ⟨by rfl, fun Y hYb => (by clear hYb; go_simp; rfl)⟩) ?_
                      refine anyS_take (i := 34) rfl (by kernel_rfl) (fun _ _ _ h => h) (Or.inl ⟨by rfl, fun Y hYb => (by (try dsimp only at hYb); go_simp; rfl)⟩) (by repeat' (first | with_reducible assumption | with_reducible exact Below.refl _ _ | with_reducible refine Below.drew ?_ | with_reducible refine below_drewN ?_ _)) ?_
                      simp only [List.getElem_toArray, List.getElem_cons_succ, List.getElem_cons_zero, Act.put, List.setIfInBounds_toArray, List.set_cons_zero, List.set_cons_succ]
                      refine anyS_one (i := 35) (by kernel_rfl) rfl (by rfl) (fun K hK => ?_)
                      go_simp
                      refine hK _ _ (fun h _ => absurd h (by decide)) ?_
                      clear hK K
                      refine anyS_done (by kernel_rfl) ?_ _
                      clear r0 r1 r2 r3 r4 y0 yf
                      have m0 : bg ≠ bx := hne
                      have m1 : bg ≠ w.heap.size + 1 := by omega
                      go_wp2_with fail
                      go_roundw
                      case rel => exact ⟨j + 1, by omega, by go_num, by rw [HCS.out, ← Int.add_assoc], by rw [HCS.out]; omega, by rw [HFL.out]; exact RG.drew.set_ (i * 4 + d) (u + co), XG.drew.far (p := ⟨bg, i * 4 + d, none⟩) m0 _, Y1.drew.far (p := ⟨bg, i * 4 + d, none⟩) m1 _, by (repeat' (first | with_reducible assumption | with_reducible exact Below.refl _ _ | with_reducible refine Below.drew ?_ | with_reducible refine below_drewN ?_ _ | with_reducible refine balloc ?_ _ | with_reducible refine bset ?_ ?_ _ | with_reducible refine Below.setCell ?_ ?_ _ | with_reducible refine Below.alloc ?_ ?_ _ | omega | (simp; done) | (simp; omega)))⟩
                      case measure => simp [intOf]; omega
                  · obtain rfl : q = j := (by omega)
                    have hD : decide (M0 + coS p q ≤ 1000000000) = true := by simpa using hle
                    obtain rfl : E = 0 := by rw [← HE.out, hD]; rfl
                    clear hD
                    have xg0 := XG.at_ 0 rfl; have xg1 := XG.at_ 1 rfl; have xg2 := XG.at_ 2 rfl; have xgl := XG.lt
                    have y0 := Y1.at_ 0 rfl; have y1 := Y1.at_ 1 rfl; have y2 := Y1.at_ 2 rfl; have yf := Y1.free; have yl := Y1.lt
                    have lg := RG.lt
                    have hnb : bg ≠ w.heap.size + 1 := by omega
                    go_wp2_with fail
                    have Y2 : Bx (((wr.setCell ⟨w.heap.size + 1, 0, none⟩ (.int .i64 (Wd : Int))).setCell ⟨w.heap.size + 1, 1, none⟩ (.int .i64 (Hd : Int))).setCell ⟨w.heap.size + 1, 2, none⟩ (.slice (some ⟨bg, 0, none⟩) no no)) (w.heap.size + 1) #[.int .i64 (Wd : Int), .int .i64 (Hd : Int), .slice (some ⟨bg, 0, none⟩) no no] := ((Y1.set_ 0 (by simp) _).set_ 1 (by simp) _).set_ 2 (by simp) _
                    replace RG := ((RG.far (p := ⟨w.heap.size + 1, 0, none⟩) (Ne.symm hnb) (.int .i64 (Wd : Int))).far (p := ⟨w.heap.size + 1, 1, none⟩) (Ne.symm hnb) (.int .i64 (Hd : Int))).far (p := ⟨w.heap.size + 1, 2, none⟩) (Ne.symm hnb) (.slice (some ⟨bg, 0, none⟩) no no)
                    replace hB : Below w.heap.size w (((wr.setCell ⟨w.heap.size + 1, 0, none⟩ (.int .i64 (Wd : Int))).setCell ⟨w.heap.size + 1, 1, none⟩ (.int .i64 (Hd : Int))).setCell ⟨w.heap.size + 1, 2, none⟩ (.slice (some ⟨bg, 0, none⟩) no no)) := ((hB.setCell (by dsimp only; omega) _).setCell (by dsimp only; omega) _).setCell (by dsimp only; omega) _
                    have r0 := Y2.at_ 0 rfl; have r1 := Y2.at_ 1 rfl; have r2 := Y2.at_ 2 rfl
                    exact bodyPost_ret (v := .tuple #[.agg #[.int .i64 (Wd : Int), .int .i64 (Hd : Int), .slice (some ⟨bg, 0, none⟩) no no], .int .i64 0]) (by simp [results, Try.results76, go_sem, r0, r1, r2]) rfl (gridPost_row RG (by omega) hB)
end Go.Proofs.Ytcakccfhcgjofaa
