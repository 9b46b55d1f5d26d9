/- Walks: the program's Run and Step of a grid. -/
import Derived.Test.YtnnaegnkkpknpaaGRun2
import Derived.Test.YtnnaegnkkpknpaaRunErr
namespace Go.Proofs.Ytnnaegnkkpknpaa
open Go Go.RowKit
attribute [local go_sem] Oper.semAt_some
set_option linter.unusedVariables false
set_option maxRecDepth 100000 in
set_option maxHeartbeats 2000000 in
theorem grid_asked (wide high : Int) (a ar : Option Addr) (n nr c cr : Nat) (g : Nat → C4) (r : Nat → Int × Int) (t m : Int) (w : World) (hn : n ≤ 100000000) (hnr : nr ≤ 100000000) (H : Sc w a n g) (HR : Sr w ar nr r) :
    Calls Try.prog 160 #[.agg #[.int .i64 wide, .int .i64 high, .slice a n c], .slice ar nr cr, .int .i64 t, .int .i64 m] w fun e w' => e = .returned (.int .i64 (rnE (validG wide high n g) (rulesB nr r) (timesB t m))) ∧ Below w.heap.size w w' := by
  have hvl := fun W H => grid_valid wide high a n c g W hn H
  have hrl := fun W HR => cell_validRules ar nr cr r W hnr HR
  have X0 := Bx.new w #[.int .i64 wide, .int .i64 high, .slice a n c] 24
  have hB0 : Below w.heap.size w (w.alloc (.cells #[.int .i64 wide, .int .i64 high, .slice a n c] 24)) := by (repeat' (first | with_reducible assumption | with_reducible exact Below.refl _ _ | with_reducible refine Below.drew ?_ | with_reducible refine below_drewN ?_ _ | with_reducible refine balloc ?_ _ | with_reducible refine bset ?_ ?_ _ | with_reducible refine Below.setCell ?_ ?_ _ | with_reducible refine Below.alloc ?_ ?_ _ | omega | (simp; done) | (simp; omega)))
  have hw1 := fun W => grid_within t 0 1000000 W
  have hw2 := fun W => grid_within m 0 1000 W
  generalize validG wide high n g = v at *
  generalize rulesB nr r = u at *
  cases v
  · skip
    go_enter Try.func160, Try.ntmps160
    go_wp2_with fail
    generalize (w.alloc (.cells #[.int .i64 wide, .int .i64 high, .slice a n c] 24)) = W0 at X0 hB0 ⊢
    have z0 := X0.lt
    have G0 := H.below hB0; have GR0 := HR.below hB0
    refine (hvl _ G0).mono ?_
    rintro e w1 ⟨rfl, hb1⟩
    have hB := hB0
    clear hB0
    replace hB := bvia hB hb1
    replace GR0 := GR0.below hb1
    go_wp2_with fail
    go_ret
    exact ⟨rfl, hB⟩
  · cases u
    · skip
      go_enter Try.func160, Try.ntmps160
      go_wp2_with fail
      generalize (w.alloc (.cells #[.int .i64 wide, .int .i64 high, .slice a n c] 24)) = W0 at X0 hB0 ⊢
      have z0 := X0.lt
      have G0 := H.below hB0; have GR0 := HR.below hB0
      refine (hvl _ G0).mono ?_
      rintro e w1 ⟨rfl, hb1⟩
      have hB := hB0
      clear hB0
      replace hB := bvia hB hb1
      replace GR0 := GR0.below hb1
      go_wp2_with fail
      refine (hrl _ GR0).mono ?_
      rintro e w2 ⟨rfl, hb2⟩
      replace hB := bvia hB hb2
      go_wp2_with fail
      go_ret
      exact ⟨rfl, hB⟩
    · cases h1 : within t 0 1000000
      · rw [timesB_no1 h1]
        rw [h1] at hw1
        clear h1
        go_enter Try.func160, Try.ntmps160
        go_wp2_with fail
        generalize (w.alloc (.cells #[.int .i64 wide, .int .i64 high, .slice a n c] 24)) = W0 at X0 hB0 ⊢
        have z0 := X0.lt
        have G0 := H.below hB0; have GR0 := HR.below hB0
        refine (hvl _ G0).mono ?_
        rintro e w1 ⟨rfl, hb1⟩
        have hB := hB0
        clear hB0
        replace hB := bvia hB hb1
        replace GR0 := GR0.below hb1
        go_wp2_with fail
        refine (hrl _ GR0).mono ?_
        rintro e w2 ⟨rfl, hb2⟩
        replace hB := bvia hB hb2
        go_wp2_with fail
        refine (hw1 _).mono ?_
        rintro e w' ⟨rfl, rfl⟩
        go_wp2_with fail
        go_ret
        exact ⟨rfl, hB⟩
      · obtain ⟨t0, t1⟩ := (within_iff _ _ _).1 h1
        rw [h1] at hw1
        cases h2 : within m 0 1000
        · rw [timesB_no2 h2]
          rw [h2] at hw2
          clear h1 h2
          go_enter Try.func160, Try.ntmps160
          go_wp2_with fail
          generalize (w.alloc (.cells #[.int .i64 wide, .int .i64 high, .slice a n c] 24)) = W0 at X0 hB0 ⊢
          have z0 := X0.lt
          have G0 := H.below hB0; have GR0 := HR.below hB0
          refine (hvl _ G0).mono ?_
          rintro e w1 ⟨rfl, hb1⟩
          have hB := hB0
          clear hB0
          replace hB := bvia hB hb1
          replace GR0 := GR0.below hb1
          go_wp2_with fail
          refine (hrl _ GR0).mono ?_
          rintro e w2 ⟨rfl, hb2⟩
          replace hB := bvia hB hb2
          go_wp2_with fail
          refine (hw1 _).mono ?_
          rintro e w' ⟨rfl, rfl⟩
          go_wp2_with fail
          refine (hw2 _).mono ?_
          rintro e w' ⟨rfl, rfl⟩
          go_wp2_with fail
          go_ret
          exact ⟨rfl, hB⟩
        · obtain ⟨m0, m1⟩ := (within_iff _ _ _).1 h2
          rw [h2] at hw2
          by_cases hm : m = 0
          · subst hm
            have e : timesB t 0 = true := (timesB_iff _ _).2 ⟨t0, t1, by omega, by omega, .inl rfl⟩
            rw [e]
            clear e h1 h2
            go_enter Try.func160, Try.ntmps160
            go_wp2_with fail
            generalize (w.alloc (.cells #[.int .i64 wide, .int .i64 high, .slice a n c] 24)) = W0 at X0 hB0 ⊢
            have z0 := X0.lt
            have G0 := H.below hB0; have GR0 := HR.below hB0
            refine (hvl _ G0).mono ?_
            rintro e w1 ⟨rfl, hb1⟩
            have hB := hB0
            clear hB0
            replace hB := bvia hB hb1
            replace GR0 := GR0.below hb1
            go_wp2_with fail
            refine (hrl _ GR0).mono ?_
            rintro e w2 ⟨rfl, hb2⟩
            replace hB := bvia hB hb2
            go_wp2_with fail
            refine (hw1 _).mono ?_
            rintro e w' ⟨rfl, rfl⟩
            go_wp2_with fail
            refine (hw2 _).mono ?_
            rintro e w' ⟨rfl, rfl⟩
            go_wp2_with fail
            go_ret
            exact ⟨rfl, hB⟩
          · by_cases hs : t + m - 1 ≤ 1000000
            · have e : timesB t m = true := (timesB_iff _ _).2 ⟨t0, t1, m0, m1, .inr hs⟩
              rw [e]
              clear e h1 h2
              have hm0 : 0 < m := by omega
              clear hm
              go_enter Try.func160, Try.ntmps160
              go_wp2_with fail
              generalize (w.alloc (.cells #[.int .i64 wide, .int .i64 high, .slice a n c] 24)) = W0 at X0 hB0 ⊢
              have z0 := X0.lt
              have G0 := H.below hB0; have GR0 := HR.below hB0
              refine (hvl _ G0).mono ?_
              rintro e w1 ⟨rfl, hb1⟩
              have hB := hB0
              clear hB0
              replace hB := bvia hB hb1
              replace GR0 := GR0.below hb1
              go_wp2_with fail
              refine (hrl _ GR0).mono ?_
              rintro e w2 ⟨rfl, hb2⟩
              replace hB := bvia hB hb2
              go_wp2_with fail
              refine (hw1 _).mono ?_
              rintro e w' ⟨rfl, rfl⟩
              go_wp2_with fail
              refine (hw2 _).mono ?_
              rintro e w' ⟨rfl, rfl⟩
              go_wp2_with fail
              go_ret
              exact ⟨rfl, hB⟩
            · have e : timesB t m = false := by
                cases hh : timesB t m
                · rfl
                · have := (timesB_iff _ _).1 hh; omega
              rw [e]
              clear e h1 h2
              have hm0 : 0 < m := by omega
              clear hm
              go_enter Try.func160, Try.ntmps160
              go_wp2_with fail
              generalize (w.alloc (.cells #[.int .i64 wide, .int .i64 high, .slice a n c] 24)) = W0 at X0 hB0 ⊢
              have z0 := X0.lt
              have G0 := H.below hB0; have GR0 := HR.below hB0
              refine (hvl _ G0).mono ?_
              rintro e w1 ⟨rfl, hb1⟩
              have hB := hB0
              clear hB0
              replace hB := bvia hB hb1
              replace GR0 := GR0.below hb1
              go_wp2_with fail
              refine (hrl _ GR0).mono ?_
              rintro e w2 ⟨rfl, hb2⟩
              replace hB := bvia hB hb2
              go_wp2_with fail
              refine (hw1 _).mono ?_
              rintro e w' ⟨rfl, rfl⟩
              go_wp2_with fail
              refine (hw2 _).mono ?_
              rintro e w' ⟨rfl, rfl⟩
              go_wp2_with fail
              go_ret
              exact ⟨rfl, hB⟩
/-- what a run of a grid that has no error has -/
theorem runG_ok {wide high : Int} {n nr : Nat} {g : Nat → C4} {r : Nat → Int × Int} {t m : Int} (h : rnE (validG wide high n g) (rulesB nr r) (timesB t m) = 0) :
    ∃ W H T M : Nat, wide = W ∧ high = H ∧ t = T ∧ m = M ∧ (1 ≤ W ∧ W ≤ 64) ∧ (1 ≤ H ∧ H ≤ 64) ∧ n = W * H ∧ W * H ≤ 1024 ∧ okG (W * H) g ∧ 0 < nr ∧ nr ≤ 8 ∧ (∀ s, ruleOk (rlAt nr r s).1 (rlAt nr r s).2) ∧ T ≤ 1000000 ∧ M ≤ 1000 ∧ (∀ i, i < M → T + i ≤ 1000000) := by
  obtain ⟨h1, h2, h3⟩ := rnE_zero h
  obtain ⟨a1, a2, a3, a4, a5, a6, a7, a8⟩ := (validG_iff _ _ _ _).1 h1
  obtain ⟨c1, c2, c3⟩ := (rulesB_iff _ _).1 h2
  obtain ⟨d1, d2, d3, d4, d5⟩ := (timesB_iff _ _).1 h3
  have en : n = wide.toNat * high.toNat := by
    have e1 : wide = (wide.toNat : Int) := by omega
    have e2 : high = (high.toNat : Int) := by omega
    rw [e1, e2] at a6
    exact_mod_cast a6
  subst en
  refine ⟨wide.toNat, high.toNat, t.toNat, m.toNat, by omega, by omega, by omega, by omega, by omega, by omega, rfl, by omega, ⟨a7, a8⟩, by omega, c2, fun s => (ruleB_iff _ _).1 (c3 _ (Nat.mod_lt _ (by omega))), by omega, by omega, fun i hi => by omega⟩
set_option maxRecDepth 100000 in
set_option maxHeartbeats 8000000 in
theorem grid_Run (wide high : Int) (a ar : Option Addr) (n nr c cr : Nat) (g : Nat → C4) (r : Nat → Int × Int) (t m : Int) (w : World) (hn : n ≤ 100000000) (hnr : nr ≤ 100000000) (H : Sc w a n g) (HR : Sr w ar nr r) :
    Calls Try.prog 125 #[.agg #[.int .i64 wide, .int .i64 high, .slice a n c], .slice ar nr cr, .int .i64 t, .int .i64 m] w (GridPost (rnE (validG wide high n g) (rulesB nr r) (timesB t m)) (erZ (rnE (validG wide high n g) (rulesB nr r) (timesB t m)) wide) (erZ (rnE (validG wide high n g) (rulesB nr r) (timesB t m)) high) (erN (rnE (validG wide high n g) (rulesB nr r) (timesB t m)) n) (runW wide.toNat high.toNat (rlAt nr r) (fun _ => 0) g t.toNat m.toNat) w) := by
  have herr := fun W' S' SR' => grid_asked wide high a ar n nr c cr g r t m W' hn hnr S' SR'
  have hgood := fun h => runG_ok (wide := wide) (high := high) (n := n) (nr := nr) (g := g) (r := r) (t := t) (m := m) h
  generalize rnE (validG wide high n g) (rulesB nr r) (timesB t m) = er at *
  by_cases hz : er = 0
  rotate_left
  · have hzc : (er != 0) = true := by simpa using hz
    have HZ := hid hz
    clear hgood hz
    have X0 := (Bx.new w #[.int .i64 wide, .int .i64 high, .slice a n c] 24).alloc (.cells #[.int .i64 0, .int .i64 0, .slice none 0 0] 24)
    have X1 := Bx.new (w.alloc (.cells #[.int .i64 wide, .int .i64 high, .slice a n c] 24)) #[.int .i64 0, .int .i64 0, .slice none 0 0] 24
    simp only [World.size_alloc] at X1
    have hB0 : Below w.heap.size w ((w.alloc (.cells #[.int .i64 wide, .int .i64 high, .slice a n c] 24)).alloc (.cells #[.int .i64 0, .int .i64 0, .slice none 0 0] 24)) := by (repeat' (first | with_reducible assumption | with_reducible exact Below.refl _ _ | with_reducible refine Below.drew ?_ | with_reducible refine below_drewN ?_ _ | with_reducible refine balloc ?_ _ | with_reducible refine bset ?_ ?_ _ | with_reducible refine Below.setCell ?_ ?_ _ | with_reducible refine Below.alloc ?_ ?_ _ | omega | (simp; done) | (simp; omega)))
    go_enter Try.func125, Try.ntmps125
    go_wp2_with fail
    generalize ((w.alloc (.cells #[.int .i64 wide, .int .i64 high, .slice a n c] 24)).alloc (.cells #[.int .i64 0, .int .i64 0, .slice none 0 0] 24)) = W0 at X0 X1 hB0 ⊢
    have z0 := X0.lt
    have z1 := X1.lt
    refine (herr _ (H.below hB0) (HR.below hB0)).mono ?_
    rintro e w1 ⟨rfl, hb1⟩
    have hB := bvia hB0 hb1
    replace X1 := X1.below hb1
    have x0 := X1.at_ 0 rfl; have x1 := X1.at_ 1 rfl; have x2 := X1.at_ 2 rfl; have xf := X1.free; have xz := X1.lt
    go_wp2_with fail
    refine bodyPost_ret (v := .tuple #[.agg #[.int .i64 0, .int .i64 0, .slice none 0 0], .int .i64 er]) (by simp [results, Try.results125, go_sem, x0, x1, x2]) rfl (gridPost_none HZ.out (by (repeat' (first | with_reducible assumption | with_reducible exact Below.refl _ _ | with_reducible refine Below.drew ?_ | with_reducible refine below_drewN ?_ _ | with_reducible refine balloc ?_ _ | with_reducible refine bset ?_ ?_ _ | with_reducible refine Below.setCell ?_ ?_ _ | with_reducible refine Below.alloc ?_ ?_ _ | omega | (simp; done) | (simp; omega)))))
  subst hz
  obtain ⟨W, Hh, T, M, rfl, rfl, rfl, rfl, w1, h1, rfl, hm, hok, hr0, hr8, hru, hT, hM, hTM⟩ := hgood rfl
  clear hgood hn hnr
  have e1 : ∀ x : Int, erZ 0 x = x := fun _ => rfl
  have e2 : ∀ x : Nat, erN 0 x = x := fun _ => rfl
  simp only [e1, e2, Int.toNat_natCast]
  clear e1 e2
  have hit := fun bn bt W' Xn Xt => steps_iter T M bn bt W' hT hM Xn Xt
  have hLT : ∀ x, x ∈ timesL T M → x ≤ 1000000 := fun x hx => by
    obtain ⟨k, hk, rfl⟩ := timesL_mem hx
    exact hTM k hk
  have hrun := fun gf lb W' S' SR' hit eg => grid_run W Hh a ar c nr cr gf lb (timesL T M) g r W' w1 h1 hr0 hr8 hLT S' SR' hok hru hit eg
  rw [← runL_run]
  have HIT := hid hit; have HRN := hid hrun
  clear hLT hit hrun hru hok hTM
  obtain ⟨q1, q2⟩ := w1; obtain ⟨q3, q4⟩ := h1
  generalize timesL T M = L at *
  generalize runL W Hh nr r g L = G at *
  generalize W * Hh = n at *
  have X0 := (Bx.new w #[.int .i64 (W : Int), .int .i64 (Hh : Int), .slice a n c] 24).alloc (.cells #[.int .i64 0, .int .i64 0, .slice none 0 0] 24)
  have X1 := Bx.new (w.alloc (.cells #[.int .i64 (W : Int), .int .i64 (Hh : Int), .slice a n c] 24)) #[.int .i64 0, .int .i64 0, .slice none 0 0] 24
  simp only [World.size_alloc] at X1
  have hB0 : Below w.heap.size w ((w.alloc (.cells #[.int .i64 (W : Int), .int .i64 (Hh : Int), .slice a n c] 24)).alloc (.cells #[.int .i64 0, .int .i64 0, .slice none 0 0] 24)) := by (repeat' (first | with_reducible assumption | with_reducible exact Below.refl _ _ | with_reducible refine Below.drew ?_ | with_reducible refine below_drewN ?_ _ | with_reducible refine balloc ?_ _ | with_reducible refine bset ?_ ?_ _ | with_reducible refine Below.setCell ?_ ?_ _ | with_reducible refine Below.alloc ?_ ?_ _ | omega | (simp; done) | (simp; omega)))
  go_enter Try.func125, Try.ntmps125
  go_wp2_with fail
  generalize ((w.alloc (.cells #[.int .i64 (W : Int), .int .i64 (Hh : Int), .slice a n c] 24)).alloc (.cells #[.int .i64 0, .int .i64 0, .slice none 0 0] 24)) = W0 at X0 X1 hB0 ⊢
  have z0 := X0.lt
  have z1 := X1.lt
  refine (herr _ (H.below hB0) (HR.below hB0)).mono ?_
  rintro e w1 ⟨rfl, hb1⟩
  have hB := hB0
  clear hB0 herr
  replace X0 := X0.below hb1
  replace X1 := X1.below hb1
  replace hB := bvia hB hb1
  clear hb1
  have r0 : ∀ X, Below w1.heap.size w1 X → X.cell? ⟨w.heap.size, 0, none⟩ = some (.int .i64 (W : Int)) := fun X h => (X0.below h).at_ 0 rfl
  have r1 : ∀ X, Below w1.heap.size w1 X → X.cell? ⟨w.heap.size, 1, none⟩ = some (.int .i64 (Hh : Int)) := fun X h => (X0.below h).at_ 1 rfl
  have r2 : ∀ X, Below w1.heap.size w1 X → X.cell? ⟨w.heap.size, 2, none⟩ = some (.slice a n c) := fun X h => (X0.below h).at_ 2 rfl
  have x1z := X1.lt
  go_upto_region 4 with (fail)
  refine wp_region_S (fun X => Below w1.heap.size w1 X) 6 (by kernel_rfl) ?_
  refine anyS_take (i := 0) rfl (by kernel_rfl) (fun _ _ _ h => h) (Or.inl ⟨by rfl, fun Y hYb => (by (try dsimp only at hYb); go_simp; rfl)⟩) (by repeat' (first | with_reducible assumption | with_reducible exact Below.refl _ _ | with_reducible refine Below.drew ?_ | with_reducible refine below_drewN ?_ _)) ?_
  refine anyS_take (i := 1) rfl (by kernel_rfl) (fun _ _ _ h => h) (Or.inl ⟨by rfl, fun Y hYb => (by (try dsimp only at hYb); go_simp; rfl)⟩) (by repeat' (first | with_reducible assumption | with_reducible exact Below.refl _ _ | with_reducible refine Below.drew ?_ | with_reducible refine below_drewN ?_ _)) ?_
  refine anyS_take (i := 2) rfl (by kernel_rfl) (fun _ _ _ h => h) (Or.inl ⟨by rfl, fun Y hYb => (by (try dsimp only at hYb); go_simp; rfl)⟩) (by repeat' (first | with_reducible assumption | with_reducible exact Below.refl _ _ | with_reducible refine Below.drew ?_ | with_reducible refine below_drewN ?_ _)) ?_
  refine anyS_take (i := 3) rfl (by kernel_rfl) (fun _ _ _ h => h) (Or.inl ⟨by rfl, fun Y hYb => (by (try dsimp only at hYb); go_simp; rfl)⟩) (by repeat' (first | with_reducible assumption | with_reducible exact Below.refl _ _ | with_reducible refine Below.drew ?_ | with_reducible refine below_drewN ?_ _)) ?_
  refine anyS_one (i := 4) (by kernel_rfl) rfl (by rfl) (fun K hK => ?_)
  go_simp
  refine (grid_steps _ _ _).mono ?_
  rintro e w2 ⟨bn, bt, rfl, Xn, Xt, hb2⟩
  dsimp only
  have hS2 : Below w1.heap.size w1 w2 := bvia (Below.refl _ w1).drew hb2
  refine hK _ _ (fun _ _ => hS2) ?_
  clear hK K hb2
  refine anyS_one (i := 5) (by kernel_rfl) rfl (by rfl) (fun K hK => ?_)
  go_simp
  refine (HRN.out _ _ _ ((H.below hB).below hS2) ((HR.below hB).below hS2) (HIT.out bn bt _ Xn Xt) ent_steps).mono ?_
  rintro e w3 ⟨b, cap, rfl, hb, R, hcap, hb3⟩
  dsimp only
  have hS3 : Below w1.heap.size w1 w3 := bvia hS2 hb3
  have hs2 := hS2.size
  refine hK _ _ (fun _ _ => hS3) ?_
  clear hK K hb3 Xn Xt hS2
  replace X1 := X1.below hS3
  replace hB := bvia hB hS3
  clear r0 r1 r2 X0 hS3
  have X1_0 := X1.at_ 0 rfl
  have X1_1 := X1.at_ 1 rfl
  have X1_2 := X1.at_ 2 rfl
  have X1f := X1.free
  have X1z := X1.lt
  refine anyS_one (i := 6) (by kernel_rfl) rfl (by rfl) (fun K hK => ?_)
  go_simp
  refine hK _ _ (fun h _ => absurd h (by decide)) ?_
  clear hK K
  refine anyS_one (i := 7) (by kernel_rfl) rfl (by rfl) (fun K hK => ?_)
  go_simp
  refine hK _ _ (fun h _ => absurd h (by decide)) ?_
  clear hK K
  refine anyS_done (by kernel_rfl) ?_ _
  go_wp2_with fail
  refine bodyPost_ret (v := .tuple #[.agg #[.int .i64 (W : Int), .int .i64 (Hh : Int), .slice (some ⟨b, 0, none⟩) n cap], .int .i64 0]) (by simp [results, Try.results125, go_sem, X1_0, X1_1, X1_2]) rfl (gridPost_row (by (repeat' (first | with_reducible assumption | with_reducible refine Ro.drew ?_ | with_reducible refine Ro.drewN ?_ _ | with_reducible refine Ro.alloc ?_ _ | with_reducible refine Ro.far ?_ ?_ _ | (show _ ≠ _; dsimp only; omega)))) (by omega) (by (repeat' (first | with_reducible assumption | with_reducible exact Below.refl _ _ | with_reducible refine Below.drew ?_ | with_reducible refine below_drewN ?_ _ | with_reducible refine balloc ?_ _ | with_reducible refine bset ?_ ?_ _ | with_reducible refine Below.setCell ?_ ?_ _ | with_reducible refine Below.alloc ?_ ?_ _ | omega | (simp; done) | (simp; omega)))))
set_option maxRecDepth 100000 in
set_option maxHeartbeats 2000000 in
theorem grid_Step (wide high : Int) (a ar : Option Addr) (n nr c cr : Nat) (g : Nat → C4) (r : Nat → Int × Int) (t : Int) (w : World) (hn : n ≤ 100000000) (hnr : nr ≤ 100000000) (H : Sc w a n g) (HR : Sr w ar nr r) :
    Calls Try.prog 63 #[.agg #[.int .i64 wide, .int .i64 high, .slice a n c], .slice ar nr cr, .int .i64 t] w (GridPost (rnE (validG wide high n g) (rulesB nr r) (timesB t 1)) (erZ (rnE (validG wide high n g) (rulesB nr r) (timesB t 1)) wide) (erZ (rnE (validG wide high n g) (rulesB nr r) (timesB t 1)) high) (erN (rnE (validG wide high n g) (rulesB nr r) (timesB t 1)) n) (stepG wide.toNat high.toNat (rlAt nr r t.toNat) g) w) := by
  have hrun := fun W' S' SR' => grid_Run wide high a ar n nr c cr g r t 1 W' hn hnr S' SR'
  generalize rnE (validG wide high n g) (rulesB nr r) (timesB t 1) = er at *
  change ∀ W' S' SR', Calls _ _ _ _ (GridPost er (erZ er wide) (erZ er high) (erN er n) (stepG wide.toNat high.toNat (rlAt nr r t.toNat) g) W') at hrun
  generalize stepG wide.toNat high.toNat (rlAt nr r t.toNat) g = G at *
  generalize erZ er wide = eW at *
  generalize erZ er high = eH at *
  generalize erN er n = en at *
  have X0 := (Bx.new w #[.int .i64 wide, .int .i64 high, .slice a n c] 24).alloc (.cells #[.int .i64 0, .int .i64 0, .slice none 0 0] 24)
  have X1 := Bx.new (w.alloc (.cells #[.int .i64 wide, .int .i64 high, .slice a n c] 24)) #[.int .i64 0, .int .i64 0, .slice none 0 0] 24
  simp only [World.size_alloc] at X1
  have hB0 : Below w.heap.size w ((w.alloc (.cells #[.int .i64 wide, .int .i64 high, .slice a n c] 24)).alloc (.cells #[.int .i64 0, .int .i64 0, .slice none 0 0] 24)) := by (repeat' (first | with_reducible assumption | with_reducible exact Below.refl _ _ | with_reducible refine Below.drew ?_ | with_reducible refine below_drewN ?_ _ | with_reducible refine balloc ?_ _ | with_reducible refine bset ?_ ?_ _ | with_reducible refine Below.setCell ?_ ?_ _ | with_reducible refine Below.alloc ?_ ?_ _ | omega | (simp; done) | (simp; omega)))
  go_enter Try.func63, Try.ntmps63
  go_wp2_with fail
  generalize ((w.alloc (.cells #[.int .i64 wide, .int .i64 high, .slice a n c] 24)).alloc (.cells #[.int .i64 0, .int .i64 0, .slice none 0 0] 24)) = W0 at X0 X1 hB0 ⊢
  have z0 := X0.lt
  have z1 := X1.lt
  refine (hrun _ (H.below hB0) (HR.below hB0)).mono ?_
  rintro e w1 ⟨a1, c1, rfl, S1, hnew, hb1⟩
  have hB := hB0
  clear hB0 hrun
  have hz0 := X1.lt
  replace X1 := X1.below hb1
  replace hB := bvia hB hb1
  clear hb1
  have X1_0 := X1.at_ 0 rfl
  have X1_1 := X1.at_ 1 rfl
  have X1_2 := X1.at_ 2 rfl
  have X1f := X1.free
  have X1z := X1.lt
  go_wp2_with fail
  refine bodyPost_ret (v := .tuple #[.agg #[.int .i64 eW, .int .i64 eH, .slice a1 en c1], .int .i64 er]) (by simp [results, Try.results63, go_sem, X1_0, X1_1, X1_2]) rfl ⟨a1, c1, rfl, ?_, (fun b off h => by have := hnew b off h; omega), by (repeat' (first | with_reducible assumption | with_reducible exact Below.refl _ _ | with_reducible refine Below.drew ?_ | with_reducible refine below_drewN ?_ _ | with_reducible refine balloc ?_ _ | with_reducible refine bset ?_ ?_ _ | with_reducible refine Below.setCell ?_ ?_ _ | with_reducible refine Below.alloc ?_ ?_ _ | omega | (simp; done) | (simp; omega)))⟩
  exact ((S1.far (fun b off h => by have := hnew b off h; dsimp only; omega) _).far (fun b off h => by have := hnew b off h; dsimp only; omega) _).far (fun b off h => by have := hnew b off h; dsimp only; omega) _
end Go.Proofs.Ytnnaegnkkpknpaa
