/- Walks: the program's Run and Undo of a grid in walls. -/
import Derived.Test.YthlbmlfkmfheiaaWRun
import Derived.Test.YthlbmlfkmfheiaaRefRun
namespace Go.Proofs.Ythlbmlfkmfheiaa
open Go Go.RowKit
set_option linter.unusedVariables false
theorem run_cells {wide high : Int} {n nk nb nr : Nat} {g : Nat → C4} {K B : Nat → Int} {r : Nat → Int × Int} {t m : Int} (h : rnE (validW wide high n g nk nb K B) (rulesB nr r) (timesB t m) = 0) : n ≤ 1024 := by
  obtain ⟨h1, h2, h3⟩ := rnE_zero h
  obtain ⟨g1, g2, g3, g4⟩ := (validW_iff _ _ _ _ _ _ _ _).1 h1
  obtain ⟨a1, a2, a3, a4, a5, a6, a7, a8⟩ := (validG_iff _ _ _ _).1 g1
  omega
set_option maxRecDepth 100000 in
set_option maxHeartbeats 8000000 in
theorem wall_Run (wide high : Int) (a ak ab ar : Option Addr) (n nk nb nr c ck cb cr : Nat) (g : Nat → C4) (K B : Nat → Int) (r : Nat → Int × Int) (t m : Int) (w : World) (hn : n ≤ 100000000) (hnk : nk ≤ 100000000) (hnb : nb ≤ 100000000) (hnr : nr ≤ 100000000) (S : Sc w a n g) (SK : Sl w ak nk K) (SB : Sl w ab nb B) (SR : Sr w ar nr r) :
    Calls Try.prog 8 #[.agg #[.int .i64 wide, .int .i64 high, .slice a n c], .agg #[.slice ak nk ck, .slice ab nb cb], .slice ar nr cr, .int .i64 t, .int .i64 m] w (GridPost (rnE (validW wide high n g nk nb K B) (rulesB nr r) (timesB t m)) (erZ (rnE (validW wide high n g nk nb K B) (rulesB nr r) (timesB t m)) wide) (erZ (rnE (validW wide high n g nk nb K B) (rulesB nr r) (timesB t m)) high) (erN (rnE (validW wide high n g nk nb K B) (rulesB nr r) (timesB t m)) n) (runW wide.toNat high.toNat (rlAt nr r) K g t.toNat m.toNat) w) := by
  have herr := fun W' S' SK' SB' SR' => wall_asked wide high a ak ab ar n nk nb nr c ck cb cr g K B r t m W' hn hnk hnb hnr S' SK' SB' SR'
  have X0 := ((Bx.new w #[.int .i64 wide, .int .i64 high, .slice a n c] 24).alloc (.cells #[.slice ak nk ck, .slice ab nb cb] 27)).alloc (.cells #[.int .i64 0, .int .i64 0, .slice none 0 0] 24)
  have X1 := (Bx.new (w.alloc (.cells #[.int .i64 wide, .int .i64 high, .slice a n c] 24)) #[.slice ak nk ck, .slice ab nb cb] 27).alloc (.cells #[.int .i64 0, .int .i64 0, .slice none 0 0] 24)
  have X2 := Bx.new ((w.alloc (.cells #[.int .i64 wide, .int .i64 high, .slice a n c] 24)).alloc (.cells #[.slice ak nk ck, .slice ab nb cb] 27)) #[.int .i64 0, .int .i64 0, .slice none 0 0] 24
  simp only [World.size_alloc] at X1 X2
  have hB0 : Below w.heap.size w (((w.alloc (.cells #[.int .i64 wide, .int .i64 high, .slice a n c] 24)).alloc (.cells #[.slice ak nk ck, .slice ab nb cb] 27)).alloc (.cells #[.int .i64 0, .int .i64 0, .slice none 0 0] 24)) := by (repeat' (first | with_reducible assumption | with_reducible exact Below.refl _ _ | with_reducible refine Below.drew ?_ | with_reducible refine below_drewN ?_ _ | with_reducible refine balloc ?_ _ | with_reducible refine bset ?_ ?_ _ | with_reducible refine Below.setCell ?_ ?_ _ | with_reducible refine Below.alloc ?_ ?_ _ | omega | (simp; done) | (simp; omega)))
  have hcells := fun h => run_cells (wide := wide) (high := high) (n := n) (nk := nk) (nb := nb) (nr := nr) (g := g) (K := K) (B := B) (r := r) (t := t) (m := m) h
  have hgood := fun h => run_ok (wide := wide) (high := high) (n := n) (nk := nk) (nb := nb) (nr := nr) (g := g) (K := K) (B := B) (r := r) (t := t) (m := m) h
  generalize rnE (validW wide high n g nk nb K B) (rulesB nr r) (timesB t m) = er at *
  by_cases hz : er = 0
  rotate_left
  · have hzb : (er == 0) = false := by simpa using hz
    have hzc : (er != 0) = true := by simpa using hz
    have HZ := hid hz
    clear hgood hcells hz
    go_enter Try.func8, Try.ntmps8
    go_wp2_with fail
    generalize (((w.alloc (.cells #[.int .i64 wide, .int .i64 high, .slice a n c] 24)).alloc (.cells #[.slice ak nk ck, .slice ab nb cb] 27)).alloc (.cells #[.int .i64 0, .int .i64 0, .slice none 0 0] 24)) = W0 at X0 X1 X2 hB0 ⊢
    have z0 := X0.lt
    have z1 := X1.lt
    have z2 := X2.lt
    refine (herr _ (S.below hB0) (SK.below hB0) (SB.below hB0) (SR.below hB0)).mono ?_
    rintro e w1 ⟨rfl, hb1⟩
    have hB := bvia hB0 hb1
    replace X2 := X2.below hb1
    have x0 := X2.at_ 0 rfl; have x1 := X2.at_ 1 rfl; have x2 := X2.at_ 2 rfl; have xf := X2.free
    go_wp2_with fail
    refine bodyPost_ret (v := .tuple #[.agg #[.int .i64 0, .int .i64 0, .slice none 0 0], .int .i64 er]) (by simp [results, Try.results8, go_sem, x0, x1, x2]) rfl (gridPost_none HZ.out (by (repeat' (first | with_reducible assumption | with_reducible exact Below.refl _ _ | with_reducible refine Below.drew ?_ | with_reducible refine below_drewN ?_ _ | with_reducible refine balloc ?_ _ | with_reducible refine bset ?_ ?_ _ | with_reducible refine Below.setCell ?_ ?_ _ | with_reducible refine Below.alloc ?_ ?_ _ | omega | (simp; done) | (simp; omega)))))
  subst hz
  have hm := hcells rfl
  clear hcells
  obtain ⟨W, H, T, M, rfl, rfl, rfl, rfl, w1, h1, rfl, rfl, rfl, hok, hKb, hr0, hr8, hru, hT, hM, hTM⟩ := hgood rfl
  clear hgood hn hnk hnb hnr
  have hWH : W * H ≤ 4096 := Nat.mul_le_mul w1.2 h1.2
  have hn0 : 0 < W * H := Nat.mul_pos (by omega) (by omega)
  simp only [Int.toNat_natCast]
  have hcopy := fun W' S' => wall_copied W H a (W * H) c g W' (by omega) hn0 S'
  have hstep := fun p s b cap G w₀ w hv hs hB hp S' SK' SR' X' => tunnel_forth W H p s (some ⟨b, 0, none⟩) ak ab ar cap ck (W * H) cb nr cr G K r w₀ w w1 h1 hm hr0 hr8 hs hB hp S' SK' SR' X' hKb hv hru
  have HSt := hid hstep; have HOK := hid (fun i => runW_ok (r := rlAt nr r) (K := K) (t := T) hok i)
  have HTM := hid hTM
  have hrun0 : runW W H (rlAt nr r) K g T 0 = g := rfl
  have hrunS := fun i => (show runW W H (rlAt nr r) K g T (i + 1) = stepW W H (rlAt nr r (T + i)) K (runW W H (rlAt nr r) K g T i) from rfl)
  have HR0 := hid hrun0; have HRS := hid hrunS
  clear hstep hTM hru hrun0 hrunS hok hKb
  generalize runW W H (rlAt nr r) K g T = G at *
  generalize W * H = n at *
  clear X0 X1 X2 hB0
  have X0 := ((Bx.new w #[.int .i64 (W : Int), .int .i64 (H : Int), .slice a n c] 24).alloc (.cells #[.slice ak n ck, .slice ab n cb] 27)).alloc (.cells #[.int .i64 0, .int .i64 0, .slice none 0 0] 24)
  have X1 := (Bx.new (w.alloc (.cells #[.int .i64 (W : Int), .int .i64 (H : Int), .slice a n c] 24)) #[.slice ak n ck, .slice ab n cb] 27).alloc (.cells #[.int .i64 0, .int .i64 0, .slice none 0 0] 24)
  have X2 := Bx.new ((w.alloc (.cells #[.int .i64 (W : Int), .int .i64 (H : Int), .slice a n c] 24)).alloc (.cells #[.slice ak n ck, .slice ab n cb] 27)) #[.int .i64 0, .int .i64 0, .slice none 0 0] 24
  simp only [World.size_alloc] at X1 X2
  have hB0 : Below w.heap.size w (((w.alloc (.cells #[.int .i64 (W : Int), .int .i64 (H : Int), .slice a n c] 24)).alloc (.cells #[.slice ak n ck, .slice ab n cb] 27)).alloc (.cells #[.int .i64 0, .int .i64 0, .slice none 0 0] 24)) := by (repeat' (first | with_reducible assumption | with_reducible exact Below.refl _ _ | with_reducible refine Below.drew ?_ | with_reducible refine below_drewN ?_ _ | with_reducible refine balloc ?_ _ | with_reducible refine bset ?_ ?_ _ | with_reducible refine Below.setCell ?_ ?_ _ | with_reducible refine Below.alloc ?_ ?_ _ | omega | (simp; done) | (simp; omega)))
  go_enter Try.func8, Try.ntmps8
  go_wp2_with fail
  generalize (((w.alloc (.cells #[.int .i64 (W : Int), .int .i64 (H : Int), .slice a n c] 24)).alloc (.cells #[.slice ak n ck, .slice ab n cb] 27)).alloc (.cells #[.int .i64 0, .int .i64 0, .slice none 0 0] 24)) = W0 at X0 X1 X2 hB0 ⊢
  have z0 := X0.lt
  have z1 := X1.lt
  have z2 := X2.lt
  refine (herr _ (S.below hB0) (SK.below hB0) (SB.below hB0) (SR.below hB0)).mono ?_
  rintro e w1' ⟨rfl, hb1⟩
  have hB := hB0
  clear hB0 herr
  replace X0 := X0.below hb1
  replace X1 := X1.below hb1
  replace X2 := X2.below hb1
  replace hB := bvia hB hb1
  clear hb1
  have hz1 : w.heap.size + 1 + 1 < w1'.heap.size := X2.lt
  go_upto_region 4 with (fail)
  have r0 : ∀ X, Below w1'.heap.size w1' X → X.cell? ⟨w.heap.size, 0, none⟩ = some (.int .i64 (W : Int)) := fun X h => (X0.below h).at_ 0 rfl
  have r1 : ∀ X, Below w1'.heap.size w1' X → X.cell? ⟨w.heap.size, 1, none⟩ = some (.int .i64 (H : Int)) := fun X h => (X0.below h).at_ 1 rfl
  have r2 : ∀ X, Below w1'.heap.size w1' X → X.cell? ⟨w.heap.size, 2, none⟩ = some (.slice a n c) := fun X h => (X0.below h).at_ 2 rfl
  have r3 : ∀ X, Below w1'.heap.size w1' X → X.cell? ⟨w.heap.size + 1, 0, none⟩ = some (.slice ak n ck) := fun X h => (X1.below h).at_ 0 rfl
  have r4 : ∀ X, Below w1'.heap.size w1' X → X.cell? ⟨w.heap.size + 1, 1, none⟩ = some (.slice ab n cb) := fun X h => (X1.below h).at_ 1 rfl
  refine wp_region_S (fun X => Below w1'.heap.size w1' X) 7 (by kernel_rfl) ?_
  refine anyS_take (i := 0) rfl (by kernel_rfl) (fun _ _ _ h => h) (Or.inl ⟨by rfl, fun Y hYb => (by (try dsimp only at hYb); go_simp; rfl)⟩) (by repeat' (first | with_reducible assumption | with_reducible exact Below.refl _ _ | with_reducible refine Below.drew ?_ | with_reducible refine below_drewN ?_ _)) ?_
  refine anyS_take (i := 2) rfl (by kernel_rfl) (fun _ _ _ h => h) (Or.inl ⟨by rfl, fun Y hYb => (by (try dsimp only at hYb); go_simp; rfl)⟩) (by repeat' (first | with_reducible assumption | with_reducible exact Below.refl _ _ | with_reducible refine Below.drew ?_ | with_reducible refine below_drewN ?_ _)) ?_
  refine anyS_take (i := 3) rfl (by kernel_rfl) (fun _ _ _ h => h) (Or.inl ⟨by rfl, fun Y hYb => (by (try dsimp only at hYb); go_simp; rfl)⟩) (by repeat' (first | with_reducible assumption | with_reducible exact Below.refl _ _ | with_reducible refine Below.drew ?_ | with_reducible refine below_drewN ?_ _)) ?_
  refine anyS_one (i := 1) (by kernel_rfl) rfl (by rfl) (fun K hK => ?_)
  go_simp
  refine (hcopy _ ((S.below hB).below (Below.refl _ w1').drew)).mono ?_
  rintro e w2 ⟨b, cap, rfl, hb, R, hcap, hb2⟩
  dsimp only
  have hS2 : Below w1'.heap.size w1' w2 := bvia (Below.refl _ w1').drew hb2
  refine hK _ _ (fun _ _ => hS2) ?_
  clear hK K hb2
  refine anyS_take (i := 4) rfl (by kernel_rfl) (fun _ _ _ h => h) (Or.inl ⟨by rfl, fun Y hYb => (by (try dsimp only at hYb); go_simp; rfl)⟩) (by repeat' (first | with_reducible assumption | with_reducible exact Below.refl _ _ | with_reducible refine Below.drew ?_ | with_reducible refine below_drewN ?_ _)) ?_
  refine anyS_one (i := 5) (by kernel_rfl) rfl (by rfl) (fun K hK => ?_)
  go_simp
  have hS3 : Below w1'.heap.size w1' (w2.alloc (.cells #[.int .i64 (W : Int), .int .i64 (H : Int), .slice (some ⟨b, 0, none⟩) n cap, .slice ak n ck, .slice ab n cb, .slice ar nr cr] 61)) := balloc hS2 _
  have hs2 := hS2.size
  refine hK _ _ (fun _ _ => hS3) ?_
  clear hK
  replace X2 := X2.below hS3
  replace hB := bvia hB hS3
  replace R := R.alloc (.cells #[.int .i64 (W : Int), .int .i64 (H : Int), .slice (some ⟨b, 0, none⟩) n cap, .slice ak n ck, .slice ab n cb, .slice ar nr cr] 61)
  have XT := Bx.new w2 #[.int .i64 (W : Int), .int .i64 (H : Int), .slice (some ⟨b, 0, none⟩) n cap, .slice ak n ck, .slice ab n cb, .slice ar nr cr] 61
  clear hcopy hS2
  have hpw : w.heap.size + 1 + 1 < w2.heap.size := by omega
  generalize w2.alloc (.cells #[.int .i64 (W : Int), .int .i64 (H : Int), .slice (some ⟨b, 0, none⟩) n cap, .slice ak n ck, .slice ab n cb, .slice ar nr cr] 61) = W2 at *
  generalize w2.heap.size = p at *
  refine anyS_take (i := 6) rfl (by kernel_rfl) (fun _ _ _ h => h) (Or.inl ⟨by rfl, fun Y hYb => (by (try dsimp only at hYb); go_simp; rfl)⟩) (by repeat' (first | with_reducible assumption | with_reducible exact Below.refl _ _ | with_reducible refine Below.drew ?_ | with_reducible refine below_drewN ?_ _)) ?_
  refine anyS_done (by kernel_rfl) ?_ _
  clear r0 r1 r2 r3 r4 X0 X1 hS3
  go_wp2_with fail
  rw [← HR0.out] at R
  go_loopw [32] (fun s32 wr => ∃ i : Nat, i ≤ M ∧ s32 = .int .i64 i ∧ (∃ b cap, Bx wr p #[.int .i64 (W : Int), .int .i64 (H : Int), .slice (some ⟨b, 0, none⟩) n cap, .slice ak n ck, .slice ab n cb, .slice ar nr cr] ∧ Ro wr b (n * 4) (flatC (G i)) ∧ w.heap.size + 1 + 1 < b) ∧ Bx wr (w.heap.size + 1 + 1) #[.int .i64 0, .int .i64 0, .slice none 0 0] ∧ Below w.heap.size w wr) (fun s32 _ => M - (intOf s32).toNat)
  case atStart => exact ⟨0, Nat.zero_le _, rfl, ⟨b, cap, XT, R, by have h : w1'.heap.size ≤ b := hb; omega⟩, X2, hB⟩
  case round =>
    clear XT X2 R hB
    obtain ⟨i, hi, rfl, ⟨b, cap, XT, R, hbb⟩, X2, hB⟩ := hrel
    by_cases hlt : i < M
    · have hti := HTM.out i hlt
      have hsi := IntWalk.i64_in ((T : Int) + (i : Int)) (by omega)
      have hsn : (((T + i : Nat)) : Int) = (T : Int) + (i : Int) := by simp
      have hst := HSt.out p (T + i) b cap (G i) w wr (HOK.out i) hti hB (by omega) R.sc SK SR XT
      rw [← HRS.out i, hsn] at hst
      have hs0 := hB.size
      clear hsn
      have l2 := X2.lt
      go_wp2_with fail
      refine hst.mono ?_
      rintro e w3 ⟨b', cap', ⟨v, rfl⟩, XT', R', hb', hbut⟩
      have X2' := X2.but hbut (by omega)
      have hB' := below_but hB hbut (by omega)
      clear XT R X2 hB hst hbut
      go_wp2_with fail
      go_roundw
      case rel => exact ⟨i + 1, by omega, by go_num, ⟨b', cap', XT', R', by omega⟩, X2', hB'⟩
      case measure => simp [intOf] <;> omega
    · obtain rfl : i = M := (by omega)
      have xt0 := XT.at_ 0 rfl; have xt1 := XT.at_ 1 rfl; have xt2 := XT.at_ 2 rfl
      have X2_0 := X2.at_ 0 rfl
      have X2_1 := X2.at_ 1 rfl
      have X2_2 := X2.at_ 2 rfl
      have X2f := X2.free
      have X2z := X2.lt
      go_wp2_with fail
      refine bodyPost_ret (v := .tuple #[.agg #[.int .i64 (W : Int), .int .i64 (H : Int), .slice (some ⟨b, 0, none⟩) n cap], .int .i64 0]) (by simp [results, Try.results8, go_sem, X2_0, X2_1, X2_2]) rfl (gridPost_row (by (repeat' (first | with_reducible assumption | with_reducible refine Ro.drew ?_ | with_reducible refine Ro.drewN ?_ _ | with_reducible refine Ro.alloc ?_ _ | with_reducible refine Ro.far ?_ ?_ _ | (show _ ≠ _; dsimp only; omega)))) (by omega) (by (repeat' (first | with_reducible assumption | with_reducible exact Below.refl _ _ | with_reducible refine Below.drew ?_ | with_reducible refine below_drewN ?_ _ | with_reducible refine balloc ?_ _ | with_reducible refine bset ?_ ?_ _ | with_reducible refine Below.setCell ?_ ?_ _ | with_reducible refine Below.alloc ?_ ?_ _ | omega | (simp; done) | (simp; omega)))))
end Go.Proofs.Ythlbmlfkmfheiaa
