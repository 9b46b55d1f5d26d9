/- Walks: the reference's Step and Back of a grid in walls. -/
import Derived.Test.YtnnaegnkkpknpaaRefRun
namespace Go.Proofs.Ytnnaegnkkpknpaa
open Go Go.RowKit
set_option linter.unusedVariables false
set_option maxRecDepth 100000 in
set_option maxHeartbeats 8000000 in
theorem ref3_Step (wide high : Int) (a ak ab ar : Option Addr) (n nk nb nr c ck cb cr : Nat) (g : Nat → C4) (K B : Nat → Int) (r : Nat → Int × Int) (t : Int) (w : World) (hn : n ≤ 100000000) (hnk : nk ≤ 100000000) (hnb : nb ≤ 100000000) (hnr : nr ≤ 100000000) (S : Sc w a n g) (SK : Sl w ak nk K) (SB : Sl w ab nb B) (SR : Sr w ar nr r) :
    Calls Try.prog 51 #[.agg #[.int .i64 wide, .int .i64 high, .slice a n c], .agg #[.slice ak nk ck, .slice ab nb cb], .slice ar nr cr, .int .i64 t] w (GridPost (rnE (validW wide high n g nk nb K B) (rulesB nr r) (timesB t 1)) (erZ (rnE (validW wide high n g nk nb K B) (rulesB nr r) (timesB t 1)) wide) (erZ (rnE (validW wide high n g nk nb K B) (rulesB nr r) (timesB t 1)) high) (erN (rnE (validW wide high n g nk nb K B) (rulesB nr r) (timesB t 1)) n) (stepW wide.toNat high.toNat (rlAt nr r t.toNat) K g) w) := by
  have herr := fun W' S' SK' SB' SR' => ref3_runError wide high a ak ab ar n nk nb nr c ck cb cr g K B r t 1 W' hn hnk hnb hnr S' SK' SB' SR'
  have X0 := ((Bx.new w #[.int .i64 wide, .int .i64 high, .slice a n c] 24).alloc (.cells #[.slice ak nk ck, .slice ab nb cb] 27)).alloc (.cells #[.int .i64 0, .int .i64 0, .slice none 0 0] 24)
  have X1 := (Bx.new (w.alloc (.cells #[.int .i64 wide, .int .i64 high, .slice a n c] 24)) #[.slice ak nk ck, .slice ab nb cb] 27).alloc (.cells #[.int .i64 0, .int .i64 0, .slice none 0 0] 24)
  have X2 := Bx.new ((w.alloc (.cells #[.int .i64 wide, .int .i64 high, .slice a n c] 24)).alloc (.cells #[.slice ak nk ck, .slice ab nb cb] 27)) #[.int .i64 0, .int .i64 0, .slice none 0 0] 24
  simp only [World.size_alloc] at X1 X2
  have hB0 : Below w.heap.size w (((w.alloc (.cells #[.int .i64 wide, .int .i64 high, .slice a n c] 24)).alloc (.cells #[.slice ak nk ck, .slice ab nb cb] 27)).alloc (.cells #[.int .i64 0, .int .i64 0, .slice none 0 0] 24)) := by (repeat' (first | with_reducible assumption | with_reducible exact Below.refl _ _ | with_reducible refine Below.drew ?_ | with_reducible refine below_drewN ?_ _ | with_reducible refine balloc ?_ _ | with_reducible refine bset ?_ ?_ _ | with_reducible refine Below.setCell ?_ ?_ _ | with_reducible refine Below.alloc ?_ ?_ _ | omega | (simp; done) | (simp; omega)))
  have hgood := fun h => run_ok (wide := wide) (high := high) (n := n) (nk := nk) (nb := nb) (nr := nr) (g := g) (K := K) (B := B) (r := r) (t := t) (m := 1) h
  generalize rnE (validW wide high n g nk nb K B) (rulesB nr r) (timesB t 1) = er at *
  by_cases hz : er = 0
  rotate_left
  · have hzb : (er == 0) = false := by simpa using hz
    have hzc : (er != 0) = true := by simpa using hz
    have HZ := hid hz
    clear hgood hz
    go_enter Try.func51, Try.ntmps51
    go_wp2_with fail
    generalize (((w.alloc (.cells #[.int .i64 wide, .int .i64 high, .slice a n c] 24)).alloc (.cells #[.slice ak nk ck, .slice ab nb cb] 27)).alloc (.cells #[.int .i64 0, .int .i64 0, .slice none 0 0] 24)) = W0 at X0 X1 X2 hB0 ⊢
    have z0 := X0.lt
    have z1 := X1.lt
    have z2 := X2.lt
    refine (herr _ (S.below hB0) (SK.below hB0) (SB.below hB0) (SR.below hB0)).mono ?_
    rintro e w1 ⟨rfl, hb1⟩
    have hB := bvia hB0 hb1
    replace X2 := X2.below hb1
    have x0 := X2.at_ 0 rfl; have x1 := X2.at_ 1 rfl; have x2 := X2.at_ 2 rfl; have xf := X2.free
    go_wp2_with fail
    refine bodyPost_ret (v := .tuple #[.agg #[.int .i64 0, .int .i64 0, .slice none 0 0], .int .i64 er]) (by simp [results, Try.results51, go_sem, x0, x1, x2]) rfl (gridPost_none HZ.out (by (repeat' (first | with_reducible assumption | with_reducible exact Below.refl _ _ | with_reducible refine Below.drew ?_ | with_reducible refine below_drewN ?_ _ | with_reducible refine balloc ?_ _ | with_reducible refine bset ?_ ?_ _ | with_reducible refine Below.setCell ?_ ?_ _ | with_reducible refine Below.alloc ?_ ?_ _ | omega | (simp; done) | (simp; omega)))))
  subst hz
  obtain ⟨W, H, T, M, rfl, rfl, rfl, hM1, w1, h1, rfl, rfl, rfl, hok, hKb, hr0, hr8, hru, hT, hM, hTM⟩ := hgood rfl
  clear hgood hn hnk hnb hnr
  have hWH : W * H ≤ 4096 := Nat.mul_le_mul w1.2 h1.2
  have hn0 : 0 < W * H := Nat.mul_pos (by omega) (by omega)
  simp only [Int.toNat_natCast]
  have hrl := fun W' S' => ref1_rule ar nr cr T r W' hr0 hr8 hT S'
  have hst := fun W' S' SK' => ref3_step W H a ak ab c ck (W * H) cb g K (rlAt nr r T).1 (rlAt nr r T).2 W' w1 h1 S' SK' hKb hok (hru T)
  change ∀ W' S', Calls _ _ _ _ (fun e w' => e = .returned (.agg #[.int .i64 (rlAt nr r T).1, .int .i64 (rlAt nr r T).2]) ∧ _) at hrl
  rw [show ((rlAt nr r T).1, (rlAt nr r T).2) = rlAt nr r T from rfl] at hst
  clear hru hKb hok hTM hM hM1
  generalize rlAt nr r T = q at *
  generalize stepW W H q K g = G at *
  generalize W * H = n at *
  clear X0 X1 X2 hB0
  have X0 := ((Bx.new w #[.int .i64 (W : Int), .int .i64 (H : Int), .slice a n c] 24).alloc (.cells #[.slice ak n ck, .slice ab n cb] 27)).alloc (.cells #[.int .i64 0, .int .i64 0, .slice none 0 0] 24)
  have X1 := (Bx.new (w.alloc (.cells #[.int .i64 (W : Int), .int .i64 (H : Int), .slice a n c] 24)) #[.slice ak n ck, .slice ab n cb] 27).alloc (.cells #[.int .i64 0, .int .i64 0, .slice none 0 0] 24)
  have X2 := Bx.new ((w.alloc (.cells #[.int .i64 (W : Int), .int .i64 (H : Int), .slice a n c] 24)).alloc (.cells #[.slice ak n ck, .slice ab n cb] 27)) #[.int .i64 0, .int .i64 0, .slice none 0 0] 24
  simp only [World.size_alloc] at X1 X2
  have hB0 : Below w.heap.size w (((w.alloc (.cells #[.int .i64 (W : Int), .int .i64 (H : Int), .slice a n c] 24)).alloc (.cells #[.slice ak n ck, .slice ab n cb] 27)).alloc (.cells #[.int .i64 0, .int .i64 0, .slice none 0 0] 24)) := by (repeat' (first | with_reducible assumption | with_reducible exact Below.refl _ _ | with_reducible refine Below.drew ?_ | with_reducible refine below_drewN ?_ _ | with_reducible refine balloc ?_ _ | with_reducible refine bset ?_ ?_ _ | with_reducible refine Below.setCell ?_ ?_ _ | with_reducible refine Below.alloc ?_ ?_ _ | omega | (simp; done) | (simp; omega)))
  go_enter Try.func51, Try.ntmps51
  go_wp2_with fail
  generalize (((w.alloc (.cells #[.int .i64 (W : Int), .int .i64 (H : Int), .slice a n c] 24)).alloc (.cells #[.slice ak n ck, .slice ab n cb] 27)).alloc (.cells #[.int .i64 0, .int .i64 0, .slice none 0 0] 24)) = W0 at X0 X1 X2 hB0 ⊢
  have z0 := X0.lt
  have z1 := X1.lt
  have z2 := X2.lt
  refine (herr _ (S.below hB0) (SK.below hB0) (SB.below hB0) (SR.below hB0)).mono ?_
  rintro e w1' ⟨rfl, hb1⟩
  have hB := hB0
  clear hB0 herr
  replace X0 := X0.below hb1
  replace X1 := X1.below hb1
  replace X2 := X2.below hb1
  replace hB := bvia hB hb1
  clear hb1
  have hz1 : w.heap.size + 1 + 1 < w1'.heap.size := X2.lt
  go_upto_region 4 with (fail)
  have r0 : ∀ X, Below w1'.heap.size w1' X → X.cell? ⟨w.heap.size, 0, none⟩ = some (.int .i64 (W : Int)) := fun X h => (X0.below h).at_ 0 rfl
  have r1 : ∀ X, Below w1'.heap.size w1' X → X.cell? ⟨w.heap.size, 1, none⟩ = some (.int .i64 (H : Int)) := fun X h => (X0.below h).at_ 1 rfl
  have r2 : ∀ X, Below w1'.heap.size w1' X → X.cell? ⟨w.heap.size, 2, none⟩ = some (.slice a n c) := fun X h => (X0.below h).at_ 2 rfl
  have r3 : ∀ X, Below w1'.heap.size w1' X → X.cell? ⟨w.heap.size + 1, 0, none⟩ = some (.slice ak n ck) := fun X h => (X1.below h).at_ 0 rfl
  have r4 : ∀ X, Below w1'.heap.size w1' X → X.cell? ⟨w.heap.size + 1, 1, none⟩ = some (.slice ab n cb) := fun X h => (X1.below h).at_ 1 rfl
  refine wp_region_S (fun X => Below w1'.heap.size w1' X) 6 (by kernel_rfl) ?_
  refine anyS_take (i := 0) rfl (by kernel_rfl) (fun _ _ _ h => h) (Or.inl ⟨by rfl, fun Y hYb => (by (try dsimp only at hYb); go_simp; rfl)⟩) (by repeat' (first | with_reducible assumption | with_reducible exact Below.refl _ _ | with_reducible refine Below.drew ?_ | with_reducible refine below_drewN ?_ _)) ?_
  refine anyS_take (i := 1) rfl (by kernel_rfl) (fun _ _ _ h => h) (Or.inl ⟨by rfl, fun Y hYb => (by (try dsimp only at hYb); go_simp; rfl)⟩) (by repeat' (first | with_reducible assumption | with_reducible exact Below.refl _ _ | with_reducible refine Below.drew ?_ | with_reducible refine below_drewN ?_ _)) ?_
  refine anyS_take (i := 2) rfl (by kernel_rfl) (fun _ _ _ h => h) (Or.inl ⟨by rfl, fun Y hYb => (by (try dsimp only at hYb); go_simp; rfl)⟩) (by repeat' (first | with_reducible assumption | with_reducible exact Below.refl _ _ | with_reducible refine Below.drew ?_ | with_reducible refine below_drewN ?_ _)) ?_
  refine anyS_take (i := 3) rfl (by kernel_rfl) (fun _ _ _ h => h) (Or.inl ⟨by rfl, fun Y hYb => (by (try dsimp only at hYb); go_simp; rfl)⟩) (by repeat' (first | with_reducible assumption | with_reducible exact Below.refl _ _ | with_reducible refine Below.drew ?_ | with_reducible refine below_drewN ?_ _)) ?_
  refine anyS_one (i := 4) (by kernel_rfl) rfl (by rfl) (fun K hK => ?_)
  go_simp
  refine (hrl _ ((SR.below hB).below (Below.refl _ w1').drew)).mono ?_
  rintro e w3 ⟨rfl, hb3⟩
  dsimp only
  have hS3 : Below w1'.heap.size w1' w3 := bvia (Below.refl _ w1').drew hb3
  refine hK _ _ (fun _ _ => hS3) ?_
  clear hK K
  refine anyS_one (i := 5) (by kernel_rfl) rfl (by rfl) (fun K hK => ?_)
  go_simp
  refine (hst _ ((S.below hB).below hS3) ((SK.below hB).below hS3)).mono ?_
  rintro e w4 ⟨b, cap, rfl, hb', R, hcap', hb4⟩
  dsimp only
  have hS4 : Below w1'.heap.size w1' w4 := bvia hS3 hb4
  have hs4 := hS3.size
  refine hK _ _ (fun _ _ => hS4) ?_
  clear hK
  replace X2 := X2.below hS4
  replace hB := bvia hB hS4
  have X2_0 := X2.at_ 0 rfl
  have X2_1 := X2.at_ 1 rfl
  have X2_2 := X2.at_ 2 rfl
  have X2f := X2.free
  have X2z := X2.lt
  clear r0 r1 r2 r3 r4
  refine anyS_one (i := 6) (by kernel_rfl) rfl (by rfl) (fun K hK => ?_)
  go_simp
  refine hK _ _ (fun h _ => absurd h (by decide)) ?_
  clear hK
  refine anyS_one (i := 7) (by kernel_rfl) rfl (by rfl) (fun K hK => ?_)
  go_simp
  refine hK _ _ (fun h _ => absurd h (by decide)) ?_
  clear hK K
  refine anyS_done (by kernel_rfl) ?_ _
  clear X2_0 X2_1 X2_2 X2f X2z
  replace R := (((R.far (p := ⟨w.heap.size + 1 + 1, 0, none⟩) (by first | (simp; done) | (simp; omega) | (dsimp only; omega)) (.int .i64 (W : Int))).far (p := ⟨w.heap.size + 1 + 1, 1, none⟩) (by first | (simp; done) | (simp; omega) | (dsimp only; omega)) (.int .i64 (H : Int))).far (p := ⟨w.heap.size + 1 + 1, 2, none⟩) (by first | (simp; done) | (simp; omega) | (dsimp only; omega)) (.slice (some ⟨b, 0, none⟩) n cap))
  replace X2 : Bx _ (w.heap.size + 1 + 1) #[.int .i64 (W : Int), .int .i64 (H : Int), .slice (some ⟨b, 0, none⟩) n cap] := (((X2.set_ 0 (by simp) (.int .i64 (W : Int))).set_ 1 (by simp) (.int .i64 (H : Int))).set_ 2 (by simp) (.slice (some ⟨b, 0, none⟩) n cap))
  replace hB := (bset (bset (bset hB (p := ⟨w.heap.size + 1 + 1, 0, none⟩) (by first | exact Nat.le_refl _ | (simp; done) | (simp; omega)) (.int .i64 (W : Int))) (p := ⟨w.heap.size + 1 + 1, 1, none⟩) (by first | exact Nat.le_refl _ | (simp; done) | (simp; omega)) (.int .i64 (H : Int))) (p := ⟨w.heap.size + 1 + 1, 2, none⟩) (by first | exact Nat.le_refl _ | (simp; done) | (simp; omega)) (.slice (some ⟨b, 0, none⟩) n cap))
  have X2_0 := X2.at_ 0 rfl
  have X2_1 := X2.at_ 1 rfl
  have X2_2 := X2.at_ 2 rfl
  go_wp2_with fail
  refine bodyPost_ret (v := .tuple #[.agg #[.int .i64 (W : Int), .int .i64 (H : Int), .slice (some ⟨b, 0, none⟩) n cap], .int .i64 0]) (by simp [results, Try.results51, go_sem, X2_0, X2_1, X2_2]) rfl (gridPost_row (by (repeat' (first | with_reducible assumption | with_reducible refine Ro.drew ?_ | with_reducible refine Ro.drewN ?_ _ | with_reducible refine Ro.alloc ?_ _ | with_reducible refine Ro.far ?_ ?_ _ | (show _ ≠ _; dsimp only; omega)))) (by omega) (by (repeat' (first | with_reducible assumption | with_reducible exact Below.refl _ _ | with_reducible refine Below.drew ?_ | with_reducible refine below_drewN ?_ _ | with_reducible refine balloc ?_ _ | with_reducible refine bset ?_ ?_ _ | with_reducible refine Below.setCell ?_ ?_ _ | with_reducible refine Below.alloc ?_ ?_ _ | omega | (simp; done) | (simp; omega)))))
set_option maxRecDepth 100000 in
set_option maxHeartbeats 8000000 in
theorem ref3_Back (wide high : Int) (a ak ab ar : Option Addr) (n nk nb nr c ck cb cr : Nat) (g : Nat → C4) (K B : Nat → Int) (r : Nat → Int × Int) (t : Int) (w : World) (hn : n ≤ 100000000) (hnk : nk ≤ 100000000) (hnb : nb ≤ 100000000) (hnr : nr ≤ 100000000) (S : Sc w a n g) (SK : Sl w ak nk K) (SB : Sl w ab nb B) (SR : Sr w ar nr r) :
    Calls Try.prog 53 #[.agg #[.int .i64 wide, .int .i64 high, .slice a n c], .agg #[.slice ak nk ck, .slice ab nb cb], .slice ar nr cr, .int .i64 t] w (GridPost (rnE (validW wide high n g nk nb K B) (rulesB nr r) (timesB t 1)) (erZ (rnE (validW wide high n g nk nb K B) (rulesB nr r) (timesB t 1)) wide) (erZ (rnE (validW wide high n g nk nb K B) (rulesB nr r) (timesB t 1)) high) (erN (rnE (validW wide high n g nk nb K B) (rulesB nr r) (timesB t 1)) n) (backW wide.toNat high.toNat (rlAt nr r t.toNat) K g) w) := by
  have herr := fun W' S' SK' SB' SR' => ref3_runError wide high a ak ab ar n nk nb nr c ck cb cr g K B r t 1 W' hn hnk hnb hnr S' SK' SB' SR'
  have X0 := ((Bx.new w #[.int .i64 wide, .int .i64 high, .slice a n c] 24).alloc (.cells #[.slice ak nk ck, .slice ab nb cb] 27)).alloc (.cells #[.int .i64 0, .int .i64 0, .slice none 0 0] 24)
  have X1 := (Bx.new (w.alloc (.cells #[.int .i64 wide, .int .i64 high, .slice a n c] 24)) #[.slice ak nk ck, .slice ab nb cb] 27).alloc (.cells #[.int .i64 0, .int .i64 0, .slice none 0 0] 24)
  have X2 := Bx.new ((w.alloc (.cells #[.int .i64 wide, .int .i64 high, .slice a n c] 24)).alloc (.cells #[.slice ak nk ck, .slice ab nb cb] 27)) #[.int .i64 0, .int .i64 0, .slice none 0 0] 24
  simp only [World.size_alloc] at X1 X2
  have hB0 : Below w.heap.size w (((w.alloc (.cells #[.int .i64 wide, .int .i64 high, .slice a n c] 24)).alloc (.cells #[.slice ak nk ck, .slice ab nb cb] 27)).alloc (.cells #[.int .i64 0, .int .i64 0, .slice none 0 0] 24)) := by (repeat' (first | with_reducible assumption | with_reducible exact Below.refl _ _ | with_reducible refine Below.drew ?_ | with_reducible refine below_drewN ?_ _ | with_reducible refine balloc ?_ _ | with_reducible refine bset ?_ ?_ _ | with_reducible refine Below.setCell ?_ ?_ _ | with_reducible refine Below.alloc ?_ ?_ _ | omega | (simp; done) | (simp; omega)))
  have hgood := fun h => run_ok (wide := wide) (high := high) (n := n) (nk := nk) (nb := nb) (nr := nr) (g := g) (K := K) (B := B) (r := r) (t := t) (m := 1) h
  generalize rnE (validW wide high n g nk nb K B) (rulesB nr r) (timesB t 1) = er at *
  by_cases hz : er = 0
  rotate_left
  · have hzb : (er == 0) = false := by simpa using hz
    have hzc : (er != 0) = true := by simpa using hz
    have HZ := hid hz
    clear hgood hz
    go_enter Try.func53, Try.ntmps53
    go_wp2_with fail
    generalize (((w.alloc (.cells #[.int .i64 wide, .int .i64 high, .slice a n c] 24)).alloc (.cells #[.slice ak nk ck, .slice ab nb cb] 27)).alloc (.cells #[.int .i64 0, .int .i64 0, .slice none 0 0] 24)) = W0 at X0 X1 X2 hB0 ⊢
    have z0 := X0.lt
    have z1 := X1.lt
    have z2 := X2.lt
    refine (herr _ (S.below hB0) (SK.below hB0) (SB.below hB0) (SR.below hB0)).mono ?_
    rintro e w1 ⟨rfl, hb1⟩
    have hB := bvia hB0 hb1
    replace X2 := X2.below hb1
    have x0 := X2.at_ 0 rfl; have x1 := X2.at_ 1 rfl; have x2 := X2.at_ 2 rfl; have xf := X2.free
    go_wp2_with fail
    refine bodyPost_ret (v := .tuple #[.agg #[.int .i64 0, .int .i64 0, .slice none 0 0], .int .i64 er]) (by simp [results, Try.results53, go_sem, x0, x1, x2]) rfl (gridPost_none HZ.out (by (repeat' (first | with_reducible assumption | with_reducible exact Below.refl _ _ | with_reducible refine Below.drew ?_ | with_reducible refine below_drewN ?_ _ | with_reducible refine balloc ?_ _ | with_reducible refine bset ?_ ?_ _ | with_reducible refine Below.setCell ?_ ?_ _ | with_reducible refine Below.alloc ?_ ?_ _ | omega | (simp; done) | (simp; omega)))))
  subst hz
  obtain ⟨W, H, T, M, rfl, rfl, rfl, hM1, w1, h1, rfl, rfl, rfl, hok, hKb, hr0, hr8, hru, hT, hM, hTM⟩ := hgood rfl
  clear hgood hn hnk hnb hnr
  have hWH : W * H ≤ 4096 := Nat.mul_le_mul w1.2 h1.2
  have hn0 : 0 < W * H := Nat.mul_pos (by omega) (by omega)
  simp only [Int.toNat_natCast]
  have hrl := fun W' S' => ref1_rule ar nr cr T r W' hr0 hr8 hT S'
  have hst := fun W' S' SK' => ref3_back W H a ak ab c ck (W * H) cb g K (rlAt nr r T).1 (rlAt nr r T).2 W' w1 h1 S' SK' hKb hok (hru T)
  change ∀ W' S', Calls _ _ _ _ (fun e w' => e = .returned (.agg #[.int .i64 (rlAt nr r T).1, .int .i64 (rlAt nr r T).2]) ∧ _) at hrl
  rw [show ((rlAt nr r T).1, (rlAt nr r T).2) = rlAt nr r T from rfl] at hst
  clear hru hKb hok hTM hM hM1
  generalize rlAt nr r T = q at *
  generalize backW W H q K g = G at *
  generalize W * H = n at *
  clear X0 X1 X2 hB0
  have X0 := ((Bx.new w #[.int .i64 (W : Int), .int .i64 (H : Int), .slice a n c] 24).alloc (.cells #[.slice ak n ck, .slice ab n cb] 27)).alloc (.cells #[.int .i64 0, .int .i64 0, .slice none 0 0] 24)
  have X1 := (Bx.new (w.alloc (.cells #[.int .i64 (W : Int), .int .i64 (H : Int), .slice a n c] 24)) #[.slice ak n ck, .slice ab n cb] 27).alloc (.cells #[.int .i64 0, .int .i64 0, .slice none 0 0] 24)
  have X2 := Bx.new ((w.alloc (.cells #[.int .i64 (W : Int), .int .i64 (H : Int), .slice a n c] 24)).alloc (.cells #[.slice ak n ck, .slice ab n cb] 27)) #[.int .i64 0, .int .i64 0, .slice none 0 0] 24
  simp only [World.size_alloc] at X1 X2
  have hB0 : Below w.heap.size w (((w.alloc (.cells #[.int .i64 (W : Int), .int .i64 (H : Int), .slice a n c] 24)).alloc (.cells #[.slice ak n ck, .slice ab n cb] 27)).alloc (.cells #[.int .i64 0, .int .i64 0, .slice none 0 0] 24)) := by (repeat' (first | with_reducible assumption | with_reducible exact Below.refl _ _ | with_reducible refine Below.drew ?_ | with_reducible refine below_drewN ?_ _ | with_reducible refine balloc ?_ _ | with_reducible refine bset ?_ ?_ _ | with_reducible refine Below.setCell ?_ ?_ _ | with_reducible refine Below.alloc ?_ ?_ _ | omega | (simp; done) | (simp; omega)))
  go_enter Try.func53, Try.ntmps53
  go_wp2_with fail
  generalize (((w.alloc (.cells #[.int .i64 (W : Int), .int .i64 (H : Int), .slice a n c] 24)).alloc (.cells #[.slice ak n ck, .slice ab n cb] 27)).alloc (.cells #[.int .i64 0, .int .i64 0, .slice none 0 0] 24)) = W0 at X0 X1 X2 hB0 ⊢
  have z0 := X0.lt
  have z1 := X1.lt
  have z2 := X2.lt
  refine (herr _ (S.below hB0) (SK.below hB0) (SB.below hB0) (SR.below hB0)).mono ?_
  rintro e w1' ⟨rfl, hb1⟩
  have hB := hB0
  clear hB0 herr
  replace X0 := X0.below hb1
  replace X1 := X1.below hb1
  replace X2 := X2.below hb1
  replace hB := bvia hB hb1
  clear hb1
  have hz1 : w.heap.size + 1 + 1 < w1'.heap.size := X2.lt
  go_upto_region 4 with (fail)
  have r0 : ∀ X, Below w1'.heap.size w1' X → X.cell? ⟨w.heap.size, 0, none⟩ = some (.int .i64 (W : Int)) := fun X h => (X0.below h).at_ 0 rfl
  have r1 : ∀ X, Below w1'.heap.size w1' X → X.cell? ⟨w.heap.size, 1, none⟩ = some (.int .i64 (H : Int)) := fun X h => (X0.below h).at_ 1 rfl
  have r2 : ∀ X, Below w1'.heap.size w1' X → X.cell? ⟨w.heap.size, 2, none⟩ = some (.slice a n c) := fun X h => (X0.below h).at_ 2 rfl
  have r3 : ∀ X, Below w1'.heap.size w1' X → X.cell? ⟨w.heap.size + 1, 0, none⟩ = some (.slice ak n ck) := fun X h => (X1.below h).at_ 0 rfl
  have r4 : ∀ X, Below w1'.heap.size w1' X → X.cell? ⟨w.heap.size + 1, 1, none⟩ = some (.slice ab n cb) := fun X h => (X1.below h).at_ 1 rfl
  refine wp_region_S (fun X => Below w1'.heap.size w1' X) 6 (by kernel_rfl) ?_
  refine anyS_take (i := 0) rfl (by kernel_rfl) (fun _ _ _ h => h) (Or.inl ⟨by rfl, fun Y hYb => (by (try dsimp only at hYb); go_simp; rfl)⟩) (by repeat' (first | with_reducible assumption | with_reducible exact Below.refl _ _ | with_reducible refine Below.drew ?_ | with_reducible refine below_drewN ?_ _)) ?_
  refine anyS_take (i := 1) rfl (by kernel_rfl) (fun _ _ _ h => h) (Or.inl ⟨by rfl, fun Y hYb => (by (try dsimp only at hYb); go_simp; rfl)⟩) (by repeat' (first | with_reducible assumption | with_reducible exact Below.refl _ _ | with_reducible refine Below.drew ?_ | with_reducible refine below_drewN ?_ _)) ?_
  refine anyS_take (i := 2) rfl (by kernel_rfl) (fun _ _ _ h => h) (Or.inl ⟨by rfl, fun Y hYb => (by (try dsimp only at hYb); go_simp; rfl)⟩) (by repeat' (first | with_reducible assumption | with_reducible exact Below.refl _ _ | with_reducible refine Below.drew ?_ | with_reducible refine below_drewN ?_ _)) ?_
  refine anyS_take (i := 3) rfl (by kernel_rfl) (fun _ _ _ h => h) (Or.inl ⟨by rfl, fun Y hYb => (by (try dsimp only at hYb); go_simp; rfl)⟩) (by repeat' (first | with_reducible assumption | with_reducible exact Below.refl _ _ | with_reducible refine Below.drew ?_ | with_reducible refine below_drewN ?_ _)) ?_
  refine anyS_one (i := 4) (by kernel_rfl) rfl (by rfl) (fun K hK => ?_)
  go_simp
  refine (hrl _ ((SR.below hB).below (Below.refl _ w1').drew)).mono ?_
  rintro e w3 ⟨rfl, hb3⟩
  dsimp only
  have hS3 : Below w1'.heap.size w1' w3 := bvia (Below.refl _ w1').drew hb3
  refine hK _ _ (fun _ _ => hS3) ?_
  clear hK K
  refine anyS_one (i := 5) (by kernel_rfl) rfl (by rfl) (fun K hK => ?_)
  go_simp
  refine (hst _ ((S.below hB).below hS3) ((SK.below hB).below hS3)).mono ?_
  rintro e w4 ⟨b, cap, rfl, hb', R, hcap', hb4⟩
  dsimp only
  have hS4 : Below w1'.heap.size w1' w4 := bvia hS3 hb4
  have hs4 := hS3.size
  refine hK _ _ (fun _ _ => hS4) ?_
  clear hK
  replace X2 := X2.below hS4
  replace hB := bvia hB hS4
  have X2_0 := X2.at_ 0 rfl
  have X2_1 := X2.at_ 1 rfl
  have X2_2 := X2.at_ 2 rfl
  have X2f := X2.free
  have X2z := X2.lt
  clear r0 r1 r2 r3 r4
  refine anyS_one (i := 6) (by kernel_rfl) rfl (by rfl) (fun K hK => ?_)
  go_simp
  refine hK _ _ (fun h _ => absurd h (by decide)) ?_
  clear hK
  refine anyS_one (i := 7) (by kernel_rfl) rfl (by rfl) (fun K hK => ?_)
  go_simp
  refine hK _ _ (fun h _ => absurd h (by decide)) ?_
  clear hK K
  refine anyS_done (by kernel_rfl) ?_ _
  clear X2_0 X2_1 X2_2 X2f X2z
  replace R := (((R.far (p := ⟨w.heap.size + 1 + 1, 0, none⟩) (by first | (simp; done) | (simp; omega) | (dsimp only; omega)) (.int .i64 (W : Int))).far (p := ⟨w.heap.size + 1 + 1, 1, none⟩) (by first | (simp; done) | (simp; omega) | (dsimp only; omega)) (.int .i64 (H : Int))).far (p := ⟨w.heap.size + 1 + 1, 2, none⟩) (by first | (simp; done) | (simp; omega) | (dsimp only; omega)) (.slice (some ⟨b, 0, none⟩) n cap))
  replace X2 : Bx _ (w.heap.size + 1 + 1) #[.int .i64 (W : Int), .int .i64 (H : Int), .slice (some ⟨b, 0, none⟩) n cap] := (((X2.set_ 0 (by simp) (.int .i64 (W : Int))).set_ 1 (by simp) (.int .i64 (H : Int))).set_ 2 (by simp) (.slice (some ⟨b, 0, none⟩) n cap))
  replace hB := (bset (bset (bset hB (p := ⟨w.heap.size + 1 + 1, 0, none⟩) (by first | exact Nat.le_refl _ | (simp; done) | (simp; omega)) (.int .i64 (W : Int))) (p := ⟨w.heap.size + 1 + 1, 1, none⟩) (by first | exact Nat.le_refl _ | (simp; done) | (simp; omega)) (.int .i64 (H : Int))) (p := ⟨w.heap.size + 1 + 1, 2, none⟩) (by first | exact Nat.le_refl _ | (simp; done) | (simp; omega)) (.slice (some ⟨b, 0, none⟩) n cap))
  have X2_0 := X2.at_ 0 rfl
  have X2_1 := X2.at_ 1 rfl
  have X2_2 := X2.at_ 2 rfl
  go_wp2_with fail
  refine bodyPost_ret (v := .tuple #[.agg #[.int .i64 (W : Int), .int .i64 (H : Int), .slice (some ⟨b, 0, none⟩) n cap], .int .i64 0]) (by simp [results, Try.results53, go_sem, X2_0, X2_1, X2_2]) rfl (gridPost_row (by (repeat' (first | with_reducible assumption | with_reducible refine Ro.drew ?_ | with_reducible refine Ro.drewN ?_ _ | with_reducible refine Ro.alloc ?_ _ | with_reducible refine Ro.far ?_ ?_ _ | (show _ ≠ _; dsimp only; omega)))) (by omega) (by (repeat' (first | with_reducible assumption | with_reducible exact Below.refl _ _ | with_reducible refine Below.drew ?_ | with_reducible refine below_drewN ?_ _ | with_reducible refine balloc ?_ _ | with_reducible refine bset ?_ ?_ _ | with_reducible refine Below.setCell ?_ ?_ _ | with_reducible refine Below.alloc ?_ ?_ _ | omega | (simp; done) | (simp; omega)))))
end Go.Proofs.Ytnnaegnkkpknpaa
