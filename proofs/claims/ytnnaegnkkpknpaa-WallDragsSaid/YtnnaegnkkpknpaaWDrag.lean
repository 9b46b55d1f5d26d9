/- Walk: the program's Drag. -/
import Derived.Test.YtnnaegnkkpknpaaWRun2
import Derived.Test.YtnnaegnkkpknpaaRefDrag
namespace Go.Proofs.Ytnnaegnkkpknpaa
open Go Go.RowKit
set_option linter.unusedVariables false
set_option maxRecDepth 100000 in
set_option maxHeartbeats 8000000 in
theorem wall_Drag (wide high : Int) (a ak ab ar : Option Addr) (n nk nb nr c ck cb cr : Nat) (g : Nat → C4) (K B : Nat → Int) (r : Nat → Int × Int) (t m body : Int) (w : World) (hn : n ≤ 100000000) (hnk : nk ≤ 100000000) (hnb : nb ≤ 100000000) (hnr : nr ≤ 100000000) (S : Sc w a n g) (SK : Sl w ak nk K) (SB : Sl w ab nb B) (SR : Sr w ar nr r) :
    Calls Try.prog 55 #[.agg #[.int .i64 wide, .int .i64 high, .slice a n c], .agg #[.slice ak nk ck, .slice ab nb cb], .slice ar nr cr, .int .i64 t, .int .i64 m, .int .i64 body] w (DragPost (dgV (rnE (validW wide high n g nk nb K B) (rulesB nr r) (timesB t m)) (bodE B body nb) (drgE (runW wide.toNat high.toNat (rlAt nr r) K g t.toNat) K B body n m.toNat)) (dgV (rnE (validW wide high n g nk nb K B) (rulesB nr r) (timesB t m)) (bodE B body nb) (drgN (runW wide.toNat high.toNat (rlAt nr r) K g t.toNat) K B body n m.toNat)) (dgErr (rnE (validW wide high n g nk nb K B) (rulesB nr r) (timesB t m)) (bodE B body nb)) w) := by
  have herr := fun W' S' SK' SB' SR' => wall_asked wide high a ak ab ar n nk nb nr c ck cb cr g K B r t m W' hn hnk hnb hnr S' SK' SB' SR'
  have hbod := fun W' SB' => wall_bodied ak ab nk nb ck cb B body W' hnb SB'
  have X0 := ((Bx.new w #[.int .i64 wide, .int .i64 high, .slice a n c] 24).alloc (.cells #[.slice ak nk ck, .slice ab nb cb] 27)).alloc (.cells #[.int .i64 0, .int .i64 0] 43)
  have X1 := (Bx.new (w.alloc (.cells #[.int .i64 wide, .int .i64 high, .slice a n c] 24)) #[.slice ak nk ck, .slice ab nb cb] 27).alloc (.cells #[.int .i64 0, .int .i64 0] 43)
  have X2 := Bx.new ((w.alloc (.cells #[.int .i64 wide, .int .i64 high, .slice a n c] 24)).alloc (.cells #[.slice ak nk ck, .slice ab nb cb] 27)) #[.int .i64 0, .int .i64 0] 43
  simp only [World.size_alloc] at X1 X2
  have hB0 : Below w.heap.size w (((w.alloc (.cells #[.int .i64 wide, .int .i64 high, .slice a n c] 24)).alloc (.cells #[.slice ak nk ck, .slice ab nb cb] 27)).alloc (.cells #[.int .i64 0, .int .i64 0] 43)) := by (repeat' (first | with_reducible assumption | with_reducible exact Below.refl _ _ | with_reducible refine Below.drew ?_ | with_reducible refine below_drewN ?_ _ | with_reducible refine balloc ?_ _ | with_reducible refine bset ?_ ?_ _ | with_reducible refine Below.setCell ?_ ?_ _ | with_reducible refine Below.alloc ?_ ?_ _ | omega | (simp; done) | (simp; omega)))
  have hcells := fun h => runCells (wide := wide) (high := high) (n := n) (nk := nk) (nb := nb) (nr := nr) (g := g) (K := K) (B := B) (r := r) (t := t) (m := m) h
  have hgood := fun h => run_ok (wide := wide) (high := high) (n := n) (nk := nk) (nb := nb) (nr := nr) (g := g) (K := K) (B := B) (r := r) (t := t) (m := m) h
  generalize rnE (validW wide high n g nk nb K B) (rulesB nr r) (timesB t m) = er at *
  by_cases hz : er = 0
  rotate_left
  · have hzb : (er == 0) = false := by simpa using hz
    have hzc : (er != 0) = true := by simpa using hz
    have e1 : ∀ x, dgV er (bodE B body nb) x = 0 := fun x => by simp [dgV, hz]
    have e2 : dgErr er (bodE B body nb) = er := by simp [dgErr, hz]
    rw [e1, e1, e2]
    clear hgood hcells hz e1 e2 hbod
    go_enter Try.func55, Try.ntmps55
    go_wp2_with fail
    generalize (((w.alloc (.cells #[.int .i64 wide, .int .i64 high, .slice a n c] 24)).alloc (.cells #[.slice ak nk ck, .slice ab nb cb] 27)).alloc (.cells #[.int .i64 0, .int .i64 0] 43)) = W0 at X0 X1 X2 hB0 ⊢
    have z0 := X0.lt
    have z1 := X1.lt
    have z2 := X2.lt
    refine (herr _ (S.below hB0) (SK.below hB0) (SB.below hB0) (SR.below hB0)).mono ?_
    rintro e w1 ⟨rfl, hb1⟩
    have hB := hB0
    clear hB0
    replace X0 := X0.below hb1
    replace X1 := X1.below hb1
    replace X2 := X2.below hb1
    replace hB := bvia hB hb1
    clear hb1
    have X0_0 := X0.at_ 0 rfl
    have X0_1 := X0.at_ 1 rfl
    have X0_2 := X0.at_ 2 rfl
    have X1_0 := X1.at_ 0 rfl
    have X1_1 := X1.at_ 1 rfl
    have X2_0 := X2.at_ 0 rfl
    have X2_1 := X2.at_ 1 rfl
    have X2f := X2.free
    have X2z := X2.lt
    go_wp2_with fail
    exact bodyPost_ret (v := .tuple #[.agg #[.int .i64 0, .int .i64 0], .int .i64 er]) (by simp [results, Try.results55, go_sem, X2_0, X2_1]) rfl ⟨rfl, by (repeat' (first | with_reducible assumption | with_reducible exact Below.refl _ _ | with_reducible refine Below.drew ?_ | with_reducible refine below_drewN ?_ _ | with_reducible refine balloc ?_ _ | with_reducible refine bset ?_ ?_ _ | with_reducible refine Below.setCell ?_ ?_ _ | with_reducible refine Below.alloc ?_ ?_ _ | omega | (simp; done) | (simp; omega)))⟩
  subst hz
  have e1 : ∀ x, dgV 0 (bodE B body nb) x = if bodE B body nb = 0 then x else 0 := fun x => by simp [dgV]
  have e2 : dgErr 0 (bodE B body nb) = bodE B body nb := by simp [dgErr]
  rw [e1, e1, e2]
  clear e1 e2
  by_cases hz : bodE B body nb = 0
  rotate_left
  · rw [if_neg hz, if_neg hz]
    generalize bodE B body nb = bo at *
    have hzb : (bo == 0) = false := by simpa using hz
    have hzc : (bo != 0) = true := by simpa using hz
    clear hgood hcells hz
    go_enter Try.func55, Try.ntmps55
    go_wp2_with fail
    generalize (((w.alloc (.cells #[.int .i64 wide, .int .i64 high, .slice a n c] 24)).alloc (.cells #[.slice ak nk ck, .slice ab nb cb] 27)).alloc (.cells #[.int .i64 0, .int .i64 0] 43)) = W0 at X0 X1 X2 hB0 ⊢
    have z0 := X0.lt
    have z1 := X1.lt
    have z2 := X2.lt
    refine (herr _ (S.below hB0) (SK.below hB0) (SB.below hB0) (SR.below hB0)).mono ?_
    rintro e w1 ⟨rfl, hb1⟩
    have hB := hB0
    clear hB0
    replace X0 := X0.below hb1
    replace X1 := X1.below hb1
    replace X2 := X2.below hb1
    replace hB := bvia hB hb1
    clear hb1
    have X0_0 := X0.at_ 0 rfl
    have X0_1 := X0.at_ 1 rfl
    have X0_2 := X0.at_ 2 rfl
    have X1_0 := X1.at_ 0 rfl
    have X1_1 := X1.at_ 1 rfl
    have X2_0 := X2.at_ 0 rfl
    have X2_1 := X2.at_ 1 rfl
    have X2f := X2.free
    have X2z := X2.lt
    go_wp2_with fail
    refine (hbod _ (SB.below hB)).mono ?_
    rintro e w2 ⟨rfl, hb2⟩
    clear X0_0 X0_1 X0_2 X1_0 X1_1 X2_0 X2_1 X2f X2z
    replace X0 := X0.below hb2
    replace X1 := X1.below hb2
    replace X2 := X2.below hb2
    replace hB := bvia hB hb2
    clear hb2
    have X0_0 := X0.at_ 0 rfl
    have X0_1 := X0.at_ 1 rfl
    have X0_2 := X0.at_ 2 rfl
    have X1_0 := X1.at_ 0 rfl
    have X1_1 := X1.at_ 1 rfl
    have X2_0 := X2.at_ 0 rfl
    have X2_1 := X2.at_ 1 rfl
    have X2f := X2.free
    have X2z := X2.lt
    go_wp2_with fail
    exact bodyPost_ret (v := .tuple #[.agg #[.int .i64 0, .int .i64 0], .int .i64 bo]) (by simp [results, Try.results55, go_sem, X2_0, X2_1]) rfl ⟨rfl, by (repeat' (first | with_reducible assumption | with_reducible exact Below.refl _ _ | with_reducible refine Below.drew ?_ | with_reducible refine below_drewN ?_ _ | with_reducible refine balloc ?_ _ | with_reducible refine bset ?_ ?_ _ | with_reducible refine Below.setCell ?_ ?_ _ | with_reducible refine Below.alloc ?_ ?_ _ | omega | (simp; done) | (simp; omega)))⟩
  rw [hz] at hbod ⊢
  rw [if_pos rfl, if_pos rfl]
  obtain ⟨W, H, T, M, rfl, rfl, rfl, rfl, w1', h1, rfl, rfl, rfl, hok, hKb, hr0, hr8, hru, hT, hM, hTM⟩ := hgood rfl
  simp only [Int.toNat_natCast]
  have hWH : W * H ≤ 4096 := Nat.mul_le_mul w1'.2 h1.2
  have hn0 : 0 < W * H := Nat.mul_pos (by omega) (by omega)
  have hm : W * H ≤ 1024 := hcells rfl
  have hcopy := fun W' S' => wall_copied W H a (W * H) c g W' (by omega) hn0 S'
  have hstep := fun p s b cap G w₀ w hv hs hB hp S' SK' SR' X' => tunnel_forth W H p s (some ⟨b, 0, none⟩) ak ab ar cap ck (W * H) cb nr cr G K r w₀ w w1' h1 hm hr0 hr8 hs hB hp S' SK' SR' X' hKb hv hru
  have himp := fun p a' c' G W' X' S' SK' SB' hv => tunnel_impulse p (W : Int) (H : Int) body a' ak ab (W * H) c' ck cb (.slice ar nr cr) G K B W' (by omega) X' S' SK' SB' hv hKb
  have hokR := fun i => runW_ok (r := rlAt nr r) (K := K) (t := T) hok i
  have hrun0 : runW W H (rlAt nr r) K g T 0 = g := rfl
  have hrunS := fun i => (show runW W H (rlAt nr r) K g T (i + 1) = stepW W H (rlAt nr r (T + i)) K (runW W H (rlAt nr r) K g T i) from rfl)
  generalize runW W H (rlAt nr r) K g T = G at *
  have hbd := drg_bd (G := G) K B body hm hokR
  have hdE := fun i => (show drgE G K B body (W * H) (i + 1) = drgE G K B body (W * H) i + impE (G i) K B body (W * H) from rfl)
  have hdN := fun i => (show drgN G K B body (W * H) (i + 1) = drgN G K B body (W * H) i + impN (G i) K B body (W * H) from rfl)
  have hd0 : drgE G K B body (W * H) 0 = 0 ∧ drgN G K B body (W * H) 0 = 0 := ⟨rfl, rfl⟩
  have hib1 := fun i => impE_bd (G i) K B body (W * H) (hokR i).1
  have hib2 := fun i => impN_bd (G i) K B body (W * H) (hokR i).1
  generalize drgE G K B body (W * H) = dE at *
  generalize drgN G K B body (W * H) = dN at *
  have HSt := hid hstep; have HIm := hid himp; have HOK := hid hokR; have HR0 := hid hrun0; have HRS := hid hrunS
  have HBD := hid hbd; have HDE := hid hdE; have HDN := hid hdN; have HD0 := hid hd0; have HI1 := hid hib1; have HI2 := hid hib2
  have HTM := hid hTM
  clear hstep himp hokR hrun0 hrunS hbd hdE hdN hd0 hib1 hib2 hTM hru hok hKb hz hcells hgood
  generalize hP : W * H = n at *
  clear hP X0 X1 X2 hB0
  have X0 := ((Bx.new w #[.int .i64 (W : Int), .int .i64 (H : Int), .slice a n c] 24).alloc (.cells #[.slice ak n ck, .slice ab n cb] 27)).alloc (.cells #[.int .i64 0, .int .i64 0] 43)
  have X1 := (Bx.new (w.alloc (.cells #[.int .i64 (W : Int), .int .i64 (H : Int), .slice a n c] 24)) #[.slice ak n ck, .slice ab n cb] 27).alloc (.cells #[.int .i64 0, .int .i64 0] 43)
  have X2 := Bx.new ((w.alloc (.cells #[.int .i64 (W : Int), .int .i64 (H : Int), .slice a n c] 24)).alloc (.cells #[.slice ak n ck, .slice ab n cb] 27)) #[.int .i64 0, .int .i64 0] 43
  simp only [World.size_alloc] at X1 X2
  have hB0 : Below w.heap.size w (((w.alloc (.cells #[.int .i64 (W : Int), .int .i64 (H : Int), .slice a n c] 24)).alloc (.cells #[.slice ak n ck, .slice ab n cb] 27)).alloc (.cells #[.int .i64 0, .int .i64 0] 43)) := by (repeat' (first | with_reducible assumption | with_reducible exact Below.refl _ _ | with_reducible refine Below.drew ?_ | with_reducible refine below_drewN ?_ _ | with_reducible refine balloc ?_ _ | with_reducible refine bset ?_ ?_ _ | with_reducible refine Below.setCell ?_ ?_ _ | with_reducible refine Below.alloc ?_ ?_ _ | omega | (simp; done) | (simp; omega)))
  go_enter Try.func55, Try.ntmps55
  go_wp2_with fail
  generalize (((w.alloc (.cells #[.int .i64 (W : Int), .int .i64 (H : Int), .slice a n c] 24)).alloc (.cells #[.slice ak n ck, .slice ab n cb] 27)).alloc (.cells #[.int .i64 0, .int .i64 0] 43)) = W0 at X0 X1 X2 hB0 ⊢
  have z0 := X0.lt
  have z1 := X1.lt
  have z2 := X2.lt
  refine (herr _ (S.below hB0) (SK.below hB0) (SB.below hB0) (SR.below hB0)).mono ?_
  rintro e w1 ⟨rfl, hb1⟩
  have hB := hB0
  clear hB0
  replace X0 := X0.below hb1
  replace X1 := X1.below hb1
  replace X2 := X2.below hb1
  replace hB := bvia hB hb1
  clear hb1
  have X0_0 := X0.at_ 0 rfl
  have X0_1 := X0.at_ 1 rfl
  have X0_2 := X0.at_ 2 rfl
  have X1_0 := X1.at_ 0 rfl
  have X1_1 := X1.at_ 1 rfl
  have X2_0 := X2.at_ 0 rfl
  have X2_1 := X2.at_ 1 rfl
  have X2f := X2.free
  have X2z := X2.lt
  go_wp2_with fail
  refine (hbod _ (SB.below hB)).mono ?_
  rintro e w2 ⟨rfl, hb2⟩
  clear X0_0 X0_1 X0_2 X1_0 X1_1 X2_0 X2_1 X2f X2z
  replace X0 := X0.below hb2
  replace X1 := X1.below hb2
  replace X2 := X2.below hb2
  replace hB := bvia hB hb2
  clear hb2
  have X0_0 := X0.at_ 0 rfl
  have X0_1 := X0.at_ 1 rfl
  have X0_2 := X0.at_ 2 rfl
  have X1_0 := X1.at_ 0 rfl
  have X1_1 := X1.at_ 1 rfl
  have X2_0 := X2.at_ 0 rfl
  have X2_1 := X2.at_ 1 rfl
  have X2f := X2.free
  have X2z := X2.lt
  go_upto_region 8 with (fail)
  have hw22 := X2.lt
  clear X0_0 X0_1 X0_2 X1_0 X1_1 X2_0 X2_1 X2f X2z
  replace X0 := X0.alloc (.cells #[.int .i64 0, .int .i64 0] 43)
  replace X1 := X1.alloc (.cells #[.int .i64 0, .int .i64 0] 43)
  replace X2 := X2.alloc (.cells #[.int .i64 0, .int .i64 0] 43)
  have X4 := Bx.new w2 #[.int .i64 0, .int .i64 0] 43
  replace hB := balloc hB (.cells #[.int .i64 0, .int .i64 0] 43)
  have X0_0 := X0.at_ 0 rfl
  have X0_1 := X0.at_ 1 rfl
  have X0_2 := X0.at_ 2 rfl
  have X1_0 := X1.at_ 0 rfl
  have X1_1 := X1.at_ 1 rfl
  have X2_0 := X2.at_ 0 rfl
  have X2_1 := X2.at_ 1 rfl
  have X2f := X2.free
  have X2z := X2.lt
  clear X0_0 X0_1 X0_2 X1_0 X1_1 X2_0 X2_1 X2f X2z
  have Sg : Sc (w2.alloc (.cells #[.int .i64 0, .int .i64 0] 43)) a n g := S.below hB
  generalize w2.alloc (.cells #[.int .i64 0, .int .i64 0] 43) = W1 at *
  generalize hs : w2.heap.size = s at *
  clear hs
  have hsl := X4.lt
  have r0 : ∀ X, Below W1.heap.size W1 X → X.cell? ⟨w.heap.size, 0, none⟩ = some (.int .i64 (W : Int)) := fun X h => (X0.below h).at_ 0 rfl
  have r1 : ∀ X, Below W1.heap.size W1 X → X.cell? ⟨w.heap.size, 1, none⟩ = some (.int .i64 (H : Int)) := fun X h => (X0.below h).at_ 1 rfl
  have r2 : ∀ X, Below W1.heap.size W1 X → X.cell? ⟨w.heap.size, 2, none⟩ = some (.slice a n c) := fun X h => (X0.below h).at_ 2 rfl
  have r3 : ∀ X, Below W1.heap.size W1 X → X.cell? ⟨w.heap.size + 1, 0, none⟩ = some (.slice ak n ck) := fun X h => (X1.below h).at_ 0 rfl
  have r4 : ∀ X, Below W1.heap.size W1 X → X.cell? ⟨w.heap.size + 1, 1, none⟩ = some (.slice ab n cb) := fun X h => (X1.below h).at_ 1 rfl
  refine wp_region_S (fun X => Below W1.heap.size W1 X) 7 (by kernel_rfl) ?_
  refine anyS_take (i := 0) rfl (by kernel_rfl) (fun _ _ _ h => h) (Or.inl ⟨by rfl, fun Y hYb => (by (try dsimp only at hYb); go_simp; rfl)⟩) (by repeat' (first | with_reducible assumption | with_reducible exact Below.refl _ _ | with_reducible refine Below.drew ?_ | with_reducible refine below_drewN ?_ _)) ?_
  refine anyS_take (i := 2) rfl (by kernel_rfl) (fun _ _ _ h => h) (Or.inl ⟨by rfl, fun Y hYb => (by (try dsimp only at hYb); go_simp; rfl)⟩) (by repeat' (first | with_reducible assumption | with_reducible exact Below.refl _ _ | with_reducible refine Below.drew ?_ | with_reducible refine below_drewN ?_ _)) ?_
  refine anyS_take (i := 3) rfl (by kernel_rfl) (fun _ _ _ h => h) (Or.inl ⟨by rfl, fun Y hYb => (by (try dsimp only at hYb); go_simp; rfl)⟩) (by repeat' (first | with_reducible assumption | with_reducible exact Below.refl _ _ | with_reducible refine Below.drew ?_ | with_reducible refine below_drewN ?_ _)) ?_
  refine anyS_one (i := 1) (by kernel_rfl) rfl (by rfl) (fun K hK => ?_)
  go_simp
  refine (hcopy _ (Sg.below (Below.refl _ W1).drew)).mono ?_
  rintro e w3 ⟨b, cap, rfl, hb, R, hcap, hb3⟩
  dsimp only
  have hS2 : Below W1.heap.size W1 w3 := bvia (Below.refl _ W1).drew hb3
  refine hK _ _ (fun _ _ => hS2) ?_
  clear hK K hb3
  refine anyS_take (i := 4) rfl (by kernel_rfl) (fun _ _ _ h => h) (Or.inl ⟨by rfl, fun Y hYb => (by (try dsimp only at hYb); go_simp; rfl)⟩) (by repeat' (first | with_reducible assumption | with_reducible exact Below.refl _ _ | with_reducible refine Below.drew ?_ | with_reducible refine below_drewN ?_ _)) ?_
  refine anyS_one (i := 5) (by kernel_rfl) rfl (by rfl) (fun K hK => ?_)
  go_simp
  have hS3 : Below W1.heap.size W1 (w3.alloc (.cells #[.int .i64 (W : Int), .int .i64 (H : Int), .slice (some ⟨b, 0, none⟩) n cap, .slice ak n ck, .slice ab n cb, .slice ar nr cr] 94)) := balloc hS2 _
  have hs2 := hS2.size
  refine hK _ _ (fun _ _ => hS3) ?_
  clear hK
  replace X2 := X2.below hS3; replace X4 := X4.below hS3
  replace hB := bvia hB hS3
  replace R := R.alloc (.cells #[.int .i64 (W : Int), .int .i64 (H : Int), .slice (some ⟨b, 0, none⟩) n cap, .slice ak n ck, .slice ab n cb, .slice ar nr cr] 94)
  have XT := Bx.new w3 #[.int .i64 (W : Int), .int .i64 (H : Int), .slice (some ⟨b, 0, none⟩) n cap, .slice ak n ck, .slice ab n cb, .slice ar nr cr] 94
  clear hcopy hS2
  have hpw : s < w3.heap.size := by omega
  have hbs : s < b := by have h : W1.heap.size ≤ b := hb; omega
  generalize w3.alloc (.cells #[.int .i64 (W : Int), .int .i64 (H : Int), .slice (some ⟨b, 0, none⟩) n cap, .slice ak n ck, .slice ab n cb, .slice ar nr cr] 94) = W2 at *
  generalize w3.heap.size = p at *
  refine anyS_take (i := 6) rfl (by kernel_rfl) (fun _ _ _ h => h) (Or.inl ⟨by rfl, fun Y hYb => (by (try dsimp only at hYb); go_simp; rfl)⟩) (by repeat' (first | with_reducible assumption | with_reducible exact Below.refl _ _ | with_reducible refine Below.drew ?_ | with_reducible refine below_drewN ?_ _)) ?_
  refine anyS_done (by kernel_rfl) ?_ _
  clear r0 r1 r2 r3 r4 X0 X1 hS3 Sg hb
  rw [← HR0.out] at R
  have hX4 : Bx W2 s #[.int .i64 (dE 0), .int .i64 (dN 0)] := by
    rw [HD0.out.1, HD0.out.2]; exact X4
  clear X4
  go_wp2_with fail
  go_loopw [44] (fun s44 wr => ∃ i : Nat, i ≤ M ∧ s44 = .int .i64 i ∧ (∃ b cap, Bx wr p #[.int .i64 (W : Int), .int .i64 (H : Int), .slice (some ⟨b, 0, none⟩) n cap, .slice ak n ck, .slice ab n cb, .slice ar nr cr] ∧ Ro wr b (n * 4) (flatC (G i)) ∧ s < b) ∧ Bx wr (w.heap.size + 1 + 1) #[.int .i64 0, .int .i64 0] ∧ Bx wr s #[.int .i64 (dE i), .int .i64 (dN i)] ∧ Below w.heap.size w wr) (fun s44 _ => M - (intOf s44).toNat)
  case atStart => exact ⟨0, Nat.zero_le _, rfl, ⟨b, cap, XT, R, hbs⟩, X2, hX4, hB⟩
  case round =>
    clear XT X2 hX4 R hB hbs
    obtain ⟨i, hi, rfl, ⟨b, cap, XT, R, hbs⟩, X2, X4, hB⟩ := hrel
    by_cases hlt : i < M
    · have hti := HTM.out i hlt
      have him := fun W' X' S' SK' SB' => HIm.out p (some ⟨b, 0, none⟩) cap (G i) W' X' S' SK' SB' (HOK.out i).1
      obtain ⟨q1, q2⟩ := HI1.out i
      obtain ⟨q3, q4⟩ := HI2.out i
      obtain ⟨q5, q6, q7, q8⟩ := HBD.out i
      have hE1 := HDE.out i; have hN1 := HDN.out i
      generalize impE (G i) _ B body n = pE at *
      generalize impN (G i) _ B body n = pN at *
      generalize dE i = E0 at *
      generalize dN i = N0 at *
      have HE1 := hid hE1; have HN1 := hid hN1
      clear hE1 hN1
      have hw1 := IntWalk.i64_in (E0 + pE) (by omega)
      have hw2 := IntWalk.i64_in (N0 + pN) (by omega)
      go_wp2_with fail
      refine (him _ XT R.sc (SK.below hB) (SB.below hB)).mono ?_
      rintro e w5 ⟨rfl, hb5⟩
      replace X2 := X2.below hb5
      replace X4 := X4.below hb5
      replace XT := XT.below hb5
      replace R := R.below hb5
      replace hB := bvia hB hb5
      clear hb5
      have hzs := X4.lt; have hz2 := X2.lt; have hzp := XT.lt
      have u1 : ¬ s = w5.heap.size := by omega
      have u2 : ¬ w5.heap.size = s := by omega
      have X4_0 := X4.at_ 0 rfl
      have X4_1 := X4.at_ 1 rfl
      have X4f := X4.free
      have X4z := X4.lt
      go_upto_region 15 with (fail)
      clear X4_0 X4_1 X4f X4z
      have Y2 : Bx (((w5.setCell ⟨s, 0, none⟩ (.int .i64 (E0 + pE))).setCell ⟨s, 1, none⟩ (.int .i64 (N0 + pN))).alloc (.cells #[.int .i64 pE, .int .i64 pN] 43)) (w.heap.size + 1 + 1) #[.int .i64 0, .int .i64 0] := by (repeat' (first | with_reducible assumption | (with_reducible refine Bx.newE ?_ _ _; (simp; done)) | with_reducible refine Bx.alloc ?_ _ | with_reducible refine Bx.drew ?_ | with_reducible refine Bx.drewN ?_ _ | with_reducible refine Bx.four ?_ | (with_reducible refine Bx.far2 ?_ ?_ _; (dsimp only; omega))))
      have YT : Bx (((w5.setCell ⟨s, 0, none⟩ (.int .i64 (E0 + pE))).setCell ⟨s, 1, none⟩ (.int .i64 (N0 + pN))).alloc (.cells #[.int .i64 pE, .int .i64 pN] 43)) p #[.int .i64 (W : Int), .int .i64 (H : Int), .slice (some ⟨b, 0, none⟩) n cap, .slice ak n ck, .slice ab n cb, .slice ar nr cr] := by (repeat' (first | with_reducible assumption | (with_reducible refine Bx.newE ?_ _ _; (simp; done)) | with_reducible refine Bx.alloc ?_ _ | with_reducible refine Bx.drew ?_ | with_reducible refine Bx.drewN ?_ _ | with_reducible refine Bx.four ?_ | (with_reducible refine Bx.far2 ?_ ?_ _; (dsimp only; omega))))
      have Y4 : Bx (((w5.setCell ⟨s, 0, none⟩ (.int .i64 (E0 + pE))).setCell ⟨s, 1, none⟩ (.int .i64 (N0 + pN))).alloc (.cells #[.int .i64 pE, .int .i64 pN] 43)) s #[.int .i64 (E0 + pE), .int .i64 (N0 + pN)] := X4.two.alloc _
      have YR : Ro (((w5.setCell ⟨s, 0, none⟩ (.int .i64 (E0 + pE))).setCell ⟨s, 1, none⟩ (.int .i64 (N0 + pN))).alloc (.cells #[.int .i64 pE, .int .i64 pN] 43)) b (n * 4) (flatC (G i)) := by (repeat' (first | with_reducible assumption | with_reducible refine Ro.drew ?_ | with_reducible refine Ro.drewN ?_ _ | with_reducible refine Ro.alloc ?_ _ | with_reducible refine Ro.far ?_ ?_ _ | (show _ ≠ _; dsimp only; omega)))
      have hB6 : Below w.heap.size w (((w5.setCell ⟨s, 0, none⟩ (.int .i64 (E0 + pE))).setCell ⟨s, 1, none⟩ (.int .i64 (N0 + pN))).alloc (.cells #[.int .i64 pE, .int .i64 pN] 43)) := by (repeat' (first | with_reducible assumption | with_reducible exact Below.refl _ _ | with_reducible refine Below.drew ?_ | with_reducible refine below_drewN ?_ _ | with_reducible refine balloc ?_ _ | with_reducible refine bset ?_ ?_ _ | with_reducible refine Below.setCell ?_ ?_ _ | with_reducible refine Below.alloc ?_ ?_ _ | omega | (simp; done) | (simp; omega)))
      clear X2 X4 XT R hB him hw1 hw2
      generalize (((w5.setCell ⟨s, 0, none⟩ (.int .i64 (E0 + pE))).setCell ⟨s, 1, none⟩ (.int .i64 (N0 + pN))).alloc (.cells #[.int .i64 pE, .int .i64 pN] 43)) = W6 at *
      have hsi := IntWalk.i64_in ((T : Int) + (i : Int)) (by omega)
      have hsn : (((T + i : Nat)) : Int) = (T : Int) + (i : Int) := by simp
      have hst := HSt.out p (T + i) b cap (G i) w W6 (HOK.out i) hti hB6 (by omega) YR.sc SK SR YT
      rw [← HRS.out i, hsn] at hst
      have hs0 := hB6.size
      have hs6 := Y4.lt
      clear hsn
      go_wp2_with fail
      refine hst.mono ?_
      rintro e w7 ⟨b', cap', ⟨v, rfl⟩, XT', R', hb', hbut⟩
      have X2' := Y2.but hbut (by omega)
      have X4' := Y4.but hbut (by omega)
      have hB' := below_but hB6 hbut (by omega)
      rw [← HE1.out, ← HN1.out] at X4'
      clear YT YR Y2 Y4 hB6 hst hbut
      go_wp2_with fail
      go_roundw
      case rel => exact ⟨i + 1, by omega, by go_num, ⟨b', cap', XT', R', by omega⟩, X2', X4', hB'⟩
      case measure => simp [intOf] <;> omega
    · obtain rfl : i = M := (by omega)
      have X2_0 := X2.at_ 0 rfl
      have X2_1 := X2.at_ 1 rfl
      have X2f := X2.free
      have X2z := X2.lt
      have X4_0 := X4.at_ 0 rfl
      have X4_1 := X4.at_ 1 rfl
      have x4l := X4.lt
      have e1 : ¬ s = w.heap.size + 1 + 1 := by omega
      have e2 : ¬ w.heap.size + 1 + 1 = s := by omega
      go_wp2_with fail
      refine bodyPost_ret (v := .tuple #[.agg #[.int .i64 (dE i), .int .i64 (dN i)], .int .i64 0]) (by simp [results, Try.results55, go_sem, X2_0, X2_1]) rfl ⟨rfl, by (repeat' (first | with_reducible assumption | with_reducible exact Below.refl _ _ | with_reducible refine Below.drew ?_ | with_reducible refine below_drewN ?_ _ | with_reducible refine balloc ?_ _ | with_reducible refine bset ?_ ?_ _ | with_reducible refine Below.setCell ?_ ?_ _ | with_reducible refine Below.alloc ?_ ?_ _ | omega | (simp; done) | (simp; omega)))⟩
end Go.Proofs.Ytnnaegnkkpknpaa
