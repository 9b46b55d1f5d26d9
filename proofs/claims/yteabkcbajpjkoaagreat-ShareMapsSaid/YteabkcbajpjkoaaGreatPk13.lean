/- Walk: Valid, of the reference. Walk: merge, of the program: the grid of sites and the notes of a post. Walks: slices.ContainsFunc of sites and of notes; whole, of the program; stateError, of the reference. Walk: Merge, of the program. -/
import Derived.Test.YteabkcbajpjkoaaGreatPk7
import Derived.Test.YteabkcbajpjkoaaGreatPk6
import Derived.Test.YteabkcbajpjkoaaGreatPk5
import Derived.Test.YteabkcbajpjkoaaGreatPk4
namespace Go.Proofs.YteabkcbajpjkoaaGreat
open Go Go.RowKit
set_option linter.unusedVariables false
set_option linter.unusedSimpArgs false
/-- a grid with a row of cells of its own -/
def GridRo (W H : Int) (n : Nat) (g : Nat → C4) (w : World) (e : Ending) (w' : World) : Prop :=
  ∃ b, e = .returned (.agg #[.int .i64 W, .int .i64 H, .slice (some ⟨b, 0, none⟩) n n]) ∧ w.heap.size ≤ b ∧ Ro w' b (n * 4) (flatC g) ∧ Below w.heap.size w w'
set_option maxRecDepth 100000 in
set_option maxHeartbeats 4000000 in
theorem node_merge (Wd Hd : Nat) (a ao al ap : Option Addr) (n c no co m cl q cp : Nat) (f : Nat → SiteR) (p : Nat → N6) (o : Nat → Int) (w : World) (hno : no ≤ 100000) (hm : m ≤ 1000) (hq : q ≤ 100000)
    (hf : ∀ k, k < m → fitS no (f k)) (hn : ∀ k, k < m → (f k).ni ≤ 100000) (hp : ∀ k, k < q → fitN no (p k)) (HO : Sl w ao no o) (HS : Ss w al m f) (HP : Sn w ap q p) :
    Calls Tryz.prog 40 #[.agg (cluV Wd Hd a ao n c no co), .slice al m cl, .slice ap q cp] w (GridRo Wd Hd no (addTo (layS f m) p q) w) := by
  have hmk := fun W' => mk_cells no no rfl (by omega) W'
  have HF := hid hf; have HN := hid hn; have HPF := hid hp
  clear hf hn hp
  unfold cluV
  have X0 := (Bx.new w #[.int .i64 (Wd : Int), .int .i64 (Hd : Int), .slice a n c, .slice ao no co] 62).alloc (.cells #[.int .i64 0, .int .i64 0, .slice none 0 0] 24)
  have X1 := Bx.new (w.alloc (.cells #[.int .i64 (Wd : Int), .int .i64 (Hd : Int), .slice a n c, .slice ao no co] 62)) #[.int .i64 0, .int .i64 0, .slice none 0 0] 24
  simp only [World.size_alloc] at X1
  have hB0 : Below w.heap.size w ((w.alloc (.cells #[.int .i64 (Wd : Int), .int .i64 (Hd : Int), .slice a n c, .slice ao no co] 62)).alloc (.cells #[.int .i64 0, .int .i64 0, .slice none 0 0] 24)) := by (repeat' (first | with_reducible assumption | with_reducible exact Below.refl _ _ | with_reducible refine Below.drew ?_ | with_reducible refine below_drewN ?_ _ | with_reducible refine balloc ?_ _ | with_reducible refine bset ?_ ?_ _ | with_reducible refine Below.setCell ?_ ?_ _ | with_reducible refine Below.alloc ?_ ?_ _ | omega | (simp; done) | (simp; omega)))
  go_enter Tryz.func40, Tryz.ntmps40
  go_upto_region 1 with (fail)
  generalize ((w.alloc (.cells #[.int .i64 (Wd : Int), .int .i64 (Hd : Int), .slice a n c, .slice ao no co] 62)).alloc (.cells #[.int .i64 0, .int .i64 0, .slice none 0 0] 24)) = W0 at X0 X1 hB0 ⊢
  have z0 := X0.lt
  have z1 := X1.lt
  have r0 : ∀ Y, Below W0.heap.size W0 Y → Y.cell? ⟨w.heap.size, 0, none⟩ = some (.int .i64 (Wd : Int)) := fun Y h => (X0.below h).at_ 0 rfl
  have r1 : ∀ Y, Below W0.heap.size W0 Y → Y.cell? ⟨w.heap.size, 1, none⟩ = some (.int .i64 (Hd : Int)) := fun Y h => (X0.below h).at_ 1 rfl
  have r3 : ∀ Y, Below W0.heap.size W0 Y → Y.cell? ⟨w.heap.size, 3, none⟩ = some (.slice ao no co) := fun Y h => (X0.below h).at_ 3 rfl
  have hsz0 := hB0.size
  refine wp_region_S (fun Y => Below W0.heap.size W0 Y) 12 (by kernel_rfl) ?_
  refine anyS_take (i := 0) rfl (by kernel_rfl) (fun _ _ _ h => h) (Or.inl ⟨by rfl, fun Y hYb => (by (try dsimp only at hYb); go_simp; rfl)⟩) (by repeat' (first | with_reducible assumption | with_reducible exact Below.refl _ _ | with_reducible refine Below.drew ?_ | with_reducible refine below_drewN ?_ _)) ?_
  refine anyS_take (i := 1) rfl (by kernel_rfl) (fun _ _ _ h => h) (Or.inl ⟨by rfl, fun Y hYb => (by (try dsimp only at hYb); go_simp; rfl)⟩) (by repeat' (first | with_reducible assumption | with_reducible exact Below.refl _ _ | with_reducible refine Below.drew ?_ | with_reducible refine below_drewN ?_ _)) ?_
  refine anyS_take (i := 2) rfl (by kernel_rfl) (fun _ _ _ h => h) (Or.inl ⟨by rfl, fun Y hYb => (by (try dsimp only at hYb); go_simp; rfl)⟩) (by repeat' (first | with_reducible assumption | with_reducible exact Below.refl _ _ | with_reducible refine Below.drew ?_ | with_reducible refine below_drewN ?_ _)) ?_
  refine anyS_take (i := 3) rfl (by kernel_rfl) (fun _ _ _ h => h) (Or.inl ⟨by rfl, fun Y hYb => (by (try dsimp only at hYb); go_simp; rfl)⟩) (by repeat' (first | with_reducible assumption | with_reducible exact Below.refl _ _ | with_reducible refine Below.drew ?_ | with_reducible refine below_drewN ?_ _)) ?_
  refine anyS_take (i := 4) rfl (by kernel_rfl) (fun _ _ _ h => h) (Or.inl ⟨by rfl, fun Y hYb => (by (try dsimp only at hYb); go_simp; rfl)⟩) (by repeat' (first | with_reducible assumption | with_reducible exact Below.refl _ _ | with_reducible refine Below.drew ?_ | with_reducible refine below_drewN ?_ _)) ?_
  refine anyS_take (i := 5) rfl (by kernel_rfl) (fun _ _ _ h => h) (Or.inl ⟨by rfl, fun Y hYb => (by (try dsimp only at hYb); go_simp; rfl)⟩) (by repeat' (first | with_reducible assumption | with_reducible exact Below.refl _ _ | with_reducible refine Below.drew ?_ | with_reducible refine below_drewN ?_ _)) ?_
  refine anyS_take (i := 6) rfl (by kernel_rfl) (fun _ _ _ h => h) (Or.inl ⟨by rfl, fun Y hYb => (by (try dsimp only at hYb); go_simp; rfl)⟩) (by repeat' (first | with_reducible assumption | with_reducible exact Below.refl _ _ | with_reducible refine Below.drew ?_ | with_reducible refine below_drewN ?_ _)) ?_
  refine anyS_take (i := 7) rfl (by kernel_rfl) (fun _ _ _ h => h) (Or.inl ⟨by rfl, fun Y hYb => (by (try dsimp only at hYb); go_simp; rfl)⟩) (by repeat' (first | with_reducible assumption | with_reducible exact Below.refl _ _ | with_reducible refine Below.drew ?_ | with_reducible refine below_drewN ?_ _)) ?_
  refine anyS_take (i := 8) rfl (by kernel_rfl) (fun _ _ _ h => h) (Or.inl ⟨by rfl, fun Y hYb => (by (try dsimp only at hYb); go_simp; rfl)⟩) (by repeat' (first | with_reducible assumption | with_reducible exact Below.refl _ _ | with_reducible refine Below.drew ?_ | with_reducible refine below_drewN ?_ _)) ?_
  refine anyS_two (i := 9) (j := 11) (by kernel_rfl) rfl rfl (by rfl) (by rfl) (fun K hK => ?_) (fun K hK => ?_)
  · go_simp
    have hS : Below W0.heap.size W0 (W0.alloc (.cells (ccells no) 49)).drew := (below_alloc _ _).drew
    refine hK _ _ (fun _ _ => hS) ?_
    clear hK K
    refine anyS_take (i := 10) rfl (by kernel_rfl) (fun _ _ _ h => h) (Or.inl ⟨by rfl, fun Y hYb => (by (try dsimp only at hYb); go_simp; rfl)⟩) (by repeat' (first | with_reducible assumption | with_reducible exact Below.refl _ _ | with_reducible refine Below.drew ?_ | with_reducible refine below_drewN ?_ _)) ?_
    refine anyS_one (i := 11) (by kernel_rfl) rfl (by rfl) (fun K hK => ?_)
    go_simp
    have hS2 : Below W0.heap.size W0 ((W0.alloc (.cells (ccells no) 49)).alloc (.cells #[.int .i64 0, .int .i64 0, .slice none 0 0] 24)).drew := (balloc (below_alloc _ _) _).drew
    refine hK _ _ (fun _ _ => hS2) ?_
    clear hK K hS
    have XG := (Bx.new (W0.alloc (.cells (ccells no) 49)) #[.int .i64 0, .int .i64 0, .slice none 0 0] 24).drew
    simp only [World.size_alloc] at XG
    have RG := ((roC_made W0 no).alloc (.cells #[.int .i64 0, .int .i64 0, .slice none 0 0] 24)).drew
    have hne : W0.heap.size ≠ W0.heap.size + 1 := by omega
    have hb5 := bvia hB0 hS2
    have Y1 := X1.below hS2
    have hbg : w.heap.size ≤ W0.heap.size := hsz0
    have hbx : w.heap.size + 1 < W0.heap.size + 1 := by omega
    have hbg2 : w.heap.size + 1 < W0.heap.size := z1
    clear hS2 r0 r1 r3 hmk X0 X1 hB0 z0
    generalize ((W0.alloc (.cells (ccells no) 49)).alloc (.cells #[.int .i64 0, .int .i64 0, .slice none 0 0] 24)).drew = w5 at *
    generalize W0.heap.size + 1 = bx at *
    generalize W0.heap.size = bg at *
    have xg0 := XG.at_ 0 rfl; have xg1 := XG.at_ 1 rfl; have xg2 := XG.at_ 2 rfl; have xgf := XG.free; have xgl := XG.lt
    refine anyS_one (i := 12) (by kernel_rfl) rfl (by rfl) (fun K hK => ?_)
    go_simp
    refine hK _ _ (fun h _ => absurd h (by decide)) ?_
    clear hK K
    refine anyS_done (by kernel_rfl) ?_ _
    have hb6 : Below w.heap.size w (((w5.setCell ⟨bx, 0, none⟩ (.int .i64 (Wd : Int))).setCell ⟨bx, 1, none⟩ (.int .i64 (Hd : Int))).setCell ⟨bx, 2, none⟩ (.slice (some ⟨bg, 0, none⟩) no no)) := ((hb5.setCell (by dsimp only; omega) _).setCell (by dsimp only; omega) _).setCell (by dsimp only; omega) _
    replace XG : Bx (((w5.setCell ⟨bx, 0, none⟩ (.int .i64 (Wd : Int))).setCell ⟨bx, 1, none⟩ (.int .i64 (Hd : Int))).setCell ⟨bx, 2, none⟩ (.slice (some ⟨bg, 0, none⟩) no no)) bx #[.int .i64 (Wd : Int), .int .i64 (Hd : Int), .slice (some ⟨bg, 0, none⟩) no no] := ((XG.set_ 0 (by simp) _).set_ 1 (by simp) _).set_ 2 (by simp) _
    replace RG := ((RG.far (p := ⟨bx, 0, none⟩) (Ne.symm hne) (.int .i64 (Wd : Int))).far (p := ⟨bx, 1, none⟩) (Ne.symm hne) (.int .i64 (Hd : Int))).far (p := ⟨bx, 2, none⟩) (Ne.symm hne) (.slice (some ⟨bg, 0, none⟩) no no)
    replace Y1 := ((Y1.far (p := ⟨bx, 0, none⟩) (by dsimp only; omega) (.int .i64 (Wd : Int))).far (p := ⟨bx, 1, none⟩) (by dsimp only; omega) (.int .i64 (Hd : Int))).far (p := ⟨bx, 2, none⟩) (by dsimp only; omega) (.slice (some ⟨bg, 0, none⟩) no no)
    clear xg0 xg1 xg2 xgf xgl hb5
    generalize ((w5.setCell ⟨bx, 0, none⟩ (.int .i64 (Wd : Int))).setCell ⟨bx, 1, none⟩ (.int .i64 (Hd : Int))).setCell ⟨bx, 2, none⟩ (.slice (some ⟨bg, 0, none⟩) no no) = w6 at *
    go_wp2_with fail
    go_loopw [27] (fun i wr => ∃ k : Nat, k ≤ m ∧ i = .int .i64 k ∧ Ro wr bg (no * 4) (flatC (layS f k)) ∧ Bx wr bx #[.int .i64 (Wd : Int), .int .i64 (Hd : Int), .slice (some ⟨bg, 0, none⟩) no no] ∧ Bx wr (w.heap.size + 1) #[.int .i64 0, .int .i64 0, .slice none 0 0] ∧ Below w.heap.size w wr) (fun i _ => m - (intOf i).toNat)
    case atStart => exact ⟨0, Nat.zero_le _, rfl, RG, XG, Y1, hb6⟩
    case round =>
      clear RG XG Y1 hb6
      obtain ⟨k, hk, rfl, RG, XG, Y1, hB⟩ := hrel
      by_cases hlt : k < m
      · obtain ⟨bs, os, rfl, hbs, d0, d1, d2, d3, hI, hC, hcc⟩ := HS k hlt
        have c0 := (bcell hB _ _ hbs).trans d0; have c1 := (bcell hB _ _ hbs).trans d1; have c2 := (bcell hB _ _ hbs).trans d2; have c3 := (bcell hB _ _ hbs).trans d3
        have hbs2 := Nat.lt_of_lt_of_le hbs hB.size
        clear d0 d1 d2 d3
        have hfk := HF.out k hlt
        have hnk := HN.out k hlt
        obtain ⟨L, hL0, hLs, hLn⟩ : ∃ L : Nat → Nat → C4, L 0 = layS f k ∧ (∀ j, L (j + 1) = updC (L j) ((f k).I j).toNat ((f k).C j)) ∧ layS f (k + 1) = L (f k).ni := ⟨layTo (layS f k) (f k), rfl, fun _ => rfl, rfl⟩
        rw [← hL0] at RG
        clear hL0
        have HLS := hid hLs; have HLN := hid hLn
        obtain ⟨hnc, hix, hva⟩ := hfk
        rw [hnc] at c3 hC
        have HIX := hid hix
        clear hix hva hnc hLs hLn
        generalize f k = s at *
        obtain ⟨nd, st, ix, ni, ci, cl', nc, cc, I, C⟩ := s
        dsimp only at *
        clear hcc
        go_wp2_with fail
        have hW : Below wr.heap.size wr (wr.alloc (.cells #[.int .i64 nd, .int .i64 st, .slice ix ni ci, .slice cl' ni cc] 98)) := by (repeat' (first | with_reducible assumption | with_reducible exact Below.refl _ _ | with_reducible refine Below.drew ?_ | with_reducible refine below_drewN ?_ _ | with_reducible refine balloc ?_ _ | with_reducible refine bset ?_ ?_ _ | with_reducible refine Below.setCell ?_ ?_ _ | with_reducible refine Below.alloc ?_ ?_ _ | omega | (simp; done) | (simp; omega)))
        have Xs := Bx.new wr #[.int .i64 nd, .int .i64 st, .slice ix ni ci, .slice cl' ni cc] 98
        have lbg := RG.lt; have lbx := XG.lt; have ly1 := Y1.lt
        replace RG := RG.below hW; replace XG := XG.below hW; replace Y1 := Y1.below hW;
        replace hB := bvia hB hW
        clear c0 c1 c2 c3 hW
        obtain ⟨wo, rfl⟩ : ∃ wo : World, wo = wr := ⟨_, rfl⟩
        go_wp2_with fail
        go_loopw [34] (fun i2 wr2 => ∃ j : Nat, j ≤ ni ∧ i2 = .int .i64 j ∧ Ro wr2 bg (no * 4) (flatC (L j)) ∧ Bx wr2 bx #[.int .i64 (Wd : Int), .int .i64 (Hd : Int), .slice (some ⟨bg, 0, none⟩) no no] ∧ Bx wr2 (w.heap.size + 1) #[.int .i64 0, .int .i64 0, .slice none 0 0] ∧ Bx wr2 wo.heap.size #[.int .i64 nd, .int .i64 st, .slice ix ni ci, .slice cl' ni cc] ∧ Below w.heap.size w wr2) (fun i2 _ => ni - (intOf i2).toNat)
        case atStart => exact ⟨0, Nat.zero_le _, rfl, RG, XG, Y1, Xs, hB⟩
        case round =>
          clear RG XG Y1 Xs hB
          obtain ⟨j, hj, rfl, RG, XG, Y1, Xs, hB⟩ := hrel
          by_cases hlj : j < ni
          · obtain ⟨bi, oi, rfl, hbi, ei⟩ := hI j hlj
            obtain ⟨bc, oc, rfl, hbc, e0, e1, e2, e3⟩ := hC j hlj
            obtain ⟨u1, u2⟩ := HIX.out j hlj
            have hls := HLS.out j
            obtain ⟨i, hi⟩ : ∃ i : Nat, I j = i := ⟨(I j).toNat, by omega⟩
            rw [hi] at ei u2 hls
            rw [Int.toNat_natCast] at hls
            have hin : i < no := by omega
            generalize C j = cj at *
            have HLJ := hid hls
            clear hls u1 u2 hi
            have lg := RG.lt; have lx := XG.lt; have ly := Y1.lt; have ls := Xs.lt
            have gi := (bcell hB _ _ hbi).trans ei
            have g0 := (bcell hB _ _ hbc).trans e0; have g1 := (bcell hB _ _ hbc).trans e1; have g2 := (bcell hB _ _ hbc).trans e2; have g3 := (bcell hB _ _ hbc).trans e3
            have hbi2 := Nat.lt_of_lt_of_le hbi hB.size; have hbc2 := Nat.lt_of_lt_of_le hbc hB.size
            have x2 := Xs.at_ 2 rfl; have x3 := Xs.at_ 3 rfl; have xg2 := XG.at_ 2 rfl
            clear ei e0 e1 e2 e3
            go_upto_region 8 with (fail)
            have r0 : ∀ Y, Below wr.heap.size wr Y → Y.cell? ⟨bx, 2, none⟩ = some (.slice (some ⟨bg, 0, none⟩) no no) := fun Y h => (XG.below h).at_ 2 rfl
            have r1 : ∀ Y, Below wr.heap.size wr Y → Y.cell? ⟨wo.heap.size, 3, none⟩ = some (.slice (some ⟨bc, oc, none⟩) ni cc) := fun Y h => (Xs.below h).at_ 3 rfl
            have r2 : ∀ Y, Below wr.heap.size wr Y → Y.cell? ⟨bc, oc + j * 4, none⟩ = some (.int .i64 cj.e) := fun Y h => (bcell h _ _ hbc2).trans g0
            have r3 : ∀ Y, Below wr.heap.size wr Y → Y.cell? ⟨bc, oc + j * 4 + 1, none⟩ = some (.int .i64 cj.n) := fun Y h => (bcell h _ _ hbc2).trans g1
            have r4 : ∀ Y, Below wr.heap.size wr Y → Y.cell? ⟨bc, oc + j * 4 + 2, none⟩ = some (.int .i64 cj.w) := fun Y h => (bcell h _ _ hbc2).trans g2
            have r5 : ∀ Y, Below wr.heap.size wr Y → Y.cell? ⟨bc, oc + j * 4 + 3, none⟩ = some (.int .i64 cj.s) := fun Y h => (bcell h _ _ hbc2).trans g3
            obtain ⟨y0, y1, y2, y3⟩ := RG.scell hin
            have yf := RG.free
            clear gi g0 g1 g2 g3 x2 x3 xg2
            have hS : Below wr.heap.size wr wr.drew := (Below.refl _ wr).drew
            refine wp_region_S (fun Y => Below wr.heap.size wr Y) 9 (by kernel_rfl) ?_
            refine anyS_take (i := 0) rfl (by kernel_rfl) (fun _ _ _ h => h) (Or.inl ⟨by rfl, fun Y hYb => (by (try dsimp only at hYb); go_simp; rfl)⟩) (by repeat' (first | with_reducible assumption | with_reducible exact Below.refl _ _ | with_reducible refine Below.drew ?_ | with_reducible refine below_drewN ?_ _)) ?_
            refine anyS_take (i := 1) rfl (by kernel_rfl) (fun _ _ _ h => h) (Or.inl ⟨by rfl, fun Y hYb => (by (try dsimp only at hYb); go_simp; rfl)⟩) (by repeat' (first | with_reducible assumption | with_reducible exact Below.refl _ _ | with_reducible refine Below.drew ?_ | with_reducible refine below_drewN ?_ _)) ?_
            refine anyS_take (i := 2) rfl (by kernel_rfl) (fun _ _ _ h => h) (Or.inl ⟨by rfl, fun Y hYb => (by (try dsimp only at hYb); go_simp; rfl)⟩) (by repeat' (first | with_reducible assumption | with_reducible exact Below.refl _ _ | with_reducible refine Below.drew ?_ | with_reducible refine below_drewN ?_ _)) ?_
            refine anyS_take (i := 3) rfl (by kernel_rfl) (fun _ _ _ h => h) (Or.inl ⟨by rfl, fun Y hYb => (by (try dsimp only at hYb); go_simp; rfl)⟩) (by repeat' (first | with_reducible assumption | with_reducible exact Below.refl _ _ | with_reducible refine Below.drew ?_ | with_reducible refine below_drewN ?_ _)) ?_
            refine anyS_take (i := 4) rfl (by kernel_rfl) (fun _ _ _ h => h) (Or.inl ⟨by rfl, fun Y hYb => (by (try dsimp only at hYb); go_simp; rfl)⟩) (by repeat' (first | with_reducible assumption | with_reducible exact Below.refl _ _ | with_reducible refine Below.drew ?_ | with_reducible refine below_drewN ?_ _)) ?_
            refine anyS_take (i := 5) rfl (by kernel_rfl) (fun _ _ _ h => h) (Or.inl ⟨by rfl, fun Y hYb => (by (try dsimp only at hYb); go_simp; rfl)⟩) (by repeat' (first | with_reducible assumption | with_reducible exact Below.refl _ _ | with_reducible refine Below.drew ?_ | with_reducible refine below_drewN ?_ _)) ?_
            refine anyS_take (i := 6) rfl (by kernel_rfl) (fun _ _ _ h => h) (Or.inl ⟨by rfl, fun Y hYb => (by (try dsimp only at hYb); go_simp; rfl)⟩) (by repeat' (first | with_reducible assumption | with_reducible exact Below.refl _ _ | with_reducible refine Below.drew ?_ | with_reducible refine below_drewN ?_ _)) ?_
            refine anyS_take (i := 7) rfl (by kernel_rfl) (fun _ _ _ h => h) (Or.inl ⟨by rfl, fun Y hYb => (by (try dsimp only at hYb); go_simp; rfl)⟩) (by repeat' (first | with_reducible assumption | with_reducible exact Below.refl _ _ | with_reducible refine Below.drew ?_ | with_reducible refine below_drewN ?_ _)) ?_
            refine anyS_take (i := 8) rfl (by kernel_rfl) (fun _ _ _ h => h) (Or.inl ⟨by rfl, fun Y hYb => (by (try dsimp only at hYb); go_simp; rfl)⟩) (by repeat' (first | with_reducible assumption | with_reducible exact Below.refl _ _ | with_reducible refine Below.drew ?_ | with_reducible refine below_drewN ?_ _)) ?_
            refine anyS_one (i := 9) (by kernel_rfl) rfl (by rfl) (fun K hK => ?_)
            go_simp
            refine hK _ _ (fun h _ => absurd h (by decide)) ?_
            clear hK K
            refine anyS_done (by kernel_rfl) ?_ _
            clear r0 r1 r2 r3 r4 r5 y0 y1 y2 y3 yf
            have n0 : bg ≠ bx := hne
            have n1 : bg ≠ w.heap.size + 1 := by omega
            have n2 : bg ≠ wo.heap.size := by omega
            go_wp2_with fail
            go_roundw
            case rel => exact ⟨j + 1, by omega, by go_num, by rw [HLJ.out]; exact RG.drew.setC i cj, (((XG.drew.far (p := ⟨bg, i * 4, none⟩) n0 _).far (p := ⟨bg, i * 4 + 1, none⟩) n0 _).far (p := ⟨bg, i * 4 + 2, none⟩) n0 _).far (p := ⟨bg, i * 4 + 3, none⟩) n0 _, (((Y1.drew.far (p := ⟨bg, i * 4, none⟩) n1 _).far (p := ⟨bg, i * 4 + 1, none⟩) n1 _).far (p := ⟨bg, i * 4 + 2, none⟩) n1 _).far (p := ⟨bg, i * 4 + 3, none⟩) n1 _, (((Xs.drew.far (p := ⟨bg, i * 4, none⟩) n2 _).far (p := ⟨bg, i * 4 + 1, none⟩) n2 _).far (p := ⟨bg, i * 4 + 2, none⟩) n2 _).far (p := ⟨bg, i * 4 + 3, none⟩) n2 _, by (repeat' (first | with_reducible assumption | with_reducible exact Below.refl _ _ | with_reducible refine Below.drew ?_ | with_reducible refine below_drewN ?_ _ | with_reducible refine balloc ?_ _ | with_reducible refine bset ?_ ?_ _ | with_reducible refine Below.setCell ?_ ?_ _ | with_reducible refine Below.alloc ?_ ?_ _ | omega | (simp; done) | (simp; omega)))⟩
            case measure => simp [intOf]; omega
          · obtain rfl : j = ni := (by omega)
            rw [← HLN.out] at RG
            have x2 := Xs.at_ 2 rfl
            go_wp2_with fail
            go_roundw
            case rel => exact ⟨k + 1, by omega, by go_num, RG, XG, Y1, hB⟩
            case measure => simp [intOf]; omega
      · obtain rfl : k = m := (by omega)
        have hL0 : addTo (layS f k) p 0 = layS f k := rfl
        have hLs : ∀ j, addTo (layS f k) p (j + 1) = addC (addTo (layS f k) p j) (p j) := fun _ => rfl
        have hbd := fun j (hj : j ≤ q) => (addTo_spec (n := no) (layS_valid (n := no) (f := f) k HF.out) j (fun i hi => HPF.out i (by omega))).1
        generalize hAA : addTo (layS f k) p = AA at *
        clear hAA
        rw [← hL0] at RG
        have HLS := hid hLs; have HBD := hid hbd
        clear hL0 hLs hbd
        clear HF HN HS
        go_wp2_with fail
        go_loopw [52] (fun i wr => ∃ j : Nat, j ≤ q ∧ i = .int .i64 j ∧ Ro wr bg (no * 4) (flatC (AA j)) ∧ Bx wr bx #[.int .i64 (Wd : Int), .int .i64 (Hd : Int), .slice (some ⟨bg, 0, none⟩) no no] ∧ Bx wr (w.heap.size + 1) #[.int .i64 0, .int .i64 0, .slice none 0 0] ∧ Below w.heap.size w wr) (fun i _ => q - (intOf i).toNat)
        case atStart => exact ⟨0, Nat.zero_le _, rfl, RG, XG, Y1, hB⟩
        case round =>
          clear RG XG Y1 hB
          obtain ⟨j, hj, rfl, RG, XG, Y1, hB⟩ := hrel
          by_cases hlj : j < q
          · obtain ⟨b1, o1, rfl, hb1, d0, d1, d2, d3, d4, d5⟩ := HP.six hlj
            obtain ⟨n1, n2, n3, n4, n5, n6⟩ := HPF.out j hlj
            have hls := HLS.out j
            have hbd := HBD.out j hj
            have c0 := (bcell hB _ _ hb1).trans d0; have c1 := (bcell hB _ _ hb1).trans d1; have c2 := (bcell hB _ _ hb1).trans d2; have c3 := (bcell hB _ _ hb1).trans d3; have c4 := (bcell hB _ _ hb1).trans d4; have c5 := (bcell hB _ _ hb1).trans d5
            have hb2 := Nat.lt_of_lt_of_le hb1 hB.size
            clear d0 d1 d2 d3 d4 d5
            generalize p j = x at *
            obtain ⟨st, fr, to, ce, di, co⟩ := x
            dsimp only at *
            obtain ⟨i, rfl⟩ : ∃ i : Nat, ce = i := ⟨ce.toNat, by omega⟩
            obtain ⟨d, rfl⟩ : ∃ d : Nat, di = d := ⟨di.toNat, by omega⟩
            have hd4 : d < 4 := by omega
            have hin : i < no := by omega
            obtain ⟨v1, v2⟩ := hbd i d hd4
            unfold addC at hls
            dsimp only [Int.toNat_natCast] at hls
            have y0 := RG.2 (i * 4 + d) (by omega)
            rw [flatC_at _ _ _ hd4] at y0
            have hfl : flatC (AA (j + 1)) = upd (flatC (AA j)) (i * 4 + d) ((AA j i).get d + co) := by rw [hls, flatC_with _ _ _ hd4]
            generalize (AA j i).get d = u at *
            have HFL := hid hfl
            clear hfl hls hbd
            have u3 : u + co ≤ 1000000000000000 := by omega
            have u4 : 0 ≤ u + co := by omega
            go_wp2_with fail
            have Xs := Bx.new wr #[.int .i64 st, .int .i64 fr, .int .i64 to, .int .i64 (i : Int), .int .i64 (d : Int), .int .i64 co] 106
            have hW : Below wr.heap.size wr (wr.alloc (.cells #[.int .i64 st, .int .i64 fr, .int .i64 to, .int .i64 (i : Int), .int .i64 (d : Int), .int .i64 co] 106)) := below_alloc _ _
            have lg := RG.lt; have lx := XG.lt; have ly := Y1.lt
            replace y0 := (bcell hW _ _ lg).trans y0
            replace RG := RG.below hW; replace XG := XG.below hW; replace Y1 := Y1.below hW; replace hB := bvia hB hW
            have lg2 := RG.lt
            clear c0 c1 c2 c3 c4 c5 hW
            generalize hWg : wr.alloc (.cells #[.int .i64 st, .int .i64 fr, .int .i64 to, .int .i64 (i : Int), .int .i64 (d : Int), .int .i64 co] 106) = W5 at *
            clear hWg
            go_upto_region 14 with (fail)
            have r0 : ∀ Y, Below W5.heap.size W5 Y → Y.cell? ⟨bx, 2, none⟩ = some (.slice (some ⟨bg, 0, none⟩) no no) := fun Y h => (XG.below h).at_ 2 rfl
            have r1 : ∀ Y, Below W5.heap.size W5 Y → Y.cell? ⟨wr.heap.size, 3, none⟩ = some (.int .i64 (i : Int)) := fun Y h => (Xs.below h).at_ 3 rfl
            have r2 : ∀ Y, Below W5.heap.size W5 Y → Y.cell? ⟨wr.heap.size, 4, none⟩ = some (.int .i64 (d : Int)) := fun Y h => (Xs.below h).at_ 4 rfl
            have r3 : ∀ Y, Below W5.heap.size W5 Y → Y.cell? ⟨wr.heap.size, 5, none⟩ = some (.int .i64 co) := fun Y h => (Xs.below h).at_ 5 rfl
            have r4 : ∀ Y, Below W5.heap.size W5 Y → Y.cell? ⟨bg, i * 4 + d, none⟩ = some (.int .i64 u) := fun Y h => (bcell h _ _ lg2).trans y0
            have yf := RG.free
            have hdI : (d : Int) < 4 := by omega
            have hww : IntKind.i64.wrap (u + co) = u + co := IntWalk.i64_in _ (by omega)
            refine wp_region_S (fun Y => Below W5.heap.size W5 Y) 14 (by kernel_rfl) ?_
            refine anyS_take (i := 0) rfl (by kernel_rfl) (fun _ _ _ h => h) (Or.inl ⟨by rfl, fun Y hYb => (by (try dsimp only at hYb); go_simp; rfl)⟩) (by repeat' (first | with_reducible assumption | with_reducible exact Below.refl _ _ | with_reducible refine Below.drew ?_ | with_reducible refine below_drewN ?_ _)) ?_
            refine anyS_take (i := 1) rfl (by kernel_rfl) (fun _ _ _ h => h) (Or.inl ⟨by rfl, fun Y hYb => (by (try dsimp only at hYb); go_simp; rfl)⟩) (by repeat' (first | with_reducible assumption | with_reducible exact Below.refl _ _ | with_reducible refine Below.drew ?_ | with_reducible refine below_drewN ?_ _)) ?_
            refine anyS_take (i := 2) rfl (by kernel_rfl) (fun _ _ _ h => h) (Or.inl ⟨by rfl, fun Y hYb => (by (try dsimp only at hYb); go_simp; rfl)⟩) (by repeat' (first | with_reducible assumption | with_reducible exact Below.refl _ _ | with_reducible refine Below.drew ?_ | with_reducible refine below_drewN ?_ _)) ?_
            refine anyS_take (i := 3) rfl (by kernel_rfl) (fun _ _ _ h => h) (Or.inl ⟨by rfl, fun Y hYb => (by (try dsimp only at hYb); go_simp; rfl)⟩) (by repeat' (first | with_reducible assumption | with_reducible exact Below.refl _ _ | with_reducible refine Below.drew ?_ | with_reducible refine below_drewN ?_ _)) ?_
            refine anyS_take (i := 4) rfl (by kernel_rfl) (fun _ _ _ h => h) (Or.inl ⟨by rfl, fun Y hYb => (by (try dsimp only at hYb); go_simp; rfl)⟩) (by repeat' (first | with_reducible assumption | with_reducible exact Below.refl _ _ | with_reducible refine Below.drew ?_ | with_reducible refine below_drewN ?_ _)) ?_
            refine anyS_take (i := 5) rfl (by kernel_rfl) (fun _ _ _ h => h) (Or.inl ⟨by rfl, fun Y hYb => (by (try dsimp only at hYb); go_simp; rfl)⟩) (by repeat' (first | with_reducible assumption | with_reducible exact Below.refl _ _ | with_reducible refine Below.drew ?_ | with_reducible refine below_drewN ?_ _)) ?_
            refine anyS_take (i := 6) rfl (by kernel_rfl) (fun _ _ _ h => h) (Or.inl ⟨by rfl, fun Y hYb => (by (try dsimp only at hYb); go_simp; rfl)⟩) (by repeat' (first | with_reducible assumption | with_reducible exact Below.refl _ _ | with_reducible refine Below.drew ?_ | with_reducible refine below_drewN ?_ _)) ?_
            refine anyS_take (i := 7) rfl (by kernel_rfl) (fun _ _ _ h => h) (Or.inl ⟨by rfl, fun Y hYb => (by (try dsimp only at hYb); go_simp; rfl)⟩) (by repeat' (first | with_reducible assumption | with_reducible exact Below.refl _ _ | with_reducible refine Below.drew ?_ | with_reducible refine below_drewN ?_ _)) ?_
            refine anyS_take (i := 8) rfl (by kernel_rfl) (fun _ _ _ h => h) (Or.inl ⟨by rfl, fun Y hYb => (by (try dsimp only at hYb); go_simp; rfl)⟩) (by repeat' (first | with_reducible assumption | with_reducible exact Below.refl _ _ | with_reducible refine Below.drew ?_ | with_reducible refine below_drewN ?_ _)) ?_
            refine anyS_take (i := 9) rfl (by kernel_rfl) (fun _ _ _ h => h) (Or.inl ⟨by rfl, fun Y hYb => (by (try dsimp only at hYb); go_simp; rfl)⟩) (by repeat' (first | with_reducible assumption | with_reducible exact Below.refl _ _ | with_reducible refine Below.drew ?_ | with_reducible refine below_drewN ?_ _)) ?_
            refine anyS_take (i := 10) rfl (by kernel_rfl) (fun _ _ _ h => h) (Or.inl ⟨by rfl, fun Y hYb => (by (try dsimp only at hYb); go_simp; rfl)⟩) (by repeat' (first | with_reducible assumption | with_reducible exact Below.refl _ _ | with_reducible refine Below.drew ?_ | with_reducible refine below_drewN ?_ _)) ?_
            refine anyS_take (i := 11) rfl (by kernel_rfl) (fun _ _ _ h => h) (Or.inl ⟨by rfl, fun Y hYb => (by (try dsimp only at hYb); go_simp; rfl)⟩) (by repeat' (first | with_reducible assumption | with_reducible exact Below.refl _ _ | with_reducible refine Below.drew ?_ | with_reducible refine below_drewN ?_ _)) ?_
            refine anyS_pure (i := 12) rfl (by kernel_rfl) (fun _ _ _ h => h) (Or.inl ⟨by rfl, fun Y hYb => (by clear hYb; go_simp; rfl)⟩) ?_
            refine anyS_take (i := 13) rfl (by kernel_rfl) (fun _ _ _ h => h) (Or.inl ⟨by rfl, fun Y hYb => (by (try dsimp only at hYb); go_simp; rfl)⟩) (by repeat' (first | with_reducible assumption | with_reducible exact Below.refl _ _ | with_reducible refine Below.drew ?_ | with_reducible refine below_drewN ?_ _)) ?_
            refine anyS_one (i := 14) (by kernel_rfl) rfl (by rfl) (fun K hK => ?_)
            go_simp
            refine hK _ _ (fun h _ => absurd h (by decide)) ?_
            clear hK K
            refine anyS_done (by kernel_rfl) ?_ _
            clear r0 r1 r2 r3 r4 y0 yf
            have m0 : bg ≠ bx := hne
            have m1 : bg ≠ w.heap.size + 1 := by omega
            go_wp2_with fail
            go_roundw
            case rel => exact ⟨j + 1, by omega, by go_num, by rw [HFL.out]; exact RG.drew.set_ (i * 4 + d) (u + co), XG.drew.far (p := ⟨bg, i * 4 + d, none⟩) m0 _, Y1.drew.far (p := ⟨bg, i * 4 + d, none⟩) m1 _, by (repeat' (first | with_reducible assumption | with_reducible exact Below.refl _ _ | with_reducible refine Below.drew ?_ | with_reducible refine below_drewN ?_ _ | with_reducible refine balloc ?_ _ | with_reducible refine bset ?_ ?_ _ | with_reducible refine Below.setCell ?_ ?_ _ | with_reducible refine Below.alloc ?_ ?_ _ | omega | (simp; done) | (simp; omega)))⟩
            case measure => simp [intOf]; omega
          · obtain rfl : j = q := (by omega)
            have xg0 := XG.at_ 0 rfl; have xg1 := XG.at_ 1 rfl; have xg2 := XG.at_ 2 rfl; have lx := XG.lt
            have yy0 := Y1.at_ 0 rfl; have yy1 := Y1.at_ 1 rfl; have yy2 := Y1.at_ 2 rfl; have yyf := Y1.free; have ly := Y1.lt
            have nb : bg ≠ w.heap.size + 1 := by omega
            replace RG := ((RG.far (p := ⟨w.heap.size + 1, 0, none⟩) (Ne.symm nb) (.int .i64 (Wd : Int))).far (p := ⟨w.heap.size + 1, 1, none⟩) (Ne.symm nb) (.int .i64 (Hd : Int))).far (p := ⟨w.heap.size + 1, 2, none⟩) (Ne.symm nb) (.slice (some ⟨bg, 0, none⟩) no no)
            replace hB : Below w.heap.size w (((wr.setCell ⟨w.heap.size + 1, 0, none⟩ (.int .i64 (Wd : Int))).setCell ⟨w.heap.size + 1, 1, none⟩ (.int .i64 (Hd : Int))).setCell ⟨w.heap.size + 1, 2, none⟩ (.slice (some ⟨bg, 0, none⟩) no no)) := ((hB.setCell (by dsimp only; omega) _).setCell (by dsimp only; omega) _).setCell (by dsimp only; omega) _
            have Y2 : Bx (((wr.setCell ⟨w.heap.size + 1, 0, none⟩ (.int .i64 (Wd : Int))).setCell ⟨w.heap.size + 1, 1, none⟩ (.int .i64 (Hd : Int))).setCell ⟨w.heap.size + 1, 2, none⟩ (.slice (some ⟨bg, 0, none⟩) no no)) (w.heap.size + 1) #[.int .i64 (Wd : Int), .int .i64 (Hd : Int), .slice (some ⟨bg, 0, none⟩) no no] := ((Y1.set_ 0 (by simp) _).set_ 1 (by simp) _).set_ 2 (by simp) _
            go_wp2_with fail
            have r0 := Y2.at_ 0 rfl; have r1 := Y2.at_ 1 rfl; have r2 := Y2.at_ 2 rfl
            refine bodyPost_ret (v := .agg #[.int .i64 (Wd : Int), .int .i64 (Hd : Int), .slice (some ⟨bg, 0, none⟩) no no]) (by simp [results, Tryz.results40, go_sem, r0, r1, r2]) rfl ⟨bg, rfl, hbg, RG, hB⟩
  · go_simp
    have hS : Below W0.heap.size W0 (W0.alloc (.cells #[.int .i64 0, .int .i64 0, .slice none 0 0] 24)).drew := (below_alloc _ _).drew
    refine hK _ _ (fun _ _ => hS) ?_
    clear hK K
    refine anyS_one (i := 9) (by kernel_rfl) rfl (by rfl) (fun K hK => ?_)
    go_simp
    have hS2 : Below W0.heap.size W0 ((W0.alloc (.cells #[.int .i64 0, .int .i64 0, .slice none 0 0] 24)).alloc (.cells (ccells no) 49)).drew := (balloc (below_alloc _ _) _).drew
    refine hK _ _ (fun _ _ => hS2) ?_
    clear hK K hS
    refine anyS_take (i := 10) rfl (by kernel_rfl) (fun _ _ _ h => h) (Or.inl ⟨by rfl, fun Y hYb => (by (try dsimp only at hYb); go_simp; rfl)⟩) (by repeat' (first | with_reducible assumption | with_reducible exact Below.refl _ _ | with_reducible refine Below.drew ?_ | with_reducible refine below_drewN ?_ _)) ?_
    have RG := (roC_made (W0.alloc (.cells #[.int .i64 0, .int .i64 0, .slice none 0 0] 24)) no).drew
    simp only [World.size_alloc] at RG
    have XG := ((Bx.new W0 #[.int .i64 0, .int .i64 0, .slice none 0 0] 24).alloc (.cells (ccells no) 49)).drew
    have hne : W0.heap.size + 1 ≠ W0.heap.size := by omega
    have hb5 := bvia hB0 hS2
    have Y1 := X1.below hS2
    have hbg : w.heap.size ≤ W0.heap.size + 1 := by omega
    have hbx : w.heap.size + 1 < W0.heap.size := z1
    have hbg2 : w.heap.size + 1 < W0.heap.size + 1 := by omega
    clear hS2 r0 r1 r3 hmk X0 X1 hB0 z0
    generalize ((W0.alloc (.cells #[.int .i64 0, .int .i64 0, .slice none 0 0] 24)).alloc (.cells (ccells no) 49)).drew = w5 at *
    generalize W0.heap.size + 1 = bg at *
    generalize W0.heap.size = bx at *
    have xg0 := XG.at_ 0 rfl; have xg1 := XG.at_ 1 rfl; have xg2 := XG.at_ 2 rfl; have xgf := XG.free; have xgl := XG.lt
    refine anyS_one (i := 12) (by kernel_rfl) rfl (by rfl) (fun K hK => ?_)
    go_simp
    refine hK _ _ (fun h _ => absurd h (by decide)) ?_
    clear hK K
    refine anyS_done (by kernel_rfl) ?_ _
    have hb6 : Below w.heap.size w (((w5.setCell ⟨bx, 0, none⟩ (.int .i64 (Wd : Int))).setCell ⟨bx, 1, none⟩ (.int .i64 (Hd : Int))).setCell ⟨bx, 2, none⟩ (.slice (some ⟨bg, 0, none⟩) no no)) := ((hb5.setCell (by dsimp only; omega) _).setCell (by dsimp only; omega) _).setCell (by dsimp only; omega) _
    replace XG : Bx (((w5.setCell ⟨bx, 0, none⟩ (.int .i64 (Wd : Int))).setCell ⟨bx, 1, none⟩ (.int .i64 (Hd : Int))).setCell ⟨bx, 2, none⟩ (.slice (some ⟨bg, 0, none⟩) no no)) bx #[.int .i64 (Wd : Int), .int .i64 (Hd : Int), .slice (some ⟨bg, 0, none⟩) no no] := ((XG.set_ 0 (by simp) _).set_ 1 (by simp) _).set_ 2 (by simp) _
    replace RG := ((RG.far (p := ⟨bx, 0, none⟩) (Ne.symm hne) (.int .i64 (Wd : Int))).far (p := ⟨bx, 1, none⟩) (Ne.symm hne) (.int .i64 (Hd : Int))).far (p := ⟨bx, 2, none⟩) (Ne.symm hne) (.slice (some ⟨bg, 0, none⟩) no no)
    replace Y1 := ((Y1.far (p := ⟨bx, 0, none⟩) (by dsimp only; omega) (.int .i64 (Wd : Int))).far (p := ⟨bx, 1, none⟩) (by dsimp only; omega) (.int .i64 (Hd : Int))).far (p := ⟨bx, 2, none⟩) (by dsimp only; omega) (.slice (some ⟨bg, 0, none⟩) no no)
    clear xg0 xg1 xg2 xgf xgl hb5
    generalize ((w5.setCell ⟨bx, 0, none⟩ (.int .i64 (Wd : Int))).setCell ⟨bx, 1, none⟩ (.int .i64 (Hd : Int))).setCell ⟨bx, 2, none⟩ (.slice (some ⟨bg, 0, none⟩) no no) = w6 at *
    go_wp2_with fail
    go_loopw [27] (fun i wr => ∃ k : Nat, k ≤ m ∧ i = .int .i64 k ∧ Ro wr bg (no * 4) (flatC (layS f k)) ∧ Bx wr bx #[.int .i64 (Wd : Int), .int .i64 (Hd : Int), .slice (some ⟨bg, 0, none⟩) no no] ∧ Bx wr (w.heap.size + 1) #[.int .i64 0, .int .i64 0, .slice none 0 0] ∧ Below w.heap.size w wr) (fun i _ => m - (intOf i).toNat)
    case atStart => exact ⟨0, Nat.zero_le _, rfl, RG, XG, Y1, hb6⟩
    case round =>
      clear RG XG Y1 hb6
      obtain ⟨k, hk, rfl, RG, XG, Y1, hB⟩ := hrel
      by_cases hlt : k < m
      · obtain ⟨bs, os, rfl, hbs, d0, d1, d2, d3, hI, hC, hcc⟩ := HS k hlt
        have c0 := (bcell hB _ _ hbs).trans d0; have c1 := (bcell hB _ _ hbs).trans d1; have c2 := (bcell hB _ _ hbs).trans d2; have c3 := (bcell hB _ _ hbs).trans d3
        have hbs2 := Nat.lt_of_lt_of_le hbs hB.size
        clear d0 d1 d2 d3
        have hfk := HF.out k hlt
        have hnk := HN.out k hlt
        obtain ⟨L, hL0, hLs, hLn⟩ : ∃ L : Nat → Nat → C4, L 0 = layS f k ∧ (∀ j, L (j + 1) = updC (L j) ((f k).I j).toNat ((f k).C j)) ∧ layS f (k + 1) = L (f k).ni := ⟨layTo (layS f k) (f k), rfl, fun _ => rfl, rfl⟩
        rw [← hL0] at RG
        clear hL0
        have HLS := hid hLs; have HLN := hid hLn
        obtain ⟨hnc, hix, hva⟩ := hfk
        rw [hnc] at c3 hC
        have HIX := hid hix
        clear hix hva hnc hLs hLn
        generalize f k = s at *
        obtain ⟨nd, st, ix, ni, ci, cl', nc, cc, I, C⟩ := s
        dsimp only at *
        clear hcc
        go_wp2_with fail
        have hW : Below wr.heap.size wr (wr.alloc (.cells #[.int .i64 nd, .int .i64 st, .slice ix ni ci, .slice cl' ni cc] 98)) := by (repeat' (first | with_reducible assumption | with_reducible exact Below.refl _ _ | with_reducible refine Below.drew ?_ | with_reducible refine below_drewN ?_ _ | with_reducible refine balloc ?_ _ | with_reducible refine bset ?_ ?_ _ | with_reducible refine Below.setCell ?_ ?_ _ | with_reducible refine Below.alloc ?_ ?_ _ | omega | (simp; done) | (simp; omega)))
        have Xs := Bx.new wr #[.int .i64 nd, .int .i64 st, .slice ix ni ci, .slice cl' ni cc] 98
        have lbg := RG.lt; have lbx := XG.lt; have ly1 := Y1.lt
        replace RG := RG.below hW; replace XG := XG.below hW; replace Y1 := Y1.below hW;
        replace hB := bvia hB hW
        clear c0 c1 c2 c3 hW
        obtain ⟨wo, rfl⟩ : ∃ wo : World, wo = wr := ⟨_, rfl⟩
        go_wp2_with fail
        go_loopw [34] (fun i2 wr2 => ∃ j : Nat, j ≤ ni ∧ i2 = .int .i64 j ∧ Ro wr2 bg (no * 4) (flatC (L j)) ∧ Bx wr2 bx #[.int .i64 (Wd : Int), .int .i64 (Hd : Int), .slice (some ⟨bg, 0, none⟩) no no] ∧ Bx wr2 (w.heap.size + 1) #[.int .i64 0, .int .i64 0, .slice none 0 0] ∧ Bx wr2 wo.heap.size #[.int .i64 nd, .int .i64 st, .slice ix ni ci, .slice cl' ni cc] ∧ Below w.heap.size w wr2) (fun i2 _ => ni - (intOf i2).toNat)
        case atStart => exact ⟨0, Nat.zero_le _, rfl, RG, XG, Y1, Xs, hB⟩
        case round =>
          clear RG XG Y1 Xs hB
          obtain ⟨j, hj, rfl, RG, XG, Y1, Xs, hB⟩ := hrel
          by_cases hlj : j < ni
          · obtain ⟨bi, oi, rfl, hbi, ei⟩ := hI j hlj
            obtain ⟨bc, oc, rfl, hbc, e0, e1, e2, e3⟩ := hC j hlj
            obtain ⟨u1, u2⟩ := HIX.out j hlj
            have hls := HLS.out j
            obtain ⟨i, hi⟩ : ∃ i : Nat, I j = i := ⟨(I j).toNat, by omega⟩
            rw [hi] at ei u2 hls
            rw [Int.toNat_natCast] at hls
            have hin : i < no := by omega
            generalize C j = cj at *
            have HLJ := hid hls
            clear hls u1 u2 hi
            have lg := RG.lt; have lx := XG.lt; have ly := Y1.lt; have ls := Xs.lt
            have gi := (bcell hB _ _ hbi).trans ei
            have g0 := (bcell hB _ _ hbc).trans e0; have g1 := (bcell hB _ _ hbc).trans e1; have g2 := (bcell hB _ _ hbc).trans e2; have g3 := (bcell hB _ _ hbc).trans e3
            have hbi2 := Nat.lt_of_lt_of_le hbi hB.size; have hbc2 := Nat.lt_of_lt_of_le hbc hB.size
            have x2 := Xs.at_ 2 rfl; have x3 := Xs.at_ 3 rfl; have xg2 := XG.at_ 2 rfl
            clear ei e0 e1 e2 e3
            go_upto_region 8 with (fail)
            have r0 : ∀ Y, Below wr.heap.size wr Y → Y.cell? ⟨bx, 2, none⟩ = some (.slice (some ⟨bg, 0, none⟩) no no) := fun Y h => (XG.below h).at_ 2 rfl
            have r1 : ∀ Y, Below wr.heap.size wr Y → Y.cell? ⟨wo.heap.size, 3, none⟩ = some (.slice (some ⟨bc, oc, none⟩) ni cc) := fun Y h => (Xs.below h).at_ 3 rfl
            have r2 : ∀ Y, Below wr.heap.size wr Y → Y.cell? ⟨bc, oc + j * 4, none⟩ = some (.int .i64 cj.e) := fun Y h => (bcell h _ _ hbc2).trans g0
            have r3 : ∀ Y, Below wr.heap.size wr Y → Y.cell? ⟨bc, oc + j * 4 + 1, none⟩ = some (.int .i64 cj.n) := fun Y h => (bcell h _ _ hbc2).trans g1
            have r4 : ∀ Y, Below wr.heap.size wr Y → Y.cell? ⟨bc, oc + j * 4 + 2, none⟩ = some (.int .i64 cj.w) := fun Y h => (bcell h _ _ hbc2).trans g2
            have r5 : ∀ Y, Below wr.heap.size wr Y → Y.cell? ⟨bc, oc + j * 4 + 3, none⟩ = some (.int .i64 cj.s) := fun Y h => (bcell h _ _ hbc2).trans g3
            obtain ⟨y0, y1, y2, y3⟩ := RG.scell hin
            have yf := RG.free
            clear gi g0 g1 g2 g3 x2 x3 xg2
            have hS : Below wr.heap.size wr wr.drew := (Below.refl _ wr).drew
            refine wp_region_S (fun Y => Below wr.heap.size wr Y) 9 (by kernel_rfl) ?_
            refine anyS_take (i := 0) rfl (by kernel_rfl) (fun _ _ _ h => h) (Or.inl ⟨by rfl, fun Y hYb => (by (try dsimp only at hYb); go_simp; rfl)⟩) (by repeat' (first | with_reducible assumption | with_reducible exact Below.refl _ _ | with_reducible refine Below.drew ?_ | with_reducible refine below_drewN ?_ _)) ?_
            refine anyS_take (i := 1) rfl (by kernel_rfl) (fun _ _ _ h => h) (Or.inl ⟨by rfl, fun Y hYb => (by (try dsimp only at hYb); go_simp; rfl)⟩) (by repeat' (first | with_reducible assumption | with_reducible exact Below.refl _ _ | with_reducible refine Below.drew ?_ | with_reducible refine below_drewN ?_ _)) ?_
            refine anyS_take (i := 2) rfl (by kernel_rfl) (fun _ _ _ h => h) (Or.inl ⟨by rfl, fun Y hYb => (by (try dsimp only at hYb); go_simp; rfl)⟩) (by repeat' (first | with_reducible assumption | with_reducible exact Below.refl _ _ | with_reducible refine Below.drew ?_ | with_reducible refine below_drewN ?_ _)) ?_
            refine anyS_take (i := 3) rfl (by kernel_rfl) (fun _ _ _ h => h) (Or.inl ⟨by rfl, fun Y hYb => (by (try dsimp only at hYb); go_simp; rfl)⟩) (by repeat' (first | with_reducible assumption | with_reducible exact Below.refl _ _ | with_reducible refine Below.drew ?_ | with_reducible refine below_drewN ?_ _)) ?_
            refine anyS_take (i := 4) rfl (by kernel_rfl) (fun _ _ _ h => h) (Or.inl ⟨by rfl, fun Y hYb => (by (try dsimp only at hYb); go_simp; rfl)⟩) (by repeat' (first | with_reducible assumption | with_reducible exact Below.refl _ _ | with_reducible refine Below.drew ?_ | with_reducible refine below_drewN ?_ _)) ?_
            refine anyS_take (i := 5) rfl (by kernel_rfl) (fun _ _ _ h => h) (Or.inl ⟨by rfl, fun Y hYb => (by (try dsimp only at hYb); go_simp; rfl)⟩) (by repeat' (first | with_reducible assumption | with_reducible exact Below.refl _ _ | with_reducible refine Below.drew ?_ | with_reducible refine below_drewN ?_ _)) ?_
            refine anyS_take (i := 6) rfl (by kernel_rfl) (fun _ _ _ h => h) (Or.inl ⟨by rfl, fun Y hYb => (by (try dsimp only at hYb); go_simp; rfl)⟩) (by repeat' (first | with_reducible assumption | with_reducible exact Below.refl _ _ | with_reducible refine Below.drew ?_ | with_reducible refine below_drewN ?_ _)) ?_
            refine anyS_take (i := 7) rfl (by kernel_rfl) (fun _ _ _ h => h) (Or.inl ⟨by rfl, fun Y hYb => (by (try dsimp only at hYb); go_simp; rfl)⟩) (by repeat' (first | with_reducible assumption | with_reducible exact Below.refl _ _ | with_reducible refine Below.drew ?_ | with_reducible refine below_drewN ?_ _)) ?_
            refine anyS_take (i := 8) rfl (by kernel_rfl) (fun _ _ _ h => h) (Or.inl ⟨by rfl, fun Y hYb => (by (try dsimp only at hYb); go_simp; rfl)⟩) (by repeat' (first | with_reducible assumption | with_reducible exact Below.refl _ _ | with_reducible refine Below.drew ?_ | with_reducible refine below_drewN ?_ _)) ?_
            refine anyS_one (i := 9) (by kernel_rfl) rfl (by rfl) (fun K hK => ?_)
            go_simp
            refine hK _ _ (fun h _ => absurd h (by decide)) ?_
            clear hK K
            refine anyS_done (by kernel_rfl) ?_ _
            clear r0 r1 r2 r3 r4 r5 y0 y1 y2 y3 yf
            have n0 : bg ≠ bx := hne
            have n1 : bg ≠ w.heap.size + 1 := by omega
            have n2 : bg ≠ wo.heap.size := by omega
            go_wp2_with fail
            go_roundw
            case rel => exact ⟨j + 1, by omega, by go_num, by rw [HLJ.out]; exact RG.drew.setC i cj, (((XG.drew.far (p := ⟨bg, i * 4, none⟩) n0 _).far (p := ⟨bg, i * 4 + 1, none⟩) n0 _).far (p := ⟨bg, i * 4 + 2, none⟩) n0 _).far (p := ⟨bg, i * 4 + 3, none⟩) n0 _, (((Y1.drew.far (p := ⟨bg, i * 4, none⟩) n1 _).far (p := ⟨bg, i * 4 + 1, none⟩) n1 _).far (p := ⟨bg, i * 4 + 2, none⟩) n1 _).far (p := ⟨bg, i * 4 + 3, none⟩) n1 _, (((Xs.drew.far (p := ⟨bg, i * 4, none⟩) n2 _).far (p := ⟨bg, i * 4 + 1, none⟩) n2 _).far (p := ⟨bg, i * 4 + 2, none⟩) n2 _).far (p := ⟨bg, i * 4 + 3, none⟩) n2 _, by (repeat' (first | with_reducible assumption | with_reducible exact Below.refl _ _ | with_reducible refine Below.drew ?_ | with_reducible refine below_drewN ?_ _ | with_reducible refine balloc ?_ _ | with_reducible refine bset ?_ ?_ _ | with_reducible refine Below.setCell ?_ ?_ _ | with_reducible refine Below.alloc ?_ ?_ _ | omega | (simp; done) | (simp; omega)))⟩
            case measure => simp [intOf]; omega
          · obtain rfl : j = ni := (by omega)
            rw [← HLN.out] at RG
            have x2 := Xs.at_ 2 rfl
            go_wp2_with fail
            go_roundw
            case rel => exact ⟨k + 1, by omega, by go_num, RG, XG, Y1, hB⟩
            case measure => simp [intOf]; omega
      · obtain rfl : k = m := (by omega)
        have hL0 : addTo (layS f k) p 0 = layS f k := rfl
        have hLs : ∀ j, addTo (layS f k) p (j + 1) = addC (addTo (layS f k) p j) (p j) := fun _ => rfl
        have hbd := fun j (hj : j ≤ q) => (addTo_spec (n := no) (layS_valid (n := no) (f := f) k HF.out) j (fun i hi => HPF.out i (by omega))).1
        generalize hAA : addTo (layS f k) p = AA at *
        clear hAA
        rw [← hL0] at RG
        have HLS := hid hLs; have HBD := hid hbd
        clear hL0 hLs hbd
        clear HF HN HS
        go_wp2_with fail
        go_loopw [52] (fun i wr => ∃ j : Nat, j ≤ q ∧ i = .int .i64 j ∧ Ro wr bg (no * 4) (flatC (AA j)) ∧ Bx wr bx #[.int .i64 (Wd : Int), .int .i64 (Hd : Int), .slice (some ⟨bg, 0, none⟩) no no] ∧ Bx wr (w.heap.size + 1) #[.int .i64 0, .int .i64 0, .slice none 0 0] ∧ Below w.heap.size w wr) (fun i _ => q - (intOf i).toNat)
        case atStart => exact ⟨0, Nat.zero_le _, rfl, RG, XG, Y1, hB⟩
        case round =>
          clear RG XG Y1 hB
          obtain ⟨j, hj, rfl, RG, XG, Y1, hB⟩ := hrel
          by_cases hlj : j < q
          · obtain ⟨b1, o1, rfl, hb1, d0, d1, d2, d3, d4, d5⟩ := HP.six hlj
            obtain ⟨n1, n2, n3, n4, n5, n6⟩ := HPF.out j hlj
            have hls := HLS.out j
            have hbd := HBD.out j hj
            have c0 := (bcell hB _ _ hb1).trans d0; have c1 := (bcell hB _ _ hb1).trans d1; have c2 := (bcell hB _ _ hb1).trans d2; have c3 := (bcell hB _ _ hb1).trans d3; have c4 := (bcell hB _ _ hb1).trans d4; have c5 := (bcell hB _ _ hb1).trans d5
            have hb2 := Nat.lt_of_lt_of_le hb1 hB.size
            clear d0 d1 d2 d3 d4 d5
            generalize p j = x at *
            obtain ⟨st, fr, to, ce, di, co⟩ := x
            dsimp only at *
            obtain ⟨i, rfl⟩ : ∃ i : Nat, ce = i := ⟨ce.toNat, by omega⟩
            obtain ⟨d, rfl⟩ : ∃ d : Nat, di = d := ⟨di.toNat, by omega⟩
            have hd4 : d < 4 := by omega
            have hin : i < no := by omega
            obtain ⟨v1, v2⟩ := hbd i d hd4
            unfold addC at hls
            dsimp only [Int.toNat_natCast] at hls
            have y0 := RG.2 (i * 4 + d) (by omega)
            rw [flatC_at _ _ _ hd4] at y0
            have hfl : flatC (AA (j + 1)) = upd (flatC (AA j)) (i * 4 + d) ((AA j i).get d + co) := by rw [hls, flatC_with _ _ _ hd4]
            generalize (AA j i).get d = u at *
            have HFL := hid hfl
            clear hfl hls hbd
            have u3 : u + co ≤ 1000000000000000 := by omega
            have u4 : 0 ≤ u + co := by omega
            go_wp2_with fail
            have Xs := Bx.new wr #[.int .i64 st, .int .i64 fr, .int .i64 to, .int .i64 (i : Int), .int .i64 (d : Int), .int .i64 co] 106
            have hW : Below wr.heap.size wr (wr.alloc (.cells #[.int .i64 st, .int .i64 fr, .int .i64 to, .int .i64 (i : Int), .int .i64 (d : Int), .int .i64 co] 106)) := below_alloc _ _
            have lg := RG.lt; have lx := XG.lt; have ly := Y1.lt
            replace y0 := (bcell hW _ _ lg).trans y0
            replace RG := RG.below hW; replace XG := XG.below hW; replace Y1 := Y1.below hW; replace hB := bvia hB hW
            have lg2 := RG.lt
            clear c0 c1 c2 c3 c4 c5 hW
            generalize hWg : wr.alloc (.cells #[.int .i64 st, .int .i64 fr, .int .i64 to, .int .i64 (i : Int), .int .i64 (d : Int), .int .i64 co] 106) = W5 at *
            clear hWg
            go_upto_region 14 with (fail)
            have r0 : ∀ Y, Below W5.heap.size W5 Y → Y.cell? ⟨bx, 2, none⟩ = some (.slice (some ⟨bg, 0, none⟩) no no) := fun Y h => (XG.below h).at_ 2 rfl
            have r1 : ∀ Y, Below W5.heap.size W5 Y → Y.cell? ⟨wr.heap.size, 3, none⟩ = some (.int .i64 (i : Int)) := fun Y h => (Xs.below h).at_ 3 rfl
            have r2 : ∀ Y, Below W5.heap.size W5 Y → Y.cell? ⟨wr.heap.size, 4, none⟩ = some (.int .i64 (d : Int)) := fun Y h => (Xs.below h).at_ 4 rfl
            have r3 : ∀ Y, Below W5.heap.size W5 Y → Y.cell? ⟨wr.heap.size, 5, none⟩ = some (.int .i64 co) := fun Y h => (Xs.below h).at_ 5 rfl
            have r4 : ∀ Y, Below W5.heap.size W5 Y → Y.cell? ⟨bg, i * 4 + d, none⟩ = some (.int .i64 u) := fun Y h => (bcell h _ _ lg2).trans y0
            have yf := RG.free
            have hdI : (d : Int) < 4 := by omega
            have hww : IntKind.i64.wrap (u + co) = u + co := IntWalk.i64_in _ (by omega)
            refine wp_region_S (fun Y => Below W5.heap.size W5 Y) 14 (by kernel_rfl) ?_
            refine anyS_take (i := 0) rfl (by kernel_rfl) (fun _ _ _ h => h) (Or.inl ⟨by rfl, fun Y hYb => (by (try dsimp only at hYb); go_simp; rfl)⟩) (by repeat' (first | with_reducible assumption | with_reducible exact Below.refl _ _ | with_reducible refine Below.drew ?_ | with_reducible refine below_drewN ?_ _)) ?_
            refine anyS_take (i := 1) rfl (by kernel_rfl) (fun _ _ _ h => h) (Or.inl ⟨by rfl, fun Y hYb => (by (try dsimp only at hYb); go_simp; rfl)⟩) (by repeat' (first | with_reducible assumption | with_reducible exact Below.refl _ _ | with_reducible refine Below.drew ?_ | with_reducible refine below_drewN ?_ _)) ?_
            refine anyS_take (i := 2) rfl (by kernel_rfl) (fun _ _ _ h => h) (Or.inl ⟨by rfl, fun Y hYb => (by (try dsimp only at hYb); go_simp; rfl)⟩) (by repeat' (first | with_reducible assumption | with_reducible exact Below.refl _ _ | with_reducible refine Below.drew ?_ | with_reducible refine below_drewN ?_ _)) ?_
            refine anyS_take (i := 3) rfl (by kernel_rfl) (fun _ _ _ h => h) (Or.inl ⟨by rfl, fun Y hYb => (by (try dsimp only at hYb); go_simp; rfl)⟩) (by repeat' (first | with_reducible assumption | with_reducible exact Below.refl _ _ | with_reducible refine Below.drew ?_ | with_reducible refine below_drewN ?_ _)) ?_
            refine anyS_take (i := 4) rfl (by kernel_rfl) (fun _ _ _ h => h) (Or.inl ⟨by rfl, fun Y hYb => (by (try dsimp only at hYb); go_simp; rfl)⟩) (by repeat' (first | with_reducible assumption | with_reducible exact Below.refl _ _ | with_reducible refine Below.drew ?_ | with_reducible refine below_drewN ?_ _)) ?_
            refine anyS_take (i := 5) rfl (by kernel_rfl) (fun _ _ _ h => h) (Or.inl ⟨by rfl, fun Y hYb => (by (try dsimp only at hYb); go_simp; rfl)⟩) (by repeat' (first | with_reducible assumption | with_reducible exact Below.refl _ _ | with_reducible refine Below.drew ?_ | with_reducible refine below_drewN ?_ _)) ?_
            refine anyS_take (i := 6) rfl (by kernel_rfl) (fun _ _ _ h => h) (Or.inl ⟨by rfl, fun Y hYb => (by (try dsimp only at hYb); go_simp; rfl)⟩) (by repeat' (first | with_reducible assumption | with_reducible exact Below.refl _ _ | with_reducible refine Below.drew ?_ | with_reducible refine below_drewN ?_ _)) ?_
            refine anyS_take (i := 7) rfl (by kernel_rfl) (fun _ _ _ h => h) (Or.inl ⟨by rfl, fun Y hYb => (by (try dsimp only at hYb); go_simp; rfl)⟩) (by repeat' (first | with_reducible assumption | with_reducible exact Below.refl _ _ | with_reducible refine Below.drew ?_ | with_reducible refine below_drewN ?_ _)) ?_
            refine anyS_take (i := 8) rfl (by kernel_rfl) (fun _ _ _ h => h) (Or.inl ⟨by rfl, fun Y hYb => (by (try dsimp only at hYb); go_simp; rfl)⟩) (by repeat' (first | with_reducible assumption | with_reducible exact Below.refl _ _ | with_reducible refine Below.drew ?_ | with_reducible refine below_drewN ?_ _)) ?_
            refine anyS_take (i := 9) rfl (by kernel_rfl) (fun _ _ _ h => h) (Or.inl ⟨by rfl, fun Y hYb => (by (try dsimp only at hYb); go_simp; rfl)⟩) (by repeat' (first | with_reducible assumption | with_reducible exact Below.refl _ _ | with_reducible refine Below.drew ?_ | with_reducible refine below_drewN ?_ _)) ?_
            refine anyS_take (i := 10) rfl (by kernel_rfl) (fun _ _ _ h => h) (Or.inl ⟨by rfl, fun Y hYb => (by (try dsimp only at hYb); go_simp; rfl)⟩) (by repeat' (first | with_reducible assumption | with_reducible exact Below.refl _ _ | with_reducible refine Below.drew ?_ | with_reducible refine below_drewN ?_ _)) ?_
            refine anyS_take (i := 11) rfl (by kernel_rfl) (fun _ _ _ h => h) (Or.inl ⟨by rfl, fun Y hYb => (by (try dsimp only at hYb); go_simp; rfl)⟩) (by repeat' (first | with_reducible assumption | with_reducible exact Below.refl _ _ | with_reducible refine Below.drew ?_ | with_reducible refine below_drewN ?_ _)) ?_
            refine anyS_pure (i := 12) rfl (by kernel_rfl) (fun _ _ _ h => h) (Or.inl ⟨by rfl, fun Y hYb => (by clear hYb; go_simp; rfl)⟩) ?_
            refine anyS_take (i := 13) rfl (by kernel_rfl) (fun _ _ _ h => h) (Or.inl ⟨by rfl, fun Y hYb => (by (try dsimp only at hYb); go_simp; rfl)⟩) (by repeat' (first | with_reducible assumption | with_reducible exact Below.refl _ _ | with_reducible refine Below.drew ?_ | with_reducible refine below_drewN ?_ _)) ?_
            refine anyS_one (i := 14) (by kernel_rfl) rfl (by rfl) (fun K hK => ?_)
            go_simp
            refine hK _ _ (fun h _ => absurd h (by decide)) ?_
            clear hK K
            refine anyS_done (by kernel_rfl) ?_ _
            clear r0 r1 r2 r3 r4 y0 yf
            have m0 : bg ≠ bx := hne
            have m1 : bg ≠ w.heap.size + 1 := by omega
            go_wp2_with fail
            go_roundw
            case rel => exact ⟨j + 1, by omega, by go_num, by rw [HFL.out]; exact RG.drew.set_ (i * 4 + d) (u + co), XG.drew.far (p := ⟨bg, i * 4 + d, none⟩) m0 _, Y1.drew.far (p := ⟨bg, i * 4 + d, none⟩) m1 _, by (repeat' (first | with_reducible assumption | with_reducible exact Below.refl _ _ | with_reducible refine Below.drew ?_ | with_reducible refine below_drewN ?_ _ | with_reducible refine balloc ?_ _ | with_reducible refine bset ?_ ?_ _ | with_reducible refine Below.setCell ?_ ?_ _ | with_reducible refine Below.alloc ?_ ?_ _ | omega | (simp; done) | (simp; omega)))⟩
            case measure => simp [intOf]; omega
          · obtain rfl : j = q := (by omega)
            have xg0 := XG.at_ 0 rfl; have xg1 := XG.at_ 1 rfl; have xg2 := XG.at_ 2 rfl; have lx := XG.lt
            have yy0 := Y1.at_ 0 rfl; have yy1 := Y1.at_ 1 rfl; have yy2 := Y1.at_ 2 rfl; have yyf := Y1.free; have ly := Y1.lt
            have nb : bg ≠ w.heap.size + 1 := by omega
            replace RG := ((RG.far (p := ⟨w.heap.size + 1, 0, none⟩) (Ne.symm nb) (.int .i64 (Wd : Int))).far (p := ⟨w.heap.size + 1, 1, none⟩) (Ne.symm nb) (.int .i64 (Hd : Int))).far (p := ⟨w.heap.size + 1, 2, none⟩) (Ne.symm nb) (.slice (some ⟨bg, 0, none⟩) no no)
            replace hB : Below w.heap.size w (((wr.setCell ⟨w.heap.size + 1, 0, none⟩ (.int .i64 (Wd : Int))).setCell ⟨w.heap.size + 1, 1, none⟩ (.int .i64 (Hd : Int))).setCell ⟨w.heap.size + 1, 2, none⟩ (.slice (some ⟨bg, 0, none⟩) no no)) := ((hB.setCell (by dsimp only; omega) _).setCell (by dsimp only; omega) _).setCell (by dsimp only; omega) _
            have Y2 : Bx (((wr.setCell ⟨w.heap.size + 1, 0, none⟩ (.int .i64 (Wd : Int))).setCell ⟨w.heap.size + 1, 1, none⟩ (.int .i64 (Hd : Int))).setCell ⟨w.heap.size + 1, 2, none⟩ (.slice (some ⟨bg, 0, none⟩) no no)) (w.heap.size + 1) #[.int .i64 (Wd : Int), .int .i64 (Hd : Int), .slice (some ⟨bg, 0, none⟩) no no] := ((Y1.set_ 0 (by simp) _).set_ 1 (by simp) _).set_ 2 (by simp) _
            go_wp2_with fail
            have r0 := Y2.at_ 0 rfl; have r1 := Y2.at_ 1 rfl; have r2 := Y2.at_ 2 rfl
            refine bodyPost_ret (v := .agg #[.int .i64 (Wd : Int), .int .i64 (Hd : Int), .slice (some ⟨bg, 0, none⟩) no no]) (by simp [results, Tryz.results40, go_sem, r0, r1, r2]) rfl ⟨bg, rfl, hbg, RG, hB⟩
end Go.Proofs.YteabkcbajpjkoaaGreat
