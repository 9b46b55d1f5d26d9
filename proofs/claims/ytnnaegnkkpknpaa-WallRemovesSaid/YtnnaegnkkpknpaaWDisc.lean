/- Walks: wall.Disc and wall.Smooth. -/
import Derived.Test.YtnnaegnkkpknpaaDiscF
import Derived.Test.YtnnaegnkkpknpaaWSlope
import Derived.Laws.EntriesVeiled
namespace Go.Proofs.Ytnnaegnkkpknpaa
open Go Go.RowKit
attribute [local go_sem ↓] Go.wp_at_zero Go.wp_at_succ
set_option linter.unusedVariables false
theorem ent138 : ∀ args w, (callFunc 138 args).run Try.prog w = .ok (.enter 138 args) w := Go.Proofs.enters_of Try.func138 (by kernel_rfl) rfl
theorem ent90 : ∀ args w, (callFunc 90 args).run Try.prog w = .ok (.enter 90 args) w := Go.Proofs.enters_of Try.func90 (by kernel_rfl) rfl
theorem ent92 : ∀ args w, (callFunc 92 args).run Try.prog w = .ok (.enter 92 args) w := Go.Proofs.enters_of Try.func92 (by kernel_rfl) rfl
theorem place_in {wide high : Int} {n : Nat} (v1 : 1 ≤ wide) (v2 : wide ≤ 64) (v4 : high ≤ 64) (hn : (n : Int) = wide * high) (k : Nat) (hk : k < n) : inG ((k : Int) % wide) ((k : Int) / wide) := by
  obtain ⟨hon, _⟩ := place_on v1 hn hk
  obtain ⟨⟨i0, i1⟩, i2, i3⟩ := onB_iff.1 hon
  exact ⟨i0, by omega, i2, by omega⟩
theorem near_of {x y : Int} (h : inG x y) : near x y := by
  obtain ⟨h1, h2, h3, h4⟩ := h
  exact ⟨by omega, by omega, by omega, by omega⟩
set_option maxRecDepth 100000 in
set_option maxHeartbeats 8000000 in
theorem wall_Disc (wide high q body : Int) (p : Int × Int) (a ak ab : Option Addr) (n nk nb c ck cb : Nat) (g : Nat → C4) (K B : Nat → Int) (w : World) (hn : n ≤ 100000) (hnk : nk ≤ 100000) (hnb : nb ≤ 100000) (H : Sc w a n g) (HK : Sl w ak nk K) (HB : Sl w ab nb B) :
    Calls Try.prog 35 #[.agg #[.int .i64 wide, .int .i64 high, .slice a n c], .agg #[.slice ak nk ck, .slice ab nb cb], .agg #[.int .i64 p.1, .int .i64 p.2], .int .i64 q, .int .i64 body] w
      (BrickPost (readyE (validW wide high n g nk nb K B) (allOn wide high (pts2 p p) (within q 0 10000) 1) body) wide high body (fBricks wide (dIn wide high p q) (fun _ _ => 1) n) n K B w) := by
  have X0 := (((Bx.new w #[.int .i64 wide, .int .i64 high, .slice a n c] 24).alloc (.cells #[.slice ak nk ck, .slice ab nb cb] 27)).alloc (.cells #[.int .i64 p.1, .int .i64 p.2] 51)).alloc (.cells #[.slice none 0 0, .slice none 0 0] 27)
  have X1 := ((Bx.new (w.alloc (.cells #[.int .i64 wide, .int .i64 high, .slice a n c] 24)) #[.slice ak nk ck, .slice ab nb cb] 27).alloc (.cells #[.int .i64 p.1, .int .i64 p.2] 51)).alloc (.cells #[.slice none 0 0, .slice none 0 0] 27)
  have X2 := (Bx.new ((w.alloc (.cells #[.int .i64 wide, .int .i64 high, .slice a n c] 24)).alloc (.cells #[.slice ak nk ck, .slice ab nb cb] 27)) #[.int .i64 p.1, .int .i64 p.2] 51).alloc (.cells #[.slice none 0 0, .slice none 0 0] 27)
  have X3 := Bx.new (((w.alloc (.cells #[.int .i64 wide, .int .i64 high, .slice a n c] 24)).alloc (.cells #[.slice ak nk ck, .slice ab nb cb] 27)).alloc (.cells #[.int .i64 p.1, .int .i64 p.2] 51)) #[.slice none 0 0, .slice none 0 0] 27
  simp only [World.size_alloc] at X1 X2 X3
  have hB0 : Below w.heap.size w ((((w.alloc (.cells #[.int .i64 wide, .int .i64 high, .slice a n c] 24)).alloc (.cells #[.slice ak nk ck, .slice ab nb cb] 27)).alloc (.cells #[.int .i64 p.1, .int .i64 p.2] 51)).alloc (.cells #[.slice none 0 0, .slice none 0 0] 27)) := by (repeat' (first | with_reducible assumption | with_reducible exact Below.refl _ _ | with_reducible refine Below.drew ?_ | with_reducible refine below_drewN ?_ _ | with_reducible refine balloc ?_ _ | with_reducible refine bset ?_ ?_ _ | with_reducible refine Below.setCell ?_ ?_ _ | with_reducible refine Below.alloc ?_ ?_ _ | omega | (simp; done) | (simp; omega)))
  go_enter Try.func35, Try.ntmps35
  go_upto_region 1 with (fail)
  generalize ((((w.alloc (.cells #[.int .i64 wide, .int .i64 high, .slice a n c] 24)).alloc (.cells #[.slice ak nk ck, .slice ab nb cb] 27)).alloc (.cells #[.int .i64 p.1, .int .i64 p.2] 51)).alloc (.cells #[.slice none 0 0, .slice none 0 0] 27)) = W0 at X0 X1 X2 X3 hB0 ⊢
  have z0 := X0.lt
  have z1 := X1.lt
  have z2 := X2.lt
  have z3 := X3.lt
  have I := H.below hB0; have IK := HK.below hB0; have IB := HB.below hB0
  go_cut [12] from 13 to 20 (fun s14 W => s14 = .int .i64 (readyE (validW wide high n g nk nb K B) (allOn wide high (pts2 p p) (within q 0 10000) 1) body) ∧ Below W0.heap.size W0 W)
  case first =>
    have r0 : ∀ W, Below W0.heap.size W0 W → W.cell? ⟨w.heap.size, 0, none⟩ = some (.int .i64 wide) := fun W h => (X0.below h).at_ 0 rfl
    have r1 : ∀ W, Below W0.heap.size W0 W → W.cell? ⟨w.heap.size, 1, none⟩ = some (.int .i64 high) := fun W h => (X0.below h).at_ 1 rfl
    have r2 : ∀ W, Below W0.heap.size W0 W → W.cell? ⟨w.heap.size, 2, none⟩ = some (.slice a n c) := fun W h => (X0.below h).at_ 2 rfl
    have r3 : ∀ W, Below W0.heap.size W0 W → W.cell? ⟨w.heap.size + 1, 0, none⟩ = some (.slice ak nk ck) := fun W h => (X1.below h).at_ 0 rfl
    have r4 : ∀ W, Below W0.heap.size W0 W → W.cell? ⟨w.heap.size + 1, 1, none⟩ = some (.slice ab nb cb) := fun W h => (X1.below h).at_ 1 rfl
    have r5 : ∀ W, Below W0.heap.size W0 W → W.cell? ⟨w.heap.size + 1 + 1, 0, none⟩ = some (.int .i64 p.1) := fun W h => (X2.below h).at_ 0 rfl
    have r6 : ∀ W, Below W0.heap.size W0 W → W.cell? ⟨w.heap.size + 1 + 1, 1, none⟩ = some (.int .i64 p.2) := fun W h => (X2.below h).at_ 1 rfl
    clear X0 X1 X2 X3
    go_region_held3 (fun W => Below W0.heap.size W0 W) ((repeat' (first | with_reducible assumption | with_reducible exact Below.refl _ _ | with_reducible refine Below.drew ?_ | with_reducible refine below_drewN ?_ _ | with_reducible refine balloc ?_ _ | with_reducible refine bset ?_ ?_ _ | with_reducible refine Below.setCell ?_ ?_ _ | with_reducible refine Below.alloc ?_ ?_ _ | omega | (simp; done) | (simp; omega))))
      ((first
        | (go_at_call 66; refine (wall_within _ _ _ _).mono ?_; rintro e w' ⟨rfl, rfl⟩)
        | (go_at_call 77; refine (wall_ready wide high body _ a ak ab _ n nk nb 1 _ _ _ _ g K B (pts2 p p) _ (by omega) (by omega) (by omega) (by omega) (I.below (by (repeat' (first | with_reducible assumption | with_reducible exact Below.refl _ _ | with_reducible refine Below.drew ?_ | with_reducible refine below_drewN ?_ _ | with_reducible refine balloc ?_ _ | with_reducible refine bset ?_ ?_ _ | with_reducible refine Below.setCell ?_ ?_ _ | with_reducible refine Below.alloc ?_ ?_ _ | omega | (simp; done) | (simp; omega))))) (IK.below (by (repeat' (first | with_reducible assumption | with_reducible exact Below.refl _ _ | with_reducible refine Below.drew ?_ | with_reducible refine below_drewN ?_ _ | with_reducible refine balloc ?_ _ | with_reducible refine bset ?_ ?_ _ | with_reducible refine Below.setCell ?_ ?_ _ | with_reducible refine Below.alloc ?_ ?_ _ | omega | (simp; done) | (simp; omega))))) (IB.below (by (repeat' (first | with_reducible assumption | with_reducible exact Below.refl _ _ | with_reducible refine Below.drew ?_ | with_reducible refine below_drewN ?_ _ | with_reducible refine balloc ?_ _ | with_reducible refine bset ?_ ?_ _ | with_reducible refine Below.setCell ?_ ?_ _ | with_reducible refine Below.alloc ?_ ?_ _ | omega | (simp; done) | (simp; omega))))) (sp_of_bx1 (by (repeat' (first | with_reducible assumption | (with_reducible refine Bx.newE ?_ _ _; (simp; done)) | with_reducible refine Bx.alloc ?_ _ | with_reducible refine Bx.drew ?_ | with_reducible refine Bx.drewN ?_ _ | with_reducible refine Bx.four ?_ | (with_reducible refine Bx.far2 ?_ ?_ _; (dsimp only; omega))))))).mono ?_; rintro e w1 ⟨rfl, hb1⟩; have hB1 : Below W0.heap.size W0 w1 := bvia (by (repeat' (first | with_reducible assumption | with_reducible exact Below.refl _ _ | with_reducible refine Below.drew ?_ | with_reducible refine below_drewN ?_ _ | with_reducible refine balloc ?_ _ | with_reducible refine bset ?_ ?_ _ | with_reducible refine Below.setCell ?_ ?_ _ | with_reducible refine Below.alloc ?_ ?_ _ | omega | (simp; done) | (simp; omega)))) hb1)
        | fail))
    all_goals
      go_wp2_with fail
      go_meet
      exact ⟨rfl, by with_reducible assumption⟩
  case rest =>
    obtain ⟨rfl, hBc⟩ := hcut
    have Y0 := X0.below hBc; have Y1 := X1.below hBc; have Y2 := X2.below hBc; have Y3 := X3.below hBc
    have hB1 : Below w.heap.size w wc := bvia hB0 hBc
    have JK := IK.below hBc; have JB := IB.below hBc
    clear X0 X1 X2 X3 I IK IB
    generalize hE : readyE (validW wide high n g nk nb K B) (allOn wide high (pts2 p p) (within q 0 10000) 1) body = er
    have l5 := Y3.lt
    cases hne : (er != 0)
    · skip
      obtain rfl : er = 0 := by simpa using hne
      obtain ⟨hV, hO, hW⟩ := readyE_zero hE
      obtain ⟨hG, rfl, rfl, _⟩ := (validW_iff ..).1 hV
      obtain ⟨v1, v2, v3, v4, v5, v6, _, _⟩ := (validG_iff ..).1 hG
      obtain ⟨_, o1, o2, o3, o4⟩ := allOn_one hO
      have hp : 0 ≤ p.1 ∧ p.1 ≤ 63 ∧ 0 ≤ p.2 ∧ p.2 ≤ 63 := ⟨by omega, by omega, by omega, by omega⟩
      have h0 : 0 < nb := by
        have : 1 * 1 ≤ wide * high := Int.mul_le_mul v1 v3 (by omega) (by omega)
        omega
      have HV6 := hid v6
      have hin := place_in v1 v2 v4 v6
      have HE := hid hE
      clear hE hV hO hG v5 v6 hne
      go_upto_region 4 with (fail)
      have r0 : ∀ W, Below (w.heap.size + 3) wc W → W.cell? ⟨w.heap.size, 0, none⟩ = some (.int .i64 wide) := fun W h => (bcell h _ _ (by omega)).trans (Y0.at_ 0 rfl)
      have r1 : ∀ W, Below (w.heap.size + 3) wc W → W.cell? ⟨w.heap.size, 1, none⟩ = some (.int .i64 high) := fun W h => (bcell h _ _ (by omega)).trans (Y0.at_ 1 rfl)
      have r2 : ∀ W, Below (w.heap.size + 3) wc W → W.cell? ⟨w.heap.size, 2, none⟩ = some (.slice a nb c) := fun W h => (bcell h _ _ (by omega)).trans (Y0.at_ 2 rfl)
      have r3 : ∀ W, Below (w.heap.size + 3) wc W → W.cell? ⟨w.heap.size + 1, 0, none⟩ = some (.slice ak nb ck) := fun W h => (bcell h _ _ (by omega)).trans (Y1.at_ 0 rfl)
      have r4 : ∀ W, Below (w.heap.size + 3) wc W → W.cell? ⟨w.heap.size + 1, 1, none⟩ = some (.slice ab nb cb) := fun W h => (bcell h _ _ (by omega)).trans (Y1.at_ 1 rfl)
      have r5 : ∀ W, Below (w.heap.size + 3) wc W → W.cell? ⟨w.heap.size + 1 + 1, 0, none⟩ = some (.int .i64 p.1) := fun W h => (bcell h _ _ (by omega)).trans (Y2.at_ 0 rfl)
      have r6 : ∀ W, Below (w.heap.size + 3) wc W → W.cell? ⟨w.heap.size + 1 + 1, 1, none⟩ = some (.int .i64 p.2) := fun W h => (bcell h _ _ (by omega)).trans (Y2.at_ 1 rfl)
      have q0 : ∀ W, Below wc.heap.size wc W → W.cell? ⟨w.heap.size + 1 + 1 + 1, 0, none⟩ = some (.slice none 0 0) := fun W h => (Y3.below h).at_ 0 rfl
      have q1 : ∀ W, Below wc.heap.size wc W → W.cell? ⟨w.heap.size + 1 + 1 + 1, 1, none⟩ = some (.slice none 0 0) := fun W h => (Y3.below h).at_ 1 rfl
      have qf : ∀ W, Below wc.heap.size wc W → ∀ i, W.frozen? ⟨w.heap.size + 1 + 1 + 1, i, none⟩ = false := fun W h => (Y3.below h).free
      go_region_held3 (fun W => Below (w.heap.size + 3) wc W) ((repeat' (first | with_reducible assumption | with_reducible exact Below.refl _ _ | with_reducible refine Below.drew ?_ | with_reducible refine below_drewN ?_ _ | with_reducible refine balloc ?_ _ | with_reducible refine bset ?_ ?_ _ | with_reducible refine Below.setCell ?_ ?_ _ | with_reducible refine Below.alloc ?_ ?_ _ | omega | (simp; done) | (simp; omega))))
        ((first
          | (go_at_call 89; refine (wall_disc wide high q p a nb c _).mono ?_; rintro e w0 ⟨bp, bg0, bq, rfl, Xp, Xg0, Xq, hb0⟩; have hC0 : Below wc.heap.size wc w0 := bvia (by (repeat' (first | with_reducible assumption | with_reducible exact Below.refl _ _ | with_reducible refine Below.drew ?_ | with_reducible refine below_drewN ?_ _ | with_reducible refine balloc ?_ _ | with_reducible refine bset ?_ ?_ _ | with_reducible refine Below.setCell ?_ ?_ _ | with_reducible refine Below.alloc ?_ ?_ _ | omega | (simp; done) | (simp; omega)))) hb0; have hD0 := hC0.mono (show w.heap.size + 3 ≤ wc.heap.size by omega); have hs0 := hC0.size)
          | (go_at_call 81; refine (wall_all wide high a nb c _ _ _).mono ?_; rintro e w1 ⟨bg, bi, rfl, Xg, Xi, hb1⟩; have hC1 : Below wc.heap.size wc w1 := bvia (by (repeat' (first | with_reducible assumption | with_reducible exact Below.refl _ _ | with_reducible refine Below.drew ?_ | with_reducible refine below_drewN ?_ _ | with_reducible refine balloc ?_ _ | with_reducible refine bset ?_ ?_ _ | with_reducible refine Below.setCell ?_ ?_ _ | with_reducible refine Below.alloc ?_ ?_ _ | omega | (simp; done) | (simp; omega)))) hb1; have hD1 := hC1.mono (show w.heap.size + 3 ≤ wc.heap.size by omega); have hs1 := hC1.size;
             have Xp1 := Xp.below (bvia (by (repeat' (first | with_reducible assumption | with_reducible exact Below.refl _ _ | with_reducible refine Below.drew ?_ | with_reducible refine below_drewN ?_ _ | with_reducible refine balloc ?_ _ | with_reducible refine bset ?_ ?_ _ | with_reducible refine Below.setCell ?_ ?_ _ | with_reducible refine Below.alloc ?_ ?_ _ | omega | (simp; done) | (simp; omega)))) hb1); have Xg1 := Xg0.below (bvia (by (repeat' (first | with_reducible assumption | with_reducible exact Below.refl _ _ | with_reducible refine Below.drew ?_ | with_reducible refine below_drewN ?_ _ | with_reducible refine balloc ?_ _ | with_reducible refine bset ?_ ?_ _ | with_reducible refine Below.setCell ?_ ?_ _ | with_reducible refine Below.alloc ?_ ?_ _ | omega | (simp; done) | (simp; omega)))) hb1); have Xq1 := Xq.below (bvia (by (repeat' (first | with_reducible assumption | with_reducible exact Below.refl _ _ | with_reducible refine Below.drew ?_ | with_reducible refine below_drewN ?_ _ | with_reducible refine balloc ?_ _ | with_reducible refine bset ?_ ?_ _ | with_reducible refine Below.setCell ?_ ?_ _ | with_reducible refine Below.alloc ?_ ?_ _ | omega | (simp; done) | (simp; omega)))) hb1))
          | (go_at_call 80; refine (wall_kinds _ _ _ _ _).mono ?_; rintro e w2 ⟨bp', bk', rfl, Xp', Xk', hb2⟩; have hC2 : Below wc.heap.size wc w2 := bvia (by (repeat' (first | with_reducible assumption | with_reducible exact Below.refl _ _ | with_reducible refine Below.drew ?_ | with_reducible refine below_drewN ?_ _ | with_reducible refine balloc ?_ _ | with_reducible refine bset ?_ ?_ _ | with_reducible refine Below.setCell ?_ ?_ _ | with_reducible refine Below.alloc ?_ ?_ _ | omega | (simp; done) | (simp; omega)))) hb2; have hD2 := hC2.mono (show w.heap.size + 3 ≤ wc.heap.size by omega); have hs2 := hC2.size;
             have hit := kinds_iter bp' bk' 136 90 _ _ (fun _ _ => True) (fun _ _ => 1) (placesTo wide (dIn wide high p q) nb) w2 Xp' Xk' (all_iter wide high a nb c bg bi 138 _ near (dIn wide high p q) w2 v1 v2 (by omega) (Xg.below (bvia (by (repeat' (first | with_reducible assumption | with_reducible exact Below.refl _ _ | with_reducible refine Below.drew ?_ | with_reducible refine below_drewN ?_ _ | with_reducible refine balloc ?_ _ | with_reducible refine bset ?_ ?_ _ | with_reducible refine Below.setCell ?_ ?_ _ | with_reducible refine Below.alloc ?_ ?_ _ | omega | (simp; done) | (simp; omega)))) hb2)) (Xi.below (bvia (by (repeat' (first | with_reducible assumption | with_reducible exact Below.refl _ _ | with_reducible refine Below.drew ?_ | with_reducible refine below_drewN ?_ _ | with_reducible refine balloc ?_ _ | with_reducible refine bset ?_ ?_ _ | with_reducible refine Below.setCell ?_ ?_ _ | with_reducible refine Below.alloc ?_ ?_ _ | omega | (simp; done) | (simp; omega)))) hb2)) (disc_tells wide high q p a nb c _ _ _ w2 ⟨v1, v2⟩ ⟨v3, v4⟩ hp (Xp1.below (bvia (by (repeat' (first | with_reducible assumption | with_reducible exact Below.refl _ _ | with_reducible refine Below.drew ?_ | with_reducible refine below_drewN ?_ _ | with_reducible refine balloc ?_ _ | with_reducible refine bset ?_ ?_ _ | with_reducible refine Below.setCell ?_ ?_ _ | with_reducible refine Below.alloc ?_ ?_ _ | omega | (simp; done) | (simp; omega)))) hb2)) (Xg1.below (bvia (by (repeat' (first | with_reducible assumption | with_reducible exact Below.refl _ _ | with_reducible refine Below.drew ?_ | with_reducible refine below_drewN ?_ _ | with_reducible refine balloc ?_ _ | with_reducible refine bset ?_ ?_ _ | with_reducible refine Below.setCell ?_ ?_ _ | with_reducible refine Below.alloc ?_ ?_ _ | omega | (simp; done) | (simp; omega)))) hb2)) (Xq1.below (bvia (by (repeat' (first | with_reducible assumption | with_reducible exact Below.refl _ _ | with_reducible refine Below.drew ?_ | with_reducible refine below_drewN ?_ _ | with_reducible refine balloc ?_ _ | with_reducible refine bset ?_ ?_ _ | with_reducible refine Below.setCell ?_ ?_ _ | with_reducible refine Below.alloc ?_ ?_ _ | omega | (simp; done) | (simp; omega)))) hb2))) (fun k hk => near_of (hin k hk)) ent138) (back_tells w2) (fun _ _ => trivial) ent136 ent90)
          | (go_at_call 79; refine (wall_put wide high body ak ab a nb c ck cb 135 _ K B (fBricks wide (dIn wide high p q) (fun _ _ => 1) nb) _ ⟨v1, v2⟩ ⟨v3, v4⟩ HV6.out (by omega) h0 (JK.below (by (repeat' (first | with_reducible assumption | with_reducible exact Below.refl _ _ | with_reducible refine Below.drew ?_ | with_reducible refine below_drewN ?_ _ | with_reducible refine balloc ?_ _ | with_reducible refine bset ?_ ?_ _ | with_reducible refine Below.setCell ?_ ?_ _ | with_reducible refine Below.alloc ?_ ?_ _ | omega | (simp; done) | (simp; omega))))) (JB.below (by (repeat' (first | with_reducible assumption | with_reducible exact Below.refl _ _ | with_reducible refine Below.drew ?_ | with_reducible refine below_drewN ?_ _ | with_reducible refine balloc ?_ _ | with_reducible refine bset ?_ ?_ _ | with_reducible refine Below.setCell ?_ ?_ _ | with_reducible refine Below.alloc ?_ ?_ _ | omega | (simp; done) | (simp; omega))))) (hit.later (by (repeat' (first | with_reducible assumption | with_reducible exact Below.refl _ _ | with_reducible refine Below.drew ?_ | with_reducible refine below_drewN ?_ _ | with_reducible refine balloc ?_ _ | with_reducible refine bset ?_ ?_ _ | with_reducible refine Below.setCell ?_ ?_ _ | with_reducible refine Below.alloc ?_ ?_ _ | omega | (simp; done) | (simp; omega))))) ent135).mono ?_; rintro e w3 ⟨a1, a2, c1, c2, rfl, S1, S2, hb3⟩; have hC3 : Below wc.heap.size wc w3 := bvia (by (repeat' (first | with_reducible assumption | with_reducible exact Below.refl _ _ | with_reducible refine Below.drew ?_ | with_reducible refine below_drewN ?_ _ | with_reducible refine balloc ?_ _ | with_reducible refine bset ?_ ?_ _ | with_reducible refine Below.setCell ?_ ?_ _ | with_reducible refine Below.alloc ?_ ?_ _ | omega | (simp; done) | (simp; omega)))) hb3; have hD3 := hC3.mono (show w.heap.size + 3 ≤ wc.heap.size by omega); have hs3 := hC3.size)
          | fail))
      all_goals
        have Y6 := Y3.below hC3
        have hBw : Below w.heap.size w w3 := bvia hB1 hC3
        have y50 := q0 w3 hC3; have y51 := q1 w3 hC3; have y5f := qf w3 hC3
        generalize hpl : lLen wide high body B (fBricks wide (dIn wide high p q) (fun _ _ => 1) nb) nb = pl at S1 S2 ⊢
        have HPL := hid hpl; clear hpl
        go_wp2_with fail
        refine bodyPost_ret (v := .tuple #[.agg #[.slice a1 pl c1, .slice a2 pl c2], .int .i64 (lErr wide high body B (fBricks wide (dIn wide high p q) (fun _ _ => 1) nb))]) (by simp [results, Try.results35, go_sem, y50, y51]) rfl ?_
        rw [HE.out]
        exact ⟨fun _ => ⟨a1, a2, c1, c2, by rw [HPL.out], by rw [HPL.out]; exact S1.set2 Y6 _ _, by rw [HPL.out]; exact S2.set2 Y6 _ _, by (repeat' (first | with_reducible assumption | with_reducible exact Below.refl _ _ | with_reducible refine Below.drew ?_ | with_reducible refine below_drewN ?_ _ | with_reducible refine balloc ?_ _ | with_reducible refine bset ?_ ?_ _ | with_reducible refine Below.setCell ?_ ?_ _ | with_reducible refine Below.alloc ?_ ?_ _ | omega | (simp; done) | (simp; omega)))⟩, fun h => absurd rfl h⟩
    · skip
      have her : er ≠ 0 := by simpa using hne
      have HE := hid hE; clear hE
      have y50 := Y3.at_ 0 rfl; have y51 := Y3.at_ 1 rfl; have y5f := Y3.free
      go_wp2_with fail
      refine bodyPost_ret (v := .tuple #[.agg #[.slice none 0 0, .slice none 0 0], .int .i64 er]) (by simp [results, Try.results35, go_sem, y50, y51]) rfl (by rw [HE.out]; exact brickPost_err her (by (repeat' (first | with_reducible assumption | with_reducible exact Below.refl _ _ | with_reducible refine Below.drew ?_ | with_reducible refine below_drewN ?_ _ | with_reducible refine balloc ?_ _ | with_reducible refine bset ?_ ?_ _ | with_reducible refine Below.setCell ?_ ?_ _ | with_reducible refine Below.alloc ?_ ?_ _ | omega | (simp; done) | (simp; omega)))))
set_option maxRecDepth 100000 in
set_option maxHeartbeats 8000000 in
theorem wall_Smooth (wide high q body : Int) (p : Int × Int) (a ak ab : Option Addr) (n nk nb c ck cb : Nat) (g : Nat → C4) (K B : Nat → Int) (w : World) (hn : n ≤ 100000) (hnk : nk ≤ 100000) (hnb : nb ≤ 100000) (H : Sc w a n g) (HK : Sl w ak nk K) (HB : Sl w ab nb B) :
    Calls Try.prog 37 #[.agg #[.int .i64 wide, .int .i64 high, .slice a n c], .agg #[.slice ak nk ck, .slice ab nb cb], .agg #[.int .i64 p.1, .int .i64 p.2], .int .i64 q, .int .i64 body] w
      (BrickPost (readyE (validW wide high n g nk nb K B) (allOn wide high (pts2 p p) (within q 0 10000) 1) body) wide high body (fBricks wide (dIn wide high p q) (mirF wide high p q) n) n K B w) := by
  have X0 := (((Bx.new w #[.int .i64 wide, .int .i64 high, .slice a n c] 24).alloc (.cells #[.slice ak nk ck, .slice ab nb cb] 27)).alloc (.cells #[.int .i64 p.1, .int .i64 p.2] 51)).alloc (.cells #[.slice none 0 0, .slice none 0 0] 27)
  have X1 := ((Bx.new (w.alloc (.cells #[.int .i64 wide, .int .i64 high, .slice a n c] 24)) #[.slice ak nk ck, .slice ab nb cb] 27).alloc (.cells #[.int .i64 p.1, .int .i64 p.2] 51)).alloc (.cells #[.slice none 0 0, .slice none 0 0] 27)
  have X2 := (Bx.new ((w.alloc (.cells #[.int .i64 wide, .int .i64 high, .slice a n c] 24)).alloc (.cells #[.slice ak nk ck, .slice ab nb cb] 27)) #[.int .i64 p.1, .int .i64 p.2] 51).alloc (.cells #[.slice none 0 0, .slice none 0 0] 27)
  have X3 := Bx.new (((w.alloc (.cells #[.int .i64 wide, .int .i64 high, .slice a n c] 24)).alloc (.cells #[.slice ak nk ck, .slice ab nb cb] 27)).alloc (.cells #[.int .i64 p.1, .int .i64 p.2] 51)) #[.slice none 0 0, .slice none 0 0] 27
  simp only [World.size_alloc] at X1 X2 X3
  have hB0 : Below w.heap.size w ((((w.alloc (.cells #[.int .i64 wide, .int .i64 high, .slice a n c] 24)).alloc (.cells #[.slice ak nk ck, .slice ab nb cb] 27)).alloc (.cells #[.int .i64 p.1, .int .i64 p.2] 51)).alloc (.cells #[.slice none 0 0, .slice none 0 0] 27)) := by (repeat' (first | with_reducible assumption | with_reducible exact Below.refl _ _ | with_reducible refine Below.drew ?_ | with_reducible refine below_drewN ?_ _ | with_reducible refine balloc ?_ _ | with_reducible refine bset ?_ ?_ _ | with_reducible refine Below.setCell ?_ ?_ _ | with_reducible refine Below.alloc ?_ ?_ _ | omega | (simp; done) | (simp; omega)))
  go_enter Try.func37, Try.ntmps37
  go_upto_region 1 with (fail)
  generalize ((((w.alloc (.cells #[.int .i64 wide, .int .i64 high, .slice a n c] 24)).alloc (.cells #[.slice ak nk ck, .slice ab nb cb] 27)).alloc (.cells #[.int .i64 p.1, .int .i64 p.2] 51)).alloc (.cells #[.slice none 0 0, .slice none 0 0] 27)) = W0 at X0 X1 X2 X3 hB0 ⊢
  have z0 := X0.lt
  have z1 := X1.lt
  have z2 := X2.lt
  have z3 := X3.lt
  have I := H.below hB0; have IK := HK.below hB0; have IB := HB.below hB0
  go_cut [12] from 15 to 22 (fun s14 W => s14 = .int .i64 (readyE (validW wide high n g nk nb K B) (allOn wide high (pts2 p p) (within q 0 10000) 1) body) ∧ Below W0.heap.size W0 W)
  case first =>
    have r0 : ∀ W, Below W0.heap.size W0 W → W.cell? ⟨w.heap.size, 0, none⟩ = some (.int .i64 wide) := fun W h => (X0.below h).at_ 0 rfl
    have r1 : ∀ W, Below W0.heap.size W0 W → W.cell? ⟨w.heap.size, 1, none⟩ = some (.int .i64 high) := fun W h => (X0.below h).at_ 1 rfl
    have r2 : ∀ W, Below W0.heap.size W0 W → W.cell? ⟨w.heap.size, 2, none⟩ = some (.slice a n c) := fun W h => (X0.below h).at_ 2 rfl
    have r3 : ∀ W, Below W0.heap.size W0 W → W.cell? ⟨w.heap.size + 1, 0, none⟩ = some (.slice ak nk ck) := fun W h => (X1.below h).at_ 0 rfl
    have r4 : ∀ W, Below W0.heap.size W0 W → W.cell? ⟨w.heap.size + 1, 1, none⟩ = some (.slice ab nb cb) := fun W h => (X1.below h).at_ 1 rfl
    have r5 : ∀ W, Below W0.heap.size W0 W → W.cell? ⟨w.heap.size + 1 + 1, 0, none⟩ = some (.int .i64 p.1) := fun W h => (X2.below h).at_ 0 rfl
    have r6 : ∀ W, Below W0.heap.size W0 W → W.cell? ⟨w.heap.size + 1 + 1, 1, none⟩ = some (.int .i64 p.2) := fun W h => (X2.below h).at_ 1 rfl
    clear X0 X1 X2 X3
    go_region_held3 (fun W => Below W0.heap.size W0 W) ((repeat' (first | with_reducible assumption | with_reducible exact Below.refl _ _ | with_reducible refine Below.drew ?_ | with_reducible refine below_drewN ?_ _ | with_reducible refine balloc ?_ _ | with_reducible refine bset ?_ ?_ _ | with_reducible refine Below.setCell ?_ ?_ _ | with_reducible refine Below.alloc ?_ ?_ _ | omega | (simp; done) | (simp; omega))))
      ((first
        | (go_at_call 66; refine (wall_within _ _ _ _).mono ?_; rintro e w' ⟨rfl, rfl⟩)
        | (go_at_call 77; refine (wall_ready wide high body _ a ak ab _ n nk nb 1 _ _ _ _ g K B (pts2 p p) _ (by omega) (by omega) (by omega) (by omega) (I.below (by (repeat' (first | with_reducible assumption | with_reducible exact Below.refl _ _ | with_reducible refine Below.drew ?_ | with_reducible refine below_drewN ?_ _ | with_reducible refine balloc ?_ _ | with_reducible refine bset ?_ ?_ _ | with_reducible refine Below.setCell ?_ ?_ _ | with_reducible refine Below.alloc ?_ ?_ _ | omega | (simp; done) | (simp; omega))))) (IK.below (by (repeat' (first | with_reducible assumption | with_reducible exact Below.refl _ _ | with_reducible refine Below.drew ?_ | with_reducible refine below_drewN ?_ _ | with_reducible refine balloc ?_ _ | with_reducible refine bset ?_ ?_ _ | with_reducible refine Below.setCell ?_ ?_ _ | with_reducible refine Below.alloc ?_ ?_ _ | omega | (simp; done) | (simp; omega))))) (IB.below (by (repeat' (first | with_reducible assumption | with_reducible exact Below.refl _ _ | with_reducible refine Below.drew ?_ | with_reducible refine below_drewN ?_ _ | with_reducible refine balloc ?_ _ | with_reducible refine bset ?_ ?_ _ | with_reducible refine Below.setCell ?_ ?_ _ | with_reducible refine Below.alloc ?_ ?_ _ | omega | (simp; done) | (simp; omega))))) (sp_of_bx1 (by (repeat' (first | with_reducible assumption | (with_reducible refine Bx.newE ?_ _ _; (simp; done)) | with_reducible refine Bx.alloc ?_ _ | with_reducible refine Bx.drew ?_ | with_reducible refine Bx.drewN ?_ _ | with_reducible refine Bx.four ?_ | (with_reducible refine Bx.far2 ?_ ?_ _; (dsimp only; omega))))))).mono ?_; rintro e w1 ⟨rfl, hb1⟩; have hB1 : Below W0.heap.size W0 w1 := bvia (by (repeat' (first | with_reducible assumption | with_reducible exact Below.refl _ _ | with_reducible refine Below.drew ?_ | with_reducible refine below_drewN ?_ _ | with_reducible refine balloc ?_ _ | with_reducible refine bset ?_ ?_ _ | with_reducible refine Below.setCell ?_ ?_ _ | with_reducible refine Below.alloc ?_ ?_ _ | omega | (simp; done) | (simp; omega)))) hb1)
        | fail))
    all_goals
      go_wp2_with fail
      go_meet
      exact ⟨rfl, by with_reducible assumption⟩
  case rest =>
    obtain ⟨rfl, hBc⟩ := hcut
    have Y0 := X0.below hBc; have Y1 := X1.below hBc; have Y2 := X2.below hBc; have Y3 := X3.below hBc
    have hB1 : Below w.heap.size w wc := bvia hB0 hBc
    have JK := IK.below hBc; have JB := IB.below hBc
    clear X0 X1 X2 X3 I IK IB
    generalize hE : readyE (validW wide high n g nk nb K B) (allOn wide high (pts2 p p) (within q 0 10000) 1) body = er
    have l5 := Y3.lt
    cases hne : (er != 0)
    · skip
      obtain rfl : er = 0 := by simpa using hne
      obtain ⟨hV, hO, hW⟩ := readyE_zero hE
      obtain ⟨hG, rfl, rfl, _⟩ := (validW_iff ..).1 hV
      obtain ⟨v1, v2, v3, v4, v5, v6, _, _⟩ := (validG_iff ..).1 hG
      obtain ⟨_, o1, o2, o3, o4⟩ := allOn_one hO
      have hp : 0 ≤ p.1 ∧ p.1 ≤ 63 ∧ 0 ≤ p.2 ∧ p.2 ≤ 63 := ⟨by omega, by omega, by omega, by omega⟩
      have h0 : 0 < nb := by
        have : 1 * 1 ≤ wide * high := Int.mul_le_mul v1 v3 (by omega) (by omega)
        omega
      have HV6 := hid v6
      have hin := place_in v1 v2 v4 v6
      have HE := hid hE
      clear hE hV hO hG v5 v6 hne
      have s00 := Y0.at_ 0 rfl; have s01 := Y0.at_ 1 rfl; have s02 := Y0.at_ 2 rfl; have s20 := Y2.at_ 0 rfl; have s21 := Y2.at_ 1 rfl
      go_wp2_with fail
      refine (wall_disc wide high q p a nb c _).mono ?_
      rintro e w0 ⟨bp, bg0, bq, rfl, Xp0, Xg0, Xq0, hb0⟩
      clear s00 s01 s02 s20 s21
      have Xf := Bx.new w0 #[.func (.func 138) #[] #[.pointer (some ⟨bp, 0, none⟩), .pointer (some ⟨bg0, 0, none⟩), .pointer (some ⟨bq, 0, none⟩)]] 101
      have hBd : Below wc.heap.size wc (w0.alloc (.cells #[.func (.func 138) #[] #[.pointer (some ⟨bp, 0, none⟩), .pointer (some ⟨bg0, 0, none⟩), .pointer (some ⟨bq, 0, none⟩)]] 101)) := balloc (bvia (by (repeat' (first | with_reducible assumption | with_reducible exact Below.refl _ _ | with_reducible refine Below.drew ?_ | with_reducible refine below_drewN ?_ _ | with_reducible refine balloc ?_ _ | with_reducible refine bset ?_ ?_ _ | with_reducible refine Below.setCell ?_ ?_ _ | with_reducible refine Below.alloc ?_ ?_ _ | omega | (simp; done) | (simp; omega)))) hb0) _
      have Xp := Xp0.alloc (.cells #[.func (.func 138) #[] #[.pointer (some ⟨bp, 0, none⟩), .pointer (some ⟨bg0, 0, none⟩), .pointer (some ⟨bq, 0, none⟩)]] 101)
      have Xg := Xg0.alloc (.cells #[.func (.func 138) #[] #[.pointer (some ⟨bp, 0, none⟩), .pointer (some ⟨bg0, 0, none⟩), .pointer (some ⟨bq, 0, none⟩)]] 101)
      have Xq := Xq0.alloc (.cells #[.func (.func 138) #[] #[.pointer (some ⟨bp, 0, none⟩), .pointer (some ⟨bg0, 0, none⟩), .pointer (some ⟨bq, 0, none⟩)]] 101)
      clear Xp0 Xg0 Xq0
      have hz0 : wc.heap.size ≤ w0.heap.size := by have h := hb0.size; (try simp at h); omega
      clear hb0
      go_upto_region 6 with (fail)
      generalize w0.alloc (.cells #[.func (.func 138) #[] #[.pointer (some ⟨bp, 0, none⟩), .pointer (some ⟨bg0, 0, none⟩), .pointer (some ⟨bq, 0, none⟩)]] 101) = wd at Xf hBd Xp Xg Xq ⊢
      have sd := hBd.size
      have Z0 := Y0.below hBd; have Z1 := Y1.below hBd; have Z2 := Y2.below hBd; have Z3 := Y3.below hBd
      have MK := JK.below hBd; have MB := JB.below hBd
      have hB2 : Below w.heap.size w wd := bvia hB1 hBd
      have hl33 : w.heap.size + 1 + 1 + 1 < wd.heap.size := Z3.lt
      have hlx : w0.heap.size < wd.heap.size := Xf.lt
      have r0 : ∀ W, But (fun b => b = w.heap.size + 1 + 1 + 1) wd W → W.cell? ⟨w.heap.size, 0, none⟩ = some (.int .i64 wide) := fun W h => (Z0.but h (by omega)).at_ 0 rfl
      have r1 : ∀ W, But (fun b => b = w.heap.size + 1 + 1 + 1) wd W → W.cell? ⟨w.heap.size, 1, none⟩ = some (.int .i64 high) := fun W h => (Z0.but h (by omega)).at_ 1 rfl
      have r2 : ∀ W, But (fun b => b = w.heap.size + 1 + 1 + 1) wd W → W.cell? ⟨w.heap.size, 2, none⟩ = some (.slice a nb c) := fun W h => (Z0.but h (by omega)).at_ 2 rfl
      have r3 : ∀ W, But (fun b => b = w.heap.size + 1 + 1 + 1) wd W → W.cell? ⟨w.heap.size + 1, 0, none⟩ = some (.slice ak nb ck) := fun W h => (Z1.but h (by omega)).at_ 0 rfl
      have r4 : ∀ W, But (fun b => b = w.heap.size + 1 + 1 + 1) wd W → W.cell? ⟨w.heap.size + 1, 1, none⟩ = some (.slice ab nb cb) := fun W h => (Z1.but h (by omega)).at_ 1 rfl
      have q0 : ∀ W, Below wd.heap.size wd W → W.cell? ⟨w.heap.size + 1 + 1 + 1, 0, none⟩ = some (.slice none 0 0) := fun W h => (Z3.below h).at_ 0 rfl
      have q1 : ∀ W, Below wd.heap.size wd W → W.cell? ⟨w.heap.size + 1 + 1 + 1, 1, none⟩ = some (.slice none 0 0) := fun W h => (Z3.below h).at_ 1 rfl
      have qf : ∀ W, Below wd.heap.size wd W → ∀ i, W.frozen? ⟨w.heap.size + 1 + 1 + 1, i, none⟩ = false := fun W h => (Z3.below h).free
      have hin2 : ∀ r, r ∈ placesTo wide (dIn wide high p q) nb → inG r.1 r.2 := fun r hr => by obtain ⟨k, hk, _, rfl⟩ := mem_places.1 hr; exact hin k hk
      have f1 : ∀ W, But (fun b => b = w.heap.size + 1 + 1 + 1) wd W → W.cell? ⟨w0.heap.size, 0, none⟩ = some (.func (.func 138) #[] #[.pointer (some ⟨bp, 0, none⟩), .pointer (some ⟨bg0, 0, none⟩), .pointer (some ⟨bq, 0, none⟩)]) := fun W h => (Xf.but h (by omega)).at_ 0 rfl
      have l33 := Z3.lt
      go_region_held3 (fun W => But (fun b => b = w.heap.size + 1 + 1 + 1) wd W) ((repeat' (first | with_reducible assumption | with_reducible exact But.refl _ _ | with_reducible refine But.drew ?_ | with_reducible refine But.drewN ?_ _ | refine But.set_ ?_ (by dsimp only) _)))
        ((first
          | (go_at_call 81; refine (wall_all wide high a nb c _ _ _).mono ?_; rintro e w1 ⟨bg, bi, rfl, Xg1, Xi1, hb1⟩; have hC1 : Below wd.heap.size wd w1 := bvia (by (repeat' (first | with_reducible assumption | with_reducible exact Below.refl _ _ | with_reducible refine Below.drew ?_ | with_reducible refine below_drewN ?_ _ | with_reducible refine balloc ?_ _ | with_reducible refine bset ?_ ?_ _ | with_reducible refine Below.setCell ?_ ?_ _ | with_reducible refine Below.alloc ?_ ?_ _ | omega | (simp; done) | (simp; omega)))) hb1; have hD1 := but_below (C := fun b => b = w.heap.size + 1 + 1 + 1) hC1 (Nat.le_refl _); have hs1 := hC1.size)
          | (go_at_call 80; refine (wall_kinds _ _ _ _ _).mono ?_; rintro e w2 ⟨bp', bk', rfl, Xp', Xk', hb2⟩; have hC2 : Below wd.heap.size wd w2 := bvia (by (repeat' (first | with_reducible assumption | with_reducible exact Below.refl _ _ | with_reducible refine Below.drew ?_ | with_reducible refine below_drewN ?_ _ | with_reducible refine balloc ?_ _ | with_reducible refine bset ?_ ?_ _ | with_reducible refine Below.setCell ?_ ?_ _ | with_reducible refine Below.alloc ?_ ?_ _ | omega | (simp; done) | (simp; omega)))) hb2; have hD2 := but_below (C := fun b => b = w.heap.size + 1 + 1 + 1) hC2 (Nat.le_refl _); have hs2 := hC2.size;
             have hit := kinds_iter bp' bk' 136 92 _ _ inG (mirF wide high p q) (placesTo wide (dIn wide high p q) nb) w2 Xp' Xk' (all_iter wide high a nb c bg bi 138 _ near (dIn wide high p q) w2 v1 v2 (by omega) (Xg1.below (bvia (by (repeat' (first | with_reducible assumption | with_reducible exact Below.refl _ _ | with_reducible refine Below.drew ?_ | with_reducible refine below_drewN ?_ _ | with_reducible refine balloc ?_ _ | with_reducible refine bset ?_ ?_ _ | with_reducible refine Below.setCell ?_ ?_ _ | with_reducible refine Below.alloc ?_ ?_ _ | omega | (simp; done) | (simp; omega)))) hb2)) (Xi1.below (bvia (by (repeat' (first | with_reducible assumption | with_reducible exact Below.refl _ _ | with_reducible refine Below.drew ?_ | with_reducible refine below_drewN ?_ _ | with_reducible refine balloc ?_ _ | with_reducible refine bset ?_ ?_ _ | with_reducible refine Below.setCell ?_ ?_ _ | with_reducible refine Below.alloc ?_ ?_ _ | omega | (simp; done) | (simp; omega)))) hb2)) (disc_tells wide high q p a nb c _ _ _ w2 ⟨v1, v2⟩ ⟨v3, v4⟩ hp (Xp.below hC2) (Xg.below hC2) (Xq.below hC2)) (fun k hk => near_of (hin k hk)) ent138) (smooth_tells wide high q p a nb c _ _ _ _ w2 ⟨v1, v2⟩ ⟨v3, v4⟩ hp (Xf.below hC2) (Xp.below hC2) (Xg.below hC2) (Xq.below hC2)) hin2 ent136 ent92)
          | (go_at_call 79; refine (wall_put wide high body ak ab a nb c ck cb 135 _ K B (fBricks wide (dIn wide high p q) (mirF wide high p q) nb) _ ⟨v1, v2⟩ ⟨v3, v4⟩ HV6.out (by omega) h0 (MK.below (by (repeat' (first | with_reducible assumption | with_reducible exact Below.refl _ _ | with_reducible refine Below.drew ?_ | with_reducible refine below_drewN ?_ _ | with_reducible refine balloc ?_ _ | with_reducible refine bset ?_ ?_ _ | with_reducible refine Below.setCell ?_ ?_ _ | with_reducible refine Below.alloc ?_ ?_ _ | omega | (simp; done) | (simp; omega))))) (MB.below (by (repeat' (first | with_reducible assumption | with_reducible exact Below.refl _ _ | with_reducible refine Below.drew ?_ | with_reducible refine below_drewN ?_ _ | with_reducible refine balloc ?_ _ | with_reducible refine bset ?_ ?_ _ | with_reducible refine Below.setCell ?_ ?_ _ | with_reducible refine Below.alloc ?_ ?_ _ | omega | (simp; done) | (simp; omega))))) (hit.later (by (repeat' (first | with_reducible assumption | with_reducible exact Below.refl _ _ | with_reducible refine Below.drew ?_ | with_reducible refine below_drewN ?_ _ | with_reducible refine balloc ?_ _ | with_reducible refine bset ?_ ?_ _ | with_reducible refine Below.setCell ?_ ?_ _ | with_reducible refine Below.alloc ?_ ?_ _ | omega | (simp; done) | (simp; omega))))) ent135).mono ?_; rintro e w3 ⟨a1, a2, c1, c2, rfl, S1, S2, hb3⟩; have hC3 : Below wd.heap.size wd w3 := bvia (by (repeat' (first | with_reducible assumption | with_reducible exact Below.refl _ _ | with_reducible refine Below.drew ?_ | with_reducible refine below_drewN ?_ _ | with_reducible refine balloc ?_ _ | with_reducible refine bset ?_ ?_ _ | with_reducible refine Below.setCell ?_ ?_ _ | with_reducible refine Below.alloc ?_ ?_ _ | omega | (simp; done) | (simp; omega)))) hb3; have hD3 := but_below (C := fun b => b = w.heap.size + 1 + 1 + 1) hC3 (Nat.le_refl _); have hs3 := hC3.size)
          | fail))
      all_goals
        have Y6 := Z3.below hC3
        have hBw : Below w.heap.size w w3 := bvia hB2 hC3
        have y50 := q0 w3 hC3; have y51 := q1 w3 hC3; have y5f := qf w3 hC3
        generalize hpl : lLen wide high body B (fBricks wide (dIn wide high p q) (mirF wide high p q) nb) nb = pl at S1 S2 ⊢
        have HPL := hid hpl; clear hpl
        go_wp2_with fail
        refine bodyPost_ret (v := .tuple #[.agg #[.slice a1 pl c1, .slice a2 pl c2], .int .i64 (lErr wide high body B (fBricks wide (dIn wide high p q) (mirF wide high p q) nb))]) (by simp [results, Try.results37, go_sem, y50, y51]) rfl ?_
        rw [HE.out]
        exact ⟨fun _ => ⟨a1, a2, c1, c2, by rw [HPL.out], by rw [HPL.out]; exact S1.set2 Y6 _ _, by rw [HPL.out]; exact S2.set2 Y6 _ _, by (repeat' (first | with_reducible assumption | with_reducible exact Below.refl _ _ | with_reducible refine Below.drew ?_ | with_reducible refine below_drewN ?_ _ | with_reducible refine balloc ?_ _ | with_reducible refine bset ?_ ?_ _ | with_reducible refine Below.setCell ?_ ?_ _ | with_reducible refine Below.alloc ?_ ?_ _ | omega | (simp; done) | (simp; omega)))⟩, fun h => absurd rfl h⟩
    · skip
      have her : er ≠ 0 := by simpa using hne
      have HE := hid hE; clear hE
      have y50 := Y3.at_ 0 rfl; have y51 := Y3.at_ 1 rfl; have y5f := Y3.free
      go_wp2_with fail
      refine bodyPost_ret (v := .tuple #[.agg #[.slice none 0 0, .slice none 0 0], .int .i64 er]) (by simp [results, Try.results37, go_sem, y50, y51]) rfl (by rw [HE.out]; exact brickPost_err her (by (repeat' (first | with_reducible assumption | with_reducible exact Below.refl _ _ | with_reducible refine Below.drew ?_ | with_reducible refine below_drewN ?_ _ | with_reducible refine balloc ?_ _ | with_reducible refine bset ?_ ?_ _ | with_reducible refine Below.setCell ?_ ?_ _ | with_reducible refine Below.alloc ?_ ?_ _ | omega | (simp; done) | (simp; omega)))))
end Go.Proofs.Ytnnaegnkkpknpaa
