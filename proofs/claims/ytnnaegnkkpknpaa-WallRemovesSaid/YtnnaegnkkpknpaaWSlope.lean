/- Walks: wall.Slope. -/
import Derived.Test.YtnnaegnkkpknpaaWBox
namespace Go.Proofs.Ytnnaegnkkpknpaa
open Go Go.RowKit
attribute [local go_sem ↓] Go.wp_at_zero Go.wp_at_succ
set_option linter.unusedVariables false
def slBricks (p : Int × Int) (up : Bool) (m : Int) : List Brick := (slPts p up m.toNat).map (mkK fun _ _ => slKind up)
set_option maxRecDepth 100000 in
set_option maxHeartbeats 8000000 in
theorem wall_Slope (wide high m body : Int) (up : Bool) (p : Int × Int) (a ak ab : Option Addr) (n nk nb c ck cb : Nat) (g : Nat → C4) (K B : Nat → Int) (w : World) (hn : n ≤ 100000) (hnk : nk ≤ 100000) (hnb : nb ≤ 100000) (H : Sc w a n g) (HK : Sl w ak nk K) (HB : Sl w ab nb B) :
    Calls Try.prog 33 #[.agg #[.int .i64 wide, .int .i64 high, .slice a n c], .agg #[.slice ak nk ck, .slice ab nb cb], .agg #[.int .i64 p.1, .int .i64 p.2], .int .i64 m, .bool up, .int .i64 body] w
      (BrickPost (readyE (validW wide high n g nk nb K B) (allOn wide high (pts2 p p) (within m 1 64) 1) body) wide high body (slBricks p up m) n K B w) := by
  have X0 := ((((Bx.new w #[.int .i64 wide, .int .i64 high, .slice a n c] 24).alloc (.cells #[.slice ak nk ck, .slice ab nb cb] 27)).alloc (.cells #[.int .i64 p.1, .int .i64 p.2] 51)).alloc (.cells #[.int .i64 m] 3)).alloc (.cells #[.slice none 0 0, .slice none 0 0] 27)
  have X1 := (((Bx.new (w.alloc (.cells #[.int .i64 wide, .int .i64 high, .slice a n c] 24)) #[.slice ak nk ck, .slice ab nb cb] 27).alloc (.cells #[.int .i64 p.1, .int .i64 p.2] 51)).alloc (.cells #[.int .i64 m] 3)).alloc (.cells #[.slice none 0 0, .slice none 0 0] 27)
  have X2 := ((Bx.new ((w.alloc (.cells #[.int .i64 wide, .int .i64 high, .slice a n c] 24)).alloc (.cells #[.slice ak nk ck, .slice ab nb cb] 27)) #[.int .i64 p.1, .int .i64 p.2] 51).alloc (.cells #[.int .i64 m] 3)).alloc (.cells #[.slice none 0 0, .slice none 0 0] 27)
  have X3 := (Bx.new (((w.alloc (.cells #[.int .i64 wide, .int .i64 high, .slice a n c] 24)).alloc (.cells #[.slice ak nk ck, .slice ab nb cb] 27)).alloc (.cells #[.int .i64 p.1, .int .i64 p.2] 51)) #[.int .i64 m] 3).alloc (.cells #[.slice none 0 0, .slice none 0 0] 27)
  have X4 := Bx.new ((((w.alloc (.cells #[.int .i64 wide, .int .i64 high, .slice a n c] 24)).alloc (.cells #[.slice ak nk ck, .slice ab nb cb] 27)).alloc (.cells #[.int .i64 p.1, .int .i64 p.2] 51)).alloc (.cells #[.int .i64 m] 3)) #[.slice none 0 0, .slice none 0 0] 27
  simp only [World.size_alloc] at X1 X2 X3 X4
  have hB0 : Below w.heap.size w (((((w.alloc (.cells #[.int .i64 wide, .int .i64 high, .slice a n c] 24)).alloc (.cells #[.slice ak nk ck, .slice ab nb cb] 27)).alloc (.cells #[.int .i64 p.1, .int .i64 p.2] 51)).alloc (.cells #[.int .i64 m] 3)).alloc (.cells #[.slice none 0 0, .slice none 0 0] 27)) := by (repeat' (first | with_reducible assumption | with_reducible exact Below.refl _ _ | with_reducible refine Below.drew ?_ | with_reducible refine below_drewN ?_ _ | with_reducible refine balloc ?_ _ | with_reducible refine bset ?_ ?_ _ | with_reducible refine Below.setCell ?_ ?_ _ | with_reducible refine Below.alloc ?_ ?_ _ | omega | (simp; done) | (simp; omega)))
  go_enter Try.func33, Try.ntmps33
  go_upto_region 1 with (fail)
  generalize (((((w.alloc (.cells #[.int .i64 wide, .int .i64 high, .slice a n c] 24)).alloc (.cells #[.slice ak nk ck, .slice ab nb cb] 27)).alloc (.cells #[.int .i64 p.1, .int .i64 p.2] 51)).alloc (.cells #[.int .i64 m] 3)).alloc (.cells #[.slice none 0 0, .slice none 0 0] 27)) = W0 at X0 X1 X2 X3 X4 hB0 ⊢
  have z0 := X0.lt
  have z1 := X1.lt
  have z2 := X2.lt
  have z3 := X3.lt
  have z4 := X4.lt
  have I := H.below hB0; have IK := HK.below hB0; have IB := HB.below hB0
  go_cut [14] from 18 to 25 (fun s14 W => s14 = .int .i64 (readyE (validW wide high n g nk nb K B) (allOn wide high (pts2 p p) (within m 1 64) 1) body) ∧ Below W0.heap.size W0 W)
  case first =>
    have r0 : ∀ W, Below W0.heap.size W0 W → W.cell? ⟨w.heap.size, 0, none⟩ = some (.int .i64 wide) := fun W h => (X0.below h).at_ 0 rfl
    have r1 : ∀ W, Below W0.heap.size W0 W → W.cell? ⟨w.heap.size, 1, none⟩ = some (.int .i64 high) := fun W h => (X0.below h).at_ 1 rfl
    have r2 : ∀ W, Below W0.heap.size W0 W → W.cell? ⟨w.heap.size, 2, none⟩ = some (.slice a n c) := fun W h => (X0.below h).at_ 2 rfl
    have r3 : ∀ W, Below W0.heap.size W0 W → W.cell? ⟨w.heap.size + 1, 0, none⟩ = some (.slice ak nk ck) := fun W h => (X1.below h).at_ 0 rfl
    have r4 : ∀ W, Below W0.heap.size W0 W → W.cell? ⟨w.heap.size + 1, 1, none⟩ = some (.slice ab nb cb) := fun W h => (X1.below h).at_ 1 rfl
    have r5 : ∀ W, Below W0.heap.size W0 W → W.cell? ⟨w.heap.size + 1 + 1, 0, none⟩ = some (.int .i64 p.1) := fun W h => (X2.below h).at_ 0 rfl
    have r6 : ∀ W, Below W0.heap.size W0 W → W.cell? ⟨w.heap.size + 1 + 1, 1, none⟩ = some (.int .i64 p.2) := fun W h => (X2.below h).at_ 1 rfl
    have r9 : ∀ W, Below W0.heap.size W0 W → W.cell? ⟨w.heap.size + 1 + 1 + 1, 0, none⟩ = some (.int .i64 m) := fun W h => (X3.below h).at_ 0 rfl
    clear X0 X1 X2 X3 X4
    go_region_held3 (fun W => Below W0.heap.size W0 W) ((repeat' (first | with_reducible assumption | with_reducible exact Below.refl _ _ | with_reducible refine Below.drew ?_ | with_reducible refine below_drewN ?_ _ | with_reducible refine balloc ?_ _ | with_reducible refine bset ?_ ?_ _ | with_reducible refine Below.setCell ?_ ?_ _ | with_reducible refine Below.alloc ?_ ?_ _ | omega | (simp; done) | (simp; omega))))
      ((first
        | (go_at_call 66; refine (wall_within _ _ _ _).mono ?_; rintro e w' ⟨rfl, rfl⟩)
        | (go_at_call 77; refine (wall_ready wide high body _ a ak ab _ n nk nb 1 _ _ _ _ g K B (pts2 p p) _ (by omega) (by omega) (by omega) (by omega) (I.below (by (repeat' (first | with_reducible assumption | with_reducible exact Below.refl _ _ | with_reducible refine Below.drew ?_ | with_reducible refine below_drewN ?_ _ | with_reducible refine balloc ?_ _ | with_reducible refine bset ?_ ?_ _ | with_reducible refine Below.setCell ?_ ?_ _ | with_reducible refine Below.alloc ?_ ?_ _ | omega | (simp; done) | (simp; omega))))) (IK.below (by (repeat' (first | with_reducible assumption | with_reducible exact Below.refl _ _ | with_reducible refine Below.drew ?_ | with_reducible refine below_drewN ?_ _ | with_reducible refine balloc ?_ _ | with_reducible refine bset ?_ ?_ _ | with_reducible refine Below.setCell ?_ ?_ _ | with_reducible refine Below.alloc ?_ ?_ _ | omega | (simp; done) | (simp; omega))))) (IB.below (by (repeat' (first | with_reducible assumption | with_reducible exact Below.refl _ _ | with_reducible refine Below.drew ?_ | with_reducible refine below_drewN ?_ _ | with_reducible refine balloc ?_ _ | with_reducible refine bset ?_ ?_ _ | with_reducible refine Below.setCell ?_ ?_ _ | with_reducible refine Below.alloc ?_ ?_ _ | omega | (simp; done) | (simp; omega))))) (sp_of_bx1 (by (repeat' (first | with_reducible assumption | (with_reducible refine Bx.newE ?_ _ _; (simp; done)) | with_reducible refine Bx.alloc ?_ _ | with_reducible refine Bx.drew ?_ | with_reducible refine Bx.drewN ?_ _ | with_reducible refine Bx.four ?_ | (with_reducible refine Bx.far2 ?_ ?_ _; (dsimp only; omega))))))).mono ?_; rintro e w1 ⟨rfl, hb1⟩; have hB1 : Below W0.heap.size W0 w1 := bvia (by (repeat' (first | with_reducible assumption | with_reducible exact Below.refl _ _ | with_reducible refine Below.drew ?_ | with_reducible refine below_drewN ?_ _ | with_reducible refine balloc ?_ _ | with_reducible refine bset ?_ ?_ _ | with_reducible refine Below.setCell ?_ ?_ _ | with_reducible refine Below.alloc ?_ ?_ _ | omega | (simp; done) | (simp; omega)))) hb1)
        | fail))
    all_goals
      go_wp2_with fail
      go_meet
      exact ⟨rfl, by with_reducible assumption⟩
  case rest =>
    obtain ⟨rfl, hBc⟩ := hcut
    have Y0 := X0.below hBc; have Y1 := X1.below hBc; have Y2 := X2.below hBc; have Y3 := X3.below hBc; have Y4 := X4.below hBc
    have hB1 : Below w.heap.size w wc := bvia hB0 hBc
    have JK := IK.below hBc; have JB := IB.below hBc
    clear X0 X1 X2 X3 X4 I IK IB
    generalize hE : readyE (validW wide high n g nk nb K B) (allOn wide high (pts2 p p) (within m 1 64) 1) body = er
    have l4 := Y4.lt
    cases hne : (er != 0)
    · obtain rfl : er = 0 := by simpa using hne
      obtain ⟨hV, hO, hW⟩ := readyE_zero hE
      obtain ⟨hG, rfl, rfl, _⟩ := (validW_iff ..).1 hV
      obtain ⟨v1, v2, v3, v4, v5, v6, _, _⟩ := (validG_iff ..).1 hG
      have h0 : 0 < nb := by
        have : 1 * 1 ≤ wide * high := Int.mul_le_mul v1 v3 (by omega) (by omega)
        omega
      have HV6 := hid v6
      have hO' := hO
      have HE := hid hE
      clear hE hV hO hG v5 v6 hne
      obtain ⟨hm, o1, o2, o3, o4⟩ := allOn_one hO'
      obtain ⟨m1, m2⟩ := (within_iff _ _ _).1 hm
      clear hm hO'
      obtain ⟨mn, rfl⟩ : ∃ mn : Nat, m = mn := ⟨m.toNat, by omega⟩
      cases up
      · skip
        have Xr := (Bx.new wc #[.int .i64 ((-1))] 3).alloc (.cells #[.int .i64 3] 3)
        have Xk := Bx.new (wc.alloc (.cells #[.int .i64 ((-1))] 3)) #[.int .i64 3] 3
        rw [World.size_alloc] at Xk
        have hBd : Below wc.heap.size wc ((wc.alloc (.cells #[.int .i64 ((-1))] 3)).alloc (.cells #[.int .i64 3] 3)) := by (repeat' (first | with_reducible assumption | with_reducible exact Below.refl _ _ | with_reducible refine Below.drew ?_ | with_reducible refine below_drewN ?_ _ | with_reducible refine balloc ?_ _ | with_reducible refine bset ?_ ?_ _ | with_reducible refine Below.setCell ?_ ?_ _ | with_reducible refine Below.alloc ?_ ?_ _ | omega | (simp; done) | (simp; omega)))
        go_upto_region 8 with (fail)
        generalize (wc.alloc (.cells #[.int .i64 ((-1))] 3)).alloc (.cells #[.int .i64 3] 3) = wd at Xr Xk hBd ⊢
        have sd := hBd.size
        have Z0 := Y0.below hBd; have Z1 := Y1.below hBd; have Z2 := Y2.below hBd; have Z3 := Y3.below hBd; have Z4 := Y4.below hBd
        have MK := JK.below hBd; have MB := JB.below hBd
        have hB2 : Below w.heap.size w wd := bvia hB1 hBd
        have r0 : ∀ W, Below (w.heap.size + 4) wd W → W.cell? ⟨w.heap.size, 0, none⟩ = some (.int .i64 wide) := fun W h => (bcell h _ _ (by omega)).trans (Z0.at_ 0 rfl)
        have r1 : ∀ W, Below (w.heap.size + 4) wd W → W.cell? ⟨w.heap.size, 1, none⟩ = some (.int .i64 high) := fun W h => (bcell h _ _ (by omega)).trans (Z0.at_ 1 rfl)
        have r2 : ∀ W, Below (w.heap.size + 4) wd W → W.cell? ⟨w.heap.size, 2, none⟩ = some (.slice a nb c) := fun W h => (bcell h _ _ (by omega)).trans (Z0.at_ 2 rfl)
        have r3 : ∀ W, Below (w.heap.size + 4) wd W → W.cell? ⟨w.heap.size + 1, 0, none⟩ = some (.slice ak nb ck) := fun W h => (bcell h _ _ (by omega)).trans (Z1.at_ 0 rfl)
        have r4 : ∀ W, Below (w.heap.size + 4) wd W → W.cell? ⟨w.heap.size + 1, 1, none⟩ = some (.slice ab nb cb) := fun W h => (bcell h _ _ (by omega)).trans (Z1.at_ 1 rfl)
        have q0 : ∀ W, Below wd.heap.size wd W → W.cell? ⟨w.heap.size + 1 + 1 + 1 + 1, 0, none⟩ = some (.slice none 0 0) := fun W h => (Z4.below h).at_ 0 rfl
        have q1 : ∀ W, Below wd.heap.size wd W → W.cell? ⟨w.heap.size + 1 + 1 + 1 + 1, 1, none⟩ = some (.slice none 0 0) := fun W h => (Z4.below h).at_ 1 rfl
        have qf : ∀ W, Below wd.heap.size wd W → ∀ i, W.frozen? ⟨w.heap.size + 1 + 1 + 1 + 1, i, none⟩ = false := fun W h => (Z4.below h).free
        have l44 := Z4.lt
        go_region_held3 (fun W => Below (w.heap.size + 4) wd W) ((repeat' (first | with_reducible assumption | with_reducible exact Below.refl _ _ | with_reducible refine Below.drew ?_ | with_reducible refine below_drewN ?_ _ | with_reducible refine balloc ?_ _ | with_reducible refine bset ?_ ?_ _ | with_reducible refine Below.setCell ?_ ?_ _ | with_reducible refine Below.alloc ?_ ?_ _ | omega | (simp; done) | (simp; omega))))
          ((first
            | (go_at_call 80; refine (wall_kinds _ _ _ _ _).mono ?_; rintro e w2 ⟨bp', bk', rfl, Xp', Xk', hb2⟩; have hC2 : Below wd.heap.size wd w2 := bvia (by (repeat' (first | with_reducible assumption | with_reducible exact Below.refl _ _ | with_reducible refine Below.drew ?_ | with_reducible refine below_drewN ?_ _ | with_reducible refine balloc ?_ _ | with_reducible refine bset ?_ ?_ _ | with_reducible refine Below.setCell ?_ ?_ _ | with_reducible refine Below.alloc ?_ ?_ _ | omega | (simp; done) | (simp; omega)))) hb2; have hD2 := hC2.mono (show w.heap.size + 4 ≤ wd.heap.size by omega); have hs2 := hC2.size;
               have hit := kinds_iter bp' bk' 86 87 _ _ (fun _ _ => True) (fun _ _ => slKind false) (slPts p false mn) w2 Xp' Xk' (slope_iter p false mn _ _ _ w2 (by omega) ⟨o1, by omega, o3, by omega⟩ (Z3.below hC2) (Z2.below hC2) (Xr.below hC2)) (slope2_tells (slKind false) _ w2 (Xk.below hC2)) (fun _ _ => trivial) ent86 ent87)
            | (go_at_call 79; refine (wall_put wide high body ak ab a nb c ck cb 135 _ K B (slBricks p false mn) _ ⟨v1, v2⟩ ⟨v3, v4⟩ HV6.out (by omega) h0 (MK.below (by (repeat' (first | with_reducible assumption | with_reducible exact Below.refl _ _ | with_reducible refine Below.drew ?_ | with_reducible refine below_drewN ?_ _ | with_reducible refine balloc ?_ _ | with_reducible refine bset ?_ ?_ _ | with_reducible refine Below.setCell ?_ ?_ _ | with_reducible refine Below.alloc ?_ ?_ _ | omega | (simp; done) | (simp; omega))))) (MB.below (by (repeat' (first | with_reducible assumption | with_reducible exact Below.refl _ _ | with_reducible refine Below.drew ?_ | with_reducible refine below_drewN ?_ _ | with_reducible refine balloc ?_ _ | with_reducible refine bset ?_ ?_ _ | with_reducible refine Below.setCell ?_ ?_ _ | with_reducible refine Below.alloc ?_ ?_ _ | omega | (simp; done) | (simp; omega))))) (hit.later (by (repeat' (first | with_reducible assumption | with_reducible exact Below.refl _ _ | with_reducible refine Below.drew ?_ | with_reducible refine below_drewN ?_ _ | with_reducible refine balloc ?_ _ | with_reducible refine bset ?_ ?_ _ | with_reducible refine Below.setCell ?_ ?_ _ | with_reducible refine Below.alloc ?_ ?_ _ | omega | (simp; done) | (simp; omega))))) ent135).mono ?_; rintro e w3 ⟨a1, a2, c1, c2, rfl, S1, S2, hb3⟩; have hC3 : Below wd.heap.size wd w3 := bvia (by (repeat' (first | with_reducible assumption | with_reducible exact Below.refl _ _ | with_reducible refine Below.drew ?_ | with_reducible refine below_drewN ?_ _ | with_reducible refine balloc ?_ _ | with_reducible refine bset ?_ ?_ _ | with_reducible refine Below.setCell ?_ ?_ _ | with_reducible refine Below.alloc ?_ ?_ _ | omega | (simp; done) | (simp; omega)))) hb3; have hD3 := hC3.mono (show w.heap.size + 4 ≤ wd.heap.size by omega); have hs3 := hC3.size)
            | fail))
        all_goals
          have Y6 := Z4.below hC3
          have y50 := q0 w3 hC3; have y51 := q1 w3 hC3; have y5f := qf w3 hC3
          have hBw : Below w.heap.size w w3 := bvia hB2 hC3
          generalize hpl : lLen wide high body B (slBricks p false mn) nb = pl at S1 S2 ⊢
          have HPL := hid hpl; clear hpl
          go_wp2_with fail
          refine bodyPost_ret (v := .tuple #[.agg #[.slice a1 pl c1, .slice a2 pl c2], .int .i64 (lErr wide high body B (slBricks p false mn))]) (by simp [results, Try.results33, go_sem, y50, y51]) rfl ?_
          rw [HE.out]
          exact ⟨fun _ => ⟨a1, a2, c1, c2, by rw [HPL.out], by rw [HPL.out]; exact S1.set2 Y6 _ _, by rw [HPL.out]; exact S2.set2 Y6 _ _, by (repeat' (first | with_reducible assumption | with_reducible exact Below.refl _ _ | with_reducible refine Below.drew ?_ | with_reducible refine below_drewN ?_ _ | with_reducible refine balloc ?_ _ | with_reducible refine bset ?_ ?_ _ | with_reducible refine Below.setCell ?_ ?_ _ | with_reducible refine Below.alloc ?_ ?_ _ | omega | (simp; done) | (simp; omega)))⟩, fun h => absurd rfl h⟩
      · skip
        have Xr := (Bx.new wc #[.int .i64 (1)] 3).alloc (.cells #[.int .i64 2] 3)
        have Xk := Bx.new (wc.alloc (.cells #[.int .i64 (1)] 3)) #[.int .i64 2] 3
        rw [World.size_alloc] at Xk
        have hBd : Below wc.heap.size wc ((wc.alloc (.cells #[.int .i64 (1)] 3)).alloc (.cells #[.int .i64 2] 3)) := by (repeat' (first | with_reducible assumption | with_reducible exact Below.refl _ _ | with_reducible refine Below.drew ?_ | with_reducible refine below_drewN ?_ _ | with_reducible refine balloc ?_ _ | with_reducible refine bset ?_ ?_ _ | with_reducible refine Below.setCell ?_ ?_ _ | with_reducible refine Below.alloc ?_ ?_ _ | omega | (simp; done) | (simp; omega)))
        go_upto_region 8 with (fail)
        generalize (wc.alloc (.cells #[.int .i64 (1)] 3)).alloc (.cells #[.int .i64 2] 3) = wd at Xr Xk hBd ⊢
        have sd := hBd.size
        have Z0 := Y0.below hBd; have Z1 := Y1.below hBd; have Z2 := Y2.below hBd; have Z3 := Y3.below hBd; have Z4 := Y4.below hBd
        have MK := JK.below hBd; have MB := JB.below hBd
        have hB2 : Below w.heap.size w wd := bvia hB1 hBd
        have r0 : ∀ W, Below (w.heap.size + 4) wd W → W.cell? ⟨w.heap.size, 0, none⟩ = some (.int .i64 wide) := fun W h => (bcell h _ _ (by omega)).trans (Z0.at_ 0 rfl)
        have r1 : ∀ W, Below (w.heap.size + 4) wd W → W.cell? ⟨w.heap.size, 1, none⟩ = some (.int .i64 high) := fun W h => (bcell h _ _ (by omega)).trans (Z0.at_ 1 rfl)
        have r2 : ∀ W, Below (w.heap.size + 4) wd W → W.cell? ⟨w.heap.size, 2, none⟩ = some (.slice a nb c) := fun W h => (bcell h _ _ (by omega)).trans (Z0.at_ 2 rfl)
        have r3 : ∀ W, Below (w.heap.size + 4) wd W → W.cell? ⟨w.heap.size + 1, 0, none⟩ = some (.slice ak nb ck) := fun W h => (bcell h _ _ (by omega)).trans (Z1.at_ 0 rfl)
        have r4 : ∀ W, Below (w.heap.size + 4) wd W → W.cell? ⟨w.heap.size + 1, 1, none⟩ = some (.slice ab nb cb) := fun W h => (bcell h _ _ (by omega)).trans (Z1.at_ 1 rfl)
        have q0 : ∀ W, Below wd.heap.size wd W → W.cell? ⟨w.heap.size + 1 + 1 + 1 + 1, 0, none⟩ = some (.slice none 0 0) := fun W h => (Z4.below h).at_ 0 rfl
        have q1 : ∀ W, Below wd.heap.size wd W → W.cell? ⟨w.heap.size + 1 + 1 + 1 + 1, 1, none⟩ = some (.slice none 0 0) := fun W h => (Z4.below h).at_ 1 rfl
        have qf : ∀ W, Below wd.heap.size wd W → ∀ i, W.frozen? ⟨w.heap.size + 1 + 1 + 1 + 1, i, none⟩ = false := fun W h => (Z4.below h).free
        have l44 := Z4.lt
        go_region_held3 (fun W => Below (w.heap.size + 4) wd W) ((repeat' (first | with_reducible assumption | with_reducible exact Below.refl _ _ | with_reducible refine Below.drew ?_ | with_reducible refine below_drewN ?_ _ | with_reducible refine balloc ?_ _ | with_reducible refine bset ?_ ?_ _ | with_reducible refine Below.setCell ?_ ?_ _ | with_reducible refine Below.alloc ?_ ?_ _ | omega | (simp; done) | (simp; omega))))
          ((first
            | (go_at_call 80; refine (wall_kinds _ _ _ _ _).mono ?_; rintro e w2 ⟨bp', bk', rfl, Xp', Xk', hb2⟩; have hC2 : Below wd.heap.size wd w2 := bvia (by (repeat' (first | with_reducible assumption | with_reducible exact Below.refl _ _ | with_reducible refine Below.drew ?_ | with_reducible refine below_drewN ?_ _ | with_reducible refine balloc ?_ _ | with_reducible refine bset ?_ ?_ _ | with_reducible refine Below.setCell ?_ ?_ _ | with_reducible refine Below.alloc ?_ ?_ _ | omega | (simp; done) | (simp; omega)))) hb2; have hD2 := hC2.mono (show w.heap.size + 4 ≤ wd.heap.size by omega); have hs2 := hC2.size;
               have hit := kinds_iter bp' bk' 86 87 _ _ (fun _ _ => True) (fun _ _ => slKind true) (slPts p true mn) w2 Xp' Xk' (slope_iter p true mn _ _ _ w2 (by omega) ⟨o1, by omega, o3, by omega⟩ (Z3.below hC2) (Z2.below hC2) (Xr.below hC2)) (slope2_tells (slKind true) _ w2 (Xk.below hC2)) (fun _ _ => trivial) ent86 ent87)
            | (go_at_call 79; refine (wall_put wide high body ak ab a nb c ck cb 135 _ K B (slBricks p true mn) _ ⟨v1, v2⟩ ⟨v3, v4⟩ HV6.out (by omega) h0 (MK.below (by (repeat' (first | with_reducible assumption | with_reducible exact Below.refl _ _ | with_reducible refine Below.drew ?_ | with_reducible refine below_drewN ?_ _ | with_reducible refine balloc ?_ _ | with_reducible refine bset ?_ ?_ _ | with_reducible refine Below.setCell ?_ ?_ _ | with_reducible refine Below.alloc ?_ ?_ _ | omega | (simp; done) | (simp; omega))))) (MB.below (by (repeat' (first | with_reducible assumption | with_reducible exact Below.refl _ _ | with_reducible refine Below.drew ?_ | with_reducible refine below_drewN ?_ _ | with_reducible refine balloc ?_ _ | with_reducible refine bset ?_ ?_ _ | with_reducible refine Below.setCell ?_ ?_ _ | with_reducible refine Below.alloc ?_ ?_ _ | omega | (simp; done) | (simp; omega))))) (hit.later (by (repeat' (first | with_reducible assumption | with_reducible exact Below.refl _ _ | with_reducible refine Below.drew ?_ | with_reducible refine below_drewN ?_ _ | with_reducible refine balloc ?_ _ | with_reducible refine bset ?_ ?_ _ | with_reducible refine Below.setCell ?_ ?_ _ | with_reducible refine Below.alloc ?_ ?_ _ | omega | (simp; done) | (simp; omega))))) ent135).mono ?_; rintro e w3 ⟨a1, a2, c1, c2, rfl, S1, S2, hb3⟩; have hC3 : Below wd.heap.size wd w3 := bvia (by (repeat' (first | with_reducible assumption | with_reducible exact Below.refl _ _ | with_reducible refine Below.drew ?_ | with_reducible refine below_drewN ?_ _ | with_reducible refine balloc ?_ _ | with_reducible refine bset ?_ ?_ _ | with_reducible refine Below.setCell ?_ ?_ _ | with_reducible refine Below.alloc ?_ ?_ _ | omega | (simp; done) | (simp; omega)))) hb3; have hD3 := hC3.mono (show w.heap.size + 4 ≤ wd.heap.size by omega); have hs3 := hC3.size)
            | fail))
        all_goals
          have Y6 := Z4.below hC3
          have y50 := q0 w3 hC3; have y51 := q1 w3 hC3; have y5f := qf w3 hC3
          have hBw : Below w.heap.size w w3 := bvia hB2 hC3
          generalize hpl : lLen wide high body B (slBricks p true mn) nb = pl at S1 S2 ⊢
          have HPL := hid hpl; clear hpl
          go_wp2_with fail
          refine bodyPost_ret (v := .tuple #[.agg #[.slice a1 pl c1, .slice a2 pl c2], .int .i64 (lErr wide high body B (slBricks p true mn))]) (by simp [results, Try.results33, go_sem, y50, y51]) rfl ?_
          rw [HE.out]
          exact ⟨fun _ => ⟨a1, a2, c1, c2, by rw [HPL.out], by rw [HPL.out]; exact S1.set2 Y6 _ _, by rw [HPL.out]; exact S2.set2 Y6 _ _, by (repeat' (first | with_reducible assumption | with_reducible exact Below.refl _ _ | with_reducible refine Below.drew ?_ | with_reducible refine below_drewN ?_ _ | with_reducible refine balloc ?_ _ | with_reducible refine bset ?_ ?_ _ | with_reducible refine Below.setCell ?_ ?_ _ | with_reducible refine Below.alloc ?_ ?_ _ | omega | (simp; done) | (simp; omega)))⟩, fun h => absurd rfl h⟩
    · have her : er ≠ 0 := by simpa using hne
      have HE := hid hE; clear hE
      have y50 := Y4.at_ 0 rfl; have y51 := Y4.at_ 1 rfl; have y5f := Y4.free
      go_wp2_with fail
      refine bodyPost_ret (v := .tuple #[.agg #[.slice none 0 0, .slice none 0 0], .int .i64 er]) (by simp [results, Try.results33, go_sem, y50, y51]) rfl (by rw [HE.out]; exact brickPost_err her (by (repeat' (first | with_reducible assumption | with_reducible exact Below.refl _ _ | with_reducible refine Below.drew ?_ | with_reducible refine below_drewN ?_ _ | with_reducible refine balloc ?_ _ | with_reducible refine bset ?_ ?_ _ | with_reducible refine Below.setCell ?_ ?_ _ | with_reducible refine Below.alloc ?_ ?_ _ | omega | (simp; done) | (simp; omega)))))
end Go.Proofs.Ytnnaegnkkpknpaa
