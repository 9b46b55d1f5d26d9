/- Walks: wall.Box and wall.Slope. -/
import Derived.Test.YtnnaegnkkpknpaaSlopeIt
namespace Go.Proofs.Ytnnaegnkkpknpaa
open Go Go.RowKit
attribute [local go_sem ↓] Go.wp_at_zero Go.wp_at_succ
set_option linter.unusedVariables false
theorem ent78 : ∀ args w, (callFunc 78 args).run Try.prog w = .ok (.enter 78 args) w := Go.Proofs.enters_of Try.func78 (by kernel_rfl) rfl
theorem ent82 : ∀ args w, (callFunc 82 args).run Try.prog w = .ok (.enter 82 args) w := Go.Proofs.enters_of Try.func82 (by kernel_rfl) rfl
theorem ent86 : ∀ args w, (callFunc 86 args).run Try.prog w = .ok (.enter 86 args) w := Go.Proofs.enters_of Try.func86 (by kernel_rfl) rfl
theorem ent87 : ∀ args w, (callFunc 87 args).run Try.prog w = .ok (.enter 87 args) w := Go.Proofs.enters_of Try.func87 (by kernel_rfl) rfl
theorem ent135 : ∀ args w, (callFunc 135 args).run Try.prog w = .ok (.enter 135 args) w := Go.Proofs.enters_of Try.func135 (by kernel_rfl) rfl
theorem ent136 : ∀ args w, (callFunc 136 args).run Try.prog w = .ok (.enter 136 args) w := Go.Proofs.enters_of Try.func136 (by kernel_rfl) rfl
/-- the first error of a shape, or what putting its bricks in gives -/
def BrickPost (e0 wide high body : Int) (L : List Brick) (n : Nat) (K B : Nat → Int) (w : World) (e : Ending) (w' : World) : Prop :=
  (e0 = 0 → WallPost (lErr wide high body B L) (lLen wide high body B L n) (putLK wide high L K) (putLB wide high body L B) w e w') ∧ (e0 ≠ 0 → WallPost e0 0 K B w e w')
theorem brickPost_err {e0 wide high body : Int} {L : List Brick} {n : Nat} {K B : Nat → Int} {w w' : World} (h : e0 ≠ 0) (hb : Below w.heap.size w w') : BrickPost e0 wide high body L n K B w (.returned (.tuple #[.agg #[.slice none 0 0, .slice none 0 0], .int .i64 e0])) w' :=
  ⟨fun h' => absurd h' h, fun _ => wallPost_none hb⟩
def boxBricks (wide : Int) (p q : Int × Int) (kind : Int) (n : Nat) : List Brick := (placesTo wide (boxF p q) n).map (mkK fun _ _ => kind)
set_option maxRecDepth 100000 in
set_option maxHeartbeats 8000000 in
theorem wall_Box (wide high kind body : Int) (p q : Int × Int) (a ak ab : Option Addr) (n nk nb c ck cb : Nat) (g : Nat → C4) (K B : Nat → Int) (w : World) (hn : n ≤ 100000) (hnk : nk ≤ 100000) (hnb : nb ≤ 100000) (H : Sc w a n g) (HK : Sl w ak nk K) (HB : Sl w ab nb B) :
    Calls Try.prog 31 #[.agg #[.int .i64 wide, .int .i64 high, .slice a n c], .agg #[.slice ak nk ck, .slice ab nb cb], .agg #[.int .i64 p.1, .int .i64 p.2], .agg #[.int .i64 q.1, .int .i64 q.2], .int .i64 kind, .int .i64 body] w
      (BrickPost (readyE (validW wide high n g nk nb K B) (allOn wide high (pts2 p q) (within kind 1 3) 2) body) wide high body (boxBricks wide p q kind n) n K B w) := by
  have X0 := (((((Bx.new w #[.int .i64 wide, .int .i64 high, .slice a n c] 24).alloc (.cells #[.slice ak nk ck, .slice ab nb cb] 27)).alloc (.cells #[.int .i64 p.1, .int .i64 p.2] 51)).alloc (.cells #[.int .i64 q.1, .int .i64 q.2] 51)).alloc (.cells #[.int .i64 kind] 3)).alloc (.cells #[.slice none 0 0, .slice none 0 0] 27)
  have X1 := ((((Bx.new (w.alloc (.cells #[.int .i64 wide, .int .i64 high, .slice a n c] 24)) #[.slice ak nk ck, .slice ab nb cb] 27).alloc (.cells #[.int .i64 p.1, .int .i64 p.2] 51)).alloc (.cells #[.int .i64 q.1, .int .i64 q.2] 51)).alloc (.cells #[.int .i64 kind] 3)).alloc (.cells #[.slice none 0 0, .slice none 0 0] 27)
  have X2 := (((Bx.new ((w.alloc (.cells #[.int .i64 wide, .int .i64 high, .slice a n c] 24)).alloc (.cells #[.slice ak nk ck, .slice ab nb cb] 27)) #[.int .i64 p.1, .int .i64 p.2] 51).alloc (.cells #[.int .i64 q.1, .int .i64 q.2] 51)).alloc (.cells #[.int .i64 kind] 3)).alloc (.cells #[.slice none 0 0, .slice none 0 0] 27)
  have X3 := ((Bx.new (((w.alloc (.cells #[.int .i64 wide, .int .i64 high, .slice a n c] 24)).alloc (.cells #[.slice ak nk ck, .slice ab nb cb] 27)).alloc (.cells #[.int .i64 p.1, .int .i64 p.2] 51)) #[.int .i64 q.1, .int .i64 q.2] 51).alloc (.cells #[.int .i64 kind] 3)).alloc (.cells #[.slice none 0 0, .slice none 0 0] 27)
  have X4 := (Bx.new ((((w.alloc (.cells #[.int .i64 wide, .int .i64 high, .slice a n c] 24)).alloc (.cells #[.slice ak nk ck, .slice ab nb cb] 27)).alloc (.cells #[.int .i64 p.1, .int .i64 p.2] 51)).alloc (.cells #[.int .i64 q.1, .int .i64 q.2] 51)) #[.int .i64 kind] 3).alloc (.cells #[.slice none 0 0, .slice none 0 0] 27)
  have X5 := Bx.new (((((w.alloc (.cells #[.int .i64 wide, .int .i64 high, .slice a n c] 24)).alloc (.cells #[.slice ak nk ck, .slice ab nb cb] 27)).alloc (.cells #[.int .i64 p.1, .int .i64 p.2] 51)).alloc (.cells #[.int .i64 q.1, .int .i64 q.2] 51)).alloc (.cells #[.int .i64 kind] 3)) #[.slice none 0 0, .slice none 0 0] 27
  simp only [World.size_alloc] at X1 X2 X3 X4 X5
  have hB0 : Below w.heap.size w ((((((w.alloc (.cells #[.int .i64 wide, .int .i64 high, .slice a n c] 24)).alloc (.cells #[.slice ak nk ck, .slice ab nb cb] 27)).alloc (.cells #[.int .i64 p.1, .int .i64 p.2] 51)).alloc (.cells #[.int .i64 q.1, .int .i64 q.2] 51)).alloc (.cells #[.int .i64 kind] 3)).alloc (.cells #[.slice none 0 0, .slice none 0 0] 27)) := by (repeat' (first | with_reducible assumption | with_reducible exact Below.refl _ _ | with_reducible refine Below.drew ?_ | with_reducible refine below_drewN ?_ _ | with_reducible refine balloc ?_ _ | with_reducible refine bset ?_ ?_ _ | with_reducible refine Below.setCell ?_ ?_ _ | with_reducible refine Below.alloc ?_ ?_ _ | omega | (simp; done) | (simp; omega)))
  go_enter Try.func31, Try.ntmps31
  go_upto_region 1 with (fail)
  generalize ((((((w.alloc (.cells #[.int .i64 wide, .int .i64 high, .slice a n c] 24)).alloc (.cells #[.slice ak nk ck, .slice ab nb cb] 27)).alloc (.cells #[.int .i64 p.1, .int .i64 p.2] 51)).alloc (.cells #[.int .i64 q.1, .int .i64 q.2] 51)).alloc (.cells #[.int .i64 kind] 3)).alloc (.cells #[.slice none 0 0, .slice none 0 0] 27)) = W0 at X0 X1 X2 X3 X4 X5 hB0 ⊢
  have z0 := X0.lt
  have z1 := X1.lt
  have z2 := X2.lt
  have z3 := X3.lt
  have z4 := X4.lt
  have z5 := X5.lt
  have I := H.below hB0; have IK := HK.below hB0; have IB := HB.below hB0
  go_cut [14] from 16 to 24 (fun s14 W => s14 = .int .i64 (readyE (validW wide high n g nk nb K B) (allOn wide high (pts2 p q) (within kind 1 3) 2) body) ∧ Below W0.heap.size W0 W)
  case first =>
    have r0 : ∀ W, Below W0.heap.size W0 W → W.cell? ⟨w.heap.size, 0, none⟩ = some (.int .i64 wide) := fun W h => (X0.below h).at_ 0 rfl
    have r1 : ∀ W, Below W0.heap.size W0 W → W.cell? ⟨w.heap.size, 1, none⟩ = some (.int .i64 high) := fun W h => (X0.below h).at_ 1 rfl
    have r2 : ∀ W, Below W0.heap.size W0 W → W.cell? ⟨w.heap.size, 2, none⟩ = some (.slice a n c) := fun W h => (X0.below h).at_ 2 rfl
    have r3 : ∀ W, Below W0.heap.size W0 W → W.cell? ⟨w.heap.size + 1, 0, none⟩ = some (.slice ak nk ck) := fun W h => (X1.below h).at_ 0 rfl
    have r4 : ∀ W, Below W0.heap.size W0 W → W.cell? ⟨w.heap.size + 1, 1, none⟩ = some (.slice ab nb cb) := fun W h => (X1.below h).at_ 1 rfl
    have r5 : ∀ W, Below W0.heap.size W0 W → W.cell? ⟨w.heap.size + 1 + 1, 0, none⟩ = some (.int .i64 p.1) := fun W h => (X2.below h).at_ 0 rfl
    have r6 : ∀ W, Below W0.heap.size W0 W → W.cell? ⟨w.heap.size + 1 + 1, 1, none⟩ = some (.int .i64 p.2) := fun W h => (X2.below h).at_ 1 rfl
    have r7 : ∀ W, Below W0.heap.size W0 W → W.cell? ⟨w.heap.size + 1 + 1 + 1, 0, none⟩ = some (.int .i64 q.1) := fun W h => (X3.below h).at_ 0 rfl
    have r8 : ∀ W, Below W0.heap.size W0 W → W.cell? ⟨w.heap.size + 1 + 1 + 1, 1, none⟩ = some (.int .i64 q.2) := fun W h => (X3.below h).at_ 1 rfl
    have r9 : ∀ W, Below W0.heap.size W0 W → W.cell? ⟨w.heap.size + 1 + 1 + 1 + 1, 0, none⟩ = some (.int .i64 kind) := fun W h => (X4.below h).at_ 0 rfl
    clear X0 X1 X2 X3 X4 X5
    go_region_held3 (fun W => Below W0.heap.size W0 W) ((repeat' (first | with_reducible assumption | with_reducible exact Below.refl _ _ | with_reducible refine Below.drew ?_ | with_reducible refine below_drewN ?_ _ | with_reducible refine balloc ?_ _ | with_reducible refine bset ?_ ?_ _ | with_reducible refine Below.setCell ?_ ?_ _ | with_reducible refine Below.alloc ?_ ?_ _ | omega | (simp; done) | (simp; omega))))
      ((first
        | (go_at_call 66; refine (wall_within _ _ _ _).mono ?_; rintro e w' ⟨rfl, rfl⟩)
        | (go_at_call 77; refine (wall_ready wide high body _ a ak ab _ n nk nb 2 _ _ _ _ g K B (pts2 p q) _ (by omega) (by omega) (by omega) (by omega) (I.below (by (repeat' (first | with_reducible assumption | with_reducible exact Below.refl _ _ | with_reducible refine Below.drew ?_ | with_reducible refine below_drewN ?_ _ | with_reducible refine balloc ?_ _ | with_reducible refine bset ?_ ?_ _ | with_reducible refine Below.setCell ?_ ?_ _ | with_reducible refine Below.alloc ?_ ?_ _ | omega | (simp; done) | (simp; omega))))) (IK.below (by (repeat' (first | with_reducible assumption | with_reducible exact Below.refl _ _ | with_reducible refine Below.drew ?_ | with_reducible refine below_drewN ?_ _ | with_reducible refine balloc ?_ _ | with_reducible refine bset ?_ ?_ _ | with_reducible refine Below.setCell ?_ ?_ _ | with_reducible refine Below.alloc ?_ ?_ _ | omega | (simp; done) | (simp; omega))))) (IB.below (by (repeat' (first | with_reducible assumption | with_reducible exact Below.refl _ _ | with_reducible refine Below.drew ?_ | with_reducible refine below_drewN ?_ _ | with_reducible refine balloc ?_ _ | with_reducible refine bset ?_ ?_ _ | with_reducible refine Below.setCell ?_ ?_ _ | with_reducible refine Below.alloc ?_ ?_ _ | omega | (simp; done) | (simp; omega))))) (sp_of_bx2 (by (repeat' (first | with_reducible assumption | (with_reducible refine Bx.newE ?_ _ _; (simp; done)) | with_reducible refine Bx.alloc ?_ _ | with_reducible refine Bx.drew ?_ | with_reducible refine Bx.drewN ?_ _ | with_reducible refine Bx.four ?_ | (with_reducible refine Bx.far2 ?_ ?_ _; (dsimp only; omega))))))).mono ?_; rintro e w1 ⟨rfl, hb1⟩; have hB1 : Below W0.heap.size W0 w1 := bvia (by (repeat' (first | with_reducible assumption | with_reducible exact Below.refl _ _ | with_reducible refine Below.drew ?_ | with_reducible refine below_drewN ?_ _ | with_reducible refine balloc ?_ _ | with_reducible refine bset ?_ ?_ _ | with_reducible refine Below.setCell ?_ ?_ _ | with_reducible refine Below.alloc ?_ ?_ _ | omega | (simp; done) | (simp; omega)))) hb1)
        | fail))
    all_goals
      go_wp2_with fail
      go_meet
      exact ⟨rfl, by with_reducible assumption⟩
  case rest =>
    obtain ⟨rfl, hBc⟩ := hcut
    have Y0 := X0.below hBc; have Y1 := X1.below hBc; have Y2 := X2.below hBc; have Y3 := X3.below hBc; have Y4 := X4.below hBc; have Y5 := X5.below hBc
    have hB1 : Below w.heap.size w wc := bvia hB0 hBc
    have JK := IK.below hBc; have JB := IB.below hBc
    clear X0 X1 X2 X3 X4 X5 I IK IB
    generalize hE : readyE (validW wide high n g nk nb K B) (allOn wide high (pts2 p q) (within kind 1 3) 2) body = er
    have l5 := Y5.lt
    cases hne : (er != 0)
    · obtain rfl : er = 0 := by simpa using hne
      obtain ⟨hV, hO, hW⟩ := readyE_zero hE
      obtain ⟨hG, rfl, rfl, _⟩ := (validW_iff ..).1 hV
      obtain ⟨v1, v2, v3, v4, v5, v6, _, _⟩ := (validG_iff ..).1 hG
      have h0 : 0 < nb := by
        have : 1 * 1 ≤ wide * high := Int.mul_le_mul v1 v3 (by omega) (by omega)
        omega
      have HV6 := hid v6
      have HE := hid hE
      clear hE hV hO hG v5 v6 hne
      go_upto_region 5 with (fail)
      have r0 : ∀ W, Below (w.heap.size + 5) wc W → W.cell? ⟨w.heap.size, 0, none⟩ = some (.int .i64 wide) := fun W h => (bcell h _ _ (by omega)).trans (Y0.at_ 0 rfl)
      have r1 : ∀ W, Below (w.heap.size + 5) wc W → W.cell? ⟨w.heap.size, 1, none⟩ = some (.int .i64 high) := fun W h => (bcell h _ _ (by omega)).trans (Y0.at_ 1 rfl)
      have r2 : ∀ W, Below (w.heap.size + 5) wc W → W.cell? ⟨w.heap.size, 2, none⟩ = some (.slice a nb c) := fun W h => (bcell h _ _ (by omega)).trans (Y0.at_ 2 rfl)
      have r3 : ∀ W, Below (w.heap.size + 5) wc W → W.cell? ⟨w.heap.size + 1, 0, none⟩ = some (.slice ak nb ck) := fun W h => (bcell h _ _ (by omega)).trans (Y1.at_ 0 rfl)
      have r4 : ∀ W, Below (w.heap.size + 5) wc W → W.cell? ⟨w.heap.size + 1, 1, none⟩ = some (.slice ab nb cb) := fun W h => (bcell h _ _ (by omega)).trans (Y1.at_ 1 rfl)
      have q0 : ∀ W, Below wc.heap.size wc W → W.cell? ⟨w.heap.size + 1 + 1 + 1 + 1 + 1, 0, none⟩ = some (.slice none 0 0) := fun W h => (Y5.below h).at_ 0 rfl
      have q1 : ∀ W, Below wc.heap.size wc W → W.cell? ⟨w.heap.size + 1 + 1 + 1 + 1 + 1, 1, none⟩ = some (.slice none 0 0) := fun W h => (Y5.below h).at_ 1 rfl
      have qf : ∀ W, Below wc.heap.size wc W → ∀ i, W.frozen? ⟨w.heap.size + 1 + 1 + 1 + 1 + 1, i, none⟩ = false := fun W h => (Y5.below h).free
      go_region_held3 (fun W => Below (w.heap.size + 5) wc W) ((repeat' (first | with_reducible assumption | with_reducible exact Below.refl _ _ | with_reducible refine Below.drew ?_ | with_reducible refine below_drewN ?_ _ | with_reducible refine balloc ?_ _ | with_reducible refine bset ?_ ?_ _ | with_reducible refine Below.setCell ?_ ?_ _ | with_reducible refine Below.alloc ?_ ?_ _ | omega | (simp; done) | (simp; omega))))
        ((first
          | (go_at_call 81; refine (wall_all wide high a nb c _ _ _).mono ?_; rintro e w1 ⟨bg, bi, rfl, Xg, Xi, hb1⟩; have hC1 : Below wc.heap.size wc w1 := bvia (by (repeat' (first | with_reducible assumption | with_reducible exact Below.refl _ _ | with_reducible refine Below.drew ?_ | with_reducible refine below_drewN ?_ _ | with_reducible refine balloc ?_ _ | with_reducible refine bset ?_ ?_ _ | with_reducible refine Below.setCell ?_ ?_ _ | with_reducible refine Below.alloc ?_ ?_ _ | omega | (simp; done) | (simp; omega)))) hb1; have hD1 := hC1.mono (show w.heap.size + 5 ≤ wc.heap.size by omega); have hs1 := hC1.size)
          | (go_at_call 80; refine (wall_kinds _ _ _ _ _).mono ?_; rintro e w2 ⟨bp', bk', rfl, Xp', Xk', hb2⟩; have hC2 : Below wc.heap.size wc w2 := bvia (by (repeat' (first | with_reducible assumption | with_reducible exact Below.refl _ _ | with_reducible refine Below.drew ?_ | with_reducible refine below_drewN ?_ _ | with_reducible refine balloc ?_ _ | with_reducible refine bset ?_ ?_ _ | with_reducible refine Below.setCell ?_ ?_ _ | with_reducible refine Below.alloc ?_ ?_ _ | omega | (simp; done) | (simp; omega)))) hb2; have hD2 := hC2.mono (show w.heap.size + 5 ≤ wc.heap.size by omega); have hs2 := hC2.size;
             have hit := kinds_iter bp' bk' 136 82 _ _ (fun _ _ => True) (fun _ _ => kind) (placesTo wide (boxF p q) nb) w2 Xp' Xk' (all_iter wide high a nb c bg bi 78 _ (fun _ _ => True) (boxF p q) w2 v1 v2 (by omega) (Xg.below (bvia (by (repeat' (first | with_reducible assumption | with_reducible exact Below.refl _ _ | with_reducible refine Below.drew ?_ | with_reducible refine below_drewN ?_ _ | with_reducible refine balloc ?_ _ | with_reducible refine bset ?_ ?_ _ | with_reducible refine Below.setCell ?_ ?_ _ | with_reducible refine Below.alloc ?_ ?_ _ | omega | (simp; done) | (simp; omega)))) hb2)) (Xi.below (bvia (by (repeat' (first | with_reducible assumption | with_reducible exact Below.refl _ _ | with_reducible refine Below.drew ?_ | with_reducible refine below_drewN ?_ _ | with_reducible refine balloc ?_ _ | with_reducible refine bset ?_ ?_ _ | with_reducible refine Below.setCell ?_ ?_ _ | with_reducible refine Below.alloc ?_ ?_ _ | omega | (simp; done) | (simp; omega)))) hb2)) (box_tells p q _ _ w2 (Y2.below hC2) (Y3.below hC2)) (fun _ _ => trivial) ent78) (box2_tells kind _ w2 (Y4.below hC2)) (fun _ _ => trivial) ent136 ent82)
          | (go_at_call 79; refine (wall_put wide high body ak ab a nb c ck cb 135 _ K B (boxBricks wide p q kind nb) _ ⟨v1, v2⟩ ⟨v3, v4⟩ HV6.out (by omega) h0 (JK.below (by (repeat' (first | with_reducible assumption | with_reducible exact Below.refl _ _ | with_reducible refine Below.drew ?_ | with_reducible refine below_drewN ?_ _ | with_reducible refine balloc ?_ _ | with_reducible refine bset ?_ ?_ _ | with_reducible refine Below.setCell ?_ ?_ _ | with_reducible refine Below.alloc ?_ ?_ _ | omega | (simp; done) | (simp; omega))))) (JB.below (by (repeat' (first | with_reducible assumption | with_reducible exact Below.refl _ _ | with_reducible refine Below.drew ?_ | with_reducible refine below_drewN ?_ _ | with_reducible refine balloc ?_ _ | with_reducible refine bset ?_ ?_ _ | with_reducible refine Below.setCell ?_ ?_ _ | with_reducible refine Below.alloc ?_ ?_ _ | omega | (simp; done) | (simp; omega))))) (hit.later (by (repeat' (first | with_reducible assumption | with_reducible exact Below.refl _ _ | with_reducible refine Below.drew ?_ | with_reducible refine below_drewN ?_ _ | with_reducible refine balloc ?_ _ | with_reducible refine bset ?_ ?_ _ | with_reducible refine Below.setCell ?_ ?_ _ | with_reducible refine Below.alloc ?_ ?_ _ | omega | (simp; done) | (simp; omega))))) ent135).mono ?_; rintro e w3 ⟨a1, a2, c1, c2, rfl, S1, S2, hb3⟩; have hC3 : Below wc.heap.size wc w3 := bvia (by (repeat' (first | with_reducible assumption | with_reducible exact Below.refl _ _ | with_reducible refine Below.drew ?_ | with_reducible refine below_drewN ?_ _ | with_reducible refine balloc ?_ _ | with_reducible refine bset ?_ ?_ _ | with_reducible refine Below.setCell ?_ ?_ _ | with_reducible refine Below.alloc ?_ ?_ _ | omega | (simp; done) | (simp; omega)))) hb3; have hD3 := hC3.mono (show w.heap.size + 5 ≤ wc.heap.size by omega); have hs3 := hC3.size)
          | fail))
      all_goals
        have Y6 := Y5.below hC3
        have y50 := q0 w3 hC3; have y51 := q1 w3 hC3; have y5f := qf w3 hC3
        have hBw : Below w.heap.size w w3 := bvia hB1 hC3
        generalize hpl : lLen wide high body B (boxBricks wide p q kind nb) nb = pl at S1 S2 ⊢
        have HPL := hid hpl; clear hpl
        go_wp2_with fail
        refine bodyPost_ret (v := .tuple #[.agg #[.slice a1 pl c1, .slice a2 pl c2], .int .i64 (lErr wide high body B (boxBricks wide p q kind nb))]) (by simp [results, Try.results31, go_sem, y50, y51]) rfl ?_
        rw [HE.out]
        exact ⟨fun _ => ⟨a1, a2, c1, c2, by rw [HPL.out], by rw [HPL.out]; exact S1.set2 Y6 _ _, by rw [HPL.out]; exact S2.set2 Y6 _ _, by (repeat' (first | with_reducible assumption | with_reducible exact Below.refl _ _ | with_reducible refine Below.drew ?_ | with_reducible refine below_drewN ?_ _ | with_reducible refine balloc ?_ _ | with_reducible refine bset ?_ ?_ _ | with_reducible refine Below.setCell ?_ ?_ _ | with_reducible refine Below.alloc ?_ ?_ _ | omega | (simp; done) | (simp; omega)))⟩, fun h => absurd rfl h⟩
    · have her : er ≠ 0 := by simpa using hne
      have HE := hid hE; clear hE
      have y50 := Y5.at_ 0 rfl; have y51 := Y5.at_ 1 rfl; have y5f := Y5.free
      go_wp2_with fail
      refine bodyPost_ret (v := .tuple #[.agg #[.slice none 0 0, .slice none 0 0], .int .i64 er]) (by simp [results, Try.results31, go_sem, y50, y51]) rfl (by rw [HE.out]; exact brickPost_err her (by (repeat' (first | with_reducible assumption | with_reducible exact Below.refl _ _ | with_reducible refine Below.drew ?_ | with_reducible refine below_drewN ?_ _ | with_reducible refine balloc ?_ _ | with_reducible refine bset ?_ ?_ _ | with_reducible refine Below.setCell ?_ ?_ _ | with_reducible refine Below.alloc ?_ ?_ _ | omega | (simp; done) | (simp; omega)))))
end Go.Proofs.Ytnnaegnkkpknpaa
