/- Walks: the reference's discs. -/
import Derived.Test.YtnnaegnkkpknpaaDiscW
namespace Go.Proofs.Ytnnaegnkkpknpaa
open Go.RowKit
attribute [local go_sem ↓] Go.wp_at_zero Go.wp_at_succ
set_option linter.unusedVariables false
set_option maxRecDepth 100000 in
set_option maxHeartbeats 2000000 in
theorem ref3_inDisc (wide high q x y : Int) (p : Int × Int) (a : Option Addr) (n c : Nat) (w : World) (h1 : 1 ≤ wide ∧ wide ≤ 64) (h2 : 1 ≤ high ∧ high ≤ 64) (hp : 0 ≤ p.1 ∧ p.1 ≤ 63 ∧ 0 ≤ p.2 ∧ p.2 ≤ 63) (hn : near x y) :
    Calls Try.prog 139 #[.agg #[.int .i64 wide, .int .i64 high, .slice a n c], .agg #[.int .i64 p.1, .int .i64 p.2], .int .i64 q, .int .i64 x, .int .i64 y] w
      fun e w' => e = .returned (.bool (dIn wide high p q x y)) ∧ Below w.heap.size w w' := by
  obtain ⟨n1, n2, n3, n4⟩ := hn
  obtain ⟨hp1, hp2, hp3, hp4⟩ := hp
  have X0 := (Bx.new w #[.int .i64 wide, .int .i64 high, .slice a n c] 24).alloc (.cells #[.int .i64 p.1, .int .i64 p.2] 51)
  have X1 := Bx.new (w.alloc (.cells #[.int .i64 wide, .int .i64 high, .slice a n c] 24)) #[.int .i64 p.1, .int .i64 p.2] 51
  simp only [World.size_alloc] at X1
  have hB0 : Below w.heap.size w ((w.alloc (.cells #[.int .i64 wide, .int .i64 high, .slice a n c] 24)).alloc (.cells #[.int .i64 p.1, .int .i64 p.2] 51)) := by (repeat' (first | with_reducible assumption | with_reducible exact Below.refl _ _ | with_reducible refine Below.drew ?_ | with_reducible refine below_drewN ?_ _ | with_reducible refine balloc ?_ _ | with_reducible refine bset ?_ ?_ _ | with_reducible refine Below.setCell ?_ ?_ _ | with_reducible refine Below.alloc ?_ ?_ _ | omega | (simp; done) | (simp; omega)))
  go_enter Try.func139, Try.ntmps139
  go_wp2_with fail
  generalize ((w.alloc (.cells #[.int .i64 wide, .int .i64 high, .slice a n c] 24)).alloc (.cells #[.int .i64 p.1, .int .i64 p.2] 51)) = W0 at X0 X1 hB0 ⊢
  have z0 := X0.lt
  have z1 := X1.lt
  refine (ref2_On wide high x y a n c _ h1 h2).mono ?_
  rintro e w2 ⟨rfl, hb2⟩
  have Y1 := X1.below hb2
  have p0 := Y1.at_ 0 rfl; have p1 := Y1.at_ 1 rfl; have l1 := Y1.lt
  have hB2 : Below w.heap.size w w2 := bvia hB0 hb2
  clear X0 X1 z0 z1 hB0 hb2
  have wu : wrap64 (x - p.1) = x - p.1 := by unfold wrap64; omega
  have wv : wrap64 (y - p.2) = y - p.2 := by unfold wrap64; omega
  obtain ⟨a1, a2⟩ := sq_bd (u := x - p.1) (by omega) (by omega)
  obtain ⟨b1, b2⟩ := sq_bd (u := y - p.2) (by omega) (by omega)
  generalize hU : (x - p.1) * (x - p.1) = U at a1 a2
  generalize hV : (y - p.2) * (y - p.2) = V at b1 b2
  have hF : dIn wide high p q x y = (onB wide high x y && decide (U + V ≤ q)) := by rw [dIn, hU, hV]
  have HF := hid hF
  have eU : wrap64 ((x - p.1) * (x - p.1)) = U := by rw [hU]; unfold wrap64; omega
  have eV : wrap64 ((y - p.2) * (y - p.2)) = V := by rw [hV]; unfold wrap64; omega
  have eS : wrap64 (U + V) = U + V := by unfold wrap64; omega
  clear hF hU hV
  cases hon : onB wide high x y
  · go_wp2_with fail
    go_ret
    exact ⟨by rw [HF.out, hon]; simp, hB2⟩
  · go_wp2_with fail
    go_ret
    exact ⟨by rw [HF.out, hon]; simp, hB2⟩
set_option maxRecDepth 100000 in
set_option maxHeartbeats 4000000 in
theorem ref3_mirror (wide high q x y : Int) (p : Int × Int) (a : Option Addr) (n c : Nat) (w : World) (h1 : 1 ≤ wide ∧ wide ≤ 64) (h2 : 1 ≤ high ∧ high ≤ 64) (hp : 0 ≤ p.1 ∧ p.1 ≤ 63 ∧ 0 ≤ p.2 ∧ p.2 ≤ 63) (hx : 0 ≤ x ∧ x ≤ 63) (hy : 0 ≤ y ∧ y ≤ 63) :
    Calls Try.prog 140 #[.agg #[.int .i64 wide, .int .i64 high, .slice a n c], .agg #[.int .i64 p.1, .int .i64 p.2], .int .i64 q, .int .i64 x, .int .i64 y] w
      fun e w' => e = .returned (.int .i64 (mirF wide high p q x y)) ∧ Below w.heap.size w w' := by
  obtain ⟨x0, x1⟩ := hx
  obtain ⟨y0, y1⟩ := hy
  have X0 := (Bx.new w #[.int .i64 wide, .int .i64 high, .slice a n c] 24).alloc (.cells #[.int .i64 p.1, .int .i64 p.2] 51)
  have X1 := Bx.new (w.alloc (.cells #[.int .i64 wide, .int .i64 high, .slice a n c] 24)) #[.int .i64 p.1, .int .i64 p.2] 51
  simp only [World.size_alloc] at X1
  have hB0 : Below w.heap.size w ((w.alloc (.cells #[.int .i64 wide, .int .i64 high, .slice a n c] 24)).alloc (.cells #[.int .i64 p.1, .int .i64 p.2] 51)) := by (repeat' (first | with_reducible assumption | with_reducible exact Below.refl _ _ | with_reducible refine Below.drew ?_ | with_reducible refine below_drewN ?_ _ | with_reducible refine balloc ?_ _ | with_reducible refine bset ?_ ?_ _ | with_reducible refine Below.setCell ?_ ?_ _ | with_reducible refine Below.alloc ?_ ?_ _ | omega | (simp; done) | (simp; omega)))
  go_enter Try.func140, Try.ntmps140
  go_upto_region 1 with (fail)
  generalize ((w.alloc (.cells #[.int .i64 wide, .int .i64 high, .slice a n c] 24)).alloc (.cells #[.int .i64 p.1, .int .i64 p.2] 51)) = W0 at X0 X1 hB0 ⊢
  have z0 := X0.lt
  have z1 := X1.lt
  have r0 : ∀ W, Below W0.heap.size W0 W → W.cell? ⟨w.heap.size, 0, none⟩ = some (.int .i64 wide) := fun W h => (X0.below h).at_ 0 rfl
  have r1 : ∀ W, Below W0.heap.size W0 W → W.cell? ⟨w.heap.size, 1, none⟩ = some (.int .i64 high) := fun W h => (X0.below h).at_ 1 rfl
  have r2 : ∀ W, Below W0.heap.size W0 W → W.cell? ⟨w.heap.size, 2, none⟩ = some (.slice a n c) := fun W h => (X0.below h).at_ 2 rfl
  have r3 : ∀ W, Below W0.heap.size W0 W → W.cell? ⟨w.heap.size + 1, 0, none⟩ = some (.int .i64 p.1) := fun W h => (X1.below h).at_ 0 rfl
  have r4 : ∀ W, Below W0.heap.size W0 W → W.cell? ⟨w.heap.size + 1, 1, none⟩ = some (.int .i64 p.2) := fun W h => (X1.below h).at_ 1 rfl
  clear X0 X1
  have i1 : IntKind.i64.wrap (x + 1) = x + 1 := IntWalk.i64_in _ (by omega)
  have i2 : IntKind.i64.wrap (y + 1) = y + 1 := IntWalk.i64_in _ (by omega)
  have i3 : IntKind.i64.wrap (x - 1) = x - 1 := IntWalk.i64_in _ (by omega)
  have i4 : IntKind.i64.wrap (y - 1) = y - 1 := IntWalk.i64_in _ (by omega)
  go_cut [11, 12] from 15 to 30 (fun s11 s12 W => s11 = .bool (!dIn wide high p q (x + 1) y) ∧ s12 = .bool (!dIn wide high p q x (y + 1)) ∧ Below W0.heap.size W0 W)
  case first =>
    go_region_held3 (fun W => Below W0.heap.size W0 W) ((repeat' (first | with_reducible assumption | with_reducible exact Below.refl _ _ | with_reducible refine Below.drew ?_ | with_reducible refine below_drewN ?_ _ | with_reducible refine balloc ?_ _ | with_reducible refine bset ?_ ?_ _ | with_reducible refine Below.setCell ?_ ?_ _ | with_reducible refine Below.alloc ?_ ?_ _ | omega | (simp; done) | (simp; omega))))
      ((first
        | (go_at_call 139; refine (ref3_inDisc wide high q _ _ p a n c _ h1 h2 hp (by unfold near; omega)).mono ?_; rintro e w1 ⟨rfl, hb1⟩; have hB1 : Below W0.heap.size W0 w1 := bvia (by (repeat' (first | with_reducible assumption | with_reducible exact Below.refl _ _ | with_reducible refine Below.drew ?_ | with_reducible refine below_drewN ?_ _ | with_reducible refine balloc ?_ _ | with_reducible refine bset ?_ ?_ _ | with_reducible refine Below.setCell ?_ ?_ _ | with_reducible refine Below.alloc ?_ ?_ _ | omega | (simp; done) | (simp; omega)))) hb1)
        | fail))
    all_goals
      go_wp2_with fail
      go_meet
      exact ⟨rfl, rfl, by with_reducible assumption⟩
  case rest =>
    obtain ⟨rfl, rfl, hBc⟩ := hcut
    have t0 : ∀ W, Below wc.heap.size wc W → W.cell? ⟨w.heap.size, 0, none⟩ = some (.int .i64 wide) := fun W h => r0 _ (hBc.trans (h.mono hBc.size))
    have t1 : ∀ W, Below wc.heap.size wc W → W.cell? ⟨w.heap.size, 1, none⟩ = some (.int .i64 high) := fun W h => r1 _ (hBc.trans (h.mono hBc.size))
    have t2 : ∀ W, Below wc.heap.size wc W → W.cell? ⟨w.heap.size, 2, none⟩ = some (.slice a n c) := fun W h => r2 _ (hBc.trans (h.mono hBc.size))
    have t3 : ∀ W, Below wc.heap.size wc W → W.cell? ⟨w.heap.size + 1, 0, none⟩ = some (.int .i64 p.1) := fun W h => r3 _ (hBc.trans (h.mono hBc.size))
    have t4 : ∀ W, Below wc.heap.size wc W → W.cell? ⟨w.heap.size + 1, 1, none⟩ = some (.int .i64 p.2) := fun W h => r4 _ (hBc.trans (h.mono hBc.size))
    have hB1 : Below w.heap.size w wc := bvia hB0 hBc
    have zs := hBc.size
    clear r0 r1 r2 r3 r4 hBc hB0
    go_upto_region 2 with (fail)
    go_cut [13, 14] from 31 to 46 (fun s13 s14 W => s13 = .bool (!dIn wide high p q (x - 1) y) ∧ s14 = .bool (!dIn wide high p q x (y - 1)) ∧ Below wc.heap.size wc W)
    case first =>
      go_region_held3 (fun W => Below wc.heap.size wc W) ((repeat' (first | with_reducible assumption | with_reducible exact Below.refl _ _ | with_reducible refine Below.drew ?_ | with_reducible refine below_drewN ?_ _ | with_reducible refine balloc ?_ _ | with_reducible refine bset ?_ ?_ _ | with_reducible refine Below.setCell ?_ ?_ _ | with_reducible refine Below.alloc ?_ ?_ _ | omega | (simp; done) | (simp; omega))))
        ((first
          | (go_at_call 139; refine (ref3_inDisc wide high q _ _ p a n c _ h1 h2 hp (by unfold near; omega)).mono ?_; rintro e w1 ⟨rfl, hb1⟩; have hB1 : Below wc.heap.size wc w1 := bvia (by (repeat' (first | with_reducible assumption | with_reducible exact Below.refl _ _ | with_reducible refine Below.drew ?_ | with_reducible refine below_drewN ?_ _ | with_reducible refine balloc ?_ _ | with_reducible refine bset ?_ ?_ _ | with_reducible refine Below.setCell ?_ ?_ _ | with_reducible refine Below.alloc ?_ ?_ _ | omega | (simp; done) | (simp; omega)))) hb1)
          | fail))
      all_goals
        go_wp2_with fail
        go_meet
        exact ⟨rfl, rfl, by with_reducible assumption⟩
    case rest =>
      obtain ⟨rfl, rfl, hBd⟩ := hcut
      have hB2 := bvia hB1 hBd
      clear t0 t1 t2 t3 t4 hBd
      go_upto_region 3 with (fail)
      have hm : mirF wide high p q x y = mirS (!dIn wide high p q (x + 1) y) (!dIn wide high p q x (y + 1)) (!dIn wide high p q (x - 1) y) (!dIn wide high p q x (y - 1)) := rfl
      generalize (!dIn wide high p q (x + 1) y) = be at hm ⊢
      generalize (!dIn wide high p q x (y + 1)) = bn at hm ⊢
      generalize (!dIn wide high p q (x - 1) y) = bw at hm ⊢
      generalize (!dIn wide high p q x (y - 1)) = bs at hm ⊢
      cases be <;> cases bn <;> cases bw <;> cases bs
      all_goals
        go_wp2_with fail
        go_ret
        exact ⟨by rw [hm]; rfl, hB2⟩
end Go.Proofs.Ytnnaegnkkpknpaa
