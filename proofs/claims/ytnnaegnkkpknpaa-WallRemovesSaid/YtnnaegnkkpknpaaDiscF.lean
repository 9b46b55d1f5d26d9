/- Walks: the function values of Disc and Smooth. -/
import Derived.Test.YtnnaegnkkpknpaaDiscW
namespace Go.Proofs.Ytnnaegnkkpknpaa
open Go Go.RowKit
attribute [local go_sem ↓] Go.wp_at_zero Go.wp_at_succ
set_option linter.unusedVariables false
set_option maxRecDepth 100000 in
theorem wall_disc (wide high q : Int) (p : Int × Int) (a : Option Addr) (n c : Nat) (w : World) :
    Calls Try.prog 89 #[.agg #[.int .i64 wide, .int .i64 high, .slice a n c], .agg #[.int .i64 p.1, .int .i64 p.2], .int .i64 q] w fun e w' => ∃ bp bg bq, e = .returned (.func (.func 138) #[] #[.pointer (some ⟨bp, 0, none⟩), .pointer (some ⟨bg, 0, none⟩), .pointer (some ⟨bq, 0, none⟩)]) ∧ Bx w' bp #[.int .i64 p.1, .int .i64 p.2] ∧ Bx w' bg #[.int .i64 wide, .int .i64 high, .slice a n c] ∧ Bx w' bq #[.int .i64 q] ∧ Below w.heap.size w w' := by
  have X0 := ((Bx.new w #[.int .i64 wide, .int .i64 high, .slice a n c] 24).alloc (.cells #[.int .i64 p.1, .int .i64 p.2] 51)).alloc (.cells #[.int .i64 q] 3)
  have X1 := (Bx.new (w.alloc (.cells #[.int .i64 wide, .int .i64 high, .slice a n c] 24)) #[.int .i64 p.1, .int .i64 p.2] 51).alloc (.cells #[.int .i64 q] 3)
  have X2 := Bx.new ((w.alloc (.cells #[.int .i64 wide, .int .i64 high, .slice a n c] 24)).alloc (.cells #[.int .i64 p.1, .int .i64 p.2] 51)) #[.int .i64 q] 3
  simp only [World.size_alloc] at X1 X2
  have hB0 : Below w.heap.size w (((w.alloc (.cells #[.int .i64 wide, .int .i64 high, .slice a n c] 24)).alloc (.cells #[.int .i64 p.1, .int .i64 p.2] 51)).alloc (.cells #[.int .i64 q] 3)) := by (repeat' (first | with_reducible assumption | with_reducible exact Below.refl _ _ | with_reducible refine Below.drew ?_ | with_reducible refine below_drewN ?_ _ | with_reducible refine balloc ?_ _ | with_reducible refine bset ?_ ?_ _ | with_reducible refine Below.setCell ?_ ?_ _ | with_reducible refine Below.alloc ?_ ?_ _ | omega | (simp; done) | (simp; omega)))
  go_enter Try.func89, Try.ntmps89
  go_wp2
  go_ret
  exact ⟨_, _, _, rfl, X1, X0, X2, hB0⟩
set_option maxRecDepth 100000 in
set_option maxHeartbeats 1000000 in
theorem disc_tells (wide high q : Int) (p : Int × Int) (a : Option Addr) (n c bp bg bq : Nat) (w₀ : World) (h1 : 1 ≤ wide ∧ wide ≤ 64) (h2 : 1 ≤ high ∧ high ≤ 64) (hp : 0 ≤ p.1 ∧ p.1 ≤ 63 ∧ 0 ≤ p.2 ∧ p.2 ≤ 63)
    (Xp : Bx w₀ bp #[.int .i64 p.1, .int .i64 p.2]) (Xg : Bx w₀ bg #[.int .i64 wide, .int .i64 high, .slice a n c]) (Xq : Bx w₀ bq #[.int .i64 q]) :
    TellsB 138 #[.pointer (some ⟨bp, 0, none⟩), .pointer (some ⟨bg, 0, none⟩), .pointer (some ⟨bq, 0, none⟩)] near (dIn wide high p q) w₀ := by
  intro x y W ⟨n1, n2, n3, n4⟩ hW
  have Yp := Xp.below hW; have Yg := Xg.below hW; have Yq := Xq.below hW
  clear Xp Xg Xq
  have p0 := Yp.at_ 0 rfl; have p1 := Yp.at_ 1 rfl; have g0 := Yg.at_ 0 rfl; have g1 := Yg.at_ 1 rfl; have g2 := Yg.at_ 2 rfl; have q0 := Yq.at_ 0 rfl; have lp := Yp.lt; have lq := Yq.lt; have lg := Yg.lt
  obtain ⟨hp1, hp2, hp3, hp4⟩ := hp
  have wu : wrap64 (x - p.1) = x - p.1 := by unfold wrap64; omega
  have wv : wrap64 (y - p.2) = y - p.2 := by unfold wrap64; omega
  have wu2 : IntKind.i64.wrap (x - p.1) = x - p.1 := IntWalk.i64_in _ (by omega)
  have wv2 : IntKind.i64.wrap (y - p.2) = y - p.2 := IntWalk.i64_in _ (by omega)
  obtain ⟨a1, a2⟩ := sq_bd (u := x - p.1) (by omega) (by omega)
  obtain ⟨b1, b2⟩ := sq_bd (u := y - p.2) (by omega) (by omega)
  generalize hU : (x - p.1) * (x - p.1) = U at a1 a2
  generalize hV : (y - p.2) * (y - p.2) = V at b1 b2
  have hF : dIn wide high p q x y = (onB wide high x y && decide (U + V ≤ q)) := by rw [dIn, hU, hV]
  have HF := hid hF
  have eU : wrap64 ((x - p.1) * (x - p.1)) = U := by rw [hU]; unfold wrap64; omega
  have eV : wrap64 ((y - p.2) * (y - p.2)) = V := by rw [hV]; unfold wrap64; omega
  have eS : wrap64 (U + V) = U + V := by unfold wrap64; omega
  clear hF hU hV
  show Calls Try.prog 138 #[.agg #[.int .i64 x, .int .i64 y], .pointer (some ⟨bp, 0, none⟩), .pointer (some ⟨bg, 0, none⟩), .pointer (some ⟨bq, 0, none⟩)] W _
  go_enter Try.func138, Try.ntmps138
  go_upto_region 1 with (fail)
  go_quiet (fail)
  clear wu2 wv2
  go_wp2_with fail
  refine (wall_on wide high x y a n c _ h1 h2).mono ?_
  rintro e w2 ⟨rfl, hb2⟩
  have hq2 : w2.cell? ⟨bq, 0, none⟩ = some (.int .i64 q) := (Bx.below (vs := #[.int .i64 q]) (by (repeat' (first | with_reducible assumption | (with_reducible refine Bx.newE ?_ _ _; (simp; done)) | with_reducible refine Bx.alloc ?_ _ | with_reducible refine Bx.drew ?_ | with_reducible refine Bx.drewN ?_ _ | with_reducible refine Bx.four ?_ | (with_reducible refine Bx.far2 ?_ ?_ _; (dsimp only; omega))))) hb2).at_ 0 rfl
  have hB2 : Below W.heap.size W w2 := bvia (by (repeat' (first | with_reducible assumption | with_reducible exact Below.refl _ _ | with_reducible refine Below.drew ?_ | with_reducible refine below_drewN ?_ _ | with_reducible refine balloc ?_ _ | with_reducible refine bset ?_ ?_ _ | with_reducible refine Below.setCell ?_ ?_ _ | with_reducible refine Below.alloc ?_ ?_ _ | omega | (simp; done) | (simp; omega)))) hb2
  have lq2 : bq < w2.heap.size := by have := hB2.size; omega
  clear p0 p1 g0 g1 g2 q0
  cases hon : onB wide high x y
  · go_wp2_with fail
    go_ret
    exact ⟨by rw [HF.out, hon]; simp, hB2⟩
  · go_wp2_with fail
    go_ret
    exact ⟨by rw [HF.out, hon]; simp, hB2⟩
set_option maxRecDepth 100000 in
theorem back_tells (w₀ : World) : TellsI 90 #[] (fun _ _ => True) (fun _ _ => 1) w₀ := by
  intro x y W _ hW
  show Calls Try.prog 90 #[.agg #[.int .i64 x, .int .i64 y]] W _
  go_enter Try.func90, Try.ntmps90
  go_wp2
  go_ret
  exact ⟨rfl, by (repeat' (first | with_reducible assumption | with_reducible exact Below.refl _ _ | with_reducible refine Below.drew ?_ | with_reducible refine below_drewN ?_ _ | with_reducible refine balloc ?_ _ | with_reducible refine bset ?_ ?_ _ | with_reducible refine Below.setCell ?_ ?_ _ | with_reducible refine Below.alloc ?_ ?_ _ | omega | (simp; done) | (simp; omega)))⟩
def inG (x y : Int) : Prop := 0 ≤ x ∧ x ≤ 63 ∧ 0 ≤ y ∧ y ≤ 63
set_option maxRecDepth 100000 in
set_option maxHeartbeats 4000000 in
theorem smooth_tells (wide high q : Int) (p : Int × Int) (a : Option Addr) (n c bf bp bg bq : Nat) (w₀ : World) (h1 : 1 ≤ wide ∧ wide ≤ 64) (h2 : 1 ≤ high ∧ high ≤ 64) (hp : 0 ≤ p.1 ∧ p.1 ≤ 63 ∧ 0 ≤ p.2 ∧ p.2 ≤ 63)
    (Xf : Bx w₀ bf #[.func (.func 138) #[] #[.pointer (some ⟨bp, 0, none⟩), .pointer (some ⟨bg, 0, none⟩), .pointer (some ⟨bq, 0, none⟩)]])
    (Xp : Bx w₀ bp #[.int .i64 p.1, .int .i64 p.2]) (Xg : Bx w₀ bg #[.int .i64 wide, .int .i64 high, .slice a n c]) (Xq : Bx w₀ bq #[.int .i64 q]) :
    TellsI 92 #[.pointer (some ⟨bf, 0, none⟩)] inG (mirF wide high p q) w₀ := by
  intro x y W ⟨x0, x1, y0, y1⟩ hW
  have hd : ∀ x y W, near x y → Below w₀.heap.size w₀ W → Calls Try.prog 138 #[.agg #[.int .i64 x, .int .i64 y], .pointer (some ⟨bp, 0, none⟩), .pointer (some ⟨bg, 0, none⟩), .pointer (some ⟨bq, 0, none⟩)] W fun e W' => e = .returned (.bool (dIn wide high p q x y)) ∧ Below W.heap.size W W' :=
    fun x y W h h' => disc_tells wide high q p a n c bp bg bq w₀ h1 h2 hp Xp Xg Xq x y W h h'
  have X1 := Bx.new W #[.int .i64 x, .int .i64 y] 51
  have hB0 : Below W.heap.size W (W.alloc (.cells #[.int .i64 x, .int .i64 y] 51)) := below_alloc _ _
  have zf := Xf.lt
  have zW := hW.size
  show Calls Try.prog 92 #[.agg #[.int .i64 x, .int .i64 y], .pointer (some ⟨bf, 0, none⟩)] W _
  go_enter Try.func92, Try.ntmps92
  go_upto_region 1 with (fail)
  generalize W.alloc (.cells #[.int .i64 x, .int .i64 y] 51) = W0 at X1 hB0 ⊢
  have z0 := X1.lt
  have hW0 : Below w₀.heap.size w₀ W0 := hW.trans (hB0.mono hW.size)
  have r0 : ∀ Y, Below W0.heap.size W0 Y → Y.cell? ⟨bf, 0, none⟩ = some (.func (.func 138) #[] #[.pointer (some ⟨bp, 0, none⟩), .pointer (some ⟨bg, 0, none⟩), .pointer (some ⟨bq, 0, none⟩)]) := fun Y h => ((Xf.below hW0).below h).at_ 0 rfl
  have r1 : ∀ Y, Below W0.heap.size W0 Y → Y.cell? ⟨W.heap.size, 0, none⟩ = some (.int .i64 x) := fun Y h => (X1.below h).at_ 0 rfl
  have r2 : ∀ Y, Below W0.heap.size W0 Y → Y.cell? ⟨W.heap.size, 1, none⟩ = some (.int .i64 y) := fun Y h => (X1.below h).at_ 1 rfl
  have hd0 : ∀ x y Y, near x y → Below W0.heap.size W0 Y → Calls Try.prog 138 #[.agg #[.int .i64 x, .int .i64 y], .pointer (some ⟨bp, 0, none⟩), .pointer (some ⟨bg, 0, none⟩), .pointer (some ⟨bq, 0, none⟩)] Y fun e W' => e = .returned (.bool (dIn wide high p q x y)) ∧ Below Y.heap.size Y W' :=
    fun x y Y h h' => hd x y Y h (hW0.trans (h'.mono hW0.size))
  clear hd Xf Xp Xg Xq X1
  have i1 : IntKind.i64.wrap (x + 1) = x + 1 := IntWalk.i64_in _ (by omega)
  have i2 : IntKind.i64.wrap (y + 1) = y + 1 := IntWalk.i64_in _ (by omega)
  have i3 : IntKind.i64.wrap (x - 1) = x - 1 := IntWalk.i64_in _ (by omega)
  have i4 : IntKind.i64.wrap (y - 1) = y - 1 := IntWalk.i64_in _ (by omega)
  go_cut [4, 5] from 8 to 25 (fun s4 s5 Y => s4 = .bool (!dIn wide high p q (x + 1) y) ∧ s5 = .bool (!dIn wide high p q x (y + 1)) ∧ Below W0.heap.size W0 Y)
  case first =>
    go_region_held3 (fun Y => Below W0.heap.size W0 Y) ((repeat' (first | with_reducible assumption | with_reducible exact Below.refl _ _ | with_reducible refine Below.drew ?_ | with_reducible refine below_drewN ?_ _ | with_reducible refine balloc ?_ _ | with_reducible refine bset ?_ ?_ _ | with_reducible refine Below.setCell ?_ ?_ _ | with_reducible refine Below.alloc ?_ ?_ _ | omega | (simp; done) | (simp; omega))))
      ((first
        | (go_at_call 138; refine (hd0 _ _ _ (by unfold near; omega) (by (repeat' (first | with_reducible assumption | with_reducible exact Below.refl _ _ | with_reducible refine Below.drew ?_ | with_reducible refine below_drewN ?_ _ | with_reducible refine balloc ?_ _ | with_reducible refine bset ?_ ?_ _ | with_reducible refine Below.setCell ?_ ?_ _ | with_reducible refine Below.alloc ?_ ?_ _ | omega | (simp; done) | (simp; omega))))).mono ?_; rintro e w1 ⟨rfl, hb1⟩; have hB1 : Below W0.heap.size W0 w1 := bvia (by (repeat' (first | with_reducible assumption | with_reducible exact Below.refl _ _ | with_reducible refine Below.drew ?_ | with_reducible refine below_drewN ?_ _ | with_reducible refine balloc ?_ _ | with_reducible refine bset ?_ ?_ _ | with_reducible refine Below.setCell ?_ ?_ _ | with_reducible refine Below.alloc ?_ ?_ _ | omega | (simp; done) | (simp; omega)))) hb1)
        | fail))
    all_goals
      go_wp2_with fail
      go_meet
      exact ⟨rfl, rfl, by with_reducible assumption⟩
  case rest =>
    obtain ⟨rfl, rfl, hBc⟩ := hcut
    have t0 : ∀ Y, Below wc.heap.size wc Y → Y.cell? ⟨bf, 0, none⟩ = some (.func (.func 138) #[] #[.pointer (some ⟨bp, 0, none⟩), .pointer (some ⟨bg, 0, none⟩), .pointer (some ⟨bq, 0, none⟩)]) := fun Y h => r0 _ (hBc.trans (h.mono hBc.size))
    have t1 : ∀ Y, Below wc.heap.size wc Y → Y.cell? ⟨W.heap.size, 0, none⟩ = some (.int .i64 x) := fun Y h => r1 _ (hBc.trans (h.mono hBc.size))
    have t2 : ∀ Y, Below wc.heap.size wc Y → Y.cell? ⟨W.heap.size, 1, none⟩ = some (.int .i64 y) := fun Y h => r2 _ (hBc.trans (h.mono hBc.size))
    have hdc : ∀ x y Y, near x y → Below wc.heap.size wc Y → Calls Try.prog 138 #[.agg #[.int .i64 x, .int .i64 y], .pointer (some ⟨bp, 0, none⟩), .pointer (some ⟨bg, 0, none⟩), .pointer (some ⟨bq, 0, none⟩)] Y fun e W' => e = .returned (.bool (dIn wide high p q x y)) ∧ Below Y.heap.size Y W' :=
      fun x y Y h h' => hd0 x y Y h (hBc.trans (h'.mono hBc.size))
    have hB1 : Below W.heap.size W wc := bvia hB0 hBc
    have zs := hBc.size
    clear r0 r1 r2 hBc hB0 hd0
    go_upto_region 2 with (fail)
    go_cut [6, 7] from 26 to 43 (fun s6 s7 Y => s6 = .bool (!dIn wide high p q (x - 1) y) ∧ s7 = .bool (!dIn wide high p q x (y - 1)) ∧ Below wc.heap.size wc Y)
    case first =>
      go_region_held3 (fun Y => Below wc.heap.size wc Y) ((repeat' (first | with_reducible assumption | with_reducible exact Below.refl _ _ | with_reducible refine Below.drew ?_ | with_reducible refine below_drewN ?_ _ | with_reducible refine balloc ?_ _ | with_reducible refine bset ?_ ?_ _ | with_reducible refine Below.setCell ?_ ?_ _ | with_reducible refine Below.alloc ?_ ?_ _ | omega | (simp; done) | (simp; omega))))
        ((first
          | (go_at_call 138; refine (hdc _ _ _ (by unfold near; omega) (by (repeat' (first | with_reducible assumption | with_reducible exact Below.refl _ _ | with_reducible refine Below.drew ?_ | with_reducible refine below_drewN ?_ _ | with_reducible refine balloc ?_ _ | with_reducible refine bset ?_ ?_ _ | with_reducible refine Below.setCell ?_ ?_ _ | with_reducible refine Below.alloc ?_ ?_ _ | omega | (simp; done) | (simp; omega))))).mono ?_; rintro e w1 ⟨rfl, hb1⟩; have hB1 : Below wc.heap.size wc w1 := bvia (by (repeat' (first | with_reducible assumption | with_reducible exact Below.refl _ _ | with_reducible refine Below.drew ?_ | with_reducible refine below_drewN ?_ _ | with_reducible refine balloc ?_ _ | with_reducible refine bset ?_ ?_ _ | with_reducible refine Below.setCell ?_ ?_ _ | with_reducible refine Below.alloc ?_ ?_ _ | omega | (simp; done) | (simp; omega)))) hb1)
          | fail))
      all_goals
        go_wp2_with fail
        go_meet
        exact ⟨rfl, rfl, by with_reducible assumption⟩
    case rest =>
      obtain ⟨rfl, rfl, hBd⟩ := hcut
      have hB2 := bvia hB1 hBd
      clear t0 t1 t2 hBd hdc
      go_upto_region 3 with (fail)
      have hm : mirF wide high p q x y = mirS (!dIn wide high p q (x + 1) y) (!dIn wide high p q x (y + 1)) (!dIn wide high p q (x - 1) y) (!dIn wide high p q x (y - 1)) := rfl
      generalize (!dIn wide high p q (x + 1) y) = be at hm ⊢
      generalize (!dIn wide high p q x (y + 1)) = bn at hm ⊢
      generalize (!dIn wide high p q (x - 1) y) = bw at hm ⊢
      generalize (!dIn wide high p q x (y - 1)) = bs at hm ⊢
      cases be <;> cases bn <;> cases bw <;> cases bs
      all_goals
        go_wp2_with fail
        go_ret
        exact ⟨by rw [hm]; rfl, hB2⟩
end Go.Proofs.Ytnnaegnkkpknpaa
