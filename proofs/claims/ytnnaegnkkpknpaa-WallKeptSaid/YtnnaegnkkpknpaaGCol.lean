/- Walks: the program's steps of a grid: collided, forth. -/
import Derived.Test.YtnnaegnkkpknpaaWStream2
import Derived.Test.YtnnaegnkkpknpaaWStepPlain
import Derived.Test.YtnnaegnkkpknpaaCellStep2
namespace Go.Proofs.Ytnnaegnkkpknpaa
open Go Go.RowKit
set_option linter.unusedVariables false
theorem But.setN {C : Nat → Prop} {X Y : World} (h : But C X Y) {p : Addr} (hp : X.heap.size ≤ p.block) (u : Value) : But C X (Y.setCell p u) :=
  ⟨h.os, h.tape, h.output, by simpa [World.setCell] using h.size, fun b hb hc => (Below.heap_setCell Y p u b (fun e => by omega)).trans (h.block b hb hc)⟩
/-- all cells collided -/
def collF (k b : Int) (g : Nat → C4) : Nat → C4 := fun i => coll k b (g i)
theorem collF_met (k b : Int) (g : Nat → C4) : collF k b g = metF k b (fun _ => 0) g := by
  funext i; simp [collF, metF]
set_option maxRecDepth 100000 in
set_option maxHeartbeats 8000000 in
theorem grid_collidedC (W H n b₀ ca : Nat) (k b : Int) (g : Nat → C4) (w : World) (hn : n ≤ 4096) (hv : ∀ i, i < n → validC (g i) = true) (hru : ruleOk k b) (R : Ro w b₀ (n * 4) (flatC g)) :
    Calls Try.prog 194 #[.agg #[.int .i64 (W : Int), .int .i64 (H : Int), .slice (some ⟨b₀, 0, none⟩) n ca], .func (.func 146) #[] #[], .agg #[.int .i64 k, .int .i64 b]] w fun e w' => e = .returned (.agg #[.int .i64 (W : Int), .int .i64 (H : Int), .slice (some ⟨b₀, 0, none⟩) n ca]) ∧ Ro w' b₀ (n * 4) (flatC (collF k b g)) ∧ But (fun q => q = b₀) w w' := by
  have haf0 := fun i W' h => cell_Collide (g i) k b W' (hv i h) hru
  generalize hF : collF k b g = F at *
  have hFi : ∀ i, coll k b (g i) = F i := fun i => by rw [← hF]; rfl
  have HA := hid haf0; have HM := hid hFi
  clear haf0 hFi hF hv hru
  have hbl := R.lt
  have X0 := ((Bx.new w #[.int .i64 (W : Int), .int .i64 (H : Int), .slice (some ⟨b₀, 0, none⟩) n ca] 131).alloc (.cells #[.int .i64 k, .int .i64 b] 73)).alloc (.cells #[.int .i64 0, .int .i64 0, .slice none 0 0] 131)
  have X1 := (Bx.new (w.alloc (.cells #[.int .i64 (W : Int), .int .i64 (H : Int), .slice (some ⟨b₀, 0, none⟩) n ca] 131)) #[.int .i64 k, .int .i64 b] 73).alloc (.cells #[.int .i64 0, .int .i64 0, .slice none 0 0] 131)
  have X2 := Bx.new ((w.alloc (.cells #[.int .i64 (W : Int), .int .i64 (H : Int), .slice (some ⟨b₀, 0, none⟩) n ca] 131)).alloc (.cells #[.int .i64 k, .int .i64 b] 73)) #[.int .i64 0, .int .i64 0, .slice none 0 0] 131
  simp only [World.size_alloc] at X1 X2
  have hB0 : Below w.heap.size w (((w.alloc (.cells #[.int .i64 (W : Int), .int .i64 (H : Int), .slice (some ⟨b₀, 0, none⟩) n ca] 131)).alloc (.cells #[.int .i64 k, .int .i64 b] 73)).alloc (.cells #[.int .i64 0, .int .i64 0, .slice none 0 0] 131)) := by (repeat' (first | with_reducible assumption | with_reducible exact Below.refl _ _ | with_reducible refine Below.drew ?_ | with_reducible refine below_drewN ?_ _ | with_reducible refine balloc ?_ _ | with_reducible refine bset ?_ ?_ _ | with_reducible refine Below.setCell ?_ ?_ _ | with_reducible refine Below.alloc ?_ ?_ _ | omega | (simp; done) | (simp; omega)))
  go_enter Try.func194, Try.ntmps194
  go_wp2_with fail
  generalize (((w.alloc (.cells #[.int .i64 (W : Int), .int .i64 (H : Int), .slice (some ⟨b₀, 0, none⟩) n ca] 131)).alloc (.cells #[.int .i64 k, .int .i64 b] 73)).alloc (.cells #[.int .i64 0, .int .i64 0, .slice none 0 0] 131)) = W0 at X0 X1 X2 hB0 ⊢
  have z0 := X0.lt
  have z1 := X1.lt
  have z2 := X2.lt
  have x00 := X0.at_ 2 rfl
  have hU : But (fun q => q = b₀) w W0 := but_below hB0 (Nat.le_refl _)
  replace R := R.below hB0
  rw [← ovC_zero F g] at R
  go_wp2_with fail
  clear x00 hB0 z0 z1 z2
  go_loopw [13] (fun s13 wr => ∃ i : Nat, i ≤ n ∧ s13 = .int .i64 i ∧ Bx wr w.heap.size #[.int .i64 (W : Int), .int .i64 (H : Int), .slice (some ⟨b₀, 0, none⟩) n ca] ∧ Bx wr (w.heap.size + 1) #[.int .i64 k, .int .i64 b] ∧ Bx wr (w.heap.size + 1 + 1) #[.int .i64 0, .int .i64 0, .slice none 0 0] ∧ Ro wr b₀ (n * 4) (flatC (ovC F g i)) ∧ But (fun q => q = b₀) w wr) (fun s13 _ => n - (intOf s13).toNat)
  case atStart => exact ⟨0, Nat.zero_le _, rfl, X0, X1, X2, R, hU⟩
  case round =>
    clear X0 X1 X2 R hU
    obtain ⟨i, hi, rfl, X0, X1, X2, R, hU⟩ := hrel
    by_cases hlt : i < n
    · have c4 := R.scell hlt
      rw [ovC_at] at c4
      obtain ⟨c0, c1, c2, c3⟩ := c4
      have lb := R.lt
      have hMi := HM.out i
      have haf := fun W' => HA.out i W' hlt
      rw [hMi] at haf
      clear hMi
      have l0 := X0.lt; have l1 := X1.lt; have l2 := X2.lt
      obtain ⟨wo, rfl⟩ : ∃ wo : World, wo = wr := ⟨_, rfl⟩
      go_upto_region 4 with (fail)
      have X3 := Bx.new wo #[.int .i64 (g i).e, .int .i64 (g i).n, .int .i64 (g i).w, .int .i64 (g i).s] 31
      replace X0 := X0.alloc (.cells #[.int .i64 (g i).e, .int .i64 (g i).n, .int .i64 (g i).w, .int .i64 (g i).s] 31)
      replace X1 := X1.alloc (.cells #[.int .i64 (g i).e, .int .i64 (g i).n, .int .i64 (g i).w, .int .i64 (g i).s] 31)
      replace X2 := X2.alloc (.cells #[.int .i64 (g i).e, .int .i64 (g i).n, .int .i64 (g i).w, .int .i64 (g i).s] 31)
      replace R := R.alloc (.cells #[.int .i64 (g i).e, .int .i64 (g i).n, .int .i64 (g i).w, .int .i64 (g i).s] 31)
      replace hU := hU.alloc (.cells #[.int .i64 (g i).e, .int .i64 (g i).n, .int .i64 (g i).w, .int .i64 (g i).s] 31)
      clear c0 c1 c2 c3
      generalize wo.alloc (.cells #[.int .i64 (g i).e, .int .i64 (g i).n, .int .i64 (g i).w, .int .i64 (g i).s] 31) = wd at *
      have lr := R.lt
      have c4 := R.scell hlt
      rw [ovC_at] at c4
      obtain ⟨c0, c1, c2, c3⟩ := c4
      have rf := R.free
      have r0 : ∀ Y, Below wd.heap.size wd Y → Y.cell? ⟨w.heap.size, 2, none⟩ = some (.slice (some ⟨b₀, 0, none⟩) n ca) := fun Y h => (X0.below h).at_ 2 rfl
      have r1 : ∀ Y, Below wd.heap.size wd Y → Y.cell? ⟨w.heap.size + 1, 0, none⟩ = some (.int .i64 k) := fun Y h => (X1.below h).at_ 0 rfl
      have r2 : ∀ Y, Below wd.heap.size wd Y → Y.cell? ⟨w.heap.size + 1, 1, none⟩ = some (.int .i64 b) := fun Y h => (X1.below h).at_ 1 rfl
      have u4 : ∀ Y, Below wd.heap.size wd Y → Y.cell? ⟨wo.heap.size, 0, none⟩ = some (.int .i64 (g i).e) := fun Y h => (X3.below h).at_ 0 rfl
      have u5 : ∀ Y, Below wd.heap.size wd Y → Y.cell? ⟨wo.heap.size, 1, none⟩ = some (.int .i64 (g i).n) := fun Y h => (X3.below h).at_ 1 rfl
      have u6 : ∀ Y, Below wd.heap.size wd Y → Y.cell? ⟨wo.heap.size, 2, none⟩ = some (.int .i64 (g i).w) := fun Y h => (X3.below h).at_ 2 rfl
      have u7 : ∀ Y, Below wd.heap.size wd Y → Y.cell? ⟨wo.heap.size, 3, none⟩ = some (.int .i64 (g i).s) := fun Y h => (X3.below h).at_ 3 rfl
      have q0 : ∀ Y, Below wd.heap.size wd Y → Y.cell? ⟨b₀, i * 4, none⟩ = some (.int .i64 (g i).e) := fun Y h => (bcell h _ _ lr).trans c0
      have q1 : ∀ Y, Below wd.heap.size wd Y → Y.cell? ⟨b₀, i * 4 + 1, none⟩ = some (.int .i64 (g i).n) := fun Y h => (bcell h _ _ lr).trans c1
      have q2 : ∀ Y, Below wd.heap.size wd Y → Y.cell? ⟨b₀, i * 4 + 2, none⟩ = some (.int .i64 (g i).w) := fun Y h => (bcell h _ _ lr).trans c2
      have q3 : ∀ Y, Below wd.heap.size wd Y → Y.cell? ⟨b₀, i * 4 + 3, none⟩ = some (.int .i64 (g i).s) := fun Y h => (bcell h _ _ lr).trans c3
      have qf : ∀ Y, Below wd.heap.size wd Y → ∀ j, Y.frozen? ⟨b₀, j, none⟩ = false := fun Y h j => (bfrozen h _ _ lr).trans (rf j)
      clear c0 c1 c2 c3 rf
      refine wp_region_S (fun Y => Below wd.heap.size wd Y) 12 (by kernel_rfl) ?_
      refine anyS_take (i := 0) rfl (by kernel_rfl) (fun _ _ _ h => h) (Or.inl ⟨by rfl, fun Y hYb => (by (try dsimp only at hYb); go_simp; rfl)⟩) (by repeat' (first | with_reducible assumption | with_reducible exact Below.refl _ _ | with_reducible refine Below.drew ?_ | with_reducible refine below_drewN ?_ _)) ?_
      refine anyS_take (i := 1) rfl (by kernel_rfl) (fun _ _ _ h => h) (Or.inl ⟨by rfl, fun Y hYb => (by (try dsimp only at hYb); go_simp; rfl)⟩) (by repeat' (first | with_reducible assumption | with_reducible exact Below.refl _ _ | with_reducible refine Below.drew ?_ | with_reducible refine below_drewN ?_ _)) ?_
      refine anyS_take (i := 2) rfl (by kernel_rfl) (fun _ _ _ h => h) (Or.inl ⟨by rfl, fun Y hYb => (by (try dsimp only at hYb); go_simp; rfl)⟩) (by repeat' (first | with_reducible assumption | with_reducible exact Below.refl _ _ | with_reducible refine Below.drew ?_ | with_reducible refine below_drewN ?_ _)) ?_
      refine anyS_take (i := 3) rfl (by kernel_rfl) (fun _ _ _ h => h) (Or.inl ⟨by rfl, fun Y hYb => (by (try dsimp only at hYb); go_simp; rfl)⟩) (by repeat' (first | with_reducible assumption | with_reducible exact Below.refl _ _ | with_reducible refine Below.drew ?_ | with_reducible refine below_drewN ?_ _)) ?_
      refine anyS_take (i := 4) rfl (by kernel_rfl) (fun _ _ _ h => h) (Or.inl ⟨by rfl, fun Y hYb => (by (try dsimp only at hYb); go_simp; rfl)⟩) (by repeat' (first | with_reducible assumption | with_reducible exact Below.refl _ _ | with_reducible refine Below.drew ?_ | with_reducible refine below_drewN ?_ _)) ?_
      refine anyS_take (i := 5) rfl (by kernel_rfl) (fun _ _ _ h => h) (Or.inl ⟨by rfl, fun Y hYb => (by (try dsimp only at hYb); go_simp; rfl)⟩) (by repeat' (first | with_reducible assumption | with_reducible exact Below.refl _ _ | with_reducible refine Below.drew ?_ | with_reducible refine below_drewN ?_ _)) ?_
      refine anyS_take (i := 6) rfl (by kernel_rfl) (fun _ _ _ h => h) (Or.inl ⟨by rfl, fun Y hYb => (by (try dsimp only at hYb); go_simp; rfl)⟩) (by repeat' (first | with_reducible assumption | with_reducible exact Below.refl _ _ | with_reducible refine Below.drew ?_ | with_reducible refine below_drewN ?_ _)) ?_
      refine anyS_one (i := 7) (by kernel_rfl) rfl (by rfl) (fun K hK => ?_)
      go_simp
      refine (haf _).mono ?_
      rintro e w2 ⟨rfl, hb2⟩
      dsimp only
      have hS2 : Below wd.heap.size wd w2 := bvia (Below.refl _ wd).drew hb2
      refine hK _ _ (fun _ _ => hS2) ?_
      clear hK K hb2
      have y0 := q0 _ hS2; have y1 := q1 _ hS2; have y2 := q2 _ hS2; have y3 := q3 _ hS2; have yf := qf _ hS2
      refine anyS_take (i := 8) rfl (by kernel_rfl) (fun _ _ _ h => h) (Or.inl ⟨by rfl, fun Y hYb => (by (try dsimp only at hYb); go_simp; rfl)⟩) (by repeat' (first | with_reducible assumption | with_reducible exact Below.refl _ _ | with_reducible refine Below.drew ?_ | with_reducible refine below_drewN ?_ _)) ?_
      refine anyS_take (i := 9) rfl (by kernel_rfl) (fun _ _ _ h => h) (Or.inl ⟨by rfl, fun Y hYb => (by (try dsimp only at hYb); go_simp; rfl)⟩) (by repeat' (first | with_reducible assumption | with_reducible exact Below.refl _ _ | with_reducible refine Below.drew ?_ | with_reducible refine below_drewN ?_ _)) ?_
      refine anyS_pure (i := 10) rfl (by kernel_rfl) (fun _ _ _ h => h) (Or.inl ⟨by rfl, fun Y hYb => (by clear hYb; go_simp; rfl)⟩) ?_
      refine anyS_take (i := 11) rfl (by kernel_rfl) (fun _ _ _ h => h) (Or.inl ⟨by rfl, fun Y hYb => (by (try dsimp only at hYb); go_simp; rfl)⟩) (by repeat' (first | with_reducible assumption | with_reducible exact Below.refl _ _ | with_reducible refine Below.drew ?_ | with_reducible refine below_drewN ?_ _)) ?_
      refine anyS_one (i := 12) (by kernel_rfl) rfl (by rfl) (fun K hK => ?_)
      go_simp
      refine hK _ _ (fun h _ => absurd h (by decide)) ?_
      clear hK K
      refine anyS_done (by kernel_rfl) ?_ _
      have hw2 := hS2.size
      replace X0 := X0.below hS2; replace X1 := X1.below hS2; replace X2 := X2.below hS2; replace R := R.below hS2
      replace hU := hU.trans (but_below hS2 (Nat.le_refl _))
      clear X3 r0 r1 r2 u4 u5 u6 u7 q0 q1 q2 q3 qf y0 y1 y2 y3 yf
      have n0 : b₀ ≠ w.heap.size := by omega
      have n1 : b₀ ≠ w.heap.size + 1 := by omega
      have n2 : b₀ ≠ w.heap.size + 1 + 1 := by omega
      go_wp2_with fail
      go_roundw
      case rel => exact ⟨i + 1, by omega, by go_num, (((X0.far (p := ⟨b₀, i * 4, none⟩) n0 _).far (p := ⟨b₀, i * 4 + 1, none⟩) n0 _).far (p := ⟨b₀, i * 4 + 2, none⟩) n0 _).far (p := ⟨b₀, i * 4 + 3, none⟩) n0 _, (((X1.far (p := ⟨b₀, i * 4, none⟩) n1 _).far (p := ⟨b₀, i * 4 + 1, none⟩) n1 _).far (p := ⟨b₀, i * 4 + 2, none⟩) n1 _).far (p := ⟨b₀, i * 4 + 3, none⟩) n1 _, (((X2.far (p := ⟨b₀, i * 4, none⟩) n2 _).far (p := ⟨b₀, i * 4 + 1, none⟩) n2 _).far (p := ⟨b₀, i * 4 + 2, none⟩) n2 _).far (p := ⟨b₀, i * 4 + 3, none⟩) n2 _, by rw [ovC_succ]; exact R.setC i (F i), by (repeat' (first | with_reducible assumption | with_reducible exact But.refl _ _ | with_reducible refine But.drew ?_ | with_reducible refine But.drewN ?_ _ | (with_reducible refine But.set_ ?_ (by dsimp only) _) | with_reducible refine But.alloc ?_ _))⟩
      case measure => simp [intOf]; omega
    · obtain rfl : i = n := (by omega)
      have HR := hid (R.congr (flatC_congr (fun j hj => ovC_lt hj)))
      clear R
      have x20 := X2.at_ 0 rfl; have x21 := X2.at_ 1 rfl; have x22 := X2.at_ 2 rfl; have x2f := X2.free; have x2l := X2.lt
      have x00 := X0.at_ 0 rfl; have x01 := X0.at_ 1 rfl; have x02 := X0.at_ 2 rfl
      go_wp2_with fail
      refine bodyPost_ret (v := .agg #[.int .i64 (W : Int), .int .i64 (H : Int), .slice (some ⟨b₀, 0, none⟩) i ca]) (by simp [results, Try.results194, go_sem, x20, x21, x22]) rfl ⟨rfl, ?_, ?_⟩
      · have R := HR.out
        (repeat' (first | with_reducible assumption | with_reducible refine Ro.drew ?_ | with_reducible refine Ro.drewN ?_ _ | with_reducible refine Ro.alloc ?_ _ | with_reducible refine Ro.far ?_ ?_ _ | (show _ ≠ _; dsimp only; omega)))
      · exact ((hU.setN (p := ⟨w.heap.size + 1 + 1, 0, none⟩) (by dsimp only; omega) _).setN (p := ⟨w.heap.size + 1 + 1, 1, none⟩) (by dsimp only; omega) _).setN (p := ⟨w.heap.size + 1 + 1, 2, none⟩) (by dsimp only; omega) _
/-- the machine in the box p has another grid; what else was, is as it was, but for the cells that it had -/
def MacPost (p b W H n : Nat) (v3 : Value) (G : Nat → C4) (w : World) (e : Ending) (w' : World) : Prop :=
  ∃ b' cap, (∃ v, e = .returned v) ∧ Bx w' p #[.int .i64 (W : Int), .int .i64 (H : Int), .slice (some ⟨b', 0, none⟩) n cap, v3] ∧ Ro w' b' (n * 4) (flatC G) ∧ w.heap.size ≤ b' ∧ n ≤ cap ∧ But (fun q => q = p ∨ q = b) w w'
/-- a step of a grid without walls -/
def stepG (W H : Nat) (r : Int × Int) (g : Nat → C4) : Nat → C4 := stepW W H r (fun _ => 0) g
set_option maxRecDepth 100000 in
set_option maxHeartbeats 4000000 in
theorem machine_forth (W H p t b ca : Nat) (ar : Option Addr) (nr cr : Nat) (g : Nat → C4) (r : Nat → Int × Int) (w₁ w : World) (h1 : 1 ≤ W ∧ W ≤ 64) (h2 : 1 ≤ H ∧ H ≤ 64) (hr0 : 0 < nr) (hr8 : nr ≤ 8) (ht : t ≤ 1000000) (hB : Below w₁.heap.size w₁ w) (hp : w₁.heap.size ≤ p) (hb : w₁.heap.size ≤ b) (hpb : p ≠ b) (SR : Sr w₁ ar nr r)
    (X : Bx w p #[.int .i64 (W : Int), .int .i64 (H : Int), .slice (some ⟨b, 0, none⟩) (W * H) ca, .slice ar nr cr]) (R : Ro w b (W * H * 4) (flatC g)) (hv : okG (W * H) g) (hru : ∀ s, ruleOk (rlAt nr r s).1 (rlAt nr r s).2) : Calls Try.prog 178 #[.pointer (some ⟨p, 0, none⟩), .int .i64 (t : Int)] w (MacPost p b W H (W * H) (.slice ar nr cr) (stepG W H (rlAt nr r t) g) w) := by
  have hWH : W * H ≤ 4096 := Nat.mul_le_mul h1.2 h2.2
  have hM : okG (W * H) (metF (rlAt nr r t).1 (rlAt nr r t).2 (fun _ => 0) g) := ⟨metF_valid hv.1, by rw [metF_mass]; exact hv.2⟩
  have hstr := fun W' S' => grid_streamed true W H b ca (metF (rlAt nr r t).1 (rlAt nr r t).2 (fun _ => 0) g) W' h1 h2 S' hM.1
  have hcol := fun W' R' => grid_collidedC W H (W * H) b ca (rlAt nr r t).1 (rlAt nr r t).2 g W' hWH hv.1 (hru t) R'
  rw [collF_met] at hcol
  have e : strG true W H (metF (rlAt nr r t).1 (rlAt nr r t).2 (fun _ => 0) g) = stepG W H (rlAt nr r t) g := rfl
  have e1 : sgn true = 1 := rfl
  rw [e, e1] at hstr
  clear e e1 hM hv hru
  have hlt : t % nr < nr := Nat.mod_lt _ hr0
  obtain ⟨br, orr, rfl, hbr, d0, d1⟩ := SR (t % nr) hlt
  have htm : ((t : Int)).tmod (nr : Int) = ((t % nr : Nat) : Int) := by rw [Int.tmod_eq_emod_of_nonneg (by omega)]; simp
  have hrl : rlAt nr r t = r (t % nr) := rfl
  generalize stepG W H (rlAt nr r t) g = G at *
  rw [hrl] at hcol hstr
  clear hrl
  generalize metF (r (t % nr)).1 (r (t % nr)).2 (fun _ => 0) g = M at *
  generalize t % nr = j at *
  generalize r j = q at *
  obtain ⟨k, rb⟩ := q
  obtain ⟨u1, u2⟩ := h1; obtain ⟨u3, u4⟩ := h2
  generalize W * H = n at *
  have hn0 : ¬ (nr : Int) = 0 := by omega
  have hn1 : ¬ nr = 0 := by omega
  have zp := X.lt; have zb := R.lt
  have hbw : br < w.heap.size := by have := hB.size; omega
  have hbb : br ≠ b := by omega
  have hbp : br ≠ p := by omega
  have d0' := (bcell hB _ _ hbr).trans d0; have d1' := (bcell hB _ _ hbr).trans d1
  have r0 : ∀ Y, But (fun q => q = b) w Y → Y.cell? ⟨p, 0, none⟩ = some (.int .i64 (W : Int)) := fun Y h => (X.but h hpb).at_ 0 rfl
  have r1 : ∀ Y, But (fun q => q = b) w Y → Y.cell? ⟨p, 1, none⟩ = some (.int .i64 (H : Int)) := fun Y h => (X.but h hpb).at_ 1 rfl
  have r2 : ∀ Y, But (fun q => q = b) w Y → Y.cell? ⟨p, 2, none⟩ = some (.slice (some ⟨b, 0, none⟩) n ca) := fun Y h => (X.but h hpb).at_ 2 rfl
  have r3 : ∀ Y, But (fun q => q = b) w Y → Y.cell? ⟨p, 3, none⟩ = some (.slice (some ⟨br, orr, none⟩) nr cr) := fun Y h => (X.but h hpb).at_ 3 rfl
  have r4 : ∀ Y, But (fun q => q = b) w Y → Y.cell? ⟨br, orr + j * 2, none⟩ = some (.int .i64 k) := fun Y h => (World.cell?_of_block (h.block br hbw hbb)).trans d0'
  have r5 : ∀ Y, But (fun q => q = b) w Y → Y.cell? ⟨br, orr + j * 2 + 1, none⟩ = some (.int .i64 rb) := fun Y h => (World.cell?_of_block (h.block br hbw hbb)).trans d1'
  clear d0 d1 d0' d1'
  go_enter Try.func178, Try.ntmps178
  go_upto_region 0 with (fail)
  refine wp_region_S (fun Y => But (fun q => q = b) w Y) 22 (by kernel_rfl) ?_
  refine anyS_take (i := 0) rfl (by kernel_rfl) (fun _ _ _ h => h) (Or.inl ⟨by rfl, fun Y hYb => (by (try dsimp only at hYb); go_simp; rfl)⟩) (by repeat' (first | with_reducible assumption | with_reducible exact But.refl _ _ | with_reducible refine But.drew ?_ | with_reducible refine But.drewN ?_ _)) ?_
  refine anyS_take (i := 1) rfl (by kernel_rfl) (fun _ _ _ h => h) (Or.inl ⟨by rfl, fun Y hYb => (by (try dsimp only at hYb); go_simp; rfl)⟩) (by repeat' (first | with_reducible assumption | with_reducible exact But.refl _ _ | with_reducible refine But.drew ?_ | with_reducible refine But.drewN ?_ _)) ?_
  refine anyS_take (i := 2) rfl (by kernel_rfl) (fun _ _ _ h => h) (Or.inl ⟨by rfl, fun Y hYb => (by (try dsimp only at hYb); go_simp; rfl)⟩) (by repeat' (first | with_reducible assumption | with_reducible exact But.refl _ _ | with_reducible refine But.drew ?_ | with_reducible refine But.drewN ?_ _)) ?_
  refine anyS_take (i := 3) rfl (by kernel_rfl) (fun _ _ _ h => h) (Or.inl ⟨by rfl, fun Y hYb => (by (try dsimp only at hYb); go_simp; rfl)⟩) (by repeat' (first | with_reducible assumption | with_reducible exact But.refl _ _ | with_reducible refine But.drew ?_ | with_reducible refine But.drewN ?_ _)) ?_
  refine anyS_take (i := 4) rfl (by kernel_rfl) (fun _ _ _ h => h) (Or.inl ⟨by rfl, fun Y hYb => (by (try dsimp only at hYb); go_simp; rfl)⟩) (by repeat' (first | with_reducible assumption | with_reducible exact But.refl _ _ | with_reducible refine But.drew ?_ | with_reducible refine But.drewN ?_ _)) ?_
  refine anyS_take (i := 5) rfl (by kernel_rfl) (fun _ _ _ h => h) (Or.inl ⟨by rfl, fun Y hYb => (by (try dsimp only at hYb); go_simp; rfl)⟩) (by repeat' (first | with_reducible assumption | with_reducible exact But.refl _ _ | with_reducible refine But.drew ?_ | with_reducible refine But.drewN ?_ _)) ?_
  refine anyS_take (i := 6) rfl (by kernel_rfl) (fun _ _ _ h => h) (Or.inl ⟨by rfl, fun Y hYb => (by (try dsimp only at hYb); go_simp; rfl)⟩) (by repeat' (first | with_reducible assumption | with_reducible exact But.refl _ _ | with_reducible refine But.drew ?_ | with_reducible refine But.drewN ?_ _)) ?_
  refine anyS_take (i := 7) rfl (by kernel_rfl) (fun _ _ _ h => h) (Or.inl ⟨by rfl, fun Y hYb => (by (try dsimp only at hYb); go_simp; rfl)⟩) (by repeat' (first | with_reducible assumption | with_reducible exact But.refl _ _ | with_reducible refine But.drew ?_ | with_reducible refine But.drewN ?_ _)) ?_
  refine anyS_take (i := 8) rfl (by kernel_rfl) (fun _ _ _ h => h) (Or.inl ⟨by rfl, fun Y hYb => (by (try dsimp only at hYb); go_simp; rfl)⟩) (by repeat' (first | with_reducible assumption | with_reducible exact But.refl _ _ | with_reducible refine But.drew ?_ | with_reducible refine But.drewN ?_ _)) ?_
  refine anyS_take (i := 9) rfl (by kernel_rfl) (fun _ _ _ h => h) (Or.inl ⟨by rfl, fun Y hYb => (by (try dsimp only at hYb); go_simp; rfl)⟩) (by repeat' (first | with_reducible assumption | with_reducible exact But.refl _ _ | with_reducible refine But.drew ?_ | with_reducible refine But.drewN ?_ _)) ?_
  refine anyS_take (i := 10) rfl (by kernel_rfl) (fun _ _ _ h => h) (Or.inl ⟨by rfl, fun Y hYb => (by (try dsimp only at hYb); go_simp; rfl)⟩) (by repeat' (first | with_reducible assumption | with_reducible exact But.refl _ _ | with_reducible refine But.drew ?_ | with_reducible refine But.drewN ?_ _)) ?_
  refine anyS_take (i := 11) rfl (by kernel_rfl) (fun _ _ _ h => h) (Or.inl ⟨by rfl, fun Y hYb => (by (try dsimp only at hYb); go_simp; rfl)⟩) (by repeat' (first | with_reducible assumption | with_reducible exact But.refl _ _ | with_reducible refine But.drew ?_ | with_reducible refine But.drewN ?_ _)) ?_
  refine anyS_take (i := 12) rfl (by kernel_rfl) (fun _ _ _ h => h) (Or.inl ⟨by rfl, fun Y hYb => (by (try dsimp only at hYb); go_simp; rfl)⟩) (by repeat' (first | with_reducible assumption | with_reducible exact But.refl _ _ | with_reducible refine But.drew ?_ | with_reducible refine But.drewN ?_ _)) ?_
  refine anyS_take (i := 13) rfl (by kernel_rfl) (fun _ _ _ h => h) (Or.inl ⟨by rfl, fun Y hYb => (by (try dsimp only at hYb); go_simp; rfl)⟩) (by repeat' (first | with_reducible assumption | with_reducible exact But.refl _ _ | with_reducible refine But.drew ?_ | with_reducible refine But.drewN ?_ _)) ?_
  refine anyS_take (i := 14) rfl (by kernel_rfl) (fun _ _ _ h => h) (Or.inl ⟨by rfl, fun Y hYb => (by (try dsimp only at hYb); go_simp; rfl)⟩) (by repeat' (first | with_reducible assumption | with_reducible exact But.refl _ _ | with_reducible refine But.drew ?_ | with_reducible refine But.drewN ?_ _)) ?_
  refine anyS_take (i := 15) rfl (by kernel_rfl) (fun _ _ _ h => h) (Or.inl ⟨by rfl, fun Y hYb => (by (try dsimp only at hYb); go_simp; rfl)⟩) (by repeat' (first | with_reducible assumption | with_reducible exact But.refl _ _ | with_reducible refine But.drew ?_ | with_reducible refine But.drewN ?_ _)) ?_
  refine anyS_take (i := 16) rfl (by kernel_rfl) (fun _ _ _ h => h) (Or.inl ⟨by rfl, fun Y hYb => (by (try dsimp only at hYb); go_simp; rfl)⟩) (by repeat' (first | with_reducible assumption | with_reducible exact But.refl _ _ | with_reducible refine But.drew ?_ | with_reducible refine But.drewN ?_ _)) ?_
  refine anyS_take (i := 17) rfl (by kernel_rfl) (fun _ _ _ h => h) (Or.inl ⟨by rfl, fun Y hYb => (by (try dsimp only at hYb); go_simp; rfl)⟩) (by repeat' (first | with_reducible assumption | with_reducible exact But.refl _ _ | with_reducible refine But.drew ?_ | with_reducible refine But.drewN ?_ _)) ?_
  refine anyS_one (i := 18) (by kernel_rfl) rfl (by rfl) (fun K hK => ?_)
  go_simp
  refine (hcol _ R.drew).mono ?_
  rintro e w2 ⟨rfl, R2, hU2⟩
  dsimp only
  have hS2 : But (fun q => q = b) w w2 := ((But.refl _ w).drew).trans hU2
  refine hK _ _ (fun _ _ => hS2) ?_
  clear hK K hU2
  refine anyS_one (i := 19) (by kernel_rfl) rfl (by rfl) (fun K hK => ?_)
  go_simp
  refine (hstr _ R2.sc).mono ?_
  rintro e w3 ⟨b', cap, rfl, hb', R', hcap, hb3⟩
  dsimp only
  have hS3 : But (fun q => q = b) w w3 := hS2.trans (but_below hb3 (Nat.le_refl _))
  have hs2 := hS2.size
  refine hK _ _ (fun _ _ => hS3) ?_
  clear hK K hb3 R2
  replace X := X.but hS3 hpb
  have x0 := X.at_ 0 rfl; have x1 := X.at_ 1 rfl; have x2 := X.at_ 2 rfl; have xf := X.free; have xz := X.lt
  refine anyS_pure (i := 20) rfl (by kernel_rfl) (fun _ _ _ h => h) (Or.inl ⟨by rfl, fun Y hYb => (by clear hYb; go_simp; rfl)⟩) ?_
  refine anyS_take (i := 21) rfl (by kernel_rfl) (fun _ _ _ h => h) (Or.inl ⟨by rfl, fun Y hYb => (by (try dsimp only at hYb); go_simp; rfl)⟩) (by repeat' (first | with_reducible assumption | with_reducible exact But.refl _ _ | with_reducible refine But.drew ?_ | with_reducible refine But.drewN ?_ _)) ?_
  refine anyS_one (i := 22) (by kernel_rfl) rfl (by rfl) (fun K hK => ?_)
  go_simp
  refine hK _ _ (fun h _ => absurd h (by decide)) ?_
  clear hK K
  refine anyS_done (by kernel_rfl) ?_ _
  go_wp2_with fail
  refine bodyPost_ret (results_none rfl _ _ _) rfl ?_
  refine ⟨b', cap, ⟨_, rfl⟩, ((X.set_ 0 (by simp) (.int .i64 (W : Int))).set_ 1 (by simp) (.int .i64 (H : Int))).set_ 2 (by simp) (.slice (some ⟨b', 0, none⟩) n cap), by (repeat' (first | with_reducible assumption | with_reducible refine Ro.drew ?_ | with_reducible refine Ro.drewN ?_ _ | with_reducible refine Ro.alloc ?_ _ | with_reducible refine Ro.far ?_ ?_ _ | (show _ ≠ _; dsimp only; omega))), by omega, hcap, ?_⟩
  exact ((((hS3.mono (fun _ _ h => .inr h) : But (fun q => q = p ∨ q = b) w w3)).set_ (.inl rfl) _).set_ (.inl rfl) _).set_ (.inl rfl) _
end Go.Proofs.Ytnnaegnkkpknpaa
