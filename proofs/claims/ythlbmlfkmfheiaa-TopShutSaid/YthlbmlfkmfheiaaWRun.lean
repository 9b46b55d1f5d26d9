/- Walks: the program's steps of a tunnel: copied, forth, back, Run, Undo, Step, Back. -/
import Derived.Test.YthlbmlfkmfheiaaWMet
import Derived.Test.YthlbmlfkmfheiaaRunErr
namespace Go.Proofs.Ythlbmlfkmfheiaa
open Go Go.RowKit
set_option linter.unusedVariables false
set_option maxRecDepth 100000 in
set_option maxHeartbeats 1000000 in
theorem wall_copied (W H : Nat) (a : Option Addr) (n ca : Nat) (g : Nat → C4) (w : World) (hn : n ≤ 100000) (h0 : 0 < n) (S : Sc w a n g) : Calls Try.prog 21 #[.agg #[.int .i64 (W : Int), .int .i64 (H : Int), .slice a n ca]] w (GridRow W H n g w) := by
  have hc := fun W' S' => clone_cells a n ca g W' hn h0 S'
  have X0 := (Bx.new w #[.int .i64 (W : Int), .int .i64 (H : Int), .slice a n ca] 24).alloc (.cells #[.int .i64 0, .int .i64 0, .slice none 0 0] 24)
  have X1 := Bx.new (w.alloc (.cells #[.int .i64 (W : Int), .int .i64 (H : Int), .slice a n ca] 24)) #[.int .i64 0, .int .i64 0, .slice none 0 0] 24
  simp only [World.size_alloc] at X1
  have hB0 : Below w.heap.size w ((w.alloc (.cells #[.int .i64 (W : Int), .int .i64 (H : Int), .slice a n ca] 24)).alloc (.cells #[.int .i64 0, .int .i64 0, .slice none 0 0] 24)) := by (repeat' (first | with_reducible assumption | with_reducible exact Below.refl _ _ | with_reducible refine Below.drew ?_ | with_reducible refine below_drewN ?_ _ | with_reducible refine balloc ?_ _ | with_reducible refine bset ?_ ?_ _ | with_reducible refine Below.setCell ?_ ?_ _ | with_reducible refine Below.alloc ?_ ?_ _ | omega | (simp; done) | (simp; omega)))
  go_enter Try.func21, Try.ntmps21
  go_wp2_with fail
  generalize ((w.alloc (.cells #[.int .i64 (W : Int), .int .i64 (H : Int), .slice a n ca] 24)).alloc (.cells #[.int .i64 0, .int .i64 0, .slice none 0 0] 24)) = W0 at X0 X1 hB0 ⊢
  have z0 := X0.lt
  have z1 := X1.lt
  refine (hc _ (S.below hB0)).mono ?_
  rintro e w1 ⟨b, cap, rfl, hb, R, hcap, hb1⟩
  have hB := hB0
  clear hB0 hc
  replace X0 := X0.below hb1
  replace X1 := X1.below hb1
  replace hB := bvia hB hb1
  clear hb1
  have X0_0 := X0.at_ 0 rfl
  have X0_1 := X0.at_ 1 rfl
  have X0_2 := X0.at_ 2 rfl
  have X0f := X0.free
  have X0z := X0.lt
  have X1_0 := X1.at_ 0 rfl
  have X1_1 := X1.at_ 1 rfl
  have X1_2 := X1.at_ 2 rfl
  have X1f := X1.free
  have X1z := X1.lt
  go_wp2_with fail
  refine bodyPost_ret (v := .agg #[.int .i64 (W : Int), .int .i64 (H : Int), .slice (some ⟨b, 0, none⟩) n cap]) (by simp [results, Try.results21, go_sem, X1_0, X1_1, X1_2]) rfl ⟨b, cap, rfl, by omega, by (repeat' (first | with_reducible assumption | with_reducible refine Ro.drew ?_ | with_reducible refine Ro.drewN ?_ _ | with_reducible refine Ro.alloc ?_ _ | with_reducible refine Ro.far ?_ ?_ _ | (show _ ≠ _; dsimp only; omega))), hcap, by (repeat' (first | with_reducible assumption | with_reducible exact Below.refl _ _ | with_reducible refine Below.drew ?_ | with_reducible refine below_drewN ?_ _ | with_reducible refine balloc ?_ _ | with_reducible refine bset ?_ ?_ _ | with_reducible refine Below.setCell ?_ ?_ _ | with_reducible refine Below.alloc ?_ ?_ _ | omega | (simp; done) | (simp; omega)))⟩
/-- the tunnel in the box p has another grid; else all is as it was -/
def TunPost (p W H n : Nat) (v3 v4 v5 : Value) (G : Nat → C4) (w : World) (e : Ending) (w' : World) : Prop :=
  ∃ b cap, (∃ v, e = .returned v) ∧ Bx w' p #[.int .i64 (W : Int), .int .i64 (H : Int), .slice (some ⟨b, 0, none⟩) n cap, v3, v4, v5] ∧ Ro w' b (n * 4) (flatC G) ∧ w.heap.size ≤ b ∧ But (fun q => q = p) w w'
theorem below_but {w X Y : World} {p : Nat} (h : Below w.heap.size w X) (hb : But (fun q => q = p) X Y) (hp : w.heap.size ≤ p) : Below w.heap.size w Y :=
  h.trans ⟨hb.os, hb.tape, hb.output, hb.size, fun q hq => hb.block q (by have := h.size; omega) (by omega)⟩
set_option maxRecDepth 100000 in
set_option maxHeartbeats 2000000 in
theorem tunnel_forth (W H p t : Nat) (a ak ab ar : Option Addr) (ca ck nb cb nr cr : Nat) (g : Nat → C4) (K : Nat → Int) (r : Nat → Int × Int) (w₀ w : World) (h1 : 1 ≤ W ∧ W ≤ 64) (h2 : 1 ≤ H ∧ H ≤ 64) (hm : W * H ≤ 1024) (hr0 : 0 < nr) (hr8 : nr ≤ 8) (ht : t ≤ 1000000) (hB : Below w₀.heap.size w₀ w) (hp : w₀.heap.size ≤ p) (S : Sc w a (W * H) g) (SK : Sl w₀ ak (W * H) K) (SR : Sr w₀ ar nr r) (X : Bx w p #[.int .i64 (W : Int), .int .i64 (H : Int), .slice a (W * H) ca, .slice ak (W * H) ck, .slice ab nb cb, .slice ar nr cr])
    (hK : ∀ i, i < W * H → 0 ≤ K i ∧ K i ≤ 3) (hv : okG (W * H) g) (hru : ∀ s, ruleOk (rlAt nr r s).1 (rlAt nr r s).2) : Calls Try.prog 22 #[.pointer (some ⟨p, 0, none⟩), .int .i64 (t : Int)] w (TunPost p W H (W * H) (.slice ak (W * H) ck) (.slice ab nb cb) (.slice ar nr cr) (stepW W H (rlAt nr r t) K g) w) := by
  have hn0 : 0 < W * H := Nat.mul_pos (by omega) (by omega)
  have hmet := wall_metC W H p t a ak ab ar (W * H) ca ck nb cb nr cr g K r w (by omega) hn0 hr0 hr8 ht S (SK.below hB) (SR.below hB) X hK hv.1 (hru t)
  have hM : okG (W * H) (metF (rlAt nr r t).1 (rlAt nr r t).2 K g) := ⟨metF_valid hv.1, by rw [metF_mass]; exact hv.2⟩
  have hstr := fun a' c' W' S' => grid_Stream W H a' c' (metF (rlAt nr r t).1 (rlAt nr r t).2 K g) W' h1 h2 hm S' hM
  have e : flow W H (metF (rlAt nr r t).1 (rlAt nr r t).2 K g) = stepW W H (rlAt nr r t) K g := rfl
  rw [e] at hstr
  clear e hM hv hru hK S SK SR h1 h2
  generalize stepW W H (rlAt nr r t) K g = G at *
  generalize metF (rlAt nr r t).1 (rlAt nr r t).2 K g = M at *
  generalize W * H = n at *
  have zp := X.lt
  go_enter Try.func22, Try.ntmps22
  go_wp2_with fail
  refine hmet.mono ?_
  rintro e w1 ⟨b1, c1, rfl, hb1', R1, hc1, hb1⟩
  have hs1 := hb1.size
  go_wp2_with fail
  refine (hstr _ _ _ R1.sc).mono ?_
  rintro e w2 ⟨b, cap, rfl, hb', R, hcap, hb2⟩
  have hbb := bvia hb1 hb2
  replace X := X.below hbb
  have x0 := X.at_ 0 rfl; have x1 := X.at_ 1 rfl; have x2 := X.at_ 2 rfl; have xf := X.free; have xz := X.lt
  clear R1
  go_wp2_with fail
  refine bodyPost_ret (results_none rfl _ _ _) rfl ?_
  refine ⟨b, cap, ⟨_, rfl⟩, ((X.set_ 0 (by simp) (.int .i64 (W : Int))).set_ 1 (by simp) (.int .i64 (H : Int))).set_ 2 (by simp) (.slice (some ⟨b, 0, none⟩) n cap), by (repeat' (first | with_reducible assumption | with_reducible refine Ro.drew ?_ | with_reducible refine Ro.drewN ?_ _ | with_reducible refine Ro.alloc ?_ _ | with_reducible refine Ro.far ?_ ?_ _ | (show _ ≠ _; dsimp only; omega))), by omega, ?_⟩
  exact ((((but_below hbb (Nat.le_refl _)).set_ (by dsimp only) _).set_ (by dsimp only) _).set_ (by dsimp only) _)
end Go.Proofs.Ythlbmlfkmfheiaa
