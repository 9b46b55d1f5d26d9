/- Walks: the program's run of a grid. -/
import Derived.Test.YtnnaegnkkpknpaaGRun
namespace Go.Proofs.Ytnnaegnkkpknpaa
open Go Go.RowKit
attribute [local go_sem] Oper.semAt_some
set_option linter.unusedVariables false
theorem GRun.Ro.but {C : Nat → Prop} {X Y : World} {b n : Nat} {f : Nat → Int} (h : Ro X b n f) (hb : But C X Y) (hc : ¬ C b) : Ro Y b n f := by
  have e := hb.block b h.lt hc
  refine ⟨Nat.lt_of_lt_of_le h.lt hb.size, fun i hi => ?_, fun i => ?_⟩
  · rw [World.cell?_of_block (w := X) (a := ⟨b, i, none⟩) e]; exact h.cells i hi
  · rw [World.frozen?_of_block (w := X) (a := ⟨b, i, none⟩) e]; exact h.free i
/-- the word between two rounds of the run's loop -/
def RunI (W H n p d r M : Nat) (vf vr : Value) (F : List Nat → Nat → C4) (w : World) (pre : List Nat) (C : Nat → Prop) (X : World) : Prop :=
  ∃ b cap, C = (fun q => (w.heap.size ≤ q ∧ q < M) ∨ q = b) ∧ Bx X r #[.int .i64 0, .int .i64 0, .slice none 0 0] ∧ Bx X d #[vf] ∧ Bx X p #[.int .i64 (W : Int), .int .i64 (H : Int), .slice (some ⟨b, 0, none⟩) n cap, vr] ∧ Ro X b (n * 4) (flatC (F pre)) ∧ Below w.heap.size w X ∧
    (w.heap.size ≤ r ∧ r < M ∧ w.heap.size ≤ d ∧ d < M ∧ w.heap.size ≤ p ∧ p < M ∧ w.heap.size ≤ b ∧ r ≠ b ∧ d ≠ b ∧ p ≠ b ∧ d ≠ p ∧ r ≠ p ∧ n ≤ cap ∧ M ≤ X.heap.size)
theorem runI_stab {W H n p d r M : Nat} {vf vr : Value} {F : List Nat → Nat → C4} {w : World} : Stab w.heap.size (RunI W H n p d r M vf vr F w) := by
  rintro pre C A B ⟨b, cap, rfl, h1, h2, h3, h4, h5, h6⟩ hb
  refine ⟨b, cap, rfl, h1.but hb (fun h => h.2 (.inl ⟨by omega, by omega⟩)), h2.but hb (fun h => h.2 (.inl ⟨by omega, by omega⟩)), h3.but hb (fun h => h.2 (.inl ⟨by omega, by omega⟩)), GRun.Ro.but h4 hb (fun h => h.2 (.inr rfl)), ?_, ?_⟩
  · exact h5.trans ⟨hb.os, hb.tape, hb.output, hb.size, fun q hq => hb.block q (by have := h5.size; omega) (fun h => by omega)⟩
  · have := hb.size; omega
set_option maxRecDepth 100000 in
set_option maxHeartbeats 8000000 in
theorem grid_run (W H : Nat) (a ar : Option Addr) (c nr cr gf : Nat) (lb : Array Value) (L : List Nat) (g : Nat → C4) (r : Nat → Int × Int) (w : World) (h1 : 1 ≤ W ∧ W ≤ 64) (h2 : 1 ≤ H ∧ H ≤ 64) (hr0 : 0 < nr) (hr8 : nr ≤ 8) (hL : ∀ x, x ∈ L → x ≤ 1000000)
    (S : Sc w a (W * H) g) (SR : Sr w ar nr r) (hv : okG (W * H) g) (hru : ∀ s, ruleOk (rlAt nr r s).1 (rlAt nr r s).2) (hit : Iter Try.prog gf lb encT L w) (eg : ∀ args w, (callFunc gf args).run Try.prog w = .ok (.enter gf args) w) :
    Calls Try.prog 161 #[.agg #[.int .i64 (W : Int), .int .i64 (H : Int), .slice a (W * H) c], .slice ar nr cr, .func (.func gf) #[] lb, .bool false] w (GridRow W H (W * H) (runL W H nr r g L) w) := by
  have hWH : W * H ≤ 4096 := Nat.mul_le_mul h1.2 h2.2
  have hn0 : 0 < W * H := Nat.mul_pos (by omega) (by omega)
  have hof := grid_of W H a (W * H) c g
  have hst := fun p t b ca G w' hG ht hB hp hb hpb X R => machine_forth W H p t b ca ar nr cr G r w w' h1 h2 hr0 hr8 ht hB hp hb hpb SR X R hG hru
  have hok := fun pre => runL_ok (nr := nr) (r := r) hv pre
  have hsn := fun pre s => runL_snoc W H nr r g pre s
  have hnil : runL W H nr r g [] = g := rfl
  generalize runL W H nr r g = F at *
  generalize stepG W H = SG at *
  have HSt := hid hst; have HOK := hid hok; have HSn := hid hsn; have HL := hid hL
  clear hst hok hsn hru hL hv SR
  generalize W * H = n at *
  have X0 := (Bx.new w #[.int .i64 (W : Int), .int .i64 (H : Int), .slice a n c] 24).alloc (.cells #[.int .i64 0, .int .i64 0, .slice none 0 0] 24)
  have X1 := Bx.new (w.alloc (.cells #[.int .i64 (W : Int), .int .i64 (H : Int), .slice a n c] 24)) #[.int .i64 0, .int .i64 0, .slice none 0 0] 24
  simp only [World.size_alloc] at X1
  have hB0 : Below w.heap.size w ((w.alloc (.cells #[.int .i64 (W : Int), .int .i64 (H : Int), .slice a n c] 24)).alloc (.cells #[.int .i64 0, .int .i64 0, .slice none 0 0] 24)) := by (repeat' (first | with_reducible assumption | with_reducible exact Below.refl _ _ | with_reducible refine Below.drew ?_ | with_reducible refine below_drewN ?_ _ | with_reducible refine balloc ?_ _ | with_reducible refine bset ?_ ?_ _ | with_reducible refine Below.setCell ?_ ?_ _ | with_reducible refine Below.alloc ?_ ?_ _ | omega | (simp; done) | (simp; omega)))
  refine callsIn_wide.1 (callsIn_of_wp_marks (F := Fence.wide) (n := 0) Try.func161 rfl trivial ?_ rfl)
  simp only [Try.ntmps161, List.size_toArray, List.length_cons, List.length_nil, Nat.reduceAdd, Nat.reduceSub, Array.replicate_succ, Array.replicate_zero, List.push_toArray, List.append_toArray, List.nil_append, List.cons_append]
  gi_wp2_with fail
  generalize ((w.alloc (.cells #[.int .i64 (W : Int), .int .i64 (H : Int), .slice a n c] 24)).alloc (.cells #[.int .i64 0, .int .i64 0, .slice none 0 0] 24)) = W0 at X0 X1 hB0 ⊢
  have z0 := X0.lt
  have z1 := X1.lt
  refine ⟨trivial, rfl, callsIn_wide.2 ((hof _ (by omega) hn0 (S.below hB0)).mono ?_)⟩
  rintro e w1 ⟨b, cap, rfl, hb, R, hcap, hb1⟩
  have hs0 := hB0.size
  have hB := bvia hB0 hb1
  replace X1 := X1.below hb1
  have lb1 := R.lt; have l1 := X1.lt
  have hb' : W0.heap.size ≤ b := hb
  have hz1 : w.heap.size + 1 < b := by omega
  clear X0 z0 z1 hof hb1 hB0
  gi_wp2_with fail
  have XP := (Bx.new w1 #[.int .i64 (W : Int), .int .i64 (H : Int), .slice (some ⟨b, 0, none⟩) n cap, .slice ar nr cr] 198).alloc (.cells #[.func (.func 178) #[.pointer (some ⟨w1.heap.size, 0, none⟩)] #[]] 125)
  have XD := Bx.new (w1.alloc (.cells #[.int .i64 (W : Int), .int .i64 (H : Int), .slice (some ⟨b, 0, none⟩) n cap, .slice ar nr cr] 198)) #[.func (.func 178) #[.pointer (some ⟨w1.heap.size, 0, none⟩)] #[]] 125
  simp only [World.size_alloc] at XD
  replace X1 := (X1.alloc (.cells #[.int .i64 (W : Int), .int .i64 (H : Int), .slice (some ⟨b, 0, none⟩) n cap, .slice ar nr cr] 198)).alloc (.cells #[.func (.func 178) #[.pointer (some ⟨w1.heap.size, 0, none⟩)] #[]] 125)
  replace R := (R.alloc (.cells #[.int .i64 (W : Int), .int .i64 (H : Int), .slice (some ⟨b, 0, none⟩) n cap, .slice ar nr cr] 198)).alloc (.cells #[.func (.func 178) #[.pointer (some ⟨w1.heap.size, 0, none⟩)] #[]] 125)
  have hB2 := balloc (balloc hB (.cells #[.int .i64 (W : Int), .int .i64 (H : Int), .slice (some ⟨b, 0, none⟩) n cap, .slice ar nr cr] 198)) (.cells #[.func (.func 178) #[.pointer (some ⟨w1.heap.size, 0, none⟩)] #[]] 125)
  have hs1 := hB.size
  rw [← hnil] at R
  clear hnil
  refine wp_range rfl eg hit hB2 (fun _ => rfl) (RunI W H n w1.heap.size (w1.heap.size + 1) (w.heap.size + 1) (w1.heap.size + 1 + 1) (.func (.func 178) #[.pointer (some ⟨w1.heap.size, 0, none⟩)] #[]) (.slice ar nr cr) F w) (fun _ _ _ _ => False)
    (fun q => (w.heap.size ≤ q ∧ q < w1.heap.size + 1 + 1) ∨ q = b) ?hC runI_stab (fun c => fun _ _ _ _ h => h.elim) ?h0 ?hround ?hdone ?hstop
  case hC =>
    rintro pre C X ⟨b', cap', rfl, h1, h2, h3, h4, h5, h6⟩ q hq
    have := h4.lt
    omega
  case h0 => exact ⟨b, cap, rfl, X1, XD, XP, R, hB2, by simp only [World.size_alloc]; omega⟩
  case hround =>
    clear X1 XD XP R hB2 hB lb1 l1
    rintro l pre x C X hl hl' hnl ⟨rec2, hrec2⟩ hI hX hgC hpre
    simp at hl
    unfold Round
    dsimp only [encT]
    gi_wp2_with fail
    refine ⟨Below.refl _ _, ?_⟩
    intro X₂ hb2 hs2 r2
    obtain ⟨b2, cap2, rfl, h1, h2, h3, h4, h5, h6⟩ := runI_stab pre C X X₂ hI (hb2.mono fun q _ e => ⟨by omega, by rw [e]; exact hnl⟩)
    have hxL : x ∈ L := hpre.subset (by simp)
    have hx := HL.out x hxL
    have hok := HOK.out pre
    have hstp := HSt.out _ x b2 cap2 (F pre) X₂ hok hx h5 (by omega) (by omega) (by omega) h3 h4
    rw [← HSn.out] at hstp
    have d0 := h2.at_ 0 rfl; have dz := h2.lt
    have H6 := hid h6; clear h6 hI hb2 hs2 r2 hnl
    gi_wp2_with fail
    refine ⟨trivial, rfl, callsIn_of (hstp.mono ?_)⟩
    rintro e X3 ⟨b', cap', ⟨v, rfl⟩, XP', R', hb', hcap', hbut⟩
    clear d0
    gi_wp2_with fail
    have h6 := H6.out
    have hs3 := hbut.size
    refine ⟨fun q => (w.heap.size ≤ q ∧ q < w1.heap.size + 1 + 1) ∨ q = b', hbut.mono fun q _ h => ?_, fun q h => ?_, b', cap', rfl, h1.but hbut (by omega), h2.but hbut (by omega), XP', R', ?_, by omega⟩
    · omega
    · omega
    · exact h5.trans ⟨hbut.os, hbut.tape, hbut.output, hbut.size, fun q hq => hbut.block q (by have := h5.size; omega) (by omega)⟩
  case hdone =>
    clear X1 XD XP R hB2 hB lb1 l1
    rintro Dd C X hDd hnD ⟨b2, cap2, rfl, h1, h2, h3, h4, h5, h6⟩ hbut hgC hdef
    have x0 := h3.at_ 0 rfl; have x1 := h3.at_ 1 rfl; have x2 := h3.at_ 2 rfl; have x0f := h1.free; have lz := h1.lt; have lp := h3.lt
    have r0 := h1.at_ 0 rfl; have r1 := h1.at_ 1 rfl; have r2 := h1.at_ 2 rfl
    gi_wp2_with fail
    simp at hDd
    have R4 := ((h1.set_ 0 (by simp) (.int .i64 (W : Int))).set_ 1 (by simp) (.int .i64 (H : Int))).set_ 2 (by simp) (.slice (some ⟨b2, 0, none⟩) n cap2)
    have K4 := ((h4.far (p := ⟨w.heap.size + 1, 0, none⟩) (by dsimp only; omega) (.int .i64 (W : Int))).far (p := ⟨w.heap.size + 1, 1, none⟩) (by dsimp only; omega) (.int .i64 (H : Int))).far (p := ⟨w.heap.size + 1, 2, none⟩) (by dsimp only; omega) (.slice (some ⟨b2, 0, none⟩) n cap2)
    have B4 : Below w.heap.size w (((X.setCell ⟨w.heap.size + 1, 0, none⟩ (.int .i64 (W : Int))).setCell ⟨w.heap.size + 1, 1, none⟩ (.int .i64 (H : Int))).setCell ⟨w.heap.size + 1, 2, none⟩ (.slice (some ⟨b2, 0, none⟩) n cap2)) := by
      have := h5
      (repeat' (first | with_reducible assumption | with_reducible exact Below.refl _ _ | with_reducible refine Below.drew ?_ | with_reducible refine below_drewN ?_ _ | with_reducible refine balloc ?_ _ | with_reducible refine bset ?_ ?_ _ | with_reducible refine Below.setCell ?_ ?_ _ | with_reducible refine Below.alloc ?_ ?_ _ | omega | (simp; done) | (simp; omega)))
    have hd1 : (((X.setCell ⟨w.heap.size + 1, 0, none⟩ (.int .i64 (W : Int))).setCell ⟨w.heap.size + 1, 1, none⟩ (.int .i64 (H : Int))).setCell ⟨w.heap.size + 1, 2, none⟩ (.slice (some ⟨b2, 0, none⟩) n cap2)).heap[Dd]? = some (.deferred (some [])) := by
      rw [Below.heap_setCell _ _ _ _ (by dsimp only; omega), Below.heap_setCell _ _ _ _ (by dsimp only; omega), Below.heap_setCell _ _ _ _ (by dsimp only; omega)]
      exact hdef
    have hbp := but_putObj (((X.setCell ⟨w.heap.size + 1, 0, none⟩ (.int .i64 (W : Int))).setCell ⟨w.heap.size + 1, 1, none⟩ (.int .i64 (H : Int))).setCell ⟨w.heap.size + 1, 2, none⟩ (.slice (some ⟨b2, 0, none⟩) n cap2)) Dd (.deferred none)
    have R5 := R4.but hbp (by omega)
    have K5 := GRun.Ro.but K4 hbp (by omega)
    have B5 := B4.trans (⟨hbp.os, hbp.tape, hbp.output, hbp.size, fun q hq => hbp.block q (by have := B4.size; omega) (by omega)⟩ : Below w.heap.size _ _)
    have c0 := R5.at_ 0 rfl; have c1 := R5.at_ 1 rfl; have c2 := R5.at_ 2 rfl
    refine ⟨by simp, .inl ⟨_, _, rfl, run_takeDeferred hd1, ?_⟩⟩
    refine ⟨.agg #[.int .i64 (W : Int), .int .i64 (H : Int), .slice (some ⟨b2, 0, none⟩) n cap2], by simp [results, Try.results161, go_sem, c0, c1, c2], ?_⟩
    exact ⟨b2, cap2, rfl, by omega, K5, by omega, B5⟩
  case hstop =>
    rintro Dd c pre C X hDd hnD hpre h
    exact h.elim
end Go.Proofs.Ytnnaegnkkpknpaa
