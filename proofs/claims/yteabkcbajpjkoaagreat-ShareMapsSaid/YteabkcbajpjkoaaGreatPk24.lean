/- Walks: the program's run of a grid: steps, run. Walks: the program's run of a grid. Walks: the program's Run and Step of a grid. -/
import Derived.Test.YteabkcbajpjkoaaGreatPk19
import Derived.Test.YteabkcbajpjkoaaGreatPk18
import Derived.LoopIn
import Derived.Sort.CutIn
import Derived.LoopNIn
import Derived.TacticsInMore
import Derived.Shelf.Abstract
import Derived.Laws.EntriesVeiled
namespace Go.Proofs.YteabkcbajpjkoaaGreat
open Go Go.RowKit
attribute [local go_sem] Oper.semAt_some
set_option linter.unusedVariables false
/-- the numbers of M steps from T on -/
def timesL (T M : Nat) : List Nat := (List.range M).map (fun k => T + k)
def encT (x : Nat) : Array Value := #[.int .i64 (x : Int)]
theorem timesL_succ (T M : Nat) : timesL T (M + 1) = timesL T M ++ [T + M] := by simp [timesL, List.range_succ]
theorem timesL_pre (T k : Nat) : ∀ n, k ≤ n → timesL T k <+: timesL T n
  | 0, h => by rw [show k = 0 from by omega]; exact List.prefix_refl _
  | n + 1, h => by
    rcases Nat.lt_or_ge k (n + 1) with h' | h'
    · rw [timesL_succ]; exact (timesL_pre T k n (by omega)).trans (List.prefix_append _ _)
    · rw [show k = n + 1 from by omega]; exact List.prefix_refl _
theorem timesL_mem {T M x : Nat} (h : x ∈ timesL T M) : ∃ k, k < M ∧ x = T + k := by
  simp only [timesL, List.mem_map, List.mem_range] at h
  obtain ⟨k, hk, rfl⟩ := h
  exact ⟨k, hk, rfl⟩
theorem ent_steps : ∀ args w, (callFunc 77 args).run Tryz.prog w = .ok (.enter 77 args) w := Go.Proofs.enters_of Tryz.func77 (by kernel_rfl) rfl
set_option maxRecDepth 100000 in
set_option maxHeartbeats 4000000 in
theorem steps_iter (T M bn bt : Nat) (w₀ : World) (hT : T ≤ 1000000) (hM : M ≤ 1000) (Xn : Bx w₀ bn #[.int .i64 M]) (Xt : Bx w₀ bt #[.int .i64 T]) :
    Iter Tryz.prog 77 #[.pointer (some ⟨bn, 0, none⟩), .pointer (some ⟨bt, 0, none⟩)] encT (timesL T M) w₀ := by
  intro l J Jx C₀ W hW hC hJ hJx hY h0
  have hs0 := hW.size
  have n0 := (Xn.below hW).at_ 0 rfl
  refine callsIn_wide.1 (callsIn_of_wp (F := Fence.wide) (n := 0) Tryz.func77 rfl trivial ?_)
  simp only [Tryz.ntmps77, List.size_toArray, List.length_cons, List.length_nil, Nat.reduceAdd, Nat.reduceSub, Array.replicate_succ, Array.replicate_zero, List.push_toArray, List.append_toArray, List.nil_append, List.cons_append]
  gi_wp2
  gi_loopw [6] (fun i wr => ∃ k : Nat, k ≤ M ∧ i = .int .i64 k ∧ ∃ C, J (timesL T k) C wr ∧ But C₀ W wr ∧ Grw C₀ C W ∧ Below w₀.heap.size w₀ wr ∧ W.heap.size ≤ wr.heap.size) (fun i _ => M - (intOf i).toNat)
  case atStart => exact ⟨0, Nat.zero_le _, rfl, C₀, h0, But.refl _ _, Grw.refl _ _, hW, Nat.le_refl _⟩
  case round =>
    clear n0
    obtain ⟨k, hk, rfl, C, hj, hbut, hg, hB, hz⟩ := hrel
    by_cases hlt : k < M
    · have Yt := Xt.below hB
      have t0 := Yt.at_ 0 rfl; have lt := Yt.lt
      obtain ⟨fn, tmps, asg, bdy, hy, hR⟩ := hY (timesL T k) (T + k) C wr hj hB (by rw [← timesL_succ]; exact timesL_pre T (k + 1) M (by omega))
      rw [← timesL_succ] at hR
      dsimp only [encT] at hy
      rw [show (((T + k : Nat)) : Int) = (T : Int) + (k : Int) from by simp] at hy
      have hsi := IntWalk.i64_in ((T : Int) + (k : Int)) (by omega)
      gi_wp2_with fail
      refine ⟨rfl, hR.mono ?_⟩
      rintro e W4 ⟨C', hbut4, hg4, (⟨rfl, hj4⟩ | ⟨rfl, hj4⟩)⟩
      · have hs4 := hbut4.size
        have hBw4 : Below w₀.heap.size w₀ W4 := hB.trans ⟨hbut4.os, hbut4.tape, hbut4.output, hbut4.size, fun b hb => hbut4.block b (by have := hB.size; omega) (fun h => by have := (hC _ _ _ hj b h).1; omega)⟩
        gi_wp2_with fail
        go_roundw
        case rel => exact ⟨k + 1, by omega, by go_num, C', hj4, hbut.trans' hbut4 hg, fun b h => (hg4 b h).elim (hg b) (fun h2 => .inr (by omega)), hBw4, by omega⟩
        case measure => simp [intOf]; omega
      · gi_wp2_with fail
        refine bodyPost_ret (results_none rfl _ _ _) rfl ?_
        exact ⟨⟨_, rfl⟩, C', hbut.trans' hbut4 hg, fun b h => (hg4 b h).elim (hg b) (fun h2 => .inr (by omega)), .inr ⟨_, timesL_pre T (k + 1) M (by omega), hj4⟩⟩
    · obtain rfl : k = M := (by omega)
      gi_wp2
      go_end0
      exact ⟨⟨_, rfl⟩, C, hbut, hg, .inl hj⟩
theorem grid_steps (T M : Int) (w : World) : Calls Tryz.prog 43 #[.int .i64 T, .int .i64 M] w fun e w' => ∃ bn bt, e = .returned (.func (.func 77) #[] #[.pointer (some ⟨bn, 0, none⟩), .pointer (some ⟨bt, 0, none⟩)]) ∧ Bx w' bn #[.int .i64 M] ∧ Bx w' bt #[.int .i64 T] ∧ Below w.heap.size w w' := by
  have X0 := (Bx.new w #[.int .i64 T] 3).alloc (.cells #[.int .i64 M] 3)
  have X1 := Bx.new (w.alloc (.cells #[.int .i64 T] 3)) #[.int .i64 M] 3
  simp only [World.size_alloc] at X1
  have hB0 : Below w.heap.size w ((w.alloc (.cells #[.int .i64 T] 3)).alloc (.cells #[.int .i64 M] 3)) := by (repeat' (first | with_reducible assumption | with_reducible exact Below.refl _ _ | with_reducible refine Below.drew ?_ | with_reducible refine below_drewN ?_ _ | with_reducible refine balloc ?_ _ | with_reducible refine bset ?_ ?_ _ | with_reducible refine Below.setCell ?_ ?_ _ | with_reducible refine Below.alloc ?_ ?_ _ | omega | (simp; done) | (simp; omega)))
  go_enter Tryz.func43, Tryz.ntmps43
  go_wp2_with fail
  generalize ((w.alloc (.cells #[.int .i64 T] 3)).alloc (.cells #[.int .i64 M] 3)) = W0 at X0 X1 hB0 ⊢
  have z0 := X0.lt
  have z1 := X1.lt
  go_ret
  exact ⟨_, _, rfl, X1, X0, hB0⟩
/-- steps by a list of numbers -/
def runL (W H nr : Nat) (r : Nat → Int × Int) (g : Nat → C4) (L : List Nat) : Nat → C4 := L.foldl (fun G s => stepG W H (rlAt nr r s) G) g
theorem runL_snoc (W H nr : Nat) (r : Nat → Int × Int) (g : Nat → C4) (L : List Nat) (s : Nat) : runL W H nr r g (L ++ [s]) = stepG W H (rlAt nr r s) (runL W H nr r g L) := by simp [runL, List.foldl_append]
theorem runL_ok {W H nr : Nat} {r : Nat → Int × Int} {g : Nat → C4} (h : okG (W * H) g) (L : List Nat) : okG (W * H) (runL W H nr r g L) := by
  unfold runL
  induction L generalizing g with
  | nil => exact h
  | cons x L ih => exact ih (stepW_ok h)
theorem runL_run (W H nr : Nat) (r : Nat → Int × Int) (g : Nat → C4) (T : Nat) : ∀ M, runL W H nr r g (timesL T M) = runW W H (rlAt nr r) (fun _ => 0) g T M
  | 0 => rfl
  | M + 1 => by rw [timesL_succ, runL_snoc, runL_run W H nr r g T M]; rfl
end Go.Proofs.YteabkcbajpjkoaaGreat
namespace Go.Proofs.YteabkcbajpjkoaaGreat
open Go Go.RowKit
attribute [local go_sem] Oper.semAt_some
set_option linter.unusedVariables false
theorem GRun.Ro.but {C : Nat → Prop} {X Y : World} {b n : Nat} {f : Nat → Int} (h : Ro X b n f) (hb : But C X Y) (hc : ¬ C b) : Ro Y b n f := by
  have e := hb.block b h.lt hc
  refine ⟨Nat.lt_of_lt_of_le h.lt hb.size, fun i hi => ?_, fun i => ?_⟩
  · rw [World.cell?_of_block (w := X) (a := ⟨b, i, none⟩) e]; exact h.cells i hi
  · rw [World.frozen?_of_block (w := X) (a := ⟨b, i, none⟩) e]; exact h.free i
/-- the word between two rounds of the run's loop -/
def RunI (W H n p d r M : Nat) (vf vr : Value) (F : List Nat → Nat → C4) (w : World) (pre : List Nat) (C : Nat → Prop) (X : World) : Prop :=
  ∃ b cap, C = (fun q => (w.heap.size ≤ q ∧ q < M) ∨ q = b) ∧ Bx X r #[.int .i64 0, .int .i64 0, .slice none 0 0] ∧ Bx X d #[vf] ∧ Bx X p #[.int .i64 (W : Int), .int .i64 (H : Int), .slice (some ⟨b, 0, none⟩) n cap, vr] ∧ Ro X b (n * 4) (flatC (F pre)) ∧ Below w.heap.size w X ∧
    (w.heap.size ≤ r ∧ r < M ∧ w.heap.size ≤ d ∧ d < M ∧ w.heap.size ≤ p ∧ p < M ∧ w.heap.size ≤ b ∧ r ≠ b ∧ d ≠ b ∧ p ≠ b ∧ d ≠ p ∧ r ≠ p ∧ n ≤ cap ∧ M ≤ X.heap.size)
theorem runI_stab {W H n p d r M : Nat} {vf vr : Value} {F : List Nat → Nat → C4} {w : World} : Stab w.heap.size (RunI W H n p d r M vf vr F w) := by
  rintro pre C A B ⟨b, cap, rfl, h1, h2, h3, h4, h5, h6⟩ hb
  refine ⟨b, cap, rfl, h1.but hb (fun h => h.2 (.inl ⟨by omega, by omega⟩)), h2.but hb (fun h => h.2 (.inl ⟨by omega, by omega⟩)), h3.but hb (fun h => h.2 (.inl ⟨by omega, by omega⟩)), GRun.Ro.but h4 hb (fun h => h.2 (.inr rfl)), ?_, ?_⟩
  · exact h5.trans ⟨hb.os, hb.tape, hb.output, hb.size, fun q hq => hb.block q (by have := h5.size; omega) (fun h => by omega)⟩
  · have := hb.size; omega
set_option maxRecDepth 100000 in
set_option maxHeartbeats 8000000 in
theorem grid_run (W H : Nat) (a ar : Option Addr) (c nr cr gf : Nat) (lb : Array Value) (L : List Nat) (g : Nat → C4) (r : Nat → Int × Int) (w : World) (h1 : 1 ≤ W ∧ W ≤ 64) (h2 : 1 ≤ H ∧ H ≤ 64) (hr0 : 0 < nr) (hr8 : nr ≤ 8) (hL : ∀ x, x ∈ L → x ≤ 1000000)
    (S : Sc w a (W * H) g) (SR : Sr w ar nr r) (hv : okG (W * H) g) (hru : ∀ s, ruleOk (rlAt nr r s).1 (rlAt nr r s).2) (hit : Iter Tryz.prog gf lb encT L w) (eg : ∀ args w, (callFunc gf args).run Tryz.prog w = .ok (.enter gf args) w) :
    Calls Tryz.prog 42 #[.agg #[.int .i64 (W : Int), .int .i64 (H : Int), .slice a (W * H) c], .slice ar nr cr, .func (.func gf) #[] lb, .bool false] w (GridRow W H (W * H) (runL W H nr r g L) w) := by
  have hWH : W * H ≤ 4096 := Nat.mul_le_mul h1.2 h2.2
  have hn0 : 0 < W * H := Nat.mul_pos (by omega) (by omega)
  have hof := grid_of W H a (W * H) c g
  have hst := fun p t b ca G w' hG ht hB hp hb hpb X R => machine_forth W H p t b ca ar nr cr G r w w' h1 h2 hr0 hr8 ht hB hp hb hpb SR X R hG hru
  have hok := fun pre => runL_ok (nr := nr) (r := r) hv pre
  have hsn := fun pre s => runL_snoc W H nr r g pre s
  have hnil : runL W H nr r g [] = g := rfl
  generalize runL W H nr r g = F at *
  generalize stepG W H = SG at *
  have HSt := hid hst; have HOK := hid hok; have HSn := hid hsn; have HL := hid hL
  clear hst hok hsn hru hL hv SR
  generalize W * H = n at *
  have X0 := (Bx.new w #[.int .i64 (W : Int), .int .i64 (H : Int), .slice a n c] 24).alloc (.cells #[.int .i64 0, .int .i64 0, .slice none 0 0] 24)
  have X1 := Bx.new (w.alloc (.cells #[.int .i64 (W : Int), .int .i64 (H : Int), .slice a n c] 24)) #[.int .i64 0, .int .i64 0, .slice none 0 0] 24
  simp only [World.size_alloc] at X1
  have hB0 : Below w.heap.size w ((w.alloc (.cells #[.int .i64 (W : Int), .int .i64 (H : Int), .slice a n c] 24)).alloc (.cells #[.int .i64 0, .int .i64 0, .slice none 0 0] 24)) := by (repeat' (first | with_reducible assumption | with_reducible exact Below.refl _ _ | with_reducible refine Below.drew ?_ | with_reducible refine below_drewN ?_ _ | with_reducible refine balloc ?_ _ | with_reducible refine bset ?_ ?_ _ | with_reducible refine Below.setCell ?_ ?_ _ | with_reducible refine Below.alloc ?_ ?_ _ | omega | (simp; done) | (simp; omega)))
  refine callsIn_wide.1 (callsIn_of_wp_marks (F := Fence.wide) (n := 0) Tryz.func42 rfl trivial ?_ rfl)
  simp only [Tryz.ntmps42, List.size_toArray, List.length_cons, List.length_nil, Nat.reduceAdd, Nat.reduceSub, Array.replicate_succ, Array.replicate_zero, List.push_toArray, List.append_toArray, List.nil_append, List.cons_append]
  gi_wp2_with fail
  generalize ((w.alloc (.cells #[.int .i64 (W : Int), .int .i64 (H : Int), .slice a n c] 24)).alloc (.cells #[.int .i64 0, .int .i64 0, .slice none 0 0] 24)) = W0 at X0 X1 hB0 ⊢
  have z0 := X0.lt
  have z1 := X1.lt
  refine ⟨trivial, rfl, callsIn_wide.2 ((hof _ (by omega) hn0 (S.below hB0)).mono ?_)⟩
  rintro e w1 ⟨b, cap, rfl, hb, R, hcap, hb1⟩
  have hs0 := hB0.size
  have hB := bvia hB0 hb1
  replace X1 := X1.below hb1
  have lb1 := R.lt; have l1 := X1.lt
  have hb' : W0.heap.size ≤ b := hb
  have hz1 : w.heap.size + 1 < b := by omega
  clear X0 z0 z1 hof hb1 hB0
  gi_wp2_with fail
  have XP := (Bx.new w1 #[.int .i64 (W : Int), .int .i64 (H : Int), .slice (some ⟨b, 0, none⟩) n cap, .slice ar nr cr] 112).alloc (.cells #[.func (.func 75) #[.pointer (some ⟨w1.heap.size, 0, none⟩)] #[]] 113)
  have XD := Bx.new (w1.alloc (.cells #[.int .i64 (W : Int), .int .i64 (H : Int), .slice (some ⟨b, 0, none⟩) n cap, .slice ar nr cr] 112)) #[.func (.func 75) #[.pointer (some ⟨w1.heap.size, 0, none⟩)] #[]] 113
  simp only [World.size_alloc] at XD
  replace X1 := (X1.alloc (.cells #[.int .i64 (W : Int), .int .i64 (H : Int), .slice (some ⟨b, 0, none⟩) n cap, .slice ar nr cr] 112)).alloc (.cells #[.func (.func 75) #[.pointer (some ⟨w1.heap.size, 0, none⟩)] #[]] 113)
  replace R := (R.alloc (.cells #[.int .i64 (W : Int), .int .i64 (H : Int), .slice (some ⟨b, 0, none⟩) n cap, .slice ar nr cr] 112)).alloc (.cells #[.func (.func 75) #[.pointer (some ⟨w1.heap.size, 0, none⟩)] #[]] 113)
  have hB2 := balloc (balloc hB (.cells #[.int .i64 (W : Int), .int .i64 (H : Int), .slice (some ⟨b, 0, none⟩) n cap, .slice ar nr cr] 112)) (.cells #[.func (.func 75) #[.pointer (some ⟨w1.heap.size, 0, none⟩)] #[]] 113)
  have hs1 := hB.size
  rw [← hnil] at R
  clear hnil
  refine wp_range rfl eg hit hB2 (fun _ => rfl) (RunI W H n w1.heap.size (w1.heap.size + 1) (w.heap.size + 1) (w1.heap.size + 1 + 1) (.func (.func 75) #[.pointer (some ⟨w1.heap.size, 0, none⟩)] #[]) (.slice ar nr cr) F w) (fun _ _ _ _ => False)
    (fun q => (w.heap.size ≤ q ∧ q < w1.heap.size + 1 + 1) ∨ q = b) ?hC runI_stab (fun c => fun _ _ _ _ h => h.elim) ?h0 ?hround ?hdone ?hstop
  case hC =>
    rintro pre C X ⟨b', cap', rfl, h1, h2, h3, h4, h5, h6⟩ q hq
    have := h4.lt
    omega
  case h0 => exact ⟨b, cap, rfl, X1, XD, XP, R, hB2, by simp only [World.size_alloc]; omega⟩
  case hround =>
    clear X1 XD XP R hB2 hB lb1 l1
    rintro l pre x C X hl hl' hnl ⟨rec2, hrec2⟩ hI hX hgC hpre
    simp at hl
    unfold Round
    dsimp only [encT]
    gi_wp2_with fail
    refine ⟨Below.refl _ _, ?_⟩
    intro X₂ hb2 hs2 r2
    obtain ⟨b2, cap2, rfl, h1, h2, h3, h4, h5, h6⟩ := runI_stab pre C X X₂ hI (hb2.mono fun q _ e => ⟨by omega, by rw [e]; exact hnl⟩)
    have hxL : x ∈ L := hpre.subset (by simp)
    have hx := HL.out x hxL
    have hok := HOK.out pre
    have hstp := HSt.out _ x b2 cap2 (F pre) X₂ hok hx h5 (by omega) (by omega) (by omega) h3 h4
    rw [← HSn.out] at hstp
    have d0 := h2.at_ 0 rfl; have dz := h2.lt
    have H6 := hid h6; clear h6 hI hb2 hs2 r2 hnl
    gi_wp2_with fail
    refine ⟨trivial, rfl, callsIn_of (hstp.mono ?_)⟩
    rintro e X3 ⟨b', cap', ⟨v, rfl⟩, XP', R', hb', hcap', hbut⟩
    clear d0
    gi_wp2_with fail
    have h6 := H6.out
    have hs3 := hbut.size
    refine ⟨fun q => (w.heap.size ≤ q ∧ q < w1.heap.size + 1 + 1) ∨ q = b', hbut.mono fun q _ h => ?_, fun q h => ?_, b', cap', rfl, h1.but hbut (by omega), h2.but hbut (by omega), XP', R', ?_, by omega⟩
    · omega
    · omega
    · exact h5.trans ⟨hbut.os, hbut.tape, hbut.output, hbut.size, fun q hq => hbut.block q (by have := h5.size; omega) (by omega)⟩
  case hdone =>
    clear X1 XD XP R hB2 hB lb1 l1
    rintro Dd C X hDd hnD ⟨b2, cap2, rfl, h1, h2, h3, h4, h5, h6⟩ hbut hgC hdef
    have x0 := h3.at_ 0 rfl; have x1 := h3.at_ 1 rfl; have x2 := h3.at_ 2 rfl; have x0f := h1.free; have lz := h1.lt; have lp := h3.lt
    have r0 := h1.at_ 0 rfl; have r1 := h1.at_ 1 rfl; have r2 := h1.at_ 2 rfl
    gi_wp2_with fail
    simp at hDd
    have R4 := ((h1.set_ 0 (by simp) (.int .i64 (W : Int))).set_ 1 (by simp) (.int .i64 (H : Int))).set_ 2 (by simp) (.slice (some ⟨b2, 0, none⟩) n cap2)
    have K4 := ((h4.far (p := ⟨w.heap.size + 1, 0, none⟩) (by dsimp only; omega) (.int .i64 (W : Int))).far (p := ⟨w.heap.size + 1, 1, none⟩) (by dsimp only; omega) (.int .i64 (H : Int))).far (p := ⟨w.heap.size + 1, 2, none⟩) (by dsimp only; omega) (.slice (some ⟨b2, 0, none⟩) n cap2)
    have B4 : Below w.heap.size w (((X.setCell ⟨w.heap.size + 1, 0, none⟩ (.int .i64 (W : Int))).setCell ⟨w.heap.size + 1, 1, none⟩ (.int .i64 (H : Int))).setCell ⟨w.heap.size + 1, 2, none⟩ (.slice (some ⟨b2, 0, none⟩) n cap2)) := by
      have := h5
      (repeat' (first | with_reducible assumption | with_reducible exact Below.refl _ _ | with_reducible refine Below.drew ?_ | with_reducible refine below_drewN ?_ _ | with_reducible refine balloc ?_ _ | with_reducible refine bset ?_ ?_ _ | with_reducible refine Below.setCell ?_ ?_ _ | with_reducible refine Below.alloc ?_ ?_ _ | omega | (simp; done) | (simp; omega)))
    have hd1 : (((X.setCell ⟨w.heap.size + 1, 0, none⟩ (.int .i64 (W : Int))).setCell ⟨w.heap.size + 1, 1, none⟩ (.int .i64 (H : Int))).setCell ⟨w.heap.size + 1, 2, none⟩ (.slice (some ⟨b2, 0, none⟩) n cap2)).heap[Dd]? = some (.deferred (some [])) := by
      rw [Below.heap_setCell _ _ _ _ (by dsimp only; omega), Below.heap_setCell _ _ _ _ (by dsimp only; omega), Below.heap_setCell _ _ _ _ (by dsimp only; omega)]
      exact hdef
    have hbp := but_putObj (((X.setCell ⟨w.heap.size + 1, 0, none⟩ (.int .i64 (W : Int))).setCell ⟨w.heap.size + 1, 1, none⟩ (.int .i64 (H : Int))).setCell ⟨w.heap.size + 1, 2, none⟩ (.slice (some ⟨b2, 0, none⟩) n cap2)) Dd (.deferred none)
    have R5 := R4.but hbp (by omega)
    have K5 := GRun.Ro.but K4 hbp (by omega)
    have B5 := B4.trans (⟨hbp.os, hbp.tape, hbp.output, hbp.size, fun q hq => hbp.block q (by have := B4.size; omega) (by omega)⟩ : Below w.heap.size _ _)
    have c0 := R5.at_ 0 rfl; have c1 := R5.at_ 1 rfl; have c2 := R5.at_ 2 rfl
    refine ⟨by simp, .inl ⟨_, _, rfl, run_takeDeferred hd1, ?_⟩⟩
    refine ⟨.agg #[.int .i64 (W : Int), .int .i64 (H : Int), .slice (some ⟨b2, 0, none⟩) n cap2], by simp [results, Tryz.results42, go_sem, c0, c1, c2], ?_⟩
    exact ⟨b2, cap2, rfl, by omega, K5, by omega, B5⟩
  case hstop =>
    rintro Dd c pre C X hDd hnD hpre h
    exact h.elim
end Go.Proofs.YteabkcbajpjkoaaGreat
namespace Go.Proofs.YteabkcbajpjkoaaGreat
open Go Go.RowKit
attribute [local go_sem] Oper.semAt_some
set_option linter.unusedVariables false
set_option maxRecDepth 100000 in
set_option maxHeartbeats 2000000 in
theorem grid_asked (wide high : Int) (a ar : Option Addr) (n nr c cr : Nat) (g : Nat → C4) (r : Nat → Int × Int) (t m : Int) (w : World) (hn : n ≤ 100000000) (hnr : nr ≤ 100000000) (H : Sc w a n g) (HR : Sr w ar nr r) :
    Calls Tryz.prog 41 #[.agg #[.int .i64 wide, .int .i64 high, .slice a n c], .slice ar nr cr, .int .i64 t, .int .i64 m] w fun e w' => e = .returned (.int .i64 (rnE (validG wide high n g) (rulesB nr r) (timesB t m))) ∧ Below w.heap.size w w' := by
  have hvl := fun W H => grid_valid wide high a n c g W hn H
  have hrl := fun W HR => cell_validRules ar nr cr r W hnr HR
  have X0 := Bx.new w #[.int .i64 wide, .int .i64 high, .slice a n c] 24
  have hB0 : Below w.heap.size w (w.alloc (.cells #[.int .i64 wide, .int .i64 high, .slice a n c] 24)) := by (repeat' (first | with_reducible assumption | with_reducible exact Below.refl _ _ | with_reducible refine Below.drew ?_ | with_reducible refine below_drewN ?_ _ | with_reducible refine balloc ?_ _ | with_reducible refine bset ?_ ?_ _ | with_reducible refine Below.setCell ?_ ?_ _ | with_reducible refine Below.alloc ?_ ?_ _ | omega | (simp; done) | (simp; omega)))
  have hw1 := fun W => grid_within t 0 1000000 W
  have hw2 := fun W => grid_within m 0 1000 W
  generalize validG wide high n g = v at *
  generalize rulesB nr r = u at *
  cases v
  · skip
    go_enter Tryz.func41, Tryz.ntmps41
    go_wp2_with fail
    generalize (w.alloc (.cells #[.int .i64 wide, .int .i64 high, .slice a n c] 24)) = W0 at X0 hB0 ⊢
    have z0 := X0.lt
    have G0 := H.below hB0; have GR0 := HR.below hB0
    refine (hvl _ G0).mono ?_
    rintro e w1 ⟨rfl, hb1⟩
    have hB := hB0
    clear hB0
    replace hB := bvia hB hb1
    replace GR0 := GR0.below hb1
    go_wp2_with fail
    go_ret
    exact ⟨rfl, hB⟩
  · cases u
    · skip
      go_enter Tryz.func41, Tryz.ntmps41
      go_wp2_with fail
      generalize (w.alloc (.cells #[.int .i64 wide, .int .i64 high, .slice a n c] 24)) = W0 at X0 hB0 ⊢
      have z0 := X0.lt
      have G0 := H.below hB0; have GR0 := HR.below hB0
      refine (hvl _ G0).mono ?_
      rintro e w1 ⟨rfl, hb1⟩
      have hB := hB0
      clear hB0
      replace hB := bvia hB hb1
      replace GR0 := GR0.below hb1
      go_wp2_with fail
      refine (hrl _ GR0).mono ?_
      rintro e w2 ⟨rfl, hb2⟩
      replace hB := bvia hB hb2
      go_wp2_with fail
      go_ret
      exact ⟨rfl, hB⟩
    · cases h1 : within t 0 1000000
      · rw [timesB_no1 h1]
        rw [h1] at hw1
        clear h1
        go_enter Tryz.func41, Tryz.ntmps41
        go_wp2_with fail
        generalize (w.alloc (.cells #[.int .i64 wide, .int .i64 high, .slice a n c] 24)) = W0 at X0 hB0 ⊢
        have z0 := X0.lt
        have G0 := H.below hB0; have GR0 := HR.below hB0
        refine (hvl _ G0).mono ?_
        rintro e w1 ⟨rfl, hb1⟩
        have hB := hB0
        clear hB0
        replace hB := bvia hB hb1
        replace GR0 := GR0.below hb1
        go_wp2_with fail
        refine (hrl _ GR0).mono ?_
        rintro e w2 ⟨rfl, hb2⟩
        replace hB := bvia hB hb2
        go_wp2_with fail
        refine (hw1 _).mono ?_
        rintro e w' ⟨rfl, rfl⟩
        go_wp2_with fail
        go_ret
        exact ⟨rfl, hB⟩
      · obtain ⟨t0, t1⟩ := (within_iff _ _ _).1 h1
        rw [h1] at hw1
        cases h2 : within m 0 1000
        · rw [timesB_no2 h2]
          rw [h2] at hw2
          clear h1 h2
          go_enter Tryz.func41, Tryz.ntmps41
          go_wp2_with fail
          generalize (w.alloc (.cells #[.int .i64 wide, .int .i64 high, .slice a n c] 24)) = W0 at X0 hB0 ⊢
          have z0 := X0.lt
          have G0 := H.below hB0; have GR0 := HR.below hB0
          refine (hvl _ G0).mono ?_
          rintro e w1 ⟨rfl, hb1⟩
          have hB := hB0
          clear hB0
          replace hB := bvia hB hb1
          replace GR0 := GR0.below hb1
          go_wp2_with fail
          refine (hrl _ GR0).mono ?_
          rintro e w2 ⟨rfl, hb2⟩
          replace hB := bvia hB hb2
          go_wp2_with fail
          refine (hw1 _).mono ?_
          rintro e w' ⟨rfl, rfl⟩
          go_wp2_with fail
          refine (hw2 _).mono ?_
          rintro e w' ⟨rfl, rfl⟩
          go_wp2_with fail
          go_ret
          exact ⟨rfl, hB⟩
        · obtain ⟨m0, m1⟩ := (within_iff _ _ _).1 h2
          rw [h2] at hw2
          by_cases hm : m = 0
          · subst hm
            have e : timesB t 0 = true := (timesB_iff _ _).2 ⟨t0, t1, by omega, by omega, .inl rfl⟩
            rw [e]
            clear e h1 h2
            go_enter Tryz.func41, Tryz.ntmps41
            go_wp2_with fail
            generalize (w.alloc (.cells #[.int .i64 wide, .int .i64 high, .slice a n c] 24)) = W0 at X0 hB0 ⊢
            have z0 := X0.lt
            have G0 := H.below hB0; have GR0 := HR.below hB0
            refine (hvl _ G0).mono ?_
            rintro e w1 ⟨rfl, hb1⟩
            have hB := hB0
            clear hB0
            replace hB := bvia hB hb1
            replace GR0 := GR0.below hb1
            go_wp2_with fail
            refine (hrl _ GR0).mono ?_
            rintro e w2 ⟨rfl, hb2⟩
            replace hB := bvia hB hb2
            go_wp2_with fail
            refine (hw1 _).mono ?_
            rintro e w' ⟨rfl, rfl⟩
            go_wp2_with fail
            refine (hw2 _).mono ?_
            rintro e w' ⟨rfl, rfl⟩
            go_wp2_with fail
            go_ret
            exact ⟨rfl, hB⟩
          · by_cases hs : t + m - 1 ≤ 1000000
            · have e : timesB t m = true := (timesB_iff _ _).2 ⟨t0, t1, m0, m1, .inr hs⟩
              rw [e]
              clear e h1 h2
              have hm0 : 0 < m := by omega
              clear hm
              go_enter Tryz.func41, Tryz.ntmps41
              go_wp2_with fail
              generalize (w.alloc (.cells #[.int .i64 wide, .int .i64 high, .slice a n c] 24)) = W0 at X0 hB0 ⊢
              have z0 := X0.lt
              have G0 := H.below hB0; have GR0 := HR.below hB0
              refine (hvl _ G0).mono ?_
              rintro e w1 ⟨rfl, hb1⟩
              have hB := hB0
              clear hB0
              replace hB := bvia hB hb1
              replace GR0 := GR0.below hb1
              go_wp2_with fail
              refine (hrl _ GR0).mono ?_
              rintro e w2 ⟨rfl, hb2⟩
              replace hB := bvia hB hb2
              go_wp2_with fail
              refine (hw1 _).mono ?_
              rintro e w' ⟨rfl, rfl⟩
              go_wp2_with fail
              refine (hw2 _).mono ?_
              rintro e w' ⟨rfl, rfl⟩
              go_wp2_with fail
              go_ret
              exact ⟨rfl, hB⟩
            · have e : timesB t m = false := by
                cases hh : timesB t m
                · rfl
                · have := (timesB_iff _ _).1 hh; omega
              rw [e]
              clear e h1 h2
              have hm0 : 0 < m := by omega
              clear hm
              go_enter Tryz.func41, Tryz.ntmps41
              go_wp2_with fail
              generalize (w.alloc (.cells #[.int .i64 wide, .int .i64 high, .slice a n c] 24)) = W0 at X0 hB0 ⊢
              have z0 := X0.lt
              have G0 := H.below hB0; have GR0 := HR.below hB0
              refine (hvl _ G0).mono ?_
              rintro e w1 ⟨rfl, hb1⟩
              have hB := hB0
              clear hB0
              replace hB := bvia hB hb1
              replace GR0 := GR0.below hb1
              go_wp2_with fail
              refine (hrl _ GR0).mono ?_
              rintro e w2 ⟨rfl, hb2⟩
              replace hB := bvia hB hb2
              go_wp2_with fail
              refine (hw1 _).mono ?_
              rintro e w' ⟨rfl, rfl⟩
              go_wp2_with fail
              refine (hw2 _).mono ?_
              rintro e w' ⟨rfl, rfl⟩
              go_wp2_with fail
              go_ret
              exact ⟨rfl, hB⟩
/-- what a run of a grid that has no error has -/
theorem runG_ok {wide high : Int} {n nr : Nat} {g : Nat → C4} {r : Nat → Int × Int} {t m : Int} (h : rnE (validG wide high n g) (rulesB nr r) (timesB t m) = 0) :
    ∃ W H T M : Nat, wide = W ∧ high = H ∧ t = T ∧ m = M ∧ (1 ≤ W ∧ W ≤ 64) ∧ (1 ≤ H ∧ H ≤ 64) ∧ n = W * H ∧ W * H ≤ 1024 ∧ okG (W * H) g ∧ 0 < nr ∧ nr ≤ 8 ∧ (∀ s, ruleOk (rlAt nr r s).1 (rlAt nr r s).2) ∧ T ≤ 1000000 ∧ M ≤ 1000 ∧ (∀ i, i < M → T + i ≤ 1000000) := by
  obtain ⟨h1, h2, h3⟩ := rnE_zero h
  obtain ⟨a1, a2, a3, a4, a5, a6, a7, a8⟩ := (validG_iff _ _ _ _).1 h1
  obtain ⟨c1, c2, c3⟩ := (rulesB_iff _ _).1 h2
  obtain ⟨d1, d2, d3, d4, d5⟩ := (timesB_iff _ _).1 h3
  have en : n = wide.toNat * high.toNat := by
    have e1 : wide = (wide.toNat : Int) := by omega
    have e2 : high = (high.toNat : Int) := by omega
    rw [e1, e2] at a6
    exact_mod_cast a6
  subst en
  refine ⟨wide.toNat, high.toNat, t.toNat, m.toNat, by omega, by omega, by omega, by omega, by omega, by omega, rfl, by omega, ⟨a7, a8⟩, by omega, c2, fun s => (ruleB_iff _ _).1 (c3 _ (Nat.mod_lt _ (by omega))), by omega, by omega, fun i hi => by omega⟩
set_option maxRecDepth 100000 in
set_option maxHeartbeats 8000000 in
theorem grid_Run (wide high : Int) (a ar : Option Addr) (n nr c cr : Nat) (g : Nat → C4) (r : Nat → Int × Int) (t m : Int) (w : World) (hn : n ≤ 100000000) (hnr : nr ≤ 100000000) (H : Sc w a n g) (HR : Sr w ar nr r) :
    Calls Tryz.prog 13 #[.agg #[.int .i64 wide, .int .i64 high, .slice a n c], .slice ar nr cr, .int .i64 t, .int .i64 m] w (GridPost (rnE (validG wide high n g) (rulesB nr r) (timesB t m)) (erZ (rnE (validG wide high n g) (rulesB nr r) (timesB t m)) wide) (erZ (rnE (validG wide high n g) (rulesB nr r) (timesB t m)) high) (erN (rnE (validG wide high n g) (rulesB nr r) (timesB t m)) n) (runW wide.toNat high.toNat (rlAt nr r) (fun _ => 0) g t.toNat m.toNat) w) := by
  have herr := fun W' S' SR' => grid_asked wide high a ar n nr c cr g r t m W' hn hnr S' SR'
  have hgood := fun h => runG_ok (wide := wide) (high := high) (n := n) (nr := nr) (g := g) (r := r) (t := t) (m := m) h
  generalize rnE (validG wide high n g) (rulesB nr r) (timesB t m) = er at *
  by_cases hz : er = 0
  rotate_left
  · have hzc : (er != 0) = true := by simpa using hz
    have HZ := hid hz
    clear hgood hz
    have X0 := (Bx.new w #[.int .i64 wide, .int .i64 high, .slice a n c] 24).alloc (.cells #[.int .i64 0, .int .i64 0, .slice none 0 0] 24)
    have X1 := Bx.new (w.alloc (.cells #[.int .i64 wide, .int .i64 high, .slice a n c] 24)) #[.int .i64 0, .int .i64 0, .slice none 0 0] 24
    simp only [World.size_alloc] at X1
    have hB0 : Below w.heap.size w ((w.alloc (.cells #[.int .i64 wide, .int .i64 high, .slice a n c] 24)).alloc (.cells #[.int .i64 0, .int .i64 0, .slice none 0 0] 24)) := by (repeat' (first | with_reducible assumption | with_reducible exact Below.refl _ _ | with_reducible refine Below.drew ?_ | with_reducible refine below_drewN ?_ _ | with_reducible refine balloc ?_ _ | with_reducible refine bset ?_ ?_ _ | with_reducible refine Below.setCell ?_ ?_ _ | with_reducible refine Below.alloc ?_ ?_ _ | omega | (simp; done) | (simp; omega)))
    go_enter Tryz.func13, Tryz.ntmps13
    go_wp2_with fail
    generalize ((w.alloc (.cells #[.int .i64 wide, .int .i64 high, .slice a n c] 24)).alloc (.cells #[.int .i64 0, .int .i64 0, .slice none 0 0] 24)) = W0 at X0 X1 hB0 ⊢
    have z0 := X0.lt
    have z1 := X1.lt
    refine (herr _ (H.below hB0) (HR.below hB0)).mono ?_
    rintro e w1 ⟨rfl, hb1⟩
    have hB := bvia hB0 hb1
    replace X1 := X1.below hb1
    have x0 := X1.at_ 0 rfl; have x1 := X1.at_ 1 rfl; have x2 := X1.at_ 2 rfl; have xf := X1.free; have xz := X1.lt
    go_wp2_with fail
    refine bodyPost_ret (v := .tuple #[.agg #[.int .i64 0, .int .i64 0, .slice none 0 0], .int .i64 er]) (by simp [results, Tryz.results13, go_sem, x0, x1, x2]) rfl (gridPost_none HZ.out (by (repeat' (first | with_reducible assumption | with_reducible exact Below.refl _ _ | with_reducible refine Below.drew ?_ | with_reducible refine below_drewN ?_ _ | with_reducible refine balloc ?_ _ | with_reducible refine bset ?_ ?_ _ | with_reducible refine Below.setCell ?_ ?_ _ | with_reducible refine Below.alloc ?_ ?_ _ | omega | (simp; done) | (simp; omega)))))
  subst hz
  obtain ⟨W, Hh, T, M, rfl, rfl, rfl, rfl, w1, h1, rfl, hm, hok, hr0, hr8, hru, hT, hM, hTM⟩ := hgood rfl
  clear hgood hn hnr
  have e1 : ∀ x : Int, erZ 0 x = x := fun _ => rfl
  have e2 : ∀ x : Nat, erN 0 x = x := fun _ => rfl
  simp only [e1, e2, Int.toNat_natCast]
  clear e1 e2
  have hit := fun bn bt W' Xn Xt => steps_iter T M bn bt W' hT hM Xn Xt
  have hLT : ∀ x, x ∈ timesL T M → x ≤ 1000000 := fun x hx => by
    obtain ⟨k, hk, rfl⟩ := timesL_mem hx
    exact hTM k hk
  have hrun := fun gf lb W' S' SR' hit eg => grid_run W Hh a ar c nr cr gf lb (timesL T M) g r W' w1 h1 hr0 hr8 hLT S' SR' hok hru hit eg
  rw [← runL_run]
  have HIT := hid hit; have HRN := hid hrun
  clear hLT hit hrun hru hok hTM
  obtain ⟨q1, q2⟩ := w1; obtain ⟨q3, q4⟩ := h1
  generalize timesL T M = L at *
  generalize runL W Hh nr r g L = G at *
  generalize W * Hh = n at *
  have X0 := (Bx.new w #[.int .i64 (W : Int), .int .i64 (Hh : Int), .slice a n c] 24).alloc (.cells #[.int .i64 0, .int .i64 0, .slice none 0 0] 24)
  have X1 := Bx.new (w.alloc (.cells #[.int .i64 (W : Int), .int .i64 (Hh : Int), .slice a n c] 24)) #[.int .i64 0, .int .i64 0, .slice none 0 0] 24
  simp only [World.size_alloc] at X1
  have hB0 : Below w.heap.size w ((w.alloc (.cells #[.int .i64 (W : Int), .int .i64 (Hh : Int), .slice a n c] 24)).alloc (.cells #[.int .i64 0, .int .i64 0, .slice none 0 0] 24)) := by (repeat' (first | with_reducible assumption | with_reducible exact Below.refl _ _ | with_reducible refine Below.drew ?_ | with_reducible refine below_drewN ?_ _ | with_reducible refine balloc ?_ _ | with_reducible refine bset ?_ ?_ _ | with_reducible refine Below.setCell ?_ ?_ _ | with_reducible refine Below.alloc ?_ ?_ _ | omega | (simp; done) | (simp; omega)))
  go_enter Tryz.func13, Tryz.ntmps13
  go_wp2_with fail
  generalize ((w.alloc (.cells #[.int .i64 (W : Int), .int .i64 (Hh : Int), .slice a n c] 24)).alloc (.cells #[.int .i64 0, .int .i64 0, .slice none 0 0] 24)) = W0 at X0 X1 hB0 ⊢
  have z0 := X0.lt
  have z1 := X1.lt
  refine (herr _ (H.below hB0) (HR.below hB0)).mono ?_
  rintro e w1 ⟨rfl, hb1⟩
  have hB := hB0
  clear hB0 herr
  replace X0 := X0.below hb1
  replace X1 := X1.below hb1
  replace hB := bvia hB hb1
  clear hb1
  have r0 : ∀ X, Below w1.heap.size w1 X → X.cell? ⟨w.heap.size, 0, none⟩ = some (.int .i64 (W : Int)) := fun X h => (X0.below h).at_ 0 rfl
  have r1 : ∀ X, Below w1.heap.size w1 X → X.cell? ⟨w.heap.size, 1, none⟩ = some (.int .i64 (Hh : Int)) := fun X h => (X0.below h).at_ 1 rfl
  have r2 : ∀ X, Below w1.heap.size w1 X → X.cell? ⟨w.heap.size, 2, none⟩ = some (.slice a n c) := fun X h => (X0.below h).at_ 2 rfl
  have x1z := X1.lt
  go_upto_region 4 with (fail)
  refine wp_region_S (fun X => Below w1.heap.size w1 X) 6 (by kernel_rfl) ?_
  refine anyS_take (i := 0) rfl (by kernel_rfl) (fun _ _ _ h => h) (Or.inl ⟨by rfl, fun Y hYb => (by (try dsimp only at hYb); go_simp; rfl)⟩) (by repeat' (first | with_reducible assumption | with_reducible exact Below.refl _ _ | with_reducible refine Below.drew ?_ | with_reducible refine below_drewN ?_ _)) ?_
  refine anyS_take (i := 1) rfl (by kernel_rfl) (fun _ _ _ h => h) (Or.inl ⟨by rfl, fun Y hYb => (by (try dsimp only at hYb); go_simp; rfl)⟩) (by repeat' (first | with_reducible assumption | with_reducible exact Below.refl _ _ | with_reducible refine Below.drew ?_ | with_reducible refine below_drewN ?_ _)) ?_
  refine anyS_take (i := 2) rfl (by kernel_rfl) (fun _ _ _ h => h) (Or.inl ⟨by rfl, fun Y hYb => (by (try dsimp only at hYb); go_simp; rfl)⟩) (by repeat' (first | with_reducible assumption | with_reducible exact Below.refl _ _ | with_reducible refine Below.drew ?_ | with_reducible refine below_drewN ?_ _)) ?_
  refine anyS_take (i := 3) rfl (by kernel_rfl) (fun _ _ _ h => h) (Or.inl ⟨by rfl, fun Y hYb => (by (try dsimp only at hYb); go_simp; rfl)⟩) (by repeat' (first | with_reducible assumption | with_reducible exact Below.refl _ _ | with_reducible refine Below.drew ?_ | with_reducible refine below_drewN ?_ _)) ?_
  refine anyS_one (i := 4) (by kernel_rfl) rfl (by rfl) (fun K hK => ?_)
  go_simp
  refine (grid_steps _ _ _).mono ?_
  rintro e w2 ⟨bn, bt, rfl, Xn, Xt, hb2⟩
  dsimp only
  have hS2 : Below w1.heap.size w1 w2 := bvia (Below.refl _ w1).drew hb2
  refine hK _ _ (fun _ _ => hS2) ?_
  clear hK K hb2
  refine anyS_one (i := 5) (by kernel_rfl) rfl (by rfl) (fun K hK => ?_)
  go_simp
  refine (HRN.out _ _ _ ((H.below hB).below hS2) ((HR.below hB).below hS2) (HIT.out bn bt _ Xn Xt) ent_steps).mono ?_
  rintro e w3 ⟨b, cap, rfl, hb, R, hcap, hb3⟩
  dsimp only
  have hS3 : Below w1.heap.size w1 w3 := bvia hS2 hb3
  have hs2 := hS2.size
  refine hK _ _ (fun _ _ => hS3) ?_
  clear hK K hb3 Xn Xt hS2
  replace X1 := X1.below hS3
  replace hB := bvia hB hS3
  clear r0 r1 r2 X0 hS3
  have X1_0 := X1.at_ 0 rfl
  have X1_1 := X1.at_ 1 rfl
  have X1_2 := X1.at_ 2 rfl
  have X1f := X1.free
  have X1z := X1.lt
  refine anyS_one (i := 6) (by kernel_rfl) rfl (by rfl) (fun K hK => ?_)
  go_simp
  refine hK _ _ (fun h _ => absurd h (by decide)) ?_
  clear hK K
  refine anyS_one (i := 7) (by kernel_rfl) rfl (by rfl) (fun K hK => ?_)
  go_simp
  refine hK _ _ (fun h _ => absurd h (by decide)) ?_
  clear hK K
  refine anyS_done (by kernel_rfl) ?_ _
  go_wp2_with fail
  refine bodyPost_ret (v := .tuple #[.agg #[.int .i64 (W : Int), .int .i64 (Hh : Int), .slice (some ⟨b, 0, none⟩) n cap], .int .i64 0]) (by simp [results, Tryz.results13, go_sem, X1_0, X1_1, X1_2]) rfl (gridPost_row (by (repeat' (first | with_reducible assumption | with_reducible refine Ro.drew ?_ | with_reducible refine Ro.drewN ?_ _ | with_reducible refine Ro.alloc ?_ _ | with_reducible refine Ro.far ?_ ?_ _ | (show _ ≠ _; dsimp only; omega)))) (by omega) (by (repeat' (first | with_reducible assumption | with_reducible exact Below.refl _ _ | with_reducible refine Below.drew ?_ | with_reducible refine below_drewN ?_ _ | with_reducible refine balloc ?_ _ | with_reducible refine bset ?_ ?_ _ | with_reducible refine Below.setCell ?_ ?_ _ | with_reducible refine Below.alloc ?_ ?_ _ | omega | (simp; done) | (simp; omega)))))
end Go.Proofs.YteabkcbajpjkoaaGreat
