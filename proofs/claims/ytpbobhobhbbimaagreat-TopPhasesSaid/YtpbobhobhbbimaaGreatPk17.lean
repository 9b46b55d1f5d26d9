/- Walk: the run of two phases without exchanges. -/
import Derived.Test.YtpbobhobhbbimaaGreatPk16
namespace Go.Proofs.YtpbobhobhbbimaaGreat
open Go Go.RowKit
attribute [local go_sem] Oper.semAt_some
set_option linter.unusedVariables false
def QnP (Q : Exit → Act → World → Prop) : Exit → Act → World → Prop | .normal, a, w => Q .normal a w | _, _, _ => False
theorem wp_region_NP {P : Program} {ops : Array Oper} {Q : Exit → Act → World → Prop} {id : Nat} {a : Act} {w : World} (S : World → Prop) (T : Nat) (hm : P.follows .mixedOrders = true)
    (h : anyS P .any ops (QnP Q) S T ops.size (Array.replicate ops.size false) a w.drew) : (Code.region id ops true).wp P Q a w :=
  Code.wp_mono (fun e a w h => by
    cases e with
    | normal => exact h
    | _ => exact h.elim) (wp_region_S S T hm h)
def RdS (T M bn bk bt : Nat) (X : World) : Prop := Bx X bn #[.int .i64 M] ∧ Bx X bk #[.bool false] ∧ Bx X bt #[.int .i64 T]
set_option maxRecDepth 100000 in
set_option maxHeartbeats 4000000 in
theorem psteps_iterR (T M bn bk bt : Nat) (w₀ : World) (hT : T ≤ 1000000) (hM : M ≤ 1000) :
    IterR Tryz.prog 46 #[.pointer (some ⟨bn, 0, none⟩), .pointer (some ⟨bk, 0, none⟩), .pointer (some ⟨bt, 0, none⟩)] encT (timesL T M) w₀ (RdS T M bn bk bt) := by
  intro l J Jx C₀ W hRd hW hC hJ hJx hY h0
  have hs0 := hW.size
  have n0 := (hRd _ _ _ h0).1.at_ 0 rfl
  refine callsIn_wide.1 (callsIn_of_wp (F := Fence.wide) (n := 0) Tryz.func46 rfl trivial ?_)
  simp only [Tryz.ntmps46, List.size_toArray, List.length_cons, List.length_nil, Nat.reduceAdd, Nat.reduceSub, Array.replicate_succ, Array.replicate_zero, List.push_toArray, List.append_toArray, List.nil_append, List.cons_append]
  gi_wp2
  gi_loopw [7] (fun i wr => ∃ k : Nat, k ≤ M ∧ i = .int .i64 k ∧ ∃ C, J (timesL T k) C wr ∧ But C₀ W wr ∧ Grw C₀ C W ∧ Below w₀.heap.size w₀ wr ∧ W.heap.size ≤ wr.heap.size) (fun i _ => M - (intOf i).toNat)
  case atStart => exact ⟨0, Nat.zero_le _, rfl, C₀, h0, But.refl _ _, Grw.refl _ _, hW, Nat.le_refl _⟩
  case round =>
    clear n0
    obtain ⟨k, hk, rfl, C, hj, hbut, hg, hB, hz⟩ := hrel
    by_cases hlt : k < M
    · obtain ⟨_, Yk, Yt⟩ := hRd _ _ _ hj
      have t0 := Yt.at_ 0 rfl; have lt := Yt.lt
      have k0 := Yk.at_ 0 rfl; have lk := Yk.lt
      obtain ⟨fn, tmps, asg, bdy, hy, hR⟩ := hY (timesL T k) (T + k) C wr hj hB (by rw [← timesL_succ]; exact timesL_pre T (k + 1) M (by omega))
      rw [← timesL_succ] at hR
      dsimp only [encT] at hy
      rw [show (((T + k : Nat)) : Int) = (T : Int) + (k : Int) from by simp] at hy
      have hsi := IntWalk.i64_in ((T : Int) + (k : Int)) (by omega)
      gi_wp2_with fail
      refine ⟨rfl, hR.mono ?_⟩
      rintro e W4 ⟨C', hbut4, hg4, (⟨rfl, hj4⟩ | ⟨rfl, hj4⟩)⟩
      · have hs4 := hbut4.size
        have hBw4 : Below w₀.heap.size w₀ W4 := hB.trans ⟨hbut4.os, hbut4.tape, hbut4.output, hbut4.size, fun b hb => hbut4.block b (by have := hB.size; omega) (fun h => by have := (hC _ _ _ hj b h).1; omega)⟩
        gi_wp2_with fail
        go_roundw
        case rel => exact ⟨k + 1, by omega, by go_num, C', hj4, hbut.trans' hbut4 hg, fun b h => (hg4 b h).elim (hg b) (fun h2 => .inr (by omega)), hBw4, by omega⟩
        case measure => simp [intOf]; omega
      · gi_wp2_with fail
        refine bodyPost_ret (results_none rfl _ _ _) rfl ?_
        exact ⟨⟨_, rfl⟩, C', hbut.trans' hbut4 hg, fun b h => (hg4 b h).elim (hg b) (fun h2 => .inr (by omega)), .inr ⟨_, timesL_pre T (k + 1) M (by omega), hj4⟩⟩
    · obtain rfl : k = M := (by omega)
      gi_wp2
      go_end0
      exact ⟨⟨_, rfl⟩, C, hbut, hg, .inl hj⟩
def RunX (W H n p d r M bn bk bt : Nat) (ar ax : Option Addr) (nr cr cx : Nat) (F G : List Nat → Nat → C4) (w : World) (pre : List Nat) (C : Nat → Prop) (X : World) : Prop :=
  ∃ bA cA bB cB, C = (fun q => (w.heap.size ≤ q ∧ q < M) ∨ q = bA ∨ q = bB) ∧ Bx X r #[.int .i64 0, .int .i64 0, .slice none 0 0, .slice none 0 0] ∧ Bx X d #[.pointer (some ⟨p, 0, none⟩)] ∧ Bx X p #[.int .i64 (W : Int), .int .i64 (H : Int), .slice (some ⟨bA, 0, none⟩) n cA, .slice (some ⟨bB, 0, none⟩) n cB, .slice ar nr cr, .slice ax 1 cx] ∧ Ro X bA (n * 4) (flatC (F pre)) ∧ Ro X bB (n * 4) (flatC (G pre)) ∧ RdS 0 4 bn bk bt X ∧ Below w.heap.size w X ∧
    ((w.heap.size ≤ r ∧ r < M ∧ w.heap.size ≤ d ∧ d < M ∧ w.heap.size ≤ p ∧ p < M ∧ w.heap.size ≤ bn ∧ bn < M ∧ w.heap.size ≤ bk ∧ bk < M ∧ w.heap.size ≤ bt ∧ bt < M ∧ w.heap.size ≤ bA ∧ w.heap.size ≤ bB) ∧ (r ≠ bA ∧ d ≠ bA ∧ p ≠ bA ∧ bn ≠ bA ∧ bk ≠ bA ∧ bt ≠ bA) ∧ (r ≠ bB ∧ d ≠ bB ∧ p ≠ bB ∧ bn ≠ bB ∧ bk ≠ bB ∧ bt ≠ bB) ∧ (d ≠ p ∧ r ≠ p ∧ bn ≠ p ∧ bk ≠ p ∧ bt ≠ p ∧ bA ≠ bB) ∧ M ≤ X.heap.size)
theorem runX_stab {W H n p d r M bn bk bt : Nat} {ar ax : Option Addr} {nr cr cx : Nat} {F G : List Nat → Nat → C4} {w : World} : Stab w.heap.size (RunX W H n p d r M bn bk bt ar ax nr cr cx F G w) := by
  rintro pre C A B ⟨bA, cA, bB, cB, rfl, h1, h2, h3, h4, h4', ⟨g1, g2, g3⟩, h5, ⟨⟨a1, a2, a3, a4, a5, a6, a7, a8, a9, a10, a11, a12, a13, a14⟩, k1, k2, k3, k4⟩⟩ hb
  have key : ∀ q, ((w.heap.size ≤ q ∧ q < M) ∨ q = bA ∨ q = bB) → ¬ (w.heap.size ≤ q ∧ ¬ ((w.heap.size ≤ q ∧ q < M) ∨ q = bA ∨ q = bB)) := fun q h h' => h'.2 h
  have e1 := h1.but hb (key _ (.inl ⟨a1, a2⟩))
  have e2 := h2.but hb (key _ (.inl ⟨a3, a4⟩))
  have e3 := h3.but hb (key _ (.inl ⟨a5, a6⟩))
  have e4 := ro_but h4 hb (key _ (.inr (.inl rfl)))
  have e5 := ro_but h4' hb (key _ (.inr (.inr rfl)))
  have e6 := g1.but hb (key _ (.inl ⟨a7, a8⟩))
  have e7 := g2.but hb (key _ (.inl ⟨a9, a10⟩))
  have e8 := g3.but hb (key _ (.inl ⟨a11, a12⟩))
  have e9 : Below w.heap.size w B := h5.trans ⟨hb.os, hb.tape, hb.output, hb.size, fun q hq => hb.block q (Nat.lt_of_lt_of_le hq h5.size) (fun h => absurd h.1 (Nat.not_le.2 hq))⟩
  exact ⟨bA, cA, bB, cB, rfl, e1, e2, e3, e4, e5, ⟨e6, e7, e8⟩, e9, ⟨a1, a2, a3, a4, a5, a6, a7, a8, a9, a10, a11, a12, a13, a14⟩, k1, k2, k3, Nat.le_trans k4 hb.size⟩
theorem runL_mass {W H nr : Nat} {r : Nat → Int × Int} {g : Nat → C4} (L : List Nat) : massTo (runL W H nr r g L) (W * H) = massTo g (W * H) := by
  unfold runL
  induction L generalizing g with
  | nil => rfl
  | cons x L ih =>
    rw [List.foldl_cons, ih]
    unfold stepG stepW
    rw [flow_mass, metF_mass]
theorem validX_ok {W H n m : Nat} {g k : Nat → C4} (h : validX W H n m g k = true) : (1 ≤ W ∧ W ≤ 64) ∧ (1 ≤ H ∧ H ≤ 64) ∧ n = W * H ∧ m = W * H ∧ W * H ≤ 1024 ∧ okG (W * H) g ∧ okG (W * H) k ∧ massTo g (W * H) + massTo k (W * H) ≤ 1000000000 := by
  obtain ⟨v1, v2, v3⟩ := (validX_iff _ _ _ _ _ _).1 h
  obtain ⟨a1, a2, a3, a4, a5, a6, a7, a8⟩ := (validG_iff _ _ _ _).1 v1
  obtain ⟨b1, b2, b3, b4, b5, b6, b7, b8⟩ := (validG_iff _ _ _ _).1 v2
  have en : n = W * H := by exact_mod_cast a6
  have em : m = W * H := by exact_mod_cast b6
  subst en
  subst em
  exact ⟨⟨by omega, by omega⟩, ⟨by omega, by omega⟩, rfl, rfl, by omega, ⟨a7, a8⟩, ⟨b7, b8⟩, v3⟩
theorem phase_steps2 (T M : Int) (w : World) : Calls Tryz.prog 23 #[.int .i64 T, .int .i64 M, .bool false] w fun e w' => ∃ bn bk bt, e = .returned (.func (.func 46) #[] #[.pointer (some ⟨bn, 0, none⟩), .pointer (some ⟨bk, 0, none⟩), .pointer (some ⟨bt, 0, none⟩)]) ∧ Bx w' bn #[.int .i64 M] ∧ Bx w' bk #[.bool false] ∧ Bx w' bt #[.int .i64 T] ∧ (w.heap.size ≤ bn ∧ w.heap.size ≤ bk ∧ w.heap.size ≤ bt) ∧ Below w.heap.size w w' := by
  have X0 := ((Bx.new w #[.int .i64 T] 3).alloc (.cells #[.int .i64 M] 3)).alloc (.cells #[.bool false] 4)
  have X1 := (Bx.new (w.alloc (.cells #[.int .i64 T] 3)) #[.int .i64 M] 3).alloc (.cells #[.bool false] 4)
  have X2 := Bx.new ((w.alloc (.cells #[.int .i64 T] 3)).alloc (.cells #[.int .i64 M] 3)) #[.bool false] 4
  simp only [World.size_alloc] at X1 X2
  have hB0 : Below w.heap.size w (((w.alloc (.cells #[.int .i64 T] 3)).alloc (.cells #[.int .i64 M] 3)).alloc (.cells #[.bool false] 4)) := by (repeat' (first | with_reducible assumption | with_reducible exact Below.refl _ _ | with_reducible refine Below.drew ?_ | with_reducible refine below_drewN ?_ _ | with_reducible refine balloc ?_ _ | with_reducible refine bset ?_ ?_ _ | with_reducible refine Below.setCell ?_ ?_ _ | with_reducible refine Below.alloc ?_ ?_ _ | omega | (simp; done) | (simp; omega)))
  go_enter Tryz.func23, Tryz.ntmps23
  go_wp2_with fail
  generalize (((w.alloc (.cells #[.int .i64 T] 3)).alloc (.cells #[.int .i64 M] 3)).alloc (.cells #[.bool false] 4)) = W0 at X0 X1 X2 hB0 ⊢
  have z0 := X0.lt
  have z1 := X1.lt
  have z2 := X2.lt
  go_ret
  exact ⟨_, _, _, rfl, X1, X2, X0, ⟨by omega, by omega, by omega⟩, hB0⟩
theorem dup7 {X : Prop} {H G : World → Nat → Nat → Nat → Nat → Nat → Nat → Prop} (main : (∀ w5 p d gA cA gB cB, H w5 p d gA cA gB cB → G w5 p d gA cA gB cB) → X) (key : ∀ w5 p d gA cA gB cB, H w5 p d gA cA gB cB → G w5 p d gA cA gB cB) : X := main key
def PhK (W H n : Nat) (ar ax : Option Addr) (nr cr cx : Nat) (g k : Nat → C4) (w1 w5 : World) (p d gA cA gB cB : Nat) : Prop :=
  Below w1.heap.size w1 w5 ∧ Bx w5 p #[.int .i64 (W : Int), .int .i64 (H : Int), .slice (some ⟨gA, 0, none⟩) n cA, .slice (some ⟨gB, 0, none⟩) n cB, .slice ar nr cr, .slice ax 1 cx] ∧ Bx w5 d #[.pointer none] ∧ Ro w5 gA (n * 4) (flatC g) ∧ Ro w5 gB (n * 4) (flatC k) ∧ (w1.heap.size ≤ p ∧ w1.heap.size ≤ d ∧ w1.heap.size ≤ gA ∧ w1.heap.size ≤ gB) ∧ (d ≠ p ∧ d ≠ gA ∧ d ≠ gB ∧ p ≠ gA ∧ p ≠ gB ∧ gA ≠ gB)
set_option maxRecDepth 100000 in
set_option maxHeartbeats 8000000 in
theorem phase_Run4 (W H n c d nr cr cx : Nat) (a b ar ax : Option Addr) (g k : Nat → C4) (r : Nat → Int × Int) (w : World) (hnr : nr ≤ 100000) (S : Sc w a n g) (T : Sc w b n k) (SR : Sr w ar nr r) (SX : Sr w ax 1 (fun _ => (0, 0))) (hv : validX W H n n g k = true) (hr : rulesB nr r = true) :
    Calls Tryz.prog 7 #[.agg #[.int .i64 (W : Int), .int .i64 (H : Int), .slice a n c, .slice b n d], .slice ar nr cr, .slice ax 1 cx, .int .i64 0, .int .i64 4] w (RunPh W H n (runL W H nr r g (timesL 0 4)) (runL W H nr r k (timesL 0 4)) w) := by
  obtain ⟨h1, h2, hnn, hnn', hm, hA, hB, hmm⟩ := validX_ok hv
  have hn0 : 0 < W * H := Nat.mul_pos (by omega) (by omega)
  obtain ⟨c1, c2, c3⟩ := (rulesB_iff _ _).1 hr
  have hru : ∀ s, ruleOk (rlAt nr r s).1 (rlAt nr r s).2 := fun s => (ruleB_iff _ _).1 (c3 _ (Nat.mod_lt _ (by omega)))
  have hask := fun Y S' T' SR' SX' => phase_asked0 (W : Int) (H : Int) a b n n c d g k Y (by omega) (by omega) S' T' ar ax nr cr cx r hnr SR' SX' hv hr
  have hf := fun Y => phase_first (W : Int) (H : Int) a b n n c d Y
  have hs := fun Y => phase_second (W : Int) (H : Int) a b n n c d Y
  have hof := fun Y S' T' => phase_of (W : Int) (H : Int) (W : Int) (H : Int) a b n n c d g k Y (by omega) (by omega) (by omega) (by omega) S' T'
  have hst := fun p t bA bB cA cB A B Y hA' hB' hmm' ht hB0 hp hbA hbB hAB hpA hpB X RA RB => phase_forth W H n p t bA bB cA cB nr cr cx ar ax r A B w Y h1 h2 hnn hm (by omega) (by omega) ht hB0 hp hbA hbB hAB hpA hpB SR SX X RA RB hA' hB' hmm' (hru t)
  have hokA := fun pre => runL_ok (nr := nr) (r := r) hA pre
  have hokB := fun pre => runL_ok (nr := nr) (r := r) hB pre
  have hmsA : ∀ pre, massTo (runL W H nr r g pre) (W * H) = massTo g (W * H) := fun pre => runL_mass (nr := nr) (r := r) pre
  have hmsB : ∀ pre, massTo (runL W H nr r k pre) (W * H) = massTo k (W * H) := fun pre => runL_mass (nr := nr) (r := r) pre
  have hsnA := fun pre s => runL_snoc W H nr r g pre s
  have hsnB := fun pre s => runL_snoc W H nr r k pre s
  have hnilA : runL W H nr r g [] = g := rfl
  have hnilB : runL W H nr r k [] = k := rfl
  generalize runL W H nr r g = F at *
  generalize runL W H nr r k = G at *
  generalize stepG W H = SG at *
  have hSt : ∀ (p t bA bB cA cB : Nat) (pre : List Nat) (Y : World), t ≤ 1000000 → Below w.heap.size w Y → w.heap.size ≤ p → w.heap.size ≤ bA → w.heap.size ≤ bB → bA ≠ bB → p ≠ bA → p ≠ bB → Bx Y p #[.int .i64 (W : Int), .int .i64 (H : Int), .slice (some ⟨bA, 0, none⟩) n cA, .slice (some ⟨bB, 0, none⟩) n cB, .slice ar nr cr, .slice ax 1 cx] → Ro Y bA (n * 4) (flatC (F pre)) → Ro Y bB (n * 4) (flatC (G pre)) →
      Calls Tryz.prog 24 #[.pointer (some ⟨p, 0, none⟩), .int .i64 (t : Int)] Y fun e w' => (∃ v, e = .returned v) ∧ ∃ bA' cA' bB' cB', Bx w' p #[.int .i64 (W : Int), .int .i64 (H : Int), .slice (some ⟨bA', 0, none⟩) n cA', .slice (some ⟨bB', 0, none⟩) n cB', .slice ar nr cr, .slice ax 1 cx] ∧ Ro w' bA' (n * 4) (flatC (F (pre ++ [t]))) ∧ Ro w' bB' (n * 4) (flatC (G (pre ++ [t]))) ∧ Y.heap.size ≤ bA' ∧ Y.heap.size ≤ bB' ∧ bA' ≠ bB' ∧ n ≤ cA' ∧ n ≤ cB' ∧ But (fun q => q = p ∨ q = bA ∨ q = bB) Y w' := fun p t bA bB cA cB pre Y ht hY hp hbA hbB hAB hpA hpB X RA RB => by
    rw [hsnA, hsnB]
    exact hst p t bA bB cA cB (F pre) (G pre) Y (hokA pre) (hokB pre) (by rw [hmsA, hmsB]; exact hmm) ht hY hp hbA hbB hAB hpA hpB X RA RB
  have HST := hid hSt
  have hn1 : n ≤ 1024 := by omega
  clear hst hokA hokB hmsA hmsB hsnA hsnB hru hSt hA hB hmm hv hr c1 c2 c3 hn0 hnn hnn' hm
  obtain ⟨q1, q2⟩ := h1; obtain ⟨q3, q4⟩ := h2
  have X0 := (Bx.new w #[.int .i64 (W : Int), .int .i64 (H : Int), .slice a n c, .slice b n d] 24).alloc (.cells #[.int .i64 0, .int .i64 0, .slice none 0 0, .slice none 0 0] 24)
  have X1 := Bx.new (w.alloc (.cells #[.int .i64 (W : Int), .int .i64 (H : Int), .slice a n c, .slice b n d] 24)) #[.int .i64 0, .int .i64 0, .slice none 0 0, .slice none 0 0] 24
  simp only [World.size_alloc] at X1
  have hB0 : Below w.heap.size w ((w.alloc (.cells #[.int .i64 (W : Int), .int .i64 (H : Int), .slice a n c, .slice b n d] 24)).alloc (.cells #[.int .i64 0, .int .i64 0, .slice none 0 0, .slice none 0 0] 24)) := by (repeat' (first | with_reducible assumption | with_reducible exact Below.refl _ _ | with_reducible refine Below.drew ?_ | with_reducible refine below_drewN ?_ _ | with_reducible refine balloc ?_ _ | with_reducible refine bset ?_ ?_ _ | with_reducible refine Below.setCell ?_ ?_ _ | with_reducible refine Below.alloc ?_ ?_ _ | omega | (simp; done) | (simp; omega)))
  refine callsIn_wide.1 (callsIn_of_wp_marks (F := Fence.wide) (n := 0) Tryz.func7 rfl trivial ?_ rfl)
  simp only [Tryz.ntmps7, List.size_toArray, List.length_cons, List.length_nil, Nat.reduceAdd, Nat.reduceSub, Array.replicate_succ, Array.replicate_zero, List.push_toArray, List.append_toArray, List.nil_append, List.cons_append]
  refine wpIn_wide.2 ?_
  go_wp2_with fail
  generalize ((w.alloc (.cells #[.int .i64 (W : Int), .int .i64 (H : Int), .slice a n c, .slice b n d] 24)).alloc (.cells #[.int .i64 0, .int .i64 0, .slice none 0 0, .slice none 0 0] 24)) = W0 at X0 X1 hB0 ⊢
  have z0 := X0.lt
  have z1 := X1.lt
  refine (hask _ (S.below hB0) (T.below hB0) (SR.below hB0) (SX.below hB0)).mono ?_
  rintro e w1 ⟨rfl, hb1⟩
  have hs0 := hB0.size
  have hB1 := bvia hB0 hb1
  have hs1 := hb1.size
  replace X0 := X0.below hb1; replace X1 := X1.below hb1
  clear hask hB0 hb1
  go_upto_region 4 with (fail)
  have r0 : ∀ Y, Below w1.heap.size w1 Y → Y.cell? ⟨w.heap.size, 0, none⟩ = some (.int .i64 (W : Int)) := fun Y h => (X0.below h).at_ 0 rfl
  have r1 : ∀ Y, Below w1.heap.size w1 Y → Y.cell? ⟨w.heap.size, 1, none⟩ = some (.int .i64 (H : Int)) := fun Y h => (X0.below h).at_ 1 rfl
  have r2 : ∀ Y, Below w1.heap.size w1 Y → Y.cell? ⟨w.heap.size, 2, none⟩ = some (.slice a n c) := fun Y h => (X0.below h).at_ 2 rfl
  have r3 : ∀ Y, Below w1.heap.size w1 Y → Y.cell? ⟨w.heap.size, 3, none⟩ = some (.slice b n d) := fun Y h => (X0.below h).at_ 3 rfl
  refine wp_region_NP (fun Y => Below w1.heap.size w1 Y) 10 (by kernel_rfl) ?_
  refine anyS_take (i := 0) rfl (by kernel_rfl) (fun _ _ _ h => h) (Or.inl ⟨by rfl, fun Y hYb => (by (try dsimp only at hYb); go_simp; rfl)⟩) (by repeat' (first | with_reducible assumption | with_reducible exact Below.refl _ _ | with_reducible refine Below.drew ?_ | with_reducible refine below_drewN ?_ _)) ?_
  refine anyS_take (i := 2) rfl (by kernel_rfl) (fun _ _ _ h => h) (Or.inl ⟨by rfl, fun Y hYb => (by (try dsimp only at hYb); go_simp; rfl)⟩) (by repeat' (first | with_reducible assumption | with_reducible exact Below.refl _ _ | with_reducible refine Below.drew ?_ | with_reducible refine below_drewN ?_ _)) ?_
  refine anyS_pure (i := 5) rfl (by kernel_rfl) (fun _ _ _ h => h) (Or.inl ⟨by rfl, fun Y hYb => (by clear hYb; go_simp; rfl)⟩) ?_
  refine anyS_pure (i := 6) rfl (by kernel_rfl) (fun _ _ _ h => h) (Or.inl ⟨by rfl, fun Y hYb => (by clear hYb; go_simp; rfl)⟩) ?_
  apply dup7 (H := PhK W H n ar ax nr cr cx g k w1)
  case main =>
    intro KEY
    have hS0 : Below w1.heap.size w1 w1.drew := (Below.refl _ w1).drew
    have hz0 : w1.heap.size ≤ w1.drew.heap.size := hS0.size
    obtain ⟨x0, hx0⟩ : ∃ x0 : World, w1.drew = x0 := ⟨_, rfl⟩
    rw [hx0] at hS0 hz0 ⊢
    have hSx0 := hS0
    refine anyS_two (i := 1) (j := 9) (by kernel_rfl) rfl rfl (by rfl) (by rfl) (fun K hK => ?_) (fun K hK => ?_)
    · go_simp
      refine (hf _).mono ?_
      rintro e x1 ⟨rfl, hbx1⟩
      dsimp only
      have hSx1 : Below w1.heap.size w1 x1 := bvia hSx0 hbx1
      have hzx1 := hbx1.size
      refine hK _ _ (fun _ _ => hSx1) ?_
      clear hK K
      refine anyS_two (i := 3) (j := 9) (by kernel_rfl) rfl rfl (by rfl) (by rfl) (fun K hK => ?_) (fun K hK => ?_)
      · go_simp
        refine (hs _).mono ?_
        rintro e x2 ⟨rfl, hbx2⟩
        dsimp only
        have hSx2 : Below w1.heap.size w1 x2 := bvia hSx1 hbx2
        have hzx2 := hbx2.size
        refine hK _ _ (fun _ _ => hSx2) ?_
        clear hK K
        refine anyS_two (i := 4) (j := 9) (by kernel_rfl) rfl rfl (by rfl) (by rfl) (fun K hK => ?_) (fun K hK => ?_)
        · go_simp
          refine (hof _ (S.below (bvia hB1 hSx2)) (T.below (bvia hB1 hSx2))).mono ?_
          rintro e x3 ⟨gA, cA, gB, cB, rfl, hA1, hA2, hne, RAx3, RBx3, hcA, hcB, hbx3⟩
          dsimp only
          have hSx3 : Below w1.heap.size w1 x3 := bvia hSx2 hbx3
          have hzx3 := hbx3.size
          have zS := hSx2.size
          refine hK _ _ (fun _ _ => hSx3) ?_
          clear hK K
          refine anyS_pure (i := 7) rfl (by kernel_rfl) (fun _ _ _ h => h) (Or.inl ⟨by rfl, fun Y hYb => (by clear hYb; go_simp; rfl)⟩) ?_
          refine anyS_two (i := 8) (j := 9) (by kernel_rfl) rfl rfl (by rfl) (by rfl) (fun K hK => ?_) (fun K hK => ?_)
          · go_simp
            have XN2 := Bx.new x3 #[.int .i64 (W : Int), .int .i64 (H : Int), .slice (some ⟨gA, 0, none⟩) n cA, .slice (some ⟨gB, 0, none⟩) n cB, .slice ar nr cr, .slice ax 1 cx] 64
            have hSx4' : Below w1.heap.size w1 (x3.alloc (.cells #[.int .i64 (W : Int), .int .i64 (H : Int), .slice (some ⟨gA, 0, none⟩) n cA, .slice (some ⟨gB, 0, none⟩) n cB, .slice ar nr cr, .slice ax 1 cx] 64)) := balloc hSx3 _
            refine hK _ _ (fun _ _ => hSx4') ?_
            clear hK K
            have RAx4 := RAx3.alloc (.cells #[.int .i64 (W : Int), .int .i64 (H : Int), .slice (some ⟨gA, 0, none⟩) n cA, .slice (some ⟨gB, 0, none⟩) n cB, .slice ar nr cr, .slice ax 1 cx] 64)
            have RBx4 := RBx3.alloc (.cells #[.int .i64 (W : Int), .int .i64 (H : Int), .slice (some ⟨gA, 0, none⟩) n cA, .slice (some ⟨gB, 0, none⟩) n cB, .slice ar nr cr, .slice ax 1 cx] 64)
            have lA2 := RAx3.lt; have lB2 := RBx3.lt
            have zP := hSx3.size
            obtain ⟨x4, hx4⟩ : ∃ x4 : World, x3.alloc (.cells #[.int .i64 (W : Int), .int .i64 (H : Int), .slice (some ⟨gA, 0, none⟩) n cA, .slice (some ⟨gB, 0, none⟩) n cB, .slice ar nr cr, .slice ax 1 cx] 64) = x4 := ⟨_, rfl⟩
            rw [hx4] at XN2 hSx4' RAx4 RBx4 ⊢
            have hSx4 := hSx4'
            have XPx4 := XN2
            refine anyS_one (i := 9) (by kernel_rfl) rfl (by rfl) (fun K hK => ?_)
            go_simp
            have XN := Bx.new x4 #[.pointer none] 62
            have hSx5' : Below w1.heap.size w1 (x4.alloc (.cells #[.pointer none] 62)) := balloc hSx4 _
            refine hK _ _ (fun _ _ => hSx5') ?_
            clear hK K
            obtain ⟨x5, hx5⟩ : ∃ x5 : World, x4.alloc (.cells #[.pointer none] 62) = x5 := ⟨_, rfl⟩
            have RAx5 := RAx4.alloc (.cells #[.pointer none] 62)
            have RBx5 := RBx4.alloc (.cells #[.pointer none] 62)
            have XPx5 := XPx4.alloc (.cells #[.pointer none] 62)
            have zD := hSx4.size
            rw [hx5] at XN hSx5' RAx5 RBx5 XPx5 ⊢
            have hSx5 := hSx5'
            have XDx5 := XN
            have lDx5 := XN.lt
            have lA := RAx4.lt; have lB := RBx4.lt
            have lP := XPx4.lt
            have hh : PhK W H n ar ax nr cr cx g k w1 x5 x3.heap.size x4.heap.size gA cA gB cB := ⟨hSx5, XPx5, XDx5, RAx5, RBx5, ⟨by omega, by omega, by omega, by omega⟩, by omega, by omega, by omega, by omega, by omega, by omega⟩
            generalize x3.heap.size = p at hh ⊢
            generalize x4.heap.size = d' at hh ⊢
            exact KEY _ _ _ _ _ _ _ hh
          · go_simp
            have XN := Bx.new x3 #[.pointer none] 62
            have hSx6' : Below w1.heap.size w1 (x3.alloc (.cells #[.pointer none] 62)) := balloc hSx3 _
            refine hK _ _ (fun _ _ => hSx6') ?_
            clear hK K
            obtain ⟨x6, hx6⟩ : ∃ x6 : World, x3.alloc (.cells #[.pointer none] 62) = x6 := ⟨_, rfl⟩
            have RAx6 := RAx3.alloc (.cells #[.pointer none] 62)
            have RBx6 := RBx3.alloc (.cells #[.pointer none] 62)
            have zD := hSx3.size
            rw [hx6] at XN hSx6' RAx6 RBx6 ⊢
            have hSx6 := hSx6'
            have XDx6 := XN
            have lDx6 := XN.lt
            have lA := RAx3.lt; have lB := RBx3.lt
            refine anyS_one (i := 8) (by kernel_rfl) rfl (by rfl) (fun K hK => ?_)
            go_simp
            have XN2 := Bx.new x6 #[.int .i64 (W : Int), .int .i64 (H : Int), .slice (some ⟨gA, 0, none⟩) n cA, .slice (some ⟨gB, 0, none⟩) n cB, .slice ar nr cr, .slice ax 1 cx] 64
            have hSx7' : Below w1.heap.size w1 (x6.alloc (.cells #[.int .i64 (W : Int), .int .i64 (H : Int), .slice (some ⟨gA, 0, none⟩) n cA, .slice (some ⟨gB, 0, none⟩) n cB, .slice ar nr cr, .slice ax 1 cx] 64)) := balloc hSx6 _
            refine hK _ _ (fun _ _ => hSx7') ?_
            clear hK K
            have RAx7 := RAx6.alloc (.cells #[.int .i64 (W : Int), .int .i64 (H : Int), .slice (some ⟨gA, 0, none⟩) n cA, .slice (some ⟨gB, 0, none⟩) n cB, .slice ar nr cr, .slice ax 1 cx] 64)
            have RBx7 := RBx6.alloc (.cells #[.int .i64 (W : Int), .int .i64 (H : Int), .slice (some ⟨gA, 0, none⟩) n cA, .slice (some ⟨gB, 0, none⟩) n cB, .slice ar nr cr, .slice ax 1 cx] 64)
            have lA2 := RAx6.lt; have lB2 := RBx6.lt
            have zP := hSx6.size
            have XDx7 := XDx6.alloc (.cells #[.int .i64 (W : Int), .int .i64 (H : Int), .slice (some ⟨gA, 0, none⟩) n cA, .slice (some ⟨gB, 0, none⟩) n cB, .slice ar nr cr, .slice ax 1 cx] 64)
            have lD2 := XDx6.lt
            obtain ⟨x7, hx7⟩ : ∃ x7 : World, x6.alloc (.cells #[.int .i64 (W : Int), .int .i64 (H : Int), .slice (some ⟨gA, 0, none⟩) n cA, .slice (some ⟨gB, 0, none⟩) n cB, .slice ar nr cr, .slice ax 1 cx] 64) = x7 := ⟨_, rfl⟩
            rw [hx7] at XN2 hSx7' RAx7 RBx7 XDx7 ⊢
            have hSx7 := hSx7'
            have XPx7 := XN2
            have hh : PhK W H n ar ax nr cr cx g k w1 x7 x6.heap.size x3.heap.size gA cA gB cB := ⟨hSx7, XPx7, XDx7, RAx7, RBx7, ⟨by omega, by omega, by omega, by omega⟩, by omega, by omega, by omega, by omega, by omega, by omega⟩
            generalize x6.heap.size = p at hh ⊢
            generalize x3.heap.size = d' at hh ⊢
            exact KEY _ _ _ _ _ _ _ hh
        · go_simp
          have XN := Bx.new x2 #[.pointer none] 62
          have hSx8' : Below w1.heap.size w1 (x2.alloc (.cells #[.pointer none] 62)) := balloc hSx2 _
          refine hK _ _ (fun _ _ => hSx8') ?_
          clear hK K
          obtain ⟨x8, hx8⟩ : ∃ x8 : World, x2.alloc (.cells #[.pointer none] 62) = x8 := ⟨_, rfl⟩
          have zD := hSx2.size
          rw [hx8] at XN hSx8' ⊢
          have hSx8 := hSx8'
          have XDx8 := XN
          have lDx8 := XN.lt
          refine anyS_one (i := 4) (by kernel_rfl) rfl (by rfl) (fun K hK => ?_)
          go_simp
          refine (hof _ (S.below (bvia hB1 hSx8)) (T.below (bvia hB1 hSx8))).mono ?_
          rintro e x9 ⟨gA, cA, gB, cB, rfl, hA1, hA2, hne, RAx9, RBx9, hcA, hcB, hbx9⟩
          dsimp only
          have hSx9 : Below w1.heap.size w1 x9 := bvia hSx8 hbx9
          have hzx9 := hbx9.size
          have zS := hSx8.size
          have XDx9 := XDx8.below hbx9
          have lD := XDx8.lt
          refine hK _ _ (fun _ _ => hSx9) ?_
          clear hK K
          refine anyS_pure (i := 7) rfl (by kernel_rfl) (fun _ _ _ h => h) (Or.inl ⟨by rfl, fun Y hYb => (by clear hYb; go_simp; rfl)⟩) ?_
          refine anyS_one (i := 8) (by kernel_rfl) rfl (by rfl) (fun K hK => ?_)
          go_simp
          have XN2 := Bx.new x9 #[.int .i64 (W : Int), .int .i64 (H : Int), .slice (some ⟨gA, 0, none⟩) n cA, .slice (some ⟨gB, 0, none⟩) n cB, .slice ar nr cr, .slice ax 1 cx] 64
          have hSx10' : Below w1.heap.size w1 (x9.alloc (.cells #[.int .i64 (W : Int), .int .i64 (H : Int), .slice (some ⟨gA, 0, none⟩) n cA, .slice (some ⟨gB, 0, none⟩) n cB, .slice ar nr cr, .slice ax 1 cx] 64)) := balloc hSx9 _
          refine hK _ _ (fun _ _ => hSx10') ?_
          clear hK K
          have RAx10 := RAx9.alloc (.cells #[.int .i64 (W : Int), .int .i64 (H : Int), .slice (some ⟨gA, 0, none⟩) n cA, .slice (some ⟨gB, 0, none⟩) n cB, .slice ar nr cr, .slice ax 1 cx] 64)
          have RBx10 := RBx9.alloc (.cells #[.int .i64 (W : Int), .int .i64 (H : Int), .slice (some ⟨gA, 0, none⟩) n cA, .slice (some ⟨gB, 0, none⟩) n cB, .slice ar nr cr, .slice ax 1 cx] 64)
          have lA2 := RAx9.lt; have lB2 := RBx9.lt
          have zP := hSx9.size
          have XDx10 := XDx9.alloc (.cells #[.int .i64 (W : Int), .int .i64 (H : Int), .slice (some ⟨gA, 0, none⟩) n cA, .slice (some ⟨gB, 0, none⟩) n cB, .slice ar nr cr, .slice ax 1 cx] 64)
          have lD2 := XDx9.lt
          obtain ⟨x10, hx10⟩ : ∃ x10 : World, x9.alloc (.cells #[.int .i64 (W : Int), .int .i64 (H : Int), .slice (some ⟨gA, 0, none⟩) n cA, .slice (some ⟨gB, 0, none⟩) n cB, .slice ar nr cr, .slice ax 1 cx] 64) = x10 := ⟨_, rfl⟩
          rw [hx10] at XN2 hSx10' RAx10 RBx10 XDx10 ⊢
          have hSx10 := hSx10'
          have XPx10 := XN2
          have hh : PhK W H n ar ax nr cr cx g k w1 x10 x9.heap.size x2.heap.size gA cA gB cB := ⟨hSx10, XPx10, XDx10, RAx10, RBx10, ⟨by omega, by omega, by omega, by omega⟩, by omega, by omega, by omega, by omega, by omega, by omega⟩
          generalize x9.heap.size = p at hh ⊢
          generalize x2.heap.size = d' at hh ⊢
          exact KEY _ _ _ _ _ _ _ hh
      · go_simp
        have XN := Bx.new x1 #[.pointer none] 62
        have hSx11' : Below w1.heap.size w1 (x1.alloc (.cells #[.pointer none] 62)) := balloc hSx1 _
        refine hK _ _ (fun _ _ => hSx11') ?_
        clear hK K
        obtain ⟨x11, hx11⟩ : ∃ x11 : World, x1.alloc (.cells #[.pointer none] 62) = x11 := ⟨_, rfl⟩
        have zD := hSx1.size
        rw [hx11] at XN hSx11' ⊢
        have hSx11 := hSx11'
        have XDx11 := XN
        have lDx11 := XN.lt
        refine anyS_one (i := 3) (by kernel_rfl) rfl (by rfl) (fun K hK => ?_)
        go_simp
        refine (hs _).mono ?_
        rintro e x12 ⟨rfl, hbx12⟩
        dsimp only
        have hSx12 : Below w1.heap.size w1 x12 := bvia hSx11 hbx12
        have hzx12 := hbx12.size
        have XDx12 := XDx11.below hbx12
        refine hK _ _ (fun _ _ => hSx12) ?_
        clear hK K
        refine anyS_one (i := 4) (by kernel_rfl) rfl (by rfl) (fun K hK => ?_)
        go_simp
        refine (hof _ (S.below (bvia hB1 hSx12)) (T.below (bvia hB1 hSx12))).mono ?_
        rintro e x13 ⟨gA, cA, gB, cB, rfl, hA1, hA2, hne, RAx13, RBx13, hcA, hcB, hbx13⟩
        dsimp only
        have hSx13 : Below w1.heap.size w1 x13 := bvia hSx12 hbx13
        have hzx13 := hbx13.size
        have zS := hSx12.size
        have XDx13 := XDx12.below hbx13
        have lD := XDx12.lt
        refine hK _ _ (fun _ _ => hSx13) ?_
        clear hK K
        refine anyS_pure (i := 7) rfl (by kernel_rfl) (fun _ _ _ h => h) (Or.inl ⟨by rfl, fun Y hYb => (by clear hYb; go_simp; rfl)⟩) ?_
        refine anyS_one (i := 8) (by kernel_rfl) rfl (by rfl) (fun K hK => ?_)
        go_simp
        have XN2 := Bx.new x13 #[.int .i64 (W : Int), .int .i64 (H : Int), .slice (some ⟨gA, 0, none⟩) n cA, .slice (some ⟨gB, 0, none⟩) n cB, .slice ar nr cr, .slice ax 1 cx] 64
        have hSx14' : Below w1.heap.size w1 (x13.alloc (.cells #[.int .i64 (W : Int), .int .i64 (H : Int), .slice (some ⟨gA, 0, none⟩) n cA, .slice (some ⟨gB, 0, none⟩) n cB, .slice ar nr cr, .slice ax 1 cx] 64)) := balloc hSx13 _
        refine hK _ _ (fun _ _ => hSx14') ?_
        clear hK K
        have RAx14 := RAx13.alloc (.cells #[.int .i64 (W : Int), .int .i64 (H : Int), .slice (some ⟨gA, 0, none⟩) n cA, .slice (some ⟨gB, 0, none⟩) n cB, .slice ar nr cr, .slice ax 1 cx] 64)
        have RBx14 := RBx13.alloc (.cells #[.int .i64 (W : Int), .int .i64 (H : Int), .slice (some ⟨gA, 0, none⟩) n cA, .slice (some ⟨gB, 0, none⟩) n cB, .slice ar nr cr, .slice ax 1 cx] 64)
        have lA2 := RAx13.lt; have lB2 := RBx13.lt
        have zP := hSx13.size
        have XDx14 := XDx13.alloc (.cells #[.int .i64 (W : Int), .int .i64 (H : Int), .slice (some ⟨gA, 0, none⟩) n cA, .slice (some ⟨gB, 0, none⟩) n cB, .slice ar nr cr, .slice ax 1 cx] 64)
        have lD2 := XDx13.lt
        obtain ⟨x14, hx14⟩ : ∃ x14 : World, x13.alloc (.cells #[.int .i64 (W : Int), .int .i64 (H : Int), .slice (some ⟨gA, 0, none⟩) n cA, .slice (some ⟨gB, 0, none⟩) n cB, .slice ar nr cr, .slice ax 1 cx] 64) = x14 := ⟨_, rfl⟩
        rw [hx14] at XN2 hSx14' RAx14 RBx14 XDx14 ⊢
        have hSx14 := hSx14'
        have XPx14 := XN2
        have hh : PhK W H n ar ax nr cr cx g k w1 x14 x13.heap.size x1.heap.size gA cA gB cB := ⟨hSx14, XPx14, XDx14, RAx14, RBx14, ⟨by omega, by omega, by omega, by omega⟩, by omega, by omega, by omega, by omega, by omega, by omega⟩
        generalize x13.heap.size = p at hh ⊢
        generalize x1.heap.size = d' at hh ⊢
        exact KEY _ _ _ _ _ _ _ hh
    · go_simp
      have XN := Bx.new x0 #[.pointer none] 62
      have hSx15' : Below w1.heap.size w1 (x0.alloc (.cells #[.pointer none] 62)) := balloc hSx0 _
      refine hK _ _ (fun _ _ => hSx15') ?_
      clear hK K
      obtain ⟨x15, hx15⟩ : ∃ x15 : World, x0.alloc (.cells #[.pointer none] 62) = x15 := ⟨_, rfl⟩
      have zD := hSx0.size
      rw [hx15] at XN hSx15' ⊢
      have hSx15 := hSx15'
      have XDx15 := XN
      have lDx15 := XN.lt
      refine anyS_one (i := 1) (by kernel_rfl) rfl (by rfl) (fun K hK => ?_)
      go_simp
      refine (hf _).mono ?_
      rintro e x16 ⟨rfl, hbx16⟩
      dsimp only
      have hSx16 : Below w1.heap.size w1 x16 := bvia hSx15 hbx16
      have hzx16 := hbx16.size
      have XDx16 := XDx15.below hbx16
      refine hK _ _ (fun _ _ => hSx16) ?_
      clear hK K
      refine anyS_one (i := 3) (by kernel_rfl) rfl (by rfl) (fun K hK => ?_)
      go_simp
      refine (hs _).mono ?_
      rintro e x17 ⟨rfl, hbx17⟩
      dsimp only
      have hSx17 : Below w1.heap.size w1 x17 := bvia hSx16 hbx17
      have hzx17 := hbx17.size
      have XDx17 := XDx16.below hbx17
      refine hK _ _ (fun _ _ => hSx17) ?_
      clear hK K
      refine anyS_one (i := 4) (by kernel_rfl) rfl (by rfl) (fun K hK => ?_)
      go_simp
      refine (hof _ (S.below (bvia hB1 hSx17)) (T.below (bvia hB1 hSx17))).mono ?_
      rintro e x18 ⟨gA, cA, gB, cB, rfl, hA1, hA2, hne, RAx18, RBx18, hcA, hcB, hbx18⟩
      dsimp only
      have hSx18 : Below w1.heap.size w1 x18 := bvia hSx17 hbx18
      have hzx18 := hbx18.size
      have zS := hSx17.size
      have XDx18 := XDx17.below hbx18
      have lD := XDx17.lt
      refine hK _ _ (fun _ _ => hSx18) ?_
      clear hK K
      refine anyS_pure (i := 7) rfl (by kernel_rfl) (fun _ _ _ h => h) (Or.inl ⟨by rfl, fun Y hYb => (by clear hYb; go_simp; rfl)⟩) ?_
      refine anyS_one (i := 8) (by kernel_rfl) rfl (by rfl) (fun K hK => ?_)
      go_simp
      have XN2 := Bx.new x18 #[.int .i64 (W : Int), .int .i64 (H : Int), .slice (some ⟨gA, 0, none⟩) n cA, .slice (some ⟨gB, 0, none⟩) n cB, .slice ar nr cr, .slice ax 1 cx] 64
      have hSx19' : Below w1.heap.size w1 (x18.alloc (.cells #[.int .i64 (W : Int), .int .i64 (H : Int), .slice (some ⟨gA, 0, none⟩) n cA, .slice (some ⟨gB, 0, none⟩) n cB, .slice ar nr cr, .slice ax 1 cx] 64)) := balloc hSx18 _
      refine hK _ _ (fun _ _ => hSx19') ?_
      clear hK K
      have RAx19 := RAx18.alloc (.cells #[.int .i64 (W : Int), .int .i64 (H : Int), .slice (some ⟨gA, 0, none⟩) n cA, .slice (some ⟨gB, 0, none⟩) n cB, .slice ar nr cr, .slice ax 1 cx] 64)
      have RBx19 := RBx18.alloc (.cells #[.int .i64 (W : Int), .int .i64 (H : Int), .slice (some ⟨gA, 0, none⟩) n cA, .slice (some ⟨gB, 0, none⟩) n cB, .slice ar nr cr, .slice ax 1 cx] 64)
      have lA2 := RAx18.lt; have lB2 := RBx18.lt
      have zP := hSx18.size
      have XDx19 := XDx18.alloc (.cells #[.int .i64 (W : Int), .int .i64 (H : Int), .slice (some ⟨gA, 0, none⟩) n cA, .slice (some ⟨gB, 0, none⟩) n cB, .slice ar nr cr, .slice ax 1 cx] 64)
      have lD2 := XDx18.lt
      obtain ⟨x19, hx19⟩ : ∃ x19 : World, x18.alloc (.cells #[.int .i64 (W : Int), .int .i64 (H : Int), .slice (some ⟨gA, 0, none⟩) n cA, .slice (some ⟨gB, 0, none⟩) n cB, .slice ar nr cr, .slice ax 1 cx] 64) = x19 := ⟨_, rfl⟩
      rw [hx19] at XN2 hSx19' RAx19 RBx19 XDx19 ⊢
      have hSx19 := hSx19'
      have XPx19 := XN2
      have hh : PhK W H n ar ax nr cr cx g k w1 x19 x18.heap.size x0.heap.size gA cA gB cB := ⟨hSx19, XPx19, XDx19, RAx19, RBx19, ⟨by omega, by omega, by omega, by omega⟩, by omega, by omega, by omega, by omega, by omega, by omega⟩
      generalize x18.heap.size = p at hh ⊢
      generalize x0.heap.size = d' at hh ⊢
      exact KEY _ _ _ _ _ _ _ hh
  case key =>
    intro w5 p d gA cA gB cB hh
    obtain ⟨hS5, XP, XD, RA, RB, ⟨z1, z2, z3, z4⟩, n1, n2, n3, n4, n5, n6⟩ := hh
    have hB5 := bvia hB1 hS5
    replace X1 := X1.below hS5
    have d0 := XD.at_ 0 rfl; have dfr := XD.free; have dl := XD.lt
    clear r0 r1 r2 r3 hof hs hf X0 hS5 z0
    refine anyS_one (i := 10) (by kernel_rfl) rfl (by rfl) (fun K hK => ?_)
    go_simp
    refine hK _ _ (fun h _ => absurd h (by decide)) ?_
    clear hK K
    refine anyS_done (by kernel_rfl) ?_ _
    dsimp only [QnP]
    have hU5 : But (fun q => q = d) w5 (w5.setCell ⟨d, 0, none⟩ (.pointer (some ⟨p, 0, none⟩))) := But.set_ (But.refl (fun q => q = d) w5) (p := ⟨d, 0, none⟩) rfl _
    replace XD := XD.set_ 0 (by simp) (.pointer (some ⟨p, 0, none⟩))
    simp only [List.setIfInBounds_toArray, List.set_cons_zero] at XD
    replace X1 := X1.but hU5 (by omega); replace XP := XP.but hU5 (by omega)
    replace RA := ro_but RA hU5 (by omega); replace RB := ro_but RB hU5 (by omega)
    have hB6 : Below w.heap.size w (w5.setCell ⟨d, 0, none⟩ (.pointer (some ⟨p, 0, none⟩))) := by (repeat' (first | with_reducible assumption | with_reducible exact Below.refl _ _ | with_reducible refine Below.drew ?_ | with_reducible refine below_drewN ?_ _ | with_reducible refine balloc ?_ _ | with_reducible refine bset ?_ ?_ _ | with_reducible refine Below.setCell ?_ ?_ _ | with_reducible refine Below.alloc ?_ ?_ _ | omega | (simp; done) | (simp; omega)))
    clear d0 dfr hU5 hB5
    generalize w5.setCell ⟨d, 0, none⟩ (.pointer (some ⟨p, 0, none⟩)) = w6 at *
    go_wp2_with fail
    refine (phase_steps2 0 4 _).mono ?_
    rintro e w7 ⟨bn, bk, bt, rfl, Xn, Xk, Xt, ⟨g1, g2, g3⟩, hb7⟩
    have hB7 := bvia hB6 hb7
    have lA := RA.lt; have lB := RB.lt; have lD := XD.lt; have lP := XP.lt; have l1 := X1.lt
    have ln := Xn.lt; have lk := Xk.lt; have lt := Xt.lt
    replace X1 := X1.below hb7; replace XD := XD.below hb7; replace XP := XP.below hb7
    replace RA := RA.below hb7; replace RB := RB.below hb7
    have hs7 := hb7.size
    have hsw := hB6.size
    clear hb7 hB6
    go_wp2
    refine (wpIn_wide (n := 0)).1 ?_
    have hR0 : RunX W H n p d (w.heap.size + 1) w7.heap.size bn bk bt ar ax nr cr cx F G w [] (fun q => (w.heap.size ≤ q ∧ q < w7.heap.size) ∨ q = gA ∨ q = gB) w7 :=
      ⟨gA, cA, gB, cB, rfl, X1, XD, XP, by rw [hnilA]; exact RA, by rw [hnilB]; exact RB, ⟨Xn, Xk, Xt⟩, hB7, ⟨by omega, by omega, by omega, by omega, by omega, by omega, by omega, by omega, by omega, by omega, by omega, by omega, by omega, by omega⟩, ⟨by omega, by omega, by omega, by omega, by omega, by omega⟩, ⟨by omega, by omega, by omega, by omega, by omega, by omega⟩, ⟨by omega, by omega, by omega, by omega, by omega, by omega⟩, Nat.le_refl _⟩
    clear X1 XD XP RA RB Xn Xk Xt hnilA hnilB
    refine wp_rangeR rfl ent_psteps (psteps_iterR 0 4 bn bk bt w (by omega) (by omega)) hB7 (fun _ => rfl) (RunX W H n p d (w.heap.size + 1) w7.heap.size bn bk bt ar ax nr cr cx F G w) (fun _ _ _ _ => False) (fun q => (w.heap.size ≤ q ∧ q < w7.heap.size) ∨ q = gA ∨ q = gB) ?hRd ?hC runX_stab (fun c => fun _ _ _ _ h => h.elim) hR0 ?hround ?hdone ?hstop
    case hRd =>
      rintro pre C X ⟨b2, c2, b3, c3, rfl, h1, h2, h3, h4, h4', h4r, h5, h6⟩
      exact h4r
    case hC =>
      rintro pre C X ⟨b2, c2, b3, c3, rfl, h1, h2, h3, h4, h4', h4r, h5, ⟨a1, a2, a3, a4, a5, a6, a7, a8, a9, a10, a11, a12, a13, a14⟩, k1, k2, k3, k4⟩ q hq
      have e1 := h4.lt; have e2 := h4'.lt
      clear k1 k2 k3
      omega
    case hround =>
      clear hR0 hB7
      rintro l pre x C X hl hl' hnl ⟨rec2, hrec2⟩ hI hX hgC hpre
      unfold Round
      dsimp only [encT]
      gi_wp2_with fail
      refine ⟨Below.refl _ _, ?_⟩
      intro X₂ hb2 hs2 r2
      obtain ⟨b2, c2, b3, c3, rfl, h1, h2, h3, h4, h4', ⟨hr1, hr2, hr3⟩, h5, h6⟩ := runX_stab pre C X X₂ hI (hb2.mono fun q _ e => ⟨by omega, by rw [e]; exact hnl⟩)
      have hx : x ≤ 1000000 := by
        obtain ⟨k', hk', rfl⟩ := timesL_mem (hpre.subset (show x ∈ pre ++ [x] by simp))
        omega
      have hstp := HST.out p x b2 b3 c2 c3 pre X₂ hx h5 (by omega) (by omega) (by omega) (by omega) (by omega) (by omega) h3 h4 h4'
      have d0 := h2.at_ 0 rfl; have dz := h2.lt
      have H6 := hid h6; clear h6 hI hb2 hs2 r2 hnl
      gi_wp2_with fail
      refine ⟨trivial, rfl, callsIn_of (hstp.mono ?_)⟩
      rintro e X3 ⟨⟨v, rfl⟩, b4, c4, b5, c5, XP', RA', RB', k1, k2, k3, k4, k5, hbut⟩
      clear d0
      gi_wp2_with fail
      obtain ⟨⟨a1, a2, a3, a4, a5, a6, a7, a8, a9, a10, a11, a12, a13, a14⟩, m1, m2, m3, m4⟩ := H6.out
      have hs3 := hbut.size
      refine ⟨fun q => (w.heap.size ≤ q ∧ q < w7.heap.size) ∨ q = b4 ∨ q = b5, hbut.mono fun q _ h => ?_, fun q h => ?_, b4, c4, b5, c5, rfl, h1.but hbut (by omega), h2.but hbut (by omega), XP', RA', RB', ⟨hr1.but hbut (by omega), hr2.but hbut (by omega), hr3.but hbut (by omega)⟩, ?_, ⟨a1, a2, a3, a4, a5, a6, a7, a8, a9, a10, a11, a12, by omega, by omega⟩, ⟨by omega, by omega, by omega, by omega, by omega, by omega⟩, ⟨by omega, by omega, by omega, by omega, by omega, by omega⟩, ⟨by omega, by omega, by omega, by omega, by omega, k3⟩, by omega⟩
      · omega
      · omega
      · exact h5.trans ⟨hbut.os, hbut.tape, hbut.output, hbut.size, fun q hq => hbut.block q (by have := h5.size; omega) (by omega)⟩
    case hdone =>
      clear hR0 hB7
      rintro Dd C X hDd hnD ⟨b2, c2, b3, c3, rfl, h1, h2, h3, h4, h4', h4r, h5, ⟨a1, a2, a3, a4, a5, a6, a7, a8, a9, a10, a11, a12, a13, a14⟩, ⟨m1, m2, m3, _⟩, ⟨m4, m5, m6, _⟩, ⟨m7, m8, _, _, _, m9⟩, m10⟩ hbut hgC hdef
      have x0 := h3.at_ 0 rfl; have x1 := h3.at_ 1 rfl; have x2 := h3.at_ 2 rfl; have x3 := h3.at_ 3 rfl; have x0f := h1.free; have lz := h1.lt; have lp := h3.lt
      have y0 := h2.at_ 0 rfl; have ly := h2.lt
      have r0 := h1.at_ 0 rfl; have r1 := h1.at_ 1 rfl; have r2 := h1.at_ 2 rfl; have r3 := h1.at_ 3 rfl
      go_wp2_with fail
      have R4 := (((h1.set_ 0 (by simp) (.int .i64 (W : Int))).set_ 1 (by simp) (.int .i64 (H : Int))).set_ 2 (by simp) (.slice (some ⟨b2, 0, none⟩) n c2)).set_ 3 (by simp) (.slice (some ⟨b3, 0, none⟩) n c3)
      have K4 := ((((h4.far (p := ⟨w.heap.size + 1, 0, none⟩) (by dsimp only; omega) (.int .i64 (W : Int))).far (p := ⟨w.heap.size + 1, 1, none⟩) (by dsimp only; omega) (.int .i64 (H : Int))).far (p := ⟨w.heap.size + 1, 2, none⟩) (by dsimp only; omega) (.slice (some ⟨b2, 0, none⟩) n c2)).far (p := ⟨w.heap.size + 1, 3, none⟩) (by dsimp only; omega) (.slice (some ⟨b3, 0, none⟩) n c3))
      have K5 := ((((h4'.far (p := ⟨w.heap.size + 1, 0, none⟩) (by dsimp only; omega) (.int .i64 (W : Int))).far (p := ⟨w.heap.size + 1, 1, none⟩) (by dsimp only; omega) (.int .i64 (H : Int))).far (p := ⟨w.heap.size + 1, 2, none⟩) (by dsimp only; omega) (.slice (some ⟨b2, 0, none⟩) n c2)).far (p := ⟨w.heap.size + 1, 3, none⟩) (by dsimp only; omega) (.slice (some ⟨b3, 0, none⟩) n c3))
      have B4 : Below w.heap.size w ((((X.setCell ⟨w.heap.size + 1, 0, none⟩ (.int .i64 (W : Int))).setCell ⟨w.heap.size + 1, 1, none⟩ (.int .i64 (H : Int))).setCell ⟨w.heap.size + 1, 2, none⟩ (.slice (some ⟨b2, 0, none⟩) n c2)).setCell ⟨w.heap.size + 1, 3, none⟩ (.slice (some ⟨b3, 0, none⟩) n c3)) := by
        have := h5
        (repeat' (first | with_reducible assumption | with_reducible exact Below.refl _ _ | with_reducible refine Below.drew ?_ | with_reducible refine below_drewN ?_ _ | with_reducible refine balloc ?_ _ | with_reducible refine bset ?_ ?_ _ | with_reducible refine Below.setCell ?_ ?_ _ | with_reducible refine Below.alloc ?_ ?_ _ | omega | (simp; done) | (simp; omega)))
      have hd1 : ((((X.setCell ⟨w.heap.size + 1, 0, none⟩ (.int .i64 (W : Int))).setCell ⟨w.heap.size + 1, 1, none⟩ (.int .i64 (H : Int))).setCell ⟨w.heap.size + 1, 2, none⟩ (.slice (some ⟨b2, 0, none⟩) n c2)).setCell ⟨w.heap.size + 1, 3, none⟩ (.slice (some ⟨b3, 0, none⟩) n c3)).heap[Dd]? = some (.deferred (some [])) := by
        rw [Below.heap_setCell _ _ _ _ (by dsimp only; omega), Below.heap_setCell _ _ _ _ (by dsimp only; omega), Below.heap_setCell _ _ _ _ (by dsimp only; omega), Below.heap_setCell _ _ _ _ (by dsimp only; omega)]
        exact hdef
      have hbp := but_putObj ((((X.setCell ⟨w.heap.size + 1, 0, none⟩ (.int .i64 (W : Int))).setCell ⟨w.heap.size + 1, 1, none⟩ (.int .i64 (H : Int))).setCell ⟨w.heap.size + 1, 2, none⟩ (.slice (some ⟨b2, 0, none⟩) n c2)).setCell ⟨w.heap.size + 1, 3, none⟩ (.slice (some ⟨b3, 0, none⟩) n c3)) Dd (.deferred none)
      have R5 := R4.but hbp (by omega)
      have K6 := ro_but K4 hbp (by omega)
      have K7 := ro_but K5 hbp (by omega)
      have B5 := B4.trans (⟨hbp.os, hbp.tape, hbp.output, hbp.size, fun q hq => hbp.block q (by have := B4.size; omega) (by omega)⟩ : Below w.heap.size _ _)
      have c0 := R5.at_ 0 rfl; have c1 := R5.at_ 1 rfl; have c2' := R5.at_ 2 rfl; have c3' := R5.at_ 3 rfl
      refine ⟨by simp, .inl ⟨_, _, rfl, run_takeDeferred hd1, ?_⟩⟩
      refine ⟨.tuple #[.agg #[.int .i64 (W : Int), .int .i64 (H : Int), .slice (some ⟨b2, 0, none⟩) n c2, .slice (some ⟨b3, 0, none⟩) n c3], .int .i64 0], by simp [results, Tryz.results7, go_sem, c0, c1, c2', c3'], ?_⟩
      exact ⟨b2, c2, b3, c3, rfl, K6, K7, B5⟩
    case hstop =>
      rintro Dd c pre C X hDd hnD hpre h
      exact h.elim
end Go.Proofs.YtpbobhobhbbimaaGreat
