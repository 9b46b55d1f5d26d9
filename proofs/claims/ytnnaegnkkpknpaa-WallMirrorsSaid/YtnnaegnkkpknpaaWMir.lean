/- Walks: the program's grid.Mirrored. -/
import Derived.Test.YtnnaegnkkpknpaaWStream2
import Derived.Test.YtnnaegnkkpknpaaMirPlain
namespace Go.Proofs.Ytnnaegnkkpknpaa
open Go Go.RowKit
set_option linter.unusedVariables false
set_option maxRecDepth 100000 in
set_option maxHeartbeats 1000000 in
theorem cell_Mirrored (c : C4) (w : World) (hv : validC c = true) : Calls Try.prog 115 #[.agg #[.int .i64 c.e, .int .i64 c.n, .int .i64 c.w, .int .i64 c.s]] w fun e w' => e = .returned (.tuple #[.agg #[.int .i64 c.w, .int .i64 c.n, .int .i64 c.e, .int .i64 c.s], .int .i64 0]) ∧ Below w.heap.size w w' := by
  have hval := fun W' => cell_valid c W'
  rw [hv] at hval
  clear hv
  have X0 := (Bx.new w #[.int .i64 c.e, .int .i64 c.n, .int .i64 c.w, .int .i64 c.s] 31).alloc (.cells #[.int .i64 0, .int .i64 0, .int .i64 0, .int .i64 0] 31)
  have X1 := Bx.new (w.alloc (.cells #[.int .i64 c.e, .int .i64 c.n, .int .i64 c.w, .int .i64 c.s] 31)) #[.int .i64 0, .int .i64 0, .int .i64 0, .int .i64 0] 31
  simp only [World.size_alloc] at X1
  have hB0 : Below w.heap.size w ((w.alloc (.cells #[.int .i64 c.e, .int .i64 c.n, .int .i64 c.w, .int .i64 c.s] 31)).alloc (.cells #[.int .i64 0, .int .i64 0, .int .i64 0, .int .i64 0] 31)) := by (repeat' (first | with_reducible assumption | with_reducible exact Below.refl _ _ | with_reducible refine Below.drew ?_ | with_reducible refine below_drewN ?_ _ | with_reducible refine balloc ?_ _ | with_reducible refine bset ?_ ?_ _ | with_reducible refine Below.setCell ?_ ?_ _ | with_reducible refine Below.alloc ?_ ?_ _ | omega | (simp; done) | (simp; omega)))
  go_enter Try.func115, Try.ntmps115
  go_wp2_with fail
  generalize ((w.alloc (.cells #[.int .i64 c.e, .int .i64 c.n, .int .i64 c.w, .int .i64 c.s] 31)).alloc (.cells #[.int .i64 0, .int .i64 0, .int .i64 0, .int .i64 0] 31)) = W0 at X0 X1 hB0 ⊢
  have z0 := X0.lt
  have z1 := X1.lt
  refine (hval _).mono ?_
  rintro e w1 ⟨rfl, hb1⟩
  have hB := hB0
  clear hB0 hval
  replace X0 := X0.below hb1
  replace X1 := X1.below hb1
  replace hB := bvia hB hb1
  clear hb1
  have X0_0 := X0.at_ 0 rfl
  have X0_1 := X0.at_ 1 rfl
  have X0_2 := X0.at_ 2 rfl
  have X0_3 := X0.at_ 3 rfl
  have X0f := X0.free
  have X0z := X0.lt
  have X1_0 := X1.at_ 0 rfl
  have X1_1 := X1.at_ 1 rfl
  have X1_2 := X1.at_ 2 rfl
  have X1_3 := X1.at_ 3 rfl
  have X1f := X1.free
  have X1z := X1.lt
  go_wp2_with fail
  refine bodyPost_ret (v := .tuple #[.agg #[.int .i64 c.w, .int .i64 c.n, .int .i64 c.e, .int .i64 c.s], .int .i64 0]) (by simp [results, Try.results115, go_sem, X1_0, X1_1, X1_2, X1_3]) rfl ⟨rfl, by (repeat' (first | with_reducible assumption | with_reducible exact Below.refl _ _ | with_reducible refine Below.drew ?_ | with_reducible refine below_drewN ?_ _ | with_reducible refine balloc ?_ _ | with_reducible refine bset ?_ ?_ _ | with_reducible refine Below.setCell ?_ ?_ _ | with_reducible refine Below.alloc ?_ ?_ _ | omega | (simp; done) | (simp; omega)))⟩
set_option maxRecDepth 100000 in
set_option maxHeartbeats 1000000 in
theorem grid_mir12 (c : C4) (w : World) (hv : validC c = true) : Calls Try.prog 114 #[.agg #[.int .i64 c.e, .int .i64 c.n, .int .i64 c.w, .int .i64 c.s]] w fun e w' => e = .returned (.agg #[.int .i64 c.w, .int .i64 c.n, .int .i64 c.e, .int .i64 c.s]) ∧ Below w.heap.size w w' := by
  have hmi := fun W' => cell_Mirrored c W' hv
  clear hv
  have X0 := (Bx.new w #[.int .i64 c.e, .int .i64 c.n, .int .i64 c.w, .int .i64 c.s] 31).alloc (.cells #[.int .i64 0, .int .i64 0, .int .i64 0, .int .i64 0] 31)
  have X1 := Bx.new (w.alloc (.cells #[.int .i64 c.e, .int .i64 c.n, .int .i64 c.w, .int .i64 c.s] 31)) #[.int .i64 0, .int .i64 0, .int .i64 0, .int .i64 0] 31
  simp only [World.size_alloc] at X1
  have hB0 : Below w.heap.size w ((w.alloc (.cells #[.int .i64 c.e, .int .i64 c.n, .int .i64 c.w, .int .i64 c.s] 31)).alloc (.cells #[.int .i64 0, .int .i64 0, .int .i64 0, .int .i64 0] 31)) := by (repeat' (first | with_reducible assumption | with_reducible exact Below.refl _ _ | with_reducible refine Below.drew ?_ | with_reducible refine below_drewN ?_ _ | with_reducible refine balloc ?_ _ | with_reducible refine bset ?_ ?_ _ | with_reducible refine Below.setCell ?_ ?_ _ | with_reducible refine Below.alloc ?_ ?_ _ | omega | (simp; done) | (simp; omega)))
  go_enter Try.func114, Try.ntmps114
  go_wp2_with fail
  generalize ((w.alloc (.cells #[.int .i64 c.e, .int .i64 c.n, .int .i64 c.w, .int .i64 c.s] 31)).alloc (.cells #[.int .i64 0, .int .i64 0, .int .i64 0, .int .i64 0] 31)) = W0 at X0 X1 hB0 ⊢
  have z0 := X0.lt
  have z1 := X1.lt
  refine (hmi _).mono ?_
  rintro e w1 ⟨rfl, hb1⟩
  have hB := hB0
  clear hB0 hmi
  replace X0 := X0.below hb1
  replace X1 := X1.below hb1
  replace hB := bvia hB hb1
  clear hb1
  have X0_0 := X0.at_ 0 rfl
  have X0_1 := X0.at_ 1 rfl
  have X0_2 := X0.at_ 2 rfl
  have X0_3 := X0.at_ 3 rfl
  have X0f := X0.free
  have X0z := X0.lt
  have X1_0 := X1.at_ 0 rfl
  have X1_1 := X1.at_ 1 rfl
  have X1_2 := X1.at_ 2 rfl
  have X1_3 := X1.at_ 3 rfl
  have X1f := X1.free
  have X1z := X1.lt
  go_wp2_with fail
  refine bodyPost_ret (v := .agg #[.int .i64 c.w, .int .i64 c.n, .int .i64 c.e, .int .i64 c.s]) (by simp [results, Try.results114, go_sem, X1_0, X1_1, X1_2, X1_3]) rfl ⟨rfl, by (repeat' (first | with_reducible assumption | with_reducible exact Below.refl _ _ | with_reducible refine Below.drew ?_ | with_reducible refine below_drewN ?_ _ | with_reducible refine balloc ?_ _ | with_reducible refine bset ?_ ?_ _ | with_reducible refine Below.setCell ?_ ?_ _ | with_reducible refine Below.alloc ?_ ?_ _ | omega | (simp; done) | (simp; omega)))⟩
theorem grid_mir11 (W x y : Int) (bf : Nat) (v1 v2 : Value) (w : World) (X : Bx w bf #[.int .i64 W, v1, v2]) (h0 : 0 ≤ W) (h1 : W ≤ 1000) (x0 : 0 ≤ x) (x1 : x ≤ 1000) :
    Calls Try.prog 113 #[.int .i64 x, .int .i64 y, .pointer (some ⟨bf, 0, none⟩)] w fun e w' => e = .returned (.tuple #[.int .i64 (W - 1 - x), .int .i64 y]) ∧ w = w' := by
  have c0 := X.at_ 0 rfl
  go_enter Try.func113, Try.ntmps113
  go_wp2
  go_ret2
  exact ⟨rfl, rfl⟩
/-- cells put at places: what has come before k -/
def scG (τ : Nat → Nat) (F : Nat → C4) (k : Nat) : Nat → C4 := fun j => if τ j < k then F j else C4.zero
theorem scG_zero (τ : Nat → Nat) (F : Nat → C4) : scG τ F 0 = fun _ => C4.zero := by funext j; simp [scG]
theorem scG_step {τ : Nat → Nat} {F : Nat → C4} {k t N : Nat} (h1 : τ t = k) (h2 : ∀ j, j < N → τ j = k → j = t) : scG τ F k t = C4.zero ∧ ∀ j, j < N → updC (scG τ F k) t (F t) j = scG τ F (k + 1) j := by
  refine ⟨by simp [scG, h1], fun j hj => ?_⟩
  unfold updC scG
  by_cases e : j = t
  · subst e; simp [h1]
  · have h3 : τ j ≠ k := fun h => e (h2 j hj h)
    rw [if_neg e]
    simp only [show (τ j < k + 1) = (τ j < k) from propext ⟨by omega, by omega⟩]
theorem mir_int {W H i : Nat} (h : i < W * H) : ((W : Int) - 1 - (i : Int) % W) % W + W * (((i : Int) / W) % H) = (mirN W i : Int) := by
  obtain ⟨hx, hy⟩ := row_lt h
  have e1 : (i : Int) % (W : Int) = ((i % W : Nat) : Int) := by simp
  have e2 : (i : Int) / (W : Int) = ((i / W : Nat) : Int) := by simp
  rw [e1, e2, Int.emod_eq_of_lt (by omega) (by omega), Int.emod_eq_of_lt (Int.natCast_nonneg _) (by exact_mod_cast hy)]
  have e3 : (mirN W i : Int) = ((W - 1 - i % W : Nat) : Int) + (i / W : Nat) * (W : Int) := by simp [mirN]
  rw [e3, Int.mul_comm (W : Int)]
  omega
theorem But.setNew {C : Nat → Prop} {X Y : World} (h : But C X Y) {p : Addr} (hp : X.heap.size ≤ p.block) (u : Value) : But C X (Y.setCell p u) :=
  ⟨h.os, h.tape, h.output, by simpa [World.setCell] using h.size, fun b hb hc => (Below.heap_setCell Y p u b (fun e => by omega)).trans (h.block b hb hc)⟩
/-- blocks that are new since the beginning alone are written -/
theorem below_butN {C : Nat → Prop} {w X Y : World} (h : Below w.heap.size w X) (k : But C X Y) (hc : ∀ b, C b → w.heap.size ≤ b) : Below w.heap.size w Y :=
  ⟨k.os.trans h.os, k.tape.trans h.tape, k.output.trans h.output, Nat.le_trans h.size k.size, fun b hb => (k.block b (Nat.lt_of_lt_of_le hb h.size) (fun h' => by have := hc b h'; omega)).trans (h.block b hb)⟩
theorem Sc.but {C : Nat → Prop} {X Y : World} {b : Nat} {n : Nat} {g : Nat → C4} (h : Sc X (some ⟨b, 0, none⟩) n g) (hb : But C X Y) (hc : ¬ C b) : Sc Y (some ⟨b, 0, none⟩) n g := fun k hk => by
  obtain ⟨b', o, e, h1, h2, h3, h4, h5⟩ := h k hk
  obtain ⟨rfl, rfl⟩ : b = b' ∧ o = 0 := by injection e with e; injection e with e1 e2 _; exact ⟨e1, e2.symm⟩
  have eb := hb.block b h1 hc
  exact ⟨b, 0, rfl, Nat.lt_of_lt_of_le h1 hb.size, (World.cell?_of_block eb).trans h2, (World.cell?_of_block eb).trans h3, (World.cell?_of_block eb).trans h4, (World.cell?_of_block eb).trans h5⟩
set_option maxRecDepth 100000 in
set_option maxHeartbeats 8000000 in
theorem grid_movedM (W H : Nat) (b₀ ca b cap bf : Nat) (g : Nat → C4) (v1 v2 : Value) (w : World) (h1 : 1 ≤ W ∧ W ≤ 64) (h2 : 1 ≤ H ∧ H ≤ 64) (S : Sc w (some ⟨b₀, 0, none⟩) (W * H) g) (hv : ∀ i, i < W * H → validC (g i) = true)
    (XF : Bx w bf #[.int .i64 (W : Int), v1, v2]) (R : Ro w b (W * H * 4) (flatC fun _ => C4.zero)) (hbf : bf ≠ b) (hb0 : b₀ ≠ b) :
    Calls Try.prog 111 #[.agg #[.int .i64 (W : Int), .int .i64 (H : Int), .slice (some ⟨b₀, 0, none⟩) (W * H) ca], .agg #[.int .i64 (W : Int), .int .i64 (H : Int), .slice (some ⟨b, 0, none⟩) (W * H) cap], .func (.func 113) #[] #[.pointer (some ⟨bf, 0, none⟩)], .func (.func 114) #[] #[]] w
    fun e w' => e = .returned (.agg #[.int .i64 (W : Int), .int .i64 (H : Int), .slice (some ⟨b, 0, none⟩) (W * H) cap]) ∧ Ro w' b (W * H * 4) (flatC (mirG W g)) ∧ But (fun q => q = b) w w' := by
  have hWH : W * H ≤ 4096 := Nat.mul_le_mul h1.2 h2.2
  have hplace := fun i a n ca W' h => grid_place W H i a n ca W' (by omega) h1.2 h
  have hat := fun x y j b off ca W' x0 x1 y0 y1 hj hjn => grid_at W H x y j b off (W * H) ca W' (by omega) h1.2 (by omega) h2.2 x0 x1 y0 y1 hj hjn hWH
  have hint := fun i h => mir_int (W := W) (H := H) (i := i) h
  have hlt4 := fun i (h : i < W * H) => mirN_lt (W := W) (H := H) h
  have hmm := fun i (h : i < W * H) => mirN_mirN (W := W) (H := H) h
  have hxy := fun i (h : i < W * H) => row_lt h
  have hch := fun i W' h => grid_mir12 (g i) W' (hv i h)
  have hto := fun x y W' X h0 h1' => grid_mir11 (W : Int) x y bf v1 v2 W' X (by omega) (by omega) h0 h1'
  have hG : ∀ i, i < W * H → mirG W g (mirN W i) = mirC (g i) := fun i h => by
    show mirC (g (mirN W (mirN W i))) = _
    rw [mirN_mirN h]
  obtain ⟨u1, u2⟩ := h1; obtain ⟨u3, u4⟩ := h2
  have hbl := R.lt; have hbfl := XF.lt
  generalize mirG W g = G at *
  generalize mirN W = τ at *
  generalize hP : W * H = n at *
  clear hP
  have HPl := hid hplace; have HAt := hid hat; have HIn := hid hint; have HLt := hid hlt4; have HMm := hid hmm; have HXy := hid hxy; have HCh := hid hch; have HTo := hid hto; have HG := hid hG
  clear hplace hat hint hlt4 hmm hxy hch hto hG hv
  have X0 := ((Bx.new w #[.int .i64 (W : Int), .int .i64 (H : Int), .slice (some ⟨b₀, 0, none⟩) n ca] 131).alloc (.cells #[.int .i64 (W : Int), .int .i64 (H : Int), .slice (some ⟨b, 0, none⟩) n cap] 131)).alloc (.cells #[.int .i64 0, .int .i64 0, .slice none 0 0] 131)
  have X1 := (Bx.new (w.alloc (.cells #[.int .i64 (W : Int), .int .i64 (H : Int), .slice (some ⟨b₀, 0, none⟩) n ca] 131)) #[.int .i64 (W : Int), .int .i64 (H : Int), .slice (some ⟨b, 0, none⟩) n cap] 131).alloc (.cells #[.int .i64 0, .int .i64 0, .slice none 0 0] 131)
  have X2 := Bx.new ((w.alloc (.cells #[.int .i64 (W : Int), .int .i64 (H : Int), .slice (some ⟨b₀, 0, none⟩) n ca] 131)).alloc (.cells #[.int .i64 (W : Int), .int .i64 (H : Int), .slice (some ⟨b, 0, none⟩) n cap] 131)) #[.int .i64 0, .int .i64 0, .slice none 0 0] 131
  simp only [World.size_alloc] at X1 X2
  have hB0 : Below w.heap.size w (((w.alloc (.cells #[.int .i64 (W : Int), .int .i64 (H : Int), .slice (some ⟨b₀, 0, none⟩) n ca] 131)).alloc (.cells #[.int .i64 (W : Int), .int .i64 (H : Int), .slice (some ⟨b, 0, none⟩) n cap] 131)).alloc (.cells #[.int .i64 0, .int .i64 0, .slice none 0 0] 131)) := by (repeat' (first | with_reducible assumption | with_reducible exact Below.refl _ _ | with_reducible refine Below.drew ?_ | with_reducible refine below_drewN ?_ _ | with_reducible refine balloc ?_ _ | with_reducible refine bset ?_ ?_ _ | with_reducible refine Below.setCell ?_ ?_ _ | with_reducible refine Below.alloc ?_ ?_ _ | omega | (simp; done) | (simp; omega)))
  go_enter Try.func111, Try.ntmps111
  go_wp2_with fail
  generalize (((w.alloc (.cells #[.int .i64 (W : Int), .int .i64 (H : Int), .slice (some ⟨b₀, 0, none⟩) n ca] 131)).alloc (.cells #[.int .i64 (W : Int), .int .i64 (H : Int), .slice (some ⟨b, 0, none⟩) n cap] 131)).alloc (.cells #[.int .i64 0, .int .i64 0, .slice none 0 0] 131)) = W0 at X0 X1 X2 hB0 ⊢
  have z0 := X0.lt
  have z1 := X1.lt
  have z2 := X2.lt
  have x00 := X0.at_ 2 rfl
  have hU : But (fun q => q = b) w W0 := but_below hB0 (Nat.le_refl _)
  replace R := R.below hB0
  replace XF := XF.below hB0
  have hs0 := hB0.size
  rw [← scG_zero τ G] at R
  go_wp2_with fail
  clear x00 hB0 z0 z1 z2
  go_loopw [17] (fun s17 wr => ∃ i : Nat, i ≤ n ∧ s17 = .int .i64 i ∧ Bx wr w.heap.size #[.int .i64 (W : Int), .int .i64 (H : Int), .slice (some ⟨b₀, 0, none⟩) n ca] ∧ Bx wr (w.heap.size + 1) #[.int .i64 (W : Int), .int .i64 (H : Int), .slice (some ⟨b, 0, none⟩) n cap] ∧ Bx wr (w.heap.size + 1 + 1) #[.int .i64 0, .int .i64 0, .slice none 0 0] ∧ Bx wr bf #[.int .i64 (W : Int), v1, v2] ∧ Ro wr b (n * 4) (flatC (scG τ G i)) ∧ But (fun q => q = b) w wr) (fun s17 _ => n - (intOf s17).toNat)
  case atStart => exact ⟨0, Nat.zero_le _, rfl, X0, X1, X2, XF, R, hU⟩
  case round =>
    clear X0 X1 X2 XF R hU hs0
    obtain ⟨i, hi, rfl, X0, X1, X2, XF, R, hU⟩ := hrel
    by_cases hlt : i < n
    · obtain ⟨bs, os, e1, hbs, s0, s1, s2, s3⟩ := (S.but hU hb0) i hlt
      obtain ⟨rfl, rfl⟩ : b₀ = bs ∧ os = 0 := by injection e1 with e1; injection e1 with e1 e2 _; exact ⟨e1, e2.symm⟩
      rw [Nat.zero_add] at s0 s1 s2 s3
      obtain ⟨wo, rfl⟩ : ∃ wo : World, wo = wr := ⟨_, rfl⟩
      have x0_0 := X0.at_ 0 rfl; have x0_1 := X0.at_ 1 rfl; have x0_2 := X0.at_ 2 rfl; have x0z := X0.lt
      go_wp2_with fail
      refine (HPl.out i _ n _ _ (by omega)).mono ?_
      rintro e w3 ⟨rfl, hb3⟩
      clear x0_0 x0_1 x0_2 e1 s0 s1 s2 s3
      have X3 := (Bx.new wo #[.int .i64 (g i).e, .int .i64 (g i).n, .int .i64 (g i).w, .int .i64 (g i).s] 31).below hb3
      replace X0 := (X0.alloc (.cells #[.int .i64 (g i).e, .int .i64 (g i).n, .int .i64 (g i).w, .int .i64 (g i).s] 31)).below hb3
      replace X1 := (X1.alloc (.cells #[.int .i64 (g i).e, .int .i64 (g i).n, .int .i64 (g i).w, .int .i64 (g i).s] 31)).below hb3
      replace X2 := (X2.alloc (.cells #[.int .i64 (g i).e, .int .i64 (g i).n, .int .i64 (g i).w, .int .i64 (g i).s] 31)).below hb3
      replace XF := (XF.alloc (.cells #[.int .i64 (g i).e, .int .i64 (g i).n, .int .i64 (g i).w, .int .i64 (g i).s] 31)).below hb3
      replace R := (R.alloc (.cells #[.int .i64 (g i).e, .int .i64 (g i).n, .int .i64 (g i).w, .int .i64 (g i).s] 31)).below hb3
      replace hU := (hU.alloc (.cells #[.int .i64 (g i).e, .int .i64 (g i).n, .int .i64 (g i).w, .int .i64 (g i).s] 31)).trans (but_below hb3 (Nat.le_refl _))
      clear hb3
      obtain ⟨hx1, hy1⟩ := HXy.out i hlt
      have hjI := HIn.out i hlt
      have hjn := HLt.out i hlt
      have hmm := HMm.out i hlt
      have hGi := HG.out i hlt
      have x0 : 0 ≤ (i : Int) % (W : Int) := Int.emod_nonneg _ (by omega)
      have x1 : (i : Int) % (W : Int) < W := Int.emod_lt_of_pos _ (by omega)
      have y0 : 0 ≤ (i : Int) / (W : Int) := Int.ediv_nonneg (by omega) (by omega)
      have y1 : (i : Int) / (W : Int) < H := by
        have e : ((i / W : Nat) : Int) = (i : Int) / (W : Int) := by simp
        omega
      clear hx1 hy1
      generalize (i : Int) % (W : Int) = x at *
      generalize (i : Int) / (W : Int) = y at *
      go_wp2_with fail
      refine (HTo.out x y _ XF x0 (by omega)).mono ?_
      rintro e w4' ⟨rfl, rfl⟩
      dsimp only
      go_upto_region 5 with (fail)
      have hcc := fun W' => HCh.out i W' hlt
      generalize hj : τ i = j at *
      obtain ⟨z1', z2'⟩ := scG_step (τ := τ) (F := G) (k := i) (t := j) (N := n) hmm (fun q hq e => by have h := HMm.out q hq; rw [e, hj] at h; exact h.symm)
      rw [hGi] at z2'
      have HZ := hid z2'
      have q0 := X1.lt; have q1 := R.lt; have q2 := X2.lt; have q3 := X3.lt
      have c4 := R.scell hjn
      rw [z1'] at c4
      obtain ⟨c0, c1, c2, c3⟩ := c4
      have rf := R.free
      clear z2' hGi hmm hj
      have r0 : ∀ Y, Below w3.heap.size w3 Y → Y.cell? ⟨w.heap.size + 1, 0, none⟩ = some (.int .i64 (W : Int)) := fun Y h => (X1.below h).at_ 0 rfl
      have r1 : ∀ Y, Below w3.heap.size w3 Y → Y.cell? ⟨w.heap.size + 1, 1, none⟩ = some (.int .i64 (H : Int)) := fun Y h => (X1.below h).at_ 1 rfl
      have r2 : ∀ Y, Below w3.heap.size w3 Y → Y.cell? ⟨w.heap.size + 1, 2, none⟩ = some (.slice (some ⟨b, 0, none⟩) n cap) := fun Y h => (X1.below h).at_ 2 rfl
      have u4 : ∀ Y, Below w3.heap.size w3 Y → Y.cell? ⟨wo.heap.size, 0, none⟩ = some (.int .i64 (g i).e) := fun Y h => (X3.below h).at_ 0 rfl
      have u5 : ∀ Y, Below w3.heap.size w3 Y → Y.cell? ⟨wo.heap.size, 1, none⟩ = some (.int .i64 (g i).n) := fun Y h => (X3.below h).at_ 1 rfl
      have u6 : ∀ Y, Below w3.heap.size w3 Y → Y.cell? ⟨wo.heap.size, 2, none⟩ = some (.int .i64 (g i).w) := fun Y h => (X3.below h).at_ 2 rfl
      have u7 : ∀ Y, Below w3.heap.size w3 Y → Y.cell? ⟨wo.heap.size, 3, none⟩ = some (.int .i64 (g i).s) := fun Y h => (X3.below h).at_ 3 rfl
      have q0 : ∀ Y, Below w3.heap.size w3 Y → Y.cell? ⟨b, j * 4, none⟩ = some (.int .i64 0) := fun Y h => (bcell h _ _ q1).trans c0
      have q1' : ∀ Y, Below w3.heap.size w3 Y → Y.cell? ⟨b, j * 4 + 1, none⟩ = some (.int .i64 0) := fun Y h => (bcell h _ _ q1).trans c1
      have q2' : ∀ Y, Below w3.heap.size w3 Y → Y.cell? ⟨b, j * 4 + 2, none⟩ = some (.int .i64 0) := fun Y h => (bcell h _ _ q1).trans c2
      have q3' : ∀ Y, Below w3.heap.size w3 Y → Y.cell? ⟨b, j * 4 + 3, none⟩ = some (.int .i64 0) := fun Y h => (bcell h _ _ q1).trans c3
      have qf : ∀ Y, Below w3.heap.size w3 Y → ∀ q, Y.frozen? ⟨b, q, none⟩ = false := fun Y h q => (bfrozen h _ _ q1).trans (rf q)
      clear c0 c1 c2 c3 rf z1'
      have hat := fun W' => HAt.out ((W : Int) - 1 - x) y j b 0 cap W' (by omega) (by omega) (by omega) (by omega) hjI hjn
      clear hjI
      refine wp_region_S (fun Y => Below w3.heap.size w3 Y) 8 (by kernel_rfl) ?_
      refine anyS_take (i := 0) rfl (by kernel_rfl) (fun _ _ _ h => h) (Or.inl ⟨by rfl, fun Y hYb => (by (try dsimp only at hYb); go_simp; rfl)⟩) (by repeat' (first | with_reducible assumption | with_reducible exact Below.refl _ _ | with_reducible refine Below.drew ?_ | with_reducible refine below_drewN ?_ _)) ?_
      refine anyS_take (i := 1) rfl (by kernel_rfl) (fun _ _ _ h => h) (Or.inl ⟨by rfl, fun Y hYb => (by (try dsimp only at hYb); go_simp; rfl)⟩) (by repeat' (first | with_reducible assumption | with_reducible exact Below.refl _ _ | with_reducible refine Below.drew ?_ | with_reducible refine below_drewN ?_ _)) ?_
      refine anyS_take (i := 2) rfl (by kernel_rfl) (fun _ _ _ h => h) (Or.inl ⟨by rfl, fun Y hYb => (by (try dsimp only at hYb); go_simp; rfl)⟩) (by repeat' (first | with_reducible assumption | with_reducible exact Below.refl _ _ | with_reducible refine Below.drew ?_ | with_reducible refine below_drewN ?_ _)) ?_
      refine anyS_take (i := 4) rfl (by kernel_rfl) (fun _ _ _ h => h) (Or.inl ⟨by rfl, fun Y hYb => (by (try dsimp only at hYb); go_simp; rfl)⟩) (by repeat' (first | with_reducible assumption | with_reducible exact Below.refl _ _ | with_reducible refine Below.drew ?_ | with_reducible refine below_drewN ?_ _)) ?_
      refine anyS_take (i := 5) rfl (by kernel_rfl) (fun _ _ _ h => h) (Or.inl ⟨by rfl, fun Y hYb => (by (try dsimp only at hYb); go_simp; rfl)⟩) (by repeat' (first | with_reducible assumption | with_reducible exact Below.refl _ _ | with_reducible refine Below.drew ?_ | with_reducible refine below_drewN ?_ _)) ?_
      refine anyS_one (i := 3) (by kernel_rfl) rfl (by rfl) (fun K hK => ?_)
      go_simp
      refine (hat _).mono ?_
      rintro e w5 ⟨rfl, hb5⟩
      dsimp only
      have hS5 : Below w3.heap.size w3 w5 := bvia (Below.refl _ w3).drew hb5
      refine hK _ _ (fun _ _ => hS5) ?_
      clear hK K hb5
      simp only [Nat.zero_add]
      refine anyS_one (i := 6) (by kernel_rfl) rfl (by rfl) (fun K hK => ?_)
      go_simp
      refine (hcc _).mono ?_
      rintro e w6 ⟨rfl, hb6⟩
      dsimp only
      have hS6 : Below w3.heap.size w3 w6 := bvia hS5 hb6
      refine hK _ _ (fun _ _ => hS6) ?_
      clear hK K hb6
      refine anyS_take (i := 7) rfl (by kernel_rfl) (fun _ _ _ h => h) (Or.inl ⟨by rfl, fun Y hYb => (by (try dsimp only at hYb); go_simp; rfl)⟩) (by repeat' (first | with_reducible assumption | with_reducible exact Below.refl _ _ | with_reducible refine Below.drew ?_ | with_reducible refine below_drewN ?_ _)) ?_
      have y0 := q0 _ hS6; have y1 := q1' _ hS6; have y2 := q2' _ hS6; have y3 := q3' _ hS6; have yf := qf _ hS6
      refine anyS_one (i := 8) (by kernel_rfl) rfl (by rfl) (fun K hK => ?_)
      go_simp
      refine hK _ _ (fun h _ => absurd h (by decide)) ?_
      clear hK K
      refine anyS_done (by kernel_rfl) ?_ _
      replace X0 := X0.below hS6; replace X1 := X1.below hS6; replace X2 := X2.below hS6; replace XF := XF.below hS6; replace R := R.below hS6
      replace hU := hU.trans (but_below hS6 (Nat.le_refl _))
      clear r0 r1 r2 u4 u5 u6 u7 q0 q1' q2' q3' qf y0 y1 y2 y3 yf X3
      go_wp2_with fail
      go_roundw
      case rel => exact ⟨i + 1, by omega, by go_num, by (repeat' (first | with_reducible assumption | (with_reducible refine Bx.newE ?_ _ _; (simp; done)) | with_reducible refine Bx.alloc ?_ _ | with_reducible refine Bx.drew ?_ | with_reducible refine Bx.drewN ?_ _ | with_reducible refine Bx.four ?_ | (with_reducible refine Bx.far2 ?_ ?_ _; (dsimp only; omega)))), by (repeat' (first | with_reducible assumption | (with_reducible refine Bx.newE ?_ _ _; (simp; done)) | with_reducible refine Bx.alloc ?_ _ | with_reducible refine Bx.drew ?_ | with_reducible refine Bx.drewN ?_ _ | with_reducible refine Bx.four ?_ | (with_reducible refine Bx.far2 ?_ ?_ _; (dsimp only; omega)))), by (repeat' (first | with_reducible assumption | (with_reducible refine Bx.newE ?_ _ _; (simp; done)) | with_reducible refine Bx.alloc ?_ _ | with_reducible refine Bx.drew ?_ | with_reducible refine Bx.drewN ?_ _ | with_reducible refine Bx.four ?_ | (with_reducible refine Bx.far2 ?_ ?_ _; (dsimp only; omega)))), by (repeat' (first | with_reducible assumption | (with_reducible refine Bx.newE ?_ _ _; (simp; done)) | with_reducible refine Bx.alloc ?_ _ | with_reducible refine Bx.drew ?_ | with_reducible refine Bx.drewN ?_ _ | with_reducible refine Bx.four ?_ | (with_reducible refine Bx.far2 ?_ ?_ _; (dsimp only; omega)))), (R.setC j (mirC (g i))).congr (flatC_congr HZ.out), by ((repeat' (first | with_reducible assumption | with_reducible exact But.refl _ _ | with_reducible refine But.drew ?_ | with_reducible refine But.drewN ?_ _ | refine But.set_ ?_ (by dsimp only) _ | with_reducible refine But.alloc ?_ _)))⟩
      case measure => simp [intOf]; omega
    · obtain rfl : i = n := (by omega)
      have HR := hid (R.congr (flatC_congr (fun j hj => (if_pos (HLt.out j hj) : scG τ G i j = G j))))
      clear R
      have x20 := X2.at_ 0 rfl; have x21 := X2.at_ 1 rfl; have x22 := X2.at_ 2 rfl; have x2f := X2.free; have x2l := X2.lt
      have x10 := X1.at_ 0 rfl; have x11 := X1.at_ 1 rfl; have x12 := X1.at_ 2 rfl
      go_wp2_with fail
      refine bodyPost_ret (v := .agg #[.int .i64 (W : Int), .int .i64 (H : Int), .slice (some ⟨b, 0, none⟩) i cap]) (by simp [results, Try.results111, go_sem, x20, x21, x22]) rfl ⟨rfl, ?_, ?_⟩
      · have R := HR.out
        (repeat' (first | with_reducible assumption | with_reducible refine Ro.drew ?_ | with_reducible refine Ro.drewN ?_ _ | with_reducible refine Ro.alloc ?_ _ | with_reducible refine Ro.far ?_ ?_ _ | (show _ ≠ _; dsimp only; omega)))
      · exact ((hU.setNew (p := ⟨w.heap.size + 1 + 1, 0, none⟩) (by dsimp only; omega) _).setNew (p := ⟨w.heap.size + 1 + 1, 1, none⟩) (by dsimp only; omega) _).setNew (p := ⟨w.heap.size + 1 + 1, 2, none⟩) (by dsimp only; omega) _
set_option maxRecDepth 100000 in
set_option maxHeartbeats 2000000 in
theorem grid_mirrored1 (W H : Nat) (b₀ ca : Nat) (g : Nat → C4) (w : World) (h1 : 1 ≤ W ∧ W ≤ 64) (h2 : 1 ≤ H ∧ H ≤ 64) (S : Sc w (some ⟨b₀, 0, none⟩) (W * H) g) (hv : ∀ i, i < W * H → validC (g i) = true) (hb₀ : b₀ < w.heap.size) :
    Calls Try.prog 110 #[.agg #[.int .i64 (W : Int), .int .i64 (H : Int), .slice (some ⟨b₀, 0, none⟩) (W * H) ca]] w (GridRow W H (W * H) (mirG W g) w) := by
  have hWH : W * H ≤ 4096 := Nat.mul_le_mul h1.2 h2.2
  have hempty := fun W' => grid_empty W H W' (by omega) h1.2 h2.2
  have hmoved := fun b cap bf v1 v2 W' S' XF R hbf hb0 => grid_movedM W H b₀ ca b cap bf g v1 v2 W' h1 h2 S' hv XF R hbf hb0
  clear hv h1 h2
  generalize mirG W g = G at *
  generalize W * H = n at *
  have X0 := (Bx.new w #[.int .i64 (W : Int), .int .i64 (H : Int), .slice (some ⟨b₀, 0, none⟩) n ca] 131).alloc (.cells #[.int .i64 0, .int .i64 0, .slice none 0 0] 131)
  have X1 := Bx.new (w.alloc (.cells #[.int .i64 (W : Int), .int .i64 (H : Int), .slice (some ⟨b₀, 0, none⟩) n ca] 131)) #[.int .i64 0, .int .i64 0, .slice none 0 0] 131
  simp only [World.size_alloc] at X1
  have hB0 : Below w.heap.size w ((w.alloc (.cells #[.int .i64 (W : Int), .int .i64 (H : Int), .slice (some ⟨b₀, 0, none⟩) n ca] 131)).alloc (.cells #[.int .i64 0, .int .i64 0, .slice none 0 0] 131)) := by (repeat' (first | with_reducible assumption | with_reducible exact Below.refl _ _ | with_reducible refine Below.drew ?_ | with_reducible refine below_drewN ?_ _ | with_reducible refine balloc ?_ _ | with_reducible refine bset ?_ ?_ _ | with_reducible refine Below.setCell ?_ ?_ _ | with_reducible refine Below.alloc ?_ ?_ _ | omega | (simp; done) | (simp; omega)))
  go_enter Try.func110, Try.ntmps110
  go_upto_region 1 with (fail)
  generalize ((w.alloc (.cells #[.int .i64 (W : Int), .int .i64 (H : Int), .slice (some ⟨b₀, 0, none⟩) n ca] 131)).alloc (.cells #[.int .i64 0, .int .i64 0, .slice none 0 0] 131)) = W0 at X0 X1 hB0 ⊢
  have z0 := X0.lt
  have z1 := X1.lt
  have hs0 := hB0.size
  have r0 : ∀ Y, Below W0.heap.size W0 Y → Y.cell? ⟨w.heap.size, 0, none⟩ = some (.int .i64 (W : Int)) := fun Y h => (X0.below h).at_ 0 rfl
  have r1 : ∀ Y, Below W0.heap.size W0 Y → Y.cell? ⟨w.heap.size, 1, none⟩ = some (.int .i64 (H : Int)) := fun Y h => (X0.below h).at_ 1 rfl
  have r2 : ∀ Y, Below W0.heap.size W0 Y → Y.cell? ⟨w.heap.size, 2, none⟩ = some (.slice (some ⟨b₀, 0, none⟩) n ca) := fun Y h => (X0.below h).at_ 2 rfl
  refine wp_region_S (fun Y => Below W0.heap.size W0 Y) 10 (by kernel_rfl) ?_
  refine anyS_take (i := 0) rfl (by kernel_rfl) (fun _ _ _ h => h) (Or.inl ⟨by rfl, fun Y hYb => (by (try dsimp only at hYb); go_simp; rfl)⟩) (by repeat' (first | with_reducible assumption | with_reducible exact Below.refl _ _ | with_reducible refine Below.drew ?_ | with_reducible refine below_drewN ?_ _)) ?_
  refine anyS_take (i := 1) rfl (by kernel_rfl) (fun _ _ _ h => h) (Or.inl ⟨by rfl, fun Y hYb => (by (try dsimp only at hYb); go_simp; rfl)⟩) (by repeat' (first | with_reducible assumption | with_reducible exact Below.refl _ _ | with_reducible refine Below.drew ?_ | with_reducible refine below_drewN ?_ _)) ?_
  refine anyS_take (i := 2) rfl (by kernel_rfl) (fun _ _ _ h => h) (Or.inl ⟨by rfl, fun Y hYb => (by (try dsimp only at hYb); go_simp; rfl)⟩) (by repeat' (first | with_reducible assumption | with_reducible exact Below.refl _ _ | with_reducible refine Below.drew ?_ | with_reducible refine below_drewN ?_ _)) ?_
  refine anyS_take (i := 3) rfl (by kernel_rfl) (fun _ _ _ h => h) (Or.inl ⟨by rfl, fun Y hYb => (by (try dsimp only at hYb); go_simp; rfl)⟩) (by repeat' (first | with_reducible assumption | with_reducible exact Below.refl _ _ | with_reducible refine Below.drew ?_ | with_reducible refine below_drewN ?_ _)) ?_
  refine anyS_take (i := 4) rfl (by kernel_rfl) (fun _ _ _ h => h) (Or.inl ⟨by rfl, fun Y hYb => (by (try dsimp only at hYb); go_simp; rfl)⟩) (by repeat' (first | with_reducible assumption | with_reducible exact Below.refl _ _ | with_reducible refine Below.drew ?_ | with_reducible refine below_drewN ?_ _)) ?_
  refine anyS_take (i := 5) rfl (by kernel_rfl) (fun _ _ _ h => h) (Or.inl ⟨by rfl, fun Y hYb => (by (try dsimp only at hYb); go_simp; rfl)⟩) (by repeat' (first | with_reducible assumption | with_reducible exact Below.refl _ _ | with_reducible refine Below.drew ?_ | with_reducible refine below_drewN ?_ _)) ?_
  refine anyS_take (i := 6) rfl (by kernel_rfl) (fun _ _ _ h => h) (Or.inl ⟨by rfl, fun Y hYb => (by (try dsimp only at hYb); go_simp; rfl)⟩) (by repeat' (first | with_reducible assumption | with_reducible exact Below.refl _ _ | with_reducible refine Below.drew ?_ | with_reducible refine below_drewN ?_ _)) ?_
  refine anyS_pure (i := 8) rfl (by kernel_rfl) (fun _ _ _ h => h) (Or.inl ⟨by rfl, fun Y hYb => (by clear hYb; go_simp; rfl)⟩) ?_
  refine anyS_one (i := 7) (by kernel_rfl) rfl (by rfl) (fun K hK => ?_)
  go_simp
  refine (hempty _).mono ?_
  rintro e w1 ⟨b, cap, rfl, hb, R, hcap, hb1⟩
  dsimp only
  have hS1 : Below W0.heap.size W0 w1 := bvia (Below.refl _ W0).drew hb1
  refine hK _ _ (fun _ _ => hS1) ?_
  clear hK K hb1
  have hb' : W0.heap.size ≤ b := hb
  have hsz := hS1.size
  refine anyS_one (i := 9) (by kernel_rfl) rfl (by rfl) (fun K hK => ?_)
  go_simp
  refine (hmoved b cap w.heap.size _ _ _ ((S.below hB0).below hS1) (X0.below hS1) R (by omega) (by omega)).mono ?_
  rintro e w2 ⟨rfl, R2, hU⟩
  dsimp only
  have hS2 : Below W0.heap.size W0 w2 := below_butN hS1 hU (fun q hq => by omega)
  refine hK _ _ (fun _ _ => hS2) ?_
  clear hK K
  replace X0 := X0.below hS2; replace X1 := X1.below hS2
  have hB := bvia hB0 hS2
  clear R r0 r1 r2 hS1 hU hS2 hB0
  have X1_0 := X1.at_ 0 rfl
  have X1_1 := X1.at_ 1 rfl
  have X1_2 := X1.at_ 2 rfl
  have X1f := X1.free
  have X1z := X1.lt
  refine anyS_one (i := 10) (by kernel_rfl) rfl (by rfl) (fun K hK => ?_)
  go_simp
  refine hK _ _ (fun h _ => absurd h (by decide)) ?_
  clear hK K
  refine anyS_done (by kernel_rfl) ?_ _
  go_wp2_with fail
  refine bodyPost_ret (v := .agg #[.int .i64 (W : Int), .int .i64 (H : Int), .slice (some ⟨b, 0, none⟩) n cap]) (by simp [results, Try.results110, go_sem, X1_0, X1_1, X1_2]) rfl ⟨b, cap, rfl, by omega, ?_, hcap, by (repeat' (first | with_reducible assumption | with_reducible exact Below.refl _ _ | with_reducible refine Below.drew ?_ | with_reducible refine below_drewN ?_ _ | with_reducible refine balloc ?_ _ | with_reducible refine bset ?_ ?_ _ | with_reducible refine Below.setCell ?_ ?_ _ | with_reducible refine Below.alloc ?_ ?_ _ | omega | (simp; done) | (simp; omega)))⟩
  have R := R2
  (repeat' (first | with_reducible assumption | with_reducible refine Ro.drew ?_ | with_reducible refine Ro.drewN ?_ _ | with_reducible refine Ro.alloc ?_ _ | with_reducible refine Ro.far ?_ ?_ _ | (show _ ≠ _; dsimp only; omega)))
set_option maxRecDepth 100000 in
set_option maxHeartbeats 1000000 in
theorem grid_changedM (W H : Nat) (a : Option Addr) (ca : Nat) (g : Nat → C4) (w : World) (h1 : 1 ≤ W ∧ W ≤ 64) (h2 : 1 ≤ H ∧ H ≤ 64) (hm : W * H ≤ 1024) (S : Sc w a (W * H) g) (hv : okG (W * H) g) : Calls Try.prog 109 #[.agg #[.int .i64 (W : Int), .int .i64 (H : Int), .slice a (W * H) ca], .func (.func 110) #[] #[]] w (GridRow0 W H (W * H) (mirG W g) w) := by
  have hval := fun W' S' => grid_valid W H a (W * H) ca g W' (by omega) S'
  rw [validG_of h1 h2 hm hv] at hval
  have hn0 : 0 < W * H := Nat.mul_pos (by omega) (by omega)
  have hof := fun W' S' => grid_of W H a (W * H) ca g W' (by omega) hn0 S'
  have hst := fun b₀ c₀ W' S' hq => grid_mirrored1 W H b₀ c₀ g W' h1 h2 S' hv.1 hq
  clear hv h1 h2
  generalize mirG W g = G at *
  generalize W * H = n at *
  have X0 := (Bx.new w #[.int .i64 (W : Int), .int .i64 (H : Int), .slice a n ca] 24).alloc (.cells #[.int .i64 0, .int .i64 0, .slice none 0 0] 24)
  have X1 := Bx.new (w.alloc (.cells #[.int .i64 (W : Int), .int .i64 (H : Int), .slice a n ca] 24)) #[.int .i64 0, .int .i64 0, .slice none 0 0] 24
  simp only [World.size_alloc] at X1
  have hB0 : Below w.heap.size w ((w.alloc (.cells #[.int .i64 (W : Int), .int .i64 (H : Int), .slice a n ca] 24)).alloc (.cells #[.int .i64 0, .int .i64 0, .slice none 0 0] 24)) := by (repeat' (first | with_reducible assumption | with_reducible exact Below.refl _ _ | with_reducible refine Below.drew ?_ | with_reducible refine below_drewN ?_ _ | with_reducible refine balloc ?_ _ | with_reducible refine bset ?_ ?_ _ | with_reducible refine Below.setCell ?_ ?_ _ | with_reducible refine Below.alloc ?_ ?_ _ | omega | (simp; done) | (simp; omega)))
  go_enter Try.func109, Try.ntmps109
  go_wp2_with fail
  generalize ((w.alloc (.cells #[.int .i64 (W : Int), .int .i64 (H : Int), .slice a n ca] 24)).alloc (.cells #[.int .i64 0, .int .i64 0, .slice none 0 0] 24)) = W0 at X0 X1 hB0 ⊢
  have z0 := X0.lt
  have z1 := X1.lt
  refine (hval _ (S.below hB0)).mono ?_
  rintro e w1 ⟨rfl, hb1⟩
  have hB := hB0
  clear hB0 hval
  replace X0 := X0.below hb1
  replace X1 := X1.below hb1
  replace hB := bvia hB hb1
  clear hb1
  have X0_0 := X0.at_ 0 rfl
  have X0_1 := X0.at_ 1 rfl
  have X0_2 := X0.at_ 2 rfl
  go_wp2_with fail
  refine (hof _ (S.below hB)).mono ?_
  rintro e w2 ⟨b₁, c₁, rfl, hb₁, R₁, hc₁, hb2⟩
  have hs1 := hB.size
  clear X0_0 X0_1 X0_2
  replace X0 := X0.below hb2
  replace X1 := X1.below hb2
  replace hB := bvia hB hb2
  clear hb2
  have X0_0 := X0.at_ 0 rfl
  have X0_1 := X0.at_ 1 rfl
  have X0_2 := X0.at_ 2 rfl
  go_wp2_with fail
  refine (hst _ _ _ R₁.sc R₁.lt).mono ?_
  rintro e w3 ⟨b, cap, rfl, hb, R, hcap, hb3⟩
  have hs2 := X1.lt
  clear X0_0 X0_1 X0_2
  replace X0 := X0.below hb3
  replace X1 := X1.below hb3
  replace hB := bvia hB hb3
  clear hb3
  have X0_0 := X0.at_ 0 rfl
  have X0_1 := X0.at_ 1 rfl
  have X0_2 := X0.at_ 2 rfl
  clear X0_0 X0_1 X0_2
  have X1_0 := X1.at_ 0 rfl
  have X1_1 := X1.at_ 1 rfl
  have X1_2 := X1.at_ 2 rfl
  have X1f := X1.free
  have X1z := X1.lt
  clear R₁
  have hfd := field_grid (.int .i64 (W : Int)) (.int .i64 (H : Int)) (.slice (some ⟨b, 0, none⟩) n cap)
  go_wp2_with fail
  refine bodyPost_ret (v := .tuple #[.agg #[.int .i64 (W : Int), .int .i64 (H : Int), .slice (some ⟨b, 0, none⟩) n cap], .int .i64 0]) (by simp [results, Try.results109, go_sem, X1_0, X1_1, X1_2]) rfl ⟨b, cap, rfl, by omega, by (repeat' (first | with_reducible assumption | with_reducible refine Ro.drew ?_ | with_reducible refine Ro.drewN ?_ _ | with_reducible refine Ro.alloc ?_ _ | with_reducible refine Ro.far ?_ ?_ _ | (show _ ≠ _; dsimp only; omega))), hcap, by (repeat' (first | with_reducible assumption | with_reducible exact Below.refl _ _ | with_reducible refine Below.drew ?_ | with_reducible refine below_drewN ?_ _ | with_reducible refine balloc ?_ _ | with_reducible refine bset ?_ ?_ _ | with_reducible refine Below.setCell ?_ ?_ _ | with_reducible refine Below.alloc ?_ ?_ _ | omega | (simp; done) | (simp; omega)))⟩
set_option maxRecDepth 100000 in
set_option maxHeartbeats 1000000 in
theorem grid_Mirrored (W H : Nat) (a : Option Addr) (ca : Nat) (g : Nat → C4) (w : World) (h1 : 1 ≤ W ∧ W ≤ 64) (h2 : 1 ≤ H ∧ H ≤ 64) (hm : W * H ≤ 1024) (S : Sc w a (W * H) g) (hv : okG (W * H) g) : Calls Try.prog 54 #[.agg #[.int .i64 (W : Int), .int .i64 (H : Int), .slice a (W * H) ca]] w (GridRow0 W H (W * H) (mirG W g) w) := by
  have hc := fun W' S' => grid_changedM W H a ca g W' h1 h2 hm S' hv
  clear hv h1 h2
  generalize mirG W g = G at *
  generalize W * H = n at *
  have X0 := (Bx.new w #[.int .i64 (W : Int), .int .i64 (H : Int), .slice a n ca] 24).alloc (.cells #[.int .i64 0, .int .i64 0, .slice none 0 0] 24)
  have X1 := Bx.new (w.alloc (.cells #[.int .i64 (W : Int), .int .i64 (H : Int), .slice a n ca] 24)) #[.int .i64 0, .int .i64 0, .slice none 0 0] 24
  simp only [World.size_alloc] at X1
  have hB0 : Below w.heap.size w ((w.alloc (.cells #[.int .i64 (W : Int), .int .i64 (H : Int), .slice a n ca] 24)).alloc (.cells #[.int .i64 0, .int .i64 0, .slice none 0 0] 24)) := by (repeat' (first | with_reducible assumption | with_reducible exact Below.refl _ _ | with_reducible refine Below.drew ?_ | with_reducible refine below_drewN ?_ _ | with_reducible refine balloc ?_ _ | with_reducible refine bset ?_ ?_ _ | with_reducible refine Below.setCell ?_ ?_ _ | with_reducible refine Below.alloc ?_ ?_ _ | omega | (simp; done) | (simp; omega)))
  go_enter Try.func54, Try.ntmps54
  go_wp2_with fail
  generalize ((w.alloc (.cells #[.int .i64 (W : Int), .int .i64 (H : Int), .slice a n ca] 24)).alloc (.cells #[.int .i64 0, .int .i64 0, .slice none 0 0] 24)) = W0 at X0 X1 hB0 ⊢
  have z0 := X0.lt
  have z1 := X1.lt
  refine (hc _ (S.below hB0)).mono ?_
  rintro e w1 ⟨b, cap, rfl, hb, R, hcap, hb1⟩
  have hB := hB0
  clear hB0 hc
  have hs1 := hB.size
  replace X0 := X0.below hb1
  replace X1 := X1.below hb1
  replace hB := bvia hB hb1
  clear hb1
  have X1_0 := X1.at_ 0 rfl
  have X1_1 := X1.at_ 1 rfl
  have X1_2 := X1.at_ 2 rfl
  have X1f := X1.free
  have X1z := X1.lt
  go_wp2_with fail
  refine bodyPost_ret (v := .tuple #[.agg #[.int .i64 (W : Int), .int .i64 (H : Int), .slice (some ⟨b, 0, none⟩) n cap], .int .i64 0]) (by simp [results, Try.results54, go_sem, X1_0, X1_1, X1_2]) rfl ⟨b, cap, rfl, by omega, by (repeat' (first | with_reducible assumption | with_reducible refine Ro.drew ?_ | with_reducible refine Ro.drewN ?_ _ | with_reducible refine Ro.alloc ?_ _ | with_reducible refine Ro.far ?_ ?_ _ | (show _ ≠ _; dsimp only; omega))), hcap, by (repeat' (first | with_reducible assumption | with_reducible exact Below.refl _ _ | with_reducible refine Below.drew ?_ | with_reducible refine below_drewN ?_ _ | with_reducible refine balloc ?_ _ | with_reducible refine bset ?_ ?_ _ | with_reducible refine Below.setCell ?_ ?_ _ | with_reducible refine Below.alloc ?_ ?_ _ | omega | (simp; done) | (simp; omega)))⟩
end Go.Proofs.Ytnnaegnkkpknpaa
