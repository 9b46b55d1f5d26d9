/- Walks: the program's streamed, Stream and Unstream. -/
import Derived.Test.YthlbmlfkmfheiaaWStream
import Derived.Test.YthlbmlfkmfheiaaRefRun
namespace Go.Proofs.Ythlbmlfkmfheiaa
open Go Go.RowKit
set_option linter.unusedVariables false
theorem idx_cell (c : C4) (d : Nat) (hd : d < 4) (w : World) : (Instr.index 39 (.agg #[.int .i64 c.e, .int .i64 c.n, .int .i64 c.w, .int .i64 c.s]) (.int .i64 (d : Nat))).run Try.prog w = .ok (.int .i64 (c.get d)) w := by
  rcases (by omega : d = 0 ∨ d = 1 ∨ d = 2 ∨ d = 3) with rfl | rfl | rfl | rfl <;> kernel_rfl
theorem sgn_mv (fw : Bool) (d : Nat) (hd : d < 4) : -1 ≤ sgn fw * mvx d ∧ sgn fw * mvx d ≤ 1 ∧ -1 ≤ sgn fw * mvy d ∧ sgn fw * mvy d ≤ 1 := by
  cases fw <;> rcases (by omega : d = 0 ∨ d = 1 ∨ d = 2 ∨ d = 3) with rfl | rfl | rfl | rfl <;> decide
set_option maxRecDepth 100000 in
set_option maxHeartbeats 8000000 in
theorem grid_streamed (fw : Bool) (W H : Nat) (b₀ ca : Nat) (g : Nat → C4) (w : World) (h1 : 1 ≤ W ∧ W ≤ 64) (h2 : 1 ≤ H ∧ H ≤ 64) (S : Sc w (some ⟨b₀, 0, none⟩) (W * H) g) (hv : ∀ i, i < W * H → validC (g i) = true) :
    Calls Try.prog 59 #[.agg #[.int .i64 (W : Int), .int .i64 (H : Int), .slice (some ⟨b₀, 0, none⟩) (W * H) ca], .int .i64 (sgn fw)] w (GridRow W H (W * H) (strG fw W H g) w) := by
  have hWH : W * H ≤ 4096 := Nat.mul_le_mul h1.2 h2.2
  have hn0 : 0 < W * H := Nat.mul_pos (by omega) (by omega)
  have hempty := fun W' => grid_empty W H W' (by omega) h1.2 h2.2
  have hplace := fun i a n ca W' h => grid_place W H i a n ca W' (by omega) h1.2 h
  have hat := fun x y j b off ca W' x0 x1 y0 y1 hj hjn => grid_at W H x y j b off (W * H) ca W' (by omega) h1.2 (by omega) h2.2 x0 x1 y0 y1 hj hjn hWH
  have hstep := fun i d h hd => str_step fw (W := W) (H := H) g (i := i) (d := d) h hd
  have hint := fun i d h hd => tow_int fw (W := W) (H := H) (i := i) (d := d) (by omega) (by omega) h hd
  have hlt4 := fun i d (h : i < W * H) hd => nbT_lt (W := W) (H := H) (i := i) (d := towD fw d) h (towD_lt fw hd)
  have hsg := sgn_mv fw
  have hend := fun j h => srcS_lt fw (W := W) (H := H) (j := j) h
  have hxy := fun i (h : i < W * H) => row_lt h
  obtain ⟨u1, u2⟩ := h1; obtain ⟨u3, u4⟩ := h2
  generalize strG fw W H g = G at *
  generalize srcS fw W H = src at *
  generalize sgn fw = p at *
  generalize hP : W * H = n at *
  clear hP
  have HPl := hid hplace; have HAt := hid hat; have HSt := hid hstep; have HIn := hid hint; have HLt := hid hlt4; have HSg := hid hsg; have HEn := hid hend; have HXy := hid hxy; have HV := hid hv
  clear hplace hat hstep hint hlt4 hsg hend hxy hv
  have X0 := (Bx.new w #[.int .i64 (W : Int), .int .i64 (H : Int), .slice (some ⟨b₀, 0, none⟩) n ca] 85).alloc (.cells #[.int .i64 0, .int .i64 0, .slice none 0 0] 85)
  have X1 := Bx.new (w.alloc (.cells #[.int .i64 (W : Int), .int .i64 (H : Int), .slice (some ⟨b₀, 0, none⟩) n ca] 85)) #[.int .i64 0, .int .i64 0, .slice none 0 0] 85
  simp only [World.size_alloc] at X1
  have hB0 : Below w.heap.size w ((w.alloc (.cells #[.int .i64 (W : Int), .int .i64 (H : Int), .slice (some ⟨b₀, 0, none⟩) n ca] 85)).alloc (.cells #[.int .i64 0, .int .i64 0, .slice none 0 0] 85)) := by (repeat' (first | with_reducible assumption | with_reducible exact Below.refl _ _ | with_reducible refine Below.drew ?_ | with_reducible refine below_drewN ?_ _ | with_reducible refine balloc ?_ _ | with_reducible refine bset ?_ ?_ _ | with_reducible refine Below.setCell ?_ ?_ _ | with_reducible refine Below.alloc ?_ ?_ _ | omega | (simp; done) | (simp; omega)))
  go_enter Try.func59, Try.ntmps59
  go_wp2_with fail
  generalize ((w.alloc (.cells #[.int .i64 (W : Int), .int .i64 (H : Int), .slice (some ⟨b₀, 0, none⟩) n ca] 85)).alloc (.cells #[.int .i64 0, .int .i64 0, .slice none 0 0] 85)) = W0 at X0 X1 hB0 ⊢
  have z0 := X0.lt
  have z1 := X1.lt
  refine (hempty _).mono ?_
  rintro e w1 ⟨b, cap, rfl, hb, R, hcap, hb1⟩
  have hB := hB0
  clear hB0 hempty
  have hsb := hb1.size
  replace X0 := X0.below hb1
  replace X1 := X1.below hb1
  replace hB := bvia hB hb1
  clear hb1
  have X0_0 := X0.at_ 0 rfl
  have X0_1 := X0.at_ 1 rfl
  have X0_2 := X0.at_ 2 rfl
  have X0z := X0.lt
  have hz1 : w.heap.size + 1 < w1.heap.size := X1.lt
  have hbb : w.heap.size + 1 < b := by omega
  have hlb := R.lt
  go_wp2_with fail
  clear X0_0 X0_1 X0_2 X0z
  replace X0 := X0.alloc (.cells #[.int .i64 (W : Int), .int .i64 (H : Int), .slice (some ⟨b, 0, none⟩) n cap] 85)
  replace X1 := X1.alloc (.cells #[.int .i64 (W : Int), .int .i64 (H : Int), .slice (some ⟨b, 0, none⟩) n cap] 85)
  replace R := R.alloc (.cells #[.int .i64 (W : Int), .int .i64 (H : Int), .slice (some ⟨b, 0, none⟩) n cap] 85)
  have X2 := Bx.new w1 #[.int .i64 (W : Int), .int .i64 (H : Int), .slice (some ⟨b, 0, none⟩) n cap] 85
  replace hB := balloc hB (.cells #[.int .i64 (W : Int), .int .i64 (H : Int), .slice (some ⟨b, 0, none⟩) n cap] 85)
  have X0_0 := X0.at_ 0 rfl
  have X0_1 := X0.at_ 1 rfl
  have X0_2 := X0.at_ 2 rfl
  have X0z := X0.lt
  clear X0_0 X0_1 X0_2 X0z
  rw [flat_zero, ← scatTo_zero src (flatC G)] at R
  generalize w1.alloc (.cells #[.int .i64 (W : Int), .int .i64 (H : Int), .slice (some ⟨b, 0, none⟩) n cap] 85) = W1 at *
  go_loopw [25] (fun s25 wr => ∃ i : Nat, i ≤ n ∧ s25 = .int .i64 i ∧ Bx wr w.heap.size #[.int .i64 (W : Int), .int .i64 (H : Int), .slice (some ⟨b₀, 0, none⟩) n ca] ∧ Bx wr (w.heap.size + 1) #[.int .i64 0, .int .i64 0, .slice none 0 0] ∧ Bx wr w1.heap.size #[.int .i64 (W : Int), .int .i64 (H : Int), .slice (some ⟨b, 0, none⟩) n cap] ∧ Ro wr b (n * 4) (scatTo src (flatC G) (i * 4)) ∧ Below w.heap.size w wr) (fun s25 _ => n - (intOf s25).toNat)
  case atStart => exact ⟨0, Nat.zero_le _, rfl, X0, X1, X2, by rw [Nat.zero_mul]; exact R, hB⟩
  case round =>
    clear X0 X1 X2 R hB
    obtain ⟨i, hi, rfl, X0, X1, X2, R, hB⟩ := hrel
    by_cases hlt : i < n
    · obtain ⟨bs, os, e1, hbs, s0, s1, s2, s3⟩ := S i hlt
      obtain ⟨rfl, rfl⟩ : b₀ = bs ∧ os = 0 := by injection e1 with e1; injection e1 with e1 e2 _; exact ⟨e1, e2.symm⟩
      rw [Nat.zero_add] at s0 s1 s2 s3
      have t0 := (bcell hB _ _ hbs).trans s0; have t1 := (bcell hB _ _ hbs).trans s1; have t2 := (bcell hB _ _ hbs).trans s2; have t3 := (bcell hB _ _ hbs).trans s3
      clear e1 s0 s1 s2 s3
      obtain ⟨wo, rfl⟩ : ∃ wo : World, wo = wr := ⟨_, rfl⟩
      have X0_0 := X0.at_ 0 rfl
      have X0_1 := X0.at_ 1 rfl
      have X0_2 := X0.at_ 2 rfl
      have X0z := X0.lt
      go_wp2_with fail
      clear X0_0 X0_1 X0_2 X0z
      refine (HPl.out i _ n _ _ (by omega)).mono ?_
      rintro e w3 ⟨rfl, hb3⟩
      have hwo := hB.size
      replace X0 := X0.alloc (.cells #[.int .i64 (g i).e, .int .i64 (g i).n, .int .i64 (g i).w, .int .i64 (g i).s] 39)
      replace X1 := X1.alloc (.cells #[.int .i64 (g i).e, .int .i64 (g i).n, .int .i64 (g i).w, .int .i64 (g i).s] 39)
      replace X2 := X2.alloc (.cells #[.int .i64 (g i).e, .int .i64 (g i).n, .int .i64 (g i).w, .int .i64 (g i).s] 39)
      replace R := R.alloc (.cells #[.int .i64 (g i).e, .int .i64 (g i).n, .int .i64 (g i).w, .int .i64 (g i).s] 39)
      have X3 := Bx.new wo #[.int .i64 (g i).e, .int .i64 (g i).n, .int .i64 (g i).w, .int .i64 (g i).s] 39
      replace hB := balloc hB (.cells #[.int .i64 (g i).e, .int .i64 (g i).n, .int .i64 (g i).w, .int .i64 (g i).s] 39)
      replace X0 := X0.below hb3
      replace X1 := X1.below hb3
      replace X2 := X2.below hb3
      replace R := R.below hb3
      replace X3 := X3.below hb3
      replace hB := bvia hB hb3
      clear hb3
      have hI := fun d hd => HIn.out i d hlt hd
      obtain ⟨hx1, hy1⟩ := HXy.out i hlt
      have x0 : 0 ≤ (i : Int) % (W : Int) := Int.emod_nonneg _ (by omega)
      have x1 : (i : Int) % (W : Int) < W := Int.emod_lt_of_pos _ (by omega)
      have y0 : 0 ≤ (i : Int) / (W : Int) := Int.ediv_nonneg (by omega) (by omega)
      have y1 : (i : Int) / (W : Int) < H := by
        have e : ((i / W : Nat) : Int) = (i : Int) / (W : Int) := by simp
        omega
      clear hx1 hy1
      generalize (i : Int) % (W : Int) = x at *
      generalize (i : Int) / (W : Int) = y at *
      have HI := hid hI
      clear hI
      have hci := idx_cell (g i)
      have HCI := hid hci
      clear hci t0 t1 t2 t3 hwo
      have X3_0 := X3.at_ 0 rfl
      have X3_1 := X3.at_ 1 rfl
      have X3_2 := X3.at_ 2 rfl
      have X3_3 := X3.at_ 3 rfl
      go_wp2_with fail
      clear X3_0 X3_1 X3_2 X3_3
      go_loopw [37] (fun s37 wr => ∃ d : Nat, d ≤ 4 ∧ s37 = .int .i64 d ∧ Bx wr w.heap.size #[.int .i64 (W : Int), .int .i64 (H : Int), .slice (some ⟨b₀, 0, none⟩) n ca] ∧ Bx wr (w.heap.size + 1) #[.int .i64 0, .int .i64 0, .slice none 0 0] ∧ Bx wr w1.heap.size #[.int .i64 (W : Int), .int .i64 (H : Int), .slice (some ⟨b, 0, none⟩) n cap] ∧ Ro wr b (n * 4) (scatTo src (flatC G) (i * 4 + d)) ∧ Below w.heap.size w wr) (fun s37 _ => 4 - (intOf s37).toNat)
      case atStart => exact ⟨0, by omega, rfl, X0, X1, X2, R, hB⟩
      case round =>
        clear X0 X1 X2 X3 R hB
        obtain ⟨d, hd, rfl, X0, X1, X2, R, hB⟩ := hrel
        by_cases hd4 : d < 4
        · have hix := HCI.out d hd4
          have hmv := fun W' => grid_move d W' hd4
          obtain ⟨m0, m1, m2, m3⟩ := HSg.out d hd4
          have hjn := HLt.out i d hlt hd4
          have hjI := HI.out d hd4
          obtain ⟨g1, g2, g3⟩ := HSt.out i d hlt hd4
          have hv0 := get_le (g i) d hd4 (HV.out i hlt)
          obtain ⟨v0, v1⟩ := hv0
          generalize nbT W H i (towD fw d) = j at *
          obtain ⟨z1', z2'⟩ := scatTo_step (F := flatC G) g1 g2
          rw [g3] at z2'
          have HZ := hid z2'
          clear z2' g1 g2 g3
          go_wp2_with fail
          refine (hmv _).mono ?_
          rintro e w4 ⟨rfl, hb4⟩
          replace X0 := X0.below hb4
          replace X1 := X1.below hb4
          replace X2 := X2.below hb4
          replace R := R.below hb4
          replace hB := bvia hB hb4
          clear hb4
          have q0 := X2.lt; have q1 := R.lt; have q2 := X1.lt
          have r0 : ∀ X, Below w4.heap.size w4 X → X.cell? ⟨w1.heap.size, 0, none⟩ = some (.int .i64 (W : Int)) := fun X h => (X2.below h).at_ 0 rfl
          have r1 : ∀ X, Below w4.heap.size w4 X → X.cell? ⟨w1.heap.size, 1, none⟩ = some (.int .i64 (H : Int)) := fun X h => (X2.below h).at_ 1 rfl
          have r2 : ∀ X, Below w4.heap.size w4 X → X.cell? ⟨w1.heap.size, 2, none⟩ = some (.slice (some ⟨b, 0, none⟩) n cap) := fun X h => (X2.below h).at_ 2 rfl
          have rc0 := R.2 (j * 4 + d) (by omega)
          rw [z1'] at rc0
          have rc : ∀ X, Below w4.heap.size w4 X → X.cell? ⟨b, j * 4 + d, none⟩ = some (.int .i64 0) := fun X h => (bcell h _ _ q1).trans rc0
          have rf0 := R.free
          have rf : ∀ X, Below w4.heap.size w4 X → ∀ q, X.frozen? ⟨b, q, none⟩ = false := fun X h q => (bfrozen h _ _ q1).trans (rf0 q)
          have hpx := IntWalk.i64_in (p * mvx d) (by omega)
          have hpy := IntWalk.i64_in (p * mvy d) (by omega)
          have hpx2 : wrap64 (p * mvx d) = p * mvx d := by unfold wrap64; omega
          have hpy2 : wrap64 (p * mvy d) = p * mvy d := by unfold wrap64; omega
          generalize hsx : p * mvx d = sx at *
          generalize hsy : p * mvy d = sy at *
          have hxx := IntWalk.i64_in (x + sx) (by omega)
          have hyy := IntWalk.i64_in (y + sy) (by omega)
          have hat := fun W' => HAt.out (x + sx) (y + sy) j b 0 cap W' (by omega) (by omega) (by omega) (by omega) hjI hjn
          clear rc0 rf0 z1' hjI
          go_wp2_with fail
          refine wp_region_S (fun X => Below w4.heap.size w4 X) 20 (by kernel_rfl) ?_
          refine anyS_take (i := 0) rfl (by kernel_rfl) (fun _ _ _ h => h) (Or.inl ⟨by rfl, fun Y hYb => (by (try dsimp only at hYb); go_simp; rfl)⟩) (by repeat' (first | with_reducible assumption | with_reducible exact Below.refl _ _ | with_reducible refine Below.drew ?_ | with_reducible refine below_drewN ?_ _)) ?_
          refine anyS_take (i := 1) rfl (by kernel_rfl) (fun _ _ _ h => h) (Or.inl ⟨by rfl, fun Y hYb => (by (try dsimp only at hYb); go_simp; rfl)⟩) (by repeat' (first | with_reducible assumption | with_reducible exact Below.refl _ _ | with_reducible refine Below.drew ?_ | with_reducible refine below_drewN ?_ _)) ?_
          refine anyS_take (i := 2) rfl (by kernel_rfl) (fun _ _ _ h => h) (Or.inl ⟨by rfl, fun Y hYb => (by (try dsimp only at hYb); go_simp; rfl)⟩) (by repeat' (first | with_reducible assumption | with_reducible exact Below.refl _ _ | with_reducible refine Below.drew ?_ | with_reducible refine below_drewN ?_ _)) ?_
          refine anyS_take (i := 3) rfl (by kernel_rfl) (fun _ _ _ h => h) (Or.inl ⟨by rfl, fun Y hYb => (by (try dsimp only at hYb); go_simp; rfl)⟩) (by repeat' (first | with_reducible assumption | with_reducible exact Below.refl _ _ | with_reducible refine Below.drew ?_ | with_reducible refine below_drewN ?_ _)) ?_
          refine anyS_take (i := 4) rfl (by kernel_rfl) (fun _ _ _ h => h) (Or.inl ⟨by rfl, fun Y hYb => (by (try dsimp only at hYb); go_simp; rfl)⟩) (by repeat' (first | with_reducible assumption | with_reducible exact Below.refl _ _ | with_reducible refine Below.drew ?_ | with_reducible refine below_drewN ?_ _)) ?_
          refine anyS_take (i := 5) rfl (by kernel_rfl) (fun _ _ _ h => h) (Or.inl ⟨by rfl, fun Y hYb => (by (try dsimp only at hYb); go_simp; rfl)⟩) (by repeat' (first | with_reducible assumption | with_reducible exact Below.refl _ _ | with_reducible refine Below.drew ?_ | with_reducible refine below_drewN ?_ _)) ?_
          refine anyS_take (i := 6) rfl (by kernel_rfl) (fun _ _ _ h => h) (Or.inl ⟨by rfl, fun Y hYb => (by (try dsimp only at hYb); go_simp; rfl)⟩) (by repeat' (first | with_reducible assumption | with_reducible exact Below.refl _ _ | with_reducible refine Below.drew ?_ | with_reducible refine below_drewN ?_ _)) ?_
          refine anyS_take (i := 7) rfl (by kernel_rfl) (fun _ _ _ h => h) (Or.inl ⟨by rfl, fun Y hYb => (by (try dsimp only at hYb); go_simp; rfl)⟩) (by repeat' (first | with_reducible assumption | with_reducible exact Below.refl _ _ | with_reducible refine Below.drew ?_ | with_reducible refine below_drewN ?_ _)) ?_
          refine anyS_take (i := 8) rfl (by kernel_rfl) (fun _ _ _ h => h) (Or.inl ⟨by rfl, fun Y hYb => (by (try dsimp only at hYb); go_simp; rfl)⟩) (by repeat' (first | with_reducible assumption | with_reducible exact Below.refl _ _ | with_reducible refine Below.drew ?_ | with_reducible refine below_drewN ?_ _)) ?_
          refine anyS_take (i := 9) rfl (by kernel_rfl) (fun _ _ _ h => h) (Or.inl ⟨by rfl, fun Y hYb => (by (try dsimp only at hYb); go_simp; rfl)⟩) (by repeat' (first | with_reducible assumption | with_reducible exact Below.refl _ _ | with_reducible refine Below.drew ?_ | with_reducible refine below_drewN ?_ _)) ?_
          refine anyS_take (i := 10) rfl (by kernel_rfl) (fun _ _ _ h => h) (Or.inl ⟨by rfl, fun Y hYb => (by (try dsimp only at hYb); go_simp; rfl)⟩) (by repeat' (first | with_reducible assumption | with_reducible exact Below.refl _ _ | with_reducible refine Below.drew ?_ | with_reducible refine below_drewN ?_ _)) ?_
          refine anyS_take (i := 12) rfl (by kernel_rfl) (fun _ _ _ h => h) (Or.inl ⟨by rfl, fun Y hYb => (by (try dsimp only at hYb); go_simp; rfl)⟩) (by repeat' (first | with_reducible assumption | with_reducible exact Below.refl _ _ | with_reducible refine Below.drew ?_ | with_reducible refine below_drewN ?_ _)) ?_
          refine anyS_take (i := 16) rfl (by kernel_rfl) (fun _ _ _ h => h) (Or.inl ⟨by rfl, fun Y hYb => (by (try dsimp only at hYb); go_simp; rfl)⟩) (by repeat' (first | with_reducible assumption | with_reducible exact Below.refl _ _ | with_reducible refine Below.drew ?_ | with_reducible refine below_drewN ?_ _)) ?_
          refine anyS_one (i := 11) (by kernel_rfl) rfl (by rfl) (fun K hK => ?_)
          go_simp
          refine (hat _).mono ?_
          rintro e w5 ⟨rfl, hb5⟩
          dsimp only
          have hS5 : Below w4.heap.size w4 w5 := bvia (Below.refl _ w4).drew hb5
          refine hK _ _ (fun _ _ => hS5) ?_
          clear hK K
          simp only [Nat.zero_add]
          refine anyS_take (i := 13) rfl (by kernel_rfl) (fun _ _ _ h => h) (Or.inl ⟨by rfl, fun Y hYb => (by (try dsimp only at hYb); go_simp; rfl)⟩) (by repeat' (first | with_reducible assumption | with_reducible exact Below.refl _ _ | with_reducible refine Below.drew ?_ | with_reducible refine below_drewN ?_ _)) ?_
          refine anyS_take (i := 14) rfl (by kernel_rfl) (fun _ _ _ h => h) (Or.inl ⟨by rfl, fun Y hYb => (by (try dsimp only at hYb); go_simp; rfl)⟩) (by repeat' (first | with_reducible assumption | with_reducible exact Below.refl _ _ | with_reducible refine Below.drew ?_ | with_reducible refine below_drewN ?_ _)) ?_
          refine anyS_take (i := 15) rfl (by kernel_rfl) (fun _ _ _ h => h) (Or.inl ⟨by rfl, fun Y hYb => (by (try dsimp only at hYb); go_simp; rfl)⟩) (by repeat' (first | with_reducible assumption | with_reducible exact Below.refl _ _ | with_reducible refine Below.drew ?_ | with_reducible refine below_drewN ?_ _)) ?_
          refine anyS_take (i := 17) rfl (by kernel_rfl) (fun _ _ _ h => h) (Or.inl ⟨by rfl, fun Y hYb => (by (try dsimp only at hYb); go_simp; rfl)⟩) (by repeat' (first | with_reducible assumption | with_reducible exact Below.refl _ _ | with_reducible refine Below.drew ?_ | with_reducible refine below_drewN ?_ _)) ?_
          refine anyS_pure (i := 18) rfl (by kernel_rfl) (fun _ _ _ h => h) (Or.inl ⟨by rfl, fun Y hYb => (by clear hYb; go_simp; rfl)⟩) ?_
          refine anyS_take (i := 19) rfl (by kernel_rfl) (fun _ _ _ h => h) (Or.inl ⟨by rfl, fun Y hYb => (by (try dsimp only at hYb); go_simp; rfl)⟩) (by repeat' (first | with_reducible assumption | with_reducible exact Below.refl _ _ | with_reducible refine Below.drew ?_ | with_reducible refine below_drewN ?_ _)) ?_
          have c0 := rc _ hS5; have cf := rf _ hS5
          refine anyS_one (i := 20) (by kernel_rfl) rfl (by rfl) (fun K hK => ?_)
          go_simp
          refine hK _ _ (fun h _ => absurd h (by decide)) ?_
          clear hK K
          refine anyS_done (by kernel_rfl) ?_ _
          have X0' := X0.below hS5; have X1' := X1.below hS5; have X2' := X2.below hS5; have R' := R.below hS5
          have hB' := bvia hB hS5
          clear X0 X1 X2 R hB r0 r1 r2 rc rf c0 cf
          go_wp2_with fail
          go_roundw
          case rel => exact ⟨d + 1, by omega, by go_num, by (repeat' (first | with_reducible assumption | (with_reducible refine Bx.newE ?_ _ _; (simp; done)) | with_reducible refine Bx.alloc ?_ _ | with_reducible refine Bx.drew ?_ | with_reducible refine Bx.drewN ?_ _ | with_reducible refine Bx.four ?_ | (with_reducible refine Bx.far2 ?_ ?_ _; (dsimp only; omega)))), by (repeat' (first | with_reducible assumption | (with_reducible refine Bx.newE ?_ _ _; (simp; done)) | with_reducible refine Bx.alloc ?_ _ | with_reducible refine Bx.drew ?_ | with_reducible refine Bx.drewN ?_ _ | with_reducible refine Bx.four ?_ | (with_reducible refine Bx.far2 ?_ ?_ _; (dsimp only; omega)))), by (repeat' (first | with_reducible assumption | (with_reducible refine Bx.newE ?_ _ _; (simp; done)) | with_reducible refine Bx.alloc ?_ _ | with_reducible refine Bx.drew ?_ | with_reducible refine Bx.drewN ?_ _ | with_reducible refine Bx.four ?_ | (with_reducible refine Bx.far2 ?_ ?_ _; (dsimp only; omega)))), by rw [← Nat.add_assoc]; exact ((R'.set_ (j * 4 + d) ((g i).get d)).congr HZ.out), by have hB := hB'; (repeat' (first | with_reducible assumption | with_reducible exact Below.refl _ _ | with_reducible refine Below.drew ?_ | with_reducible refine below_drewN ?_ _ | with_reducible refine balloc ?_ _ | with_reducible refine bset ?_ ?_ _ | with_reducible refine Below.setCell ?_ ?_ _ | with_reducible refine Below.alloc ?_ ?_ _ | omega | (simp; done) | (simp; omega)))⟩
          case measure => simp [intOf]; omega
        · obtain rfl : d = 4 := (by omega)
          go_wp2_with fail
          go_roundw
          case rel => exact ⟨i + 1, by omega, by go_num, X0, X1, X2, by rw [show (i + 1) * 4 = i * 4 + 4 from by omega]; exact R, hB⟩
          case measure => simp [intOf]; omega
    · obtain rfl : i = n := (by omega)
      have HR := hid (R.congr (fun j hj => (if_pos (HEn.out j hj) : scatTo src (flatC G) (i * 4) j = flatC G j)))
      clear R
      have X2_0 := X2.at_ 0 rfl
      have X2_1 := X2.at_ 1 rfl
      have X2_2 := X2.at_ 2 rfl
      have X1_0 := X1.at_ 0 rfl
      have X1_1 := X1.at_ 1 rfl
      have X1_2 := X1.at_ 2 rfl
      have X1f := X1.free
      have X1z := X1.lt
      go_wp2_with fail
      refine bodyPost_ret (v := .agg #[.int .i64 (W : Int), .int .i64 (H : Int), .slice (some ⟨b, 0, none⟩) i cap]) (by simp [results, Try.results59, go_sem, X1_0, X1_1, X1_2]) rfl ⟨b, cap, rfl, by omega, ?_, hcap, by (repeat' (first | with_reducible assumption | with_reducible exact Below.refl _ _ | with_reducible refine Below.drew ?_ | with_reducible refine below_drewN ?_ _ | with_reducible refine balloc ?_ _ | with_reducible refine bset ?_ ?_ _ | with_reducible refine Below.setCell ?_ ?_ _ | with_reducible refine Below.alloc ?_ ?_ _ | omega | (simp; done) | (simp; omega)))⟩
      have R := HR.out
      (repeat' (first | with_reducible assumption | with_reducible refine Ro.drew ?_ | with_reducible refine Ro.drewN ?_ _ | with_reducible refine Ro.alloc ?_ _ | with_reducible refine Ro.far ?_ ?_ _ | (show _ ≠ _; dsimp only; omega)))
set_option maxRecDepth 100000 in
set_option maxHeartbeats 1000000 in
theorem grid_stream1 (W H : Nat) (b₀ ca : Nat) (g : Nat → C4) (w : World) (h1 : 1 ≤ W ∧ W ≤ 64) (h2 : 1 ≤ H ∧ H ≤ 64) (S : Sc w (some ⟨b₀, 0, none⟩) (W * H) g) (hv : ∀ i, i < W * H → validC (g i) = true) :
    Calls Try.prog 58 #[.agg #[.int .i64 (W : Int), .int .i64 (H : Int), .slice (some ⟨b₀, 0, none⟩) (W * H) ca]] w (GridRow W H (W * H) (flow W H g) w) := by
  have hs := fun W' S' => grid_streamed true W H b₀ ca g W' h1 h2 S' hv
  have e : strG true W H g = flow W H g := rfl
  rw [e] at hs
  clear e hv h1 h2
  generalize flow W H g = G at *
  generalize W * H = n at *
  have X0 := (Bx.new w #[.int .i64 (W : Int), .int .i64 (H : Int), .slice (some ⟨b₀, 0, none⟩) n ca] 85).alloc (.cells #[.int .i64 0, .int .i64 0, .slice none 0 0] 85)
  have X1 := Bx.new (w.alloc (.cells #[.int .i64 (W : Int), .int .i64 (H : Int), .slice (some ⟨b₀, 0, none⟩) n ca] 85)) #[.int .i64 0, .int .i64 0, .slice none 0 0] 85
  simp only [World.size_alloc] at X1
  have hB0 : Below w.heap.size w ((w.alloc (.cells #[.int .i64 (W : Int), .int .i64 (H : Int), .slice (some ⟨b₀, 0, none⟩) n ca] 85)).alloc (.cells #[.int .i64 0, .int .i64 0, .slice none 0 0] 85)) := by (repeat' (first | with_reducible assumption | with_reducible exact Below.refl _ _ | with_reducible refine Below.drew ?_ | with_reducible refine below_drewN ?_ _ | with_reducible refine balloc ?_ _ | with_reducible refine bset ?_ ?_ _ | with_reducible refine Below.setCell ?_ ?_ _ | with_reducible refine Below.alloc ?_ ?_ _ | omega | (simp; done) | (simp; omega)))
  go_enter Try.func58, Try.ntmps58
  go_wp2_with fail
  generalize ((w.alloc (.cells #[.int .i64 (W : Int), .int .i64 (H : Int), .slice (some ⟨b₀, 0, none⟩) n ca] 85)).alloc (.cells #[.int .i64 0, .int .i64 0, .slice none 0 0] 85)) = W0 at X0 X1 hB0 ⊢
  have z0 := X0.lt
  have z1 := X1.lt
  refine (hs _ (S.below hB0)).mono ?_
  rintro e w1 ⟨b, cap, rfl, hb, R, hcap, hb1⟩
  have hB := hB0
  clear hB0 hs
  replace X0 := X0.below hb1
  replace X1 := X1.below hb1
  replace hB := bvia hB hb1
  clear hb1
  have X1_0 := X1.at_ 0 rfl
  have X1_1 := X1.at_ 1 rfl
  have X1_2 := X1.at_ 2 rfl
  have X1f := X1.free
  have X1z := X1.lt
  go_wp2_with fail
  refine bodyPost_ret (v := .agg #[.int .i64 (W : Int), .int .i64 (H : Int), .slice (some ⟨b, 0, none⟩) n cap]) (by simp [results, Try.results58, go_sem, X1_0, X1_1, X1_2]) rfl ⟨b, cap, rfl, by omega, by (repeat' (first | with_reducible assumption | with_reducible refine Ro.drew ?_ | with_reducible refine Ro.drewN ?_ _ | with_reducible refine Ro.alloc ?_ _ | with_reducible refine Ro.far ?_ ?_ _ | (show _ ≠ _; dsimp only; omega))), hcap, by (repeat' (first | with_reducible assumption | with_reducible exact Below.refl _ _ | with_reducible refine Below.drew ?_ | with_reducible refine below_drewN ?_ _ | with_reducible refine balloc ?_ _ | with_reducible refine bset ?_ ?_ _ | with_reducible refine Below.setCell ?_ ?_ _ | with_reducible refine Below.alloc ?_ ?_ _ | omega | (simp; done) | (simp; omega)))⟩
theorem validG_of {W H : Nat} {g : Nat → C4} (h1 : 1 ≤ W ∧ W ≤ 64) (h2 : 1 ≤ H ∧ H ≤ 64) (hm : W * H ≤ 1024) (hv : okG (W * H) g) : validG (W : Int) (H : Int) (W * H) g = true := by
  rw [validG_iff]
  have e : (W : Int) * (H : Int) = ((W * H : Nat) : Int) := by simp
  exact ⟨by omega, by omega, by omega, by omega, by rw [e]; omega, by rw [e], hv.1, hv.2⟩
theorem field_grid (x y z : Value) : ∀ w : World, (Instr.field 85 (.agg #[x, y, z]) 0).run Try.prog w = .ok (.agg #[x, y, z]) w := fun w => by kernel_rfl
/-- a grid of its own, and no error -/
def GridRow0 (W H n : Nat) (g : Nat → C4) (w : World) (e : Ending) (w' : World) : Prop :=
  ∃ b cap, e = .returned (.tuple #[.agg #[.int .i64 (W : Int), .int .i64 (H : Int), .slice (some ⟨b, 0, none⟩) n cap], .int .i64 0]) ∧ w.heap.size ≤ b ∧ Ro w' b (n * 4) (flatC g) ∧ n ≤ cap ∧ Below w.heap.size w w'
set_option maxRecDepth 100000 in
set_option maxHeartbeats 1000000 in
theorem grid_changedS (W H : Nat) (a : Option Addr) (ca : Nat) (g : Nat → C4) (w : World) (h1 : 1 ≤ W ∧ W ≤ 64) (h2 : 1 ≤ H ∧ H ≤ 64) (hm : W * H ≤ 1024) (S : Sc w a (W * H) g) (hv : okG (W * H) g) : Calls Try.prog 36 #[.agg #[.int .i64 (W : Int), .int .i64 (H : Int), .slice a (W * H) ca], .func (.func 58) #[] #[]] w (GridRow0 W H (W * H) (flow W H g) w) := by
  have hval := fun W' S' => grid_valid W H a (W * H) ca g W' (by omega) S'
  rw [validG_of h1 h2 hm hv] at hval
  have hn0 : 0 < W * H := Nat.mul_pos (by omega) (by omega)
  have hof := fun W' S' => grid_of W H a (W * H) ca g W' (by omega) hn0 S'
  have hst := fun b₀ c₀ W' S' => grid_stream1 W H b₀ c₀ g W' h1 h2 S' hv.1
  clear hv h1 h2
  generalize flow W H g = G at *
  generalize W * H = n at *
  have X0 := (Bx.new w #[.int .i64 (W : Int), .int .i64 (H : Int), .slice a n ca] 24).alloc (.cells #[.int .i64 0, .int .i64 0, .slice none 0 0] 24)
  have X1 := Bx.new (w.alloc (.cells #[.int .i64 (W : Int), .int .i64 (H : Int), .slice a n ca] 24)) #[.int .i64 0, .int .i64 0, .slice none 0 0] 24
  simp only [World.size_alloc] at X1
  have hB0 : Below w.heap.size w ((w.alloc (.cells #[.int .i64 (W : Int), .int .i64 (H : Int), .slice a n ca] 24)).alloc (.cells #[.int .i64 0, .int .i64 0, .slice none 0 0] 24)) := by (repeat' (first | with_reducible assumption | with_reducible exact Below.refl _ _ | with_reducible refine Below.drew ?_ | with_reducible refine below_drewN ?_ _ | with_reducible refine balloc ?_ _ | with_reducible refine bset ?_ ?_ _ | with_reducible refine Below.setCell ?_ ?_ _ | with_reducible refine Below.alloc ?_ ?_ _ | omega | (simp; done) | (simp; omega)))
  go_enter Try.func36, Try.ntmps36
  go_wp2_with fail
  generalize ((w.alloc (.cells #[.int .i64 (W : Int), .int .i64 (H : Int), .slice a n ca] 24)).alloc (.cells #[.int .i64 0, .int .i64 0, .slice none 0 0] 24)) = W0 at X0 X1 hB0 ⊢
  have z0 := X0.lt
  have z1 := X1.lt
  refine (hval _ (S.below hB0)).mono ?_
  rintro e w1 ⟨rfl, hb1⟩
  have hB := hB0
  clear hB0 hval
  replace X0 := X0.below hb1
  replace X1 := X1.below hb1
  replace hB := bvia hB hb1
  clear hb1
  have X0_0 := X0.at_ 0 rfl
  have X0_1 := X0.at_ 1 rfl
  have X0_2 := X0.at_ 2 rfl
  go_wp2_with fail
  refine (hof _ (S.below hB)).mono ?_
  rintro e w2 ⟨b₁, c₁, rfl, hb₁, R₁, hc₁, hb2⟩
  have hs1 := hB.size
  clear X0_0 X0_1 X0_2
  replace X0 := X0.below hb2
  replace X1 := X1.below hb2
  replace hB := bvia hB hb2
  clear hb2
  have X0_0 := X0.at_ 0 rfl
  have X0_1 := X0.at_ 1 rfl
  have X0_2 := X0.at_ 2 rfl
  go_wp2_with fail
  refine (hst _ _ _ R₁.sc).mono ?_
  rintro e w3 ⟨b, cap, rfl, hb, R, hcap, hb3⟩
  have hs2 := X1.lt
  clear X0_0 X0_1 X0_2
  replace X0 := X0.below hb3
  replace X1 := X1.below hb3
  replace hB := bvia hB hb3
  clear hb3
  have X0_0 := X0.at_ 0 rfl
  have X0_1 := X0.at_ 1 rfl
  have X0_2 := X0.at_ 2 rfl
  clear X0_0 X0_1 X0_2
  have X1_0 := X1.at_ 0 rfl
  have X1_1 := X1.at_ 1 rfl
  have X1_2 := X1.at_ 2 rfl
  have X1f := X1.free
  have X1z := X1.lt
  clear R₁
  have hfd := field_grid (.int .i64 (W : Int)) (.int .i64 (H : Int)) (.slice (some ⟨b, 0, none⟩) n cap)
  go_wp2_with fail
  refine bodyPost_ret (v := .tuple #[.agg #[.int .i64 (W : Int), .int .i64 (H : Int), .slice (some ⟨b, 0, none⟩) n cap], .int .i64 0]) (by simp [results, Try.results36, go_sem, X1_0, X1_1, X1_2]) rfl ⟨b, cap, rfl, by omega, by (repeat' (first | with_reducible assumption | with_reducible refine Ro.drew ?_ | with_reducible refine Ro.drewN ?_ _ | with_reducible refine Ro.alloc ?_ _ | with_reducible refine Ro.far ?_ ?_ _ | (show _ ≠ _; dsimp only; omega))), hcap, by (repeat' (first | with_reducible assumption | with_reducible exact Below.refl _ _ | with_reducible refine Below.drew ?_ | with_reducible refine below_drewN ?_ _ | with_reducible refine balloc ?_ _ | with_reducible refine bset ?_ ?_ _ | with_reducible refine Below.setCell ?_ ?_ _ | with_reducible refine Below.alloc ?_ ?_ _ | omega | (simp; done) | (simp; omega)))⟩
set_option maxRecDepth 100000 in
set_option maxHeartbeats 1000000 in
theorem grid_Stream (W H : Nat) (a : Option Addr) (ca : Nat) (g : Nat → C4) (w : World) (h1 : 1 ≤ W ∧ W ≤ 64) (h2 : 1 ≤ H ∧ H ≤ 64) (hm : W * H ≤ 1024) (S : Sc w a (W * H) g) (hv : okG (W * H) g) : Calls Try.prog 42 #[.agg #[.int .i64 (W : Int), .int .i64 (H : Int), .slice a (W * H) ca]] w (GridRow0 W H (W * H) (flow W H g) w) := by
  have hc := fun W' S' => grid_changedS W H a ca g W' h1 h2 hm S' hv
  clear hv h1 h2
  generalize flow W H g = G at *
  generalize W * H = n at *
  have X0 := (Bx.new w #[.int .i64 (W : Int), .int .i64 (H : Int), .slice a n ca] 24).alloc (.cells #[.int .i64 0, .int .i64 0, .slice none 0 0] 24)
  have X1 := Bx.new (w.alloc (.cells #[.int .i64 (W : Int), .int .i64 (H : Int), .slice a n ca] 24)) #[.int .i64 0, .int .i64 0, .slice none 0 0] 24
  simp only [World.size_alloc] at X1
  have hB0 : Below w.heap.size w ((w.alloc (.cells #[.int .i64 (W : Int), .int .i64 (H : Int), .slice a n ca] 24)).alloc (.cells #[.int .i64 0, .int .i64 0, .slice none 0 0] 24)) := by (repeat' (first | with_reducible assumption | with_reducible exact Below.refl _ _ | with_reducible refine Below.drew ?_ | with_reducible refine below_drewN ?_ _ | with_reducible refine balloc ?_ _ | with_reducible refine bset ?_ ?_ _ | with_reducible refine Below.setCell ?_ ?_ _ | with_reducible refine Below.alloc ?_ ?_ _ | omega | (simp; done) | (simp; omega)))
  go_enter Try.func42, Try.ntmps42
  go_wp2_with fail
  generalize ((w.alloc (.cells #[.int .i64 (W : Int), .int .i64 (H : Int), .slice a n ca] 24)).alloc (.cells #[.int .i64 0, .int .i64 0, .slice none 0 0] 24)) = W0 at X0 X1 hB0 ⊢
  have z0 := X0.lt
  have z1 := X1.lt
  refine (hc _ (S.below hB0)).mono ?_
  rintro e w1 ⟨b, cap, rfl, hb, R, hcap, hb1⟩
  have hB := hB0
  clear hB0 hc
  have hs1 := hB.size
  replace X0 := X0.below hb1
  replace X1 := X1.below hb1
  replace hB := bvia hB hb1
  clear hb1
  have X1_0 := X1.at_ 0 rfl
  have X1_1 := X1.at_ 1 rfl
  have X1_2 := X1.at_ 2 rfl
  have X1f := X1.free
  have X1z := X1.lt
  go_wp2_with fail
  refine bodyPost_ret (v := .tuple #[.agg #[.int .i64 (W : Int), .int .i64 (H : Int), .slice (some ⟨b, 0, none⟩) n cap], .int .i64 0]) (by simp [results, Try.results42, go_sem, X1_0, X1_1, X1_2]) rfl ⟨b, cap, rfl, by omega, by (repeat' (first | with_reducible assumption | with_reducible refine Ro.drew ?_ | with_reducible refine Ro.drewN ?_ _ | with_reducible refine Ro.alloc ?_ _ | with_reducible refine Ro.far ?_ ?_ _ | (show _ ≠ _; dsimp only; omega))), hcap, by (repeat' (first | with_reducible assumption | with_reducible exact Below.refl _ _ | with_reducible refine Below.drew ?_ | with_reducible refine below_drewN ?_ _ | with_reducible refine balloc ?_ _ | with_reducible refine bset ?_ ?_ _ | with_reducible refine Below.setCell ?_ ?_ _ | with_reducible refine Below.alloc ?_ ?_ _ | omega | (simp; done) | (simp; omega)))⟩
end Go.Proofs.Ythlbmlfkmfheiaa
