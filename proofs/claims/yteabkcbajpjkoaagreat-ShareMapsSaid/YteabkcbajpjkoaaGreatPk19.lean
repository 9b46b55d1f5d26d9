/- Walks: streaming a grid, of the program. Walks: the program's streamed, Stream and Unstream. Walks: the program's steps of a grid: collided, forth. -/
import Derived.Test.YteabkcbajpjkoaaGreatPk18
import Derived.Test.YteabkcbajpjkoaaGreatPk4
namespace Go.Proofs.YteabkcbajpjkoaaGreat
open Go Go.RowKit
set_option linter.unusedVariables false
/-! ### plain: particles sent to their places -/
/-- the places j from which nothing came before k are empty -/
def scatTo (src : Nat → Nat) (F : Nat → Int) (k : Nat) : Nat → Int := fun j => if src j < k then F j else 0
theorem scatTo_zero (src : Nat → Nat) (F : Nat → Int) : scatTo src F 0 = fun _ => 0 := by funext j; simp [scatTo]
theorem scatTo_step {src : Nat → Nat} {F : Nat → Int} {k t N : Nat} (h1 : src t = k) (h2 : ∀ j, j < N → src j = k → j = t) : scatTo src F k t = 0 ∧ ∀ j, j < N → upd (scatTo src F k) t (F t) j = scatTo src F (k + 1) j := by
  refine ⟨by simp [scatTo, h1], fun j hj => ?_⟩
  unfold upd scatTo
  by_cases e : j = t
  · subst e; simp [h1]
  · have h3 : src j ≠ k := fun h => e (h2 j hj h)
    rw [if_neg e]
    simp only [show (src j < k + 1) = (src j < k) from propext ⟨by omega, by omega⟩]
def mvx : Nat → Int | 0 => 1 | 1 => 0 | 2 => -1 | _ => 0
def mvy : Nat → Int | 0 => 0 | 1 => 1 | 2 => 0 | _ => -1
/-- where what goes in a direction comes to: one place on, or one back -/
def towD (fw : Bool) (d : Nat) : Nat := if fw then opp d else d
def sgn (fw : Bool) : Int := if fw then 1 else -1
theorem oppW_lt (d : Nat) : opp d < 4 := by
  unfold opp; split <;> omega
theorem oppW_opp {d : Nat} (h : d < 4) : opp (opp d) = d := by
  rcases (by omega : d = 0 ∨ d = 1 ∨ d = 2 ∨ d = 3) with rfl | rfl | rfl | rfl <;> rfl
theorem towD_lt (fw : Bool) {d : Nat} (h : d < 4) : towD fw d < 4 := by cases fw; exact h; exact oppW_lt d
def strG (fw : Bool) (W H : Nat) (g : Nat → C4) : Nat → C4 := if fw then flow W H g else ebb W H g
theorem flow_get (W H : Nat) (g : Nat → C4) (i d : Nat) (hd : d < 4) : (flow W H g i).get d = (g (nbT W H i d)).get d := by
  rcases (by omega : d = 0 ∨ d = 1 ∨ d = 2 ∨ d = 3) with rfl | rfl | rfl | rfl <;> rfl
theorem ebb_get (W H : Nat) (g : Nat → C4) (i d : Nat) (hd : d < 4) : (ebb W H g i).get d = (g (nbT W H i (opp d))).get d := by
  rcases (by omega : d = 0 ∨ d = 1 ∨ d = 2 ∨ d = 3) with rfl | rfl | rfl | rfl <;> rfl
/-- from which place and number the number j of the streamed row comes -/
def srcS (fw : Bool) (W H : Nat) (j : Nat) : Nat := nbT W H (j / 4) (opp (towD fw (j % 4))) * 4 + j % 4
theorem tow_back (fw : Bool) {W H i d : Nat} (h : i < W * H) (hd : d < 4) : nbT W H (nbT W H i (towD fw d)) (opp (towD fw d)) = i := nbT_opp h (towD_lt fw hd)
theorem tow_back' (fw : Bool) {W H i d : Nat} (h : i < W * H) (hd : d < 4) : nbT W H (nbT W H i (opp (towD fw d))) (towD fw d) = i := by
  have := nbT_opp h (oppW_lt (towD fw d))
  rwa [oppW_opp (towD_lt fw hd)] at this
theorem str_step (fw : Bool) {W H : Nat} (g : Nat → C4) {i d : Nat} (h : i < W * H) (hd : d < 4) :
    srcS fw W H (nbT W H i (towD fw d) * 4 + d) = i * 4 + d ∧ (∀ j, j < W * H * 4 → srcS fw W H j = i * 4 + d → j = nbT W H i (towD fw d) * 4 + d) ∧ flatC (strG fw W H g) (nbT W H i (towD fw d) * 4 + d) = (g i).get d := by
  refine ⟨?_, ?_, ?_⟩
  · unfold srcS
    rw [show (nbT W H i (towD fw d) * 4 + d) / 4 = nbT W H i (towD fw d) from by omega, show (nbT W H i (towD fw d) * 4 + d) % 4 = d from by omega, tow_back fw h hd]
  · intro j hj e
    unfold srcS at e
    have e1 : j % 4 = d := by omega
    have e2 : nbT W H (j / 4) (opp (towD fw d)) = i := by rw [e1] at e; omega
    have e3 := tow_back' fw (show j / 4 < W * H by omega) hd
    rw [e2] at e3
    omega
  · rw [flatC_at _ _ _ hd]
    cases fw
    · show (ebb W H g _).get d = _
      rw [ebb_get _ _ _ _ _ hd]
      have := tow_back false h hd
      simp only [towD, Bool.false_eq_true, if_false] at this ⊢
      rw [this]
    · show (flow W H g _).get d = _
      rw [flow_get _ _ _ _ _ hd]
      have := tow_back true h hd
      simp only [towD, if_true, oppW_opp hd] at this ⊢
      rw [this]
theorem srcS_lt (fw : Bool) {W H j : Nat} (h : j < W * H * 4) : srcS fw W H j < W * H * 4 := by
  unfold srcS
  have := nbT_lt (W := W) (H := H) (i := j / 4) (d := opp (towD fw (j % 4))) (by omega) (oppW_lt _)
  omega
/-- the place in ints -/
theorem tow_int (fw : Bool) {W H i d : Nat} (h1 : 0 < W) (h2 : 0 < H) (h : i < W * H) (hd : d < 4) : (((i : Int) % W + sgn fw * mvx d) % W + W * (((i : Int) / W + sgn fw * mvy d) % H)) = (nbT W H i (towD fw d) : Int) := by
  have hw : (W : Int) ≠ 0 := by omega
  have hh : (H : Int) ≠ 0 := by omega
  have key : ∀ (x m : Int), (x + -1) % m = (x + m - 1) % m := fun x m => by
    rw [show x + m - 1 = (x + -1) + m by omega, Int.add_emod_right]
  obtain ⟨hx, hy⟩ := row_lt h
  have ex : (i : Int) % (W : Int) % W = (i : Int) % W := Int.emod_emod _ _
  have ey : (i : Int) / (W : Int) % H = (i : Int) / W := by
    have e : ((i / W : Nat) : Int) = (i : Int) / (W : Int) := by simp
    have e0 : 0 ≤ ((i / W : Nat) : Int) := Int.natCast_nonneg _
    rw [← e]; exact Int.emod_eq_of_lt e0 (by omega)
  have fin : ∀ k, k < 4 → ∀ mx my : Int, ((i : Int) % W + mx) % W + W * (((i : Int) / W + my) % H) = (match k with
    | 0 => ((i : Int) % W + W - 1) % W + (i : Int) / W % H * W
    | 1 => (i : Int) % W % W + ((i : Int) / W + H - 1) % H * W
    | 2 => ((i : Int) % W + 1) % W + (i : Int) / W % H * W
    | _ => (i : Int) % W % W + ((i : Int) / W + 1) % H * W) → ((i : Int) % W + mx) % W + W * (((i : Int) / W + my) % H) = (nbT W H i k : Int) := fun k hk mx my e => by
    rw [e]
    rcases (by omega : k = 0 ∨ k = 1 ∨ k = 2 ∨ k = 3) with rfl | rfl | rfl | rfl <;> exact (nbT_int hk h1 h2).symm
  cases fw <;> rcases (by omega : d = 0 ∨ d = 1 ∨ d = 2 ∨ d = 3) with rfl | rfl | rfl | rfl
  · exact fin 0 (by omega) (-1) 0 (by simp only [key, Int.add_zero, ey]; rw [Int.mul_comm])
  · exact fin 1 (by omega) 0 (-1) (by simp only [key, Int.add_zero, ex]; rw [Int.mul_comm])
  · exact fin 2 (by omega) 1 0 (by simp only [Int.add_zero, ey]; rw [Int.mul_comm])
  · exact fin 3 (by omega) 0 1 (by simp only [Int.add_zero, ex]; rw [Int.mul_comm])
  · exact fin 2 (by omega) 1 0 (by simp only [Int.add_zero, ey]; rw [Int.mul_comm])
  · exact fin 3 (by omega) 0 1 (by simp only [Int.add_zero, ex]; rw [Int.mul_comm])
  · exact fin 0 (by omega) (-1) 0 (by simp only [key, Int.add_zero, ey]; rw [Int.mul_comm])
  · exact fin 1 (by omega) 0 (-1) (by simp only [key, Int.add_zero, ex]; rw [Int.mul_comm])
/-! ### walks -/
theorem grid_modulo (a m : Int) (w : World) (h0 : -100000 ≤ a) (h1 : a ≤ 100000) (h2 : 0 < m) (h3 : m ≤ 100000) : Calls Tryz.prog 149 #[.int .i64 a, .int .i64 m] w fun e w' => e = .returned (.int .i64 (a % m)) ∧ w = w' := by
  have e : (a.tmod m + m) % m = a % m := by
    have g1 := Int.emod_nonneg a (show m ≠ 0 by omega)
    have g2 := Int.emod_lt_of_pos a h2
    obtain ⟨t1, t2, t3, t4⟩ := tmod_sign (a := a) h2
    by_cases h : a.tmod m < 0
    · rw [← t2 h, Int.emod_emod]
    · rw [← t1 (by omega), Int.add_emod_right, Int.emod_emod]
  obtain ⟨t1, t2, t3, t4⟩ := tmod_sign (a := a) h2
  have hp0 : ¬ m = 0 := by omega
  have HE := hid e
  clear t1 t2 e
  go_enter Tryz.func149, Tryz.ntmps149
  go_wp2
  go_ret
  exact ⟨ret_int HE.out, rfl⟩
theorem grid_place (W H i : Nat) (a : Option Addr) (n ca : Nat) (w : World) (hW : 0 < W) (hW2 : W ≤ 64) (hi : i ≤ 100000) : Calls Tryz.prog 135 #[.agg #[.int .i64 (W : Int), .int .i64 (H : Int), .slice a n ca], .int .i64 (i : Int)] w fun e w' => e = .returned (.tuple #[.int .i64 ((i : Int) % W), .int .i64 ((i : Int) / W)]) ∧ Below w.heap.size w w' := by
  have hw0 : ¬ (W : Int) = 0 := by omega
  have ht : (i : Int).tmod (W : Int) = (i : Int) % (W : Int) := Int.tmod_eq_emod_of_nonneg (by omega)
  have hdv : (i : Int).tdiv (W : Int) = (i : Int) / (W : Int) := Int.tdiv_eq_ediv_of_nonneg (by omega)
  have y0 : 0 ≤ (i : Int) / (W : Int) := Int.ediv_nonneg (by omega) (by omega)
  have y1 : (i : Int) / (W : Int) ≤ i := Int.ediv_le_self _ (by omega)
  have hwr : wrap64 ((i : Int) / (W : Int)) = (i : Int) / (W : Int) := by unfold wrap64; omega
  have X0 := Bx.new w #[.int .i64 (W : Int), .int .i64 (H : Int), .slice a n ca] 109
  have hB0 : Below w.heap.size w (w.alloc (.cells #[.int .i64 (W : Int), .int .i64 (H : Int), .slice a n ca] 109)) := by (repeat' (first | with_reducible assumption | with_reducible exact Below.refl _ _ | with_reducible refine Below.drew ?_ | with_reducible refine below_drewN ?_ _ | with_reducible refine balloc ?_ _ | with_reducible refine bset ?_ ?_ _ | with_reducible refine Below.setCell ?_ ?_ _ | with_reducible refine Below.alloc ?_ ?_ _ | omega | (simp; done) | (simp; omega)))
  go_enter Tryz.func135, Tryz.ntmps135
  go_upto_region 1 with (fail)
  generalize (w.alloc (.cells #[.int .i64 (W : Int), .int .i64 (H : Int), .slice a n ca] 109)) = W0 at X0 hB0 ⊢
  have z0 := X0.lt
  have x0 := X0.at_ 0 rfl
  go_quiet (fail)
  go_wp2
  go_ret2
  have hB := hB0
  exact ⟨rfl, by (repeat' (first | with_reducible assumption | with_reducible exact Below.refl _ _ | with_reducible refine Below.drew ?_ | with_reducible refine below_drewN ?_ _ | with_reducible refine balloc ?_ _ | with_reducible refine bset ?_ ?_ _ | with_reducible refine Below.setCell ?_ ?_ _ | with_reducible refine Below.alloc ?_ ?_ _ | omega | (simp; done) | (simp; omega)))⟩
set_option maxRecDepth 100000 in
set_option maxHeartbeats 1000000 in
theorem grid_at (W H : Nat) (x y : Int) (j b off n ca : Nat) (w : World) (hW : 0 < W) (hW2 : W ≤ 64) (hH : 0 < H) (hH2 : H ≤ 64) (x0 : -1000 ≤ x) (x1 : x ≤ 1000) (y0 : -1000 ≤ y) (y1 : y ≤ 1000) (hj : x % W + W * (y % H) = (j : Int)) (hjn : j < n) (hn : n ≤ 4096) :
    Calls Tryz.prog 137 #[.agg #[.int .i64 (W : Int), .int .i64 (H : Int), .slice (some ⟨b, off, none⟩) n ca], .int .i64 x, .int .i64 y] w fun e w' => e = .returned (.pointer (some ⟨b, off + j * 4, none⟩)) ∧ Below w.heap.size w w' := by
  have m1 := fun W' => grid_modulo x W W' (by omega) (by omega) (by omega) (by omega)
  have m2 := fun W' => grid_modulo y H W' (by omega) (by omega) (by omega) (by omega)
  have a0 : 0 ≤ x % (W : Int) := Int.emod_nonneg _ (by omega)
  have a1 : x % (W : Int) < W := Int.emod_lt_of_pos _ (by omega)
  have b0 : 0 ≤ y % (H : Int) := Int.emod_nonneg _ (by omega)
  have b1 : y % (H : Int) < H := Int.emod_lt_of_pos _ (by omega)
  generalize x % (W : Int) = p at *
  generalize y % (H : Int) = q at *
  have c0 : 0 ≤ (W : Int) * q := Int.mul_nonneg (by omega) b0
  have c1 : (W : Int) * q ≤ 64 * 64 := Int.mul_le_mul (by omega) (by omega) (by omega) (by omega)
  have c2 := IntWalk.i64_in ((W : Int) * q) (by omega)
  have c3 : wrap64 ((W : Int) * q) = (W : Int) * q := by unfold wrap64; omega
  have c4 := IntWalk.i64_in (p + (W : Int) * q) (by omega)
  have X0 := Bx.new w #[.int .i64 (W : Int), .int .i64 (H : Int), .slice (some ⟨b, off, none⟩) n ca] 109
  have hB0 : Below w.heap.size w (w.alloc (.cells #[.int .i64 (W : Int), .int .i64 (H : Int), .slice (some ⟨b, off, none⟩) n ca] 109)) := by (repeat' (first | with_reducible assumption | with_reducible exact Below.refl _ _ | with_reducible refine Below.drew ?_ | with_reducible refine below_drewN ?_ _ | with_reducible refine balloc ?_ _ | with_reducible refine bset ?_ ?_ _ | with_reducible refine Below.setCell ?_ ?_ _ | with_reducible refine Below.alloc ?_ ?_ _ | omega | (simp; done) | (simp; omega)))
  go_enter Tryz.func137, Tryz.ntmps137
  go_upto_region 1 with (fail)
  generalize (w.alloc (.cells #[.int .i64 (W : Int), .int .i64 (H : Int), .slice (some ⟨b, off, none⟩) n ca] 109)) = W0 at X0 hB0 ⊢
  have z0 := X0.lt
  have x00 := X0.at_ 0 rfl; have x01 := X0.at_ 1 rfl; have x02 := X0.at_ 2 rfl
  go_quiet ((first | (go_at_call_of 149 (Value.int .i64 x); exact Calls.quiet_of_same ((m1 _).mono fun e w' h => ⟨h.1, h.2.symm⟩)) | (go_at_call_of 149 (Value.int .i64 y); exact Calls.quiet_of_same ((m2 _).mono fun e w' h => ⟨h.1, h.2.symm⟩))))
  go_wp2
  have hB := hB0
  go_ret
  exact ⟨rfl, by (repeat' (first | with_reducible assumption | with_reducible exact Below.refl _ _ | with_reducible refine Below.drew ?_ | with_reducible refine below_drewN ?_ _ | with_reducible refine balloc ?_ _ | with_reducible refine bset ?_ ?_ _ | with_reducible refine Below.setCell ?_ ?_ _ | with_reducible refine Below.alloc ?_ ?_ _ | omega | (simp; done) | (simp; omega)))⟩
theorem grid_move (d : Nat) (w : World) (hd : d < 4) : Calls Tryz.prog 136 #[.int .i64 (d : Int)] w fun e w' => e = .returned (.tuple #[.int .i64 (mvx d), .int .i64 (mvy d)]) ∧ Below w.heap.size w w' := by
  have hT : ∀ k, k < 4 → ∀ (w : World), (Instr.index 157 (.agg #[.int .i64 1, .int .i64 0, .int .i64 0, .int .i64 1, .int .i64 (-1), .int .i64 0, .int .i64 0, .int .i64 (-1)]) (.int .i64 (k : Nat))).run Tryz.prog w = .ok (.agg #[.int .i64 (mvx k), .int .i64 (mvy k)]) w := fun k hk w => by
    rcases (by omega : k = 0 ∨ k = 1 ∨ k = 2 ∨ k = 3) with rfl | rfl | rfl | rfl <;> kernel_rfl
  have h := hT d hd
  clear hT
  go_enter Tryz.func136, Tryz.ntmps136
  have X0 := Bx.new w #[.int .i64 (mvx d), .int .i64 (mvy d)] 46
  have hB0 : Below w.heap.size w (w.alloc (.cells #[.int .i64 (mvx d), .int .i64 (mvy d)] 46)) := by (repeat' (first | with_reducible assumption | with_reducible exact Below.refl _ _ | with_reducible refine Below.drew ?_ | with_reducible refine below_drewN ?_ _ | with_reducible refine balloc ?_ _ | with_reducible refine bset ?_ ?_ _ | with_reducible refine Below.setCell ?_ ?_ _ | with_reducible refine Below.alloc ?_ ?_ _ | omega | (simp; done) | (simp; omega)))
  go_wp2
  generalize (w.alloc (.cells #[.int .i64 (mvx d), .int .i64 (mvy d)] 46)) = W0 at X0 hB0 ⊢
  have z0 := X0.lt
  have x0 := X0.at_ 0 rfl; have x1 := X0.at_ 1 rfl
  go_quiet (fail)
  go_wp2
  go_ret2
  have hB := hB0
  exact ⟨rfl, by (repeat' (first | with_reducible assumption | with_reducible exact Below.refl _ _ | with_reducible refine Below.drew ?_ | with_reducible refine below_drewN ?_ _ | with_reducible refine balloc ?_ _ | with_reducible refine bset ?_ ?_ _ | with_reducible refine Below.setCell ?_ ?_ _ | with_reducible refine Below.alloc ?_ ?_ _ | omega | (simp; done) | (simp; omega)))⟩
set_option maxRecDepth 100000 in
set_option maxHeartbeats 1000000 in
theorem grid_empty (W H : Nat) (w : World) (hn : W * H ≤ 100000) (hW : W ≤ 64) (hH : H ≤ 64) : Calls Tryz.prog 134 #[.int .i64 (W : Int), .int .i64 (H : Int)] w (GridRow W H (W * H) (fun _ => C4.zero) w) := by
  have hP : (W : Int) * (H : Int) = ((W * H : Nat) : Int) := by simp
  generalize W * H = n at *
  have hmk := fun W' => mk_cells n (n : Int) rfl (by omega) W'
  have R := fun b => roC_made (w.alloc (.cells #[.int .i64 (W : Int), .int .i64 (H : Int), .slice (some ⟨b, 0, none⟩) n n] 109)) n
  simp only [World.size_alloc] at R
  go_enter Tryz.func134, Tryz.ntmps134
  go_wp2
  refine bodyPost_ret (v := .agg #[.int .i64 (W : Int), .int .i64 (H : Int), .slice (some ⟨w.heap.size + 1, 0, none⟩) n n]) (by simp [results, Tryz.results134, go_sem]) rfl ⟨w.heap.size + 1, n, rfl, by omega, R _, Nat.le_refl _, by (repeat' (first | with_reducible assumption | with_reducible exact Below.refl _ _ | with_reducible refine Below.drew ?_ | with_reducible refine below_drewN ?_ _ | with_reducible refine balloc ?_ _ | with_reducible refine bset ?_ ?_ _ | with_reducible refine Below.setCell ?_ ?_ _ | with_reducible refine Below.alloc ?_ ?_ _ | omega | (simp; done) | (simp; omega)))⟩
theorem mk_cap (n : Nat) (hn : n ≤ 100000000) (w : World) :
    (Instr.makeSlice 22 (.int .i64 0) (.int .i64 (n : Int))).run Tryz.prog w = .ok (.slice (some ⟨w.heap.size, 0, none⟩) 0 n) (w.alloc (.cells (ccells n) 49)) := by
  obtain ⟨i0, hi, hz0, hz1, hz2⟩ := info_parts infoC
  have hr := run_make (P := Tryz.prog) w 22 49 i0 _ Tryz.underlying22 hi hz0 .i64 .i64 0 n (by omega) (by omega) (by rw [hz2]; omega) (by omega)
  simp only [Int.toNat_natCast, hz1] at hr
  exact hr
set_option maxRecDepth 100000 in
set_option maxHeartbeats 1000000 in
theorem grid_of (W H : Nat) (a : Option Addr) (n ca : Nat) (g : Nat → C4) (w : World) (hn : n ≤ 100000) (h0 : 0 < n) (S : Sc w a n g) : Calls Tryz.prog 74 #[.agg #[.int .i64 (W : Int), .int .i64 (H : Int), .slice a n ca]] w (GridRow W H n g w) := by
  obtain ⟨i0, hi, hz0, hz1, hz2⟩ := info_parts infoC
  obtain ⟨b, o, rfl, hlt, _⟩ := S 0 h0
  have hmk := fun W' => mk_cap n (by omega) W'
  have X0 := (Bx.new w #[.int .i64 (W : Int), .int .i64 (H : Int), .slice (some ⟨b, o, none⟩) n ca] 24).alloc (.cells #[.int .i64 0, .int .i64 0, .slice none 0 0] 109)
  have X1 := Bx.new (w.alloc (.cells #[.int .i64 (W : Int), .int .i64 (H : Int), .slice (some ⟨b, o, none⟩) n ca] 24)) #[.int .i64 0, .int .i64 0, .slice none 0 0] 109
  simp only [World.size_alloc] at X1
  have hB0 : Below w.heap.size w ((w.alloc (.cells #[.int .i64 (W : Int), .int .i64 (H : Int), .slice (some ⟨b, o, none⟩) n ca] 24)).alloc (.cells #[.int .i64 0, .int .i64 0, .slice none 0 0] 109)) := by (repeat' (first | with_reducible assumption | with_reducible exact Below.refl _ _ | with_reducible refine Below.drew ?_ | with_reducible refine below_drewN ?_ _ | with_reducible refine balloc ?_ _ | with_reducible refine bset ?_ ?_ _ | with_reducible refine Below.setCell ?_ ?_ _ | with_reducible refine Below.alloc ?_ ?_ _ | omega | (simp; done) | (simp; omega)))
  go_enter Tryz.func74, Tryz.ntmps74
  go_upto_region 2 with (fail)
  generalize ((w.alloc (.cells #[.int .i64 (W : Int), .int .i64 (H : Int), .slice (some ⟨b, o, none⟩) n ca] 24)).alloc (.cells #[.int .i64 0, .int .i64 0, .slice none 0 0] 109)) = W0 at X0 X1 hB0 ⊢
  have z0 := X0.lt
  have z1 := X1.lt
  have hs0 := hB0.size
  have r2 : ∀ X, Below W0.heap.size W0 X → X.cell? ⟨w.heap.size, 2, none⟩ = some (.slice (some ⟨b, o, none⟩) n ca) := fun X h => (X0.below h).at_ 2 rfl
  refine wp_region_S (fun X => Below W0.heap.size W0 X) 9 (by kernel_rfl) ?_
  refine anyS_take (i := 0) rfl (by kernel_rfl) (fun _ _ _ h => h) (Or.inl ⟨by rfl, fun Y hYb => (by (try dsimp only at hYb); go_simp; rfl)⟩) (by repeat' (first | with_reducible assumption | with_reducible exact Below.refl _ _ | with_reducible refine Below.drew ?_ | with_reducible refine below_drewN ?_ _)) ?_
  refine anyS_take (i := 2) rfl (by kernel_rfl) (fun _ _ _ h => h) (Or.inl ⟨by rfl, fun Y hYb => (by (try dsimp only at hYb); go_simp; rfl)⟩) (by repeat' (first | with_reducible assumption | with_reducible exact Below.refl _ _ | with_reducible refine Below.drew ?_ | with_reducible refine below_drewN ?_ _)) ?_
  refine anyS_take (i := 3) rfl (by kernel_rfl) (fun _ _ _ h => h) (Or.inl ⟨by rfl, fun Y hYb => (by (try dsimp only at hYb); go_simp; rfl)⟩) (by repeat' (first | with_reducible assumption | with_reducible exact Below.refl _ _ | with_reducible refine Below.drew ?_ | with_reducible refine below_drewN ?_ _)) ?_
  refine anyS_take (i := 5) rfl (by kernel_rfl) (fun _ _ _ h => h) (Or.inl ⟨by rfl, fun Y hYb => (by (try dsimp only at hYb); go_simp; rfl)⟩) (by repeat' (first | with_reducible assumption | with_reducible exact Below.refl _ _ | with_reducible refine Below.drew ?_ | with_reducible refine below_drewN ?_ _)) ?_
  refine anyS_take (i := 6) rfl (by kernel_rfl) (fun _ _ _ h => h) (Or.inl ⟨by rfl, fun Y hYb => (by (try dsimp only at hYb); go_simp; rfl)⟩) (by repeat' (first | with_reducible assumption | with_reducible exact Below.refl _ _ | with_reducible refine Below.drew ?_ | with_reducible refine below_drewN ?_ _)) ?_
  refine anyS_one (i := 1) (by kernel_rfl) rfl (by rfl) (fun K hK => ?_)
  go_simp
  have hS1 : Below W0.heap.size W0 (W0.alloc (.cells (ccells n) 49)).drew := (below_alloc W0 _).drew
  have own0 : (W0.alloc (.cells (ccells n) 49)).drew.ownsRow W0.heap.size 49 4 (.slice (some ⟨W0.heap.size, 0, none⟩) 0 n) 0 [] := World.ownsRow_made W0 (ccells n) n (Nat.le_refl _) (by simp [maxLen]; omega) (by simp [ccells, size_madeCells])
  have HN := hid (sc_row ((S.below hB0).below hS1))
  generalize (W0.alloc (.cells (ccells n) 49)).drew = W1 at *
  have hs1 := hS1.size
  refine hK _ _ (fun _ _ => hS1) ?_
  clear hK K
  refine anyS_one (i := 4) (by kernel_rfl) rfl (by rfl) (fun K hK => ?_)
  refine wp_append_lies _ _ _ 22 rfl W0.heap.size 49 i0 _ 4 32 Tryz.underlying22 hi hz0 hz1 hz2 rfl (by decide) (.slice (some ⟨W0.heap.size, 0, none⟩) 0 n) 0 [] rfl own0 ⟨b, o, none⟩ n ca (rowC g n) rfl (rowC_length g n) HN.out (rowC_one g n) h0 (by simp only [maxLen]; omega) (by omega) hs1 _ rfl ?_
  intro g' cap w5 hown hgr hat hlt5
  simp only [Nat.zero_add, List.nil_append] at hown ⊢
  obtain ⟨hb', R⟩ := roC_of_own hown h0
  have hcap : n ≤ cap ∧ cap ≤ maxLen := by
    rcases hown.2 with ⟨_, h⟩ | ⟨g2, cap2, cur, hv, _, _, h, h2, _⟩
    · omega
    · injection hv with _ _ h'; subst h'; exact ⟨h, h2⟩
  obtain ⟨hcap, hcm⟩ := hcap
  have hS5 : Below W0.heap.size W0 w5 := hS1.grown hgr hs1 (fun k hk => by simp [Value.ownBlock] at hk; omega)
  clear hown hgr hat own0 HN
  refine hK _ _ (fun _ _ => hS5) ?_
  clear hK K
  unfold maxLen at hcm
  have hne : ¬ n = 0 := by omega
  refine anyS_take (i := 7) rfl (by kernel_rfl) (fun _ _ _ h => h) (Or.inl ⟨by rfl, fun Y hYb => (by (try dsimp only at hYb); go_simp; rfl)⟩) (by repeat' (first | with_reducible assumption | with_reducible exact Below.refl _ _ | with_reducible refine Below.drew ?_ | with_reducible refine below_drewN ?_ _)) ?_
  refine anyS_take (i := 8) rfl (by kernel_rfl) (fun _ _ _ h => h) (Or.inl ⟨by rfl, fun Y hYb => (by (try dsimp only at hYb); go_simp; rfl)⟩) (by repeat' (first | with_reducible assumption | with_reducible exact Below.refl _ _ | with_reducible refine Below.drew ?_ | with_reducible refine below_drewN ?_ _)) ?_
  replace X0 := X0.below hS5
  replace X1 := X1.below hS5
  have hB := bvia hB0 hS5
  clear r2 hS1 hS5
  have X0_0 := X0.at_ 0 rfl
  have X0_1 := X0.at_ 1 rfl
  have X0_2 := X0.at_ 2 rfl
  have X0f := X0.free
  have X0z := X0.lt
  have X1_0 := X1.at_ 0 rfl
  have X1_1 := X1.at_ 1 rfl
  have X1_2 := X1.at_ 2 rfl
  have X1f := X1.free
  have X1z := X1.lt
  refine anyS_one (i := 9) (by kernel_rfl) rfl (by rfl) (fun K hK => ?_)
  go_simp
  refine hK _ _ (fun h _ => absurd h (by decide)) ?_
  clear hK K
  refine anyS_done (by kernel_rfl) ?_ _
  go_wp2_with fail
  refine bodyPost_ret (v := .agg #[.int .i64 (W : Int), .int .i64 (H : Int), .slice (some ⟨g', 0, none⟩) n n]) (by simp [results, Tryz.results74, go_sem, X1_0, X1_1, X1_2]) rfl ⟨g', n, rfl, by omega, by (repeat' (first | with_reducible assumption | with_reducible refine Ro.drew ?_ | with_reducible refine Ro.drewN ?_ _ | with_reducible refine Ro.alloc ?_ _ | with_reducible refine Ro.far ?_ ?_ _ | (show _ ≠ _; dsimp only; omega))), Nat.le_refl _, by (repeat' (first | with_reducible assumption | with_reducible exact Below.refl _ _ | with_reducible refine Below.drew ?_ | with_reducible refine below_drewN ?_ _ | with_reducible refine balloc ?_ _ | with_reducible refine bset ?_ ?_ _ | with_reducible refine Below.setCell ?_ ?_ _ | with_reducible refine Below.alloc ?_ ?_ _ | omega | (simp; done) | (simp; omega)))⟩
end Go.Proofs.YteabkcbajpjkoaaGreat
namespace Go.Proofs.YteabkcbajpjkoaaGreat
open Go Go.RowKit
set_option linter.unusedVariables false
theorem idx_cell (c : C4) (d : Nat) (hd : d < 4) (w : World) : (Instr.index 49 (.agg #[.int .i64 c.e, .int .i64 c.n, .int .i64 c.w, .int .i64 c.s]) (.int .i64 (d : Nat))).run Tryz.prog w = .ok (.int .i64 (c.get d)) w := by
  rcases (by omega : d = 0 ∨ d = 1 ∨ d = 2 ∨ d = 3) with rfl | rfl | rfl | rfl <;> kernel_rfl
theorem sgn_mv (fw : Bool) (d : Nat) (hd : d < 4) : -1 ≤ sgn fw * mvx d ∧ sgn fw * mvx d ≤ 1 ∧ -1 ≤ sgn fw * mvy d ∧ sgn fw * mvy d ≤ 1 := by
  cases fw <;> rcases (by omega : d = 0 ∨ d = 1 ∨ d = 2 ∨ d = 3) with rfl | rfl | rfl | rfl <;> decide
set_option maxRecDepth 100000 in
set_option maxHeartbeats 8000000 in
theorem grid_streamed (fw : Bool) (W H : Nat) (b₀ ca : Nat) (g : Nat → C4) (w : World) (h1 : 1 ≤ W ∧ W ≤ 64) (h2 : 1 ≤ H ∧ H ≤ 64) (S : Sc w (some ⟨b₀, 0, none⟩) (W * H) g) (hv : ∀ i, i < W * H → validC (g i) = true) :
    Calls Tryz.prog 110 #[.agg #[.int .i64 (W : Int), .int .i64 (H : Int), .slice (some ⟨b₀, 0, none⟩) (W * H) ca], .int .i64 (sgn fw)] w (GridRow W H (W * H) (strG fw W H g) w) := by
  have hWH : W * H ≤ 4096 := Nat.mul_le_mul h1.2 h2.2
  have hn0 : 0 < W * H := Nat.mul_pos (by omega) (by omega)
  have hempty := fun W' => grid_empty W H W' (by omega) h1.2 h2.2
  have hplace := fun i a n ca W' h => grid_place W H i a n ca W' (by omega) h1.2 h
  have hat := fun x y j b off ca W' x0 x1 y0 y1 hj hjn => grid_at W H x y j b off (W * H) ca W' (by omega) h1.2 (by omega) h2.2 x0 x1 y0 y1 hj hjn hWH
  have hstep := fun i d h hd => str_step fw (W := W) (H := H) g (i := i) (d := d) h hd
  have hint := fun i d h hd => tow_int fw (W := W) (H := H) (i := i) (d := d) (by omega) (by omega) h hd
  have hlt4 := fun i d (h : i < W * H) hd => nbT_lt (W := W) (H := H) (i := i) (d := towD fw d) h (towD_lt fw hd)
  have hsg := sgn_mv fw
  have hend := fun j h => srcS_lt fw (W := W) (H := H) (j := j) h
  have hxy := fun i (h : i < W * H) => row_lt h
  obtain ⟨u1, u2⟩ := h1; obtain ⟨u3, u4⟩ := h2
  generalize strG fw W H g = G at *
  generalize srcS fw W H = src at *
  generalize sgn fw = p at *
  generalize hP : W * H = n at *
  clear hP
  have HPl := hid hplace; have HAt := hid hat; have HSt := hid hstep; have HIn := hid hint; have HLt := hid hlt4; have HSg := hid hsg; have HEn := hid hend; have HXy := hid hxy; have HV := hid hv
  clear hplace hat hstep hint hlt4 hsg hend hxy hv
  have X0 := (Bx.new w #[.int .i64 (W : Int), .int .i64 (H : Int), .slice (some ⟨b₀, 0, none⟩) n ca] 109).alloc (.cells #[.int .i64 0, .int .i64 0, .slice none 0 0] 109)
  have X1 := Bx.new (w.alloc (.cells #[.int .i64 (W : Int), .int .i64 (H : Int), .slice (some ⟨b₀, 0, none⟩) n ca] 109)) #[.int .i64 0, .int .i64 0, .slice none 0 0] 109
  simp only [World.size_alloc] at X1
  have hB0 : Below w.heap.size w ((w.alloc (.cells #[.int .i64 (W : Int), .int .i64 (H : Int), .slice (some ⟨b₀, 0, none⟩) n ca] 109)).alloc (.cells #[.int .i64 0, .int .i64 0, .slice none 0 0] 109)) := by (repeat' (first | with_reducible assumption | with_reducible exact Below.refl _ _ | with_reducible refine Below.drew ?_ | with_reducible refine below_drewN ?_ _ | with_reducible refine balloc ?_ _ | with_reducible refine bset ?_ ?_ _ | with_reducible refine Below.setCell ?_ ?_ _ | with_reducible refine Below.alloc ?_ ?_ _ | omega | (simp; done) | (simp; omega)))
  go_enter Tryz.func110, Tryz.ntmps110
  go_wp2_with fail
  generalize ((w.alloc (.cells #[.int .i64 (W : Int), .int .i64 (H : Int), .slice (some ⟨b₀, 0, none⟩) n ca] 109)).alloc (.cells #[.int .i64 0, .int .i64 0, .slice none 0 0] 109)) = W0 at X0 X1 hB0 ⊢
  have z0 := X0.lt
  have z1 := X1.lt
  refine (hempty _).mono ?_
  rintro e w1 ⟨b, cap, rfl, hb, R, hcap, hb1⟩
  have hB := hB0
  clear hB0 hempty
  have hsb := hb1.size
  replace X0 := X0.below hb1
  replace X1 := X1.below hb1
  replace hB := bvia hB hb1
  clear hb1
  have X0_0 := X0.at_ 0 rfl
  have X0_1 := X0.at_ 1 rfl
  have X0_2 := X0.at_ 2 rfl
  have X0z := X0.lt
  have hz1 : w.heap.size + 1 < w1.heap.size := X1.lt
  have hbb : w.heap.size + 1 < b := by omega
  have hlb := R.lt
  go_wp2_with fail
  clear X0_0 X0_1 X0_2 X0z
  replace X0 := X0.alloc (.cells #[.int .i64 (W : Int), .int .i64 (H : Int), .slice (some ⟨b, 0, none⟩) n cap] 109)
  replace X1 := X1.alloc (.cells #[.int .i64 (W : Int), .int .i64 (H : Int), .slice (some ⟨b, 0, none⟩) n cap] 109)
  replace R := R.alloc (.cells #[.int .i64 (W : Int), .int .i64 (H : Int), .slice (some ⟨b, 0, none⟩) n cap] 109)
  have X2 := Bx.new w1 #[.int .i64 (W : Int), .int .i64 (H : Int), .slice (some ⟨b, 0, none⟩) n cap] 109
  replace hB := balloc hB (.cells #[.int .i64 (W : Int), .int .i64 (H : Int), .slice (some ⟨b, 0, none⟩) n cap] 109)
  have X0_0 := X0.at_ 0 rfl
  have X0_1 := X0.at_ 1 rfl
  have X0_2 := X0.at_ 2 rfl
  have X0z := X0.lt
  clear X0_0 X0_1 X0_2 X0z
  rw [flat_zero, ← scatTo_zero src (flatC G)] at R
  generalize w1.alloc (.cells #[.int .i64 (W : Int), .int .i64 (H : Int), .slice (some ⟨b, 0, none⟩) n cap] 109) = W1 at *
  go_loopw [25] (fun s25 wr => ∃ i : Nat, i ≤ n ∧ s25 = .int .i64 i ∧ Bx wr w.heap.size #[.int .i64 (W : Int), .int .i64 (H : Int), .slice (some ⟨b₀, 0, none⟩) n ca] ∧ Bx wr (w.heap.size + 1) #[.int .i64 0, .int .i64 0, .slice none 0 0] ∧ Bx wr w1.heap.size #[.int .i64 (W : Int), .int .i64 (H : Int), .slice (some ⟨b, 0, none⟩) n cap] ∧ Ro wr b (n * 4) (scatTo src (flatC G) (i * 4)) ∧ Below w.heap.size w wr) (fun s25 _ => n - (intOf s25).toNat)
  case atStart => exact ⟨0, Nat.zero_le _, rfl, X0, X1, X2, by rw [Nat.zero_mul]; exact R, hB⟩
  case round =>
    clear X0 X1 X2 R hB
    obtain ⟨i, hi, rfl, X0, X1, X2, R, hB⟩ := hrel
    by_cases hlt : i < n
    · obtain ⟨bs, os, e1, hbs, s0, s1, s2, s3⟩ := S i hlt
      obtain ⟨rfl, rfl⟩ : b₀ = bs ∧ os = 0 := by injection e1 with e1; injection e1 with e1 e2 _; exact ⟨e1, e2.symm⟩
      rw [Nat.zero_add] at s0 s1 s2 s3
      have t0 := (bcell hB _ _ hbs).trans s0; have t1 := (bcell hB _ _ hbs).trans s1; have t2 := (bcell hB _ _ hbs).trans s2; have t3 := (bcell hB _ _ hbs).trans s3
      clear e1 s0 s1 s2 s3
      obtain ⟨wo, rfl⟩ : ∃ wo : World, wo = wr := ⟨_, rfl⟩
      have X0_0 := X0.at_ 0 rfl
      have X0_1 := X0.at_ 1 rfl
      have X0_2 := X0.at_ 2 rfl
      have X0z := X0.lt
      go_wp2_with fail
      clear X0_0 X0_1 X0_2 X0z
      refine (HPl.out i _ n _ _ (by omega)).mono ?_
      rintro e w3 ⟨rfl, hb3⟩
      have hwo := hB.size
      replace X0 := X0.alloc (.cells #[.int .i64 (g i).e, .int .i64 (g i).n, .int .i64 (g i).w, .int .i64 (g i).s] 49)
      replace X1 := X1.alloc (.cells #[.int .i64 (g i).e, .int .i64 (g i).n, .int .i64 (g i).w, .int .i64 (g i).s] 49)
      replace X2 := X2.alloc (.cells #[.int .i64 (g i).e, .int .i64 (g i).n, .int .i64 (g i).w, .int .i64 (g i).s] 49)
      replace R := R.alloc (.cells #[.int .i64 (g i).e, .int .i64 (g i).n, .int .i64 (g i).w, .int .i64 (g i).s] 49)
      have X3 := Bx.new wo #[.int .i64 (g i).e, .int .i64 (g i).n, .int .i64 (g i).w, .int .i64 (g i).s] 49
      replace hB := balloc hB (.cells #[.int .i64 (g i).e, .int .i64 (g i).n, .int .i64 (g i).w, .int .i64 (g i).s] 49)
      replace X0 := X0.below hb3
      replace X1 := X1.below hb3
      replace X2 := X2.below hb3
      replace R := R.below hb3
      replace X3 := X3.below hb3
      replace hB := bvia hB hb3
      clear hb3
      have hI := fun d hd => HIn.out i d hlt hd
      obtain ⟨hx1, hy1⟩ := HXy.out i hlt
      have x0 : 0 ≤ (i : Int) % (W : Int) := Int.emod_nonneg _ (by omega)
      have x1 : (i : Int) % (W : Int) < W := Int.emod_lt_of_pos _ (by omega)
      have y0 : 0 ≤ (i : Int) / (W : Int) := Int.ediv_nonneg (by omega) (by omega)
      have y1 : (i : Int) / (W : Int) < H := by
        have e : ((i / W : Nat) : Int) = (i : Int) / (W : Int) := by simp
        omega
      clear hx1 hy1
      generalize (i : Int) % (W : Int) = x at *
      generalize (i : Int) / (W : Int) = y at *
      have HI := hid hI
      clear hI
      have hci := idx_cell (g i)
      have HCI := hid hci
      clear hci t0 t1 t2 t3 hwo
      have X3_0 := X3.at_ 0 rfl
      have X3_1 := X3.at_ 1 rfl
      have X3_2 := X3.at_ 2 rfl
      have X3_3 := X3.at_ 3 rfl
      go_wp2_with fail
      clear X3_0 X3_1 X3_2 X3_3
      go_loopw [37] (fun s37 wr => ∃ d : Nat, d ≤ 4 ∧ s37 = .int .i64 d ∧ Bx wr w.heap.size #[.int .i64 (W : Int), .int .i64 (H : Int), .slice (some ⟨b₀, 0, none⟩) n ca] ∧ Bx wr (w.heap.size + 1) #[.int .i64 0, .int .i64 0, .slice none 0 0] ∧ Bx wr w1.heap.size #[.int .i64 (W : Int), .int .i64 (H : Int), .slice (some ⟨b, 0, none⟩) n cap] ∧ Ro wr b (n * 4) (scatTo src (flatC G) (i * 4 + d)) ∧ Below w.heap.size w wr) (fun s37 _ => 4 - (intOf s37).toNat)
      case atStart => exact ⟨0, by omega, rfl, X0, X1, X2, R, hB⟩
      case round =>
        clear X0 X1 X2 X3 R hB
        obtain ⟨d, hd, rfl, X0, X1, X2, R, hB⟩ := hrel
        by_cases hd4 : d < 4
        · have hix := HCI.out d hd4
          have hmv := fun W' => grid_move d W' hd4
          obtain ⟨m0, m1, m2, m3⟩ := HSg.out d hd4
          have hjn := HLt.out i d hlt hd4
          have hjI := HI.out d hd4
          obtain ⟨g1, g2, g3⟩ := HSt.out i d hlt hd4
          have hv0 := get_le (g i) d hd4 (HV.out i hlt)
          obtain ⟨v0, v1⟩ := hv0
          generalize nbT W H i (towD fw d) = j at *
          obtain ⟨z1', z2'⟩ := scatTo_step (F := flatC G) g1 g2
          rw [g3] at z2'
          have HZ := hid z2'
          clear z2' g1 g2 g3
          go_wp2_with fail
          refine (hmv _).mono ?_
          rintro e w4 ⟨rfl, hb4⟩
          replace X0 := X0.below hb4
          replace X1 := X1.below hb4
          replace X2 := X2.below hb4
          replace R := R.below hb4
          replace hB := bvia hB hb4
          clear hb4
          have q0 := X2.lt; have q1 := R.lt; have q2 := X1.lt
          have r0 : ∀ X, Below w4.heap.size w4 X → X.cell? ⟨w1.heap.size, 0, none⟩ = some (.int .i64 (W : Int)) := fun X h => (X2.below h).at_ 0 rfl
          have r1 : ∀ X, Below w4.heap.size w4 X → X.cell? ⟨w1.heap.size, 1, none⟩ = some (.int .i64 (H : Int)) := fun X h => (X2.below h).at_ 1 rfl
          have r2 : ∀ X, Below w4.heap.size w4 X → X.cell? ⟨w1.heap.size, 2, none⟩ = some (.slice (some ⟨b, 0, none⟩) n cap) := fun X h => (X2.below h).at_ 2 rfl
          have rc0 := R.2 (j * 4 + d) (by omega)
          rw [z1'] at rc0
          have rc : ∀ X, Below w4.heap.size w4 X → X.cell? ⟨b, j * 4 + d, none⟩ = some (.int .i64 0) := fun X h => (bcell h _ _ q1).trans rc0
          have rf0 := R.free
          have rf : ∀ X, Below w4.heap.size w4 X → ∀ q, X.frozen? ⟨b, q, none⟩ = false := fun X h q => (bfrozen h _ _ q1).trans (rf0 q)
          have hpx := IntWalk.i64_in (p * mvx d) (by omega)
          have hpy := IntWalk.i64_in (p * mvy d) (by omega)
          have hpx2 : wrap64 (p * mvx d) = p * mvx d := by unfold wrap64; omega
          have hpy2 : wrap64 (p * mvy d) = p * mvy d := by unfold wrap64; omega
          generalize hsx : p * mvx d = sx at *
          generalize hsy : p * mvy d = sy at *
          have hxx := IntWalk.i64_in (x + sx) (by omega)
          have hyy := IntWalk.i64_in (y + sy) (by omega)
          have hat := fun W' => HAt.out (x + sx) (y + sy) j b 0 cap W' (by omega) (by omega) (by omega) (by omega) hjI hjn
          clear rc0 rf0 z1' hjI
          go_wp2_with fail
          refine wp_region_S (fun X => Below w4.heap.size w4 X) 20 (by kernel_rfl) ?_
          refine anyS_take (i := 0) rfl (by kernel_rfl) (fun _ _ _ h => h) (Or.inl ⟨by rfl, fun Y hYb => (by (try dsimp only at hYb); go_simp; rfl)⟩) (by repeat' (first | with_reducible assumption | with_reducible exact Below.refl _ _ | with_reducible refine Below.drew ?_ | with_reducible refine below_drewN ?_ _)) ?_
          refine anyS_take (i := 1) rfl (by kernel_rfl) (fun _ _ _ h => h) (Or.inl ⟨by rfl, fun Y hYb => (by (try dsimp only at hYb); go_simp; rfl)⟩) (by repeat' (first | with_reducible assumption | with_reducible exact Below.refl _ _ | with_reducible refine Below.drew ?_ | with_reducible refine below_drewN ?_ _)) ?_
          refine anyS_take (i := 2) rfl (by kernel_rfl) (fun _ _ _ h => h) (Or.inl ⟨by rfl, fun Y hYb => (by (try dsimp only at hYb); go_simp; rfl)⟩) (by repeat' (first | with_reducible assumption | with_reducible exact Below.refl _ _ | with_reducible refine Below.drew ?_ | with_reducible refine below_drewN ?_ _)) ?_
          refine anyS_take (i := 3) rfl (by kernel_rfl) (fun _ _ _ h => h) (Or.inl ⟨by rfl, fun Y hYb => (by (try dsimp only at hYb); go_simp; rfl)⟩) (by repeat' (first | with_reducible assumption | with_reducible exact Below.refl _ _ | with_reducible refine Below.drew ?_ | with_reducible refine below_drewN ?_ _)) ?_
          refine anyS_take (i := 4) rfl (by kernel_rfl) (fun _ _ _ h => h) (Or.inl ⟨by rfl, fun Y hYb => (by (try dsimp only at hYb); go_simp; rfl)⟩) (by repeat' (first | with_reducible assumption | with_reducible exact Below.refl _ _ | with_reducible refine Below.drew ?_ | with_reducible refine below_drewN ?_ _)) ?_
          refine anyS_take (i := 5) rfl (by kernel_rfl) (fun _ _ _ h => h) (Or.inl ⟨by rfl, fun Y hYb => (by (try dsimp only at hYb); go_simp; rfl)⟩) (by repeat' (first | with_reducible assumption | with_reducible exact Below.refl _ _ | with_reducible refine Below.drew ?_ | with_reducible refine below_drewN ?_ _)) ?_
          refine anyS_take (i := 6) rfl (by kernel_rfl) (fun _ _ _ h => h) (Or.inl ⟨by rfl, fun Y hYb => (by (try dsimp only at hYb); go_simp; rfl)⟩) (by repeat' (first | with_reducible assumption | with_reducible exact Below.refl _ _ | with_reducible refine Below.drew ?_ | with_reducible refine below_drewN ?_ _)) ?_
          refine anyS_take (i := 7) rfl (by kernel_rfl) (fun _ _ _ h => h) (Or.inl ⟨by rfl, fun Y hYb => (by (try dsimp only at hYb); go_simp; rfl)⟩) (by repeat' (first | with_reducible assumption | with_reducible exact Below.refl _ _ | with_reducible refine Below.drew ?_ | with_reducible refine below_drewN ?_ _)) ?_
          refine anyS_take (i := 8) rfl (by kernel_rfl) (fun _ _ _ h => h) (Or.inl ⟨by rfl, fun Y hYb => (by (try dsimp only at hYb); go_simp; rfl)⟩) (by repeat' (first | with_reducible assumption | with_reducible exact Below.refl _ _ | with_reducible refine Below.drew ?_ | with_reducible refine below_drewN ?_ _)) ?_
          refine anyS_take (i := 9) rfl (by kernel_rfl) (fun _ _ _ h => h) (Or.inl ⟨by rfl, fun Y hYb => (by (try dsimp only at hYb); go_simp; rfl)⟩) (by repeat' (first | with_reducible assumption | with_reducible exact Below.refl _ _ | with_reducible refine Below.drew ?_ | with_reducible refine below_drewN ?_ _)) ?_
          refine anyS_take (i := 10) rfl (by kernel_rfl) (fun _ _ _ h => h) (Or.inl ⟨by rfl, fun Y hYb => (by (try dsimp only at hYb); go_simp; rfl)⟩) (by repeat' (first | with_reducible assumption | with_reducible exact Below.refl _ _ | with_reducible refine Below.drew ?_ | with_reducible refine below_drewN ?_ _)) ?_
          refine anyS_take (i := 12) rfl (by kernel_rfl) (fun _ _ _ h => h) (Or.inl ⟨by rfl, fun Y hYb => (by (try dsimp only at hYb); go_simp; rfl)⟩) (by repeat' (first | with_reducible assumption | with_reducible exact Below.refl _ _ | with_reducible refine Below.drew ?_ | with_reducible refine below_drewN ?_ _)) ?_
          refine anyS_take (i := 16) rfl (by kernel_rfl) (fun _ _ _ h => h) (Or.inl ⟨by rfl, fun Y hYb => (by (try dsimp only at hYb); go_simp; rfl)⟩) (by repeat' (first | with_reducible assumption | with_reducible exact Below.refl _ _ | with_reducible refine Below.drew ?_ | with_reducible refine below_drewN ?_ _)) ?_
          refine anyS_one (i := 11) (by kernel_rfl) rfl (by rfl) (fun K hK => ?_)
          go_simp
          refine (hat _).mono ?_
          rintro e w5 ⟨rfl, hb5⟩
          dsimp only
          have hS5 : Below w4.heap.size w4 w5 := bvia (Below.refl _ w4).drew hb5
          refine hK _ _ (fun _ _ => hS5) ?_
          clear hK K
          simp only [Nat.zero_add]
          refine anyS_take (i := 13) rfl (by kernel_rfl) (fun _ _ _ h => h) (Or.inl ⟨by rfl, fun Y hYb => (by (try dsimp only at hYb); go_simp; rfl)⟩) (by repeat' (first | with_reducible assumption | with_reducible exact Below.refl _ _ | with_reducible refine Below.drew ?_ | with_reducible refine below_drewN ?_ _)) ?_
          refine anyS_take (i := 14) rfl (by kernel_rfl) (fun _ _ _ h => h) (Or.inl ⟨by rfl, fun Y hYb => (by (try dsimp only at hYb); go_simp; rfl)⟩) (by repeat' (first | with_reducible assumption | with_reducible exact Below.refl _ _ | with_reducible refine Below.drew ?_ | with_reducible refine below_drewN ?_ _)) ?_
          refine anyS_take (i := 15) rfl (by kernel_rfl) (fun _ _ _ h => h) (Or.inl ⟨by rfl, fun Y hYb => (by (try dsimp only at hYb); go_simp; rfl)⟩) (by repeat' (first | with_reducible assumption | with_reducible exact Below.refl _ _ | with_reducible refine Below.drew ?_ | with_reducible refine below_drewN ?_ _)) ?_
          refine anyS_take (i := 17) rfl (by kernel_rfl) (fun _ _ _ h => h) (Or.inl ⟨by rfl, fun Y hYb => (by (try dsimp only at hYb); go_simp; rfl)⟩) (by repeat' (first | with_reducible assumption | with_reducible exact Below.refl _ _ | with_reducible refine Below.drew ?_ | with_reducible refine below_drewN ?_ _)) ?_
          refine anyS_pure (i := 18) rfl (by kernel_rfl) (fun _ _ _ h => h) (Or.inl ⟨by rfl, fun Y hYb => (by clear hYb; go_simp; rfl)⟩) ?_
          refine anyS_take (i := 19) rfl (by kernel_rfl) (fun _ _ _ h => h) (Or.inl ⟨by rfl, fun Y hYb => (by (try dsimp only at hYb); go_simp; rfl)⟩) (by repeat' (first | with_reducible assumption | with_reducible exact Below.refl _ _ | with_reducible refine Below.drew ?_ | with_reducible refine below_drewN ?_ _)) ?_
          have c0 := rc _ hS5; have cf := rf _ hS5
          refine anyS_one (i := 20) (by kernel_rfl) rfl (by rfl) (fun K hK => ?_)
          go_simp
          refine hK _ _ (fun h _ => absurd h (by decide)) ?_
          clear hK K
          refine anyS_done (by kernel_rfl) ?_ _
          have X0' := X0.below hS5; have X1' := X1.below hS5; have X2' := X2.below hS5; have R' := R.below hS5
          have hB' := bvia hB hS5
          clear X0 X1 X2 R hB r0 r1 r2 rc rf c0 cf
          go_wp2_with fail
          go_roundw
          case rel => exact ⟨d + 1, by omega, by go_num, by (repeat' (first | with_reducible assumption | (with_reducible refine Bx.newE ?_ _ _; (simp; done)) | with_reducible refine Bx.alloc ?_ _ | with_reducible refine Bx.drew ?_ | with_reducible refine Bx.drewN ?_ _ | with_reducible refine Bx.four ?_ | (with_reducible refine Bx.far2 ?_ ?_ _; (dsimp only; omega)))), by (repeat' (first | with_reducible assumption | (with_reducible refine Bx.newE ?_ _ _; (simp; done)) | with_reducible refine Bx.alloc ?_ _ | with_reducible refine Bx.drew ?_ | with_reducible refine Bx.drewN ?_ _ | with_reducible refine Bx.four ?_ | (with_reducible refine Bx.far2 ?_ ?_ _; (dsimp only; omega)))), by (repeat' (first | with_reducible assumption | (with_reducible refine Bx.newE ?_ _ _; (simp; done)) | with_reducible refine Bx.alloc ?_ _ | with_reducible refine Bx.drew ?_ | with_reducible refine Bx.drewN ?_ _ | with_reducible refine Bx.four ?_ | (with_reducible refine Bx.far2 ?_ ?_ _; (dsimp only; omega)))), by rw [← Nat.add_assoc]; exact ((R'.set_ (j * 4 + d) ((g i).get d)).congr HZ.out), by have hB := hB'; (repeat' (first | with_reducible assumption | with_reducible exact Below.refl _ _ | with_reducible refine Below.drew ?_ | with_reducible refine below_drewN ?_ _ | with_reducible refine balloc ?_ _ | with_reducible refine bset ?_ ?_ _ | with_reducible refine Below.setCell ?_ ?_ _ | with_reducible refine Below.alloc ?_ ?_ _ | omega | (simp; done) | (simp; omega)))⟩
          case measure => simp [intOf]; omega
        · obtain rfl : d = 4 := (by omega)
          go_wp2_with fail
          go_roundw
          case rel => exact ⟨i + 1, by omega, by go_num, X0, X1, X2, by rw [show (i + 1) * 4 = i * 4 + 4 from by omega]; exact R, hB⟩
          case measure => simp [intOf]; omega
    · obtain rfl : i = n := (by omega)
      have HR := hid (R.congr (fun j hj => (if_pos (HEn.out j hj) : scatTo src (flatC G) (i * 4) j = flatC G j)))
      clear R
      have X2_0 := X2.at_ 0 rfl
      have X2_1 := X2.at_ 1 rfl
      have X2_2 := X2.at_ 2 rfl
      have X1_0 := X1.at_ 0 rfl
      have X1_1 := X1.at_ 1 rfl
      have X1_2 := X1.at_ 2 rfl
      have X1f := X1.free
      have X1z := X1.lt
      go_wp2_with fail
      refine bodyPost_ret (v := .agg #[.int .i64 (W : Int), .int .i64 (H : Int), .slice (some ⟨b, 0, none⟩) i cap]) (by simp [results, Tryz.results110, go_sem, X1_0, X1_1, X1_2]) rfl ⟨b, cap, rfl, by omega, ?_, hcap, by (repeat' (first | with_reducible assumption | with_reducible exact Below.refl _ _ | with_reducible refine Below.drew ?_ | with_reducible refine below_drewN ?_ _ | with_reducible refine balloc ?_ _ | with_reducible refine bset ?_ ?_ _ | with_reducible refine Below.setCell ?_ ?_ _ | with_reducible refine Below.alloc ?_ ?_ _ | omega | (simp; done) | (simp; omega)))⟩
      have R := HR.out
      (repeat' (first | with_reducible assumption | with_reducible refine Ro.drew ?_ | with_reducible refine Ro.drewN ?_ _ | with_reducible refine Ro.alloc ?_ _ | with_reducible refine Ro.far ?_ ?_ _ | (show _ ≠ _; dsimp only; omega)))
end Go.Proofs.YteabkcbajpjkoaaGreat
namespace Go.Proofs.YteabkcbajpjkoaaGreat
open Go Go.RowKit
set_option linter.unusedVariables false
theorem But.setN {C : Nat → Prop} {X Y : World} (h : But C X Y) {p : Addr} (hp : X.heap.size ≤ p.block) (u : Value) : But C X (Y.setCell p u) :=
  ⟨h.os, h.tape, h.output, by simpa [World.setCell] using h.size, fun b hb hc => (Below.heap_setCell Y p u b (fun e => by omega)).trans (h.block b hb hc)⟩
/-- all cells collided -/
def collF (k b : Int) (g : Nat → C4) : Nat → C4 := fun i => coll k b (g i)
theorem collF_met (k b : Int) (g : Nat → C4) : collF k b g = metF k b (fun _ => 0) g := by
  funext i; simp [collF, metF]
set_option maxRecDepth 100000 in
set_option maxHeartbeats 8000000 in
theorem grid_collidedC (W H n b₀ ca : Nat) (k b : Int) (g : Nat → C4) (w : World) (hn : n ≤ 4096) (hv : ∀ i, i < n → validC (g i) = true) (hru : ruleOk k b) (R : Ro w b₀ (n * 4) (flatC g)) :
    Calls Tryz.prog 109 #[.agg #[.int .i64 (W : Int), .int .i64 (H : Int), .slice (some ⟨b₀, 0, none⟩) n ca], .func (.func 104) #[] #[], .agg #[.int .i64 k, .int .i64 b]] w fun e w' => e = .returned (.agg #[.int .i64 (W : Int), .int .i64 (H : Int), .slice (some ⟨b₀, 0, none⟩) n ca]) ∧ Ro w' b₀ (n * 4) (flatC (collF k b g)) ∧ But (fun q => q = b₀) w w' := by
  have haf0 := fun i W' h => cell_Collide (g i) k b W' (hv i h) hru
  generalize hF : collF k b g = F at *
  have hFi : ∀ i, coll k b (g i) = F i := fun i => by rw [← hF]; rfl
  have HA := hid haf0; have HM := hid hFi
  clear haf0 hFi hF hv hru
  have hbl := R.lt
  have X0 := ((Bx.new w #[.int .i64 (W : Int), .int .i64 (H : Int), .slice (some ⟨b₀, 0, none⟩) n ca] 109).alloc (.cells #[.int .i64 k, .int .i64 b] 91)).alloc (.cells #[.int .i64 0, .int .i64 0, .slice none 0 0] 109)
  have X1 := (Bx.new (w.alloc (.cells #[.int .i64 (W : Int), .int .i64 (H : Int), .slice (some ⟨b₀, 0, none⟩) n ca] 109)) #[.int .i64 k, .int .i64 b] 91).alloc (.cells #[.int .i64 0, .int .i64 0, .slice none 0 0] 109)
  have X2 := Bx.new ((w.alloc (.cells #[.int .i64 (W : Int), .int .i64 (H : Int), .slice (some ⟨b₀, 0, none⟩) n ca] 109)).alloc (.cells #[.int .i64 k, .int .i64 b] 91)) #[.int .i64 0, .int .i64 0, .slice none 0 0] 109
  simp only [World.size_alloc] at X1 X2
  have hB0 : Below w.heap.size w (((w.alloc (.cells #[.int .i64 (W : Int), .int .i64 (H : Int), .slice (some ⟨b₀, 0, none⟩) n ca] 109)).alloc (.cells #[.int .i64 k, .int .i64 b] 91)).alloc (.cells #[.int .i64 0, .int .i64 0, .slice none 0 0] 109)) := by (repeat' (first | with_reducible assumption | with_reducible exact Below.refl _ _ | with_reducible refine Below.drew ?_ | with_reducible refine below_drewN ?_ _ | with_reducible refine balloc ?_ _ | with_reducible refine bset ?_ ?_ _ | with_reducible refine Below.setCell ?_ ?_ _ | with_reducible refine Below.alloc ?_ ?_ _ | omega | (simp; done) | (simp; omega)))
  go_enter Tryz.func109, Tryz.ntmps109
  go_wp2_with fail
  generalize (((w.alloc (.cells #[.int .i64 (W : Int), .int .i64 (H : Int), .slice (some ⟨b₀, 0, none⟩) n ca] 109)).alloc (.cells #[.int .i64 k, .int .i64 b] 91)).alloc (.cells #[.int .i64 0, .int .i64 0, .slice none 0 0] 109)) = W0 at X0 X1 X2 hB0 ⊢
  have z0 := X0.lt
  have z1 := X1.lt
  have z2 := X2.lt
  have x00 := X0.at_ 2 rfl
  have hU : But (fun q => q = b₀) w W0 := but_below hB0 (Nat.le_refl _)
  replace R := R.below hB0
  rw [← ovC_zero F g] at R
  go_wp2_with fail
  clear x00 hB0 z0 z1 z2
  go_loopw [13] (fun s13 wr => ∃ i : Nat, i ≤ n ∧ s13 = .int .i64 i ∧ Bx wr w.heap.size #[.int .i64 (W : Int), .int .i64 (H : Int), .slice (some ⟨b₀, 0, none⟩) n ca] ∧ Bx wr (w.heap.size + 1) #[.int .i64 k, .int .i64 b] ∧ Bx wr (w.heap.size + 1 + 1) #[.int .i64 0, .int .i64 0, .slice none 0 0] ∧ Ro wr b₀ (n * 4) (flatC (ovC F g i)) ∧ But (fun q => q = b₀) w wr) (fun s13 _ => n - (intOf s13).toNat)
  case atStart => exact ⟨0, Nat.zero_le _, rfl, X0, X1, X2, R, hU⟩
  case round =>
    clear X0 X1 X2 R hU
    obtain ⟨i, hi, rfl, X0, X1, X2, R, hU⟩ := hrel
    by_cases hlt : i < n
    · have c4 := R.scell hlt
      rw [ovC_at] at c4
      obtain ⟨c0, c1, c2, c3⟩ := c4
      have lb := R.lt
      have hMi := HM.out i
      have haf := fun W' => HA.out i W' hlt
      rw [hMi] at haf
      clear hMi
      have l0 := X0.lt; have l1 := X1.lt; have l2 := X2.lt
      obtain ⟨wo, rfl⟩ : ∃ wo : World, wo = wr := ⟨_, rfl⟩
      go_upto_region 4 with (fail)
      have X3 := Bx.new wo #[.int .i64 (g i).e, .int .i64 (g i).n, .int .i64 (g i).w, .int .i64 (g i).s] 49
      replace X0 := X0.alloc (.cells #[.int .i64 (g i).e, .int .i64 (g i).n, .int .i64 (g i).w, .int .i64 (g i).s] 49)
      replace X1 := X1.alloc (.cells #[.int .i64 (g i).e, .int .i64 (g i).n, .int .i64 (g i).w, .int .i64 (g i).s] 49)
      replace X2 := X2.alloc (.cells #[.int .i64 (g i).e, .int .i64 (g i).n, .int .i64 (g i).w, .int .i64 (g i).s] 49)
      replace R := R.alloc (.cells #[.int .i64 (g i).e, .int .i64 (g i).n, .int .i64 (g i).w, .int .i64 (g i).s] 49)
      replace hU := hU.alloc (.cells #[.int .i64 (g i).e, .int .i64 (g i).n, .int .i64 (g i).w, .int .i64 (g i).s] 49)
      clear c0 c1 c2 c3
      generalize wo.alloc (.cells #[.int .i64 (g i).e, .int .i64 (g i).n, .int .i64 (g i).w, .int .i64 (g i).s] 49) = wd at *
      have lr := R.lt
      have c4 := R.scell hlt
      rw [ovC_at] at c4
      obtain ⟨c0, c1, c2, c3⟩ := c4
      have rf := R.free
      have r0 : ∀ Y, Below wd.heap.size wd Y → Y.cell? ⟨w.heap.size, 2, none⟩ = some (.slice (some ⟨b₀, 0, none⟩) n ca) := fun Y h => (X0.below h).at_ 2 rfl
      have r1 : ∀ Y, Below wd.heap.size wd Y → Y.cell? ⟨w.heap.size + 1, 0, none⟩ = some (.int .i64 k) := fun Y h => (X1.below h).at_ 0 rfl
      have r2 : ∀ Y, Below wd.heap.size wd Y → Y.cell? ⟨w.heap.size + 1, 1, none⟩ = some (.int .i64 b) := fun Y h => (X1.below h).at_ 1 rfl
      have u4 : ∀ Y, Below wd.heap.size wd Y → Y.cell? ⟨wo.heap.size, 0, none⟩ = some (.int .i64 (g i).e) := fun Y h => (X3.below h).at_ 0 rfl
      have u5 : ∀ Y, Below wd.heap.size wd Y → Y.cell? ⟨wo.heap.size, 1, none⟩ = some (.int .i64 (g i).n) := fun Y h => (X3.below h).at_ 1 rfl
      have u6 : ∀ Y, Below wd.heap.size wd Y → Y.cell? ⟨wo.heap.size, 2, none⟩ = some (.int .i64 (g i).w) := fun Y h => (X3.below h).at_ 2 rfl
      have u7 : ∀ Y, Below wd.heap.size wd Y → Y.cell? ⟨wo.heap.size, 3, none⟩ = some (.int .i64 (g i).s) := fun Y h => (X3.below h).at_ 3 rfl
      have q0 : ∀ Y, Below wd.heap.size wd Y → Y.cell? ⟨b₀, i * 4, none⟩ = some (.int .i64 (g i).e) := fun Y h => (bcell h _ _ lr).trans c0
      have q1 : ∀ Y, Below wd.heap.size wd Y → Y.cell? ⟨b₀, i * 4 + 1, none⟩ = some (.int .i64 (g i).n) := fun Y h => (bcell h _ _ lr).trans c1
      have q2 : ∀ Y, Below wd.heap.size wd Y → Y.cell? ⟨b₀, i * 4 + 2, none⟩ = some (.int .i64 (g i).w) := fun Y h => (bcell h _ _ lr).trans c2
      have q3 : ∀ Y, Below wd.heap.size wd Y → Y.cell? ⟨b₀, i * 4 + 3, none⟩ = some (.int .i64 (g i).s) := fun Y h => (bcell h _ _ lr).trans c3
      have qf : ∀ Y, Below wd.heap.size wd Y → ∀ j, Y.frozen? ⟨b₀, j, none⟩ = false := fun Y h j => (bfrozen h _ _ lr).trans (rf j)
      clear c0 c1 c2 c3 rf
      refine wp_region_S (fun Y => Below wd.heap.size wd Y) 12 (by kernel_rfl) ?_
      refine anyS_take (i := 0) rfl (by kernel_rfl) (fun _ _ _ h => h) (Or.inl ⟨by rfl, fun Y hYb => (by (try dsimp only at hYb); go_simp; rfl)⟩) (by repeat' (first | with_reducible assumption | with_reducible exact Below.refl _ _ | with_reducible refine Below.drew ?_ | with_reducible refine below_drewN ?_ _)) ?_
      refine anyS_take (i := 1) rfl (by kernel_rfl) (fun _ _ _ h => h) (Or.inl ⟨by rfl, fun Y hYb => (by (try dsimp only at hYb); go_simp; rfl)⟩) (by repeat' (first | with_reducible assumption | with_reducible exact Below.refl _ _ | with_reducible refine Below.drew ?_ | with_reducible refine below_drewN ?_ _)) ?_
      refine anyS_take (i := 2) rfl (by kernel_rfl) (fun _ _ _ h => h) (Or.inl ⟨by rfl, fun Y hYb => (by (try dsimp only at hYb); go_simp; rfl)⟩) (by repeat' (first | with_reducible assumption | with_reducible exact Below.refl _ _ | with_reducible refine Below.drew ?_ | with_reducible refine below_drewN ?_ _)) ?_
      refine anyS_take (i := 3) rfl (by kernel_rfl) (fun _ _ _ h => h) (Or.inl ⟨by rfl, fun Y hYb => (by (try dsimp only at hYb); go_simp; rfl)⟩) (by repeat' (first | with_reducible assumption | with_reducible exact Below.refl _ _ | with_reducible refine Below.drew ?_ | with_reducible refine below_drewN ?_ _)) ?_
      refine anyS_take (i := 4) rfl (by kernel_rfl) (fun _ _ _ h => h) (Or.inl ⟨by rfl, fun Y hYb => (by (try dsimp only at hYb); go_simp; rfl)⟩) (by repeat' (first | with_reducible assumption | with_reducible exact Below.refl _ _ | with_reducible refine Below.drew ?_ | with_reducible refine below_drewN ?_ _)) ?_
      refine anyS_take (i := 5) rfl (by kernel_rfl) (fun _ _ _ h => h) (Or.inl ⟨by rfl, fun Y hYb => (by (try dsimp only at hYb); go_simp; rfl)⟩) (by repeat' (first | with_reducible assumption | with_reducible exact Below.refl _ _ | with_reducible refine Below.drew ?_ | with_reducible refine below_drewN ?_ _)) ?_
      refine anyS_take (i := 6) rfl (by kernel_rfl) (fun _ _ _ h => h) (Or.inl ⟨by rfl, fun Y hYb => (by (try dsimp only at hYb); go_simp; rfl)⟩) (by repeat' (first | with_reducible assumption | with_reducible exact Below.refl _ _ | with_reducible refine Below.drew ?_ | with_reducible refine below_drewN ?_ _)) ?_
      refine anyS_one (i := 7) (by kernel_rfl) rfl (by rfl) (fun K hK => ?_)
      go_simp
      refine (haf _).mono ?_
      rintro e w2 ⟨rfl, hb2⟩
      dsimp only
      have hS2 : Below wd.heap.size wd w2 := bvia (Below.refl _ wd).drew hb2
      refine hK _ _ (fun _ _ => hS2) ?_
      clear hK K hb2
      have y0 := q0 _ hS2; have y1 := q1 _ hS2; have y2 := q2 _ hS2; have y3 := q3 _ hS2; have yf := qf _ hS2
      refine anyS_take (i := 8) rfl (by kernel_rfl) (fun _ _ _ h => h) (Or.inl ⟨by rfl, fun Y hYb => (by (try dsimp only at hYb); go_simp; rfl)⟩) (by repeat' (first | with_reducible assumption | with_reducible exact Below.refl _ _ | with_reducible refine Below.drew ?_ | with_reducible refine below_drewN ?_ _)) ?_
      refine anyS_take (i := 9) rfl (by kernel_rfl) (fun _ _ _ h => h) (Or.inl ⟨by rfl, fun Y hYb => (by (try dsimp only at hYb); go_simp; rfl)⟩) (by repeat' (first | with_reducible assumption | with_reducible exact Below.refl _ _ | with_reducible refine Below.drew ?_ | with_reducible refine below_drewN ?_ _)) ?_
      refine anyS_pure (i := 10) rfl (by kernel_rfl) (fun _ _ _ h => h) (Or.inl ⟨by rfl, fun Y hYb => (by clear hYb; go_simp; rfl)⟩) ?_
      refine anyS_take (i := 11) rfl (by kernel_rfl) (fun _ _ _ h => h) (Or.inl ⟨by rfl, fun Y hYb => (by (try dsimp only at hYb); go_simp; rfl)⟩) (by repeat' (first | with_reducible assumption | with_reducible exact Below.refl _ _ | with_reducible refine Below.drew ?_ | with_reducible refine below_drewN ?_ _)) ?_
      refine anyS_one (i := 12) (by kernel_rfl) rfl (by rfl) (fun K hK => ?_)
      go_simp
      refine hK _ _ (fun h _ => absurd h (by decide)) ?_
      clear hK K
      refine anyS_done (by kernel_rfl) ?_ _
      have hw2 := hS2.size
      replace X0 := X0.below hS2; replace X1 := X1.below hS2; replace X2 := X2.below hS2; replace R := R.below hS2
      replace hU := hU.trans (but_below hS2 (Nat.le_refl _))
      clear X3 r0 r1 r2 u4 u5 u6 u7 q0 q1 q2 q3 qf y0 y1 y2 y3 yf
      have n0 : b₀ ≠ w.heap.size := by omega
      have n1 : b₀ ≠ w.heap.size + 1 := by omega
      have n2 : b₀ ≠ w.heap.size + 1 + 1 := by omega
      go_wp2_with fail
      go_roundw
      case rel => exact ⟨i + 1, by omega, by go_num, (((X0.far (p := ⟨b₀, i * 4, none⟩) n0 _).far (p := ⟨b₀, i * 4 + 1, none⟩) n0 _).far (p := ⟨b₀, i * 4 + 2, none⟩) n0 _).far (p := ⟨b₀, i * 4 + 3, none⟩) n0 _, (((X1.far (p := ⟨b₀, i * 4, none⟩) n1 _).far (p := ⟨b₀, i * 4 + 1, none⟩) n1 _).far (p := ⟨b₀, i * 4 + 2, none⟩) n1 _).far (p := ⟨b₀, i * 4 + 3, none⟩) n1 _, (((X2.far (p := ⟨b₀, i * 4, none⟩) n2 _).far (p := ⟨b₀, i * 4 + 1, none⟩) n2 _).far (p := ⟨b₀, i * 4 + 2, none⟩) n2 _).far (p := ⟨b₀, i * 4 + 3, none⟩) n2 _, by rw [ovC_succ]; exact R.setC i (F i), by (repeat' (first | with_reducible assumption | with_reducible exact But.refl _ _ | with_reducible refine But.drew ?_ | with_reducible refine But.drewN ?_ _ | (with_reducible refine But.set_ ?_ (by dsimp only) _) | with_reducible refine But.alloc ?_ _))⟩
      case measure => simp [intOf]; omega
    · obtain rfl : i = n := (by omega)
      have HR := hid (R.congr (flatC_congr (fun j hj => ovC_lt hj)))
      clear R
      have x20 := X2.at_ 0 rfl; have x21 := X2.at_ 1 rfl; have x22 := X2.at_ 2 rfl; have x2f := X2.free; have x2l := X2.lt
      have x00 := X0.at_ 0 rfl; have x01 := X0.at_ 1 rfl; have x02 := X0.at_ 2 rfl
      go_wp2_with fail
      refine bodyPost_ret (v := .agg #[.int .i64 (W : Int), .int .i64 (H : Int), .slice (some ⟨b₀, 0, none⟩) i ca]) (by simp [results, Tryz.results109, go_sem, x20, x21, x22]) rfl ⟨rfl, ?_, ?_⟩
      · have R := HR.out
        (repeat' (first | with_reducible assumption | with_reducible refine Ro.drew ?_ | with_reducible refine Ro.drewN ?_ _ | with_reducible refine Ro.alloc ?_ _ | with_reducible refine Ro.far ?_ ?_ _ | (show _ ≠ _; dsimp only; omega)))
      · exact ((hU.setN (p := ⟨w.heap.size + 1 + 1, 0, none⟩) (by dsimp only; omega) _).setN (p := ⟨w.heap.size + 1 + 1, 1, none⟩) (by dsimp only; omega) _).setN (p := ⟨w.heap.size + 1 + 1, 2, none⟩) (by dsimp only; omega) _
/-- the machine in the box p has another grid; what else was, is as it was, but for the cells that it had -/
def MacPost (p b W H n : Nat) (v3 : Value) (G : Nat → C4) (w : World) (e : Ending) (w' : World) : Prop :=
  ∃ b' cap, (∃ v, e = .returned v) ∧ Bx w' p #[.int .i64 (W : Int), .int .i64 (H : Int), .slice (some ⟨b', 0, none⟩) n cap, v3] ∧ Ro w' b' (n * 4) (flatC G) ∧ w.heap.size ≤ b' ∧ n ≤ cap ∧ But (fun q => q = p ∨ q = b) w w'
/-- a step of a grid without walls -/
def stepG (W H : Nat) (r : Int × Int) (g : Nat → C4) : Nat → C4 := stepW W H r (fun _ => 0) g
set_option maxRecDepth 100000 in
set_option maxHeartbeats 4000000 in
theorem machine_forth (W H p t b ca : Nat) (ar : Option Addr) (nr cr : Nat) (g : Nat → C4) (r : Nat → Int × Int) (w₁ w : World) (h1 : 1 ≤ W ∧ W ≤ 64) (h2 : 1 ≤ H ∧ H ≤ 64) (hr0 : 0 < nr) (hr8 : nr ≤ 8) (ht : t ≤ 1000000) (hB : Below w₁.heap.size w₁ w) (hp : w₁.heap.size ≤ p) (hb : w₁.heap.size ≤ b) (hpb : p ≠ b) (SR : Sr w₁ ar nr r)
    (X : Bx w p #[.int .i64 (W : Int), .int .i64 (H : Int), .slice (some ⟨b, 0, none⟩) (W * H) ca, .slice ar nr cr]) (R : Ro w b (W * H * 4) (flatC g)) (hv : okG (W * H) g) (hru : ∀ s, ruleOk (rlAt nr r s).1 (rlAt nr r s).2) : Calls Tryz.prog 75 #[.pointer (some ⟨p, 0, none⟩), .int .i64 (t : Int)] w (MacPost p b W H (W * H) (.slice ar nr cr) (stepG W H (rlAt nr r t) g) w) := by
  have hWH : W * H ≤ 4096 := Nat.mul_le_mul h1.2 h2.2
  have hM : okG (W * H) (metF (rlAt nr r t).1 (rlAt nr r t).2 (fun _ => 0) g) := ⟨metF_valid hv.1, by rw [metF_mass]; exact hv.2⟩
  have hstr := fun W' S' => grid_streamed true W H b ca (metF (rlAt nr r t).1 (rlAt nr r t).2 (fun _ => 0) g) W' h1 h2 S' hM.1
  have hcol := fun W' R' => grid_collidedC W H (W * H) b ca (rlAt nr r t).1 (rlAt nr r t).2 g W' hWH hv.1 (hru t) R'
  rw [collF_met] at hcol
  have e : strG true W H (metF (rlAt nr r t).1 (rlAt nr r t).2 (fun _ => 0) g) = stepG W H (rlAt nr r t) g := rfl
  have e1 : sgn true = 1 := rfl
  rw [e, e1] at hstr
  clear e e1 hM hv hru
  have hlt : t % nr < nr := Nat.mod_lt _ hr0
  obtain ⟨br, orr, rfl, hbr, d0, d1⟩ := SR (t % nr) hlt
  have htm : ((t : Int)).tmod (nr : Int) = ((t % nr : Nat) : Int) := by rw [Int.tmod_eq_emod_of_nonneg (by omega)]; simp
  have hrl : rlAt nr r t = r (t % nr) := rfl
  generalize stepG W H (rlAt nr r t) g = G at *
  rw [hrl] at hcol hstr
  clear hrl
  generalize metF (r (t % nr)).1 (r (t % nr)).2 (fun _ => 0) g = M at *
  generalize t % nr = j at *
  generalize r j = q at *
  obtain ⟨k, rb⟩ := q
  obtain ⟨u1, u2⟩ := h1; obtain ⟨u3, u4⟩ := h2
  generalize W * H = n at *
  have hn0 : ¬ (nr : Int) = 0 := by omega
  have hn1 : ¬ nr = 0 := by omega
  have zp := X.lt; have zb := R.lt
  have hbw : br < w.heap.size := by have := hB.size; omega
  have hbb : br ≠ b := by omega
  have hbp : br ≠ p := by omega
  have d0' := (bcell hB _ _ hbr).trans d0; have d1' := (bcell hB _ _ hbr).trans d1
  have r0 : ∀ Y, But (fun q => q = b) w Y → Y.cell? ⟨p, 0, none⟩ = some (.int .i64 (W : Int)) := fun Y h => (X.but h hpb).at_ 0 rfl
  have r1 : ∀ Y, But (fun q => q = b) w Y → Y.cell? ⟨p, 1, none⟩ = some (.int .i64 (H : Int)) := fun Y h => (X.but h hpb).at_ 1 rfl
  have r2 : ∀ Y, But (fun q => q = b) w Y → Y.cell? ⟨p, 2, none⟩ = some (.slice (some ⟨b, 0, none⟩) n ca) := fun Y h => (X.but h hpb).at_ 2 rfl
  have r3 : ∀ Y, But (fun q => q = b) w Y → Y.cell? ⟨p, 3, none⟩ = some (.slice (some ⟨br, orr, none⟩) nr cr) := fun Y h => (X.but h hpb).at_ 3 rfl
  have r4 : ∀ Y, But (fun q => q = b) w Y → Y.cell? ⟨br, orr + j * 2, none⟩ = some (.int .i64 k) := fun Y h => (World.cell?_of_block (h.block br hbw hbb)).trans d0'
  have r5 : ∀ Y, But (fun q => q = b) w Y → Y.cell? ⟨br, orr + j * 2 + 1, none⟩ = some (.int .i64 rb) := fun Y h => (World.cell?_of_block (h.block br hbw hbb)).trans d1'
  clear d0 d1 d0' d1'
  go_enter Tryz.func75, Tryz.ntmps75
  go_upto_region 0 with (fail)
  refine wp_region_S (fun Y => But (fun q => q = b) w Y) 22 (by kernel_rfl) ?_
  refine anyS_take (i := 0) rfl (by kernel_rfl) (fun _ _ _ h => h) (Or.inl ⟨by rfl, fun Y hYb => (by (try dsimp only at hYb); go_simp; rfl)⟩) (by repeat' (first | with_reducible assumption | with_reducible exact But.refl _ _ | with_reducible refine But.drew ?_ | with_reducible refine But.drewN ?_ _)) ?_
  refine anyS_take (i := 1) rfl (by kernel_rfl) (fun _ _ _ h => h) (Or.inl ⟨by rfl, fun Y hYb => (by (try dsimp only at hYb); go_simp; rfl)⟩) (by repeat' (first | with_reducible assumption | with_reducible exact But.refl _ _ | with_reducible refine But.drew ?_ | with_reducible refine But.drewN ?_ _)) ?_
  refine anyS_take (i := 2) rfl (by kernel_rfl) (fun _ _ _ h => h) (Or.inl ⟨by rfl, fun Y hYb => (by (try dsimp only at hYb); go_simp; rfl)⟩) (by repeat' (first | with_reducible assumption | with_reducible exact But.refl _ _ | with_reducible refine But.drew ?_ | with_reducible refine But.drewN ?_ _)) ?_
  refine anyS_take (i := 3) rfl (by kernel_rfl) (fun _ _ _ h => h) (Or.inl ⟨by rfl, fun Y hYb => (by (try dsimp only at hYb); go_simp; rfl)⟩) (by repeat' (first | with_reducible assumption | with_reducible exact But.refl _ _ | with_reducible refine But.drew ?_ | with_reducible refine But.drewN ?_ _)) ?_
  refine anyS_take (i := 4) rfl (by kernel_rfl) (fun _ _ _ h => h) (Or.inl ⟨by rfl, fun Y hYb => (by (try dsimp only at hYb); go_simp; rfl)⟩) (by repeat' (first | with_reducible assumption | with_reducible exact But.refl _ _ | with_reducible refine But.drew ?_ | with_reducible refine But.drewN ?_ _)) ?_
  refine anyS_take (i := 5) rfl (by kernel_rfl) (fun _ _ _ h => h) (Or.inl ⟨by rfl, fun Y hYb => (by (try dsimp only at hYb); go_simp; rfl)⟩) (by repeat' (first | with_reducible assumption | with_reducible exact But.refl _ _ | with_reducible refine But.drew ?_ | with_reducible refine But.drewN ?_ _)) ?_
  refine anyS_take (i := 6) rfl (by kernel_rfl) (fun _ _ _ h => h) (Or.inl ⟨by rfl, fun Y hYb => (by (try dsimp only at hYb); go_simp; rfl)⟩) (by repeat' (first | with_reducible assumption | with_reducible exact But.refl _ _ | with_reducible refine But.drew ?_ | with_reducible refine But.drewN ?_ _)) ?_
  refine anyS_take (i := 7) rfl (by kernel_rfl) (fun _ _ _ h => h) (Or.inl ⟨by rfl, fun Y hYb => (by (try dsimp only at hYb); go_simp; rfl)⟩) (by repeat' (first | with_reducible assumption | with_reducible exact But.refl _ _ | with_reducible refine But.drew ?_ | with_reducible refine But.drewN ?_ _)) ?_
  refine anyS_take (i := 8) rfl (by kernel_rfl) (fun _ _ _ h => h) (Or.inl ⟨by rfl, fun Y hYb => (by (try dsimp only at hYb); go_simp; rfl)⟩) (by repeat' (first | with_reducible assumption | with_reducible exact But.refl _ _ | with_reducible refine But.drew ?_ | with_reducible refine But.drewN ?_ _)) ?_
  refine anyS_take (i := 9) rfl (by kernel_rfl) (fun _ _ _ h => h) (Or.inl ⟨by rfl, fun Y hYb => (by (try dsimp only at hYb); go_simp; rfl)⟩) (by repeat' (first | with_reducible assumption | with_reducible exact But.refl _ _ | with_reducible refine But.drew ?_ | with_reducible refine But.drewN ?_ _)) ?_
  refine anyS_take (i := 10) rfl (by kernel_rfl) (fun _ _ _ h => h) (Or.inl ⟨by rfl, fun Y hYb => (by (try dsimp only at hYb); go_simp; rfl)⟩) (by repeat' (first | with_reducible assumption | with_reducible exact But.refl _ _ | with_reducible refine But.drew ?_ | with_reducible refine But.drewN ?_ _)) ?_
  refine anyS_take (i := 11) rfl (by kernel_rfl) (fun _ _ _ h => h) (Or.inl ⟨by rfl, fun Y hYb => (by (try dsimp only at hYb); go_simp; rfl)⟩) (by repeat' (first | with_reducible assumption | with_reducible exact But.refl _ _ | with_reducible refine But.drew ?_ | with_reducible refine But.drewN ?_ _)) ?_
  refine anyS_take (i := 12) rfl (by kernel_rfl) (fun _ _ _ h => h) (Or.inl ⟨by rfl, fun Y hYb => (by (try dsimp only at hYb); go_simp; rfl)⟩) (by repeat' (first | with_reducible assumption | with_reducible exact But.refl _ _ | with_reducible refine But.drew ?_ | with_reducible refine But.drewN ?_ _)) ?_
  refine anyS_take (i := 13) rfl (by kernel_rfl) (fun _ _ _ h => h) (Or.inl ⟨by rfl, fun Y hYb => (by (try dsimp only at hYb); go_simp; rfl)⟩) (by repeat' (first | with_reducible assumption | with_reducible exact But.refl _ _ | with_reducible refine But.drew ?_ | with_reducible refine But.drewN ?_ _)) ?_
  refine anyS_take (i := 14) rfl (by kernel_rfl) (fun _ _ _ h => h) (Or.inl ⟨by rfl, fun Y hYb => (by (try dsimp only at hYb); go_simp; rfl)⟩) (by repeat' (first | with_reducible assumption | with_reducible exact But.refl _ _ | with_reducible refine But.drew ?_ | with_reducible refine But.drewN ?_ _)) ?_
  refine anyS_take (i := 15) rfl (by kernel_rfl) (fun _ _ _ h => h) (Or.inl ⟨by rfl, fun Y hYb => (by (try dsimp only at hYb); go_simp; rfl)⟩) (by repeat' (first | with_reducible assumption | with_reducible exact But.refl _ _ | with_reducible refine But.drew ?_ | with_reducible refine But.drewN ?_ _)) ?_
  refine anyS_take (i := 16) rfl (by kernel_rfl) (fun _ _ _ h => h) (Or.inl ⟨by rfl, fun Y hYb => (by (try dsimp only at hYb); go_simp; rfl)⟩) (by repeat' (first | with_reducible assumption | with_reducible exact But.refl _ _ | with_reducible refine But.drew ?_ | with_reducible refine But.drewN ?_ _)) ?_
  refine anyS_take (i := 17) rfl (by kernel_rfl) (fun _ _ _ h => h) (Or.inl ⟨by rfl, fun Y hYb => (by (try dsimp only at hYb); go_simp; rfl)⟩) (by repeat' (first | with_reducible assumption | with_reducible exact But.refl _ _ | with_reducible refine But.drew ?_ | with_reducible refine But.drewN ?_ _)) ?_
  refine anyS_one (i := 18) (by kernel_rfl) rfl (by rfl) (fun K hK => ?_)
  go_simp
  refine (hcol _ R.drew).mono ?_
  rintro e w2 ⟨rfl, R2, hU2⟩
  dsimp only
  have hS2 : But (fun q => q = b) w w2 := ((But.refl _ w).drew).trans hU2
  refine hK _ _ (fun _ _ => hS2) ?_
  clear hK K hU2
  refine anyS_one (i := 19) (by kernel_rfl) rfl (by rfl) (fun K hK => ?_)
  go_simp
  refine (hstr _ R2.sc).mono ?_
  rintro e w3 ⟨b', cap, rfl, hb', R', hcap, hb3⟩
  dsimp only
  have hS3 : But (fun q => q = b) w w3 := hS2.trans (but_below hb3 (Nat.le_refl _))
  have hs2 := hS2.size
  refine hK _ _ (fun _ _ => hS3) ?_
  clear hK K hb3 R2
  replace X := X.but hS3 hpb
  have x0 := X.at_ 0 rfl; have x1 := X.at_ 1 rfl; have x2 := X.at_ 2 rfl; have xf := X.free; have xz := X.lt
  refine anyS_pure (i := 20) rfl (by kernel_rfl) (fun _ _ _ h => h) (Or.inl ⟨by rfl, fun Y hYb => (by clear hYb; go_simp; rfl)⟩) ?_
  refine anyS_take (i := 21) rfl (by kernel_rfl) (fun _ _ _ h => h) (Or.inl ⟨by rfl, fun Y hYb => (by (try dsimp only at hYb); go_simp; rfl)⟩) (by repeat' (first | with_reducible assumption | with_reducible exact But.refl _ _ | with_reducible refine But.drew ?_ | with_reducible refine But.drewN ?_ _)) ?_
  refine anyS_one (i := 22) (by kernel_rfl) rfl (by rfl) (fun K hK => ?_)
  go_simp
  refine hK _ _ (fun h _ => absurd h (by decide)) ?_
  clear hK K
  refine anyS_done (by kernel_rfl) ?_ _
  go_wp2_with fail
  refine bodyPost_ret (results_none rfl _ _ _) rfl ?_
  refine ⟨b', cap, ⟨_, rfl⟩, ((X.set_ 0 (by simp) (.int .i64 (W : Int))).set_ 1 (by simp) (.int .i64 (H : Int))).set_ 2 (by simp) (.slice (some ⟨b', 0, none⟩) n cap), by (repeat' (first | with_reducible assumption | with_reducible refine Ro.drew ?_ | with_reducible refine Ro.drewN ?_ _ | with_reducible refine Ro.alloc ?_ _ | with_reducible refine Ro.far ?_ ?_ _ | (show _ ≠ _; dsimp only; omega))), by omega, hcap, ?_⟩
  exact ((((hS3.mono (fun _ _ h => .inr h) : But (fun q => q = p ∨ q = b) w w3)).set_ (.inl rfl) _).set_ (.inl rfl) _).set_ (.inl rfl) _
end Go.Proofs.YteabkcbajpjkoaaGreat
