/- Walks: streaming a grid, of the program. -/
import Derived.Test.YthlbmlfkmfheiaaRefGrid
import Derived.Test.YthlbmlfkmfheiaaSeq
import Derived.Test.YthlbmlfkmfheiaaR3Valid
namespace Go.Proofs.Ythlbmlfkmfheiaa
open Go Go.RowKit
set_option linter.unusedVariables false
/-! ### plain: particles sent to their places -/
/-- the places j from which nothing came before k are empty -/
def scatTo (src : Nat → Nat) (F : Nat → Int) (k : Nat) : Nat → Int := fun j => if src j < k then F j else 0
theorem scatTo_zero (src : Nat → Nat) (F : Nat → Int) : scatTo src F 0 = fun _ => 0 := by funext j; simp [scatTo]
theorem scatTo_step {src : Nat → Nat} {F : Nat → Int} {k t N : Nat} (h1 : src t = k) (h2 : ∀ j, j < N → src j = k → j = t) : scatTo src F k t = 0 ∧ ∀ j, j < N → upd (scatTo src F k) t (F t) j = scatTo src F (k + 1) j := by
  refine ⟨by simp [scatTo, h1], fun j hj => ?_⟩
  unfold upd scatTo
  by_cases e : j = t
  · subst e; simp [h1]
  · have h3 : src j ≠ k := fun h => e (h2 j hj h)
    rw [if_neg e]
    simp only [show (src j < k + 1) = (src j < k) from propext ⟨by omega, by omega⟩]
def mvx : Nat → Int | 0 => 1 | 1 => 0 | 2 => -1 | _ => 0
def mvy : Nat → Int | 0 => 0 | 1 => 1 | 2 => 0 | _ => -1
/-- where what goes in a direction comes to: one place on, or one back -/
def towD (fw : Bool) (d : Nat) : Nat := if fw then opp d else d
def sgn (fw : Bool) : Int := if fw then 1 else -1
theorem opp_lt (d : Nat) : opp d < 4 := by
  unfold opp; split <;> omega
theorem opp_opp {d : Nat} (h : d < 4) : opp (opp d) = d := by
  rcases (by omega : d = 0 ∨ d = 1 ∨ d = 2 ∨ d = 3) with rfl | rfl | rfl | rfl <;> rfl
theorem towD_lt (fw : Bool) {d : Nat} (h : d < 4) : towD fw d < 4 := by cases fw; exact h; exact opp_lt d
def strG (fw : Bool) (W H : Nat) (g : Nat → C4) : Nat → C4 := if fw then flow W H g else ebb W H g
theorem flow_get (W H : Nat) (g : Nat → C4) (i d : Nat) (hd : d < 4) : (flow W H g i).get d = (g (nbT W H i d)).get d := by
  rcases (by omega : d = 0 ∨ d = 1 ∨ d = 2 ∨ d = 3) with rfl | rfl | rfl | rfl <;> rfl
theorem ebb_get (W H : Nat) (g : Nat → C4) (i d : Nat) (hd : d < 4) : (ebb W H g i).get d = (g (nbT W H i (opp d))).get d := by
  rcases (by omega : d = 0 ∨ d = 1 ∨ d = 2 ∨ d = 3) with rfl | rfl | rfl | rfl <;> rfl
/-- from which place and number the number j of the streamed row comes -/
def srcS (fw : Bool) (W H : Nat) (j : Nat) : Nat := nbT W H (j / 4) (opp (towD fw (j % 4))) * 4 + j % 4
theorem tow_back (fw : Bool) {W H i d : Nat} (h : i < W * H) (hd : d < 4) : nbT W H (nbT W H i (towD fw d)) (opp (towD fw d)) = i := nbT_opp h (towD_lt fw hd)
theorem tow_back' (fw : Bool) {W H i d : Nat} (h : i < W * H) (hd : d < 4) : nbT W H (nbT W H i (opp (towD fw d))) (towD fw d) = i := by
  have := nbT_opp h (opp_lt (towD fw d))
  rwa [opp_opp (towD_lt fw hd)] at this
theorem str_step (fw : Bool) {W H : Nat} (g : Nat → C4) {i d : Nat} (h : i < W * H) (hd : d < 4) :
    srcS fw W H (nbT W H i (towD fw d) * 4 + d) = i * 4 + d ∧ (∀ j, j < W * H * 4 → srcS fw W H j = i * 4 + d → j = nbT W H i (towD fw d) * 4 + d) ∧ flatC (strG fw W H g) (nbT W H i (towD fw d) * 4 + d) = (g i).get d := by
  refine ⟨?_, ?_, ?_⟩
  · unfold srcS
    rw [show (nbT W H i (towD fw d) * 4 + d) / 4 = nbT W H i (towD fw d) from by omega, show (nbT W H i (towD fw d) * 4 + d) % 4 = d from by omega, tow_back fw h hd]
  · intro j hj e
    unfold srcS at e
    have e1 : j % 4 = d := by omega
    have e2 : nbT W H (j / 4) (opp (towD fw d)) = i := by rw [e1] at e; omega
    have e3 := tow_back' fw (show j / 4 < W * H by omega) hd
    rw [e2] at e3
    omega
  · rw [flatC_at _ _ _ hd]
    cases fw
    · show (ebb W H g _).get d = _
      rw [ebb_get _ _ _ _ _ hd]
      have := tow_back false h hd
      simp only [towD, Bool.false_eq_true, if_false] at this ⊢
      rw [this]
    · show (flow W H g _).get d = _
      rw [flow_get _ _ _ _ _ hd]
      have := tow_back true h hd
      simp only [towD, if_true, opp_opp hd] at this ⊢
      rw [this]
theorem srcS_lt (fw : Bool) {W H j : Nat} (h : j < W * H * 4) : srcS fw W H j < W * H * 4 := by
  unfold srcS
  have := nbT_lt (W := W) (H := H) (i := j / 4) (d := opp (towD fw (j % 4))) (by omega) (opp_lt _)
  omega
/-- the place in ints -/
theorem tow_int (fw : Bool) {W H i d : Nat} (h1 : 0 < W) (h2 : 0 < H) (h : i < W * H) (hd : d < 4) : (((i : Int) % W + sgn fw * mvx d) % W + W * (((i : Int) / W + sgn fw * mvy d) % H)) = (nbT W H i (towD fw d) : Int) := by
  have hw : (W : Int) ≠ 0 := by omega
  have hh : (H : Int) ≠ 0 := by omega
  have key : ∀ (x m : Int), (x + -1) % m = (x + m - 1) % m := fun x m => by
    rw [show x + m - 1 = (x + -1) + m by omega, Int.add_emod_right]
  obtain ⟨hx, hy⟩ := row_lt h
  have ex : (i : Int) % (W : Int) % W = (i : Int) % W := Int.emod_emod _ _
  have ey : (i : Int) / (W : Int) % H = (i : Int) / W := by
    have e : ((i / W : Nat) : Int) = (i : Int) / (W : Int) := by simp
    have e0 : 0 ≤ ((i / W : Nat) : Int) := Int.natCast_nonneg _
    rw [← e]; exact Int.emod_eq_of_lt e0 (by omega)
  have fin : ∀ k, k < 4 → ∀ mx my : Int, ((i : Int) % W + mx) % W + W * (((i : Int) / W + my) % H) = (match k with
    | 0 => ((i : Int) % W + W - 1) % W + (i : Int) / W % H * W
    | 1 => (i : Int) % W % W + ((i : Int) / W + H - 1) % H * W
    | 2 => ((i : Int) % W + 1) % W + (i : Int) / W % H * W
    | _ => (i : Int) % W % W + ((i : Int) / W + 1) % H * W) → ((i : Int) % W + mx) % W + W * (((i : Int) / W + my) % H) = (nbT W H i k : Int) := fun k hk mx my e => by
    rw [e]
    rcases (by omega : k = 0 ∨ k = 1 ∨ k = 2 ∨ k = 3) with rfl | rfl | rfl | rfl <;> exact (nbT_int hk h1 h2).symm
  cases fw <;> rcases (by omega : d = 0 ∨ d = 1 ∨ d = 2 ∨ d = 3) with rfl | rfl | rfl | rfl
  · exact fin 0 (by omega) (-1) 0 (by simp only [key, Int.add_zero, ey]; rw [Int.mul_comm])
  · exact fin 1 (by omega) 0 (-1) (by simp only [key, Int.add_zero, ex]; rw [Int.mul_comm])
  · exact fin 2 (by omega) 1 0 (by simp only [Int.add_zero, ey]; rw [Int.mul_comm])
  · exact fin 3 (by omega) 0 1 (by simp only [Int.add_zero, ex]; rw [Int.mul_comm])
  · exact fin 2 (by omega) 1 0 (by simp only [Int.add_zero, ey]; rw [Int.mul_comm])
  · exact fin 3 (by omega) 0 1 (by simp only [Int.add_zero, ex]; rw [Int.mul_comm])
  · exact fin 0 (by omega) (-1) 0 (by simp only [key, Int.add_zero, ey]; rw [Int.mul_comm])
  · exact fin 1 (by omega) 0 (-1) (by simp only [key, Int.add_zero, ex]; rw [Int.mul_comm])
/-! ### walks -/
theorem grid_modulo (a m : Int) (w : World) (h0 : -100000 ≤ a) (h1 : a ≤ 100000) (h2 : 0 < m) (h3 : m ≤ 100000) : Calls Try.prog 77 #[.int .i64 a, .int .i64 m] w fun e w' => e = .returned (.int .i64 (a % m)) ∧ w = w' := by
  have e : (a.tmod m + m) % m = a % m := by
    have g1 := Int.emod_nonneg a (show m ≠ 0 by omega)
    have g2 := Int.emod_lt_of_pos a h2
    obtain ⟨t1, t2, t3, t4⟩ := tmod_sign (a := a) h2
    by_cases h : a.tmod m < 0
    · rw [← t2 h, Int.emod_emod]
    · rw [← t1 (by omega), Int.add_emod_right, Int.emod_emod]
  obtain ⟨t1, t2, t3, t4⟩ := tmod_sign (a := a) h2
  have hp0 : ¬ m = 0 := by omega
  have HE := hid e
  clear t1 t2 e
  go_enter Try.func77, Try.ntmps77
  go_wp2
  go_ret
  exact ⟨ret_int HE.out, rfl⟩
theorem grid_place (W H i : Nat) (a : Option Addr) (n ca : Nat) (w : World) (hW : 0 < W) (hW2 : W ≤ 64) (hi : i ≤ 100000) : Calls Try.prog 67 #[.agg #[.int .i64 (W : Int), .int .i64 (H : Int), .slice a n ca], .int .i64 (i : Int)] w fun e w' => e = .returned (.tuple #[.int .i64 ((i : Int) % W), .int .i64 ((i : Int) / W)]) ∧ Below w.heap.size w w' := by
  have hw0 : ¬ (W : Int) = 0 := by omega
  have ht : (i : Int).tmod (W : Int) = (i : Int) % (W : Int) := Int.tmod_eq_emod_of_nonneg (by omega)
  have hdv : (i : Int).tdiv (W : Int) = (i : Int) / (W : Int) := Int.tdiv_eq_ediv_of_nonneg (by omega)
  have y0 : 0 ≤ (i : Int) / (W : Int) := Int.ediv_nonneg (by omega) (by omega)
  have y1 : (i : Int) / (W : Int) ≤ i := Int.ediv_le_self _ (by omega)
  have hwr : wrap64 ((i : Int) / (W : Int)) = (i : Int) / (W : Int) := by unfold wrap64; omega
  have X0 := Bx.new w #[.int .i64 (W : Int), .int .i64 (H : Int), .slice a n ca] 85
  have hB0 : Below w.heap.size w (w.alloc (.cells #[.int .i64 (W : Int), .int .i64 (H : Int), .slice a n ca] 85)) := by (repeat' (first | with_reducible assumption | with_reducible exact Below.refl _ _ | with_reducible refine Below.drew ?_ | with_reducible refine below_drewN ?_ _ | with_reducible refine balloc ?_ _ | with_reducible refine bset ?_ ?_ _ | with_reducible refine Below.setCell ?_ ?_ _ | with_reducible refine Below.alloc ?_ ?_ _ | omega | (simp; done) | (simp; omega)))
  go_enter Try.func67, Try.ntmps67
  go_upto_region 1 with (fail)
  generalize (w.alloc (.cells #[.int .i64 (W : Int), .int .i64 (H : Int), .slice a n ca] 85)) = W0 at X0 hB0 ⊢
  have z0 := X0.lt
  have x0 := X0.at_ 0 rfl
  go_quiet (fail)
  go_wp2
  go_ret2
  have hB := hB0
  exact ⟨rfl, by (repeat' (first | with_reducible assumption | with_reducible exact Below.refl _ _ | with_reducible refine Below.drew ?_ | with_reducible refine below_drewN ?_ _ | with_reducible refine balloc ?_ _ | with_reducible refine bset ?_ ?_ _ | with_reducible refine Below.setCell ?_ ?_ _ | with_reducible refine Below.alloc ?_ ?_ _ | omega | (simp; done) | (simp; omega)))⟩
set_option maxRecDepth 100000 in
set_option maxHeartbeats 1000000 in
theorem grid_at (W H : Nat) (x y : Int) (j b off n ca : Nat) (w : World) (hW : 0 < W) (hW2 : W ≤ 64) (hH : 0 < H) (hH2 : H ≤ 64) (x0 : -1000 ≤ x) (x1 : x ≤ 1000) (y0 : -1000 ≤ y) (y1 : y ≤ 1000) (hj : x % W + W * (y % H) = (j : Int)) (hjn : j < n) (hn : n ≤ 4096) :
    Calls Try.prog 69 #[.agg #[.int .i64 (W : Int), .int .i64 (H : Int), .slice (some ⟨b, off, none⟩) n ca], .int .i64 x, .int .i64 y] w fun e w' => e = .returned (.pointer (some ⟨b, off + j * 4, none⟩)) ∧ Below w.heap.size w w' := by
  have m1 := fun W' => grid_modulo x W W' (by omega) (by omega) (by omega) (by omega)
  have m2 := fun W' => grid_modulo y H W' (by omega) (by omega) (by omega) (by omega)
  have a0 : 0 ≤ x % (W : Int) := Int.emod_nonneg _ (by omega)
  have a1 : x % (W : Int) < W := Int.emod_lt_of_pos _ (by omega)
  have b0 : 0 ≤ y % (H : Int) := Int.emod_nonneg _ (by omega)
  have b1 : y % (H : Int) < H := Int.emod_lt_of_pos _ (by omega)
  generalize x % (W : Int) = p at *
  generalize y % (H : Int) = q at *
  have c0 : 0 ≤ (W : Int) * q := Int.mul_nonneg (by omega) b0
  have c1 : (W : Int) * q ≤ 64 * 64 := Int.mul_le_mul (by omega) (by omega) (by omega) (by omega)
  have c2 := IntWalk.i64_in ((W : Int) * q) (by omega)
  have c3 : wrap64 ((W : Int) * q) = (W : Int) * q := by unfold wrap64; omega
  have c4 := IntWalk.i64_in (p + (W : Int) * q) (by omega)
  have X0 := Bx.new w #[.int .i64 (W : Int), .int .i64 (H : Int), .slice (some ⟨b, off, none⟩) n ca] 85
  have hB0 : Below w.heap.size w (w.alloc (.cells #[.int .i64 (W : Int), .int .i64 (H : Int), .slice (some ⟨b, off, none⟩) n ca] 85)) := by (repeat' (first | with_reducible assumption | with_reducible exact Below.refl _ _ | with_reducible refine Below.drew ?_ | with_reducible refine below_drewN ?_ _ | with_reducible refine balloc ?_ _ | with_reducible refine bset ?_ ?_ _ | with_reducible refine Below.setCell ?_ ?_ _ | with_reducible refine Below.alloc ?_ ?_ _ | omega | (simp; done) | (simp; omega)))
  go_enter Try.func69, Try.ntmps69
  go_upto_region 1 with (fail)
  generalize (w.alloc (.cells #[.int .i64 (W : Int), .int .i64 (H : Int), .slice (some ⟨b, off, none⟩) n ca] 85)) = W0 at X0 hB0 ⊢
  have z0 := X0.lt
  have x00 := X0.at_ 0 rfl; have x01 := X0.at_ 1 rfl; have x02 := X0.at_ 2 rfl
  go_quiet ((first | (go_at_call_of 77 (Value.int .i64 x); exact Calls.quiet_of_same ((m1 _).mono fun e w' h => ⟨h.1, h.2.symm⟩)) | (go_at_call_of 77 (Value.int .i64 y); exact Calls.quiet_of_same ((m2 _).mono fun e w' h => ⟨h.1, h.2.symm⟩))))
  go_wp2
  have hB := hB0
  go_ret
  exact ⟨rfl, by (repeat' (first | with_reducible assumption | with_reducible exact Below.refl _ _ | with_reducible refine Below.drew ?_ | with_reducible refine below_drewN ?_ _ | with_reducible refine balloc ?_ _ | with_reducible refine bset ?_ ?_ _ | with_reducible refine Below.setCell ?_ ?_ _ | with_reducible refine Below.alloc ?_ ?_ _ | omega | (simp; done) | (simp; omega)))⟩
theorem grid_move (d : Nat) (w : World) (hd : d < 4) : Calls Try.prog 68 #[.int .i64 (d : Int)] w fun e w' => e = .returned (.tuple #[.int .i64 (mvx d), .int .i64 (mvy d)]) ∧ Below w.heap.size w w' := by
  have hT : ∀ k, k < 4 → ∀ (w : World), (Instr.index 118 (.agg #[.int .i64 1, .int .i64 0, .int .i64 0, .int .i64 1, .int .i64 (-1), .int .i64 0, .int .i64 0, .int .i64 (-1)]) (.int .i64 (k : Nat))).run Try.prog w = .ok (.agg #[.int .i64 (mvx k), .int .i64 (mvy k)]) w := fun k hk w => by
    rcases (by omega : k = 0 ∨ k = 1 ∨ k = 2 ∨ k = 3) with rfl | rfl | rfl | rfl <;> kernel_rfl
  have h := hT d hd
  clear hT
  go_enter Try.func68, Try.ntmps68
  have X0 := Bx.new w #[.int .i64 (mvx d), .int .i64 (mvy d)] 117
  have hB0 : Below w.heap.size w (w.alloc (.cells #[.int .i64 (mvx d), .int .i64 (mvy d)] 117)) := by (repeat' (first | with_reducible assumption | with_reducible exact Below.refl _ _ | with_reducible refine Below.drew ?_ | with_reducible refine below_drewN ?_ _ | with_reducible refine balloc ?_ _ | with_reducible refine bset ?_ ?_ _ | with_reducible refine Below.setCell ?_ ?_ _ | with_reducible refine Below.alloc ?_ ?_ _ | omega | (simp; done) | (simp; omega)))
  go_wp2
  generalize (w.alloc (.cells #[.int .i64 (mvx d), .int .i64 (mvy d)] 117)) = W0 at X0 hB0 ⊢
  have z0 := X0.lt
  have x0 := X0.at_ 0 rfl; have x1 := X0.at_ 1 rfl
  go_quiet (fail)
  go_wp2
  go_ret2
  have hB := hB0
  exact ⟨rfl, by (repeat' (first | with_reducible assumption | with_reducible exact Below.refl _ _ | with_reducible refine Below.drew ?_ | with_reducible refine below_drewN ?_ _ | with_reducible refine balloc ?_ _ | with_reducible refine bset ?_ ?_ _ | with_reducible refine Below.setCell ?_ ?_ _ | with_reducible refine Below.alloc ?_ ?_ _ | omega | (simp; done) | (simp; omega)))⟩
set_option maxRecDepth 100000 in
set_option maxHeartbeats 1000000 in
theorem grid_empty (W H : Nat) (w : World) (hn : W * H ≤ 100000) (hW : W ≤ 64) (hH : H ≤ 64) : Calls Try.prog 66 #[.int .i64 (W : Int), .int .i64 (H : Int)] w (GridRow W H (W * H) (fun _ => C4.zero) w) := by
  have hP : (W : Int) * (H : Int) = ((W * H : Nat) : Int) := by simp
  generalize W * H = n at *
  have hmk := fun W' => mk_cells n (n : Int) rfl (by omega) W'
  have R := fun b => roC_made (w.alloc (.cells #[.int .i64 (W : Int), .int .i64 (H : Int), .slice (some ⟨b, 0, none⟩) n n] 85)) n
  simp only [World.size_alloc] at R
  go_enter Try.func66, Try.ntmps66
  go_wp2
  refine bodyPost_ret (v := .agg #[.int .i64 (W : Int), .int .i64 (H : Int), .slice (some ⟨w.heap.size + 1, 0, none⟩) n n]) (by simp [results, Try.results66, go_sem]) rfl ⟨w.heap.size + 1, n, rfl, by omega, R _, Nat.le_refl _, by (repeat' (first | with_reducible assumption | with_reducible exact Below.refl _ _ | with_reducible refine Below.drew ?_ | with_reducible refine below_drewN ?_ _ | with_reducible refine balloc ?_ _ | with_reducible refine bset ?_ ?_ _ | with_reducible refine Below.setCell ?_ ?_ _ | with_reducible refine Below.alloc ?_ ?_ _ | omega | (simp; done) | (simp; omega)))⟩
theorem mk_cap (n : Nat) (hn : n ≤ 100000000) (w : World) :
    (Instr.makeSlice 22 (.int .i64 0) (.int .i64 (n : Int))).run Try.prog w = .ok (.slice (some ⟨w.heap.size, 0, none⟩) 0 n) (w.alloc (.cells (ccells n) 39)) := by
  obtain ⟨i0, hi, hz0, hz1, hz2⟩ := info_parts infoC
  have hr := run_make (P := Try.prog) w 22 39 i0 _ Try.underlying22 hi hz0 .i64 .i64 0 n (by omega) (by omega) (by rw [hz2]; omega) (by omega)
  simp only [Int.toNat_natCast, hz1] at hr
  exact hr
set_option maxRecDepth 100000 in
set_option maxHeartbeats 1000000 in
theorem grid_of (W H : Nat) (a : Option Addr) (n ca : Nat) (g : Nat → C4) (w : World) (hn : n ≤ 100000) (h0 : 0 < n) (S : Sc w a n g) : Calls Try.prog 55 #[.agg #[.int .i64 (W : Int), .int .i64 (H : Int), .slice a n ca]] w (GridRow W H n g w) := by
  obtain ⟨i0, hi, hz0, hz1, hz2⟩ := info_parts infoC
  obtain ⟨b, o, rfl, hlt, _⟩ := S 0 h0
  have hmk := fun W' => mk_cap n (by omega) W'
  have X0 := (Bx.new w #[.int .i64 (W : Int), .int .i64 (H : Int), .slice (some ⟨b, o, none⟩) n ca] 24).alloc (.cells #[.int .i64 0, .int .i64 0, .slice none 0 0] 85)
  have X1 := Bx.new (w.alloc (.cells #[.int .i64 (W : Int), .int .i64 (H : Int), .slice (some ⟨b, o, none⟩) n ca] 24)) #[.int .i64 0, .int .i64 0, .slice none 0 0] 85
  simp only [World.size_alloc] at X1
  have hB0 : Below w.heap.size w ((w.alloc (.cells #[.int .i64 (W : Int), .int .i64 (H : Int), .slice (some ⟨b, o, none⟩) n ca] 24)).alloc (.cells #[.int .i64 0, .int .i64 0, .slice none 0 0] 85)) := by (repeat' (first | with_reducible assumption | with_reducible exact Below.refl _ _ | with_reducible refine Below.drew ?_ | with_reducible refine below_drewN ?_ _ | with_reducible refine balloc ?_ _ | with_reducible refine bset ?_ ?_ _ | with_reducible refine Below.setCell ?_ ?_ _ | with_reducible refine Below.alloc ?_ ?_ _ | omega | (simp; done) | (simp; omega)))
  go_enter Try.func55, Try.ntmps55
  go_upto_region 2 with (fail)
  generalize ((w.alloc (.cells #[.int .i64 (W : Int), .int .i64 (H : Int), .slice (some ⟨b, o, none⟩) n ca] 24)).alloc (.cells #[.int .i64 0, .int .i64 0, .slice none 0 0] 85)) = W0 at X0 X1 hB0 ⊢
  have z0 := X0.lt
  have z1 := X1.lt
  have hs0 := hB0.size
  have r2 : ∀ X, Below W0.heap.size W0 X → X.cell? ⟨w.heap.size, 2, none⟩ = some (.slice (some ⟨b, o, none⟩) n ca) := fun X h => (X0.below h).at_ 2 rfl
  refine wp_region_S (fun X => Below W0.heap.size W0 X) 9 (by kernel_rfl) ?_
  refine anyS_take (i := 0) rfl (by kernel_rfl) (fun _ _ _ h => h) (Or.inl ⟨by rfl, fun Y hYb => (by (try dsimp only at hYb); go_simp; rfl)⟩) (by repeat' (first | with_reducible assumption | with_reducible exact Below.refl _ _ | with_reducible refine Below.drew ?_ | with_reducible refine below_drewN ?_ _)) ?_
  refine anyS_take (i := 2) rfl (by kernel_rfl) (fun _ _ _ h => h) (Or.inl ⟨by rfl, fun Y hYb => (by (try dsimp only at hYb); go_simp; rfl)⟩) (by repeat' (first | with_reducible assumption | with_reducible exact Below.refl _ _ | with_reducible refine Below.drew ?_ | with_reducible refine below_drewN ?_ _)) ?_
  refine anyS_take (i := 3) rfl (by kernel_rfl) (fun _ _ _ h => h) (Or.inl ⟨by rfl, fun Y hYb => (by (try dsimp only at hYb); go_simp; rfl)⟩) (by repeat' (first | with_reducible assumption | with_reducible exact Below.refl _ _ | with_reducible refine Below.drew ?_ | with_reducible refine below_drewN ?_ _)) ?_
  refine anyS_take (i := 5) rfl (by kernel_rfl) (fun _ _ _ h => h) (Or.inl ⟨by rfl, fun Y hYb => (by (try dsimp only at hYb); go_simp; rfl)⟩) (by repeat' (first | with_reducible assumption | with_reducible exact Below.refl _ _ | with_reducible refine Below.drew ?_ | with_reducible refine below_drewN ?_ _)) ?_
  refine anyS_take (i := 6) rfl (by kernel_rfl) (fun _ _ _ h => h) (Or.inl ⟨by rfl, fun Y hYb => (by (try dsimp only at hYb); go_simp; rfl)⟩) (by repeat' (first | with_reducible assumption | with_reducible exact Below.refl _ _ | with_reducible refine Below.drew ?_ | with_reducible refine below_drewN ?_ _)) ?_
  refine anyS_one (i := 1) (by kernel_rfl) rfl (by rfl) (fun K hK => ?_)
  go_simp
  have hS1 : Below W0.heap.size W0 (W0.alloc (.cells (ccells n) 39)).drew := (below_alloc W0 _).drew
  have own0 : (W0.alloc (.cells (ccells n) 39)).drew.ownsRow W0.heap.size 39 4 (.slice (some ⟨W0.heap.size, 0, none⟩) 0 n) 0 [] := World.ownsRow_made W0 (ccells n) n (Nat.le_refl _) (by simp [maxLen]; omega) (by simp [ccells, size_madeCells])
  have HN := hid (sc_row ((S.below hB0).below hS1))
  generalize (W0.alloc (.cells (ccells n) 39)).drew = W1 at *
  have hs1 := hS1.size
  refine hK _ _ (fun _ _ => hS1) ?_
  clear hK K
  refine anyS_one (i := 4) (by kernel_rfl) rfl (by rfl) (fun K hK => ?_)
  refine wp_append_lies _ _ _ 22 rfl W0.heap.size 39 i0 _ 4 32 Try.underlying22 hi hz0 hz1 hz2 rfl (by decide) (.slice (some ⟨W0.heap.size, 0, none⟩) 0 n) 0 [] rfl own0 ⟨b, o, none⟩ n ca (rowC g n) rfl (rowC_length g n) HN.out (rowC_one g n) h0 (by simp only [maxLen]; omega) (by omega) hs1 _ rfl ?_
  intro g' cap w5 hown hgr hat hlt5
  simp only [Nat.zero_add, List.nil_append] at hown ⊢
  obtain ⟨hb', R⟩ := roC_of_own hown h0
  have hcap : n ≤ cap ∧ cap ≤ maxLen := by
    rcases hown.2 with ⟨_, h⟩ | ⟨g2, cap2, cur, hv, _, _, h, h2, _⟩
    · omega
    · injection hv with _ _ h'; subst h'; exact ⟨h, h2⟩
  obtain ⟨hcap, hcm⟩ := hcap
  have hS5 : Below W0.heap.size W0 w5 := hS1.grown hgr hs1 (fun k hk => by simp [Value.ownBlock] at hk; omega)
  clear hown hgr hat own0 HN
  refine hK _ _ (fun _ _ => hS5) ?_
  clear hK K
  unfold maxLen at hcm
  have hne : ¬ n = 0 := by omega
  refine anyS_take (i := 7) rfl (by kernel_rfl) (fun _ _ _ h => h) (Or.inl ⟨by rfl, fun Y hYb => (by (try dsimp only at hYb); go_simp; rfl)⟩) (by repeat' (first | with_reducible assumption | with_reducible exact Below.refl _ _ | with_reducible refine Below.drew ?_ | with_reducible refine below_drewN ?_ _)) ?_
  refine anyS_take (i := 8) rfl (by kernel_rfl) (fun _ _ _ h => h) (Or.inl ⟨by rfl, fun Y hYb => (by (try dsimp only at hYb); go_simp; rfl)⟩) (by repeat' (first | with_reducible assumption | with_reducible exact Below.refl _ _ | with_reducible refine Below.drew ?_ | with_reducible refine below_drewN ?_ _)) ?_
  replace X0 := X0.below hS5
  replace X1 := X1.below hS5
  have hB := bvia hB0 hS5
  clear r2 hS1 hS5
  have X0_0 := X0.at_ 0 rfl
  have X0_1 := X0.at_ 1 rfl
  have X0_2 := X0.at_ 2 rfl
  have X0f := X0.free
  have X0z := X0.lt
  have X1_0 := X1.at_ 0 rfl
  have X1_1 := X1.at_ 1 rfl
  have X1_2 := X1.at_ 2 rfl
  have X1f := X1.free
  have X1z := X1.lt
  refine anyS_one (i := 9) (by kernel_rfl) rfl (by rfl) (fun K hK => ?_)
  go_simp
  refine hK _ _ (fun h _ => absurd h (by decide)) ?_
  clear hK K
  refine anyS_done (by kernel_rfl) ?_ _
  go_wp2_with fail
  refine bodyPost_ret (v := .agg #[.int .i64 (W : Int), .int .i64 (H : Int), .slice (some ⟨g', 0, none⟩) n n]) (by simp [results, Try.results55, go_sem, X1_0, X1_1, X1_2]) rfl ⟨g', n, rfl, by omega, by (repeat' (first | with_reducible assumption | with_reducible refine Ro.drew ?_ | with_reducible refine Ro.drewN ?_ _ | with_reducible refine Ro.alloc ?_ _ | with_reducible refine Ro.far ?_ ?_ _ | (show _ ≠ _; dsimp only; omega))), Nat.le_refl _, by (repeat' (first | with_reducible assumption | with_reducible exact Below.refl _ _ | with_reducible refine Below.drew ?_ | with_reducible refine below_drewN ?_ _ | with_reducible refine balloc ?_ _ | with_reducible refine bset ?_ ?_ _ | with_reducible refine Below.setCell ?_ ?_ _ | with_reducible refine Below.alloc ?_ ?_ _ | omega | (simp; done) | (simp; omega)))⟩
end Go.Proofs.Ythlbmlfkmfheiaa
