/- Walks: collisions of one cell, of the program. -/
import Derived.Test.YteabkcbajpjkoaaGreatPk17
import Derived.Test.YteabkcbajpjkoaaGreatPk3
import Derived.Test.YteabkcbajpjkoaaGreatPk2
import Derived.Test.YteabkcbajpjkoaaGreatPk4
namespace Go.Proofs.YteabkcbajpjkoaaGreat
open Go Go.RowKit
set_option linter.unusedVariables false
theorem tmod_sign {a m : Int} (h : 0 < m) : (0 ≤ a.tmod m → a % m = a.tmod m) ∧ (a.tmod m < 0 → a % m = a.tmod m + m) ∧ -m < a.tmod m ∧ a.tmod m < m := by
  rw [Int.tmod_eq_emod]
  have h1 := Int.emod_nonneg a (show m ≠ 0 by omega)
  have h2 := Int.emod_lt_of_pos a h
  split
  · omega
  · rename_i hh
    have : a % m ≠ 0 := fun e => hh (.inr (Int.dvd_of_emod_eq_zero e))
    omega
set_option maxRecDepth 100000 in
set_option maxHeartbeats 1000000 in
theorem cell_pairs (c : C4) (w : World) : Calls Tryz.prog 145 #[.agg #[.int .i64 c.e, .int .i64 c.n, .int .i64 c.w, .int .i64 c.s]] w fun e w' => e = .returned (.tuple #[.int .i64 (mn c.e c.w), .int .i64 (mn c.n c.s)]) ∧ Below w.heap.size w w' := by
  have X := Bx.new w #[.int .i64 c.e, .int .i64 c.n, .int .i64 c.w, .int .i64 c.s] 49
  have hB : Below w.heap.size w (w.alloc (.cells #[.int .i64 c.e, .int .i64 c.n, .int .i64 c.w, .int .i64 c.s] 49)) := by (repeat' (first | with_reducible assumption | with_reducible exact Below.refl _ _ | with_reducible refine Below.drew ?_ | with_reducible refine below_drewN ?_ _ | with_reducible refine balloc ?_ _ | with_reducible refine bset ?_ ?_ _ | with_reducible refine Below.setCell ?_ ?_ _ | with_reducible refine Below.alloc ?_ ?_ _ | omega | (simp; done) | (simp; omega)))
  go_enter Tryz.func145, Tryz.ntmps145
  go_upto_region 1 with (fail)
  generalize w.alloc (.cells #[.int .i64 c.e, .int .i64 c.n, .int .i64 c.w, .int .i64 c.s] 49) = W0 at X hB ⊢
  have x0 := X.at_ 0 rfl; have x1 := X.at_ 1 rfl; have x2 := X.at_ 2 rfl; have x3 := X.at_ 3 rfl
  go_quiet (fail)
  go_wp2
  all_goals
    go_ret2
    exact ⟨by (simp [mn]; try omega), by (repeat' (first | with_reducible assumption | with_reducible exact Below.refl _ _ | with_reducible refine Below.drew ?_ | with_reducible refine below_drewN ?_ _ | with_reducible refine balloc ?_ _ | with_reducible refine bset ?_ ?_ _ | with_reducible refine Below.setCell ?_ ?_ _ | with_reducible refine Below.alloc ?_ ?_ _ | omega | (simp; done) | (simp; omega)))⟩
theorem turned_1 (h p : Int) (w : World) : Calls Tryz.prog 151 #[.int .i64 h, .int .i64 p] w fun e w' => e = .returned (.int .i64 h) ∧ w = w' := by
  go_enter Tryz.func151, Tryz.ntmps151
  go_wp2
  go_ret
  exact ⟨rfl, rfl⟩
theorem turned_2 (h p : Int) (w : World) (h0 : 0 ≤ h) (h1 : h ≤ p) (h2 : p ≤ 1000000000) : Calls Tryz.prog 152 #[.int .i64 h, .int .i64 p] w fun e w' => e = .returned (.int .i64 (p - h)) ∧ w = w' := by
  go_enter Tryz.func152, Tryz.ntmps152
  go_wp2
  go_ret
  exact ⟨rfl, rfl⟩
theorem turned_3 (h p b : Int) (br : Nat) (w : World) (h0 : 0 ≤ h) (h1 : h ≤ p) (h2 : p ≤ 1000000000) (b0 : -1000000000 ≤ b) (b1 : b ≤ 1000000000) (k : Int) (X : Bx w br #[.int .i64 k, .int .i64 b]) :
    Calls Tryz.prog 153 #[.int .i64 h, .int .i64 p, .pointer (some ⟨br, 0, none⟩)] w fun e w' => e = .returned (.int .i64 ((h + b) % (p + 1))) ∧ w = w' := by
  have x1 := X.at_ 1 rfl
  obtain ⟨t1, t2, t3, t4⟩ := tmod_sign (a := h + b) (m := p + 1) (by omega)
  have hp0 : ¬ p + 1 = 0 := by omega
  by_cases hs : 0 ≤ h + b
  · have ht := Int.tmod_eq_emod_of_nonneg (b := p + 1) hs
    have h5 := Int.emod_nonneg (h + b) hp0
    have h6 := Int.emod_lt_of_pos (h + b) (show 0 < p + 1 by omega)
    clear t1 t2 t3 t4 ht
    go_enter Tryz.func153, Tryz.ntmps153
    go_wp2
    go_ret
    exact ⟨rfl, rfl⟩
  · by_cases hn : (h + b).tmod (p + 1) < 0
    · have t5 := hid (t2 hn)
      clear t1 t2
      go_enter Tryz.func153, Tryz.ntmps153
      go_wp2
      go_ret
      exact ⟨ret_int (by rw [t5.out]), rfl⟩
    · have t5 := hid (t1 (by omega))
      clear t1 t2
      go_enter Tryz.func153, Tryz.ntmps153
      go_wp2
      go_ret
      exact ⟨ret_int t5.out.symm, rfl⟩
set_option maxRecDepth 100000 in
set_option maxHeartbeats 1000000 in
theorem cell_turned (k b h p : Int) (w : World) (hr : ruleOk k b) (h0 : 0 ≤ h) (h1 : h ≤ p) (h2 : p ≤ 1000000000) : Calls Tryz.prog 147 #[.agg #[.int .i64 k, .int .i64 b], .int .i64 h, .int .i64 p] w fun e w' => e = .returned (.int .i64 (turnI k b h p)) ∧ Below w.heap.size w w' := by
  have X := Bx.new w #[.int .i64 k, .int .i64 b] 91
  have i0 : ∀ (f : Value) (w : World), (Instr.index 189 (.agg #[.func (.func 151) #[] #[], .func (.func 152) #[] #[], f]) (.int .i64 0)).run Tryz.prog w = .ok (.func (.func 151) #[] #[]) w := fun f w => by kernel_rfl
  have i1 : ∀ (f : Value) (w : World), (Instr.index 189 (.agg #[.func (.func 151) #[] #[], .func (.func 152) #[] #[], f]) (.int .i64 1)).run Tryz.prog w = .ok (.func (.func 152) #[] #[]) w := fun f w => by kernel_rfl
  have i2 : ∀ (f : Value) (w : World), (Instr.index 189 (.agg #[.func (.func 151) #[] #[], .func (.func 152) #[] #[], f]) (.int .i64 2)).run Tryz.prog w = .ok f w := fun f w => by kernel_rfl
  rcases hr with ⟨rfl | rfl, rfl⟩ | ⟨rfl, b0, b1⟩
  · go_enter Tryz.func147, Tryz.ntmps147
    go_wp2_with (go_at_call 151; refine (turned_1 _ _ _).mono ?_; rintro e w' ⟨rfl, rfl⟩)
    go_ret
    exact ⟨rfl, by (repeat' (first | with_reducible assumption | with_reducible exact Below.refl _ _ | with_reducible refine Below.drew ?_ | with_reducible refine below_drewN ?_ _ | with_reducible refine balloc ?_ _ | with_reducible refine bset ?_ ?_ _ | with_reducible refine Below.setCell ?_ ?_ _ | with_reducible refine Below.alloc ?_ ?_ _ | omega | (simp; done) | (simp; omega)))⟩
  · go_enter Tryz.func147, Tryz.ntmps147
    go_wp2_with (go_at_call 152; refine (turned_2 _ _ _ h0 h1 h2).mono ?_; rintro e w' ⟨rfl, rfl⟩)
    go_ret
    exact ⟨rfl, by (repeat' (first | with_reducible assumption | with_reducible exact Below.refl _ _ | with_reducible refine Below.drew ?_ | with_reducible refine below_drewN ?_ _ | with_reducible refine balloc ?_ _ | with_reducible refine bset ?_ ?_ _ | with_reducible refine Below.setCell ?_ ?_ _ | with_reducible refine Below.alloc ?_ ?_ _ | omega | (simp; done) | (simp; omega)))⟩
  · have hT : turnI 2 b h p = (h + b) % (p + 1) := rfl
    rw [hT]
    clear hT
    go_enter Tryz.func147, Tryz.ntmps147
    go_wp2_with (go_at_call 153; refine (turned_3 _ _ _ _ _ h0 h1 h2 b0 b1 _ X).mono ?_; rintro e w' ⟨rfl, rfl⟩)
    go_ret
    exact ⟨rfl, by (repeat' (first | with_reducible assumption | with_reducible exact Below.refl _ _ | with_reducible refine Below.drew ?_ | with_reducible refine below_drewN ?_ _ | with_reducible refine balloc ?_ _ | with_reducible refine bset ?_ ?_ _ | with_reducible refine Below.setCell ?_ ?_ _ | with_reducible refine Below.alloc ?_ ?_ _ | omega | (simp; done) | (simp; omega)))⟩
/-- the pairs of a valid cell -/
theorem pairs_bd {c : C4} (hv : validC c = true) : 0 ≤ c.e ∧ 0 ≤ c.n ∧ 0 ≤ c.w ∧ 0 ≤ c.s ∧ c.e + c.n + c.w + c.s ≤ 1000000000 ∧ 0 ≤ mn c.e c.w ∧ mn c.e c.w ≤ c.e ∧ mn c.e c.w ≤ c.w ∧ 0 ≤ mn c.n c.s ∧ mn c.n c.s ≤ c.n ∧ mn c.n c.s ≤ c.s := by
  obtain ⟨a, b, d, e, f⟩ := (validC_iff _).1 hv
  have g := mn_range a d
  have h := mn_range b e
  omega
/-- the cell of a class with the place t -/
def plcC (c : C4) (t : Int) : C4 := ⟨c.e + (t - mn c.e c.w), c.n - (t - mn c.e c.w), c.w + (t - mn c.e c.w), c.s - (t - mn c.e c.w)⟩
set_option maxRecDepth 100000 in
set_option maxHeartbeats 1000000 in
theorem cell_placed (c : C4) (t : Int) (w : World) (hv : validC c = true) (h0 : 0 ≤ t) (h1 : t ≤ 1000000000) : Calls Tryz.prog 146 #[.agg #[.int .i64 c.e, .int .i64 c.n, .int .i64 c.w, .int .i64 c.s], .int .i64 t] w fun e w' => e = .returned (.agg #[.int .i64 (plcC c t).e, .int .i64 (plcC c t).n, .int .i64 (plcC c t).w, .int .i64 (plcC c t).s]) ∧ Below w.heap.size w w' := by
  obtain ⟨a1, a2, a3, a4, a5, a6, a7, a8, a9, a10, a11⟩ := pairs_bd hv
  have X0 := (Bx.new w #[.int .i64 c.e, .int .i64 c.n, .int .i64 c.w, .int .i64 c.s] 49).alloc (.cells #[.int .i64 0, .int .i64 0, .int .i64 0, .int .i64 0] 49)
  have X1 := Bx.new (w.alloc (.cells #[.int .i64 c.e, .int .i64 c.n, .int .i64 c.w, .int .i64 c.s] 49)) #[.int .i64 0, .int .i64 0, .int .i64 0, .int .i64 0] 49
  simp only [World.size_alloc] at X1
  have hB0 : Below w.heap.size w ((w.alloc (.cells #[.int .i64 c.e, .int .i64 c.n, .int .i64 c.w, .int .i64 c.s] 49)).alloc (.cells #[.int .i64 0, .int .i64 0, .int .i64 0, .int .i64 0] 49)) := by (repeat' (first | with_reducible assumption | with_reducible exact Below.refl _ _ | with_reducible refine Below.drew ?_ | with_reducible refine below_drewN ?_ _ | with_reducible refine balloc ?_ _ | with_reducible refine bset ?_ ?_ _ | with_reducible refine Below.setCell ?_ ?_ _ | with_reducible refine Below.alloc ?_ ?_ _ | omega | (simp; done) | (simp; omega)))
  go_enter Tryz.func146, Tryz.ntmps146
  go_wp2_with fail
  generalize ((w.alloc (.cells #[.int .i64 c.e, .int .i64 c.n, .int .i64 c.w, .int .i64 c.s] 49)).alloc (.cells #[.int .i64 0, .int .i64 0, .int .i64 0, .int .i64 0] 49)) = W0 at X0 X1 hB0 ⊢
  have z0 := X0.lt
  have z1 := X1.lt
  refine (cell_pairs c _).mono ?_
  rintro e w1 ⟨rfl, hb1⟩
  have hB := hB0
  clear hB0 hv
  replace X0 := X0.below hb1
  replace X1 := X1.below hb1
  replace hB := bvia hB hb1
  clear hb1
  have X0_0 := X0.at_ 0 rfl
  have X0_1 := X0.at_ 1 rfl
  have X0_2 := X0.at_ 2 rfl
  have X0_3 := X0.at_ 3 rfl
  have X0z := X0.lt
  have X1_0 := X1.at_ 0 rfl
  have X1_1 := X1.at_ 1 rfl
  have X1_2 := X1.at_ 2 rfl
  have X1_3 := X1.at_ 3 rfl
  have X1f := X1.free
  have X1z := X1.lt
  have hP : plcC c t = ⟨c.e + (t - mn c.e c.w), c.n - (t - mn c.e c.w), c.w + (t - mn c.e c.w), c.s - (t - mn c.e c.w)⟩ := rfl
  generalize mn c.e c.w = h at *
  have HP := hid hP; clear hP
  go_wp2_with fail
  refine bodyPost_ret (v := .agg #[.int .i64 (c.e + (t - h)), .int .i64 (c.n - (t - h)), .int .i64 (c.w + (t - h)), .int .i64 (c.s - (t - h))]) (by simp [results, Tryz.results146, go_sem, X1_0, X1_1, X1_2, X1_3]) rfl ⟨by rw [HP.out], by (repeat' (first | with_reducible assumption | with_reducible exact Below.refl _ _ | with_reducible refine Below.drew ?_ | with_reducible refine below_drewN ?_ _ | with_reducible refine balloc ?_ _ | with_reducible refine bset ?_ ?_ _ | with_reducible refine Below.setCell ?_ ?_ _ | with_reducible refine Below.alloc ?_ ?_ _ | omega | (simp; done) | (simp; omega)))⟩
set_option maxRecDepth 100000 in
set_option maxHeartbeats 2000000 in
theorem cell_collided (c : C4) (k b : Int) (w : World) (hv : validC c = true) (hr : ruleOk k b) : Calls Tryz.prog 128 #[.agg #[.int .i64 c.e, .int .i64 c.n, .int .i64 c.w, .int .i64 c.s], .agg #[.int .i64 k, .int .i64 b]] w fun e w' => e = .returned (.agg #[.int .i64 (coll k b c).e, .int .i64 (coll k b c).n, .int .i64 (coll k b c).w, .int .i64 (coll k b c).s]) ∧ Below w.heap.size w w' := by
  obtain ⟨a1, a2, a3, a4, a5, a6, a7, a8, a9, a10, a11⟩ := pairs_bd hv
  obtain ⟨t1, t2⟩ := turnI_range (k := k) (b := b) a6 (show mn c.e c.w ≤ mn c.e c.w + mn c.n c.s by omega)
  have hturn := fun W => cell_turned k b (mn c.e c.w) (mn c.e c.w + mn c.n c.s) W hr a6 (by omega) (by omega)
  have hplc := fun W => cell_placed c (turnI k b (mn c.e c.w) (mn c.e c.w + mn c.n c.s)) W hv t1 (by omega)
  have hC : plcC c (turnI k b (mn c.e c.w) (mn c.e c.w + mn c.n c.s)) = coll k b c := rfl
  rw [hC] at hplc
  generalize turnI k b (mn c.e c.w) (mn c.e c.w + mn c.n c.s) = t at hturn hplc t1 t2
  have ha := IntWalk.i64_in (mn c.e c.w + mn c.n c.s) (by omega)
  generalize coll k b c = d at hplc ⊢
  clear hC hr
  have X0 := ((Bx.new w #[.int .i64 c.e, .int .i64 c.n, .int .i64 c.w, .int .i64 c.s] 49).alloc (.cells #[.int .i64 k, .int .i64 b] 91)).alloc (.cells #[.int .i64 0, .int .i64 0, .int .i64 0, .int .i64 0] 49)
  have X1 := (Bx.new (w.alloc (.cells #[.int .i64 c.e, .int .i64 c.n, .int .i64 c.w, .int .i64 c.s] 49)) #[.int .i64 k, .int .i64 b] 91).alloc (.cells #[.int .i64 0, .int .i64 0, .int .i64 0, .int .i64 0] 49)
  have X2 := Bx.new ((w.alloc (.cells #[.int .i64 c.e, .int .i64 c.n, .int .i64 c.w, .int .i64 c.s] 49)).alloc (.cells #[.int .i64 k, .int .i64 b] 91)) #[.int .i64 0, .int .i64 0, .int .i64 0, .int .i64 0] 49
  simp only [World.size_alloc] at X1 X2
  have hB0 : Below w.heap.size w (((w.alloc (.cells #[.int .i64 c.e, .int .i64 c.n, .int .i64 c.w, .int .i64 c.s] 49)).alloc (.cells #[.int .i64 k, .int .i64 b] 91)).alloc (.cells #[.int .i64 0, .int .i64 0, .int .i64 0, .int .i64 0] 49)) := by (repeat' (first | with_reducible assumption | with_reducible exact Below.refl _ _ | with_reducible refine Below.drew ?_ | with_reducible refine below_drewN ?_ _ | with_reducible refine balloc ?_ _ | with_reducible refine bset ?_ ?_ _ | with_reducible refine Below.setCell ?_ ?_ _ | with_reducible refine Below.alloc ?_ ?_ _ | omega | (simp; done) | (simp; omega)))
  go_enter Tryz.func128, Tryz.ntmps128
  go_wp2_with fail
  generalize (((w.alloc (.cells #[.int .i64 c.e, .int .i64 c.n, .int .i64 c.w, .int .i64 c.s] 49)).alloc (.cells #[.int .i64 k, .int .i64 b] 91)).alloc (.cells #[.int .i64 0, .int .i64 0, .int .i64 0, .int .i64 0] 49)) = W0 at X0 X1 X2 hB0 ⊢
  have z0 := X0.lt
  have z1 := X1.lt
  have z2 := X2.lt
  refine (cell_pairs c _).mono ?_
  rintro e w1 ⟨rfl, hb1⟩
  have hB := hB0
  clear hB0 hv
  replace X0 := X0.below hb1
  replace X1 := X1.below hb1
  replace X2 := X2.below hb1
  replace hB := bvia hB hb1
  clear hb1
  generalize mn c.e c.w = h at *
  generalize mn c.n c.s = v at *
  go_upto_region 2 with (fail)
  have r0 : ∀ W, Below (w.heap.size + 1 + 1) w1 W → W.cell? ⟨w.heap.size, 0, none⟩ = some (.int .i64 c.e) := fun W h => (bcell h _ _ (by omega)).trans (X0.at_ 0 rfl)
  have r1 : ∀ W, Below (w.heap.size + 1 + 1) w1 W → W.cell? ⟨w.heap.size, 1, none⟩ = some (.int .i64 c.n) := fun W h => (bcell h _ _ (by omega)).trans (X0.at_ 1 rfl)
  have r2 : ∀ W, Below (w.heap.size + 1 + 1) w1 W → W.cell? ⟨w.heap.size, 2, none⟩ = some (.int .i64 c.w) := fun W h => (bcell h _ _ (by omega)).trans (X0.at_ 2 rfl)
  have r3 : ∀ W, Below (w.heap.size + 1 + 1) w1 W → W.cell? ⟨w.heap.size, 3, none⟩ = some (.int .i64 c.s) := fun W h => (bcell h _ _ (by omega)).trans (X0.at_ 3 rfl)
  have r4 : ∀ W, Below (w.heap.size + 1 + 1) w1 W → W.cell? ⟨w.heap.size + 1, 0, none⟩ = some (.int .i64 k) := fun W h => (bcell h _ _ (by omega)).trans (X1.at_ 0 rfl)
  have r5 : ∀ W, Below (w.heap.size + 1 + 1) w1 W → W.cell? ⟨w.heap.size + 1, 1, none⟩ = some (.int .i64 b) := fun W h => (bcell h _ _ (by omega)).trans (X1.at_ 1 rfl)
  have q0 : ∀ W, Below w1.heap.size w1 W → W.cell? ⟨w.heap.size + 1 + 1, 0, none⟩ = some (.int .i64 0) := fun W h => (X2.below h).at_ 0 rfl
  have q1 : ∀ W, Below w1.heap.size w1 W → W.cell? ⟨w.heap.size + 1 + 1, 1, none⟩ = some (.int .i64 0) := fun W h => (X2.below h).at_ 1 rfl
  have q2 : ∀ W, Below w1.heap.size w1 W → W.cell? ⟨w.heap.size + 1 + 1, 2, none⟩ = some (.int .i64 0) := fun W h => (X2.below h).at_ 2 rfl
  have q3 : ∀ W, Below w1.heap.size w1 W → W.cell? ⟨w.heap.size + 1 + 1, 3, none⟩ = some (.int .i64 0) := fun W h => (X2.below h).at_ 3 rfl
  have qf : ∀ W, Below w1.heap.size w1 W → ∀ i, W.frozen? ⟨w.heap.size + 1 + 1, i, none⟩ = false := fun W h => (X2.below h).free
  have z2' := X2.lt
  have hS1 : Below (w.heap.size + 1 + 1) w1 w1 := Below.refl _ _
  go_region_held3 (fun W => Below (w.heap.size + 1 + 1) w1 W) ((repeat' (first | with_reducible assumption | with_reducible exact Below.refl _ _ | with_reducible refine Below.drew ?_ | with_reducible refine below_drewN ?_ _ | with_reducible refine balloc ?_ _ | with_reducible refine bset ?_ ?_ _ | with_reducible refine Below.setCell ?_ ?_ _ | with_reducible refine Below.alloc ?_ ?_ _ | omega | (simp; done) | (simp; omega))))
    ((first
      | (go_at_call 147; refine (hturn _).mono ?_; rintro e w2 ⟨rfl, hb2⟩; have hB2 : Below w1.heap.size w1 w2 := bvia (by (repeat' (first | with_reducible assumption | with_reducible exact Below.refl _ _ | with_reducible refine Below.drew ?_ | with_reducible refine below_drewN ?_ _ | with_reducible refine balloc ?_ _ | with_reducible refine bset ?_ ?_ _ | with_reducible refine Below.setCell ?_ ?_ _ | with_reducible refine Below.alloc ?_ ?_ _ | omega | (simp; done) | (simp; omega)))) hb2; have hC2 := hB2.mono (show w.heap.size + 1 + 1 ≤ w1.heap.size by omega))
      | (go_at_call 146; refine (hplc _).mono ?_; rintro e w3 ⟨rfl, hb3⟩; have hB3 : Below w1.heap.size w1 w3 := bvia (by (repeat' (first | with_reducible assumption | with_reducible exact Below.refl _ _ | with_reducible refine Below.drew ?_ | with_reducible refine below_drewN ?_ _ | with_reducible refine balloc ?_ _ | with_reducible refine bset ?_ ?_ _ | with_reducible refine Below.setCell ?_ ?_ _ | with_reducible refine Below.alloc ?_ ?_ _ | omega | (simp; done) | (simp; omega)))) hb3; have hC3 := hB3.mono (show w.heap.size + 1 + 1 ≤ w1.heap.size by omega))
      | fail))
  all_goals
    have y0 := q0 w3 hB3; have y1 := q1 w3 hB3; have y2 := q2 w3 hB3; have y3 := q3 w3 hB3; have yf := qf w3 hB3
    have hBw := bvia hB hB3
    go_wp2_with fail
    refine bodyPost_ret (v := .agg #[.int .i64 (d).e, .int .i64 (d).n, .int .i64 (d).w, .int .i64 (d).s]) (by simp [results, Tryz.results128, go_sem, y0, y1, y2, y3]) rfl ⟨rfl, by (repeat' (first | with_reducible assumption | with_reducible exact Below.refl _ _ | with_reducible refine Below.drew ?_ | with_reducible refine below_drewN ?_ _ | with_reducible refine balloc ?_ _ | with_reducible refine bset ?_ ?_ _ | with_reducible refine Below.setCell ?_ ?_ _ | with_reducible refine Below.alloc ?_ ?_ _ | omega | (simp; done) | (simp; omega)))⟩
set_option maxRecDepth 100000 in
set_option maxHeartbeats 2000000 in
theorem cell_Collide (c : C4) (k b : Int) (w : World) (hv : validC c = true) (hr : ruleOk k b) : Calls Tryz.prog 104 #[.agg #[.int .i64 c.e, .int .i64 c.n, .int .i64 c.w, .int .i64 c.s], .agg #[.int .i64 k, .int .i64 b]] w fun e w' => e = .returned (.tuple #[.agg #[.int .i64 (coll k b c).e, .int .i64 (coll k b c).n, .int .i64 (coll k b c).w, .int .i64 (coll k b c).s], .int .i64 0]) ∧ Below w.heap.size w w' := by
  have hcol := fun W => cell_collided c k b W hv hr
  generalize coll k b c = d at hcol ⊢
  have X0 := ((Bx.new w #[.int .i64 c.e, .int .i64 c.n, .int .i64 c.w, .int .i64 c.s] 49).alloc (.cells #[.int .i64 k, .int .i64 b] 91)).alloc (.cells #[.int .i64 0, .int .i64 0, .int .i64 0, .int .i64 0] 49)
  have X1 := (Bx.new (w.alloc (.cells #[.int .i64 c.e, .int .i64 c.n, .int .i64 c.w, .int .i64 c.s] 49)) #[.int .i64 k, .int .i64 b] 91).alloc (.cells #[.int .i64 0, .int .i64 0, .int .i64 0, .int .i64 0] 49)
  have X2 := Bx.new ((w.alloc (.cells #[.int .i64 c.e, .int .i64 c.n, .int .i64 c.w, .int .i64 c.s] 49)).alloc (.cells #[.int .i64 k, .int .i64 b] 91)) #[.int .i64 0, .int .i64 0, .int .i64 0, .int .i64 0] 49
  simp only [World.size_alloc] at X1 X2
  have hB0 : Below w.heap.size w (((w.alloc (.cells #[.int .i64 c.e, .int .i64 c.n, .int .i64 c.w, .int .i64 c.s] 49)).alloc (.cells #[.int .i64 k, .int .i64 b] 91)).alloc (.cells #[.int .i64 0, .int .i64 0, .int .i64 0, .int .i64 0] 49)) := by (repeat' (first | with_reducible assumption | with_reducible exact Below.refl _ _ | with_reducible refine Below.drew ?_ | with_reducible refine below_drewN ?_ _ | with_reducible refine balloc ?_ _ | with_reducible refine bset ?_ ?_ _ | with_reducible refine Below.setCell ?_ ?_ _ | with_reducible refine Below.alloc ?_ ?_ _ | omega | (simp; done) | (simp; omega)))
  have hvc := fun W => cell_valid c W
  have hvr := fun W => cell_validRule k b W
  rw [hv] at hvc
  rw [(ruleB_iff k b).2 hr] at hvr
  go_enter Tryz.func104, Tryz.ntmps104
  go_wp2_with fail
  generalize (((w.alloc (.cells #[.int .i64 c.e, .int .i64 c.n, .int .i64 c.w, .int .i64 c.s] 49)).alloc (.cells #[.int .i64 k, .int .i64 b] 91)).alloc (.cells #[.int .i64 0, .int .i64 0, .int .i64 0, .int .i64 0] 49)) = W0 at X0 X1 X2 hB0 ⊢
  have z0 := X0.lt
  have z1 := X1.lt
  have z2 := X2.lt
  refine (hvc _).mono ?_
  rintro e w1 ⟨rfl, hb1⟩
  have hB := hB0
  clear hB0 z0 z1 z2
  replace X0 := X0.below hb1
  replace X1 := X1.below hb1
  replace X2 := X2.below hb1
  replace hB := bvia hB hb1
  clear hb1
  have X0_0 := X0.at_ 0 rfl
  have X0_1 := X0.at_ 1 rfl
  have X0_2 := X0.at_ 2 rfl
  have X0_3 := X0.at_ 3 rfl
  have X1_0 := X1.at_ 0 rfl
  have X1_1 := X1.at_ 1 rfl
  have X0z := X0.lt
  have X1z := X1.lt
  have X2z := X2.lt
  go_wp2_with fail
  refine (hvr _).mono ?_
  rintro e w2 ⟨rfl, hb2⟩
  clear X0_0 X0_1 X0_2 X0_3 X1_0 X1_1 X0z X1z X2z
  replace X0 := X0.below hb2
  replace X1 := X1.below hb2
  replace X2 := X2.below hb2
  replace hB := bvia hB hb2
  clear hb2
  have X0_0 := X0.at_ 0 rfl
  have X0_1 := X0.at_ 1 rfl
  have X0_2 := X0.at_ 2 rfl
  have X0_3 := X0.at_ 3 rfl
  have X1_0 := X1.at_ 0 rfl
  have X1_1 := X1.at_ 1 rfl
  have X0z := X0.lt
  have X1z := X1.lt
  have X2z := X2.lt
  go_wp2_with fail
  refine (hcol _).mono ?_
  rintro e w3 ⟨rfl, hb3⟩
  clear X0_0 X0_1 X0_2 X0_3 X1_0 X1_1 X0z X1z X2z
  replace X0 := X0.below hb3
  replace X1 := X1.below hb3
  replace X2 := X2.below hb3
  replace hB := bvia hB hb3
  clear hb3
  have X0_0 := X0.at_ 0 rfl
  have X0_1 := X0.at_ 1 rfl
  have X0_2 := X0.at_ 2 rfl
  have X0_3 := X0.at_ 3 rfl
  have X1_0 := X1.at_ 0 rfl
  have X1_1 := X1.at_ 1 rfl
  have X0z := X0.lt
  have X1z := X1.lt
  have X2z := X2.lt
  have X2_0 := X2.at_ 0 rfl
  have X2_1 := X2.at_ 1 rfl
  have X2_2 := X2.at_ 2 rfl
  have X2_3 := X2.at_ 3 rfl
  have X2f := X2.free
  go_wp2_with fail
  refine bodyPost_ret (v := .tuple #[.agg #[.int .i64 (d).e, .int .i64 (d).n, .int .i64 (d).w, .int .i64 (d).s], .int .i64 0]) (by simp [results, Tryz.results104, go_sem, X2_0, X2_1, X2_2, X2_3]) rfl ⟨rfl, by (repeat' (first | with_reducible assumption | with_reducible exact Below.refl _ _ | with_reducible refine Below.drew ?_ | with_reducible refine below_drewN ?_ _ | with_reducible refine balloc ?_ _ | with_reducible refine bset ?_ ?_ _ | with_reducible refine Below.setCell ?_ ?_ _ | with_reducible refine Below.alloc ?_ ?_ _ | omega | (simp; done) | (simp; omega)))⟩
end Go.Proofs.YteabkcbajpjkoaaGreat
/- Walks: a grid in new memory, streaming, of the reference. -/
namespace Go.Proofs.YteabkcbajpjkoaaGreat
open Go Go.RowKit
set_option linter.unusedVariables false
/-- a grid with a row of cells of its own -/
def GridRow (W H n : Nat) (g : Nat → C4) (w : World) (e : Ending) (w' : World) : Prop :=
  ∃ b cap, e = .returned (.agg #[.int .i64 (W : Int), .int .i64 (H : Int), .slice (some ⟨b, 0, none⟩) n cap]) ∧ w.heap.size ≤ b ∧ Ro w' b (n * 4) (flatC g) ∧ n ≤ cap ∧ Below w.heap.size w w'
theorem Sc.get {w : World} {a : Option Addr} {n k d : Nat} {g : Nat → C4} (h : Sc w a n g) (hk : k < n) (hd : d < 4) : ∃ b off, a = some ⟨b, off, none⟩ ∧ b < w.heap.size ∧ w.cell? ⟨b, off + k * 4 + d, none⟩ = some (.int .i64 ((g k).get d)) := by
  obtain ⟨b, off, e, hb, c0, c1, c2, c3⟩ := h k hk
  refine ⟨b, off, e, hb, ?_⟩
  rcases (by omega : d = 0 ∨ d = 1 ∨ d = 2 ∨ d = 3) with rfl | rfl | rfl | rfl
  · exact c0
  · exact c1
  · exact c2
  · exact c3
theorem flat_zero : flatC (fun _ => C4.zero) = fun _ => 0 := by
  funext k
  have hm : k % 4 < 4 := Nat.mod_lt _ (by omega)
  simp only [flatC, C4.zero]
  rcases (by omega : k % 4 = 0 ∨ k % 4 = 1 ∨ k % 4 = 2 ∨ k % 4 = 3) with h | h | h | h <;> simp [h, C4.get]
end Go.Proofs.YteabkcbajpjkoaaGreat
/- Walks: the reference's met, step and back of a grid in walls. Walks: the first error of a run, of the program and of the reference. Walks: the reference's Run, Undo, Step and Back of a grid in walls. -/
namespace Go.Proofs.YteabkcbajpjkoaaGreat
open Go Go.RowKit
set_option linter.unusedVariables false
/-- a run of m steps from t on is one -/
def timesB (t m : Int) : Bool := within t 0 1000000 && within m 0 1000 && (decide (m = 0) || decide (t + m - 1 ≤ 1000000))
theorem timesB_iff (t m : Int) : timesB t m = true ↔ (0 ≤ t ∧ t ≤ 1000000 ∧ 0 ≤ m ∧ m ≤ 1000 ∧ (m = 0 ∨ t + m - 1 ≤ 1000000)) := by
  simp only [timesB, Bool.and_eq_true, Bool.or_eq_true, within_iff, decide_eq_true_eq]
  constructor
  · rintro ⟨⟨⟨a, b⟩, c, d⟩, e⟩; exact ⟨a, b, c, d, e⟩
  · rintro ⟨a, b, c, d, e⟩; exact ⟨⟨⟨a, b⟩, c, d⟩, e⟩
def rnE (v r t : Bool) : Int := if v && r then (if t then 0 else 7) else 1
theorem timesB_no1 {t m : Int} (h : within t 0 1000000 = false) : timesB t m = false := by simp [timesB, h]
theorem timesB_no2 {t m : Int} (h : within m 0 1000 = false) : timesB t m = false := by simp [timesB, h]
end Go.Proofs.YteabkcbajpjkoaaGreat
namespace Go.Proofs.YteabkcbajpjkoaaGreat
open Go Go.RowKit
set_option linter.unusedVariables false
/-- the rule of a step -/
def rlAt (nr : Nat) (r : Nat → Int × Int) (s : Nat) : Int × Int := r (s % nr)
theorem rnE_zero {v u s : Bool} (h : rnE v u s = 0) : v = true ∧ u = true ∧ s = true := by
  cases v <;> cases u <;> cases s <;> simp [rnE] at h ⊢
end Go.Proofs.YteabkcbajpjkoaaGreat
