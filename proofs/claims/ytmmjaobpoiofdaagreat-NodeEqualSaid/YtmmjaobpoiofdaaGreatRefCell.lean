/- Walks: collisions of one cell, of the reference. -/
import Derived.Test.YtmmjaobpoiofdaaGreatCellStep2
import Derived.Test.YtmmjaobpoiofdaaGreatIter
namespace Go.Proofs.YtmmjaobpoiofdaaGreat
open Go Go.RowKit
set_option linter.unusedVariables false
/-- a number without its sign -/
def sz (n : Int) : Int := if n < 0 then -n else n
theorem ref1_size (n : Int) (w : World) (h0 : -1000000000 ≤ n) (h1 : n ≤ 1000000000) : Calls Tryz.prog 147 #[.int .i64 n] w fun e w' => e = .returned (.int .i64 (sz n)) ∧ w = w' := by
  go_enter Tryz.func147, Tryz.ntmps147
  by_cases h : n < 0
  · go_wp2
    go_ret
    exact ⟨ret_int (by rw [sz, if_pos (by omega)]), rfl⟩
  · go_wp2
    go_ret
    exact ⟨ret_int (by rw [sz, if_neg (by omega)]), rfl⟩
theorem ref1_least (a b : Int) (w : World) : Calls Tryz.prog 129 #[.int .i64 a, .int .i64 b] w fun e w' => e = .returned (.int .i64 (mn b a)) ∧ w = w' := by
  go_enter Tryz.func129, Tryz.ntmps129
  by_cases h : a < b
  · go_wp2
    go_ret
    exact ⟨ret_int (by rw [mn, if_pos (by omega)]), rfl⟩
  · go_wp2
    go_ret
    exact ⟨ret_int (by rw [mn, if_neg (by omega)]), rfl⟩
theorem mn_comm (a b : Int) : mn a b = mn b a := by unfold mn; split <;> split <;> omega
/-- how many pairs -/
def prs (c : C4) : Int := mn c.e c.w + mn c.n c.s
theorem prs_of {c : C4} (hv : validC c = true) : c.e + c.n + c.w + c.s - sz (c.e - c.w) - sz (c.n - c.s) = 2 * prs c ∧ 0 ≤ prs c ∧ prs c ≤ 1000000000 := by
  obtain ⟨a1, a2, a3, a4, a5, a6, a7, a8, a9, a10, a11⟩ := pairs_bd hv
  simp only [prs, sz, mn] at *
  split <;> split <;> split <;> split <;> simp_all <;> omega
set_option maxRecDepth 100000 in
set_option maxHeartbeats 2000000 in
theorem ref1_of (c : C4) (w : World) (hv : validC c = true) : Calls Tryz.prog 126 #[.agg #[.int .i64 c.e, .int .i64 c.n, .int .i64 c.w, .int .i64 c.s]] w fun e w' => e = .returned (.agg #[.int .i64 (c.e + c.n + c.w + c.s), .int .i64 (c.e - c.w), .int .i64 (c.n - c.s), .int .i64 (prs c)]) ∧ Below w.heap.size w w' := by
  obtain ⟨a1, a2, a3, a4, a5⟩ := (validC_iff _).1 hv
  obtain ⟨p1, p2, p3⟩ := prs_of hv
  have hs1 := fun W => ref1_size (c.e - c.w) W (by omega) (by omega)
  have hs2 := fun W => ref1_size (c.n - c.s) W (by omega) (by omega)
  have b1 : 0 ≤ sz (c.e - c.w) ∧ sz (c.e - c.w) ≤ 1000000000 := by unfold sz; split <;> omega
  have b2 : 0 ≤ sz (c.n - c.s) ∧ sz (c.n - c.s) ≤ 1000000000 := by unfold sz; split <;> omega
  generalize sz (c.e - c.w) = u at *
  generalize sz (c.n - c.s) = v at *
  generalize prs c = p at *
  have hd : (c.e + c.n + c.w + c.s - u - v).tdiv 2 = p := by rw [Int.tdiv_eq_ediv_of_nonneg (by omega)]; omega
  have hd2 : (c.e + c.n + c.w + c.s - u - v) / 2 = p := by omega
  have HD := hid hd; have HD2 := hid hd2
  clear hd hd2 hv
  have X0 := ((Bx.new w #[.int .i64 c.e, .int .i64 c.n, .int .i64 c.w, .int .i64 c.s] 80).alloc (.cells #[.int .i64 0, .int .i64 0, .int .i64 0, .int .i64 0] 164)).alloc (.cells #[.int .i64 (c.e + c.n + c.w + c.s), .int .i64 (c.e - c.w), .int .i64 (c.n - c.s), .int .i64 0] 164)
  have X1 := (Bx.new (w.alloc (.cells #[.int .i64 c.e, .int .i64 c.n, .int .i64 c.w, .int .i64 c.s] 80)) #[.int .i64 0, .int .i64 0, .int .i64 0, .int .i64 0] 164).alloc (.cells #[.int .i64 (c.e + c.n + c.w + c.s), .int .i64 (c.e - c.w), .int .i64 (c.n - c.s), .int .i64 0] 164)
  have X2 := Bx.new ((w.alloc (.cells #[.int .i64 c.e, .int .i64 c.n, .int .i64 c.w, .int .i64 c.s] 80)).alloc (.cells #[.int .i64 0, .int .i64 0, .int .i64 0, .int .i64 0] 164)) #[.int .i64 (c.e + c.n + c.w + c.s), .int .i64 (c.e - c.w), .int .i64 (c.n - c.s), .int .i64 0] 164
  simp only [World.size_alloc] at X1 X2
  have hB0 : Below w.heap.size w (((w.alloc (.cells #[.int .i64 c.e, .int .i64 c.n, .int .i64 c.w, .int .i64 c.s] 80)).alloc (.cells #[.int .i64 0, .int .i64 0, .int .i64 0, .int .i64 0] 164)).alloc (.cells #[.int .i64 (c.e + c.n + c.w + c.s), .int .i64 (c.e - c.w), .int .i64 (c.n - c.s), .int .i64 0] 164)) := by (repeat' (first | with_reducible assumption | with_reducible exact Below.refl _ _ | with_reducible refine Below.drew ?_ | with_reducible refine below_drewN ?_ _ | with_reducible refine balloc ?_ _ | with_reducible refine bset ?_ ?_ _ | with_reducible refine Below.setCell ?_ ?_ _ | with_reducible refine Below.alloc ?_ ?_ _ | omega | (simp; done) | (simp; omega)))
  go_enter Tryz.func126, Tryz.ntmps126
  go_upto_region 2 with (fail)
  generalize (((w.alloc (.cells #[.int .i64 c.e, .int .i64 c.n, .int .i64 c.w, .int .i64 c.s] 80)).alloc (.cells #[.int .i64 0, .int .i64 0, .int .i64 0, .int .i64 0] 164)).alloc (.cells #[.int .i64 (c.e + c.n + c.w + c.s), .int .i64 (c.e - c.w), .int .i64 (c.n - c.s), .int .i64 0] 164)) = W0 at X0 X1 X2 hB0 ⊢
  have z0 := X0.lt
  have z1 := X1.lt
  have z2 := X2.lt
  have hB := hB0
  have x0 := X2.at_ 0 rfl; have x1 := X2.at_ 1 rfl; have x2 := X2.at_ 2 rfl; have x3 := X2.at_ 3 rfl; have xf := X2.free
  have y0 := X1.at_ 0 rfl; have y1 := X1.at_ 1 rfl; have y2 := X1.at_ 2 rfl; have y3 := X1.at_ 3 rfl; have yf := X1.free
  refine wp_region_still_tail 12 (by kernel_rfl) (by kernel_rfl) ?_
  simp only [List.take_succ_cons, List.take_zero, List.drop_succ_cons, List.drop_zero]
  change wpStill _ _ W0.drew _ _ _
  repeat still_step
  refine wpStill_step (fun K hK => ?_)
  go_simp
  refine ⟨.int .i64 u, ?_, hK _ ?_⟩
  · exact (hs1 _).mono fun e w' h => ⟨h.1, h.2.symm⟩
  clear hK K
  repeat still_step
  refine wpStill_step (fun K hK => ?_)
  go_simp
  refine ⟨.int .i64 v, ?_, hK _ ?_⟩
  · exact (hs2 _).mono fun e w' h => ⟨h.1, h.2.symm⟩
  clear hK K
  repeat still_step
  refine wpStill_nil ?_
  change wpList _ _ _ _ _ W0.drew
  go_wp2
  refine bodyPost_ret (v := .agg #[.int .i64 (c.e + c.n + c.w + c.s), .int .i64 (c.e - c.w), .int .i64 (c.n - c.s), .int .i64 p]) (by simp [results, Tryz.results126, go_sem, y0, y1, y2, y3]) rfl ⟨rfl, by (repeat' (first | with_reducible assumption | with_reducible exact Below.refl _ _ | with_reducible refine Below.drew ?_ | with_reducible refine below_drewN ?_ _ | with_reducible refine balloc ?_ _ | with_reducible refine bset ?_ ?_ _ | with_reducible refine Below.setCell ?_ ?_ _ | with_reducible refine Below.alloc ?_ ?_ _ | omega | (simp; done) | (simp; omega)))⟩
set_option maxRecDepth 100000 in
set_option maxHeartbeats 2000000 in
theorem ref1_at (c : C4) (t : Int) (w : World) (hv : validC c = true) (h0 : 0 ≤ t) (h1 : t ≤ prs c) :
    Calls Tryz.prog 127 #[.agg #[.int .i64 (c.e + c.n + c.w + c.s), .int .i64 (c.e - c.w), .int .i64 (c.n - c.s), .int .i64 (prs c)], .int .i64 t] w fun e w' => e = .returned (.agg #[.int .i64 (plcC c t).e, .int .i64 (plcC c t).n, .int .i64 (plcC c t).w, .int .i64 (plcC c t).s]) ∧ Below w.heap.size w w' := by
  obtain ⟨a1, a2, a3, a4, a5⟩ := (validC_iff _).1 hv
  obtain ⟨p1, p2, p3⟩ := prs_of hv
  have hP : plcC c t = ⟨t + (if 0 < c.e - c.w then c.e - c.w else 0), prs c - t + (if 0 < c.n - c.s then c.n - c.s else 0), t - (if 0 < c.e - c.w then 0 else c.e - c.w), prs c - t - (if 0 < c.n - c.s then 0 else c.n - c.s)⟩ := by
    simp only [plcC, prs, mn, C4.mk.injEq]
    split <;> split <;> split <;> split <;> omega
  have HP := hid hP
  clear hP
  generalize hd : plcC c t = d at *
  clear hd
  generalize hm : c.e + c.n + c.w + c.s = m at *
  generalize hE : c.e - c.w = E at *
  generalize hN : c.n - c.s = N at *
  have e1 : -1000000000 ≤ E ∧ E ≤ 1000000000 := by omega
  have e2 : -1000000000 ≤ N ∧ N ≤ 1000000000 := by omega
  obtain ⟨e3, e4⟩ := e1; obtain ⟨e5, e6⟩ := e2
  clear hm hE hN p1 hv
  generalize prs c = p at *
  have X0 := ((Bx.new w #[.int .i64 m, .int .i64 E, .int .i64 N, .int .i64 p] 164).alloc (.cells #[.int .i64 0, .int .i64 0, .int .i64 0, .int .i64 0] 80)).alloc (.cells #[.int .i64 0, .int .i64 0, .int .i64 0, .int .i64 0] 80)
  have X1 := (Bx.new (w.alloc (.cells #[.int .i64 m, .int .i64 E, .int .i64 N, .int .i64 p] 164)) #[.int .i64 0, .int .i64 0, .int .i64 0, .int .i64 0] 80).alloc (.cells #[.int .i64 0, .int .i64 0, .int .i64 0, .int .i64 0] 80)
  have X2 := Bx.new ((w.alloc (.cells #[.int .i64 m, .int .i64 E, .int .i64 N, .int .i64 p] 164)).alloc (.cells #[.int .i64 0, .int .i64 0, .int .i64 0, .int .i64 0] 80)) #[.int .i64 0, .int .i64 0, .int .i64 0, .int .i64 0] 80
  simp only [World.size_alloc] at X1 X2
  have hB0 : Below w.heap.size w (((w.alloc (.cells #[.int .i64 m, .int .i64 E, .int .i64 N, .int .i64 p] 164)).alloc (.cells #[.int .i64 0, .int .i64 0, .int .i64 0, .int .i64 0] 80)).alloc (.cells #[.int .i64 0, .int .i64 0, .int .i64 0, .int .i64 0] 80)) := by (repeat' (first | with_reducible assumption | with_reducible exact Below.refl _ _ | with_reducible refine Below.drew ?_ | with_reducible refine below_drewN ?_ _ | with_reducible refine balloc ?_ _ | with_reducible refine bset ?_ ?_ _ | with_reducible refine Below.setCell ?_ ?_ _ | with_reducible refine Below.alloc ?_ ?_ _ | omega | (simp; done) | (simp; omega)))
  go_enter Tryz.func127, Tryz.ntmps127
  go_upto_region 2 with (fail)
  generalize (((w.alloc (.cells #[.int .i64 m, .int .i64 E, .int .i64 N, .int .i64 p] 164)).alloc (.cells #[.int .i64 0, .int .i64 0, .int .i64 0, .int .i64 0] 80)).alloc (.cells #[.int .i64 0, .int .i64 0, .int .i64 0, .int .i64 0] 80)) = W0 at X0 X1 X2 hB0 ⊢
  have z0 := X0.lt
  have z1 := X1.lt
  have z2 := X2.lt
  have x20 := X2.at_ 0 rfl; have x21 := X2.at_ 1 rfl; have x22 := X2.at_ 2 rfl; have x23 := X2.at_ 3 rfl; have x2f := X2.free
  go_upto_region 3 with (fail)
  have Y2 : Bx ((W0.setCell ⟨w.heap.size + 1 + 1, 0, none⟩ (.int .i64 t)).setCell ⟨w.heap.size + 1 + 1, 2, none⟩ (.int .i64 t)) (w.heap.size + 1 + 1) #[.int .i64 t, .int .i64 0, .int .i64 t, .int .i64 0] := (X2.set_ 0 (by simp) (.int .i64 t)).set_ 2 (by simp) (.int .i64 t)
  have Y0 := (X0.far (p := ⟨w.heap.size + 1 + 1, 0, none⟩) (by simp; omega) (.int .i64 t)).far (p := ⟨w.heap.size + 1 + 1, 2, none⟩) (by simp; omega) (.int .i64 t)
  have Y1 := (X1.far (p := ⟨w.heap.size + 1 + 1, 0, none⟩) (by simp) (.int .i64 t)).far (p := ⟨w.heap.size + 1 + 1, 2, none⟩) (by simp) (.int .i64 t)
  have hB1 : Below w.heap.size w ((W0.setCell ⟨w.heap.size + 1 + 1, 0, none⟩ (.int .i64 t)).setCell ⟨w.heap.size + 1 + 1, 2, none⟩ (.int .i64 t)) := by have hB := hB0; (repeat' (first | with_reducible assumption | with_reducible exact Below.refl _ _ | with_reducible refine Below.drew ?_ | with_reducible refine below_drewN ?_ _ | with_reducible refine balloc ?_ _ | with_reducible refine bset ?_ ?_ _ | with_reducible refine Below.setCell ?_ ?_ _ | with_reducible refine Below.alloc ?_ ?_ _ | omega | (simp; done) | (simp; omega)))
  clear x20 x21 x22 x23 x2f X0 X1 X2 hB0
  generalize (W0.setCell ⟨w.heap.size + 1 + 1, 0, none⟩ (.int .i64 t)).setCell ⟨w.heap.size + 1 + 1, 2, none⟩ (.int .i64 t) = W1 at *
  have y20 := Y2.at_ 0 rfl; have y21 := Y2.at_ 1 rfl; have y22 := Y2.at_ 2 rfl; have y23 := Y2.at_ 3 rfl; have y2f := Y2.free
  have r3 : ∀ W, Below (w.heap.size + 1 + 1) W1 W → W.cell? ⟨w.heap.size, 3, none⟩ = some (.int .i64 p) := fun W h => (bcell h _ _ (by omega)).trans (Y0.at_ 3 rfl)
  have hwp := IntWalk.i64_in (p - t) (by omega)
  go_region_held3 (fun W => Below (w.heap.size + 1 + 1) W1 W) ((repeat' (first | with_reducible assumption | with_reducible exact Below.refl _ _ | with_reducible refine Below.drew ?_ | with_reducible refine below_drewN ?_ _ | with_reducible refine balloc ?_ _ | with_reducible refine bset ?_ ?_ _ | with_reducible refine Below.setCell ?_ ?_ _ | with_reducible refine Below.alloc ?_ ?_ _ | omega | (simp; done) | (simp; omega)))) (fail)
  all_goals
    clear hwp
    have Z2 : Bx ((W1.setCell ⟨w.heap.size + 1 + 1, 1, none⟩ (.int .i64 (p - t))).setCell ⟨w.heap.size + 1 + 1, 3, none⟩ (.int .i64 (p - t))).drew (w.heap.size + 1 + 1) #[.int .i64 t, .int .i64 (p - t), .int .i64 t, .int .i64 (p - t)] := ((Y2.set_ 1 (by simp) (.int .i64 (p - t))).set_ 3 (by simp) (.int .i64 (p - t))).drew
    have Z0 := ((Y0.far (p := ⟨w.heap.size + 1 + 1, 1, none⟩) (by simp; omega) (.int .i64 (p - t))).far (p := ⟨w.heap.size + 1 + 1, 3, none⟩) (by simp; omega) (.int .i64 (p - t))).drew
    have Z1 := ((Y1.far (p := ⟨w.heap.size + 1 + 1, 1, none⟩) (by simp) (.int .i64 (p - t))).far (p := ⟨w.heap.size + 1 + 1, 3, none⟩) (by simp) (.int .i64 (p - t))).drew
    have hB2 : Below w.heap.size w ((W1.setCell ⟨w.heap.size + 1 + 1, 1, none⟩ (.int .i64 (p - t))).setCell ⟨w.heap.size + 1 + 1, 3, none⟩ (.int .i64 (p - t))).drew := by have hB := hB1; (repeat' (first | with_reducible assumption | with_reducible exact Below.refl _ _ | with_reducible refine Below.drew ?_ | with_reducible refine below_drewN ?_ _ | with_reducible refine balloc ?_ _ | with_reducible refine bset ?_ ?_ _ | with_reducible refine Below.setCell ?_ ?_ _ | with_reducible refine Below.alloc ?_ ?_ _ | omega | (simp; done) | (simp; omega)))
    clear y20 y21 y22 y23 y2f r3 Y0 Y1 Y2 hB1
    generalize ((W1.setCell ⟨w.heap.size + 1 + 1, 1, none⟩ (.int .i64 (p - t))).setCell ⟨w.heap.size + 1 + 1, 3, none⟩ (.int .i64 (p - t))).drew = W2 at *
    have y10 := Z1.at_ 0 rfl; have y11 := Z1.at_ 1 rfl; have y12 := Z1.at_ 2 rfl; have y13 := Z1.at_ 3 rfl; have y1f := Z1.free
    have y01 := Z0.at_ 1 rfl; have y02 := Z0.at_ 2 rfl
    have y20 := Z2.at_ 0 rfl; have y21 := Z2.at_ 1 rfl; have y22 := Z2.at_ 2 rfl; have y23 := Z2.at_ 3 rfl; have y2f := Z2.free
    by_cases hE : 0 < E
    · by_cases hN : 0 < N
      · go_wp2_with fail
        refine bodyPost_ret (v := .agg #[.int .i64 (t + E), .int .i64 (p - t + N), .int .i64 t, .int .i64 (p - t)]) (by simp [results, Tryz.results127, go_sem, y10, y11, y12, y13]) rfl ⟨?_, by (repeat' (first | with_reducible assumption | with_reducible exact Below.refl _ _ | with_reducible refine Below.drew ?_ | with_reducible refine below_drewN ?_ _ | with_reducible refine balloc ?_ _ | with_reducible refine bset ?_ ?_ _ | with_reducible refine Below.setCell ?_ ?_ _ | with_reducible refine Below.alloc ?_ ?_ _ | omega | (simp; done) | (simp; omega)))⟩
        rw [HP.out, if_pos hE, if_pos hN, if_pos hE, if_pos hN]; simp
      · go_wp2_with fail
        refine bodyPost_ret (v := .agg #[.int .i64 (t + E), .int .i64 (p - t), .int .i64 t, .int .i64 (p - t - N)]) (by simp [results, Tryz.results127, go_sem, y10, y11, y12, y13]) rfl ⟨?_, by (repeat' (first | with_reducible assumption | with_reducible exact Below.refl _ _ | with_reducible refine Below.drew ?_ | with_reducible refine below_drewN ?_ _ | with_reducible refine balloc ?_ _ | with_reducible refine bset ?_ ?_ _ | with_reducible refine Below.setCell ?_ ?_ _ | with_reducible refine Below.alloc ?_ ?_ _ | omega | (simp; done) | (simp; omega)))⟩
        rw [HP.out, if_pos hE, if_neg (by omega), if_pos hE, if_neg (by omega)]; simp
    · by_cases hN : 0 < N
      · go_wp2_with fail
        refine bodyPost_ret (v := .agg #[.int .i64 t, .int .i64 (p - t + N), .int .i64 (t - E), .int .i64 (p - t)]) (by simp [results, Tryz.results127, go_sem, y10, y11, y12, y13]) rfl ⟨?_, by (repeat' (first | with_reducible assumption | with_reducible exact Below.refl _ _ | with_reducible refine Below.drew ?_ | with_reducible refine below_drewN ?_ _ | with_reducible refine balloc ?_ _ | with_reducible refine bset ?_ ?_ _ | with_reducible refine Below.setCell ?_ ?_ _ | with_reducible refine Below.alloc ?_ ?_ _ | omega | (simp; done) | (simp; omega)))⟩
        rw [HP.out, if_neg (by omega), if_pos hN, if_neg (by omega), if_pos hN]; simp
      · go_wp2_with fail
        refine bodyPost_ret (v := .agg #[.int .i64 t, .int .i64 (p - t), .int .i64 (t - E), .int .i64 (p - t - N)]) (by simp [results, Tryz.results127, go_sem, y10, y11, y12, y13]) rfl ⟨?_, by (repeat' (first | with_reducible assumption | with_reducible exact Below.refl _ _ | with_reducible refine Below.drew ?_ | with_reducible refine below_drewN ?_ _ | with_reducible refine balloc ?_ _ | with_reducible refine bset ?_ ?_ _ | with_reducible refine Below.setCell ?_ ?_ _ | with_reducible refine Below.alloc ?_ ?_ _ | omega | (simp; done) | (simp; omega)))⟩
        rw [HP.out, if_neg (by omega), if_neg (by omega), if_neg (by omega), if_neg (by omega)]; simp
theorem ref1_modulo (a b : Int) (w : World) (h0 : -2000000000 ≤ a) (h1 : a ≤ 2000000000) (h2 : 0 < b) (h3 : b ≤ 2000000000) : Calls Tryz.prog 148 #[.int .i64 a, .int .i64 b] w fun e w' => e = .returned (.int .i64 (a % b)) ∧ w = w' := by
  obtain ⟨t1, t2, t3, t4⟩ := tmod_sign (a := a) h2
  have hp0 : ¬ b = 0 := by omega
  by_cases hn : a.tmod b < 0
  · have t5 := hid (t2 hn)
    clear t1 t2
    go_enter Tryz.func148, Tryz.ntmps148
    go_wp2
    all_goals
      go_ret
      exact ⟨ret_int (by rw [t5.out]), rfl⟩
  · have t5 := hid (t1 (by omega))
    clear t1 t2
    go_enter Tryz.func148, Tryz.ntmps148
    go_wp2
    all_goals
      go_ret
      exact ⟨ret_int t5.out.symm, rfl⟩
theorem ref1_turn (k b h p : Int) (w : World) (hr : ruleOk k b) (h0 : 0 ≤ h) (h1 : h ≤ p) (h2 : p ≤ 1000000000) : Calls Tryz.prog 128 #[.agg #[.int .i64 k, .int .i64 b], .int .i64 h, .int .i64 p] w fun e w' => e = .returned (.int .i64 (turnI k b h p)) ∧ Below w.heap.size w w' := by
  rcases hr with ⟨rfl | rfl, rfl⟩ | ⟨rfl, b0, b1⟩
  · go_enter Tryz.func128, Tryz.ntmps128
    go_wp2
    go_ret
    exact ⟨rfl, by (repeat' (first | with_reducible assumption | with_reducible exact Below.refl _ _ | with_reducible refine Below.drew ?_ | with_reducible refine below_drewN ?_ _ | with_reducible refine balloc ?_ _ | with_reducible refine bset ?_ ?_ _ | with_reducible refine Below.setCell ?_ ?_ _ | with_reducible refine Below.alloc ?_ ?_ _ | omega | (simp; done) | (simp; omega)))⟩
  · go_enter Tryz.func128, Tryz.ntmps128
    go_wp2
    go_ret
    exact ⟨rfl, by (repeat' (first | with_reducible assumption | with_reducible exact Below.refl _ _ | with_reducible refine Below.drew ?_ | with_reducible refine below_drewN ?_ _ | with_reducible refine balloc ?_ _ | with_reducible refine bset ?_ ?_ _ | with_reducible refine Below.setCell ?_ ?_ _ | with_reducible refine Below.alloc ?_ ?_ _ | omega | (simp; done) | (simp; omega)))⟩
  · have hT : turnI 2 b h p = (h + b) % (p + 1) := rfl
    rw [hT]
    clear hT
    go_enter Tryz.func128, Tryz.ntmps128
    go_wp2_with (go_at_call 148; refine (ref1_modulo _ _ _ (by omega) (by omega) (by omega) (by omega)).mono ?_; rintro e w' ⟨rfl, rfl⟩)
    go_ret
    exact ⟨rfl, by (repeat' (first | with_reducible assumption | with_reducible exact Below.refl _ _ | with_reducible refine Below.drew ?_ | with_reducible refine below_drewN ?_ _ | with_reducible refine balloc ?_ _ | with_reducible refine bset ?_ ?_ _ | with_reducible refine Below.setCell ?_ ?_ _ | with_reducible refine Below.alloc ?_ ?_ _ | omega | (simp; done) | (simp; omega)))⟩
theorem ref1_rule (a : Option Addr) (n c t : Nat) (r : Nat → Int × Int) (w : World) (hn : 0 < n) (hn2 : n ≤ 8) (ht : t ≤ 1000000) (H : Sr w a n r) : Calls Tryz.prog 87 #[.slice a n c, .int .i64 (t : Int)] w fun e w' => e = .returned (.agg #[.int .i64 (r (t % n)).1, .int .i64 (r (t % n)).2]) ∧ Below w.heap.size w w' := by
  have hlt : t % n < n := Nat.mod_lt _ hn
  obtain ⟨b, off, rfl, hb, c0, c1⟩ := H (t % n) hlt
  have hm : ((t : Int)).tmod (n : Int) = ((t % n : Nat) : Int) := by rw [Int.tmod_eq_emod_of_nonneg (by omega)]; simp
  generalize t % n = j at *
  have hn0 : ¬ (n : Int) = 0 := by omega
  go_enter Tryz.func87, Tryz.ntmps87
  go_wp2
  refine bodyPost_ret (v := .agg #[.int .i64 (r j).1, .int .i64 (r j).2]) (by simp [results, Tryz.results87, go_sem]) rfl ⟨rfl, by (repeat' (first | with_reducible assumption | with_reducible exact Below.refl _ _ | with_reducible refine Below.drew ?_ | with_reducible refine below_drewN ?_ _ | with_reducible refine balloc ?_ _ | with_reducible refine bset ?_ ?_ _ | with_reducible refine Below.setCell ?_ ?_ _ | with_reducible refine Below.alloc ?_ ?_ _ | omega | (simp; done) | (simp; omega)))⟩
set_option maxRecDepth 100000 in
set_option maxHeartbeats 2000000 in
theorem ref1_after (c : C4) (k b : Int) (w : World) (hv : validC c = true) (hr : ruleOk k b) : Calls Tryz.prog 86 #[.agg #[.int .i64 c.e, .int .i64 c.n, .int .i64 c.w, .int .i64 c.s], .agg #[.int .i64 k, .int .i64 b]] w fun e w' => e = .returned (.agg #[.int .i64 (coll k b c).e, .int .i64 (coll k b c).n, .int .i64 (coll k b c).w, .int .i64 (coll k b c).s]) ∧ Below w.heap.size w w' := by
  obtain ⟨a1, a2, a3, a4, a5, a6, a7, a8, a9, a10, a11⟩ := pairs_bd hv
  obtain ⟨p1, p2, p3⟩ := prs_of hv
  obtain ⟨t1, t2⟩ := turnI_range (k := k) (b := b) a6 (show mn c.e c.w ≤ prs c by unfold prs; omega)
  have hof := fun W => ref1_of c W hv
  have hle := fun W => ref1_least c.e c.w W
  rw [mn_comm] at hle
  have hturn := fun W => ref1_turn k b (mn c.e c.w) (prs c) W hr a6 (by unfold prs; omega) p3
  have hat := fun W => ref1_at c (turnI k b (mn c.e c.w) (prs c)) W hv t1 t2
  have hC : plcC c (turnI k b (mn c.e c.w) (prs c)) = coll k b c := rfl
  rw [hC] at hat
  generalize turnI k b (mn c.e c.w) (prs c) = t at *
  generalize coll k b c = d at *
  generalize mn c.e c.w = h at *
  generalize prs c = p at *
  clear hC hr hv p1 a5
  generalize c.e + c.n + c.w + c.s = m at *
  generalize c.e - c.w = E at *
  generalize c.n - c.s = N at *
  have X0 := ((Bx.new w #[.int .i64 c.e, .int .i64 c.n, .int .i64 c.w, .int .i64 c.s] 80).alloc (.cells #[.int .i64 k, .int .i64 b] 116)).alloc (.cells #[.int .i64 0, .int .i64 0, .int .i64 0, .int .i64 0] 80)
  have X1 := (Bx.new (w.alloc (.cells #[.int .i64 c.e, .int .i64 c.n, .int .i64 c.w, .int .i64 c.s] 80)) #[.int .i64 k, .int .i64 b] 116).alloc (.cells #[.int .i64 0, .int .i64 0, .int .i64 0, .int .i64 0] 80)
  have X2 := Bx.new ((w.alloc (.cells #[.int .i64 c.e, .int .i64 c.n, .int .i64 c.w, .int .i64 c.s] 80)).alloc (.cells #[.int .i64 k, .int .i64 b] 116)) #[.int .i64 0, .int .i64 0, .int .i64 0, .int .i64 0] 80
  simp only [World.size_alloc] at X1 X2
  have hB0 : Below w.heap.size w (((w.alloc (.cells #[.int .i64 c.e, .int .i64 c.n, .int .i64 c.w, .int .i64 c.s] 80)).alloc (.cells #[.int .i64 k, .int .i64 b] 116)).alloc (.cells #[.int .i64 0, .int .i64 0, .int .i64 0, .int .i64 0] 80)) := by (repeat' (first | with_reducible assumption | with_reducible exact Below.refl _ _ | with_reducible refine Below.drew ?_ | with_reducible refine below_drewN ?_ _ | with_reducible refine balloc ?_ _ | with_reducible refine bset ?_ ?_ _ | with_reducible refine Below.setCell ?_ ?_ _ | with_reducible refine Below.alloc ?_ ?_ _ | omega | (simp; done) | (simp; omega)))
  go_enter Tryz.func86, Tryz.ntmps86
  go_wp2_with fail
  generalize (((w.alloc (.cells #[.int .i64 c.e, .int .i64 c.n, .int .i64 c.w, .int .i64 c.s] 80)).alloc (.cells #[.int .i64 k, .int .i64 b] 116)).alloc (.cells #[.int .i64 0, .int .i64 0, .int .i64 0, .int .i64 0] 80)) = W0 at X0 X1 X2 hB0 ⊢
  have z0 := X0.lt
  have z1 := X1.lt
  have z2 := X2.lt
  refine (hof _).mono ?_
  rintro e w1 ⟨rfl, hb1⟩
  have hB := hB0
  clear hB0
  replace X0 := X0.below hb1
  replace X1 := X1.below hb1
  replace X2 := X2.below hb1
  replace hB := bvia hB hb1
  clear hb1
  have hz1 := X2.lt
  replace X0 := X0.alloc (.cells #[.int .i64 m, .int .i64 E, .int .i64 N, .int .i64 p] 164)
  replace X1 := X1.alloc (.cells #[.int .i64 m, .int .i64 E, .int .i64 N, .int .i64 p] 164)
  replace X2 := X2.alloc (.cells #[.int .i64 m, .int .i64 E, .int .i64 N, .int .i64 p] 164)
  have X3 := Bx.new w1 #[.int .i64 m, .int .i64 E, .int .i64 N, .int .i64 p] 164
  replace hB := balloc hB (.cells #[.int .i64 m, .int .i64 E, .int .i64 N, .int .i64 p] 164)
  go_upto_region 2 with (fail)
  generalize w1.alloc (.cells #[.int .i64 m, .int .i64 E, .int .i64 N, .int .i64 p] 164) = W1 at *
  have r0 : ∀ W, But (fun b => b = w.heap.size + 1 + 1) W1 W → W.cell? ⟨w.heap.size, 0, none⟩ = some (.int .i64 c.e) := fun W h => (X0.but h (by omega)).at_ 0 rfl
  have r2 : ∀ W, But (fun b => b = w.heap.size + 1 + 1) W1 W → W.cell? ⟨w.heap.size, 2, none⟩ = some (.int .i64 c.w) := fun W h => (X0.but h (by omega)).at_ 2 rfl
  have r4 : ∀ W, But (fun b => b = w.heap.size + 1 + 1) W1 W → W.cell? ⟨w.heap.size + 1, 0, none⟩ = some (.int .i64 k) := fun W h => (X1.but h (by omega)).at_ 0 rfl
  have r5 : ∀ W, But (fun b => b = w.heap.size + 1 + 1) W1 W → W.cell? ⟨w.heap.size + 1, 1, none⟩ = some (.int .i64 b) := fun W h => (X1.but h (by omega)).at_ 1 rfl
  have s0 : ∀ W, But (fun b => b = w.heap.size + 1 + 1) W1 W → W.cell? ⟨w1.heap.size, 0, none⟩ = some (.int .i64 m) := fun W h => (X3.but h (by omega)).at_ 0 rfl
  have s1 : ∀ W, But (fun b => b = w.heap.size + 1 + 1) W1 W → W.cell? ⟨w1.heap.size, 1, none⟩ = some (.int .i64 E) := fun W h => (X3.but h (by omega)).at_ 1 rfl
  have s2 : ∀ W, But (fun b => b = w.heap.size + 1 + 1) W1 W → W.cell? ⟨w1.heap.size, 2, none⟩ = some (.int .i64 N) := fun W h => (X3.but h (by omega)).at_ 2 rfl
  have s3 : ∀ W, But (fun b => b = w.heap.size + 1 + 1) W1 W → W.cell? ⟨w1.heap.size, 3, none⟩ = some (.int .i64 p) := fun W h => (X3.but h (by omega)).at_ 3 rfl
  have q0 : ∀ W, Below W1.heap.size W1 W → W.cell? ⟨w.heap.size + 1 + 1, 0, none⟩ = some (.int .i64 0) := fun W h => (X2.below h).at_ 0 rfl
  have q1 : ∀ W, Below W1.heap.size W1 W → W.cell? ⟨w.heap.size + 1 + 1, 1, none⟩ = some (.int .i64 0) := fun W h => (X2.below h).at_ 1 rfl
  have q2 : ∀ W, Below W1.heap.size W1 W → W.cell? ⟨w.heap.size + 1 + 1, 2, none⟩ = some (.int .i64 0) := fun W h => (X2.below h).at_ 2 rfl
  have q3 : ∀ W, Below W1.heap.size W1 W → W.cell? ⟨w.heap.size + 1 + 1, 3, none⟩ = some (.int .i64 0) := fun W h => (X2.below h).at_ 3 rfl
  have qf : ∀ W, Below W1.heap.size W1 W → ∀ i, W.frozen? ⟨w.heap.size + 1 + 1, i, none⟩ = false := fun W h => (X2.below h).free
  go_region_held3 (fun W => But (fun b => b = w.heap.size + 1 + 1) W1 W) ((repeat' (first | with_reducible assumption | with_reducible exact But.refl _ _ | with_reducible refine But.drew ?_ | with_reducible refine But.drewN ?_ _ | refine But.set_ ?_ (by dsimp only) _ | with_reducible refine But.alloc ?_ _)))
    ((first
      | (go_at_call 129; refine (hle _).mono ?_; rintro e w' ⟨rfl, rfl⟩)
      | (go_at_call 128; refine (hturn _).mono ?_; rintro e w2 ⟨rfl, hb2⟩; have hB2 : Below W1.heap.size W1 w2 := bvia (by (repeat' (first | with_reducible assumption | with_reducible exact Below.refl _ _ | with_reducible refine Below.drew ?_ | with_reducible refine below_drewN ?_ _ | with_reducible refine balloc ?_ _ | with_reducible refine bset ?_ ?_ _ | with_reducible refine Below.setCell ?_ ?_ _ | with_reducible refine Below.alloc ?_ ?_ _ | omega | (simp; done) | (simp; omega)))) hb2; have hC2 : But (fun b => b = w.heap.size + 1 + 1) W1 w2 := but_below hB2 (Nat.le_refl _))
      | (go_at_call 127; refine (hat _).mono ?_; rintro e w3 ⟨rfl, hb3⟩; have hB3 : Below W1.heap.size W1 w3 := bvia (by (repeat' (first | with_reducible assumption | with_reducible exact Below.refl _ _ | with_reducible refine Below.drew ?_ | with_reducible refine below_drewN ?_ _ | with_reducible refine balloc ?_ _ | with_reducible refine bset ?_ ?_ _ | with_reducible refine Below.setCell ?_ ?_ _ | with_reducible refine Below.alloc ?_ ?_ _ | omega | (simp; done) | (simp; omega)))) hb3; have hC3 : But (fun b => b = w.heap.size + 1 + 1) W1 w3 := but_below hB3 (Nat.le_refl _))
      | fail))
  all_goals
    have y0 := q0 w3 hB3; have y1 := q1 w3 hB3; have y2 := q2 w3 hB3; have y3 := q3 w3 hB3; have yf := qf w3 hB3
    have hBw := bvia hB hB3
    go_wp2_with fail
    refine bodyPost_ret (v := .agg #[.int .i64 (d).e, .int .i64 (d).n, .int .i64 (d).w, .int .i64 (d).s]) (by simp [results, Tryz.results86, go_sem, y0, y1, y2, y3]) rfl ⟨rfl, by (repeat' (first | with_reducible assumption | with_reducible exact Below.refl _ _ | with_reducible refine Below.drew ?_ | with_reducible refine below_drewN ?_ _ | with_reducible refine balloc ?_ _ | with_reducible refine bset ?_ ?_ _ | with_reducible refine Below.setCell ?_ ?_ _ | with_reducible refine Below.alloc ?_ ?_ _ | omega | (simp; done) | (simp; omega)))⟩
end Go.Proofs.YtmmjaobpoiofdaaGreat
