/- Walk: the reference's From: from which place particles come. -/
import Derived.Test.YtmmjaobpoiofdaaGreatTorus
namespace Go.Proofs.YtmmjaobpoiofdaaGreat
open Go.RowKit
set_option linter.unusedVariables false
set_option maxRecDepth 100000 in
set_option maxHeartbeats 2000000 in
theorem ref2_From (Wd Hd i d : Nat) (w : World) (h1 : 1 ≤ Wd ∧ Wd ≤ 64) (h2 : 1 ≤ Hd ∧ Hd ≤ 64) (hi : i < Wd * Hd) (hd : d < 4) :
    Calls Tryz.prog 88 #[.int .i64 (Wd : Int), .int .i64 (Hd : Int), .int .i64 (i : Int), .int .i64 (d : Int)] w fun e w' => e = .returned (.int .i64 (nbT Wd Hd i d : Int)) ∧ Below w.heap.size w w' := by
  obtain ⟨v1, v2⟩ := h1
  obtain ⟨u1, u2⟩ := h2
  obtain ⟨hx, hy⟩ := row_lt hi
  have hii : i < 4096 := by
    have : Wd * Hd ≤ 64 * 64 := Nat.mul_le_mul v2 u2
    omega
  have hw0 : ¬ (Wd : Int) = 0 := by omega
  have hh0 : ¬ (Hd : Int) = 0 := by omega
  have ht : (i : Int).tmod (Wd : Int) = (i : Int) % (Wd : Int) := Int.tmod_eq_emod_of_nonneg (by omega)
  have hdv : (i : Int).tdiv (Wd : Int) = (i : Int) / (Wd : Int) := Int.tdiv_eq_ediv_of_nonneg (by omega)
  have hN := nbT_int (i := i) hd (show 0 < Wd by omega) (show 0 < Hd by omega)
  have x0 : 0 ≤ (i : Int) % (Wd : Int) := Int.emod_nonneg _ hw0
  have x1 : (i : Int) % (Wd : Int) < Wd := Int.emod_lt_of_pos _ (by omega)
  have y0 : 0 ≤ (i : Int) / (Wd : Int) := Int.ediv_nonneg (by omega) (by omega)
  have y1 : (i : Int) / (Wd : Int) < Hd := by
    have h := hy
    have e : ((i / Wd : Nat) : Int) = (i : Int) / (Wd : Int) := by simp
    omega
  have hwr : wrap64 ((i : Int) / (Wd : Int)) = (i : Int) / (Wd : Int) := by unfold wrap64; omega
  generalize (i : Int) % (Wd : Int) = x at *
  generalize (i : Int) / (Wd : Int) = y at *
  have HN := hid hN; clear hN
  clear hx hy
  rcases (by omega : d = 0 ∨ d = 1 ∨ d = 2 ∨ d = 3) with rfl | rfl | rfl | rfl
  · skip
    have tX : (x + (Wd : Int) - 1).tmod (Wd : Int) = (x + (Wd : Int) - 1) % (Wd : Int) := Int.tmod_eq_emod_of_nonneg (by omega)
    have tY : (y).tmod (Hd : Int) = (y) % (Hd : Int) := Int.tmod_eq_emod_of_nonneg (by omega)
    have a0 : 0 ≤ (x + (Wd : Int) - 1) % (Wd : Int) := Int.emod_nonneg _ hw0
    have a1 : (x + (Wd : Int) - 1) % (Wd : Int) < Wd := Int.emod_lt_of_pos _ (by omega)
    have b0 : 0 ≤ (y) % (Hd : Int) := Int.emod_nonneg _ hh0
    have b1 : (y) % (Hd : Int) < Hd := Int.emod_lt_of_pos _ (by omega)
    have hN := HN.out
    simp only at hN
    generalize hP : (x + (Wd : Int) - 1) % (Wd : Int) = px at tX a0 a1 hN
    generalize hQ : (y) % (Hd : Int) = py at tY b0 b1 hN
    have m0 : 0 ≤ py * (Wd : Int) := Int.mul_nonneg b0 (by omega)
    have m1 : py * (Wd : Int) ≤ 64 * 64 := Int.mul_le_mul (by omega) (by omega) (by omega) (by omega)
    have HN2 := hid hN
    have HP := hid hP; have HQ := hid hQ
    clear hN HN hP hQ
    go_enter Tryz.func88, Tryz.ntmps88
    go_wp2
    go_quiet (fail)
    go_wp2
    go_quiet (fail)
    go_wp2
    go_ret
    rw [HN2.out]
    exact ⟨rfl, by (repeat' (first | with_reducible assumption | with_reducible exact Below.refl _ _ | with_reducible refine Below.drew ?_ | with_reducible refine below_drewN ?_ _ | with_reducible refine balloc ?_ _ | with_reducible refine bset ?_ ?_ _ | with_reducible refine Below.setCell ?_ ?_ _ | with_reducible refine Below.alloc ?_ ?_ _ | omega | (simp; done) | (simp; omega)))⟩
  · skip
    have tX : (x).tmod (Wd : Int) = (x) % (Wd : Int) := Int.tmod_eq_emod_of_nonneg (by omega)
    have tY : (y + (Hd : Int) - 1).tmod (Hd : Int) = (y + (Hd : Int) - 1) % (Hd : Int) := Int.tmod_eq_emod_of_nonneg (by omega)
    have a0 : 0 ≤ (x) % (Wd : Int) := Int.emod_nonneg _ hw0
    have a1 : (x) % (Wd : Int) < Wd := Int.emod_lt_of_pos _ (by omega)
    have b0 : 0 ≤ (y + (Hd : Int) - 1) % (Hd : Int) := Int.emod_nonneg _ hh0
    have b1 : (y + (Hd : Int) - 1) % (Hd : Int) < Hd := Int.emod_lt_of_pos _ (by omega)
    have hN := HN.out
    simp only at hN
    generalize hP : (x) % (Wd : Int) = px at tX a0 a1 hN
    generalize hQ : (y + (Hd : Int) - 1) % (Hd : Int) = py at tY b0 b1 hN
    have m0 : 0 ≤ py * (Wd : Int) := Int.mul_nonneg b0 (by omega)
    have m1 : py * (Wd : Int) ≤ 64 * 64 := Int.mul_le_mul (by omega) (by omega) (by omega) (by omega)
    have HN2 := hid hN
    have HP := hid hP; have HQ := hid hQ
    clear hN HN hP hQ
    go_enter Tryz.func88, Tryz.ntmps88
    go_wp2
    go_quiet (fail)
    go_wp2
    go_quiet (fail)
    go_wp2
    go_ret
    rw [HN2.out]
    exact ⟨rfl, by (repeat' (first | with_reducible assumption | with_reducible exact Below.refl _ _ | with_reducible refine Below.drew ?_ | with_reducible refine below_drewN ?_ _ | with_reducible refine balloc ?_ _ | with_reducible refine bset ?_ ?_ _ | with_reducible refine Below.setCell ?_ ?_ _ | with_reducible refine Below.alloc ?_ ?_ _ | omega | (simp; done) | (simp; omega)))⟩
  · skip
    have tX : (x + 1).tmod (Wd : Int) = (x + 1) % (Wd : Int) := Int.tmod_eq_emod_of_nonneg (by omega)
    have tY : (y).tmod (Hd : Int) = (y) % (Hd : Int) := Int.tmod_eq_emod_of_nonneg (by omega)
    have a0 : 0 ≤ (x + 1) % (Wd : Int) := Int.emod_nonneg _ hw0
    have a1 : (x + 1) % (Wd : Int) < Wd := Int.emod_lt_of_pos _ (by omega)
    have b0 : 0 ≤ (y) % (Hd : Int) := Int.emod_nonneg _ hh0
    have b1 : (y) % (Hd : Int) < Hd := Int.emod_lt_of_pos _ (by omega)
    have hN := HN.out
    simp only at hN
    generalize hP : (x + 1) % (Wd : Int) = px at tX a0 a1 hN
    generalize hQ : (y) % (Hd : Int) = py at tY b0 b1 hN
    have m0 : 0 ≤ py * (Wd : Int) := Int.mul_nonneg b0 (by omega)
    have m1 : py * (Wd : Int) ≤ 64 * 64 := Int.mul_le_mul (by omega) (by omega) (by omega) (by omega)
    have HN2 := hid hN
    have HP := hid hP; have HQ := hid hQ
    clear hN HN hP hQ
    go_enter Tryz.func88, Tryz.ntmps88
    go_wp2
    go_quiet (fail)
    go_wp2
    go_quiet (fail)
    go_wp2
    go_ret
    rw [HN2.out]
    exact ⟨rfl, by (repeat' (first | with_reducible assumption | with_reducible exact Below.refl _ _ | with_reducible refine Below.drew ?_ | with_reducible refine below_drewN ?_ _ | with_reducible refine balloc ?_ _ | with_reducible refine bset ?_ ?_ _ | with_reducible refine Below.setCell ?_ ?_ _ | with_reducible refine Below.alloc ?_ ?_ _ | omega | (simp; done) | (simp; omega)))⟩
  · skip
    have tX : (x).tmod (Wd : Int) = (x) % (Wd : Int) := Int.tmod_eq_emod_of_nonneg (by omega)
    have tY : (y + 1).tmod (Hd : Int) = (y + 1) % (Hd : Int) := Int.tmod_eq_emod_of_nonneg (by omega)
    have a0 : 0 ≤ (x) % (Wd : Int) := Int.emod_nonneg _ hw0
    have a1 : (x) % (Wd : Int) < Wd := Int.emod_lt_of_pos _ (by omega)
    have b0 : 0 ≤ (y + 1) % (Hd : Int) := Int.emod_nonneg _ hh0
    have b1 : (y + 1) % (Hd : Int) < Hd := Int.emod_lt_of_pos _ (by omega)
    have hN := HN.out
    simp only at hN
    generalize hP : (x) % (Wd : Int) = px at tX a0 a1 hN
    generalize hQ : (y + 1) % (Hd : Int) = py at tY b0 b1 hN
    have m0 : 0 ≤ py * (Wd : Int) := Int.mul_nonneg b0 (by omega)
    have m1 : py * (Wd : Int) ≤ 64 * 64 := Int.mul_le_mul (by omega) (by omega) (by omega) (by omega)
    have HN2 := hid hN
    have HP := hid hP; have HQ := hid hQ
    clear hN HN hP hQ
    go_enter Tryz.func88, Tryz.ntmps88
    go_wp2
    go_quiet (fail)
    go_wp2
    go_quiet (fail)
    go_wp2
    go_ret
    rw [HN2.out]
    exact ⟨rfl, by (repeat' (first | with_reducible assumption | with_reducible exact Below.refl _ _ | with_reducible refine Below.drew ?_ | with_reducible refine below_drewN ?_ _ | with_reducible refine balloc ?_ _ | with_reducible refine bset ?_ ?_ _ | with_reducible refine Below.setCell ?_ ?_ _ | with_reducible refine Below.alloc ?_ ?_ _ | omega | (simp; done) | (simp; omega)))⟩
end Go.Proofs.YtmmjaobpoiofdaaGreat
