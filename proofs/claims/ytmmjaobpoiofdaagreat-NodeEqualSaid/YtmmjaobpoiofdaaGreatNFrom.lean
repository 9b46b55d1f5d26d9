/- Walks: a node's cells; from which place particles come, of the program. Walk: from which place particles come into a cell, of the program's nodes. -/
import Derived.Test.YtmmjaobpoiofdaaGreatNValid
import Derived.Test.YtmmjaobpoiofdaaGreatFrom
namespace Go.Proofs.YtmmjaobpoiofdaaGreat
open Go Go.RowKit
set_option linter.unusedVariables false
/-- a cluster's cells -/
def cluV (W H : Int) (a ao : Option Addr) (n c no co : Nat) : Array Value := #[.int .i64 W, .int .i64 H, .slice a n c, .slice ao no co]
set_option maxHeartbeats 2000000 in
theorem node_owned (W H : Int) (a ao : Option Addr) (n c no co : Nat) (o : Nat → Int) (nd : Int) (w : World) (hno : no ≤ 100000000) (HO : Sl w ao no o) :
    Calls Tryz.prog 101 #[.agg (cluV W H a ao n c no co), .int .i64 nd] w
      fun e w' => ∃ v, e = .returned v ∧ w'.ownsRow w.heap.size 3 1 v (ownL o nd no).length ((ownL o nd no).map vInt) ∧ Below w.heap.size w w' := by
  obtain ⟨i0, hi, hz0, hz1, hz2⟩ := info_parts infoI
  unfold cluV
  have HO1 := HO.alloc (.cells #[.int .i64 W, .int .i64 H, .slice a n c, .slice ao no co] 67)
  go_enter Tryz.func101, Tryz.ntmps101
  go_wp2
  go_loopw [5, 11] (fun v i wr => ∃ k : Nat, k ≤ no ∧ i = .int .i64 k ∧ wr.ownsRow (w.heap.size + 1) 3 1 v (ownL o nd k).length ((ownL o nd k).map vInt) ∧ Below (w.heap.size + 1) (w.alloc (.cells #[.int .i64 W, .int .i64 H, .slice a n c, .slice ao no co] 67)) wr) (fun _ i _ => no - (intOf i).toNat)
  case atStart => exact ⟨0, Nat.zero_le _, rfl, World.ownsRow_nil .., Below.refl _ _⟩
  case round =>
    obtain ⟨k, hk, rfl, hown, hb⟩ := hrel
    have J := HO1.below (by simpa using hb)
    have hbs := hb.size
    rw [World.size_alloc] at hbs
    by_cases hlt : k < no
    · obtain ⟨b1, o1, rfl, _, c1⟩ := J k hlt
      have hbd := ownL_length o nd k
      cases he : (o k == nd)
      · have he' : ¬ o k = nd := by simpa using he
        have HE := hid he'; clear he'
        go_wp2
        go_roundw
        case rel => exact ⟨k + 1, by omega, by go_num, by simp only [ownL, if_neg HE.out]; exact hown, hb⟩
        case measure => simp [intOf]; omega
      · have he' : o k = nd := by simpa using he
        have HE := hid he'; clear he'
        go_wp2_with (at_builtin; refine wpList_append_own _ rfl _ _ 25 rfl (w.heap.size + 1) 3 i0 (.int .i64 0) 1 8 Tryz.underlying25 hi hz0 hz1 hz2 rfl (by decide) _ _ _ rfl (hown.alloc _) ⟨wr.heap.size, 0, none⟩ 1 1 [.int .i64 (k : Int)] rfl rfl (cell_one_new _ _ _) (by simp [Value.oneCell']) (by simp [maxLen]; omega) (by omega) (by simp; omega) ?_; intro v' w1 hown' hgrow _)
        go_roundw
        case rel => exact ⟨k + 1, by omega, by go_num, by simp only [ownL, if_pos HE.out]; exact own_snoc hown', (hb.alloc (by have := hb.size; (try simp at this); omega) _).grown hgrow (by have := hb.size; (try simp at this); simp; omega) (own_base hown)⟩
        case measure => simp [intOf]; omega
    · obtain rfl : k = no := (by omega)
      go_wp2
      go_ret
      exact ⟨_, rfl, own_mono hown (by omega), (below_alloc w _).trans (hb.mono (by omega))⟩
end Go.Proofs.YtmmjaobpoiofdaaGreat
namespace Go.Proofs.YtmmjaobpoiofdaaGreat
open Go Go.RowKit
set_option linter.unusedVariables false
set_option maxRecDepth 100000 in
set_option maxHeartbeats 2000000 in
theorem node_from (Wd Hd i d : Nat) (a ao : Option Addr) (n c no co : Nat) (w : World) (h1 : 1 ≤ Wd ∧ Wd ≤ 64) (h2 : 1 ≤ Hd ∧ Hd ≤ 64) (hi : i < Wd * Hd) (hd : d < 4) :
    Calls Tryz.prog 77 #[.agg (cluV Wd Hd a ao n c no co), .int .i64 (i : Int), .int .i64 (d : Int)] w fun e w' => e = .returned (.int .i64 (nbT Wd Hd i d : Int)) ∧ Below w.heap.size w w' := by
  obtain ⟨v1, v2⟩ := h1
  obtain ⟨u1, u2⟩ := h2
  obtain ⟨hx, hy⟩ := row_lt hi
  have hii : i < 4096 := by
    have : Wd * Hd ≤ 64 * 64 := Nat.mul_le_mul v2 u2
    omega
  unfold cluV
  have hw0 : ¬ (Wd : Int) = 0 := by omega
  have hh0 : ¬ (Hd : Int) = 0 := by omega
  have ht : (i : Int).tmod (Wd : Int) = (i : Int) % (Wd : Int) := Int.tmod_eq_emod_of_nonneg (by omega)
  have hdv : (i : Int).tdiv (Wd : Int) = (i : Int) / (Wd : Int) := Int.tdiv_eq_ediv_of_nonneg (by omega)
  have hN := nbT_int (i := i) hd (show 0 < Wd by omega) (show 0 < Hd by omega)
  have x0 : 0 ≤ (i : Int) % (Wd : Int) := Int.emod_nonneg _ hw0
  have x1 : (i : Int) % (Wd : Int) < Wd := Int.emod_lt_of_pos _ (by omega)
  have y0 : 0 ≤ (i : Int) / (Wd : Int) := Int.ediv_nonneg (by omega) (by omega)
  have y1 : (i : Int) / (Wd : Int) < Hd := by
    have : ((i / Wd : Nat) : Int) = (i : Int) / (Wd : Int) := by simp
    omega
  have HI := hid hi; clear hi
  generalize (i : Int) % (Wd : Int) = x at *
  generalize (i : Int) / (Wd : Int) = y at *
  have HN := hid hN; clear hN
  clear hx hy
  rcases (by omega : d = 0 ∨ d = 1 ∨ d = 2 ∨ d = 3) with rfl | rfl | rfl | rfl
  · skip
    have tX : (x + -1 + (Wd : Int)).tmod (Wd : Int) = (x + (Wd : Int) - 1) % (Wd : Int) := by rw [Int.tmod_eq_emod_of_nonneg (by omega)]; first | (congr 1; omega; done) | rw [Int.add_emod_right]
    have tY : (y + (Hd : Int)).tmod (Hd : Int) = (y) % (Hd : Int) := by rw [Int.tmod_eq_emod_of_nonneg (by omega)]; first | (congr 1; omega; done) | rw [Int.add_emod_right]
    have a0 : 0 ≤ (x + (Wd : Int) - 1) % (Wd : Int) := Int.emod_nonneg _ hw0
    have a1 : (x + (Wd : Int) - 1) % (Wd : Int) < Wd := Int.emod_lt_of_pos _ (by omega)
    have b0 : 0 ≤ (y) % (Hd : Int) := Int.emod_nonneg _ hh0
    have b1 : (y) % (Hd : Int) < Hd := Int.emod_lt_of_pos _ (by omega)
    have hN : (nbT Wd Hd i 0 : Int) = (x + (Wd : Int) - 1) % (Wd : Int) + (Wd : Int) * ((y) % (Hd : Int)) := by
      rw [HN.out, Int.mul_comm (Wd : Int)]
      rfl
    have hix : ∀ w, (Instr.index 158 (.agg #[.int .i64 (-1), .int .i64 0, .int .i64 0, .int .i64 (-1), .int .i64 1, .int .i64 0, .int .i64 0, .int .i64 1]) (.int .i64 0)).run Tryz.prog w = .ok (.agg #[.int .i64 (-1), .int .i64 (0)]) w := fun _ => by kernel_rfl
    generalize hP : (x + (Wd : Int) - 1) % (Wd : Int) = px at tX a0 a1 hN
    generalize hQ : (y) % (Hd : Int) = py at tY b0 b1 hN
    have m0 : 0 ≤ (Wd : Int) * py := Int.mul_nonneg (by omega) b0
    have m1 : (Wd : Int) * py ≤ 64 * 64 := Int.mul_le_mul (by omega) (by omega) (by omega) (by omega)
    have HN2 := hid hN
    have HX := hid tX; have HY := hid tY
    clear hN HN
    go_enter Tryz.func77, Tryz.ntmps77
    go_wp2
    go_quiet (fail)
    go_wp2
    go_quiet (fail)
    go_wp2
    go_ret
    rw [HN2.out]
    exact ⟨rfl, by (repeat' (first | with_reducible assumption | with_reducible exact Below.refl _ _ | with_reducible refine Below.drew ?_ | with_reducible refine below_drewN ?_ _ | with_reducible refine balloc ?_ _ | with_reducible refine bset ?_ ?_ _ | with_reducible refine Below.setCell ?_ ?_ _ | with_reducible refine Below.alloc ?_ ?_ _ | omega | (simp; done) | (simp; omega)))⟩
  · skip
    have tX : (x + (Wd : Int)).tmod (Wd : Int) = (x) % (Wd : Int) := by rw [Int.tmod_eq_emod_of_nonneg (by omega)]; first | (congr 1; omega; done) | rw [Int.add_emod_right]
    have tY : (y + -1 + (Hd : Int)).tmod (Hd : Int) = (y + (Hd : Int) - 1) % (Hd : Int) := by rw [Int.tmod_eq_emod_of_nonneg (by omega)]; first | (congr 1; omega; done) | rw [Int.add_emod_right]
    have a0 : 0 ≤ (x) % (Wd : Int) := Int.emod_nonneg _ hw0
    have a1 : (x) % (Wd : Int) < Wd := Int.emod_lt_of_pos _ (by omega)
    have b0 : 0 ≤ (y + (Hd : Int) - 1) % (Hd : Int) := Int.emod_nonneg _ hh0
    have b1 : (y + (Hd : Int) - 1) % (Hd : Int) < Hd := Int.emod_lt_of_pos _ (by omega)
    have hN : (nbT Wd Hd i 1 : Int) = (x) % (Wd : Int) + (Wd : Int) * ((y + (Hd : Int) - 1) % (Hd : Int)) := by
      rw [HN.out, Int.mul_comm (Wd : Int)]
      rfl
    have hix : ∀ w, (Instr.index 158 (.agg #[.int .i64 (-1), .int .i64 0, .int .i64 0, .int .i64 (-1), .int .i64 1, .int .i64 0, .int .i64 0, .int .i64 1]) (.int .i64 1)).run Tryz.prog w = .ok (.agg #[.int .i64 (0), .int .i64 (-1)]) w := fun _ => by kernel_rfl
    generalize hP : (x) % (Wd : Int) = px at tX a0 a1 hN
    generalize hQ : (y + (Hd : Int) - 1) % (Hd : Int) = py at tY b0 b1 hN
    have m0 : 0 ≤ (Wd : Int) * py := Int.mul_nonneg (by omega) b0
    have m1 : (Wd : Int) * py ≤ 64 * 64 := Int.mul_le_mul (by omega) (by omega) (by omega) (by omega)
    have HN2 := hid hN
    have HX := hid tX; have HY := hid tY
    clear hN HN
    go_enter Tryz.func77, Tryz.ntmps77
    go_wp2
    go_quiet (fail)
    go_wp2
    go_quiet (fail)
    go_wp2
    go_ret
    rw [HN2.out]
    exact ⟨rfl, by (repeat' (first | with_reducible assumption | with_reducible exact Below.refl _ _ | with_reducible refine Below.drew ?_ | with_reducible refine below_drewN ?_ _ | with_reducible refine balloc ?_ _ | with_reducible refine bset ?_ ?_ _ | with_reducible refine Below.setCell ?_ ?_ _ | with_reducible refine Below.alloc ?_ ?_ _ | omega | (simp; done) | (simp; omega)))⟩
  · skip
    have tX : (x + 1 + (Wd : Int)).tmod (Wd : Int) = (x + 1) % (Wd : Int) := by rw [Int.tmod_eq_emod_of_nonneg (by omega)]; first | (congr 1; omega; done) | rw [Int.add_emod_right]
    have tY : (y + (Hd : Int)).tmod (Hd : Int) = (y) % (Hd : Int) := by rw [Int.tmod_eq_emod_of_nonneg (by omega)]; first | (congr 1; omega; done) | rw [Int.add_emod_right]
    have a0 : 0 ≤ (x + 1) % (Wd : Int) := Int.emod_nonneg _ hw0
    have a1 : (x + 1) % (Wd : Int) < Wd := Int.emod_lt_of_pos _ (by omega)
    have b0 : 0 ≤ (y) % (Hd : Int) := Int.emod_nonneg _ hh0
    have b1 : (y) % (Hd : Int) < Hd := Int.emod_lt_of_pos _ (by omega)
    have hN : (nbT Wd Hd i 2 : Int) = (x + 1) % (Wd : Int) + (Wd : Int) * ((y) % (Hd : Int)) := by
      rw [HN.out, Int.mul_comm (Wd : Int)]
      rfl
    have hix : ∀ w, (Instr.index 158 (.agg #[.int .i64 (-1), .int .i64 0, .int .i64 0, .int .i64 (-1), .int .i64 1, .int .i64 0, .int .i64 0, .int .i64 1]) (.int .i64 2)).run Tryz.prog w = .ok (.agg #[.int .i64 (1), .int .i64 (0)]) w := fun _ => by kernel_rfl
    generalize hP : (x + 1) % (Wd : Int) = px at tX a0 a1 hN
    generalize hQ : (y) % (Hd : Int) = py at tY b0 b1 hN
    have m0 : 0 ≤ (Wd : Int) * py := Int.mul_nonneg (by omega) b0
    have m1 : (Wd : Int) * py ≤ 64 * 64 := Int.mul_le_mul (by omega) (by omega) (by omega) (by omega)
    have HN2 := hid hN
    have HX := hid tX; have HY := hid tY
    clear hN HN
    go_enter Tryz.func77, Tryz.ntmps77
    go_wp2
    go_quiet (fail)
    go_wp2
    go_quiet (fail)
    go_wp2
    go_ret
    rw [HN2.out]
    exact ⟨rfl, by (repeat' (first | with_reducible assumption | with_reducible exact Below.refl _ _ | with_reducible refine Below.drew ?_ | with_reducible refine below_drewN ?_ _ | with_reducible refine balloc ?_ _ | with_reducible refine bset ?_ ?_ _ | with_reducible refine Below.setCell ?_ ?_ _ | with_reducible refine Below.alloc ?_ ?_ _ | omega | (simp; done) | (simp; omega)))⟩
  · skip
    have tX : (x + (Wd : Int)).tmod (Wd : Int) = (x) % (Wd : Int) := by rw [Int.tmod_eq_emod_of_nonneg (by omega)]; first | (congr 1; omega; done) | rw [Int.add_emod_right]
    have tY : (y + 1 + (Hd : Int)).tmod (Hd : Int) = (y + 1) % (Hd : Int) := by rw [Int.tmod_eq_emod_of_nonneg (by omega)]; first | (congr 1; omega; done) | rw [Int.add_emod_right]
    have a0 : 0 ≤ (x) % (Wd : Int) := Int.emod_nonneg _ hw0
    have a1 : (x) % (Wd : Int) < Wd := Int.emod_lt_of_pos _ (by omega)
    have b0 : 0 ≤ (y + 1) % (Hd : Int) := Int.emod_nonneg _ hh0
    have b1 : (y + 1) % (Hd : Int) < Hd := Int.emod_lt_of_pos _ (by omega)
    have hN : (nbT Wd Hd i 3 : Int) = (x) % (Wd : Int) + (Wd : Int) * ((y + 1) % (Hd : Int)) := by
      rw [HN.out, Int.mul_comm (Wd : Int)]
      rfl
    have hix : ∀ w, (Instr.index 158 (.agg #[.int .i64 (-1), .int .i64 0, .int .i64 0, .int .i64 (-1), .int .i64 1, .int .i64 0, .int .i64 0, .int .i64 1]) (.int .i64 3)).run Tryz.prog w = .ok (.agg #[.int .i64 (0), .int .i64 (1)]) w := fun _ => by kernel_rfl
    generalize hP : (x) % (Wd : Int) = px at tX a0 a1 hN
    generalize hQ : (y + 1) % (Hd : Int) = py at tY b0 b1 hN
    have m0 : 0 ≤ (Wd : Int) * py := Int.mul_nonneg (by omega) b0
    have m1 : (Wd : Int) * py ≤ 64 * 64 := Int.mul_le_mul (by omega) (by omega) (by omega) (by omega)
    have HN2 := hid hN
    have HX := hid tX; have HY := hid tY
    clear hN HN
    go_enter Tryz.func77, Tryz.ntmps77
    go_wp2
    go_quiet (fail)
    go_wp2
    go_quiet (fail)
    go_wp2
    go_ret
    rw [HN2.out]
    exact ⟨rfl, by (repeat' (first | with_reducible assumption | with_reducible exact Below.refl _ _ | with_reducible refine Below.drew ?_ | with_reducible refine below_drewN ?_ _ | with_reducible refine balloc ?_ _ | with_reducible refine bset ?_ ?_ _ | with_reducible refine Below.setCell ?_ ?_ _ | with_reducible refine Below.alloc ?_ ?_ _ | omega | (simp; done) | (simp; omega)))⟩
end Go.Proofs.YtmmjaobpoiofdaaGreat
