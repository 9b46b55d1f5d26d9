/- Plain words: a row of bools of the call's own; the reference's From: from which place particles come. -/
import Derived.Test.YtnnaegnkkpknpaaReach
import Derived.Test.YtnnaegnkkpknpaaOn
import Derived.Test.YtnnaegnkkpknpaaIter
import Derived.Laws.MakeOwn
namespace Go.Proofs.Ytnnaegnkkpknpaa
open Go.RowKit
set_option linter.unusedVariables false
/-- a row of n bools of the call's own -/
structure Rb (W : World) (b n : Nat) (f : Nat → Bool) : Prop where
  lt : b < W.heap.size
  cells : ∀ k, k < n → W.cell? ⟨b, k, none⟩ = some (.bool (f k))
  free : ∀ i, W.frozen? ⟨b, i, none⟩ = false
theorem Rb.below {W W' : World} {b n : Nat} {f : Nat → Bool} (h : Rb W b n f) (hb : Below W.heap.size W W') : Rb W' b n f :=
  ⟨by have := hb.size; have := h.1; omega, fun k hk => (bcell hb _ _ h.1).trans (h.2 k hk), fun i => (bfrozen hb _ _ h.1).trans (h.3 i)⟩
theorem Rb.alloc {W : World} {b n : Nat} {f : Nat → Bool} (h : Rb W b n f) (o : Obj) : Rb (W.alloc o) b n f := h.below ((Below.refl _ W).alloc (Nat.le_refl _) o)
theorem Rb.drew {W : World} {b n : Nat} {f : Nat → Bool} (h : Rb W b n f) : Rb W.drew b n f := ⟨h.1, h.2, h.3⟩
theorem Rb.drewN {W : World} {b n : Nat} {f : Nat → Bool} (h : Rb W b n f) (k : Nat) : Rb (W.drewN k) b n f := ⟨h.1, h.2, h.3⟩
theorem Rb.set_ {W : World} {b n : Nat} {f : Nat → Bool} (h : Rb W b n f) (j : Nat) : Rb (W.setCell ⟨b, j, none⟩ (.bool true)) b n (putM f j) := by
  refine ⟨by simpa [World.setCell] using h.1, fun k hk => ?_, fun i => by rw [World.frozen?_setCell]; exact h.3 i⟩
  by_cases e : k = j
  · subst e
    rw [World.cell?_setCell_same' _ _ _ (by rw [h.2 k hk]; rfl)]
    simp [putM]
  · rw [World.cell?_setCell_other _ _ _ _ (fun e' => e (by injection e' with _ e2 _; exact e2.symm)), h.2 k hk]
    simp [putM, e]
theorem infoB : (Try.prog.info? 4).map (fun i => (i.zero, i.size, i.bytes)) = some (some (.bool false), 1, 1) := by kernel_rfl
def frow (n : Nat) : Array Value := madeCells #[.bool false] n
theorem mk_bools (n : Nat) (hn : n ≤ 100000000) (w : World) :
    (Instr.makeSlice 121 (.int .i64 (n : Int)) (.int .i64 (n : Int))).run Try.prog w = .ok (.slice (some ⟨w.heap.size, 0, none⟩) n n) (w.alloc (.cells (frow n) 4)) := by
  obtain ⟨i0, hi, hz0, hz1, hz2⟩ := info_parts infoB
  have hr := run_make (P := Try.prog) w 121 4 i0 _ Try.underlying121 hi hz0 .i64 .i64 n n (by omega) (by omega) (by rw [hz2]; omega) (by omega)
  simp only [Int.toNat_natCast, hz1, Nat.mul_one] at hr
  exact hr
theorem frow_get (n k : Nat) (hk : k < n) : (frow n)[k]? = some (.bool false) := by
  simp [frow, madeCells, hk, Nat.mod_one]
theorem rb_frow (w : World) (n : Nat) : Rb (w.alloc (.cells (frow n) 4)) w.heap.size n (fun _ => false) :=
  ⟨by simp, fun k hk => by
    rw [cell_of_row (w.alloc (.cells (frow n) 4)) w.heap.size k (frow n) 4 (0, 0) (Array.getElem?_push_size ..), frow_get n k hk], fun i => by simp [go_sem]⟩
/-- the neighbour in ints -/
theorem nbT_int {W H i d : Nat} (hd : d < 4) (hW : 0 < W) (hH : 0 < H) : (nbT W H i d : Int) = match d with
    | 0 => ((i : Int) % W + W - 1) % W + (i : Int) / W % H * W
    | 1 => (i : Int) % W % W + ((i : Int) / W + H - 1) % H * W
    | 2 => ((i : Int) % W + 1) % W + (i : Int) / W % H * W
    | _ => (i : Int) % W % W + ((i : Int) / W + 1) % H * W := by
  have f0 := Int.ediv_nonneg (Int.natCast_nonneg i) (Int.natCast_nonneg W)
  have f1 := Int.emod_nonneg (i : Int) (show (W : Int) ≠ 0 by omega)
  have e1 : ((i % W + W - 1 : Nat) : Int) = (i : Int) % W + W - 1 := by rw [Int.natCast_sub (by omega)]; simp
  have e2 : ((i / W + H - 1 : Nat) : Int) = (i : Int) / W + H - 1 := by rw [Int.natCast_sub (by omega)]; simp
  rcases (by omega : d = 0 ∨ d = 1 ∨ d = 2 ∨ d = 3) with rfl | rfl | rfl | rfl
  · simp only [nbT, Int.natCast_add, Int.natCast_mul, Int.natCast_emod, Int.natCast_ediv] at *; rw [e1]
  · simp only [nbT, Int.natCast_add, Int.natCast_mul, Int.natCast_emod] at *; rw [e2]
  · simp [nbT]
  · simp [nbT]
set_option maxRecDepth 100000 in
set_option maxHeartbeats 2000000 in
theorem ref2_From (Wd Hd i d : Nat) (w : World) (h1 : 1 ≤ Wd ∧ Wd ≤ 64) (h2 : 1 ≤ Hd ∧ Hd ≤ 64) (hi : i < Wd * Hd) (hd : d < 4) :
    Calls Try.prog 98 #[.int .i64 (Wd : Int), .int .i64 (Hd : Int), .int .i64 (i : Int), .int .i64 (d : Int)] w fun e w' => e = .returned (.int .i64 (nbT Wd Hd i d : Int)) ∧ Below w.heap.size w w' := by
  obtain ⟨v1, v2⟩ := h1
  obtain ⟨u1, u2⟩ := h2
  obtain ⟨hx, hy⟩ := row_lt hi
  have hii : i < 4096 := by
    have : Wd * Hd ≤ 64 * 64 := Nat.mul_le_mul v2 u2
    omega
  have hw0 : ¬ (Wd : Int) = 0 := by omega
  have hh0 : ¬ (Hd : Int) = 0 := by omega
  have ht : (i : Int).tmod (Wd : Int) = (i : Int) % (Wd : Int) := Int.tmod_eq_emod_of_nonneg (by omega)
  have hdv : (i : Int).tdiv (Wd : Int) = (i : Int) / (Wd : Int) := Int.tdiv_eq_ediv_of_nonneg (by omega)
  have hN := nbT_int (i := i) hd (show 0 < Wd by omega) (show 0 < Hd by omega)
  have x0 : 0 ≤ (i : Int) % (Wd : Int) := Int.emod_nonneg _ hw0
  have x1 : (i : Int) % (Wd : Int) < Wd := Int.emod_lt_of_pos _ (by omega)
  have y0 : 0 ≤ (i : Int) / (Wd : Int) := Int.ediv_nonneg (by omega) (by omega)
  have y1 : (i : Int) / (Wd : Int) < Hd := by
    have h := hy
    have e : ((i / Wd : Nat) : Int) = (i : Int) / (Wd : Int) := by simp
    omega
  have hwr : wrap64 ((i : Int) / (Wd : Int)) = (i : Int) / (Wd : Int) := by unfold wrap64; omega
  generalize (i : Int) % (Wd : Int) = x at *
  generalize (i : Int) / (Wd : Int) = y at *
  have HN := hid hN; clear hN
  clear hx hy
  rcases (by omega : d = 0 ∨ d = 1 ∨ d = 2 ∨ d = 3) with rfl | rfl | rfl | rfl
  · skip
    have tX : (x + (Wd : Int) - 1).tmod (Wd : Int) = (x + (Wd : Int) - 1) % (Wd : Int) := Int.tmod_eq_emod_of_nonneg (by omega)
    have tY : (y).tmod (Hd : Int) = (y) % (Hd : Int) := Int.tmod_eq_emod_of_nonneg (by omega)
    have a0 : 0 ≤ (x + (Wd : Int) - 1) % (Wd : Int) := Int.emod_nonneg _ hw0
    have a1 : (x + (Wd : Int) - 1) % (Wd : Int) < Wd := Int.emod_lt_of_pos _ (by omega)
    have b0 : 0 ≤ (y) % (Hd : Int) := Int.emod_nonneg _ hh0
    have b1 : (y) % (Hd : Int) < Hd := Int.emod_lt_of_pos _ (by omega)
    have hN := HN.out
    simp only at hN
    generalize hP : (x + (Wd : Int) - 1) % (Wd : Int) = px at tX a0 a1 hN
    generalize hQ : (y) % (Hd : Int) = py at tY b0 b1 hN
    have m0 : 0 ≤ py * (Wd : Int) := Int.mul_nonneg b0 (by omega)
    have m1 : py * (Wd : Int) ≤ 64 * 64 := Int.mul_le_mul (by omega) (by omega) (by omega) (by omega)
    have HN2 := hid hN
    have HP := hid hP; have HQ := hid hQ
    clear hN HN hP hQ
    go_enter Try.func98, Try.ntmps98
    go_wp2
    go_quiet (fail)
    go_wp2
    go_quiet (fail)
    go_wp2
    go_ret
    rw [HN2.out]
    exact ⟨rfl, by (repeat' (first | with_reducible assumption | with_reducible exact Below.refl _ _ | with_reducible refine Below.drew ?_ | with_reducible refine below_drewN ?_ _ | with_reducible refine balloc ?_ _ | with_reducible refine bset ?_ ?_ _ | with_reducible refine Below.setCell ?_ ?_ _ | with_reducible refine Below.alloc ?_ ?_ _ | omega | (simp; done) | (simp; omega)))⟩
  · skip
    have tX : (x).tmod (Wd : Int) = (x) % (Wd : Int) := Int.tmod_eq_emod_of_nonneg (by omega)
    have tY : (y + (Hd : Int) - 1).tmod (Hd : Int) = (y + (Hd : Int) - 1) % (Hd : Int) := Int.tmod_eq_emod_of_nonneg (by omega)
    have a0 : 0 ≤ (x) % (Wd : Int) := Int.emod_nonneg _ hw0
    have a1 : (x) % (Wd : Int) < Wd := Int.emod_lt_of_pos _ (by omega)
    have b0 : 0 ≤ (y + (Hd : Int) - 1) % (Hd : Int) := Int.emod_nonneg _ hh0
    have b1 : (y + (Hd : Int) - 1) % (Hd : Int) < Hd := Int.emod_lt_of_pos _ (by omega)
    have hN := HN.out
    simp only at hN
    generalize hP : (x) % (Wd : Int) = px at tX a0 a1 hN
    generalize hQ : (y + (Hd : Int) - 1) % (Hd : Int) = py at tY b0 b1 hN
    have m0 : 0 ≤ py * (Wd : Int) := Int.mul_nonneg b0 (by omega)
    have m1 : py * (Wd : Int) ≤ 64 * 64 := Int.mul_le_mul (by omega) (by omega) (by omega) (by omega)
    have HN2 := hid hN
    have HP := hid hP; have HQ := hid hQ
    clear hN HN hP hQ
    go_enter Try.func98, Try.ntmps98
    go_wp2
    go_quiet (fail)
    go_wp2
    go_quiet (fail)
    go_wp2
    go_ret
    rw [HN2.out]
    exact ⟨rfl, by (repeat' (first | with_reducible assumption | with_reducible exact Below.refl _ _ | with_reducible refine Below.drew ?_ | with_reducible refine below_drewN ?_ _ | with_reducible refine balloc ?_ _ | with_reducible refine bset ?_ ?_ _ | with_reducible refine Below.setCell ?_ ?_ _ | with_reducible refine Below.alloc ?_ ?_ _ | omega | (simp; done) | (simp; omega)))⟩
  · skip
    have tX : (x + 1).tmod (Wd : Int) = (x + 1) % (Wd : Int) := Int.tmod_eq_emod_of_nonneg (by omega)
    have tY : (y).tmod (Hd : Int) = (y) % (Hd : Int) := Int.tmod_eq_emod_of_nonneg (by omega)
    have a0 : 0 ≤ (x + 1) % (Wd : Int) := Int.emod_nonneg _ hw0
    have a1 : (x + 1) % (Wd : Int) < Wd := Int.emod_lt_of_pos _ (by omega)
    have b0 : 0 ≤ (y) % (Hd : Int) := Int.emod_nonneg _ hh0
    have b1 : (y) % (Hd : Int) < Hd := Int.emod_lt_of_pos _ (by omega)
    have hN := HN.out
    simp only at hN
    generalize hP : (x + 1) % (Wd : Int) = px at tX a0 a1 hN
    generalize hQ : (y) % (Hd : Int) = py at tY b0 b1 hN
    have m0 : 0 ≤ py * (Wd : Int) := Int.mul_nonneg b0 (by omega)
    have m1 : py * (Wd : Int) ≤ 64 * 64 := Int.mul_le_mul (by omega) (by omega) (by omega) (by omega)
    have HN2 := hid hN
    have HP := hid hP; have HQ := hid hQ
    clear hN HN hP hQ
    go_enter Try.func98, Try.ntmps98
    go_wp2
    go_quiet (fail)
    go_wp2
    go_quiet (fail)
    go_wp2
    go_ret
    rw [HN2.out]
    exact ⟨rfl, by (repeat' (first | with_reducible assumption | with_reducible exact Below.refl _ _ | with_reducible refine Below.drew ?_ | with_reducible refine below_drewN ?_ _ | with_reducible refine balloc ?_ _ | with_reducible refine bset ?_ ?_ _ | with_reducible refine Below.setCell ?_ ?_ _ | with_reducible refine Below.alloc ?_ ?_ _ | omega | (simp; done) | (simp; omega)))⟩
  · skip
    have tX : (x).tmod (Wd : Int) = (x) % (Wd : Int) := Int.tmod_eq_emod_of_nonneg (by omega)
    have tY : (y + 1).tmod (Hd : Int) = (y + 1) % (Hd : Int) := Int.tmod_eq_emod_of_nonneg (by omega)
    have a0 : 0 ≤ (x) % (Wd : Int) := Int.emod_nonneg _ hw0
    have a1 : (x) % (Wd : Int) < Wd := Int.emod_lt_of_pos _ (by omega)
    have b0 : 0 ≤ (y + 1) % (Hd : Int) := Int.emod_nonneg _ hh0
    have b1 : (y + 1) % (Hd : Int) < Hd := Int.emod_lt_of_pos _ (by omega)
    have hN := HN.out
    simp only at hN
    generalize hP : (x) % (Wd : Int) = px at tX a0 a1 hN
    generalize hQ : (y + 1) % (Hd : Int) = py at tY b0 b1 hN
    have m0 : 0 ≤ py * (Wd : Int) := Int.mul_nonneg b0 (by omega)
    have m1 : py * (Wd : Int) ≤ 64 * 64 := Int.mul_le_mul (by omega) (by omega) (by omega) (by omega)
    have HN2 := hid hN
    have HP := hid hP; have HQ := hid hQ
    clear hN HN hP hQ
    go_enter Try.func98, Try.ntmps98
    go_wp2
    go_quiet (fail)
    go_wp2
    go_quiet (fail)
    go_wp2
    go_ret
    rw [HN2.out]
    exact ⟨rfl, by (repeat' (first | with_reducible assumption | with_reducible exact Below.refl _ _ | with_reducible refine Below.drew ?_ | with_reducible refine below_drewN ?_ _ | with_reducible refine balloc ?_ _ | with_reducible refine bset ?_ ?_ _ | with_reducible refine Below.setCell ?_ ?_ _ | with_reducible refine Below.alloc ?_ ?_ _ | omega | (simp; done) | (simp; omega)))⟩
end Go.Proofs.Ytnnaegnkkpknpaa
