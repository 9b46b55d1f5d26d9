/- Walks: wall.Open and the reference's. -/
import Derived.Test.YtnnaegnkkpknpaaR3Valid
import Derived.Laws.MakeOwn
namespace Go.Proofs.Ytnnaegnkkpknpaa
open Go.RowKit
set_option linter.unusedVariables false
theorem infoInt' : (Try.prog.info? 3).map (fun i => (i.zero, i.size, i.bytes)) = some (some (.int .i64 0), 1, 8) := by kernel_rfl
/-- a row of zeros -/
def zrow (n : Nat) : Array Value := madeCells #[.int .i64 0] n
theorem zrow_get (n k : Nat) (hk : k < n) : (zrow n)[k]? = some (.int .i64 0) := by
  simp [zrow, madeCells, hk, Nat.mod_one]
theorem mk_ints (n : Nat) (hn : n ≤ 100000000) (w : World) :
    (Instr.makeSlice 25 (.int .i64 (n : Int)) (.int .i64 (n : Int))).run Try.prog w = .ok (.slice (some ⟨w.heap.size, 0, none⟩) n n) (w.alloc (.cells (zrow n) 3)) := by
  obtain ⟨i0, hi, hz0, hz1, hz2⟩ := info_parts infoInt'
  have hr := run_make (P := Try.prog) w 25 3 i0 _ Try.underlying25 hi hz0 .i64 .i64 n n (by omega) (by omega) (by rw [hz2]; omega) (by omega)
  simp only [Int.toNat_natCast, hz1, Nat.mul_one] at hr
  exact hr
theorem sl_zrow (w : World) (n : Nat) : Sl (w.alloc (.cells (zrow n) 3)) (some ⟨w.heap.size, 0, none⟩) n (fun _ => 0) := fun k hk => by
  refine ⟨w.heap.size, 0, rfl, by simp, ?_⟩
  rw [Nat.zero_add]
  have := cell_of_row (w.alloc (.cells (zrow n) 3)) w.heap.size k (zrow n) 3 (0, 0) (Array.getElem?_push_size ..)
  rw [this, zrow_get n k hk]
def OpenPost (ok : Bool) (n : Nat) (w : World) (e : Ending) (w' : World) : Prop :=
  ∃ a a' : Option Addr, ∃ m c c' : Nat, e = .returned (.tuple #[.agg #[.slice a m c, .slice a' m c'], .int .i64 (if ok then 0 else 1)]) ∧ m = (if ok then n else 0) ∧ Sl w' a m (fun _ => 0) ∧ Sl w' a' m (fun _ => 0) ∧ Below w.heap.size w w'
theorem open_end (w w1 W0 : World) (hs : W0.heap.size = w1.heap.size) (hB : Below w.heap.size w W0) (n : Nat) :
    OpenPost true n w (.returned (.tuple #[.agg #[.slice (some ⟨w1.heap.size, 0, none⟩) n n, .slice (some ⟨w1.heap.size + 1, 0, none⟩) n n], .int .i64 0])) ((W0.alloc (.cells (zrow n) 3)).alloc (.cells (zrow n) 3)).drew := by
  rw [← hs]
  have h2 := sl_zrow (W0.alloc (.cells (zrow n) 3)) n
  rw [World.size_alloc] at h2
  exact ⟨_, _, n, n, n, rfl, rfl, (sl_zrow W0 n).alloc _, h2, by (repeat' (first | with_reducible assumption | with_reducible exact Below.refl _ _ | with_reducible refine Below.drew ?_ | with_reducible refine below_drewN ?_ _ | with_reducible refine balloc ?_ _ | with_reducible refine bset ?_ ?_ _ | with_reducible refine Below.setCell ?_ ?_ _ | with_reducible refine Below.alloc ?_ ?_ _ | omega | (simp; done) | (simp; omega)))⟩
theorem open_end' (w w1 W0 : World) (hs : W0.heap.size = w1.heap.size) (hB : Below w.heap.size w W0) (n : Nat) :
    OpenPost true n w (.returned (.tuple #[.agg #[.slice (some ⟨w1.heap.size + 1, 0, none⟩) n n, .slice (some ⟨w1.heap.size, 0, none⟩) n n], .int .i64 0])) ((W0.alloc (.cells (zrow n) 3)).alloc (.cells (zrow n) 3)).drew := by
  rw [← hs]
  have h2 := sl_zrow (W0.alloc (.cells (zrow n) 3)) n
  rw [World.size_alloc] at h2
  exact ⟨_, _, n, n, n, rfl, rfl, h2, (sl_zrow W0 n).alloc _, by (repeat' (first | with_reducible assumption | with_reducible exact Below.refl _ _ | with_reducible refine Below.drew ?_ | with_reducible refine below_drewN ?_ _ | with_reducible refine balloc ?_ _ | with_reducible refine bset ?_ ?_ _ | with_reducible refine Below.setCell ?_ ?_ _ | with_reducible refine Below.alloc ?_ ?_ _ | omega | (simp; done) | (simp; omega)))⟩
theorem size_set (w : World) (p : Addr) (u : Value) : (w.setCell p u).heap.size = w.heap.size := by simp [World.setCell]
theorem below_mk (w W0 : World) (h : Below w.heap.size w W0) (hs : w.heap.size + 1 < W0.heap.size) (u v : Value) : Below w.heap.size w ((W0.setCell ⟨w.heap.size + 1, 0, none⟩ u).setCell ⟨w.heap.size + 1, 1, none⟩ v) := by
  refine bset (bset h (by simp) _) (by simp) _
set_option maxHeartbeats 1000000 in
theorem wall_Open (wide high : Int) (a : Option Addr) (n c : Nat) (g : Nat → C4) (w : World) (hn : n ≤ 100000000) (H : Sc w a n g) :
    Calls Try.prog 17 #[.agg #[.int .i64 wide, .int .i64 high, .slice a n c]] w (OpenPost (validG wide high n g) n w) := by
  have I := (H.alloc (.cells #[.int .i64 wide, .int .i64 high, .slice a n c] 24)).alloc (.cells #[.slice none 0 0, .slice none 0 0] 27)
  cases hg : validG wide high n g
  · go_enter Try.func17, Try.ntmps17
    go_wp2_with fail
    refine (grid_valid wide high _ _ _ g _ hn I).mono ?_
    rintro e w1 ⟨rfl, hb1⟩
    rw [hg]
    have hB1 : Below w.heap.size w w1 := bvia (by (repeat' (first | with_reducible assumption | with_reducible exact Below.refl _ _ | with_reducible refine Below.drew ?_ | with_reducible refine below_drewN ?_ _ | with_reducible refine balloc ?_ _ | with_reducible refine bset ?_ ?_ _ | with_reducible refine Below.setCell ?_ ?_ _ | with_reducible refine Below.alloc ?_ ?_ _ | omega | (simp; done) | (simp; omega)))) hb1
    have hc1 := bcell hb1
    have hf1 := bfrozen hb1
    have hz1 := hb1.size
    try simp at hz1
    have hz1a : w.heap.size < w1.heap.size := by omega
    have hz1b : w.heap.size + 1 < w1.heap.size := by omega
    go_wp2_with fail
    refine bodyPost_ret (v := .tuple #[.agg #[.slice none 0 0, .slice none 0 0], .int .i64 1]) (by simp [results, Try.results17, go_sem, hc1]) rfl ⟨none, none, 0, 0, 0, rfl, rfl, fun k hk => by omega, fun k hk => by omega, by (repeat' (first | with_reducible assumption | with_reducible exact Below.refl _ _ | with_reducible refine Below.drew ?_ | with_reducible refine below_drewN ?_ _ | with_reducible refine balloc ?_ _ | with_reducible refine bset ?_ ?_ _ | with_reducible refine Below.setCell ?_ ?_ _ | with_reducible refine Below.alloc ?_ ?_ _ | omega | (simp; done) | (simp; omega)))⟩
  · have hmk := mk_ints n hn
    go_enter Try.func17, Try.ntmps17
    go_wp2_with fail
    refine (grid_valid wide high _ _ _ g _ hn I).mono ?_
    rintro e w1 ⟨rfl, hb1⟩
    rw [hg]
    have hB1 : Below w.heap.size w w1 := bvia (by (repeat' (first | with_reducible assumption | with_reducible exact Below.refl _ _ | with_reducible refine Below.drew ?_ | with_reducible refine below_drewN ?_ _ | with_reducible refine balloc ?_ _ | with_reducible refine bset ?_ ?_ _ | with_reducible refine Below.setCell ?_ ?_ _ | with_reducible refine Below.alloc ?_ ?_ _ | omega | (simp; done) | (simp; omega)))) hb1
    have hc1 := bcell hb1
    have hf1 := bfrozen hb1
    have hz1 := hb1.size
    try simp at hz1
    have hz1a : w.heap.size < w1.heap.size := by omega
    have hz1b : w.heap.size + 1 < w1.heap.size := by omega
    go_wp2_with fail
    go_region_held3 (fun _ => True) (go_keep) (fail)
    all_goals go_wp2
    · refine bodyPost_ret (v := .tuple #[.agg #[.slice (some ⟨w1.heap.size, 0, none⟩) n n, .slice (some ⟨w1.heap.size + 1, 0, none⟩) n n], .int .i64 0]) (by simp [results, Try.results17, go_sem, hc1, hz1a, hz1b]) rfl (open_end w w1 _ (by rw [size_set, size_set]) (below_mk w w1 hB1 hz1b _ _) n)
    · refine bodyPost_ret (v := .tuple #[.agg #[.slice (some ⟨w1.heap.size + 1, 0, none⟩) n n, .slice (some ⟨w1.heap.size, 0, none⟩) n n], .int .i64 0]) (by simp [results, Try.results17, go_sem, hc1, hz1a, hz1b]) rfl (open_end' w w1 _ (by rw [size_set, size_set]) (below_mk w w1 hB1 hz1b _ _) n)
set_option maxHeartbeats 1000000 in
theorem ref3_Open (wide high : Int) (a : Option Addr) (n c : Nat) (g : Nat → C4) (w : World) (hn : n ≤ 100000000) (H : Sc w a n g) :
    Calls Try.prog 18 #[.agg #[.int .i64 wide, .int .i64 high, .slice a n c]] w (OpenPost (validG wide high n g) n w) := by
  have I := (H.alloc (.cells #[.int .i64 wide, .int .i64 high, .slice a n c] 24)).alloc (.cells #[.slice none 0 0, .slice none 0 0] 27)
  cases hg : validG wide high n g
  · go_enter Try.func18, Try.ntmps18
    go_wp2_with fail
    refine (ref2_valid wide high _ _ _ g _ hn I).mono ?_
    rintro e w1 ⟨rfl, hb1⟩
    rw [hg]
    have hB1 : Below w.heap.size w w1 := bvia (by (repeat' (first | with_reducible assumption | with_reducible exact Below.refl _ _ | with_reducible refine Below.drew ?_ | with_reducible refine below_drewN ?_ _ | with_reducible refine balloc ?_ _ | with_reducible refine bset ?_ ?_ _ | with_reducible refine Below.setCell ?_ ?_ _ | with_reducible refine Below.alloc ?_ ?_ _ | omega | (simp; done) | (simp; omega)))) hb1
    have hc1 := bcell hb1
    have hf1 := bfrozen hb1
    have hz1 := hb1.size
    try simp at hz1
    have hz1a : w.heap.size < w1.heap.size := by omega
    have hz1b : w.heap.size + 1 < w1.heap.size := by omega
    go_wp2_with fail
    refine bodyPost_ret (v := .tuple #[.agg #[.slice none 0 0, .slice none 0 0], .int .i64 1]) (by simp [results, Try.results18, go_sem, hc1]) rfl ⟨none, none, 0, 0, 0, rfl, rfl, fun k hk => by omega, fun k hk => by omega, by (repeat' (first | with_reducible assumption | with_reducible exact Below.refl _ _ | with_reducible refine Below.drew ?_ | with_reducible refine below_drewN ?_ _ | with_reducible refine balloc ?_ _ | with_reducible refine bset ?_ ?_ _ | with_reducible refine Below.setCell ?_ ?_ _ | with_reducible refine Below.alloc ?_ ?_ _ | omega | (simp; done) | (simp; omega)))⟩
  · have hmk := mk_ints n hn
    go_enter Try.func18, Try.ntmps18
    go_wp2_with fail
    refine (ref2_valid wide high _ _ _ g _ hn I).mono ?_
    rintro e w1 ⟨rfl, hb1⟩
    rw [hg]
    have hB1 : Below w.heap.size w w1 := bvia (by (repeat' (first | with_reducible assumption | with_reducible exact Below.refl _ _ | with_reducible refine Below.drew ?_ | with_reducible refine below_drewN ?_ _ | with_reducible refine balloc ?_ _ | with_reducible refine bset ?_ ?_ _ | with_reducible refine Below.setCell ?_ ?_ _ | with_reducible refine Below.alloc ?_ ?_ _ | omega | (simp; done) | (simp; omega)))) hb1
    have hc1 := bcell hb1
    have hf1 := bfrozen hb1
    have hz1 := hb1.size
    try simp at hz1
    have hz1a : w.heap.size < w1.heap.size := by omega
    have hz1b : w.heap.size + 1 < w1.heap.size := by omega
    go_wp2_with fail
    have d2 : w1.cell? ⟨w.heap.size, 2, none⟩ = some (.slice a n c) := (hc1 _ _ (by simp <;> omega)).trans ((cell_old _ _ (by simp <;> omega)).trans (cell_new _ _ _ 2 _ rfl))
    have d0 : w1.cell? ⟨w.heap.size + 1, 0, none⟩ = some (.slice none 0 0) := (hc1 _ _ (by simp <;> omega)).trans (by simp [go_sem])
    have d1 : w1.cell? ⟨w.heap.size + 1, 1, none⟩ = some (.slice none 0 0) := (hc1 _ _ (by simp <;> omega)).trans (by simp [go_sem])
    have f0 : w1.frozen? ⟨w.heap.size + 1, 0, none⟩ = false := (hf1 _ _ (by simp <;> omega)).trans (by simp [go_sem])
    have f1 : w1.frozen? ⟨w.heap.size + 1, 1, none⟩ = false := (hf1 _ _ (by simp <;> omega)).trans (by simp [go_sem])
    clear hc1 hf1
    go_region_held3 (fun w' => w'.cell? ⟨w.heap.size, 2, none⟩ = some (.slice a n c)) (simp (maxDischargeDepth := 12) [*, World.cell?_alloc_some, World.cell?_setCell_far]) (fail)
    all_goals go_wp2
    · refine bodyPost_ret (v := .tuple #[.agg #[.slice (some ⟨w1.heap.size, 0, none⟩) n n, .slice (some ⟨w1.heap.size + 1, 0, none⟩) n n], .int .i64 0]) (by simp [results, Try.results18, go_sem, d0, d1, hz1a, hz1b]) rfl (open_end w w1 _ (by rw [size_set, size_set]) (below_mk w w1 hB1 hz1b _ _) n)
    · refine bodyPost_ret (v := .tuple #[.agg #[.slice (some ⟨w1.heap.size + 1, 0, none⟩) n n, .slice (some ⟨w1.heap.size, 0, none⟩) n n], .int .i64 0]) (by simp [results, Try.results18, go_sem, d0, d1, hz1a, hz1b]) rfl (open_end' w w1 _ (by rw [size_set, size_set]) (below_mk w w1 hB1 hz1b _ _) n)
end Go.Proofs.Ytnnaegnkkpknpaa
