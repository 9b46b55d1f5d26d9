/- Walks: wall.Open and the reference's. -/
import Derived.Test.YthlbmlfkmfheiaaR3Valid
import Derived.Laws.MakeOwn
namespace Go.Proofs.Ythlbmlfkmfheiaa
open Go.RowKit
set_option linter.unusedVariables false
theorem infoInt' : (Try.prog.info? 3).map (fun i => (i.zero, i.size, i.bytes)) = some (some (.int .i64 0), 1, 8) := by kernel_rfl
/-- a row of zeros -/
def zrow (n : Nat) : Array Value := madeCells #[.int .i64 0] n
theorem zrow_get (n k : Nat) (hk : k < n) : (zrow n)[k]? = some (.int .i64 0) := by
  simp [zrow, madeCells, hk, Nat.mod_one]
theorem mk_intsO (n : Nat) (hn : n ≤ 100000000) (w : World) :
    (Instr.makeSlice 25 (.int .i64 (n : Int)) (.int .i64 (n : Int))).run Try.prog w = .ok (.slice (some ⟨w.heap.size, 0, none⟩) n n) (w.alloc (.cells (zrow n) 3)) := by
  obtain ⟨i0, hi, hz0, hz1, hz2⟩ := info_parts infoInt'
  have hr := run_make (P := Try.prog) w 25 3 i0 _ Try.underlying25 hi hz0 .i64 .i64 n n (by omega) (by omega) (by rw [hz2]; omega) (by omega)
  simp only [Int.toNat_natCast, hz1, Nat.mul_one] at hr
  exact hr
theorem sl_zrow (w : World) (n : Nat) : Sl (w.alloc (.cells (zrow n) 3)) (some ⟨w.heap.size, 0, none⟩) n (fun _ => 0) := fun k hk => by
  refine ⟨w.heap.size, 0, rfl, by simp, ?_⟩
  rw [Nat.zero_add]
  have := cell_of_row (w.alloc (.cells (zrow n) 3)) w.heap.size k (zrow n) 3 (0, 0) (Array.getElem?_push_size ..)
  rw [this, zrow_get n k hk]
def OpenPost (ok : Bool) (n : Nat) (w : World) (e : Ending) (w' : World) : Prop :=
  ∃ a a' : Option Addr, ∃ m c c' : Nat, e = .returned (.tuple #[.agg #[.slice a m c, .slice a' m c'], .int .i64 (if ok then 0 else 1)]) ∧ m = (if ok then n else 0) ∧ Sl w' a m (fun _ => 0) ∧ Sl w' a' m (fun _ => 0) ∧ Below w.heap.size w w'
theorem open_end (w w1 W0 : World) (hs : W0.heap.size = w1.heap.size) (hB : Below w.heap.size w W0) (n : Nat) :
    OpenPost true n w (.returned (.tuple #[.agg #[.slice (some ⟨w1.heap.size, 0, none⟩) n n, .slice (some ⟨w1.heap.size + 1, 0, none⟩) n n], .int .i64 0])) ((W0.alloc (.cells (zrow n) 3)).alloc (.cells (zrow n) 3)).drew := by
  rw [← hs]
  have h2 := sl_zrow (W0.alloc (.cells (zrow n) 3)) n
  rw [World.size_alloc] at h2
  exact ⟨_, _, n, n, n, rfl, rfl, (sl_zrow W0 n).alloc _, h2, by (repeat' (first | with_reducible assumption | with_reducible exact Below.refl _ _ | with_reducible refine Below.drew ?_ | with_reducible refine below_drewN ?_ _ | with_reducible refine balloc ?_ _ | with_reducible refine bset ?_ ?_ _ | with_reducible refine Below.setCell ?_ ?_ _ | with_reducible refine Below.alloc ?_ ?_ _ | omega | (simp; done) | (simp; omega)))⟩
theorem open_end' (w w1 W0 : World) (hs : W0.heap.size = w1.heap.size) (hB : Below w.heap.size w W0) (n : Nat) :
    OpenPost true n w (.returned (.tuple #[.agg #[.slice (some ⟨w1.heap.size + 1, 0, none⟩) n n, .slice (some ⟨w1.heap.size, 0, none⟩) n n], .int .i64 0])) ((W0.alloc (.cells (zrow n) 3)).alloc (.cells (zrow n) 3)).drew := by
  rw [← hs]
  have h2 := sl_zrow (W0.alloc (.cells (zrow n) 3)) n
  rw [World.size_alloc] at h2
  exact ⟨_, _, n, n, n, rfl, rfl, h2, (sl_zrow W0 n).alloc _, by (repeat' (first | with_reducible assumption | with_reducible exact Below.refl _ _ | with_reducible refine Below.drew ?_ | with_reducible refine below_drewN ?_ _ | with_reducible refine balloc ?_ _ | with_reducible refine bset ?_ ?_ _ | with_reducible refine Below.setCell ?_ ?_ _ | with_reducible refine Below.alloc ?_ ?_ _ | omega | (simp; done) | (simp; omega)))⟩
theorem size_set (w : World) (p : Addr) (u : Value) : (w.setCell p u).heap.size = w.heap.size := by simp [World.setCell]
theorem below_mk (w W0 : World) (h : Below w.heap.size w W0) (hs : w.heap.size + 1 < W0.heap.size) (u v : Value) : Below w.heap.size w ((W0.setCell ⟨w.heap.size + 1, 0, none⟩ u).setCell ⟨w.heap.size + 1, 1, none⟩ v) := by
  refine bset (bset h (by simp) _) (by simp) _
end Go.Proofs.Ythlbmlfkmfheiaa
