/- Plain words: a row of bools of the call's own; the reference's From: from which place particles come. -/
import Derived.Test.YthlbmlfkmfheiaaReach
import Derived.Test.YthlbmlfkmfheiaaFrom
import Derived.Test.YthlbmlfkmfheiaaOn
import Derived.Test.YthlbmlfkmfheiaaIter
import Derived.Laws.MakeOwn
namespace Go.Proofs.Ythlbmlfkmfheiaa
open Go.RowKit
set_option linter.unusedVariables false
/-- a row of n bools of the call's own -/
structure Rb (W : World) (b n : Nat) (f : Nat → Bool) : Prop where
  lt : b < W.heap.size
  cells : ∀ k, k < n → W.cell? ⟨b, k, none⟩ = some (.bool (f k))
  free : ∀ i, W.frozen? ⟨b, i, none⟩ = false
theorem Rb.below {W W' : World} {b n : Nat} {f : Nat → Bool} (h : Rb W b n f) (hb : Below W.heap.size W W') : Rb W' b n f :=
  ⟨by have := hb.size; have := h.1; omega, fun k hk => (bcell hb _ _ h.1).trans (h.2 k hk), fun i => (bfrozen hb _ _ h.1).trans (h.3 i)⟩
theorem Rb.alloc {W : World} {b n : Nat} {f : Nat → Bool} (h : Rb W b n f) (o : Obj) : Rb (W.alloc o) b n f := h.below ((Below.refl _ W).alloc (Nat.le_refl _) o)
theorem Rb.drew {W : World} {b n : Nat} {f : Nat → Bool} (h : Rb W b n f) : Rb W.drew b n f := ⟨h.1, h.2, h.3⟩
theorem Rb.drewN {W : World} {b n : Nat} {f : Nat → Bool} (h : Rb W b n f) (k : Nat) : Rb (W.drewN k) b n f := ⟨h.1, h.2, h.3⟩
theorem Rb.set_ {W : World} {b n : Nat} {f : Nat → Bool} (h : Rb W b n f) (j : Nat) : Rb (W.setCell ⟨b, j, none⟩ (.bool true)) b n (putM f j) := by
  refine ⟨by simpa [World.setCell] using h.1, fun k hk => ?_, fun i => by rw [World.frozen?_setCell]; exact h.3 i⟩
  by_cases e : k = j
  · subst e
    rw [World.cell?_setCell_same' _ _ _ (by rw [h.2 k hk]; rfl)]
    simp [putM]
  · rw [World.cell?_setCell_other _ _ _ _ (fun e' => e (by injection e' with _ e2 _; exact e2.symm)), h.2 k hk]
    simp [putM, e]
theorem infoB : (Try.prog.info? 4).map (fun i => (i.zero, i.size, i.bytes)) = some (some (.bool false), 1, 1) := by kernel_rfl
def frow (n : Nat) : Array Value := madeCells #[.bool false] n
theorem mk_bools (n : Nat) (hn : n ≤ 100000000) (w : World) :
    (Instr.makeSlice 37 (.int .i64 (n : Int)) (.int .i64 (n : Int))).run Try.prog w = .ok (.slice (some ⟨w.heap.size, 0, none⟩) n n) (w.alloc (.cells (frow n) 4)) := by
  obtain ⟨i0, hi, hz0, hz1, hz2⟩ := info_parts infoB
  have hr := run_make (P := Try.prog) w 37 4 i0 _ Try.underlying37 hi hz0 .i64 .i64 n n (by omega) (by omega) (by rw [hz2]; omega) (by omega)
  simp only [Int.toNat_natCast, hz1, Nat.mul_one] at hr
  exact hr
theorem frow_get (n k : Nat) (hk : k < n) : (frow n)[k]? = some (.bool false) := by
  simp [frow, madeCells, hk, Nat.mod_one]
theorem rb_frow (w : World) (n : Nat) : Rb (w.alloc (.cells (frow n) 4)) w.heap.size n (fun _ => false) :=
  ⟨by simp, fun k hk => by
    rw [cell_of_row (w.alloc (.cells (frow n) 4)) w.heap.size k (frow n) 4 (0, 0) (Array.getElem?_push_size ..), frow_get n k hk], fun i => by simp [go_sem]⟩
end Go.Proofs.Ythlbmlfkmfheiaa
