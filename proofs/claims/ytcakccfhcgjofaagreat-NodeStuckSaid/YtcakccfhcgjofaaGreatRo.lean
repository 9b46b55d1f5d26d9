/- Plain words: a row of ints of the call's own, known as a function, that may be written; how it is made. -/
import Derived.Test.YtcakccfhcgjofaaGreatLists
namespace Go.Proofs.YtcakccfhcgjofaaGreat
open Go.RowKit
set_option linter.unusedVariables false
def upd (f : Nat → Int) (i : Nat) (v : Int) : Nat → Int := fun k => if k = i then v else f k
structure Ro (W : World) (b n : Nat) (f : Nat → Int) : Prop where
  lt : b < W.heap.size
  cells : ∀ k, k < n → W.cell? ⟨b, k, none⟩ = some (.int .i64 (f k))
  free : ∀ i, W.frozen? ⟨b, i, none⟩ = false
theorem Ro.below {W W' : World} {b n : Nat} {f : Nat → Int} (h : Ro W b n f) (hb : Below W.heap.size W W') : Ro W' b n f :=
  ⟨by have := hb.size; have := h.1; omega, fun k hk => (bcell hb _ _ h.1).trans (h.2 k hk), fun i => (bfrozen hb _ _ h.1).trans (h.3 i)⟩
theorem Ro.alloc {W : World} {b n : Nat} {f : Nat → Int} (h : Ro W b n f) (o : Obj) : Ro (W.alloc o) b n f := h.below ((Below.refl _ W).alloc (Nat.le_refl _) o)
theorem Ro.drew {W : World} {b n : Nat} {f : Nat → Int} (h : Ro W b n f) : Ro W.drew b n f := ⟨h.1, h.2, h.3⟩
theorem Ro.drewN {W : World} {b n : Nat} {f : Nat → Int} (h : Ro W b n f) (k : Nat) : Ro (W.drewN k) b n f := ⟨h.1, h.2, h.3⟩
theorem Ro.far {W : World} {b n : Nat} {f : Nat → Int} (h : Ro W b n f) {p : Addr} (hp : p.block ≠ b) (u : Value) : Ro (W.setCell p u) b n f :=
  ⟨by simpa [World.setCell] using h.1, fun k hk => by rw [World.cell?_setCell_other _ _ _ _ (fun e => hp (by rw [e]))]; exact h.2 k hk, fun i => by rw [World.frozen?_setCell]; exact h.3 i⟩
theorem Ro.set_ {W : World} {b n : Nat} {f : Nat → Int} (h : Ro W b n f) (j : Nat) (v : Int) : Ro (W.setCell ⟨b, j, none⟩ (.int .i64 v)) b n (upd f j v) := by
  refine ⟨by simpa [World.setCell] using h.1, fun k hk => ?_, fun i => by rw [World.frozen?_setCell]; exact h.3 i⟩
  by_cases e : k = j
  · subst e
    rw [World.cell?_setCell_same' _ _ _ (by rw [h.2 k hk]; rfl)]
    simp [upd]
  · rw [World.cell?_setCell_other _ _ _ _ (fun e' => e (by injection e' with _ e2 _; exact e2.symm)), h.2 k hk]
    simp [upd, e]
theorem Ro.sl {W : World} {b n : Nat} {f : Nat → Int} (h : Ro W b n f) : Sl W (some ⟨b, 0, none⟩) n f := fun k hk => ⟨b, 0, rfl, h.1, by rw [Nat.zero_add]; exact h.2 k hk⟩
theorem Ro.congr {W : World} {b n : Nat} {f g : Nat → Int} (h : Ro W b n f) (e : ∀ k, k < n → f k = g k) : Ro W b n g := ⟨h.1, fun k hk => by rw [h.2 k hk, e k hk], h.3⟩
theorem upd_upd (f : Nat → Int) (i : Nat) (x y : Int) : upd (upd f i x) i y = upd f i y := by funext k; unfold upd; split <;> rfl
/-- the first k places as F says, 0 behind them -/
def rowTo (F : Nat → Int) (k : Nat) : Nat → Int := fun j => if j < k then F j else 0
theorem rowTo_zero (F : Nat → Int) : rowTo F 0 = fun _ => 0 := by funext j; simp [rowTo]
theorem rowTo_succ (F : Nat → Int) (k : Nat) : rowTo F (k + 1) = upd (rowTo F k) k (F k) := by
  funext j; unfold upd rowTo
  by_cases e : j = k
  · subst e; simp
  · simp only [if_neg e, show (j < k + 1) = (j < k) from propext ⟨by omega, by omega⟩]
def zcells (n : Nat) : Array Value := madeCells #[.int .i64 0] n
theorem zcells_get (n k : Nat) (hk : k < n) : (zcells n)[k]? = some (.int .i64 0) := by
  simp [zcells, madeCells, hk, Nat.mod_one]
theorem mk_ints (n : Nat) (l : Int) (hl : l = n) (hn : n ≤ 100000000) (w : World) :
    (Instr.makeSlice 25 (.int .i64 l) (.int .i64 l)).run Tryz.prog w = .ok (.slice (some ⟨w.heap.size, 0, none⟩) n n) (w.alloc (.cells (zcells n) 3)) := by
  subst hl
  obtain ⟨i0, hi, hz0, hz1, hz2⟩ := info_parts infoI
  have hr := run_make (P := Tryz.prog) w 25 3 i0 _ Tryz.underlying25 hi hz0 .i64 .i64 n n (by omega) (by omega) (by rw [hz2]; omega) (by omega)
  simp only [Int.toNat_natCast, hz1, Nat.mul_one] at hr
  exact hr
theorem ro_made (w : World) (n : Nat) : Ro (w.alloc (.cells (zcells n) 3)) w.heap.size n (fun _ => 0) :=
  ⟨by simp, fun k hk => by
    rw [cell_of_row (w.alloc (.cells (zcells n) 3)) w.heap.size k (zcells n) 3 (0, 0) (Array.getElem?_push_size ..), zcells_get n k hk], fun i => by simp [go_sem]⟩
end Go.Proofs.YtcakccfhcgjofaaGreat
