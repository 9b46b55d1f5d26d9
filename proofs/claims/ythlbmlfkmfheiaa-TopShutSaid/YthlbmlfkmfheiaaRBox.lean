/- Walks: the reference's Box. -/
import Derived.Test.YthlbmlfkmfheiaaRPut
import Derived.Deep.CutRange
import Derived.Test.YthlbmlfkmfheiaaOpen
namespace Go.Proofs.Ythlbmlfkmfheiaa
open Go.RowKit
attribute [local go_sem ↓] Go.wp_at_zero Go.wp_at_succ
set_option linter.unusedVariables false
theorem Sl.set1 {w : World} {a : Option Addr} {n : Nat} {f : Nat → Int} (h : Sl w a n f) {p : Addr} {x : Option Addr} {y z : Nat} (hp : w.cell? p = some (.slice x y z)) (u : Value) : Sl (w.setCell p u) a n f := fun k hk => by
  obtain ⟨b, o, e, hlt, hc⟩ := h k hk
  refine ⟨b, o, e, by simpa [World.setCell] using hlt, ?_⟩
  rw [World.cell?_setCell_other _ _ _ _ (fun e' => by rw [← e', hp] at hc; cases hc)]
  exact hc
theorem Sl.set2 {w : World} {a : Option Addr} {n : Nat} {f : Nat → Int} (h : Sl w a n f) {b : Nat} {x x' : Option Addr} {y z y' z' : Nat} (X : Bx w b #[.slice x y z, .slice x' y' z']) (u v : Value) : Sl ((w.setCell ⟨b, 0, none⟩ u).setCell ⟨b, 1, none⟩ v) a n f :=
  (h.set1 (X.at_ 0 rfl) u).set1 (p := ⟨b, 1, none⟩) (x := x') (y := y') (z := z') (by rw [World.cell?_setCell_other _ _ _ _ (by simp)]; exact X.at_ 1 rfl) v
/-- the points of a shape -/
def pts2 (p q : Int × Int) : Nat → Int × Int | 0 => p | _ => q
theorem sp_of_bx2 {W : World} {b : Nat} {p q : Int × Int} (h : Bx W b #[.int .i64 p.1, .int .i64 p.2, .int .i64 q.1, .int .i64 q.2]) : Sp W (some ⟨b, 0, none⟩) 2 (pts2 p q) := fun k hk => by
  have : k = 0 ∨ k = 1 := by omega
  rcases this with rfl | rfl
  · exact ⟨b, 0, rfl, h.lt, h.at_ 0 rfl, h.at_ 1 rfl⟩
  · exact ⟨b, 0, rfl, h.lt, h.at_ 2 rfl, h.at_ 3 rfl⟩
theorem sp_of_bx1 {W : World} {b : Nat} {p q : Int × Int} (h : Bx W b #[.int .i64 p.1, .int .i64 p.2]) : Sp W (some ⟨b, 0, none⟩) 1 (pts2 p q) := fun k hk => by
  obtain rfl : k = 0 := by omega
  exact ⟨b, 0, rfl, h.lt, h.at_ 0 rfl, h.at_ 1 rfl⟩
/-- the first error of a shape, or what putting it in gives -/
def ShapePost (e0 : Int) (s : Nat → Int) (body : Int) (n : Nat) (K B : Nat → Int) (w : World) (e : Ending) (w' : World) : Prop :=
  (e0 = 0 → WallPost (putErr s B body n) (putLen s B body n) (putTo s K s n) (putTo s B (fun _ => body) n) w e w') ∧ (e0 ≠ 0 → WallPost e0 0 K B w e w')
theorem readyE_zero {v ok : Bool} {body : Int} (h : readyE v ok body = 0) : v = true ∧ ok = true ∧ within body 1 9 = true := by
  unfold readyE at h
  cases v <;> cases ok <;> cases hw : within body 1 9 <;> simp [hw] at h ⊢
theorem shapePost_err {e0 : Int} {s : Nat → Int} {body : Int} {n : Nat} {K B : Nat → Int} {w w' : World} (h : e0 ≠ 0) (hb : Below w.heap.size w w') : ShapePost e0 s body n K B w (.returned (.tuple #[.agg #[.slice none 0 0, .slice none 0 0], .int .i64 e0])) w' :=
  ⟨fun h' => absurd h' h, fun _ => wallPost_none hb⟩
def boxS (wide : Int) (p q : Int × Int) (kind : Int) (k : Nat) : Int := if betB ((k : Int) % wide) p.1 q.1 && betB ((k : Int) / wide) p.2 q.2 then kind else 0
theorem ro_zrow (w : World) (n : Nat) : Ro (w.alloc (.cells (zrow n) 3)) w.heap.size n (fun _ => 0) :=
  ⟨by simp, fun k hk => by
    rw [cell_of_row (w.alloc (.cells (zrow n) 3)) w.heap.size k (zrow n) 3 (0, 0) (Array.getElem?_push_size ..), zrow_get n k hk], fun i => by simp [go_sem]⟩
def shTo (f : Nat → Int) (k : Nat) : Nat → Int := fun j => if j < k then f j else 0
theorem shTo_set (f : Nat → Int) (k : Nat) : shTo f (k + 1) = upd (shTo f k) k (f k) := by
  funext j; unfold upd shTo
  by_cases e : j = k
  · subst e; simp
  · simp only [if_neg e, show (j < k + 1) = (j < k) from propext ⟨by omega, by omega⟩]
theorem shTo_skip {f : Nat → Int} {k : Nat} (h : f k = 0) : shTo f (k + 1) = shTo f k := by
  funext j; unfold shTo
  by_cases e : j = k
  · subst e; simp [h]
  · simp only [show (j < k + 1) = (j < k) from propext ⟨by omega, by omega⟩]
end Go.Proofs.Ythlbmlfkmfheiaa
