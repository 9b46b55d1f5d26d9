/- Walks: lists of ints that are made by append: the reference's own; wall.Cells, ref.Cells. Walks: wall.Cells and the reference's. Walks: the reference's Bodies and wall.Bodies. -/
import Derived.Test.YtmmjaobpoiofdaaGreatR3Valid
import Derived.Test.YtmmjaobpoiofdaaGreatCRow
import Derived.Laws.MakeOwn
import Derived.Maps.AppendAt
import Derived.Maps.OwnOps
import Derived.Maps.OwnSet
namespace Go.Proofs.YtmmjaobpoiofdaaGreat
open Go.RowKit
set_option linter.unusedVariables false
/-- the places below n at which B is the body -/
def ownL (B : Nat → Int) (body : Int) : Nat → List Int
  | 0 => []
  | k + 1 => if B k = body then ownL B body k ++ [(k : Int)] else ownL B body k
theorem ownL_length (B : Nat → Int) (body : Int) : ∀ n, (ownL B body n).length ≤ n
  | 0 => by simp [ownL]
  | k + 1 => by have := ownL_length B body k; simp only [ownL]; split <;> simp <;> omega
end Go.Proofs.YtmmjaobpoiofdaaGreat
namespace Go.Proofs.YtmmjaobpoiofdaaGreat
open Go.RowKit
set_option linter.unusedVariables false
def cellsL (ok : Bool) (B : Nat → Int) (body : Int) (n : Nat) : List Int := if ok && within body 1 9 then ownL B body n else []
def cellsE (ok : Bool) (body : Int) : Int := if ok then (if within body 1 9 then 0 else 7) else 1
theorem cells_no {B : Nat → Int} {body : Int} {n : Nat} (h : within body 1 9 = false) : cellsL true B body n = [] ∧ cellsE true body = 7 := by simp [cellsL, cellsE, h]
theorem cells_yes {B : Nat → Int} {body : Int} {n : Nat} (h : within body 1 9 = true) : cellsL true B body n = ownL B body n ∧ cellsE true body = 0 := by simp [cellsL, cellsE, h]
end Go.Proofs.YtmmjaobpoiofdaaGreat
namespace Go.Proofs.YtmmjaobpoiofdaaGreat
open Go.RowKit Go.Maps
set_option linter.unusedVariables false
/-- the bodies among 1 .. k -/
def bodTo (B : Nat → Int) (n : Nat) : Nat → List Int
  | 0 => []
  | k + 1 => if 0 < (ownL B ((k : Int) + 1) n).length then bodTo B n k ++ [(k : Int) + 1] else bodTo B n k
theorem bodTo_length (B : Nat → Int) (n : Nat) : ∀ k, (bodTo B n k).length ≤ k
  | 0 => by simp [bodTo]
  | k + 1 => by have := bodTo_length B n k; simp only [bodTo]; split <;> simp <;> omega
def bodL (ok : Bool) (B : Nat → Int) (n : Nat) : List Int := if ok then bodTo B n 9 else []
theorem zeroInt (w : World) : (zeroValue 3).run Tryz.prog w = .ok (.int .i64 0) w := by kernel_rfl
theorem keyedInt : Keyed Tryz.prog 3 := int_keyed Tryz.underlying3
/-- the map counts each number among the first k -/
def Counts (B : Nat → Int) (k : Nat) (D : DataW Unit) : Prop := ∀ x : Int, (Lit.int .i64 x).wf = true → D.atKey (.int .i64 x) (.lit (.int .i64 0)) = .lit (.int .i64 ((ownL B x k).length : Int))
theorem counts_zero (B : Nat → Int) : Counts B 0 (.map []) := fun x _ => by simp [ownL, DataW.atKey]
theorem lit_inj {a b : Int} (h : (DataW.lit (.int .i64 a) : DataW Unit) = .lit (.int .i64 b)) : a = b := by
  injection h with h
  injection h
theorem map_below {w w' : World} {b k : Nat} {D : DataW Unit} (h : w.ownsMap Tryz.prog 3 (plainElem Tryz.prog 3) b k D) (hb : Below w.heap.size w w') : w'.ownsMap Tryz.prog 3 (plainElem Tryz.prog 3) b k D := by
  obtain ⟨es, clock, h1, h2⟩ := h
  refine ⟨es, clock, ?_, h2⟩
  rw [hb.block b ?_]
  · exact h1
  · rcases Nat.lt_or_ge b w.heap.size with h' | h'
    · exact h'
    · rw [Array.getElem?_eq_none h'] at h1; cases h1
theorem counts_step {B : Nat → Int} {k : Nat} {D : DataW Unit} (hm : IsMap D) (h : Counts B k D) {c : Int} (hw : (Lit.int .i64 (B k)).wf = true) (hat : D.atKey (.int .i64 (B k)) (.lit (.int .i64 0)) = .lit (.int .i64 c)) :
    c = (ownL B (B k) k).length ∧ Counts B (k + 1) (D.put (.int .i64 (B k)) (.lit (.int .i64 (c + 1)))) := by
  have hc : c = (ownL B (B k) k).length := by
    have := hat.symm.trans (h (B k) hw)
    injection this with this
    injection this
  refine ⟨hc, fun x hx => ?_⟩
  by_cases e : x = B k
  · subst e
    rw [atKey_put_same hm (by trivial)]
    simp [ownL, hc]
  · rw [atKey_put_other (by intro h'; injection h' with _ h'; exact e h'), h x hx]
    rw [show ownL B x (k + 1) = ownL B x k from if_neg (fun h' => e h'.symm)]
end Go.Proofs.YtmmjaobpoiofdaaGreat
