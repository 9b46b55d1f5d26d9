/- Walks: sending: wall.sent, wall.Sent, the reference's. -/
import Derived.Test.YtnnaegnkkpknpaaCell
import Derived.Handy
namespace Go.Proofs.Ytnnaegnkkpknpaa
open Go.RowKit
/-- a cell after a kind of wall -/
def sentC (c : C4) (k : Int) : C4 :=
  if k = 1 then ⟨c.w, c.s, c.e, c.n⟩ else if k = 2 then ⟨c.n, c.e, c.s, c.w⟩ else if k = 3 then ⟨c.s, c.w, c.n, c.e⟩ else c
/-- [4]int at its four places -/
theorem idx4 (a0 a1 a2 a3 : Value) : ∀ (w : World),
  (Instr.index 31 (.agg #[a0, a1, a2, a3]) (.int .i64 0)).run Try.prog w = .ok a0 w ∧
  (Instr.index 31 (.agg #[a0, a1, a2, a3]) (.int .i64 1)).run Try.prog w = .ok a1 w ∧
  (Instr.index 31 (.agg #[a0, a1, a2, a3]) (.int .i64 2)).run Try.prog w = .ok a2 w ∧
  (Instr.index 31 (.agg #[a0, a1, a2, a3]) (.int .i64 3)).run Try.prog w = .ok a3 w := fun w => by
  refine ⟨?_, ?_, ?_, ?_⟩ <;> kernel_rfl
set_option maxRecDepth 100000 in
set_option maxHeartbeats 2000000 in
theorem wall_sent_0 (c : C4) (w : World) : Calls Try.prog 69 #[.agg #[.int .i64 c.e, .int .i64 c.n, .int .i64 c.w, .int .i64 c.s], .int .i64 0] w
    fun e w' => e = .returned (sentC c 0).val ∧ Below w.heap.size w w' := by
  have hi := idx4 (.int .i64 c.e) (.int .i64 c.n) (.int .i64 c.w) (.int .i64 c.s)
  have hT : ∀ (w : World), (Instr.index 160 (.agg #[.int .i64 0, .int .i64 1, .int .i64 2, .int .i64 3, .int .i64 2, .int .i64 3, .int .i64 0, .int .i64 1, .int .i64 1, .int .i64 0, .int .i64 3, .int .i64 2, .int .i64 3, .int .i64 2, .int .i64 1, .int .i64 0]) (.int .i64 0)).run Try.prog w = .ok (.agg #[.int .i64 0, .int .i64 1, .int .i64 2, .int .i64 3]) w := fun _ => by kernel_rfl
  go_enter Try.func69, Try.ntmps69
  go_wp2
  go_rounds 5
  refine bodyPost_ret (v := (sentC c 0).val) (by simp [results, Try.results69, go_sem, sentC, C4.val]) rfl ⟨rfl, ?_⟩
  repeat' (first | exact Below.refl _ _ | refine Below.alloc ?_ (by simp <;> omega) _ | refine Below.setCell ?_ (by simp <;> omega) _)
set_option maxRecDepth 100000 in
set_option maxHeartbeats 2000000 in
theorem wall_sent_1 (c : C4) (w : World) : Calls Try.prog 69 #[.agg #[.int .i64 c.e, .int .i64 c.n, .int .i64 c.w, .int .i64 c.s], .int .i64 1] w
    fun e w' => e = .returned (sentC c 1).val ∧ Below w.heap.size w w' := by
  have hi := idx4 (.int .i64 c.e) (.int .i64 c.n) (.int .i64 c.w) (.int .i64 c.s)
  have hT : ∀ (w : World), (Instr.index 160 (.agg #[.int .i64 0, .int .i64 1, .int .i64 2, .int .i64 3, .int .i64 2, .int .i64 3, .int .i64 0, .int .i64 1, .int .i64 1, .int .i64 0, .int .i64 3, .int .i64 2, .int .i64 3, .int .i64 2, .int .i64 1, .int .i64 0]) (.int .i64 1)).run Try.prog w = .ok (.agg #[.int .i64 2, .int .i64 3, .int .i64 0, .int .i64 1]) w := fun _ => by kernel_rfl
  go_enter Try.func69, Try.ntmps69
  go_wp2
  go_rounds 5
  refine bodyPost_ret (v := (sentC c 1).val) (by simp [results, Try.results69, go_sem, sentC, C4.val]) rfl ⟨rfl, ?_⟩
  repeat' (first | exact Below.refl _ _ | refine Below.alloc ?_ (by simp <;> omega) _ | refine Below.setCell ?_ (by simp <;> omega) _)
set_option maxRecDepth 100000 in
set_option maxHeartbeats 2000000 in
theorem wall_sent_2 (c : C4) (w : World) : Calls Try.prog 69 #[.agg #[.int .i64 c.e, .int .i64 c.n, .int .i64 c.w, .int .i64 c.s], .int .i64 2] w
    fun e w' => e = .returned (sentC c 2).val ∧ Below w.heap.size w w' := by
  have hi := idx4 (.int .i64 c.e) (.int .i64 c.n) (.int .i64 c.w) (.int .i64 c.s)
  have hT : ∀ (w : World), (Instr.index 160 (.agg #[.int .i64 0, .int .i64 1, .int .i64 2, .int .i64 3, .int .i64 2, .int .i64 3, .int .i64 0, .int .i64 1, .int .i64 1, .int .i64 0, .int .i64 3, .int .i64 2, .int .i64 3, .int .i64 2, .int .i64 1, .int .i64 0]) (.int .i64 2)).run Try.prog w = .ok (.agg #[.int .i64 1, .int .i64 0, .int .i64 3, .int .i64 2]) w := fun _ => by kernel_rfl
  go_enter Try.func69, Try.ntmps69
  go_wp2
  go_rounds 5
  refine bodyPost_ret (v := (sentC c 2).val) (by simp [results, Try.results69, go_sem, sentC, C4.val]) rfl ⟨rfl, ?_⟩
  repeat' (first | exact Below.refl _ _ | refine Below.alloc ?_ (by simp <;> omega) _ | refine Below.setCell ?_ (by simp <;> omega) _)
set_option maxRecDepth 100000 in
set_option maxHeartbeats 2000000 in
theorem wall_sent_3 (c : C4) (w : World) : Calls Try.prog 69 #[.agg #[.int .i64 c.e, .int .i64 c.n, .int .i64 c.w, .int .i64 c.s], .int .i64 3] w
    fun e w' => e = .returned (sentC c 3).val ∧ Below w.heap.size w w' := by
  have hi := idx4 (.int .i64 c.e) (.int .i64 c.n) (.int .i64 c.w) (.int .i64 c.s)
  have hT : ∀ (w : World), (Instr.index 160 (.agg #[.int .i64 0, .int .i64 1, .int .i64 2, .int .i64 3, .int .i64 2, .int .i64 3, .int .i64 0, .int .i64 1, .int .i64 1, .int .i64 0, .int .i64 3, .int .i64 2, .int .i64 3, .int .i64 2, .int .i64 1, .int .i64 0]) (.int .i64 3)).run Try.prog w = .ok (.agg #[.int .i64 3, .int .i64 2, .int .i64 1, .int .i64 0]) w := fun _ => by kernel_rfl
  go_enter Try.func69, Try.ntmps69
  go_wp2
  go_rounds 5
  refine bodyPost_ret (v := (sentC c 3).val) (by simp [results, Try.results69, go_sem, sentC, C4.val]) rfl ⟨rfl, ?_⟩
  repeat' (first | exact Below.refl _ _ | refine Below.alloc ?_ (by simp <;> omega) _ | refine Below.setCell ?_ (by simp <;> omega) _)
theorem wall_sent (c : C4) (w : World) (kind : Int) (h0 : 0 ≤ kind) (h3 : kind ≤ 3) : Calls Try.prog 69 #[.agg #[.int .i64 c.e, .int .i64 c.n, .int .i64 c.w, .int .i64 c.s], .int .i64 kind] w
    fun e w' => e = .returned (.agg #[.int .i64 (sentC c kind).e, .int .i64 (sentC c kind).n, .int .i64 (sentC c kind).w, .int .i64 (sentC c kind).s]) ∧ Below w.heap.size w w' := by
  have : kind = 0 ∨ kind = 1 ∨ kind = 2 ∨ kind = 3 := by omega
  rcases this with rfl | rfl | rfl | rfl
  · exact wall_sent_0 c w
  · exact wall_sent_1 c w
  · exact wall_sent_2 c w
  · exact wall_sent_3 c w
end Go.Proofs.Ytnnaegnkkpknpaa
