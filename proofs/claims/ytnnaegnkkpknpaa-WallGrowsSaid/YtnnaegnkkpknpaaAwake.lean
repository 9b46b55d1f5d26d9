/- Walks: awake. -/
import Derived.Test.YtnnaegnkkpknpaaSent3
import Derived.Laws.StructEq
import Derived.ChangeKeysEq
namespace Go.Proofs.Ytnnaegnkkpknpaa
open Go.RowKit
set_option linter.unusedVariables false
theorem awake_sent (w : World) : Calls Try.prog 22 #[.agg #[.int .i64 1, .int .i64 0, .int .i64 2, .int .i64 0], .int .i64 2] w
    fun e w' => e = .returned (.tuple #[.agg #[.int .i64 0, .int .i64 1, .int .i64 0, .int .i64 2], .int .i64 0]) ∧ Below w.heap.size w w' :=
  (wall_Sent ⟨1, 0, 2, 0⟩ w 2).mono fun e w' h => h
theorem infoInt : (Try.prog.info? 3).map (fun i => (i.zero, i.size, i.bytes)) = some (some (.int .i64 0), 1, 8) := by kernel_rfl
theorem cellsInt : Try.prog.cellsOf 3 = 1 := by kernel_rfl
theorem equalIn_int (d : Nat) (a b : Int) (w : World) : (Op.equalIn (d + 1) 3 (.int .i64 a) (.int .i64 b)).run Try.prog w = .ok (a == b) w := by
  simp [Op.equalIn, run_underlying Try.underlying3]
theorem equalIn_cell (n : Nat) (a b c d e f g h : Int) (w : World) : (Op.equalIn (n + 2) 31 (.agg #[.int .i64 a, .int .i64 b, .int .i64 c, .int .i64 d]) (.agg #[.int .i64 e, .int .i64 f, .int .i64 g, .int .i64 h])).run Try.prog w
    = .ok (a == e && (b == f && (c == g && d == h))) w := by
  obtain ⟨i0, hi, hz0, hz1, hz2⟩ := info_parts infoInt
  rw [run_equalIn_array w (n + 1) _ _ Try.underlying31 hi, cellsInt]
  have hp : ∀ (cs : Array Value) (j : Nat) (v : Value), cs[j]? = some v → ∀ (w : World), (part 3 cs j).run Try.prog w = .ok v w := by
    intro cs j v hv w
    simp [part, hv, go_sem]
  have h0 := hp #[.int .i64 a, .int .i64 b, .int .i64 c, .int .i64 d] 0 (.int .i64 a) rfl
  have h1 := hp #[.int .i64 a, .int .i64 b, .int .i64 c, .int .i64 d] 1 (.int .i64 b) rfl
  have h2 := hp #[.int .i64 a, .int .i64 b, .int .i64 c, .int .i64 d] 2 (.int .i64 c) rfl
  have h3 := hp #[.int .i64 a, .int .i64 b, .int .i64 c, .int .i64 d] 3 (.int .i64 d) rfl
  have k0 := hp #[.int .i64 e, .int .i64 f, .int .i64 g, .int .i64 h] 0 (.int .i64 e) rfl
  have k1 := hp #[.int .i64 e, .int .i64 f, .int .i64 g, .int .i64 h] 1 (.int .i64 f) rfl
  have k2 := hp #[.int .i64 e, .int .i64 f, .int .i64 g, .int .i64 h] 2 (.int .i64 g) rfl
  have k3 := hp #[.int .i64 e, .int .i64 f, .int .i64 g, .int .i64 h] 3 (.int .i64 h) rfl
  simp only [Op.eqItems, List.range, List.range.loop, Nat.mul_one, Sem.run_bind, h0, h1, h2, h3, k0, k1, k2, k3, Result.andThen_ok, equalIn_int, Sem.run_ite, Sem.run_pure]
  cases (a == e) <;> cases (b == f) <;> cases (c == g) <;> cases (d == h) <;> rfl
theorem eql_cell (a b c d e f g h : Int) (w : World) : (binOp .eql 31 (.agg #[.int .i64 a, .int .i64 b, .int .i64 c, .int .i64 d]) (.agg #[.int .i64 e, .int .i64 f, .int .i64 g, .int .i64 h])).run Try.prog w
    = .ok (.bool (a == e && (b == f && (c == g && d == h)))) w := by
  simp only [binOp]
  simp [Op.equal, Op.maxDepth, equalIn_cell 9998]
theorem neq_cell (a b c d e f g h : Int) (w : World) : (binOp .neq 31 (.agg #[.int .i64 a, .int .i64 b, .int .i64 c, .int .i64 d]) (.agg #[.int .i64 e, .int .i64 f, .int .i64 g, .int .i64 h])).run Try.prog w
    = .ok (.bool (!(a == e && (b == f && (c == g && d == h))))) w := by
  simp only [binOp]
  simp [Op.equal, Op.maxDepth, equalIn_cell 9998]
set_option maxRecDepth 100000 in
theorem awake_true (w : World) : Calls Try.prog 16 #[] w fun e w' => e = .returned (.bool true) ∧ Below w.heap.size w w' := by
  have heq := eql_cell 0 1 0 2 0 1 0 2
  go_enter Try.func16, Try.ntmps16
  go_wp2_with fail
  refine (awake_sent _).mono ?_
  rintro e w1 ⟨rfl, hb1⟩
  go_wp2
  go_ret
  exact ⟨rfl, by (repeat' (first | with_reducible assumption | with_reducible exact Below.refl _ _ | with_reducible refine Below.drew ?_ | with_reducible refine below_drewN ?_ _ | with_reducible refine balloc ?_ _ | with_reducible refine bset ?_ ?_ _ | omega | (simp; done) | (simp; omega)))⟩
end Go.Proofs.Ytnnaegnkkpknpaa
