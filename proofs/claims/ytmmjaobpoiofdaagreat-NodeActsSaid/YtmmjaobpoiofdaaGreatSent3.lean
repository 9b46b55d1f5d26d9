/- Walks: sending: wall.sent, wall.Sent, the reference's. Walks: sending: the reference's. Walks: wall.Sent and the reference's Sent; awake. Walks: awake. -/
import Derived.Test.YtmmjaobpoiofdaaGreatCell
import Derived.Handy
import Derived.Laws.StructEq
import Derived.ChangeKeysEq
namespace Go.Proofs.YtmmjaobpoiofdaaGreat
open Go.RowKit
/-- a cell after a kind of wall -/
def sentC (c : C4) (k : Int) : C4 :=
  if k = 1 then ⟨c.w, c.s, c.e, c.n⟩ else if k = 2 then ⟨c.n, c.e, c.s, c.w⟩ else if k = 3 then ⟨c.s, c.w, c.n, c.e⟩ else c
/-- [4]int at its four places -/
theorem idx4 (a0 a1 a2 a3 : Value) : ∀ (w : World),
  (Instr.index 80 (.agg #[a0, a1, a2, a3]) (.int .i64 0)).run Tryz.prog w = .ok a0 w ∧
  (Instr.index 80 (.agg #[a0, a1, a2, a3]) (.int .i64 1)).run Tryz.prog w = .ok a1 w ∧
  (Instr.index 80 (.agg #[a0, a1, a2, a3]) (.int .i64 2)).run Tryz.prog w = .ok a2 w ∧
  (Instr.index 80 (.agg #[a0, a1, a2, a3]) (.int .i64 3)).run Tryz.prog w = .ok a3 w := fun w => by
  refine ⟨?_, ?_, ?_, ?_⟩ <;> kernel_rfl
end Go.Proofs.YtmmjaobpoiofdaaGreat
namespace Go.Proofs.YtmmjaobpoiofdaaGreat
open Go.RowKit
set_option linter.unusedVariables false
theorem ref2_opposite (d : Int) (h0 : 0 ≤ d) (h4 : d < 4) (w : World) : Calls Tryz.prog 89 #[.int .i64 d] w fun e w' => e = .returned (.int .i64 ((d + 2) % 4)) ∧ w = w' := by
  go_enter Tryz.func89, Tryz.ntmps89
  go_wp2
  go_ret
  exact ⟨rfl, rfl⟩
/-- the direction in which a kind of wall sends -/
def wayD (kind d : Int) : Int := if kind = 1 then (d + 2) % 4 else if kind = 2 then bits .xor .i64 d 1 else if kind = 3 then 3 - d else d
end Go.Proofs.YtmmjaobpoiofdaaGreat
namespace Go.Proofs.YtmmjaobpoiofdaaGreat
open Go.RowKit
set_option linter.unusedVariables false
def sentR (c : C4) (kind : Int) : C4 := if validC c && within kind 0 3 then sentC c kind else C4.zero
def sentE (c : C4) (kind : Int) : Int := if validC c then (if within kind 0 3 then 0 else 7) else 1
end Go.Proofs.YtmmjaobpoiofdaaGreat
namespace Go.Proofs.YtmmjaobpoiofdaaGreat
open Go.RowKit
set_option linter.unusedVariables false
theorem infoInt : (Tryz.prog.info? 3).map (fun i => (i.zero, i.size, i.bytes)) = some (some (.int .i64 0), 1, 8) := by kernel_rfl
theorem cellsInt : Tryz.prog.cellsOf 3 = 1 := by kernel_rfl
theorem equalIn_int (d : Nat) (a b : Int) (w : World) : (Op.equalIn (d + 1) 3 (.int .i64 a) (.int .i64 b)).run Tryz.prog w = .ok (a == b) w := by
  simp [Op.equalIn, run_underlying Tryz.underlying3]
theorem equalIn_cell (n : Nat) (a b c d e f g h : Int) (w : World) : (Op.equalIn (n + 2) 80 (.agg #[.int .i64 a, .int .i64 b, .int .i64 c, .int .i64 d]) (.agg #[.int .i64 e, .int .i64 f, .int .i64 g, .int .i64 h])).run Tryz.prog w
    = .ok (a == e && (b == f && (c == g && d == h))) w := by
  obtain ⟨i0, hi, hz0, hz1, hz2⟩ := info_parts infoInt
  rw [run_equalIn_array w (n + 1) _ _ Tryz.underlying80 hi, cellsInt]
  have hp : ∀ (cs : Array Value) (j : Nat) (v : Value), cs[j]? = some v → ∀ (w : World), (part 3 cs j).run Tryz.prog w = .ok v w := by
    intro cs j v hv w
    simp [part, hv, go_sem]
  have h0 := hp #[.int .i64 a, .int .i64 b, .int .i64 c, .int .i64 d] 0 (.int .i64 a) rfl
  have h1 := hp #[.int .i64 a, .int .i64 b, .int .i64 c, .int .i64 d] 1 (.int .i64 b) rfl
  have h2 := hp #[.int .i64 a, .int .i64 b, .int .i64 c, .int .i64 d] 2 (.int .i64 c) rfl
  have h3 := hp #[.int .i64 a, .int .i64 b, .int .i64 c, .int .i64 d] 3 (.int .i64 d) rfl
  have k0 := hp #[.int .i64 e, .int .i64 f, .int .i64 g, .int .i64 h] 0 (.int .i64 e) rfl
  have k1 := hp #[.int .i64 e, .int .i64 f, .int .i64 g, .int .i64 h] 1 (.int .i64 f) rfl
  have k2 := hp #[.int .i64 e, .int .i64 f, .int .i64 g, .int .i64 h] 2 (.int .i64 g) rfl
  have k3 := hp #[.int .i64 e, .int .i64 f, .int .i64 g, .int .i64 h] 3 (.int .i64 h) rfl
  simp only [Op.eqItems, List.range, List.range.loop, Nat.mul_one, Sem.run_bind, h0, h1, h2, h3, k0, k1, k2, k3, Result.andThen_ok, equalIn_int, Sem.run_ite, Sem.run_pure]
  cases (a == e) <;> cases (b == f) <;> cases (c == g) <;> cases (d == h) <;> rfl
theorem eql_cell (a b c d e f g h : Int) (w : World) : (binOp .eql 80 (.agg #[.int .i64 a, .int .i64 b, .int .i64 c, .int .i64 d]) (.agg #[.int .i64 e, .int .i64 f, .int .i64 g, .int .i64 h])).run Tryz.prog w
    = .ok (.bool (a == e && (b == f && (c == g && d == h)))) w := by
  simp only [binOp]
  simp [Op.equal, Op.maxDepth, equalIn_cell 9998]
theorem neq_cell (a b c d e f g h : Int) (w : World) : (binOp .neq 80 (.agg #[.int .i64 a, .int .i64 b, .int .i64 c, .int .i64 d]) (.agg #[.int .i64 e, .int .i64 f, .int .i64 g, .int .i64 h])).run Tryz.prog w
    = .ok (.bool (!(a == e && (b == f && (c == g && d == h))))) w := by
  simp only [binOp]
  simp [Op.equal, Op.maxDepth, equalIn_cell 9998]
end Go.Proofs.YtmmjaobpoiofdaaGreat
