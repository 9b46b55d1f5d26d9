/- Two pushes compared. -/
import Derived.Test.YtnnaegnkkpknpaaBase
namespace Go.Proofs.Ytnnaegnkkpknpaa
open Go Go.RowKit
set_option linter.unusedVariables false
theorem equalIn_push (k : Nat) (w : World) (a b c d : Int) : (Op.equalIn (k + 2) 43 (.agg #[.int .i64 a, .int .i64 b]) (.agg #[.int .i64 c, .int .i64 d])).run Try.prog w = .ok (a == c && b == d) w := by
  rw [run_equalIn_struct w (k + 1) _ _ _ (by kernel_rfl) (by kernel_rfl)]
  have key : (Try.prog.fieldsOf 43).toList.map (fun f => (f.type, f.offset, f.name == "_")) = [(3, 0, false), (3, 1, false)] := by kernel_rfl
  generalize (Try.prog.fieldsOf 43).toList = l at key ⊢
  rcases l with _ | ⟨f0, _ | ⟨f1, _ | ⟨f2, l⟩⟩⟩
  · simp at key
  · simp at key
  · skip
    simp only [List.map_cons, List.map_nil, List.cons.injEq, Prod.mk.injEq, and_true] at key
    obtain ⟨⟨t0, o0, m0⟩, t1, o1, m1⟩ := key
    have m0' : ¬ f0.name = "_" := by simpa using m0
    have m1' : ¬ f1.name = "_" := by simpa using m1
    simp [Op.eqFields, t0, o0, t1, o1, go_sem, m0', m1']
    by_cases h1 : a = c <;> by_cases h2 : b = d <;> simp [h1, h2]
  · simp at key
theorem neq_push (a b c d : Int) (w : World) : (binOp .neq 43 (.agg #[.int .i64 a, .int .i64 b]) (.agg #[.int .i64 c, .int .i64 d])).run Try.prog w
    = .ok (.bool (!(a == c && b == d))) w := by
  simp only [binOp]
  simp [Op.equal, Op.maxDepth, equalIn_push 9998]
theorem eql_push (a b c d : Int) (w : World) : (binOp .eql 43 (.agg #[.int .i64 a, .int .i64 b]) (.agg #[.int .i64 c, .int .i64 d])).run Try.prog w
    = .ok (.bool (a == c && b == d)) w := by
  simp only [binOp]
  simp [Op.equal, Op.maxDepth, equalIn_push 9998]
end Go.Proofs.Ytnnaegnkkpknpaa
