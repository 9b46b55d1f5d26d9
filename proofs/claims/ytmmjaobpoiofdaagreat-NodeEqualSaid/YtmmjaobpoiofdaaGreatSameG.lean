/- Walks: sending: wall.sent, wall.Sent, the reference's. Walks: sending: the reference's. Walks: wall.Sent and the reference's Sent; awake. Walks: awake. Walks: the reference's Same of grids that are equal. -/
import Derived.Test.YtmmjaobpoiofdaaGreatCell
import Derived.Handy
import Derived.Laws.StructEq
import Derived.ChangeKeysEq
namespace Go.Proofs.YtmmjaobpoiofdaaGreat
open Go.RowKit
/-- a cell after a kind of wall -/
def sentC (c : C4) (k : Int) : C4 :=
  if k = 1 then ⟨c.w, c.s, c.e, c.n⟩ else if k = 2 then ⟨c.n, c.e, c.s, c.w⟩ else if k = 3 then ⟨c.s, c.w, c.n, c.e⟩ else c
end Go.Proofs.YtmmjaobpoiofdaaGreat
namespace Go.Proofs.YtmmjaobpoiofdaaGreat
open Go.RowKit
set_option linter.unusedVariables false
theorem ref2_opposite (d : Int) (h0 : 0 ≤ d) (h4 : d < 4) (w : World) : Calls Tryz.prog 89 #[.int .i64 d] w fun e w' => e = .returned (.int .i64 ((d + 2) % 4)) ∧ w = w' := by
  go_enter Tryz.func89, Tryz.ntmps89
  go_wp2
  go_ret
  exact ⟨rfl, rfl⟩
end Go.Proofs.YtmmjaobpoiofdaaGreat
namespace Go.Proofs.YtmmjaobpoiofdaaGreat
open Go.RowKit
set_option linter.unusedVariables false
theorem infoInt : (Tryz.prog.info? 3).map (fun i => (i.zero, i.size, i.bytes)) = some (some (.int .i64 0), 1, 8) := by kernel_rfl
theorem cellsInt : Tryz.prog.cellsOf 3 = 1 := by kernel_rfl
theorem equalIn_int (d : Nat) (a b : Int) (w : World) : (Op.equalIn (d + 1) 3 (.int .i64 a) (.int .i64 b)).run Tryz.prog w = .ok (a == b) w := by
  simp [Op.equalIn, run_underlying Tryz.underlying3]
theorem equalIn_cell (n : Nat) (a b c d e f g h : Int) (w : World) : (Op.equalIn (n + 2) 80 (.agg #[.int .i64 a, .int .i64 b, .int .i64 c, .int .i64 d]) (.agg #[.int .i64 e, .int .i64 f, .int .i64 g, .int .i64 h])).run Tryz.prog w
    = .ok (a == e && (b == f && (c == g && d == h))) w := by
  obtain ⟨i0, hi, hz0, hz1, hz2⟩ := info_parts infoInt
  rw [run_equalIn_array w (n + 1) _ _ Tryz.underlying80 hi, cellsInt]
  have hp : ∀ (cs : Array Value) (j : Nat) (v : Value), cs[j]? = some v → ∀ (w : World), (part 3 cs j).run Tryz.prog w = .ok v w := by
    intro cs j v hv w
    simp [part, hv, go_sem]
  have h0 := hp #[.int .i64 a, .int .i64 b, .int .i64 c, .int .i64 d] 0 (.int .i64 a) rfl
  have h1 := hp #[.int .i64 a, .int .i64 b, .int .i64 c, .int .i64 d] 1 (.int .i64 b) rfl
  have h2 := hp #[.int .i64 a, .int .i64 b, .int .i64 c, .int .i64 d] 2 (.int .i64 c) rfl
  have h3 := hp #[.int .i64 a, .int .i64 b, .int .i64 c, .int .i64 d] 3 (.int .i64 d) rfl
  have k0 := hp #[.int .i64 e, .int .i64 f, .int .i64 g, .int .i64 h] 0 (.int .i64 e) rfl
  have k1 := hp #[.int .i64 e, .int .i64 f, .int .i64 g, .int .i64 h] 1 (.int .i64 f) rfl
  have k2 := hp #[.int .i64 e, .int .i64 f, .int .i64 g, .int .i64 h] 2 (.int .i64 g) rfl
  have k3 := hp #[.int .i64 e, .int .i64 f, .int .i64 g, .int .i64 h] 3 (.int .i64 h) rfl
  simp only [Op.eqItems, List.range, List.range.loop, Nat.mul_one, Sem.run_bind, h0, h1, h2, h3, k0, k1, k2, k3, Result.andThen_ok, equalIn_int, Sem.run_ite, Sem.run_pure]
  cases (a == e) <;> cases (b == f) <;> cases (c == g) <;> cases (d == h) <;> rfl
theorem neq_cell (a b c d e f g h : Int) (w : World) : (binOp .neq 80 (.agg #[.int .i64 a, .int .i64 b, .int .i64 c, .int .i64 d]) (.agg #[.int .i64 e, .int .i64 f, .int .i64 g, .int .i64 h])).run Tryz.prog w
    = .ok (.bool (!(a == e && (b == f && (c == g && d == h))))) w := by
  simp only [binOp]
  simp [Op.equal, Op.maxDepth, equalIn_cell 9998]
end Go.Proofs.YtmmjaobpoiofdaaGreat
namespace Go.Proofs.YtmmjaobpoiofdaaGreat
open Go Go.RowKit
set_option linter.unusedVariables false
set_option maxRecDepth 100000 in
set_option maxHeartbeats 1000000 in
theorem ref2_sameCells (a b : Option Addr) (n ca cb : Nat) (g h : Nat → C4) (w : World) (hn : n ≤ 100000000) (S : Sc w a n g) (S' : Sc w b n h) (he : ∀ k, k < n → g k = h k) :
    Calls Tryz.prog 37 #[.slice a n ca, .slice b n cb] w fun e w' => e = .returned (.bool true) ∧ Below w.heap.size w w' := by
  have HE := hid he
  clear he
  go_enter Tryz.func37, Tryz.ntmps37
  go_wp2
  go_loopw [5] (fun i wr => ∃ k : Nat, k ≤ n ∧ i = .int .i64 k ∧ Below w.heap.size w wr) (fun i _ => n - (intOf i).toNat)
  case atStart => exact ⟨0, Nat.zero_le _, rfl, by (repeat' (first | with_reducible assumption | with_reducible exact Below.refl _ _ | with_reducible refine Below.drew ?_ | with_reducible refine below_drewN ?_ _ | with_reducible refine balloc ?_ _ | with_reducible refine bset ?_ ?_ _ | with_reducible refine Below.setCell ?_ ?_ _ | with_reducible refine Below.alloc ?_ ?_ _ | omega | (simp; done) | (simp; omega)))⟩
  case round =>
    obtain ⟨k, hk, rfl, hB⟩ := hrel
    by_cases hlt : k < n
    · obtain ⟨b1, o1, rfl, _, c0, c1, c2, c3⟩ := (S.below hB) k hlt
      obtain ⟨b2, o2, rfl, _, d0, d1, d2, d3⟩ := (S'.below hB) k hlt
      rw [← HE.out k hlt] at d0 d1 d2 d3
      have hne := neq_cell (g k).e (g k).n (g k).w (g k).s (g k).e (g k).n (g k).w (g k).s
      simp only [beq_self_eq_true, Bool.and_self, Bool.not_true] at hne
      go_wp2
      go_quiet (fail)
      go_wp2
      go_roundw
      case rel => exact ⟨k + 1, by omega, by go_num, by (repeat' (first | with_reducible assumption | with_reducible exact Below.refl _ _ | with_reducible refine Below.drew ?_ | with_reducible refine below_drewN ?_ _ | with_reducible refine balloc ?_ _ | with_reducible refine bset ?_ ?_ _ | with_reducible refine Below.setCell ?_ ?_ _ | with_reducible refine Below.alloc ?_ ?_ _ | omega | (simp; done) | (simp; omega)))⟩
      case measure => simp [intOf]; omega
    · go_wp2
      go_ret
      exact ⟨rfl, hB⟩
set_option maxRecDepth 100000 in
set_option maxHeartbeats 1000000 in
theorem ref2_Same (W H : Int) (a b : Option Addr) (n ca cb : Nat) (g h : Nat → C4) (w : World) (hn : n ≤ 100000000) (S : Sc w a n g) (S' : Sc w b n h) (he : ∀ k, k < n → g k = h k) :
    Calls Tryz.prog 22 #[.agg #[.int .i64 W, .int .i64 H, .slice a n ca], .agg #[.int .i64 W, .int .i64 H, .slice b n cb]] w fun e w' => e = .returned (.bool true) ∧ Below w.heap.size w w' := by
  have hs := fun W' S S' => ref2_sameCells a b n ca cb g h W' hn S S' he
  have X0 := (Bx.new w #[.int .i64 W, .int .i64 H, .slice a n ca] 24).alloc (.cells #[.int .i64 W, .int .i64 H, .slice b n cb] 24)
  have X1 := Bx.new (w.alloc (.cells #[.int .i64 W, .int .i64 H, .slice a n ca] 24)) #[.int .i64 W, .int .i64 H, .slice b n cb] 24
  simp only [World.size_alloc] at X1
  have hB0 : Below w.heap.size w ((w.alloc (.cells #[.int .i64 W, .int .i64 H, .slice a n ca] 24)).alloc (.cells #[.int .i64 W, .int .i64 H, .slice b n cb] 24)) := by (repeat' (first | with_reducible assumption | with_reducible exact Below.refl _ _ | with_reducible refine Below.drew ?_ | with_reducible refine below_drewN ?_ _ | with_reducible refine balloc ?_ _ | with_reducible refine bset ?_ ?_ _ | with_reducible refine Below.setCell ?_ ?_ _ | with_reducible refine Below.alloc ?_ ?_ _ | omega | (simp; done) | (simp; omega)))
  go_enter Tryz.func22, Tryz.ntmps22
  go_wp2_with fail
  generalize ((w.alloc (.cells #[.int .i64 W, .int .i64 H, .slice a n ca] 24)).alloc (.cells #[.int .i64 W, .int .i64 H, .slice b n cb] 24)) = W0 at X0 X1 hB0 ⊢
  have z0 := X0.lt
  have z1 := X1.lt
  refine (hs _ (S.below hB0) (S'.below hB0)).mono ?_
  rintro e w1 ⟨rfl, hb1⟩
  go_wp2_with fail
  go_ret
  exact ⟨rfl, bvia hB0 hb1⟩
end Go.Proofs.YtmmjaobpoiofdaaGreat
