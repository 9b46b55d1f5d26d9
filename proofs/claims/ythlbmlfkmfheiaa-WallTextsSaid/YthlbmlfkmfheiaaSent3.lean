/- Walks: sending: wall.sent, wall.Sent, the reference's. Walks: sending: the reference's. Walks: wall.Sent and the reference's Sent; awake. Walks: awake. -/
import Derived.Test.YthlbmlfkmfheiaaCell
import Derived.Handy
import Derived.Laws.StructEq
import Derived.ChangeKeysEq
namespace Go.Proofs.Ythlbmlfkmfheiaa
open Go.RowKit
/-- a cell after a kind of wall -/
def sentC (c : C4) (k : Int) : C4 :=
  if k = 1 then ⟨c.w, c.s, c.e, c.n⟩ else if k = 2 then ⟨c.n, c.e, c.s, c.w⟩ else if k = 3 then ⟨c.s, c.w, c.n, c.e⟩ else c
/-- [4]int at its four places -/
theorem idx4 (a0 a1 a2 a3 : Value) : ∀ (w : World),
  (Instr.index 39 (.agg #[a0, a1, a2, a3]) (.int .i64 0)).run Try.prog w = .ok a0 w ∧
  (Instr.index 39 (.agg #[a0, a1, a2, a3]) (.int .i64 1)).run Try.prog w = .ok a1 w ∧
  (Instr.index 39 (.agg #[a0, a1, a2, a3]) (.int .i64 2)).run Try.prog w = .ok a2 w ∧
  (Instr.index 39 (.agg #[a0, a1, a2, a3]) (.int .i64 3)).run Try.prog w = .ok a3 w := fun w => by
  refine ⟨?_, ?_, ?_, ?_⟩ <;> kernel_rfl
set_option maxRecDepth 100000 in
set_option maxHeartbeats 2000000 in
theorem wall_sent_0 (c : C4) (w : World) : Calls Try.prog 46 #[.agg #[.int .i64 c.e, .int .i64 c.n, .int .i64 c.w, .int .i64 c.s], .int .i64 0] w
    fun e w' => e = .returned (sentC c 0).val ∧ Below w.heap.size w w' := by
  have hi := idx4 (.int .i64 c.e) (.int .i64 c.n) (.int .i64 c.w) (.int .i64 c.s)
  have hT : ∀ (w : World), (Instr.index 103 (.agg #[.int .i64 0, .int .i64 1, .int .i64 2, .int .i64 3, .int .i64 2, .int .i64 3, .int .i64 0, .int .i64 1, .int .i64 1, .int .i64 0, .int .i64 3, .int .i64 2, .int .i64 3, .int .i64 2, .int .i64 1, .int .i64 0]) (.int .i64 0)).run Try.prog w = .ok (.agg #[.int .i64 0, .int .i64 1, .int .i64 2, .int .i64 3]) w := fun _ => by kernel_rfl
  go_enter Try.func46, Try.ntmps46
  go_wp2
  go_rounds 5
  refine bodyPost_ret (v := (sentC c 0).val) (by simp [results, Try.results46, go_sem, sentC, C4.val]) rfl ⟨rfl, ?_⟩
  repeat' (first | exact Below.refl _ _ | refine Below.alloc ?_ (by simp <;> omega) _ | refine Below.setCell ?_ (by simp <;> omega) _)
set_option maxRecDepth 100000 in
set_option maxHeartbeats 2000000 in
theorem wall_sent_1 (c : C4) (w : World) : Calls Try.prog 46 #[.agg #[.int .i64 c.e, .int .i64 c.n, .int .i64 c.w, .int .i64 c.s], .int .i64 1] w
    fun e w' => e = .returned (sentC c 1).val ∧ Below w.heap.size w w' := by
  have hi := idx4 (.int .i64 c.e) (.int .i64 c.n) (.int .i64 c.w) (.int .i64 c.s)
  have hT : ∀ (w : World), (Instr.index 103 (.agg #[.int .i64 0, .int .i64 1, .int .i64 2, .int .i64 3, .int .i64 2, .int .i64 3, .int .i64 0, .int .i64 1, .int .i64 1, .int .i64 0, .int .i64 3, .int .i64 2, .int .i64 3, .int .i64 2, .int .i64 1, .int .i64 0]) (.int .i64 1)).run Try.prog w = .ok (.agg #[.int .i64 2, .int .i64 3, .int .i64 0, .int .i64 1]) w := fun _ => by kernel_rfl
  go_enter Try.func46, Try.ntmps46
  go_wp2
  go_rounds 5
  refine bodyPost_ret (v := (sentC c 1).val) (by simp [results, Try.results46, go_sem, sentC, C4.val]) rfl ⟨rfl, ?_⟩
  repeat' (first | exact Below.refl _ _ | refine Below.alloc ?_ (by simp <;> omega) _ | refine Below.setCell ?_ (by simp <;> omega) _)
set_option maxRecDepth 100000 in
set_option maxHeartbeats 2000000 in
theorem wall_sent_2 (c : C4) (w : World) : Calls Try.prog 46 #[.agg #[.int .i64 c.e, .int .i64 c.n, .int .i64 c.w, .int .i64 c.s], .int .i64 2] w
    fun e w' => e = .returned (sentC c 2).val ∧ Below w.heap.size w w' := by
  have hi := idx4 (.int .i64 c.e) (.int .i64 c.n) (.int .i64 c.w) (.int .i64 c.s)
  have hT : ∀ (w : World), (Instr.index 103 (.agg #[.int .i64 0, .int .i64 1, .int .i64 2, .int .i64 3, .int .i64 2, .int .i64 3, .int .i64 0, .int .i64 1, .int .i64 1, .int .i64 0, .int .i64 3, .int .i64 2, .int .i64 3, .int .i64 2, .int .i64 1, .int .i64 0]) (.int .i64 2)).run Try.prog w = .ok (.agg #[.int .i64 1, .int .i64 0, .int .i64 3, .int .i64 2]) w := fun _ => by kernel_rfl
  go_enter Try.func46, Try.ntmps46
  go_wp2
  go_rounds 5
  refine bodyPost_ret (v := (sentC c 2).val) (by simp [results, Try.results46, go_sem, sentC, C4.val]) rfl ⟨rfl, ?_⟩
  repeat' (first | exact Below.refl _ _ | refine Below.alloc ?_ (by simp <;> omega) _ | refine Below.setCell ?_ (by simp <;> omega) _)
set_option maxRecDepth 100000 in
set_option maxHeartbeats 2000000 in
theorem wall_sent_3 (c : C4) (w : World) : Calls Try.prog 46 #[.agg #[.int .i64 c.e, .int .i64 c.n, .int .i64 c.w, .int .i64 c.s], .int .i64 3] w
    fun e w' => e = .returned (sentC c 3).val ∧ Below w.heap.size w w' := by
  have hi := idx4 (.int .i64 c.e) (.int .i64 c.n) (.int .i64 c.w) (.int .i64 c.s)
  have hT : ∀ (w : World), (Instr.index 103 (.agg #[.int .i64 0, .int .i64 1, .int .i64 2, .int .i64 3, .int .i64 2, .int .i64 3, .int .i64 0, .int .i64 1, .int .i64 1, .int .i64 0, .int .i64 3, .int .i64 2, .int .i64 3, .int .i64 2, .int .i64 1, .int .i64 0]) (.int .i64 3)).run Try.prog w = .ok (.agg #[.int .i64 3, .int .i64 2, .int .i64 1, .int .i64 0]) w := fun _ => by kernel_rfl
  go_enter Try.func46, Try.ntmps46
  go_wp2
  go_rounds 5
  refine bodyPost_ret (v := (sentC c 3).val) (by simp [results, Try.results46, go_sem, sentC, C4.val]) rfl ⟨rfl, ?_⟩
  repeat' (first | exact Below.refl _ _ | refine Below.alloc ?_ (by simp <;> omega) _ | refine Below.setCell ?_ (by simp <;> omega) _)
theorem wall_sent (c : C4) (w : World) (kind : Int) (h0 : 0 ≤ kind) (h3 : kind ≤ 3) : Calls Try.prog 46 #[.agg #[.int .i64 c.e, .int .i64 c.n, .int .i64 c.w, .int .i64 c.s], .int .i64 kind] w
    fun e w' => e = .returned (.agg #[.int .i64 (sentC c kind).e, .int .i64 (sentC c kind).n, .int .i64 (sentC c kind).w, .int .i64 (sentC c kind).s]) ∧ Below w.heap.size w w' := by
  have : kind = 0 ∨ kind = 1 ∨ kind = 2 ∨ kind = 3 := by omega
  rcases this with rfl | rfl | rfl | rfl
  · exact wall_sent_0 c w
  · exact wall_sent_1 c w
  · exact wall_sent_2 c w
  · exact wall_sent_3 c w
end Go.Proofs.Ythlbmlfkmfheiaa
namespace Go.Proofs.Ythlbmlfkmfheiaa
open Go.RowKit
set_option linter.unusedVariables false
/-- the direction in which a kind of wall sends -/
def wayD (kind d : Int) : Int := if kind = 1 then (d + 2) % 4 else if kind = 2 then bits .xor .i64 d 1 else if kind = 3 then 3 - d else d
end Go.Proofs.Ythlbmlfkmfheiaa
namespace Go.Proofs.Ythlbmlfkmfheiaa
open Go.RowKit
set_option linter.unusedVariables false
def sentR (c : C4) (kind : Int) : C4 := if validC c && within kind 0 3 then sentC c kind else C4.zero
def sentE (c : C4) (kind : Int) : Int := if validC c then (if within kind 0 3 then 0 else 7) else 1
set_option maxHeartbeats 1000000 in
theorem wall_Sent (c : C4) (w : World) (kind : Int) : Calls Try.prog 23 #[.agg #[.int .i64 c.e, .int .i64 c.n, .int .i64 c.w, .int .i64 c.s], .int .i64 kind] w
    fun e w' => e = .returned (.tuple #[.agg #[.int .i64 (sentR c kind).e, .int .i64 (sentR c kind).n, .int .i64 (sentR c kind).w, .int .i64 (sentR c kind).s], .int .i64 (sentE c kind)]) ∧ Below w.heap.size w w' := by
  cases hv : validC c
  · go_enter Try.func23, Try.ntmps23
    go_wp2_with fail
    refine (cell_valid c _).mono ?_
    rintro e w1 ⟨rfl, hb1⟩
    have hc1 := bcell hb1
    have hf1 := bfrozen hb1
    have hz1 := hb1.size
    try simp at hz1
    have hz1a : w.heap.size < w1.heap.size := by omega
    have hz1b : w.heap.size + 1 < w1.heap.size := by omega
    have hB1 : Below w.heap.size w w1 := bvia (by (repeat' (first | with_reducible assumption | with_reducible exact Below.refl _ _ | with_reducible refine Below.drew ?_ | with_reducible refine below_drewN ?_ _ | with_reducible refine balloc ?_ _ | with_reducible refine bset ?_ ?_ _ | with_reducible refine Below.setCell ?_ ?_ _ | with_reducible refine Below.alloc ?_ ?_ _ | omega | (simp; done) | (simp; omega)))) hb1
    go_wp2_with fail
    refine bodyPost_ret (v := .tuple #[(sentR c kind).val, .int .i64 (sentE c kind)]) (by simp [results, Try.results23, go_sem, sentR, sentE, hv, C4.val, C4.zero, hc1]) rfl ⟨rfl, ?_⟩
    (repeat' (first | with_reducible assumption | with_reducible exact Below.refl _ _ | with_reducible refine Below.drew ?_ | with_reducible refine below_drewN ?_ _ | with_reducible refine balloc ?_ _ | with_reducible refine bset ?_ ?_ _ | with_reducible refine Below.setCell ?_ ?_ _ | with_reducible refine Below.alloc ?_ ?_ _ | omega | (simp; done) | (simp; omega)))
  · cases hw : within kind 0 3
    · go_enter Try.func23, Try.ntmps23
      go_wp2_with fail
      refine (cell_valid c _).mono ?_
      rintro e w1 ⟨rfl, hb1⟩
      have hc1 := bcell hb1
      have hf1 := bfrozen hb1
      have hz1 := hb1.size
      try simp at hz1
      have hz1a : w.heap.size < w1.heap.size := by omega
      have hz1b : w.heap.size + 1 < w1.heap.size := by omega
      have hB1 : Below w.heap.size w w1 := bvia (by (repeat' (first | with_reducible assumption | with_reducible exact Below.refl _ _ | with_reducible refine Below.drew ?_ | with_reducible refine below_drewN ?_ _ | with_reducible refine balloc ?_ _ | with_reducible refine bset ?_ ?_ _ | with_reducible refine Below.setCell ?_ ?_ _ | with_reducible refine Below.alloc ?_ ?_ _ | omega | (simp; done) | (simp; omega)))) hb1
      go_wp2_with (go_at_call 39; refine (wall_within _ _ _ _).mono ?_; rintro e w' ⟨rfl, rfl⟩)
      refine bodyPost_ret (v := .tuple #[(sentR c kind).val, .int .i64 (sentE c kind)]) (by simp [results, Try.results23, go_sem, sentR, sentE, hv, hw, C4.val, C4.zero, hc1]) rfl ⟨rfl, ?_⟩
      (repeat' (first | with_reducible assumption | with_reducible exact Below.refl _ _ | with_reducible refine Below.drew ?_ | with_reducible refine below_drewN ?_ _ | with_reducible refine balloc ?_ _ | with_reducible refine bset ?_ ?_ _ | with_reducible refine Below.setCell ?_ ?_ _ | with_reducible refine Below.alloc ?_ ?_ _ | omega | (simp; done) | (simp; omega)))
    · have hk := (within_iff _ _ _).1 hw
      go_enter Try.func23, Try.ntmps23
      go_wp2_with fail
      refine (cell_valid c _).mono ?_
      rintro e w1 ⟨rfl, hb1⟩
      have hc1 := bcell hb1
      have hf1 := bfrozen hb1
      have hz1 := hb1.size
      try simp at hz1
      have hz1a : w.heap.size < w1.heap.size := by omega
      have hz1b : w.heap.size + 1 < w1.heap.size := by omega
      have hB1 : Below w.heap.size w w1 := bvia (by (repeat' (first | with_reducible assumption | with_reducible exact Below.refl _ _ | with_reducible refine Below.drew ?_ | with_reducible refine below_drewN ?_ _ | with_reducible refine balloc ?_ _ | with_reducible refine bset ?_ ?_ _ | with_reducible refine Below.setCell ?_ ?_ _ | with_reducible refine Below.alloc ?_ ?_ _ | omega | (simp; done) | (simp; omega)))) hb1
      go_wp2_with (go_at_call 39; refine (wall_within _ _ _ _).mono ?_; rintro e w' ⟨rfl, rfl⟩)
      refine (wall_sent c _ kind hk.1 hk.2).mono ?_
      rintro e w2 ⟨rfl, hb2⟩
      have hc2 := bcell hb2
      have hf2 := bfrozen hb2
      have hz2 := hb2.size
      try simp at hz2
      have hz2a : w.heap.size < w2.heap.size := by omega
      have hz2b : w.heap.size + 1 < w2.heap.size := by omega
      have hB2 : Below w.heap.size w w2 := hB1.trans (hb2.mono hB1.size)
      go_wp2_with fail
      refine bodyPost_ret (v := .tuple #[(sentR c kind).val, .int .i64 (sentE c kind)]) (by simp [results, Try.results23, go_sem, sentR, sentE, hv, hw, C4.val, hc1, hc2, hz1b]) rfl ⟨rfl, ?_⟩
      (repeat' (first | with_reducible assumption | with_reducible exact Below.refl _ _ | with_reducible refine Below.drew ?_ | with_reducible refine below_drewN ?_ _ | with_reducible refine balloc ?_ _ | with_reducible refine bset ?_ ?_ _ | with_reducible refine Below.setCell ?_ ?_ _ | with_reducible refine Below.alloc ?_ ?_ _ | omega | (simp; done) | (simp; omega)))
end Go.Proofs.Ythlbmlfkmfheiaa
namespace Go.Proofs.Ythlbmlfkmfheiaa
open Go.RowKit
set_option linter.unusedVariables false
theorem awake_sent (w : World) : Calls Try.prog 23 #[.agg #[.int .i64 1, .int .i64 0, .int .i64 2, .int .i64 0], .int .i64 2] w
    fun e w' => e = .returned (.tuple #[.agg #[.int .i64 0, .int .i64 1, .int .i64 0, .int .i64 2], .int .i64 0]) ∧ Below w.heap.size w w' :=
  (wall_Sent ⟨1, 0, 2, 0⟩ w 2).mono fun e w' h => h
theorem infoInt : (Try.prog.info? 3).map (fun i => (i.zero, i.size, i.bytes)) = some (some (.int .i64 0), 1, 8) := by kernel_rfl
theorem cellsInt : Try.prog.cellsOf 3 = 1 := by kernel_rfl
theorem equalIn_int (d : Nat) (a b : Int) (w : World) : (Op.equalIn (d + 1) 3 (.int .i64 a) (.int .i64 b)).run Try.prog w = .ok (a == b) w := by
  simp [Op.equalIn, run_underlying Try.underlying3]
theorem equalIn_cell (n : Nat) (a b c d e f g h : Int) (w : World) : (Op.equalIn (n + 2) 39 (.agg #[.int .i64 a, .int .i64 b, .int .i64 c, .int .i64 d]) (.agg #[.int .i64 e, .int .i64 f, .int .i64 g, .int .i64 h])).run Try.prog w
    = .ok (a == e && (b == f && (c == g && d == h))) w := by
  obtain ⟨i0, hi, hz0, hz1, hz2⟩ := info_parts infoInt
  rw [run_equalIn_array w (n + 1) _ _ Try.underlying39 hi, cellsInt]
  have hp : ∀ (cs : Array Value) (j : Nat) (v : Value), cs[j]? = some v → ∀ (w : World), (part 3 cs j).run Try.prog w = .ok v w := by
    intro cs j v hv w
    simp [part, hv, go_sem]
  have h0 := hp #[.int .i64 a, .int .i64 b, .int .i64 c, .int .i64 d] 0 (.int .i64 a) rfl
  have h1 := hp #[.int .i64 a, .int .i64 b, .int .i64 c, .int .i64 d] 1 (.int .i64 b) rfl
  have h2 := hp #[.int .i64 a, .int .i64 b, .int .i64 c, .int .i64 d] 2 (.int .i64 c) rfl
  have h3 := hp #[.int .i64 a, .int .i64 b, .int .i64 c, .int .i64 d] 3 (.int .i64 d) rfl
  have k0 := hp #[.int .i64 e, .int .i64 f, .int .i64 g, .int .i64 h] 0 (.int .i64 e) rfl
  have k1 := hp #[.int .i64 e, .int .i64 f, .int .i64 g, .int .i64 h] 1 (.int .i64 f) rfl
  have k2 := hp #[.int .i64 e, .int .i64 f, .int .i64 g, .int .i64 h] 2 (.int .i64 g) rfl
  have k3 := hp #[.int .i64 e, .int .i64 f, .int .i64 g, .int .i64 h] 3 (.int .i64 h) rfl
  simp only [Op.eqItems, List.range, List.range.loop, Nat.mul_one, Sem.run_bind, h0, h1, h2, h3, k0, k1, k2, k3, Result.andThen_ok, equalIn_int, Sem.run_ite, Sem.run_pure]
  cases (a == e) <;> cases (b == f) <;> cases (c == g) <;> cases (d == h) <;> rfl
theorem eql_cell (a b c d e f g h : Int) (w : World) : (binOp .eql 39 (.agg #[.int .i64 a, .int .i64 b, .int .i64 c, .int .i64 d]) (.agg #[.int .i64 e, .int .i64 f, .int .i64 g, .int .i64 h])).run Try.prog w
    = .ok (.bool (a == e && (b == f && (c == g && d == h)))) w := by
  simp only [binOp]
  simp [Op.equal, Op.maxDepth, equalIn_cell 9998]
theorem neq_cell (a b c d e f g h : Int) (w : World) : (binOp .neq 39 (.agg #[.int .i64 a, .int .i64 b, .int .i64 c, .int .i64 d]) (.agg #[.int .i64 e, .int .i64 f, .int .i64 g, .int .i64 h])).run Try.prog w
    = .ok (.bool (!(a == e && (b == f && (c == g && d == h))))) w := by
  simp only [binOp]
  simp [Op.equal, Op.maxDepth, equalIn_cell 9998]
set_option maxRecDepth 100000 in
theorem awake_true (w : World) : Calls Try.prog 9 #[] w fun e w' => e = .returned (.bool true) ∧ Below w.heap.size w w' := by
  have heq := eql_cell 0 1 0 2 0 1 0 2
  go_enter Try.func9, Try.ntmps9
  go_wp2_with fail
  refine (awake_sent _).mono ?_
  rintro e w1 ⟨rfl, hb1⟩
  go_wp2
  go_ret
  exact ⟨rfl, by (repeat' (first | with_reducible assumption | with_reducible exact Below.refl _ _ | with_reducible refine Below.drew ?_ | with_reducible refine below_drewN ?_ _ | with_reducible refine balloc ?_ _ | with_reducible refine bset ?_ ?_ _ | with_reducible refine Below.setCell ?_ ?_ _ | with_reducible refine Below.alloc ?_ ?_ _ | omega | (simp; done) | (simp; omega)))⟩
end Go.Proofs.Ythlbmlfkmfheiaa
