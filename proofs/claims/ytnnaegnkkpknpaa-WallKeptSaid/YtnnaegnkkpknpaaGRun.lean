/- Walks: the program's run of a grid: steps, run. -/
import Derived.Test.YtnnaegnkkpknpaaGCol
import Derived.Test.YtnnaegnkkpknpaaRefRun
import Derived.LoopIn
import Derived.Sort.CutIn
import Derived.LoopNIn
import Derived.TacticsInMore
import Derived.Shelf.Abstract
import Derived.Laws.EntriesVeiled
namespace Go.Proofs.Ytnnaegnkkpknpaa
open Go Go.RowKit
attribute [local go_sem] Oper.semAt_some
set_option linter.unusedVariables false
/-- the numbers of M steps from T on -/
def timesL (T M : Nat) : List Nat := (List.range M).map (fun k => T + k)
def encT (x : Nat) : Array Value := #[.int .i64 (x : Int)]
theorem timesL_succ (T M : Nat) : timesL T (M + 1) = timesL T M ++ [T + M] := by simp [timesL, List.range_succ]
theorem timesL_pre (T k : Nat) : ∀ n, k ≤ n → timesL T k <+: timesL T n
  | 0, h => by rw [show k = 0 from by omega]; exact List.prefix_refl _
  | n + 1, h => by
    rcases Nat.lt_or_ge k (n + 1) with h' | h'
    · rw [timesL_succ]; exact (timesL_pre T k n (by omega)).trans (List.prefix_append _ _)
    · rw [show k = n + 1 from by omega]; exact List.prefix_refl _
theorem timesL_mem {T M x : Nat} (h : x ∈ timesL T M) : ∃ k, k < M ∧ x = T + k := by
  simp only [timesL, List.mem_map, List.mem_range] at h
  obtain ⟨k, hk, rfl⟩ := h
  exact ⟨k, hk, rfl⟩
theorem ent_steps : ∀ args w, (callFunc 180 args).run Try.prog w = .ok (.enter 180 args) w := Go.Proofs.enters_of Try.func180 (by kernel_rfl) rfl
set_option maxRecDepth 100000 in
set_option maxHeartbeats 4000000 in
theorem steps_iter (T M bn bt : Nat) (w₀ : World) (hT : T ≤ 1000000) (hM : M ≤ 1000) (Xn : Bx w₀ bn #[.int .i64 M]) (Xt : Bx w₀ bt #[.int .i64 T]) :
    Iter Try.prog 180 #[.pointer (some ⟨bn, 0, none⟩), .pointer (some ⟨bt, 0, none⟩)] encT (timesL T M) w₀ := by
  intro l J Jx C₀ W hW hC hJ hJx hY h0
  have hs0 := hW.size
  have n0 := (Xn.below hW).at_ 0 rfl
  refine callsIn_wide.1 (callsIn_of_wp (F := Fence.wide) (n := 0) Try.func180 rfl trivial ?_)
  simp only [Try.ntmps180, List.size_toArray, List.length_cons, List.length_nil, Nat.reduceAdd, Nat.reduceSub, Array.replicate_succ, Array.replicate_zero, List.push_toArray, List.append_toArray, List.nil_append, List.cons_append]
  gi_wp2
  gi_loopw [6] (fun i wr => ∃ k : Nat, k ≤ M ∧ i = .int .i64 k ∧ ∃ C, J (timesL T k) C wr ∧ But C₀ W wr ∧ Grw C₀ C W ∧ Below w₀.heap.size w₀ wr ∧ W.heap.size ≤ wr.heap.size) (fun i _ => M - (intOf i).toNat)
  case atStart => exact ⟨0, Nat.zero_le _, rfl, C₀, h0, But.refl _ _, Grw.refl _ _, hW, Nat.le_refl _⟩
  case round =>
    clear n0
    obtain ⟨k, hk, rfl, C, hj, hbut, hg, hB, hz⟩ := hrel
    by_cases hlt : k < M
    · have Yt := Xt.below hB
      have t0 := Yt.at_ 0 rfl; have lt := Yt.lt
      obtain ⟨fn, tmps, asg, bdy, hy, hR⟩ := hY (timesL T k) (T + k) C wr hj hB (by rw [← timesL_succ]; exact timesL_pre T (k + 1) M (by omega))
      rw [← timesL_succ] at hR
      dsimp only [encT] at hy
      rw [show (((T + k : Nat)) : Int) = (T : Int) + (k : Int) from by simp] at hy
      have hsi := IntWalk.i64_in ((T : Int) + (k : Int)) (by omega)
      gi_wp2_with fail
      refine ⟨rfl, hR.mono ?_⟩
      rintro e W4 ⟨C', hbut4, hg4, (⟨rfl, hj4⟩ | ⟨rfl, hj4⟩)⟩
      · have hs4 := hbut4.size
        have hBw4 : Below w₀.heap.size w₀ W4 := hB.trans ⟨hbut4.os, hbut4.tape, hbut4.output, hbut4.size, fun b hb => hbut4.block b (by have := hB.size; omega) (fun h => by have := (hC _ _ _ hj b h).1; omega)⟩
        gi_wp2_with fail
        go_roundw
        case rel => exact ⟨k + 1, by omega, by go_num, C', hj4, hbut.trans' hbut4 hg, fun b h => (hg4 b h).elim (hg b) (fun h2 => .inr (by omega)), hBw4, by omega⟩
        case measure => simp [intOf]; omega
      · gi_wp2_with fail
        refine bodyPost_ret (results_none rfl _ _ _) rfl ?_
        exact ⟨⟨_, rfl⟩, C', hbut.trans' hbut4 hg, fun b h => (hg4 b h).elim (hg b) (fun h2 => .inr (by omega)), .inr ⟨_, timesL_pre T (k + 1) M (by omega), hj4⟩⟩
    · obtain rfl : k = M := (by omega)
      gi_wp2
      go_end0
      exact ⟨⟨_, rfl⟩, C, hbut, hg, .inl hj⟩
theorem grid_steps (T M : Int) (w : World) : Calls Try.prog 162 #[.int .i64 T, .int .i64 M] w fun e w' => ∃ bn bt, e = .returned (.func (.func 180) #[] #[.pointer (some ⟨bn, 0, none⟩), .pointer (some ⟨bt, 0, none⟩)]) ∧ Bx w' bn #[.int .i64 M] ∧ Bx w' bt #[.int .i64 T] ∧ Below w.heap.size w w' := by
  have X0 := (Bx.new w #[.int .i64 T] 3).alloc (.cells #[.int .i64 M] 3)
  have X1 := Bx.new (w.alloc (.cells #[.int .i64 T] 3)) #[.int .i64 M] 3
  simp only [World.size_alloc] at X1
  have hB0 : Below w.heap.size w ((w.alloc (.cells #[.int .i64 T] 3)).alloc (.cells #[.int .i64 M] 3)) := by (repeat' (first | with_reducible assumption | with_reducible exact Below.refl _ _ | with_reducible refine Below.drew ?_ | with_reducible refine below_drewN ?_ _ | with_reducible refine balloc ?_ _ | with_reducible refine bset ?_ ?_ _ | with_reducible refine Below.setCell ?_ ?_ _ | with_reducible refine Below.alloc ?_ ?_ _ | omega | (simp; done) | (simp; omega)))
  go_enter Try.func162, Try.ntmps162
  go_wp2_with fail
  generalize ((w.alloc (.cells #[.int .i64 T] 3)).alloc (.cells #[.int .i64 M] 3)) = W0 at X0 X1 hB0 ⊢
  have z0 := X0.lt
  have z1 := X1.lt
  go_ret
  exact ⟨_, _, rfl, X1, X0, hB0⟩
/-- steps by a list of numbers -/
def runL (W H nr : Nat) (r : Nat → Int × Int) (g : Nat → C4) (L : List Nat) : Nat → C4 := L.foldl (fun G s => stepG W H (rlAt nr r s) G) g
theorem runL_snoc (W H nr : Nat) (r : Nat → Int × Int) (g : Nat → C4) (L : List Nat) (s : Nat) : runL W H nr r g (L ++ [s]) = stepG W H (rlAt nr r s) (runL W H nr r g L) := by simp [runL, List.foldl_append]
theorem runL_ok {W H nr : Nat} {r : Nat → Int × Int} {g : Nat → C4} (h : okG (W * H) g) (L : List Nat) : okG (W * H) (runL W H nr r g L) := by
  unfold runL
  induction L generalizing g with
  | nil => exact h
  | cons x L ih => exact ih (stepW_ok h)
theorem runL_run (W H nr : Nat) (r : Nat → Int × Int) (g : Nat → C4) (T : Nat) : ∀ M, runL W H nr r g (timesL T M) = runW W H (rlAt nr r) (fun _ => 0) g T M
  | 0 => rfl
  | M + 1 => by rw [timesL_succ, runL_snoc, runL_run W H nr r g T M]; rfl
end Go.Proofs.Ytnnaegnkkpknpaa
