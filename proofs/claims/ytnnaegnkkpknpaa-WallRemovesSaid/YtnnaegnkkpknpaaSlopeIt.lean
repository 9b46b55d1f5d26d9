/- Walks: the iterator of Slope. -/
import Derived.Test.YtnnaegnkkpknpaaBoxF
namespace Go.Proofs.Ytnnaegnkkpknpaa
open Go Go.RowKit
attribute [local go_sem] Oper.semAt_some
set_option linter.unusedVariables false
def rise (up : Bool) : Int := if up then 1 else -1
def slPts (p : Int × Int) (up : Bool) : Nat → List (Int × Int)
  | 0 => []
  | k + 1 => slPts p up k ++ [(p.1 + k, slY p up k)]
theorem slPts_pre (p : Int × Int) (up : Bool) (k : Nat) : ∀ n, k ≤ n → slPts p up k <+: slPts p up n
  | 0, h => by rw [show k = 0 from by omega]; exact List.prefix_refl _
  | n + 1, h => by
    rcases Nat.lt_or_ge k (n + 1) with h' | h'
    · exact (slPts_pre p up k n (by omega)).trans (List.prefix_append _ _)
    · rw [show k = n + 1 from by omega]; exact List.prefix_refl _
set_option maxRecDepth 100000 in
set_option maxHeartbeats 4000000 in
theorem slope_iter (p : Int × Int) (up : Bool) (m bn bp br : Nat) (w₀ : World) (hm : m ≤ 64) (hp : 0 ≤ p.1 ∧ p.1 ≤ 64 ∧ 0 ≤ p.2 ∧ p.2 ≤ 64) (Xn : Bx w₀ bn #[.int .i64 m]) (Xp : Bx w₀ bp #[.int .i64 p.1, .int .i64 p.2]) (Xr : Bx w₀ br #[.int .i64 (rise up)]) :
    Iter Try.prog 86 #[.pointer (some ⟨bn, 0, none⟩), .pointer (some ⟨bp, 0, none⟩), .pointer (some ⟨br, 0, none⟩)] encP (slPts p up m) w₀ := by
  intro l J Jx C₀ W hW hC hJ hJx hY h0
  have hs0 := hW.size
  have n0 := (Xn.below hW).at_ 0 rfl
  obtain ⟨hp1, hp2, hp3, hp4⟩ := hp
  cases up
  · simp only [rise, Bool.false_eq_true, if_false] at Xr
    refine callsIn_wide.1 (callsIn_of_wp (F := Fence.wide) (n := 0) Try.func86 rfl trivial ?_)
    simp only [Try.ntmps86, List.size_toArray, List.length_cons, List.length_nil, Nat.reduceAdd, Nat.reduceSub, Array.replicate_succ, Array.replicate_zero, List.push_toArray, List.append_toArray, List.nil_append, List.cons_append]
    gi_wp2
    gi_loopw [7] (fun i wr => ∃ k : Nat, k ≤ m ∧ i = .int .i64 k ∧ ∃ C, J (slPts p false k) C wr ∧ But C₀ W wr ∧ Grw C₀ C W ∧ Below w₀.heap.size w₀ wr ∧ W.heap.size ≤ wr.heap.size) (fun i _ => m - (intOf i).toNat)
    case atStart => exact ⟨0, Nat.zero_le _, rfl, C₀, h0, But.refl _ _, Grw.refl _ _, hW, Nat.le_refl _⟩
    case round =>
      clear n0
      obtain ⟨k, hk, rfl, C, hj, hbut, hg, hB, hz⟩ := hrel
      by_cases hlt : k < m
      · have Yp := Xp.below hB; have Yr := Xr.below hB
        have p0 := Yp.at_ 0 rfl; have p1 := Yp.at_ 1 rfl; have r0 := Yr.at_ 0 rfl; have lp := Yp.lt; have lr := Yr.lt
        obtain ⟨fn, tmps, asg, bdy, hy, hR⟩ := hY (slPts p false k) (p.1 + k, slY p false k) C wr hj hB (slPts_pre p false (k + 1) m (by omega))
        have ey : slY p false k = p.2 + -(k : Int) := by simp [slY]; try omega
        dsimp only [encP] at hy
        rw [ey] at hy
        clear ey
        gi_wp2_with fail
        refine ⟨rfl, hR.mono ?_⟩
        rintro e W4 ⟨C', hbut4, hg4, (⟨rfl, hj4⟩ | ⟨rfl, hj4⟩)⟩
        · have hs4 := hbut4.size
          have hBw4 : Below w₀.heap.size w₀ W4 := hB.trans ⟨hbut4.os, hbut4.tape, hbut4.output, hbut4.size, fun b hb => hbut4.block b (by have := hB.size; omega) (fun h => by have := (hC _ _ _ hj b h).1; omega)⟩
          gi_wp2_with fail
          go_roundw
          case rel => exact ⟨k + 1, by omega, by go_num, C', hj4, hbut.trans' hbut4 hg, fun b h => (hg4 b h).elim (hg b) (fun h2 => .inr (by omega)), hBw4, by omega⟩
          case measure => simp [intOf]; omega
        · gi_wp2_with fail
          refine bodyPost_ret (results_none rfl _ _ _) rfl ?_
          exact ⟨⟨_, rfl⟩, C', hbut.trans' hbut4 hg, fun b h => (hg4 b h).elim (hg b) (fun h2 => .inr (by omega)), .inr ⟨_, slPts_pre p false (k + 1) m (by omega), hj4⟩⟩
      · obtain rfl : k = m := (by omega)
        gi_wp2
        go_end0
        exact ⟨⟨_, rfl⟩, C, hbut, hg, .inl hj⟩
  · simp only [rise, if_true] at Xr
    refine callsIn_wide.1 (callsIn_of_wp (F := Fence.wide) (n := 0) Try.func86 rfl trivial ?_)
    simp only [Try.ntmps86, List.size_toArray, List.length_cons, List.length_nil, Nat.reduceAdd, Nat.reduceSub, Array.replicate_succ, Array.replicate_zero, List.push_toArray, List.append_toArray, List.nil_append, List.cons_append]
    gi_wp2
    gi_loopw [7] (fun i wr => ∃ k : Nat, k ≤ m ∧ i = .int .i64 k ∧ ∃ C, J (slPts p true k) C wr ∧ But C₀ W wr ∧ Grw C₀ C W ∧ Below w₀.heap.size w₀ wr ∧ W.heap.size ≤ wr.heap.size) (fun i _ => m - (intOf i).toNat)
    case atStart => exact ⟨0, Nat.zero_le _, rfl, C₀, h0, But.refl _ _, Grw.refl _ _, hW, Nat.le_refl _⟩
    case round =>
      clear n0
      obtain ⟨k, hk, rfl, C, hj, hbut, hg, hB, hz⟩ := hrel
      by_cases hlt : k < m
      · have Yp := Xp.below hB; have Yr := Xr.below hB
        have p0 := Yp.at_ 0 rfl; have p1 := Yp.at_ 1 rfl; have r0 := Yr.at_ 0 rfl; have lp := Yp.lt; have lr := Yr.lt
        obtain ⟨fn, tmps, asg, bdy, hy, hR⟩ := hY (slPts p true k) (p.1 + k, slY p true k) C wr hj hB (slPts_pre p true (k + 1) m (by omega))
        have ey : slY p true k = p.2 + (k : Int) := by simp [slY]; try omega
        dsimp only [encP] at hy
        rw [ey] at hy
        clear ey
        gi_wp2_with fail
        refine ⟨rfl, hR.mono ?_⟩
        rintro e W4 ⟨C', hbut4, hg4, (⟨rfl, hj4⟩ | ⟨rfl, hj4⟩)⟩
        · have hs4 := hbut4.size
          have hBw4 : Below w₀.heap.size w₀ W4 := hB.trans ⟨hbut4.os, hbut4.tape, hbut4.output, hbut4.size, fun b hb => hbut4.block b (by have := hB.size; omega) (fun h => by have := (hC _ _ _ hj b h).1; omega)⟩
          gi_wp2_with fail
          go_roundw
          case rel => exact ⟨k + 1, by omega, by go_num, C', hj4, hbut.trans' hbut4 hg, fun b h => (hg4 b h).elim (hg b) (fun h2 => .inr (by omega)), hBw4, by omega⟩
          case measure => simp [intOf]; omega
        · gi_wp2_with fail
          refine bodyPost_ret (results_none rfl _ _ _) rfl ?_
          exact ⟨⟨_, rfl⟩, C', hbut.trans' hbut4 hg, fun b h => (hg4 b h).elim (hg b) (fun h2 => .inr (by omega)), .inr ⟨_, slPts_pre p true (k + 1) m (by omega), hj4⟩⟩
      · obtain rfl : k = m := (by omega)
        gi_wp2
        go_end0
        exact ⟨⟨_, rfl⟩, C, hbut, hg, .inl hj⟩
end Go.Proofs.Ytnnaegnkkpknpaa
