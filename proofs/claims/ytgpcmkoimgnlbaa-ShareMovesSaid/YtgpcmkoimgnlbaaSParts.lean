/- Walks of the share layer: the iterator over the nodes of a share. -/
import Derived.Test.YtgpcmkoimgnlbaaSWalk2
import Derived.Test.YtgpcmkoimgnlbaaIterR
import Derived.LoopIn
import Derived.Sort.CutIn
import Derived.LoopNIn
import Derived.TacticsInMore
import Derived.Shelf.Abstract
namespace Go.Proofs.Ytgpcmkoimgnlbaa
open Go Go.RowKit
attribute [local go_sem] Oper.semAt_some
set_option linter.unusedVariables false
/-- the loads of node j -/
def partV (b off n m : Nat) (c : Nat → Int) (j : Nat) : Value :=
  if bd n m c j = bd n m c (j + 1) then .slice (some ⟨b, off, none⟩) 0 0 else .slice (some ⟨b, off + bd n m c j, none⟩) (bd n m c (j + 1) - bd n m c j) (bd n m c (j + 1) - bd n m c j)
def encS (b off n m : Nat) (c : Nat → Int) (j : Nat) : Array Value := #[.int .i64 (j : Int), partV b off n m c j]
theorem range_pre (k : Nat) : ∀ n, k ≤ n → List.range k <+: List.range n
  | 0, h => by rw [show k = 0 from by omega]; exact List.prefix_refl _
  | n + 1, h => by
    rcases Nat.lt_or_ge k (n + 1) with h' | h'
    · rw [List.range_succ]; exact (range_pre k n (by omega)).trans (List.prefix_append _ _)
    · rw [show k = n + 1 from by omega]; exact List.prefix_refl _
set_option maxRecDepth 100000 in
set_option maxHeartbeats 4000000 in
theorem parts_iter (bl bc b off n ca m cc : Nat) (ac : Option Addr) (c : Nat → Int) (w₀ : World) (hn : n ≤ 64) (hca : n ≤ ca) (hca2 : ca ≤ maxLen) (hc : validK n m c)
    (HC : Sl w₀ ac m c) :
    IterR Try.prog 76 #[.pointer (some ⟨bc, 0, none⟩), .pointer (some ⟨bl, 0, none⟩)] (encS b off n m c) (List.range (m + 1)) w₀ (fun X => Bx X bl #[.slice (some ⟨b, off, none⟩) n ca] ∧ Bx X bc #[.slice ac m cc]) := by
  intro l J Jx C₀ W hR0 hW hC hJ hJx hY h0
  refine callsIn_wide.1 (callsIn_of_wp (F := Fence.wide) (n := 0) Try.func76 rfl trivial ?_)
  simp only [Try.ntmps76, List.size_toArray, List.length_cons, List.length_nil, Nat.reduceAdd, Nat.reduceSub, Array.replicate_succ, Array.replicate_zero, List.push_toArray, List.append_toArray, List.nil_append, List.cons_append]
  have hs0 := hW.size
  unfold maxLen at hca2
  have hm16 := hc.1
  have HV := hid hc; clear hc
  have c0 := (hR0 _ _ _ h0).2.at_ 0 rfl
  gi_wp2
  gi_loopw [4, 10] (fun s4 i wr => ∃ k : Nat, k ≤ m + 1 ∧ i = .int .i64 k ∧ s4 = .int .i64 (bd n m c k : Nat) ∧ ∃ C, J (List.range k) C wr ∧ But C₀ W wr ∧ Grw C₀ C W ∧ Below w₀.heap.size w₀ wr ∧ W.heap.size ≤ wr.heap.size) (fun _ i _ => m + 1 - (intOf i).toNat)
  case atStart => exact ⟨0, Nat.zero_le _, rfl, rfl, C₀, h0, But.refl _ _, Grw.refl _ _, hW, Nat.le_refl _⟩
  case round =>
    clear c0
    obtain ⟨k, hk, rfl, rfl, C, hj, hbut, hg, hB, hz⟩ := hrel
    have l0 := (hR0 _ _ _ hj).1.at_ 0 rfl
    have c0 := (hR0 _ _ _ hj).2.at_ 0 rfl
    by_cases hlt : k < m + 1
    · have b0 := bd_step HV.out k
      have b1 := bd_le HV.out (k + 1)
      obtain ⟨fn, tmps, asg, bdy, hy, hR⟩ := hY (List.range k) k C wr hj hB (by rw [← List.range_succ]; exact range_pre (k + 1) (m + 1) (by omega))
      simp only [encS] at hy
      have hto : k < m → c k = ((bd n m c (k + 1) : Nat) : Int) := fun h => by
        have := HV.out.2 k h
        simp only [bd, if_pos h]; omega
      have hto2 : ¬ k < m → n = bd n m c (k + 1) := fun h => by simp [bd, h]
      have hp : partV b off n m c k = if bd n m c k = bd n m c (k + 1) then .slice (some ⟨b, off, none⟩) 0 0 else .slice (some ⟨b, off + bd n m c k, none⟩) (bd n m c (k + 1) - bd n m c k) (bd n m c (k + 1) - bd n m c k) := rfl
      generalize bd n m c k = x at *
      generalize hY' : bd n m c (k + 1) = y at *
      have HY := hid hY'; clear hY'
      by_cases hkm : k < m
      · obtain ⟨b2, o2, rfl, hb2, cc0⟩ := (HC.below hB) k hkm
        rw [hto hkm] at cc0
        clear hto hto2
        by_cases hxy : x = y
        · subst hxy
          rw [hp, if_pos rfl] at hy
          clear hp
          gi_wp2_with fail
          refine ⟨rfl, hR.mono ?_⟩
          rintro e W4 ⟨C', hbut4, hg4, (⟨rfl, hj4⟩ | ⟨rfl, hj4⟩)⟩
          · have hs4 := hbut4.size
            have hBw4 : Below w₀.heap.size w₀ W4 := hB.trans ⟨hbut4.os, hbut4.tape, hbut4.output, hbut4.size, fun b hb => hbut4.block b (by have := hB.size; omega) (fun h => by have := (hC _ _ _ hj b h).1; omega)⟩
            gi_wp2_with fail
            go_roundw
            case rel => exact ⟨k + 1, by omega, by go_num, by rw [HY.out], C', by rw [List.range_succ]; exact hj4, hbut.trans' hbut4 hg, fun b h => (hg4 b h).elim (hg b) (fun h2 => .inr (by omega)), hBw4, by omega⟩
            case measure => simp [intOf]; omega
          · gi_wp2_with fail
            refine bodyPost_ret (results_none rfl _ _ _) rfl ?_
            exact ⟨⟨_, rfl⟩, C', hbut.trans' hbut4 hg, fun b h => (hg4 b h).elim (hg b) (fun h2 => .inr (by omega)), .inr ⟨_, by rw [← List.range_succ]; exact range_pre (k + 1) (m + 1) (by omega), hj4⟩⟩
        · rw [hp, if_neg hxy] at hy
          have hne : ¬ y - x = 0 := by omega
          have hsub : (y : Int) - (x : Int) = ((y - x : Nat) : Int) := by omega
          clear hp
          gi_wp2_with fail
          refine ⟨rfl, hR.mono ?_⟩
          rintro e W4 ⟨C', hbut4, hg4, (⟨rfl, hj4⟩ | ⟨rfl, hj4⟩)⟩
          · have hs4 := hbut4.size
            have hBw4 : Below w₀.heap.size w₀ W4 := hB.trans ⟨hbut4.os, hbut4.tape, hbut4.output, hbut4.size, fun b hb => hbut4.block b (by have := hB.size; omega) (fun h => by have := (hC _ _ _ hj b h).1; omega)⟩
            gi_wp2_with fail
            go_roundw
            case rel => exact ⟨k + 1, by omega, by go_num, by rw [HY.out], C', by rw [List.range_succ]; exact hj4, hbut.trans' hbut4 hg, fun b h => (hg4 b h).elim (hg b) (fun h2 => .inr (by omega)), hBw4, by omega⟩
            case measure => simp [intOf]; omega
          · gi_wp2_with fail
            refine bodyPost_ret (results_none rfl _ _ _) rfl ?_
            exact ⟨⟨_, rfl⟩, C', hbut.trans' hbut4 hg, fun b h => (hg4 b h).elim (hg b) (fun h2 => .inr (by omega)), .inr ⟨_, by rw [← List.range_succ]; exact range_pre (k + 1) (m + 1) (by omega), hj4⟩⟩
      · have hny := hto2 hkm
        clear hto hto2
        subst hny
        by_cases hxy : x = n
        · subst hxy
          rw [hp, if_pos rfl] at hy
          clear hp
          gi_wp2_with fail
          refine ⟨rfl, hR.mono ?_⟩
          rintro e W4 ⟨C', hbut4, hg4, (⟨rfl, hj4⟩ | ⟨rfl, hj4⟩)⟩
          · have hs4 := hbut4.size
            have hBw4 : Below w₀.heap.size w₀ W4 := hB.trans ⟨hbut4.os, hbut4.tape, hbut4.output, hbut4.size, fun b hb => hbut4.block b (by have := hB.size; omega) (fun h => by have := (hC _ _ _ hj b h).1; omega)⟩
            gi_wp2_with fail
            go_roundw
            case rel => exact ⟨k + 1, by omega, by go_num, by rw [HY.out], C', by rw [List.range_succ]; exact hj4, hbut.trans' hbut4 hg, fun b h => (hg4 b h).elim (hg b) (fun h2 => .inr (by omega)), hBw4, by omega⟩
            case measure => simp [intOf]; omega
          · gi_wp2_with fail
            refine bodyPost_ret (results_none rfl _ _ _) rfl ?_
            exact ⟨⟨_, rfl⟩, C', hbut.trans' hbut4 hg, fun b h => (hg4 b h).elim (hg b) (fun h2 => .inr (by omega)), .inr ⟨_, by rw [← List.range_succ]; exact range_pre (k + 1) (m + 1) (by omega), hj4⟩⟩
        · rw [hp, if_neg hxy] at hy
          have hne : ¬ n - x = 0 := by omega
          have hsub : (n : Int) - (x : Int) = ((n - x : Nat) : Int) := by omega
          clear hp
          gi_wp2_with fail
          refine ⟨rfl, hR.mono ?_⟩
          rintro e W4 ⟨C', hbut4, hg4, (⟨rfl, hj4⟩ | ⟨rfl, hj4⟩)⟩
          · have hs4 := hbut4.size
            have hBw4 : Below w₀.heap.size w₀ W4 := hB.trans ⟨hbut4.os, hbut4.tape, hbut4.output, hbut4.size, fun b hb => hbut4.block b (by have := hB.size; omega) (fun h => by have := (hC _ _ _ hj b h).1; omega)⟩
            gi_wp2_with fail
            go_roundw
            case rel => exact ⟨k + 1, by omega, by go_num, by rw [HY.out], C', by rw [List.range_succ]; exact hj4, hbut.trans' hbut4 hg, fun b h => (hg4 b h).elim (hg b) (fun h2 => .inr (by omega)), hBw4, by omega⟩
            case measure => simp [intOf]; omega
          · gi_wp2_with fail
            refine bodyPost_ret (results_none rfl _ _ _) rfl ?_
            exact ⟨⟨_, rfl⟩, C', hbut.trans' hbut4 hg, fun b h => (hg4 b h).elim (hg b) (fun h2 => .inr (by omega)), .inr ⟨_, by rw [← List.range_succ]; exact range_pre (k + 1) (m + 1) (by omega), hj4⟩⟩
    · obtain rfl : k = m + 1 := (by omega)
      gi_wp2
      go_end0
      exact ⟨⟨_, rfl⟩, C, hbut, hg, .inl hj⟩
end Go.Proofs.Ytgpcmkoimgnlbaa
