/- Walk: the nodes that own a cell, of the program. -/
import Derived.Test.YtcakccfhcgjofaaGreatNFrom
import Derived.Test.YtcakccfhcgjofaaGreatShelf
import Derived.Lib.OwnBridge
namespace Go.Proofs.YtcakccfhcgjofaaGreat
open Go Go.RowKit Go.Sort
set_option linter.unusedVariables false
theorem below_grow (w : World) (os : Array Obj) : Below w.heap.size w (grow w os) :=
  ⟨rfl, rfl, rfl, by simp [grow], fun k hk => heap_grow_old w os hk⟩
theorem ownersL_length (o : Nat → Int) (n : Nat) : (ownersL o n).length = n := by simp [ownersL]
theorem ownersL_get (o : Nat → Int) (n k : Nat) (h : k < n) : (ownersL o n).getD k 0 = o k := by simp [ownersL, List.getD_eq_getElem?_getD, h]
theorem sort_pairwise (zs : List Int) : (zs.mergeSort fun x y => decide (x ≤ y)).Pairwise (· ≤ ·) := by
  have h := List.pairwise_mergeSort (le := fun x y : Int => decide (x ≤ y)) (fun a b c h1 h2 => by simp at *; omega) (fun a b => by simp; omega) zs
  exact h.imp (fun h => by simpa using h)
set_option maxRecDepth 100000 in
set_option maxHeartbeats 2000000 in
theorem node_nodes (W H : Int) (a ao : Option Addr) (n c no co : Nat) (o : Nat → Int) (w : World) (h0 : 0 < no) (hno : no ≤ 4096) (ho : ∀ k, k < no → 0 ≤ o k ∧ o k ≤ 7) (HO : Sl w ao no o) :
    Calls Tryz.prog 64 #[.agg (cluV W H a ao n c no co)] w fun e w' => ∃ v, e = .returned v ∧ w'.ownsRow w.heap.size 3 1 v (nodeL o no 8).length ((nodeL o no 8).map vInt) ∧ Below w.heap.size w w' := by
  unfold cluV
  obtain ⟨b, off, rfl, hb, _⟩ := HO 0 h0
  have J := HO.alloc (.cells #[.int .i64 W, .int .i64 H, .slice a n c, .slice (some ⟨b, off, none⟩) no co] 73)
  have hcl := fun (W' : World) (hJ : Sl W' (some ⟨b, off, none⟩) no o) => Tryz.slices_Clone_int b off no co (ownersL o no) W' (by rw [ownersL_length]; exact Nat.le_refl _) (by omega) (fun j hj => by
    rw [ownersL_length] at hj
    obtain ⟨b', off', e, _, hc⟩ := hJ j hj
    injection e with e; injection e with e1 e2 _
    subst e1 e2
    rw [ownersL_get _ _ _ hj]; exact hc)
  have hcl' := hcl _ J
  clear hcl
  go_enter Tryz.func64, Tryz.ntmps64
  go_wp2_with fail
  refine hcl'.mono ?_
  rintro e w1 ⟨v1, rfl, hown1, hv1, hb1⟩
  clear hcl'
  have ht : (ownersL o no).take no = ownersL o no := List.take_of_length_le (by rw [ownersL_length]; exact Nat.le_refl _)
  rw [ht] at hown1
  clear ht
  obtain ⟨g, cap, rfl, hg1, hg2, hcap, hcm, _, hH1⟩ := Lib.holds_of_ownsRow hown1 hv1
  have hso := Tryz.slices_Sort_int g 0 cap (ownersL o no) w1 hH1 hg2 (by rw [ownersL_length]; omega)
  rw [ownersL_length] at hso
  obtain ⟨ys, hys⟩ : ∃ ys, ys = (ownersL o no).mergeSort (fun x y => decide (x ≤ y)) := ⟨_, rfl⟩
  have hyl : ys.length = no := by rw [hys, List.length_mergeSort, ownersL_length]
  have hyp : ys.Perm (ownersL o no) := by rw [hys]; exact List.mergeSort_perm _ _
  have hyo : ys.Pairwise (· ≤ ·) := by rw [hys]; exact sort_pairwise _
  rw [← hys] at hso
  have hcomp := nodes_of ho hyp hyo
  have HC := hid hcomp
  clear hys hcomp hyp hyo
  have HYL := hid hyl; clear hyl
  go_wp2_with fail
  refine hso.mono ?_
  rintro e w2 ⟨rfl, q, os, hw2⟩
  clear hso
  have hown2 : w2.ownsRow (w.heap.size + 1) 3 1 (.slice (some ⟨g, 0, none⟩) no cap) no (ys.map (Value.int .i64)) := by
    have h := Lib.ownsRow_putRow (q := q) (k := no) hown1 HYL.out (Nat.le_refl _)
    rw [List.take_of_length_le (by rw [HYL.out]; exact Nat.le_refl _)] at h
    rw [hw2]
    have h2 := own_below h (below_grow _ os)
    simpa using h2
  have hbb : Below w.heap.size w w2 := by
    rw [hw2]
    have h := Lib.below_putRow (enc := Value.int .i64) (q := q) (d := ys.toArray) (bvia (below_alloc w _) hb1) (show w.heap.size ≤ g by simp at hg1; omega)
    exact bvia h (below_grow _ os)
  clear hw2 hown1 hH1 hb1 J
  obtain ⟨g', cap', hv2, hg1', hg2', hcap', _, _, hH2⟩ := Lib.holds_of_ownsRow hown2 (fun h => by injection h with h; cases h)
  injection hv2 with e1 e2 e3
  injection e1 with e1; injection e1 with e1
  subst e1 e3
  have hco := Tryz.slices_Compact_int g 0 cap ys w2 hH2 (by rw [HYL.out]; omega) (by rw [HYL.out]; exact hcap)
  rw [HYL.out] at hco
  clear e2
  obtain ⟨zs, hzs⟩ : ∃ zs, zs = Lib.compact ys := ⟨_, rfl⟩
  have hzl : zs.length ≤ no := by rw [hzs, ← HYL.out]; exact Lib.compact_length_le ys
  rw [← hzs] at hco
  have HZ : Hid (zs = nodeL o no 8) := hid (by rw [hzs]; exact HC.out)
  clear hzs
  go_wp2_with fail
  refine hco.mono ?_
  rintro e w3 ⟨rfl, q2, hw3⟩
  clear hco
  have hown3 : w3.ownsRow (w.heap.size + 1) 3 1 (.slice (some ⟨g, 0, none⟩) zs.length cap) zs.length (zs.map (Value.int .i64)) := by
    have h := Lib.ownsRow_putRow (q := q2) (k := zs.length) (ys := zs ++ List.replicate (no - zs.length) 0) hown2 (by simp; omega) hzl
    rw [List.take_left] at h
    rw [hw3]
    exact h
  have hb3 : Below w.heap.size w w3 := by
    rw [hw3]
    exact Lib.below_putRow hbb (by omega)
  clear hw3
  go_wp2
  go_ret
  rw [← HZ.out]
  exact ⟨_, rfl, own_mono hown3 (by omega), hb3⟩
end Go.Proofs.YtcakccfhcgjofaaGreat
