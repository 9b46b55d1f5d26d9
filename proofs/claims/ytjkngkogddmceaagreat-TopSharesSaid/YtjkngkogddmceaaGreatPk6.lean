/- Walks: ValidPost, of the program and of the reference. Walk: counts, the map of a post from places to counts. -/
import Derived.Test.YtjkngkogddmceaaGreatPk5
import Derived.Test.YtjkngkogddmceaaGreatPk3
import Derived.Test.YtjkngkogddmceaaGreatPk4
import Derived.Test.YtjkngkogddmceaaGreatShelf
import Derived.Lib.OwnBridge
import Derived.LoopIn
import Derived.Sort.CutIn
import Derived.LoopNIn
import Derived.TacticsInMore
import Derived.Shelf.Abstract
import Derived.RangeFuncLeaves
import Derived.Maps.OwnIn
import Derived.Test.YtjkngkogddmceaaGreatPk2
import Derived.Maps.AppendAt
import Derived.Laws.AppendOwnNone
namespace Go.Proofs.YtjkngkogddmceaaGreat
open Go Go.RowKit Go.Maps
set_option linter.unusedVariables false
theorem node_of (x : N6) (w : World) : Calls Tryz.prog 103 #[.agg #[.int .i64 x.st, .int .i64 x.fr, .int .i64 x.to, .int .i64 x.ce, .int .i64 x.di, .int .i64 x.co]] w fun e w' => e = .returned (.agg #[.int .i64 x.st, .int .i64 x.ce, .int .i64 x.di]) ∧ Below w.heap.size w w' := by
  go_enter Tryz.func103, Tryz.ntmps103
  go_wp2
  refine bodyPost_ret (v := .agg #[.int .i64 x.st, .int .i64 x.ce, .int .i64 x.di]) (by simp [results, Tryz.results103, go_sem]) rfl ⟨rfl, ?_⟩
  (repeat' (first | with_reducible assumption | with_reducible exact Below.refl _ _ | with_reducible refine Below.drew ?_ | with_reducible refine below_drewN ?_ _ | with_reducible refine balloc ?_ _ | with_reducible refine bset ?_ ?_ _ | with_reducible refine Below.setCell ?_ ?_ _ | with_reducible refine Below.alloc ?_ ?_ _ | omega | (simp; done) | (simp; omega)))
theorem below_turned {B b : Nat} {w0 w w' : World} (h : Below B w0 w) (ht : w.mapTurned w' b) (hb : B ≤ b) (hB : B ≤ w.heap.size) : Below B w0 w' := h.grown ht.grown hB (fun g e => by injection e with e; omega)
end Go.Proofs.YtjkngkogddmceaaGreat
namespace Go.Proofs.YtjkngkogddmceaaGreat
open Go Go.RowKit Go.Maps Go.ChangeMaps
set_option linter.unusedVariables false
set_option linter.unusedSimpArgs false
/-- the count at the place of x of the first k notes -/
def cntV (p : Nat → N6) (x : N6) : Nat → Int | 0 => 0 | k + 1 => if plcB (p k) x then (p k).co else cntV p x k
/-- block b is a map of at most n places to ints: which it has, and what they are -/
def PcM (w : World) (b n : Nat) (S : N6 → Bool) (V : N6 → Int) : Prop :=
  ∃ D : DataW Unit, w.ownsMap Tryz.prog 133 (plainElem Tryz.prog 3) b n D ∧ ∀ x, wfN x → Maps.has D (plL x) = S x ∧ D.atKey (plL x) (.lit (.int .i64 0)) = .lit (.int .i64 (V x))
theorem pcm_made (w : World) : PcM (w.alloc (.map #[] 0)) w.heap.size 0 (fun _ => false) (fun _ => 0) :=
  ⟨.map [], World.ownsMap_made w _ _ _, fun i _ => by simp [DataW.atKey, Maps.has]⟩
theorem pcm_below {w w' : World} {b n : Nat} {S : N6 → Bool} {V : N6 → Int} (h : PcM w b n S V) (hb : Below w.heap.size w w') : PcM w' b n S V := by
  obtain ⟨D, ⟨es, clock, h1, h2⟩, hat⟩ := h
  refine ⟨D, ⟨es, clock, ?_, h2⟩, hat⟩
  rw [hb.block b ?_]
  · exact h1
  · rcases Nat.lt_or_ge b w.heap.size with h' | h'
    · exact h'
    · rw [Array.getElem?_eq_none h'] at h1; cases h1
theorem pcm_congr {w : World} {b n : Nat} {S S' : N6 → Bool} {V V' : N6 → Int} (h : PcM w b n S V) (e : ∀ x, S x = S' x) (e' : ∀ x, V x = V' x) : PcM w b n S' V' := by
  obtain ⟨D, h1, h2⟩ := h
  exact ⟨D, h1, fun x hx => by rw [← e x, ← e' x]; exact h2 x hx⟩
theorem pcm_lt {w : World} {b n : Nat} {S : N6 → Bool} {V : N6 → Int} (h : PcM w b n S V) : b < w.heap.size := by
  obtain ⟨D, ⟨es, clock, h1, h2⟩, hat⟩ := h
  exact (Array.getElem?_eq_some_iff.1 h1).1
theorem pcm_look {w : World} {b n : Nat} {S : N6 → Bool} {V : N6 → Int} (h : PcM w b n S V) {x : N6} (hx : wfN x) :
    (Instr.lookup 102 (.map (some b)) (plV x) true).run Tryz.prog w = .ok (.tuple #[.int .i64 (V x), .bool (S x)]) w := by
  obtain ⟨D, ho, hat⟩ := h
  obtain ⟨v, ps, hrun, hv⟩ := ho.look_ok (Keyed.of_law law_place) Tryz.underlying102 (z := .int .i64 0) (by kernel_rfl) (plainElem_int Tryz.underlying3 (by decide)) (key_place hx)
  obtain ⟨c, rfl, hc, _⟩ := plainElem_int_inv Tryz.underlying3 hv
  obtain ⟨h1, h2⟩ := hat x hx
  rw [h2] at hc
  simp only [Prod.mk.injEq, DataW.lit.injEq, Lit.int.injEq, true_and] at hc
  rw [hrun, h1, hc.1]
theorem pcm_store {w : World} {b n : Nat} {S : N6 → Bool} {V : N6 → Int} (h : PcM w b n S V) (hn : n < maxLen) {x : N6} (hx : wfN x) (c : Int) (hc : (Lit.int .i64 c).wf = true) :
    ∃ w', (Instr.mapUpdate 102 (.map (some b)) (plV x) (.int .i64 c)).run Tryz.prog w = .ok () w' ∧ PcM w' b (n + 1) (fun y => S y || plcB x y) (fun y => if plcB x y then c else V y) ∧ w.mapTurned w' b := by
  obtain ⟨D, ho, hat⟩ := h
  obtain ⟨w', hrun, ho', htn⟩ := ho.store (Keyed.of_law law_place) Tryz.underlying102 hn (key_place hx) (plainElem_int Tryz.underlying3 hc)
  refine ⟨w', hrun, ⟨_, ho', fun y hy => ?_⟩, htn⟩
  cases e : plcB x y
  · have hne : plL y ≠ plL x := by intro h'; have := plL_inj hx hy h'.symm; rw [e] at this; cases this
    rw [atKey_put_other hne, has_put_other hne, (hat y hy).1, (hat y hy).2]
    simp [e]
  · rw [← plL_eq e, atKey_put_same ho.isMap (by trivial), has_put_same ho.isMap (by trivial)]
    simp [e]
set_option maxRecDepth 100000 in
set_option maxHeartbeats 4000000 in
theorem node_counts (ap : Option Addr) (q cp : Nat) (p : Nat → N6) (w : World) (hq : q ≤ 100000000) (HP : Sn w ap q p) (HW : ∀ k, k < q → wfN (p k)) :
    Calls Tryz.prog 82 #[.slice ap q cp] w fun e w' => ∃ b, e = .returned (.map (some b)) ∧ PcM w' b q (fun y => metB p y q) (fun y => cntV p y q) ∧ Below w.heap.size w w' := by
  have hmm := @run_makeMap Tryz.prog
  have P1 := HP.alloc (.map #[] 0)
  have M1 := pcm_made w
  have B1 := below_alloc w (.map #[] 0)
  have HWF := hid HW; clear HW
  go_enter Tryz.func82, Tryz.ntmps82
  go_wp2
  clear hmm
  go_loopw [9] (fun i wr => ∃ k : Nat, k ≤ q ∧ i = .int .i64 k ∧ PcM wr w.heap.size k (fun y => metB p y k) (fun y => cntV p y k) ∧ Below w.heap.size w wr) (fun i _ => q - (intOf i).toNat)
  case atStart => exact ⟨0, Nat.zero_le _, rfl, M1, B1⟩
  case round =>
    obtain ⟨k, hk, rfl, hM, hB⟩ := hrel
    have hkey := pcm_lt hM
    by_cases hlt : k < q
    · obtain ⟨b1, o1, rfl, hb1, c0, c1, c2, c3, c4, c5⟩ := (HP.below hB).six hlt
      have hwf := HWF.out k hlt
      have hof := fun W => node_of (p k) W
      go_wp2_with fail
      have hW : Below wr.heap.size wr (wr.alloc (.cells #[.int .i64 (p k).st, .int .i64 (p k).fr, .int .i64 (p k).to, .int .i64 (p k).ce, .int .i64 (p k).di, .int .i64 (p k).co] 107)) := by (repeat' (first | with_reducible assumption | with_reducible exact Below.refl _ _ | with_reducible refine Below.drew ?_ | with_reducible refine below_drewN ?_ _ | with_reducible refine balloc ?_ _ | with_reducible refine bset ?_ ?_ _ | with_reducible refine Below.setCell ?_ ?_ _ | with_reducible refine Below.alloc ?_ ?_ _ | omega | (simp; done) | (simp; omega)))
      have Xs := Bx.new wr #[.int .i64 (p k).st, .int .i64 (p k).fr, .int .i64 (p k).to, .int .i64 (p k).ce, .int .i64 (p k).di, .int .i64 (p k).co] 107
      have M5 := pcm_below hM hW
      have B5 := bvia hB hW
      clear hM c0 c1 c2 c3 c4 c5
      generalize hWg : (wr.alloc (.cells #[.int .i64 (p k).st, .int .i64 (p k).fr, .int .i64 (p k).to, .int .i64 (p k).ce, .int .i64 (p k).di, .int .i64 (p k).co] 107)) = W5 at *
      clear hWg
      have s0 : ∀ Y, Below W5.heap.size W5 Y → Y.cell? ⟨wr.heap.size, 0, none⟩ = some (.int .i64 (p k).st) := fun Y h => (Xs.below h).at_ 0 rfl
      have s1 : ∀ Y, Below W5.heap.size W5 Y → Y.cell? ⟨wr.heap.size, 1, none⟩ = some (.int .i64 (p k).fr) := fun Y h => (Xs.below h).at_ 1 rfl
      have s2 : ∀ Y, Below W5.heap.size W5 Y → Y.cell? ⟨wr.heap.size, 2, none⟩ = some (.int .i64 (p k).to) := fun Y h => (Xs.below h).at_ 2 rfl
      have s3 : ∀ Y, Below W5.heap.size W5 Y → Y.cell? ⟨wr.heap.size, 3, none⟩ = some (.int .i64 (p k).ce) := fun Y h => (Xs.below h).at_ 3 rfl
      have s4 : ∀ Y, Below W5.heap.size W5 Y → Y.cell? ⟨wr.heap.size, 4, none⟩ = some (.int .i64 (p k).di) := fun Y h => (Xs.below h).at_ 4 rfl
      have s5 : ∀ Y, Below W5.heap.size W5 Y → Y.cell? ⟨wr.heap.size, 5, none⟩ = some (.int .i64 (p k).co) := fun Y h => (Xs.below h).at_ 5 rfl
      have hz := hW.size
      refine wp_region_S (fun Y => Below W5.heap.size W5 Y) 5 (by kernel_rfl) ?_
      refine anyS_take (i := 0) rfl (by kernel_rfl) (fun _ _ _ h => h) (Or.inl ⟨by rfl, fun Y hYb => (by (try dsimp only at hYb); go_simp; rfl)⟩) (by repeat' (first | with_reducible assumption | with_reducible exact Below.refl _ _ | with_reducible refine Below.drew ?_ | with_reducible refine below_drewN ?_ _)) ?_
      simp only [List.getElem_toArray, List.getElem_cons_succ, List.getElem_cons_zero, Act.put, List.setIfInBounds_toArray, List.set_cons_zero, List.set_cons_succ]
      refine anyS_take (i := 1) rfl (by kernel_rfl) (fun _ _ _ h => h) (Or.inl ⟨by rfl, fun Y hYb => (by (try dsimp only at hYb); go_simp; rfl)⟩) (by repeat' (first | with_reducible assumption | with_reducible exact Below.refl _ _ | with_reducible refine Below.drew ?_ | with_reducible refine below_drewN ?_ _)) ?_
      simp only [List.getElem_toArray, List.getElem_cons_succ, List.getElem_cons_zero, Act.put, List.setIfInBounds_toArray, List.set_cons_zero, List.set_cons_succ]
      refine anyS_take (i := 3) rfl (by kernel_rfl) (fun _ _ _ h => h) (Or.inl ⟨by rfl, fun Y hYb => (by (try dsimp only at hYb); go_simp; rfl)⟩) (by repeat' (first | with_reducible assumption | with_reducible exact Below.refl _ _ | with_reducible refine Below.drew ?_ | with_reducible refine below_drewN ?_ _)) ?_
      simp only [List.getElem_toArray, List.getElem_cons_succ, List.getElem_cons_zero, Act.put, List.setIfInBounds_toArray, List.set_cons_zero, List.set_cons_succ]
      refine anyS_take (i := 4) rfl (by kernel_rfl) (fun _ _ _ h => h) (Or.inl ⟨by rfl, fun Y hYb => (by (try dsimp only at hYb); go_simp; rfl)⟩) (by repeat' (first | with_reducible assumption | with_reducible exact Below.refl _ _ | with_reducible refine Below.drew ?_ | with_reducible refine below_drewN ?_ _)) ?_
      simp only [List.getElem_toArray, List.getElem_cons_succ, List.getElem_cons_zero, Act.put, List.setIfInBounds_toArray, List.set_cons_zero, List.set_cons_succ]
      refine anyS_one (i := 2) (by kernel_rfl) rfl (by rfl) (fun K hK => ?_)
      go_simp
      refine (hof _).mono ?_
      rintro e w6 ⟨rfl, hb6⟩
      dsimp only
      have hS6 : Below W5.heap.size W5 w6 := bvia (by (repeat' (first | with_reducible assumption | with_reducible exact Below.refl _ _ | with_reducible refine Below.drew ?_ | with_reducible refine below_drewN ?_ _ | with_reducible refine balloc ?_ _ | with_reducible refine bset ?_ ?_ _ | with_reducible refine Below.setCell ?_ ?_ _ | with_reducible refine Below.alloc ?_ ?_ _ | omega | (simp; done) | (simp; omega)))) hb6
      refine hK _ _ (fun _ _ => hS6) ?_
      clear hK K hb6
      have M6 := pcm_below M5 hS6
      have B6 := bvia B5 hS6
      obtain ⟨w7, hrun, M7, ht⟩ := pcm_store M6 (by simp [maxLen]; omega) hwf (p k).co (hwf 5 (by omega))
      unfold plV at hrun
      have hs6 := hS6.size
      have B7 := below_turned B6 ht (Nat.le_refl _) B6.size
      refine anyS_one (i := 5) (by kernel_rfl) rfl (by rfl) (fun K hK => ?_)
      go_simp
      refine hK _ _ (fun h _ => absurd h (by decide)) ?_
      clear hK K
      refine anyS_done (by kernel_rfl) ?_ _
      go_wp2
      go_roundw
      case rel => exact ⟨k + 1, by omega, by go_num, pcm_congr M7 (fun y => rfl) (fun y => rfl), B7⟩
      case measure => simp [intOf]; omega
    · obtain rfl : k = q := (by omega)
      go_wp2
      go_ret
      exact ⟨_, rfl, hM, hB⟩
end Go.Proofs.YtjkngkogddmceaaGreat
/- Walks: is a site right, of the program and of the reference. -/
namespace Go.Proofs.YtjkngkogddmceaaGreat
open Go Go.RowKit
set_option linter.unusedVariables false
set_option linter.unusedSimpArgs false
/-- a site that is as one of valid sites -/
def siteB (o : Nat → Int) (no : Nat) (s : SiteR) : Bool :=
  within s.st 0 1000000 && sameL s.ni s.I (ownL o s.nd no).length (fun k => (ownL o s.nd no).getD k 0) && decide (s.nc = s.ni) && massB s.nc s.C
theorem siteB_iff {o : Nat → Int} {no : Nat} {s : SiteR} : siteB o no s = true ↔ within s.st 0 1000000 = true ∧ sameL s.ni s.I (ownL o s.nd no).length (fun k => (ownL o s.nd no).getD k 0) = true ∧ s.nc = s.ni ∧ massB s.nc s.C = true := by
  simp [siteB, Bool.and_eq_true, and_assoc]
theorem node_within_b {n lo hi : Int} {b : Bool} (h : within n lo hi = b) (w : World) : Calls Tryz.prog 44 #[.int .i64 n, .int .i64 lo, .int .i64 hi] w fun e w' => e = .returned (.bool b) ∧ w = w' := h ▸ node_within n lo hi w
end Go.Proofs.YtjkngkogddmceaaGreat
/- Walk: the nodes that own a cell, of the program. Walks: the notes that are due, as the program's iterator yields them. Walk: the notes that are due, of the reference. Walks: the notes that an iterator yields, as a list. Walks: Due, of the program and of the reference; equal notes. -/
namespace Go.Proofs.YtjkngkogddmceaaGreat
open Go Go.RowKit Go.Sort
set_option linter.unusedVariables false
theorem below_grow (w : World) (os : Array Obj) : Below w.heap.size w (grow w os) :=
  ⟨rfl, rfl, rfl, by simp [grow], fun k hk => heap_grow_old w os hk⟩
theorem ownersL_length (o : Nat → Int) (n : Nat) : (ownersL o n).length = n := by simp [ownersL]
theorem ownersL_get (o : Nat → Int) (n k : Nat) (h : k < n) : (ownersL o n).getD k 0 = o k := by simp [ownersL, List.getD_eq_getElem?_getD, h]
theorem sort_pairwise (zs : List Int) : (zs.mergeSort fun x y => decide (x ≤ y)).Pairwise (· ≤ ·) := by
  have h := List.pairwise_mergeSort (le := fun x y : Int => decide (x ≤ y)) (fun a b c h1 h2 => by simp at *; omega) (fun a b => by simp; omega) zs
  exact h.imp (fun h => by simpa using h)
set_option maxRecDepth 100000 in
set_option maxHeartbeats 2000000 in
theorem node_nodes (W H : Int) (a ao : Option Addr) (n c no co : Nat) (o : Nat → Int) (w : World) (h0 : 0 < no) (hno : no ≤ 4096) (ho : ∀ k, k < no → 0 ≤ o k ∧ o k ≤ 7) (HO : Sl w ao no o) :
    Calls Tryz.prog 46 #[.agg (cluV W H a ao n c no co)] w fun e w' => ∃ v, e = .returned v ∧ w'.ownsRow w.heap.size 3 1 v (nodeL o no 8).length ((nodeL o no 8).map vInt) ∧ Below w.heap.size w w' := by
  unfold cluV
  obtain ⟨b, off, rfl, hb, _⟩ := HO 0 h0
  have J := HO.alloc (.cells #[.int .i64 W, .int .i64 H, .slice a n c, .slice (some ⟨b, off, none⟩) no co] 69)
  have hcl := fun (W' : World) (hJ : Sl W' (some ⟨b, off, none⟩) no o) => Tryz.slices_Clone_int b off no co (ownersL o no) W' (by rw [ownersL_length]; exact Nat.le_refl _) (by omega) (fun j hj => by
    rw [ownersL_length] at hj
    obtain ⟨b', off', e, _, hc⟩ := hJ j hj
    injection e with e; injection e with e1 e2 _
    subst e1 e2
    rw [ownersL_get _ _ _ hj]; exact hc)
  have hcl' := hcl _ J
  clear hcl
  go_enter Tryz.func46, Tryz.ntmps46
  go_wp2_with fail
  refine hcl'.mono ?_
  rintro e w1 ⟨v1, rfl, hown1, hv1, hb1⟩
  clear hcl'
  have ht : (ownersL o no).take no = ownersL o no := List.take_of_length_le (by rw [ownersL_length]; exact Nat.le_refl _)
  rw [ht] at hown1
  clear ht
  obtain ⟨g, cap, rfl, hg1, hg2, hcap, hcm, _, hH1⟩ := Lib.holds_of_ownsRow hown1 hv1
  have hso := Tryz.slices_Sort_int g 0 cap (ownersL o no) w1 hH1 hg2 (by rw [ownersL_length]; omega)
  rw [ownersL_length] at hso
  obtain ⟨ys, hys⟩ : ∃ ys, ys = (ownersL o no).mergeSort (fun x y => decide (x ≤ y)) := ⟨_, rfl⟩
  have hyl : ys.length = no := by rw [hys, List.length_mergeSort, ownersL_length]
  have hyp : ys.Perm (ownersL o no) := by rw [hys]; exact List.mergeSort_perm _ _
  have hyo : ys.Pairwise (· ≤ ·) := by rw [hys]; exact sort_pairwise _
  rw [← hys] at hso
  have hcomp := nodes_of ho hyp hyo
  have HC := hid hcomp
  clear hys hcomp hyp hyo
  have HYL := hid hyl; clear hyl
  go_wp2_with fail
  refine hso.mono ?_
  rintro e w2 ⟨rfl, q, os, hw2⟩
  clear hso
  have hown2 : w2.ownsRow (w.heap.size + 1) 3 1 (.slice (some ⟨g, 0, none⟩) no cap) no (ys.map (Value.int .i64)) := by
    have h := Lib.ownsRow_putRow (q := q) (k := no) hown1 HYL.out (Nat.le_refl _)
    rw [List.take_of_length_le (by rw [HYL.out]; exact Nat.le_refl _)] at h
    rw [hw2]
    have h2 := own_below h (below_grow _ os)
    simpa using h2
  have hbb : Below w.heap.size w w2 := by
    rw [hw2]
    have h := Lib.below_putRow (enc := Value.int .i64) (q := q) (d := ys.toArray) (bvia (below_alloc w _) hb1) (show w.heap.size ≤ g by simp at hg1; omega)
    exact bvia h (below_grow _ os)
  clear hw2 hown1 hH1 hb1 J
  obtain ⟨g', cap', hv2, hg1', hg2', hcap', _, _, hH2⟩ := Lib.holds_of_ownsRow hown2 (fun h => by injection h with h; cases h)
  injection hv2 with e1 e2 e3
  injection e1 with e1; injection e1 with e1
  subst e1 e3
  have hco := Tryz.slices_Compact_int g 0 cap ys w2 hH2 (by rw [HYL.out]; omega) (by rw [HYL.out]; exact hcap)
  rw [HYL.out] at hco
  clear e2
  obtain ⟨zs, hzs⟩ : ∃ zs, zs = Lib.compact ys := ⟨_, rfl⟩
  have hzl : zs.length ≤ no := by rw [hzs, ← HYL.out]; exact Lib.compact_length_le ys
  rw [← hzs] at hco
  have HZ : Hid (zs = nodeL o no 8) := hid (by rw [hzs]; exact HC.out)
  clear hzs
  go_wp2_with fail
  refine hco.mono ?_
  rintro e w3 ⟨rfl, q2, hw3⟩
  clear hco
  have hown3 : w3.ownsRow (w.heap.size + 1) 3 1 (.slice (some ⟨g, 0, none⟩) zs.length cap) zs.length (zs.map (Value.int .i64)) := by
    have h := Lib.ownsRow_putRow (q := q2) (k := zs.length) (ys := zs ++ List.replicate (no - zs.length) 0) hown2 (by simp; omega) hzl
    rw [List.take_left] at h
    rw [hw3]
    exact h
  have hb3 : Below w.heap.size w w3 := by
    rw [hw3]
    exact Lib.below_putRow hbb (by omega)
  clear hw3
  go_wp2
  go_ret
  rw [← HZ.out]
  exact ⟨_, rfl, own_mono hown3 (by omega), hb3⟩
end Go.Proofs.YtjkngkogddmceaaGreat
namespace Go.Proofs.YtjkngkogddmceaaGreat
open Go Go.RowKit
attribute [local go_sem] Oper.semAt_some
set_option linter.unusedVariables false
def encN (x : N6) : Array Value := #[.agg #[.int .i64 x.st, .int .i64 x.fr, .int .i64 x.to, .int .i64 x.ce, .int .i64 x.di, .int .i64 x.co]]
theorem dueC_pre (W H : Nat) (o : Nat → Int) (nd st : Int) (i d : Nat) : ∀ m, d ≤ m → dueC W H o nd st i d <+: dueC W H o nd st i m
  | 0, h => by rw [show d = 0 from by omega]; exact List.prefix_refl _
  | m + 1, h => by
    rcases Nat.lt_or_ge d (m + 1) with h' | h'
    · refine (dueC_pre W H o nd st i d m (by omega)).trans ?_
      simp only [dueC]
      split
      · exact List.prefix_refl _
      · exact List.prefix_append _ _
    · rw [show d = m + 1 from by omega]; exact List.prefix_refl _
theorem dueO_pre (W H : Nat) (o : Nat → Int) (nd st : Int) (l m : List Int) (h : l <+: m) : dueO W H o nd st l <+: dueO W H o nd st m := by
  obtain ⟨t, rfl⟩ := h
  simp only [dueO, List.flatMap_append]
  exact List.prefix_append _ _
theorem take_getD {l : List Int} {k : Nat} (h : k < l.length) : l.take (k + 1) = l.take k ++ [l.getD k 0] := by
  rw [List.take_succ_eq_append_getElem h, List.getD_eq_getElem?_getD, List.getElem?_eq_getElem h]; rfl
theorem own_at {o : Nat → Int} {nd : Int} {n k : Nat} (h : k < (ownL o nd n).length) : ∃ i : Nat, i < n ∧ (ownL o nd n).getD k 0 = i ∧ o i = nd := by
  refine ownL_mem.1 ?_
  rw [List.getD_eq_getElem?_getD, List.getElem?_eq_getElem h]
  exact List.getElem_mem _
theorem own_butN {C : Nat → Prop} {X Y : World} {base : Nat} {e : TypeId} {size n : Nat} {v : Value} {xs : List Value} (h : X.ownsRow base e size v n xs) (hb : But C X Y) (hne : ∀ g, v.ownBlock = some g → ¬ C g) : Y.ownsRow base e size v n xs := by
  refine ⟨h.1, ?_⟩
  rcases h.2 with h' | ⟨g, cap, cur, rfl, hbs, hh, rest⟩
  · exact .inl h'
  · refine .inr ⟨g, cap, cur, rfl, hbs, ?_, rest⟩
    rw [hb.block g (own_lt h g rfl) (hne g rfl)]
    exact hh
theorem node_due (W H : Int) (a ao : Option Addr) (n c no co : Nat) (nd st : Int) (w : World) :
    Calls Tryz.prog 90 #[.agg (cluV W H a ao n c no co), .int .i64 nd, .int .i64 st] w fun e w' => ∃ bc bn bs, e = .returned (.func (.func 119) #[] #[.pointer (some ⟨bc, 0, none⟩), .pointer (some ⟨bn, 0, none⟩), .pointer (some ⟨bs, 0, none⟩)]) ∧
      Bx w' bc (cluV W H a ao n c no co) ∧ Bx w' bn #[.int .i64 nd] ∧ Bx w' bs #[.int .i64 st] ∧ (w.heap.size ≤ bc ∧ w.heap.size ≤ bn ∧ w.heap.size ≤ bs) ∧ Below w.heap.size w w' := by
  unfold cluV
  have X0 := ((Bx.new w #[.int .i64 W, .int .i64 H, .slice a n c, .slice ao no co] 69).alloc (.cells #[.int .i64 nd] 3)).alloc (.cells #[.int .i64 st] 3)
  have X1 := (Bx.new (w.alloc (.cells #[.int .i64 W, .int .i64 H, .slice a n c, .slice ao no co] 69)) #[.int .i64 nd] 3).alloc (.cells #[.int .i64 st] 3)
  have X2 := Bx.new ((w.alloc (.cells #[.int .i64 W, .int .i64 H, .slice a n c, .slice ao no co] 69)).alloc (.cells #[.int .i64 nd] 3)) #[.int .i64 st] 3
  simp only [World.size_alloc] at X1 X2
  have hB0 : Below w.heap.size w (((w.alloc (.cells #[.int .i64 W, .int .i64 H, .slice a n c, .slice ao no co] 69)).alloc (.cells #[.int .i64 nd] 3)).alloc (.cells #[.int .i64 st] 3)) := by (repeat' (first | with_reducible assumption | with_reducible exact Below.refl _ _ | with_reducible refine Below.drew ?_ | with_reducible refine below_drewN ?_ _ | with_reducible refine balloc ?_ _ | with_reducible refine bset ?_ ?_ _ | with_reducible refine Below.setCell ?_ ?_ _ | with_reducible refine Below.alloc ?_ ?_ _ | omega | (simp; done) | (simp; omega)))
  go_enter Tryz.func90, Tryz.ntmps90
  go_wp2_with fail
  generalize (((w.alloc (.cells #[.int .i64 W, .int .i64 H, .slice a n c, .slice ao no co] 69)).alloc (.cells #[.int .i64 nd] 3)).alloc (.cells #[.int .i64 st] 3)) = W0 at X0 X1 X2 hB0 ⊢
  have z0 := X0.lt
  have z1 := X1.lt
  have z2 := X2.lt
  go_ret
  exact ⟨_, _, _, rfl, X0, X1, X2, ⟨by omega, by omega, by omega⟩, hB0⟩
theorem ent_due : ∀ args w, (callFunc 119 args).run Tryz.prog w = .ok (.enter 119 args) w := Go.Proofs.enters_of Tryz.func119 (by kernel_rfl) rfl
/-- what the iterator reads of its own boxes -/
def DueRd (cv : Array Value) (nd st : Int) (bc bn bs : Nat) (X : World) : Prop := Bx X bc cv ∧ Bx X bn #[.int .i64 nd] ∧ Bx X bs #[.int .i64 st]
set_option maxRecDepth 100000 in
set_option maxHeartbeats 4000000 in
theorem due_iterR (Wd Hd : Nat) (a ao : Option Addr) (n c no co : Nat) (o : Nat → Int) (nd st : Int) (bc bn bs : Nat) (w₀ : World) (h1 : 1 ≤ Wd ∧ Wd ≤ 64) (h2 : 1 ≤ Hd ∧ Hd ≤ 64) (hno : no = Wd * Hd) (HO : Sl w₀ ao no o) :
    IterR Tryz.prog 119 #[.pointer (some ⟨bc, 0, none⟩), .pointer (some ⟨bn, 0, none⟩), .pointer (some ⟨bs, 0, none⟩)] encN (dueL Wd Hd o nd st no) w₀ (DueRd (cluV Wd Hd a ao n c no co) nd st bc bn bs) := by
  intro l J Jx C₀ W hR0 hW hC hJ hJx hY h0
  have hs0 := hW.size
  have hno4 : no ≤ 4096 := by
    have : Wd * Hd ≤ 64 * 64 := Nat.mul_le_mul h1.2 h2.2
    omega
  have HNO := hid hno; clear hno
  rw [← dueO_own] at hY ⊢
  have hC0 := hC [] C₀ W h0
  unfold cluV at hR0
  obtain ⟨Yc, Yn, _⟩ := hR0 _ _ _ h0
  have c0 := Yc.at_ 0 rfl; have c1 := Yc.at_ 1 rfl; have c2 := Yc.at_ 2 rfl; have c3 := Yc.at_ 3 rfl; have cn := Yn.at_ 0 rfl; have lc := Yc.lt; have ln := Yn.lt
  have hcall := node_owned (Wd : Int) (Hd : Int) a ao n c no co o nd W (by omega) (HO.below hW)
  unfold cluV at hcall
  refine callsIn_wide.1 (callsIn_of_wp (F := Fence.wide) (n := 0) Tryz.func119 rfl trivial ?_)
  simp only [Tryz.ntmps119, List.size_toArray, List.length_cons, List.length_nil, Nat.reduceAdd, Nat.reduceSub, Array.replicate_succ, Array.replicate_zero, List.push_toArray, List.append_toArray, List.nil_append, List.cons_append]
  gi_wp2_with fail
  refine ⟨trivial, rfl, callsIn_wide.2 (hcall.mono ?_)⟩
  rintro e w1 ⟨v, rfl, hown, hb1⟩
  obtain ⟨av, cv, hv, _⟩ := sl_of_own hown
  obtain ⟨L, hL⟩ : ∃ L, L = ownL o nd no := ⟨_, rfl⟩
  have hLn : L.length ≤ no := by rw [hL]; exact ownL_length _ _ _
  have hLa : ∀ k, k < L.length → ∃ i : Nat, i < no ∧ L.getD k 0 = i ∧ o i = nd := fun k hk => by rw [hL] at hk ⊢; exact own_at hk
  have HLA := hid hLa; clear hLa
  rw [← hL] at hown hY hv
  have HL := hid hL; clear hL
  subst hv
  have hj1 : J (dueO Wd Hd o nd st (L.take 0)) C₀ w1 := hJ _ _ _ _ h0 (but_below hb1 (Nat.le_refl _))
  have hne0 : ∀ g, (Value.slice av L.length cv).ownBlock = some g → ¬ C₀ g := fun g hg hc => by have := own_base hown g hg; have := (hC0 g hc).2; omega
  have hB1 : Below w₀.heap.size w₀ w1 := hW.trans (hb1.mono hs0)
  have hs1 := hb1.size
  clear c0 c1 c2 c3 cn
  gi_wp2_with fail
  gi_loopw [13] (fun i wr => ∃ k : Nat, k ≤ L.length ∧ i = .int .i64 k ∧ wr.ownsRow W.heap.size 3 1 (.slice av L.length cv) L.length (L.map vInt) ∧ ∃ C, J (dueO Wd Hd o nd st (L.take k)) C wr ∧ But C₀ W wr ∧ Grw C₀ C W ∧ Below w₀.heap.size w₀ wr ∧ W.heap.size ≤ wr.heap.size ∧ (∀ g, (Value.slice av L.length cv).ownBlock = some g → ¬ C g)) (fun i _ => L.length - (intOf i).toNat)
  case atStart => exact ⟨0, Nat.zero_le _, rfl, hown, C₀, hj1, but_below hb1 (Nat.le_refl _), Grw.refl _ _, hB1, hs1, hne0⟩
  case round =>
    obtain ⟨wo, rfl⟩ : ∃ wo : World, wo = wr := ⟨_, rfl⟩
    obtain ⟨k, hk, rfl, hown, C, hj, hbut, hg, hB, hz, hne⟩ := hrel
    by_cases hlt : k < L.length
    · obtain ⟨i, hi, hLk, hoi⟩ := HLA.out k hlt
      have HOI := hid hoi; clear hoi
      have hT : dueO Wd Hd o nd st (L.take (k + 1)) = dueO Wd Hd o nd st (L.take k) ++ dueC Wd Hd o nd st i 4 := by
        rw [take_getD hlt, dueO_snoc, hLk]; rfl
      have hTp : dueO Wd Hd o nd st (L.take (k + 1)) <+: dueO Wd Hd o nd st L := dueO_pre _ _ _ _ _ _ _ (List.take_prefix _ _)
      have HT := hid hT; have HTP := hid hTp
      clear hT hTp
      obtain ⟨av', cv', hv', Sv⟩ := sl_of_own hown
      injection hv' with hv1 hv2 hv3
      subst hv1
      subst hv3
      obtain ⟨bv, ov, rfl, hbv, cv0⟩ := Sv k hlt
      dsimp only at cv0
      rw [hLk] at cv0
      clear hv2 Sv
      have HLK := hid hLk; clear hLk
      gi_wp2_with fail
      clear cv0 hbv
      gi_loopw [17] (fun di wr => ∃ d : Nat, d ≤ 4 ∧ di = .int .i64 d ∧ wr.ownsRow W.heap.size 3 1 (.slice (some ⟨bv, ov, none⟩) L.length cv) L.length (L.map vInt) ∧ ∃ C, J (dueO Wd Hd o nd st (L.take k) ++ dueC Wd Hd o nd st i d) C wr ∧ But C₀ W wr ∧ Grw C₀ C W ∧ Below w₀.heap.size w₀ wr ∧ W.heap.size ≤ wr.heap.size ∧ (∀ g, (Value.slice (some ⟨bv, ov, none⟩) L.length cv).ownBlock = some g → ¬ C g)) (fun di _ => 4 - (intOf di).toNat)
      case atStart => exact ⟨0, Nat.zero_le _, rfl, hown, C, by simpa [dueC] using hj, hbut, hg, hB, hz, hne⟩
      case round =>
        obtain ⟨d, hd, rfl, hown5, C5, hj5, hbut5, hg5, hB5, hz5, hne5⟩ := hrel
        clear hown hj hbut hg hB hz hne
        by_cases hd4 : d < 4
        · have hnb := nbT_lt (W := Wd) (H := Hd) (i := i) (by rw [← HNO.out]; exact hi) hd4
          rw [← HNO.out] at hnb
          have hcf := fun Y => node_from Wd Hd i d a ao n c no co Y h1 h2 (by rw [← HNO.out]; exact hi) hd4
          have hCs : dueC Wd Hd o nd st i (d + 1) = if o (nbT Wd Hd i d) = nd then dueC Wd Hd o nd st i d else dueC Wd Hd o nd st i d ++ [⟨st, o (nbT Wd Hd i d), nd, i, d, 0⟩] := rfl
          have hPr : dueO Wd Hd o nd st (L.take k) ++ dueC Wd Hd o nd st i (d + 1) <+: dueO Wd Hd o nd st L :=
            ((List.prefix_append_right_inj _).2 (dueC_pre Wd Hd o nd st i (d + 1) 4 (by omega))).trans (by rw [← HT.out]; exact HTP.out)
          obtain ⟨bo, oo, rfl, hbo, co0⟩ := (HO.below hB5) (nbT Wd Hd i d) hnb
          unfold cluV at hcf
          obtain ⟨Zc, _, _⟩ := hR0 _ _ _ hj5
          have r0 : ∀ Y, Below wr.heap.size wr Y → Y.cell? ⟨bc, 0, none⟩ = some (.int .i64 (Wd : Int)) := fun Y h => (Zc.below h).at_ 0 rfl
          have r1 : ∀ Y, Below wr.heap.size wr Y → Y.cell? ⟨bc, 1, none⟩ = some (.int .i64 (Hd : Int)) := fun Y h => (Zc.below h).at_ 1 rfl
          have r2 : ∀ Y, Below wr.heap.size wr Y → Y.cell? ⟨bc, 2, none⟩ = some (.slice a n c) := fun Y h => (Zc.below h).at_ 2 rfl
          have r3 : ∀ Y, Below wr.heap.size wr Y → Y.cell? ⟨bc, 3, none⟩ = some (.slice (some ⟨bo, oo, none⟩) no co) := fun Y h => (Zc.below h).at_ 3 rfl
          have ro : ∀ Y, Below wr.heap.size wr Y → Y.cell? ⟨bo, oo + nbT Wd Hd i d, none⟩ = some (.int .i64 (o (nbT Wd Hd i d))) := fun Y h => (bcell h _ _ hbo).trans co0
          clear co0 Zc
          have HCS := hid hCs; clear hCs
          have HPR := hid hPr; clear hPr
          generalize nbT Wd Hd i d = m at *
          obtain ⟨om, hom⟩ : ∃ x, x = o m := ⟨_, rfl⟩
          rw [← hom] at ro
          have HOM := hid hom; clear hom
          gi_upto_region 6 with (fail)
          refine wpIn_wide.2 ?_
          go_region_held3 (fun Y => Below wr.heap.size wr Y) ((repeat' (first | with_reducible assumption | with_reducible exact Below.refl _ _ | with_reducible refine Below.drew ?_ | with_reducible refine below_drewN ?_ _ | with_reducible refine balloc ?_ _ | with_reducible refine bset ?_ ?_ _ | with_reducible refine Below.setCell ?_ ?_ _ | with_reducible refine Below.alloc ?_ ?_ _ | omega | (simp; done) | (simp; omega))))
            ((first
              | (go_at_call 109; refine (hcf _).mono ?_; rintro e w8 ⟨rfl, hb8⟩; have hB8 : Below wr.heap.size wr w8 := bvia (by (repeat' (first | with_reducible assumption | with_reducible exact Below.refl _ _ | with_reducible refine Below.drew ?_ | with_reducible refine below_drewN ?_ _ | with_reducible refine balloc ?_ _ | with_reducible refine bset ?_ ?_ _ | with_reducible refine Below.setCell ?_ ?_ _ | with_reducible refine Below.alloc ?_ ?_ _ | omega | (simp; done) | (simp; omega)))) hb8; have hck := bcell hb8; have hfk := bfrozen hb8; have hzk := hb8.size; (try simp at hzk); (try have hz1k : wr.heap.size < w8.heap.size := (by omega)))
              | fail))
          all_goals
            have hW8 : Below w₀.heap.size w₀ w8 := hB5.trans (hB8.mono hB5.size)
            have hbt8 : ∀ C : Nat → Prop, But C wr w8 := fun C => but_below hB8 (Nat.le_refl _)
            have hj8 := hJ _ _ _ _ hj5 (hbt8 _)
            have hown8 := own_butN hown5 (hbt8 C5) hne5
            have hs8 := hB8.size
            clear r0 r1 r2 r3 ro hcf hck hfk hb8 hb1 hj5 hown5 hj1 hown
            obtain ⟨_, Yn, Ys⟩ := hR0 _ _ _ hj8
            have n0 := Yn.at_ 0 rfl; have s0 := Ys.at_ 0 rfl; have ln := Yn.lt; have ls := Ys.lt
            cases hq : (om != nd)
            · have hq' : om = nd := by simpa using hq
              have HQ := hid hq'; clear hq'
              gi_wp2_with fail
              refine ⟨fun _ h => (by cases h), ?_⟩
              gi_wp2_with fail
              go_roundw
              case rel => exact ⟨d + 1, by omega, by go_num, hown8, C5, by rw [HCS.out, ← HOM.out, if_pos HQ.out]; exact hj8, hbut5.trans (hbt8 _), hg5, hW8, by omega, hne5⟩
              case measure => simp [intOf]; omega
            · have hq' : ¬ om = nd := by simpa using hq
              have HQ := hid hq'; clear hq'
              have hnew : dueC Wd Hd o nd st i (d + 1) = dueC Wd Hd o nd st i d ++ [⟨st, om, nd, i, d, 0⟩] := by rw [HCS.out, ← HOM.out, if_neg HQ.out]
              obtain ⟨fn, tmps, asg, bdy, hy, hR⟩ := hY (dueO Wd Hd o nd st (L.take k) ++ dueC Wd Hd o nd st i d) ⟨st, om, nd, i, d, 0⟩ C5 w8 hj8 hW8 (by rw [List.append_assoc, ← hnew]; exact HPR.out)
              rw [List.append_assoc, ← hnew] at hR
              have HNEW := hid hnew; clear hnew
              dsimp only [encN] at hy
              gi_wp2_with fail
              refine ⟨rfl, hR.mono ?_⟩
              rintro e W4 ⟨C', hbut4, hg4, (⟨rfl, hj4⟩ | ⟨rfl, hj4⟩)⟩
              · have hs4 := hbut4.size
                have hBw4 : Below w₀.heap.size w₀ W4 := hW8.trans ⟨hbut4.os, hbut4.tape, hbut4.output, hbut4.size, fun b hb => hbut4.block b (by have := hW8.size; omega) (fun h => by have := (hC _ _ _ hj8 b h).1; omega)⟩
                gi_wp2_with fail
                go_roundw
                case rel => exact ⟨d + 1, by omega, by go_num, own_butN hown8 hbut4 hne5, C', hj4, (hbut5.trans (hbt8 _)).trans' hbut4 hg5, fun b h => (hg4 b h).elim (hg5 b) (fun h2 => .inr (by omega)), hBw4, by omega, fun g hg hc => (hg4 g hc).elim (hne5 g hg) (fun h2 => by have := own_lt hown8 g hg; omega)⟩
                case measure => simp [intOf]; omega
              · gi_wp2_with fail
                refine bodyPost_ret (results_none rfl _ _ _) rfl ?_
                exact ⟨⟨_, rfl⟩, C', (hbut5.trans (hbt8 _)).trans' hbut4 hg5, fun b h => (hg4 b h).elim (hg5 b) (fun h2 => .inr (by omega)), .inr ⟨_, by rw [← HL.out]; exact HPR.out, hj4⟩⟩
        · obtain rfl : d = 4 := (by omega)
          gi_wp2_with fail
          go_roundw
          case rel => exact ⟨k + 1, by omega, by go_num, hown5, C5, by rw [HT.out]; exact hj5, hbut5, hg5, hB5, hz5, hne5⟩
          case measure => simp [intOf]; omega
    · obtain rfl : k = L.length := (by omega)
      gi_wp2
      go_end0
      rw [List.take_length] at hj
      exact ⟨⟨_, rfl⟩, C, hbut, hg, .inl (by rw [← HL.out]; exact hj)⟩
end Go.Proofs.YtjkngkogddmceaaGreat
namespace Go.Proofs.YtjkngkogddmceaaGreat
open Go Go.RowKit
attribute [local go_sem] Oper.semAt_some
set_option linter.unusedVariables false
theorem own_sliceN {w : World} {base : Nat} {e : TypeId} {size n : Nat} {v : Value} {xs : List Value} (h : w.ownsRow base e size v n xs) : ∃ a k c, v = .slice a k c := by
  rcases h.2 with ⟨rfl, _⟩ | ⟨g', cap, cur, rfl, _⟩
  · exact ⟨_, _, _, rfl⟩
  · exact ⟨_, _, _, rfl⟩
theorem but_grownN {C : Nat → Prop} {X Y Z : World} {row : Option Nat} (h : But C X Y) (hg : Y.grownBy Z row) (hr : ∀ g, row = some g → C g) : But C X Z :=
  ⟨hg.os.trans h.os, hg.tape.trans h.tape, hg.output.trans h.output, Nat.le_trans h.size hg.size, fun b hb hc => (hg.block b (Nat.lt_of_lt_of_le hb h.size) (fun e => hc (hr b e.symm))).trans (h.block b hb hc)⟩
end Go.Proofs.YtjkngkogddmceaaGreat
/- Walk: ready, of the program: is all that is due to a site in the post? -/
namespace Go.Proofs.YtjkngkogddmceaaGreat
open Go Go.RowKit Go.Maps
attribute [local go_sem] Oper.semAt_some
set_option linter.unusedVariables false
set_option linter.unusedSimpArgs false
/-- the word between two rounds -/
def RW (c5 c6 bc bn bs b M : Nat) (cv : Array Value) (nd st : Int) (S : N6 → Bool) (w : World) (pre : List N6) (C : Nat → Prop) (X : World) : Prop :=
  C = (fun z => w.heap.size ≤ z ∧ z < M) ∧ Bx X c5 #[.map (some b)] ∧ Bx X c6 #[.bool false] ∧ DueRd cv nd st bc bn bs X ∧ (∀ x, x ∈ pre → S x = true) ∧ Below w.heap.size w X ∧ M ≤ X.heap.size
/-- .. and when a round has ended it -/
def RX (c6 M : Nat) (S : N6 → Bool) (w : World) (c : Code) (pre : List N6) (C : Nat → Prop) (X : World) : Prop :=
  c = .ret ∧ C = (fun z => w.heap.size ≤ z ∧ z < M) ∧ Bx X c6 #[.bool false] ∧ (∃ x, x ∈ pre ∧ S x = false) ∧ Below w.heap.size w X ∧ M ≤ X.heap.size
theorem below_but {w A B : World} {C : Nat → Prop} (hB : Below w.heap.size w A) (hbut : But (fun z => w.heap.size ≤ z ∧ C z) A B) : Below w.heap.size w B :=
  hB.trans (⟨hbut.os, hbut.tape, hbut.output, hbut.size, fun z hz => hbut.block z (by have := hB.size; omega) (fun h => by omega)⟩ : Below w.heap.size A B)
theorem rw_stab {c5 c6 bc bn bs b M : Nat} {cv : Array Value} {nd st : Int} {S : N6 → Bool} {w : World} (hm : (w.heap.size ≤ c5 ∧ c5 < M) ∧ (w.heap.size ≤ c6 ∧ c6 < M) ∧ (w.heap.size ≤ bc ∧ bc < M) ∧ (w.heap.size ≤ bn ∧ bn < M) ∧ (w.heap.size ≤ bs ∧ bs < M)) :
    Stab w.heap.size (RW c5 c6 bc bn bs b M cv nd st S w) := by
  rintro pre C A B ⟨rfl, h5, h6, ⟨hc, hn, hs⟩, hS, hB, hM⟩ hbut
  obtain ⟨m5, m6, mc, mn, ms⟩ := hm
  exact ⟨rfl, h5.but hbut (fun h => h.2 m5), h6.but hbut (fun h => h.2 m6), ⟨hc.but hbut (fun h => h.2 mc), hn.but hbut (fun h => h.2 mn), hs.but hbut (fun h => h.2 ms)⟩, hS, below_but hB hbut, Nat.le_trans hM hbut.size⟩
theorem rx_stab {c6 M : Nat} {S : N6 → Bool} {w : World} (hm : w.heap.size ≤ c6 ∧ c6 < M) (c : Code) : Stab w.heap.size (RX c6 M S w c) := by
  rintro pre C A B ⟨h1, rfl, h6, hS, hB, hM⟩ hbut
  exact ⟨h1, rfl, h6.but hbut (fun h => h.2 hm), hS, below_but hB hbut, Nat.le_trans hM hbut.size⟩
set_option maxRecDepth 100000 in
set_option maxHeartbeats 4000000 in
theorem node_ready (Wd Hd : Nat) (a ao : Option Addr) (n c no co : Nat) (o : Nat → Int) (nd st : Int) (ix cl : Option Addr) (ni ci nc cc b q : Nat) (S : N6 → Bool) (V : N6 → Int) (w : World) (h1 : 1 ≤ Wd ∧ Wd ≤ 64) (h2 : 1 ≤ Hd ∧ Hd ≤ 64) (hno : no = Wd * Hd) (HO : Sl w ao no o) (HM : PcM w b q S V)
    (hL : ∀ x, x ∈ dueL Wd Hd o nd st no → wfN x) :
    Calls Tryz.prog 81 #[.agg (cluV Wd Hd a ao n c no co), .agg #[.int .i64 nd, .int .i64 st, .slice ix ni ci, .slice cl nc cc], .map (some b)] w
      fun e w' => e = .returned (.bool (st == 0 || (dueL Wd Hd o nd st no).all S)) ∧ Below w.heap.size w w' := by
  have hdu := fun W => node_due (Wd : Int) (Hd : Int) a ao n c no co nd st W
  have hit := fun bc bn bs => due_iterR Wd Hd a ao n c no co o nd st bc bn bs w h1 h2 hno HO
  have hlt := pcm_lt HM
  clear hno
  generalize hLL : dueL Wd Hd o nd st no = L at *
  clear hLL
  unfold cluV at *
  have X0 := (((Bx.new w #[.int .i64 (Wd : Int), .int .i64 (Hd : Int), .slice a n c, .slice ao no co] 69).alloc (.cells #[.int .i64 nd, .int .i64 st, .slice ix ni ci, .slice cl nc cc] 99)).alloc (.cells #[.map (some b)] 102)).alloc (.cells #[.bool false] 4)
  have X1 := ((Bx.new (w.alloc (.cells #[.int .i64 (Wd : Int), .int .i64 (Hd : Int), .slice a n c, .slice ao no co] 69)) #[.int .i64 nd, .int .i64 st, .slice ix ni ci, .slice cl nc cc] 99).alloc (.cells #[.map (some b)] 102)).alloc (.cells #[.bool false] 4)
  have X2 := (Bx.new ((w.alloc (.cells #[.int .i64 (Wd : Int), .int .i64 (Hd : Int), .slice a n c, .slice ao no co] 69)).alloc (.cells #[.int .i64 nd, .int .i64 st, .slice ix ni ci, .slice cl nc cc] 99)) #[.map (some b)] 102).alloc (.cells #[.bool false] 4)
  have X3 := Bx.new (((w.alloc (.cells #[.int .i64 (Wd : Int), .int .i64 (Hd : Int), .slice a n c, .slice ao no co] 69)).alloc (.cells #[.int .i64 nd, .int .i64 st, .slice ix ni ci, .slice cl nc cc] 99)).alloc (.cells #[.map (some b)] 102)) #[.bool false] 4
  simp only [World.size_alloc] at X1 X2 X3
  have hB0 : Below w.heap.size w ((((w.alloc (.cells #[.int .i64 (Wd : Int), .int .i64 (Hd : Int), .slice a n c, .slice ao no co] 69)).alloc (.cells #[.int .i64 nd, .int .i64 st, .slice ix ni ci, .slice cl nc cc] 99)).alloc (.cells #[.map (some b)] 102)).alloc (.cells #[.bool false] 4)) := by (repeat' (first | with_reducible assumption | with_reducible exact Below.refl _ _ | with_reducible refine Below.drew ?_ | with_reducible refine below_drewN ?_ _ | with_reducible refine balloc ?_ _ | with_reducible refine bset ?_ ?_ _ | with_reducible refine Below.setCell ?_ ?_ _ | with_reducible refine Below.alloc ?_ ?_ _ | omega | (simp; done) | (simp; omega)))
  cases h0 : (st == 0)
  rotate_left
  · rw [Bool.true_or]
    go_enter Tryz.func81, Tryz.ntmps81
    go_wp2_with fail
    generalize ((((w.alloc (.cells #[.int .i64 (Wd : Int), .int .i64 (Hd : Int), .slice a n c, .slice ao no co] 69)).alloc (.cells #[.int .i64 nd, .int .i64 st, .slice ix ni ci, .slice cl nc cc] 99)).alloc (.cells #[.map (some b)] 102)).alloc (.cells #[.bool false] 4)) = W0 at X0 X1 X2 X3 hB0 ⊢
    have z0 := X0.lt
    have z1 := X1.lt
    have z2 := X2.lt
    have z3 := X3.lt
    have f3 := X3.free
    go_wp2
    have c3 := (X3.set_ 0 (by simp) (.bool true)).at_ 0 rfl
    refine bodyPost_ret (v := .bool true) (by simp [results, Tryz.results81, go_sem, c3]) rfl ⟨rfl, ?_⟩
    (repeat' (first | with_reducible assumption | with_reducible exact Below.refl _ _ | with_reducible refine Below.drew ?_ | with_reducible refine below_drewN ?_ _ | with_reducible refine balloc ?_ _ | with_reducible refine bset ?_ ?_ _ | with_reducible refine Below.setCell ?_ ?_ _ | with_reducible refine Below.alloc ?_ ?_ _ | omega | (simp; done) | (simp; omega)))
  rw [Bool.false_or]
  refine callsIn_wide.1 (callsIn_of_wp_marks (F := Fence.wide) (n := 0) Tryz.func81 rfl trivial ?_ rfl)
  simp only [Tryz.ntmps81, List.size_toArray, List.length_cons, List.length_nil, Nat.reduceAdd, Nat.reduceSub, Array.replicate_succ, Array.replicate_zero, List.push_toArray, List.append_toArray, List.nil_append, List.cons_append]
  gi_wp2_with fail
  generalize ((((w.alloc (.cells #[.int .i64 (Wd : Int), .int .i64 (Hd : Int), .slice a n c, .slice ao no co] 69)).alloc (.cells #[.int .i64 nd, .int .i64 st, .slice ix ni ci, .slice cl nc cc] 99)).alloc (.cells #[.map (some b)] 102)).alloc (.cells #[.bool false] 4)) = W0 at X0 X1 X2 X3 hB0 ⊢
  have z0 := X0.lt
  have z1 := X1.lt
  have z2 := X2.lt
  have z3 := X3.lt
  refine ⟨trivial, rfl, callsIn_wide.2 ((hdu _).mono ?_)⟩
  rintro e w2 ⟨bc, bn, bs, rfl, Zc, Zn, Zs, ⟨g1, g2, g3⟩, hb2⟩
  have hit2 := hit bc bn bs
  have B2 := bvia hB0 hb2
  have Y2 := X2.below hb2; have Y3 := X3.below hb2
  have hs0 := hB0.size; have hs2 := hb2.size
  have lc := Zc.lt; have ln := Zn.lt; have ls := Zs.lt
  clear X0 X1 X2 X3 hb2 hdu hit hB0
  have hm : (w.heap.size ≤ w.heap.size + 1 + 1 ∧ w.heap.size + 1 + 1 < w2.heap.size) ∧ (w.heap.size ≤ w.heap.size + 1 + 1 + 1 ∧ w.heap.size + 1 + 1 + 1 < w2.heap.size) ∧ (w.heap.size ≤ bc ∧ bc < w2.heap.size) ∧ (w.heap.size ≤ bn ∧ bn < w2.heap.size) ∧ (w.heap.size ≤ bs ∧ bs < w2.heap.size) := by
    have := Y3.lt; omega
  gi_wp2_with fail
  refine wp_rangeR rfl ent_due hit2 B2 (fun _ => rfl) (RW (w.heap.size + 1 + 1) (w.heap.size + 1 + 1 + 1) bc bn bs b w2.heap.size _ nd st S w) (RX (w.heap.size + 1 + 1 + 1) w2.heap.size S w) (fun z => w.heap.size ≤ z ∧ z < w2.heap.size) (fun pre C X h => h.2.2.2.1) ?hC (rw_stab hm) (fun c => rx_stab hm.2.1 c) ?h0 ?hround ?hdone ?hstop
  case hC =>
    rintro pre C X ⟨rfl, _, _, _, _, _, hz⟩ z hz'
    exact ⟨hz'.1, by omega⟩
  case h0 => exact ⟨rfl, Y2, Y3, ⟨Zc, Zn, Zs⟩, fun x hx => (by cases hx), B2, Nat.le_refl _⟩
  case hround =>
    rintro l pre x C X hl hl' hnl ⟨rec2, hrec2⟩ ⟨rfl, h5, h6, hD, hS, hB, hM⟩ hX hgC hpre
    have hwf : wfN x := hL x (by obtain ⟨t, ht⟩ := hpre; rw [← ht]; exact List.mem_append.2 (.inl (List.mem_append.2 (.inr (List.mem_singleton.2 rfl)))))
    have hof := fun W => node_of x W
    unfold Round
    dsimp only [encN]
    gi_wp2_with fail
    refine ⟨below_alloc _ _, ?_⟩
    intro X₂ hb2 hs2 r2 hr2
    have hbx : But (fun z => z = l) X X₂ := (But.refl _ X |>.alloc _).trans hb2
    have hl2 : w2.heap.size ≤ l := hl
    have P5 := h5.but hbx (by omega); have P6 := h6.but hbx (by omega)
    have PD : DueRd _ nd st bc bn bs X₂ := ⟨hD.1.but hbx (by omega), hD.2.1.but hbx (by omega), hD.2.2.but hbx (by omega)⟩
    have B3 : Below w.heap.size w X₂ := below_but (C := fun z => z = l) hB (hbx.mono (fun z _ h => ⟨by omega, h⟩))
    have U : Bx X₂ X.heap.size #[.int .i64 x.st, .int .i64 x.fr, .int .i64 x.to, .int .i64 x.ce, .int .i64 x.di, .int .i64 x.co] := (Bx.new X #[.int .i64 x.st, .int .i64 x.fr, .int .i64 x.to, .int .i64 x.ce, .int .i64 x.di, .int .i64 x.co] 107).but hb2 (by omega)
    have hz2 := hbx.size
    have B4 : Below X₂.heap.size X₂ X₂ := Below.refl _ _
    have r0 : ∀ Y, But (fun _ => False) X₂ Y → Y.cell? ⟨w.heap.size + 1 + 1, 0, none⟩ = some (.map (some b)) := fun Y h => (P5.but h id).at_ 0 rfl
    have u0 : ∀ Y, But (fun _ => False) X₂ Y → Y.cell? ⟨X.heap.size, 0, none⟩ = some (.int .i64 x.st) := fun Y h => (U.but h id).at_ 0 rfl
    have u1 : ∀ Y, But (fun _ => False) X₂ Y → Y.cell? ⟨X.heap.size, 1, none⟩ = some (.int .i64 x.fr) := fun Y h => (U.but h id).at_ 1 rfl
    have u2 : ∀ Y, But (fun _ => False) X₂ Y → Y.cell? ⟨X.heap.size, 2, none⟩ = some (.int .i64 x.to) := fun Y h => (U.but h id).at_ 2 rfl
    have u3 : ∀ Y, But (fun _ => False) X₂ Y → Y.cell? ⟨X.heap.size, 3, none⟩ = some (.int .i64 x.ce) := fun Y h => (U.but h id).at_ 3 rfl
    have u4 : ∀ Y, But (fun _ => False) X₂ Y → Y.cell? ⟨X.heap.size, 4, none⟩ = some (.int .i64 x.di) := fun Y h => (U.but h id).at_ 4 rfl
    have u5 : ∀ Y, But (fun _ => False) X₂ Y → Y.cell? ⟨X.heap.size, 5, none⟩ = some (.int .i64 x.co) := fun Y h => (U.but h id).at_ 5 rfl
    have hlk : ∀ Y, But (fun _ => False) X₂ Y → (Instr.lookup 102 (.map (some b)) (plV x) true).run Tryz.prog Y = .ok (.tuple #[.int .i64 (V x), .bool (S x)]) Y := fun Y h =>
      pcm_look (pcm_below HM (below_but (C := fun _ => False) B3 (h.mono (fun z _ h' => h'.elim)))) hwf
    unfold plV at hlk
    have hgo : S x = true → ∀ Y, But (fun _ => False) X₂ Y → But (fun z => w.heap.size ≤ z ∧ z < w2.heap.size) X₂ Y ∧ RW (w.heap.size + 1 + 1) (w.heap.size + 1 + 1 + 1) bc bn bs b w2.heap.size #[.int .i64 (Wd : Int), .int .i64 (Hd : Int), .slice a n c, .slice ao no co] nd st S w (pre ++ [x]) (fun z => w.heap.size ≤ z ∧ z < w2.heap.size) Y := fun hx Y hY =>
      ⟨hY.mono (fun _ _ h => h.elim), rfl, P5.but hY id, P6.but hY id, ⟨PD.1.but hY id, PD.2.1.but hY id, PD.2.2.but hY id⟩, fun y hy => by
        rcases List.mem_append.1 hy with h | h
        · exact hS y h
        · rw [List.mem_singleton.1 h]; exact hx, below_but (C := fun _ => False) B3 (hY.mono (fun _ _ h => h.elim)), by have := hY.size; omega⟩
    have hend : S x = false → ∀ Y, But (fun _ => False) X₂ Y → But (fun z => w.heap.size ≤ z ∧ z < w2.heap.size) X₂ (Y.setCell ⟨w.heap.size + 1 + 1 + 1, 0, none⟩ (.bool false)) ∧ RX (w.heap.size + 1 + 1 + 1) w2.heap.size S w .ret (pre ++ [x]) (fun z => w.heap.size ≤ z ∧ z < w2.heap.size) (Y.setCell ⟨w.heap.size + 1 + 1 + 1, 0, none⟩ (.bool false)) := fun hx Y hY => by
      have hY2 : But (fun z => w.heap.size ≤ z ∧ z < w2.heap.size) X₂ (Y.setCell ⟨w.heap.size + 1 + 1 + 1, 0, none⟩ (.bool false)) := But.set_ (hY.mono (fun _ _ h => h.elim)) hm.2.1 _
      exact ⟨hY2, rfl, rfl, (P6.but hY id).set_ 0 (by simp) (.bool false), ⟨x, by simp, hx⟩, below_but (C := fun z => z < w2.heap.size) B3 hY2, by have := hY2.size; omega⟩
    gi_upto_region 5 with (fail)
    refine wpIn_region_R (But (fun _ => False) X₂) (by kernel_rfl) ?_
    refine anyR_take (i := 0) (fun _ => trivial) rfl (by kernel_rfl) (fun _ _ _ h => h) (Or.inl ⟨by rfl, fun Y hYb => (by (try dsimp only at hYb); go_simp; rfl)⟩) (by repeat' (first | assumption | exact But.refl _ _ | refine But.drew ?_ | refine But.drewN ?_ _)) ?_
    simp only [Act.put, List.setIfInBounds_toArray, List.set_cons_zero, List.set_cons_succ]
    refine anyR_take (i := 1) (fun _ => trivial) rfl (by kernel_rfl) (fun _ _ _ h => h) (Or.inl ⟨by rfl, fun Y hYb => (by (try dsimp only at hYb); go_simp; rfl)⟩) (by repeat' (first | assumption | exact But.refl _ _ | refine But.drew ?_ | refine But.drewN ?_ _)) ?_
    simp only [Act.put, List.setIfInBounds_toArray, List.set_cons_zero, List.set_cons_succ]
    refine anyR_one (i := 2) (by kernel_rfl) rfl (by rfl) (fun K hK => ?_)
    go_simp
    refine ⟨trivial, rfl, callsIn_of ((hof _).mono ?_)⟩
    rintro e X4 ⟨rfl, hb4⟩
    have hs4 : But (fun _ => False) X₂ X4 := (But.refl _ X₂).drew.trans (but_below hb4 (Nat.le_refl _))
    refine hK _ _ hs4 ?_
    clear hK K hb4
    cases hSx : S x
    all_goals
      rw [hSx] at hlk
      refine anyR_take (i := 3) (fun _ => trivial) rfl (by kernel_rfl) (fun _ _ _ h => h) (Or.inl ⟨by rfl, fun Y hYb => (by (try dsimp only at hYb); go_simp; rfl)⟩) (by repeat' (first | assumption | exact But.refl _ _ | refine But.drew ?_ | refine But.drewN ?_ _)) ?_
      simp only [Act.put, List.setIfInBounds_toArray, List.set_cons_zero, List.set_cons_succ]
      refine anyR_take (i := 4) (fun _ => trivial) rfl (by kernel_rfl) (fun _ _ _ h => h) (Or.inl ⟨by rfl, fun Y hYb => (by (try dsimp only at hYb); go_simp; rfl)⟩) (by repeat' (first | assumption | exact But.refl _ _ | refine But.drew ?_ | refine But.drewN ?_ _)) ?_
      simp only [Act.put, List.setIfInBounds_toArray, List.set_cons_zero, List.set_cons_succ]
      refine anyR_take (i := 5) (fun _ => trivial) rfl (by kernel_rfl) (fun _ _ _ h => h) (Or.inl ⟨by rfl, fun Y hYb => (by (try dsimp only at hYb); go_simp; rfl)⟩) (by repeat' (first | assumption | exact But.refl _ _ | refine But.drew ?_ | refine But.drewN ?_ _)) ?_
      simp only [Act.put, List.setIfInBounds_toArray, List.set_cons_zero, List.set_cons_succ]
      refine anyR_take (i := 6) (fun _ => trivial) rfl (by kernel_rfl) (fun _ _ _ h => h) (Or.inl ⟨by rfl, fun Y hYb => (by (try dsimp only at hYb); go_simp; rfl)⟩) (by repeat' (first | assumption | exact But.refl _ _ | refine But.drew ?_ | refine But.drewN ?_ _)) ?_
      simp only [Act.put, List.setIfInBounds_toArray, List.set_cons_zero, List.set_cons_succ]
      refine anyR_take (i := 7) (fun _ => trivial) rfl (by kernel_rfl) (fun _ _ _ h => h) (Or.inl ⟨by rfl, fun Y hYb => (by (try dsimp only at hYb); go_simp; rfl)⟩) (by repeat' (first | assumption | exact But.refl _ _ | refine But.drew ?_ | refine But.drewN ?_ _)) ?_
      simp only [Act.put, List.setIfInBounds_toArray, List.set_cons_zero, List.set_cons_succ]
      refine anyR_take (i := 8) (fun _ => trivial) rfl (by kernel_rfl) (fun _ _ _ h => h) (Or.inl ⟨by rfl, fun Y hYb => (by (try dsimp only at hYb); go_simp; rfl)⟩) (by repeat' (first | assumption | exact But.refl _ _ | refine But.drew ?_ | refine But.drewN ?_ _)) ?_
      simp only [Act.put, List.setIfInBounds_toArray, List.set_cons_zero, List.set_cons_succ]
      refine anyR_done (by kernel_rfl) ?_ _
    · have hst := hend hSx
      have r6 := (P6.but hs4 id).at_ 0 rfl; have f6 := (P6.but hs4 id).free; have l6 := (P6.but hs4 id).lt
      clear hlk u0 u1 u2 u3 u4 u5 r0 hgo hend
      gi_wp2_with fail
      exact ⟨_, (hst _ (by repeat' (first | assumption | exact But.refl _ _ | refine But.drew ?_ | refine But.drewN ?_ _ | exact But.set_ (by repeat' (first | assumption | exact But.refl _ _ | refine But.drew ?_ | refine But.drewN ?_ _)) (.inl rfl) _ | exact But.set_ (by repeat' (first | assumption | exact But.refl _ _ | refine But.drew ?_ | refine But.drewN ?_ _)) (.inr rfl) _))).1, Grw.refl _ _, (hst _ (by repeat' (first | assumption | exact But.refl _ _ | refine But.drew ?_ | refine But.drewN ?_ _ | exact But.set_ (by repeat' (first | assumption | exact But.refl _ _ | refine But.drew ?_ | refine But.drewN ?_ _)) (.inl rfl) _ | exact But.set_ (by repeat' (first | assumption | exact But.refl _ _ | refine But.drew ?_ | refine But.drewN ?_ _)) (.inr rfl) _))).2⟩
    · have hst := hgo hSx
      clear hlk u0 u1 u2 u3 u4 u5 r0 hgo hend
      gi_wp2_with fail
      exact ⟨_, (hst _ (by repeat' (first | assumption | exact But.refl _ _ | refine But.drew ?_ | refine But.drewN ?_ _ | exact But.set_ (by repeat' (first | assumption | exact But.refl _ _ | refine But.drew ?_ | refine But.drewN ?_ _)) (.inl rfl) _ | exact But.set_ (by repeat' (first | assumption | exact But.refl _ _ | refine But.drew ?_ | refine But.drewN ?_ _)) (.inr rfl) _))).1, Grw.refl _ _, (hst _ (by repeat' (first | assumption | exact But.refl _ _ | refine But.drew ?_ | refine But.drewN ?_ _ | exact But.set_ (by repeat' (first | assumption | exact But.refl _ _ | refine But.drew ?_ | refine But.drewN ?_ _)) (.inl rfl) _ | exact But.set_ (by repeat' (first | assumption | exact But.refl _ _ | refine But.drew ?_ | refine But.drewN ?_ _)) (.inr rfl) _))).2⟩
  case hdone =>
    rintro Dd C X hDd hnD ⟨rfl, h5, h6, _, hS, hB, hM⟩ hbut hgC hdef
    have r6 := h6.at_ 0 rfl; have f6 := h6.free; have l6 := h6.lt
    have hall : L.all S = true := List.all_eq_true.2 hS
    have HA := hid hall; clear hall
    gi_wp2
    have hd1 : (X.setCell ⟨w.heap.size + 1 + 1 + 1, 0, none⟩ (.bool true)).heap[Dd]? = some (.deferred (some [])) := by
      rw [Below.heap_setCell _ _ _ _ (by dsimp only; omega)]
      exact hdef
    have hbp := but_putObj (X.setCell ⟨w.heap.size + 1 + 1 + 1, 0, none⟩ (.bool true)) Dd (.deferred none)
    have c6 := ((h6.set_ 0 (by simp) (.bool true)).but hbp (by omega)).at_ 0 rfl
    have B5 : Below w.heap.size w (X.setCell ⟨w.heap.size + 1 + 1 + 1, 0, none⟩ (.bool true)) := by (repeat' (first | with_reducible assumption | with_reducible exact Below.refl _ _ | with_reducible refine Below.drew ?_ | with_reducible refine below_drewN ?_ _ | with_reducible refine balloc ?_ _ | with_reducible refine bset ?_ ?_ _ | with_reducible refine Below.setCell ?_ ?_ _ | with_reducible refine Below.alloc ?_ ?_ _ | omega | (simp; done) | (simp; omega)))
    have B6 := B5.trans (⟨hbp.os, hbp.tape, hbp.output, hbp.size, fun z hz => hbp.block z (by have := B5.size; omega) (by omega)⟩ : Below w.heap.size _ _)
    refine ⟨by simp, .inl ⟨_, _, rfl, run_takeDeferred hd1, ?_⟩⟩
    refine ⟨.bool true, by simp [results, Tryz.results81, go_sem, c6], ?_⟩
    rw [HA.out]
    exact ⟨rfl, B6⟩
  case hstop =>
    rintro Dd c pre C X hDd hnD hpre ⟨rfl, rfl, h6, ⟨x, hx, hbad⟩, hB, hM⟩ hbut hgC hdef
    have hmem : x ∈ L := by obtain ⟨t, ht⟩ := hpre; rw [← ht]; exact List.mem_append.2 (.inl hx)
    have hall : L.all S = false := by
      rw [← Bool.not_eq_true, List.all_eq_true]
      intro h; have := h x hmem; rw [hbad] at this; cases this
    have HA := hid hall; clear hall
    gi_wp2
    have hbp := but_putObj X Dd (.deferred none)
    have c6 := (h6.but hbp (by omega)).at_ 0 rfl
    have B6 := hB.trans (⟨hbp.os, hbp.tape, hbp.output, hbp.size, fun z hz => hbp.block z (by have := hB.size; omega) (by omega)⟩ : Below w.heap.size _ _)
    refine ⟨by simp, .inl ⟨_, _, rfl, run_takeDeferred hdef, ?_⟩⟩
    refine ⟨.bool false, by simp [results, Tryz.results81, go_sem, c6], ?_⟩
    rw [HA.out]
    exact ⟨rfl, B6⟩
end Go.Proofs.YtjkngkogddmceaaGreat
/- Plain words and walk: valid sites, of the program. Walk: Valid, of the program. -/
namespace Go.Proofs.YtjkngkogddmceaaGreat
open Go Go.RowKit
set_option linter.unusedVariables false
theorem massTo_congr {g h : Nat → C4} : ∀ {n}, (∀ k, k < n → g k = h k) → massTo g n = massTo h n
  | 0, _ => rfl
  | n + 1, e => by simp only [massTo]; rw [massTo_congr fun k hk => e k (by omega), e n (by omega)]
theorem sc_of_own {W : World} {base n : Nat} {v : Value} {f : Nat → C4} (h : W.ownsRow base 55 4 v n (rowC f n)) : ∃ a c, v = .slice a n c ∧ Sc W a n f := by
  rcases h.2 with ⟨rfl, h0⟩ | ⟨g, cap, cur, rfl, hb, hh, hn, hm, hc, ht⟩
  · exact ⟨none, 0, by rw [h0], fun k hk => by omega⟩
  · by_cases h0 : 0 < n
    · obtain ⟨_, hr⟩ := roC_of_own h h0
      exact ⟨_, _, rfl, hr.sc⟩
    · exact ⟨_, _, rfl, fun k hk => by omega⟩
end Go.Proofs.YtjkngkogddmceaaGreat
