/- Walk: the nodes that own a cell, of the program. Walks: the notes that are due, as the program's iterator yields them. Walk: the notes that are due, of the reference. Walks: the notes that an iterator yields, as a list. Walks: Due, of the program and of the reference; equal notes. -/
import Derived.Test.YteabkcbajpjkoaaGreatPk5
import Derived.Test.YteabkcbajpjkoaaGreatShelf
import Derived.Lib.OwnBridge
import Derived.Test.YteabkcbajpjkoaaGreatPk3
import Derived.LoopIn
import Derived.Sort.CutIn
import Derived.LoopNIn
import Derived.TacticsInMore
import Derived.Shelf.Abstract
import Derived.RangeFuncLeaves
import Derived.Maps.OwnIn
import Derived.Test.YteabkcbajpjkoaaGreatPk2
import Derived.Test.YteabkcbajpjkoaaGreatPk4
import Derived.Maps.OwnSet
import Derived.DeepKeys4
namespace Go.Proofs.YteabkcbajpjkoaaGreat
open Go Go.RowKit Go.Sort
set_option linter.unusedVariables false
theorem below_grow (w : World) (os : Array Obj) : Below w.heap.size w (grow w os) :=
  ⟨rfl, rfl, rfl, by simp [grow], fun k hk => heap_grow_old w os hk⟩
theorem ownersL_length (o : Nat → Int) (n : Nat) : (ownersL o n).length = n := by simp [ownersL]
theorem ownersL_get (o : Nat → Int) (n k : Nat) (h : k < n) : (ownersL o n).getD k 0 = o k := by simp [ownersL, List.getD_eq_getElem?_getD, h]
theorem sort_pairwise (zs : List Int) : (zs.mergeSort fun x y => decide (x ≤ y)).Pairwise (· ≤ ·) := by
  have h := List.pairwise_mergeSort (le := fun x y : Int => decide (x ≤ y)) (fun a b c h1 h2 => by simp at *; omega) (fun a b => by simp; omega) zs
  exact h.imp (fun h => by simpa using h)
set_option maxRecDepth 100000 in
set_option maxHeartbeats 2000000 in
theorem node_nodes (W H : Int) (a ao : Option Addr) (n c no co : Nat) (o : Nat → Int) (w : World) (h0 : 0 < no) (hno : no ≤ 4096) (ho : ∀ k, k < no → 0 ≤ o k ∧ o k ≤ 7) (HO : Sl w ao no o) :
    Calls Tryz.prog 38 #[.agg (cluV W H a ao n c no co)] w fun e w' => ∃ v, e = .returned v ∧ w'.ownsRow w.heap.size 3 1 v (nodeL o no 8).length ((nodeL o no 8).map vInt) ∧ Below w.heap.size w w' := by
  unfold cluV
  obtain ⟨b, off, rfl, hb, _⟩ := HO 0 h0
  have J := HO.alloc (.cells #[.int .i64 W, .int .i64 H, .slice a n c, .slice (some ⟨b, off, none⟩) no co] 62)
  have hcl := fun (W' : World) (hJ : Sl W' (some ⟨b, off, none⟩) no o) => Tryz.slices_Clone_int b off no co (ownersL o no) W' (by rw [ownersL_length]; exact Nat.le_refl _) (by omega) (fun j hj => by
    rw [ownersL_length] at hj
    obtain ⟨b', off', e, _, hc⟩ := hJ j hj
    injection e with e; injection e with e1 e2 _
    subst e1 e2
    rw [ownersL_get _ _ _ hj]; exact hc)
  have hcl' := hcl _ J
  clear hcl
  go_enter Tryz.func38, Tryz.ntmps38
  go_wp2_with fail
  refine hcl'.mono ?_
  rintro e w1 ⟨v1, rfl, hown1, hv1, hb1⟩
  clear hcl'
  have ht : (ownersL o no).take no = ownersL o no := List.take_of_length_le (by rw [ownersL_length]; exact Nat.le_refl _)
  rw [ht] at hown1
  clear ht
  obtain ⟨g, cap, rfl, hg1, hg2, hcap, hcm, _, hH1⟩ := Lib.holds_of_ownsRow hown1 hv1
  have hso := Tryz.slices_Sort_int g 0 cap (ownersL o no) w1 hH1 hg2 (by rw [ownersL_length]; omega)
  rw [ownersL_length] at hso
  obtain ⟨ys, hys⟩ : ∃ ys, ys = (ownersL o no).mergeSort (fun x y => decide (x ≤ y)) := ⟨_, rfl⟩
  have hyl : ys.length = no := by rw [hys, List.length_mergeSort, ownersL_length]
  have hyp : ys.Perm (ownersL o no) := by rw [hys]; exact List.mergeSort_perm _ _
  have hyo : ys.Pairwise (· ≤ ·) := by rw [hys]; exact sort_pairwise _
  rw [← hys] at hso
  have hcomp := nodes_of ho hyp hyo
  have HC := hid hcomp
  clear hys hcomp hyp hyo
  have HYL := hid hyl; clear hyl
  go_wp2_with fail
  refine hso.mono ?_
  rintro e w2 ⟨rfl, q, os, hw2⟩
  clear hso
  have hown2 : w2.ownsRow (w.heap.size + 1) 3 1 (.slice (some ⟨g, 0, none⟩) no cap) no (ys.map (Value.int .i64)) := by
    have h := Lib.ownsRow_putRow (q := q) (k := no) hown1 HYL.out (Nat.le_refl _)
    rw [List.take_of_length_le (by rw [HYL.out]; exact Nat.le_refl _)] at h
    rw [hw2]
    have h2 := own_below h (below_grow _ os)
    simpa using h2
  have hbb : Below w.heap.size w w2 := by
    rw [hw2]
    have h := Lib.below_putRow (enc := Value.int .i64) (q := q) (d := ys.toArray) (bvia (below_alloc w _) hb1) (show w.heap.size ≤ g by simp at hg1; omega)
    exact bvia h (below_grow _ os)
  clear hw2 hown1 hH1 hb1 J
  obtain ⟨g', cap', hv2, hg1', hg2', hcap', _, _, hH2⟩ := Lib.holds_of_ownsRow hown2 (fun h => by injection h with h; cases h)
  injection hv2 with e1 e2 e3
  injection e1 with e1; injection e1 with e1
  subst e1 e3
  have hco := Tryz.slices_Compact_int g 0 cap ys w2 hH2 (by rw [HYL.out]; omega) (by rw [HYL.out]; exact hcap)
  rw [HYL.out] at hco
  clear e2
  obtain ⟨zs, hzs⟩ : ∃ zs, zs = Lib.compact ys := ⟨_, rfl⟩
  have hzl : zs.length ≤ no := by rw [hzs, ← HYL.out]; exact Lib.compact_length_le ys
  rw [← hzs] at hco
  have HZ : Hid (zs = nodeL o no 8) := hid (by rw [hzs]; exact HC.out)
  clear hzs
  go_wp2_with fail
  refine hco.mono ?_
  rintro e w3 ⟨rfl, q2, hw3⟩
  clear hco
  have hown3 : w3.ownsRow (w.heap.size + 1) 3 1 (.slice (some ⟨g, 0, none⟩) zs.length cap) zs.length (zs.map (Value.int .i64)) := by
    have h := Lib.ownsRow_putRow (q := q2) (k := zs.length) (ys := zs ++ List.replicate (no - zs.length) 0) hown2 (by simp; omega) hzl
    rw [List.take_left] at h
    rw [hw3]
    exact h
  have hb3 : Below w.heap.size w w3 := by
    rw [hw3]
    exact Lib.below_putRow hbb (by omega)
  clear hw3
  go_wp2
  go_ret
  rw [← HZ.out]
  exact ⟨_, rfl, own_mono hown3 (by omega), hb3⟩
end Go.Proofs.YteabkcbajpjkoaaGreat
namespace Go.Proofs.YteabkcbajpjkoaaGreat
open Go Go.RowKit
attribute [local go_sem] Oper.semAt_some
set_option linter.unusedVariables false
def encN (x : N6) : Array Value := #[.agg #[.int .i64 x.st, .int .i64 x.fr, .int .i64 x.to, .int .i64 x.ce, .int .i64 x.di, .int .i64 x.co]]
theorem dueC_pre (W H : Nat) (o : Nat → Int) (nd st : Int) (i d : Nat) : ∀ m, d ≤ m → dueC W H o nd st i d <+: dueC W H o nd st i m
  | 0, h => by rw [show d = 0 from by omega]; exact List.prefix_refl _
  | m + 1, h => by
    rcases Nat.lt_or_ge d (m + 1) with h' | h'
    · refine (dueC_pre W H o nd st i d m (by omega)).trans ?_
      simp only [dueC]
      split
      · exact List.prefix_refl _
      · exact List.prefix_append _ _
    · rw [show d = m + 1 from by omega]; exact List.prefix_refl _
theorem dueO_pre (W H : Nat) (o : Nat → Int) (nd st : Int) (l m : List Int) (h : l <+: m) : dueO W H o nd st l <+: dueO W H o nd st m := by
  obtain ⟨t, rfl⟩ := h
  simp only [dueO, List.flatMap_append]
  exact List.prefix_append _ _
theorem take_getD {l : List Int} {k : Nat} (h : k < l.length) : l.take (k + 1) = l.take k ++ [l.getD k 0] := by
  rw [List.take_succ_eq_append_getElem h, List.getD_eq_getElem?_getD, List.getElem?_eq_getElem h]; rfl
theorem own_at {o : Nat → Int} {nd : Int} {n k : Nat} (h : k < (ownL o nd n).length) : ∃ i : Nat, i < n ∧ (ownL o nd n).getD k 0 = i ∧ o i = nd := by
  refine ownL_mem.1 ?_
  rw [List.getD_eq_getElem?_getD, List.getElem?_eq_getElem h]
  exact List.getElem_mem _
theorem own_butN {C : Nat → Prop} {X Y : World} {base : Nat} {e : TypeId} {size n : Nat} {v : Value} {xs : List Value} (h : X.ownsRow base e size v n xs) (hb : But C X Y) (hne : ∀ g, v.ownBlock = some g → ¬ C g) : Y.ownsRow base e size v n xs := by
  refine ⟨h.1, ?_⟩
  rcases h.2 with h' | ⟨g, cap, cur, rfl, hbs, hh, rest⟩
  · exact .inl h'
  · refine .inr ⟨g, cap, cur, rfl, hbs, ?_, rest⟩
    rw [hb.block g (own_lt h g rfl) (hne g rfl)]
    exact hh
theorem node_due (W H : Int) (a ao : Option Addr) (n c no co : Nat) (nd st : Int) (w : World) :
    Calls Tryz.prog 57 #[.agg (cluV W H a ao n c no co), .int .i64 nd, .int .i64 st] w fun e w' => ∃ bc bn bs, e = .returned (.func (.func 94) #[] #[.pointer (some ⟨bc, 0, none⟩), .pointer (some ⟨bn, 0, none⟩), .pointer (some ⟨bs, 0, none⟩)]) ∧
      Bx w' bc (cluV W H a ao n c no co) ∧ Bx w' bn #[.int .i64 nd] ∧ Bx w' bs #[.int .i64 st] ∧ (w.heap.size ≤ bc ∧ w.heap.size ≤ bn ∧ w.heap.size ≤ bs) ∧ Below w.heap.size w w' := by
  unfold cluV
  have X0 := ((Bx.new w #[.int .i64 W, .int .i64 H, .slice a n c, .slice ao no co] 62).alloc (.cells #[.int .i64 nd] 3)).alloc (.cells #[.int .i64 st] 3)
  have X1 := (Bx.new (w.alloc (.cells #[.int .i64 W, .int .i64 H, .slice a n c, .slice ao no co] 62)) #[.int .i64 nd] 3).alloc (.cells #[.int .i64 st] 3)
  have X2 := Bx.new ((w.alloc (.cells #[.int .i64 W, .int .i64 H, .slice a n c, .slice ao no co] 62)).alloc (.cells #[.int .i64 nd] 3)) #[.int .i64 st] 3
  simp only [World.size_alloc] at X1 X2
  have hB0 : Below w.heap.size w (((w.alloc (.cells #[.int .i64 W, .int .i64 H, .slice a n c, .slice ao no co] 62)).alloc (.cells #[.int .i64 nd] 3)).alloc (.cells #[.int .i64 st] 3)) := by (repeat' (first | with_reducible assumption | with_reducible exact Below.refl _ _ | with_reducible refine Below.drew ?_ | with_reducible refine below_drewN ?_ _ | with_reducible refine balloc ?_ _ | with_reducible refine bset ?_ ?_ _ | with_reducible refine Below.setCell ?_ ?_ _ | with_reducible refine Below.alloc ?_ ?_ _ | omega | (simp; done) | (simp; omega)))
  go_enter Tryz.func57, Tryz.ntmps57
  go_wp2_with fail
  generalize (((w.alloc (.cells #[.int .i64 W, .int .i64 H, .slice a n c, .slice ao no co] 62)).alloc (.cells #[.int .i64 nd] 3)).alloc (.cells #[.int .i64 st] 3)) = W0 at X0 X1 X2 hB0 ⊢
  have z0 := X0.lt
  have z1 := X1.lt
  have z2 := X2.lt
  go_ret
  exact ⟨_, _, _, rfl, X0, X1, X2, ⟨by omega, by omega, by omega⟩, hB0⟩
theorem ent_due : ∀ args w, (callFunc 94 args).run Tryz.prog w = .ok (.enter 94 args) w := Go.Proofs.enters_of Tryz.func94 (by kernel_rfl) rfl
/-- what the iterator reads of its own boxes -/
def DueRd (cv : Array Value) (nd st : Int) (bc bn bs : Nat) (X : World) : Prop := Bx X bc cv ∧ Bx X bn #[.int .i64 nd] ∧ Bx X bs #[.int .i64 st]
set_option maxRecDepth 100000 in
set_option maxHeartbeats 4000000 in
theorem due_iterR (Wd Hd : Nat) (a ao : Option Addr) (n c no co : Nat) (o : Nat → Int) (nd st : Int) (bc bn bs : Nat) (w₀ : World) (h1 : 1 ≤ Wd ∧ Wd ≤ 64) (h2 : 1 ≤ Hd ∧ Hd ≤ 64) (hno : no = Wd * Hd) (HO : Sl w₀ ao no o) :
    IterR Tryz.prog 94 #[.pointer (some ⟨bc, 0, none⟩), .pointer (some ⟨bn, 0, none⟩), .pointer (some ⟨bs, 0, none⟩)] encN (dueL Wd Hd o nd st no) w₀ (DueRd (cluV Wd Hd a ao n c no co) nd st bc bn bs) := by
  intro l J Jx C₀ W hR0 hW hC hJ hJx hY h0
  have hs0 := hW.size
  have hno4 : no ≤ 4096 := by
    have : Wd * Hd ≤ 64 * 64 := Nat.mul_le_mul h1.2 h2.2
    omega
  have HNO := hid hno; clear hno
  rw [← dueO_own] at hY ⊢
  have hC0 := hC [] C₀ W h0
  unfold cluV at hR0
  obtain ⟨Yc, Yn, _⟩ := hR0 _ _ _ h0
  have c0 := Yc.at_ 0 rfl; have c1 := Yc.at_ 1 rfl; have c2 := Yc.at_ 2 rfl; have c3 := Yc.at_ 3 rfl; have cn := Yn.at_ 0 rfl; have lc := Yc.lt; have ln := Yn.lt
  have hcall := node_owned (Wd : Int) (Hd : Int) a ao n c no co o nd W (by omega) (HO.below hW)
  unfold cluV at hcall
  refine callsIn_wide.1 (callsIn_of_wp (F := Fence.wide) (n := 0) Tryz.func94 rfl trivial ?_)
  simp only [Tryz.ntmps94, List.size_toArray, List.length_cons, List.length_nil, Nat.reduceAdd, Nat.reduceSub, Array.replicate_succ, Array.replicate_zero, List.push_toArray, List.append_toArray, List.nil_append, List.cons_append]
  gi_wp2_with fail
  refine ⟨trivial, rfl, callsIn_wide.2 (hcall.mono ?_)⟩
  rintro e w1 ⟨v, rfl, hown, hb1⟩
  obtain ⟨av, cv, hv, _⟩ := sl_of_own hown
  obtain ⟨L, hL⟩ : ∃ L, L = ownL o nd no := ⟨_, rfl⟩
  have hLn : L.length ≤ no := by rw [hL]; exact ownL_length _ _ _
  have hLa : ∀ k, k < L.length → ∃ i : Nat, i < no ∧ L.getD k 0 = i ∧ o i = nd := fun k hk => by rw [hL] at hk ⊢; exact own_at hk
  have HLA := hid hLa; clear hLa
  rw [← hL] at hown hY hv
  have HL := hid hL; clear hL
  subst hv
  have hj1 : J (dueO Wd Hd o nd st (L.take 0)) C₀ w1 := hJ _ _ _ _ h0 (but_below hb1 (Nat.le_refl _))
  have hne0 : ∀ g, (Value.slice av L.length cv).ownBlock = some g → ¬ C₀ g := fun g hg hc => by have := own_base hown g hg; have := (hC0 g hc).2; omega
  have hB1 : Below w₀.heap.size w₀ w1 := hW.trans (hb1.mono hs0)
  have hs1 := hb1.size
  clear c0 c1 c2 c3 cn
  gi_wp2_with fail
  gi_loopw [13] (fun i wr => ∃ k : Nat, k ≤ L.length ∧ i = .int .i64 k ∧ wr.ownsRow W.heap.size 3 1 (.slice av L.length cv) L.length (L.map vInt) ∧ ∃ C, J (dueO Wd Hd o nd st (L.take k)) C wr ∧ But C₀ W wr ∧ Grw C₀ C W ∧ Below w₀.heap.size w₀ wr ∧ W.heap.size ≤ wr.heap.size ∧ (∀ g, (Value.slice av L.length cv).ownBlock = some g → ¬ C g)) (fun i _ => L.length - (intOf i).toNat)
  case atStart => exact ⟨0, Nat.zero_le _, rfl, hown, C₀, hj1, but_below hb1 (Nat.le_refl _), Grw.refl _ _, hB1, hs1, hne0⟩
  case round =>
    obtain ⟨wo, rfl⟩ : ∃ wo : World, wo = wr := ⟨_, rfl⟩
    obtain ⟨k, hk, rfl, hown, C, hj, hbut, hg, hB, hz, hne⟩ := hrel
    by_cases hlt : k < L.length
    · obtain ⟨i, hi, hLk, hoi⟩ := HLA.out k hlt
      have HOI := hid hoi; clear hoi
      have hT : dueO Wd Hd o nd st (L.take (k + 1)) = dueO Wd Hd o nd st (L.take k) ++ dueC Wd Hd o nd st i 4 := by
        rw [take_getD hlt, dueO_snoc, hLk]; rfl
      have hTp : dueO Wd Hd o nd st (L.take (k + 1)) <+: dueO Wd Hd o nd st L := dueO_pre _ _ _ _ _ _ _ (List.take_prefix _ _)
      have HT := hid hT; have HTP := hid hTp
      clear hT hTp
      obtain ⟨av', cv', hv', Sv⟩ := sl_of_own hown
      injection hv' with hv1 hv2 hv3
      subst hv1
      subst hv3
      obtain ⟨bv, ov, rfl, hbv, cv0⟩ := Sv k hlt
      dsimp only at cv0
      rw [hLk] at cv0
      clear hv2 Sv
      have HLK := hid hLk; clear hLk
      gi_wp2_with fail
      clear cv0 hbv
      gi_loopw [17] (fun di wr => ∃ d : Nat, d ≤ 4 ∧ di = .int .i64 d ∧ wr.ownsRow W.heap.size 3 1 (.slice (some ⟨bv, ov, none⟩) L.length cv) L.length (L.map vInt) ∧ ∃ C, J (dueO Wd Hd o nd st (L.take k) ++ dueC Wd Hd o nd st i d) C wr ∧ But C₀ W wr ∧ Grw C₀ C W ∧ Below w₀.heap.size w₀ wr ∧ W.heap.size ≤ wr.heap.size ∧ (∀ g, (Value.slice (some ⟨bv, ov, none⟩) L.length cv).ownBlock = some g → ¬ C g)) (fun di _ => 4 - (intOf di).toNat)
      case atStart => exact ⟨0, Nat.zero_le _, rfl, hown, C, by simpa [dueC] using hj, hbut, hg, hB, hz, hne⟩
      case round =>
        obtain ⟨d, hd, rfl, hown5, C5, hj5, hbut5, hg5, hB5, hz5, hne5⟩ := hrel
        clear hown hj hbut hg hB hz hne
        by_cases hd4 : d < 4
        · have hnb := nbT_lt (W := Wd) (H := Hd) (i := i) (by rw [← HNO.out]; exact hi) hd4
          rw [← HNO.out] at hnb
          have hcf := fun Y => node_from Wd Hd i d a ao n c no co Y h1 h2 (by rw [← HNO.out]; exact hi) hd4
          have hCs : dueC Wd Hd o nd st i (d + 1) = if o (nbT Wd Hd i d) = nd then dueC Wd Hd o nd st i d else dueC Wd Hd o nd st i d ++ [⟨st, o (nbT Wd Hd i d), nd, i, d, 0⟩] := rfl
          have hPr : dueO Wd Hd o nd st (L.take k) ++ dueC Wd Hd o nd st i (d + 1) <+: dueO Wd Hd o nd st L :=
            ((List.prefix_append_right_inj _).2 (dueC_pre Wd Hd o nd st i (d + 1) 4 (by omega))).trans (by rw [← HT.out]; exact HTP.out)
          obtain ⟨bo, oo, rfl, hbo, co0⟩ := (HO.below hB5) (nbT Wd Hd i d) hnb
          unfold cluV at hcf
          obtain ⟨Zc, _, _⟩ := hR0 _ _ _ hj5
          have r0 : ∀ Y, Below wr.heap.size wr Y → Y.cell? ⟨bc, 0, none⟩ = some (.int .i64 (Wd : Int)) := fun Y h => (Zc.below h).at_ 0 rfl
          have r1 : ∀ Y, Below wr.heap.size wr Y → Y.cell? ⟨bc, 1, none⟩ = some (.int .i64 (Hd : Int)) := fun Y h => (Zc.below h).at_ 1 rfl
          have r2 : ∀ Y, Below wr.heap.size wr Y → Y.cell? ⟨bc, 2, none⟩ = some (.slice a n c) := fun Y h => (Zc.below h).at_ 2 rfl
          have r3 : ∀ Y, Below wr.heap.size wr Y → Y.cell? ⟨bc, 3, none⟩ = some (.slice (some ⟨bo, oo, none⟩) no co) := fun Y h => (Zc.below h).at_ 3 rfl
          have ro : ∀ Y, Below wr.heap.size wr Y → Y.cell? ⟨bo, oo + nbT Wd Hd i d, none⟩ = some (.int .i64 (o (nbT Wd Hd i d))) := fun Y h => (bcell h _ _ hbo).trans co0
          clear co0 Zc
          have HCS := hid hCs; clear hCs
          have HPR := hid hPr; clear hPr
          generalize nbT Wd Hd i d = m at *
          obtain ⟨om, hom⟩ : ∃ x, x = o m := ⟨_, rfl⟩
          rw [← hom] at ro
          have HOM := hid hom; clear hom
          gi_upto_region 6 with (fail)
          refine wpIn_wide.2 ?_
          go_region_held3 (fun Y => Below wr.heap.size wr Y) ((repeat' (first | with_reducible assumption | with_reducible exact Below.refl _ _ | with_reducible refine Below.drew ?_ | with_reducible refine below_drewN ?_ _ | with_reducible refine balloc ?_ _ | with_reducible refine bset ?_ ?_ _ | with_reducible refine Below.setCell ?_ ?_ _ | with_reducible refine Below.alloc ?_ ?_ _ | omega | (simp; done) | (simp; omega))))
            ((first
              | (go_at_call 96; refine (hcf _).mono ?_; rintro e w8 ⟨rfl, hb8⟩; have hB8 : Below wr.heap.size wr w8 := bvia (by (repeat' (first | with_reducible assumption | with_reducible exact Below.refl _ _ | with_reducible refine Below.drew ?_ | with_reducible refine below_drewN ?_ _ | with_reducible refine balloc ?_ _ | with_reducible refine bset ?_ ?_ _ | with_reducible refine Below.setCell ?_ ?_ _ | with_reducible refine Below.alloc ?_ ?_ _ | omega | (simp; done) | (simp; omega)))) hb8; have hck := bcell hb8; have hfk := bfrozen hb8; have hzk := hb8.size; (try simp at hzk); (try have hz1k : wr.heap.size < w8.heap.size := (by omega)))
              | fail))
          all_goals
            have hW8 : Below w₀.heap.size w₀ w8 := hB5.trans (hB8.mono hB5.size)
            have hbt8 : ∀ C : Nat → Prop, But C wr w8 := fun C => but_below hB8 (Nat.le_refl _)
            have hj8 := hJ _ _ _ _ hj5 (hbt8 _)
            have hown8 := own_butN hown5 (hbt8 C5) hne5
            have hs8 := hB8.size
            clear r0 r1 r2 r3 ro hcf hck hfk hb8 hb1 hj5 hown5 hj1 hown
            obtain ⟨_, Yn, Ys⟩ := hR0 _ _ _ hj8
            have n0 := Yn.at_ 0 rfl; have s0 := Ys.at_ 0 rfl; have ln := Yn.lt; have ls := Ys.lt
            cases hq : (om != nd)
            · have hq' : om = nd := by simpa using hq
              have HQ := hid hq'; clear hq'
              gi_wp2_with fail
              refine ⟨fun _ h => (by cases h), ?_⟩
              gi_wp2_with fail
              go_roundw
              case rel => exact ⟨d + 1, by omega, by go_num, hown8, C5, by rw [HCS.out, ← HOM.out, if_pos HQ.out]; exact hj8, hbut5.trans (hbt8 _), hg5, hW8, by omega, hne5⟩
              case measure => simp [intOf]; omega
            · have hq' : ¬ om = nd := by simpa using hq
              have HQ := hid hq'; clear hq'
              have hnew : dueC Wd Hd o nd st i (d + 1) = dueC Wd Hd o nd st i d ++ [⟨st, om, nd, i, d, 0⟩] := by rw [HCS.out, ← HOM.out, if_neg HQ.out]
              obtain ⟨fn, tmps, asg, bdy, hy, hR⟩ := hY (dueO Wd Hd o nd st (L.take k) ++ dueC Wd Hd o nd st i d) ⟨st, om, nd, i, d, 0⟩ C5 w8 hj8 hW8 (by rw [List.append_assoc, ← hnew]; exact HPR.out)
              rw [List.append_assoc, ← hnew] at hR
              have HNEW := hid hnew; clear hnew
              dsimp only [encN] at hy
              gi_wp2_with fail
              refine ⟨rfl, hR.mono ?_⟩
              rintro e W4 ⟨C', hbut4, hg4, (⟨rfl, hj4⟩ | ⟨rfl, hj4⟩)⟩
              · have hs4 := hbut4.size
                have hBw4 : Below w₀.heap.size w₀ W4 := hW8.trans ⟨hbut4.os, hbut4.tape, hbut4.output, hbut4.size, fun b hb => hbut4.block b (by have := hW8.size; omega) (fun h => by have := (hC _ _ _ hj8 b h).1; omega)⟩
                gi_wp2_with fail
                go_roundw
                case rel => exact ⟨d + 1, by omega, by go_num, own_butN hown8 hbut4 hne5, C', hj4, (hbut5.trans (hbt8 _)).trans' hbut4 hg5, fun b h => (hg4 b h).elim (hg5 b) (fun h2 => .inr (by omega)), hBw4, by omega, fun g hg hc => (hg4 g hc).elim (hne5 g hg) (fun h2 => by have := own_lt hown8 g hg; omega)⟩
                case measure => simp [intOf]; omega
              · gi_wp2_with fail
                refine bodyPost_ret (results_none rfl _ _ _) rfl ?_
                exact ⟨⟨_, rfl⟩, C', (hbut5.trans (hbt8 _)).trans' hbut4 hg5, fun b h => (hg4 b h).elim (hg5 b) (fun h2 => .inr (by omega)), .inr ⟨_, by rw [← HL.out]; exact HPR.out, hj4⟩⟩
        · obtain rfl : d = 4 := (by omega)
          gi_wp2_with fail
          go_roundw
          case rel => exact ⟨k + 1, by omega, by go_num, hown5, C5, by rw [HT.out]; exact hj5, hbut5, hg5, hB5, hz5, hne5⟩
          case measure => simp [intOf]; omega
    · obtain rfl : k = L.length := (by omega)
      gi_wp2
      go_end0
      rw [List.take_length] at hj
      exact ⟨⟨_, rfl⟩, C, hbut, hg, .inl (by rw [← HL.out]; exact hj)⟩
end Go.Proofs.YteabkcbajpjkoaaGreat
namespace Go.Proofs.YteabkcbajpjkoaaGreat
open Go Go.RowKit
set_option linter.unusedVariables false
set_option maxRecDepth 100000 in
set_option maxHeartbeats 4000000 in
theorem ref5_due (Wd Hd : Nat) (a ao : Option Addr) (n c no co : Nat) (o : Nat → Int) (nd st : Int) (w : World) (h1 : 1 ≤ Wd ∧ Wd ≤ 64) (h2 : 1 ≤ Hd ∧ Hd ≤ 64) (hno : no = Wd * Hd) (HO : Sl w ao no o) :
    Calls Tryz.prog 60 #[.agg #[.int .i64 (Wd : Int), .int .i64 (Hd : Int), .slice a n c], .slice ao no co, .int .i64 nd, .int .i64 st] w
      fun e w' => ∃ v, e = .returned v ∧ OwnN w' w.heap.size v (dueL Wd Hd o nd st no) ∧ Below w.heap.size w w' := by
  obtain ⟨i0, hi, hz0, hz1, hz2⟩ := info_parts infoN
  have hno4 : no ≤ 4096 := by
    have : Wd * Hd ≤ 64 * 64 := Nat.mul_le_mul h1.2 h2.2
    omega
  have HNO := hid hno; clear hno
  have HO1 := HO.alloc (.cells #[.int .i64 (Wd : Int), .int .i64 (Hd : Int), .slice a n c] 24)
  have X := Bx.new w #[.int .i64 (Wd : Int), .int .i64 (Hd : Int), .slice a n c] 24
  go_enter Tryz.func60, Tryz.ntmps60
  go_wp2
  go_loopw [9, 10] (fun v i wr => ∃ k : Nat, k ≤ no ∧ i = .int .i64 k ∧ OwnN wr (w.heap.size + 1) v (dueL Wd Hd o nd st k) ∧ Below (w.heap.size + 1) (w.alloc (.cells #[.int .i64 (Wd : Int), .int .i64 (Hd : Int), .slice a n c] 24)) wr) (fun _ i _ => no - (intOf i).toNat)
  case atStart => exact ⟨0, Nat.zero_le _, rfl, ownN_nil _ _, Below.refl _ _⟩
  case round =>
    obtain ⟨wo, rfl⟩ : ∃ wo : World, wo = wr := ⟨_, rfl⟩
    obtain ⟨k, hk, rfl, hown, hb⟩ := hrel
    have J := HO1.below (by simpa using hb)
    have hbs := hb.size
    rw [World.size_alloc] at hbs
    by_cases hlt : k < no
    · obtain ⟨b1, o1, rfl, hb1, c1⟩ := J k hlt
      cases he : (o k != nd)
      · have he' : o k = nd := by simpa using he
        have hT : dueL Wd Hd o nd st (k + 1) = dueL Wd Hd o nd st k ++ dueC Wd Hd o nd st k 4 := by simp only [dueL, if_pos he']
        have HT := hid hT
        clear he' hT
        have hdl := dueL_length Wd Hd o nd st k
        go_wp2
        clear c1 J hb1
        go_loopw [9, 11] (fun v di wr => ∃ d : Nat, d ≤ 4 ∧ di = .int .i64 d ∧ OwnN wr (w.heap.size + 1) v (dueL Wd Hd o nd st k ++ dueC Wd Hd o nd st k d) ∧ Below (w.heap.size + 1) (w.alloc (.cells #[.int .i64 (Wd : Int), .int .i64 (Hd : Int), .slice a n c] 24)) wr) (fun _ di _ => 4 - (intOf di).toNat)
        case atStart => exact ⟨0, Nat.zero_le _, rfl, by simpa [dueC] using hown, hb⟩
        case round =>
          clear hown hb hbs
          obtain ⟨d, hd, rfl, hown, hb⟩ := hrel
          have hbs := hb.size
          rw [World.size_alloc] at hbs
          by_cases hd4 : d < 4
          · have hnb := nbT_lt (W := Wd) (H := Hd) (i := k) (by rw [← HNO.out]; exact hlt) hd4
            rw [← HNO.out] at hnb
            have hcf := ref2_From Wd Hd k d wr h1 h2 (by rw [← HNO.out]; exact hlt) hd4
            have hCs : dueC Wd Hd o nd st k (d + 1) = if o (nbT Wd Hd k d) = nd then dueC Wd Hd o nd st k d else dueC Wd Hd o nd st k d ++ [⟨st, o (nbT Wd Hd k d), nd, k, d, 0⟩] := rfl
            have HCS := hid hCs; clear hCs
            have hcl := dueC_length Wd Hd o nd st k d
            have Xw := X.below (by simpa using hb)
            have x0 := Xw.at_ 0 rfl; have x1 := Xw.at_ 1 rfl; have lx := Xw.lt
            generalize nbT Wd Hd k d = m at *
            obtain ⟨b2, o2, e2, hb2, co0⟩ := (HO1.below (w' := wr) (by simpa using hb)) m hnb
            injection e2 with e2; injection e2 with e2 e3 _
            subst e2 e3
            go_wp2_with fail
            refine hcf.mono ?_
            rintro e w8 ⟨rfl, hb8⟩
            have co8 := (bcell hb8 _ _ hb2).trans co0
            have hb9 : Below (w.heap.size + 1) (w.alloc (.cells #[.int .i64 (Wd : Int), .int .i64 (Hd : Int), .slice a n c] 24)) w8 := hb.trans (hb8.mono hbs)
            have hown8 : w8.ownsRow (w.heap.size + 1) 106 6 _ _ _ := own_below hown hb8
            have hs8 := hb8.size
            have lb8 : b1 < w8.heap.size := by omega
            clear hcf x0 x1 co0
            obtain ⟨om, hom⟩ : ∃ x, x = o m := ⟨_, rfl⟩
            rw [← hom] at co8
            have HOM := hid hom; clear hom
            cases hq : (om != nd)
            · have hq' : om = nd := by simpa using hq
              have HQ := hid hq'; clear hq'
              go_wp2_with fail
              go_roundw
              case rel => exact ⟨d + 1, by omega, by go_num, by rw [HCS.out, ← HOM.out, if_pos HQ.out]; exact hown8, hb9⟩
              case measure => simp [intOf]; omega
            · have hq' : ¬ om = nd := by simpa using hq
              have HQ := hid hq'; clear hq'
              go_wp2_with (at_builtin; refine wpList_append_own _ rfl _ _ 67 rfl (w.heap.size + 1) 106 i0 _ 6 48 Tryz.underlying67 hi hz0 hz1 hz2 rfl (by decide) _ _ _ rfl (hown8.alloc _) ⟨w8.heap.size, 0, none⟩ 1 1 (N6.list ⟨st, om, nd, k, d, 0⟩) rfl rfl (cells_new _ _ _) (n6_one _) (by simp [maxLen]; omega) (by simp; omega) (by simp; omega) ?_; intro v' w9 hown' hgrow _)
              go_roundw
              case rel => exact ⟨d + 1, by omega, by go_num, by rw [HCS.out, ← HOM.out, if_neg HQ.out, ← List.append_assoc]; exact ownN_snoc hown', (hb9.alloc (by omega) _).grown hgrow (by simp; omega) (own_base hown8)⟩
              case measure => simp [intOf]; omega
          · obtain rfl : d = 4 := (by omega)
            go_wp2
            go_roundw
            case rel => exact ⟨k + 1, by omega, by go_num, by rw [HT.out]; exact hown, hb⟩
            case measure => simp [intOf]; omega
      · have he' : ¬ o k = nd := by simpa using he
        have hT : dueL Wd Hd o nd st (k + 1) = dueL Wd Hd o nd st k := by simp only [dueL, if_neg he']
        have HT := hid hT
        clear he' hT
        go_wp2
        go_roundw
        case rel => exact ⟨k + 1, by omega, by go_num, by rw [HT.out]; exact hown, hb⟩
        case measure => simp [intOf]; omega
    · obtain rfl : k = no := (by omega)
      go_wp2
      go_ret
      exact ⟨_, rfl, own_mono hown (by omega), (below_alloc w _).trans (hb.mono (by omega))⟩
end Go.Proofs.YteabkcbajpjkoaaGreat
namespace Go.Proofs.YteabkcbajpjkoaaGreat
open Go Go.RowKit
attribute [local go_sem] Oper.semAt_some
set_option linter.unusedVariables false
theorem own_sliceN {w : World} {base : Nat} {e : TypeId} {size n : Nat} {v : Value} {xs : List Value} (h : w.ownsRow base e size v n xs) : ∃ a k c, v = .slice a k c := by
  rcases h.2 with ⟨rfl, _⟩ | ⟨g', cap, cur, rfl, _⟩
  · exact ⟨_, _, _, rfl⟩
  · exact ⟨_, _, _, rfl⟩
theorem but_grownN {C : Nat → Prop} {X Y Z : World} {row : Option Nat} (h : But C X Y) (hg : Y.grownBy Z row) (hr : ∀ g, row = some g → C g) : But C X Z :=
  ⟨hg.os.trans h.os, hg.tape.trans h.tape, hg.output.trans h.output, Nat.le_trans h.size hg.size, fun b hb hc => (hg.block b (Nat.lt_of_lt_of_le hb h.size) (fun e => hc (hr b e.symm))).trans (h.block b hb hc)⟩
end Go.Proofs.YteabkcbajpjkoaaGreat
/- Walk: how many notes are due in a step, of the reference. Walk: how many notes are due in a step, of the program. Walk: what every law of the nodes ends in is true. -/
namespace Go.Proofs.YteabkcbajpjkoaaGreat
open Go Go.RowKit
set_option linter.unusedVariables false
/-- how many notes are due in a step -/
def trafN (wide high : Int) (n : Nat) (g : Nat → C4) (no : Nat) (o : Nat → Int) : Int := if validM wide high n g no o = true then (trafL wide.toNat high.toNat o no (nodeL o no 8) : Int) else 0
theorem trafN_yes {Wd Hd : Nat} {n : Nat} {g : Nat → C4} {no : Nat} {o : Nat → Int} (h : validM Wd Hd n g no o = true) : trafN Wd Hd n g no o = (trafL Wd Hd o no (nodeL o no 8) : Int) := by
  unfold trafN; rw [if_pos h, Int.toNat_natCast, Int.toNat_natCast]
theorem trafN_no {wide high : Int} {n : Nat} {g : Nat → C4} {no : Nat} {o : Nat → Int} (h : validM wide high n g no o = false) : trafN wide high n g no o = 0 := by
  unfold trafN; rw [h]; rfl
def natL (k : Nat) : List Int := (List.range k).map fun j : Nat => (j : Int)
theorem natL_succ (k : Nat) : natL (k + 1) = natL k ++ [(k : Int)] := by simp [natL, List.range_succ]
theorem natL_length (k : Nat) : (natL k).length = k := by simp [natL]
set_option maxRecDepth 100000 in
set_option maxHeartbeats 2000000 in
theorem ref5_Traffic (wide high : Int) (a ao : Option Addr) (n no c co : Nat) (g : Nat → C4) (o : Nat → Int) (w : World) (hn : n ≤ 100000000) (hno : no ≤ 100000000) (H : Sc w a n g) (HO : Sl w ao no o) :
    Calls Tryz.prog 31 #[.agg #[.int .i64 wide, .int .i64 high, .slice a n c], .slice ao no co] w
    fun e w' => e = .returned (.tuple #[.int .i64 (trafN wide high n g no o), .int .i64 (errR (validM wide high n g no o) 1)]) ∧ Below w.heap.size w w' := by
  have I := H.alloc (.cells #[.int .i64 wide, .int .i64 high, .slice a n c] 24)
  have IO := HO.alloc (.cells #[.int .i64 wide, .int .i64 high, .slice a n c] 24)
  have X := Bx.new w #[.int .i64 wide, .int .i64 high, .slice a n c] 24
  cases hv : validM wide high n g no o
  · have HT := hid (trafN_no hv)
    go_enter Tryz.func31, Tryz.ntmps31
    go_wp2_with (go_at_call 59; refine (ref5_ValidMap wide high _ _ n no _ _ g o _ hn hno I IO).mono ?_; rintro e w1 ⟨rfl, hb1⟩; rw [hv])
    go_ret2
    rw [HT.out]
    exact ⟨rfl, bvia (by (repeat' (first | with_reducible assumption | with_reducible exact Below.refl _ _ | with_reducible refine Below.drew ?_ | with_reducible refine below_drewN ?_ _ | with_reducible refine balloc ?_ _ | with_reducible refine bset ?_ ?_ _ | with_reducible refine Below.setCell ?_ ?_ _ | with_reducible refine Below.alloc ?_ ?_ _ | omega | (simp; done) | (simp; omega)))) hb1⟩
  · obtain ⟨Wd, Hd, rfl, rfl, p1, p2, u1, u2, hnn, hn4, hoo, hob, _, _⟩ := validM_sides hv
    have HT := hid (trafN_yes hv)
    have hnW : no = Wd * Hd := by omega
    have HNW := hid hnW
    have hno4 : no ≤ 1024 := by omega
    clear hnn hoo hnW
    go_enter Tryz.func31, Tryz.ntmps31
    go_wp2_with fail
    refine (ref5_ValidMap _ _ _ _ n no _ _ g o _ hn hno I IO).mono ?_
    rintro e w1 ⟨rfl, hb1⟩
    rw [hv]
    have hB1 : Below w.heap.size w w1 := bvia (by (repeat' (first | with_reducible assumption | with_reducible exact Below.refl _ _ | with_reducible refine Below.drew ?_ | with_reducible refine below_drewN ?_ _ | with_reducible refine balloc ?_ _ | with_reducible refine bset ?_ ?_ _ | with_reducible refine Below.setCell ?_ ?_ _ | with_reducible refine Below.alloc ?_ ?_ _ | omega | (simp; done) | (simp; omega)))) hb1
    have X1 := X.below hb1
    clear hb1
    go_wp2_with fail
    go_loopw [6, 7] (fun m i wr => ∃ k : Nat, k ≤ 8 ∧ i = .int .i64 k ∧ m = .int .i64 (trafL Wd Hd o no (natL k) : Nat) ∧ Bx wr w.heap.size #[.int .i64 Wd, .int .i64 Hd, .slice a n c] ∧ Below w.heap.size w wr) (fun _ i _ => 8 - (intOf i).toNat)
    case atStart => exact ⟨0, Nat.zero_le _, rfl, rfl, X1, hB1⟩
    case round =>
      clear X1 hB1
      obtain ⟨k, hk, rfl, rfl, X1, hB1⟩ := hrel
      by_cases hlt : k < 8
      · have x0 := X1.at_ 0 rfl; have x1 := X1.at_ 1 rfl; have x2 := X1.at_ 2 rfl; have lx := X1.lt
        have hd := ref5_due Wd Hd a ao n c no co o k 1 wr ⟨p1, p2⟩ ⟨u1, u2⟩ HNW.out (HO.below hB1)
        have hle := trafL_le Wd Hd o no (natL k)
        rw [natL_length] at hle
        have hdl := dueL_length Wd Hd o k 1 no
        have hs : trafL Wd Hd o no (natL (k + 1)) = trafL Wd Hd o no (natL k) + (dueL Wd Hd o k 1 no).length := by rw [natL_succ, trafL_snoc]
        have HS := hid hs; clear hs
        have hk8 : k * (4 * no) ≤ 8 * (4 * 1024) := Nat.mul_le_mul (by omega) (by omega)
        generalize trafL Wd Hd o no (natL k) = T at *
        go_wp2_with fail
        refine hd.mono ?_
        rintro e w2 ⟨v, rfl, hown, hb2⟩
        obtain ⟨av, cv, rfl, _⟩ := sn_of_own hown
        have X2 := X1.below hb2
        have hB2 := bvia hB1 hb2
        clear hd hown x0 x1 x2
        generalize (dueL Wd Hd o k 1 no).length = D at *
        go_wp2_with fail
        go_roundw
        case rel => exact ⟨k + 1, by omega, by go_num, by rw [HS.out]; go_num, X2, hB2⟩
        case measure => simp [intOf]; omega
      · obtain rfl : k = 8 := (by omega)
        go_wp2
        go_ret2
        rw [HT.out, traf_nodes]
        exact ⟨rfl, hB1⟩
end Go.Proofs.YteabkcbajpjkoaaGreat
namespace Go.Proofs.YteabkcbajpjkoaaGreat
open Go Go.RowKit
attribute [local go_sem] Oper.semAt_some
set_option linter.unusedVariables false
/-- a function that leaves with marks alone -/
theorem leaves_all {F : Fence} {n : Nat} {P : Program} {fn : Func} {tmps : Array Value} {R : Ending → World → Prop} : ∀ (ds : List Nat) (w : World), ds.Nodup → (∀ D ∈ ds, w.heap[D]? = some (.deferred (some []))) →
    (∀ w', But (fun b => b ∈ ds) w w' → LeavesIn F n P fn tmps R [] .returning w') → LeavesInM F n P fn tmps R (ds.map fun D => { target := .collected D, args := #[] }) .returning w
  | [], w, _, _, h => h w (But.refl _ _)
  | D :: ds, w, hn, hd, h => by
    rw [List.nodup_cons] at hn
    refine ⟨by simp, .inl ⟨D, _, rfl, run_takeDeferred (hd D (List.mem_cons_self ..)), leaves_all ds _ hn.2 (fun E hE => ?_) (fun w' hb => h w' ?_)⟩⟩
    · rw [World.putObj_heap_other (fun e => hn.1 (by first | (rw [← e]; exact hE) | (rw [e]; exact hE)))]
      exact hd E (List.mem_cons_of_mem _ hE)
    · exact ((but_putObj w D (.deferred none)).mono (D := fun b => b ∈ D :: ds) (fun b _ e => by rw [e]; exact List.mem_cons_self ..)).trans (hb.mono fun b _ e => List.mem_cons_of_mem _ e)
set_option maxRecDepth 100000 in
set_option maxHeartbeats 4000000 in
theorem node_Traffic (wide high : Int) (a ao : Option Addr) (n no c co : Nat) (g : Nat → C4) (o : Nat → Int) (w : World) (hn : n ≤ 100000000) (hno : no ≤ 100000000) (H : Sc w a n g) (HO : Sl w ao no o) :
    Calls Tryz.prog 27 #[.agg #[.int .i64 wide, .int .i64 high, .slice a n c], .slice ao no co] w
    fun e w' => e = .returned (.tuple #[.int .i64 (trafN wide high n g no o), .int .i64 (errR (validM wide high n g no o) 1)]) ∧ Below w.heap.size w w' := by
  have I := H.alloc (.cells #[.int .i64 wide, .int .i64 high, .slice a n c] 24)
  have IO := HO.alloc (.cells #[.int .i64 wide, .int .i64 high, .slice a n c] 24)
  have X := Bx.new w #[.int .i64 wide, .int .i64 high, .slice a n c] 24
  cases hv : validM wide high n g no o
  · have HT := hid (trafN_no hv)
    go_enter Tryz.func27, Tryz.ntmps27
    go_wp2_with (go_at_call 34; refine (node_ValidMap wide high _ _ n no _ _ g o _ hn hno I IO).mono ?_; rintro e w1 ⟨rfl, hb1⟩; rw [hv])
    go_ret2
    rw [HT.out]
    exact ⟨rfl, bvia (by (repeat' (first | with_reducible assumption | with_reducible exact Below.refl _ _ | with_reducible refine Below.drew ?_ | with_reducible refine below_drewN ?_ _ | with_reducible refine balloc ?_ _ | with_reducible refine bset ?_ ?_ _ | with_reducible refine Below.setCell ?_ ?_ _ | with_reducible refine Below.alloc ?_ ?_ _ | omega | (simp; done) | (simp; omega)))) hb1⟩
  · obtain ⟨Wd, Hd, rfl, rfl, p1, p2, u1, u2, hnn, hn4, hoo, hob, _, _⟩ := validM_sides hv
    have HT := hid (trafN_yes hv)
    have hnW : no = Wd * Hd := by omega
    have HNW := hid hnW
    have HNN := hid hnn
    have hno4 : no ≤ 1024 := by omega
    have hnd := fun W S => node_nodes Wd Hd a ao n c no co o W (by rw [hnW]; exact Nat.mul_pos p1 u1) (by omega) (fun k hk => hob k (by omega)) S
    clear hnn hoo hnW
    unfold cluV at hnd
    have HND := hid hnd; clear hnd
    refine callsIn_wide.1 (callsIn_of_wp_marks (F := Fence.wide) (n := 0) Tryz.func27 rfl trivial ?_ rfl)
    simp only [Tryz.ntmps27, List.size_toArray, List.length_cons, List.length_nil, Nat.reduceAdd, Nat.reduceSub, Array.replicate_succ, Array.replicate_zero, List.push_toArray, List.append_toArray, List.nil_append, List.cons_append]
    gi_wp2_with fail
    refine ⟨trivial, rfl, callsIn_wide.2 ((node_ValidMap _ _ _ _ n no _ _ g o _ hn hno I IO).mono ?_)⟩
    rintro e w1 ⟨rfl, hb1⟩
    rw [hv]
    have hB1 : Below w.heap.size w w1 := bvia (by (repeat' (first | with_reducible assumption | with_reducible exact Below.refl _ _ | with_reducible refine Below.drew ?_ | with_reducible refine below_drewN ?_ _ | with_reducible refine balloc ?_ _ | with_reducible refine bset ?_ ?_ _ | with_reducible refine Below.setCell ?_ ?_ _ | with_reducible refine Below.alloc ?_ ?_ _ | omega | (simp; done) | (simp; omega)))) hb1
    have X1 := X.below hb1
    have x0 := X1.at_ 0 rfl; have x1 := X1.at_ 1 rfl; have x2 := X1.at_ 2 rfl; have lx := X1.lt
    have S1 := HO.below hB1
    clear hb1 I IO
    have hnd := fun W S => HND.out W S
    gi_wp2_with fail
    have Xc := (Bx.new w1 #[.int .i64 Wd, .int .i64 Hd, .slice a n c, .slice ao no co] 62).alloc (.cells #[.int .i64 0] 3)
    have Xn := Bx.new (w1.alloc (.cells #[.int .i64 Wd, .int .i64 Hd, .slice a n c, .slice ao no co] 62)) #[.int .i64 0] 3
    have S2 := (S1.alloc (.cells #[.int .i64 Wd, .int .i64 Hd, .slice a n c, .slice ao no co] 62)).alloc (.cells #[.int .i64 0] 3)
    have hB2 := balloc (balloc hB1 (.cells #[.int .i64 Wd, .int .i64 Hd, .slice a n c, .slice ao no co] 62)) (.cells #[.int .i64 0] 3)
    rw [World.size_alloc] at Xn
    refine ⟨trivial, rfl, callsIn_wide.2 ((hnd _ S2).mono ?_)⟩
    rintro e w2 ⟨v, rfl, hown, hb2⟩
    obtain ⟨al, cl, rfl, _⟩ := sl_of_own hown
    clear hnd
    have X2c := Xc.below hb2; have X2n := Xn.below hb2
    have hB3 := bvia hB2 hb2
    have hs2 := hb2.size
    have hs1 := hB1.size
    simp only [World.size_alloc] at hs2 hown
    obtain ⟨L, hL⟩ : ∃ L, L = nodeL o no 8 := ⟨_, rfl⟩
    have hLn : L.length ≤ 8 := by rw [hL]; exact nodeL_length _ _ _
    have htl := trafL_le Wd Hd o no
    rw [← hL] at hown
    gi_wp2_with fail
    rw [← hL]
    have HL := hid hL; clear hL x0 x1 x2 X1 S1 S2 hB1 hB2 Xc Xn hb2
    obtain ⟨I, hI⟩ : ∃ I : Act → World → Prop, I = fun a' w' => ∃ (k : Nat) (ds : List Nat) (u9 u21 u22 u23 u24 u25 u26 u30 : Value), a' = { tmps := #[.agg #[.int .i64 Wd, .int .i64 Hd, .slice a n c], .slice ao no co, .pointer (some ⟨w.heap.size, 0, none⟩), undef, .int .i64 0, .int .i64 0, .pointer (some ⟨w1.heap.size, 0, none⟩), .pointer (some ⟨w1.heap.size + 1, 0, none⟩), undef, u9, .agg #[.int .i64 Wd, .int .i64 Hd, .slice a n c], .slice ao no co, .bool true, .bool false, .agg #[.int .i64 Wd, .int .i64 Hd, .slice a n c], .slice ao no co, .agg #[.int .i64 Wd, .int .i64 Hd, .slice a n c, .slice ao no co], .agg #[.int .i64 Wd, .int .i64 Hd, .slice a n c, .slice ao no co], .slice al L.length cl, .int .i64 L.length, .int .i64 k, u21, u22, u23, u24, u25, u26, undef, undef, undef, u30, undef], defers := ds.map fun D => { target := .collected D, args := #[] } } ∧ k ≤ L.length ∧ Bx w' (w1.heap.size + 1) #[.int .i64 (trafL Wd Hd o no (L.take k) : Nat)] ∧ Bx w' w1.heap.size #[.int .i64 Wd, .int .i64 Hd, .slice a n c, .slice ao no co] ∧ w'.ownsRow (w1.heap.size + 1 + 1) 3 1 (.slice al L.length cl) L.length (L.map vInt) ∧ Below w.heap.size w w' ∧ ds.Nodup ∧
          (∀ D ∈ ds, w1.heap.size + 1 + 1 ≤ D ∧ w'.heap[D]? = some (.deferred (some []))) := ⟨_, rfl⟩
    refine wpIn_loop I (fun a' _ => L.length - (intOf (a'.tmps.getD 20 undef)).toNat) ?_ ?_
    · rw [hI]
      exact ⟨0, [], _, _, _, _, _, _, _, _, rfl, Nat.zero_le _, X2n, X2c, hown, hB3, List.nodup_nil, fun D h => by cases h⟩
    · clear X2n X2c hown hB3
      intro a' w' hr
      rw [hI] at hr
      have HI := hid hI; clear hI
      obtain ⟨k, ds, u9, u21, u22, u23, u24, u25, u26, u30, rfl, hk, X2n, X2c, hown, hB3, hnd, hds⟩ := hr
      by_cases hlt : k < L.length
      · have hT1 : trafL Wd Hd o no (L.take (k + 1)) = trafL Wd Hd o no (L.take k) + (dueL Wd Hd o (L.getD k 0) 1 no).length := by rw [take_getD hlt, trafL_snoc]
        have htk := htl (L.take k)
        rw [List.length_take, Nat.min_eq_left hk] at htk
        have hk8 : k * (4 * no) ≤ 8 * (4 * 1024) := Nat.mul_le_mul (by omega) (by omega)
        generalize trafL Wd Hd o no (L.take k) = T at *
        have HT1 := hid hT1; clear hT1
        obtain ⟨av', cv', hv', Sv⟩ := sl_of_own hown
        injection hv' with hv1 hv2 hv3
        subst hv1
        subst hv3
        obtain ⟨bv, ov, rfl, hbv, cv0⟩ := Sv k hlt
        dsimp only at cv0
        clear hv2 Sv
        have c0 := X2c.at_ 0 rfl; have c1 := X2c.at_ 1 rfl; have c2 := X2c.at_ 2 rfl; have c3 := X2c.at_ 3 rfl; have lc := X2c.lt
        obtain ⟨nd, hnd'⟩ : ∃ nd, nd = L.getD k 0 := ⟨_, rfl⟩
        rw [← hnd'] at cv0
        have HND := hid hnd'; clear hnd'
        have hdue := node_due Wd Hd a ao n c no co nd 1 w'
        unfold cluV at hdue
        gi_wp2_with fail
        refine ⟨trivial, rfl, callsIn_wide.2 (hdue.mono ?_)⟩
        rintro e w4 ⟨bc, bn, bs, rfl, Zc, Zn, Zs, ⟨zc, zn, zs⟩, hb4⟩
        clear hdue c0 c1 c2 c3 cv0
        gi_wp2_with fail
        have hW4 : Below w.heap.size w w4 := bvia hB3 hb4
        have Y2n := X2n.below hb4; have Y2c := X2c.below hb4
        have hown4 := own_below hown hb4
        have hs4 := hb4.size
        have hds4 : ∀ D ∈ ds, w1.heap.size + 1 + 1 ≤ D ∧ D < w'.heap.size ∧ w4.heap[D]? = some (.deferred (some [])) := fun D hD => by
          obtain ⟨d1, d2⟩ := hds D hD
          have d3 := (Array.getElem?_eq_some_iff.1 d2).1
          exact ⟨d1, d3, (hb4.block D d3).trans d2⟩
        have hdl := dueL_length Wd Hd o nd 1 no
        have ob := own_base hown4
        have ol := own_lt hown
        have lx2 := X2n.lt
        clear hds hown X2n X2c hb4 hB3
        refine wp_rangeR rfl ent_due (due_iterR Wd Hd a ao n c no co o nd 1 bc bn bs w ⟨p1, p2⟩ ⟨u1, u2⟩ HNW.out HO) hW4 (fun _ => rfl)
          (fun pre C X => C = (fun b => b = w1.heap.size + 1 ∨ b = bc ∨ b = bn ∨ b = bs) ∧ Bx X (w1.heap.size + 1) #[.int .i64 (T + pre.length : Nat)] ∧ DueRd (cluV Wd Hd a ao n c no co) nd 1 bc bn bs X)
          (fun _ _ _ _ => False) (fun b => b = w1.heap.size + 1 ∨ b = bc ∨ b = bn ∨ b = bs) ?hRd ?hC ?hI (fun c => fun _ _ _ _ h => h.elim) ⟨rfl, Y2n, Zc, Zn, Zs⟩ ?hround ?hdone ?hstop
        case hRd => exact fun pre C X h => h.2.2
        case hC =>
          rintro pre C X ⟨rfl, h1, h2, h3, h4⟩ b hb
          have l1 := h1.lt; have l2 := h2.lt; have l3 := h3.lt; have l4 := h4.lt
          rcases hb with rfl | rfl | rfl | rfl <;> omega
        case hI =>
          rintro pre C A B ⟨rfl, h1, h2, h3, h4⟩ hb
          exact ⟨rfl, h1.but hb (fun h => h.2 (.inl rfl)), h2.but hb (fun h => h.2 (.inr (.inl rfl))), h3.but hb (fun h => h.2 (.inr (.inr (.inl rfl)))), h4.but hb (fun h => h.2 (.inr (.inr (.inr rfl))))⟩
        case hround =>
          rintro l pre x C X hl hl' hnl ⟨rec2, hrec2⟩ ⟨rfl, Yn, h2, h3, h4⟩ hX hgC hpre
          unfold Round
          dsimp only [encN]
          gi_wp2_with fail
          refine ⟨Below.refl _ _, ?_⟩
          intro X₂ hb2 hs2 r2 hr2
          have hn0 : l ≠ w1.heap.size + 1 ∧ l ≠ bc ∧ l ≠ bn ∧ l ≠ bs := ⟨fun e => hnl (.inl e), fun e => hnl (.inr (.inl e)), fun e => hnl (.inr (.inr (.inl e))), fun e => hnl (.inr (.inr (.inr e)))⟩
          obtain ⟨n1, n2, n3, n4⟩ := hn0
          have Yn2 := Yn.but hb2 (fun e => n1 e.symm); have g2 := h2.but hb2 (fun e => n2 e.symm); have g3 := h3.but hb2 (fun e => n3 e.symm); have g4 := h4.but hb2 (fun e => n4 e.symm)
          have hpl := hpre.length_le
          simp only [List.length_append, List.length_cons, List.length_nil] at hpl
          have x0 := Yn2.at_ 0 rfl; have xf := Yn2.free; have xl := Yn2.lt
          have hq : (T : Int) + ((pre ++ [x]).length : Int) = ((T + pre.length : Nat) : Int) + 1 := by simp; omega
          have hbd : T + pre.length + 1 ≤ 100000 := by omega
          have HQ := hid hq
          clear hq n1 n2 n3 n4 Yn h2 h3 h4 hb2 hs2 hr2 r2 hnl hgC hX hpre hrec2 hdl
          generalize T + pre.length = tp at *
          gi_wp2
          have Y4 := Yn2.set_ 0 (by simp) (.int .i64 ((tp : Int) + 1))
          have e1 : ¬ bc = w1.heap.size + 1 := by omega
          have e2 : ¬ bn = w1.heap.size + 1 := by omega
          have e3 : ¬ bs = w1.heap.size + 1 := by omega
          exact ⟨_, (But.refl _ _).set_ (.inl rfl) _, Grw.refl _ _, rfl, by rw [HQ.out]; exact Y4, g2.far (fun h => e1 h.symm) _, g3.far (fun h => e2 h.symm) _, g4.far (fun h => e3 h.symm) _⟩
        case hdone =>
          rintro D C X hD hnD ⟨rfl, Yn, _⟩ hbut hgC hdef
          have Y5c := Y2c.but hbut (fun h => by omega)
          have hown5 := own_butN hown4 hbut (fun g hg h => by have := ob g hg; have := ol g hg; omega)
          have hs5 := hbut.size
          have hb5 : Below w.heap.size w X := hW4.trans ⟨hbut.os, hbut.tape, hbut.output, hbut.size, fun b hb => hbut.block b (by have := hW4.size; omega) (fun h => by omega)⟩
          have hds5 : ∀ E ∈ ds, w1.heap.size + 1 + 1 ≤ E ∧ X.heap[E]? = some (.deferred (some [])) := fun E hE => by
            obtain ⟨d1, d2, d3⟩ := hds4 E hE
            exact ⟨d1, (hbut.block E (by omega) (fun h => by omega)).trans d3⟩
          gi_wp2
          have hnd5 : (D :: ds).Nodup := List.nodup_cons.2 ⟨fun hE => (by have := (hds4 D hE).2.1; omega), hnd⟩
          rw [HI.out]
          refine ⟨⟨k + 1, D :: ds, _, _, _, _, _, _, _, _, rfl, by omega, by rw [HT1.out, ← HND.out]; exact Yn, Y5c, hown5, hb5, hnd5, fun E hE => ?_⟩, ?_⟩
          · rcases List.mem_cons.1 hE with rfl | hE
            · exact ⟨by omega, hdef⟩
            · exact hds5 E hE
          · simp [intOf]; omega
        case hstop =>
          rintro Dd c pre C X hDd hnD hpre h
          exact h.elim
      · obtain rfl : k = L.length := (by omega)
        have x0 := X2n.at_ 0 rfl; have lx := X2n.lt
        have hT1 : trafL Wd Hd o no (L.take L.length) = trafL Wd Hd o no (nodeL o no 8) := by rw [List.take_length, HL.out]
        have HT1 := hid hT1; clear hT1
        generalize trafL Wd Hd o no (L.take L.length) = T at *
        gi_wp2
        refine leaves_all ds _ hnd (fun D hD => (hds D hD).2) (fun w5 hb5 => ?_)
        have hb6 : Below w.heap.size w w5 := hB3.trans ⟨hb5.os, hb5.tape, hb5.output, hb5.size, fun b hb => hb5.block b (by have := hB3.size; omega) (fun h => by have := (hds b h).1; omega)⟩
        refine ⟨.tuple #[.int .i64 (T : Int), .int .i64 0], by simp [results, Tryz.results27, go_sem], ?_⟩
        rw [HT.out, ← HT1.out]
        exact ⟨rfl, hb6⟩
end Go.Proofs.YteabkcbajpjkoaaGreat
/- Walks: is a note right, of the program. -/
namespace Go.Proofs.YteabkcbajpjkoaaGreat
open Go Go.RowKit
set_option linter.unusedVariables false
/-- the numbers of a note are in their ranges -/
def noteR (no : Nat) (x : N6) : Bool := within x.st 1 1000000 && within x.ce 0 ((no : Int) - 1) && within x.di 0 3 && within x.co 0 1000000000
/-- its nodes are those of its place -/
def noteO (W H : Nat) (o : Nat → Int) (x : N6) : Bool := (x.to == o x.ce.toNat) && (x.fr == o (nbT W H x.ce.toNat x.di.toNat)) && (o (nbT W H x.ce.toNat x.di.toNat) != x.to)
/-- a note that may be due -/
def noteB (W H : Nat) (o : Nat → Int) (no : Nat) (x : N6) : Bool := noteR no x && noteO W H o x
theorem noteR_iff {no : Nat} {x : N6} : noteR no x = true ↔ (1 ≤ x.st ∧ x.st ≤ 1000000) ∧ (0 ≤ x.ce ∧ x.ce ≤ (no : Int) - 1) ∧ (0 ≤ x.di ∧ x.di ≤ 3) ∧ (0 ≤ x.co ∧ x.co ≤ 1000000000) := by
  simp [noteR, within_iff, and_assoc]
theorem noteB_iff {W H : Nat} {o : Nat → Int} {no : Nat} {x : N6} : noteB W H o no x = true ↔ noteR no x = true ∧ x.to = o x.ce.toNat ∧ x.fr = o (nbT W H x.ce.toNat x.di.toNat) ∧ x.fr ≠ x.to := by
  simp only [noteB, noteO, Bool.and_eq_true, beq_iff_eq, bne_iff_ne, and_assoc]
  constructor
  · rintro ⟨h1, h2, h3, h4⟩; exact ⟨h1, h2, h3, by rw [h3]; exact h4⟩
  · rintro ⟨h1, h2, h3, h4⟩; exact ⟨h1, h2, h3, by rw [← h3]; exact h4⟩
end Go.Proofs.YteabkcbajpjkoaaGreat
/- Plain words: posts whose places differ; maps of places. -/
namespace Go.Proofs.YteabkcbajpjkoaaGreat
open Go Go.RowKit Go.Maps Go.ChangeMaps
set_option linter.unusedVariables false
/-- two notes have one place -/
def plcB (x y : N6) : Bool := x.st == y.st && x.ce == y.ce && x.di == y.di
theorem plcB_iff {x y : N6} : plcB x y = true ↔ x.st = y.st ∧ x.ce = y.ce ∧ x.di = y.di := by simp [plcB, and_assoc]
/-- is the place of x that of one of the first k notes? -/
def metB (p : Nat → N6) (x : N6) : Nat → Bool | 0 => false | k + 1 => metB p x k || plcB (p k) x
theorem metB_iff {p : Nat → N6} {x : N6} : ∀ {k}, metB p x k = true ↔ ∃ j, j < k ∧ plcB (p j) x = true
  | 0 => by simp [metB]
  | k + 1 => by
    simp only [metB, Bool.or_eq_true, metB_iff]
    constructor
    · rintro (⟨j, h1, h2⟩ | h)
      · exact ⟨j, by omega, h2⟩
      · exact ⟨k, by omega, h⟩
    · rintro ⟨j, h1, h2⟩
      by_cases e : j = k
      · subst e; exact .inr h2
      · exact .inl ⟨j, by omega, h2⟩
/-- a valid post -/
def postB (W H : Nat) (o : Nat → Int) (no m : Nat) (p : Nat → N6) : Bool := decide (m ≤ 100000 ∧ (∀ k, k < m → noteB W H o no (p k) = true) ∧ ∀ k, k < m → metB p (p k) k = false)
theorem postB_iff {W H : Nat} {o : Nat → Int} {no m : Nat} {p : Nat → N6} : postB W H o no m p = true ↔ (m ≤ 100000 ∧ (∀ k, k < m → noteB W H o no (p k) = true) ∧ ∀ k, k < m → metB p (p k) k = false) := by simp [postB]
/-- the key of a place -/
def plV (x : N6) : Value := .agg #[.int .i64 x.st, .int .i64 x.ce, .int .i64 x.di]
def plL (x : N6) : Lit := .string (keyBytes [.int .i64 x.st, .int .i64 x.ce, .int .i64 x.di])
/-- the numbers of a note are ints of 64 bits -/
def wfN (x : N6) : Prop := ∀ j, j < 6 → (Lit.int .i64 (x.get j)).wf = true
theorem laid_out : laidOutB Tryz.prog = true := by kernel_rfl
theorem law_place : WideMaps.KeyLaw Tryz.prog 138 := deep_law_laid laid_out (m := 2) (by omega) (of_decide_eq_true (by kernel_rfl)) (by kernel_rfl) (by kernel_rfl)
theorem key_place {x : N6} (h : wfN x) : keyOf Tryz.prog 138 (plV x) = some (plL x) := by
  have h0 : (Lit.int .i64 x.st).wf = true := h 0 (by omega)
  have h3 : (Lit.int .i64 x.ce).wf = true := h 3 (by omega)
  have h4 : (Lit.int .i64 x.di).wf = true := h 4 (by omega)
  have hc : Tryz.prog.cellsOf 138 = 3 := by kernel_rfl
  have hi : Tryz.prog.cellsOf 3 = 1 := by kernel_rfl
  have hk : Tryz.prog.keyType 138 = true := by kernel_rfl
  have hf : (plV x).formed Tryz.prog 138 = true := by simp [plV, Value.formed, Tryz.underlying138, hc]
  unfold keyOf
  rw [Tryz.underlying138]
  simp only [hk, hf]
  obtain ⟨m, hm⟩ : ∃ m, Tryz.prog.types.size + 1 = m + 2 := ⟨Tryz.prog.types.size - 1, by have : 1 ≤ Tryz.prog.types.size := of_decide_eq_true (by kernel_rfl); omega⟩
  rw [hm]
  have hcl : (plV x).cells.toList = [.int .i64 x.st, .int .i64 x.ce, .int .i64 x.di] := rfl
  rw [hcl]
  have g0 : Tryz.prog.keyLits (m + 1) 3 [.int .i64 x.st] = some [.int .i64 x.st] := by simp [Program.keyLits, Tryz.underlying3, h0]
  have g1 : Tryz.prog.keyLits (m + 1) 3 [.int .i64 x.ce] = some [.int .i64 x.ce] := by simp [Program.keyLits, Tryz.underlying3, h3]
  have g2 : Tryz.prog.keyLits (m + 1) 3 [.int .i64 x.di] = some [.int .i64 x.di] := by simp [Program.keyLits, Tryz.underlying3, h4]
  unfold Program.keyLits
  simp [Tryz.underlying138, hc, hi, g0, g1, g2, plL]
theorem plL_inj {x y : N6} (hx : wfN x) (hy : wfN y) (h : plL x = plL y) : plcB x y = true := by
  have e := (Keyed.of_law law_place).inj (key_place hx) ((key_place hy).trans (congrArg some h.symm))
  simp only [plV, Value.agg.injEq, Array.mk.injEq, List.cons.injEq, Value.int.injEq, true_and, and_true] at e
  exact plcB_iff.2 ⟨e.1, e.2.1, e.2.2⟩
theorem plL_eq {x y : N6} (h : plcB x y = true) : plL x = plL y := by
  obtain ⟨h1, h2, h3⟩ := plcB_iff.1 h
  unfold plL; rw [h1, h2, h3]
theorem plainElem_bool_invN {H : Type} {P : Program} {e : TypeId} (he : P.underlying e = some .bool) {v : Value} {z : DataW H × List MemPlace} (h : plainElem P e v = some z) : ∃ x, v = .bool x ∧ z = (.lit (.bool x), []) := by
  unfold plainElem at h
  rw [he] at h
  cases v <;> simp at h
  exact ⟨_, rfl, h.symm⟩
/-- block b is a map of at most n places that says of each whether it is in S -/
def PlM (K : TypeId) (w : World) (b n : Nat) (S : N6 → Bool) : Prop :=
  ∃ D : DataW Unit, w.ownsMap Tryz.prog K (plainElem Tryz.prog 4) b n D ∧ ∀ x, wfN x → D.atKey (plL x) (.lit (.bool false)) = .lit (.bool (S x))
theorem plm_made (K : TypeId) (w : World) : PlM K (w.alloc (.map #[] 0)) w.heap.size 0 (fun _ => false) :=
  ⟨.map [], World.ownsMap_made w _ _ _, fun i _ => by simp [DataW.atKey]⟩
theorem plm_below {K : TypeId} {w w' : World} {b n : Nat} {S : N6 → Bool} (h : PlM K w b n S) (hb : Below w.heap.size w w') : PlM K w' b n S := by
  obtain ⟨D, ⟨es, clock, h1, h2⟩, hat⟩ := h
  refine ⟨D, ⟨es, clock, ?_, h2⟩, hat⟩
  rw [hb.block b ?_]
  · exact h1
  · rcases Nat.lt_or_ge b w.heap.size with h' | h'
    · exact h'
    · rw [Array.getElem?_eq_none h'] at h1; cases h1
theorem plm_congr {K : TypeId} {w : World} {b n : Nat} {S S' : N6 → Bool} (h : PlM K w b n S) (e : ∀ x, S x = S' x) : PlM K w b n S' := by
  obtain ⟨D, h1, h2⟩ := h
  exact ⟨D, h1, fun x hx => by rw [h2 x hx, e x]⟩
theorem plm_lt {K : TypeId} {w : World} {b n : Nat} {S : N6 → Bool} (h : PlM K w b n S) : b < w.heap.size := by
  obtain ⟨D, ⟨es, clock, h1, h2⟩, hat⟩ := h
  exact (Array.getElem?_eq_some_iff.1 h1).1
section
variable {K T : TypeId} (law : WideMaps.KeyLaw Tryz.prog K) (hkey : ∀ {x : N6}, wfN x → keyOf Tryz.prog K (plV x) = some (plL x)) (ht : Tryz.prog.underlying T = some (.map K 4))
include law hkey ht
theorem plm_look {w : World} {b n : Nat} {S : N6 → Bool} (h : PlM K w b n S) {x : N6} (hx : wfN x) :
    (Instr.lookup T (.map (some b)) (plV x) false).run Tryz.prog w = .ok (.bool (S x)) w := by
  obtain ⟨D, ho, hat⟩ := h
  obtain ⟨v, ps, hrun, hv⟩ := ho.lookup (Keyed.of_law law) ht (z := .bool false) (by kernel_rfl) (plainElem_bool Tryz.underlying4 false) (hkey hx)
  obtain ⟨y, rfl, hy⟩ := plainElem_bool_invN Tryz.underlying4 hv
  rw [hat x hx] at hy
  simp only [Prod.mk.injEq, DataW.lit.injEq, Lit.bool.injEq] at hy
  rw [hrun, hy.1]
theorem plm_store {w : World} {b n : Nat} {S : N6 → Bool} (h : PlM K w b n S) (hn : n < maxLen) {x : N6} (hx : wfN x) :
    ∃ w', (Instr.mapUpdate T (.map (some b)) (plV x) (.bool true)).run Tryz.prog w = .ok () w' ∧ PlM K w' b (n + 1) (fun y => S y || plcB x y) ∧ w.mapTurned w' b := by
  obtain ⟨D, ho, hat⟩ := h
  obtain ⟨w', hrun, ho', htn⟩ := ho.store (Keyed.of_law law) ht hn (hkey hx) (plainElem_bool Tryz.underlying4 true)
  refine ⟨w', hrun, ⟨_, ho', fun y hy => ?_⟩, htn⟩
  cases e : plcB x y
  · rw [atKey_put_other (by intro h'; have := plL_inj hx hy h'.symm; rw [e] at this; cases this), hat y hy]
    simp [e]
  · rw [← plL_eq e, atKey_put_same ho.isMap (by trivial)]
    simp [e]
end
theorem pl_look {w : World} {b n : Nat} {S : N6 → Bool} (h : PlM 138 w b n S) {x : N6} (hx : wfN x) : (Instr.lookup 140 (.map (some b)) (plV x) false).run Tryz.prog w = .ok (.bool (S x)) w := plm_look law_place key_place Tryz.underlying140 h hx
theorem pl_store {w : World} {b n : Nat} {S : N6 → Bool} (h : PlM 138 w b n S) (hn : n < maxLen) {x : N6} (hx : wfN x) :
    ∃ w', (Instr.mapUpdate 140 (.map (some b)) (plV x) (.bool true)).run Tryz.prog w = .ok () w' ∧ PlM 138 w' b (n + 1) (fun y => S y || plcB x y) ∧ w.mapTurned w' b := plm_store law_place key_place Tryz.underlying140 h hn hx
end Go.Proofs.YteabkcbajpjkoaaGreat
