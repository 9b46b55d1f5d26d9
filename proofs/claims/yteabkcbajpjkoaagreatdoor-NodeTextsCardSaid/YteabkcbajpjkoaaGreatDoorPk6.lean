/- Walk: the nodes that own a cell, of the program. Walks: the notes that are due, as the program's iterator yields them. Walk: the notes that are due, of the reference. Walks: the notes that an iterator yields, as a list. Walks: Due, of the program and of the reference; equal notes. -/
import Derived.Test.YteabkcbajpjkoaaGreatDoorPk2
import Derived.Test.YteabkcbajpjkoaaGreatDoorShelf
import Derived.Lib.OwnBridge
import Derived.Test.YteabkcbajpjkoaaGreatDoorPk3
import Derived.LoopIn
import Derived.Sort.CutIn
import Derived.LoopNIn
import Derived.TacticsInMore
import Derived.Shelf.Abstract
import Derived.RangeFuncLeaves
import Derived.Maps.OwnIn
import Derived.Test.YteabkcbajpjkoaaGreatDoorPk5
import Derived.Deep.AppendLies
namespace Go.Proofs.YteabkcbajpjkoaaGreatDoor
open Go Go.RowKit Go.Sort
set_option linter.unusedVariables false
theorem below_grow (w : World) (os : Array Obj) : Below w.heap.size w (grow w os) :=
  ⟨rfl, rfl, rfl, by simp [grow], fun k hk => heap_grow_old w os hk⟩
theorem ownersL_length (o : Nat → Int) (n : Nat) : (ownersL o n).length = n := by simp [ownersL]
theorem ownersL_get (o : Nat → Int) (n k : Nat) (h : k < n) : (ownersL o n).getD k 0 = o k := by simp [ownersL, List.getD_eq_getElem?_getD, h]
theorem sort_pairwise (zs : List Int) : (zs.mergeSort fun x y => decide (x ≤ y)).Pairwise (· ≤ ·) := by
  have h := List.pairwise_mergeSort (le := fun x y : Int => decide (x ≤ y)) (fun a b c h1 h2 => by simp at *; omega) (fun a b => by simp; omega) zs
  exact h.imp (fun h => by simpa using h)
set_option maxRecDepth 100000 in
set_option maxHeartbeats 2000000 in
theorem node_nodes (W H : Int) (a ao : Option Addr) (n c no co : Nat) (o : Nat → Int) (w : World) (h0 : 0 < no) (hno : no ≤ 4096) (ho : ∀ k, k < no → 0 ≤ o k ∧ o k ≤ 7) (HO : Sl w ao no o) :
    Calls Tryz.prog 24 #[.agg (cluV W H a ao n c no co)] w fun e w' => ∃ v, e = .returned v ∧ w'.ownsRow w.heap.size 3 1 v (nodeL o no 8).length ((nodeL o no 8).map vInt) ∧ Below w.heap.size w w' := by
  unfold cluV
  obtain ⟨b, off, rfl, hb, _⟩ := HO 0 h0
  have J := HO.alloc (.cells #[.int .i64 W, .int .i64 H, .slice a n c, .slice (some ⟨b, off, none⟩) no co] 61)
  have hcl := fun (W' : World) (hJ : Sl W' (some ⟨b, off, none⟩) no o) => Tryz.slices_Clone_int b off no co (ownersL o no) W' (by rw [ownersL_length]; exact Nat.le_refl _) (by omega) (fun j hj => by
    rw [ownersL_length] at hj
    obtain ⟨b', off', e, _, hc⟩ := hJ j hj
    injection e with e; injection e with e1 e2 _
    subst e1 e2
    rw [ownersL_get _ _ _ hj]; exact hc)
  have hcl' := hcl _ J
  clear hcl
  go_enter Tryz.func24, Tryz.ntmps24
  go_wp2_with fail
  refine hcl'.mono ?_
  rintro e w1 ⟨v1, rfl, hown1, hv1, hb1⟩
  clear hcl'
  have ht : (ownersL o no).take no = ownersL o no := List.take_of_length_le (by rw [ownersL_length]; exact Nat.le_refl _)
  rw [ht] at hown1
  clear ht
  obtain ⟨g, cap, rfl, hg1, hg2, hcap, hcm, _, hH1⟩ := Lib.holds_of_ownsRow hown1 hv1
  have hso := Tryz.slices_Sort_int g 0 cap (ownersL o no) w1 hH1 hg2 (by rw [ownersL_length]; omega)
  rw [ownersL_length] at hso
  obtain ⟨ys, hys⟩ : ∃ ys, ys = (ownersL o no).mergeSort (fun x y => decide (x ≤ y)) := ⟨_, rfl⟩
  have hyl : ys.length = no := by rw [hys, List.length_mergeSort, ownersL_length]
  have hyp : ys.Perm (ownersL o no) := by rw [hys]; exact List.mergeSort_perm _ _
  have hyo : ys.Pairwise (· ≤ ·) := by rw [hys]; exact sort_pairwise _
  rw [← hys] at hso
  have hcomp := nodes_of ho hyp hyo
  have HC := hid hcomp
  clear hys hcomp hyp hyo
  have HYL := hid hyl; clear hyl
  go_wp2_with fail
  refine hso.mono ?_
  rintro e w2 ⟨rfl, q, os, hw2⟩
  clear hso
  have hown2 : w2.ownsRow (w.heap.size + 1) 3 1 (.slice (some ⟨g, 0, none⟩) no cap) no (ys.map (Value.int .i64)) := by
    have h := Lib.ownsRow_putRow (q := q) (k := no) hown1 HYL.out (Nat.le_refl _)
    rw [List.take_of_length_le (by rw [HYL.out]; exact Nat.le_refl _)] at h
    rw [hw2]
    have h2 := own_below h (below_grow _ os)
    simpa using h2
  have hbb : Below w.heap.size w w2 := by
    rw [hw2]
    have h := Lib.below_putRow (enc := Value.int .i64) (q := q) (d := ys.toArray) (bvia (below_alloc w _) hb1) (show w.heap.size ≤ g by simp at hg1; omega)
    exact bvia h (below_grow _ os)
  clear hw2 hown1 hH1 hb1 J
  obtain ⟨g', cap', hv2, hg1', hg2', hcap', _, _, hH2⟩ := Lib.holds_of_ownsRow hown2 (fun h => by injection h with h; cases h)
  injection hv2 with e1 e2 e3
  injection e1 with e1; injection e1 with e1
  subst e1 e3
  have hco := Tryz.slices_Compact_int g 0 cap ys w2 hH2 (by rw [HYL.out]; omega) (by rw [HYL.out]; exact hcap)
  rw [HYL.out] at hco
  clear e2
  obtain ⟨zs, hzs⟩ : ∃ zs, zs = Lib.compact ys := ⟨_, rfl⟩
  have hzl : zs.length ≤ no := by rw [hzs, ← HYL.out]; exact Lib.compact_length_le ys
  rw [← hzs] at hco
  have HZ : Hid (zs = nodeL o no 8) := hid (by rw [hzs]; exact HC.out)
  clear hzs
  go_wp2_with fail
  refine hco.mono ?_
  rintro e w3 ⟨rfl, q2, hw3⟩
  clear hco
  have hown3 : w3.ownsRow (w.heap.size + 1) 3 1 (.slice (some ⟨g, 0, none⟩) zs.length cap) zs.length (zs.map (Value.int .i64)) := by
    have h := Lib.ownsRow_putRow (q := q2) (k := zs.length) (ys := zs ++ List.replicate (no - zs.length) 0) hown2 (by simp; omega) hzl
    rw [List.take_left] at h
    rw [hw3]
    exact h
  have hb3 : Below w.heap.size w w3 := by
    rw [hw3]
    exact Lib.below_putRow hbb (by omega)
  clear hw3
  go_wp2
  go_ret
  rw [← HZ.out]
  exact ⟨_, rfl, own_mono hown3 (by omega), hb3⟩
end Go.Proofs.YteabkcbajpjkoaaGreatDoor
namespace Go.Proofs.YteabkcbajpjkoaaGreatDoor
open Go Go.RowKit
attribute [local go_sem] Oper.semAt_some
set_option linter.unusedVariables false
def encN (x : N6) : Array Value := #[.agg #[.int .i64 x.st, .int .i64 x.fr, .int .i64 x.to, .int .i64 x.ce, .int .i64 x.di, .int .i64 x.co]]
theorem dueC_pre (W H : Nat) (o : Nat → Int) (nd st : Int) (i d : Nat) : ∀ m, d ≤ m → dueC W H o nd st i d <+: dueC W H o nd st i m
  | 0, h => by rw [show d = 0 from by omega]; exact List.prefix_refl _
  | m + 1, h => by
    rcases Nat.lt_or_ge d (m + 1) with h' | h'
    · refine (dueC_pre W H o nd st i d m (by omega)).trans ?_
      simp only [dueC]
      split
      · exact List.prefix_refl _
      · exact List.prefix_append _ _
    · rw [show d = m + 1 from by omega]; exact List.prefix_refl _
theorem dueO_pre (W H : Nat) (o : Nat → Int) (nd st : Int) (l m : List Int) (h : l <+: m) : dueO W H o nd st l <+: dueO W H o nd st m := by
  obtain ⟨t, rfl⟩ := h
  simp only [dueO, List.flatMap_append]
  exact List.prefix_append _ _
theorem take_getD {l : List Int} {k : Nat} (h : k < l.length) : l.take (k + 1) = l.take k ++ [l.getD k 0] := by
  rw [List.take_succ_eq_append_getElem h, List.getD_eq_getElem?_getD, List.getElem?_eq_getElem h]; rfl
theorem own_at {o : Nat → Int} {nd : Int} {n k : Nat} (h : k < (ownL o nd n).length) : ∃ i : Nat, i < n ∧ (ownL o nd n).getD k 0 = i ∧ o i = nd := by
  refine ownL_mem.1 ?_
  rw [List.getD_eq_getElem?_getD, List.getElem?_eq_getElem h]
  exact List.getElem_mem _
theorem own_butN {C : Nat → Prop} {X Y : World} {base : Nat} {e : TypeId} {size n : Nat} {v : Value} {xs : List Value} (h : X.ownsRow base e size v n xs) (hb : But C X Y) (hne : ∀ g, v.ownBlock = some g → ¬ C g) : Y.ownsRow base e size v n xs := by
  refine ⟨h.1, ?_⟩
  rcases h.2 with h' | ⟨g, cap, cur, rfl, hbs, hh, rest⟩
  · exact .inl h'
  · refine .inr ⟨g, cap, cur, rfl, hbs, ?_, rest⟩
    rw [hb.block g (own_lt h g rfl) (hne g rfl)]
    exact hh
theorem node_due (W H : Int) (a ao : Option Addr) (n c no co : Nat) (nd st : Int) (w : World) :
    Calls Tryz.prog 25 #[.agg (cluV W H a ao n c no co), .int .i64 nd, .int .i64 st] w fun e w' => ∃ bc bn bs, e = .returned (.func (.func 41) #[] #[.pointer (some ⟨bc, 0, none⟩), .pointer (some ⟨bn, 0, none⟩), .pointer (some ⟨bs, 0, none⟩)]) ∧
      Bx w' bc (cluV W H a ao n c no co) ∧ Bx w' bn #[.int .i64 nd] ∧ Bx w' bs #[.int .i64 st] ∧ (w.heap.size ≤ bc ∧ w.heap.size ≤ bn ∧ w.heap.size ≤ bs) ∧ Below w.heap.size w w' := by
  unfold cluV
  have X0 := ((Bx.new w #[.int .i64 W, .int .i64 H, .slice a n c, .slice ao no co] 61).alloc (.cells #[.int .i64 nd] 3)).alloc (.cells #[.int .i64 st] 3)
  have X1 := (Bx.new (w.alloc (.cells #[.int .i64 W, .int .i64 H, .slice a n c, .slice ao no co] 61)) #[.int .i64 nd] 3).alloc (.cells #[.int .i64 st] 3)
  have X2 := Bx.new ((w.alloc (.cells #[.int .i64 W, .int .i64 H, .slice a n c, .slice ao no co] 61)).alloc (.cells #[.int .i64 nd] 3)) #[.int .i64 st] 3
  simp only [World.size_alloc] at X1 X2
  have hB0 : Below w.heap.size w (((w.alloc (.cells #[.int .i64 W, .int .i64 H, .slice a n c, .slice ao no co] 61)).alloc (.cells #[.int .i64 nd] 3)).alloc (.cells #[.int .i64 st] 3)) := by (repeat' (first | with_reducible assumption | with_reducible exact Below.refl _ _ | with_reducible refine Below.drew ?_ | with_reducible refine below_drewN ?_ _ | with_reducible refine balloc ?_ _ | with_reducible refine bset ?_ ?_ _ | with_reducible refine Below.setCell ?_ ?_ _ | with_reducible refine Below.alloc ?_ ?_ _ | omega | (simp; done) | (simp; omega)))
  go_enter Tryz.func25, Tryz.ntmps25
  go_wp2_with fail
  generalize (((w.alloc (.cells #[.int .i64 W, .int .i64 H, .slice a n c, .slice ao no co] 61)).alloc (.cells #[.int .i64 nd] 3)).alloc (.cells #[.int .i64 st] 3)) = W0 at X0 X1 X2 hB0 ⊢
  have z0 := X0.lt
  have z1 := X1.lt
  have z2 := X2.lt
  go_ret
  exact ⟨_, _, _, rfl, X0, X1, X2, ⟨by omega, by omega, by omega⟩, hB0⟩
theorem ent_due : ∀ args w, (callFunc 41 args).run Tryz.prog w = .ok (.enter 41 args) w := Go.Proofs.enters_of Tryz.func41 (by kernel_rfl) rfl
/-- what the iterator reads of its own boxes -/
def DueRd (cv : Array Value) (nd st : Int) (bc bn bs : Nat) (X : World) : Prop := Bx X bc cv ∧ Bx X bn #[.int .i64 nd] ∧ Bx X bs #[.int .i64 st]
set_option maxRecDepth 100000 in
set_option maxHeartbeats 4000000 in
theorem due_iterR (Wd Hd : Nat) (a ao : Option Addr) (n c no co : Nat) (o : Nat → Int) (nd st : Int) (bc bn bs : Nat) (w₀ : World) (h1 : 1 ≤ Wd ∧ Wd ≤ 64) (h2 : 1 ≤ Hd ∧ Hd ≤ 64) (hno : no = Wd * Hd) (HO : Sl w₀ ao no o) :
    IterR Tryz.prog 41 #[.pointer (some ⟨bc, 0, none⟩), .pointer (some ⟨bn, 0, none⟩), .pointer (some ⟨bs, 0, none⟩)] encN (dueL Wd Hd o nd st no) w₀ (DueRd (cluV Wd Hd a ao n c no co) nd st bc bn bs) := by
  intro l J Jx C₀ W hR0 hW hC hJ hJx hY h0
  have hs0 := hW.size
  have hno4 : no ≤ 4096 := by
    have : Wd * Hd ≤ 64 * 64 := Nat.mul_le_mul h1.2 h2.2
    omega
  have HNO := hid hno; clear hno
  rw [← dueO_own] at hY ⊢
  have hC0 := hC [] C₀ W h0
  unfold cluV at hR0
  obtain ⟨Yc, Yn, _⟩ := hR0 _ _ _ h0
  have c0 := Yc.at_ 0 rfl; have c1 := Yc.at_ 1 rfl; have c2 := Yc.at_ 2 rfl; have c3 := Yc.at_ 3 rfl; have cn := Yn.at_ 0 rfl; have lc := Yc.lt; have ln := Yn.lt
  have hcall := node_owned (Wd : Int) (Hd : Int) a ao n c no co o nd W (by omega) (HO.below hW)
  unfold cluV at hcall
  refine callsIn_wide.1 (callsIn_of_wp (F := Fence.wide) (n := 0) Tryz.func41 rfl trivial ?_)
  simp only [Tryz.ntmps41, List.size_toArray, List.length_cons, List.length_nil, Nat.reduceAdd, Nat.reduceSub, Array.replicate_succ, Array.replicate_zero, List.push_toArray, List.append_toArray, List.nil_append, List.cons_append]
  gi_wp2_with fail
  refine ⟨trivial, rfl, callsIn_wide.2 (hcall.mono ?_)⟩
  rintro e w1 ⟨v, rfl, hown, hb1⟩
  obtain ⟨av, cv, hv, _⟩ := sl_of_own hown
  obtain ⟨L, hL⟩ : ∃ L, L = ownL o nd no := ⟨_, rfl⟩
  have hLn : L.length ≤ no := by rw [hL]; exact ownL_length _ _ _
  have hLa : ∀ k, k < L.length → ∃ i : Nat, i < no ∧ L.getD k 0 = i ∧ o i = nd := fun k hk => by rw [hL] at hk ⊢; exact own_at hk
  have HLA := hid hLa; clear hLa
  rw [← hL] at hown hY hv
  have HL := hid hL; clear hL
  subst hv
  have hj1 : J (dueO Wd Hd o nd st (L.take 0)) C₀ w1 := hJ _ _ _ _ h0 (but_below hb1 (Nat.le_refl _))
  have hne0 : ∀ g, (Value.slice av L.length cv).ownBlock = some g → ¬ C₀ g := fun g hg hc => by have := own_base hown g hg; have := (hC0 g hc).2; omega
  have hB1 : Below w₀.heap.size w₀ w1 := hW.trans (hb1.mono hs0)
  have hs1 := hb1.size
  clear c0 c1 c2 c3 cn
  gi_wp2_with fail
  gi_loopw [13] (fun i wr => ∃ k : Nat, k ≤ L.length ∧ i = .int .i64 k ∧ wr.ownsRow W.heap.size 3 1 (.slice av L.length cv) L.length (L.map vInt) ∧ ∃ C, J (dueO Wd Hd o nd st (L.take k)) C wr ∧ But C₀ W wr ∧ Grw C₀ C W ∧ Below w₀.heap.size w₀ wr ∧ W.heap.size ≤ wr.heap.size ∧ (∀ g, (Value.slice av L.length cv).ownBlock = some g → ¬ C g)) (fun i _ => L.length - (intOf i).toNat)
  case atStart => exact ⟨0, Nat.zero_le _, rfl, hown, C₀, hj1, but_below hb1 (Nat.le_refl _), Grw.refl _ _, hB1, hs1, hne0⟩
  case round =>
    obtain ⟨wo, rfl⟩ : ∃ wo : World, wo = wr := ⟨_, rfl⟩
    obtain ⟨k, hk, rfl, hown, C, hj, hbut, hg, hB, hz, hne⟩ := hrel
    by_cases hlt : k < L.length
    · obtain ⟨i, hi, hLk, hoi⟩ := HLA.out k hlt
      have HOI := hid hoi; clear hoi
      have hT : dueO Wd Hd o nd st (L.take (k + 1)) = dueO Wd Hd o nd st (L.take k) ++ dueC Wd Hd o nd st i 4 := by
        rw [take_getD hlt, dueO_snoc, hLk]; rfl
      have hTp : dueO Wd Hd o nd st (L.take (k + 1)) <+: dueO Wd Hd o nd st L := dueO_pre _ _ _ _ _ _ _ (List.take_prefix _ _)
      have HT := hid hT; have HTP := hid hTp
      clear hT hTp
      obtain ⟨av', cv', hv', Sv⟩ := sl_of_own hown
      injection hv' with hv1 hv2 hv3
      subst hv1
      subst hv3
      obtain ⟨bv, ov, rfl, hbv, cv0⟩ := Sv k hlt
      dsimp only at cv0
      rw [hLk] at cv0
      clear hv2 Sv
      have HLK := hid hLk; clear hLk
      gi_wp2_with fail
      clear cv0 hbv
      gi_loopw [17] (fun di wr => ∃ d : Nat, d ≤ 4 ∧ di = .int .i64 d ∧ wr.ownsRow W.heap.size 3 1 (.slice (some ⟨bv, ov, none⟩) L.length cv) L.length (L.map vInt) ∧ ∃ C, J (dueO Wd Hd o nd st (L.take k) ++ dueC Wd Hd o nd st i d) C wr ∧ But C₀ W wr ∧ Grw C₀ C W ∧ Below w₀.heap.size w₀ wr ∧ W.heap.size ≤ wr.heap.size ∧ (∀ g, (Value.slice (some ⟨bv, ov, none⟩) L.length cv).ownBlock = some g → ¬ C g)) (fun di _ => 4 - (intOf di).toNat)
      case atStart => exact ⟨0, Nat.zero_le _, rfl, hown, C, by simpa [dueC] using hj, hbut, hg, hB, hz, hne⟩
      case round =>
        obtain ⟨d, hd, rfl, hown5, C5, hj5, hbut5, hg5, hB5, hz5, hne5⟩ := hrel
        clear hown hj hbut hg hB hz hne
        by_cases hd4 : d < 4
        · have hnb := nbT_lt (W := Wd) (H := Hd) (i := i) (by rw [← HNO.out]; exact hi) hd4
          rw [← HNO.out] at hnb
          have hcf := fun Y => node_from Wd Hd i d a ao n c no co Y h1 h2 (by rw [← HNO.out]; exact hi) hd4
          have hCs : dueC Wd Hd o nd st i (d + 1) = if o (nbT Wd Hd i d) = nd then dueC Wd Hd o nd st i d else dueC Wd Hd o nd st i d ++ [⟨st, o (nbT Wd Hd i d), nd, i, d, 0⟩] := rfl
          have hPr : dueO Wd Hd o nd st (L.take k) ++ dueC Wd Hd o nd st i (d + 1) <+: dueO Wd Hd o nd st L :=
            ((List.prefix_append_right_inj _).2 (dueC_pre Wd Hd o nd st i (d + 1) 4 (by omega))).trans (by rw [← HT.out]; exact HTP.out)
          obtain ⟨bo, oo, rfl, hbo, co0⟩ := (HO.below hB5) (nbT Wd Hd i d) hnb
          unfold cluV at hcf
          obtain ⟨Zc, _, _⟩ := hR0 _ _ _ hj5
          have r0 : ∀ Y, Below wr.heap.size wr Y → Y.cell? ⟨bc, 0, none⟩ = some (.int .i64 (Wd : Int)) := fun Y h => (Zc.below h).at_ 0 rfl
          have r1 : ∀ Y, Below wr.heap.size wr Y → Y.cell? ⟨bc, 1, none⟩ = some (.int .i64 (Hd : Int)) := fun Y h => (Zc.below h).at_ 1 rfl
          have r2 : ∀ Y, Below wr.heap.size wr Y → Y.cell? ⟨bc, 2, none⟩ = some (.slice a n c) := fun Y h => (Zc.below h).at_ 2 rfl
          have r3 : ∀ Y, Below wr.heap.size wr Y → Y.cell? ⟨bc, 3, none⟩ = some (.slice (some ⟨bo, oo, none⟩) no co) := fun Y h => (Zc.below h).at_ 3 rfl
          have ro : ∀ Y, Below wr.heap.size wr Y → Y.cell? ⟨bo, oo + nbT Wd Hd i d, none⟩ = some (.int .i64 (o (nbT Wd Hd i d))) := fun Y h => (bcell h _ _ hbo).trans co0
          clear co0 Zc
          have HCS := hid hCs; clear hCs
          have HPR := hid hPr; clear hPr
          generalize nbT Wd Hd i d = m at *
          obtain ⟨om, hom⟩ : ∃ x, x = o m := ⟨_, rfl⟩
          rw [← hom] at ro
          have HOM := hid hom; clear hom
          gi_upto_region 6 with (fail)
          refine wpIn_wide.2 ?_
          go_region_held3 (fun Y => Below wr.heap.size wr Y) ((repeat' (first | with_reducible assumption | with_reducible exact Below.refl _ _ | with_reducible refine Below.drew ?_ | with_reducible refine below_drewN ?_ _ | with_reducible refine balloc ?_ _ | with_reducible refine bset ?_ ?_ _ | with_reducible refine Below.setCell ?_ ?_ _ | with_reducible refine Below.alloc ?_ ?_ _ | omega | (simp; done) | (simp; omega))))
            ((first
              | (go_at_call 43; refine (hcf _).mono ?_; rintro e w8 ⟨rfl, hb8⟩; have hB8 : Below wr.heap.size wr w8 := bvia (by (repeat' (first | with_reducible assumption | with_reducible exact Below.refl _ _ | with_reducible refine Below.drew ?_ | with_reducible refine below_drewN ?_ _ | with_reducible refine balloc ?_ _ | with_reducible refine bset ?_ ?_ _ | with_reducible refine Below.setCell ?_ ?_ _ | with_reducible refine Below.alloc ?_ ?_ _ | omega | (simp; done) | (simp; omega)))) hb8; have hck := bcell hb8; have hfk := bfrozen hb8; have hzk := hb8.size; (try simp at hzk); (try have hz1k : wr.heap.size < w8.heap.size := (by omega)))
              | fail))
          all_goals
            have hW8 : Below w₀.heap.size w₀ w8 := hB5.trans (hB8.mono hB5.size)
            have hbt8 : ∀ C : Nat → Prop, But C wr w8 := fun C => but_below hB8 (Nat.le_refl _)
            have hj8 := hJ _ _ _ _ hj5 (hbt8 _)
            have hown8 := own_butN hown5 (hbt8 C5) hne5
            have hs8 := hB8.size
            clear r0 r1 r2 r3 ro hcf hck hfk hb8 hb1 hj5 hown5 hj1 hown
            obtain ⟨_, Yn, Ys⟩ := hR0 _ _ _ hj8
            have n0 := Yn.at_ 0 rfl; have s0 := Ys.at_ 0 rfl; have ln := Yn.lt; have ls := Ys.lt
            cases hq : (om != nd)
            · have hq' : om = nd := by simpa using hq
              have HQ := hid hq'; clear hq'
              gi_wp2_with fail
              refine ⟨fun _ h => (by cases h), ?_⟩
              gi_wp2_with fail
              go_roundw
              case rel => exact ⟨d + 1, by omega, by go_num, hown8, C5, by rw [HCS.out, ← HOM.out, if_pos HQ.out]; exact hj8, hbut5.trans (hbt8 _), hg5, hW8, by omega, hne5⟩
              case measure => simp [intOf]; omega
            · have hq' : ¬ om = nd := by simpa using hq
              have HQ := hid hq'; clear hq'
              have hnew : dueC Wd Hd o nd st i (d + 1) = dueC Wd Hd o nd st i d ++ [⟨st, om, nd, i, d, 0⟩] := by rw [HCS.out, ← HOM.out, if_neg HQ.out]
              obtain ⟨fn, tmps, asg, bdy, hy, hR⟩ := hY (dueO Wd Hd o nd st (L.take k) ++ dueC Wd Hd o nd st i d) ⟨st, om, nd, i, d, 0⟩ C5 w8 hj8 hW8 (by rw [List.append_assoc, ← hnew]; exact HPR.out)
              rw [List.append_assoc, ← hnew] at hR
              have HNEW := hid hnew; clear hnew
              dsimp only [encN] at hy
              gi_wp2_with fail
              refine ⟨rfl, hR.mono ?_⟩
              rintro e W4 ⟨C', hbut4, hg4, (⟨rfl, hj4⟩ | ⟨rfl, hj4⟩)⟩
              · have hs4 := hbut4.size
                have hBw4 : Below w₀.heap.size w₀ W4 := hW8.trans ⟨hbut4.os, hbut4.tape, hbut4.output, hbut4.size, fun b hb => hbut4.block b (by have := hW8.size; omega) (fun h => by have := (hC _ _ _ hj8 b h).1; omega)⟩
                gi_wp2_with fail
                go_roundw
                case rel => exact ⟨d + 1, by omega, by go_num, own_butN hown8 hbut4 hne5, C', hj4, (hbut5.trans (hbt8 _)).trans' hbut4 hg5, fun b h => (hg4 b h).elim (hg5 b) (fun h2 => .inr (by omega)), hBw4, by omega, fun g hg hc => (hg4 g hc).elim (hne5 g hg) (fun h2 => by have := own_lt hown8 g hg; omega)⟩
                case measure => simp [intOf]; omega
              · gi_wp2_with fail
                refine bodyPost_ret (results_none rfl _ _ _) rfl ?_
                exact ⟨⟨_, rfl⟩, C', (hbut5.trans (hbt8 _)).trans' hbut4 hg5, fun b h => (hg4 b h).elim (hg5 b) (fun h2 => .inr (by omega)), .inr ⟨_, by rw [← HL.out]; exact HPR.out, hj4⟩⟩
        · obtain rfl : d = 4 := (by omega)
          gi_wp2_with fail
          go_roundw
          case rel => exact ⟨k + 1, by omega, by go_num, hown5, C5, by rw [HT.out]; exact hj5, hbut5, hg5, hB5, hz5, hne5⟩
          case measure => simp [intOf]; omega
    · obtain rfl : k = L.length := (by omega)
      gi_wp2
      go_end0
      rw [List.take_length] at hj
      exact ⟨⟨_, rfl⟩, C, hbut, hg, .inl (by rw [← HL.out]; exact hj)⟩
end Go.Proofs.YteabkcbajpjkoaaGreatDoor
/- Walks: the program's Parse of notes. -/
namespace Go.Proofs.YteabkcbajpjkoaaGreatDoor
open Go Go.RowKit
set_option linter.unusedVariables false
set_option linter.unusedSimpArgs false
def PrsPostN (s : List UInt8) (w : World) (e : Ending) (w' : World) : Prop :=
  ∃ (er ln : Int) (xs : List N6) (a : Option Addr) (c : Nat), PrsRel s er ln xs ∧ e = .returned (.tuple #[.slice a xs.length c, .int .i64 ln, .int .i64 er]) ∧ Sn w' a xs.length (fun k => xs.getD k N6.zero) ∧ Below w.heap.size w w'
theorem prsN_nil {s : List UInt8} {er ln : Int} {w w' : World} (h : PrsRel s er ln []) (hb : Below w.heap.size w w') : PrsPostN s w (.returned (.tuple #[.slice none 0 0, .int .i64 ln, .int .i64 er])) w' :=
  ⟨er, ln, [], none, 0, h, rfl, fun k hk => absurd hk (by simp), hb⟩
/-- what has been read: whole lines, and the rest -/
structure RdN (s : List UInt8) (xs : List N6) (r : List UInt8) : Prop where
  ok : ∀ x ∈ xs, okN x
  ws : wordsL 10 s = xs.map wordsN ++ wordsL 10 r
theorem RdN.len {s : List UInt8} {xs : List N6} {r : List UInt8} (h : RdN s xs r) : xs.length ≤ s.length := by
  have h1 := congrArg List.length h.ws
  have h2 := words_length 10 s
  have h3 : 0 < (wordsL 10 r).length := List.length_pos_iff.2 (wordsL_ne _ _)
  rw [List.length_append, List.length_map] at h1
  omega
theorem RdN.pre {s : List UInt8} {xs : List N6} {r : List UInt8} (h : RdN s xs r) : ∀ k, k < xs.length → lineN ((wordsL 10 s).getD k []) (xs.getD k N6.zero) := fun k hk => by
  have e : xs.getD k N6.zero = xs[k] := by simp [List.getD_eq_getElem?_getD, hk]
  rw [e]
  refine ⟨h.ok _ (List.getElem_mem _), ?_⟩
  rw [h.ws]
  simp [List.getD_eq_getElem?_getD, hk, List.getElem?_append_left]
theorem RdN.at_ {s : List UInt8} {xs : List N6} {r : List UInt8} (h : RdN s xs r) (j : Nat) : (wordsL 10 s).getD (xs.length + j) [] = (wordsL 10 r).getD j [] := by
  rw [h.ws]
  simp [List.getD_eq_getElem?_getD, List.getElem?_append_right]
theorem RdN.done {s : List UInt8} {xs : List N6} (hl : s.length ≤ 65536) (h : RdN s xs []) : PrsRel s 0 0 xs :=
  .inr ⟨hl, .inl ⟨⟨by rw [h.ws]; simp [wordsL], h.pre, by have := h.at_ 0; simpa [wordsL] using this⟩, rfl, rfl⟩⟩
theorem RdN.torn {s : List UInt8} {xs : List N6} {r : List UInt8} (hl : s.length ≤ 65536) (h : RdN s xs r) (h0 : r ≠ []) (hm : ∀ c ∈ r, c ≠ 10) : PrsRel s 2 (xs.length : Int) [] := by
  have hw := words_none hm
  have h1 := congrArg List.length h.ws
  rw [hw] at h1
  simp at h1
  refine .inr ⟨hl, .inr ⟨xs.length, ⟨by omega, fun j hj => ⟨_, h.pre j hj⟩, fun _ => ?_, fun h2 => by omega⟩, rfl, rfl, rfl⟩⟩
  have := h.at_ 0
  rw [hw] at this
  simp only [Nat.add_zero] at this
  rw [this]
  simpa using h0
theorem RdN.bad {s : List UInt8} {xs : List N6} {p t : List UInt8} (hl : s.length ≤ 65536) (h : RdN s xs (p ++ 10 :: t)) (hm : ∀ c ∈ p, c ≠ 10) (hn : ∀ x, ¬ lineN p x) : PrsRel s 2 (xs.length : Int) [] := by
  have hw := words_mark (t := t) hm
  have h1 := congrArg List.length h.ws
  rw [hw] at h1
  simp at h1
  have h3 : 0 < (wordsL 10 t).length := List.length_pos_iff.2 (wordsL_ne _ _)
  refine .inr ⟨hl, .inr ⟨xs.length, ⟨by omega, fun j hj => ⟨_, h.pre j hj⟩, fun h2 => by omega, fun _ x hx => ?_⟩, rfl, rfl, rfl⟩⟩
  have := h.at_ 0
  rw [hw] at this
  simp only [Nat.add_zero] at this
  rw [this] at hx
  exact hn x (by simpa using hx)
theorem RdN.more {s : List UInt8} {xs : List N6} {p t : List UInt8} {x : N6} (h : RdN s xs (p ++ 10 :: t)) (hm : ∀ c ∈ p, c ≠ 10) (hx : lineN p x) : RdN s (xs ++ [x]) t := by
  refine ⟨fun y hy => ?_, ?_⟩
  · rcases List.mem_append.1 hy with h' | h'
    · exact h.ok y h'
    · simp at h'; subst h'; exact hx.1
  · rw [h.ws, words_mark hm, hx.2]; simp
/-- the numbers of a line, as the program reads them -/
def numW (p : List UInt8) (j : Nat) : Int := atoiV ((wordsL 32 p).getD j [])
def noteW (p : List UInt8) : N6 := ⟨numW p 0, numW p 1, numW p 2, numW p 3, numW p 4, numW p 5⟩
theorem noteW_get (p : List UInt8) (j : Nat) (h : j < 6) : (noteW p).get j = numW p j := by
  rcases (by omega : j = 0 ∨ j = 1 ∨ j = 2 ∨ j = 3 ∨ j = 4 ∨ j = 5) with rfl | rfl | rfl | rfl | rfl | rfl <;> rfl
theorem atoiV_itoa {n : Int} (h0 : -9223372036854775808 ≤ n) (h1 : n ≤ 9223372036854775807) : atoiV (Lib.itoa n) = n := by
  unfold atoiV; rw [atoiAll_itoa n h0 h1]
theorem line_words {p : List UInt8} {x : N6} (h : lineN p x) : (wordsL 32 p).length = 6 ∧ noteW p = x := by
  obtain ⟨h1, rfl⟩ := h
  refine ⟨by rw [words_note, itsN_length], N6.ext' fun j hj => ?_⟩
  rw [noteW_get _ _ hj]
  unfold numW
  rw [words_note, itsN_get x hj]
  have := h1 j hj
  exact atoiV_itoa (by omega) (by omega)
theorem ro_six (w : World) (T : TypeId) : Ro (w.alloc (.cells #[.int .i64 0, .int .i64 0, .int .i64 0, .int .i64 0, .int .i64 0, .int .i64 0] T)) w.heap.size 6 (fun _ => 0) := by
  have X := Bx.new w #[.int .i64 0, .int .i64 0, .int .i64 0, .int .i64 0, .int .i64 0, .int .i64 0] T
  refine ⟨X.lt, fun k hk => ?_, X.free⟩
  rcases (by omega : k = 0 ∨ k = 1 ∨ k = 2 ∨ k = 3 ∨ k = 4 ∨ k = 5) with rfl | rfl | rfl | rfl | rfl | rfl
  · exact X.at_ 0 rfl
  · exact X.at_ 1 rfl
  · exact X.at_ 2 rfl
  · exact X.at_ 3 rfl
  · exact X.at_ 4 rfl
  · exact X.at_ 5 rfl
theorem split_sp (s : List UInt8) (w : World) (hs : s.length ≤ 1000000) (HE : EnvS w) : Calls Tryz.prog 12 #[.string ⟨s.toArray⟩, .string ⟨#[32]⟩] w fun e w' => ∃ c, e = .returned (.slice (some ⟨w.heap.size, 0, none⟩) (wordsL 32 s).length c) ∧ Sst w' (some ⟨w.heap.size, 0, none⟩) (wordsL 32 s).length (fun k => (wordsL 32 s).getD k []) ∧ Below w.heap.size w w' := by
  obtain ⟨_, _, m, h3⟩ := HE
  have hz := vStr_size s
  refine (Tryz.strings_Split ⟨s.toArray⟩ ⟨#[32]⟩ m w (by omega) h3 (by decide)).mono ?_
  rintro e w' ⟨rfl, rfl⟩
  have hl := Lib.splitB_all ⟨#[32]⟩ (by decide) 0 _ ⟨s.toArray⟩ rfl
  have hd : (Lib.splitB ⟨#[32]⟩ 0 (Lib.countB ⟨s.toArray⟩ ⟨#[32]⟩) ⟨s.toArray⟩).map (·.data.toList) = wordsL 32 s := (Lib.splitB_data _ _ _ _).trans (split_words 32 s)
  rw [← hl]
  generalize Lib.splitB ⟨#[32]⟩ 0 (Lib.countB ⟨s.toArray⟩ ⟨#[32]⟩) ⟨s.toArray⟩ = xs at *
  have hlen : xs.length = (wordsL 32 s).length := by rw [← hd, List.length_map]
  refine ⟨xs.length, by rw [hlen], fun k hk => ⟨w.heap.size, 0, rfl, by simp, ?_⟩, below_alloc _ _⟩
  have hk' : k < xs.length := by omega
  have := cell_new w (xs.map Value.string).toArray 9 k (.string xs[k]) (by simp [hk'])
  rw [Nat.zero_add]
  refine this.trans ?_
  rw [← hd]
  simp [List.getD_eq_getElem?_getD, hk']
set_option maxRecDepth 100000 in
set_option maxHeartbeats 8000000 in
theorem node_Parse (s : List UInt8) (w : World) (HE : EnvS w) (HT : Lib.TabIs Tryz.prog w "internal/strconv.uint64pow10" .u64 Lib.pow10Tab) : Calls Tryz.prog 5 #[.string ⟨s.toArray⟩] w (PrsPostN s w) := by
  have hsz := vStr_size s
  by_cases hlong : 65536 < s.length
  · have il : (65536 : Int) < (s.length : Int) := by omega
    go_enter Tryz.func5, Tryz.ntmps5
    go_wp2_with fail
    go_ret3
    exact prsN_nil (.inl ⟨hlong, rfl, rfl, rfl⟩) (Below.refl _ _)
  have il : ¬ (65536 : Int) < (s.length : Int) := by omega
  have hl : s.length ≤ 65536 := by omega
  obtain ⟨i0, hi, hz0, hz1, hz2⟩ := info_parts infoN
  go_enter Tryz.func5, Tryz.ntmps5
  go_wp2_with fail
  clear il hlong
  go_loopw [0, 2, 5] (fun t v i wr => ∃ (xs : List N6) (r : List UInt8), t = .string ⟨r.toArray⟩ ∧ i = .int .i64 (xs.length : Int) ∧ OwnN wr w.heap.size v xs ∧ RdN s xs r ∧ r.length ≤ s.length ∧ Below w.heap.size w wr) (fun t _ _ _ => match t with | .string b => b.size | _ => 0)
  case atStart => exact ⟨[], s, rfl, rfl, World.ownsRow_nil .., ⟨fun x hx => by simp at hx, by simp⟩, Nat.le_refl _, Below.refl _ _⟩
  case round =>
    obtain ⟨wo, rfl⟩ : ∃ wo : World, wo = wr := ⟨_, rfl⟩
    obtain ⟨xs, r, rfl, rfl, hown, hrd, hrl, hb⟩ := hrel
    have hsz1 := hb.size
    have hxl := hrd.len
    by_cases h0 : r = []
    · subst h0
      have HP := hid (hrd.done hl)
      obtain ⟨a, c, rfl, S⟩ := sn_of_own hown
      clear hrd hown
      go_wp2_with fail
      go_ret3
      exact ⟨0, 0, xs, a, c, HP.out, rfl, S, hb⟩
    have hz : r.isEmpty = false := by cases r <;> simp_all
    rcases words_cases 10 r with hm | ⟨p, t, rfl, hm⟩
    · have HP := hid (hrd.torn hl h0 hm)
      have hcut := fun W => strings_cut_no r 10 W hm
      clear hrd hm h0
      go_wp2_with fail
      refine (hcut _).mono ?_
      rintro e w1 ⟨rfl, hb1⟩
      have hB1 := balloc (bvia hb hb1) (.cells #[.int .i64 0, .int .i64 0, .int .i64 0, .int .i64 0, .int .i64 0, .int .i64 0] 40)
      have X6 := Bx.new w1 #[.int .i64 0, .int .i64 0, .int .i64 0, .int .i64 0, .int .i64 0, .int .i64 0] 40
      have hsp := fun W HE => split_sp r W (by omega) HE
      go_wp2_with fail
      refine (hsp _ (HE.below hB1)).mono ?_
      rintro e w2 ⟨cw, rfl, SW, hb2⟩
      have hB2 := bvia hB1 hb2
      replace X6 := X6.below hb2
      have x0 := X6.at_ 0 rfl; have x1 := X6.at_ 1 rfl; have x2 := X6.at_ 2 rfl; have x3 := X6.at_ 3 rfl; have x4 := X6.at_ 4 rfl; have x5 := X6.at_ 5 rfl; have lx := X6.lt
      clear hb1 hb2 hB1 SW hcut hsp
      go_wp2_with fail
      refine wp_loop_rounds 1 ?_
      rw [rounds_succ]
      go_wp2_with fail
      go_ret3
      exact prsN_nil HP.out (balloc hB2 _)
    · have hpr : (p ++ 10 :: t).length = p.length + 1 + t.length := by simp; omega
      have hsr := vStr_size (p ++ 10 :: t)
      have hst := vStr_size t
      have hcut := fun W => strings_cut_yes p t 10 W hm (by omega)
      rw [hpr] at hrl hsr
      have HRD := hid hrd; have HM := hid hm
      clear hrd hm h0 hpr
      have hbadL : (∀ x, ¬ lineN p x) → PrsRel s 2 (xs.length : Int) [] := fun h => HRD.out.bad hl HM.out h
      have HBAD := hid hbadL
      clear hbadL
      go_wp2_with fail
      refine (hcut _).mono ?_
      rintro e w1 ⟨rfl, hb1⟩
      have hB1 := balloc (bvia hb hb1) (.cells #[.int .i64 0, .int .i64 0, .int .i64 0, .int .i64 0, .int .i64 0, .int .i64 0] 40)
      have R6 := ro_six w1 40
      have own1 := own_below (own_below hown hb1) (below_alloc w1 (.cells #[.int .i64 0, .int .i64 0, .int .i64 0, .int .i64 0, .int .i64 0, .int .i64 0] 40))
      have hne1 : ∀ g, u2.ownBlock = some g → g < w1.heap.size := own_lt (own_below hown hb1)
      have hsp := fun W HE => split_sp p W (by omega) HE
      have hw1s := hb1.size
      clear hcut hown
      go_wp2_with fail
      refine (hsp _ (HE.below hB1)).mono ?_
      rintro e w2 ⟨cw, rfl, SW, hb2⟩
      have hB2 := bvia hB1 hb2
      have R2 := R6.below hb2
      have own2 := own_below own1 hb2
      have hs12 : w1.heap.size < (w1.alloc (.cells #[.int .i64 0, .int .i64 0, .int .i64 0, .int .i64 0, .int .i64 0, .int .i64 0] 40)).heap.size := by simp
      obtain ⟨bw, hbw⟩ : ∃ bw, bw = (w1.alloc (.cells #[.int .i64 0, .int .i64 0, .int .i64 0, .int .i64 0, .int .i64 0, .int .i64 0] 40)).heap.size := ⟨_, rfl⟩
      have hbn : w1.heap.size < bw := by rw [hbw]; exact hs12
      rw [← hbw] at SW ⊢
      have hs2 := hb2.size
      rw [← hbw] at hs2
      clear hbw hs12 R6 own1 hB1 hb2 hsp
      by_cases h6 : (wordsL 32 p).length = 6
      rotate_left
      · have HP := hid (HBAD.out fun x hx => h6 (line_words hx).1)
        have h6i : (((wordsL 32 p).length : Int) == 6) = false := by rw [beq_eq_false_iff_ne]; omega
        have x0 := R2.cells 0 (by omega); have x1 := R2.cells 1 (by omega); have x2 := R2.cells 2 (by omega); have x3 := R2.cells 3 (by omega); have x4 := R2.cells 4 (by omega); have x5 := R2.cells 5 (by omega); have lx := R2.lt
        generalize (wordsL 32 p).length = n at *
        clear SW HBAD HRD HM h6
        go_wp2_with fail
        refine wp_loop_rounds 1 ?_
        rw [rounds_succ]
        go_wp2_with fail
        go_ret3
        exact prsN_nil HP.out (balloc hB2 _)
      rw [h6] at SW ⊢
      have HF0 := hid (noteW_get p)
      have HLW := hid (fun x => line_words (p := p) (x := x))
      have hat : ∀ j, j < 6 → atoiV ((wordsL 32 p).getD j []) = numW p j := fun j hj => rfl
      have hln : ∀ j, j < 6 → ((wordsL 32 p).getD j []).length ≤ 1000000 := fun j hj => by
        have hm2 : (wordsL 32 p).getD j [] ∈ wordsL 32 p := by
          rw [List.getD_eq_getElem?_getD, List.getElem?_eq_getElem (by omega)]; exact List.getElem_mem _
        have := words_le hm2
        omega
      have HAT := hid hat; have HLN := hid hln
      obtain ⟨Q, hQ⟩ : ∃ Q, (fun k => (wordsL 32 p).getD k []) = Q := ⟨_, rfl⟩
      have hQ2 : ∀ j, (wordsL 32 p).getD j [] = Q j := fun j => by rw [← hQ]
      rw [hQ] at SW
      simp only [hQ2] at HAT HLN
      obtain ⟨F, hF⟩ : ∃ F, numW p = F := ⟨_, rfl⟩
      rw [hF] at HAT HF0
      have HF := hid hF
      clear hat hln hQ2 hQ h6 hF
      have hB2s := hB2.size
      have RF : Ro w2 w1.heap.size 6 (rowTo F 0) := by rw [rowTo_zero]; exact R2
      clear R2
      generalize w1.heap.size = b at *
      go_wp2_with fail
      go_loopw [11, 12] (fun o j wr => ∃ (k : Nat) (ok : Bool), k ≤ 6 ∧ o = .bool ok ∧ j = .int .i64 (k : Int) ∧ Ro wr b 6 (rowTo F k) ∧ (ok = true → ∀ i, i < k → 0 ≤ F i ∧ F i ≤ 1000000000) ∧ (ok = false → ∃ i, i < 6 ∧ ¬ (0 ≤ F i ∧ F i ≤ 1000000000)) ∧ But (fun q => q = b) w2 wr) (fun _ j _ => 6 - (intOf j).toNat)
      case atStart => exact ⟨0, true, Nat.zero_le _, rfl, rfl, RF, fun _ i hi => by omega, (fun h => by cases h), But.refl _ _⟩
      case round =>
        clear RF
        obtain ⟨k, ok, hk, rfl, rfl, R, hT1, hT2, hU⟩ := hrel
        have HT1 := hid hT1; have HT2 := hid hT2
        clear hT1 hT2
        have hUs := hU.size
        cases ok
        · have hnl : ∀ x, ¬ lineN p x := fun x hx => by
            obtain ⟨i, hi, hni⟩ := HT2.out rfl
            have h1 := HF0.out i hi
            rw [(HLW.out x hx).2] at h1
            rw [← h1] at hni
            exact hni (hx.1 i hi)
          have HP := hid (HBAD.out hnl)
          obtain ⟨G, hG⟩ : ∃ G, rowTo F k = G := ⟨_, rfl⟩
          rw [hG] at R
          clear hG hnl
          have x0 := R.cells 0 (by omega); have x1 := R.cells 1 (by omega); have x2 := R.cells 2 (by omega); have x3 := R.cells 3 (by omega); have x4 := R.cells 4 (by omega); have x5 := R.cells 5 (by omega); have lx := R.lt
          generalize G 0 = g0 at *; generalize G 1 = g1 at *; generalize G 2 = g2 at *; generalize G 3 = g3 at *; generalize G 4 = g4 at *; generalize G 5 = g5 at *
          have hBr : Below w.heap.size w wr := hB2.trans ⟨hU.os, hU.tape, hU.output, hU.size, fun q hq => hU.block q (by omega) (by omega)⟩
          go_wp2_with fail
          go_ret3
          exact prsN_nil HP.out (balloc hBr _)
        by_cases hlt : k < 6
        · have k6 : (k : Int) < 6 := by omega
          obtain ⟨b', o', e1, hbb, hc⟩ := SW k hlt
          injection e1 with e1; injection e1 with e1 e2 _
          subst e1
          subst e2
          have hcw : wr.cell? ⟨bw, 0 + k, none⟩ = some (.string ⟨(Q k).toArray⟩) := (World.cell?_of_block (hU.block bw hbb (by omega))).trans hc
          rw [Nat.zero_add] at hcw
          have hBr : Below w.heap.size w wr := hB2.trans ⟨hU.os, hU.tape, hU.output, hU.size, fun q hq => hU.block q (by omega) (by omega)⟩
          have hato := fun W HE => atoi_calls (Q k) W (HLN.out k hlt) HE
          rw [HAT.out k hlt] at hato
          obtain ⟨y, hy⟩ : ∃ y, F k = y := ⟨_, rfl⟩
          simp only [hy] at hato
          have HY := hid hy
          have r0 := R.cells k hlt; have rf := R.free; have rl := R.lt
          generalize hrk : rowTo F k k = rk at r0
          have hwi := fun W => node_within y 0 1000000000 W
          have hrs := hid (rowTo_succ F k)
          clear hy hrk hc
          go_wp2_with fail
          refine (hato _ (HE.below hBr)).mono ?_
          rintro e w5 ⟨ev, rfl, hb5⟩
          have R5 := R.below hb5
          have r5 := R5.cells k hlt; have rf5 := R5.free; have rl5 := R5.lt
          have hU5 : But (fun q => q = b) w2 w5 := hU.trans ⟨hb5.os, hb5.tape, hb5.output, hb5.size, fun q hq _ => hb5.block q hq⟩
          have R7 := R5.set_ k y
          have hU7 := But.set_ hU5 (p := ⟨b, k, none⟩) rfl (.int .i64 y)
          clear r0 rf rl hato
          have q7 := R7.cells k hlt
          rw [show upd (rowTo F k) k y k = y by simp [upd]] at q7
          go_wp2_with fail
          refine (hwi _).mono ?_
          rintro e w6 ⟨rfl, rfl⟩
          dsimp only
          go_wp2_with fail
          go_roundw
          case rel => exact ⟨k + 1, within y 0 1000000000, by omega, rfl, by go_num, (by rw [hrs.out, HY.out]; exact R7), (fun h i hi => by
            rcases Nat.lt_succ_iff_lt_or_eq.1 hi with h' | rfl
            · exact HT1.out (by first | rfl | trivial) i h'
            · rw [HY.out]; exact (within_iff _ _ _).1 h), (fun h => ⟨k, hlt, fun h2 => by
              rw [HY.out] at h2
              rw [(within_iff _ _ _).2 h2] at h
              cases h⟩), hU7⟩
          case measure => simp [intOf]; omega
        · obtain rfl : k = 6 := by omega
          have hBr : Below w.heap.size w wr := hB2.trans ⟨hU.os, hU.tape, hU.output, hU.size, fun q hq => hU.block q (by omega) (by omega)⟩
          have R' := R.congr (g := F) fun k hk => by simp [rowTo, hk]
          have hokx : okN (noteW p) := fun j hj => by rw [HF0.out j hj]; exact HT1.out rfl j hj
          have hFn : ∀ j, j < 6 → F j = (noteW p).get j := fun j hj => (HF0.out j hj).symm
          have HLX := hid (fun x (hx : lineN p x) => (HLW.out x hx).2)
          obtain ⟨x, hx⟩ : ∃ x, noteW p = x := ⟨_, rfl⟩
          rw [hx] at hokx HLX
          simp only [hx] at hFn
          have x0 := R'.cells 0 (by omega); have x1 := R'.cells 1 (by omega); have x2 := R'.cells 2 (by omega); have x3 := R'.cells 3 (by omega); have x4 := R'.cells 4 (by omega); have x5 := R'.cells 5 (by omega); have lx := R'.lt
          rw [hFn 0 (by omega)] at x0; rw [hFn 1 (by omega)] at x1; rw [hFn 2 (by omega)] at x2; rw [hFn 3 (by omega)] at x3; rw [hFn 4 (by omega)] at x4; rw [hFn 5 (by omega)] at x5
          simp only [N6.get] at x0 x1 x2 x3 x4 x5
          have HOK := hid hokx
          have hwo := fun W HT => node_words x W (okN_wf hokx) HT
          have ownr : OwnN wr w.heap.size u2 xs := by
            refine own_butN own2 hU fun g hg => ?_
            have := hne1 g hg
            omega
          clear hFn hx hokx R R'
          have hB3 := balloc hBr (.cells #[.int .i64 x.st, .int .i64 x.fr, .int .i64 x.to, .int .i64 x.ce, .int .i64 x.di, .int .i64 x.co] 30)
          have X13 := Bx.new wr #[.int .i64 x.st, .int .i64 x.fr, .int .i64 x.to, .int .i64 x.ce, .int .i64 x.di, .int .i64 x.co] 30
          have own3 := own_below ownr (below_alloc wr (.cells #[.int .i64 x.st, .int .i64 x.fr, .int .i64 x.to, .int .i64 x.ce, .int .i64 x.di, .int .i64 x.co] 30))
          have HWO := hid (wordsN_le (okN_wf HOK.out))
          by_cases hpx : wordsN x = p
          · have HPX := hid hpx
            clear hpx
            obtain ⟨T, hT⟩ : ∃ T, wordsN x = T := ⟨_, rfl⟩
            rw [hT] at HPX HWO
            simp only [hT] at hwo
            have q1 : (T == p) = true := by rw [HPX.out]; exact beq_self_eq_true p
            have q2 : (T != p) = false := by rw [HPX.out]; simp
            have HTT := hid hT
            clear hT
            go_wp2_with fail
            refine (hwo _ (tab_below HT hB3)).mono ?_
            rintro e w6 ⟨rfl, hb6⟩
            have hB6 := bvia hB3 hb6
            have own6 := own_below own3 hb6
            replace X13 := X13.below hb6
            clear x0 x1 x2 x3 x4 x5 lx
            have x0 := X13.at_ 0 rfl; have x1 := X13.at_ 1 rfl; have x2 := X13.at_ 2 rfl; have x3 := X13.at_ 3 rfl; have x4 := X13.at_ 4 rfl; have x5 := X13.at_ 5 rfl; have lx := X13.lt
            have hs6 := hB6.size
            have own7 : w6.ownsRow w.heap.size 30 6 u2 xs.length (flatN xs) := own6
            go_wp2_with (at_builtin; go_loud ( refine wpList_append_own _ rfl _ _ 22 rfl w.heap.size 30 i0 _ 6 48 Tryz.underlying22 hi hz0 hz1 hz2 rfl (by decide) _ _ _ rfl (own7.alloc _) ⟨w6.heap.size, 0, none⟩ 1 1 (N6.list x) rfl rfl (cells_new _ _ _) (n6_one _) (by simp [maxLen]; omega) (by omega) (by simp; omega) ?_); intro v' w9 hown' hgrow _)
            go_roundw
            case rel => exact ⟨xs ++ [x], t, rfl, by simp, ownN_snoc hown', HRD.out.more HM.out ⟨HOK.out, by rw [HTT.out, HPX.out]⟩, by omega, (balloc hB6 _).grown hgrow (by (try simp); omega) (own_base own6)⟩
            case measure => simp; omega
          · have HPX := hid hpx
            clear hpx
            have hnl : ∀ y, ¬ lineN p y := fun y hy => by
              have e := HLX.out y hy
              subst e
              exact HPX.out hy.2.symm
            have HP := hid (HBAD.out hnl)
            obtain ⟨T, hT⟩ : ∃ T, wordsN x = T := ⟨_, rfl⟩
            rw [hT] at HPX
            simp only [hT] at hwo
            have q1 : (T == p) = false := beq_eq_false_iff_ne.2 HPX.out
            have q2 : (T != p) = true := by simp [bne, q1]
            clear hT hnl
            go_wp2_with fail
            refine (hwo _ (tab_below HT hB3)).mono ?_
            rintro e w6 ⟨rfl, hb6⟩
            go_wp2_with fail
            go_ret3
            exact prsN_nil HP.out (bvia hB3 hb6)
end Go.Proofs.YteabkcbajpjkoaaGreatDoor
/- Walks: the reference's Parse of notes. -/
namespace Go.Proofs.YteabkcbajpjkoaaGreatDoor
open Go Go.RowKit
set_option linter.unusedVariables false
set_option linter.unusedSimpArgs false
/-- the first k lines are notes -/
def RdL (s : List UInt8) (xs : List N6) : Prop := ∀ k, k < xs.length → lineN ((wordsL 10 s).getD k []) (xs.getD k N6.zero)
theorem RdL.more {s : List UInt8} {xs : List N6} {x : N6} (h : RdL s xs) (hx : lineN ((wordsL 10 s).getD xs.length []) x) : RdL s (xs ++ [x]) := fun k hk => by
  rw [List.length_append, List.length_singleton] at hk
  rcases Nat.lt_succ_iff_lt_or_eq.1 hk with h' | rfl
  · rw [show (xs ++ [x]).getD k N6.zero = xs.getD k N6.zero by simp [List.getD_eq_getElem?_getD, List.getElem?_append_left h']]
    exact h k h'
  · rw [show (xs ++ [x]).getD xs.length N6.zero = x by simp [List.getD_eq_getElem?_getD]]
    exact hx
theorem RdL.done {s : List UInt8} {xs : List N6} (hl : s.length ≤ 65536) (h : RdL s xs) (hn : (wordsL 10 s).length = xs.length + 1) (h0 : (wordsL 10 s).getD xs.length [] = []) : PrsRel s 0 0 xs := .inr ⟨hl, .inl ⟨⟨hn, h, h0⟩, rfl, rfl⟩⟩
theorem RdL.torn {s : List UInt8} {xs : List N6} (hl : s.length ≤ 65536) (h : RdL s xs) (hn : (wordsL 10 s).length = xs.length + 1) (h0 : (wordsL 10 s).getD xs.length [] ≠ []) : PrsRel s 2 (xs.length : Int) [] :=
  .inr ⟨hl, .inr ⟨xs.length, ⟨by omega, fun j hj => ⟨_, h j hj⟩, fun _ => h0, fun h2 => by omega⟩, rfl, rfl, rfl⟩⟩
theorem RdL.bad {s : List UInt8} {xs : List N6} (hl : s.length ≤ 65536) (h : RdL s xs) (hn : xs.length + 1 < (wordsL 10 s).length) (h0 : ∀ x, ¬ lineN ((wordsL 10 s).getD xs.length []) x) : PrsRel s 2 (xs.length : Int) [] :=
  .inr ⟨hl, .inr ⟨xs.length, ⟨by omega, fun j hj => ⟨_, h j hj⟩, fun h2 => by omega, fun _ => h0⟩, rfl, rfl, rfl⟩⟩
theorem itoa_8 {n : Int} (h : 0 ≤ n ∧ n ≤ 1000000000) : num8B n := by unfold num8B; omega
theorem line_nums {p : List UInt8} {ys : List Int} {x : N6} (h : lineN p x) (h6 : ys.length = 6) (hy : ∀ k, k < 6 → (wordsL 32 p).getD k [] = Lib.itoa (ys.getD k 0)) : ∀ j, j < 6 → x.get j = ys.getD j 0 := fun j hj => by
  obtain ⟨h1, rfl⟩ := h
  have := hy j hj
  rw [words_note, itsN_get x hj] at this
  exact itoa_inj this
def nthN (ys : List Int) : N6 := ⟨ys.getD 0 0, ys.getD 1 0, ys.getD 2 0, ys.getD 3 0, ys.getD 4 0, ys.getD 5 0⟩
theorem nthN_get (ys : List Int) (j : Nat) (h : j < 6) : (nthN ys).get j = ys.getD j 0 := by
  rcases (by omega : j = 0 ∨ j = 1 ∨ j = 2 ∨ j = 3 ∨ j = 4 ∨ j = 5) with rfl | rfl | rfl | rfl | rfl | rfl <;> rfl
theorem nums_line {p : List UInt8} {ys : List Int} (h6 : (wordsL 32 p).length = 6) (hy : ∀ k, k < 6 → (wordsL 32 p).getD k [] = Lib.itoa (ys.getD k 0)) (hr : ∀ k, k < 6 → 0 ≤ ys.getD k 0 ∧ ys.getD k 0 ≤ 1000000000) : lineN p (nthN ys) := by
  refine ⟨fun j hj => by rw [nthN_get _ _ hj]; exact hr j hj, ?_⟩
  rw [wordsN_un, ← unwords_words 32 p]
  congr 1
  refine List.ext_getElem (by rw [h6, itsN_length]) fun i hi hj => ?_
  have h1 := hy i (by omega)
  rw [List.getD_eq_getElem?_getD, List.getElem?_eq_getElem hi] at h1
  have h2 := itsN_get (nthN ys) (k := 6) (j := i) (by omega)
  rw [List.getD_eq_getElem?_getD, List.getElem?_eq_getElem hj] at h2
  rw [nthN_get _ _ (by omega)] at h2
  simp at h1 h2
  rw [h1, h2]
set_option maxRecDepth 100000 in
set_option maxHeartbeats 8000000 in
theorem ref5_Parse (s : List UInt8) (w : World) : Calls Tryz.prog 6 #[.string ⟨s.toArray⟩] w (PrsPostN s w) := by
  have hsz := vStr_size s
  by_cases hlong : 65536 < s.length
  · have il : (65536 : Int) < (s.length : Int) := by omega
    go_enter Tryz.func6, Tryz.ntmps6
    go_wp2_with fail
    go_ret3
    exact prsN_nil (.inl ⟨hlong, rfl, rfl, rfl⟩) (Below.refl _ _)
  have il : ¬ (65536 : Int) < (s.length : Int) := by omega
  have hl : s.length ≤ 65536 := by omega
  obtain ⟨i0, hi, hz0, hz1, hz2⟩ := info_parts infoN
  have hwo := fun W => ref1_words s 10 W (by omega)
  have hwn := words_length 10 s
  have hw0 : 0 < (wordsL 10 s).length := List.length_pos_iff.2 (wordsL_ne _ _)
  have hwle : ∀ k, k < (wordsL 10 s).length → ((wordsL 10 s).getD k []).length ≤ 65536 := fun k hk => by
    have hm2 : (wordsL 10 s).getD k [] ∈ wordsL 10 s := by
      rw [List.getD_eq_getElem?_getD, List.getElem?_eq_getElem hk]; exact List.getElem_mem _
    have := words_le hm2
    omega
  have HWL := hid hwle
  clear hwle
  go_enter Tryz.func6, Tryz.ntmps6
  go_wp2_with fail
  refine (hwo _).mono ?_
  rintro e w1 ⟨aw, cw, rfl, SW, hb1⟩
  have hs1 := hb1.size
  clear hwo il hlong
  obtain ⟨n, hn⟩ : ∃ n, (wordsL 10 s).length = n := ⟨_, rfl⟩
  rw [hn] at SW hwn hw0 HWL ⊢
  have HN := hid hn
  obtain ⟨Q, hQ⟩ : ∃ Q, (fun k => (wordsL 10 s).getD k []) = Q := ⟨_, rfl⟩
  have hQ2 : ∀ j, (wordsL 10 s).getD j [] = Q j := fun j => by rw [← hQ]
  rw [hQ] at SW
  simp only [hQ2] at HWL
  have HQ := hid hQ2
  clear hn hQ hQ2
  go_wp2_with fail
  go_loopw [6, 7] (fun v i wr => ∃ (xs : List N6), xs.length + 1 ≤ n ∧ i = .int .i64 (xs.length : Int) ∧ OwnN wr w1.heap.size v xs ∧ RdL s xs ∧ Below w1.heap.size w1 wr) (fun _ i _ => n - (intOf i).toNat)
  case atStart => exact ⟨[], by simp; omega, rfl, World.ownsRow_nil .., fun k hk => by simp at hk, Below.refl _ _⟩
  case round =>
    obtain ⟨wo, rfl⟩ : ∃ wo : World, wo = wr := ⟨_, rfl⟩
    obtain ⟨xs, hxn, rfl, hown, hrd, hb⟩ := hrel
    have hB := bvia hb1 hb
    have hsz1 := hb.size
    have HRD := hid hrd
    clear hrd
    obtain ⟨k, hk⟩ : ∃ k, xs.length = k := ⟨_, rfl⟩
    have HK := hid hk
    by_cases hlt : k + 1 < n
    · have hki : (k : Int) < (n : Int) - 1 := by omega
      obtain ⟨bl, ol, rfl, hbl, hcl⟩ := SW k (by omega)
      have hck := (bcell hb _ _ hbl).trans hcl
      have hlen := HWL.out k (by omega)
      have hwo := fun W => ref1_words (Q k) 32 W (by omega)
      have hwl2 := words_length 32 (Q k)
      have hwq : ∀ j, j < (wordsL 32 (Q k)).length → ((wordsL 32 (Q k)).getD j []).length ≤ 1000000 := fun j hj => by
        have hm2 : (wordsL 32 (Q k)).getD j [] ∈ wordsL 32 (Q k) := by
          rw [List.getD_eq_getElem?_getD, List.getElem?_eq_getElem hj]; exact List.getElem_mem _
        have := words_le hm2
        omega
      have hnu := fun (a : Option Addr) (c : Nat) W H => ref1_Numbers a (wordsL 32 (Q k)).length c (fun j => (wordsL 32 (Q k)).getD j []) W (by omega) hwq H
      have HBAD := hid (fun (h0 : ∀ x, ¬ lineN (Q k) x) => HRD.out.bad hl (by rw [HN.out, HK.out]; exact hlt) (by rw [HQ.out, HK.out]; exact h0))
      have HMORE := hid (fun (x : N6) (hx : lineN (Q k) x) => HRD.out.more (x := x) (by rw [HQ.out, HK.out]; exact hx))
      have HLW := hid (fun x (h : lineN (Q k) x) => line_words h)
      have HNL := hid (fun ys => nums_line (p := Q k) (ys := ys))
      have HLN := hid (fun ys x => line_nums (p := Q k) (ys := ys) (x := x))
      have HIN := hid (fun x (h : lineN (Q k) x) (j : Nat) (hj : j < 6) => show (wordsL 32 (Q k)).getD j [] = Lib.itoa (x.get j) by
        have h2 := h.2
        rw [h2, words_note, itsN_get x hj])
      obtain ⟨q, hq⟩ : ∃ q, Q k = q := ⟨_, rfl⟩
      rw [hq] at hck hlen hwl2 hwq HBAD HMORE HLW HNL HLN HIN
      simp only [hq] at hwo hnu
      rw [hk]
      clear hq hcl hwq
      go_wp2_with fail
      refine (hwo _).mono ?_
      rintro e w2 ⟨a2, c2, rfl, S2, hb2⟩
      have hB2 := bvia hB hb2
      have hC2 := bvia hb hb2
      have own2 := own_below hown hb2
      obtain ⟨m, hm⟩ : ∃ m, (wordsL 32 q).length = m := ⟨_, rfl⟩
      rw [hm] at S2 hwl2 ⊢
      simp only [hm] at hnu
      rw [hm] at HNL
      simp only [hm] at HLW
      go_wp2_with fail
      refine (hnu a2 c2 _ S2).mono ?_
      clear hwo hnu
      rintro e w3 (⟨ys, a3, c3, hy1, hy2, rfl, S3, hfresh, hb3⟩ | ⟨rfl, ⟨j, hj, hno⟩, hb3⟩)
      rotate_left
      · have hB3 := bvia hB2 hb3
        have HP := hid (HBAD.out fun x hx => by
          have h6 := (HLW.out x hx).1
          have h7 : x.get j = x.get j := rfl
          have hj6 : j < 6 := by omega
          have h1 := hx.1 j hj6
          exact hno _ (itoa_8 h1) (HIN.out x hx j hj6))
        go_wp2_with fail
        refine wp_loop_rounds 1 ?_
        rw [rounds_succ]
        go_wp2_with fail
        go_ret3
        exact prsN_nil (by have := HP.out; rw [HK.out] at this; exact this) hB3
      rw [hy1] at S3 ⊢
      have hB3 := bvia hB2 hb3
      have hC3 := bvia hC2 hb3
      have own3 := own_below own2 hb3
      have hfr2 : ∀ g, u6.ownBlock = some g → g < w2.heap.size := own_lt own2
      by_cases h6 : m = 6
      rotate_left
      · have HP := hid (HBAD.out fun x hx => h6 (HLW.out x hx).1)
        have h6i : ((m : Int) == 6) = false := by rw [beq_eq_false_iff_ne]; omega
        go_wp2_with fail
        refine wp_loop_rounds 1 ?_
        rw [rounds_succ]
        go_wp2_with fail
        go_ret3
        exact prsN_nil (by have := HP.out; rw [HK.out] at this; exact this) hB3
      subst h6
      obtain ⟨bn, on, rfl, hbn, _⟩ := S3 0 (by omega)
      have hge := hfresh bn on rfl
      have hcn : ∀ j, j < 6 → w3.cell? ⟨bn, on + j, none⟩ = some (.int .i64 (ys.getD j 0)) := fun j hj => by
        obtain ⟨b', o', e1, _, h1⟩ := S3 j hj
        injection e1 with e1; injection e1 with e1 e2 _
        subst e1 e2
        exact h1
      have HCN := hid hcn
      have HY1 := hid hy1; have HY2 := hid hy2
      clear hcn hfresh hy1 hy2 S3 S2 own2
      go_wp2_with fail
      go_loopw [9, 10] (fun o j wr => ∃ (i : Nat) (ok : Bool), i ≤ 6 ∧ o = .bool ok ∧ j = .int .i64 (i : Int) ∧ (ok = true → ∀ d, d < i → 0 ≤ ys.getD d 0 ∧ ys.getD d 0 ≤ 1000000000) ∧ (ok = false → ∃ d, d < 6 ∧ ¬ (0 ≤ ys.getD d 0 ∧ ys.getD d 0 ≤ 1000000000)) ∧ w3 = wr) (fun _ j _ => 6 - (intOf j).toNat)
      case atStart => exact ⟨0, true, Nat.zero_le _, rfl, rfl, fun _ i hi => by omega, (fun h => by cases h), rfl⟩
      case round =>
        obtain ⟨i, ok, hi6, rfl, rfl, hT1, hT2, rfl⟩ := hrel
        have HT1 := hid hT1; have HT2 := hid hT2
        clear hT1 hT2
        cases ok
        · have HP := hid (HBAD.out fun x hx => by
            obtain ⟨d, hd, hnd⟩ := HT2.out rfl
            have h1 := HLN.out ys x hx HY1.out (fun k hk => (HY2.out k hk).2) d hd
            rw [← h1] at hnd
            exact hnd (hx.1 d hd))
          go_wp2_with fail
          go_ret3
          exact prsN_nil (by have := HP.out; rw [HK.out] at this; exact this) hB3
        by_cases hlt2 : i < 6
        · have k6 : (i : Int) < 6 := by omega
          have hcw := HCN.out i hlt2
          obtain ⟨y, hy⟩ : ∃ y, ys.getD i 0 = y := ⟨_, rfl⟩
          rw [hy] at hcw
          have HY := hid hy
          have hwi := fun W => ref5_within y 0 1000000000 W
          clear hy
          go_wp2_with fail
          refine (hwi _).mono ?_
          rintro e w6 ⟨rfl, rfl⟩
          dsimp only
          go_wp2_with fail
          go_roundw
          case rel => exact ⟨i + 1, within y 0 1000000000, by omega, rfl, by go_num, (fun h d hd => by
            rcases Nat.lt_succ_iff_lt_or_eq.1 hd with h' | rfl
            · exact HT1.out (by first | rfl | trivial) d h'
            · rw [HY.out]; exact (within_iff _ _ _).1 h), (fun h => ⟨i, hlt2, fun h2 => by
              rw [HY.out] at h2
              rw [(within_iff _ _ _).2 h2] at h
              cases h⟩), (by first | rfl | trivial)⟩
          case measure => simp [intOf]; omega
        · obtain rfl : i = 6 := by omega
          have HLX := hid (HNL.out ys (by first | rfl | trivial) (fun k hk => (HY2.out k hk).2) (HT1.out (by first | rfl | trivial)))
          have hg : ∀ j, j < 6 → ys.getD j 0 = (nthN ys).get j := fun j hj => (nthN_get ys j hj).symm
          have HCN2 := hid (fun j (hj : j < 6) => show w3.cell? ⟨bn, on + j, none⟩ = some (.int .i64 ((nthN ys).get j)) from by rw [← hg j hj]; exact HCN.out j hj)
          clear hg
          obtain ⟨x, hx⟩ : ∃ x, nthN ys = x := ⟨_, rfl⟩
          rw [hx] at HLX HCN2
          clear hx HCN
          obtain ⟨C, hC⟩ : ∃ C : Nat → Prop, C = fun g => u6.ownBlock = some g := ⟨_, rfl⟩
          have hnc : ¬ C bn := by
            rw [hC]
            intro h
            have := hfr2 bn h
            omega
          have hcl : ∀ W, But C w3 W → ∀ j, W.cell? ⟨bn, j, none⟩ = w3.cell? ⟨bn, j, none⟩ := fun W h j => World.cell?_of_block (h.block bn hbn hnc)
          have f0 : ∀ W, But C w3 W → W.cell? ⟨bn, on, none⟩ = some (.int .i64 x.st) := fun W h => (hcl W h _).trans (HCN2.out 0 (by omega))
          have f1 : ∀ W, But C w3 W → W.cell? ⟨bn, on + 1, none⟩ = some (.int .i64 x.fr) := fun W h => (hcl W h _).trans (HCN2.out 1 (by omega))
          have f2 : ∀ W, But C w3 W → W.cell? ⟨bn, on + 2, none⟩ = some (.int .i64 x.to) := fun W h => (hcl W h _).trans (HCN2.out 2 (by omega))
          have f3 : ∀ W, But C w3 W → W.cell? ⟨bn, on + 3, none⟩ = some (.int .i64 x.ce) := fun W h => (hcl W h _).trans (HCN2.out 3 (by omega))
          have f4 : ∀ W, But C w3 W → W.cell? ⟨bn, on + 4, none⟩ = some (.int .i64 x.di) := fun W h => (hcl W h _).trans (HCN2.out 4 (by omega))
          have f5 : ∀ W, But C w3 W → W.cell? ⟨bn, on + 5, none⟩ = some (.int .i64 x.co) := fun W h => (hcl W h _).trans (HCN2.out 5 (by omega))
          have HC := hid hC
          have own4 : w3.ownsRow w1.heap.size 30 6 u6 k (flatN xs) := by rw [← HK.out]; exact own3
          have hC3s := hC3.size
          have hkl : k ≤ 65537 := by omega
          clear hcl hC hnc own3 HCN2
          go_upto_region 16 with (fail)
          go_region_held3 (fun W => But C w3 W) ((((repeat' (first | with_reducible assumption | with_reducible exact But.refl _ _ | with_reducible refine But.drew ?_ | with_reducible refine But.drewN ?_ _ | refine But.set_ ?_ (by dsimp only) _ | with_reducible refine But.alloc ?_ _))))) ((go_loud (refine step_append_lies _ (by rfl) _ _ 22 (by rfl) w1.heap.size 30 i0 _ 6 48 Tryz.underlying22 hi hz0 hz1 hz2 rfl (by decide) _ _ _ (by rfl) (World.ownsRow.alloc (own_below own4 (by repeat' (first | exact Below.refl _ _ | refine Below.drew ?_ | refine balloc ?_ _))) _) ⟨w3.heap.size, 0, none⟩ 1 1 (N6.list x) (by rfl) (by rfl) (cells_new _ _ _) (n6_one _) (by omega) (by simp [maxLen]; omega) (by omega) (by simp; omega) (w3.heap.size + 1) (by simp) ?_; intro g8 cap8 w4 m8 hgrow8 hat8 hlt8; have hD4 : Below w1.heap.size w1 w4 := (balloc (Below.drew hC3) _).grown hgrow8 (by simp; omega) (own_base own4); have hU4 : But C w3 w4 := ⟨hgrow8.os, hgrow8.tape, hgrow8.output, by have := hgrow8.size; simp at this; omega, fun g hg hng => by rw [HC.out] at hng; exact (hgrow8.block g (by simp; omega) (fun e => hng e.symm)).trans ((balloc (Below.drew (Below.refl w3.heap.size w3)) (.cells #[.int .i64 x.st, .int .i64 x.fr, .int .i64 x.to, .int .i64 x.ce, .int .i64 x.di, .int .i64 x.co] 30)).block g hg)⟩)))
          all_goals
            go_wp2_with fail
            go_roundw
            case rel => exact ⟨xs ++ [x], by simp; omega, by simp; omega, ownN_snoc (by rw [HK.out]; exact m8), HMORE.out x HLX.out, hD4⟩
            case measure => simp [intOf]; omega
    · have hkn : k + 1 = n := by omega
      obtain ⟨bl, ol, rfl, hbl, hcl⟩ := SW k (by omega)
      have hck := (bcell hb _ _ hbl).trans hcl
      have hki : ¬ (k : Int) < (n : Int) - 1 := by omega
      have hn1 : (n : Int) - 1 = (k : Int) := by omega
      by_cases he : Q k = []
      · have HP := hid (HRD.out.done hl (by rw [HN.out, HK.out]; omega) (by rw [HQ.out, HK.out]; exact he))
        rw [he] at hck
        obtain ⟨a5, c5, rfl, S5⟩ := sn_of_own hown
        go_wp2_with fail
        go_ret3
        exact ⟨0, 0, xs, a5, c5, HP.out, (by rw [HK.out]; rfl), S5, hB⟩
      · have HP := hid (HRD.out.torn hl (by rw [HN.out, HK.out]; omega) (by rw [HQ.out, HK.out]; exact he))
        have hz : (Q k).isEmpty = false := by cases h : Q k <;> simp_all
        go_wp2_with fail
        go_ret3
        exact prsN_nil (by have := HP.out; rw [HK.out] at this; exact this) hB
end Go.Proofs.YteabkcbajpjkoaaGreatDoor
