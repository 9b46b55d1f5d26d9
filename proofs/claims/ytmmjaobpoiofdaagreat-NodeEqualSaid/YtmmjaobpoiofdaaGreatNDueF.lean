/- Walk: the nodes that own a cell, of the program. Walks: the notes that are due, as the program's iterator yields them. Walk: the notes that are due, of the reference. Walks: the notes that an iterator yields, as a list. Walks: Due, of the program and of the reference; equal notes. -/
import Derived.Test.YtmmjaobpoiofdaaGreatNFrom
import Derived.Test.YtmmjaobpoiofdaaGreatShelf
import Derived.Lib.OwnBridge
import Derived.Test.YtmmjaobpoiofdaaGreatIter
import Derived.LoopIn
import Derived.Sort.CutIn
import Derived.LoopNIn
import Derived.TacticsInMore
import Derived.Shelf.Abstract
import Derived.Test.YtmmjaobpoiofdaaGreatNMassP
import Derived.RangeFuncLeaves
import Derived.Maps.OwnIn
namespace Go.Proofs.YtmmjaobpoiofdaaGreat
open Go Go.RowKit Go.Sort
set_option linter.unusedVariables false
theorem below_grow (w : World) (os : Array Obj) : Below w.heap.size w (grow w os) :=
  ⟨rfl, rfl, rfl, by simp [grow], fun k hk => heap_grow_old w os hk⟩
theorem ownersL_length (o : Nat → Int) (n : Nat) : (ownersL o n).length = n := by simp [ownersL]
theorem ownersL_get (o : Nat → Int) (n k : Nat) (h : k < n) : (ownersL o n).getD k 0 = o k := by simp [ownersL, List.getD_eq_getElem?_getD, h]
theorem sort_pairwise (zs : List Int) : (zs.mergeSort fun x y => decide (x ≤ y)).Pairwise (· ≤ ·) := by
  have h := List.pairwise_mergeSort (le := fun x y : Int => decide (x ≤ y)) (fun a b c h1 h2 => by simp at *; omega) (fun a b => by simp; omega) zs
  exact h.imp (fun h => by simpa using h)
set_option maxRecDepth 100000 in
set_option maxHeartbeats 2000000 in
theorem node_nodes (W H : Int) (a ao : Option Addr) (n c no co : Nat) (o : Nat → Int) (w : World) (h0 : 0 < no) (hno : no ≤ 4096) (ho : ∀ k, k < no → 0 ≤ o k ∧ o k ≤ 7) (HO : Sl w ao no o) :
    Calls Tryz.prog 56 #[.agg (cluV W H a ao n c no co)] w fun e w' => ∃ v, e = .returned v ∧ w'.ownsRow w.heap.size 3 1 v (nodeL o no 8).length ((nodeL o no 8).map vInt) ∧ Below w.heap.size w w' := by
  unfold cluV
  obtain ⟨b, off, rfl, hb, _⟩ := HO 0 h0
  have J := HO.alloc (.cells #[.int .i64 W, .int .i64 H, .slice a n c, .slice (some ⟨b, off, none⟩) no co] 67)
  have hcl := fun (W' : World) (hJ : Sl W' (some ⟨b, off, none⟩) no o) => Tryz.slices_Clone_int b off no co (ownersL o no) W' (by rw [ownersL_length]; exact Nat.le_refl _) (by omega) (fun j hj => by
    rw [ownersL_length] at hj
    obtain ⟨b', off', e, _, hc⟩ := hJ j hj
    injection e with e; injection e with e1 e2 _
    subst e1 e2
    rw [ownersL_get _ _ _ hj]; exact hc)
  have hcl' := hcl _ J
  clear hcl
  go_enter Tryz.func56, Tryz.ntmps56
  go_wp2_with fail
  refine hcl'.mono ?_
  rintro e w1 ⟨v1, rfl, hown1, hv1, hb1⟩
  clear hcl'
  have ht : (ownersL o no).take no = ownersL o no := List.take_of_length_le (by rw [ownersL_length]; exact Nat.le_refl _)
  rw [ht] at hown1
  clear ht
  obtain ⟨g, cap, rfl, hg1, hg2, hcap, hcm, _, hH1⟩ := Lib.holds_of_ownsRow hown1 hv1
  have hso := Tryz.slices_Sort_int g 0 cap (ownersL o no) w1 hH1 hg2 (by rw [ownersL_length]; omega)
  rw [ownersL_length] at hso
  obtain ⟨ys, hys⟩ : ∃ ys, ys = (ownersL o no).mergeSort (fun x y => decide (x ≤ y)) := ⟨_, rfl⟩
  have hyl : ys.length = no := by rw [hys, List.length_mergeSort, ownersL_length]
  have hyp : ys.Perm (ownersL o no) := by rw [hys]; exact List.mergeSort_perm _ _
  have hyo : ys.Pairwise (· ≤ ·) := by rw [hys]; exact sort_pairwise _
  rw [← hys] at hso
  have hcomp := nodes_of ho hyp hyo
  have HC := hid hcomp
  clear hys hcomp hyp hyo
  have HYL := hid hyl; clear hyl
  go_wp2_with fail
  refine hso.mono ?_
  rintro e w2 ⟨rfl, q, os, hw2⟩
  clear hso
  have hown2 : w2.ownsRow (w.heap.size + 1) 3 1 (.slice (some ⟨g, 0, none⟩) no cap) no (ys.map (Value.int .i64)) := by
    have h := Lib.ownsRow_putRow (q := q) (k := no) hown1 HYL.out (Nat.le_refl _)
    rw [List.take_of_length_le (by rw [HYL.out]; exact Nat.le_refl _)] at h
    rw [hw2]
    have h2 := own_below h (below_grow _ os)
    simpa using h2
  have hbb : Below w.heap.size w w2 := by
    rw [hw2]
    have h := Lib.below_putRow (enc := Value.int .i64) (q := q) (d := ys.toArray) (bvia (below_alloc w _) hb1) (show w.heap.size ≤ g by simp at hg1; omega)
    exact bvia h (below_grow _ os)
  clear hw2 hown1 hH1 hb1 J
  obtain ⟨g', cap', hv2, hg1', hg2', hcap', _, _, hH2⟩ := Lib.holds_of_ownsRow hown2 (fun h => by injection h with h; cases h)
  injection hv2 with e1 e2 e3
  injection e1 with e1; injection e1 with e1
  subst e1 e3
  have hco := Tryz.slices_Compact_int g 0 cap ys w2 hH2 (by rw [HYL.out]; omega) (by rw [HYL.out]; exact hcap)
  rw [HYL.out] at hco
  clear e2
  obtain ⟨zs, hzs⟩ : ∃ zs, zs = Lib.compact ys := ⟨_, rfl⟩
  have hzl : zs.length ≤ no := by rw [hzs, ← HYL.out]; exact Lib.compact_length_le ys
  rw [← hzs] at hco
  have HZ : Hid (zs = nodeL o no 8) := hid (by rw [hzs]; exact HC.out)
  clear hzs
  go_wp2_with fail
  refine hco.mono ?_
  rintro e w3 ⟨rfl, q2, hw3⟩
  clear hco
  have hown3 : w3.ownsRow (w.heap.size + 1) 3 1 (.slice (some ⟨g, 0, none⟩) zs.length cap) zs.length (zs.map (Value.int .i64)) := by
    have h := Lib.ownsRow_putRow (q := q2) (k := zs.length) (ys := zs ++ List.replicate (no - zs.length) 0) hown2 (by simp; omega) hzl
    rw [List.take_left] at h
    rw [hw3]
    exact h
  have hb3 : Below w.heap.size w w3 := by
    rw [hw3]
    exact Lib.below_putRow hbb (by omega)
  clear hw3
  go_wp2
  go_ret
  rw [← HZ.out]
  exact ⟨_, rfl, own_mono hown3 (by omega), hb3⟩
end Go.Proofs.YtmmjaobpoiofdaaGreat
namespace Go.Proofs.YtmmjaobpoiofdaaGreat
open Go Go.RowKit
attribute [local go_sem] Oper.semAt_some
set_option linter.unusedVariables false
def encN (x : N6) : Array Value := #[.agg #[.int .i64 x.st, .int .i64 x.fr, .int .i64 x.to, .int .i64 x.ce, .int .i64 x.di, .int .i64 x.co]]
theorem dueC_pre (W H : Nat) (o : Nat → Int) (nd st : Int) (i d : Nat) : ∀ m, d ≤ m → dueC W H o nd st i d <+: dueC W H o nd st i m
  | 0, h => by rw [show d = 0 from by omega]; exact List.prefix_refl _
  | m + 1, h => by
    rcases Nat.lt_or_ge d (m + 1) with h' | h'
    · refine (dueC_pre W H o nd st i d m (by omega)).trans ?_
      simp only [dueC]
      split
      · exact List.prefix_refl _
      · exact List.prefix_append _ _
    · rw [show d = m + 1 from by omega]; exact List.prefix_refl _
theorem dueO_pre (W H : Nat) (o : Nat → Int) (nd st : Int) (l m : List Int) (h : l <+: m) : dueO W H o nd st l <+: dueO W H o nd st m := by
  obtain ⟨t, rfl⟩ := h
  simp only [dueO, List.flatMap_append]
  exact List.prefix_append _ _
theorem take_getD {l : List Int} {k : Nat} (h : k < l.length) : l.take (k + 1) = l.take k ++ [l.getD k 0] := by
  rw [List.take_succ_eq_append_getElem h, List.getD_eq_getElem?_getD, List.getElem?_eq_getElem h]; rfl
theorem own_at {o : Nat → Int} {nd : Int} {n k : Nat} (h : k < (ownL o nd n).length) : ∃ i : Nat, i < n ∧ (ownL o nd n).getD k 0 = i ∧ o i = nd := by
  refine ownL_mem.1 ?_
  rw [List.getD_eq_getElem?_getD, List.getElem?_eq_getElem h]
  exact List.getElem_mem _
theorem own_butN {C : Nat → Prop} {X Y : World} {base : Nat} {e : TypeId} {size n : Nat} {v : Value} {xs : List Value} (h : X.ownsRow base e size v n xs) (hb : But C X Y) (hne : ∀ g, v.ownBlock = some g → ¬ C g) : Y.ownsRow base e size v n xs := by
  refine ⟨h.1, ?_⟩
  rcases h.2 with h' | ⟨g, cap, cur, rfl, hbs, hh, rest⟩
  · exact .inl h'
  · refine .inr ⟨g, cap, cur, rfl, hbs, ?_, rest⟩
    rw [hb.block g (own_lt h g rfl) (hne g rfl)]
    exact hh
theorem node_due (W H : Int) (a ao : Option Addr) (n c no co : Nat) (nd st : Int) (w : World) :
    Calls Tryz.prog 51 #[.agg (cluV W H a ao n c no co), .int .i64 nd, .int .i64 st] w fun e w' => ∃ bc bn bs, e = .returned (.func (.func 100) #[] #[.pointer (some ⟨bc, 0, none⟩), .pointer (some ⟨bn, 0, none⟩), .pointer (some ⟨bs, 0, none⟩)]) ∧
      Bx w' bc (cluV W H a ao n c no co) ∧ Bx w' bn #[.int .i64 nd] ∧ Bx w' bs #[.int .i64 st] ∧ (w.heap.size ≤ bc ∧ w.heap.size ≤ bn ∧ w.heap.size ≤ bs) ∧ Below w.heap.size w w' := by
  unfold cluV
  have X0 := ((Bx.new w #[.int .i64 W, .int .i64 H, .slice a n c, .slice ao no co] 67).alloc (.cells #[.int .i64 nd] 3)).alloc (.cells #[.int .i64 st] 3)
  have X1 := (Bx.new (w.alloc (.cells #[.int .i64 W, .int .i64 H, .slice a n c, .slice ao no co] 67)) #[.int .i64 nd] 3).alloc (.cells #[.int .i64 st] 3)
  have X2 := Bx.new ((w.alloc (.cells #[.int .i64 W, .int .i64 H, .slice a n c, .slice ao no co] 67)).alloc (.cells #[.int .i64 nd] 3)) #[.int .i64 st] 3
  simp only [World.size_alloc] at X1 X2
  have hB0 : Below w.heap.size w (((w.alloc (.cells #[.int .i64 W, .int .i64 H, .slice a n c, .slice ao no co] 67)).alloc (.cells #[.int .i64 nd] 3)).alloc (.cells #[.int .i64 st] 3)) := by (repeat' (first | with_reducible assumption | with_reducible exact Below.refl _ _ | with_reducible refine Below.drew ?_ | with_reducible refine below_drewN ?_ _ | with_reducible refine balloc ?_ _ | with_reducible refine bset ?_ ?_ _ | with_reducible refine Below.setCell ?_ ?_ _ | with_reducible refine Below.alloc ?_ ?_ _ | omega | (simp; done) | (simp; omega)))
  go_enter Tryz.func51, Tryz.ntmps51
  go_wp2_with fail
  generalize (((w.alloc (.cells #[.int .i64 W, .int .i64 H, .slice a n c, .slice ao no co] 67)).alloc (.cells #[.int .i64 nd] 3)).alloc (.cells #[.int .i64 st] 3)) = W0 at X0 X1 X2 hB0 ⊢
  have z0 := X0.lt
  have z1 := X1.lt
  have z2 := X2.lt
  go_ret
  exact ⟨_, _, _, rfl, X0, X1, X2, ⟨by omega, by omega, by omega⟩, hB0⟩
theorem ent_due : ∀ args w, (callFunc 100 args).run Tryz.prog w = .ok (.enter 100 args) w := Go.Proofs.enters_of Tryz.func100 (by kernel_rfl) rfl
/-- what the iterator reads of its own boxes -/
def DueRd (cv : Array Value) (nd st : Int) (bc bn bs : Nat) (X : World) : Prop := Bx X bc cv ∧ Bx X bn #[.int .i64 nd] ∧ Bx X bs #[.int .i64 st]
set_option maxRecDepth 100000 in
set_option maxHeartbeats 4000000 in
theorem due_iterR (Wd Hd : Nat) (a ao : Option Addr) (n c no co : Nat) (o : Nat → Int) (nd st : Int) (bc bn bs : Nat) (w₀ : World) (h1 : 1 ≤ Wd ∧ Wd ≤ 64) (h2 : 1 ≤ Hd ∧ Hd ≤ 64) (hno : no = Wd * Hd) (HO : Sl w₀ ao no o) :
    IterR Tryz.prog 100 #[.pointer (some ⟨bc, 0, none⟩), .pointer (some ⟨bn, 0, none⟩), .pointer (some ⟨bs, 0, none⟩)] encN (dueL Wd Hd o nd st no) w₀ (DueRd (cluV Wd Hd a ao n c no co) nd st bc bn bs) := by
  intro l J Jx C₀ W hR0 hW hC hJ hJx hY h0
  have hs0 := hW.size
  have hno4 : no ≤ 4096 := by
    have : Wd * Hd ≤ 64 * 64 := Nat.mul_le_mul h1.2 h2.2
    omega
  have HNO := hid hno; clear hno
  rw [← dueO_own] at hY ⊢
  have hC0 := hC [] C₀ W h0
  unfold cluV at hR0
  obtain ⟨Yc, Yn, _⟩ := hR0 _ _ _ h0
  have c0 := Yc.at_ 0 rfl; have c1 := Yc.at_ 1 rfl; have c2 := Yc.at_ 2 rfl; have c3 := Yc.at_ 3 rfl; have cn := Yn.at_ 0 rfl; have lc := Yc.lt; have ln := Yn.lt
  have hcall := node_owned (Wd : Int) (Hd : Int) a ao n c no co o nd W (by omega) (HO.below hW)
  unfold cluV at hcall
  refine callsIn_wide.1 (callsIn_of_wp (F := Fence.wide) (n := 0) Tryz.func100 rfl trivial ?_)
  simp only [Tryz.ntmps100, List.size_toArray, List.length_cons, List.length_nil, Nat.reduceAdd, Nat.reduceSub, Array.replicate_succ, Array.replicate_zero, List.push_toArray, List.append_toArray, List.nil_append, List.cons_append]
  gi_wp2_with fail
  refine ⟨trivial, rfl, callsIn_wide.2 (hcall.mono ?_)⟩
  rintro e w1 ⟨v, rfl, hown, hb1⟩
  obtain ⟨av, cv, hv, _⟩ := sl_of_own hown
  obtain ⟨L, hL⟩ : ∃ L, L = ownL o nd no := ⟨_, rfl⟩
  have hLn : L.length ≤ no := by rw [hL]; exact ownL_length _ _ _
  have hLa : ∀ k, k < L.length → ∃ i : Nat, i < no ∧ L.getD k 0 = i ∧ o i = nd := fun k hk => by rw [hL] at hk ⊢; exact own_at hk
  have HLA := hid hLa; clear hLa
  rw [← hL] at hown hY hv
  have HL := hid hL; clear hL
  subst hv
  have hj1 : J (dueO Wd Hd o nd st (L.take 0)) C₀ w1 := hJ _ _ _ _ h0 (but_below hb1 (Nat.le_refl _))
  have hne0 : ∀ g, (Value.slice av L.length cv).ownBlock = some g → ¬ C₀ g := fun g hg hc => by have := own_base hown g hg; have := (hC0 g hc).2; omega
  have hB1 : Below w₀.heap.size w₀ w1 := hW.trans (hb1.mono hs0)
  have hs1 := hb1.size
  clear c0 c1 c2 c3 cn
  gi_wp2_with fail
  gi_loopw [13] (fun i wr => ∃ k : Nat, k ≤ L.length ∧ i = .int .i64 k ∧ wr.ownsRow W.heap.size 3 1 (.slice av L.length cv) L.length (L.map vInt) ∧ ∃ C, J (dueO Wd Hd o nd st (L.take k)) C wr ∧ But C₀ W wr ∧ Grw C₀ C W ∧ Below w₀.heap.size w₀ wr ∧ W.heap.size ≤ wr.heap.size ∧ (∀ g, (Value.slice av L.length cv).ownBlock = some g → ¬ C g)) (fun i _ => L.length - (intOf i).toNat)
  case atStart => exact ⟨0, Nat.zero_le _, rfl, hown, C₀, hj1, but_below hb1 (Nat.le_refl _), Grw.refl _ _, hB1, hs1, hne0⟩
  case round =>
    obtain ⟨wo, rfl⟩ : ∃ wo : World, wo = wr := ⟨_, rfl⟩
    obtain ⟨k, hk, rfl, hown, C, hj, hbut, hg, hB, hz, hne⟩ := hrel
    by_cases hlt : k < L.length
    · obtain ⟨i, hi, hLk, hoi⟩ := HLA.out k hlt
      have HOI := hid hoi; clear hoi
      have hT : dueO Wd Hd o nd st (L.take (k + 1)) = dueO Wd Hd o nd st (L.take k) ++ dueC Wd Hd o nd st i 4 := by
        rw [take_getD hlt, dueO_snoc, hLk]; rfl
      have hTp : dueO Wd Hd o nd st (L.take (k + 1)) <+: dueO Wd Hd o nd st L := dueO_pre _ _ _ _ _ _ _ (List.take_prefix _ _)
      have HT := hid hT; have HTP := hid hTp
      clear hT hTp
      obtain ⟨av', cv', hv', Sv⟩ := sl_of_own hown
      injection hv' with hv1 hv2 hv3
      subst hv1
      subst hv3
      obtain ⟨bv, ov, rfl, hbv, cv0⟩ := Sv k hlt
      dsimp only at cv0
      rw [hLk] at cv0
      clear hv2 Sv
      have HLK := hid hLk; clear hLk
      gi_wp2_with fail
      clear cv0 hbv
      gi_loopw [17] (fun di wr => ∃ d : Nat, d ≤ 4 ∧ di = .int .i64 d ∧ wr.ownsRow W.heap.size 3 1 (.slice (some ⟨bv, ov, none⟩) L.length cv) L.length (L.map vInt) ∧ ∃ C, J (dueO Wd Hd o nd st (L.take k) ++ dueC Wd Hd o nd st i d) C wr ∧ But C₀ W wr ∧ Grw C₀ C W ∧ Below w₀.heap.size w₀ wr ∧ W.heap.size ≤ wr.heap.size ∧ (∀ g, (Value.slice (some ⟨bv, ov, none⟩) L.length cv).ownBlock = some g → ¬ C g)) (fun di _ => 4 - (intOf di).toNat)
      case atStart => exact ⟨0, Nat.zero_le _, rfl, hown, C, by simpa [dueC] using hj, hbut, hg, hB, hz, hne⟩
      case round =>
        obtain ⟨d, hd, rfl, hown5, C5, hj5, hbut5, hg5, hB5, hz5, hne5⟩ := hrel
        clear hown hj hbut hg hB hz hne
        by_cases hd4 : d < 4
        · have hnb := nbT_lt (W := Wd) (H := Hd) (i := i) (by rw [← HNO.out]; exact hi) hd4
          rw [← HNO.out] at hnb
          have hcf := fun Y => node_from Wd Hd i d a ao n c no co Y h1 h2 (by rw [← HNO.out]; exact hi) hd4
          have hCs : dueC Wd Hd o nd st i (d + 1) = if o (nbT Wd Hd i d) = nd then dueC Wd Hd o nd st i d else dueC Wd Hd o nd st i d ++ [⟨st, o (nbT Wd Hd i d), nd, i, d, 0⟩] := rfl
          have hPr : dueO Wd Hd o nd st (L.take k) ++ dueC Wd Hd o nd st i (d + 1) <+: dueO Wd Hd o nd st L :=
            ((List.prefix_append_right_inj _).2 (dueC_pre Wd Hd o nd st i (d + 1) 4 (by omega))).trans (by rw [← HT.out]; exact HTP.out)
          obtain ⟨bo, oo, rfl, hbo, co0⟩ := (HO.below hB5) (nbT Wd Hd i d) hnb
          unfold cluV at hcf
          obtain ⟨Zc, _, _⟩ := hR0 _ _ _ hj5
          have r0 : ∀ Y, Below wr.heap.size wr Y → Y.cell? ⟨bc, 0, none⟩ = some (.int .i64 (Wd : Int)) := fun Y h => (Zc.below h).at_ 0 rfl
          have r1 : ∀ Y, Below wr.heap.size wr Y → Y.cell? ⟨bc, 1, none⟩ = some (.int .i64 (Hd : Int)) := fun Y h => (Zc.below h).at_ 1 rfl
          have r2 : ∀ Y, Below wr.heap.size wr Y → Y.cell? ⟨bc, 2, none⟩ = some (.slice a n c) := fun Y h => (Zc.below h).at_ 2 rfl
          have r3 : ∀ Y, Below wr.heap.size wr Y → Y.cell? ⟨bc, 3, none⟩ = some (.slice (some ⟨bo, oo, none⟩) no co) := fun Y h => (Zc.below h).at_ 3 rfl
          have ro : ∀ Y, Below wr.heap.size wr Y → Y.cell? ⟨bo, oo + nbT Wd Hd i d, none⟩ = some (.int .i64 (o (nbT Wd Hd i d))) := fun Y h => (bcell h _ _ hbo).trans co0
          clear co0 Zc
          have HCS := hid hCs; clear hCs
          have HPR := hid hPr; clear hPr
          generalize nbT Wd Hd i d = m at *
          obtain ⟨om, hom⟩ : ∃ x, x = o m := ⟨_, rfl⟩
          rw [← hom] at ro
          have HOM := hid hom; clear hom
          gi_upto_region 6 with (fail)
          refine wpIn_wide.2 ?_
          go_region_held3 (fun Y => Below wr.heap.size wr Y) ((repeat' (first | with_reducible assumption | with_reducible exact Below.refl _ _ | with_reducible refine Below.drew ?_ | with_reducible refine below_drewN ?_ _ | with_reducible refine balloc ?_ _ | with_reducible refine bset ?_ ?_ _ | with_reducible refine Below.setCell ?_ ?_ _ | with_reducible refine Below.alloc ?_ ?_ _ | omega | (simp; done) | (simp; omega))))
            ((first
              | (go_at_call 77; refine (hcf _).mono ?_; rintro e w8 ⟨rfl, hb8⟩; have hB8 : Below wr.heap.size wr w8 := bvia (by (repeat' (first | with_reducible assumption | with_reducible exact Below.refl _ _ | with_reducible refine Below.drew ?_ | with_reducible refine below_drewN ?_ _ | with_reducible refine balloc ?_ _ | with_reducible refine bset ?_ ?_ _ | with_reducible refine Below.setCell ?_ ?_ _ | with_reducible refine Below.alloc ?_ ?_ _ | omega | (simp; done) | (simp; omega)))) hb8; have hck := bcell hb8; have hfk := bfrozen hb8; have hzk := hb8.size; (try simp at hzk); (try have hz1k : wr.heap.size < w8.heap.size := (by omega)))
              | fail))
          all_goals
            have hW8 : Below w₀.heap.size w₀ w8 := hB5.trans (hB8.mono hB5.size)
            have hbt8 : ∀ C : Nat → Prop, But C wr w8 := fun C => but_below hB8 (Nat.le_refl _)
            have hj8 := hJ _ _ _ _ hj5 (hbt8 _)
            have hown8 := own_butN hown5 (hbt8 C5) hne5
            have hs8 := hB8.size
            clear r0 r1 r2 r3 ro hcf hck hfk hb8 hb1 hj5 hown5 hj1 hown
            obtain ⟨_, Yn, Ys⟩ := hR0 _ _ _ hj8
            have n0 := Yn.at_ 0 rfl; have s0 := Ys.at_ 0 rfl; have ln := Yn.lt; have ls := Ys.lt
            cases hq : (om != nd)
            · have hq' : om = nd := by simpa using hq
              have HQ := hid hq'; clear hq'
              gi_wp2_with fail
              refine ⟨fun _ h => (by cases h), ?_⟩
              gi_wp2_with fail
              go_roundw
              case rel => exact ⟨d + 1, by omega, by go_num, hown8, C5, by rw [HCS.out, ← HOM.out, if_pos HQ.out]; exact hj8, hbut5.trans (hbt8 _), hg5, hW8, by omega, hne5⟩
              case measure => simp [intOf]; omega
            · have hq' : ¬ om = nd := by simpa using hq
              have HQ := hid hq'; clear hq'
              have hnew : dueC Wd Hd o nd st i (d + 1) = dueC Wd Hd o nd st i d ++ [⟨st, om, nd, i, d, 0⟩] := by rw [HCS.out, ← HOM.out, if_neg HQ.out]
              obtain ⟨fn, tmps, asg, bdy, hy, hR⟩ := hY (dueO Wd Hd o nd st (L.take k) ++ dueC Wd Hd o nd st i d) ⟨st, om, nd, i, d, 0⟩ C5 w8 hj8 hW8 (by rw [List.append_assoc, ← hnew]; exact HPR.out)
              rw [List.append_assoc, ← hnew] at hR
              have HNEW := hid hnew; clear hnew
              dsimp only [encN] at hy
              gi_wp2_with fail
              refine ⟨rfl, hR.mono ?_⟩
              rintro e W4 ⟨C', hbut4, hg4, (⟨rfl, hj4⟩ | ⟨rfl, hj4⟩)⟩
              · have hs4 := hbut4.size
                have hBw4 : Below w₀.heap.size w₀ W4 := hW8.trans ⟨hbut4.os, hbut4.tape, hbut4.output, hbut4.size, fun b hb => hbut4.block b (by have := hW8.size; omega) (fun h => by have := (hC _ _ _ hj8 b h).1; omega)⟩
                gi_wp2_with fail
                go_roundw
                case rel => exact ⟨d + 1, by omega, by go_num, own_butN hown8 hbut4 hne5, C', hj4, (hbut5.trans (hbt8 _)).trans' hbut4 hg5, fun b h => (hg4 b h).elim (hg5 b) (fun h2 => .inr (by omega)), hBw4, by omega, fun g hg hc => (hg4 g hc).elim (hne5 g hg) (fun h2 => by have := own_lt hown8 g hg; omega)⟩
                case measure => simp [intOf]; omega
              · gi_wp2_with fail
                refine bodyPost_ret (results_none rfl _ _ _) rfl ?_
                exact ⟨⟨_, rfl⟩, C', (hbut5.trans (hbt8 _)).trans' hbut4 hg5, fun b h => (hg4 b h).elim (hg5 b) (fun h2 => .inr (by omega)), .inr ⟨_, by rw [← HL.out]; exact HPR.out, hj4⟩⟩
        · obtain rfl : d = 4 := (by omega)
          gi_wp2_with fail
          go_roundw
          case rel => exact ⟨k + 1, by omega, by go_num, hown5, C5, by rw [HT.out]; exact hj5, hbut5, hg5, hB5, hz5, hne5⟩
          case measure => simp [intOf]; omega
    · obtain rfl : k = L.length := (by omega)
      gi_wp2
      go_end0
      rw [List.take_length] at hj
      exact ⟨⟨_, rfl⟩, C, hbut, hg, .inl (by rw [← HL.out]; exact hj)⟩
end Go.Proofs.YtmmjaobpoiofdaaGreat
namespace Go.Proofs.YtmmjaobpoiofdaaGreat
open Go Go.RowKit
attribute [local go_sem] Oper.semAt_some
set_option linter.unusedVariables false
theorem own_sliceN {w : World} {base : Nat} {e : TypeId} {size n : Nat} {v : Value} {xs : List Value} (h : w.ownsRow base e size v n xs) : ∃ a k c, v = .slice a k c := by
  rcases h.2 with ⟨rfl, _⟩ | ⟨g', cap, cur, rfl, _⟩
  · exact ⟨_, _, _, rfl⟩
  · exact ⟨_, _, _, rfl⟩
theorem but_grownN {C : Nat → Prop} {X Y Z : World} {row : Option Nat} (h : But C X Y) (hg : Y.grownBy Z row) (hr : ∀ g, row = some g → C g) : But C X Z :=
  ⟨hg.os.trans h.os, hg.tape.trans h.tape, hg.output.trans h.output, Nat.le_trans h.size hg.size, fun b hb hc => (hg.block b (Nat.lt_of_lt_of_le hb h.size) (fun e => hc (hr b e.symm))).trans (h.block b hb hc)⟩
end Go.Proofs.YtmmjaobpoiofdaaGreat
namespace Go.Proofs.YtmmjaobpoiofdaaGreat
open Go Go.RowKit
set_option linter.unusedVariables false
/-- does the node own a cell? -/
def hasB (o : Nat → Int) (n : Nat) (nd : Int) : Bool := !(ownL o nd n).isEmpty
theorem hasB_iff {o : Nat → Int} {n : Nat} {nd : Int} : hasB o n nd = true ↔ ∃ k, k < n ∧ o k = nd := by
  unfold hasB
  rw [Bool.not_eq_true', ← Bool.not_eq_true, List.isEmpty_iff, ownL_nil]
  constructor
  · intro h
    exact Classical.byContradiction fun hc => h fun k hk e => hc ⟨k, hk, e⟩
  · rintro ⟨k, hk, e⟩ h
    exact h k hk e
theorem contains_has {o : Nat → Int} {n : Nat} {nd : Int} : ((ownersL o n).take n).contains nd = hasB o n nd := by
  rw [List.take_of_length_le (by simp [ownersL]), Bool.eq_iff_iff, hasB_iff]
  simp [ownersL]
theorem ints_Contains (a : Option Addr) (n c : Nat) (o : Nat → Int) (nd : Int) (w : World) (h0 : 0 < n) (hn : n ≤ 100000000) (HO : Sl w a n o) :
    Calls Tryz.prog 42 #[.slice a n c, .int .i64 nd] w fun e w' => e = .returned (.bool (hasB o n nd)) ∧ w = w' := by
  obtain ⟨b, off, rfl, _, _⟩ := HO 0 h0
  have h := Tryz.slices_Contains_int b off n c (ownersL o n) nd w (by rw [ownersL_length]; exact Nat.le_refl _) (by omega) (fun j hj => by
    rw [ownersL_length] at hj
    obtain ⟨b', off', e, _, hc⟩ := HO j hj
    injection e with e; injection e with e1 e2 _
    subst e1 e2
    rw [ownersL_get _ _ _ hj]; exact hc)
  rw [contains_has] at h
  exact h.mono fun e w' ⟨h1, h2⟩ => ⟨h1, h2.symm⟩
end Go.Proofs.YtmmjaobpoiofdaaGreat
