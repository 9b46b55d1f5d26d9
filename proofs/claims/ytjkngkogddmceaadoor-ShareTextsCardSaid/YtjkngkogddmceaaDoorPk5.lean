/- Walks of the share layer: Proof of the program; SameInts, SamePairs. -/
import Derived.Test.YtjkngkogddmceaaDoorPk2
import Derived.Test.YtjkngkogddmceaaDoorPk4
import Derived.Test.YtjkngkogddmceaaDoorPk3
import Derived.LoopIn
import Derived.Sort.CutIn
import Derived.LoopNIn
import Derived.TacticsInMore
import Derived.Shelf.Abstract
import Derived.Deep.AppendLies
namespace Go.Proofs.YtjkngkogddmceaaDoor
open Go Go.RowKit
set_option linter.unusedVariables false
def idR (f : Nat → Int) (l : Int) (n : Nat) : Int := if indexOf f l n < n then (indexOf f l n : Int) else -1
theorem slices_index (a : Option Addr) (n ca : Nat) (f : Nat → Int) (l : Int) (w : World) (hn : n ≤ 100000000) (H : Sl w a n f) : Calls Tryd.prog 26 #[.slice a n ca, .int .i64 l] w fun e w' => e = .returned (.int .i64 (idR f l n)) ∧ w = w' := by
  obtain ⟨s1, s2, s3⟩ := indexOf_spec f l n
  have HS2 := hid s2; have HS3 := hid s3; clear s2 s3
  go_enter Tryd.func26, Tryd.ntmps26
  go_wp2
  go_loop [8] (fun i => ∃ k : Nat, k ≤ indexOf f l n ∧ i = .int .i64 k) (fun i => n - (intOf i).toNat)
  case atStart => exact ⟨0, Nat.zero_le _, rfl⟩
  case round =>
    obtain ⟨k, hk, rfl⟩ := hrel
    by_cases hlt : k < n
    · obtain ⟨b, off, rfl, hb, hc⟩ := H k hlt
      cases hw : (l == f k)
      · have hke : k + 1 ≤ indexOf f l n := by
          rcases Nat.eq_or_lt_of_le hk with e | h'
          · have := HS3.out (by omega); rw [← e] at this; simp [this] at hw
          · exact h'
        go_wp2
        go_round
        case rel => exact ⟨k + 1, hke, by go_num⟩
        case measure => simp [intOf]; omega
      · have hke : k = indexOf f l n := by
          rcases Nat.eq_or_lt_of_le hk with e | h'
          · exact e
          · have := HS2.out k h'; simp at hw; exact absurd hw.symm this
        have HKE := hid hke; clear hke
        go_wp2
        go_ret
        exact ⟨ret_int (by rw [idR, ← HKE.out, if_pos hlt]), rfl⟩
    · go_wp2
      go_ret
      exact ⟨ret_int (by rw [idR, if_neg (by omega)]), rfl⟩
/-- what Proof gives -/
def prL (f : Nat → Int) (n : Nat) (k : Int) : List (Int × Int) := if vL n f && within k 1 16 then (List.range (proofN f n k.toNat)).map (proofF f n k.toNat) else []
def prE (f : Nat → Int) (n : Nat) (k : Int) : Int := if vL n f then (if within k 1 16 then (if leastL f n k.toNat = 0 then 8 else 0) else 7) else 1
theorem prE_ask {f : Nat → Int} {n : Nat} {k : Int} (h : ¬ (vL n f && within k 1 16) = true) : askS (vL n f) (within k 1 16) = prE f n k ∧ prE f n k ≠ 0 := by
  unfold askS prE
  cases h1 : vL n f <;> cases h2 : within k 1 16 <;> simp [h1, h2] at h ⊢
theorem pmap_length (g : Nat → Int × Int) (k : Nat) : ((List.range k).map g).length = k := by simp
theorem pmap_succ (g : Nat → Int × Int) (k : Nat) : (List.range (k + 1)).map g = (List.range k).map g ++ [g k] := by rw [List.range_succ]; simp
set_option maxRecDepth 100000 in
set_option maxHeartbeats 4000000 in
theorem share_Proof (a : Option Addr) (n ca : Nat) (k : Int) (f : Nat → Int) (w : World) (hn : n ≤ 100000000) (H : Sl w a n f) :
    Calls Tryd.prog 12 #[.slice a n ca, .int .i64 k] w (PairPost (prL f n k) (prE f n k) w) := by
  obtain ⟨j0, hj, hy0, hy1, hy2⟩ := info_parts infoP
  by_cases hv : (vL n f && within k 1 16) = true
  · have hL := hid (show prL f n k = (List.range (proofN f n k.toNat)).map (proofF f n k.toNat) by rw [prL, if_pos hv])
    have hE := hid (show prE f n k = if leastL f n k.toNat = 0 then 8 else 0 by rw [Bool.and_eq_true] at hv; rw [prE, if_pos hv.1, if_pos hv.2])
    rw [Bool.and_eq_true] at hv
    obtain ⟨hv1, hv2⟩ := hv
    have hk2 := (within_iff _ _ _).1 hv2
    have hV := (vL_iff _ _).1 hv1
    obtain ⟨m, rfl⟩ : ∃ m : Nat, k = (m : Int) := ⟨k.toNat, by omega⟩
    rw [Int.toNat_natCast] at hL hE
    have hask := fun W H => share_among a n ca (m : Int) f W hn H
    have hE0 : askS (vL n f) (within (m : Int) 1 16) = 0 := by rw [hv1, hv2]; rfl
    rw [hE0] at hask
    have hl := fun W H => share_least a n ca m f W hV (by omega) H
    have hidx := fun W l H => slices_index a n ca f l W hn H
    have l0 := leastL_nonneg (validL_nonneg hV) (show 0 < m by omega)
    have l1 := leastL_le (validL_nonneg hV) (show 0 < m by omega)
    have l2 := (sumTo_most hV.2.2 n (Nat.le_refl _)).2
    have hp := proofN f n m
    have hN : proofN f n m = if leastL f n m = 0 then 0 else if indexOf f (leastL f n m) n < n then 1 else m := rfl
    have hF : ∀ t, proofF f n m t = if indexOf f (leastL f n m) n < n then ((indexOf f (leastL f n m) n : Int), (indexOf f (leastL f n m) n : Int)) else ((aN f (leastL f n m) n t : Int), (aN f (leastL f n m) n (t + 1) : Int)) := fun t => rfl
    have hch := chain_spec (f := f) (n := n) (k := m) (validL_nonneg hV) hV.1 (by omega)
    obtain ⟨v1, v2, hf⟩ := hV
    have HF := hid hf; have HCH := hid hch; have HN := hid hN; have HFF := hid hF
    clear hf hch hN hF hp hv1 hv2 hE0
    have k1 : 1 ≤ m := by omega
    have k2 : m ≤ 16 := by omega
    clear hk2
    obtain ⟨L, hLL⟩ : ∃ L, leastL f n m = L := ⟨_, rfl⟩
    rw [hLL] at hl l0 l1
    rw [hLL] at hE HN HCH
    simp only [hLL] at HFF
    have l3 : L ≤ 64000000000 := by omega
    clear l1 l2 hLL
    go_enter Tryd.func12, Tryd.ntmps12
    go_wp2_with fail
    refine (hask _ H).mono ?_
    rintro e w' ⟨rfl, rfl⟩
    go_wp2_with fail
    refine (hl _ H).mono ?_
    rintro e w1 ⟨rfl, hb1⟩
    replace H := H.below hb1
    by_cases hz : L = 0
    · subst hz
      go_wp2_with fail
      go_ret2
      rw [hL.out, hE.out, HN.out]
      exact pairPost_nil hb1
    · have hzb : (L == 0) = false := by simpa using hz
      have HZ := hid hz; clear hz
      go_wp2_with fail
      refine (hidx _ L H).mono ?_
      rintro e w' ⟨rfl, rfl⟩
      by_cases hix : indexOf f L n < n
      · have hid1 : idR f L n = (indexOf f L n : Int) := by rw [idR, if_pos hix]
        rw [hid1]
        have HIX := hid hix
        generalize indexOf f L n = i at *
        clear hid1
        go_wp2_with fail
        go_ret2
        rw [hL.out, hE.out, HN.out, if_neg HZ.out, if_neg HZ.out, if_pos HIX.out]
        have e1 : (List.range 1).map (proofF f n m) = [((i : Int), (i : Int))] := by
          have := HFF.out 0
          rw [if_pos HIX.out] at this
          simp [List.range_succ, this]
        rw [e1]
        have U := Bx.new w1 #[.int .i64 (i : Int), .int .i64 (i : Int)] 37
        refine ⟨some ⟨w1.heap.size, 0, none⟩, 1, rfl, fun k hk => ?_, by (repeat' (first | with_reducible assumption | with_reducible exact Below.refl _ _ | with_reducible refine Below.drew ?_ | with_reducible refine below_drewN ?_ _ | with_reducible refine balloc ?_ _ | with_reducible refine bset ?_ ?_ _ | with_reducible refine Below.setCell ?_ ?_ _ | with_reducible refine Below.alloc ?_ ?_ _ | omega | (simp; done) | (simp; omega)))⟩
        have hk0 : k = 0 := by simpa using hk
        subst hk0
        exact ⟨w1.heap.size, 0, rfl, U.lt, U.at_ 0 rfl, U.at_ 1 rfl⟩
      · have hid1 : idR f L n = -1 := by rw [idR, if_neg hix]
        rw [hid1]
        have HIX := hid hix
        have hne : ∀ i, i < n → f i ≠ L := fun i hi => (indexOf_spec f L n).2.1 i (by have := (indexOf_spec f L n).1; omega)
        have HC := hid (HCH.out (by have := l0; have := HZ.out; omega) hne)
        have hlast := hid (fun t (ht : aN f L n t ≤ n) => lastOf_spec (f := f) (l := L) (n := n) (x := aN f L n t) ht)
        clear hid1 hix hne
        go_wp2_with fail
        go_loopw [9, 10, 34] (fun v s10 i wr => ∃ t : Nat, t ≤ m ∧ i = .int .i64 t ∧ s10 = .int .i64 (aN f L n t : Nat) ∧ wr.ownsRow w1.heap.size 37 2 v ((List.range t).map (fun t => ((aN f L n t : Int), (aN f L n (t + 1) : Int)))).length (flatP ((List.range t).map (fun t => ((aN f L n t : Int), (aN f L n (t + 1) : Int))))) ∧ Below w1.heap.size w1 wr) (fun _ _ i _ => m - (intOf i).toNat)
        case atStart => exact ⟨0, Nat.zero_le _, rfl, rfl, World.ownsRow_nil .., Below.refl _ _⟩
        case round =>
          obtain ⟨t, ht, rfl, rfl, hown, hb⟩ := hrel
          have hzb2 := hb.size
          have hpl := pmap_length (fun t => ((aN f L n t : Int), (aN f L n (t + 1) : Int))) t
          have hps := hid (pmap_succ (fun t => ((aN f L n t : Int), (aN f L n (t + 1) : Int))) t)
          by_cases hlt : t < m
          · obtain ⟨c1, _, c3⟩ := HC.out t ht
            obtain ⟨d1, d2⟩ := c3 hlt
            obtain ⟨e1, _, _⟩ := HC.out (t + 1) (by omega)
            obtain ⟨_, _, g3, _⟩ := hlast.out t (by omega)
            have g4 : lastOf f L n (aN f L n t) = aN f L n (t + 1) := rfl
            rw [g4] at g3
            have hp0 : ((aN f L n t : Int), (aN f L n (t + 1) : Int)) = ((fun t => ((aN f L n t : Int), (aN f L n (t + 1) : Int))) t) := rfl
            clear c3 g4 hp0
            generalize (List.range t).map (fun t => ((aN f L n t : Int), (aN f L n (t + 1) : Int))) = ps at hown hpl hps
            obtain ⟨x, hx⟩ : ∃ x, aN f L n t = x := ⟨_, rfl⟩
            obtain ⟨y, hy⟩ : ∃ y, aN f L n (t + 1) = y := ⟨_, rfl⟩
            rw [hx] at c1 d1 d2 g3 ⊢
            rw [hy] at d1 d2 e1 g3
            have HX := hid hx; have HY := hid hy; have G3 := hid g3
            clear hx hy g3
            obtain ⟨b, off, rfl, hbl, hc0⟩ := (H.below hb) x c1
            have hs1 : sg f x (x + 1) = f x := by rw [sg_succ, sg_self]; omega
            have HS1 := hid hs1; clear hs1
            obtain ⟨f0, f1⟩ := HF.out x c1
            go_upto_region 14 with (fail)
            go_quiet (fail)
            rename_i nq
            have hown2 := own_below hown (below_drewN (Below.refl _ wr) nq)
            have hb2 : Below w1.heap.size w1 (wr.drewN nq) := below_drewN hb nq
            generalize wr.drewN nq = wd at hown2 hb2 ⊢
            clear hown hc0
            go_wp2_with fail
            go_loop [11, 12] (fun s11 s12 => ∃ z : Nat, x ≤ z ∧ z ≤ y ∧ s11 = .int .i64 z ∧ s12 = .int .i64 (sg f x (z + 1))) (fun s11 _ => y - (intOf s11).toNat)
            case atStart => exact ⟨x, Nat.le_refl _, by omega, rfl, by rw [HS1.out]⟩
            case round =>
              obtain ⟨z, z0, z1, rfl, rfl⟩ := hrel
              have hss := hid (sg_succ f x (z + 1))
              have q1 := sumTo_most HF.out (z + 1) (by omega)
              have q2 := sumTo_most HF.out x (by omega)
              have q3 : sg f x (z + 1) = sumTo f (z + 1) - sumTo f x := rfl
              have q4 := G3.out z z0
              obtain ⟨S, hS⟩ : ∃ S, sg f x (z + 1) = S := ⟨_, rfl⟩
              rw [hS] at q3 q4 hss ⊢
              have s0 : -64000000000 ≤ S ∧ S ≤ 64000000000 := by omega
              obtain ⟨s1, s2⟩ := s0
              have HS := hid hS
              clear q1 q2 q3 hS
              by_cases hzy : z < y
              · have hlt2 : S < L := q4 hzy
                clear q4
                obtain ⟨b3, off3, e3, hbl3, hc3⟩ := (H.below hb2) (z + 1) (by omega)
                injection e3 with e3; injection e3 with e31 e32 _
                subst e31 e32
                obtain ⟨f2, f3⟩ := HF.out (z + 1) (by omega)
                go_wp2_with fail
                go_round
                case rel => exact ⟨z + 1, by omega, by omega, by go_num, by rw [hss.out]⟩
                case measure => simp [intOf]; omega
              · obtain rfl : z = y := (by omega)
                have hge : L ≤ S := by rw [← HS.out]; exact d2
                clear q4 d2
                have hzb3 := hb2.size
                go_wp2_with (at_builtin; refine wpList_append_own _ rfl _ _ 33 rfl (w1.heap.size) 37 j0 (.agg #[.int .i64 0, .int .i64 0]) 2 16 Tryd.underlying33 hj hy0 hy1 hy2 rfl (by decide) _ _ _ rfl ((hown2).alloc _) ⟨wd.heap.size, 0, none⟩ 1 1 (prow (((x : Int), (z : Int)))) rfl rfl (pcells_new _ (((x : Int), (z : Int))) _) (by simp [prow, Value.oneCell']) (by simp [maxLen]; omega) (by omega) (by simp; omega) ?_; intro v' w5 hown' hgrow _)
                go_roundw
                case rel => exact ⟨t + 1, by omega, by go_num, by rw [HY.out], by rw [hps.out, HX.out, HY.out]; exact pown_snoc hown', (hb2.alloc hb2.size _).grown hgrow (by simp; omega) (own_base hown2)⟩
                case measure => simp [intOf]; omega
          · obtain rfl : t = m := (by omega)
            go_wp2_with fail
            go_ret2
            rw [hL.out, hE.out, HN.out, if_neg HZ.out, if_neg HZ.out, if_neg HIX.out]
            have e1 : (List.range t).map (proofF f n t) = (List.range t).map (fun t => ((aN f L n t : Int), (aN f L n (t + 1) : Int))) := by
              refine List.map_congr_left fun j _ => ?_
              rw [HFF.out j, if_neg HIX.out]
            rw [e1]
            exact pairPost_own hown (bvia hb1 hb)
  · obtain ⟨he1, he2⟩ := prE_ask hv
    have hE := hid (show prL f n k = [] by rw [prL, if_neg hv])
    have hask := fun W H => share_among a n ca k f W hn H
    rw [he1] at hask
    generalize prE f n k = er at *
    have hb : (er != 0) = true := by simpa using he2
    clear he1 he2 hv
    go_enter Tryd.func12, Tryd.ntmps12
    go_wp2_with fail
    refine (hask _ H).mono ?_
    rintro e w' ⟨rfl, rfl⟩
    go_wp2_with fail
    go_ret2
    rw [hE.out]
    exact pairPost_nil (by (repeat' (first | with_reducible assumption | with_reducible exact Below.refl _ _ | with_reducible refine Below.drew ?_ | with_reducible refine below_drewN ?_ _ | with_reducible refine balloc ?_ _ | with_reducible refine bset ?_ ?_ _ | with_reducible refine Below.setCell ?_ ?_ _ | with_reducible refine Below.alloc ?_ ?_ _ | omega | (simp; done) | (simp; omega))))
end Go.Proofs.YtjkngkogddmceaaDoor
/- Walks of the share layer: the weights of a share, of the program. -/
namespace Go.Proofs.YtjkngkogddmceaaDoor
open Go Go.RowKit
attribute [local go_sem] Oper.semAt_some
set_option linter.unusedVariables false
section
variable {F : Fence} {n : Nat} {P : Program} {ops : Array Oper} {Q : Exit → Act → World → Prop} {md : Region.Mode} {S : World → Prop}
end
theorem Bx.one {W : World} {b : Nat} {x0 y : Value} (h : Bx W b #[x0]) : Bx (W.setCell ⟨b, 0, none⟩ y) b #[y] := h.set_ 0 (by simp) y
end Go.Proofs.YtjkngkogddmceaaDoor
/- Walks of the share layer: Best, Fits, Greedy and Nodes of the program; Greedy and Nodes of the reference. -/
namespace Go.Proofs.YtjkngkogddmceaaDoor
open Go Go.RowKit
set_option linter.unusedVariables false
/-- what Best gives -/
def besL (f : Nat → Int) (n : Nat) (k : Int) : List Int := if vL n f && within k 1 16 then bestL f n (leastL f n k.toNat) (k.toNat - 1) 0 else []
set_option maxRecDepth 100000 in
set_option maxHeartbeats 1000000 in
theorem share_Best (a : Option Addr) (n ca : Nat) (k : Int) (f : Nat → Int) (w : World) (hn : n ≤ 100000000) (hca : n ≤ ca) (hca2 : ca ≤ maxLen) (H : Sl w a n f) :
    Calls Tryd.prog 11 #[.slice a n ca, .int .i64 k] w (ListPost (besL f n k) (askS (vL n f) (within k 1 16)) w) := by
  cases hv : vL n f
  · have hE := hid (show besL f n k = [] by simp [besL, hv])
    go_enter Tryd.func11, Tryd.ntmps11
    go_wp2_with (go_at_call 23; refine (share_among a n ca k f _ hn H).mono ?_; rintro e w' ⟨rfl, rfl⟩; rw [hv])
    all_goals
      go_ret2
      rw [hE.out]
      exact listPost_nil (by (repeat' (first | with_reducible assumption | with_reducible exact Below.refl _ _ | with_reducible refine Below.drew ?_ | with_reducible refine below_drewN ?_ _ | with_reducible refine balloc ?_ _ | with_reducible refine bset ?_ ?_ _ | with_reducible refine Below.setCell ?_ ?_ _ | with_reducible refine Below.alloc ?_ ?_ _ | omega | (simp; done) | (simp; omega))))
  · cases hk : within k 1 16
    · have hE := hid (show besL f n k = [] by simp [besL, hk])
      go_enter Tryd.func11, Tryd.ntmps11
      go_wp2_with (go_at_call 23; refine (share_among a n ca k f _ hn H).mono ?_; rintro e w' ⟨rfl, rfl⟩; rw [hv, hk])
      go_ret2
      rw [hE.out]
      exact listPost_nil (by (repeat' (first | with_reducible assumption | with_reducible exact Below.refl _ _ | with_reducible refine Below.drew ?_ | with_reducible refine below_drewN ?_ _ | with_reducible refine balloc ?_ _ | with_reducible refine bset ?_ ?_ _ | with_reducible refine Below.setCell ?_ ?_ _ | with_reducible refine Below.alloc ?_ ?_ _ | omega | (simp; done) | (simp; omega))))
    · have hk2 := (within_iff _ _ _).1 hk
      obtain ⟨m, rfl⟩ : ∃ m : Nat, k = (m : Int) := ⟨k.toNat, by omega⟩
      have hE := hid (show besL f n m = bestL f n (leastL f n m) (m - 1) 0 by simp [besL, hv, hk])
      have hV := (vL_iff _ _).1 hv
      have hl := fun W H => share_best a n ca m f W hV (by omega) (by omega) hca hca2 H
      generalize bestL f n (leastL f n m) (m - 1) 0 = L at *
      go_enter Tryd.func11, Tryd.ntmps11
      go_wp2_with (first | (go_at_call 23; refine (share_among a n ca m f _ hn H).mono ?_; rintro e w' ⟨rfl, rfl⟩; rw [hv, hk]) | (go_at_call 25; refine (hl _ H).mono ?_; rintro e w1 ⟨v, rfl, hown, hb1⟩))
      go_ret2
      rw [hE.out]
      exact listPost_own hown hb1
end Go.Proofs.YtjkngkogddmceaaDoor
/- Walks of the share layer: SameInts, SamePairs, many, awake. -/
namespace Go.Proofs.YtjkngkogddmceaaDoor
open Go Go.RowKit
set_option linter.unusedVariables false
set_option maxHeartbeats 1000000 in
theorem ref6_sameInts (a b : Option Addr) (n m cap cap' : Nat) (f g : Nat → Int) (w : World) (hn : n ≤ 100000000) (hm : m ≤ 100000000) (H : Sl w a n f) (H' : Sl w b m g) :
    Calls Tryd.prog 9 #[.slice a n cap, .slice b m cap'] w fun e w' => e = .returned (.bool (sameL n f m g)) ∧ Below w.heap.size w w' := by
  cases hne : ((n : Int) != m)
  · have hnm : n = m := by simp at hne; omega
    subst hnm
    go_enter Tryd.func9, Tryd.ntmps9
    go_wp2
    go_loopw [5] (fun i wr => ∃ k : Nat, k ≤ n ∧ i = .int .i64 k ∧ (∀ j, j < k → f j = g j) ∧ Below w.heap.size w wr) (fun i _ => n - (intOf i).toNat)
    case atStart => exact ⟨0, Nat.zero_le _, rfl, fun j hj => by omega, by (repeat' (first | with_reducible assumption | with_reducible exact Below.refl _ _ | with_reducible refine Below.drew ?_ | with_reducible refine below_drewN ?_ _ | with_reducible refine balloc ?_ _ | with_reducible refine bset ?_ ?_ _ | with_reducible refine Below.setCell ?_ ?_ _ | with_reducible refine Below.alloc ?_ ?_ _ | omega | (simp; done) | (simp; omega)))⟩
    case round =>
      obtain ⟨k, hk, rfl, hok, hB⟩ := hrel
      have HOK := hid hok; clear hok
      by_cases hlt : k < n
      · obtain ⟨b1, o1, rfl, _, c1⟩ := (H.below hB) k hlt
        obtain ⟨b2, o2, rfl, _, c2⟩ := (H'.below hB) k hlt
        cases he : (f k != g k)
        · have he' : f k = g k := by simpa using he
          have HE := hid he'; clear he'
          go_wp2
          go_quiet (fail)
          go_wp2
          go_roundw
          case rel => exact ⟨k + 1, by omega, by go_num, fun j hj => by
              rcases Nat.lt_succ_iff_lt_or_eq.1 hj with h' | rfl
              · exact HOK.out j h'
              · exact HE.out, by (repeat' (first | with_reducible assumption | with_reducible exact Below.refl _ _ | with_reducible refine Below.drew ?_ | with_reducible refine below_drewN ?_ _ | with_reducible refine balloc ?_ _ | with_reducible refine bset ?_ ?_ _ | with_reducible refine Below.setCell ?_ ?_ _ | with_reducible refine Below.alloc ?_ ?_ _ | omega | (simp; done) | (simp; omega)))⟩
          case measure => simp [intOf]; omega
        · have he' : ¬ f k = g k := by simpa using he
          go_wp2
          go_quiet (fail)
          go_wp2
          go_ret
          exact ⟨ret_bool (sameL_no.2 (fun h => he' (h.2 k hlt))).symm, by (repeat' (first | with_reducible assumption | with_reducible exact Below.refl _ _ | with_reducible refine Below.drew ?_ | with_reducible refine below_drewN ?_ _ | with_reducible refine balloc ?_ _ | with_reducible refine bset ?_ ?_ _ | with_reducible refine Below.setCell ?_ ?_ _ | with_reducible refine Below.alloc ?_ ?_ _ | omega | (simp; done) | (simp; omega)))⟩
      · go_wp2
        go_ret
        obtain rfl : k = n := (by omega)
        exact ⟨ret_bool (sameL_iff.2 ⟨rfl, HOK.out⟩).symm, hB⟩
  · have hnm : ¬ n = m := by simp at hne; omega
    go_enter Tryd.func9, Tryd.ntmps9
    go_wp2
    go_ret
    exact ⟨ret_bool (sameL_no.2 (fun h => hnm h.1)).symm, by (repeat' (first | with_reducible assumption | with_reducible exact Below.refl _ _ | with_reducible refine Below.drew ?_ | with_reducible refine below_drewN ?_ _ | with_reducible refine balloc ?_ _ | with_reducible refine bset ?_ ?_ _ | with_reducible refine Below.setCell ?_ ?_ _ | with_reducible refine Below.alloc ?_ ?_ _ | omega | (simp; done) | (simp; omega)))⟩
theorem sameL_self (n : Nat) (f : Nat → Int) : sameL n f n f = true := sameL_iff.2 ⟨rfl, fun _ _ => rfl⟩
set_option maxRecDepth 100000 in
set_option maxHeartbeats 1000000 in
theorem ref9_samePairs (a b : Option Addr) (n cap cap' : Nat) (p q : Nat → Int × Int) (w : World) (hn : n ≤ 100000000) (H : Sq w a n p) (H' : Sq w b n q) (hpq : ∀ k, k < n → p k = q k) :
    Calls Tryd.prog 13 #[.slice a n cap, .slice b n cap'] w fun e w' => e = .returned (.bool true) ∧ Below w.heap.size w w' := by
  have HPQ := hid hpq; clear hpq
  go_enter Tryd.func13, Tryd.ntmps13
  go_wp2
  go_loopw [5] (fun i wr => ∃ k : Nat, k ≤ n ∧ i = .int .i64 k ∧ Below w.heap.size w wr) (fun i _ => n - (intOf i).toNat)
  case atStart => exact ⟨0, Nat.zero_le _, rfl, by (repeat' (first | with_reducible assumption | with_reducible exact Below.refl _ _ | with_reducible refine Below.drew ?_ | with_reducible refine below_drewN ?_ _ | with_reducible refine balloc ?_ _ | with_reducible refine bset ?_ ?_ _ | with_reducible refine Below.setCell ?_ ?_ _ | with_reducible refine Below.alloc ?_ ?_ _ | omega | (simp; done) | (simp; omega)))⟩
  case round =>
    obtain ⟨k, hk, rfl, hB⟩ := hrel
    by_cases hlt : k < n
    · obtain ⟨b1, o1, rfl, l1, c1, c1'⟩ := (H.below hB) k hlt
      obtain ⟨b2, o2, rfl, l2, c2, c2'⟩ := (H'.below hB) k hlt
      have he := HPQ.out k hlt
      rw [← he] at c2 c2'
      obtain ⟨x, hx⟩ : ∃ x, (p k).1 = x := ⟨_, rfl⟩
      obtain ⟨y, hy⟩ : ∃ y, (p k).2 = y := ⟨_, rfl⟩
      rw [hx] at c1 c2
      rw [hy] at c1' c2'
      have hne := neq_pair x y x y
      simp only [beq_self_eq_true, Bool.and_self, Bool.not_true] at hne
      clear he hx hy
      go_wp2
      go_quiet (fail)
      go_wp2
      go_roundw
      case rel => exact ⟨k + 1, by omega, by go_num, by (repeat' (first | with_reducible assumption | with_reducible exact Below.refl _ _ | with_reducible refine Below.drew ?_ | with_reducible refine below_drewN ?_ _ | with_reducible refine balloc ?_ _ | with_reducible refine bset ?_ ?_ _ | with_reducible refine Below.setCell ?_ ?_ _ | with_reducible refine Below.alloc ?_ ?_ _ | omega | (simp; done) | (simp; omega)))⟩
      case measure => simp [intOf]; omega
    · go_wp2
      go_ret
      exact ⟨rfl, hB⟩
def exF : Nat → Int := fun k => [3, 1, 4, 1, 5].getD k 0
theorem ex_least : leaR exF 5 2 = 8 := by decide +kernel
theorem ex_askS : askS (vL 5 exF) (within 2 1 16) = 0 := by decide +kernel
theorem ex_askS3 : askS (vL 5 exF) (within 3 1 16) = 0 := by decide +kernel
theorem ex_best2 : besL exF 5 2 = [3] := by decide +kernel
theorem ex_best3 : besL exF 5 3 = [2, 4] := by decide +kernel
theorem ex_proof : prL exF 5 2 = [(0, 2), (2, 4)] := by decide +kernel
theorem ex_proofE : prE exF 5 2 = 0 := by decide +kernel
theorem ex_sl (w : World) : Sl (w.alloc (.cells #[.int .i64 3, .int .i64 1, .int .i64 4, .int .i64 1, .int .i64 5] 3)) (some ⟨w.heap.size, 0, none⟩) 5 exF := fun k hk => by
  have X := Bx.new w #[.int .i64 3, .int .i64 1, .int .i64 4, .int .i64 1, .int .i64 5] 3
  refine ⟨_, 0, rfl, X.lt, ?_⟩
  rcases (by omega : k = 0 ∨ k = 1 ∨ k = 2 ∨ k = 3 ∨ k = 4) with rfl | rfl | rfl | rfl | rfl
  · exact X.at_ 0 rfl
  · exact X.at_ 1 rfl
  · exact X.at_ 2 rfl
  · exact X.at_ 3 rfl
  · exact X.at_ 4 rfl
theorem sl_one (w : World) (x : Int) : Sl (w.alloc (.cells #[.int .i64 x] 3)) (some ⟨w.heap.size, 0, none⟩) 1 (fun k => [x].getD k 0) := fun k hk => by
  obtain rfl : k = 0 := by omega
  have X := Bx.new w #[.int .i64 x] 3
  exact ⟨_, 0, rfl, X.lt, X.at_ 0 rfl⟩
theorem sl_two (w : World) (x y : Int) : Sl (w.alloc (.cells #[.int .i64 x, .int .i64 y] 3)) (some ⟨w.heap.size, 0, none⟩) 2 (fun k => [x, y].getD k 0) := fun k hk => by
  have X := Bx.new w #[.int .i64 x, .int .i64 y] 3
  refine ⟨_, 0, rfl, X.lt, ?_⟩
  rcases (by omega : k = 0 ∨ k = 1) with rfl | rfl
  · exact X.at_ 0 rfl
  · exact X.at_ 1 rfl
theorem sq_two (w : World) (x y u v : Int) : Sq (w.alloc (.cells #[.int .i64 x, .int .i64 y, .int .i64 u, .int .i64 v] 37)) (some ⟨w.heap.size, 0, none⟩) 2 (fun k => [(x, y), (u, v)].getD k (0, 0)) := fun k hk => by
  have X := Bx.new w #[.int .i64 x, .int .i64 y, .int .i64 u, .int .i64 v] 37
  rcases (by omega : k = 0 ∨ k = 1) with rfl | rfl
  · exact ⟨_, 0, rfl, X.lt, X.at_ 0 rfl, X.at_ 1 rfl⟩
  · exact ⟨_, 0, rfl, X.lt, X.at_ 2 rfl, X.at_ 3 rfl⟩
set_option maxRecDepth 100000 in
set_option maxHeartbeats 4000000 in
theorem awake9 (w : World) : Calls Tryd.prog 4 #[] w fun e w' => e = .returned (.bool true) ∧ Below w.heap.size w w' := by
  have H := ex_sl w
  have hB : Below w.heap.size w (w.alloc (.cells #[.int .i64 3, .int .i64 1, .int .i64 4, .int .i64 1, .int .i64 5] 3)) := below_alloc _ _
  go_enter Tryd.func4, Tryd.ntmps4
  go_wp2_with fail
  generalize w.alloc (.cells #[.int .i64 3, .int .i64 1, .int .i64 4, .int .i64 1, .int .i64 5] 3) = w0 at H hB ⊢
  have hca : 5 ≤ maxLen := by simp [maxLen]
  refine (share_Least _ 5 5 2 exF _ (by omega) H).mono ?_
  rw [ex_least, ex_askS]
  rintro e w1 ⟨rfl, hb1⟩
  replace H := H.below hb1
  replace hB := bvia hB hb1
  clear hb1
  go_wp2_with fail
  refine (share_Best _ 5 5 2 exF _ (by omega) (by omega) hca H).mono ?_
  rw [ex_best2, ex_askS]
  rintro e w2 ⟨a2, c2, rfl, S2, hb2⟩
  replace H := H.below hb2
  replace hB := bvia hB hb2
  clear hb2
  go_wp2_with fail
  refine (share_Proof _ 5 5 2 exF _ (by omega) H).mono ?_
  rw [ex_proof, ex_proofE]
  rintro e w3 ⟨a3, c3, rfl, Q3, hb3⟩
  replace H := H.below hb3
  replace S2 := S2.below hb3
  replace hB := bvia hB hb3
  clear hb3
  go_wp2_with fail
  refine (share_Best _ 5 5 3 exF _ (by omega) (by omega) hca H).mono ?_
  rw [ex_best3, ex_askS3]
  rintro e w4 ⟨a4, c4, rfl, S4, hb4⟩
  replace H := H.below hb4
  replace S2 := S2.below hb4
  replace Q3 := Q3.below hb4
  replace hB := bvia hB hb4
  clear hb4
  simp only [List.length_cons, List.length_nil, Nat.zero_add] at S2 Q3 S4 ⊢
  go_wp2_with fail
  refine (ref6_sameInts _ _ 1 1 _ _ _ _ _ (by omega) (by omega) (S2.alloc _) (sl_one _ 3)).mono ?_
  rintro e w5 ⟨rfl, hb5⟩
  rw [sameL_self]
  replace S4 := (S4.alloc (.cells #[.int .i64 3] 3)).below hb5
  replace Q3 := (Q3.alloc (.cells #[.int .i64 3] 3)).below hb5
  replace hB := bvia (balloc hB (.cells #[.int .i64 3] 3)) hb5
  clear S2 H hb5
  go_wp2_with fail
  refine (ref6_sameInts _ _ 2 2 _ _ _ _ _ (by omega) (by omega) (S4.alloc _) (sl_two _ 2 4)).mono ?_
  rintro e w6 ⟨rfl, hb6⟩
  rw [sameL_self]
  replace Q3 := (Q3.alloc (.cells #[.int .i64 2, .int .i64 4] 3)).below hb6
  replace hB := bvia (balloc hB (.cells #[.int .i64 2, .int .i64 4] 3)) hb6
  clear S4 hb6
  go_wp2_with fail
  refine (ref9_samePairs _ _ 2 _ _ _ _ _ (by omega) (Q3.alloc _) (sq_two _ 0 2 2 4) (fun _ _ => rfl)).mono ?_
  rintro e w7 ⟨rfl, hb7⟩
  go_wp2_with fail
  go_ret
  exact ⟨rfl, bvia (balloc hB _) hb7⟩
end Go.Proofs.YtjkngkogddmceaaDoor
/- ShareTexts: the walk of the law. -/
namespace Go.Proofs.YtjkngkogddmceaaDoor
open Go Go.RowKit
set_option linter.unusedVariables false
theorem prs_back {s : List UInt8} (h : prsE s = 0) : fmtLs (prsL s) = s := by
  unfold prsE at h
  unfold prsL
  by_cases h1 : 65536 < s.length
  · rw [if_pos h1] at h; cases h
  · rw [if_neg h1] at h ⊢
    by_cases h2 : s = []
    · rw [if_pos h2, h2]; unfold fmtLs fmtS; split <;> rfl
    · rw [if_neg h2] at h ⊢
      by_cases h3 : fmtLs (outS s) = s
      · rw [if_pos h3]; exact h3
      · rw [if_neg h3] at h; cases h
theorem range_get {c : Nat → Int} {n k : Nat} (hk : k < n) : ((List.range n).map c).getD k 0 = c k := by
  simp [List.getD_eq_getElem?_getD, hk]
theorem fmt_parse (n : Nat) (c : Nat → Int) (hn : n ≤ 30) : prsE (fmtS n c) = 0 ∧ (fmtS n c ≠ [] → prsL (fmtS n c) = (List.range n).map c) ∧ (fmtS n c).length ≤ 1000 := by
  by_cases h0 : fmtS n c = []
  · rw [h0]; exact ⟨by decide, fun h => absurd rfl h, by simp⟩
  · have hv : vK 64 n c = true := by
      cases hv : vK 64 n c
      · exfalso; apply h0; unfold fmtS; rw [hv]; rfl
      · rfl
    have he : fmtS n c = unwords 32 (itsS c n) := by unfold fmtS; rw [if_pos hv]
    have hk := (vK_iff _ _ _).1 hv
    have hc : ∀ j, j < n → 0 ≤ c j ∧ c j ≤ 64 := fun j hj => ⟨(hk.2 j hj).1, (hk.2 j hj).2.1⟩
    have hl := unwords_le 32 (itsS c n) (itsS_le hc)
    rw [itsS_length, ← he] at hl
    have hw : wordsL 32 (fmtS n c) = itsS c n := by
      rw [he]
      refine words_unwords ?_ ?_
      · intro e; rw [he, e] at h0; exact h0 rfl
      · intro x hx y hy
        obtain ⟨j, hj, rfl⟩ := List.mem_map.1 hx
        exact itoa_no (by decide) y hy
    have hlen : ((List.range n).map c).length = (wordsL 32 (fmtS n c)).length := by rw [hw, itsS_length]; simp
    have hall : ∀ k, k < (wordsL 32 (fmtS n c)).length → numB (((List.range n).map c).getD k 0) ∧ (wordsL 32 (fmtS n c)).getD k [] = Lib.itoa (((List.range n).map c).getD k 0) := fun k hk => by
      rw [hw, itsS_length] at hk
      rw [hw, itsS_get hk, range_get hk]
      have := hc k hk
      exact ⟨by unfold numB; omega, rfl⟩
    have ho := outS_nums hlen hall
    have hv2 : vK 64 ((List.range n).map c).length (fun k => ((List.range n).map c).getD k 0) = true := by
      rw [vK_iff]
      refine ⟨by simpa using hk.1, fun i hi => ?_⟩
      have hi' : i < n := by simpa using hi
      have h1 := hk.2 i hi'
      dsimp only
      rw [range_get hi', range_get (by omega : i - 1 < n)]
      exact h1
    have hf := fmt_ok hlen hall hv2
    refine ⟨?_, fun _ => ?_, by omega⟩
    · unfold prsE; rw [if_neg (by omega), if_neg h0, ho, if_pos hf]
    · unfold prsL; rw [if_neg (by omega), if_neg h0, ho, if_pos hf]
theorem same_refl (n : Nat) (f : Nat → Int) : sameL n f n f = true := (sameL_iff ..).2 ⟨rfl, fun _ _ => rfl⟩
set_option maxRecDepth 100000 in
set_option maxHeartbeats 4000000 in
theorem walk_texts (a : Option Addr) (n cap : Nat) (c : Nat → Int) (s : List UInt8) (w : World) (H : Sl w a n c) (HE : EnvS w) :
    Calls Tryd.prog 3 #[.slice a n cap, .string ⟨s.toArray⟩] w fun e w' => e = .returned (.bool true) ∧ Below w.heap.size w w' := by
  have hsz := vStr_size s
  by_cases hl1 : 30 < n
  · have i1 : (30 : Int) < (n : Int) := by omega
    go_enter Tryd.func3, Tryd.ntmps3
    go_wp2_with (go_at_call 4; refine (awake9 _).mono ?_; rintro e w1 ⟨rfl, hb1⟩)
    go_ret
    exact ⟨rfl, hb1⟩
  have i1 : ¬ (30 : Int) < (n : Int) := by omega
  by_cases hl2 : 2000 < s.length
  · have i2 : (2000 : Int) < (s.length : Int) := by omega
    go_enter Tryd.func3, Tryd.ntmps3
    go_wp2_with (go_at_call 4; refine (awake9 _).mono ?_; rintro e w1 ⟨rfl, hb1⟩)
    go_ret
    exact ⟨rfl, hb1⟩
  have i2 : ¬ (2000 : Int) < (s.length : Int) := by omega
  have hf1 := fun W HW => share_Format a n cap c W (by omega) HW
  have hf2 := fun W HW => ref9_Format a n cap c W (by omega) HW
  have hp1 := fun W HW => share_Parse s W (by omega) HW
  have hp2 := fun W => ref9_Parse s W (by omega)
  obtain ⟨k1, k2, k3⟩ := fmt_parse n c (by omega)
  have hp3 := fun W HW => share_Parse (fmtS n c) W (by omega) HW
  rw [k1] at hp3
  generalize fmtS n c = T at *
  have hsT := vStr_size T
  have hbk := fun (h : prsE s = 0) => prs_back h
  have hL : (prsL s).length ≤ 1000000 := by
    have := words_length 32 s
    unfold prsL
    split
    · simp
    · split
      · simp
      · split
        · simp [outS]; omega
        · simp
  have hf3 := fun a c W HW => share_Format a (prsL s).length c (fun k => (prsL s).getD k 0) W (by omega) HW
  change ∀ a c W HW, Calls _ _ _ _ fun e w' => e = .returned (.string ⟨(fmtLs (prsL s)).toArray⟩) ∧ _ at hf3
  generalize prsL s = L at *
  generalize prsE s = E at *
  generalize fmtLs L = F at *
  have hsm := fun a b cp cp' W h h' => ref6_sameInts a b L.length L.length cp cp' (fun k => L.getD k 0) (fun k => L.getD k 0) W (by omega) (by omega) h h'
  rw [same_refl] at hsm
  have HK2 := hid k2; have HBK := hid hbk
  clear k2 hbk k1 hl1 hl2 k3
  go_enter Tryd.func3, Tryd.ntmps3
  go_wp2_with (go_at_call 4; refine (awake9 _).mono ?_; rintro e w1 ⟨rfl, hb1⟩)
  have H1 := H.below hb1
  have HE1 := HE.below hb1
  go_wp2_with (first | (go_at_call 5; refine (hf1 _ H1).mono ?_; rintro e w2 ⟨rfl, hb2⟩) | (go_at_call 6; refine (hp1 _ (HE1.below hb2)).mono ?_; rintro e w3 ⟨a3, c3, rfl, S3, hb3⟩) | (go_at_call 7; refine (hp2 _).mono ?_; rintro e w4 ⟨a4, c4, rfl, S4, hb4⟩))
  have b14 := bvia (bvia hb2 hb3) hb4
  have S34 := S3.below hb4
  refine (hf2 _ (H1.below b14)).mono ?_
  rintro e w5 ⟨rfl, hb5⟩
  have b15 := bvia b14 hb5
  have S35 := S34.below hb5
  have S45 := S4.below hb5
  by_cases hE : E = 0
  · have hb := HBK.out hE
    subst hE
    subst hb
    go_wp2_with (first | (go_at_call 9; refine (hsm _ _ _ _ _ S35 S45).mono ?_; rintro e w6 ⟨rfl, hb6⟩) | (go_at_call 5; refine (hf3 _ _ _ (S35.below hb6)).mono ?_; rintro e w7 ⟨rfl, hb7⟩))
    have b17 := bvia (bvia b15 hb6) hb7
    go_wp2_with (go_at_call 6; refine (hp3 _ (HE1.below b17)).mono ?_; rintro e w8 ⟨a8, c8, rfl, S8, hb8⟩)
    have hw8 : Below w.heap.size w w8 := bvia (bvia hb1 b17) hb8
    have H8 := H1.below (bvia b17 hb8)
    by_cases hT : T = []
    · have hTe : T.isEmpty = true := by rw [hT]; rfl
      have hTs : T.toArray = #[] := by rw [hT]
      have hTd : ByteArray.mk T.toArray = ByteArray.mk #[] := by rw [hT]
      have hsm2 := fun cp cp' => ref6_sameInts a8 a (prsL T).length n cp cp' (fun k => (prsL T).getD k 0) c w8 (by rw [hT]; simp [prsL]) (by omega) S8 H8
      subst hT
      generalize sameL (prsL []).length (fun k => (prsL []).getD k 0) n c = b at *
      cases b
      · go_wp2_with (go_at_call 9; refine (hsm2 _ _).mono ?_; rintro e w9 ⟨rfl, hb9⟩)
        go_ret
        exact ⟨rfl, bvia hw8 hb9⟩
      · go_wp2_with (go_at_call 9; refine (hsm2 _ _).mono ?_; rintro e w9 ⟨rfl, hb9⟩)
        go_ret
        exact ⟨rfl, bvia hw8 hb9⟩
    · have e8 := HK2.out hT
      have hsm2 := fun cp cp' => ref6_sameInts a8 a (prsL T).length n cp cp' (fun k => (prsL T).getD k 0) c w8 (by rw [e8]; simp; omega) (by omega) S8 H8
      rw [(sameL_iff (n := (prsL T).length) (f := fun k => (prsL T).getD k 0) (m := n) (g := c)).2 ⟨by rw [e8]; simp, fun k hk => by
        rw [e8] at hk ⊢
        exact range_get (by simpa using hk)⟩] at hsm2
      clear e8
      go_wp2_with (go_at_call 9; refine (hsm2 _ _).mono ?_; rintro e w9 ⟨rfl, hb9⟩)
      go_ret
      exact ⟨rfl, bvia hw8 hb9⟩
  · have hEb : (E == 0) = false := by rw [beq_eq_false_iff_ne]; exact hE
    clear hE
    go_wp2_with (go_at_call 9; refine (hsm _ _ _ _ _ S35 S45).mono ?_; rintro e w6 ⟨rfl, hb6⟩)
    have b16 := bvia b15 hb6
    go_wp2_with (go_at_call 6; refine (hp3 _ (HE1.below b16)).mono ?_; rintro e w8 ⟨a8, c8, rfl, S8, hb8⟩)
    have hw8 : Below w.heap.size w w8 := bvia (bvia hb1 b16) hb8
    have H8 := H1.below (bvia b16 hb8)
    by_cases hT : T = []
    · have hTe : T.isEmpty = true := by rw [hT]; rfl
      have hTs : T.toArray = #[] := by rw [hT]
      have hTd : ByteArray.mk T.toArray = ByteArray.mk #[] := by rw [hT]
      have hsm2 := fun cp cp' => ref6_sameInts a8 a (prsL T).length n cp cp' (fun k => (prsL T).getD k 0) c w8 (by rw [hT]; simp [prsL]) (by omega) S8 H8
      subst hT
      generalize sameL (prsL []).length (fun k => (prsL []).getD k 0) n c = b at *
      cases b
      · go_wp2_with (go_at_call 9; refine (hsm2 _ _).mono ?_; rintro e w9 ⟨rfl, hb9⟩)
        go_ret
        exact ⟨rfl, bvia hw8 hb9⟩
      · go_wp2_with (go_at_call 9; refine (hsm2 _ _).mono ?_; rintro e w9 ⟨rfl, hb9⟩)
        go_ret
        exact ⟨rfl, bvia hw8 hb9⟩
    · have e8 := HK2.out hT
      have hsm2 := fun cp cp' => ref6_sameInts a8 a (prsL T).length n cp cp' (fun k => (prsL T).getD k 0) c w8 (by rw [e8]; simp; omega) (by omega) S8 H8
      rw [(sameL_iff (n := (prsL T).length) (f := fun k => (prsL T).getD k 0) (m := n) (g := c)).2 ⟨by rw [e8]; simp, fun k hk => by
        rw [e8] at hk ⊢
        exact range_get (by simpa using hk)⟩] at hsm2
      clear e8
      go_wp2_with (go_at_call 9; refine (hsm2 _ _).mono ?_; rintro e w9 ⟨rfl, hb9⟩)
      go_ret
      exact ⟨rfl, bvia hw8 hb9⟩
end Go.Proofs.YtjkngkogddmceaaDoor
