/- Walks of the share layer: Proof of the program; SameInts, SamePairs. -/
import Derived.Test.YtgpcmkoimgnlbaaSPairs
import Derived.Test.YtgpcmkoimgnlbaaSWalk5
namespace Go.Proofs.Ytgpcmkoimgnlbaa
open Go Go.RowKit
set_option linter.unusedVariables false
def idR (f : Nat → Int) (l : Int) (n : Nat) : Int := if indexOf f l n < n then (indexOf f l n : Int) else -1
theorem slices_index (a : Option Addr) (n ca : Nat) (f : Nat → Int) (l : Int) (w : World) (hn : n ≤ 100000000) (H : Sl w a n f) : Calls Try.prog 57 #[.slice a n ca, .int .i64 l] w fun e w' => e = .returned (.int .i64 (idR f l n)) ∧ w = w' := by
  obtain ⟨s1, s2, s3⟩ := indexOf_spec f l n
  have HS2 := hid s2; have HS3 := hid s3; clear s2 s3
  go_enter Try.func57, Try.ntmps57
  go_wp2
  go_loop [8] (fun i => ∃ k : Nat, k ≤ indexOf f l n ∧ i = .int .i64 k) (fun i => n - (intOf i).toNat)
  case atStart => exact ⟨0, Nat.zero_le _, rfl⟩
  case round =>
    obtain ⟨k, hk, rfl⟩ := hrel
    by_cases hlt : k < n
    · obtain ⟨b, off, rfl, hb, hc⟩ := H k hlt
      cases hw : (l == f k)
      · have hke : k + 1 ≤ indexOf f l n := by
          rcases Nat.eq_or_lt_of_le hk with e | h'
          · have := HS3.out (by omega); rw [← e] at this; simp [this] at hw
          · exact h'
        go_wp2
        go_round
        case rel => exact ⟨k + 1, hke, by go_num⟩
        case measure => simp [intOf]; omega
      · have hke : k = indexOf f l n := by
          rcases Nat.eq_or_lt_of_le hk with e | h'
          · exact e
          · have := HS2.out k h'; simp at hw; exact absurd hw.symm this
        have HKE := hid hke; clear hke
        go_wp2
        go_ret
        exact ⟨ret_int (by rw [idR, ← HKE.out, if_pos hlt]), rfl⟩
    · go_wp2
      go_ret
      exact ⟨ret_int (by rw [idR, if_neg (by omega)]), rfl⟩
/-- what Proof gives -/
def prL (f : Nat → Int) (n : Nat) (k : Int) : List (Int × Int) := if vL n f && within k 1 16 then (List.range (proofN f n k.toNat)).map (proofF f n k.toNat) else []
def prE (f : Nat → Int) (n : Nat) (k : Int) : Int := if vL n f then (if within k 1 16 then (if leastL f n k.toNat = 0 then 8 else 0) else 7) else 1
theorem prE_ask {f : Nat → Int} {n : Nat} {k : Int} (h : ¬ (vL n f && within k 1 16) = true) : askE (vL n f) (within k 1 16) = prE f n k ∧ prE f n k ≠ 0 := by
  unfold askE prE
  cases h1 : vL n f <;> cases h2 : within k 1 16 <;> simp [h1, h2] at h ⊢
theorem pmap_length (g : Nat → Int × Int) (k : Nat) : ((List.range k).map g).length = k := by simp
theorem pmap_succ (g : Nat → Int × Int) (k : Nat) : (List.range (k + 1)).map g = (List.range k).map g ++ [g k] := by rw [List.range_succ]; simp
set_option maxRecDepth 100000 in
set_option maxHeartbeats 4000000 in
theorem share_Proof (a : Option Addr) (n ca : Nat) (k : Int) (f : Nat → Int) (w : World) (hn : n ≤ 100000000) (H : Sl w a n f) :
    Calls Try.prog 25 #[.slice a n ca, .int .i64 k] w (PairPost (prL f n k) (prE f n k) w) := by
  obtain ⟨j0, hj, hy0, hy1, hy2⟩ := info_parts infoP
  by_cases hv : (vL n f && within k 1 16) = true
  · have hL := hid (show prL f n k = (List.range (proofN f n k.toNat)).map (proofF f n k.toNat) by rw [prL, if_pos hv])
    have hE := hid (show prE f n k = if leastL f n k.toNat = 0 then 8 else 0 by rw [Bool.and_eq_true] at hv; rw [prE, if_pos hv.1, if_pos hv.2])
    rw [Bool.and_eq_true] at hv
    obtain ⟨hv1, hv2⟩ := hv
    have hk2 := (within_iff _ _ _).1 hv2
    have hV := (vL_iff _ _).1 hv1
    obtain ⟨m, rfl⟩ : ∃ m : Nat, k = (m : Int) := ⟨k.toNat, by omega⟩
    rw [Int.toNat_natCast] at hL hE
    have hask := fun W H => share_among a n ca (m : Int) f W hn H
    have hE0 : askE (vL n f) (within (m : Int) 1 16) = 0 := by rw [hv1, hv2]; rfl
    rw [hE0] at hask
    have hl := fun W H => share_least a n ca m f W hV (by omega) H
    have hidx := fun W l H => slices_index a n ca f l W hn H
    have l0 := leastL_nonneg (validL_nonneg hV) (show 0 < m by omega)
    have l1 := leastL_le (validL_nonneg hV) (show 0 < m by omega)
    have l2 := (sumTo_most hV.2.2 n (Nat.le_refl _)).2
    have hp := proofN f n m
    have hN : proofN f n m = if leastL f n m = 0 then 0 else if indexOf f (leastL f n m) n < n then 1 else m := rfl
    have hF : ∀ t, proofF f n m t = if indexOf f (leastL f n m) n < n then ((indexOf f (leastL f n m) n : Int), (indexOf f (leastL f n m) n : Int)) else ((aN f (leastL f n m) n t : Int), (aN f (leastL f n m) n (t + 1) : Int)) := fun t => rfl
    have hch := chain_spec (f := f) (n := n) (k := m) (validL_nonneg hV) hV.1 (by omega)
    obtain ⟨v1, v2, hf⟩ := hV
    have HF := hid hf; have HCH := hid hch; have HN := hid hN; have HFF := hid hF
    clear hf hch hN hF hp hv1 hv2 hE0
    have k1 : 1 ≤ m := by omega
    have k2 : m ≤ 16 := by omega
    clear hk2
    obtain ⟨L, hLL⟩ : ∃ L, leastL f n m = L := ⟨_, rfl⟩
    rw [hLL] at hl l0 l1
    rw [hLL] at hE HN HCH
    simp only [hLL] at HFF
    have l3 : L ≤ 64000000000 := by omega
    clear l1 l2 hLL
    go_enter Try.func25, Try.ntmps25
    go_wp2_with fail
    refine (hask _ H).mono ?_
    rintro e w' ⟨rfl, rfl⟩
    go_wp2_with fail
    refine (hl _ H).mono ?_
    rintro e w1 ⟨rfl, hb1⟩
    replace H := H.below hb1
    by_cases hz : L = 0
    · subst hz
      go_wp2_with fail
      go_ret2
      rw [hL.out, hE.out, HN.out]
      exact pairPost_nil hb1
    · have hzb : (L == 0) = false := by simpa using hz
      have HZ := hid hz; clear hz
      go_wp2_with fail
      refine (hidx _ L H).mono ?_
      rintro e w' ⟨rfl, rfl⟩
      by_cases hix : indexOf f L n < n
      · have hid1 : idR f L n = (indexOf f L n : Int) := by rw [idR, if_pos hix]
        rw [hid1]
        have HIX := hid hix
        generalize indexOf f L n = i at *
        clear hid1
        go_wp2_with fail
        go_ret2
        rw [hL.out, hE.out, HN.out, if_neg HZ.out, if_neg HZ.out, if_pos HIX.out]
        have e1 : (List.range 1).map (proofF f n m) = [((i : Int), (i : Int))] := by
          have := HFF.out 0
          rw [if_pos HIX.out] at this
          simp [List.range_succ, this]
        rw [e1]
        have U := Bx.new w1 #[.int .i64 (i : Int), .int .i64 (i : Int)] 46
        refine ⟨some ⟨w1.heap.size, 0, none⟩, 1, rfl, fun k hk => ?_, by (repeat' (first | with_reducible assumption | with_reducible exact Below.refl _ _ | with_reducible refine Below.drew ?_ | with_reducible refine below_drewN ?_ _ | with_reducible refine balloc ?_ _ | with_reducible refine bset ?_ ?_ _ | with_reducible refine Below.setCell ?_ ?_ _ | with_reducible refine Below.alloc ?_ ?_ _ | omega | (simp; done) | (simp; omega)))⟩
        have hk0 : k = 0 := by simpa using hk
        subst hk0
        exact ⟨w1.heap.size, 0, rfl, U.lt, U.at_ 0 rfl, U.at_ 1 rfl⟩
      · have hid1 : idR f L n = -1 := by rw [idR, if_neg hix]
        rw [hid1]
        have HIX := hid hix
        have hne : ∀ i, i < n → f i ≠ L := fun i hi => (indexOf_spec f L n).2.1 i (by have := (indexOf_spec f L n).1; omega)
        have HC := hid (HCH.out (by have := l0; have := HZ.out; omega) hne)
        have hlast := hid (fun t (ht : aN f L n t ≤ n) => lastOf_spec (f := f) (l := L) (n := n) (x := aN f L n t) ht)
        clear hid1 hix hne
        go_wp2_with fail
        go_loopw [9, 10, 34] (fun v s10 i wr => ∃ t : Nat, t ≤ m ∧ i = .int .i64 t ∧ s10 = .int .i64 (aN f L n t : Nat) ∧ wr.ownsRow w1.heap.size 46 2 v ((List.range t).map (fun t => ((aN f L n t : Int), (aN f L n (t + 1) : Int)))).length (flatP ((List.range t).map (fun t => ((aN f L n t : Int), (aN f L n (t + 1) : Int))))) ∧ Below w1.heap.size w1 wr) (fun _ _ i _ => m - (intOf i).toNat)
        case atStart => exact ⟨0, Nat.zero_le _, rfl, rfl, World.ownsRow_nil .., Below.refl _ _⟩
        case round =>
          obtain ⟨t, ht, rfl, rfl, hown, hb⟩ := hrel
          have hzb2 := hb.size
          have hpl := pmap_length (fun t => ((aN f L n t : Int), (aN f L n (t + 1) : Int))) t
          have hps := hid (pmap_succ (fun t => ((aN f L n t : Int), (aN f L n (t + 1) : Int))) t)
          by_cases hlt : t < m
          · obtain ⟨c1, _, c3⟩ := HC.out t ht
            obtain ⟨d1, d2⟩ := c3 hlt
            obtain ⟨e1, _, _⟩ := HC.out (t + 1) (by omega)
            obtain ⟨_, _, g3, _⟩ := hlast.out t (by omega)
            have g4 : lastOf f L n (aN f L n t) = aN f L n (t + 1) := rfl
            rw [g4] at g3
            have hp0 : ((aN f L n t : Int), (aN f L n (t + 1) : Int)) = ((fun t => ((aN f L n t : Int), (aN f L n (t + 1) : Int))) t) := rfl
            clear c3 g4 hp0
            generalize (List.range t).map (fun t => ((aN f L n t : Int), (aN f L n (t + 1) : Int))) = ps at hown hpl hps
            obtain ⟨x, hx⟩ : ∃ x, aN f L n t = x := ⟨_, rfl⟩
            obtain ⟨y, hy⟩ : ∃ y, aN f L n (t + 1) = y := ⟨_, rfl⟩
            rw [hx] at c1 d1 d2 g3 ⊢
            rw [hy] at d1 d2 e1 g3
            have HX := hid hx; have HY := hid hy; have G3 := hid g3
            clear hx hy g3
            obtain ⟨b, off, rfl, hbl, hc0⟩ := (H.below hb) x c1
            have hs1 : sg f x (x + 1) = f x := by rw [sg_succ, sg_self]; omega
            have HS1 := hid hs1; clear hs1
            obtain ⟨f0, f1⟩ := HF.out x c1
            go_upto_region 14 with (fail)
            go_quiet (fail)
            rename_i nq
            have hown2 := own_below hown (below_drewN (Below.refl _ wr) nq)
            have hb2 : Below w1.heap.size w1 (wr.drewN nq) := below_drewN hb nq
            generalize wr.drewN nq = wd at hown2 hb2 ⊢
            clear hown hc0
            go_wp2_with fail
            go_loop [11, 12] (fun s11 s12 => ∃ z : Nat, x ≤ z ∧ z ≤ y ∧ s11 = .int .i64 z ∧ s12 = .int .i64 (sg f x (z + 1))) (fun s11 _ => y - (intOf s11).toNat)
            case atStart => exact ⟨x, Nat.le_refl _, by omega, rfl, by rw [HS1.out]⟩
            case round =>
              obtain ⟨z, z0, z1, rfl, rfl⟩ := hrel
              have hss := hid (sg_succ f x (z + 1))
              have q1 := sumTo_most HF.out (z + 1) (by omega)
              have q2 := sumTo_most HF.out x (by omega)
              have q3 : sg f x (z + 1) = sumTo f (z + 1) - sumTo f x := rfl
              have q4 := G3.out z z0
              obtain ⟨S, hS⟩ : ∃ S, sg f x (z + 1) = S := ⟨_, rfl⟩
              rw [hS] at q3 q4 hss ⊢
              have s0 : -64000000000 ≤ S ∧ S ≤ 64000000000 := by omega
              obtain ⟨s1, s2⟩ := s0
              have HS := hid hS
              clear q1 q2 q3 hS
              by_cases hzy : z < y
              · have hlt2 : S < L := q4 hzy
                clear q4
                obtain ⟨b3, off3, e3, hbl3, hc3⟩ := (H.below hb2) (z + 1) (by omega)
                injection e3 with e3; injection e3 with e31 e32 _
                subst e31 e32
                obtain ⟨f2, f3⟩ := HF.out (z + 1) (by omega)
                go_wp2_with fail
                go_round
                case rel => exact ⟨z + 1, by omega, by omega, by go_num, by rw [hss.out]⟩
                case measure => simp [intOf]; omega
              · obtain rfl : z = y := (by omega)
                have hge : L ≤ S := by rw [← HS.out]; exact d2
                clear q4 d2
                have hzb3 := hb2.size
                go_wp2_with (at_builtin; refine wpList_append_own _ rfl _ _ 36 rfl (w1.heap.size) 46 j0 (.agg #[.int .i64 0, .int .i64 0]) 2 16 Try.underlying36 hj hy0 hy1 hy2 rfl (by decide) _ _ _ rfl ((hown2).alloc _) ⟨wd.heap.size, 0, none⟩ 1 1 (prow (((x : Int), (z : Int)))) rfl rfl (pcells_new _ (((x : Int), (z : Int))) _) (by simp [prow, Value.oneCell']) (by simp [maxLen]; omega) (by omega) (by simp; omega) ?_; intro v' w5 hown' hgrow _)
                go_roundw
                case rel => exact ⟨t + 1, by omega, by go_num, by rw [HY.out], by rw [hps.out, HX.out, HY.out]; exact pown_snoc hown', (hb2.alloc hb2.size _).grown hgrow (by simp; omega) (own_base hown2)⟩
                case measure => simp [intOf]; omega
          · obtain rfl : t = m := (by omega)
            go_wp2_with fail
            go_ret2
            rw [hL.out, hE.out, HN.out, if_neg HZ.out, if_neg HZ.out, if_neg HIX.out]
            have e1 : (List.range t).map (proofF f n t) = (List.range t).map (fun t => ((aN f L n t : Int), (aN f L n (t + 1) : Int))) := by
              refine List.map_congr_left fun j _ => ?_
              rw [HFF.out j, if_neg HIX.out]
            rw [e1]
            exact pairPost_own hown (bvia hb1 hb)
  · obtain ⟨he1, he2⟩ := prE_ask hv
    have hE := hid (show prL f n k = [] by rw [prL, if_neg hv])
    have hask := fun W H => share_among a n ca k f W hn H
    rw [he1] at hask
    generalize prE f n k = er at *
    have hb : (er != 0) = true := by simpa using he2
    clear he1 he2 hv
    go_enter Try.func25, Try.ntmps25
    go_wp2_with fail
    refine (hask _ H).mono ?_
    rintro e w' ⟨rfl, rfl⟩
    go_wp2_with fail
    go_ret2
    rw [hE.out]
    exact pairPost_nil (by (repeat' (first | with_reducible assumption | with_reducible exact Below.refl _ _ | with_reducible refine Below.drew ?_ | with_reducible refine below_drewN ?_ _ | with_reducible refine balloc ?_ _ | with_reducible refine bset ?_ ?_ _ | with_reducible refine Below.setCell ?_ ?_ _ | with_reducible refine Below.alloc ?_ ?_ _ | omega | (simp; done) | (simp; omega))))
end Go.Proofs.Ytgpcmkoimgnlbaa
