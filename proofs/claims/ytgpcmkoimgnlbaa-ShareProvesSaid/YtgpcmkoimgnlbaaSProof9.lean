/- Walks of the share layer: Proof of the reference. -/
import Derived.Test.YtgpcmkoimgnlbaaSProof
import Derived.Test.YtgpcmkoimgnlbaaSBest9
namespace Go.Proofs.Ytgpcmkoimgnlbaa
open Go Go.RowKit
set_option linter.unusedVariables false
set_option maxRecDepth 100000 in
set_option maxHeartbeats 4000000 in
theorem ref9_Proof (a : Option Addr) (n ca : Nat) (k : Int) (f : Nat → Int) (w : World) (hn : n ≤ 100000000) (H : Sl w a n f) :
    Calls Try.prog 26 #[.slice a n ca, .int .i64 k] w (PairPost (prL f n k) (prE f n k) w) := by
  obtain ⟨j0, hj, hy0, hy1, hy2⟩ := info_parts infoP
  by_cases hv : (vL n f && within k 1 16) = true
  · have hL := hid (show prL f n k = (List.range (proofN f n k.toNat)).map (proofF f n k.toNat) by rw [prL, if_pos hv])
    have hE := hid (show prE f n k = if leastL f n k.toNat = 0 then 8 else 0 by rw [Bool.and_eq_true] at hv; rw [prE, if_pos hv.1, if_pos hv.2])
    rw [Bool.and_eq_true] at hv
    obtain ⟨hv1, hv2⟩ := hv
    have hk2 := (within_iff _ _ _).1 hv2
    have hV := (vL_iff _ _).1 hv1
    obtain ⟨m, rfl⟩ : ∃ m : Nat, k = (m : Int) := ⟨k.toNat, by omega⟩
    rw [Int.toNat_natCast] at hL hE
    have hask := fun W H => ref9_noded a n ca (m : Int) f W hn H
    have hE0 : askE (vL n f) (within (m : Int) 1 16) = 0 := by rw [hv1, hv2]; rfl
    rw [hE0] at hask
    have hl := fun W H => ref9_least a n ca m f W hV (by omega) H
    have l0 := leastL_nonneg (validL_nonneg hV) (show 0 < m by omega)
    have l1 := leastL_le (validL_nonneg hV) (show 0 < m by omega)
    have l2 := (sumTo_most hV.2.2 n (Nat.le_refl _)).2
    have hp := proofN f n m
    have hN : proofN f n m = if leastL f n m = 0 then 0 else if indexOf f (leastL f n m) n < n then 1 else m := rfl
    have hF : ∀ t, proofF f n m t = if indexOf f (leastL f n m) n < n then ((indexOf f (leastL f n m) n : Int), (indexOf f (leastL f n m) n : Int)) else ((aN f (leastL f n m) n t : Int), (aN f (leastL f n m) n (t + 1) : Int)) := fun t => rfl
    have hch := chain_spec (f := f) (n := n) (k := m) (validL_nonneg hV) hV.1 (by omega)
    obtain ⟨v1, v2, hf⟩ := hV
    have HF := hid hf; have HCH := hid hch; have HN := hid hN; have HFF := hid hF
    clear hf hch hN hF hp hv1 hv2 hE0
    have k1 : 1 ≤ m := by omega
    have k2 : m ≤ 16 := by omega
    clear hk2
    obtain ⟨L, hLL⟩ : ∃ L, leastL f n m = L := ⟨_, rfl⟩
    rw [hLL] at hl l0 l1
    rw [hLL] at hE HN HCH
    simp only [hLL] at HFF
    have l3 : L ≤ 64000000000 := by omega
    clear l1 l2 hLL
    go_enter Try.func26, Try.ntmps26
    go_wp2_with fail
    refine (hask _ H).mono ?_
    rintro e w' ⟨rfl, rfl⟩
    go_wp2_with fail
    refine (hl _ H).mono ?_
    rintro e w1 ⟨rfl, hb1⟩
    replace H := H.below hb1
    by_cases hz : L = 0
    · subst hz
      go_wp2_with fail
      go_ret2
      rw [hL.out, hE.out, HN.out]
      exact pairPost_nil hb1
    · have hzb : (L == 0) = false := by simpa using hz
      have HZ := hid hz; clear hz
      go_wp2_with fail
      by_cases hix : indexOf f L n < n
      · have HIX := hid hix
        obtain ⟨_, i2, i3⟩ := indexOf_spec f L n
        have I2 := hid i2
        have i4 := i3 hix
        clear i2 i3
        generalize indexOf f L n = i at *
        go_loop [8] (fun s8 => ∃ y : Nat, y ≤ i ∧ s8 = .int .i64 y) (fun s8 => i - (intOf s8).toNat)
        case atStart => exact ⟨0, Nat.zero_le _, rfl⟩
        case round =>
          obtain ⟨y, hy, rfl⟩ := hrel
          obtain ⟨b, off, rfl, hbl, hc⟩ := H y (by omega)
          by_cases hyi : y < i
          · have hne := I2.out y hyi
            have hneb : (f y == L) = false := by simpa using hne
            clear hne
            go_wp2_with fail
            go_round
            case rel => exact ⟨y + 1, by omega, by go_num⟩
            case measure => simp [intOf] <;> omega
          · obtain rfl : y = i := (by omega)
            have heb : (f y == L) = true := by simpa using i4
            clear i4
            go_wp2_with fail
            go_ret2
            rw [hL.out, hE.out, HN.out, if_neg HZ.out, if_neg HZ.out, if_pos HIX.out]
            have e1 : (List.range 1).map (proofF f n m) = [((y : Int), (y : Int))] := by
              have := HFF.out 0
              rw [if_pos HIX.out] at this
              simp [List.range_succ, this]
            rw [e1]
            have U := Bx.new w1 #[.int .i64 (y : Int), .int .i64 (y : Int)] 46
            refine ⟨some ⟨w1.heap.size, 0, none⟩, 1, rfl, fun k hk => ?_, by (repeat' (first | with_reducible assumption | with_reducible exact Below.refl _ _ | with_reducible refine Below.drew ?_ | with_reducible refine below_drewN ?_ _ | with_reducible refine balloc ?_ _ | with_reducible refine bset ?_ ?_ _ | with_reducible refine Below.setCell ?_ ?_ _ | with_reducible refine Below.alloc ?_ ?_ _ | omega | (simp; done) | (simp; omega)))⟩
            have hk0 : k = 0 := by simpa using hk
            subst hk0
            exact ⟨w1.heap.size, 0, rfl, U.lt, U.at_ 0 rfl, U.at_ 1 rfl⟩
      · have HIX := hid hix
        have hne : ∀ i, i < n → f i ≠ L := fun i hi => (indexOf_spec f L n).2.1 i (by have := (indexOf_spec f L n).1; omega)
        have HC := hid (HCH.out (by have := l0; have := HZ.out; omega) hne)
        have hlast := hid (fun t (ht : aN f L n t ≤ n) => lastOf_spec (f := f) (l := L) (n := n) (x := aN f L n t) ht)
        have HNE := hid hne
        clear hix hne
        go_loop [8] (fun s8 => ∃ y : Nat, y ≤ n ∧ s8 = .int .i64 y) (fun s8 => n - (intOf s8).toNat)
        case atStart => exact ⟨0, Nat.zero_le _, rfl⟩
        case round =>
          obtain ⟨y, hy, rfl⟩ := hrel
          by_cases hyn : y < n
          · obtain ⟨b, off, rfl, hbl, hc⟩ := H y (by omega)
            have hne := HNE.out y hyn
            have hneb : (f y == L) = false := by simpa using hne
            clear hne
            go_wp2_with fail
            go_round
            case rel => exact ⟨y + 1, by omega, by go_num⟩
            case measure => simp [intOf] <;> omega
          · obtain rfl : y = n := (by omega)
            go_wp2_with fail
            go_loopw [9, 10, 40] (fun v s10 i wr => ∃ t : Nat, t ≤ m ∧ i = .int .i64 t ∧ s10 = .int .i64 (aN f L y t : Nat) ∧ wr.ownsRow w1.heap.size 46 2 v ((List.range t).map (fun t => ((aN f L y t : Int), (aN f L y (t + 1) : Int)))).length (flatP ((List.range t).map (fun t => ((aN f L y t : Int), (aN f L y (t + 1) : Int))))) ∧ Below w1.heap.size w1 wr) (fun _ _ i _ => m - (intOf i).toNat)
            case atStart => exact ⟨0, Nat.zero_le _, rfl, rfl, World.ownsRow_nil .., Below.refl _ _⟩
            case round =>
              obtain ⟨t, ht, rfl, rfl, hown, hb⟩ := hrel
              have hzb2 := hb.size
              have hpl := pmap_length (fun t => ((aN f L y t : Int), (aN f L y (t + 1) : Int))) t
              have hps := hid (pmap_succ (fun t => ((aN f L y t : Int), (aN f L y (t + 1) : Int))) t)
              by_cases hlt : t < m
              · obtain ⟨c1, _, c3⟩ := HC.out t ht
                obtain ⟨d1, d2⟩ := c3 hlt
                obtain ⟨e1, _, _⟩ := HC.out (t + 1) (by omega)
                obtain ⟨_, _, g3, _⟩ := hlast.out t (by omega)
                have g4 : lastOf f L y (aN f L y t) = aN f L y (t + 1) := rfl
                rw [g4] at g3
                clear c3 g4
                generalize (List.range t).map (fun t => ((aN f L y t : Int), (aN f L y (t + 1) : Int))) = ps at hown hpl hps
                obtain ⟨x, hx⟩ : ∃ x, aN f L y t = x := ⟨_, rfl⟩
                obtain ⟨q, hq⟩ : ∃ q, aN f L y (t + 1) = q := ⟨_, rfl⟩
                rw [hx] at c1 d1 d2 g3 ⊢
                rw [hq] at d1 d2 e1 g3
                have HX := hid hx; have HY := hid hq; have G3 := hid g3; have D2 := hid d2
                clear hx hq g3 d2
                have HLb := H.below hb
                go_wp2_with fail
                go_loop [11] (fun s11 => ∃ z : Nat, x ≤ z ∧ z ≤ q ∧ s11 = .int .i64 z) (fun s11 => q - (intOf s11).toNat)
                case atStart => exact ⟨x, Nat.le_refl _, by omega, rfl⟩
                case round =>
                  obtain ⟨z, z0, z1, rfl⟩ := hrel
                  have hwt := fun W H => ref9_weight a y ca x (z + 1) f W v2 HF.out H (by omega) (by omega)
                  rw [Int.natCast_add, Int.natCast_one] at hwt
                  go_wp2_with fail
                  refine (hwt _ HLb).mono ?_
                  rintro e w' ⟨rfl, rfl⟩
                  by_cases hzy : z < q
                  · have q4 := G3.out z z0 hzy
                    generalize sg f x (z + 1) = S at *
                    go_wp2_with fail
                    go_round
                    case rel => exact ⟨z + 1, by omega, by omega, by go_num⟩
                    case measure => simp [intOf] <;> omega
                  · obtain rfl : z = q := (by omega)
                    have hge := D2.out
                    generalize sg f x (z + 1) = S at *
                    go_wp2_with (at_builtin; refine wpList_append_own _ rfl _ _ 36 rfl (w1.heap.size) 46 j0 (.agg #[.int .i64 0, .int .i64 0]) 2 16 Try.underlying36 hj hy0 hy1 hy2 rfl (by decide) _ _ _ rfl ((hown).alloc _) ⟨wr.heap.size, 0, none⟩ 1 1 (prow (((x : Int), (z : Int)))) rfl rfl (pcells_new _ (((x : Int), (z : Int))) _) (by simp [prow, Value.oneCell']) (by simp [maxLen]; omega) (by omega) (by simp; omega) ?_; intro v' w5 hown' hgrow _)
                    go_roundw
                    case rel => exact ⟨t + 1, by omega, by go_num, by rw [HY.out], by rw [hps.out, HX.out, HY.out]; exact pown_snoc hown', (hb.alloc hb.size _).grown hgrow (by simp; omega) (own_base hown)⟩
                    case measure => simp [intOf]; omega
              · obtain rfl : t = m := (by omega)
                go_wp2_with fail
                go_ret2
                rw [hL.out, hE.out, HN.out, if_neg HZ.out, if_neg HZ.out, if_neg HIX.out]
                have e1 : (List.range t).map (proofF f y t) = (List.range t).map (fun t => ((aN f L y t : Int), (aN f L y (t + 1) : Int))) := by
                  refine List.map_congr_left fun j _ => ?_
                  rw [HFF.out j, if_neg HIX.out]
                rw [e1]
                exact pairPost_own hown (bvia hb1 hb)
  · obtain ⟨he1, he2⟩ := prE_ask hv
    have hE := hid (show prL f n k = [] by rw [prL, if_neg hv])
    have hask := fun W H => ref9_noded a n ca k f W hn H
    rw [he1] at hask
    generalize prE f n k = er at *
    have hb : (er != 0) = true := by simpa using he2
    clear he1 he2 hv
    go_enter Try.func26, Try.ntmps26
    go_wp2_with fail
    refine (hask _ H).mono ?_
    rintro e w' ⟨rfl, rfl⟩
    go_wp2_with fail
    go_ret2
    rw [hE.out]
    exact pairPost_nil (by (repeat' (first | with_reducible assumption | with_reducible exact Below.refl _ _ | with_reducible refine Below.drew ?_ | with_reducible refine below_drewN ?_ _ | with_reducible refine balloc ?_ _ | with_reducible refine bset ?_ ?_ _ | with_reducible refine Below.setCell ?_ ?_ _ | with_reducible refine Below.alloc ?_ ?_ _ | omega | (simp; done) | (simp; omega))))
end Go.Proofs.Ytgpcmkoimgnlbaa
