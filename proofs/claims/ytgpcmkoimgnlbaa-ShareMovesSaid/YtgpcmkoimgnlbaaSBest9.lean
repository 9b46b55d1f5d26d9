/- Walks of the share layer: the reference's least, best, Least, Best and Fits. -/
import Derived.Test.YtgpcmkoimgnlbaaSTable
import Derived.Test.YtgpcmkoimgnlbaaSWalk6
namespace Go.Proofs.Ytgpcmkoimgnlbaa
open Go Go.RowKit
set_option linter.unusedVariables false
set_option maxRecDepth 100000 in
set_option maxHeartbeats 1000000 in
theorem ref9_least (a : Option Addr) (n ca k : Nat) (f : Nat → Int) (w : World) (hv : validL n f) (hk : 0 < k ∧ k ≤ 16) (H : Sl w a n f) :
    Calls Try.prog 43 #[.slice a n ca, .int .i64 (k : Int)] w fun e w' => e = .returned (.int .i64 (leastL f n k)) ∧ Below w.heap.size w w' := by
  have hl := fun W H => ref9_table a n ca k f W hv hk.2 H
  have v1 := hv.1
  clear hv
  go_enter Try.func43, Try.ntmps43
  go_wp2_with (go_at_call 70; refine (hl _ H).mono ?_; rintro e w1 ⟨v, rfl, hT, hb1⟩; obtain ⟨gv, cap, g, rfl, hgv, hcv, hRg⟩ := hT.look k (by omega); have h0 := hRg.at_ 0 (by omega))
  go_ret
  exact ⟨rfl, hb1⟩
theorem TB.at_ {F : Nat → Nat → Int} {n : Nat} {W : World} {base gv k cap : Nat} (h : TB F n W base (.slice (some ⟨gv, 0, none⟩) k cap) k) (j : Nat) (hj : j < k) :
    ∃ g, W.cell? ⟨gv, j, none⟩ = some (.slice (some ⟨g, 0, none⟩) n n) ∧ Ro W g n (F j) := by
  obtain ⟨gv', cap', g, e, h1, h2, h3⟩ := h.look j hj
  injection e with e; injection e with e; injection e with e _ _
  subst e
  exact ⟨g, h2, h3⟩
theorem sg_most2 {f : Nat → Int} {n : Nat} (hn : n ≤ 64) (hf : ∀ k, k < n → 0 ≤ f k ∧ f k ≤ 1000000000) {x y : Nat} (hxy : x ≤ y) (hy : y < n) : sg f x y + f y = sg f x (y + 1) ∧ 0 ≤ sg f x y ∧ sg f x (y + 1) ≤ 64000000000 :=
  ⟨(sg_succ f x y).symm, (sg_most hn hf hxy (by omega)).1, (sg_most hn hf (show x ≤ y + 1 by omega) (by omega)).2⟩
set_option maxRecDepth 100000 in
set_option maxHeartbeats 4000000 in
theorem ref9_best (a : Option Addr) (n ca k : Nat) (f : Nat → Int) (w : World) (hv : validL n f) (hk : 0 < k) (hk2 : k ≤ 16) (hca : n ≤ ca) (hca2 : ca ≤ maxLen) (H : Sl w a n f) :
    Calls Try.prog 45 #[.slice a n ca, .int .i64 (k : Int)] w fun e w' => ∃ v, e = .returned v ∧ w'.ownsRow w.heap.size 3 1 v (bestL f n (leastL f n k) (k - 1) 0).length ((bestL f n (leastL f n k) (k - 1) 0).map vInt) ∧ Below w.heap.size w w' := by
  obtain ⟨i0, hi, hz0, hz1, hz2⟩ := info_parts infoI
  have hll := hid (bestL_length f n (leastL f n k) (k - 1) 0)
  have HR := hid ((leastL_iff (validL_nonneg hv) hk (leastL_nonneg (validL_nonneg hv) hk)).1 (Int.le_refl _))
  have l0 := leastL_nonneg (validL_nonneg hv) hk
  have l1 := leastL_le (validL_nonneg hv) hk
  have l2 := (sumTo_most hv.2.2 n (Nat.le_refl _)).2
  have hl := fun W H => ref9_table a n ca k f W hv hk2 H
  obtain ⟨v1, v2, hf⟩ := hv
  have HF := hid hf; clear hf
  go_enter Try.func45, Try.ntmps45
  go_upto_region 3 with (go_at_call 70; refine (hl _ H).mono ?_; rintro e w1 ⟨v, rfl, hT, hb1⟩; obtain ⟨gv, cap, g, rfl, hgv, hcv, hRg⟩ := hT.look k (by omega); have h0 := hRg.at_ 0 (by omega))
  have hgL : tbl f n k 0 = leastL f n k := rfl
  rw [hgL]
  generalize hL : leastL f n k = L at *
  have HL := hid hL; clear hL
  have hk1 : (k : Int) - 1 = ((k - 1 : Nat) : Int) := by omega
  obtain ⟨m, hm⟩ : ∃ m, k - 1 = m := ⟨_, rfl⟩
  rw [hm] at hk1 hll
  rw [show k = m + 1 from by omega] at HR
  have HM := hid hm; clear hm
  clear h0 hcv hRg hgL l2
  have HT := hid hT; clear hT
  have hs1 := hb1.size
  go_wp2
  go_loopw [7, 8, 9] (fun v s8 s9 wr => ∃ (left x : Nat) (cs : List Int), s8 = .int .i64 (x : Int) ∧ s9 = .int .i64 (left : Int) ∧ left ≤ m ∧ wr.ownsRow w1.heap.size 3 1 v cs.length (cs.map vInt) ∧ cs ++ bestL f n L left x = bestL f n L m 0 ∧ Rk f L (left + 1) x n ∧ x ≤ n ∧ Below w1.heap.size w1 wr) (fun _ _ s9 _ => (intOf s9).toNat)
  case atStart => exact ⟨m, 0, [], rfl, by rw [← hk1], Nat.le_refl _, World.ownsRow_nil .., by simp, HR.out, Nat.zero_le _, Below.refl _ _⟩
  case round =>
    obtain ⟨left, x, cs, rfl, rfl, hlm, hown, hcs, hr, hx, hb⟩ := hrel
    have hcl := append_le hcs
    rw [hll.out] at hcl
    have hzb := hb.size
    rcases Nat.eq_zero_or_pos left with h0 | h0
    · subst h0
      have hc : cs = bestL f n L m 0 := by rw [← hcs]; simp [bestL]
      have HC := hid hc; clear hc hcs
      go_wp2
      go_ret
      rw [HL.out, HM.out, ← HC.out]
      exact ⟨_, rfl, own_mono hown (by omega), bvia hb1 hb⟩
    · skip
      obtain ⟨j, hj1⟩ : ∃ j, left = j + 1 := ⟨left - 1, by omega⟩
      obtain ⟨d1, d2, d3, d4, d5⟩ := cutN_spec (okF_pos HF.out) l0 hx hr
      obtain ⟨t1, t2⟩ := cutN_tbl (okF_pos HF.out) l0 h0 hx hr
      obtain ⟨g, hcv, hRg⟩ := HT.out.at_ left (by omega)
      rw [hj1] at hcs
      have hnext := best_next hcs
      rw [← hj1] at hnext
      have hle2 := append_le hnext
      rw [hll.out] at hle2
      simp only [List.length_append, List.length_cons, List.length_nil] at hle2
      generalize cutN f n L left x = z at *
      have HJ := hid hj1; have HN := hid hnext; have HD := hid d4; have HT2 := hid t2
      have hg1 := (bcell hb _ _ hgv).trans hcv
      have hR2 := hRg.below hb
      have HL := H.below (bvia hb1 hb)
      clear hj1 hnext d4 d5 t2 hcs hr hcv hRg
      go_wp2
      go_loop [10, 11] (fun s10 s11 => ∃ y : Nat, x ≤ y ∧ y ≤ z ∧ s10 = .int .i64 (y : Int) ∧ s11 = .int .i64 (sg f x y)) (fun s10 _ => z - (intOf s10).toNat)
      case atStart => exact ⟨x, Nat.le_refl _, d1, rfl, by rw [sg_self]⟩
      case round =>
        obtain ⟨y, hxy, hyz, rfl, rfl⟩ := hrel
        have hty := hR2.at_ y (by omega)
        by_cases hlt : y < z
        · have hty2 := HT2.out y hxy hlt
          obtain ⟨e1, e2, e3⟩ := sg_most2 v2 HF.out hxy (show y < n by omega)
          obtain ⟨b, off, rfl, hbl, hcf⟩ := HL y (by omega)
          have hfy := HF.out y (by omega)
          have HE := hid e1; rw [← e1] at e3; clear e1
          generalize sg f x y = S at *
          generalize f y = u at *
          by_cases hSL : L < S
          · go_wp2
            go_round
            case rel => exact ⟨y + 1, by omega, by omega, by go_num, by rw [← HE.out]⟩
            case measure => simp [intOf] <;> omega
          · go_wp2
            go_round
            case rel => exact ⟨y + 1, by omega, by omega, by go_num, by rw [← HE.out]⟩
            case measure => simp [intOf] <;> omega
        · obtain rfl : y = z := (by omega)
          go_wp2_with (at_builtin; refine wpList_append_own _ rfl _ _ 22 rfl (w1.heap.size) 3 i0 (.int .i64 0) 1 8 Try.underlying22 hi hz0 hz1 hz2 rfl (by decide) _ _ _ rfl ((hown).alloc _) ⟨wr.heap.size, 0, none⟩ 1 1 [.int .i64 ((y : Int))] rfl rfl (cell_one_new _ _ _) (by simp [Value.oneCell']) (by simp [maxLen]; omega) (by omega) (by simp; omega) ?_; intro v' w2 hown' hgrow _)
          go_roundw
          case rel => exact ⟨j, y, cs ++ [(y : Int)], rfl, by rw [HJ.out]; go_num, by have := HJ.out; omega, own_snoc hown', HN.out, by rw [← HJ.out]; exact HD.out, by omega, (hb.alloc hzb _).grown hgrow (by simp; omega) (own_base hown)⟩
          case measure => simp [intOf] <;> omega
set_option maxRecDepth 100000 in
set_option maxHeartbeats 1000000 in
theorem ref9_Least (a : Option Addr) (n ca : Nat) (k : Int) (f : Nat → Int) (w : World) (hn : n ≤ 100000000) (H : Sl w a n f) :
    Calls Try.prog 11 #[.slice a n ca, .int .i64 k] w fun e w' => e = .returned (.tuple #[.int .i64 (leaR f n k), .int .i64 (askE (vL n f) (within k 1 16))]) ∧ Below w.heap.size w w' := by
  cases hv : vL n f
  · have hE := hid (show leaR f n k = 0 by simp [leaR, hv])
    go_enter Try.func11, Try.ntmps11
    go_wp2_with (go_at_call 42; refine (ref9_noded a n ca k f _ hn H).mono ?_; rintro e w' ⟨rfl, rfl⟩; rw [hv])
    all_goals
      go_ret2
      rw [hE.out]
      exact ⟨rfl, by (repeat' (first | with_reducible assumption | with_reducible exact Below.refl _ _ | with_reducible refine Below.drew ?_ | with_reducible refine below_drewN ?_ _ | with_reducible refine balloc ?_ _ | with_reducible refine bset ?_ ?_ _ | with_reducible refine Below.setCell ?_ ?_ _ | with_reducible refine Below.alloc ?_ ?_ _ | omega | (simp; done) | (simp; omega)))⟩
  · cases hk : within k 1 16
    · have hE := hid (show leaR f n k = 0 by simp [leaR, hk])
      go_enter Try.func11, Try.ntmps11
      go_wp2_with (go_at_call 42; refine (ref9_noded a n ca k f _ hn H).mono ?_; rintro e w' ⟨rfl, rfl⟩; rw [hv, hk])
      go_ret2
      rw [hE.out]
      exact ⟨rfl, by (repeat' (first | with_reducible assumption | with_reducible exact Below.refl _ _ | with_reducible refine Below.drew ?_ | with_reducible refine below_drewN ?_ _ | with_reducible refine balloc ?_ _ | with_reducible refine bset ?_ ?_ _ | with_reducible refine Below.setCell ?_ ?_ _ | with_reducible refine Below.alloc ?_ ?_ _ | omega | (simp; done) | (simp; omega)))⟩
    · have hk2 := (within_iff _ _ _).1 hk
      obtain ⟨m, rfl⟩ : ∃ m : Nat, k = (m : Int) := ⟨k.toNat, by omega⟩
      have hE := hid (show leaR f n m = leastL f n m by simp [leaR, hv, hk])
      have hV := (vL_iff _ _).1 hv
      have hl := fun W H => ref9_least a n ca m f W hV (by omega) H
      generalize leastL f n m = L at *
      go_enter Try.func11, Try.ntmps11
      go_wp2_with (first | (go_at_call 42; refine (ref9_noded a n ca m f _ hn H).mono ?_; rintro e w' ⟨rfl, rfl⟩; rw [hv, hk]) | (go_at_call 43; refine (hl _ H).mono ?_; rintro e w1 ⟨rfl, hb1⟩))
      go_ret2
      rw [hE.out]
      exact ⟨rfl, hb1⟩
set_option maxRecDepth 100000 in
set_option maxHeartbeats 1000000 in
theorem ref9_Best (a : Option Addr) (n ca : Nat) (k : Int) (f : Nat → Int) (w : World) (hn : n ≤ 100000000) (hca : n ≤ ca) (hca2 : ca ≤ maxLen) (H : Sl w a n f) :
    Calls Try.prog 13 #[.slice a n ca, .int .i64 k] w (ListPost (besL f n k) (askE (vL n f) (within k 1 16)) w) := by
  cases hv : vL n f
  · have hE := hid (show besL f n k = [] by simp [besL, hv])
    go_enter Try.func13, Try.ntmps13
    go_wp2_with (go_at_call 42; refine (ref9_noded a n ca k f _ hn H).mono ?_; rintro e w' ⟨rfl, rfl⟩; rw [hv])
    all_goals
      go_ret2
      rw [hE.out]
      exact listPost_nil (by (repeat' (first | with_reducible assumption | with_reducible exact Below.refl _ _ | with_reducible refine Below.drew ?_ | with_reducible refine below_drewN ?_ _ | with_reducible refine balloc ?_ _ | with_reducible refine bset ?_ ?_ _ | with_reducible refine Below.setCell ?_ ?_ _ | with_reducible refine Below.alloc ?_ ?_ _ | omega | (simp; done) | (simp; omega))))
  · cases hk : within k 1 16
    · have hE := hid (show besL f n k = [] by simp [besL, hk])
      go_enter Try.func13, Try.ntmps13
      go_wp2_with (go_at_call 42; refine (ref9_noded a n ca k f _ hn H).mono ?_; rintro e w' ⟨rfl, rfl⟩; rw [hv, hk])
      go_ret2
      rw [hE.out]
      exact listPost_nil (by (repeat' (first | with_reducible assumption | with_reducible exact Below.refl _ _ | with_reducible refine Below.drew ?_ | with_reducible refine below_drewN ?_ _ | with_reducible refine balloc ?_ _ | with_reducible refine bset ?_ ?_ _ | with_reducible refine Below.setCell ?_ ?_ _ | with_reducible refine Below.alloc ?_ ?_ _ | omega | (simp; done) | (simp; omega))))
    · have hk2 := (within_iff _ _ _).1 hk
      obtain ⟨m, rfl⟩ : ∃ m : Nat, k = (m : Int) := ⟨k.toNat, by omega⟩
      have hE := hid (show besL f n m = bestL f n (leastL f n m) (m - 1) 0 by simp [besL, hv, hk])
      have hV := (vL_iff _ _).1 hv
      have hl := fun W H => ref9_best a n ca m f W hV (by omega) (by omega) hca hca2 H
      generalize bestL f n (leastL f n m) (m - 1) 0 = L at *
      go_enter Try.func13, Try.ntmps13
      go_wp2_with (first | (go_at_call 42; refine (ref9_noded a n ca m f _ hn H).mono ?_; rintro e w' ⟨rfl, rfl⟩; rw [hv, hk]) | (go_at_call 45; refine (hl _ H).mono ?_; rintro e w1 ⟨v, rfl, hown, hb1⟩))
      go_ret2
      rw [hE.out]
      exact listPost_own hown hb1
set_option maxRecDepth 100000 in
set_option maxHeartbeats 1000000 in
theorem ref9_Fits (a : Option Addr) (n ca : Nat) (k M : Int) (f : Nat → Int) (w : World) (hn : n ≤ 100000000) (H : Sl w a n f) :
    Calls Try.prog 16 #[.slice a n ca, .int .i64 k, .int .i64 M] w fun e w' => e = .returned (.tuple #[.bool (fiB f n k M), .int .i64 (fiE (vL n f) (within k 1 16) (within M 0 64000000000))]) ∧ Below w.heap.size w w' := by
  cases hv : vL n f
  · have hE := hid (show fiB f n k M = false by simp [fiB, hv])
    go_enter Try.func16, Try.ntmps16
    go_wp2_with (go_at_call 42; refine (ref9_noded a n ca k f _ hn H).mono ?_; rintro e w' ⟨rfl, rfl⟩; rw [hv])
    all_goals
      go_ret2
      rw [hE.out]
      exact ⟨rfl, by (repeat' (first | with_reducible assumption | with_reducible exact Below.refl _ _ | with_reducible refine Below.drew ?_ | with_reducible refine below_drewN ?_ _ | with_reducible refine balloc ?_ _ | with_reducible refine bset ?_ ?_ _ | with_reducible refine Below.setCell ?_ ?_ _ | with_reducible refine Below.alloc ?_ ?_ _ | omega | (simp; done) | (simp; omega)))⟩
  · cases hk : within k 1 16
    · have hE := hid (show fiB f n k M = false by simp [fiB, hk])
      go_enter Try.func16, Try.ntmps16
      go_wp2_with (go_at_call 42; refine (ref9_noded a n ca k f _ hn H).mono ?_; rintro e w' ⟨rfl, rfl⟩; rw [hv, hk])
      go_ret2
      rw [hE.out]
      exact ⟨rfl, by (repeat' (first | with_reducible assumption | with_reducible exact Below.refl _ _ | with_reducible refine Below.drew ?_ | with_reducible refine below_drewN ?_ _ | with_reducible refine balloc ?_ _ | with_reducible refine bset ?_ ?_ _ | with_reducible refine Below.setCell ?_ ?_ _ | with_reducible refine Below.alloc ?_ ?_ _ | omega | (simp; done) | (simp; omega)))⟩
    · have hk2 := (within_iff _ _ _).1 hk
      obtain ⟨m, rfl⟩ : ∃ m : Nat, k = (m : Int) := ⟨k.toNat, by omega⟩
      cases hM : within M 0 64000000000
      · have hE := hid (show fiB f n m M = false by simp [fiB, hM])
        go_enter Try.func16, Try.ntmps16
        go_wp2_with (first | (go_at_call 42; refine (ref9_noded a n ca m f _ hn H).mono ?_; rintro e w' ⟨rfl, rfl⟩; rw [hv, hk]) | (go_at_call 48; refine (ref9_within _ _ _ _).mono ?_; rintro e w' ⟨rfl, rfl⟩; rw [hM]))
        go_ret2
        rw [hE.out]
        exact ⟨rfl, by (repeat' (first | with_reducible assumption | with_reducible exact Below.refl _ _ | with_reducible refine Below.drew ?_ | with_reducible refine below_drewN ?_ _ | with_reducible refine balloc ?_ _ | with_reducible refine bset ?_ ?_ _ | with_reducible refine Below.setCell ?_ ?_ _ | with_reducible refine Below.alloc ?_ ?_ _ | omega | (simp; done) | (simp; omega)))⟩
      · have hM2 := (within_iff _ _ _).1 hM
        obtain ⟨m0, m1⟩ := hM2
        have hV := (vL_iff _ _).1 hv
        have hE := hid (show fiB f n m M = decide (leastL f n m ≤ M) by simp [fiB, hv, hk, hM, fits_least (validL_nonneg hV) hV.1 (show 0 < m by omega) m0])
        have hl := fun W H => ref9_least a n ca m f W hV (by omega) H
        generalize leastL f n m = r at *
        go_enter Try.func16, Try.ntmps16
        go_wp2_with (first | (go_at_call 42; refine (ref9_noded a n ca m f _ hn H).mono ?_; rintro e w' ⟨rfl, rfl⟩; rw [hv, hk]) | (go_at_call 48; refine (ref9_within _ _ _ _).mono ?_; rintro e w' ⟨rfl, rfl⟩; rw [hM]) | (go_at_call 43; refine (hl _ H).mono ?_; rintro e w1 ⟨rfl, hb1⟩))
        go_ret2
        rw [hE.out]
        exact ⟨rfl, hb1⟩
end Go.Proofs.Ytgpcmkoimgnlbaa
