/- The walk of the law ShareProves (draft: the plain part). -/
import Derived.Test.YtgpcmkoimgnlbaaSLeast
import Derived.Test.YtgpcmkoimgnlbaaSProves
namespace Go.Proofs.Ytgpcmkoimgnlbaa
open Go Go.RowKit
set_option linter.unusedVariables false
theorem pv_least {f : Nat → Int} {n m : Nat} {k b : Int} {p : Nat → Int × Int} (h : pvB f n k b m p = true) : askE (vL n f) (within k 1 16) = 0 ∧ b < leaR f n k ∧ 1 ≤ k ∧ k ≤ 16 := by
  have h' := (pvB_iff f n k b m p).1 h
  have hpl := proves_least h'
  obtain ⟨h1, h2, h3, _⟩ := h'
  have e1 := (vL_iff _ _).2 h1
  have e2 : within k 1 16 = true := (within_iff _ _ _).2 ⟨h2, h3⟩
  refine ⟨by rw [e1, e2]; rfl, ?_, h2, h3⟩
  have e3 : leaR f n k = leastL f n k.toNat := by rw [leaR, e1, e2]; rfl
  rw [e3]
  exact hpl
theorem prE_zero {f : Nat → Int} {n : Nat} {k : Int} (h : prE f n k = 0) : vL n f = true ∧ within k 1 16 = true ∧ leastL f n k.toNat ≠ 0 := by
  unfold prE at h
  cases h1 : vL n f
  · simp [h1] at h
  · cases h2 : within k 1 16
    · simp [h1, h2] at h
    · refine ⟨rfl, rfl, fun h3 => ?_⟩
      simp [h1, h2, h3] at h
theorem pv_proof {f : Nat → Int} {n : Nat} {k : Int} (h : prE f n k = 0) : pvB f n k (leaR f n k - 1) (prL f n k).length (fun i => (prL f n k).getD i (0, 0)) = true := by
  obtain ⟨h1, h2, h3⟩ := prE_zero h
  have hk := (within_iff _ _ _).1 h2
  have hV := (vL_iff _ _).1 h1
  obtain ⟨m, rfl⟩ : ∃ m : Nat, k = (m : Int) := ⟨k.toNat, by omega⟩
  rw [Int.toNat_natCast] at h3
  have hp := proof_proves hV (show 0 < m by omega) (by omega) h3
  have e1 : leaR f n m = leastL f n m := by simp [leaR, h1, h2]
  have e2 : prL f n m = (List.range (proofN f n m)).map (proofF f n m) := by simp [prL, h1, h2]
  rw [pvB_iff, e1, e2]
  have hlen : ((List.range (proofN f n m)).map (proofF f n m)).length = proofN f n m := by simp
  rw [hlen]
  have hget : ∀ i, i < proofN f n m → ((List.range (proofN f n m)).map (proofF f n m)).getD i (0, 0) = proofF f n m i := fun i hi => by
    simp [List.getD_eq_getElem?_getD, hi]
  obtain ⟨p1, p2, p3, p4, p5, p6⟩ := hp
  refine ⟨p1, p2, p3, p4, fun i hi => ?_, ?_⟩
  · have := p5 i hi
    unfold okP at this ⊢
    dsimp only
    rw [hget i hi]
    refine ⟨this.1, this.2.1, this.2.2.1, this.2.2.2.1, fun h0 => ?_, this.2.2.2.2.2⟩
    rw [hget (i - 1) (by omega)]
    exact this.2.2.2.2.1 h0
  · rcases p6 with ⟨q1, q2⟩ | q
    · left; exact ⟨q1, by dsimp only; rw [hget 0 (by omega)]; exact q2⟩
    · right; exact q
theorem pv_peak {f c : Nat → Int} {n m r : Nat} {k b : Int} {p : Nat → Int × Int} (h : pvB f n k b r p = true) (hj : askE (vL n f) (vK n m c) = 0) (hm : (m : Int) = k - 1) : b < pkR f n m c := by
  obtain ⟨h1, h2, _, _⟩ := pv_least h
  have := lea_cuts h1 hj hm
  omega
theorem leaR_bd (f : Nat → Int) (n : Nat) (k : Int) : -1 ≤ leaR f n k - 1 ∧ leaR f n k - 1 ≤ 64000000000 := by
  unfold leaR
  split
  · rename_i h
    rw [Bool.and_eq_true] at h
    have hV := (vL_iff _ _).1 h.1
    have hk := (within_iff _ _ _).1 h.2
    have h1 := leastL_nonneg (validL_nonneg hV) (show 0 < k.toNat by omega)
    have h2 := leastL_le (validL_nonneg hV) (show 0 < k.toNat by omega)
    have h3 := (sumTo_most hV.2.2 n (Nat.le_refl _)).2
    have := hV.2.1
    omega
  · omega
theorem prL_length (f : Nat → Int) (n : Nat) (k : Int) : (prL f n k).length ≤ 16 := by
  unfold prL
  split
  · rename_i h
    rw [Bool.and_eq_true] at h
    have hk := (within_iff _ _ _).1 h.2
    rw [List.length_map, List.length_range]
    unfold proofN
    split
    · omega
    · split <;> omega
  · simp
set_option maxRecDepth 100000 in
set_option maxHeartbeats 8000000 in
theorem walk_proves (a ap ac : Option Addr) (n r m ca cp cc : Nat) (k M : Int) (f : Nat → Int) (p : Nat → Int × Int) (c : Nat → Int) (w : World) (hn : n ≤ ca) (hca : ca ≤ maxLen) (hr : r ≤ maxLen) (hm : m ≤ maxLen) (H : Sl w a n f) (HP : Sq w ap r p) (HC : Sl w ac m c) :
    Calls Try.prog 5 #[.slice a n ca, .int .i64 k, .int .i64 M, .slice ap r cp, .slice ac m cc] w fun e w' => e = .returned (.bool true) ∧ Below w.heap.size w w' := by
  have hnm : n ≤ maxLen := Nat.le_trans hn hca
  have hmany := fun W => law9_many a n ca W hnm
  cases hmy : manyB n
  rotate_left
  · rw [hmy] at hmany
    go_enter Try.func5, Try.ntmps5
    go_wp2_with (first | (go_at_call 8; refine (awake9 _).mono ?_; rintro e w1 ⟨rfl, hb1⟩) | (go_at_call 9; refine (hmany _).mono ?_; rintro e w' ⟨rfl, rfl⟩))
    go_ret
    exact ⟨rfl, by (repeat' (first | with_reducible assumption | with_reducible exact Below.refl _ _ | with_reducible refine Below.drew ?_ | with_reducible refine below_drewN ?_ _ | with_reducible refine balloc ?_ _ | with_reducible refine bset ?_ ?_ _ | with_reducible refine Below.setCell ?_ ?_ _ | with_reducible refine Below.alloc ?_ ?_ _ | omega | (simp; done) | (simp; omega)))⟩
  rw [hmy] at hmany
  have hn80 : n ≤ 80 := by simp [manyB] at hmy; omega
  by_cases hm30 : 30 < m
  · unfold maxLen at hm
    clear hmy
    go_enter Try.func5, Try.ntmps5
    go_wp2_with (first | (go_at_call 8; refine (awake9 _).mono ?_; rintro e w1 ⟨rfl, hb1⟩) | (go_at_call 9; refine (hmany _).mono ?_; rintro e w' ⟨rfl, rfl⟩))
    go_ret
    exact ⟨rfl, by (repeat' (first | with_reducible assumption | with_reducible exact Below.refl _ _ | with_reducible refine Below.drew ?_ | with_reducible refine below_drewN ?_ _ | with_reducible refine balloc ?_ _ | with_reducible refine bset ?_ ?_ _ | with_reducible refine Below.setCell ?_ ?_ _ | with_reducible refine Below.alloc ?_ ?_ _ | omega | (simp; done) | (simp; omega)))⟩
  by_cases hr30 : 30 < r
  · unfold maxLen at hm hr
    clear hmy
    go_enter Try.func5, Try.ntmps5
    go_wp2_with (first | (go_at_call 8; refine (awake9 _).mono ?_; rintro e w1 ⟨rfl, hb1⟩) | (go_at_call 9; refine (hmany _).mono ?_; rintro e w' ⟨rfl, rfl⟩))
    go_ret
    exact ⟨rfl, by (repeat' (first | with_reducible assumption | with_reducible exact Below.refl _ _ | with_reducible refine Below.drew ?_ | with_reducible refine below_drewN ?_ _ | with_reducible refine balloc ?_ _ | with_reducible refine bset ?_ ?_ _ | with_reducible refine Below.setCell ?_ ?_ _ | with_reducible refine Below.alloc ?_ ?_ _ | omega | (simp; done) | (simp; omega)))⟩
  have hQ := fun W H => share_Proof a n ca k f W (by omega) H
  have hQ9 := fun W H => ref9_Proof a n ca k f W (by omega) H
  have hV := fun W H HP => share_Proves a ap n ca r cp k M f p W (by omega) (by omega) hn hca H HP
  have hV9 := fun W H HP => ref9_Proves a ap n ca r cp k M f p W (by omega) (by omega) H HP
  have hL := fun W H => share_Least a n ca k f W (by omega) H
  have hP := fun W H HC => share_Peak a ac n m ca cc f c W (by omega) (by omega) hn hca H HC
  have hql := prL_length f n k
  have hV2 := fun (a2 : Option Addr) (c2 : Nat) W H HP => share_Proves a a2 n ca (prL f n k).length c2 k (leaR f n k - 1) f (fun i => (prL f n k).getD i (0, 0)) W (by omega) (by omega) hn hca H HP
  have f1 := fun h => pv_least (f := f) (n := n) (m := r) (k := k) (b := M) (p := p) h
  have f2 := pv_proof (f := f) (n := n) (k := k)
  have f3 := fun h hj hm => pv_peak (f := f) (c := c) (n := n) (m := m) (r := r) (k := k) (b := M) (p := p) h hj hm
  have hlb : -1 ≤ leaR f n k - 1 ∧ leaR f n k - 1 ≤ 64000000000 := leaR_bd f n k
  generalize leaR f n k = lea at *
  generalize prE f n k = Q at *
  generalize askE (vL n f) (within k 1 16) = E at *
  generalize askE (vL n f) (vK n m c) = J at *
  generalize pkR f n m c = pk at *
  generalize pvB f n k M r p = V at *
  generalize pvB f n k (lea - 1) (prL f n k).length (fun i => (prL f n k).getD i (0, 0)) = V2 at *
  generalize prL f n k = L at *
  have F1 := hid f1; have F2 := hid f2; have F3 := hid f3
  clear f1 f2 f3 hmy hca hm hr
  obtain ⟨b0, b1⟩ := hlb
  go_enter Try.func5, Try.ntmps5
  go_wp2_with (first | (go_at_call 8; refine (awake9 _).mono ?_; rintro e w1 ⟨rfl, hb1⟩) | (go_at_call 9; refine (hmany _).mono ?_; rintro e w' ⟨rfl, rfl⟩))
  have hB : Below w.heap.size w w1 := hb1
  replace H := H.below hb1
  replace HC := HC.below hb1
  replace HP := HP.below hb1
  clear hb1
  refine (hQ _ H).mono ?_
  rintro e w2 ⟨a1, c1, rfl, S1, hb2⟩
  replace H := H.below hb2
  replace HC := HC.below hb2
  replace HP := HP.below hb2
  replace hB := bvia hB hb2
  clear hb2
  go_wp2_with fail
  refine (hQ9 _ H).mono ?_
  rintro e w3 ⟨a2, c2, rfl, S2, hb3⟩
  replace H := H.below hb3
  replace HC := HC.below hb3
  replace HP := HP.below hb3
  replace S1 := S1.below hb3
  replace hB := bvia hB hb3
  clear hb3
  go_wp2_with fail
  refine (hV _ H HP).mono ?_
  rintro e w4 ⟨rfl, hb4⟩
  replace H := H.below hb4
  replace HC := HC.below hb4
  replace HP := HP.below hb4
  replace S1 := S1.below hb4
  replace S2 := S2.below hb4
  replace hB := bvia hB hb4
  clear hb4
  go_wp2_with fail
  refine (ref9_samePairs _ _ _ _ _ _ _ _ (by omega) S1 S2 (fun _ _ => rfl)).mono ?_
  rintro e w5 ⟨rfl, hb5⟩
  clear S2
  replace H := H.below hb5
  replace HC := HC.below hb5
  replace HP := HP.below hb5
  replace S1 := S1.below hb5
  replace hB := bvia hB hb5
  clear hb5
  go_wp2_with fail
  refine (hV9 _ H HP).mono ?_
  rintro e w6 ⟨rfl, hb6⟩
  replace H := H.below hb6
  replace HC := HC.below hb6
  replace HP := HP.below hb6
  replace S1 := S1.below hb6
  replace hB := bvia hB hb6
  clear hb6
  go_wp2_with fail
  refine (hL _ H).mono ?_
  rintro e w7 ⟨rfl, hb7⟩
  replace H := H.below hb7
  replace HC := HC.below hb7
  replace HP := HP.below hb7
  replace S1 := S1.below hb7
  replace hB := bvia hB hb7
  clear hb7
  by_cases hQ0 : Q = 0
  · subst hQ0
    obtain rfl : V2 = true := F2.out (by first | trivial | rfl)
    cases hVV : V
    · subst hVV
      go_wp2_with fail
      refine (hV2 a1 c1 _ H S1).mono ?_
      rintro e w8 ⟨rfl, hb8⟩
      replace H := H.below hb8
      replace HC := HC.below hb8
      replace hB := bvia hB hb8
      go_wp2_with fail
      refine (hP _ H HC).mono ?_
      rintro e w19 ⟨rfl, hb19⟩
      replace hB := bvia hB hb19
      go_wp2_with fail
      go_ret
      exact ⟨ret_bool (by simp), hB⟩
    · subst hVV
      obtain ⟨rfl, hMl, k1, k2⟩ := F1.out (by first | trivial | rfl)
      go_wp2_with fail
      refine (hV2 a1 c1 _ H S1).mono ?_
      rintro e w8 ⟨rfl, hb8⟩
      replace H := H.below hb8
      replace HC := HC.below hb8
      replace hB := bvia hB hb8
      go_wp2_with fail
      refine (hP _ H HC).mono ?_
      rintro e w19 ⟨rfl, hb19⟩
      replace hB := bvia hB hb19
      by_cases hJ : J = 0
      · subst hJ
        by_cases hmk : (m : Int) = k - 1
        · have hp := F3.out (by first | trivial | rfl) (by first | trivial | rfl) hmk
          go_wp2_with fail
          go_ret
          exact ⟨ret_bool (by simp <;> omega), hB⟩
        · go_wp2_with fail
          go_ret
          exact ⟨ret_bool (by simp <;> omega), hB⟩
      · have hJb : (J == 0) = false := by simpa using hJ
        have hJc : (J != 0) = true := by simpa using hJ
        go_wp2_with fail
        go_ret
        exact ⟨ret_bool (by simp <;> omega), hB⟩
  · have hQb : (Q == 0) = false := by simpa using hQ0
    clear hQ0
    cases hVV : V
    · subst hVV
      go_wp2_with fail
      refine (hP _ H HC).mono ?_
      rintro e w19 ⟨rfl, hb19⟩
      replace hB := bvia hB hb19
      go_wp2_with fail
      go_ret
      exact ⟨ret_bool (by simp), hB⟩
    · subst hVV
      obtain ⟨rfl, hMl, k1, k2⟩ := F1.out (by first | trivial | rfl)
      go_wp2_with fail
      refine (hP _ H HC).mono ?_
      rintro e w19 ⟨rfl, hb19⟩
      replace hB := bvia hB hb19
      by_cases hJ : J = 0
      · subst hJ
        by_cases hmk : (m : Int) = k - 1
        · have hp := F3.out (by first | trivial | rfl) (by first | trivial | rfl) hmk
          go_wp2_with fail
          go_ret
          exact ⟨ret_bool (by simp <;> omega), hB⟩
        · go_wp2_with fail
          go_ret
          exact ⟨ret_bool (by simp <;> omega), hB⟩
      · have hJb : (J == 0) = false := by simpa using hJ
        have hJc : (J != 0) = true := by simpa using hJ
        go_wp2_with fail
        go_ret
        exact ⟨ret_bool (by simp <;> omega), hB⟩
end Go.Proofs.Ytgpcmkoimgnlbaa
