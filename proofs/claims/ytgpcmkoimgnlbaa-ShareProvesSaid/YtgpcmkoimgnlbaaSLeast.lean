/- The walk of the law ShareLeast. -/
import Derived.Test.YtgpcmkoimgnlbaaSSame
import Derived.Test.YtgpcmkoimgnlbaaSBest9
namespace Go.Proofs.Ytgpcmkoimgnlbaa
open Go Go.RowKit
set_option linter.unusedVariables false
theorem askE_zero {v k : Bool} (h : askE v k = 0) : v = true ∧ k = true := by
  unfold askE at h
  cases v <;> cases k <;> simp at h ⊢
theorem lea_best {f : Nat → Int} {n : Nat} {k : Int} (h : askE (vL n f) (within k 1 16) = 0) :
    askE (vL n f) (vK n (besL f n k).length (fun i => (besL f n k).getD i 0)) = 0 ∧ pkR f n (besL f n k).length (fun i => (besL f n k).getD i 0) = leaR f n k ∧ k = ((besL f n k).length : Int) + 1 := by
  obtain ⟨h1, h2⟩ := askE_zero h
  have hk := (within_iff _ _ _).1 h2
  have hV := (vL_iff _ _).1 h1
  obtain ⟨m, rfl⟩ : ∃ m : Nat, k = (m : Int) := ⟨k.toNat, by omega⟩
  have e1 : besL f n m = bestL f n (leastL f n m) (m - 1) 0 := by simp [besL, h1, h2]
  have e2 : leaR f n m = leastL f n m := by simp [leaR, h1, h2]
  obtain ⟨p1, p2⟩ := best_peak (k := m) (validL_nonneg hV) (by omega) (by omega)
  rw [e1, e2]
  have hK := (vK_iff _ _ _).2 p1
  refine ⟨by rw [h1, hK]; rfl, by rw [pkR, h1, hK]; exact p2, by rw [bestL_length]; omega⟩
theorem lea_more {f : Nat → Int} {n : Nat} {k : Int} (h : askE (vL n f) (within k 1 16) = 0) (hk : k < 16) : askE (vL n f) (within (k + 1) 1 16) = 0 ∧ leaR f n (k + 1) ≤ leaR f n k := by
  obtain ⟨h1, h2⟩ := askE_zero h
  have hk := (within_iff _ _ _).1 h2
  have hV := (vL_iff _ _).1 h1
  have h3 : within (k + 1) 1 16 = true := (within_iff _ _ _).2 (by omega)
  obtain ⟨m, rfl⟩ : ∃ m : Nat, k = (m : Int) := ⟨k.toNat, by omega⟩
  refine ⟨by rw [h1, h3]; rfl, ?_⟩
  have e2 : leaR f n m = leastL f n m := by simp [leaR, h1, h2]
  have e3 : leaR f n (m + 1) = leastL f n (m + 1) := by simp only [leaR, h1, h3, Bool.and_self, if_true]; rfl
  rw [e2, e3]
  exact least_more (validL_nonneg hV) (by omega)
theorem lea_cuts {f c : Nat → Int} {n m : Nat} {k : Int} (h : askE (vL n f) (within k 1 16) = 0) (hj : askE (vL n f) (vK n m c) = 0) (hm : (m : Int) = k - 1) : leaR f n k ≤ pkR f n m c := by
  obtain ⟨h1, h2⟩ := askE_zero h
  obtain ⟨_, h4⟩ := askE_zero hj
  have hV := (vL_iff _ _).1 h1
  have hK := (vK_iff _ _ _).1 h4
  have e2 : leaR f n k = leastL f n (m + 1) := by simp only [leaR, h1, h2, Bool.and_self, if_true]; rw [show k.toNat = m + 1 from by omega]
  rw [e2, pkR, h1, h4]
  exact least_peak (validL_nonneg hV) hK
theorem besL_length (f : Nat → Int) (n : Nat) (k : Int) : (besL f n k).length ≤ 16 := by
  unfold besL
  split
  · rename_i h
    rw [Bool.and_eq_true] at h
    have hk := (within_iff _ _ _).1 h.2
    rw [bestL_length]; omega
  · simp
set_option maxRecDepth 100000 in
set_option maxHeartbeats 8000000 in
theorem walk_least (a ac : Option Addr) (n m ca cc : Nat) (k M : Int) (f c : Nat → Int) (w : World) (hn : n ≤ ca) (hca : ca ≤ maxLen) (hm : m ≤ maxLen) (H : Sl w a n f) (HC : Sl w ac m c) :
    Calls Try.prog 3 #[.slice a n ca, .int .i64 k, .int .i64 M, .slice ac m cc] w fun e w' => e = .returned (.bool true) ∧ Below w.heap.size w w' := by
  have hnm : n ≤ maxLen := Nat.le_trans hn hca
  have hmany := fun W => law9_many a n ca W hnm
  cases hmy : manyB n
  rotate_left
  · rw [hmy] at hmany
    go_enter Try.func3, Try.ntmps3
    go_wp2_with (first | (go_at_call 8; refine (awake9 _).mono ?_; rintro e w1 ⟨rfl, hb1⟩) | (go_at_call 9; refine (hmany _).mono ?_; rintro e w' ⟨rfl, rfl⟩))
    go_ret
    exact ⟨rfl, by (repeat' (first | with_reducible assumption | with_reducible exact Below.refl _ _ | with_reducible refine Below.drew ?_ | with_reducible refine below_drewN ?_ _ | with_reducible refine balloc ?_ _ | with_reducible refine bset ?_ ?_ _ | with_reducible refine Below.setCell ?_ ?_ _ | with_reducible refine Below.alloc ?_ ?_ _ | omega | (simp; done) | (simp; omega)))⟩
  rw [hmy] at hmany
  have hn80 : n ≤ 80 := by simp [manyB] at hmy; omega
  by_cases hm30 : 30 < m
  · unfold maxLen at hm
    clear hmy
    go_enter Try.func3, Try.ntmps3
    go_wp2_with (first | (go_at_call 8; refine (awake9 _).mono ?_; rintro e w1 ⟨rfl, hb1⟩) | (go_at_call 9; refine (hmany _).mono ?_; rintro e w' ⟨rfl, rfl⟩))
    go_ret
    exact ⟨rfl, by (repeat' (first | with_reducible assumption | with_reducible exact Below.refl _ _ | with_reducible refine Below.drew ?_ | with_reducible refine below_drewN ?_ _ | with_reducible refine balloc ?_ _ | with_reducible refine bset ?_ ?_ _ | with_reducible refine Below.setCell ?_ ?_ _ | with_reducible refine Below.alloc ?_ ?_ _ | omega | (simp; done) | (simp; omega)))⟩
  have hL := fun W H => share_Least a n ca k f W (by omega) H
  have hL9 := fun W H => ref9_Least a n ca k f W (by omega) H
  have hL1 := fun W H => share_Least a n ca (k + 1) f W (by omega) H
  have hS := fun W H => share_Best a n ca k f W (by omega) hn hca H
  have hS9 := fun W H => ref9_Best a n ca k f W (by omega) hn hca H
  have hF := fun W H => share_Fits a n ca k M f W (by omega) H
  have hF9 := fun W H => ref9_Fits a n ca k M f W (by omega) H
  have hP := fun W H HC => share_Peak a ac n m ca cc f c W (by omega) (by omega) hn hca H HC
  have hP2 := fun (a2 : Option Addr) (c2 : Nat) W H HC => share_Peak a a2 n (besL f n k).length ca c2 f (fun i => (besL f n k).getD i 0) W (by omega) (by have := besL_length f n k; omega) hn hca H HC
  have f1 := lea_best (f := f) (n := n) (k := k)
  have f2 := lea_more (f := f) (n := n) (k := k)
  have f3 := lea_cuts (f := f) (c := c) (n := n) (m := m) (k := k)
  have hll := besL_length f n k
  generalize leaR f n (k + 1) = lea1 at *
  generalize leaR f n k = lea at *
  generalize askE (vL n f) (within (k + 1) 1 16) = E1 at *
  generalize askE (vL n f) (within k 1 16) = E at *
  generalize fiE (vL n f) (within k 1 16) (within M 0 64000000000) = I at *
  generalize fiB f n k M = okB at *
  generalize askE (vL n f) (vK n m c) = J at *
  generalize pkR f n m c = pk at *
  generalize askE (vL n f) (vK n (besL f n k).length (fun i => (besL f n k).getD i 0)) = J2 at *
  generalize pkR f n (besL f n k).length (fun i => (besL f n k).getD i 0) = pk2 at *
  generalize besL f n k = L at *
  have F1 := hid f1; have F2 := hid f2; have F3 := hid f3
  clear f1 f2 f3 hmy hca hm
  go_enter Try.func3, Try.ntmps3
  go_wp2_with (first | (go_at_call 8; refine (awake9 _).mono ?_; rintro e w1 ⟨rfl, hb1⟩) | (go_at_call 9; refine (hmany _).mono ?_; rintro e w' ⟨rfl, rfl⟩))
  have hB : Below w.heap.size w w1 := hb1
  replace H := H.below hb1
  replace HC := HC.below hb1
  clear hb1
  refine (hL _ H).mono ?_
  rintro e w2 ⟨rfl, hb2⟩
  replace H := H.below hb2
  replace HC := HC.below hb2
  replace hB := bvia hB hb2
  clear hb2
  go_wp2_with fail
  refine (hL9 _ H).mono ?_
  rintro e w3 ⟨rfl, hb3⟩
  replace H := H.below hb3
  replace HC := HC.below hb3
  replace hB := bvia hB hb3
  clear hb3
  go_wp2_with fail
  refine (hS _ H).mono ?_
  rintro e w4 ⟨a1, c1, rfl, S1, hb4⟩
  replace H := H.below hb4
  replace HC := HC.below hb4
  replace hB := bvia hB hb4
  clear hb4
  go_wp2_with fail
  refine (hS9 _ H).mono ?_
  rintro e w5 ⟨a2, c2, rfl, S2, hb5⟩
  replace H := H.below hb5
  replace HC := HC.below hb5
  replace S1 := S1.below hb5
  replace hB := bvia hB hb5
  clear hb5
  go_wp2_with fail
  refine (ref6_sameInts _ _ _ _ _ _ _ _ _ (by omega) (by omega) S1 S2).mono ?_
  rintro e w6 ⟨rfl, hb6⟩
  rw [sameL_self]
  clear S2
  replace H := H.below hb6
  replace HC := HC.below hb6
  replace S1 := S1.below hb6
  replace hB := bvia hB hb6
  clear hb6
  go_wp2_with fail
  refine (hF _ H).mono ?_
  rintro e w7 ⟨rfl, hb7⟩
  replace H := H.below hb7
  replace HC := HC.below hb7
  replace S1 := S1.below hb7
  replace hB := bvia hB hb7
  clear hb7
  go_wp2_with fail
  refine (hF9 _ H).mono ?_
  rintro e w8 ⟨rfl, hb8⟩
  replace H := H.below hb8
  replace HC := HC.below hb8
  replace S1 := S1.below hb8
  replace hB := bvia hB hb8
  clear hb8
  by_cases hE0 : E = 0
  · subst hE0
    obtain ⟨rfl, rfl, rfl⟩ := F1.out (by first | trivial | rfl)
    go_wp2_with fail
    refine (hP2 a1 c1 _ H S1).mono ?_
    rintro e w10 ⟨rfl, hb10⟩
    clear S1
    replace H := H.below hb10
    replace HC := HC.below hb10
    replace hB := bvia hB hb10
    clear hb10
    by_cases hk : L.length < 15
    · obtain ⟨rfl, h2⟩ := F2.out (by first | trivial | rfl) (by omega)
      go_wp2_with fail
      refine (hL1 _ H).mono ?_
      rintro e w11 ⟨rfl, hb11⟩
      replace H := H.below hb11
      replace HC := HC.below hb11
      replace hB := bvia hB hb11
      clear hb11
      go_wp2_with fail
      refine (hP _ H HC).mono ?_
      rintro e w9 ⟨rfl, hb9⟩
      replace hB := bvia hB hb9
      by_cases hJ : J = 0
      · subst hJ
        by_cases hmk : (m : Int) = (L.length : Int)
        · have hp := F3.out (by first | trivial | rfl) (by omega)
          go_wp2_with fail
          go_ret
          exact ⟨ret_bool (by simp <;> omega), hB⟩
        · go_wp2_with fail
          go_ret
          exact ⟨ret_bool (by simp <;> omega), hB⟩
      · have hJb : (J == 0) = false := by simpa using hJ
        have hJc : (J != 0) = true := by simpa using hJ
        go_wp2_with fail
        go_ret
        exact ⟨ret_bool (by simp <;> omega), hB⟩
    · skip
      go_wp2_with fail
      refine (hP _ H HC).mono ?_
      rintro e w9 ⟨rfl, hb9⟩
      replace hB := bvia hB hb9
      by_cases hJ : J = 0
      · subst hJ
        by_cases hmk : (m : Int) = (L.length : Int)
        · have hp := F3.out (by first | trivial | rfl) (by omega)
          go_wp2_with fail
          go_ret
          exact ⟨ret_bool (by simp <;> omega), hB⟩
        · go_wp2_with fail
          go_ret
          exact ⟨ret_bool (by simp <;> omega), hB⟩
      · have hJb : (J == 0) = false := by simpa using hJ
        have hJc : (J != 0) = true := by simpa using hJ
        go_wp2_with fail
        go_ret
        exact ⟨ret_bool (by simp <;> omega), hB⟩
  · have hEb : (E == 0) = false := by simpa using hE0
    have hEc : (E != 0) = true := by simpa using hE0
    go_wp2_with fail
    go_ret
    exact ⟨rfl, hB⟩
end Go.Proofs.Ytgpcmkoimgnlbaa
