/- The walk of the law ShareMoves. -/
import Derived.Test.YtgpcmkoimgnlbaaSSame
import Derived.Test.YtgpcmkoimgnlbaaSMoved
import Derived.Test.YtgpcmkoimgnlbaaSEven
import Derived.Test.YtgpcmkoimgnlbaaSRebal
namespace Go.Proofs.Ytgpcmkoimgnlbaa
open Go Go.RowKit
set_option linter.unusedVariables false
theorem mv_small {f : Nat → Int} {n m : Nat} {c : Nat → Int} {k b : Int} (h : mvE f n m c k b = 0) : -64 ≤ b ∧ b ≤ 64 := by
  cases h1 : vL n f
  · simp [mvE, h1] at h
  · have hV := ((vL_iff _ _).1 h1).2.1
    cases h2 : (vK n m c && within k 0 ((m : Int) - 1) && vK n m (mvC c k b))
    · simp [mvE, h1, h2] at h
    · rw [Bool.and_eq_true, Bool.and_eq_true] at h2
      have := mv_by h2.1.1 h2.1.2 h2.2
      omega
set_option maxRecDepth 100000 in
set_option maxHeartbeats 8000000 in
theorem walk_moves (a ac : Option Addr) (n m ca cc : Nat) (k x b : Int) (f c : Nat → Int) (w : World) (hn : n ≤ ca) (hca : ca ≤ maxLen) (hm : m ≤ maxLen) (H : Sl w a n f) (HC : Sl w ac m c) :
    Calls Try.prog 7 #[.slice a n ca, .slice ac m cc, .int .i64 k, .int .i64 x, .int .i64 b] w fun e w' => e = .returned (.bool true) ∧ Below w.heap.size w w' := by
  have hnm : n ≤ maxLen := Nat.le_trans hn hca
  have hmany := fun W => law9_many a n ca W hnm
  cases hmy : manyB n
  rotate_left
  · rw [hmy] at hmany
    go_enter Try.func7, Try.ntmps7
    go_wp2_with (first | (go_at_call 8; refine (awake9 _).mono ?_; rintro e w1 ⟨rfl, hb1⟩) | (go_at_call 9; refine (hmany _).mono ?_; rintro e w' ⟨rfl, rfl⟩))
    go_ret
    exact ⟨rfl, by (repeat' (first | with_reducible assumption | with_reducible exact Below.refl _ _ | with_reducible refine Below.drew ?_ | with_reducible refine below_drewN ?_ _ | with_reducible refine balloc ?_ _ | with_reducible refine bset ?_ ?_ _ | with_reducible refine Below.setCell ?_ ?_ _ | with_reducible refine Below.alloc ?_ ?_ _ | omega | (simp; done) | (simp; omega)))⟩
  rw [hmy] at hmany
  have hn80 : n ≤ 80 := by simp [manyB] at hmy; omega
  by_cases hm30 : 30 < m
  · unfold maxLen at hm
    clear hmy
    go_enter Try.func7, Try.ntmps7
    go_wp2_with (first | (go_at_call 8; refine (awake9 _).mono ?_; rintro e w1 ⟨rfl, hb1⟩) | (go_at_call 9; refine (hmany _).mono ?_; rintro e w' ⟨rfl, rfl⟩))
    go_ret
    exact ⟨rfl, by (repeat' (first | with_reducible assumption | with_reducible exact Below.refl _ _ | with_reducible refine Below.drew ?_ | with_reducible refine below_drewN ?_ _ | with_reducible refine balloc ?_ _ | with_reducible refine bset ?_ ?_ _ | with_reducible refine Below.setCell ?_ ?_ _ | with_reducible refine Below.alloc ?_ ?_ _ | omega | (simp; done) | (simp; omega)))⟩
  have hM := fun W H HC => share_Moved a ac n m ca cc f c x b W (by omega) (by omega) H HC
  have hM9 := fun W H HC => ref9_Moved a ac n m ca cc f c x b W (by omega) (by omega) H HC
  have hE := fun W H => share_Even a n ca k f W (by omega) H
  have hE9 := fun W H => ref9_Even a n ca k f W (by omega) H
  have hR := fun W H HC => share_Rebalanced a ac n m ca cc f c W (by omega) (by omega) hn hca H HC
  have hR9 := fun W H HC => ref9_Rebalanced a ac n m ca cc f c W (by omega) (by omega) hn hca H HC
  unfold RebPost at hR hR9
  have hM2 := fun (a2 : Option Addr) (c2 : Nat) W H HC => share_Moved a a2 n m ca c2 f (fun i => (mvL f n m c x b).getD i 0) x (-b) W (by omega) (by omega) H HC
  have f1 := mv_back (f := f) (c := c) (n := n) (m := m) (k := x) (b := b)
  have f2 := mv_small (f := f) (c := c) (n := n) (m := m) (k := x) (b := b)
  have l1 := mvL_length f n m c x b
  have l2 := evL_length f n k
  have l3 := reL_length f n m c
  have l4 := mvL_length f n m (fun i => (mvL f n m c x b).getD i 0) x (-b)
  generalize mvL f n m (fun i => (mvL f n m c x b).getD i 0) x (-b) = L4 at *
  generalize mvE f n m (fun i => (mvL f n m c x b).getD i 0) x (-b) = E4 at *
  generalize mvL f n m c x b = L1 at *
  generalize mvE f n m c x b = E1 at *
  generalize evL f n k = L2 at *
  generalize askE (vL n f) (within k 1 16) = E2 at *
  generalize reL f n m c = L3 at *
  generalize reN f n m c = N3 at *
  generalize askE (vL n f) (vK n m c) = E3 at *
  have F1 := hid f1; have F2 := hid f2
  clear f1 f2 hmy hca hm
  go_enter Try.func7, Try.ntmps7
  go_wp2_with (first | (go_at_call 8; refine (awake9 _).mono ?_; rintro e w1 ⟨rfl, hb1⟩) | (go_at_call 9; refine (hmany _).mono ?_; rintro e w' ⟨rfl, rfl⟩))
  have hB : Below w.heap.size w w1 := hb1
  replace H := H.below hb1
  replace HC := HC.below hb1
  clear hb1
  refine (hM _ H HC).mono ?_
  rintro e w2 ⟨a1, c1, rfl, S1, hb2⟩
  replace H := H.below hb2
  replace HC := HC.below hb2
  replace hB := bvia hB hb2
  clear hb2
  go_wp2_with fail
  refine (hM9 _ H HC).mono ?_
  rintro e w3 ⟨a2, c2, rfl, S2, hb3⟩
  replace H := H.below hb3
  replace HC := HC.below hb3
  replace S1 := S1.below hb3
  replace hB := bvia hB hb3
  clear hb3
  go_wp2_with fail
  refine (ref6_sameInts _ _ _ _ _ _ _ _ _ (by omega) (by omega) S1 S2).mono ?_
  rintro e w6 ⟨rfl, hb6⟩
  rw [sameL_self]
  clear S2
  replace H := H.below hb6
  replace HC := HC.below hb6
  replace S1 := S1.below hb6
  replace hB := bvia hB hb6
  clear hb6
  go_wp2_with fail
  refine (hE _ H).mono ?_
  rintro e w2 ⟨a3, c3, rfl, S3, hb2⟩
  replace H := H.below hb2
  replace HC := HC.below hb2
  replace S1 := S1.below hb2
  replace hB := bvia hB hb2
  clear hb2
  go_wp2_with fail
  refine (hE9 _ H).mono ?_
  rintro e w3 ⟨a4, c4, rfl, S4, hb3⟩
  replace H := H.below hb3
  replace HC := HC.below hb3
  replace S1 := S1.below hb3
  replace S3 := S3.below hb3
  replace hB := bvia hB hb3
  clear hb3
  go_wp2_with fail
  refine (ref6_sameInts _ _ _ _ _ _ _ _ _ (by omega) (by omega) S3 S4).mono ?_
  rintro e w6 ⟨rfl, hb6⟩
  rw [sameL_self]
  clear S3 S4
  replace H := H.below hb6
  replace HC := HC.below hb6
  replace S1 := S1.below hb6
  replace hB := bvia hB hb6
  clear hb6
  go_wp2_with fail
  refine (hR _ H HC).mono ?_
  rintro e w2 ⟨a3, c3, rfl, S3, hb2⟩
  replace H := H.below hb2
  replace HC := HC.below hb2
  replace S1 := S1.below hb2
  replace hB := bvia hB hb2
  clear hb2
  go_wp2_with fail
  refine (hR9 _ H HC).mono ?_
  rintro e w3 ⟨a4, c4, rfl, S4, hb3⟩
  replace H := H.below hb3
  replace HC := HC.below hb3
  replace S1 := S1.below hb3
  replace S3 := S3.below hb3
  replace hB := bvia hB hb3
  clear hb3
  go_wp2_with fail
  refine (ref6_sameInts _ _ _ _ _ _ _ _ _ (by omega) (by omega) S3 S4).mono ?_
  rintro e w6 ⟨rfl, hb6⟩
  rw [sameL_self]
  clear S3 S4
  replace H := H.below hb6
  replace HC := HC.below hb6
  replace S1 := S1.below hb6
  replace hB := bvia hB hb6
  clear hb6
  by_cases hE0 : E1 = 0
  · subst hE0
    obtain ⟨g1, rfl, g3, g4⟩ := F1.out (by first | trivial | rfl)
    obtain ⟨b0, b1⟩ := F2.out (by first | trivial | rfl)
    rw [g1] at S1 ⊢
    have G4 := hid g4; clear g4
    go_wp2_with fail
    refine (hM2 a1 c1 _ H S1).mono ?_
    rintro e w10 ⟨a5, c5, rfl, S5, hb10⟩
    clear S1
    replace H := H.below hb10
    replace HC := HC.below hb10
    replace hB := bvia hB hb10
    clear hb10
    rw [g3] at S5 ⊢
    go_wp2_with fail
    refine (ref6_sameInts _ _ _ _ _ _ _ _ _ (by omega) (by omega) S5 HC).mono ?_
    rintro e w11 ⟨rfl, hb11⟩
    rw [sameL_iff.2 ⟨rfl, G4.out⟩]
    replace H := H.below hb11
    replace HC := HC.below hb11
    replace hB := bvia hB hb11
    clear hb11
    go_wp2_with fail
    go_ret
    exact ⟨rfl, hB⟩
  · have hEb : (E1 == 0) = false := by simpa using hE0
    have hEc : (E1 != 0) = true := by simpa using hE0
    go_wp2_with fail
    go_ret
    exact ⟨rfl, hB⟩
end Go.Proofs.Ytgpcmkoimgnlbaa
