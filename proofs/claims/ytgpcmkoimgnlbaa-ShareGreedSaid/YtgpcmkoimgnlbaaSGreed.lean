/- The walk of the law ShareGreed. -/
import Derived.Test.YtgpcmkoimgnlbaaSSame
namespace Go.Proofs.Ytgpcmkoimgnlbaa
open Go Go.RowKit
set_option linter.unusedVariables false
/-- where the last cut is -/
def lastX : List Int → Nat → Nat
  | [], x => x
  | c :: cs, x => lastX cs c.toNat
theorem lastX_snoc : ∀ (cs : List Int) (x i : Nat), lastX (cs ++ [(i : Int)]) x = i
  | [], x, i => by simp [lastX]
  | c :: cs, x, i => by simp only [List.cons_append, lastX]; exact lastX_snoc cs _ i
theorem cuts_cut {f : Nat → Int} {i : Nat} {M : Int} (hi : f i ≤ M) : ∀ (cs : List Int) (x : Nat), Cuts f i M cs x → Cuts f (i + 1) M (cs ++ [(i : Int)]) x
  | [], x, ⟨h1, h2⟩ => ⟨i, rfl, h1, by omega, h2, by omega, by rw [sg_succ, sg_self]; omega⟩
  | c :: cs, x, ⟨z, e, h1, h2, h3, h4⟩ => ⟨z, e, h1, by omega, h3, cuts_cut hi cs z h4⟩
theorem cuts_go {f : Nat → Int} {i : Nat} {M : Int} : ∀ (cs : List Int) (x : Nat), Cuts f i M cs x → sg f (lastX cs x) (i + 1) ≤ M → Cuts f (i + 1) M cs x
  | [], x, ⟨h1, h2⟩, h => ⟨by omega, h⟩
  | c :: cs, x, ⟨z, e, h1, h2, h3, h4⟩, h => ⟨z, e, h1, by omega, h3, cuts_go cs z h4 (by simp only [lastX] at h; rw [e, Int.toNat_natCast] at h; exact h)⟩
theorem gr_cuts {f : Nat → Int} {M : Int} (hM : 0 ≤ M) : ∀ i cs now, gr f M i = some (cs, now) → Cuts f i M cs 0 ∧ now = sg f (lastX cs 0) i
  | 0, cs, now, e => by
    simp only [gr, Option.some.injEq, Prod.mk.injEq] at e
    obtain ⟨rfl, rfl⟩ := e
    exact ⟨⟨Nat.le_refl _, by rw [sg_self]; exact hM⟩, by simp [lastX, sg_self]⟩
  | i + 1, cs, now, e => by
    simp only [gr] at e
    split at e
    · cases e
    · rename_i cs0 now0 e0
      obtain ⟨h1, h2⟩ := gr_cuts hM i cs0 now0 e0
      split at e
      · cases e
      · rename_i hle
        split at e
        · simp only [Option.some.injEq, Prod.mk.injEq] at e
          obtain ⟨rfl, rfl⟩ := e
          exact ⟨cuts_cut (by omega) cs0 0 h1, by rw [lastX_snoc, sg_succ, sg_self]; omega⟩
        · rename_i hgt
          simp only [Option.some.injEq, Prod.mk.injEq] at e
          obtain ⟨rfl, rfl⟩ := e
          exact ⟨cuts_go cs0 0 h1 (by rw [sg_succ]; omega), by rw [sg_succ]; omega⟩
/-- the words of the law -/
theorem greed_zero {v m g : Bool} (h : gdE v m g = 0) : v = true ∧ m = true ∧ g = true := by
  unfold gdE at h
  cases v <;> cases m <;> cases g <;> simp at h ⊢
theorem fi_zero {v k m : Bool} (h : fiE v k m = 0) : v = true ∧ k = true ∧ m = true := by
  unfold fiE at h
  cases v <;> cases k <;> cases m <;> simp at h ⊢
theorem ask_zero {v k : Bool} (h : askE v k = 0) : v = true ∧ k = true := by
  unfold askE at h
  cases v <;> cases k <;> simp at h ⊢
theorem grL_some {f : Nat → Int} {n : Nat} {M : Int} (h : grB f M n = true) : ∃ cs now, gr f M n = some (cs, now) ∧ grL f M n = cs := by
  unfold grB at h; unfold grL
  cases e : gr f M n with
  | none => rw [e] at h; cases h
  | some p => exact ⟨p.1, p.2, rfl, rfl⟩
theorem greed3 {f : Nat → Int} {n : Nat} {k M : Int} (h : fiE (vL n f) (within k 1 16) (within M 0 64000000000) = 0) :
    fiB f n k M = (decide (gdE (vL n f) (within M 0 64000000000) (grB f M n) = 0) && decide (ndR (gdE (vL n f) (within M 0 64000000000) (grB f M n)) (gdL f n M) ≤ k)) := by
  obtain ⟨h1, h2, h3⟩ := fi_zero h
  have hk := (within_iff _ _ _).1 h2
  simp only [fiB, h1, h2, h3, Bool.true_and, fitsB_gr, gdL, gdB, if_true]
  cases hg : grB f M n
  · simp [gdE]
  · simp only [Bool.true_and, gdE, ndR, if_true]
    rw [Bool.eq_iff_iff]; simp; omega
theorem greed4 {f c : Nat → Int} {n m : Nat} {k M : Int} (hj : askE (vL n f) (vK n m c) = 0) (h : fiE (vL n f) (within k 1 16) (within M 0 64000000000) = 0) (hp : pkR f n m c ≤ M) :
    gdE (vL n f) (within M 0 64000000000) (grB f M n) = 0 ∧ ndR (gdE (vL n f) (within M 0 64000000000) (grB f M n)) (gdL f n M) ≤ (m : Int) + 1 := by
  obtain ⟨h1, h2, h3⟩ := fi_zero h
  obtain ⟨_, h4⟩ := ask_zero hj
  have hV := (vL_iff _ _).1 h1
  have hK := (vK_iff _ _ _).1 h4
  have hM := (within_iff _ _ _).1 h3
  have hpk : pkR f n m c = peakL f n m c := by simp [pkR, h1, h4]
  rw [hpk] at hp
  have hr := rk_of_bd hK ((mxTo_le hM.1 (m + 1)).1 hp) (m + 1) (Nat.le_refl _)
  rw [bd_last] at hr
  have hf := (fitsB_iff (validL_nonneg hV) hM.1 hV.1).2 hr
  rw [fitsB_gr, Bool.and_eq_true, decide_eq_true_iff] at hf
  obtain ⟨hg, hl⟩ := hf
  have hE : gdE (vL n f) (within M 0 64000000000) (grB f M n) = 0 := by simp [gdE, h1, h3, hg]
  refine ⟨hE, ?_⟩
  rw [hE]
  simp only [ndR, if_true, gdL, gdB, h1, h3, Bool.and_self]
  omega
theorem greed6 {f : Nat → Int} {n : Nat} {M : Int} (hE : gdE (vL n f) (within M 0 64000000000) (grB f M n) = 0) (hN : ndR (gdE (vL n f) (within M 0 64000000000) (grB f M n)) (gdL f n M) ≤ 16) :
    askE (vL n f) (vK n (gdL f n M).length (fun i => (gdL f n M).getD i 0)) = 0 ∧ pkR f n (gdL f n M).length (fun i => (gdL f n M).getD i 0) ≤ M := by
  rw [hE] at hN
  obtain ⟨h1, h2, h3⟩ := greed_zero hE
  have hM := (within_iff _ _ _).1 h2
  obtain ⟨cs, now, e1, e2⟩ := grL_some h3
  have hL : gdL f n M = cs := by simp [gdL, gdB, h1, h2, e2]
  rw [hL] at hN ⊢
  simp only [ndR, if_true] at hN
  obtain ⟨hc, _⟩ := gr_cuts hM.1 n cs now e1
  obtain ⟨p1, p2⟩ := peak_cuts hM.1 hc (by omega)
  have hK := (vK_iff _ _ _).2 p1
  exact ⟨by rw [h1, hK]; rfl, by rw [pkR, h1, hK]; exact p2⟩
set_option maxRecDepth 100000 in
set_option maxHeartbeats 8000000 in
theorem walk_greed (a ac : Option Addr) (n m ca cc : Nat) (k M : Int) (f c : Nat → Int) (w : World) (hn : n ≤ ca) (hca : ca ≤ maxLen) (hm : m ≤ maxLen) (H : Sl w a n f) (HC : Sl w ac m c) :
    Calls Try.prog 6 #[.slice a n ca, .int .i64 k, .int .i64 M, .slice ac m cc] w fun e w' => e = .returned (.bool true) ∧ Below w.heap.size w w' := by
  have hnm : n ≤ maxLen := Nat.le_trans hn hca
  have hmany := fun W => law9_many a n ca W hnm
  cases hmy : manyB n
  rotate_left
  · rw [hmy] at hmany
    go_enter Try.func6, Try.ntmps6
    go_wp2_with (first | (go_at_call 8; refine (awake9 _).mono ?_; rintro e w1 ⟨rfl, hb1⟩) | (go_at_call 9; refine (hmany _).mono ?_; rintro e w' ⟨rfl, rfl⟩))
    go_ret
    exact ⟨rfl, by (repeat' (first | with_reducible assumption | with_reducible exact Below.refl _ _ | with_reducible refine Below.drew ?_ | with_reducible refine below_drewN ?_ _ | with_reducible refine balloc ?_ _ | with_reducible refine bset ?_ ?_ _ | with_reducible refine Below.setCell ?_ ?_ _ | with_reducible refine Below.alloc ?_ ?_ _ | omega | (simp; done) | (simp; omega)))⟩
  rw [hmy] at hmany
  have hn80 : n ≤ 80 := by simp [manyB] at hmy; omega
  by_cases hm30 : 30 < m
  · unfold maxLen at hm
    clear hmy
    go_enter Try.func6, Try.ntmps6
    go_wp2_with (first | (go_at_call 8; refine (awake9 _).mono ?_; rintro e w1 ⟨rfl, hb1⟩) | (go_at_call 9; refine (hmany _).mono ?_; rintro e w' ⟨rfl, rfl⟩))
    go_ret
    exact ⟨rfl, by (repeat' (first | with_reducible assumption | with_reducible exact Below.refl _ _ | with_reducible refine Below.drew ?_ | with_reducible refine below_drewN ?_ _ | with_reducible refine balloc ?_ _ | with_reducible refine bset ?_ ?_ _ | with_reducible refine Below.setCell ?_ ?_ _ | with_reducible refine Below.alloc ?_ ?_ _ | omega | (simp; done) | (simp; omega)))⟩
  have hG := fun W H => share_Greedy a n ca M f W (by omega) H
  have hG9 := fun W H => ref9_Greedy a n ca M f W (by omega) H
  have hN := fun W H => share_Nodes a n ca M f W (by omega) H
  have hN9 := fun W H => ref9_Nodes a n ca M f W (by omega) H
  have hF := fun W H => share_Fits a n ca k M f W (by omega) H
  have hP := fun W H HC => share_Peak a ac n m ca cc f c W (by omega) (by omega) hn hca H HC
  have hP2 := fun (a2 : Option Addr) (c2 : Nat) W H HC => share_Peak a a2 n (gdL f n M).length ca c2 f (fun i => (gdL f n M).getD i 0) W (by omega) (by have := gdL_length f n M; omega) hn hca H HC
  have f3 := greed3 (f := f) (n := n) (k := k) (M := M)
  have f4 := greed4 (f := f) (c := c) (n := n) (m := m) (k := k) (M := M)
  have f6 := greed6 (f := f) (n := n) (M := M)
  have hll := gdL_length f n M
  generalize ndR (gdE (vL n f) (within M 0 64000000000) (grB f M n)) (gdL f n M) = N at *
  generalize gdE (vL n f) (within M 0 64000000000) (grB f M n) = E at *
  generalize fiE (vL n f) (within k 1 16) (within M 0 64000000000) = I at *
  generalize fiB f n k M = okB at *
  generalize askE (vL n f) (vK n m c) = J at *
  generalize pkR f n m c = pk at *
  generalize askE (vL n f) (vK n (gdL f n M).length (fun i => (gdL f n M).getD i 0)) = J2 at *
  generalize pkR f n (gdL f n M).length (fun i => (gdL f n M).getD i 0) = pk2 at *
  generalize gdL f n M = L at *
  have F3 := hid f3; have F4 := hid f4; have F6 := hid f6
  clear f3 f4 f6 hmy hca hm
  go_enter Try.func6, Try.ntmps6
  go_wp2_with (first | (go_at_call 8; refine (awake9 _).mono ?_; rintro e w1 ⟨rfl, hb1⟩) | (go_at_call 9; refine (hmany _).mono ?_; rintro e w' ⟨rfl, rfl⟩))
  have hB : Below w.heap.size w w1 := hb1
  replace H := H.below hb1
  replace HC := HC.below hb1
  clear hb1
  refine (hG _ H).mono ?_
  rintro e w2 ⟨a1, c1, rfl, S1, hb2⟩
  replace H := H.below hb2
  replace HC := HC.below hb2
  replace hB := bvia hB hb2
  clear hb2
  go_wp2_with fail
  refine (hG9 _ H).mono ?_
  rintro e w3 ⟨a2, c2, rfl, S2, hb3⟩
  replace H := H.below hb3
  replace HC := HC.below hb3
  replace S1 := S1.below hb3
  replace hB := bvia hB hb3
  clear hb3
  go_wp2_with fail
  refine (ref6_sameInts _ _ _ _ _ _ _ _ _ (by omega) (by omega) S1 S2).mono ?_
  rintro e w4 ⟨rfl, hb4⟩
  rw [sameL_self]
  clear S2
  replace H := H.below hb4
  replace HC := HC.below hb4
  replace S1 := S1.below hb4
  replace hB := bvia hB hb4
  clear hb4
  go_wp2_with fail
  refine (hN _ H).mono ?_
  rintro e w5 ⟨rfl, hb5⟩
  replace H := H.below hb5
  replace HC := HC.below hb5
  replace S1 := S1.below hb5
  replace hB := bvia hB hb5
  clear hb5
  go_wp2_with fail
  refine (hN9 _ H).mono ?_
  rintro e w6 ⟨rfl, hb6⟩
  replace H := H.below hb6
  replace HC := HC.below hb6
  replace S1 := S1.below hb6
  replace hB := bvia hB hb6
  clear hb6
  go_wp2_with fail
  refine (hF _ H).mono ?_
  rintro e w7 ⟨rfl, hb7⟩
  replace H := H.below hb7
  replace HC := HC.below hb7
  replace S1 := S1.below hb7
  replace hB := bvia hB hb7
  clear hb7
  by_cases hE0 : E = 0
  · subst hE0
    by_cases hI : I = 0
    · subst hI
      have h3 := F3.out (by first | trivial | rfl)
      by_cases hNk : N ≤ k
      · obtain rfl : okB = true := by rw [h3]; simp [hNk]
        clear h3
        go_wp2_with fail
        refine (hP _ H HC).mono ?_
        rintro e w8 ⟨rfl, hb8⟩
        replace H := H.below hb8
        replace S1 := S1.below hb8
        replace hB := bvia hB hb8
        clear hb8
        by_cases hJ : J = 0
        · subst hJ
          by_cases hp : pk ≤ M
          · obtain ⟨_, h4⟩ := F4.out (by first | trivial | rfl) (by first | trivial | rfl) hp
            by_cases hN16 : N ≤ 16
            · obtain ⟨e1, e2⟩ := F6.out (by first | trivial | rfl) hN16
              subst e1
              go_wp2_with fail
              refine (hP2 a1 c1 _ H S1).mono ?_
              rintro e w9 ⟨rfl, hb9⟩
              go_wp2_with fail
              go_ret
              exact ⟨ret_bool (by simp <;> omega), bvia hB hb9⟩
            · go_wp2_with fail
              go_ret
              exact ⟨rfl, hB⟩
          · skip
            by_cases hN16 : N ≤ 16
            · obtain ⟨e1, e2⟩ := F6.out (by first | trivial | rfl) hN16
              subst e1
              go_wp2_with fail
              refine (hP2 a1 c1 _ H S1).mono ?_
              rintro e w9 ⟨rfl, hb9⟩
              go_wp2_with fail
              go_ret
              exact ⟨ret_bool (by simp <;> omega), bvia hB hb9⟩
            · go_wp2_with fail
              go_ret
              exact ⟨rfl, hB⟩
        · have hJb : (J == 0) = false := by simpa using hJ
          clear hJ
          by_cases hN16 : N ≤ 16
          · obtain ⟨e1, e2⟩ := F6.out (by first | trivial | rfl) hN16
            subst e1
            go_wp2_with fail
            refine (hP2 a1 c1 _ H S1).mono ?_
            rintro e w9 ⟨rfl, hb9⟩
            go_wp2_with fail
            go_ret
            exact ⟨ret_bool (by simp <;> omega), bvia hB hb9⟩
          · go_wp2_with fail
            go_ret
            exact ⟨rfl, hB⟩
      · obtain rfl : okB = false := by rw [h3]; simp; omega
        clear h3
        go_wp2_with fail
        refine (hP _ H HC).mono ?_
        rintro e w8 ⟨rfl, hb8⟩
        replace H := H.below hb8
        replace S1 := S1.below hb8
        replace hB := bvia hB hb8
        clear hb8
        by_cases hJ : J = 0
        · subst hJ
          by_cases hp : pk ≤ M
          · obtain ⟨_, h4⟩ := F4.out (by first | trivial | rfl) (by first | trivial | rfl) hp
            by_cases hN16 : N ≤ 16
            · obtain ⟨e1, e2⟩ := F6.out (by first | trivial | rfl) hN16
              subst e1
              go_wp2_with fail
              refine (hP2 a1 c1 _ H S1).mono ?_
              rintro e w9 ⟨rfl, hb9⟩
              go_wp2_with fail
              go_ret
              exact ⟨ret_bool (by simp <;> omega), bvia hB hb9⟩
            · go_wp2_with fail
              go_ret
              exact ⟨rfl, hB⟩
          · skip
            by_cases hN16 : N ≤ 16
            · obtain ⟨e1, e2⟩ := F6.out (by first | trivial | rfl) hN16
              subst e1
              go_wp2_with fail
              refine (hP2 a1 c1 _ H S1).mono ?_
              rintro e w9 ⟨rfl, hb9⟩
              go_wp2_with fail
              go_ret
              exact ⟨ret_bool (by simp <;> omega), bvia hB hb9⟩
            · go_wp2_with fail
              go_ret
              exact ⟨rfl, hB⟩
        · have hJb : (J == 0) = false := by simpa using hJ
          clear hJ
          by_cases hN16 : N ≤ 16
          · obtain ⟨e1, e2⟩ := F6.out (by first | trivial | rfl) hN16
            subst e1
            go_wp2_with fail
            refine (hP2 a1 c1 _ H S1).mono ?_
            rintro e w9 ⟨rfl, hb9⟩
            go_wp2_with fail
            go_ret
            exact ⟨ret_bool (by simp <;> omega), bvia hB hb9⟩
          · go_wp2_with fail
            go_ret
            exact ⟨rfl, hB⟩
    · have hIb : (I == 0) = false := by simpa using hI
      clear hI
      go_wp2_with fail
      refine (hP _ H HC).mono ?_
      rintro e w8 ⟨rfl, hb8⟩
      replace H := H.below hb8
      replace S1 := S1.below hb8
      replace hB := bvia hB hb8
      clear hb8
      by_cases hJ : J = 0
      · subst hJ
        by_cases hN16 : N ≤ 16
        · obtain ⟨e1, e2⟩ := F6.out (by first | trivial | rfl) hN16
          subst e1
          go_wp2_with fail
          refine (hP2 a1 c1 _ H S1).mono ?_
          rintro e w9 ⟨rfl, hb9⟩
          go_wp2_with fail
          go_ret
          exact ⟨ret_bool (by simp <;> omega), bvia hB hb9⟩
        · go_wp2_with fail
          go_ret
          exact ⟨rfl, hB⟩
      · have hJb : (J == 0) = false := by simpa using hJ
        clear hJ
        by_cases hN16 : N ≤ 16
        · obtain ⟨e1, e2⟩ := F6.out (by first | trivial | rfl) hN16
          subst e1
          go_wp2_with fail
          refine (hP2 a1 c1 _ H S1).mono ?_
          rintro e w9 ⟨rfl, hb9⟩
          go_wp2_with fail
          go_ret
          exact ⟨ret_bool (by simp <;> omega), bvia hB hb9⟩
        · go_wp2_with fail
          go_ret
          exact ⟨rfl, hB⟩
  · have hEb : (E == 0) = false := by simpa using hE0
    have hEc : (E != 0) = true := by simpa using hE0
    have HE0 := hid hE0; clear hE0
    by_cases hI : I = 0
    · subst hI
      have h3 := F3.out (by first | trivial | rfl)
      obtain rfl : okB = false := by rw [h3]; have := HE0.out; simp [this]
      clear h3
      go_wp2_with fail
      refine (hP _ H HC).mono ?_
      rintro e w8 ⟨rfl, hb8⟩
      replace H := H.below hb8
      replace S1 := S1.below hb8
      replace hB := bvia hB hb8
      clear hb8
      by_cases hJ : J = 0
      · subst hJ
        have hp : ¬ pk ≤ M := fun h => HE0.out (F4.out (by first | trivial | rfl) (by first | trivial | rfl) h).1
        go_wp2_with fail
        go_ret
        exact ⟨rfl, hB⟩
      · have hJb : (J == 0) = false := by simpa using hJ
        clear hJ
        go_wp2_with fail
        go_ret
        exact ⟨rfl, hB⟩
    · have hIb : (I == 0) = false := by simpa using hI
      clear hI
      go_wp2_with fail
      refine (hP _ H HC).mono ?_
      rintro e w8 ⟨rfl, hb8⟩
      replace H := H.below hb8
      replace S1 := S1.below hb8
      replace hB := bvia hB hb8
      clear hb8
      by_cases hJ : J = 0
      · subst hJ
        go_wp2_with fail
        go_ret
        exact ⟨rfl, hB⟩
      · have hJb : (J == 0) = false := by simpa using hJ
        clear hJ
        go_wp2_with fail
        go_ret
        exact ⟨rfl, hB⟩
end Go.Proofs.Ytgpcmkoimgnlbaa
