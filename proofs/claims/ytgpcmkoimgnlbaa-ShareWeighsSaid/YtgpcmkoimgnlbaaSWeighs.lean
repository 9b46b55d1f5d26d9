/- The walk of the law ShareWeighs. -/
import Derived.Test.YtgpcmkoimgnlbaaSSame
import Derived.Test.YtgpcmkoimgnlbaaSSpare
namespace Go.Proofs.Ytgpcmkoimgnlbaa
open Go Go.RowKit
set_option linter.unusedVariables false
theorem sumTo_congr2 {f g : Nat → Int} : ∀ n, (∀ k, k < n → f k = g k) → sumTo f n = sumTo g n
  | 0, _ => rfl
  | n + 1, h => by simp only [sumTo, sumTo_congr2 n (fun k hk => h k (by omega)), h n (by omega)]
theorem sumTo_max {f : Nat → Int} {n : Nat} (h : ∀ k, k < n → 0 ≤ f k ∧ f k ≤ 64000000000) : ∀ j, j ≤ n → 0 ≤ sumTo f j ∧ sumTo f j ≤ j * 64000000000
  | 0, _ => by simp [sumTo]
  | j + 1, hj => by
    have := sumTo_max h j (by omega)
    have := h j (by omega)
    simp only [sumTo]; omega
theorem weighs_sum {f c : Nat → Int} {n m : Nat} : if askE (vL n f) (vK n m c) = 0 then sumTo (fun k => (wtR f n m c).getD k 0) (wtR f n m c).length = sumTo f n ∧ n ≤ 64 ∧ ∀ k, k < n → 0 ≤ f k ∧ f k ≤ 1000000000 else (wtR f n m c).length = 0 := by
  split
  · rename_i h
    have hv : (vL n f && vK n m c) = true := by
      cases hb : (vL n f && vK n m c)
      · exact absurd h (ask_bad (by rw [hb]; decide))
      · rfl
    have e1 : wtR f n m c = wtL f n m c (m + 1) := by rw [wtR, if_pos hv]
    rw [Bool.and_eq_true] at hv
    have hV := (vL_iff _ _).1 hv.1
    refine ⟨?_, hV.2.1, hV.2.2⟩
    rw [e1, wtL_length, sumTo_congr2 (g := wt f n m c) _ (fun k hk => wtL_get _ _ _ _ _ hk), wt_all]
  · rename_i h
    have hv : ¬ (vL n f && vK n m c) = true := fun hv => h (by
      rw [Bool.and_eq_true] at hv
      rw [hv.1, hv.2]; rfl)
    rw [wtR, if_neg hv]; rfl
theorem spR_length (f : Nat → Int) (n m : Nat) (c : Nat → Int) : (spR f n m c).length ≤ 16 := by
  have := wtR_length f n m c
  simpa [spR] using this
set_option maxRecDepth 100000 in
set_option maxHeartbeats 8000000 in
theorem walk_weighs (a ac : Option Addr) (n m ca cc : Nat) (f c : Nat → Int) (w : World) (hn : n ≤ ca) (hca : ca ≤ maxLen) (hm : m ≤ maxLen) (H : Sl w a n f) (HC : Sl w ac m c) :
    Calls Try.prog 4 #[.slice a n ca, .slice ac m cc] w fun e w' => e = .returned (.bool true) ∧ Below w.heap.size w w' := by
  have hnm : n ≤ maxLen := Nat.le_trans hn hca
  have hmany := fun W => law9_many a n ca W hnm
  cases hmy : manyB n
  rotate_left
  · rw [hmy] at hmany
    go_enter Try.func4, Try.ntmps4
    go_wp2_with (first | (go_at_call 8; refine (awake9 _).mono ?_; rintro e w1 ⟨rfl, hb1⟩) | (go_at_call 9; refine (hmany _).mono ?_; rintro e w' ⟨rfl, rfl⟩))
    go_ret
    exact ⟨rfl, by (repeat' (first | with_reducible assumption | with_reducible exact Below.refl _ _ | with_reducible refine Below.drew ?_ | with_reducible refine below_drewN ?_ _ | with_reducible refine balloc ?_ _ | with_reducible refine bset ?_ ?_ _ | with_reducible refine Below.setCell ?_ ?_ _ | with_reducible refine Below.alloc ?_ ?_ _ | omega | (simp; done) | (simp; omega)))⟩
  rw [hmy] at hmany
  have hn80 : n ≤ 80 := by simp [manyB] at hmy; omega
  by_cases hm30 : 30 < m
  · unfold maxLen at hm
    clear hmy
    go_enter Try.func4, Try.ntmps4
    go_wp2_with (first | (go_at_call 8; refine (awake9 _).mono ?_; rintro e w1 ⟨rfl, hb1⟩) | (go_at_call 9; refine (hmany _).mono ?_; rintro e w' ⟨rfl, rfl⟩))
    go_ret
    exact ⟨rfl, by (repeat' (first | with_reducible assumption | with_reducible exact Below.refl _ _ | with_reducible refine Below.drew ?_ | with_reducible refine below_drewN ?_ _ | with_reducible refine balloc ?_ _ | with_reducible refine bset ?_ ?_ _ | with_reducible refine Below.setCell ?_ ?_ _ | with_reducible refine Below.alloc ?_ ?_ _ | omega | (simp; done) | (simp; omega)))⟩
  have hW := fun W H HC => share_Weights a ac n m ca cc f c W (by omega) (by omega) hn hca H HC
  have hW9 := fun W H HC => (ref9_Weights a ac n m ca cc f c W (by omega) (by omega) H HC).mono fun e w' h => h.list
  have hP := fun W H HC => share_Peak a ac n m ca cc f c W (by omega) (by omega) hn hca H HC
  have hP9 := fun W H HC => ref9_Peak a ac n m ca cc f c W (by omega) (by omega) H HC
  have hS := fun W H HC => share_Spare a ac n m ca cc f c W (by omega) (by omega) hn hca H HC
  have hS9 := fun W H HC => ref9_Spare a ac n m ca cc f c W (by omega) (by omega) H HC
  have hv := fun W H => share_valid a n ca f W (by omega) H
  have hv9 := fun W H => ref9_valid a n ca f W (by omega) H
  have hll := wtR_length f n m c
  have hsl := spR_length f n m c
  have hsum := weighs_sum (f := f) (c := c) (n := n) (m := m)
  obtain ⟨hbd, _, _⟩ := wtR_bd (f := f) (c := c) (n := n) (m := m)
  generalize askE (vL n f) (vK n m c) = E at *
  generalize wtR f n m c = L at *
  generalize spR f n m c = S at *
  generalize pkR f n m c = pk at *
  generalize vL n f = vl at *
  have hmx := sumTo_max hbd
  have HSUM := hid hsum; have HBD := hid hbd; have HMX := hid hmx
  clear hmy hca hm hsum hbd hmx
  go_enter Try.func4, Try.ntmps4
  go_wp2_with (first | (go_at_call 8; refine (awake9 _).mono ?_; rintro e w1 ⟨rfl, hb1⟩) | (go_at_call 9; refine (hmany _).mono ?_; rintro e w' ⟨rfl, rfl⟩))
  have hB : Below w.heap.size w w1 := hb1
  replace H := H.below hb1
  replace HC := HC.below hb1
  clear hb1
  refine (hW _ H HC).mono ?_
  rintro e w2 ⟨a1, c1, rfl, S1, hb2⟩
  replace H := H.below hb2
  replace HC := HC.below hb2
  replace hB := bvia hB hb2
  clear hb2
  go_wp2_with fail
  refine (hW9 _ H HC).mono ?_
  rintro e w3 ⟨a2, c2, rfl, S2, hb3⟩
  replace H := H.below hb3
  replace HC := HC.below hb3
  replace S1 := S1.below hb3
  replace hB := bvia hB hb3
  clear hb3
  go_wp2_with fail
  refine (hv _ H).mono ?_
  rintro e w4 ⟨rfl, rfl⟩
  go_wp2_with fail
  refine (hv9 _ H).mono ?_
  rintro e w4 ⟨rfl, rfl⟩
  go_wp2_with fail
  refine (ref6_sameInts _ _ _ _ _ _ _ _ _ (by omega) (by omega) S1 S2).mono ?_
  rintro e w6 ⟨rfl, hb6⟩
  rw [sameL_self]
  clear S2
  replace H := H.below hb6
  replace HC := HC.below hb6
  replace S1 := S1.below hb6
  replace hB := bvia hB hb6
  clear hb6
  go_wp2_with fail
  refine (hP _ H HC).mono ?_
  rintro e w7 ⟨rfl, hb7⟩
  replace H := H.below hb7
  replace HC := HC.below hb7
  replace S1 := S1.below hb7
  replace hB := bvia hB hb7
  clear hb7
  go_wp2_with fail
  refine (hP9 _ H HC).mono ?_
  rintro e w8 ⟨rfl, hb8⟩
  replace H := H.below hb8
  replace HC := HC.below hb8
  replace S1 := S1.below hb8
  replace hB := bvia hB hb8
  clear hb8
  go_wp2_with fail
  refine (hS _ H HC).mono ?_
  rintro e w9 ⟨a3, c3, rfl, S3, hb9⟩
  replace H := H.below hb9
  replace HC := HC.below hb9
  replace S1 := S1.below hb9
  replace hB := bvia hB hb9
  clear hb9
  go_wp2_with fail
  refine (hS9 _ H HC).mono ?_
  rintro e w10 ⟨a4, c4, rfl, S4, hb10⟩
  replace H := H.below hb10
  replace HC := HC.below hb10
  replace S1 := S1.below hb10
  replace S3 := S3.below hb10
  replace hB := bvia hB hb10
  clear hb10
  go_wp2_with fail
  refine (ref6_sameInts _ _ _ _ _ _ _ _ _ (by omega) (by omega) S3 S4).mono ?_
  rintro e w11 ⟨rfl, hb11⟩
  rw [sameL_self]
  clear S3 S4
  replace H := H.below hb11
  replace HC := HC.below hb11
  replace S1 := S1.below hb11
  replace hB := bvia hB hb11
  clear hb11
  go_wp2_with fail
  go_loop [17, 18] (fun s i => ∃ k : Nat, k ≤ L.length ∧ i = .int .i64 (k : Int) ∧ s = .int .i64 (sumTo (fun k => L.getD k 0) k)) (fun _ i => L.length - (intOf i).toNat)
  case atStart => exact ⟨0, Nat.zero_le _, rfl, rfl⟩
  case round =>
    obtain ⟨k, hk, rfl, rfl⟩ := hrel
    by_cases hlt : k < L.length
    · obtain ⟨b, off, rfl, hbl, hcl⟩ := S1 k hlt
      dsimp only at hcl
      have hst : sumTo (fun k => L.getD k 0) (k + 1) = sumTo (fun k => L.getD k 0) k + L.getD k 0 := rfl
      obtain ⟨b0, b1⟩ := HBD.out k hlt
      obtain ⟨m0, m1⟩ := HMX.out k hk
      have HST := hid hst; clear hst
      generalize sumTo (fun k => L.getD k 0) k = s at *
      generalize L.getD k 0 = u at *
      go_wp2_with fail
      go_round
      case rel => exact ⟨k + 1, by omega, by go_num, by rw [HST.out]⟩
      case measure => simp [intOf] <;> omega
    · obtain rfl : k = L.length := (by omega)
      have hsum := HSUM.out
      by_cases hE : E = 0
      · subst hE
        rw [if_pos rfl] at hsum
        obtain ⟨hT, hn64, hf⟩ := hsum
        have HF := hid hf; clear hf
        rw [hT]
        have hsm := sumTo_most HF.out n (Nat.le_refl _)
        clear hT
        go_wp2_with fail
        go_loop [17, 19] (fun s i => ∃ k : Nat, k ≤ n ∧ i = .int .i64 (k : Int) ∧ s = .int .i64 (sumTo f n - sumTo f k)) (fun _ i => n - (intOf i).toNat)
        case atStart => exact ⟨0, Nat.zero_le _, rfl, by simp [sumTo]⟩
        case round =>
          obtain ⟨j, hj, rfl, rfl⟩ := hrel
          by_cases hlt2 : j < n
          · obtain ⟨b, off, rfl, hbl, hcl⟩ := H j hlt2
            have hst : sumTo f (j + 1) = sumTo f j + f j := rfl
            have hfj := HF.out j hlt2
            have hm1 := sumTo_most HF.out j hj
            have HST := hid hst; clear hst
            generalize sumTo f j = s at *
            generalize sumTo f n = T at *
            go_wp2_with fail
            go_round
            case rel => exact ⟨j + 1, by omega, by go_num, by rw [HST.out]; congr 1; omega⟩
            case measure => simp [intOf] <;> omega
          · obtain rfl : j = n := (by omega)
            rw [Int.sub_self]
            go_wp2_with fail
            go_ret
            exact ⟨rfl, hB⟩
      · rw [if_neg hE] at hsum
        have hEb : (E == 0) = false := by simpa using hE
        clear hE
        rw [hsum]
        have h0 : sumTo (fun k => L.getD k 0) 0 = 0 := rfl
        rw [h0]
        rcases Nat.eq_zero_or_pos n with rfl | hn0
        · go_wp2_with fail
          go_loop [17, 19] (fun s i => s = .int .i64 0 ∧ i = .int .i64 0) (fun _ i => 0)
          case atStart => exact ⟨rfl, rfl⟩
          case round =>
            obtain ⟨rfl, rfl⟩ := hrel
            go_wp2_with fail
            go_ret
            exact ⟨rfl, hB⟩
        · go_wp2_with fail
          go_loop [17, 19] (fun s i => s = .int .i64 0 ∧ i = .int .i64 0) (fun _ i => 0)
          case atStart => exact ⟨rfl, rfl⟩
          case round =>
            obtain ⟨rfl, rfl⟩ := hrel
            go_wp2_with fail
            go_ret
            exact ⟨rfl, hB⟩
end Go.Proofs.Ytgpcmkoimgnlbaa
