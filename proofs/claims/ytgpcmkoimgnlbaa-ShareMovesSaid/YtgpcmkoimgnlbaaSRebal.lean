/- Walks of the share layer: Rebalanced of the program and of the reference. -/
import Derived.Test.YtgpcmkoimgnlbaaSOwn
import Derived.Test.YtgpcmkoimgnlbaaSBest9
import Derived.Test.YtgpcmkoimgnlbaaSWts9
import Derived.Test.YtgpcmkoimgnlbaaSWalk5
namespace Go.Proofs.Ytgpcmkoimgnlbaa
open Go Go.RowKit
set_option linter.unusedVariables false
theorem difTo_congr {p q p' q' : Nat → Nat} : ∀ n, (∀ k, k < n → p k = p' k) → (∀ k, k < n → q k = q' k) → difTo p q n = difTo p' q' n
  | 0, _, _ => rfl
  | n + 1, h1, h2 => by simp only [difTo, difTo_congr n (fun k hk => h1 k (by omega)) (fun k hk => h2 k (by omega)), h1 n (by omega), h2 n (by omega)]
theorem cmp_ne {x y : Int} (h : ¬ x = y) : ¬ Lib.compareInt x y = 0 := by unfold Lib.compareInt; split <;> (try split) <;> omega
theorem cmp_self (x : Int) : Lib.compareInt x x = 0 := by unfold Lib.compareInt; split <;> (try split) <;> omega
set_option maxRecDepth 100000 in
set_option maxHeartbeats 4000000 in
theorem share_differ (a b : Option Addr) (n ca cb : Nat) (p q : Nat → Nat) (w : World) (hn : n ≤ 100000) (H1 : Sl w a n (fun k => (p k : Int))) (H2 : Sl w b n (fun k => (q k : Int))) :
    Calls Try.prog 65 #[.slice a n ca, .slice b n cb, .func (.func 66) #[] #[]] w fun e w' => e = .returned (.int .i64 (difTo p q n : Int)) ∧ Below w.heap.size w w' := by
  have hdl := fun k => difTo_le p q k
  have HDL := hid hdl; clear hdl
  go_enter Try.func65, Try.ntmps65
  go_wp2_with fail
  go_loopw [7, 11] (fun s i wr => ∃ k : Nat, k ≤ n ∧ i = .int .i64 (k : Int) ∧ s = .int .i64 (difTo p q k : Int) ∧ Below w.heap.size w wr) (fun _ i _ => n - (intOf i).toNat)
  case atStart => exact ⟨0, Nat.zero_le _, rfl, rfl, Below.refl _ _⟩
  case round =>
    obtain ⟨k, hk, rfl, rfl, hb⟩ := hrel
    by_cases hlt : k < n
    · obtain ⟨b1, o1, rfl, hl1, hc1⟩ := H1.below hb k hlt
      obtain ⟨b2, o2, rfl, hl2, hc2⟩ := H2.below hb k hlt
      dsimp only at hc1 hc2
      have hst : difTo p q (k + 1) = difTo p q k + if p k = q k then 0 else 1 := rfl
      have HST := hid hst; clear hst
      have hcmp := fun W => Try.cmp_Compare_int (p k : Int) (q k : Int) W
      have hdk := HDL.out k
      have i1 : (0 : Int) ≤ (k : Int) := by omega
      have i2 : (k : Int) < (n : Int) := by omega
      have hc1' : ∀ W, Below wr.heap.size wr W → W.cell? ⟨b1, o1 + k, none⟩ = some (.int .i64 (p k : Int)) := fun W hW => (bcell hW _ _ hl1).trans hc1
      have hc2' : ∀ W, Below wr.heap.size wr W → W.cell? ⟨b2, o2 + k, none⟩ = some (.int .i64 (q k : Int)) := fun W hW => (bcell hW _ _ hl2).trans hc2
      go_upto_region 5 with (fail)
      by_cases he : p k = q k
      · rw [if_pos he, Nat.add_zero] at HST
        rw [he, cmp_self] at hcmp
        rw [he] at hc1 hc1'
        go_region_held3 (fun W => Below wr.heap.size wr W) ((((repeat' (first | with_reducible assumption | with_reducible exact Below.refl _ _ | with_reducible refine Below.drew ?_ | with_reducible refine below_drewN ?_ _ | with_reducible refine balloc ?_ _ | with_reducible refine bset ?_ ?_ _ | with_reducible refine Below.setCell ?_ ?_ _ | with_reducible refine Below.alloc ?_ ?_ _ | omega | (simp; done) | (simp; omega)))))) ((go_at_call 66; refine (hcmp _).mono ?_; rintro e w' ⟨rfl, rfl⟩))
        go_wp2_with fail
        go_roundw
        case rel => exact ⟨k + 1, by omega, by go_num, (by rw [HST.out]; rfl), hb.drew⟩
        case measure => simp [intOf]; omega
      · rw [if_neg he] at HST
        have hne := cmp_ne (x := (p k : Int)) (y := (q k : Int)) (by omega)
        generalize Lib.compareInt (p k : Int) (q k : Int) = z at *
        go_region_held3 (fun W => Below wr.heap.size wr W) ((((repeat' (first | with_reducible assumption | with_reducible exact Below.refl _ _ | with_reducible refine Below.drew ?_ | with_reducible refine below_drewN ?_ _ | with_reducible refine balloc ?_ _ | with_reducible refine bset ?_ ?_ _ | with_reducible refine Below.setCell ?_ ?_ _ | with_reducible refine Below.alloc ?_ ?_ _ | omega | (simp; done) | (simp; omega)))))) ((go_at_call 66; refine (hcmp _).mono ?_; rintro e w' ⟨rfl, rfl⟩))
        go_wp2_with fail
        go_roundw
        case rel => exact ⟨k + 1, by omega, by go_num, by rw [HST.out]; go_num, hb.drew⟩
        case measure => simp [intOf]; omega
    · obtain rfl : k = n := (by omega)
      go_wp2_with fail
      go_ret
      exact ⟨rfl, hb⟩
theorem sl_congr {w : World} {a : Option Addr} {n : Nat} {f g : Nat → Int} (h : Sl w a n f) (e : ∀ k, k < n → f k = g k) : Sl w a n g := fun k hk => by
  obtain ⟨b, o, h1, h2, h3⟩ := h k hk
  exact ⟨b, o, h1, h2, by rw [h3, e k hk]⟩
def RebPost (f : Nat → Int) (n m : Nat) (c : Nat → Int) (w : World) (e : Ending) (w' : World) : Prop :=
  ∃ a cap, e = .returned (.tuple #[.slice a (reL f n m c).length cap, .int .i64 (reN f n m c), .int .i64 (askE (vL n f) (vK n m c))]) ∧ Sl w' a (reL f n m c).length (fun k => (reL f n m c).getD k 0) ∧ Below w.heap.size w w'
theorem re_no {f : Nat → Int} {n m : Nat} {c : Nat → Int} (h : (vL n f && vK n m c) = false) : reL f n m c = [] ∧ reN f n m c = 0 := by simp [reL, reN, h]
theorem re_yes {f : Nat → Int} {n m : Nat} {c : Nat → Int} (h : vL n f = true) (h2 : vK n m c = true) : reL f n m c = bestL f n (leastL f n (m + 1)) m 0 ∧ reN f n m c = (difTo (nodeOf m c) (nodeOf m (fun i => (bestL f n (leastL f n (m + 1)) m 0).getD i 0)) n : Int) := by simp [reL, reN, h, h2]
set_option maxRecDepth 100000 in
set_option maxHeartbeats 4000000 in
theorem share_Rebalanced (a ac : Option Addr) (n m ca cc : Nat) (f c : Nat → Int) (w : World) (hn : n ≤ 100000000) (hm : m ≤ 100000000) (hca : n ≤ ca) (hca2 : ca ≤ maxLen) (H : Sl w a n f) (HC : Sl w ac m c) :
    Calls Try.prog 38 #[.slice a n ca, .slice ac m cc] w (RebPost f n m c w) := by
  unfold RebPost
  have hask := fun W H HC => share_asked a ac n m ca cc f c W hn hm H HC
  cases hv : vL n f
  · obtain ⟨e1, e2⟩ := re_no (f := f) (n := n) (m := m) (c := c) (by rw [hv]; rfl)
    rw [e1, e2]
    rw [hv] at hask
    clear e1 e2 hv
    have e0 : ∀ x, askE false x = 1 := fun _ => rfl
    rw [e0] at hask ⊢
    go_enter Try.func38, Try.ntmps38
    go_wp2_with fail
    refine (hask _ H HC).mono ?_
    rintro e w1 ⟨rfl, hb1⟩
    go_wp2_with fail
    go_ret3
    exact ⟨none, 0, rfl, fun k hk => absurd hk (by simp), hb1⟩
  have hV := (vL_iff _ _).1 hv
  rw [hv] at hask
  cases hK : vK n m c
  · obtain ⟨e1, e2⟩ := re_no (f := f) (n := n) (m := m) (c := c) (by rw [hv, hK]; rfl)
    rw [e1, e2]
    rw [hK, show askE true false = 7 from rfl] at hask
    rw [show askE true false = 7 from rfl]
    clear e1 e2 hv hK hV
    go_enter Try.func38, Try.ntmps38
    go_wp2_with fail
    refine (hask _ H HC).mono ?_
    rintro e w1 ⟨rfl, hb1⟩
    go_wp2_with fail
    go_ret3
    exact ⟨none, 0, rfl, fun k hk => absurd hk (by simp), hb1⟩
  rw [hK, show askE true true = 0 from rfl] at hask
  rw [show askE true true = 0 from rfl]
  have hmK := ((vK_iff _ _ _).1 hK)
  obtain ⟨e1, e2⟩ := re_yes hv hK
  rw [e1, e2]
  clear e1 e2
  have hbc := best_cuts hv hK
  have hll : (bestL f n (leastL f n (m + 1)) m 0).length = m := bestL_length ..
  have hn64 := hV.2.1
  have hm16 := hmK.1
  have hbest := fun W H => share_best a n ca (m + 1) f W hV (by omega) (by omega) hca hca2 H
  rw [show (((m + 1 : Nat)) : Int) = (m : Int) + 1 from by omega, Nat.add_sub_cancel] at hbest
  generalize bestL f n (leastL f n (m + 1)) m 0 = L at *
  generalize hd : (fun i => L.getD i 0) = d at *
  rw [hll]
  have hvL : validK n m c := hmK
  clear hv hK
  have ho1 := fun W H => share_owners n m cc ac c W hn64 hvL H
  have ho2 := fun av cv W H => share_owners n m cv av d W hn64 hbc H
  have hdf := fun a1 c1 a2 c2 W H1 H2 => share_differ a1 a2 n c1 c2 (nodeOf m c) (nodeOf m d) W (by omega) H1 H2
  have hd1 := fun k => nodL_get m c n k
  have hd2 := fun k => nodL_get m d n k
  have hle1 : (nodL m c n).length = n := nodL_length ..
  have hle2 : (nodL m d n).length = n := nodL_length ..
  generalize nodL m c n = N1 at *
  generalize nodL m d n = N2 at *
  go_enter Try.func38, Try.ntmps38
  go_wp2_with fail
  refine (hask _ H HC).mono ?_
  rintro e w1 ⟨rfl, hb1⟩
  go_wp2_with fail
  refine (hbest _ (H.below hb1)).mono ?_
  rintro e w2 ⟨v, rfl, hown, hb2⟩
  obtain ⟨av, cv, rfl, SL⟩ := sl_of_own hown
  rw [hd, hll] at SL
  rw [hll]
  have hB := bvia hb1 hb2
  replace HC := HC.below hB
  clear hown hb1 hb2
  go_wp2_with fail
  refine (ho1 _ HC).mono ?_
  rintro e w3 ⟨v, rfl, hown, hb3⟩
  obtain ⟨a1, c1, rfl, S1⟩ := sl_of_own hown
  rw [hle1] at S1 ⊢
  replace S1 := sl_congr S1 hd1
  replace SL := SL.below hb3
  replace hB := bvia hB hb3
  clear hown hb3
  go_wp2_with fail
  refine (ho2 _ _ _ SL).mono ?_
  rintro e w4 ⟨v, rfl, hown, hb4⟩
  obtain ⟨a2, c2, rfl, S2⟩ := sl_of_own hown
  rw [hle2] at S2 ⊢
  replace S2 := sl_congr S2 hd2
  replace SL := SL.below hb4
  replace S1 := S1.below hb4
  replace hB := bvia hB hb4
  clear hown hb4
  go_wp2_with fail
  refine (hdf _ _ _ _ _ S1 S2).mono ?_
  rintro e w5 ⟨rfl, hb5⟩
  replace SL := SL.below hb5
  replace hB := bvia hB hb5
  go_wp2_with fail
  go_ret3
  exact ⟨av, cv, rfl, SL, hB⟩
set_option maxRecDepth 100000 in
set_option maxHeartbeats 4000000 in
theorem ref9_Rebalanced (a ac : Option Addr) (n m ca cc : Nat) (f c : Nat → Int) (w : World) (hn : n ≤ 100000000) (hm : m ≤ 100000000) (hca : n ≤ ca) (hca2 : ca ≤ maxLen) (H : Sl w a n f) (HC : Sl w ac m c) :
    Calls Try.prog 39 #[.slice a n ca, .slice ac m cc] w (RebPost f n m c w) := by
  unfold RebPost
  have hask := fun W H HC => ref9_asked a ac n m ca cc f c W hn hm H HC
  cases hv : vL n f
  · obtain ⟨e1, e2⟩ := re_no (f := f) (n := n) (m := m) (c := c) (by rw [hv]; rfl)
    rw [e1, e2]
    rw [hv] at hask
    clear e1 e2 hv
    have e0 : ∀ x, askE false x = 1 := fun _ => rfl
    rw [e0] at hask ⊢
    go_enter Try.func39, Try.ntmps39
    go_wp2_with fail
    refine (hask _ H HC).mono ?_
    rintro e w1 ⟨rfl, hb1⟩
    go_wp2_with fail
    go_ret3
    exact ⟨none, 0, rfl, fun k hk => absurd hk (by simp), hb1⟩
  have hV := (vL_iff _ _).1 hv
  rw [hv] at hask
  cases hK : vK n m c
  · obtain ⟨e1, e2⟩ := re_no (f := f) (n := n) (m := m) (c := c) (by rw [hv, hK]; rfl)
    rw [e1, e2]
    rw [hK, show askE true false = 7 from rfl] at hask
    rw [show askE true false = 7 from rfl]
    clear e1 e2 hv hK hV
    go_enter Try.func39, Try.ntmps39
    go_wp2_with fail
    refine (hask _ H HC).mono ?_
    rintro e w1 ⟨rfl, hb1⟩
    go_wp2_with fail
    go_ret3
    exact ⟨none, 0, rfl, fun k hk => absurd hk (by simp), hb1⟩
  rw [hK, show askE true true = 0 from rfl] at hask
  rw [show askE true true = 0 from rfl]
  have hmK := ((vK_iff _ _ _).1 hK)
  obtain ⟨e1, e2⟩ := re_yes hv hK
  rw [e1, e2]
  clear e1 e2
  have hbc := best_cuts hv hK
  have hll : (bestL f n (leastL f n (m + 1)) m 0).length = m := bestL_length ..
  have hn64 := hV.2.1
  have hm16 := hmK.1
  have hbest := fun W H => ref9_best a n ca (m + 1) f W hV (by omega) (by omega) hca hca2 H
  rw [show (((m + 1 : Nat)) : Int) = (m : Int) + 1 from by omega, Nat.add_sub_cancel] at hbest
  generalize bestL f n (leastL f n (m + 1)) m 0 = L at *
  generalize hd : (fun i => L.getD i 0) = d at *
  rw [hll]
  have hvL : validK n m c := hmK
  clear hv hK
  have hn1 := fun k W H hk => ref9_node ac m cc n k c W (by omega) H hk hvL
  have hn2 := fun av cv k W H hk => ref9_node av m cv n k d W (by omega) H hk hbc
  have hdl := fun k => difTo_le (nodeOf m c) (nodeOf m d) k
  have hst := fun k => (show difTo (nodeOf m c) (nodeOf m d) (k + 1) = difTo (nodeOf m c) (nodeOf m d) k + if nodeOf m c k = nodeOf m d k then 0 else 1 from rfl)
  have hu1 := fun k j h => isNode_uniq (m := m) (c := c) (x := k) (i := j) h (nodeOf_is m c k)
  have hu2 := fun k j h => isNode_uniq (m := m) (c := d) (x := k) (i := j) h (nodeOf_is m d k)
  have hz : difTo (nodeOf m c) (nodeOf m d) 0 = 0 := rfl
  generalize difTo (nodeOf m c) (nodeOf m d) = D at *
  have HDL := hid hdl; have HST := hid hst; have HU1 := hid hu1; have HU2 := hid hu2; have HZ := hid hz
  clear hdl hst hu1 hu2 hz
  go_enter Try.func39, Try.ntmps39
  go_wp2_with fail
  refine (hask _ H HC).mono ?_
  rintro e w1 ⟨rfl, hb1⟩
  go_wp2_with fail
  refine (hbest _ (H.below hb1)).mono ?_
  rintro e w2 ⟨v, rfl, hown, hb2⟩
  obtain ⟨av, cv, rfl, SL⟩ := sl_of_own hown
  rw [hd, hll] at SL
  rw [hll]
  have hB := bvia hb1 hb2
  replace HC := HC.below hB
  clear hown hb1 hb2
  go_wp2_with fail
  go_loop [9, 10] (fun s i => ∃ k : Nat, k ≤ n ∧ i = .int .i64 (k : Int) ∧ s = .int .i64 (D k : Int)) (fun _ i => n - (intOf i).toNat)
  case atStart => exact ⟨0, Nat.zero_le _, rfl, by rw [HZ.out]; rfl⟩
  case round =>
    obtain ⟨k, hk, rfl, rfl⟩ := hrel
    by_cases hlt : k < n
    · have hdk := HDL.out k
      have hs := HST.out k
      have HS := hid hs; clear hs
      go_wp2_with fail
      refine (hn2 av cv k _ SL (by omega)).mono ?_
      rintro e w3 ⟨⟨j2, hj2, rfl⟩, rfl⟩
      go_wp2_with fail
      refine (hn1 k _ HC (by omega)).mono ?_
      rintro e w3 ⟨⟨j1, hj1, rfl⟩, rfl⟩
      have e1 := HU1.out k j1 hj1
      have e2 := HU2.out k j2 hj2
      rw [← e1, ← e2] at HS
      clear e1 e2 hj1 hj2
      by_cases he : j1 = j2
      · rw [if_pos he] at HS
        subst he
        go_wp2_with fail
        go_round
        case rel => exact ⟨k + 1, by omega, by go_num, (by rw [HS.out]; rfl)⟩
        case measure => simp [intOf] <;> omega
      · rw [if_neg he] at HS
        have he2 : ¬ (j2 : Int) = (j1 : Int) := by omega
        go_wp2_with fail
        go_round
        case rel => exact ⟨k + 1, by omega, by go_num, (by rw [HS.out]; go_num)⟩
        case measure => simp [intOf] <;> omega
    · obtain rfl : k = n := (by omega)
      go_wp2_with fail
      go_ret3
      exact ⟨av, ⟨cv, rfl⟩, SL, hB⟩
end Go.Proofs.Ytgpcmkoimgnlbaa
