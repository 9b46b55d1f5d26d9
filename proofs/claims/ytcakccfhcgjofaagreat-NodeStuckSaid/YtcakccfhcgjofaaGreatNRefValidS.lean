/- Walk: Valid, of the reference. -/
import Derived.Test.YtcakccfhcgjofaaGreatNValidS
import Derived.Test.YtcakccfhcgjofaaGreatNDueF
namespace Go.Proofs.YtcakccfhcgjofaaGreat
open Go Go.RowKit
set_option linter.unusedVariables false
theorem nodeL_pre (o : Nat → Int) (n j : Nat) : ∀ m, j ≤ m → nodeL o n j <+: nodeL o n m
  | 0, h => by rw [show j = 0 from by omega]; exact List.prefix_refl _
  | m + 1, h => by
    rcases Nat.lt_or_ge j (m + 1) with h' | h'
    · refine (nodeL_pre o n j m (by omega)).trans ?_
      simp only [nodeL]
      split
      · exact List.prefix_refl _
      · exact List.prefix_append _ _
    · rw [show j = m + 1 from by omega]; exact List.prefix_refl _
theorem pre_getD {l m : List Int} (h : l <+: m) {i : Nat} (hi : i < l.length) : m.getD i 0 = l.getD i 0 := by
  obtain ⟨t, rfl⟩ := h
  rw [List.getD_eq_getElem?_getD, List.getD_eq_getElem?_getD, List.getElem?_append_left hi]
theorem nodeL_at {o : Nat → Int} {n j m : Nat} (h : ownL o j n ≠ []) (hj : j < m) : (nodeL o n j).length < (nodeL o n m).length ∧ (nodeL o n m).getD (nodeL o n j).length 0 = j := by
  have hp := nodeL_pre o n (j + 1) m hj
  have e : nodeL o n (j + 1) = nodeL o n j ++ [(j : Int)] := by simp only [nodeL, if_neg h]
  rw [e] at hp
  have hl := hp.length_le
  simp only [List.length_append, List.length_singleton] at hl
  refine ⟨by omega, ?_⟩
  rw [pre_getD hp (by simp), List.getD_eq_getElem?_getD, List.getElem?_append_right (Nat.le_refl _), Nat.sub_self]
  rfl
theorem siteB_ni {o : Nat → Int} {no : Nat} {s : SiteR} (h : siteB o no s = true) : s.ni = (ownL o s.nd no).length := (sameL_iff.1 (siteB_iff.1 h).2.1).1
set_option maxRecDepth 100000 in
set_option maxHeartbeats 4000000 in
theorem ref5_Valid (wide high : Int) (a ao al : Option Addr) (n no m c co cl : Nat) (g : Nat → C4) (o : Nat → Int) (f : Nat → SiteR) (w : World) (hn : n ≤ 100000000) (hno : no ≤ 100000000) (hm : m ≤ 1000) (hb : ∀ k, k < m → (f k).ni ≤ 10000 ∧ (f k).nc ≤ 10000) (H : Sc w a n g) (HO : Sl w ao no o) (HS : Ss w al m f) :
    Calls Tryz.prog 77 #[.agg #[.int .i64 wide, .int .i64 high, .slice a n c], .slice ao no co, .slice al m cl] w fun e w' => e = .returned (.bool (validM wide high n g no o && sitesB o no m f)) ∧ Below w.heap.size w w' := by
  have I := H.alloc (.cells #[.int .i64 wide, .int .i64 high, .slice a n c] 24)
  have IO := HO.alloc (.cells #[.int .i64 wide, .int .i64 high, .slice a n c] 24)
  have IS := HS.alloc (.cells #[.int .i64 wide, .int .i64 high, .slice a n c] 24)
  cases hv : validM wide high n g no o
  · go_enter Tryz.func77, Tryz.ntmps77
    go_wp2_with (go_at_call 48; refine (ref5_ValidMap wide high _ _ n no _ _ g o _ hn hno I IO).mono ?_; rintro e w1 ⟨rfl, hb1⟩; rw [hv])
    go_ret
    exact ⟨rfl, bvia (by (repeat' (first | with_reducible assumption | with_reducible exact Below.refl _ _ | with_reducible refine Below.drew ?_ | with_reducible refine below_drewN ?_ _ | with_reducible refine balloc ?_ _ | with_reducible refine bset ?_ ?_ _ | with_reducible refine Below.setCell ?_ ?_ _ | with_reducible refine Below.alloc ?_ ?_ _ | omega | (simp; done) | (simp; omega)))) hb1⟩
  obtain ⟨Wd, Hd, rfl, rfl, p1, p2, u1, u2, hnn, hn4, hoo, hob, _, _⟩ := validM_sides hv
  have hno4 : no ≤ 1024 := by omega
  have HB := hid hb; clear hb
  clear hnn hoo hob
  go_enter Tryz.func77, Tryz.ntmps77
  go_wp2_with fail
  refine (ref5_ValidMap _ _ _ _ n no _ _ g o _ hn hno I IO).mono ?_
  rintro e w1 ⟨rfl, hb1⟩
  rw [hv]
  clear hv
  have B1 := bvia (below_alloc w (.cells #[.int .i64 (Wd : Int), .int .i64 (Hd : Int), .slice a n c] 24)) hb1
  have O1 := IO.below hb1; have S1 := IS.below hb1
  clear hb1 I IO IS
  go_wp2_with fail
  go_loopw [7, 8, 9] (fun ki al' i wr => ∃ j : Nat, j ≤ 8 ∧ i = .int .i64 j ∧ ki = .int .i64 (nodeL o no j).length ∧ al' = .int .i64 (siteM f (nodeL o no j).length) ∧ (nodeL o no j).length ≤ m ∧ (∀ i, i < (nodeL o no j).length → (f i).nd = (nodeL o no j).getD i 0 ∧ siteB o no (f i) = true) ∧ Below w.heap.size w wr ∧ Below w1.heap.size w1 wr) (fun _ _ i _ => 8 - (intOf i).toNat)
  case atStart => exact ⟨0, Nat.zero_le _, rfl, rfl, rfl, Nat.zero_le _, fun i hi => by simp [nodeL] at hi, B1, Below.refl _ _⟩
  case round =>
    obtain ⟨j, hj, rfl, rfl, rfl, hkm, hok, hB, hC⟩ := hrel
    have HOK := hid hok
    have hm0 := siteM_nonneg (f := f) (k := (nodeL o no j).length) (fun i hi => (site_mass (hok i hi).2).1)
    have hm1 : siteM f (nodeL o no j).length ≤ 8000000000 := by
      have key : ∀ k, (∀ i, i < k → siteB o no (f i) = true) → siteM f k ≤ (k : Int) * 1000000000 := fun k => by
        induction k with
        | zero => intro _; simp [siteM]
        | succ k ih => intro h; have := ih (fun i hi => h i (by omega)); have := (site_mass (h k (by omega))).2; simp only [siteM]; omega
      have := key _ (fun i hi => (hok i hi).2)
      have := nodeL_length o no j
      omega
    clear hok
    by_cases hlt : j < 8
    · have hlen := hasB_len (o := o) (n := no) (nd := (j : Int))
      have hol := ownL_length o j no
      have hE : hasB o no j = true ↔ ownL o j no ≠ [] := by unfold hasB; simp
      have hat := fun h => nodeL_at (o := o) (n := no) (j := j) (m := 8) h hlt
      have hnx : nodeL o no (j + 1) = if ownL o j no = [] then nodeL o no j else nodeL o no j ++ [(j : Int)] := rfl
      have HE := hid hE; have HA := hid hat; have HN := hid hnx
      clear hE hat hnx
      have hni : ∀ s : SiteR, s.nd = (j : Int) → siteB o no s = true → s.ni = (ownL o j no).length := fun s e h => by rw [← e]; exact siteB_ni h
      have HNI := hid hni; clear hni
      go_wp2_with fail
      refine (ref5_own ao no co o j wr (by omega) (O1.below hC)).mono ?_
      rintro e w2 ⟨v, rfl, hown, hb2⟩
      obtain ⟨av, cv, rfl, _⟩ := sl_of_own hown
      have B2 := bvia hB hb2; have C2 := bvia hC hb2
      clear hown hb2
      cases hh : hasB o no j
      · rw [hh] at hlen
        have he : ownL o j no = [] := Classical.byContradiction fun hc => by rw [HE.out.2 hc] at hh; cases hh
        have hnx : nodeL o no (j + 1) = nodeL o no j := by rw [HN.out, if_pos he]
        have HX := hid hnx
        clear hnx he HE HA HN HNI
        generalize (ownL o j no).length = ln at *
        go_wp2_with fail
        go_roundw
        case rel => exact ⟨j + 1, by omega, by go_num, by rw [HX.out], by rw [HX.out], by rw [HX.out]; exact hkm, by rw [HX.out]; exact HOK.out, B2, C2⟩
        case measure => simp [intOf]; omega
      · rw [hh] at hlen
        have hne := HE.out.1 hh
        have hnx : nodeL o no (j + 1) = nodeL o no j ++ [(j : Int)] := by rw [HN.out, if_neg hne]
        have HX := hid hnx
        obtain ⟨a1, a2⟩ := HA.out hne
        have HA1 := hid a1; have HA2 := hid a2
        have HLN := hid (show ¬ (ownL o j no).length = 0 by simpa using hne)
        clear hnx hne HE HA HN a1 a2 hh
        generalize (ownL o j no).length = ln at *
        generalize hkk : (nodeL o no j).length = k at *
        have HKK := hid hkk; clear hkk
        by_cases hkl : k < m
        · obtain ⟨b1, o1, rfl, hb1, c0, c1, c2, c3, hl⟩ := (S1.below C2) k hkl
          obtain ⟨m1, m2⟩ := HB.out k hkl
          cases hnd : ((f k).nd != (j : Int))
          · have HND : Hid ((f k).nd = (j : Int)) := hid (by simpa using hnd)
            have hcall := ref5_siteRight ao no co o (f k) w2 (by omega) (by omega) (by omega) (O1.below C2) hl
            unfold SiteR.cells at hcall
            cases hs : siteB o no (f k)
            · rw [hs, Bool.false_and] at hcall
              have hF : sitesB o no m f = false := sitesB_no.2 (fun h => by have := h.2.2.1 k hkl; rw [hs] at this; cases this)
              have HF := hid hF; clear hF
              clear hs
              go_wp2_with fail
              refine hcall.mono ?_
              rintro e w3 ⟨rfl, hb3⟩
              go_wp2
              go_ret
              rw [HF.out]
              exact ⟨rfl, bvia B2 hb3⟩
            · have hz : ((f k).ni == 0) = false := by
                have := HNI.out (f k) HND.out hs
                rw [this]
                have := HLN.out
                simpa using this
              have hz' : (((f k).ni : Int) == 0) = false := by simpa using hz
              rw [hs, hz'] at hcall
              simp only [Bool.not_false, Bool.and_self] at hcall
              have hsv := (site_mass hs).1
              have hs2 := (site_mass hs).2
              have hs3 := massTo_nonneg (f k).C (f k).nc hsv
              have HSV := hid hsv
              have HSS := hid hs
              have hw := fun W S => ref5_weight (f k).cl (f k).nc (f k).cc (f k).C W (by omega) S HSV.out
              have hsm : siteM f (k + 1) = siteM f k + massTo (f k).C (f k).nc := rfl
              have HSM := hid hsm
              clear hsv hs hz hz' hsm
              generalize massTo (f k).C (f k).nc = mm at *
              generalize siteM f k = sk at *
              go_wp2_with fail
              refine hcall.mono ?_
              rintro e w3 ⟨rfl, hb3⟩
              have d3 := (bcell hb3 _ _ hb1).trans c3
              have ld : b1 < w3.heap.size := by have := hb3.size; omega
              have B3 := bvia B2 hb3; have C3 := bvia C2 hb3
              go_wp2_with fail
              refine (hw _ (hl.below hb3).2.1).mono ?_
              rintro e w4 ⟨rfl, hb4⟩
              have hkx : (nodeL o no (j + 1)).length = k + 1 := by rw [HX.out, List.length_append, HKK.out]; rfl
              have HKX := hid hkx; clear hkx hcall hw
              go_wp2_with fail
              go_roundw
              case rel => exact ⟨j + 1, by omega, by go_num, by rw [HKX.out]; go_num, by rw [HKX.out, HSM.out], by rw [HKX.out]; omega, fun i hi => by
                rw [HKX.out] at hi
                rw [HX.out]
                by_cases e : i = k
                · subst e
                  refine ⟨?_, HSS.out⟩
                  rw [HND.out, List.getD_eq_getElem?_getD, List.getElem?_append_right (by rw [HKK.out]; exact Nat.le_refl _), HKK.out, Nat.sub_self]; rfl
                · obtain ⟨q1, q2⟩ := HOK.out i (by omega)
                  refine ⟨?_, q2⟩
                  rw [q1, List.getD_eq_getElem?_getD, List.getD_eq_getElem?_getD, List.getElem?_append_left (by rw [HKK.out]; omega)], bvia B3 hb4, bvia C3 hb4⟩
              case measure => simp [intOf]; omega
          · skip
            have hF : sitesB o no m f = false := sitesB_no.2 (fun h => by have h2 := h.2.1 k hkl; have h3 := HA2.out; rw [← h2] at h3; simp [h3] at hnd)
            have HF := hid hF; clear hF
            go_wp2
            go_ret
            rw [HF.out]
            exact ⟨rfl, B2⟩
        · have hkm' : ¬ k < m := hkl
          have hF : sitesB o no m f = false := sitesB_no.2 (fun h => by have h3 := HA1.out; omega)
          have HF := hid hF; clear hF
          go_wp2
          go_ret
          rw [HF.out]
          exact ⟨rfl, B2⟩
    · obtain rfl : j = 8 := (by omega)
      clear hlt
      cases hq : (((nodeL o no 8).length : Int) == m)
      · skip
        have hF : sitesB o no m f = false := sitesB_no.2 (fun h => by rw [h.1] at hq; simp at hq)
        have HF := hid hF; clear hF
        go_wp2
        go_ret
        rw [HF.out]
        exact ⟨rfl, hB⟩
      · have hq' : (nodeL o no 8).length = m := by simp at hq; omega
        have hF : sitesB o no m f = decide (siteM f (nodeL o no 8).length ≤ 1000000000) := by
          rw [Bool.eq_iff_iff, sitesB_iff, decide_eq_true_iff, hq']
          rw [hq'] at HOK
          exact ⟨fun h => h.2.2.2, fun h => ⟨rfl, fun i hi => (HOK.out i hi).1, fun i hi => (HOK.out i hi).2, h⟩⟩
        have HF := hid hF; clear hF hq'
        go_wp2
        go_ret
        rw [HF.out]
        exact ⟨rfl, hB⟩
end Go.Proofs.YtcakccfhcgjofaaGreat
