/- Walks: Mass, of the program and of the reference. -/
import Derived.Test.YtcakccfhcgjofaaNMassP
import Derived.Test.YtcakccfhcgjofaaNValid
import Derived.Test.YtcakccfhcgjofaaSent3
import Derived.Test.YtcakccfhcgjofaaCRow
namespace Go.Proofs.Ytcakccfhcgjofaa
open Go Go.RowKit
set_option linter.unusedVariables false
set_option linter.unusedSimpArgs false
theorem idx4d (c : C4) {d : Nat} (hd : d < 4) (w : World) : (Instr.index 110 (.agg #[.int .i64 c.e, .int .i64 c.n, .int .i64 c.w, .int .i64 c.s]) (.int .i64 (d : Int))).run Try.prog w = .ok (.int .i64 (c.get d)) w := by
  obtain ⟨h0, h1, h2, h3⟩ := idx4 (.int .i64 c.e) (.int .i64 c.n) (.int .i64 c.w) (.int .i64 c.s) w
  rcases (by omega : d = 0 ∨ d = 1 ∨ d = 2 ∨ d = 3) with rfl | rfl | rfl | rfl
  · exact h0
  · exact h1
  · exact h2
  · exact h3
theorem C4.get_of (c : C4) : c.get 0 = c.e ∧ c.get 1 = c.n ∧ c.get 2 = c.w ∧ c.get 3 = c.s := ⟨rfl, rfl, rfl, rfl⟩
set_option maxRecDepth 100000 in
set_option maxHeartbeats 4000000 in
theorem node_Mass (al ap : Option Addr) (m q cl cp : Nat) (F : Nat → SiteR) (p : Nat → N6) (w : World) (hm : m ≤ 1000) (hb : ∀ k, k < m → (F k).nc ≤ 100000) (hq : q ≤ 1000000) (hL : (allI F m p q).length ≤ 100000000) (HS : Ss w al m F) (HP : Sn w ap q p) :
    Calls Try.prog 38 #[.slice al m cl, .slice ap q cp] w fun e w' => e = .returned (.int .i64 (mssL (allI F m p q))) ∧ Below w.heap.size w w' := by
  have hcell := fun k i d => allI_dir F (m := m) p q (k := k) (i := i) (d := d)
  have hpost := fun j => allI_post F m p (q := q) (j := j)
  have HCE := hid hcell; have HPO := hid hpost
  clear hcell hpost
  have hall : siteI F m ++ postI p q = allI F m p q := rfl
  have HAL := hid hall; clear hall
  have HB := hid hb; clear hb
  generalize allI F m p q = L at *
  go_enter Try.func38, Try.ntmps38
  go_wp2
  go_loopw [5, 16] (fun s i wr => ∃ k : Nat, k ≤ m ∧ i = .int .i64 k ∧ s = .int .i64 (sumL (siteI F k)) ∧ PreM L (siteI F k) ∧ Below w.heap.size w wr) (fun _ i _ => m - (intOf i).toNat)
  case atStart => exact ⟨0, Nat.zero_le _, rfl, rfl, PreM.nil _, by (repeat' (first | with_reducible assumption | with_reducible exact Below.refl _ _ | with_reducible refine Below.drew ?_ | with_reducible refine below_drewN ?_ _ | with_reducible refine balloc ?_ _ | with_reducible refine bset ?_ ?_ _ | with_reducible refine Below.setCell ?_ ?_ _ | with_reducible refine Below.alloc ?_ ?_ _ | omega | (simp; done) | (simp; omega)))⟩
  case round =>
    obtain ⟨wo, rfl⟩ : ∃ wo : World, wo = wr := ⟨_, rfl⟩
    obtain ⟨k, hk, rfl, rfl, hP, hB⟩ := hrel
    by_cases hlt : k < m
    · obtain ⟨b1, o1, rfl, hb1, c0, c1, c2, c3, hl⟩ := (HS.below hB) k hlt
      have hnc := HB.out k hlt
      have HC := hl.2.1
      have hS1 : siteI F (k + 1) = siteI F k ++ cellsI (F k).C (F k).nc := rfl
      have HS1 := hid hS1; clear hS1 hl
      generalize (F k).cl = acl at *
      go_wp2
      have HC1 := HC.alloc (.cells #[.int .i64 (F k).nd, .int .i64 (F k).st, .slice (F k).ix (F k).ni (F k).ci, .slice acl (F k).nc (F k).cc] 51)
      have hB1 := balloc hB (.cells #[.int .i64 (F k).nd, .int .i64 (F k).st, .slice (F k).ix (F k).ni (F k).ci, .slice acl (F k).nc (F k).cc] 51)
      generalize wo.alloc (.cells #[.int .i64 (F k).nd, .int .i64 (F k).st, .slice (F k).ix (F k).ni (F k).ci, .slice acl (F k).nc (F k).cc] 51) = w1 at *
      go_loopw [5, 23] (fun s i wr => ∃ j : Nat, j ≤ (F k).nc ∧ i = .int .i64 j ∧ s = .int .i64 (sumL (siteI F k ++ cellsI (F k).C j)) ∧ PreM L (siteI F k ++ cellsI (F k).C j) ∧ Below w1.heap.size w1 wr) (fun _ i _ => (F k).nc - (intOf i).toNat)
      case atStart => exact ⟨0, Nat.zero_le _, rfl, by simp [cellsI], by simpa [cellsI] using hP, Below.refl _ _⟩
      case round =>
        obtain ⟨w9, rfl⟩ : ∃ w9 : World, w9 = wr := ⟨_, rfl⟩
        obtain ⟨j, hj, rfl, rfl, hP2, hB2⟩ := hrel
        by_cases hlt2 : j < (F k).nc
        · obtain ⟨b2, o2, rfl, hb2, d0, d1, d2, d3⟩ := (HC1.below hB2) j hlt2
          have hdir := fun d (hd : d < 4) => HCE.out k j d hlt hlt2 hd
          have HD := hid hdir; clear hdir
          have hC1 : cellsI (F k).C (j + 1) = cellsI (F k).C j ++ cL ((F k).C j) := rfl
          have HC2 := hid hC1; clear hC1
          have hgt := C4.get_of ((F k).C j)
          have HG := hid hgt; clear hgt
          generalize (F k).C j = cc at *
          generalize hPP : siteI F k ++ cellsI (F k).C j = P at *
          have HPP := hid hPP; clear hPP
          go_wp2
          go_loopw [5, 28] (fun s i wr => ∃ d : Nat, d ≤ 4 ∧ i = .int .i64 d ∧ s = .int .i64 (sumL (P ++ (cL cc).take d)) ∧ PreM L (P ++ (cL cc).take d) ∧ Below w1.heap.size w1 wr) (fun _ i _ => 4 - (intOf i).toNat)
          case atStart => exact ⟨0, Nat.zero_le _, rfl, by simp, by simpa using hP2, by (repeat' (first | with_reducible assumption | with_reducible exact Below.refl _ _ | with_reducible refine Below.drew ?_ | with_reducible refine below_drewN ?_ _ | with_reducible refine balloc ?_ _ | with_reducible refine bset ?_ ?_ _ | with_reducible refine Below.setCell ?_ ?_ _ | with_reducible refine Below.alloc ?_ ?_ _ | omega | (simp; done) | (simp; omega)))⟩
          case round =>
            obtain ⟨d, hd, rfl, rfl, hP3, hB3⟩ := hrel
            have hbd := hP3.bnd hL
            obtain ⟨u1, u2⟩ := hbd
            generalize hSS : sumL (P ++ (cL cc).take d) = S at *
            have HSS := hid hSS; clear hSS
            by_cases hd4 : d < 4
            · have hdd := HD.out d hd4
              have htk := cL_take cc hd4
              have HDD := hid hdd; have HTK := hid htk
              clear hdd htk
              have hix := idx4d cc hd4
              generalize cc.get d = x at *
              cases hw : within x 0 1000000000
              · have hw0 := (within_no _ _ _).1 hw
                have HW := hid hw0; clear hw0
                go_wp2_with (go_at_call 42; refine (node_within _ _ _ _).mono ?_; rintro e w' ⟨rfl, rfl⟩; rw [hw])
                go_ret
                exact ⟨ret_int (mssL_bad HDD.out HW.out).symm, bvia hB1 hB3⟩
              · obtain ⟨v1, v2⟩ := (within_iff _ _ _).1 hw
                go_wp2_with (go_at_call 42; refine (node_within _ _ _ _).mono ?_; rintro e w' ⟨rfl, rfl⟩; rw [hw])
                go_roundw
                case rel => exact ⟨d + 1, by omega, by go_num, by rw [HTK.out, ← List.append_assoc, sumL_snoc, HSS.out], by rw [HTK.out, ← List.append_assoc]; exact hP3.snoc HDD.out ⟨v1, v2⟩, by (repeat' (first | with_reducible assumption | with_reducible exact Below.refl _ _ | with_reducible refine Below.drew ?_ | with_reducible refine below_drewN ?_ _ | with_reducible refine balloc ?_ _ | with_reducible refine bset ?_ ?_ _ | with_reducible refine Below.setCell ?_ ?_ _ | with_reducible refine Below.alloc ?_ ?_ _ | omega | (simp; done) | (simp; omega)))⟩
                case measure => simp [intOf]; omega
            · obtain rfl : d = 4 := (by omega)
              have htk : (cL cc).take 4 = cL cc := rfl
              rw [htk] at hP3
              have HTK := hid htk; clear htk
              go_wp2
              go_roundw
              case rel => exact ⟨j + 1, by omega, by go_num, by rw [HC2.out, ← List.append_assoc, HPP.out, ← HSS.out, HTK.out], by rw [HC2.out, ← List.append_assoc, HPP.out]; exact hP3, hB3⟩
              case measure => simp [intOf]; omega
        · obtain rfl : j = (F k).nc := (by omega)
          go_wp2
          go_roundw
          case rel => exact ⟨k + 1, by omega, by go_num, by rw [HS1.out], by rw [HS1.out]; exact hP2, bvia hB1 hB2⟩
          case measure => simp [intOf]; omega
    · obtain rfl : k = m := (by omega)
      go_wp2
      go_loopw [5, 42] (fun s i wr => ∃ j : Nat, j ≤ q ∧ i = .int .i64 j ∧ s = .int .i64 (sumL (siteI F k ++ postI p j)) ∧ PreM L (siteI F k ++ postI p j) ∧ Below w.heap.size w wr) (fun _ i _ => q - (intOf i).toNat)
      case atStart => exact ⟨0, Nat.zero_le _, rfl, by simp [postI], by simpa [postI] using hP, hB⟩
      case round =>
        obtain ⟨j, hj, rfl, rfl, hP2, hB2⟩ := hrel
        have hbd := hP2.bnd hL
        obtain ⟨u1, u2⟩ := hbd
        by_cases hlt2 : j < q
        · obtain ⟨b2, o2, rfl, hb2, d0, d1, d2, d3, d4, d5⟩ := (HP.below hB2).six hlt2
          have hx := HPO.out j hlt2
          have hq1 : postI p (j + 1) = postI p j ++ [(p j).co] := rfl
          have HX := hid hx; have HQ1 := hid hq1
          clear hx hq1
          generalize hSS : sumL (siteI F k ++ postI p j) = S at *
          have HSS := hid hSS; clear hSS
          cases hw : within (p j).co 0 1000000000
          · have hw0 := (within_no _ _ _).1 hw
            have HW := hid hw0; clear hw0
            go_wp2_with (go_at_call 42; refine (node_within _ _ _ _).mono ?_; rintro e w' ⟨rfl, rfl⟩; rw [hw])
            go_ret
            exact ⟨ret_int (mssL_bad HX.out HW.out).symm, by (repeat' (first | with_reducible assumption | with_reducible exact Below.refl _ _ | with_reducible refine Below.drew ?_ | with_reducible refine below_drewN ?_ _ | with_reducible refine balloc ?_ _ | with_reducible refine bset ?_ ?_ _ | with_reducible refine Below.setCell ?_ ?_ _ | with_reducible refine Below.alloc ?_ ?_ _ | omega | (simp; done) | (simp; omega)))⟩
          · obtain ⟨v1, v2⟩ := (within_iff _ _ _).1 hw
            go_wp2_with (go_at_call 42; refine (node_within _ _ _ _).mono ?_; rintro e w' ⟨rfl, rfl⟩; rw [hw])
            go_roundw
            case rel => exact ⟨j + 1, by omega, by go_num, by rw [HQ1.out, ← List.append_assoc, sumL_snoc, HSS.out], by rw [HQ1.out, ← List.append_assoc]; exact hP2.snoc HX.out ⟨v1, v2⟩, by (repeat' (first | with_reducible assumption | with_reducible exact Below.refl _ _ | with_reducible refine Below.drew ?_ | with_reducible refine below_drewN ?_ _ | with_reducible refine balloc ?_ _ | with_reducible refine bset ?_ ?_ _ | with_reducible refine Below.setCell ?_ ?_ _ | with_reducible refine Below.alloc ?_ ?_ _ | omega | (simp; done) | (simp; omega)))⟩
            case measure => simp [intOf]; omega
        · obtain rfl : j = q := (by omega)
          rw [HAL.out] at hP2 u1 u2
          have hal := HAL.out
          have hend := hP2.all
          rw [hal]
          have HEND := hid hend
          clear hend hal
          by_cases hs : 1000000000 < sumL L
          · go_wp2
            go_ret
            rw [HEND.out, if_pos hs]
            exact ⟨rfl, hB2⟩
          · go_wp2
            go_ret
            rw [HEND.out, if_neg (by omega)]
            exact ⟨rfl, hB2⟩
theorem vInt_app (l m : List Int) : (l ++ m).map vInt = l.map vInt ++ m.map vInt := List.map_append
theorem cL_row {w : World} {b o : Nat} {c : C4} (h0 : w.cell? ⟨b, o, none⟩ = some (.int .i64 c.e)) (h1 : w.cell? ⟨b, o + 1, none⟩ = some (.int .i64 c.n)) (h2 : w.cell? ⟨b, o + 2, none⟩ = some (.int .i64 c.w)) (h3 : w.cell? ⟨b, o + 3, none⟩ = some (.int .i64 c.s)) :
    ∀ j u, ((cL c).map vInt)[j]? = some u → w.cell? ((⟨b, o, none⟩ : Addr).add j) = some u := fun j u hu => by
  rw [addrAdd]
  match j, hu with
  | 0, hu => simpa [cL, vInt, h0] using hu
  | 1, hu => simpa [cL, vInt, h1] using hu
  | 2, hu => simpa [cL, vInt, h2] using hu
  | 3, hu => simpa [cL, vInt, h3] using hu
  | j + 4, hu => simp [cL] at hu
theorem vInt_one (l : List Int) : ∀ u ∈ l.map vInt, u.oneCell' = true := by
  intro u hu
  obtain ⟨x, _, rfl⟩ := List.mem_map.1 hu
  rfl
theorem mssL_neg {l : List Int} {x : Int} (h : x ∈ l) (hx : x < 0) : mssL l = 0 := by
  unfold mssL
  rw [if_neg]
  rintro ⟨h1, _⟩
  have := h1 x h
  omega
theorem take_next (l : List Int) {k : Nat} (h : k < l.length) : l.take (k + 1) = l.take k ++ [l.getD k 0] := by
  rw [List.take_succ_eq_append_getElem h, List.getD_eq_getElem?_getD, List.getElem?_eq_getElem h]; rfl
theorem getD_mem {l : List Int} {k : Nat} (h : k < l.length) : l.getD k 0 ∈ l := by
  rw [List.getD_eq_getElem?_getD, List.getElem?_eq_getElem h]; exact List.getElem_mem h
set_option maxRecDepth 100000 in
set_option maxHeartbeats 4000000 in
theorem ref5_Mass (al ap : Option Addr) (m q cl cp : Nat) (F : Nat → SiteR) (p : Nat → N6) (w : World) (hm : m ≤ 1000) (hb : ∀ k, k < m → (F k).nc ≤ 100000) (hq : q ≤ 1000000) (hL : (allI F m p q).length ≤ 100000000) (HS : Ss w al m F) (HP : Sn w ap q p) :
    Calls Try.prog 39 #[.slice al m cl, .slice ap q cp] w fun e w' => e = .returned (.int .i64 (mssL (allI F m p q))) ∧ Below w.heap.size w w' := by
  obtain ⟨i0, hi, hz0, hz1, hz2⟩ := info_parts infoI
  have hcell := fun k i hk hi => (allI_cell F (m := m) p q (k := k) (i := i) hk hi).length_le
  have hpost := fun j hj => (allI_post F m p (q := q) (j := j) hj).length_le
  have HCE := hid hcell; have HPO := hid hpost
  clear hcell hpost
  have hall : siteI F m ++ postI p q = allI F m p q := rfl
  have HAL := hid hall; clear hall
  have HB := hid hb; clear hb
  generalize allI F m p q = L at *
  go_enter Try.func39, Try.ntmps39
  go_wp2
  go_loopw [5, 6] (fun v i wr => ∃ k : Nat, k ≤ m ∧ i = .int .i64 k ∧ wr.ownsRow w.heap.size 3 1 v (siteI F k).length ((siteI F k).map vInt) ∧ Below w.heap.size w wr) (fun _ i _ => m - (intOf i).toNat)
  case atStart => exact ⟨0, Nat.zero_le _, rfl, World.ownsRow_nil .., by (repeat' (first | with_reducible assumption | with_reducible exact Below.refl _ _ | with_reducible refine Below.drew ?_ | with_reducible refine below_drewN ?_ _ | with_reducible refine balloc ?_ _ | with_reducible refine bset ?_ ?_ _ | with_reducible refine Below.setCell ?_ ?_ _ | with_reducible refine Below.alloc ?_ ?_ _ | omega | (simp; done) | (simp; omega)))⟩
  case round =>
    obtain ⟨wo, rfl⟩ : ∃ wo : World, wo = wr := ⟨_, rfl⟩
    obtain ⟨k, hk, rfl, hown, hB⟩ := hrel
    by_cases hlt : k < m
    · have hnc := HB.out k hlt
      have hS1 : siteI F (k + 1) = siteI F k ++ cellsI (F k).C (F k).nc := rfl
      have HS1 := hid hS1; clear hS1
      go_wp2
      go_loopw [5, 7] (fun v i wr => ∃ j : Nat, j ≤ (F k).nc ∧ i = .int .i64 j ∧ wr.ownsRow w.heap.size 3 1 v (siteI F k ++ cellsI (F k).C j).length ((siteI F k ++ cellsI (F k).C j).map vInt) ∧ Below w.heap.size w wr) (fun _ i _ => (F k).nc - (intOf i).toNat)
      case atStart => exact ⟨0, Nat.zero_le _, rfl, by simpa [cellsI] using hown, hB⟩
      case round =>
        clear hown hB
        obtain ⟨j, hj, rfl, hown, hB⟩ := hrel
        obtain ⟨b1, o1, rfl, hb1, c0, c1, c2, c3, hl⟩ := (HS.below hB) k hlt
        by_cases hlt2 : j < (F k).nc
        · have HC := hl.2.1
          clear hl
          have hlen := HCE.out k j hlt hlt2
          have hC1 : cellsI (F k).C (j + 1) = cellsI (F k).C j ++ cL ((F k).C j) := rfl
          rw [hC1, ← List.append_assoc] at hlen
          have hlen2 : (siteI F k ++ cellsI (F k).C j ++ cL ((F k).C j)).length = (siteI F k ++ cellsI (F k).C j).length + 4 := by rw [List.length_append]; rfl
          rw [hlen2] at hlen
          have HC2 := hid hC1; have HLN := hid hlen2
          clear hC1 hlen2
          generalize hPP : siteI F k ++ cellsI (F k).C j = P at *
          have HPP := hid hPP; clear hPP
          generalize (F k).cl = acl at *
          obtain ⟨b2, o2, rfl, hb2, d0, d1, d2, d3⟩ := HC j hlt2
          have hrow := cL_row d0 d1 d2 d3
          have hone := vInt_one (cL ((F k).C j))
          have HRW := hid hrow; clear hrow
          go_wp2_with (at_builtin; refine wpList_append_own _ rfl _ _ 25 rfl w.heap.size 3 i0 (.int .i64 0) 1 8 Try.underlying25 hi hz0 hz1 hz2 rfl (by decide) _ _ _ rfl hown ⟨b2, o2 + j * 4, none⟩ 4 4 ((cL ((F k).C j)).map vInt) rfl rfl HRW.out hone (by simp [maxLen]; omega) (by omega) hB.size ?_; intro v' w5 hown' hgrow _)
          go_roundw
          case rel => exact ⟨j + 1, by omega, by go_num, by rw [HC2.out, ← List.append_assoc, HPP.out, HLN.out, vInt_app]; exact hown', hB.grown hgrow hB.size (own_base hown)⟩
          case measure => simp [intOf]; omega
        · obtain rfl : j = (F k).nc := (by omega)
          clear hl
          go_wp2
          go_roundw
          case rel => exact ⟨k + 1, by omega, by go_num, by rw [HS1.out]; exact hown, hB⟩
          case measure => simp [intOf]; omega
    · obtain rfl : k = m := (by omega)
      go_wp2
      go_loopw [5, 8] (fun v i wr => ∃ j : Nat, j ≤ q ∧ i = .int .i64 j ∧ wr.ownsRow w.heap.size 3 1 v (siteI F k ++ postI p j).length ((siteI F k ++ postI p j).map vInt) ∧ Below w.heap.size w wr) (fun _ i _ => q - (intOf i).toNat)
      case atStart => exact ⟨0, Nat.zero_le _, rfl, by simpa [postI] using hown, hB⟩
      case round =>
        clear hown hB
        obtain ⟨j, hj, rfl, hown, hB⟩ := hrel
        by_cases hlt2 : j < q
        · obtain ⟨b2, o2, rfl, hb2, d0, d1, d2, d3, d4, d5⟩ := (HP.below hB).six hlt2
          have hlen := HPO.out j hlt2
          have hlen2 : (siteI F k ++ postI p j ++ [(p j).co]).length = (siteI F k ++ postI p j).length + 1 := by rw [List.length_append]; rfl
          rw [hlen2] at hlen
          have hq1 : postI p (j + 1) = postI p j ++ [(p j).co] := rfl
          have HQ1 := hid hq1
          clear hq1 hlen2
          have hbs := hB.size
          generalize hPP : siteI F k ++ postI p j = P at *
          have HPP := hid hPP; clear hPP
          go_wp2_with (at_builtin; refine wpList_append_own _ rfl _ _ 25 rfl (w.heap.size) 3 i0 (.int .i64 0) 1 8 Try.underlying25 hi hz0 hz1 hz2 rfl (by decide) _ _ _ rfl ((hown).alloc _) ⟨wr.heap.size, 0, none⟩ 1 1 [.int .i64 ((p j).co)] rfl rfl (cell_one_new _ _ _) (by simp [Value.oneCell']) (by simp [maxLen]; omega) (by omega) (by simp; omega) ?_; intro v' w5 hown' hgrow _)
          go_roundw
          case rel => exact ⟨j + 1, by omega, by go_num, by rw [HQ1.out, ← List.append_assoc, HPP.out]; exact own_snoc hown', (balloc hB _).grown hgrow (by simp; have := hB.size; omega) (own_base hown)⟩
          case measure => simp [intOf]; omega
        · obtain rfl : j = q := (by omega)
          rw [HAL.out] at hown
          obtain ⟨av, cv, rfl, SV⟩ := sl_of_own hown
          go_wp2
          go_loopw [10] (fun i wr => ∃ k : Nat, k ≤ L.length ∧ i = .int .i64 k ∧ (∀ x ∈ L.take k, 0 ≤ x) ∧ Below w.heap.size w wr ∧ Sl wr av L.length (fun k => L.getD k 0)) (fun i _ => L.length - (intOf i).toNat)
          case atStart => exact ⟨0, Nat.zero_le _, rfl, fun x hx => by simp at hx, hB, SV⟩
          case round =>
            clear hown hB SV
            obtain ⟨i, hi2, rfl, hok, hB, SV⟩ := hrel
            have HOK := hid hok; clear hok
            by_cases hlt3 : i < L.length
            · obtain ⟨b3, o3, rfl, hb3, c3⟩ := SV i hlt3
              have htk := take_next L hlt3
              have hmem := getD_mem hlt3
              dsimp only at c3
              have HTK := hid htk; clear htk
              have HME := hid hmem; clear hmem
              generalize L.getD i 0 = x at *
              by_cases hx : x < 0
              · go_wp2
                go_ret
                exact ⟨ret_int (mssL_neg HME.out hx).symm, hB⟩
              · go_wp2
                go_roundw
                case rel => exact ⟨i + 1, by omega, by go_num, fun y hy => by
                  rw [HTK.out] at hy
                  rcases List.mem_append.1 hy with h' | h'
                  · exact HOK.out y h'
                  · rw [List.mem_singleton.1 h']; omega, hB, SV⟩
                case measure => simp [intOf]; omega
            · obtain rfl : i = L.length := (by omega)
              have hnn := HOK.out
              rw [List.take_length] at hnn
              have HNN := hid hnn; clear hnn
              go_wp2
              go_loopw [9, 11] (fun s i wr => ∃ k : Nat, k ≤ L.length ∧ i = .int .i64 k ∧ s = .int .i64 (sumL (L.take k)) ∧ 0 ≤ sumL (L.take k) ∧ sumL (L.take k) ≤ 1000000000 ∧ Below w.heap.size w wr ∧ Sl wr av L.length (fun k => L.getD k 0)) (fun _ i _ => L.length - (intOf i).toNat)
              case atStart => exact ⟨0, Nat.zero_le _, rfl, by simp [sumL], by simp [sumL], by simp [sumL], hB, SV⟩
              case round =>
                clear hB SV
                obtain ⟨i, hi3, rfl, rfl, u1, u2, hB, SV⟩ := hrel
                by_cases hlt3 : i < L.length
                · obtain ⟨b3, o3, rfl, hb3, c3⟩ := SV i hlt3
                  have htk := take_next L hlt3
                  have hmem := getD_mem hlt3
                  have hpre : L.take i ++ [L.getD i 0] <+: L := by rw [← htk]; exact List.take_prefix _ _
                  have h0 := HNN.out _ hmem
                  dsimp only at c3
                  have HTK := hid htk; clear htk
                  have HME := hid hmem; clear hmem
                  have HPR := hid hpre; clear hpre
                  generalize L.getD i 0 = x at *
                  generalize hSS : sumL (L.take i) = S at *
                  have HSS := hid hSS; clear hSS
                  by_cases hx : 1000000000 - S < x
                  · go_wp2
                    go_ret
                    exact ⟨ret_int (mssL_over HPR.out HNN.out (by rw [HSS.out]; omega)).symm, hB⟩
                  · have hs2 : sumL (L.take (i + 1)) = S + x := by rw [HTK.out, sumL_snoc, HSS.out]
                    have HS2 := hid hs2; clear hs2
                    go_wp2
                    go_roundw
                    case rel => exact ⟨i + 1, by omega, by go_num, by rw [HS2.out], by rw [HS2.out]; omega, by rw [HS2.out]; omega, hB, SV⟩
                    case measure => simp [intOf]; omega
                · obtain rfl : i = L.length := (by omega)
                  have hend : mssL L = sumL L := by
                    unfold mssL
                    rw [List.take_length] at u2
                    rw [if_pos ⟨HNN.out, u2⟩]
                  have HEN := hid hend; clear hend
                  have htk := List.take_length (l := L)
                  have HTK := hid htk; clear htk
                  generalize hSS : sumL (L.take L.length) = S at *
                  have HSS := hid hSS; clear hSS
                  go_wp2
                  go_ret
                  rw [HEN.out, ← HSS.out, HTK.out]
                  exact ⟨rfl, hB⟩
end Go.Proofs.Ytcakccfhcgjofaa
