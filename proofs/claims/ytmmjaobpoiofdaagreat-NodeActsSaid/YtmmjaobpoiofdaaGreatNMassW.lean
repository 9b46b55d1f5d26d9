/- Walks: Mass, of the program and of the reference. -/
import Derived.Test.YtmmjaobpoiofdaaGreatNMassP
import Derived.Test.YtmmjaobpoiofdaaGreatNValid
import Derived.Test.YtmmjaobpoiofdaaGreatSent3
import Derived.Test.YtmmjaobpoiofdaaGreatCRow
namespace Go.Proofs.YtmmjaobpoiofdaaGreat
open Go Go.RowKit
set_option linter.unusedVariables false
set_option linter.unusedSimpArgs false
theorem idx4d (c : C4) {d : Nat} (hd : d < 4) (w : World) : (Instr.index 80 (.agg #[.int .i64 c.e, .int .i64 c.n, .int .i64 c.w, .int .i64 c.s]) (.int .i64 (d : Int))).run Tryz.prog w = .ok (.int .i64 (c.get d)) w := by
  obtain ⟨h0, h1, h2, h3⟩ := idx4 (.int .i64 c.e) (.int .i64 c.n) (.int .i64 c.w) (.int .i64 c.s) w
  rcases (by omega : d = 0 ∨ d = 1 ∨ d = 2 ∨ d = 3) with rfl | rfl | rfl | rfl
  · exact h0
  · exact h1
  · exact h2
  · exact h3
theorem C4.get_of (c : C4) : c.get 0 = c.e ∧ c.get 1 = c.n ∧ c.get 2 = c.w ∧ c.get 3 = c.s := ⟨rfl, rfl, rfl, rfl⟩
set_option maxRecDepth 100000 in
set_option maxHeartbeats 4000000 in
theorem node_Mass (al ap : Option Addr) (m q cl cp : Nat) (F : Nat → SiteR) (p : Nat → N6) (w : World) (hm : m ≤ 1000) (hb : ∀ k, k < m → (F k).nc ≤ 100000) (hq : q ≤ 1000000) (hL : (allI F m p q).length ≤ 100000000) (HS : Ss w al m F) (HP : Sn w ap q p) :
    Calls Tryz.prog 13 #[.slice al m cl, .slice ap q cp] w fun e w' => e = .returned (.int .i64 (mssL (allI F m p q))) ∧ Below w.heap.size w w' := by
  have hcell := fun k i d => allI_dir F (m := m) p q (k := k) (i := i) (d := d)
  have hpost := fun j => allI_post F m p (q := q) (j := j)
  have HCE := hid hcell; have HPO := hid hpost
  clear hcell hpost
  have hall : siteI F m ++ postI p q = allI F m p q := rfl
  have HAL := hid hall; clear hall
  have HB := hid hb; clear hb
  generalize allI F m p q = L at *
  go_enter Tryz.func13, Tryz.ntmps13
  go_wp2
  go_loopw [5, 16] (fun s i wr => ∃ k : Nat, k ≤ m ∧ i = .int .i64 k ∧ s = .int .i64 (sumL (siteI F k)) ∧ PreM L (siteI F k) ∧ Below w.heap.size w wr) (fun _ i _ => m - (intOf i).toNat)
  case atStart => exact ⟨0, Nat.zero_le _, rfl, rfl, PreM.nil _, by (repeat' (first | with_reducible assumption | with_reducible exact Below.refl _ _ | with_reducible refine Below.drew ?_ | with_reducible refine below_drewN ?_ _ | with_reducible refine balloc ?_ _ | with_reducible refine bset ?_ ?_ _ | with_reducible refine Below.setCell ?_ ?_ _ | with_reducible refine Below.alloc ?_ ?_ _ | omega | (simp; done) | (simp; omega)))⟩
  case round =>
    obtain ⟨wo, rfl⟩ : ∃ wo : World, wo = wr := ⟨_, rfl⟩
    obtain ⟨k, hk, rfl, rfl, hP, hB⟩ := hrel
    by_cases hlt : k < m
    · obtain ⟨b1, o1, rfl, hb1, c0, c1, c2, c3, hl⟩ := (HS.below hB) k hlt
      have hnc := HB.out k hlt
      have HC := hl.2.1
      have hS1 : siteI F (k + 1) = siteI F k ++ cellsI (F k).C (F k).nc := rfl
      have HS1 := hid hS1; clear hS1 hl
      generalize (F k).cl = acl at *
      go_wp2
      have HC1 := HC.alloc (.cells #[.int .i64 (F k).nd, .int .i64 (F k).st, .slice (F k).ix (F k).ni (F k).ci, .slice acl (F k).nc (F k).cc] 30)
      have hB1 := balloc hB (.cells #[.int .i64 (F k).nd, .int .i64 (F k).st, .slice (F k).ix (F k).ni (F k).ci, .slice acl (F k).nc (F k).cc] 30)
      generalize wo.alloc (.cells #[.int .i64 (F k).nd, .int .i64 (F k).st, .slice (F k).ix (F k).ni (F k).ci, .slice acl (F k).nc (F k).cc] 30) = w1 at *
      go_loopw [5, 23] (fun s i wr => ∃ j : Nat, j ≤ (F k).nc ∧ i = .int .i64 j ∧ s = .int .i64 (sumL (siteI F k ++ cellsI (F k).C j)) ∧ PreM L (siteI F k ++ cellsI (F k).C j) ∧ Below w1.heap.size w1 wr) (fun _ i _ => (F k).nc - (intOf i).toNat)
      case atStart => exact ⟨0, Nat.zero_le _, rfl, by simp [cellsI], by simpa [cellsI] using hP, Below.refl _ _⟩
      case round =>
        obtain ⟨w9, rfl⟩ : ∃ w9 : World, w9 = wr := ⟨_, rfl⟩
        obtain ⟨j, hj, rfl, rfl, hP2, hB2⟩ := hrel
        by_cases hlt2 : j < (F k).nc
        · obtain ⟨b2, o2, rfl, hb2, d0, d1, d2, d3⟩ := (HC1.below hB2) j hlt2
          have hdir := fun d (hd : d < 4) => HCE.out k j d hlt hlt2 hd
          have HD := hid hdir; clear hdir
          have hC1 : cellsI (F k).C (j + 1) = cellsI (F k).C j ++ cL ((F k).C j) := rfl
          have HC2 := hid hC1; clear hC1
          have hgt := C4.get_of ((F k).C j)
          have HG := hid hgt; clear hgt
          generalize (F k).C j = cc at *
          generalize hPP : siteI F k ++ cellsI (F k).C j = P at *
          have HPP := hid hPP; clear hPP
          go_wp2
          go_loopw [5, 28] (fun s i wr => ∃ d : Nat, d ≤ 4 ∧ i = .int .i64 d ∧ s = .int .i64 (sumL (P ++ (cL cc).take d)) ∧ PreM L (P ++ (cL cc).take d) ∧ Below w1.heap.size w1 wr) (fun _ i _ => 4 - (intOf i).toNat)
          case atStart => exact ⟨0, Nat.zero_le _, rfl, by simp, by simpa using hP2, by (repeat' (first | with_reducible assumption | with_reducible exact Below.refl _ _ | with_reducible refine Below.drew ?_ | with_reducible refine below_drewN ?_ _ | with_reducible refine balloc ?_ _ | with_reducible refine bset ?_ ?_ _ | with_reducible refine Below.setCell ?_ ?_ _ | with_reducible refine Below.alloc ?_ ?_ _ | omega | (simp; done) | (simp; omega)))⟩
          case round =>
            obtain ⟨d, hd, rfl, rfl, hP3, hB3⟩ := hrel
            have hbd := hP3.bnd hL
            obtain ⟨u1, u2⟩ := hbd
            generalize hSS : sumL (P ++ (cL cc).take d) = S at *
            have HSS := hid hSS; clear hSS
            by_cases hd4 : d < 4
            · have hdd := HD.out d hd4
              have htk := cL_take cc hd4
              have HDD := hid hdd; have HTK := hid htk
              clear hdd htk
              have hix := idx4d cc hd4
              generalize cc.get d = x at *
              cases hw : within x 0 1000000000
              · have hw0 := (within_no _ _ _).1 hw
                have HW := hid hw0; clear hw0
                go_wp2_with (go_at_call 38; refine (node_within _ _ _ _).mono ?_; rintro e w' ⟨rfl, rfl⟩; rw [hw])
                go_ret
                exact ⟨ret_int (mssL_bad HDD.out HW.out).symm, bvia hB1 hB3⟩
              · obtain ⟨v1, v2⟩ := (within_iff _ _ _).1 hw
                go_wp2_with (go_at_call 38; refine (node_within _ _ _ _).mono ?_; rintro e w' ⟨rfl, rfl⟩; rw [hw])
                go_roundw
                case rel => exact ⟨d + 1, by omega, by go_num, by rw [HTK.out, ← List.append_assoc, sumL_snoc, HSS.out], by rw [HTK.out, ← List.append_assoc]; exact hP3.snoc HDD.out ⟨v1, v2⟩, by (repeat' (first | with_reducible assumption | with_reducible exact Below.refl _ _ | with_reducible refine Below.drew ?_ | with_reducible refine below_drewN ?_ _ | with_reducible refine balloc ?_ _ | with_reducible refine bset ?_ ?_ _ | with_reducible refine Below.setCell ?_ ?_ _ | with_reducible refine Below.alloc ?_ ?_ _ | omega | (simp; done) | (simp; omega)))⟩
                case measure => simp [intOf]; omega
            · obtain rfl : d = 4 := (by omega)
              have htk : (cL cc).take 4 = cL cc := rfl
              rw [htk] at hP3
              have HTK := hid htk; clear htk
              go_wp2
              go_roundw
              case rel => exact ⟨j + 1, by omega, by go_num, by rw [HC2.out, ← List.append_assoc, HPP.out, ← HSS.out, HTK.out], by rw [HC2.out, ← List.append_assoc, HPP.out]; exact hP3, hB3⟩
              case measure => simp [intOf]; omega
        · obtain rfl : j = (F k).nc := (by omega)
          go_wp2
          go_roundw
          case rel => exact ⟨k + 1, by omega, by go_num, by rw [HS1.out], by rw [HS1.out]; exact hP2, bvia hB1 hB2⟩
          case measure => simp [intOf]; omega
    · obtain rfl : k = m := (by omega)
      go_wp2
      go_loopw [5, 42] (fun s i wr => ∃ j : Nat, j ≤ q ∧ i = .int .i64 j ∧ s = .int .i64 (sumL (siteI F k ++ postI p j)) ∧ PreM L (siteI F k ++ postI p j) ∧ Below w.heap.size w wr) (fun _ i _ => q - (intOf i).toNat)
      case atStart => exact ⟨0, Nat.zero_le _, rfl, by simp [postI], by simpa [postI] using hP, hB⟩
      case round =>
        obtain ⟨j, hj, rfl, rfl, hP2, hB2⟩ := hrel
        have hbd := hP2.bnd hL
        obtain ⟨u1, u2⟩ := hbd
        by_cases hlt2 : j < q
        · obtain ⟨b2, o2, rfl, hb2, d0, d1, d2, d3, d4, d5⟩ := (HP.below hB2).six hlt2
          have hx := HPO.out j hlt2
          have hq1 : postI p (j + 1) = postI p j ++ [(p j).co] := rfl
          have HX := hid hx; have HQ1 := hid hq1
          clear hx hq1
          generalize hSS : sumL (siteI F k ++ postI p j) = S at *
          have HSS := hid hSS; clear hSS
          cases hw : within (p j).co 0 1000000000
          · have hw0 := (within_no _ _ _).1 hw
            have HW := hid hw0; clear hw0
            go_wp2_with (go_at_call 38; refine (node_within _ _ _ _).mono ?_; rintro e w' ⟨rfl, rfl⟩; rw [hw])
            go_ret
            exact ⟨ret_int (mssL_bad HX.out HW.out).symm, by (repeat' (first | with_reducible assumption | with_reducible exact Below.refl _ _ | with_reducible refine Below.drew ?_ | with_reducible refine below_drewN ?_ _ | with_reducible refine balloc ?_ _ | with_reducible refine bset ?_ ?_ _ | with_reducible refine Below.setCell ?_ ?_ _ | with_reducible refine Below.alloc ?_ ?_ _ | omega | (simp; done) | (simp; omega)))⟩
          · obtain ⟨v1, v2⟩ := (within_iff _ _ _).1 hw
            go_wp2_with (go_at_call 38; refine (node_within _ _ _ _).mono ?_; rintro e w' ⟨rfl, rfl⟩; rw [hw])
            go_roundw
            case rel => exact ⟨j + 1, by omega, by go_num, by rw [HQ1.out, ← List.append_assoc, sumL_snoc, HSS.out], by rw [HQ1.out, ← List.append_assoc]; exact hP2.snoc HX.out ⟨v1, v2⟩, by (repeat' (first | with_reducible assumption | with_reducible exact Below.refl _ _ | with_reducible refine Below.drew ?_ | with_reducible refine below_drewN ?_ _ | with_reducible refine balloc ?_ _ | with_reducible refine bset ?_ ?_ _ | with_reducible refine Below.setCell ?_ ?_ _ | with_reducible refine Below.alloc ?_ ?_ _ | omega | (simp; done) | (simp; omega)))⟩
            case measure => simp [intOf]; omega
        · obtain rfl : j = q := (by omega)
          rw [HAL.out] at hP2 u1 u2
          have hal := HAL.out
          have hend := hP2.all
          rw [hal]
          have HEND := hid hend
          clear hend hal
          by_cases hs : 1000000000 < sumL L
          · go_wp2
            go_ret
            rw [HEND.out, if_pos hs]
            exact ⟨rfl, hB2⟩
          · go_wp2
            go_ret
            rw [HEND.out, if_neg (by omega)]
            exact ⟨rfl, hB2⟩
theorem vInt_app (l m : List Int) : (l ++ m).map vInt = l.map vInt ++ m.map vInt := List.map_append
theorem cL_row {w : World} {b o : Nat} {c : C4} (h0 : w.cell? ⟨b, o, none⟩ = some (.int .i64 c.e)) (h1 : w.cell? ⟨b, o + 1, none⟩ = some (.int .i64 c.n)) (h2 : w.cell? ⟨b, o + 2, none⟩ = some (.int .i64 c.w)) (h3 : w.cell? ⟨b, o + 3, none⟩ = some (.int .i64 c.s)) :
    ∀ j u, ((cL c).map vInt)[j]? = some u → w.cell? ((⟨b, o, none⟩ : Addr).add j) = some u := fun j u hu => by
  rw [addrAdd]
  match j, hu with
  | 0, hu => simpa [cL, vInt, h0] using hu
  | 1, hu => simpa [cL, vInt, h1] using hu
  | 2, hu => simpa [cL, vInt, h2] using hu
  | 3, hu => simpa [cL, vInt, h3] using hu
  | j + 4, hu => simp [cL] at hu
theorem vInt_one (l : List Int) : ∀ u ∈ l.map vInt, u.oneCell' = true := by
  intro u hu
  obtain ⟨x, _, rfl⟩ := List.mem_map.1 hu
  rfl
theorem mssL_neg {l : List Int} {x : Int} (h : x ∈ l) (hx : x < 0) : mssL l = 0 := by
  unfold mssL
  rw [if_neg]
  rintro ⟨h1, _⟩
  have := h1 x h
  omega
theorem take_next (l : List Int) {k : Nat} (h : k < l.length) : l.take (k + 1) = l.take k ++ [l.getD k 0] := by
  rw [List.take_succ_eq_append_getElem h, List.getD_eq_getElem?_getD, List.getElem?_eq_getElem h]; rfl
theorem getD_mem {l : List Int} {k : Nat} (h : k < l.length) : l.getD k 0 ∈ l := by
  rw [List.getD_eq_getElem?_getD, List.getElem?_eq_getElem h]; exact List.getElem_mem h
end Go.Proofs.YtmmjaobpoiofdaaGreat
