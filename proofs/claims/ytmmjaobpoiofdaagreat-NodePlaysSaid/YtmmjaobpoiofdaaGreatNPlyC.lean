/- Walks: Mass, of the program and of the reference. Plain: of a play at any point: its sites and its post are valid, nothing is lost, the mass is the grid's; what both Plays leave, under one name. -/
import Derived.Test.YtmmjaobpoiofdaaGreatNMassP
import Derived.Test.YtmmjaobpoiofdaaGreatNValid
import Derived.Test.YtmmjaobpoiofdaaGreatSameG
import Derived.Test.YtmmjaobpoiofdaaGreatCRow
import Derived.Test.YtmmjaobpoiofdaaGreatNPlyM
import Derived.Test.YtmmjaobpoiofdaaGreatNLostW
namespace Go.Proofs.YtmmjaobpoiofdaaGreat
open Go Go.RowKit
set_option linter.unusedVariables false
set_option linter.unusedSimpArgs false
theorem idx4d (c : C4) {d : Nat} (hd : d < 4) (w : World) : (Instr.index 80 (.agg #[.int .i64 c.e, .int .i64 c.n, .int .i64 c.w, .int .i64 c.s]) (.int .i64 (d : Int))).run Tryz.prog w = .ok (.int .i64 (c.get d)) w := by
  obtain ⟨h0, h1, h2, h3⟩ := idx4 (.int .i64 c.e) (.int .i64 c.n) (.int .i64 c.w) (.int .i64 c.s) w
  rcases (by omega : d = 0 ∨ d = 1 ∨ d = 2 ∨ d = 3) with rfl | rfl | rfl | rfl
  · exact h0
  · exact h1
  · exact h2
  · exact h3
theorem C4.get_of (c : C4) : c.get 0 = c.e ∧ c.get 1 = c.n ∧ c.get 2 = c.w ∧ c.get 3 = c.s := ⟨rfl, rfl, rfl, rfl⟩
set_option maxRecDepth 100000 in
set_option maxHeartbeats 4000000 in
theorem node_Mass (al ap : Option Addr) (m q cl cp : Nat) (F : Nat → SiteR) (p : Nat → N6) (w : World) (hm : m ≤ 1000) (hb : ∀ k, k < m → (F k).nc ≤ 100000) (hq : q ≤ 1000000) (hL : (allI F m p q).length ≤ 100000000) (HS : Ss w al m F) (HP : Sn w ap q p) :
    Calls Tryz.prog 13 #[.slice al m cl, .slice ap q cp] w fun e w' => e = .returned (.int .i64 (mssL (allI F m p q))) ∧ Below w.heap.size w w' := by
  have hcell := fun k i d => allI_dir F (m := m) p q (k := k) (i := i) (d := d)
  have hpost := fun j => allI_post F m p (q := q) (j := j)
  have HCE := hid hcell; have HPO := hid hpost
  clear hcell hpost
  have hall : siteI F m ++ postI p q = allI F m p q := rfl
  have HAL := hid hall; clear hall
  have HB := hid hb; clear hb
  generalize allI F m p q = L at *
  go_enter Tryz.func13, Tryz.ntmps13
  go_wp2
  go_loopw [5, 16] (fun s i wr => ∃ k : Nat, k ≤ m ∧ i = .int .i64 k ∧ s = .int .i64 (sumL (siteI F k)) ∧ PreM L (siteI F k) ∧ Below w.heap.size w wr) (fun _ i _ => m - (intOf i).toNat)
  case atStart => exact ⟨0, Nat.zero_le _, rfl, rfl, PreM.nil _, by (repeat' (first | with_reducible assumption | with_reducible exact Below.refl _ _ | with_reducible refine Below.drew ?_ | with_reducible refine below_drewN ?_ _ | with_reducible refine balloc ?_ _ | with_reducible refine bset ?_ ?_ _ | with_reducible refine Below.setCell ?_ ?_ _ | with_reducible refine Below.alloc ?_ ?_ _ | omega | (simp; done) | (simp; omega)))⟩
  case round =>
    obtain ⟨wo, rfl⟩ : ∃ wo : World, wo = wr := ⟨_, rfl⟩
    obtain ⟨k, hk, rfl, rfl, hP, hB⟩ := hrel
    by_cases hlt : k < m
    · obtain ⟨b1, o1, rfl, hb1, c0, c1, c2, c3, hl⟩ := (HS.below hB) k hlt
      have hnc := HB.out k hlt
      have HC := hl.2.1
      have hS1 : siteI F (k + 1) = siteI F k ++ cellsI (F k).C (F k).nc := rfl
      have HS1 := hid hS1; clear hS1 hl
      generalize (F k).cl = acl at *
      go_wp2
      have HC1 := HC.alloc (.cells #[.int .i64 (F k).nd, .int .i64 (F k).st, .slice (F k).ix (F k).ni (F k).ci, .slice acl (F k).nc (F k).cc] 30)
      have hB1 := balloc hB (.cells #[.int .i64 (F k).nd, .int .i64 (F k).st, .slice (F k).ix (F k).ni (F k).ci, .slice acl (F k).nc (F k).cc] 30)
      generalize wo.alloc (.cells #[.int .i64 (F k).nd, .int .i64 (F k).st, .slice (F k).ix (F k).ni (F k).ci, .slice acl (F k).nc (F k).cc] 30) = w1 at *
      go_loopw [5, 23] (fun s i wr => ∃ j : Nat, j ≤ (F k).nc ∧ i = .int .i64 j ∧ s = .int .i64 (sumL (siteI F k ++ cellsI (F k).C j)) ∧ PreM L (siteI F k ++ cellsI (F k).C j) ∧ Below w1.heap.size w1 wr) (fun _ i _ => (F k).nc - (intOf i).toNat)
      case atStart => exact ⟨0, Nat.zero_le _, rfl, by simp [cellsI], by simpa [cellsI] using hP, Below.refl _ _⟩
      case round =>
        obtain ⟨w9, rfl⟩ : ∃ w9 : World, w9 = wr := ⟨_, rfl⟩
        obtain ⟨j, hj, rfl, rfl, hP2, hB2⟩ := hrel
        by_cases hlt2 : j < (F k).nc
        · obtain ⟨b2, o2, rfl, hb2, d0, d1, d2, d3⟩ := (HC1.below hB2) j hlt2
          have hdir := fun d (hd : d < 4) => HCE.out k j d hlt hlt2 hd
          have HD := hid hdir; clear hdir
          have hC1 : cellsI (F k).C (j + 1) = cellsI (F k).C j ++ cL ((F k).C j) := rfl
          have HC2 := hid hC1; clear hC1
          have hgt := C4.get_of ((F k).C j)
          have HG := hid hgt; clear hgt
          generalize (F k).C j = cc at *
          generalize hPP : siteI F k ++ cellsI (F k).C j = P at *
          have HPP := hid hPP; clear hPP
          go_wp2
          go_loopw [5, 28] (fun s i wr => ∃ d : Nat, d ≤ 4 ∧ i = .int .i64 d ∧ s = .int .i64 (sumL (P ++ (cL cc).take d)) ∧ PreM L (P ++ (cL cc).take d) ∧ Below w1.heap.size w1 wr) (fun _ i _ => 4 - (intOf i).toNat)
          case atStart => exact ⟨0, Nat.zero_le _, rfl, by simp, by simpa using hP2, by (repeat' (first | with_reducible assumption | with_reducible exact Below.refl _ _ | with_reducible refine Below.drew ?_ | with_reducible refine below_drewN ?_ _ | with_reducible refine balloc ?_ _ | with_reducible refine bset ?_ ?_ _ | with_reducible refine Below.setCell ?_ ?_ _ | with_reducible refine Below.alloc ?_ ?_ _ | omega | (simp; done) | (simp; omega)))⟩
          case round =>
            obtain ⟨d, hd, rfl, rfl, hP3, hB3⟩ := hrel
            have hbd := hP3.bnd hL
            obtain ⟨u1, u2⟩ := hbd
            generalize hSS : sumL (P ++ (cL cc).take d) = S at *
            have HSS := hid hSS; clear hSS
            by_cases hd4 : d < 4
            · have hdd := HD.out d hd4
              have htk := cL_take cc hd4
              have HDD := hid hdd; have HTK := hid htk
              clear hdd htk
              have hix := idx4d cc hd4
              generalize cc.get d = x at *
              cases hw : within x 0 1000000000
              · have hw0 := (within_no _ _ _).1 hw
                have HW := hid hw0; clear hw0
                go_wp2_with (go_at_call 38; refine (node_within _ _ _ _).mono ?_; rintro e w' ⟨rfl, rfl⟩; rw [hw])
                go_ret
                exact ⟨ret_int (mssL_bad HDD.out HW.out).symm, bvia hB1 hB3⟩
              · obtain ⟨v1, v2⟩ := (within_iff _ _ _).1 hw
                go_wp2_with (go_at_call 38; refine (node_within _ _ _ _).mono ?_; rintro e w' ⟨rfl, rfl⟩; rw [hw])
                go_roundw
                case rel => exact ⟨d + 1, by omega, by go_num, by rw [HTK.out, ← List.append_assoc, sumL_snoc, HSS.out], by rw [HTK.out, ← List.append_assoc]; exact hP3.snoc HDD.out ⟨v1, v2⟩, by (repeat' (first | with_reducible assumption | with_reducible exact Below.refl _ _ | with_reducible refine Below.drew ?_ | with_reducible refine below_drewN ?_ _ | with_reducible refine balloc ?_ _ | with_reducible refine bset ?_ ?_ _ | with_reducible refine Below.setCell ?_ ?_ _ | with_reducible refine Below.alloc ?_ ?_ _ | omega | (simp; done) | (simp; omega)))⟩
                case measure => simp [intOf]; omega
            · obtain rfl : d = 4 := (by omega)
              have htk : (cL cc).take 4 = cL cc := rfl
              rw [htk] at hP3
              have HTK := hid htk; clear htk
              go_wp2
              go_roundw
              case rel => exact ⟨j + 1, by omega, by go_num, by rw [HC2.out, ← List.append_assoc, HPP.out, ← HSS.out, HTK.out], by rw [HC2.out, ← List.append_assoc, HPP.out]; exact hP3, hB3⟩
              case measure => simp [intOf]; omega
        · obtain rfl : j = (F k).nc := (by omega)
          go_wp2
          go_roundw
          case rel => exact ⟨k + 1, by omega, by go_num, by rw [HS1.out], by rw [HS1.out]; exact hP2, bvia hB1 hB2⟩
          case measure => simp [intOf]; omega
    · obtain rfl : k = m := (by omega)
      go_wp2
      go_loopw [5, 42] (fun s i wr => ∃ j : Nat, j ≤ q ∧ i = .int .i64 j ∧ s = .int .i64 (sumL (siteI F k ++ postI p j)) ∧ PreM L (siteI F k ++ postI p j) ∧ Below w.heap.size w wr) (fun _ i _ => q - (intOf i).toNat)
      case atStart => exact ⟨0, Nat.zero_le _, rfl, by simp [postI], by simpa [postI] using hP, hB⟩
      case round =>
        obtain ⟨j, hj, rfl, rfl, hP2, hB2⟩ := hrel
        have hbd := hP2.bnd hL
        obtain ⟨u1, u2⟩ := hbd
        by_cases hlt2 : j < q
        · obtain ⟨b2, o2, rfl, hb2, d0, d1, d2, d3, d4, d5⟩ := (HP.below hB2).six hlt2
          have hx := HPO.out j hlt2
          have hq1 : postI p (j + 1) = postI p j ++ [(p j).co] := rfl
          have HX := hid hx; have HQ1 := hid hq1
          clear hx hq1
          generalize hSS : sumL (siteI F k ++ postI p j) = S at *
          have HSS := hid hSS; clear hSS
          cases hw : within (p j).co 0 1000000000
          · have hw0 := (within_no _ _ _).1 hw
            have HW := hid hw0; clear hw0
            go_wp2_with (go_at_call 38; refine (node_within _ _ _ _).mono ?_; rintro e w' ⟨rfl, rfl⟩; rw [hw])
            go_ret
            exact ⟨ret_int (mssL_bad HX.out HW.out).symm, by (repeat' (first | with_reducible assumption | with_reducible exact Below.refl _ _ | with_reducible refine Below.drew ?_ | with_reducible refine below_drewN ?_ _ | with_reducible refine balloc ?_ _ | with_reducible refine bset ?_ ?_ _ | with_reducible refine Below.setCell ?_ ?_ _ | with_reducible refine Below.alloc ?_ ?_ _ | omega | (simp; done) | (simp; omega)))⟩
          · obtain ⟨v1, v2⟩ := (within_iff _ _ _).1 hw
            go_wp2_with (go_at_call 38; refine (node_within _ _ _ _).mono ?_; rintro e w' ⟨rfl, rfl⟩; rw [hw])
            go_roundw
            case rel => exact ⟨j + 1, by omega, by go_num, by rw [HQ1.out, ← List.append_assoc, sumL_snoc, HSS.out], by rw [HQ1.out, ← List.append_assoc]; exact hP2.snoc HX.out ⟨v1, v2⟩, by (repeat' (first | with_reducible assumption | with_reducible exact Below.refl _ _ | with_reducible refine Below.drew ?_ | with_reducible refine below_drewN ?_ _ | with_reducible refine balloc ?_ _ | with_reducible refine bset ?_ ?_ _ | with_reducible refine Below.setCell ?_ ?_ _ | with_reducible refine Below.alloc ?_ ?_ _ | omega | (simp; done) | (simp; omega)))⟩
            case measure => simp [intOf]; omega
        · obtain rfl : j = q := (by omega)
          rw [HAL.out] at hP2 u1 u2
          have hal := HAL.out
          have hend := hP2.all
          rw [hal]
          have HEND := hid hend
          clear hend hal
          by_cases hs : 1000000000 < sumL L
          · go_wp2
            go_ret
            rw [HEND.out, if_pos hs]
            exact ⟨rfl, hB2⟩
          · go_wp2
            go_ret
            rw [HEND.out, if_neg (by omega)]
            exact ⟨rfl, hB2⟩
end Go.Proofs.YtmmjaobpoiofdaaGreat
namespace Go.Proofs.YtmmjaobpoiofdaaGreat
open Go Go.RowKit
set_option linter.unusedVariables false
theorem ply_siteM {o : Nat → Int} {no : Nat} {st : Int → Int} {G : Nat → C4} {F : Nat → SiteR} (ho : ∀ k, k < no → 0 ≤ o k ∧ o k ≤ 7) (h : ∀ j, j < (nodeL o no 8).length → siteQ o no st G ((nodeL o no 8).getD j 0) (F j)) : siteM F (nodeL o no 8).length = massTo G no := by
  have h2 := split_siteM (o := o) (no := no) (g := G) (F := fun j => { F j with st := 0 }) 8 fun j hj => by
    obtain ⟨q1, q2, q3, q4, q5⟩ := h j hj
    exact ⟨q1, rfl, q3, q4, q5⟩
  rw [selS_all ho] at h2
  have h3 : ∀ k, siteM (fun j => { F j with st := 0 }) k = siteM F k := by
    intro k
    induction k with
    | zero => rfl
    | succ k ih => simp only [siteM, ih]
  rw [h3] at h2
  exact h2
theorem siteI_sum (F : Nat → SiteR) : ∀ m, sumL (siteI F m) = siteM F m
  | 0 => rfl
  | m + 1 => by
    simp only [siteI, siteM]
    rw [sumL_app, siteI_sum F m, cellsI_sum]
theorem siteI_nn {F : Nat → SiteR} : ∀ {m}, (∀ k, k < m → ∀ i, i < (F k).nc → nnC ((F k).C i)) → ∀ x ∈ siteI F m, 0 ≤ x
  | 0, _, x, hx => by cases hx
  | m + 1, h, x, hx => by
    simp only [siteI] at hx
    rcases List.mem_append.1 hx with hx | hx
    · exact siteI_nn (fun k hk => h k (by omega)) x hx
    · exact cellsI_nn (h m (by omega)) x hx
theorem siteI_len {F : Nat → SiteR} {c : Nat} : ∀ {m}, (∀ k, k < m → (F k).nc ≤ c) → (siteI F m).length ≤ m * (4 * c)
  | 0, _ => by simp [siteI]
  | m + 1, h => by
    simp only [siteI]
    rw [List.length_append, cellsI_length]
    have := siteI_len (F := F) (c := c) (m := m) fun k hk => h k (by omega)
    have := h m (by omega)
    rw [Nat.add_mul]; omega
where cellsI_length (C : Nat → C4) : ∀ n, (cellsI C n).length = 4 * n
  | 0 => rfl
  | n + 1 => by
    simp only [cellsI]
    rw [List.length_append, cellsI_length C n]
    simp [cL]; omega
theorem postI_length (p : Nat → N6) : ∀ q, (postI p q).length = q
  | 0 => rfl
  | q + 1 => by
    simp only [postI]
    rw [List.length_append, postI_length p q]; rfl
section
variable {W H : Nat} {o : Nat → Int} {no rn : Nat} {ru : Nat → Int × Int} {g : Nat → C4} {n : Int} {X : Ply} {F : Nat → SiteR}
theorem ply_sites (hno : no = W * H) (hg : (∀ i, i < W * H → validC (g i) = true) ∧ massTo g (W * H) ≤ 1000000000) (hn : n ≤ 1000000) (ho : ∀ k, k < no → 0 ≤ o k ∧ o k ≤ 7) (I : PlyI W H o no rn ru g n X) (h : ∀ j, j < (nodeL o no 8).length → siteQ o no X.st X.G ((nodeL o no 8).getD j 0) (F j)) : sitesB o no (nodeL o no 8).length F = true := by
  have hp := ply_post hno hg hn I
  have hco : 0 ≤ coL X.P := by rw [coL_pF]; exact (coS_nonneg _ (post_fit hp)).1
  have hm := I.mass
  have hg2 := hg.2
  rw [← hno] at hg2
  refine sitesB_iff.2 ⟨rfl, fun k hk => (h k hk).1, fun k hk => ?_, ?_⟩
  · rw [siteQ_B (h k hk)]; exact ply_site hno hg hn I _
  · rw [ply_siteM ho h]; omega
theorem ply_lost (hno : no = W * H) (hg : (∀ i, i < W * H → validC (g i) = true) ∧ massTo g (W * H) ≤ 1000000000) (hn : n ≤ 1000000) (ho : ∀ k, k < no → 0 ≤ o k ∧ o k ≤ 7) (I : PlyI W H o no rn ru g n X) (h : ∀ j, j < (nodeL o no 8).length → siteQ o no X.st X.G ((nodeL o no 8).getD j 0) (F j)) (far : Int) :
    lsK W H o no X.P.length (pF X.P) F (nodeL o no 8).length far (nodeL o no 8).length = [] := by
  have hd := dist_sites (ply_sites hno hg hn ho I h)
  cases hl : lsK W H o no X.P.length (pF X.P) F (nodeL o no 8).length far (nodeL o no 8).length with
  | nil => rfl
  | cons x l =>
    exfalso
    have hx : x ∈ lsK W H o no X.P.length (pF X.P) F (nodeL o no 8).length far (nodeL o no 8).length := by rw [hl]; exact List.mem_cons_self ..
    obtain ⟨j, hj, i, hi, hdue, hb⟩ := lsK_mem.1 hx
    obtain ⟨c, d, hc, hd4, hoc, hne, rfl⟩ := dueL_pl hdue
    obtain ⟨q1, q2, _⟩ := h j hj
    unfold lsB at hb
    rw [Bool.and_eq_true, decide_eq_true_iff, Bool.not_eq_true'] at hb
    obtain ⟨hb1, hb2⟩ := hb
    have hnb : nbT W H c d < no := by rw [hno]; exact nbT_lt (by omega) hd4
    obtain ⟨k, hk, hke, _⟩ := node_has ho (x := o (nbT W H c d)) ⟨_, hnb, rfl⟩
    have hgon : gonV F (nodeL o no 8).length (o (nbT W H c d)) = X.st (o (nbT W H c d)) := by
      have := gonV_at hd hk
      rw [(h k hk).1, (h k hk).2.1, hke] at this
      exact this
    have hb1' : max 1 (F j).st + i ≤ X.st (o (nbT W H c d)) := by rw [← hgon]; exact hb1
    have hst : (F j).st = X.st (o c) := by rw [q2, ← q1, ← hoc]
    have h0 := I.st0 (o c)
    have hh := I.has (max 1 (F j).st + i).toNat c d hc hd4 (by rw [hoc]; exact hne) (by omega) (by omega) (by omega)
    obtain ⟨u, hu, e⟩ := pF_ex hh
    have : metB (pF X.P) (plN o W H (F j).nd (max 1 (F j).st + i) c d) X.P.length = true := by
      refine metB_iff.2 ⟨u, hu, plcB_pl.2 ?_⟩
      rw [e]
      exact ⟨by show ((max 1 (F j).st + i).toNat : Int) = max 1 (F j).st + i; omega, rfl, rfl⟩
    rw [this] at hb2
    cases hb2
theorem ply_mass (hno : no = W * H) (hg : (∀ i, i < W * H → validC (g i) = true) ∧ massTo g (W * H) ≤ 1000000000) (hn : n ≤ 1000000) (ho : ∀ k, k < no → 0 ≤ o k ∧ o k ≤ 7) (I : PlyI W H o no rn ru g n X) (h : ∀ j, j < (nodeL o no 8).length → siteQ o no X.st X.G ((nodeL o no 8).getD j 0) (F j)) :
    mssL (allI F (nodeL o no 8).length (pF X.P) X.P.length) = massTo g no := by
  have hp := ply_post hno hg hn I
  have hs := ply_sites hno hg hn ho I h
  have hm := I.mass
  have hg2 := hg.2
  rw [← hno] at hg2
  have hsum : sumL (allI F (nodeL o no 8).length (pF X.P) X.P.length) = massTo g no := by
    unfold allI
    rw [sumL_app, postI_sum, siteI_sum, ply_siteM ho h, ← hm, coL_pF]
  unfold mssL
  rw [if_pos, hsum]
  refine ⟨fun x hx => ?_, by rw [hsum]; exact hg2⟩
  unfold allI at hx
  rcases List.mem_append.1 hx with hx | hx
  · refine siteI_nn (fun k hk i hi => ?_) x hx
    have hsb := (sitesB_iff.1 hs).2.2.1 k hk
    exact valid_nn ((site_mass hsb).1 i hi)
  · exact postI_nn (fun k hk => (noteR_iff.1 (noteB_iff.1 ((postB_iff.1 hp).2.1 k hk)).1).2.2.2.1) x hx
theorem ply_cnt (hn : 0 ≤ n) (I : PlyI W H o no rn ru g n X) (h : ∀ j, j < (nodeL o no 8).length → siteQ o no X.st X.G ((nodeL o no 8).getD j 0) (F j)) {c : Nat} (hc : X.cnt ≤ c) : ∀ k, k < (nodeL o no 8).length → cntS (farO F (nodeL o no 8).length) (F k).st ≤ c := fun k hk => by
  have hf : farO F (nodeL o no 8).length ≤ c := farO_le (by omega) fun j hj => by
    rw [(h j hj).2.1]
    have := I.stc ((nodeL o no 8).getD j 0)
    omega
  unfold cntS
  omega
end
/-- what both Plays leave, by one error -/
def uE (E : Int) (Z : Ply) : Int := if E = 0 then Z.er else E
def uM (E : Int) (o : Nat → Int) (no : Nat) (Z : Ply) : Nat := if uE E Z = 0 then (nodeL o no 8).length else 0
def uR (E : Int) (Z : Ply) : List N6 := if uE E Z = 0 then Z.P else []
def uC (E : Int) (Z : Ply) : Int := if uE E Z = 0 then (Z.cnt : Int) else 0
def PlayU (E : Int) (o : Nat → Int) (no : Nat) (Z : Ply) (w : World) (e : Ending) (w' : World) : Prop :=
  ∃ aS cS F aP cP, e = .returned (.tuple #[.slice aS (uM E o no Z) cS, .slice aP (uR E Z).length cP, .int .i64 (uC E Z), .int .i64 (uE E Z)]) ∧ Ss w' aS (uM E o no Z) F ∧ (∀ k, k < uM E o no Z → siteQ o no Z.st Z.G ((nodeL o no 8).getD k 0) (F k)) ∧ Sn w' aP (uR E Z).length (fun k => (uR E Z).getD k N6.zero) ∧ (uR E Z).length ≤ cP ∧ (aP = none → cP = 0) ∧ Below w.heap.size w w'
theorem playU {E : Int} {o : Nat → Int} {no : Nat} {Z : Ply} {w w' : World} {e : Ending} (h : PlayR E o no Z w e w') : PlayU E o no Z w e w' := by
  rcases h with ⟨rfl, h⟩ | ⟨hE, rfl, hb⟩
  · have e0 : uE 0 Z = Z.er := if_pos rfl
    rcases h with ⟨h0, vS, xs, vP, rfl, h1, h2, h3⟩ | ⟨h4, rfl, hb⟩
    · have e1 : uM 0 o no Z = (nodeL o no 8).length := if_pos (e0.trans h0)
      have e2 : uR 0 Z = Z.P := if_pos (e0.trans h0)
      have e3 : uC 0 Z = Z.cnt := if_pos (e0.trans h0)
      obtain ⟨aS, cS, rfl, hs⟩ := h1.ss
      obtain ⟨aP, cP, rfl, hl, hac⟩ := listR_of_own2 h2
      unfold PlayU
      rw [e0, e1, e2, e3, h0, ← h1.2.1]
      exact ⟨aS, cS, _, aP, cP, rfl, hs, fun k hk => (h1.2.2 k (by rw [← h1.2.1]; exact hk)).1, hl.2.2, hl.2.1, hac, h3⟩
    · have e1 : uM 0 o no Z = 0 := if_neg (by rw [e0, h4]; decide)
      have e2 : uR 0 Z = [] := if_neg (by rw [e0, h4]; decide)
      have e3 : uC 0 Z = 0 := if_neg (by rw [e0, h4]; decide)
      unfold PlayU
      rw [e0, e1, e2, e3, h4]
      exact ⟨none, 0, fun _ => SiteR.zero, none, 0, rfl, fun k hk => absurd hk (by omega), fun k hk => absurd hk (by omega), fun k hk => absurd hk (by simp), Nat.le_refl _, fun _ => rfl, hb⟩
  · have e0 : uE E Z = E := if_neg hE
    have e1 : uM E o no Z = 0 := if_neg (by rw [e0]; exact hE)
    have e2 : uR E Z = [] := if_neg (by rw [e0]; exact hE)
    have e3 : uC E Z = 0 := if_neg (by rw [e0]; exact hE)
    unfold PlayU
    rw [e0, e1, e2, e3]
    exact ⟨none, 0, fun _ => SiteR.zero, none, 0, rfl, fun k hk => absurd hk (by omega), fun k hk => absurd hk (by omega), fun k hk => absurd hk (by simp), Nat.le_refl _, fun _ => rfl, hb⟩
end Go.Proofs.YtmmjaobpoiofdaaGreat
