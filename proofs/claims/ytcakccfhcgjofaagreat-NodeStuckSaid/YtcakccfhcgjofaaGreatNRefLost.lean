/- Walks: stepOf and Lost, of the reference. -/
import Derived.Test.YtcakccfhcgjofaaGreatNLostP
import Derived.Test.YtcakccfhcgjofaaGreatNRefSort
import Derived.Test.YtcakccfhcgjofaaGreatSeq
namespace Go.Proofs.YtcakccfhcgjofaaGreat
open Go Go.RowKit
set_option linter.unusedVariables false
set_option linter.unusedSimpArgs false
set_option maxRecDepth 100000 in
set_option maxHeartbeats 2000000 in
theorem ref5_stepOf (al : Option Addr) (m cl : Nat) (F : Nat → SiteR) (nd : Int) (w : World) (hm : m ≤ 1000) (hd : distN F m) (HS : Ss w al m F) :
    Calls Tryz.prog 43 #[.slice al m cl, .int .i64 nd] w fun e w' => e = .returned (.int .i64 (gonV F m nd)) ∧ w = w' := by
  have hat := fun k hk => gonV_at hd (k := k) hk
  have hno := gonV_none (F := F) (nd := nd) (m := m)
  have HAT := hid hat; have HNO := hid hno
  clear hat hno hd
  go_enter Tryz.func43, Tryz.ntmps43
  go_wp2
  go_loop [5] (fun i => ∃ k : Nat, k ≤ m ∧ i = .int .i64 k ∧ ∀ j, j < k → (F j).nd ≠ nd) (fun i => m - (intOf i).toNat)
  case atStart => exact ⟨0, Nat.zero_le _, rfl, fun j hj => by omega⟩
  case round =>
    obtain ⟨k, hk, rfl, hok⟩ := hrel
    have HOK := hid hok; clear hok
    by_cases hlt : k < m
    · obtain ⟨b1, o1, rfl, hb1, c0, c1, c2, c3, hl⟩ := HS k hlt
      have hat := HAT.out k hlt
      have hst : (F k).nd ≠ nd → ∀ j, j < k + 1 → (F j).nd ≠ nd := fun h j hj => by
        rcases Nat.lt_succ_iff_lt_or_eq.1 hj with h' | rfl
        · exact HOK.out j h'
        · exact h
      have HA := hid hat; have HST := hid hst
      clear hat hst hl
      cases he : ((F k).nd == nd)
      · have he' : (F k).nd ≠ nd := by simpa using he
        have HE := hid he'; clear he'
        go_wp2
        go_round
        case rel => exact ⟨k + 1, by omega, by go_num, HST.out HE.out⟩
        case measure => simp [intOf]; omega
      · have he' : (F k).nd = nd := by simpa using he
        have hv : gonV F m nd = (F k).st := by rw [← he']; exact HA.out
        have HV := hid hv; clear he' hv
        go_wp2
        go_ret
        rw [HV.out]
        exact ⟨rfl, rfl⟩
    · obtain rfl : k = m := (by omega)
      have hn := HNO.out HOK.out
      have HN := hid hn; clear hn
      go_wp2
      go_ret
      rw [HN.out]
      exact ⟨rfl, rfl⟩
theorem listR_of_own2 {w : World} {base : Nat} {v : Value} {xs : List N6} (h : OwnN w base v xs) : ∃ p c, v = .slice p xs.length c ∧ ListR w p xs.length c xs ∧ (p = none → c = 0) := by
  obtain ⟨p, c, rfl, hl⟩ := listR_of_own h
  refine ⟨p, c, rfl, hl, fun e => ?_⟩
  rcases h.2 with ⟨e2, _⟩ | ⟨g, cap, cur, e2, _⟩
  · injection e2
  · injection e2 with e3; rw [e] at e3; cases e3
theorem own_listR {w : World} {base : Nat} {p : Option Addr} {n c : Nat} {xs : List N6} (h : OwnN w base (.slice p n c) xs) : ListR w p n c xs := by
  obtain ⟨p', c', e, hl⟩ := listR_of_own h
  injection e with e1 e2 e3
  subst e1 e2 e3
  exact hl
/-- two own lists of which the one was made behind the other lie apart -/
theorem own_dis {w w5 : World} {base b5 : Nat} {v vn : Value} {xs D : List N6} (h : OwnN w base v xs) (h5 : OwnN w5 b5 vn D) (hb : w.heap.size ≤ b5) : ∀ g, vn.ownBlock = some g → v.ownBlock ≠ some g := fun g hg e => by
  have h1 := own_base h5 g hg
  have h2 := own_lt h g e
  omega
/-- .. and do so when the one grows -/
theorem own_dis_app {w : World} {b5 : Nat} {v v' vn : Value} {D : List N6} (h5 : OwnN w b5 vn D) (h : ∀ g, vn.ownBlock = some g → v.ownBlock ≠ some g) {k : Nat} (hk : w.heap.size ≤ k) (hv : v'.ownBlock = v.ownBlock ∨ v'.ownBlock = some k) : ∀ g, vn.ownBlock = some g → v'.ownBlock ≠ some g := fun g hg e => by
  rcases hv with hv | hv
  · rw [hv] at e; exact h g hg e
  · rw [hv] at e
    injection e with e
    have := own_lt h5 g hg
    omega
theorem own_some {w : World} {base : Nat} {v : Value} {xs : List N6} (h : OwnN w base v xs) (hn : xs ≠ []) : ∃ g, v.ownBlock = some g ∧ g < w.heap.size := by
  rcases h.2 with ⟨_, h0⟩ | ⟨g, cap, cur, rfl, _⟩
  · exact absurd (List.length_eq_zero_iff.1 h0) hn
  · exact ⟨g, rfl, own_lt h g rfl⟩
theorem lstN_of (l : List N6) : lstN (fun k => l.getD k N6.zero) l.length = l := by
  apply List.ext_getElem?
  intro i
  unfold lstN
  rw [List.getElem?_map]
  by_cases h : i < l.length
  · rw [List.getElem?_range h, List.getElem?_eq_getElem h, Option.map_some, List.getD_eq_getElem?_getD, List.getElem?_eq_getElem h]; rfl
  · rw [List.getElem?_eq_none (by simpa using h), List.getElem?_eq_none (by omega)]; rfl
def lostX (wh : Bool) (L : List N6) : List N6 := if wh = true then sortN L else []
theorem lost_bnd {W H : Nat} {o : Nat → Int} {no q : Nat} {p : Nat → N6} {F : Nat → SiteR} {m B : Nat} {far : Int} (hB : ∀ k, k < m → cntS far (F k).st ≤ B) (hU : m * (B * (4 * no)) ≤ 1000000) {k j i : Nat} (hk : k < m) (hj : j < cntS far (F k).st) :
    (lsK W H o no q p F m far k ++ lsS W H o no q p F m (F k).nd (max 1 (F k).st) j ++ lsT W H o no q p F m (F k).nd (max 1 (F k).st + j) i).length ≤ 1000000 := by
  have h1 := lsK_len (W := W) (H := H) (o := o) (no := no) (q := q) (p := p) (F := F) (m := m) (far := far) (B := B) k fun i hi => hB i (by omega)
  have h2 := lsS_len (W := W) (H := H) (o := o) (no := no) (q := q) (p := p) (F := F) (m := m) (nd := (F k).nd) (lo := max 1 (F k).st) j
  have h3 := lsT_len (W := W) (H := H) (o := o) (no := no) (q := q) (p := p) (F := F) (m := m) (nd := (F k).nd) (st := max 1 (F k).st + j) (i := i)
  have h4 := hB k hk
  simp only [List.length_append]
  generalize 4 * no = T at *
  have h5 : (j + 1) * T ≤ B * T := Nat.mul_le_mul_right _ (by omega)
  have h6 : (k + 1) * (B * T) ≤ m * (B * T) := Nat.mul_le_mul_right _ (by omega)
  rw [Nat.add_mul, Nat.one_mul] at h5 h6
  omega
set_option maxRecDepth 100000 in
set_option maxHeartbeats 8000000 in
theorem ref5_Lost (wide high : Int) (a ao al ap : Option Addr) (n no m q c co cl cp B : Nat) (g : Nat → C4) (o : Nat → Int) (f : Nat → SiteR) (p : Nat → N6) (w : World) (hn : n ≤ 100000000) (hno : no ≤ 100000000) (hm : m ≤ 1000) (hq : q ≤ 100000000) (hb : ∀ k, k < m → (f k).ni ≤ 10000 ∧ (f k).nc ≤ 10000) (hcB : ∀ k, k < m → cntS (farO f m) (f k).st ≤ B) (hU : m * (B * (4 * no)) ≤ 1000000) (H : Sc w a n g) (HO : Sl w ao no o) (HS : Ss w al m f) (HP : Sn w ap q p) (HW : ∀ k, k < q → wfN (p k)) :
    Calls Tryz.prog 14 #[.agg #[.int .i64 wide, .int .i64 high, .slice a n c], .slice ao no co, .slice al m cl, .slice ap q cp] w
      (NotePost (lostX (wholeB wide high n g no o m f q p) (lsK wide.toNat high.toNat o no q p f m (farO f m) m)) (errR (wholeB wide high n g no o m f q p) 1) w) := by
  obtain ⟨i0, hi, hz0, hz1, hz2⟩ := info_parts infoN
  have hwh := fun W S SO SS SP => ref5_stateError wide high a ao al ap n no m q c co cl cp g o f p W hn hno hm hq hb S SO SS SP HW
  have X0 := Bx.new w #[.int .i64 wide, .int .i64 high, .slice a n c] 24
  have hB0 : Below w.heap.size w (w.alloc (.cells #[.int .i64 wide, .int .i64 high, .slice a n c] 24)) := by (repeat' (first | with_reducible assumption | with_reducible exact Below.refl _ _ | with_reducible refine Below.drew ?_ | with_reducible refine below_drewN ?_ _ | with_reducible refine balloc ?_ _ | with_reducible refine bset ?_ ?_ _ | with_reducible refine Below.setCell ?_ ?_ _ | with_reducible refine Below.alloc ?_ ?_ _ | omega | (simp; done) | (simp; omega)))
  cases hV : wholeB wide high n g no o m f q p
  · rw [hV] at hwh
    clear HW hb hV hcB hU
    go_enter Tryz.func14, Tryz.ntmps14
    go_wp2_with fail
    generalize (w.alloc (.cells #[.int .i64 wide, .int .i64 high, .slice a n c] 24)) = W0 at X0 hB0 ⊢
    have z0 := X0.lt
    refine (hwh _ (H.below hB0) (HO.below hB0) (HS.below hB0) (HP.below hB0)).mono ?_
    rintro e w1 ⟨rfl, hb1⟩
    go_wp2
    go_ret2
    exact notePost_nil rfl rfl (bvia hB0 hb1)
  rw [hV] at hwh
  obtain ⟨hv, hsb, hpb⟩ := wholeB_iff.1 hV
  have hdi := dist_sites hsb
  have hstb : ∀ k, k < m → 0 ≤ (f k).st ∧ (f k).st ≤ 1000000 := fun k hk => by
    obtain ⟨hw, _⟩ := siteB_iff.1 ((sitesB_iff.1 hsb).2.2.1 k hk)
    simpa [within] using hw
  obtain ⟨Wd, Hd, rfl, rfl, p1, p2, u1, u2, hnn, hn4, hoo, hob, _, _⟩ := validM_sides hv
  simp only [Int.toNat_natCast] at *
  have hdu := fun nd st W SO => ref5_due Wd Hd a ao n c no co o nd st W ⟨p1, p2⟩ ⟨u1, u2⟩ (by omega) SO
  have hfi := fun x W S => ref5_find ap q cp p x W hq S
  have hso := fun nd W S => ref5_stepOf al m cl f nd W hm hdi S
  have hbd := fun k j i hk hj => lost_bnd (W := Wd) (H := Hd) (o := o) (q := q) (p := p) (F := f) (k := k) (j := j) (i := i) hcB hU hk hj
  have hfull := lsK_len (W := Wd) (H := Hd) (o := o) (no := no) (q := q) (p := p) (F := f) (m := m) (far := farO f m) (B := B) m hcB
  have hfl : (lsK Wd Hd o no q p f m (farO f m) m).length ≤ 1000000 := by omega
  have hfar0 := farO_nonneg f m
  have hfar1 : farO f m ≤ 1000000 := farO_le (by omega) fun k hk => (hstb k hk).2
  have HBD := hid hbd; have HST := hid hstb; have HFL := hid hfl
  clear hv hsb hpb hoo hob hnn hV HW hb hdi hbd hstb hfull hfl hcB hU
  have X0 := Bx.new w #[.int .i64 (Wd : Int), .int .i64 (Hd : Int), .slice a n c] 24
  have hB0 : Below w.heap.size w (w.alloc (.cells #[.int .i64 (Wd : Int), .int .i64 (Hd : Int), .slice a n c] 24)) := by (repeat' (first | with_reducible assumption | with_reducible exact Below.refl _ _ | with_reducible refine Below.drew ?_ | with_reducible refine below_drewN ?_ _ | with_reducible refine balloc ?_ _ | with_reducible refine bset ?_ ?_ _ | with_reducible refine Below.setCell ?_ ?_ _ | with_reducible refine Below.alloc ?_ ?_ _ | omega | (simp; done) | (simp; omega)))
  go_enter Tryz.func14, Tryz.ntmps14
  go_wp2_with fail
  generalize (w.alloc (.cells #[.int .i64 (Wd : Int), .int .i64 (Hd : Int), .slice a n c] 24)) = W0 at X0 hB0 ⊢
  have z0 := X0.lt
  refine (hwh _ (H.below hB0) (HO.below hB0) (HS.below hB0) (HP.below hB0)).mono ?_
  rintro e w3 ⟨rfl, hb3⟩
  have X1 := X0.below hb3
  have hB3 := bvia hB0 hb3
  have hz3 := hB3.size
  have HS3 := HS.below hB3
  clear hwh hb3 X0 hB0
  go_wp2_with fail
  go_loop [11, 12] (fun t i => ∃ k : Nat, k ≤ m ∧ i = .int .i64 k ∧ t = .int .i64 (farO f k)) (fun _ i => m - (intOf i).toNat)
  case atStart => exact ⟨0, Nat.zero_le _, rfl, rfl⟩
  case round =>
    obtain ⟨k, hk, rfl, rfl⟩ := hrel
    by_cases hlt : k < m
    · obtain ⟨b1, o1, rfl, hb1, c0, c1, c2, c3, hl⟩ := HS3 k hlt
      have hf1 : farO f (k + 1) = max (farO f k) (f k).st := rfl
      have HF1 := hid hf1
      clear hf1 hl
      generalize farO f k = fa at *
      cases hs : decide (fa < (f k).st)
      · have hs' := of_decide_eq_false hs
        go_wp2
        go_round
        case rel => exact ⟨k + 1, by omega, by go_num, by rw [HF1.out, Int.max_eq_left (by omega)]⟩
        case measure => simp [intOf]; omega
      · have hs' := of_decide_eq_true hs
        go_wp2
        go_round
        case rel => exact ⟨k + 1, by omega, by go_num, by rw [HF1.out, Int.max_eq_right (by omega)]⟩
        case measure => simp [intOf]; omega
    · obtain rfl : k = m := (by omega)
      generalize hfa : farO f k = fa at *
      have HFA := hid hfa; clear hfa
      go_wp2
      go_loopw [13, 14] (fun v i wr => ∃ j : Nat, j ≤ k ∧ i = .int .i64 j ∧ OwnN wr w3.heap.size v (lsK Wd Hd o no q p f k fa j) ∧ Below w3.heap.size w3 wr) (fun _ i _ => k - (intOf i).toNat)
      case atStart => exact ⟨0, Nat.zero_le _, rfl, ownN_nil _ _, Below.refl _ _⟩
      case round =>
        obtain ⟨wo, rfl⟩ : ∃ wo : World, wo = wr := ⟨_, rfl⟩
        obtain ⟨j, hj, rfl, hown, hC⟩ := hrel
        have hB2 := bvia hB3 hC
        by_cases hlt2 : j < k
        · have hsk := fun W (hb : Below w.heap.size w W) => (HS.below hb) j hlt2
          obtain ⟨b1, o1, rfl, hb1, c0, c1, c2, c3, hl⟩ := hsk wo hB2
          obtain ⟨s0, s1⟩ := HST.out j hlt2
          have hbd := fun i r (hi : i < cntS fa (f j).st) => HBD.out j i r hlt2 hi
          have hk1 : lsK Wd Hd o no q p f k fa (j + 1) = lsK Wd Hd o no q p f k fa j ++ lsS Wd Hd o no q p f k (f j).nd (max 1 (f j).st) (cntS fa (f j).st) := rfl
          have HBD2 := hid hbd; have HK1 := hid hk1
          clear hbd hk1 hl
          have hcn : (cntS fa (f j).st : Int) = max 0 (fa + 1 - max 1 (f j).st) := by unfold cntS; omega
          have HCN := hid hcn; clear hcn
          generalize (f j).nd = nd at *
          generalize (f j).st = st at *
          generalize cntS fa st = cn at *
          generalize hKK : lsK Wd Hd o no q p f k fa j = LK at *
          have HKK := hid hKK; clear hKK
          go_wp2
          go_loopw [13, 15] (fun v s wr => ∃ (i : Nat) (sv : Int), s = .int .i64 sv ∧ i ≤ cn ∧ (sv = max 1 st + i ∨ (sv = 0 ∧ st = 0 ∧ i = 0)) ∧ OwnN wr w3.heap.size v (LK ++ lsS Wd Hd o no q p f k nd (max 1 st) i) ∧ Below w3.heap.size w3 wr) (fun _ s _ => (fa + 1 - intOf s).toNat)
          case atStart => exact ⟨0, st, rfl, Nat.zero_le _, by omega, by simpa [lsS] using hown, hC⟩
          case round =>
            obtain ⟨wp, rfl⟩ : ∃ wp : World, wp = wr := ⟨_, rfl⟩
            clear hown hC hB2 c0 c1 c2 c3 hb1
            obtain ⟨i, sv, rfl, hi2, hsv, hown, hC⟩ := hrel
            have hB2 := bvia hB3 hC
            have hcn := HCN.out
            by_cases hle : sv ≤ fa
            · by_cases hs1 : sv < 1
              · have h2 : sv = 0 ∧ st = 0 ∧ i = 0 := by omega
                obtain ⟨rfl, rfl, rfl⟩ := h2
                clear hcn hsv
                go_wp2
                go_roundw
                case rel => exact ⟨0, 1, rfl, Nat.zero_le _, by omega, hown, hC⟩
                case measure => simp [intOf]; omega
              · have hi3 : i < cn := by omega
                have hsv2 : sv = max 1 st + i := by omega
                have hS1 : lsS Wd Hd o no q p f k nd (max 1 st) (i + 1) = lsS Wd Hd o no q p f k nd (max 1 st) i ++ lsN Wd Hd o no q p f k nd sv := by rw [hsv2]; rfl
                have hbd2 := fun r => HBD2.out i r hi3
                rw [← hsv2] at hbd2
                have HSV2 := hid hsv2; have HS1 := hid hS1
                clear hsv2 hS1 hsv hcn
                generalize hLL : LK ++ lsS Wd Hd o no q p f k nd (max 1 st) i = LL at *
                have HLL := hid hLL; clear hLL
                obtain ⟨b2, o2, e2, hb2, k0, k1, k2, k3, _⟩ := hsk wp hB2
                injection e2 with e2; injection e2 with e21 e22 _
                subst e21 e22
                have hdu2 := fun W S => hdu nd sv W S
                have hlT := fun r (hr : r < (dueL Wd Hd o nd sv no).length) => lsT_succ (W := Wd) (H := Hd) (o := o) (q := q) (p := p) (F := f) (m := k) hr
                have hlA := lsT_all (W := Wd) (H := Hd) (o := o) (no := no) (q := q) (p := p) (F := f) (m := k) (nd := nd) (st := sv)
                have HLT := hid hlT; have HLA := hid hlA
                clear hlT hlA
                have hdl := dueL_length Wd Hd o nd sv no
                generalize hDD : dueL Wd Hd o nd sv no = D at *
                have X9 := X1.below hC
                have r0 : ∀ Y, Below wp.heap.size wp Y → Y.cell? ⟨w.heap.size, 0, none⟩ = some (.int .i64 (Wd : Int)) := fun Y h => (X9.below h).at_ 0 rfl
                have r1 : ∀ Y, Below wp.heap.size wp Y → Y.cell? ⟨w.heap.size, 1, none⟩ = some (.int .i64 (Hd : Int)) := fun Y h => (X9.below h).at_ 1 rfl
                have r2 : ∀ Y, Below wp.heap.size wp Y → Y.cell? ⟨w.heap.size, 2, none⟩ = some (.slice a n c) := fun Y h => (X9.below h).at_ 2 rfl
                have r3 : ∀ Y, Below wp.heap.size wp Y → Y.cell? ⟨b1, o1 + j * 4, none⟩ = some (.int .i64 nd) := fun Y h => (bcell h _ _ hb2).trans k0
                clear k0 k1 k2 k3 X9
                go_wp2_with fail
                refine wp_region_S (fun Y => Below wp.heap.size wp Y) 10 (by kernel_rfl) ?_
                refine anyS_take (i := 0) rfl (by kernel_rfl) (fun _ _ _ h => h) (Or.inl ⟨by rfl, fun Y hYb => (by (try dsimp only at hYb); go_simp; rfl)⟩) (by repeat' (first | with_reducible assumption | with_reducible exact Below.refl _ _ | with_reducible refine Below.drew ?_ | with_reducible refine below_drewN ?_ _)) ?_
                simp only [List.getElem_toArray, List.getElem_cons_succ, List.getElem_cons_zero, Act.put, List.setIfInBounds_toArray, List.set_cons_zero, List.set_cons_succ]
                refine anyS_take (i := 1) rfl (by kernel_rfl) (fun _ _ _ h => h) (Or.inl ⟨by rfl, fun Y hYb => (by (try dsimp only at hYb); go_simp; rfl)⟩) (by repeat' (first | with_reducible assumption | with_reducible exact Below.refl _ _ | with_reducible refine Below.drew ?_ | with_reducible refine below_drewN ?_ _)) ?_
                simp only [List.getElem_toArray, List.getElem_cons_succ, List.getElem_cons_zero, Act.put, List.setIfInBounds_toArray, List.set_cons_zero, List.set_cons_succ]
                refine anyS_take (i := 2) rfl (by kernel_rfl) (fun _ _ _ h => h) (Or.inl ⟨by rfl, fun Y hYb => (by (try dsimp only at hYb); go_simp; rfl)⟩) (by repeat' (first | with_reducible assumption | with_reducible exact Below.refl _ _ | with_reducible refine Below.drew ?_ | with_reducible refine below_drewN ?_ _)) ?_
                simp only [List.getElem_toArray, List.getElem_cons_succ, List.getElem_cons_zero, Act.put, List.setIfInBounds_toArray, List.set_cons_zero, List.set_cons_succ]
                refine anyS_take (i := 3) rfl (by kernel_rfl) (fun _ _ _ h => h) (Or.inl ⟨by rfl, fun Y hYb => (by (try dsimp only at hYb); go_simp; rfl)⟩) (by repeat' (first | with_reducible assumption | with_reducible exact Below.refl _ _ | with_reducible refine Below.drew ?_ | with_reducible refine below_drewN ?_ _)) ?_
                simp only [List.getElem_toArray, List.getElem_cons_succ, List.getElem_cons_zero, Act.put, List.setIfInBounds_toArray, List.set_cons_zero, List.set_cons_succ]
                refine anyS_take (i := 4) rfl (by kernel_rfl) (fun _ _ _ h => h) (Or.inl ⟨by rfl, fun Y hYb => (by (try dsimp only at hYb); go_simp; rfl)⟩) (by repeat' (first | with_reducible assumption | with_reducible exact Below.refl _ _ | with_reducible refine Below.drew ?_ | with_reducible refine below_drewN ?_ _)) ?_
                simp only [List.getElem_toArray, List.getElem_cons_succ, List.getElem_cons_zero, Act.put, List.setIfInBounds_toArray, List.set_cons_zero, List.set_cons_succ]
                refine anyS_take (i := 5) rfl (by kernel_rfl) (fun _ _ _ h => h) (Or.inl ⟨by rfl, fun Y hYb => (by (try dsimp only at hYb); go_simp; rfl)⟩) (by repeat' (first | with_reducible assumption | with_reducible exact Below.refl _ _ | with_reducible refine Below.drew ?_ | with_reducible refine below_drewN ?_ _)) ?_
                simp only [List.getElem_toArray, List.getElem_cons_succ, List.getElem_cons_zero, Act.put, List.setIfInBounds_toArray, List.set_cons_zero, List.set_cons_succ]
                refine anyS_take (i := 6) rfl (by kernel_rfl) (fun _ _ _ h => h) (Or.inl ⟨by rfl, fun Y hYb => (by (try dsimp only at hYb); go_simp; rfl)⟩) (by repeat' (first | with_reducible assumption | with_reducible exact Below.refl _ _ | with_reducible refine Below.drew ?_ | with_reducible refine below_drewN ?_ _)) ?_
                simp only [List.getElem_toArray, List.getElem_cons_succ, List.getElem_cons_zero, Act.put, List.setIfInBounds_toArray, List.set_cons_zero, List.set_cons_succ]
                refine anyS_take (i := 7) rfl (by kernel_rfl) (fun _ _ _ h => h) (Or.inl ⟨by rfl, fun Y hYb => (by (try dsimp only at hYb); go_simp; rfl)⟩) (by repeat' (first | with_reducible assumption | with_reducible exact Below.refl _ _ | with_reducible refine Below.drew ?_ | with_reducible refine below_drewN ?_ _)) ?_
                simp only [List.getElem_toArray, List.getElem_cons_succ, List.getElem_cons_zero, Act.put, List.setIfInBounds_toArray, List.set_cons_zero, List.set_cons_succ]
                refine anyS_one (i := 8) (by kernel_rfl) rfl (by rfl) (fun K hK => ?_)
                go_simp
                refine (hdu2 _ ((HO.below hB2).below (by (repeat' (first | with_reducible assumption | with_reducible exact Below.refl _ _ | with_reducible refine Below.drew ?_ | with_reducible refine below_drewN ?_ _ | with_reducible refine balloc ?_ _ | with_reducible refine bset ?_ ?_ _ | with_reducible refine Below.setCell ?_ ?_ _ | with_reducible refine Below.alloc ?_ ?_ _ | omega | (simp; done) | (simp; omega)))))).mono ?_
                rintro e w5 ⟨vn, rfl, ON, hb5⟩
                dsimp only
                have hS5 : Below wp.heap.size wp w5 := bvia (by (repeat' (first | with_reducible assumption | with_reducible exact Below.refl _ _ | with_reducible refine Below.drew ?_ | with_reducible refine below_drewN ?_ _ | with_reducible refine balloc ?_ _ | with_reducible refine bset ?_ ?_ _ | with_reducible refine Below.setCell ?_ ?_ _ | with_reducible refine Below.alloc ?_ ?_ _ | omega | (simp; done) | (simp; omega)))) hb5
                refine hK _ _ (fun _ _ => hS5) ?_
                clear hK K hdu2
                refine anyS_take (i := 9) rfl (by kernel_rfl) (fun _ _ _ h => h) (Or.inl ⟨by rfl, fun Y hYb => (by (try dsimp only at hYb); go_simp; rfl)⟩) (by repeat' (first | with_reducible assumption | with_reducible exact Below.refl _ _ | with_reducible refine Below.drew ?_ | with_reducible refine below_drewN ?_ _)) ?_
                simp only [List.getElem_toArray, List.getElem_cons_succ, List.getElem_cons_zero, Act.put, List.setIfInBounds_toArray, List.set_cons_zero, List.set_cons_succ]
                refine anyS_done (by kernel_rfl) ?_ _
                clear r0 r1 r2 r3
                have hown5 := own_below hown hS5
                have hC5 := bvia hC hS5
                have hdis := own_dis hown ON (Nat.le_refl _)
                obtain ⟨pn, cnn, rfl, _⟩ := listR_of_own ON
                have ON5 : OwnN w5 w3.heap.size _ D := own_mono ON (by have := hC.size; simpa using this)
                clear hb5 hown hS5 hC ON hB2 hb2
                go_wp2
                go_loopw [13, 17] (fun v r wr => ∃ r' : Nat, r' ≤ D.length ∧ r = .int .i64 r' ∧ OwnN wr w3.heap.size v (LL ++ lsT Wd Hd o no q p f k nd sv r') ∧ OwnN wr w3.heap.size (.slice pn D.length cnn) D ∧ (∀ g, (Value.slice pn D.length cnn).ownBlock = some g → v.ownBlock ≠ some g) ∧ Below w3.heap.size w3 wr) (fun _ r _ => D.length - (intOf r).toNat)
                case atStart => exact ⟨0, Nat.zero_le _, rfl, by rw [lsT_zero, List.append_nil]; exact hown5, ON5, hdis, hC5⟩
                case round =>
                  clear hown5 ON5 hdis hC5
                  obtain ⟨r', hr, rfl, hown, ON, hdis, hC⟩ := hrel
                  have hB2 := bvia hB3 hC
                  have hsz := hC.size
                  by_cases hlt4 : r' < D.length
                  · obtain ⟨b2, o2, rfl, hb2, k0, k1, k2, k3, k4, k5⟩ := (own_listR ON).2.2.six hlt4
                    have hlt := HLT.out r' hlt4
                    have hbl := hbd2 r'
                    have hHS := HS.below hB2
                    have hso2 := fun nd => hso nd wr hHS
                    have hfi2 := fun x => hfi x wr (HP.below hB2)
                    have HT := hid hlt
                    clear hlt hHS
                    generalize hTT : lsT Wd Hd o no q p f k nd sv r' = TT at *
                    have HTT := hid hTT; clear hTT
                    rw [List.length_append] at hbl
                    generalize D.getD r' N6.zero = x at *
                    have hlb : lsB q p f k sv x = (decide (sv ≤ gonV f k x.fr) && !metB p x q) := rfl
                    have HLB := hid hlb; clear hlb
                    have hso3 := hso2 x.fr
                    have hfi3 := hfi2 x
                    clear hso2 hfi2
                    generalize gonV f k x.fr = G at *
                    cases hg : decide (sv ≤ G)
                    · clear hfi3
                      have hlF : lsB q p f k sv x = false := by rw [HLB.out, hg]; rfl
                      have HLF := hid hlF; clear hlF
                      go_wp2_with (go_at_call 43; refine hso3.mono ?_; rintro e w' ⟨rfl, rfl⟩)
                      go_roundw
                      case rel => exact ⟨r' + 1, by omega, by go_num, by rw [HT.out, HLF.out]; exact hown, ON, hdis, hC⟩
                      case measure => simp [intOf]; omega
                    · cases hmt : metB p x q
                      · have hlF : lsB q p f k sv x = true := by rw [HLB.out, hg, hmt]; rfl
                        have HLF := hid hlF; clear hlF
                        go_wp2_with (first | (go_at_call 43; refine hso3.mono ?_; rintro e w' ⟨rfl, rfl⟩) | (go_at_call 44; refine hfi3.mono ?_; rintro e w7 ⟨fi, rfl, hfp, hb7⟩; have hsg := hfp.sign; rw [hmt] at hsg; have c0 := (bcell hb7 _ _ hb2).trans k0; have c1 := (bcell hb7 _ _ hb2).trans k1; have c2 := (bcell hb7 _ _ hb2).trans k2; have c3 := (bcell hb7 _ _ hb2).trans k3; have c4 := (bcell hb7 _ _ hb2).trans k4; have c5 := (bcell hb7 _ _ hb2).trans k5; have hown7 := own_below hown hb7; have ON7 := own_below ON hb7; have hsz7 := hb7.size; have lb7 : b2 < w7.heap.size := (by omega); clear hfp) | (at_builtin; refine wpList_append_own_at _ rfl _ _ 29 rfl w3.heap.size 80 i0 _ 6 48 Tryz.underlying29 hi hz0 hz1 hz2 rfl (by decide) _ _ _ rfl (World.ownsRow.alloc hown7 _) ⟨w7.heap.size, 0, none⟩ 1 1 (N6.list x) rfl rfl (cells_new _ _ _) (n6_one _) (by (try simp [maxLen]); omega) (by (try simp); omega) (by (try simp); omega) ?_; intro v' w9 hown' hgrow _ hat))
                        go_roundw
                        case rel => exact ⟨r' + 1, by omega, by go_num, by rw [HT.out, HLF.out, if_pos rfl, ← List.append_assoc]; exact ownN_snoc hown', own_grown (World.ownsRow.alloc ON7 _) hgrow (fun g hg e => hdis g hg e.symm), own_dis_app ON7 hdis (by simp) hat, (balloc (bvia hC hb7) _).grown hgrow (by (try simp); omega) (own_base hown7)⟩
                        case measure => simp [intOf]; omega
                      · have hlF : lsB q p f k sv x = false := by rw [HLB.out, hg, hmt]; rfl
                        have HLF := hid hlF; clear hlF
                        go_wp2_with (first | (go_at_call 43; refine hso3.mono ?_; rintro e w' ⟨rfl, rfl⟩) | (go_at_call 44; refine hfi3.mono ?_; rintro e w7 ⟨fi, rfl, hfp, hb7⟩; have hsg := hfp.sign; rw [hmt] at hsg; clear hfp))
                        go_roundw
                        case rel => exact ⟨r' + 1, by omega, by go_num, by rw [HT.out, HLF.out]; exact own_below hown hb7, own_below ON hb7, hdis, bvia hC hb7⟩
                        case measure => simp [intOf]; omega
                  · obtain rfl : r' = D.length := (by omega)
                    go_wp2
                    go_roundw
                    case rel => exact ⟨i + 1, sv + 1, rfl, hi3, .inl (by rw [HSV2.out]; omega), by rw [HS1.out, ← List.append_assoc, HLL.out, ← HLA.out]; exact hown, hC⟩
                    case measure => simp [intOf]; omega
            · have hi4 : i = cn := by omega
              subst hi4
              clear hcn hsv
              go_wp2
              go_roundw
              case rel => exact ⟨j + 1, by omega, by go_num, by rw [HK1.out]; exact hown, hC⟩
              case measure => simp [intOf]; omega
        · obtain rfl : j = k := (by omega)
          have hfl := HFL.out
          obtain ⟨pa, ca, rfl, ⟨_, hca, SA⟩, hpn⟩ := listR_of_own2 hown
          have hso2 := ref5_Sorted pa _ ca _ wo hfl hca hpn SA
          rw [lstN_of] at hso2
          generalize lsK Wd Hd o no q p f j fa j = L at *
          clear hpn hfl
          go_wp2_with fail
          refine hso2.mono ?_
          rintro e w9 ⟨v, rfl, O9, hb9⟩
          go_wp2
          go_ret2
          exact notePost_own O9 rfl rfl (bvia hB2 hb9)
end Go.Proofs.YtcakccfhcgjofaaGreat
