/- The walk of the law NodeStuck. -/
import Derived.Test.YtcakccfhcgjofaaGreatNLostP
import Derived.Test.YtcakccfhcgjofaaGreatNLostW
import Derived.Test.YtcakccfhcgjofaaGreatNLight
import Derived.Test.YtcakccfhcgjofaaGreatSame
import Derived.Test.YtcakccfhcgjofaaGreatNAwake
namespace Go.Proofs.YtcakccfhcgjofaaGreat
open Go Go.RowKit
set_option linter.unusedVariables false
set_option linter.unusedSimpArgs false
/-- the least number of steps -/
def nearO (F : Nat → SiteR) : Nat → Int | 0 => 1000000 | k + 1 => min (nearO F k) (F k).st
theorem nearO_le (F : Nat → SiteR) : ∀ k, nearO F k ≤ 1000000
  | 0 => Int.le_refl _
  | k + 1 => by have := nearO_le F k; simp only [nearO]; omega
theorem nearO_at {F : Nat → SiteR} : ∀ {k j}, j < k → nearO F k ≤ (F j).st
  | 0, _, h => by omega
  | k + 1, j, h => by
    simp only [nearO]
    by_cases e : j = k
    · subst e; omega
    · have := nearO_at (F := F) (show j < k by omega); omega
def lightS (m : Nat) (f : Nat → SiteR) : Prop := ∀ j, j < m → 0 ≤ (f j).st ∧ farO f m ≤ (f j).st + 30
set_option maxRecDepth 100000 in
set_option maxHeartbeats 4000000 in
theorem law5_LightS (al ap : Option Addr) (m q cl cp : Nat) (f : Nat → SiteR) (w : World) (hm : m ≤ maxLen) (hq : q ≤ maxLen) (hn : ∀ k, k < m → (f k).ni ≤ maxLen ∧ (f k).nc ≤ maxLen) (HS : Ss w al m f) :
    Calls Tryz.prog 8 #[.agg #[.slice al m cl, .slice ap q cp]] w fun e w' => (∃ b : Bool, e = .returned (.bool b) ∧ (b = true → lightR m q f ∧ lightS m f)) ∧ Below w.heap.size w w' := by
  unfold maxLen at hm hq hn
  have I := HS.alloc (.cells #[.slice al m cl, .slice ap q cp] 31)
  have X := Bx.new w #[.slice al m cl, .slice ap q cp] 31
  have hB0 := below_alloc w (.cells #[.slice al m cl, .slice ap q cp] 31)
  cases h1 : decide ((12 : Int) < m)
  rotate_left
  · go_enter Tryz.func8, Tryz.ntmps8
    go_wp2
    go_ret
    exact ⟨⟨_, rfl, fun h => by cases h⟩, by (repeat' (first | with_reducible assumption | with_reducible exact Below.refl _ _ | with_reducible refine Below.drew ?_ | with_reducible refine below_drewN ?_ _ | with_reducible refine balloc ?_ _ | with_reducible refine bset ?_ ?_ _ | with_reducible refine Below.setCell ?_ ?_ _ | with_reducible refine Below.alloc ?_ ?_ _ | omega | (simp; done) | (simp; omega)))⟩
  cases h2 : decide ((400 : Int) < q)
  rotate_left
  · go_enter Tryz.func8, Tryz.ntmps8
    go_wp2
    go_ret
    exact ⟨⟨_, rfl, fun h => by cases h⟩, by (repeat' (first | with_reducible assumption | with_reducible exact Below.refl _ _ | with_reducible refine Below.drew ?_ | with_reducible refine below_drewN ?_ _ | with_reducible refine balloc ?_ _ | with_reducible refine bset ?_ ?_ _ | with_reducible refine Below.setCell ?_ ?_ _ | with_reducible refine Below.alloc ?_ ?_ _ | omega | (simp; done) | (simp; omega)))⟩
  have k1 : m ≤ 12 := by have := of_decide_eq_false h1; omega
  have k2 : q ≤ 400 := by have := of_decide_eq_false h2; omega
  have HK2 := hid k2; clear k2
  go_enter Tryz.func8, Tryz.ntmps8
  go_wp2
  clear h1 h2
  go_loopw [3, 4, 5] (fun x y i wr => ∃ k : Nat, k ≤ m ∧ i = .int .i64 k ∧ x = .int .i64 (farO f k) ∧ y = .int .i64 (nearO f k) ∧ (∀ j, j < k → (f j).ni ≤ 300 ∧ (f j).nc ≤ 300) ∧ Bx wr w.heap.size #[.slice al m cl, .slice ap q cp] ∧ Below w.heap.size w wr ∧ Ss wr al m f) (fun _ _ i _ => m - (intOf i).toNat)
  case atStart => exact ⟨0, Nat.zero_le _, rfl, rfl, rfl, fun j hj => by omega, X, hB0, I⟩
  case round =>
    obtain ⟨k, hk, rfl, rfl, rfl, hok, hX, hB, hS⟩ := hrel
    have HOK := hid hok; clear hok
    by_cases hlt : k < m
    · obtain ⟨b1, o1, rfl, hb1, c0, c1, c2, c3, c4⟩ := hS k hlt
      have hnk := hn k hlt
      have hfa : farO f (k + 1) = max (farO f k) (f k).st := rfl
      have hna : nearO f (k + 1) = min (nearO f k) (f k).st := rfl
      have HFA := hid hfa; have HNA := hid hna
      clear hfa hna
      generalize farO f k = fa at *
      generalize nearO f k = na at *
      have x0 := hX.at_ 0 rfl; have x1 := hX.at_ 1 rfl; have lx := hX.lt
      cases h1 : decide ((300 : Int) < (f k).ni)
      rotate_left
      · go_wp2
        go_ret
        exact ⟨⟨_, rfl, fun h => by cases h⟩, by (repeat' (first | with_reducible assumption | with_reducible exact Below.refl _ _ | with_reducible refine Below.drew ?_ | with_reducible refine below_drewN ?_ _ | with_reducible refine balloc ?_ _ | with_reducible refine bset ?_ ?_ _ | with_reducible refine Below.setCell ?_ ?_ _ | with_reducible refine Below.alloc ?_ ?_ _ | omega | (simp; done) | (simp; omega)))⟩
      cases h2 : decide ((300 : Int) < (f k).nc)
      rotate_left
      · go_wp2
        go_ret
        exact ⟨⟨_, rfl, fun h => by cases h⟩, by (repeat' (first | with_reducible assumption | with_reducible exact Below.refl _ _ | with_reducible refine Below.drew ?_ | with_reducible refine below_drewN ?_ _ | with_reducible refine balloc ?_ _ | with_reducible refine bset ?_ ?_ _ | with_reducible refine Below.setCell ?_ ?_ _ | with_reducible refine Below.alloc ?_ ?_ _ | omega | (simp; done) | (simp; omega)))⟩
      have k1 : (f k).ni ≤ 300 := by have := of_decide_eq_false h1; omega
      have k2 : (f k).nc ≤ 300 := by have := of_decide_eq_false h2; omega
      have HK := hid (And.intro k1 k2)
      clear k1 k2
      go_wp2_with fail
      go_quiet (fail)
      go_wp2
      go_roundw
      case rel => exact ⟨k + 1, by omega, by go_num, by rw [HFA.out], by rw [HNA.out], fun j hj => by
          rcases Nat.lt_succ_iff_lt_or_eq.1 hj with h' | rfl
          · exact HOK.out j h'
          · exact HK.out, hX.below (by (repeat' (first | with_reducible assumption | with_reducible exact Below.refl _ _ | with_reducible refine Below.drew ?_ | with_reducible refine below_drewN ?_ _ | with_reducible refine balloc ?_ _ | with_reducible refine bset ?_ ?_ _ | with_reducible refine Below.setCell ?_ ?_ _ | with_reducible refine Below.alloc ?_ ?_ _ | omega | (simp; done) | (simp; omega)))), by (repeat' (first | with_reducible assumption | with_reducible exact Below.refl _ _ | with_reducible refine Below.drew ?_ | with_reducible refine below_drewN ?_ _ | with_reducible refine balloc ?_ _ | with_reducible refine bset ?_ ?_ _ | with_reducible refine Below.setCell ?_ ?_ _ | with_reducible refine Below.alloc ?_ ?_ _ | omega | (simp; done) | (simp; omega))), hS.below (by (repeat' (first | with_reducible assumption | with_reducible exact Below.refl _ _ | with_reducible refine Below.drew ?_ | with_reducible refine below_drewN ?_ _ | with_reducible refine balloc ?_ _ | with_reducible refine bset ?_ ?_ _ | with_reducible refine Below.setCell ?_ ?_ _ | with_reducible refine Below.alloc ?_ ?_ _ | omega | (simp; done) | (simp; omega))))⟩
      case measure => simp [intOf]; omega
    · obtain rfl : k = m := (by omega)
      have x0 := hX.at_ 0 rfl; have x1 := hX.at_ 1 rfl; have lx := hX.lt
      have hnl := nearO_le f k
      have hls : 0 ≤ nearO f k → farO f k ≤ nearO f k + 30 → lightS k f := fun h1 h2 j hj => by
        have := nearO_at (F := f) hj
        omega
      have HLS := hid hls; clear hls
      generalize farO f k = fa at *
      generalize nearO f k = na at *
      cases hy : decide ((0 : Int) ≤ na)
      · go_wp2
        go_ret
        exact ⟨⟨_, rfl, fun h => by cases h⟩, by (repeat' (first | with_reducible assumption | with_reducible exact Below.refl _ _ | with_reducible refine Below.drew ?_ | with_reducible refine below_drewN ?_ _ | with_reducible refine balloc ?_ _ | with_reducible refine bset ?_ ?_ _ | with_reducible refine Below.setCell ?_ ?_ _ | with_reducible refine Below.alloc ?_ ?_ _ | omega | (simp; done) | (simp; omega)))⟩
      · have hy' := of_decide_eq_true hy
        cases hx : decide (fa ≤ na + 30)
        · go_wp2
          go_ret
          exact ⟨⟨_, rfl, fun h => by cases h⟩, by (repeat' (first | with_reducible assumption | with_reducible exact Below.refl _ _ | with_reducible refine Below.drew ?_ | with_reducible refine below_drewN ?_ _ | with_reducible refine balloc ?_ _ | with_reducible refine bset ?_ ?_ _ | with_reducible refine Below.setCell ?_ ?_ _ | with_reducible refine Below.alloc ?_ ?_ _ | omega | (simp; done) | (simp; omega)))⟩
        · have hls := HLS.out hy' (of_decide_eq_true hx)
          have HL := hid hls; clear hls
          go_wp2
          go_ret
          exact ⟨⟨_, rfl, fun _ => ⟨⟨k1, HK2.out, HOK.out⟩, HL.out⟩⟩, by (repeat' (first | with_reducible assumption | with_reducible exact Below.refl _ _ | with_reducible refine Below.drew ?_ | with_reducible refine below_drewN ?_ _ | with_reducible refine balloc ?_ _ | with_reducible refine bset ?_ ?_ _ | with_reducible refine Below.setCell ?_ ?_ _ | with_reducible refine Below.alloc ?_ ?_ _ | omega | (simp; done) | (simp; omega)))⟩
theorem node_of_cell {o : Nat → Int} {no m : Nat} {f : Nat → SiteR} (hs : sitesB o no m f = true) (hob : ∀ k, k < no → 0 ≤ o k ∧ o k ≤ 7) {k : Nat} (hk : k < no) : ∃ j, j < m ∧ (f j).nd = o k := by
  obtain ⟨h1, h2, _⟩ := sitesB_iff.1 hs
  have hb := hob k hk
  have hm : o k ∈ nodeL o no 8 := nodeL_mem.2 ⟨(o k).toNat, by omega, by omega, by
    rw [Ne, ownL_nil]; intro h; exact h k hk (by omega)⟩
  obtain ⟨j, hj, e⟩ := List.mem_iff_getElem.1 hm
  refine ⟨j, by omega, ?_⟩
  rw [h2 j (by omega), List.getD_eq_getElem?_getD, List.getElem?_eq_getElem hj]
  exact e
/-- what the law says of the answers -/
theorem stuck_plain {wide high : Int} {n no m q : Nat} {g : Nat → C4} {o : Nat → Int} {f : Nat → SiteR} {p : Nat → N6} {z : Int} {V R : Bool} (hV : wholeB wide high n g no o m f q p = V) (e : stuE V R (stkL f z m) (stkF (fun s => readyB wide.toNat high.toNat o no q p s.nd s.st) f z m) = 0) :
    V = true ∧ 0 < (lostX V (lsK wide.toNat high.toNat o no q p f m (farO f m) m)).length := by
  unfold stuE at e
  cases V
  · simp at e
  cases R
  · simp at e
  simp only [Bool.true_eq_false, if_false] at e
  by_cases hL : stkL f z m = []
  · rw [if_pos hL] at e; omega
  rw [if_neg hL] at e
  cases hF : stkF (fun s => readyB wide.toNat high.toNat o no q p s.nd s.st) f z m
  · refine ⟨rfl, ?_⟩
    obtain ⟨hv, hsb, hpb⟩ := wholeB_iff.1 hV
    obtain ⟨Wd, Hd, rfl, rfl, p1, p2, u1, u2, hnn, hn4, hoo, hob, _, _⟩ := validM_sides hv
    simp only [Int.toNat_natCast] at *
    have h := stuck_lost (W := Wd) (H := Hd) (o := o) (no := no) (q := q) (p := p) (F := f) (m := m) (n := z) (by omega) hsb (fun k hk => node_of_cell hsb (fun k hk => hob k (by omega)) (by omega)) (fun k hk => by
      obtain ⟨hw, _⟩ := siteB_iff.1 ((sitesB_iff.1 hsb).2.2.1 k hk)
      have hw' : 0 ≤ (f k).st ∧ (f k).st ≤ 1000000 := by simpa [within] using hw
      exact hw'.1) hL hF
    unfold lostX
    rw [if_pos rfl, sortN_length]
    exact List.length_pos_iff.2 h
  · rw [hF] at e; simp at e
theorem sameL_self (n : Nat) (f : Nat → Int) : sameL n f n f = true := sameL_iff.2 ⟨rfl, fun _ _ => rfl⟩
set_option maxRecDepth 100000 in
set_option maxHeartbeats 20000000 in
theorem walk_stuck (wide high : Int) (a ao al ap : Option Addr) (n no m q c co cl cp : Nat) (g : Nat → C4) (o : Nat → Int) (f : Nat → SiteR) (p : Nat → N6) (z : Int) (w : World) (hn : n ≤ maxLen) (hno : no ≤ maxLen) (hm : m ≤ maxLen) (hq : q ≤ maxLen) (hf : ∀ k, k < m → (f k).ni ≤ maxLen ∧ (f k).nc ≤ maxLen) (H : Sc w a n g) (HO : Sl w ao no o) (HS : Ss w al m f) (HP : Sn w ap q p) (HW : ∀ k, k < q → wfN (p k)) :
    Calls Tryz.prog 3 #[.agg #[.int .i64 wide, .int .i64 high, .slice a n c, .slice ao no co], .agg #[.slice al m cl, .slice ap q cp], .int .i64 z] w fun e w' => e = .returned (.bool true) ∧ Below w.heap.size w w' := by
  have hsm := fun W => law5_Small wide high 100 a ao n no c co W
  have hlt := fun W S => law5_LightS al ap m q cl cp f W hm hq hf S
  unfold maxLen at hn hno hm hq hf
  have X0 := (Bx.new w #[.int .i64 wide, .int .i64 high, .slice a n c, .slice ao no co] 27).alloc (.cells #[.slice al m cl, .slice ap q cp] 31)
  have X1 := Bx.new (w.alloc (.cells #[.int .i64 wide, .int .i64 high, .slice a n c, .slice ao no co] 27)) #[.slice al m cl, .slice ap q cp] 31
  simp only [World.size_alloc] at X1
  have hB0 : Below w.heap.size w ((w.alloc (.cells #[.int .i64 wide, .int .i64 high, .slice a n c, .slice ao no co] 27)).alloc (.cells #[.slice al m cl, .slice ap q cp] 31)) := by (repeat' (first | with_reducible assumption | with_reducible exact Below.refl _ _ | with_reducible refine Below.drew ?_ | with_reducible refine below_drewN ?_ _ | with_reducible refine balloc ?_ _ | with_reducible refine bset ?_ ?_ _ | with_reducible refine Below.setCell ?_ ?_ _ | with_reducible refine Below.alloc ?_ ?_ _ | omega | (simp; done) | (simp; omega)))
  cases hs : smallL n no 100
  · rw [hs] at hsm
    clear hlt
    go_enter Tryz.func3, Tryz.ntmps3
    go_wp2_with fail
    generalize ((w.alloc (.cells #[.int .i64 wide, .int .i64 high, .slice a n c, .slice ao no co] 27)).alloc (.cells #[.slice al m cl, .slice ap q cp] 31)) = W0 at X0 X1 hB0 ⊢
    have z0 := X0.lt
    have z1 := X1.lt
    refine (hsm _).mono ?_
    rintro e w1 ⟨rfl, hb1⟩
    go_wp2_with fail
    refine (awake_node _).mono ?_
    rintro e w2 ⟨rfl, hb2⟩
    go_wp2
    go_ret
    exact ⟨rfl, bvia (bvia hB0 hb1) hb2⟩
  obtain ⟨s1, s2⟩ := smallL_iff.1 hs
  rw [hs] at hsm
  clear hs
  go_enter Tryz.func3, Tryz.ntmps3
  go_wp2_with fail
  generalize ((w.alloc (.cells #[.int .i64 wide, .int .i64 high, .slice a n c, .slice ao no co] 27)).alloc (.cells #[.slice al m cl, .slice ap q cp] 31)) = W0 at X0 X1 hB0 ⊢
  have z0 := X0.lt
  have z1 := X1.lt
  refine (hsm _).mono ?_
  rintro e w1 ⟨rfl, hb1⟩
  replace X0 := X0.below hb1; replace X1 := X1.below hb1
  replace hB0 := bvia hB0 hb1
  clear hsm hb1
  have x0 := X0.at_ 0 rfl; have x1 := X0.at_ 1 rfl; have x2 := X0.at_ 2 rfl; have x3 := X0.at_ 3 rfl; have lx := X0.lt
  have y0 := X1.at_ 0 rfl; have y1 := X1.at_ 1 rfl; have ly := X1.lt
  go_wp2_with fail
  refine (hlt _ (HS.below hB0)).mono ?_
  rintro e w2 ⟨⟨b, rfl, hb⟩, hb2⟩
  cases b
  · go_wp2_with fail
    refine (awake_node _).mono ?_
    rintro e w3 ⟨rfl, hb3⟩
    go_wp2
    go_ret
    exact ⟨rfl, bvia (bvia hB0 hb2) hb3⟩
  obtain ⟨⟨m1, m2, m3⟩, m4⟩ := hb rfl
  replace X0 := X0.below hb2; replace X1 := X1.below hb2
  replace hB0 := bvia hB0 hb2
  clear x0 x1 x2 x3 lx y0 y1 ly
  clear hlt hb2 hb hf
  have hcB : ∀ k, k < m → cntS (farO f m) (f k).st ≤ 31 := fun k hk => by
    obtain ⟨h1, h2⟩ := m4 k hk
    unfold cntS; omega
  have hU : m * (31 * (4 * no)) ≤ 1000000 := by
    have h1 : m * (31 * (4 * no)) ≤ 12 * (31 * (4 * no)) := Nat.mul_le_mul_right _ m1
    omega
  have hP := fun W S SO SS SP => node_Stuck wide high a ao al ap n no m q c co cl cp g o f p z W (by omega) (by omega) (by omega) (by omega) (fun k hk => by have := m3 k hk; omega) S SO SS SP HW
  have hR := fun W S SO SS SP => ref5_Stuck wide high a ao al ap n no m q c co cl cp g o f p z W (by omega) (by omega) (by omega) (by omega) (fun k hk => by have := m3 k hk; omega) S SO SS SP HW
  have hPL := fun W S SO SS SP => node_Lost wide high a ao al ap n no m q c co cl cp 31 g o f p W (by omega) (by omega) (by omega) (by omega) (fun k hk => by have := m3 k hk; omega) hcB hU S SO SS SP HW
  have hRL := fun W S SO SS SP => ref5_Lost wide high a ao al ap n no m q c co cl cp 31 g o f p W (by omega) (by omega) (by omega) (by omega) (fun k hk => by have := m3 k hk; omega) hcB hU S SO SS SP HW
  have hLl := lsK_len (W := wide.toNat) (H := high.toNat) (o := o) (no := no) (q := q) (p := p) (F := f) (m := m) (far := farO f m) (B := 31) m hcB
  have hSl := stkL_len f z m
  obtain ⟨V, hV⟩ : ∃ V, wholeB wide high n g no o m f q p = V := ⟨_, rfl⟩
  have hpl := fun R => stuck_plain (z := z) (R := R) hV
  have hsu : (stuL V (within z 0 1000000) (stkL f z m) (stkF (fun s => readyB wide.toNat high.toNat o no q p s.nd s.st) f z m)).length ≤ 1000 := by
    unfold stuL; repeat' split
    all_goals first | (simp; done) | omega
  have hlo : (lostX V (lsK wide.toNat high.toNat o no q p f m (farO f m) m)).length ≤ 1000000 := by
    unfold lostX; split
    · rw [sortN_length]; omega
    · simp
  have hpl2 := hpl (within z 0 1000000)
  rw [hV] at hP hR hPL hRL
  clear hV hpl hLl hSl hcB hU m3 m4 HW
  generalize stuE V (within z 0 1000000) (stkL f z m) (stkF (fun s => readyB wide.toNat high.toNat o no q p s.nd s.st) f z m) = E at *
  generalize stuL V (within z 0 1000000) (stkL f z m) (stkF (fun s => readyB wide.toNat high.toNat o no q p s.nd s.st) f z m) = SL at *
  generalize lostX V (lsK wide.toNat high.toNat o no q p f m (farO f m) m) = LL at *
  have herr : V = true → errR V 1 = 0 := fun h => by rw [h]; rfl
  generalize errR V 1 = E2 at *
  have HPL2 := hid hpl2; have HERR := hid herr
  clear hpl2 herr
  have x0 := X0.at_ 0 rfl; have x1 := X0.at_ 1 rfl; have x2 := X0.at_ 2 rfl; have x3 := X0.at_ 3 rfl; have lx := X0.lt
  have y0 := X1.at_ 0 rfl; have y1 := X1.at_ 1 rfl; have ly := X1.lt
  go_wp2_with fail
  refine (hP _ (H.below hB0) (HO.below hB0) (HS.below hB0) (HP.below hB0)).mono ?_
  rintro e w3 ⟨a1, c1, rfl, S1, hb3⟩
  replace X0 := X0.below hb3; replace X1 := X1.below hb3
  replace hB0 := bvia hB0 hb3
  clear x0 x1 x2 x3 lx y0 y1 ly
  clear hP hb3
  have x0 := X0.at_ 0 rfl; have x1 := X0.at_ 1 rfl; have x2 := X0.at_ 2 rfl; have x3 := X0.at_ 3 rfl; have lx := X0.lt
  have y0 := X1.at_ 0 rfl; have y1 := X1.at_ 1 rfl; have ly := X1.lt
  go_wp2_with fail
  refine (hR _ (H.below hB0) (HO.below hB0) (HS.below hB0) (HP.below hB0)).mono ?_
  rintro e w4 ⟨a2, c2, rfl, S2, hb4⟩
  replace S1 := S1.below hb4
  replace X0 := X0.below hb4; replace X1 := X1.below hb4
  replace hB0 := bvia hB0 hb4
  clear x0 x1 x2 x3 lx y0 y1 ly
  clear hR hb4
  have hsi := ref1_sameInts a1 a2 SL.length SL.length c1 c2 _ _ w4 (by omega) (by omega) S1 S2
  rw [sameL_self] at hsi
  go_wp2_with fail
  refine hsi.mono ?_
  rintro e w5 ⟨rfl, hb5⟩
  replace X0 := X0.below hb5; replace X1 := X1.below hb5
  replace hB0 := bvia hB0 hb5
  clear hsi S1 S2 hb5
  have x0 := X0.at_ 0 rfl; have x1 := X0.at_ 1 rfl; have x2 := X0.at_ 2 rfl; have x3 := X0.at_ 3 rfl; have lx := X0.lt
  have y0 := X1.at_ 0 rfl; have y1 := X1.at_ 1 rfl; have ly := X1.lt
  go_wp2_with fail
  refine (hPL _ (H.below hB0) (HO.below hB0) (HS.below hB0) (HP.below hB0)).mono ?_
  rintro e w6 ⟨a3, c3, rfl, S3, hb6⟩
  replace X0 := X0.below hb6; replace X1 := X1.below hb6
  replace hB0 := bvia hB0 hb6
  clear x0 x1 x2 x3 lx y0 y1 ly
  clear hPL hb6
  have x0 := X0.at_ 0 rfl; have x1 := X0.at_ 1 rfl; have x2 := X0.at_ 2 rfl; have x3 := X0.at_ 3 rfl; have lx := X0.lt
  have y0 := X1.at_ 0 rfl; have y1 := X1.at_ 1 rfl; have ly := X1.lt
  go_wp2_with fail
  refine (hRL _ (H.below hB0) (HO.below hB0) (HS.below hB0) (HP.below hB0)).mono ?_
  rintro e w7 ⟨a4, c4, rfl, S4, hb7⟩
  replace S3 := S3.below hb7
  replace X0 := X0.below hb7; replace X1 := X1.below hb7
  replace hB0 := bvia hB0 hb7
  clear x0 x1 x2 x3 lx y0 y1 ly
  clear hRL hb7
  have hsn := ref5_SameNotes a3 a4 LL.length LL.length c3 c4 _ _ w7 (by omega) (by omega) S3 S4
  rw [sameN_self] at hsn
  go_wp2_with fail
  refine hsn.mono ?_
  rintro e w8 ⟨rfl, hb8⟩
  replace hB0 := bvia hB0 hb8
  clear hsn S3 S4 hb8 X0 X1
  cases hE : (E != 0)
  · have hE' : E = 0 := by simpa using hE
    obtain ⟨h1, h2⟩ := HPL2.out hE'
    obtain rfl : E2 = 0 := HERR.out h1
    clear h1 hE'
    go_wp2_with fail
    refine (awake_node _).mono ?_
    rintro e w9 ⟨rfl, hb9⟩
    go_wp2
    go_ret
    exact ⟨rfl, bvia hB0 hb9⟩
  · go_wp2_with fail
    refine (awake_node _).mono ?_
    rintro e w9 ⟨rfl, hb9⟩
    go_wp2
    go_ret
    exact ⟨rfl, bvia hB0 hb9⟩
end Go.Proofs.YtcakccfhcgjofaaGreat
