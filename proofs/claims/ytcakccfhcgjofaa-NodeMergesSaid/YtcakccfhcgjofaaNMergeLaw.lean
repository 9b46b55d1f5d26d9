/- Walks: Merge, of the reference; the law NodeMerges. -/
import Derived.Test.YtcakccfhcgjofaaNRefMerge
import Derived.Test.YtcakccfhcgjofaaNLight
import Derived.Test.YtcakccfhcgjofaaNAwake
import Derived.Test.YtcakccfhcgjofaaSameG
namespace Go.Proofs.Ytcakccfhcgjofaa
open Go Go.RowKit
set_option linter.unusedVariables false
set_option linter.unusedSimpArgs false
theorem mrgE_no (s r t l : Bool) : mrgE false s r t l = 1 := rfl
set_option maxRecDepth 100000 in
set_option maxHeartbeats 8000000 in
theorem ref5_Merge (wide high : Int) (a ao al ap : Option Addr) (n no m q c co cl cp : Nat) (g : Nat → C4) (o : Nat → Int) (f : Nat → SiteR) (p : Nat → N6) (w : World) (hn : n ≤ 100000000) (hno : no ≤ 100000000) (hm : m ≤ 1000) (hq : q ≤ 100000000) (hb : ∀ k, k < m → (f k).ni ≤ 10000 ∧ (f k).nc ≤ 10000) (H : Sc w a n g) (HO : Sl w ao no o) (HS : Ss w al m f) (HP : Sn w ap q p) (HW : ∀ k, k < q → wfN (p k)) :
    Calls Try.prog 29 #[.agg #[.int .i64 wide, .int .i64 high, .slice a n c], .slice ao no co, .slice al m cl, .slice ap q cp] w
      (GridPost (mrgE (wholeB wide high n g no o m f q p) (stepsB f m) (readyA wide.toNat high.toNat o no q p f m) (postS p q (f 0).st) (decide (massTo (addTo (layS f m) p q) n ≤ 1000000000)))
        (erZ (mrgE (wholeB wide high n g no o m f q p) (stepsB f m) (readyA wide.toNat high.toNat o no q p f m) (postS p q (f 0).st) (decide (massTo (addTo (layS f m) p q) n ≤ 1000000000))) wide)
        (erZ (mrgE (wholeB wide high n g no o m f q p) (stepsB f m) (readyA wide.toNat high.toNat o no q p f m) (postS p q (f 0).st) (decide (massTo (addTo (layS f m) p q) n ≤ 1000000000))) high)
        (erN (mrgE (wholeB wide high n g no o m f q p) (stepsB f m) (readyA wide.toNat high.toNat o no q p f m) (postS p q (f 0).st) (decide (massTo (addTo (layS f m) p q) n ≤ 1000000000))) n)
        (addTo (layS f m) p q) w) := by
  have hwh := fun W S SO SS SP => ref5_stateError wide high a ao al ap n no m q c co cl cp g o f p W hn hno hm hq hb S SO SS SP HW
  have X0 := (Bx.new w #[.int .i64 wide, .int .i64 high, .slice a n c] 24).alloc (.cells #[.int .i64 0, .int .i64 0, .slice none 0 0] 24)
  have X1 := Bx.new (w.alloc (.cells #[.int .i64 wide, .int .i64 high, .slice a n c] 24)) #[.int .i64 0, .int .i64 0, .slice none 0 0] 24
  simp only [World.size_alloc] at X1
  have hB0 : Below w.heap.size w ((w.alloc (.cells #[.int .i64 wide, .int .i64 high, .slice a n c] 24)).alloc (.cells #[.int .i64 0, .int .i64 0, .slice none 0 0] 24)) := by (repeat' (first | with_reducible assumption | with_reducible exact Below.refl _ _ | with_reducible refine Below.drew ?_ | with_reducible refine below_drewN ?_ _ | with_reducible refine balloc ?_ _ | with_reducible refine bset ?_ ?_ _ | with_reducible refine Below.setCell ?_ ?_ _ | with_reducible refine Below.alloc ?_ ?_ _ | omega | (simp; done) | (simp; omega)))
  cases hV : wholeB wide high n g no o m f q p
  · rw [hV] at hwh
    simp only [mrgE_no]
    clear hV HW hb
    go_enter Try.func29, Try.ntmps29
    go_wp2_with fail
    generalize ((w.alloc (.cells #[.int .i64 wide, .int .i64 high, .slice a n c] 24)).alloc (.cells #[.int .i64 0, .int .i64 0, .slice none 0 0] 24)) = W0 at X0 X1 hB0 ⊢
    have z0 := X0.lt
    have z1 := X1.lt
    refine (hwh _ (H.below hB0) (HO.below hB0) (HS.below hB0) (HP.below hB0)).mono ?_
    rintro e w1 ⟨rfl, hb1⟩
    replace X1 := X1.below hb1
    have hB := bvia hB0 hb1
    have y0 := X1.at_ 0 rfl; have y1 := X1.at_ 1 rfl; have y2 := X1.at_ 2 rfl; have yf := X1.free; have yl := X1.lt
    have e1 : errR false 1 = 1 := rfl
    rw [e1]
    go_wp2_with fail
    refine bodyPost_ret (v := .tuple #[.agg #[.int .i64 0, .int .i64 0, .slice none 0 0], .int .i64 1]) (by simp [results, Try.results29, go_sem, y0, y1, y2]) rfl (gridPost_none (by decide) (by (repeat' (first | with_reducible assumption | with_reducible exact Below.refl _ _ | with_reducible refine Below.drew ?_ | with_reducible refine below_drewN ?_ _ | with_reducible refine balloc ?_ _ | with_reducible refine bset ?_ ?_ _ | with_reducible refine Below.setCell ?_ ?_ _ | with_reducible refine Below.alloc ?_ ?_ _ | omega | (simp; done) | (simp; omega)))))
  rw [hV] at hwh
  obtain ⟨hv, hsb, hpb⟩ := wholeB_iff.1 hV
  have hmp := sites_some hv hsb
  obtain ⟨Wd, Hd, rfl, rfl, p1, p2, u1, u2, hnn, hn4, hoo, hob, _, _⟩ := validM_sides hv
  simp only [Int.toNat_natCast] at *
  subst hoo
  have hMg := fun W SO SS SP => ref5_merge Wd Hd a ao al ap no no m q c co cl cp o f p W ⟨p1, p2⟩ ⟨u1, u2⟩ (by omega) hmp hm (postB_iff.1 hpb).1 (fun k hk => by have := hb k hk; omega) (fun k (hk : k < m) => site_fit ((sitesB_iff.1 hsb).2.2.1 k hk)) (post_fit hpb) (sitesB_iff.1 hsb).2.2.2 SO SS SP
  generalize mrgE true (stepsB f m) (readyA Wd Hd o no q p f m) (postS p q (f 0).st) (decide (massTo (addTo (layS f m) p q) no ≤ 1000000000)) = E at *
  generalize addTo (layS f m) p q = G at *
  have hvi : ∀ (W : World) e w', w.heap.size ≤ W.heap.size → Below w.heap.size w W → GridPost E (erZ E (Wd : Int)) (erZ E (Hd : Int)) (erN E no) G W e w' → GridPost E (erZ E (Wd : Int)) (erZ E (Hd : Int)) (erN E no) G w e w' := fun W e w' hs hb ⟨a, c, h1, h2, h3, h4⟩ => ⟨a, c, h1, h2, fun b off h => Nat.le_trans hs (h3 b off h), bvia hb h4⟩
  generalize erZ E (Wd : Int) = eW at *
  generalize erZ E (Hd : Int) = eH at *
  generalize erN E no = en at *
  clear hV hv hsb hpb hmp hnn hn4 hob HW hb hn hno hm hq
  have X0 := (Bx.new w #[.int .i64 (Wd : Int), .int .i64 (Hd : Int), .slice a no c] 24).alloc (.cells #[.int .i64 0, .int .i64 0, .slice none 0 0] 24)
  have X1 := Bx.new (w.alloc (.cells #[.int .i64 (Wd : Int), .int .i64 (Hd : Int), .slice a no c] 24)) #[.int .i64 0, .int .i64 0, .slice none 0 0] 24
  simp only [World.size_alloc] at X1
  have hB0 : Below w.heap.size w ((w.alloc (.cells #[.int .i64 (Wd : Int), .int .i64 (Hd : Int), .slice a no c] 24)).alloc (.cells #[.int .i64 0, .int .i64 0, .slice none 0 0] 24)) := by (repeat' (first | with_reducible assumption | with_reducible exact Below.refl _ _ | with_reducible refine Below.drew ?_ | with_reducible refine below_drewN ?_ _ | with_reducible refine balloc ?_ _ | with_reducible refine bset ?_ ?_ _ | with_reducible refine Below.setCell ?_ ?_ _ | with_reducible refine Below.alloc ?_ ?_ _ | omega | (simp; done) | (simp; omega)))
  go_enter Try.func29, Try.ntmps29
  go_wp2_with fail
  generalize ((w.alloc (.cells #[.int .i64 (Wd : Int), .int .i64 (Hd : Int), .slice a no c] 24)).alloc (.cells #[.int .i64 0, .int .i64 0, .slice none 0 0] 24)) = W0 at X0 X1 hB0 ⊢
  have z0 := X0.lt
  have z1 := X1.lt
  refine (hwh _ (H.below hB0) (HO.below hB0) (HS.below hB0) (HP.below hB0)).mono ?_
  rintro e w1 ⟨rfl, hb1⟩
  replace X0 := X0.below hb1; replace X1 := X1.below hb1
  have hB := bvia hB0 hb1
  clear hwh hb1 hB0
  have e1 : errR true 1 = 0 := rfl
  rw [e1]
  have x0 := X0.at_ 0 rfl; have x1 := X0.at_ 1 rfl; have x2 := X0.at_ 2 rfl; have lx := X0.lt; have ly := X1.lt
  go_wp2_with fail
  refine (hMg _ (HO.below hB) (HS.below hB) (HP.below hB)).mono ?_
  rintro e w2 ⟨a2, c2, rfl, S2, hge, hb2⟩
  replace X1 := X1.below hb2
  have hsz := hB.size
  replace hB := bvia hB hb2
  clear hMg hb2
  have y0 := X1.at_ 0 rfl; have y1 := X1.at_ 1 rfl; have y2 := X1.at_ 2 rfl; have yf := X1.free; have yl := X1.lt
  have hne : ∀ b off, a2 = some ⟨b, off, none⟩ → b ≠ w.heap.size + 1 := fun b off h => by have := hge b off h; omega
  go_wp2_with fail
  have Y2 : Bx (((w2.setCell ⟨w.heap.size + 1, 0, none⟩ (.int .i64 eW)).setCell ⟨w.heap.size + 1, 1, none⟩ (.int .i64 eH)).setCell ⟨w.heap.size + 1, 2, none⟩ (.slice a2 en c2)) (w.heap.size + 1) #[.int .i64 eW, .int .i64 eH, .slice a2 en c2] := ((X1.set_ 0 (by simp) _).set_ 1 (by simp) _).set_ 2 (by simp) _
  replace S2 := (((S2.far (p := ⟨w.heap.size + 1, 0, none⟩) (fun b off h => Ne.symm (hne b off h)) (.int .i64 eW)).far (p := ⟨w.heap.size + 1, 1, none⟩) (fun b off h => Ne.symm (hne b off h)) (.int .i64 eH)).far (p := ⟨w.heap.size + 1, 2, none⟩) (fun b off h => Ne.symm (hne b off h)) (.slice a2 en c2))
  replace hB : Below w.heap.size w (((w2.setCell ⟨w.heap.size + 1, 0, none⟩ (.int .i64 eW)).setCell ⟨w.heap.size + 1, 1, none⟩ (.int .i64 eH)).setCell ⟨w.heap.size + 1, 2, none⟩ (.slice a2 en c2)) := ((hB.setCell (by dsimp only; omega) _).setCell (by dsimp only; omega) _).setCell (by dsimp only; omega) _
  have r0 := Y2.at_ 0 rfl; have r1 := Y2.at_ 1 rfl; have r2 := Y2.at_ 2 rfl
  exact bodyPost_ret (v := .tuple #[.agg #[.int .i64 eW, .int .i64 eH, .slice a2 en c2], .int .i64 E]) (by simp [results, Try.results29, go_sem, r0, r1, r2]) rfl ⟨a2, c2, rfl, S2, fun b off h => Nat.le_trans hsz (hge b off h), hB⟩
set_option maxRecDepth 100000 in
set_option maxHeartbeats 20000000 in
theorem walk_merges (wide high : Int) (a ao al ap : Option Addr) (n no m q c co cl cp : Nat) (g : Nat → C4) (o : Nat → Int) (f : Nat → SiteR) (p : Nat → N6) (w : World) (hn : n ≤ maxLen) (hno : no ≤ maxLen) (hm : m ≤ maxLen) (hq : q ≤ maxLen) (hf : ∀ k, k < m → (f k).ni ≤ maxLen ∧ (f k).nc ≤ maxLen) (H : Sc w a n g) (HO : Sl w ao no o) (HS : Ss w al m f) (HP : Sn w ap q p) (HW : ∀ k, k < q → wfN (p k)) :
    Calls Try.prog 7 #[.agg #[.int .i64 wide, .int .i64 high, .slice a n c, .slice ao no co], .agg #[.slice al m cl, .slice ap q cp]] w fun e w' => e = .returned (.bool true) ∧ Below w.heap.size w w' := by
  have hsm := fun W => law5_Small wide high 300 a ao n no c co W
  have hlt := fun W S => law5_Light al ap m q cl cp f W hm hq hf S
  unfold maxLen at hn hno hm hq hf
  have X0 := (Bx.new w #[.int .i64 wide, .int .i64 high, .slice a n c, .slice ao no co] 33).alloc (.cells #[.slice al m cl, .slice ap q cp] 45)
  have X1 := Bx.new (w.alloc (.cells #[.int .i64 wide, .int .i64 high, .slice a n c, .slice ao no co] 33)) #[.slice al m cl, .slice ap q cp] 45
  simp only [World.size_alloc] at X1
  have hB0 : Below w.heap.size w ((w.alloc (.cells #[.int .i64 wide, .int .i64 high, .slice a n c, .slice ao no co] 33)).alloc (.cells #[.slice al m cl, .slice ap q cp] 45)) := by (repeat' (first | with_reducible assumption | with_reducible exact Below.refl _ _ | with_reducible refine Below.drew ?_ | with_reducible refine below_drewN ?_ _ | with_reducible refine balloc ?_ _ | with_reducible refine bset ?_ ?_ _ | with_reducible refine Below.setCell ?_ ?_ _ | with_reducible refine Below.alloc ?_ ?_ _ | omega | (simp; done) | (simp; omega)))
  cases hs : smallL n no 300
  · rw [hs] at hsm
    clear hlt
    go_enter Try.func7, Try.ntmps7
    go_wp2_with fail
    generalize ((w.alloc (.cells #[.int .i64 wide, .int .i64 high, .slice a n c, .slice ao no co] 33)).alloc (.cells #[.slice al m cl, .slice ap q cp] 45)) = W0 at X0 X1 hB0 ⊢
    have z0 := X0.lt
    have z1 := X1.lt
    refine (hsm _).mono ?_
    rintro e w1 ⟨rfl, hb1⟩
    go_wp2_with fail
    refine (awake_node _).mono ?_
    rintro e w2 ⟨rfl, hb2⟩
    go_wp2
    go_ret
    exact ⟨rfl, bvia (bvia hB0 hb1) hb2⟩
  obtain ⟨s1, s2⟩ := smallL_iff.1 hs
  rw [hs] at hsm
  clear hs
  go_enter Try.func7, Try.ntmps7
  go_wp2_with fail
  generalize ((w.alloc (.cells #[.int .i64 wide, .int .i64 high, .slice a n c, .slice ao no co] 33)).alloc (.cells #[.slice al m cl, .slice ap q cp] 45)) = W0 at X0 X1 hB0 ⊢
  have z0 := X0.lt
  have z1 := X1.lt
  have IS0 := HS.below hB0; have H0 := H.below hB0; have HO0 := HO.below hB0; have HP0 := HP.below hB0
  refine (hsm _).mono ?_
  rintro e w1 ⟨rfl, hb1⟩
  have X01 := X0.below hb1; have X11 := X1.below hb1
  have IS1 := IS0.below hb1; have H1 := H0.below hb1; have HO1 := HO0.below hb1; have HP1 := HP0.below hb1
  have B1 := bvia hB0 hb1
  clear hsm hb1 X0 X1 IS0 H0 HO0 HP0 hB0
  have y0 := X11.at_ 0 rfl; have y1 := X11.at_ 1 rfl; have ly := X11.lt
  go_wp2_with fail
  refine (hlt _ IS1).mono ?_
  rintro e W2 ⟨⟨b, rfl, hb⟩, hb2⟩
  cases b
  · go_wp2_with fail
    refine (awake_node _).mono ?_
    rintro e w2 ⟨rfl, hb3⟩
    go_wp2
    go_ret
    exact ⟨rfl, bvia (bvia B1 hb2) hb3⟩
  have X02 := X01.below hb2; have X12 := X11.below hb2
  have B2 := bvia B1 hb2
  clear hlt hb2 X01 X11 IS1 H1 HO1 HP1 B1 y0 y1 ly
  obtain ⟨m1, m2, m3⟩ := hb rfl
  clear hb hf
  have hP := fun W S SO SS SP => node_Merge wide high a ao al ap n no m q c co cl cp g o f p W (by omega) (by omega) (by omega) (by omega) (fun k hk => by have := m3 k hk; omega) S SO SS SP HW
  have hR := fun W S SO SS SP => ref5_Merge wide high a ao al ap n no m q c co cl cp g o f p W (by omega) (by omega) (by omega) (by omega) (fun k hk => by have := m3 k hk; omega) S SO SS SP HW
  have hen : erN (mrgE (wholeB wide high n g no o m f q p) (stepsB f m) (readyA wide.toNat high.toNat o no q p f m) (postS p q (f 0).st) (decide (massTo (addTo (layS f m) p q) n ≤ 1000000000))) n ≤ 100000000 := by unfold erN; split <;> omega
  generalize mrgE (wholeB wide high n g no o m f q p) (stepsB f m) (readyA wide.toNat high.toNat o no q p f m) (postS p q (f 0).st) (decide (massTo (addTo (layS f m) p q) n ≤ 1000000000)) = E at *
  generalize addTo (layS f m) p q = G at *
  generalize erZ E wide = eW at *
  generalize erZ E high = eH at *
  generalize erN E n = en at *
  clear m3 HW
  have y0 := X02.at_ 0 rfl; have y1 := X02.at_ 1 rfl; have y2 := X02.at_ 2 rfl; have y3 := X02.at_ 3 rfl; have ly := X02.lt
  have x0 := X12.at_ 0 rfl; have x1 := X12.at_ 1 rfl; have lx := X12.lt
  go_wp2_with fail
  refine (hP _ (H.below B2) (HO.below B2) (HS.below B2) (HP.below B2)).mono ?_
  rintro e w3 ⟨a1, c1, rfl, S1, _, hb3⟩
  have X03 := X02.below hb3; have X13 := X12.below hb3
  have B3 := bvia B2 hb3
  clear hP hb3 X02 X12 B2 y0 y1 y2 y3 ly x0 x1 lx
  have X04 := X03.alloc (.cells #[.int .i64 eW, .int .i64 eH, .slice a1 en c1] 24)
  have X14 := X13.alloc (.cells #[.int .i64 eW, .int .i64 eH, .slice a1 en c1] 24)
  have S1' := S1.alloc (.cells #[.int .i64 eW, .int .i64 eH, .slice a1 en c1] 24)
  have XA := Bx.new w3 #[.int .i64 eW, .int .i64 eH, .slice a1 en c1] 24
  have B4 := balloc B3 (.cells #[.int .i64 eW, .int .i64 eH, .slice a1 en c1] 24)
  have y0 := X03.at_ 0 rfl; have y1 := X03.at_ 1 rfl; have y2 := X03.at_ 2 rfl; have y3 := X03.at_ 3 rfl; have ly := X03.lt
  have x0 := X13.at_ 0 rfl; have x1 := X13.at_ 1 rfl; have lx := X13.lt
  go_wp2_with fail
  refine (hR _ (H.below B4) (HO.below B4) (HS.below B4) (HP.below B4)).mono ?_
  rintro e w5 ⟨a2, c2, rfl, S2, _, hb5⟩
  replace S1' := S1'.below hb5; replace XA := XA.below hb5
  have B5 := bvia B4 hb5
  clear hR hb5 X03 X04 X13 X14 B3 B4 S1 y0 y1 y2 y3 ly x0 x1 lx
  have S1'' := S1'.alloc (.cells #[.int .i64 eW, .int .i64 eH, .slice a2 en c2] 24)
  have S2' := S2.alloc (.cells #[.int .i64 eW, .int .i64 eH, .slice a2 en c2] 24)
  have B6 := balloc B5 (.cells #[.int .i64 eW, .int .i64 eH, .slice a2 en c2] 24)
  have z0 := XA.at_ 0 rfl; have z1 := XA.at_ 1 rfl; have z2 := XA.at_ 2 rfl; have zl := XA.lt
  have hsame := ref2_Same eW eH a1 a2 en c1 c2 G G _ hen S1'' S2' (fun _ _ => rfl)
  go_wp2_with fail
  refine hsame.mono ?_
  rintro e w7 ⟨rfl, hb7⟩
  go_wp2_with fail
  refine (awake_node _).mono ?_
  rintro e w8 ⟨rfl, hb8⟩
  go_wp2
  go_ret
  exact ⟨rfl, bvia (bvia B6 hb7) hb8⟩
end Go.Proofs.Ytcakccfhcgjofaa
