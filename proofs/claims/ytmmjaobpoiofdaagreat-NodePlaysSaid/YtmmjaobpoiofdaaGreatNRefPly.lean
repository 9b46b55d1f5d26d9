/- Walk: Act, of the reference. Walk: Play, of the reference. -/
import Derived.Test.YtmmjaobpoiofdaaGreatNRefAct
import Derived.Test.YtmmjaobpoiofdaaGreatNActF
import Derived.Test.YtmmjaobpoiofdaaGreatNPlyM
import Derived.Test.YtmmjaobpoiofdaaGreatNPlyF
namespace Go.Proofs.YtmmjaobpoiofdaaGreat
open Go Go.RowKit
attribute [local go_sem] Oper.semAt_some
set_option linter.unusedVariables false
set_option linter.unusedSimpArgs false
/-- what the reference's play holds -/
structure RK (base : Nat) (o : Nat → Int) (no : Nat) (Y : Ply) (vS : Value) (xs : List SiteR) (vP : Value) (X : World) : Prop where
  si : PlyOwn o no Y.st Y.G (nodeL o no 8) base X vS xs
  po : OwnN X base vP Y.P
  ne : ∀ g, vP.ownBlock = some g → vS.ownBlock ≠ some g
theorem RK.below {base : Nat} {o : Nat → Int} {no : Nat} {Y : Ply} {vS : Value} {xs : List SiteR} {vP : Value} {X Z : World} (h : RK base o no Y vS xs vP X) (hb : Below X.heap.size X Z) : RK base o no Y vS xs vP Z := ⟨h.si.below hb, own_below h.po hb, h.ne⟩
theorem RK.next {base : Nat} {o : Nat → Int} {no : Nat} {Y : Ply} {g m cap : Nat} {xs : List SiteR} {vP v' : Value} {X : World} (h : RK base o no Y (.slice (some ⟨g, 0, none⟩) m cap) xs vP X) {i B0 : Nat} (hi : i < (nodeL o no 8).length) {s : SiteR} {t nd : Int} {Cn : Nat → C4} {P' : List N6} (hnd : (nodeL o no 8).getD i 0 = nd)
    (hs : s.lies X) (h1 : s.nd = nd) (h2 : s.st = t) (h3 : s.ni = (ownL o nd no).length) (h4 : s.nc = (ownL o nd no).length) (h5 : ∀ k, k < (ownL o nd no).length → s.I k = (ownL o nd no).getD k 0) (h6 : ∀ k, k < (ownL o nd no).length → s.C k = Cn ((ownL o nd no).getD k 0).toNat)
    (h7 : ∀ b off, (s.ix = some ⟨b, off, none⟩ ∨ s.cl = some ⟨b, off, none⟩) → B0 ≤ b ∧ b < X.heap.size) (h8 : OwnN X B0 v' P') (hB : g < B0) :
    RK base o no ⟨fun k => if k = nd then t else Y.st k, fun j => if o j = nd then Cn j else Y.G j, P', Y.cnt + 1, 0⟩ (.slice (some ⟨g, 0, none⟩) m cap) (xs.set i s) v'
      ((((X.setCell ⟨g, i * 4, none⟩ (.int .i64 s.nd)).setCell ⟨g, i * 4 + 1, none⟩ (.int .i64 s.st)).setCell ⟨g, i * 4 + 2, none⟩ (.slice s.ix s.ni s.ci)).setCell ⟨g, i * 4 + 3, none⟩ (.slice s.cl s.nc s.cc)) := by
  subst hnd
  have hg : base ≤ g := own_base h.si.1 g rfl
  have hnod : (nodeL o no 8).Nodup := (nodeL_sorted o no 8).imp fun hab => by omega
  have hb1 : But (fun z => z = g) X ((((X.setCell ⟨g, i * 4, none⟩ (.int .i64 s.nd)).setCell ⟨g, i * 4 + 1, none⟩ (.int .i64 s.st)).setCell ⟨g, i * 4 + 2, none⟩ (.slice s.ix s.ni s.ci)).setCell ⟨g, i * 4 + 3, none⟩ (.slice s.cl s.nc s.cc)) :=
    (((But.set_ (But.refl (fun z => z = g) X) (p := ⟨g, i * 4, none⟩) rfl _).set_ (p := ⟨g, i * 4 + 1, none⟩) rfl _).set_ (p := ⟨g, i * 4 + 2, none⟩) rfl _).set_ (p := ⟨g, i * 4 + 3, none⟩) rfl _
  exact ⟨h.si.step hnod hi hs h1 h2 h3 h4 h5 h6 (fun b off hh => ⟨by have := (h7 b off hh).1; omega, (h7 b off hh).2⟩), own_mono (own_butN h8 hb1 fun g' hg' => by have := own_base h8 g' hg'; omega) (by omega), fun g' hg' e => by
    have := own_base h8 g' hg'
    have : g = g' := by simpa [Value.ownBlock] using e
    omega⟩
theorem anyS_listed {P : Program} {ops : Array Oper} {Q : Exit → Act → World → Prop} {md : Region.Mode} {S : World → Prop} {T : Nat} {fuel : Nat} {listed l' : Array Bool} {a : Act} {w : World} (e : listed = l') (h : anyS P md ops Q S T fuel l' a w) : anyS P md ops Q S T fuel listed a w := e ▸ h
set_option maxRecDepth 100000 in
set_option maxHeartbeats 16000000 in
theorem ref5_Play (wide high : Int) (a ao rl ad : Option Addr) (n no rn k c co rc cd : Nat) (g : Nat → C4) (o : Nat → Int) (ru : Nat → Int × Int) (f : Nat → Int) (N : Int) (w : World) (hn : n ≤ 100000000) (hno : no ≤ 100000000) (hrn : rn ≤ 100000000) (hk : k ≤ 100000000) (H : Sc w a n g) (HO : Sl w ao no o) (HR : Sr w rl rn ru) (HD : Sl w ad k f) :
    Calls Tryz.prog 15 #[.agg #[.int .i64 wide, .int .i64 high, .slice a n c], .slice ao no co, .slice rl rn rc, .int .i64 N, .slice ad k cd] w
      (PlayR (plyE (validM wide high n g no o) (rulesB rn ru) (namB o no f k) (within N 0 1000 && decide (k ≤ 2000))) o no (plyL wide.toNat high.toNat o no rn ru N (ply0 g) ((List.range k).map f)) w) := by
  have hV := fun W S SO => ref5_ValidMap wide high a ao n no c co g o W hn hno S SO
  have hRu := fun W S => ref1_validRules rl rn rc ru W hrn S
  have hown := fun nd W S => ref5_own ao no co o nd W hno S
  have hSp := fun W S SO => ref5_Split wide high a ao n no c co g o W hn hno S SO
  have X0 := Bx.new w #[.int .i64 wide, .int .i64 high, .slice a n c] 24
  have hB0 : Below w.heap.size w (w.alloc (.cells #[.int .i64 wide, .int .i64 high, .slice a n c] 24)) := by (repeat' (first | with_reducible assumption | with_reducible exact Below.refl _ _ | with_reducible refine Below.drew ?_ | with_reducible refine below_drewN ?_ _ | with_reducible refine balloc ?_ _ | with_reducible refine bset ?_ ?_ _ | with_reducible refine Below.setCell ?_ ?_ _ | with_reducible refine Below.alloc ?_ ?_ _ | omega | (simp; done) | (simp; omega)))
  cases hv : validM wide high n g no o
  · rw [hv] at hV
    clear hSp hown
    go_enter Tryz.func15, Tryz.ntmps15
    go_wp2_with fail
    generalize (w.alloc (.cells #[.int .i64 wide, .int .i64 high, .slice a n c] 24)) = W0 at X0 hB0 ⊢
    have z0 := X0.lt
    refine (hV _ (H.below hB0) (HO.below hB0)).mono ?_
    rintro e w1 ⟨rfl, hb1⟩
    have B1 := bvia hB0 hb1
    clear hRu hV hb1
    go_wp2_with fail
    exact bodyPost_ret (v := .tuple #[.slice none 0 0, .slice none 0 0, .int .i64 0, .int .i64 1]) (by simp [results, Tryz.results15, go_sem]) rfl (playR_err (show _ = (1 : Int) from rfl) (by decide) rfl B1)
  cases hr : rulesB rn ru
  · rw [hv] at hV; rw [hr] at hRu
    clear hSp hown
    go_enter Tryz.func15, Tryz.ntmps15
    go_wp2_with fail
    generalize (w.alloc (.cells #[.int .i64 wide, .int .i64 high, .slice a n c] 24)) = W0 at X0 hB0 ⊢
    have z0 := X0.lt
    refine (hV _ (H.below hB0) (HO.below hB0)).mono ?_
    rintro e w1 ⟨rfl, hb1⟩
    have B1 := bvia hB0 hb1
    clear hV hb1
    go_wp2_with fail
    refine (hRu _ (HR.below B1)).mono ?_
    rintro e w2 ⟨rfl, hb2⟩
    have B2 := bvia B1 hb2
    clear hRu hb2
    go_wp2_with fail
    exact bodyPost_ret (v := .tuple #[.slice none 0 0, .slice none 0 0, .int .i64 0, .int .i64 1]) (by simp [results, Tryz.results15, go_sem]) rfl (playR_err (show _ = (1 : Int) from rfl) (by decide) rfl B2)
  rw [hv] at hV hSp; rw [hr] at hRu
  obtain ⟨Wd, Hd, rfl, rfl, p1, p2, u1, u2, hnn, hn4, hoo, hob, hgv, hgm⟩ := validM_sides hv
  simp only [Int.toNat_natCast] at *
  have hlen := fun nd => hasB_len (o := o) (n := no) (nd := nd)
  have HLEN := hid hlen; have HRR := hid hr; have HNN := hid hnn; have HOO := hid hoo; have HOB := hid hob; have HGV := hid hgv; have HGM := hid hgm
  clear hlen hr hnn hoo hob hgv hgm hv
  have X0 := Bx.new w #[.int .i64 (Wd : Int), .int .i64 (Hd : Int), .slice a n c] 24
  have hB0 : Below w.heap.size w (w.alloc (.cells #[.int .i64 (Wd : Int), .int .i64 (Hd : Int), .slice a n c] 24)) := by (repeat' (first | with_reducible assumption | with_reducible exact Below.refl _ _ | with_reducible refine Below.drew ?_ | with_reducible refine below_drewN ?_ _ | with_reducible refine balloc ?_ _ | with_reducible refine bset ?_ ?_ _ | with_reducible refine Below.setCell ?_ ?_ _ | with_reducible refine Below.alloc ?_ ?_ _ | omega | (simp; done) | (simp; omega)))
  go_enter Tryz.func15, Tryz.ntmps15
  go_wp2_with fail
  generalize (w.alloc (.cells #[.int .i64 (Wd : Int), .int .i64 (Hd : Int), .slice a n c] 24)) = W0 at X0 hB0 ⊢
  have z0 := X0.lt
  refine (hV _ (H.below hB0) (HO.below hB0)).mono ?_
  rintro e w1 ⟨rfl, hb1⟩
  replace X0 := X0.below hb1
  have B1 := bvia hB0 hb1
  clear hV hb1 hB0
  go_wp2_with fail
  refine (hRu _ (HR.below B1)).mono ?_
  rintro e w2 ⟨rfl, hb2⟩
  replace X0 := X0.below hb2
  have B2 := bvia B1 hb2
  clear hRu hb2 B1
  have hs2 := B2.size
  go_wp2_with fail
  go_loopw [14] (fun i wr => ∃ j : Nat, j ≤ k ∧ i = .int .i64 j ∧ namB o no f j = true ∧ Below w2.heap.size w2 wr) (fun i _ => k - (intOf i).toNat)
  case atStart => exact ⟨0, Nat.zero_le _, rfl, rfl, Below.refl _ _⟩
  case round =>
    obtain ⟨j, hj, rfl, hnm, hB⟩ := hrel
    have HNM := hid hnm; clear hnm
    have B3 : Below w.heap.size w wr := B2.trans (hB.mono hs2)
    by_cases hlt : j < k
    · obtain ⟨b1, o1, rfl, hb1, c1⟩ := (HD.below B3) j hlt
      go_wp2_with fail
      refine (hown _ _ (HO.below B3)).mono ?_
      rintro e w3 ⟨v, rfl, hw3, hb3⟩
      obtain ⟨av, cv, rfl, _⟩ := sl_of_own hw3
      have B4 := bvia B3 hb3
      have B5 := bvia hB hb3
      have hl := HLEN.out (f j)
      cases hh : hasB o no (f j)
      · rw [hh] at hl
        have hE := hid (show plyE true true (namB o no f k) (within N 0 1000 && decide (k ≤ 2000)) = 5 from by
          have : namB o no f k = false := by
            rw [← Bool.not_eq_true, namB_iff]
            intro h; have := h j hlt; rw [hh] at this; cases this
          rw [this]; rfl)
        clear hw3 hb3
        go_wp2_with fail
        exact bodyPost_ret (v := .tuple #[.slice none 0 0, .slice none 0 0, .int .i64 0, .int .i64 5]) (by simp [results, Tryz.results15, go_sem]) rfl (playR_err (by first | exact hE.out | (rw [HRR.out]; exact hE.out)) (by decide) rfl B4)
      · rw [hh] at hl
        have HH := hid hh
        clear hw3 hb3 hh
        go_wp2_with fail
        go_roundw
        case rel => exact ⟨j + 1, by omega, by go_num, by simp only [namB, HNM.out, HH.out]; rfl, B5⟩
        case measure => simp [intOf]; omega
    · obtain rfl : j = k := (by omega)
      clear hown
      replace X0 := X0.below hB
      clear hB B2 hs2
      cases hw : within N 0 1000
      · have hE := hid (show plyE true true (namB o no f j) (within N 0 1000 && decide (j ≤ 2000)) = 7 from by rw [HNM.out, hw]; rfl)
        go_wp2_with (go_at_call 46; refine (ref5_within _ _ _ _).mono ?_; rintro e w' ⟨rfl, rfl⟩; rw [hw])
        exact bodyPost_ret (v := .tuple #[.slice none 0 0, .slice none 0 0, .int .i64 0, .int .i64 7]) (by simp [results, Tryz.results15, go_sem]) rfl (playR_err (by first | exact hE.out | (rw [HRR.out]; exact hE.out)) (by decide) rfl B3)
      by_cases hk2 : j ≤ 2000
      rotate_left
      · have hgt : ¬ (j : Int) ≤ 2000 := by omega
        have hE := hid (show plyE true true (namB o no f j) (within N 0 1000 && decide (j ≤ 2000)) = 7 from by rw [HNM.out, hw]; simp [plyE, hk2])
        clear hk2
        go_wp2_with (go_at_call 46; refine (ref5_within _ _ _ _).mono ?_; rintro e w' ⟨rfl, rfl⟩; rw [hw])
        exact bodyPost_ret (v := .tuple #[.slice none 0 0, .slice none 0 0, .int .i64 0, .int .i64 7]) (by simp [results, Tryz.results15, go_sem]) rfl (playR_err (by first | exact hE.out | (rw [HRR.out]; exact hE.out)) (by decide) rfl B3)
      have hle : (j : Int) ≤ 2000 := by omega
      have hN := (within_iff _ _ _).1 hw
      have HE0 := hid (show plyE true true (namB o no f j) (within N 0 1000 && decide (j ≤ 2000)) = 0 from by rw [HNM.out, hw]; simp [plyE, hk2])
      have HE0b := hid (show plyE true true (namB o no f j) (decide (j ≤ 2000)) = 0 from by rw [HNM.out]; simp [plyE, hk2])
      have HNL := hid hN
      clear hN
      have hspl := hSp wr (H.below B3) (HO.below B3)
      clear hSp
      have q0 := X0.at_ 0 rfl; have q1 := X0.at_ 1 rfl; have q2 := X0.at_ 2 rfl; have ql := X0.lt
      go_wp2_with (first | (go_at_call 46; refine (ref5_within _ _ _ _).mono ?_; rintro e w' ⟨rfl, rfl⟩; rw [hw]) | (go_at_call 47; refine hspl.mono ?_; rintro e w4 ⟨vS, xs, rfl, hSO, hb4⟩))
      have hlw := X0.lt
      replace X0 := X0.below hb4
      have B4 := bvia B3 hb4
      clear q0 q1 q2 ql hspl hb4
      have hgr : (∀ i, i < Wd * Hd → validC (g i) = true) ∧ massTo g (Wd * Hd) ≤ 1000000000 := ⟨fun i hi => HGV.out i (by have := HNN.out; omega), by first | exact HGM.out | (rw [← HNN.out]; exact HGM.out)⟩
      have HGR := hid hgr
      have hob2 : ∀ i, i < no → 0 ≤ o i ∧ o i ≤ 7 := fun i hi => HOB.out i (by have := HOO.out; omega)
      have HO2 := hid hob2
      have hnoE : no = Wd * Hd := by have := HOO.out; have := HNN.out; omega
      have HNE := hid hnoE
      have h0 : 0 < no := by rw [hnoE]; exact Nat.mul_pos (by omega) (by omega)
      have hnl : nodeL o no 8 ≠ [] := fun hh => by
        obtain ⟨q, hq, _⟩ := node_has hob2 (x := o 0) ⟨0, h0, rfl⟩
        rw [hh] at hq
        exact absurd hq (Nat.not_lt_zero _)
      obtain ⟨gs, cS, rfl, _, hgb, hgl⟩ := (ply_split hSO).ss2 (by simpa using hnl)
      have hxl : xs.length = (nodeL o no 8).length := hSO.2.1
      have hsB4 := B4.size
      have hsB3 := B3.size
      have hgb1 : w.heap.size + 1 ≤ gs := by omega
      obtain ⟨PL, hPL⟩ : ∃ PL : Nat → Ply, PL = fun m => plyL Wd Hd o no rn ru N (ply0 g) ((List.range m).map f) := ⟨_, rfl⟩
      have P0 : PL 0 = ply0 g := by rw [hPL]; rfl
      have PS : ∀ m, PL (m + 1) = plyN Wd Hd o no rn ru N (PL m) (f m) := fun m => by
        rw [hPL]; simp only [range_snoc]; exact plyL_snoc _ _ _
      have PE : ∀ m d, (PL m).er ≠ 0 → PL (m + d) = PL m := fun m d he => by
        induction d with
        | zero => rfl
        | succ d ih => rw [show m + (d + 1) = (m + d) + 1 by omega, PS, ih, plyN_er he]
      have HPS := hid PS; have HPE := hid PE
      have HPJ := hid (show plyL Wd Hd o no rn ru N (ply0 g) ((List.range j).map f) = PL j from by rw [hPL])
      have hK0 : RK (w.heap.size + 1) o no (PL 0) (.slice (some ⟨gs, 0, none⟩) xs.length cS) xs (.slice none 0 0) w4 := by
        rw [P0]
        exact ⟨(ply_split hSO).mono (by omega), ownN_nil _ _, fun g' hg' => by cases hg'⟩
      have hI0 : PlyI Wd Hd o no rn ru g N (PL 0) := by rw [P0]; exact ply_start HNL.out.1
      have hc0 : (PL 0).cnt = 0 := by rw [P0]; rfl
      generalize hM8 : xs.length = M8 at hK0 hxl ⊢
      have HM8 := hid hxl
      have hm8 : M8 ≤ 8 := by have := nodeL_length o no 8; rw [hxl]; exact this
      have HXS : ∃ ys : List SiteR, RK (w.heap.size + 1) o no (PL 0) (.slice (some ⟨gs, 0, none⟩) M8 cS) ys (.slice none 0 0) w4 := ⟨xs, hK0⟩
      have X0L := hid X0
      have H0 := hid HXS; have HI0 := hid hI0; have HC0 := hid hc0; have HPS0 := hid P0
      clear hM8 hxl HXS hI0 hc0 P0 PS PE hPL hSO hnl hgr hob2 hnoE hgb hgl hK0 hsB3 hle hk2
      go_loopw [17, 18, 19] (fun vP cnt i wr => ∃ m : Nat, m ≤ j ∧ i = .int .i64 m ∧ cnt = .int .i64 ((PL m).cnt : Int) ∧ (PL m).cnt ≤ m ∧ PlyI Wd Hd o no rn ru g N (PL m) ∧ (∃ ys, RK (w.heap.size + 1) o no (PL m) (.slice (some ⟨gs, 0, none⟩) M8 cS) ys vP wr) ∧ Below w.heap.size w wr ∧ Bx wr w.heap.size #[.int .i64 (Wd : Int), .int .i64 (Hd : Int), .slice a n c]) (fun _ _ i _ => j - (intOf i).toNat)
      case atStart => exact ⟨0, Nat.zero_le _, rfl, by rw [HC0.out]; rfl, by rw [HC0.out]; exact Nat.le_refl _, HI0.out, H0.out, B4, X0L.out⟩
      case round =>
        obtain ⟨wo, rfl⟩ : ∃ wo : World, wo = wr := ⟨_, rfl⟩
        obtain ⟨m, hm, rfl, rfl, hcn, hI, ⟨ys, hK⟩, hB, hX⟩ := hrel
        by_cases hmj : m < j
        · have HI := hid hI; have HK := hid hK; have HX := hid hX
          clear hI hK hX H0 HI0 HC0 HPS0 X0L X0
          obtain ⟨bd, od, rfl, hbd, cd0⟩ := (HD.below hB) m hmj
          have hbo : ∃ i, i < no ∧ o i = f m := hasB_iff.1 (namB_iff.1 HNM.out m hmj)
          obtain ⟨ix, hix, hixe, hixn, hown0, hx0, hx7⟩ := node_has HO2.out hbo
          have HIX := hid hix; have HIXE := hid hixe; have HIXN := hid hixn
          have hix8 : ix < M8 := by rw [HM8.out]; exact hix
          have HCD := hid cd0
          clear hix hixe hixn hbo cd0
          have hso := hB.size
          go_wp2_with fail
          go_loopw [17, 18, 20] (fun vP cnt i wr => ∃ q : Nat, q ≤ M8 ∧ i = .int .i64 q ∧ ∃ Z : Ply, ((q ≤ ix ∧ Z = PL m) ∨ (ix < q ∧ Z = PL (m + 1))) ∧ cnt = .int .i64 (Z.cnt : Int) ∧ Z.cnt ≤ m + 1 ∧ PlyI Wd Hd o no rn ru g N Z ∧ (∃ ys, RK (w.heap.size + 1) o no Z (.slice (some ⟨gs, 0, none⟩) M8 cS) ys vP wr) ∧ Below w.heap.size w wr ∧ Bx wr w.heap.size #[.int .i64 (Wd : Int), .int .i64 (Hd : Int), .slice a n c]) (fun _ _ i _ => M8 - (intOf i).toNat)
          case atStart => exact ⟨0, Nat.zero_le _, rfl, _, .inl ⟨Nat.zero_le _, rfl⟩, rfl, by omega, HI.out, ⟨ys, HK.out⟩, hB, HX.out⟩
          case round =>
            obtain ⟨wi, rfl⟩ : ∃ wi : World, wi = wr := ⟨_, rfl⟩
            obtain ⟨q, hq, rfl, Z, hZ, rfl, hzc, hI, ⟨zs, hK⟩, hB, hX⟩ := hrel
            have HCN := hid hcn
            clear HI HK HX hcn hso
            by_cases hq8 : q < M8
            · obtain ⟨s, hs⟩ : ∃ s, zs.getD q SiteR.zero = s := ⟨_, rfl⟩
              have hzl : zs.length = M8 := by rw [HM8.out]; exact hK.si.2.1
              obtain ⟨hgs, c0, c1, c2, c3⟩ := hK.si.at4 (i := q) (by omega) hs
              obtain ⟨hQ, hLi, _, _⟩ := hK.si.2.2 q (by rw [← HM8.out]; exact hq8)
              rw [hs] at hQ hLi
              obtain ⟨av, cP, rfl, hSn⟩ := sn_of_own hK.po
              have x0 := hX.at_ 0 rfl
              have r0 : ∀ Y, Below wi.heap.size wi Y → Y.cell? ⟨w.heap.size, 0, none⟩ = some (.int .i64 (Wd : Int)) := fun Y h => (hX.below h).at_ 0 rfl
              have r1 : ∀ Y, Below wi.heap.size wi Y → Y.cell? ⟨w.heap.size, 1, none⟩ = some (.int .i64 (Hd : Int)) := fun Y h => (hX.below h).at_ 1 rfl
              have r2 : ∀ Y, Below wi.heap.size wi Y → Y.cell? ⟨w.heap.size, 2, none⟩ = some (.slice a n c) := fun Y h => (hX.below h).at_ 2 rfl
              have s0 : ∀ Y, Below wi.heap.size wi Y → Y.cell? ⟨gs, q * 4, none⟩ = some (.int .i64 s.nd) := fun Y h => (bcell h _ _ hgs).trans c0
              have s1 : ∀ Y, Below wi.heap.size wi Y → Y.cell? ⟨gs, q * 4 + 1, none⟩ = some (.int .i64 s.st) := fun Y h => (bcell h _ _ hgs).trans c1
              have s2 : ∀ Y, Below wi.heap.size wi Y → Y.cell? ⟨gs, q * 4 + 2, none⟩ = some (.slice s.ix s.ni s.ci) := fun Y h => (bcell h _ _ hgs).trans c2
              have s3 : ∀ Y, Below wi.heap.size wi Y → Y.cell? ⟨gs, q * 4 + 3, none⟩ = some (.slice s.cl s.nc s.cc) := fun Y h => (bcell h _ _ hgs).trans c3
              have rd : ∀ Y, Below wi.heap.size wi Y → Y.cell? ⟨bd, od + m, none⟩ = some (.int .i64 (f m)) := fun Y h => by
                obtain ⟨b', o', e', _, hc'⟩ := (HD.below (hB.trans (h.mono hB.size))) m hmj
                injection e' with e'; injection e' with e1 e2 _
                rw [e1, e2]; exact hc'
              have hP5 := hI.len
              have hread := fun W (h : Below w.heap.size w W) SP => ref5_ready Wd Hd a ao av n no Z.P.length c co cP o (pF Z.P) s.nd s.st s.ix s.cl s.ni s.ci s.nc s.cc W ⟨p1, p2⟩ ⟨u1, u2⟩ HNE.out (by omega) (HO.below h) SP
              have HS := hid hs; have HZL := hid hzl; have HQ := hid hQ; have HLI := hid hLi; have HSN := hid hSn; have HI := hid hI; have HK := hid hK; have HX := hid hX; have HZ := hid hZ; have HREAD := hid hread
              have HEQ := hid (show q ≠ ix → s.nd ≠ f m from fun hne => by rw [hQ.1]; exact HIXN.out q (by rw [← HM8.out]; exact hq8) hne)
              have HEQ2 := hid (show q = ix → s.nd = f m from fun he => by rw [hQ.1, he]; exact HIXE.out)
              clear hs hzl hQ hLi hSn hI hK hX hZ hread c0 c1 c2 c3 x0 hP5
              have hsw := hB.size
              go_upto_region 19 with (fail)
              refine wp_region_S (fun Y => Below wi.heap.size wi Y) 30 (by kernel_rfl) ?_
              refine anyS_take (i := 0) rfl (by kernel_rfl) (fun _ _ _ h => h) (Or.inl ⟨by rfl, fun Y hYb => (by (try dsimp only at hYb); go_simp; rfl)⟩) (by repeat' (first | with_reducible assumption | with_reducible exact Below.refl _ _ | with_reducible refine Below.drew ?_ | with_reducible refine below_drewN ?_ _)) ?_
              simp only [List.getElem_toArray, List.getElem_cons_succ, List.getElem_cons_zero, Act.put, List.setIfInBounds_toArray, List.set_cons_zero, List.set_cons_succ]
              refine anyS_take (i := 1) rfl (by kernel_rfl) (fun _ _ _ h => h) (Or.inl ⟨by rfl, fun Y hYb => (by (try dsimp only at hYb); go_simp; rfl)⟩) (by repeat' (first | with_reducible assumption | with_reducible exact Below.refl _ _ | with_reducible refine Below.drew ?_ | with_reducible refine below_drewN ?_ _)) ?_
              simp only [List.getElem_toArray, List.getElem_cons_succ, List.getElem_cons_zero, Act.put, List.setIfInBounds_toArray, List.set_cons_zero, List.set_cons_succ]
              refine anyS_take (i := 2) rfl (by kernel_rfl) (fun _ _ _ h => h) (Or.inl ⟨by rfl, fun Y hYb => (by (try dsimp only at hYb); go_simp; rfl)⟩) (by repeat' (first | with_reducible assumption | with_reducible exact Below.refl _ _ | with_reducible refine Below.drew ?_ | with_reducible refine below_drewN ?_ _)) ?_
              simp only [List.getElem_toArray, List.getElem_cons_succ, List.getElem_cons_zero, Act.put, List.setIfInBounds_toArray, List.set_cons_zero, List.set_cons_succ]
              refine anyS_take (i := 3) rfl (by kernel_rfl) (fun _ _ _ h => h) (Or.inl ⟨by rfl, fun Y hYb => (by (try dsimp only at hYb); go_simp; rfl)⟩) (by repeat' (first | with_reducible assumption | with_reducible exact Below.refl _ _ | with_reducible refine Below.drew ?_ | with_reducible refine below_drewN ?_ _)) ?_
              simp only [List.getElem_toArray, List.getElem_cons_succ, List.getElem_cons_zero, Act.put, List.setIfInBounds_toArray, List.set_cons_zero, List.set_cons_succ]
              refine anyS_take (i := 4) rfl (by kernel_rfl) (fun _ _ _ h => h) (Or.inl ⟨by rfl, fun Y hYb => (by (try dsimp only at hYb); go_simp; rfl)⟩) (by repeat' (first | with_reducible assumption | with_reducible exact Below.refl _ _ | with_reducible refine Below.drew ?_ | with_reducible refine below_drewN ?_ _)) ?_
              simp only [List.getElem_toArray, List.getElem_cons_succ, List.getElem_cons_zero, Act.put, List.setIfInBounds_toArray, List.set_cons_zero, List.set_cons_succ]
              refine anyS_take (i := 5) rfl (by kernel_rfl) (fun _ _ _ h => h) (Or.inl ⟨by rfl, fun Y hYb => (by (try dsimp only at hYb); go_simp; rfl)⟩) (by repeat' (first | with_reducible assumption | with_reducible exact Below.refl _ _ | with_reducible refine Below.drew ?_ | with_reducible refine below_drewN ?_ _)) ?_
              simp only [List.getElem_toArray, List.getElem_cons_succ, List.getElem_cons_zero, Act.put, List.setIfInBounds_toArray, List.set_cons_zero, List.set_cons_succ]
              refine anyS_take (i := 6) rfl (by kernel_rfl) (fun _ _ _ h => h) (Or.inl ⟨by rfl, fun Y hYb => (by (try dsimp only at hYb); go_simp; rfl)⟩) (by repeat' (first | with_reducible assumption | with_reducible exact Below.refl _ _ | with_reducible refine Below.drew ?_ | with_reducible refine below_drewN ?_ _)) ?_
              simp only [List.getElem_toArray, List.getElem_cons_succ, List.getElem_cons_zero, Act.put, List.setIfInBounds_toArray, List.set_cons_zero, List.set_cons_succ]
              refine anyS_take (i := 7) rfl (by kernel_rfl) (fun _ _ _ h => h) (Or.inl ⟨by rfl, fun Y hYb => (by (try dsimp only at hYb); go_simp; rfl)⟩) (by repeat' (first | with_reducible assumption | with_reducible exact Below.refl _ _ | with_reducible refine Below.drew ?_ | with_reducible refine below_drewN ?_ _)) ?_
              simp only [List.getElem_toArray, List.getElem_cons_succ, List.getElem_cons_zero, Act.put, List.setIfInBounds_toArray, List.set_cons_zero, List.set_cons_succ]
              refine anyS_take (i := 8) rfl (by kernel_rfl) (fun _ _ _ h => h) (Or.inl ⟨by rfl, fun Y hYb => (by (try dsimp only at hYb); go_simp; rfl)⟩) (by repeat' (first | with_reducible assumption | with_reducible exact Below.refl _ _ | with_reducible refine Below.drew ?_ | with_reducible refine below_drewN ?_ _)) ?_
              simp only [List.getElem_toArray, List.getElem_cons_succ, List.getElem_cons_zero, Act.put, List.setIfInBounds_toArray, List.set_cons_zero, List.set_cons_succ]
              cases hqx : (s.nd != f m)
              rotate_left
              · have hne : q ≠ ix := fun he => by
                  have := HEQ2.out he
                  rw [this] at hqx; simp at hqx
                refine anyS_take (i := 9) rfl (by kernel_rfl) (fun _ _ _ h => h) (Or.inl ⟨by rfl, fun Y hYb => (by (try dsimp only at hYb); go_simp; rfl)⟩) (by repeat' (first | with_reducible assumption | with_reducible exact Below.refl _ _ | with_reducible refine Below.drew ?_ | with_reducible refine below_drewN ?_ _)) ?_
                simp only [List.getElem_toArray, List.getElem_cons_succ, List.getElem_cons_zero, Act.put, List.setIfInBounds_toArray, List.set_cons_zero, List.set_cons_succ]
                refine anyS_take (i := 10) rfl (by kernel_rfl) (fun _ _ _ h => h) (Or.inl ⟨by rfl, fun Y hYb => (by (try dsimp only at hYb); go_simp; rfl)⟩) (by repeat' (first | with_reducible assumption | with_reducible exact Below.refl _ _ | with_reducible refine Below.drew ?_ | with_reducible refine below_drewN ?_ _)) ?_
                simp only [List.getElem_toArray, List.getElem_cons_succ, List.getElem_cons_zero, Act.put, List.setIfInBounds_toArray, List.set_cons_zero, List.set_cons_succ]
                refine anyS_take (i := 11) (v := undef) rfl (by kernel_rfl) (fun _ _ _ h => h) (Or.inr ⟨by kernel_rfl, rfl⟩) (by repeat' (first | with_reducible assumption | with_reducible exact Below.refl _ _ | with_reducible refine Below.drew ?_ | with_reducible refine below_drewN ?_ _)) ?_
                simp only [List.getElem_toArray, List.getElem_cons_succ, List.getElem_cons_zero, Act.put, List.setIfInBounds_toArray, List.set_cons_zero, List.set_cons_succ]
                refine anyS_take (i := 12) (v := undef) rfl (by kernel_rfl) (fun _ _ _ h => h) (Or.inr ⟨by kernel_rfl, rfl⟩) (by repeat' (first | with_reducible assumption | with_reducible exact Below.refl _ _ | with_reducible refine Below.drew ?_ | with_reducible refine below_drewN ?_ _)) ?_
                simp only [List.getElem_toArray, List.getElem_cons_succ, List.getElem_cons_zero, Act.put, List.setIfInBounds_toArray, List.set_cons_zero, List.set_cons_succ]
                refine anyS_take (i := 13) (v := undef) rfl (by kernel_rfl) (fun _ _ _ h => h) (Or.inr ⟨by kernel_rfl, rfl⟩) (by repeat' (first | with_reducible assumption | with_reducible exact Below.refl _ _ | with_reducible refine Below.drew ?_ | with_reducible refine below_drewN ?_ _)) ?_
                simp only [List.getElem_toArray, List.getElem_cons_succ, List.getElem_cons_zero, Act.put, List.setIfInBounds_toArray, List.set_cons_zero, List.set_cons_succ]
                refine anyS_take (i := 14) (v := undef) rfl (by kernel_rfl) (fun _ _ _ h => h) (Or.inr ⟨by kernel_rfl, rfl⟩) (by repeat' (first | with_reducible assumption | with_reducible exact Below.refl _ _ | with_reducible refine Below.drew ?_ | with_reducible refine below_drewN ?_ _)) ?_
                simp only [List.getElem_toArray, List.getElem_cons_succ, List.getElem_cons_zero, Act.put, List.setIfInBounds_toArray, List.set_cons_zero, List.set_cons_succ]
                refine anyS_take (i := 15) (v := undef) rfl (by kernel_rfl) (fun _ _ _ h => h) (Or.inr ⟨by kernel_rfl, rfl⟩) (by repeat' (first | with_reducible assumption | with_reducible exact Below.refl _ _ | with_reducible refine Below.drew ?_ | with_reducible refine below_drewN ?_ _)) ?_
                simp only [List.getElem_toArray, List.getElem_cons_succ, List.getElem_cons_zero, Act.put, List.setIfInBounds_toArray, List.set_cons_zero, List.set_cons_succ]
                refine anyS_take (i := 16) (v := undef) rfl (by kernel_rfl) (fun _ _ _ h => h) (Or.inr ⟨by kernel_rfl, rfl⟩) (by repeat' (first | with_reducible assumption | with_reducible exact Below.refl _ _ | with_reducible refine Below.drew ?_ | with_reducible refine below_drewN ?_ _)) ?_
                simp only [List.getElem_toArray, List.getElem_cons_succ, List.getElem_cons_zero, Act.put, List.setIfInBounds_toArray, List.set_cons_zero, List.set_cons_succ]
                refine anyS_take (i := 17) (v := undef) rfl (by kernel_rfl) (fun _ _ _ h => h) (Or.inr ⟨by kernel_rfl, rfl⟩) (by repeat' (first | with_reducible assumption | with_reducible exact Below.refl _ _ | with_reducible refine Below.drew ?_ | with_reducible refine below_drewN ?_ _)) ?_
                simp only [List.getElem_toArray, List.getElem_cons_succ, List.getElem_cons_zero, Act.put, List.setIfInBounds_toArray, List.set_cons_zero, List.set_cons_succ]
                refine anyS_take (i := 18) rfl (by kernel_rfl) (fun _ _ _ h => h) (Or.inl ⟨by rfl, fun Y hYb => (by (try dsimp only at hYb); go_simp; rfl)⟩) (by repeat' (first | with_reducible assumption | with_reducible exact Below.refl _ _ | with_reducible refine Below.drew ?_ | with_reducible refine below_drewN ?_ _)) ?_
                simp only [List.getElem_toArray, List.getElem_cons_succ, List.getElem_cons_zero, Act.put, List.setIfInBounds_toArray, List.set_cons_zero, List.set_cons_succ]
                refine anyS_take (i := 19) rfl (by kernel_rfl) (fun _ _ _ h => h) (Or.inl ⟨by rfl, fun Y hYb => (by (try dsimp only at hYb); go_simp; rfl)⟩) (by repeat' (first | with_reducible assumption | with_reducible exact Below.refl _ _ | with_reducible refine Below.drew ?_ | with_reducible refine below_drewN ?_ _)) ?_
                simp only [List.getElem_toArray, List.getElem_cons_succ, List.getElem_cons_zero, Act.put, List.setIfInBounds_toArray, List.set_cons_zero, List.set_cons_succ]
                refine anyS_take (i := 20) (v := undef) rfl (by kernel_rfl) (fun _ _ _ h => h) (Or.inr ⟨by kernel_rfl, rfl⟩) (by repeat' (first | with_reducible assumption | with_reducible exact Below.refl _ _ | with_reducible refine Below.drew ?_ | with_reducible refine below_drewN ?_ _)) ?_
                simp only [List.getElem_toArray, List.getElem_cons_succ, List.getElem_cons_zero, Act.put, List.setIfInBounds_toArray, List.set_cons_zero, List.set_cons_succ]
                refine anyS_take (i := 21) (v := undef) rfl (by kernel_rfl) (fun _ _ _ h => h) (Or.inr ⟨by kernel_rfl, rfl⟩) (by repeat' (first | with_reducible assumption | with_reducible exact Below.refl _ _ | with_reducible refine Below.drew ?_ | with_reducible refine below_drewN ?_ _)) ?_
                simp only [List.getElem_toArray, List.getElem_cons_succ, List.getElem_cons_zero, Act.put, List.setIfInBounds_toArray, List.set_cons_zero, List.set_cons_succ]
                refine anyS_take (i := 22) (v := undef) rfl (by kernel_rfl) (fun _ _ _ h => h) (Or.inr ⟨by kernel_rfl, rfl⟩) (by repeat' (first | with_reducible assumption | with_reducible exact Below.refl _ _ | with_reducible refine Below.drew ?_ | with_reducible refine below_drewN ?_ _)) ?_
                simp only [List.getElem_toArray, List.getElem_cons_succ, List.getElem_cons_zero, Act.put, List.setIfInBounds_toArray, List.set_cons_zero, List.set_cons_succ]
                refine anyS_take (i := 23) (v := undef) rfl (by kernel_rfl) (fun _ _ _ h => h) (Or.inr ⟨by kernel_rfl, rfl⟩) (by repeat' (first | with_reducible assumption | with_reducible exact Below.refl _ _ | with_reducible refine Below.drew ?_ | with_reducible refine below_drewN ?_ _)) ?_
                simp only [List.getElem_toArray, List.getElem_cons_succ, List.getElem_cons_zero, Act.put, List.setIfInBounds_toArray, List.set_cons_zero, List.set_cons_succ]
                refine anyS_take (i := 24) (v := undef) rfl (by kernel_rfl) (fun _ _ _ h => h) (Or.inr ⟨by kernel_rfl, rfl⟩) (by repeat' (first | with_reducible assumption | with_reducible exact Below.refl _ _ | with_reducible refine Below.drew ?_ | with_reducible refine below_drewN ?_ _)) ?_
                simp only [List.getElem_toArray, List.getElem_cons_succ, List.getElem_cons_zero, Act.put, List.setIfInBounds_toArray, List.set_cons_zero, List.set_cons_succ]
                refine anyS_take (i := 25) (v := undef) rfl (by kernel_rfl) (fun _ _ _ h => h) (Or.inr ⟨by kernel_rfl, rfl⟩) (by repeat' (first | with_reducible assumption | with_reducible exact Below.refl _ _ | with_reducible refine Below.drew ?_ | with_reducible refine below_drewN ?_ _)) ?_
                simp only [List.getElem_toArray, List.getElem_cons_succ, List.getElem_cons_zero, Act.put, List.setIfInBounds_toArray, List.set_cons_zero, List.set_cons_succ]
                refine anyS_take (i := 26) (v := undef) rfl (by kernel_rfl) (fun _ _ _ h => h) (Or.inr ⟨by kernel_rfl, rfl⟩) (by repeat' (first | with_reducible assumption | with_reducible exact Below.refl _ _ | with_reducible refine Below.drew ?_ | with_reducible refine below_drewN ?_ _)) ?_
                simp only [List.getElem_toArray, List.getElem_cons_succ, List.getElem_cons_zero, Act.put, List.setIfInBounds_toArray, List.set_cons_zero, List.set_cons_succ]
                refine anyS_take (i := 27) (v := undef) rfl (by kernel_rfl) (fun _ _ _ h => h) (Or.inr ⟨by kernel_rfl, rfl⟩) (by repeat' (first | with_reducible assumption | with_reducible exact Below.refl _ _ | with_reducible refine Below.drew ?_ | with_reducible refine below_drewN ?_ _)) ?_
                simp only [List.getElem_toArray, List.getElem_cons_succ, List.getElem_cons_zero, Act.put, List.setIfInBounds_toArray, List.set_cons_zero, List.set_cons_succ]
                refine anyS_take (i := 28) (v := undef) rfl (by kernel_rfl) (fun _ _ _ h => h) (Or.inr ⟨by kernel_rfl, rfl⟩) (by repeat' (first | with_reducible assumption | with_reducible exact Below.refl _ _ | with_reducible refine Below.drew ?_ | with_reducible refine below_drewN ?_ _)) ?_
                simp only [List.getElem_toArray, List.getElem_cons_succ, List.getElem_cons_zero, Act.put, List.setIfInBounds_toArray, List.set_cons_zero, List.set_cons_succ]
                refine anyS_take (i := 29) rfl (by kernel_rfl) (fun _ _ _ h => h) (Or.inl ⟨by rfl, fun Y hYb => (by (try dsimp only at hYb); go_simp; rfl)⟩) (by repeat' (first | with_reducible assumption | with_reducible exact Below.refl _ _ | with_reducible refine Below.drew ?_ | with_reducible refine below_drewN ?_ _)) ?_
                simp only [List.getElem_toArray, List.getElem_cons_succ, List.getElem_cons_zero, Act.put, List.setIfInBounds_toArray, List.set_cons_zero, List.set_cons_succ]
                refine anyS_done (by kernel_rfl) ?_ _
                clear r0 r1 r2 s0 s1 s2 s3 rd
                go_wp2_with fail
                go_roundw
                case rel => exact ⟨q + 1, by omega, by go_num, Z, HZ.out.elim (fun h => .inl ⟨by omega, h.2⟩) (fun h => .inr ⟨by omega, h.2⟩), rfl, hzc, HI.out, ⟨zs, HK.out.below (Below.refl _ _).drew⟩, hB.drew, HX.out.drew⟩
                case measure => simp [intOf]; omega
              · skip
                refine anyS_take (i := 9) rfl (by kernel_rfl) (fun _ _ _ h => h) (Or.inl ⟨by rfl, fun Y hYb => (by (try dsimp only at hYb); go_simp; rfl)⟩) (by repeat' (first | with_reducible assumption | with_reducible exact Below.refl _ _ | with_reducible refine Below.drew ?_ | with_reducible refine below_drewN ?_ _)) ?_
                simp only [List.getElem_toArray, List.getElem_cons_succ, List.getElem_cons_zero, Act.put, List.setIfInBounds_toArray, List.set_cons_zero, List.set_cons_succ]
                refine anyS_take (i := 10) rfl (by kernel_rfl) (fun _ _ _ h => h) (Or.inl ⟨by rfl, fun Y hYb => (by (try dsimp only at hYb); go_simp; rfl)⟩) (by repeat' (first | with_reducible assumption | with_reducible exact Below.refl _ _ | with_reducible refine Below.drew ?_ | with_reducible refine below_drewN ?_ _)) ?_
                simp only [List.getElem_toArray, List.getElem_cons_succ, List.getElem_cons_zero, Act.put, List.setIfInBounds_toArray, List.set_cons_zero, List.set_cons_succ]
                refine anyS_take (i := 11) rfl (by kernel_rfl) (fun _ _ _ h => h) (Or.inl ⟨by rfl, fun Y hYb => (by (try dsimp only at hYb); go_simp; rfl)⟩) (by repeat' (first | with_reducible assumption | with_reducible exact Below.refl _ _ | with_reducible refine Below.drew ?_ | with_reducible refine below_drewN ?_ _)) ?_
                simp only [List.getElem_toArray, List.getElem_cons_succ, List.getElem_cons_zero, Act.put, List.setIfInBounds_toArray, List.set_cons_zero, List.set_cons_succ]
                refine anyS_take (i := 12) rfl (by kernel_rfl) (fun _ _ _ h => h) (Or.inl ⟨by rfl, fun Y hYb => (by (try dsimp only at hYb); go_simp; rfl)⟩) (by repeat' (first | with_reducible assumption | with_reducible exact Below.refl _ _ | with_reducible refine Below.drew ?_ | with_reducible refine below_drewN ?_ _)) ?_
                simp only [List.getElem_toArray, List.getElem_cons_succ, List.getElem_cons_zero, Act.put, List.setIfInBounds_toArray, List.set_cons_zero, List.set_cons_succ]
                refine anyS_take (i := 13) rfl (by kernel_rfl) (fun _ _ _ h => h) (Or.inl ⟨by rfl, fun Y hYb => (by (try dsimp only at hYb); go_simp; rfl)⟩) (by repeat' (first | with_reducible assumption | with_reducible exact Below.refl _ _ | with_reducible refine Below.drew ?_ | with_reducible refine below_drewN ?_ _)) ?_
                simp only [List.getElem_toArray, List.getElem_cons_succ, List.getElem_cons_zero, Act.put, List.setIfInBounds_toArray, List.set_cons_zero, List.set_cons_succ]
                refine anyS_take (i := 14) rfl (by kernel_rfl) (fun _ _ _ h => h) (Or.inl ⟨by rfl, fun Y hYb => (by (try dsimp only at hYb); go_simp; rfl)⟩) (by repeat' (first | with_reducible assumption | with_reducible exact Below.refl _ _ | with_reducible refine Below.drew ?_ | with_reducible refine below_drewN ?_ _)) ?_
                simp only [List.getElem_toArray, List.getElem_cons_succ, List.getElem_cons_zero, Act.put, List.setIfInBounds_toArray, List.set_cons_zero, List.set_cons_succ]
                refine anyS_take (i := 15) rfl (by kernel_rfl) (fun _ _ _ h => h) (Or.inl ⟨by rfl, fun Y hYb => (by (try dsimp only at hYb); go_simp; rfl)⟩) (by repeat' (first | with_reducible assumption | with_reducible exact Below.refl _ _ | with_reducible refine Below.drew ?_ | with_reducible refine below_drewN ?_ _)) ?_
                simp only [List.getElem_toArray, List.getElem_cons_succ, List.getElem_cons_zero, Act.put, List.setIfInBounds_toArray, List.set_cons_zero, List.set_cons_succ]
                refine anyS_take (i := 16) rfl (by kernel_rfl) (fun _ _ _ h => h) (Or.inl ⟨by rfl, fun Y hYb => (by (try dsimp only at hYb); go_simp; rfl)⟩) (by repeat' (first | with_reducible assumption | with_reducible exact Below.refl _ _ | with_reducible refine Below.drew ?_ | with_reducible refine below_drewN ?_ _)) ?_
                simp only [List.getElem_toArray, List.getElem_cons_succ, List.getElem_cons_zero, Act.put, List.setIfInBounds_toArray, List.set_cons_zero, List.set_cons_succ]
                have hqi : q = ix := by
                  refine Classical.byContradiction fun hne => HEQ.out hne ?_
                  simpa using hqx
                have hzz : Z = PL m := HZ.out.elim (fun h => h.2) (fun h => absurd h.1 (by omega))
                have HZZ := hid hzz
                have HQI := hid hqi
                clear hzz
                have hskip : goesB Wd Hd o no N Z (f m) = false → ∀ W, Below wi.heap.size wi W → ∃ q_1 : Nat, q_1 ≤ M8 ∧ Value.int .i64 ((q : Int) + 1) = .int .i64 q_1 ∧ ∃ Z_1 : Ply, ((q_1 ≤ ix ∧ Z_1 = PL m) ∨ (ix < q_1 ∧ Z_1 = PL (m + 1))) ∧ Value.int .i64 (Z.cnt : Int) = .int .i64 (Z_1.cnt : Int) ∧ Z_1.cnt ≤ m + 1 ∧ PlyI Wd Hd o no rn ru g N Z_1 ∧ (∃ ys, RK (w.heap.size + 1) o no Z_1 (.slice (some ⟨gs, 0, none⟩) M8 cS) ys (.slice av Z.P.length cP) W) ∧ Below w.heap.size w W ∧ Bx W w.heap.size #[.int .i64 (Wd : Int), .int .i64 (Hd : Int), .slice a n c] := fun hno2 W hW =>
                  ⟨q + 1, by omega, by go_num, Z, .inr ⟨by omega, by rw [HPS.out, ← HZZ.out, plyN_no hno2]⟩, rfl, hzc, HI.out, ⟨zs, HK.out.below hW⟩, hB.trans (hW.mono hB.size), HX.out.below hW⟩
                have HSKIP := hid hskip; clear hskip
                have HNS := hid (show s.nd = f m ∧ s.st = Z.st (f m) from ⟨HEQ2.out hqi, by rw [HQ.out.2.1, hqi, HIXE.out]⟩)
                clear hqi
                cases hge : decide (N ≤ s.st)
                rotate_left
                · skip
                  refine anyS_take (i := 17) rfl (by kernel_rfl) (fun _ _ _ h => h) (Or.inl ⟨by rfl, fun Y hYb => (by (try dsimp only at hYb); go_simp; rfl)⟩) (by repeat' (first | with_reducible assumption | with_reducible exact Below.refl _ _ | with_reducible refine Below.drew ?_ | with_reducible refine below_drewN ?_ _)) ?_
                  simp only [List.getElem_toArray, List.getElem_cons_succ, List.getElem_cons_zero, Act.put, List.setIfInBounds_toArray, List.set_cons_zero, List.set_cons_succ]
                  refine anyS_take (i := 18) rfl (by kernel_rfl) (fun _ _ _ h => h) (Or.inl ⟨by rfl, fun Y hYb => (by (try dsimp only at hYb); go_simp; rfl)⟩) (by repeat' (first | with_reducible assumption | with_reducible exact Below.refl _ _ | with_reducible refine Below.drew ?_ | with_reducible refine below_drewN ?_ _)) ?_
                  simp only [List.getElem_toArray, List.getElem_cons_succ, List.getElem_cons_zero, Act.put, List.setIfInBounds_toArray, List.set_cons_zero, List.set_cons_succ]
                  refine anyS_take (i := 19) rfl (by kernel_rfl) (fun _ _ _ h => h) (Or.inl ⟨by rfl, fun Y hYb => (by (try dsimp only at hYb); go_simp; rfl)⟩) (by repeat' (first | with_reducible assumption | with_reducible exact Below.refl _ _ | with_reducible refine Below.drew ?_ | with_reducible refine below_drewN ?_ _)) ?_
                  simp only [List.getElem_toArray, List.getElem_cons_succ, List.getElem_cons_zero, Act.put, List.setIfInBounds_toArray, List.set_cons_zero, List.set_cons_succ]
                  refine anyS_take (i := 20) (v := undef) rfl (by kernel_rfl) (fun _ _ _ h => h) (Or.inr ⟨by kernel_rfl, rfl⟩) (by repeat' (first | with_reducible assumption | with_reducible exact Below.refl _ _ | with_reducible refine Below.drew ?_ | with_reducible refine below_drewN ?_ _)) ?_
                  simp only [List.getElem_toArray, List.getElem_cons_succ, List.getElem_cons_zero, Act.put, List.setIfInBounds_toArray, List.set_cons_zero, List.set_cons_succ]
                  refine anyS_take (i := 21) (v := undef) rfl (by kernel_rfl) (fun _ _ _ h => h) (Or.inr ⟨by kernel_rfl, rfl⟩) (by repeat' (first | with_reducible assumption | with_reducible exact Below.refl _ _ | with_reducible refine Below.drew ?_ | with_reducible refine below_drewN ?_ _)) ?_
                  simp only [List.getElem_toArray, List.getElem_cons_succ, List.getElem_cons_zero, Act.put, List.setIfInBounds_toArray, List.set_cons_zero, List.set_cons_succ]
                  refine anyS_take (i := 22) (v := undef) rfl (by kernel_rfl) (fun _ _ _ h => h) (Or.inr ⟨by kernel_rfl, rfl⟩) (by repeat' (first | with_reducible assumption | with_reducible exact Below.refl _ _ | with_reducible refine Below.drew ?_ | with_reducible refine below_drewN ?_ _)) ?_
                  simp only [List.getElem_toArray, List.getElem_cons_succ, List.getElem_cons_zero, Act.put, List.setIfInBounds_toArray, List.set_cons_zero, List.set_cons_succ]
                  refine anyS_take (i := 23) (v := undef) rfl (by kernel_rfl) (fun _ _ _ h => h) (Or.inr ⟨by kernel_rfl, rfl⟩) (by repeat' (first | with_reducible assumption | with_reducible exact Below.refl _ _ | with_reducible refine Below.drew ?_ | with_reducible refine below_drewN ?_ _)) ?_
                  simp only [List.getElem_toArray, List.getElem_cons_succ, List.getElem_cons_zero, Act.put, List.setIfInBounds_toArray, List.set_cons_zero, List.set_cons_succ]
                  refine anyS_take (i := 24) (v := undef) rfl (by kernel_rfl) (fun _ _ _ h => h) (Or.inr ⟨by kernel_rfl, rfl⟩) (by repeat' (first | with_reducible assumption | with_reducible exact Below.refl _ _ | with_reducible refine Below.drew ?_ | with_reducible refine below_drewN ?_ _)) ?_
                  simp only [List.getElem_toArray, List.getElem_cons_succ, List.getElem_cons_zero, Act.put, List.setIfInBounds_toArray, List.set_cons_zero, List.set_cons_succ]
                  refine anyS_take (i := 25) (v := undef) rfl (by kernel_rfl) (fun _ _ _ h => h) (Or.inr ⟨by kernel_rfl, rfl⟩) (by repeat' (first | with_reducible assumption | with_reducible exact Below.refl _ _ | with_reducible refine Below.drew ?_ | with_reducible refine below_drewN ?_ _)) ?_
                  simp only [List.getElem_toArray, List.getElem_cons_succ, List.getElem_cons_zero, Act.put, List.setIfInBounds_toArray, List.set_cons_zero, List.set_cons_succ]
                  refine anyS_take (i := 26) (v := undef) rfl (by kernel_rfl) (fun _ _ _ h => h) (Or.inr ⟨by kernel_rfl, rfl⟩) (by repeat' (first | with_reducible assumption | with_reducible exact Below.refl _ _ | with_reducible refine Below.drew ?_ | with_reducible refine below_drewN ?_ _)) ?_
                  simp only [List.getElem_toArray, List.getElem_cons_succ, List.getElem_cons_zero, Act.put, List.setIfInBounds_toArray, List.set_cons_zero, List.set_cons_succ]
                  refine anyS_take (i := 27) (v := undef) rfl (by kernel_rfl) (fun _ _ _ h => h) (Or.inr ⟨by kernel_rfl, rfl⟩) (by repeat' (first | with_reducible assumption | with_reducible exact Below.refl _ _ | with_reducible refine Below.drew ?_ | with_reducible refine below_drewN ?_ _)) ?_
                  simp only [List.getElem_toArray, List.getElem_cons_succ, List.getElem_cons_zero, Act.put, List.setIfInBounds_toArray, List.set_cons_zero, List.set_cons_succ]
                  refine anyS_take (i := 28) (v := undef) rfl (by kernel_rfl) (fun _ _ _ h => h) (Or.inr ⟨by kernel_rfl, rfl⟩) (by repeat' (first | with_reducible assumption | with_reducible exact Below.refl _ _ | with_reducible refine Below.drew ?_ | with_reducible refine below_drewN ?_ _)) ?_
                  simp only [List.getElem_toArray, List.getElem_cons_succ, List.getElem_cons_zero, Act.put, List.setIfInBounds_toArray, List.set_cons_zero, List.set_cons_succ]
                  refine anyS_take (i := 29) rfl (by kernel_rfl) (fun _ _ _ h => h) (Or.inl ⟨by rfl, fun Y hYb => (by (try dsimp only at hYb); go_simp; rfl)⟩) (by repeat' (first | with_reducible assumption | with_reducible exact Below.refl _ _ | with_reducible refine Below.drew ?_ | with_reducible refine below_drewN ?_ _)) ?_
                  simp only [List.getElem_toArray, List.getElem_cons_succ, List.getElem_cons_zero, Act.put, List.setIfInBounds_toArray, List.set_cons_zero, List.set_cons_succ]
                  refine anyS_done (by kernel_rfl) ?_ _
                  clear r0 r1 r2 s0 s1 s2 s3 rd
                  go_wp2_with fail
                  go_roundw
                  case rel => exact HSKIP.out (by unfold goesB; rw [← HNS.out.2, hge]; rfl) _ (Below.refl _ _).drew
                  case measure => simp [intOf]; omega
                · skip
                  refine anyS_take (i := 17) rfl (by kernel_rfl) (fun _ _ _ h => h) (Or.inl ⟨by rfl, fun Y hYb => (by (try dsimp only at hYb); go_simp; rfl)⟩) (by repeat' (first | with_reducible assumption | with_reducible exact Below.refl _ _ | with_reducible refine Below.drew ?_ | with_reducible refine below_drewN ?_ _)) ?_
                  simp only [List.getElem_toArray, List.getElem_cons_succ, List.getElem_cons_zero, Act.put, List.setIfInBounds_toArray, List.set_cons_zero, List.set_cons_succ]
                  refine anyS_take (i := 18) rfl (by kernel_rfl) (fun _ _ _ h => h) (Or.inl ⟨by rfl, fun Y hYb => (by (try dsimp only at hYb); go_simp; rfl)⟩) (by repeat' (first | with_reducible assumption | with_reducible exact Below.refl _ _ | with_reducible refine Below.drew ?_ | with_reducible refine below_drewN ?_ _)) ?_
                  simp only [List.getElem_toArray, List.getElem_cons_succ, List.getElem_cons_zero, Act.put, List.setIfInBounds_toArray, List.set_cons_zero, List.set_cons_succ]
                  refine anyS_take (i := 19) rfl (by kernel_rfl) (fun _ _ _ h => h) (Or.inl ⟨by rfl, fun Y hYb => (by (try dsimp only at hYb); go_simp; rfl)⟩) (by repeat' (first | with_reducible assumption | with_reducible exact Below.refl _ _ | with_reducible refine Below.drew ?_ | with_reducible refine below_drewN ?_ _)) ?_
                  simp only [List.getElem_toArray, List.getElem_cons_succ, List.getElem_cons_zero, Act.put, List.setIfInBounds_toArray, List.set_cons_zero, List.set_cons_succ]
                  refine anyS_take (i := 20) rfl (by kernel_rfl) (fun _ _ _ h => h) (Or.inl ⟨by rfl, fun Y hYb => (by (try dsimp only at hYb); go_simp; rfl)⟩) (by repeat' (first | with_reducible assumption | with_reducible exact Below.refl _ _ | with_reducible refine Below.drew ?_ | with_reducible refine below_drewN ?_ _)) ?_
                  simp only [List.getElem_toArray, List.getElem_cons_succ, List.getElem_cons_zero, Act.put, List.setIfInBounds_toArray, List.set_cons_zero, List.set_cons_succ]
                  refine anyS_take (i := 21) rfl (by kernel_rfl) (fun _ _ _ h => h) (Or.inl ⟨by rfl, fun Y hYb => (by (try dsimp only at hYb); go_simp; rfl)⟩) (by repeat' (first | with_reducible assumption | with_reducible exact Below.refl _ _ | with_reducible refine Below.drew ?_ | with_reducible refine below_drewN ?_ _)) ?_
                  simp only [List.getElem_toArray, List.getElem_cons_succ, List.getElem_cons_zero, Act.put, List.setIfInBounds_toArray, List.set_cons_zero, List.set_cons_succ]
                  refine anyS_take (i := 22) rfl (by kernel_rfl) (fun _ _ _ h => h) (Or.inl ⟨by rfl, fun Y hYb => (by (try dsimp only at hYb); go_simp; rfl)⟩) (by repeat' (first | with_reducible assumption | with_reducible exact Below.refl _ _ | with_reducible refine Below.drew ?_ | with_reducible refine below_drewN ?_ _)) ?_
                  simp only [List.getElem_toArray, List.getElem_cons_succ, List.getElem_cons_zero, Act.put, List.setIfInBounds_toArray, List.set_cons_zero, List.set_cons_succ]
                  refine anyS_take (i := 23) rfl (by kernel_rfl) (fun _ _ _ h => h) (Or.inl ⟨by rfl, fun Y hYb => (by (try dsimp only at hYb); go_simp; rfl)⟩) (by repeat' (first | with_reducible assumption | with_reducible exact Below.refl _ _ | with_reducible refine Below.drew ?_ | with_reducible refine below_drewN ?_ _)) ?_
                  simp only [List.getElem_toArray, List.getElem_cons_succ, List.getElem_cons_zero, Act.put, List.setIfInBounds_toArray, List.set_cons_zero, List.set_cons_succ]
                  refine anyS_take (i := 24) rfl (by kernel_rfl) (fun _ _ _ h => h) (Or.inl ⟨by rfl, fun Y hYb => (by (try dsimp only at hYb); go_simp; rfl)⟩) (by repeat' (first | with_reducible assumption | with_reducible exact Below.refl _ _ | with_reducible refine Below.drew ?_ | with_reducible refine below_drewN ?_ _)) ?_
                  simp only [List.getElem_toArray, List.getElem_cons_succ, List.getElem_cons_zero, Act.put, List.setIfInBounds_toArray, List.set_cons_zero, List.set_cons_succ]
                  refine anyS_take (i := 25) rfl (by kernel_rfl) (fun _ _ _ h => h) (Or.inl ⟨by rfl, fun Y hYb => (by (try dsimp only at hYb); go_simp; rfl)⟩) (by repeat' (first | with_reducible assumption | with_reducible exact Below.refl _ _ | with_reducible refine Below.drew ?_ | with_reducible refine below_drewN ?_ _)) ?_
                  simp only [List.getElem_toArray, List.getElem_cons_succ, List.getElem_cons_zero, Act.put, List.setIfInBounds_toArray, List.set_cons_zero, List.set_cons_succ]
                  refine anyS_take (i := 26) rfl (by kernel_rfl) (fun _ _ _ h => h) (Or.inl ⟨by rfl, fun Y hYb => (by (try dsimp only at hYb); go_simp; rfl)⟩) (by repeat' (first | with_reducible assumption | with_reducible exact Below.refl _ _ | with_reducible refine Below.drew ?_ | with_reducible refine below_drewN ?_ _)) ?_
                  simp only [List.getElem_toArray, List.getElem_cons_succ, List.getElem_cons_zero, Act.put, List.setIfInBounds_toArray, List.set_cons_zero, List.set_cons_succ]
                  refine anyS_one (i := 27) (by kernel_rfl) rfl (by rfl) (fun K hK => ?_)
                  go_simp
                  refine (HREAD.out _ (hB.drew) (HSN.out.below (Below.refl _ _).drew)).mono ?_
                  rintro e w5 ⟨rfl, hb5⟩
                  dsimp only
                  have hS5 : Below wi.heap.size wi w5 := bvia (Below.refl _ wi).drew hb5
                  refine hK _ _ (fun _ _ => hS5) ?_
                  clear hK K hb5
                  have HGO := hid (show goesB Wd Hd o no N Z (f m) = (!decide (N ≤ s.st) && readyB Wd Hd o no Z.P.length (pF Z.P) s.nd s.st) from by unfold goesB; rw [HNS.out.1, HNS.out.2])
                  generalize readyB Wd Hd o no Z.P.length (pF Z.P) s.nd s.st = R at *
                  cases R
                  · skip
                    refine anyS_take (i := 28) rfl (by kernel_rfl) (fun _ _ _ h => h) (Or.inl ⟨by rfl, fun Y hYb => (by (try dsimp only at hYb); go_simp; rfl)⟩) (by repeat' (first | with_reducible assumption | with_reducible exact Below.refl _ _ | with_reducible refine Below.drew ?_ | with_reducible refine below_drewN ?_ _)) ?_
                    simp only [List.getElem_toArray, List.getElem_cons_succ, List.getElem_cons_zero, Act.put, List.setIfInBounds_toArray, List.set_cons_zero, List.set_cons_succ]
                    refine anyS_take (i := 29) rfl (by kernel_rfl) (fun _ _ _ h => h) (Or.inl ⟨by rfl, fun Y hYb => (by (try dsimp only at hYb); go_simp; rfl)⟩) (by repeat' (first | with_reducible assumption | with_reducible exact Below.refl _ _ | with_reducible refine Below.drew ?_ | with_reducible refine below_drewN ?_ _)) ?_
                    simp only [List.getElem_toArray, List.getElem_cons_succ, List.getElem_cons_zero, Act.put, List.setIfInBounds_toArray, List.set_cons_zero, List.set_cons_succ]
                    refine anyS_done (by kernel_rfl) ?_ _
                    clear r0 r1 r2 s0 s1 s2 s3 rd
                    go_wp2_with fail
                    go_roundw
                    case rel => exact HSKIP.out (by rw [HGO.out]; simp) _ hS5
                    case measure => simp [intOf]; omega
                  · skip
                    refine anyS_take (i := 28) rfl (by kernel_rfl) (fun _ _ _ h => h) (Or.inl ⟨by rfl, fun Y hYb => (by (try dsimp only at hYb); go_simp; rfl)⟩) (by repeat' (first | with_reducible assumption | with_reducible exact Below.refl _ _ | with_reducible refine Below.drew ?_ | with_reducible refine below_drewN ?_ _)) ?_
                    simp only [List.getElem_toArray, List.getElem_cons_succ, List.getElem_cons_zero, Act.put, List.setIfInBounds_toArray, List.set_cons_zero, List.set_cons_succ]
                    refine anyS_take (i := 29) rfl (by kernel_rfl) (fun _ _ _ h => h) (Or.inl ⟨by rfl, fun Y hYb => (by (try dsimp only at hYb); go_simp; rfl)⟩) (by repeat' (first | with_reducible assumption | with_reducible exact Below.refl _ _ | with_reducible refine Below.drew ?_ | with_reducible refine below_drewN ?_ _)) ?_
                    simp only [List.getElem_toArray, List.getElem_cons_succ, List.getElem_cons_zero, Act.put, List.setIfInBounds_toArray, List.set_cons_zero, List.set_cons_succ]
                    refine anyS_done (by kernel_rfl) ?_ _
                    have hgoT := hid (show goesB Wd Hd o no N Z (f m) = true from by rw [HGO.out, hge]; rfl)
                    clear HSKIP HREAD
                    go_upto_region 20 with (fail)
                    have hact : ∀ W, Below wi.heap.size wi W → Calls Tryz.prog 35 #[.agg #[.int .i64 (Wd : Int), .int .i64 (Hd : Int), .slice a n c], .slice ao no co, .slice rl rn rc, .agg #[.int .i64 s.nd, .int .i64 s.st, .slice s.ix s.ni s.ci, .slice s.cl s.nc s.cc], .slice av Z.P.length cP] W (ActS Wd Hd o (ru (s.st.toNat % rn)) no s (pF Z.P) Z.P.length W) := fun W hW => by
                      have hq' : siteQ o no Z.st Z.G (f m) s := by
                        have := HQ.out
                        rw [HQI.out, HIXE.out] at this
                        exact this
                      have BW : Below w.heap.size w W := hB.trans (hW.mono hB.size)
                      have hlt := (goesB_iff.1 hgoT.out).1
                      have hni : s.ni = (ownL o (f m) no).length := hq'.2.2.1
                      exact ref5_act Wd Hd a ao rl av n c no co rn rc Z.P.length cP o ru s (pF Z.P) W ⟨p1, p2⟩ ⟨u1, u2⟩ hn4 HNE.out (by rw [siteQ_B hq']; exact ply_site HNE.out HGR.out (by have := HNL.out.2; omega) HI.out (f m)) (by rw [HNS.out.2]; have := HNL.out.2; omega) (by omega) (ply_post HNE.out HGR.out (by have := HNL.out.2; omega) HI.out) HRR.out (HO.below BW) (HLI.out.below hW) (HSN.out.below hW) (HR.below BW)
                    have HACT := hid hact; clear hact
                    have hs5b := hS5.size
                    refine wp_region_S (fun Y => Below wi.heap.size wi Y) 14 (by kernel_rfl) ?_
                    refine anyS_take (i := 0) rfl (by kernel_rfl) (fun _ _ _ h => h) (Or.inl ⟨by rfl, fun Y hYb => (by (try dsimp only at hYb); go_simp; rfl)⟩) (by repeat' (first | with_reducible assumption | with_reducible exact Below.refl _ _ | with_reducible refine Below.drew ?_ | with_reducible refine below_drewN ?_ _)) ?_
                    simp only [List.getElem_toArray, List.getElem_cons_succ, List.getElem_cons_zero, Act.put, List.setIfInBounds_toArray, List.set_cons_zero, List.set_cons_succ]
                    refine anyS_take (i := 1) rfl (by kernel_rfl) (fun _ _ _ h => h) (Or.inl ⟨by rfl, fun Y hYb => (by (try dsimp only at hYb); go_simp; rfl)⟩) (by repeat' (first | with_reducible assumption | with_reducible exact Below.refl _ _ | with_reducible refine Below.drew ?_ | with_reducible refine below_drewN ?_ _)) ?_
                    simp only [List.getElem_toArray, List.getElem_cons_succ, List.getElem_cons_zero, Act.put, List.setIfInBounds_toArray, List.set_cons_zero, List.set_cons_succ]
                    refine anyS_take (i := 2) rfl (by kernel_rfl) (fun _ _ _ h => h) (Or.inl ⟨by rfl, fun Y hYb => (by (try dsimp only at hYb); go_simp; rfl)⟩) (by repeat' (first | with_reducible assumption | with_reducible exact Below.refl _ _ | with_reducible refine Below.drew ?_ | with_reducible refine below_drewN ?_ _)) ?_
                    simp only [List.getElem_toArray, List.getElem_cons_succ, List.getElem_cons_zero, Act.put, List.setIfInBounds_toArray, List.set_cons_zero, List.set_cons_succ]
                    refine anyS_take (i := 3) rfl (by kernel_rfl) (fun _ _ _ h => h) (Or.inl ⟨by rfl, fun Y hYb => (by (try dsimp only at hYb); go_simp; rfl)⟩) (by repeat' (first | with_reducible assumption | with_reducible exact Below.refl _ _ | with_reducible refine Below.drew ?_ | with_reducible refine below_drewN ?_ _)) ?_
                    simp only [List.getElem_toArray, List.getElem_cons_succ, List.getElem_cons_zero, Act.put, List.setIfInBounds_toArray, List.set_cons_zero, List.set_cons_succ]
                    refine anyS_take (i := 4) rfl (by kernel_rfl) (fun _ _ _ h => h) (Or.inl ⟨by rfl, fun Y hYb => (by (try dsimp only at hYb); go_simp; rfl)⟩) (by repeat' (first | with_reducible assumption | with_reducible exact Below.refl _ _ | with_reducible refine Below.drew ?_ | with_reducible refine below_drewN ?_ _)) ?_
                    simp only [List.getElem_toArray, List.getElem_cons_succ, List.getElem_cons_zero, Act.put, List.setIfInBounds_toArray, List.set_cons_zero, List.set_cons_succ]
                    refine anyS_take (i := 5) rfl (by kernel_rfl) (fun _ _ _ h => h) (Or.inl ⟨by rfl, fun Y hYb => (by (try dsimp only at hYb); go_simp; rfl)⟩) (by repeat' (first | with_reducible assumption | with_reducible exact Below.refl _ _ | with_reducible refine Below.drew ?_ | with_reducible refine below_drewN ?_ _)) ?_
                    simp only [List.getElem_toArray, List.getElem_cons_succ, List.getElem_cons_zero, Act.put, List.setIfInBounds_toArray, List.set_cons_zero, List.set_cons_succ]
                    refine anyS_take (i := 6) rfl (by kernel_rfl) (fun _ _ _ h => h) (Or.inl ⟨by rfl, fun Y hYb => (by (try dsimp only at hYb); go_simp; rfl)⟩) (by repeat' (first | with_reducible assumption | with_reducible exact Below.refl _ _ | with_reducible refine Below.drew ?_ | with_reducible refine below_drewN ?_ _)) ?_
                    simp only [List.getElem_toArray, List.getElem_cons_succ, List.getElem_cons_zero, Act.put, List.setIfInBounds_toArray, List.set_cons_zero, List.set_cons_succ]
                    refine anyS_take (i := 7) rfl (by kernel_rfl) (fun _ _ _ h => h) (Or.inl ⟨by rfl, fun Y hYb => (by (try dsimp only at hYb); go_simp; rfl)⟩) (by repeat' (first | with_reducible assumption | with_reducible exact Below.refl _ _ | with_reducible refine Below.drew ?_ | with_reducible refine below_drewN ?_ _)) ?_
                    simp only [List.getElem_toArray, List.getElem_cons_succ, List.getElem_cons_zero, Act.put, List.setIfInBounds_toArray, List.set_cons_zero, List.set_cons_succ]
                    clear r0 r1 r2 s0 s1 s2 s3 rd
                    apply dup_act (H := ActH o no Z (plyN Wd Hd o no rn ru N Z (f m)) (f m) wi)
                    case main =>
                      intro KEY
                      have hq' := hid (show siteQ o no Z.st Z.G (f m) s from by
                        have := HQ.out
                        rw [HQI.out, HIXE.out] at this
                        exact this)
                      refine anyS_two (i := 8) (j := 13) (by kernel_rfl) rfl rfl (by rfl) (by rfl) (fun K hK => ?_) (fun K hK => ?_)
                      · go_simp
                        refine (HACT.out _ hS5.drew).mono ?_
                        rintro e X6 hAS
                        obtain ⟨E, nd', t', L', Cn, R', ⟨s', v, rfl, f1, f2, f3, f4, f5, f6, f7, f8, f9, f10, hb6⟩, g1, g2, g3⟩ := act_turn hq'.out HI.out.er hgoT.out hAS
                        dsimp only
                        have hs6 : Below wi.heap.size wi X6 := bvia hS5.drew hb6
                        refine hK _ _ (fun _ _ => hs6) ?_
                        clear hK K
                        refine anyS_take (i := 9) rfl (by kernel_rfl) (fun _ _ _ h => h) (Or.inl ⟨by rfl, fun Y hYb => (by (try dsimp only at hYb); go_simp; rfl)⟩) (by repeat' (first | with_reducible assumption | with_reducible exact Below.refl _ _ | with_reducible refine Below.drew ?_ | with_reducible refine below_drewN ?_ _)) ?_
                        simp only [List.getElem_toArray, List.getElem_cons_succ, List.getElem_cons_zero, Act.put, List.setIfInBounds_toArray, List.set_cons_zero, List.set_cons_succ]
                        refine anyS_take (i := 10) rfl (by kernel_rfl) (fun _ _ _ h => h) (Or.inl ⟨by rfl, fun Y hYb => (by (try dsimp only at hYb); go_simp; rfl)⟩) (by repeat' (first | with_reducible assumption | with_reducible exact Below.refl _ _ | with_reducible refine Below.drew ?_ | with_reducible refine below_drewN ?_ _)) ?_
                        simp only [List.getElem_toArray, List.getElem_cons_succ, List.getElem_cons_zero, Act.put, List.setIfInBounds_toArray, List.set_cons_zero, List.set_cons_succ]
                        refine anyS_pure (i := 11) rfl (by kernel_rfl) (fun _ _ _ h => h) (Or.inl ⟨by rfl, fun Y hYb => (by clear hYb; go_simp; rfl)⟩) ?_
                        simp only [List.getElem_toArray, List.getElem_cons_succ, List.getElem_cons_zero, Act.put, List.setIfInBounds_toArray, List.set_cons_zero, List.set_cons_succ]
                        refine anyS_pure (i := 12) rfl (by kernel_rfl) (fun _ _ _ h => h) (Or.inl ⟨by rfl, fun Y hYb => (by clear hYb; go_simp; rfl)⟩) ?_
                        simp only [List.getElem_toArray, List.getElem_cons_succ, List.getElem_cons_zero, Act.put, List.setIfInBounds_toArray, List.set_cons_zero, List.set_cons_succ]
                        refine anyS_one (i := 13) (by kernel_rfl) rfl (by rfl) (fun K hK => ?_)
                        go_simp
                        refine hK _ _ (fun _ _ => balloc hs6 _) ?_
                        clear hK K
                        try simp only [List.setIfInBounds_toArray, List.set_cons_zero, List.set_cons_succ]
                        refine anyS_listed (l' := #[true, true, true, true, true, true, true, true, true, true, true, true, true, true, false, false, false]) (by kernel_rfl) ?_
                        have hh : ActH o no Z (plyN Wd Hd o no rn ru N Z (f m)) (f m) wi (X6.alloc (.cells #[.int .i64 0, .int .i64 0, .slice none 0 0, .slice none 0 0] 30)) X6.heap.size s' v E := actH_mk g1 g2 g3 f1 f3 f4 f5 f6 f7 f8 f9 f10 hb6 (but_below hS5.drew (Nat.le_refl _)) (below_alloc _ _) (Bx.new X6 _ _) (.inl (Nat.le_refl _))
                        generalize X6.alloc (.cells #[.int .i64 0, .int .i64 0, .slice none 0 0, .slice none 0 0] 30) = w6 at hh ⊢
                        generalize X6.heap.size = bx at hh ⊢
                        exact KEY w6 bx s' v E hh
                      · go_simp
                        refine hK _ _ (fun _ _ => balloc hS5.drew _) ?_
                        clear hK K
                        refine anyS_one (i := 8) (by kernel_rfl) rfl (by rfl) (fun K hK => ?_)
                        go_simp
                        refine (HACT.out _ (balloc hS5.drew _)).mono ?_
                        rintro e X6 hAS
                        obtain ⟨E, nd', t', L', Cn, R', ⟨s', v, rfl, f1, f2, f3, f4, f5, f6, f7, f8, f9, f10, hb6⟩, g1, g2, g3⟩ := act_turn hq'.out HI.out.er hgoT.out hAS
                        dsimp only
                        have hs6 : Below wi.heap.size wi X6 := bvia (balloc hS5.drew _) hb6
                        refine hK _ _ (fun _ _ => hs6) ?_
                        clear hK K
                        refine anyS_take (i := 9) rfl (by kernel_rfl) (fun _ _ _ h => h) (Or.inl ⟨by rfl, fun Y hYb => (by (try dsimp only at hYb); go_simp; rfl)⟩) (by repeat' (first | with_reducible assumption | with_reducible exact Below.refl _ _ | with_reducible refine Below.drew ?_ | with_reducible refine below_drewN ?_ _)) ?_
                        simp only [List.getElem_toArray, List.getElem_cons_succ, List.getElem_cons_zero, Act.put, List.setIfInBounds_toArray, List.set_cons_zero, List.set_cons_succ]
                        refine anyS_take (i := 10) rfl (by kernel_rfl) (fun _ _ _ h => h) (Or.inl ⟨by rfl, fun Y hYb => (by (try dsimp only at hYb); go_simp; rfl)⟩) (by repeat' (first | with_reducible assumption | with_reducible exact Below.refl _ _ | with_reducible refine Below.drew ?_ | with_reducible refine below_drewN ?_ _)) ?_
                        simp only [List.getElem_toArray, List.getElem_cons_succ, List.getElem_cons_zero, Act.put, List.setIfInBounds_toArray, List.set_cons_zero, List.set_cons_succ]
                        refine anyS_pure (i := 11) rfl (by kernel_rfl) (fun _ _ _ h => h) (Or.inl ⟨by rfl, fun Y hYb => (by clear hYb; go_simp; rfl)⟩) ?_
                        simp only [List.getElem_toArray, List.getElem_cons_succ, List.getElem_cons_zero, Act.put, List.setIfInBounds_toArray, List.set_cons_zero, List.set_cons_succ]
                        refine anyS_pure (i := 12) rfl (by kernel_rfl) (fun _ _ _ h => h) (Or.inl ⟨by rfl, fun Y hYb => (by clear hYb; go_simp; rfl)⟩) ?_
                        simp only [List.getElem_toArray, List.getElem_cons_succ, List.getElem_cons_zero, Act.put, List.setIfInBounds_toArray, List.set_cons_zero, List.set_cons_succ]
                        refine anyS_listed (l' := #[true, true, true, true, true, true, true, true, true, true, true, true, true, true, false, false, false]) (by kernel_rfl) ?_
                        have hb7 : Bx X6 w5.heap.size #[.int .i64 0, .int .i64 0, .slice none 0 0, .slice none 0 0] := (Bx.new w5.drew _ _).below hb6
                        have hh : ActH o no Z (plyN Wd Hd o no rn ru N Z (f m)) (f m) wi X6 w5.heap.size s' v E := actH_mk g1 g2 g3 f1 f3 f4 f5 f6 f7 f8 f9 f10 hb6 (but_below (balloc hS5.drew _) (Nat.le_refl _)) (Below.refl _ _) hb7 (.inr ⟨hs5b, by simp⟩)
                        clear hb7
                        generalize w5.heap.size = bx at hh ⊢
                        exact KEY X6 bx s' v E hh
                    case key =>
                      intro w6 bx s' v E ⟨k1, k2, k3, k4, k5, k6, k7, k8, k9⟩
                      have hk1 := hid k1; have K2 := hid k2; have K3 := hid k3; have K4 := hid k4; have K5 := hid k5; have K6 := hid k6
                      clear k1 k2 k3 k4 k5 k6
                      have hs67 := k7.size
                      have z0 := k8.at_ 0 rfl; have z1 := k8.at_ 1 rfl; have z2 := k8.at_ 2 rfl; have z3 := k8.at_ 3 rfl; have zf := k8.free; have zl := k8.lt
                      unfold SiteR.cells
                      refine anyS_one (i := 14) (by kernel_rfl) rfl (by rfl) (fun K hK => ?_)
                      go_simp
                      have hs7 : But (fun _ => False) wi ((((w6.setCell ⟨bx, 0, none⟩ (.int .i64 s'.nd)).setCell ⟨bx, 1, none⟩ (.int .i64 s'.st)).setCell ⟨bx, 2, none⟩ (.slice s'.ix s'.ni s'.ci)).setCell ⟨bx, 3, none⟩ (.slice s'.cl s'.nc s'.cc)) :=
                        (((k7.new_ (p := ⟨bx, 0, none⟩) k9 _).new_ (p := ⟨bx, 1, none⟩) k9 _).new_ (p := ⟨bx, 2, none⟩) k9 _).new_ (p := ⟨bx, 3, none⟩) k9 _
                      have hs67 : But (fun b => b = bx) w6 ((((w6.setCell ⟨bx, 0, none⟩ (.int .i64 s'.nd)).setCell ⟨bx, 1, none⟩ (.int .i64 s'.st)).setCell ⟨bx, 2, none⟩ (.slice s'.ix s'.ni s'.ci)).setCell ⟨bx, 3, none⟩ (.slice s'.cl s'.nc s'.cc)) :=
                        (((But.set_ (But.refl (fun z => z = bx) w6) (p := ⟨bx, 0, none⟩) rfl _).set_ (p := ⟨bx, 1, none⟩) rfl _).set_ (p := ⟨bx, 2, none⟩) rfl _).set_ (p := ⟨bx, 3, none⟩) rfl _
                      have ZB := (((k8.set_ 0 (by simp) (.int .i64 s'.nd)).set_ 1 (by simp) (.int .i64 s'.st)).set_ 2 (by simp) (.slice s'.ix s'.ni s'.ci)).set_ 3 (by simp) (.slice s'.cl s'.nc s'.cc)
                      simp only [List.setIfInBounds_toArray, List.set_cons_zero, List.set_cons_succ] at ZB
                      refine hK _ _ (fun h _ => absurd h (by decide)) ?_
                      clear hK K z0 z1 z2 z3 zf zl k8
                      generalize (((w6.setCell ⟨bx, 0, none⟩ (.int .i64 s'.nd)).setCell ⟨bx, 1, none⟩ (.int .i64 s'.st)).setCell ⟨bx, 2, none⟩ (.slice s'.ix s'.ni s'.ci)).setCell ⟨bx, 3, none⟩ (.slice s'.cl s'.nc s'.cc) = w7 at *
                      have hz67 := hs67.size
                      have HL7 := hid (show s'.lies w7 from K4.out.but hs67 fun b off hh => (K5.out b off hh).2.2)
                      have HB7 := hid (show ∀ b off, (s'.ix = some ⟨b, off, none⟩ ∨ s'.cl = some ⟨b, off, none⟩) → wi.heap.size ≤ b ∧ b < w7.heap.size from fun b off hh => ⟨(K5.out b off hh).1, by have := (K5.out b off hh).2.1; omega⟩)
                      have HO7 := hid (show ∀ R', OwnN w6 wi.heap.size v R' → OwnN w7 wi.heap.size v R' from fun R' h => own_butN h hs67 K6.out)
                      clear hs67 K4 K5 K6
                      refine anyS_pure (i := 15) rfl (by kernel_rfl) (fun _ _ _ h => h) (Or.inl ⟨by rfl, fun Y hYb => (by clear hYb; go_simp; rfl)⟩) ?_
                      simp only [List.getElem_toArray, List.getElem_cons_succ, List.getElem_cons_zero, Act.put, List.setIfInBounds_toArray, List.set_cons_zero, List.set_cons_succ]
                      refine anyS_pure (i := 16) rfl (by kernel_rfl) (fun _ _ _ h => h) (Or.inl ⟨by rfl, fun Y hYb => (by clear hYb; go_simp; rfl)⟩) ?_
                      simp only [List.getElem_toArray, List.getElem_cons_succ, List.getElem_cons_zero, Act.put, List.setIfInBounds_toArray, List.set_cons_zero, List.set_cons_succ]
                      refine anyS_done (by kernel_rfl) ?_ _
                      have B67 : Below wi.heap.size wi w7 := ⟨hs7.os, hs7.tape, hs7.output, hs7.size, fun b hb => hs7.block b hb id⟩
                      have B7 : Below w.heap.size w w7 := hB.trans (B67.mono hB.size)
                      have hK7 := HK.out.below B67
                      have hX7 := HX.out.below B67
                      clear hS5 hs5b k7 k9 HACT hs7
                      rcases hk1.out with rfl | rfl
                      · obtain ⟨nd', t', L', Cn, R', hz, e1, e2, e3, e4, e5, e6, ow⟩ := K3.out
                        obtain ⟨hz1, rfl, rfl, hnx2⟩ := hz (by first | rfl | trivial)
                        subst hz1
                        replace ow := HO7.out _ ow
                        obtain ⟨a9, c9, rfl, _⟩ := sn_of_own ow
                        have HNX2 := hid hnx2; have E1 := hid e1; have E2 := hid e2; have E3 := hid e3; have E4 := hid e4; have E5 := hid e5; have E6 := hid e6; have OW := hid ow; have HK7 := hid hK7
                        clear hz hnx2 e1 e2 e3 e4 e5 e6 ow
                        have g1 := ZB.at_ 0 rfl; have g2 := ZB.at_ 1 rfl; have g3 := ZB.at_ 2 rfl; have g4 := ZB.at_ 3 rfl; have g5 := ZB.lt
                        obtain ⟨hgs7, d0, d1, d2, d3⟩ := HK7.out.si.at4 (i := q) (by rw [HZL.out]; exact hq8) rfl
                        have hrow : w7.ownsRow (w.heap.size + 1) 30 4 (.slice (some ⟨gs, 0, none⟩) M8 cS) M8 (flatS zs) := by
                          have := HK7.out.si.1
                          unfold OwnS at this
                          rwa [HZL.out] at this
                        have fz0 := hrow.frozenAt (q * 4); have fz1 := hrow.frozenAt (q * 4 + 1); have fz2 := hrow.frozenAt (q * 4 + 2); have fz3 := hrow.frozenAt (q * 4 + 3)
                        clear hrow
                        have hgw : gs < wi.heap.size := hgs
                        go_wp2_with fail
                        have hgw2 : w.heap.size ≤ gs := by omega
                        have hgx : gs ≠ w.heap.size := by omega
                        have BF : Below w.heap.size w ((((w7.setCell ⟨gs, q * 4, none⟩ (.int .i64 s'.nd)).setCell ⟨gs, q * 4 + 1, none⟩ (.int .i64 s'.st)).setCell ⟨gs, q * 4 + 2, none⟩ (.slice s'.ix s'.ni s'.ci)).setCell ⟨gs, q * 4 + 3, none⟩ (.slice s'.cl s'.nc s'.cc)) :=
                          bset (bset (bset (bset B7 (p := ⟨gs, q * 4, none⟩) hgw2 (.int .i64 s'.nd)) (p := ⟨gs, q * 4 + 1, none⟩) hgw2 (.int .i64 s'.st)) (p := ⟨gs, q * 4 + 2, none⟩) hgw2 (.slice s'.ix s'.ni s'.ci)) (p := ⟨gs, q * 4 + 3, none⟩) hgw2 (.slice s'.cl s'.nc s'.cc)
                        have hX8 : Bx ((((w7.setCell ⟨gs, q * 4, none⟩ (.int .i64 s'.nd)).setCell ⟨gs, q * 4 + 1, none⟩ (.int .i64 s'.st)).setCell ⟨gs, q * 4 + 2, none⟩ (.slice s'.ix s'.ni s'.ci)).setCell ⟨gs, q * 4 + 3, none⟩ (.slice s'.cl s'.nc s'.cc)) w.heap.size #[.int .i64 (Wd : Int), .int .i64 (Hd : Int), .slice a n c] :=
                          (((hX7.far2 (p := ⟨gs, q * 4, none⟩) hgx (.int .i64 s'.nd)).far2 (p := ⟨gs, q * 4 + 1, none⟩) hgx (.int .i64 s'.st)).far2 (p := ⟨gs, q * 4 + 2, none⟩) hgx (.slice s'.ix s'.ni s'.ci)).far2 (p := ⟨gs, q * 4 + 3, none⟩) hgx (.slice s'.cl s'.nc s'.cc)
                        have KN : RK (w.heap.size + 1) o no (plyN Wd Hd o no rn ru N Z (f m)) (.slice (some ⟨gs, 0, none⟩) M8 cS) (zs.set q s') (.slice a9 R'.length c9) ((((w7.setCell ⟨gs, q * 4, none⟩ (.int .i64 s'.nd)).setCell ⟨gs, q * 4 + 1, none⟩ (.int .i64 s'.st)).setCell ⟨gs, q * 4 + 2, none⟩ (.slice s'.ix s'.ni s'.ci)).setCell ⟨gs, q * 4 + 3, none⟩ (.slice s'.cl s'.nc s'.cc)) := by
                          rw [HNX2.out]
                          exact HK7.out.next (i := q) (B0 := wi.heap.size) (s := s') (t := Z.st (f m) + 1) (nd := f m) (Cn := Cn) (P' := R') (by rw [← HM8.out]; exact hq8) (by rw [HQI.out]; exact HIXE.out) HL7.out E1.out E2.out E3.out E4.out E5.out E6.out HB7.out OW.out hgs
                        generalize ((((w7.setCell ⟨gs, q * 4, none⟩ (.int .i64 s'.nd)).setCell ⟨gs, q * 4 + 1, none⟩ (.int .i64 s'.st)).setCell ⟨gs, q * 4 + 2, none⟩ (.slice s'.ix s'.ni s'.ci)).setCell ⟨gs, q * 4 + 3, none⟩ (.slice s'.cl s'.nc s'.cc)) = w9 at KN hX8 BF ⊢
                        have I2 := ply_one HNE.out HGR.out (by have := HNL.out.2; omega) (fun _ => HI.out) (f m) K2.out
                        have hqe := HQI.out
                        have hce := HCN.out
                        have hPm : PL (m + 1) = plyN Wd Hd o no rn ru N Z (f m) := by rw [HPS.out, ← HZZ.out]
                        have hcP : (PL (m + 1)).cnt = Z.cnt + 1 := by rw [hPm, HNX2.out]
                        have hcm : Z.cnt ≤ m := by rw [HZZ.out]; exact hce
                        rw [← hPm] at KN I2
                        go_roundw
                        case rel => exact ⟨q + 1, by omega, by go_num, PL (m + 1), .inr ⟨by omega, rfl⟩, by rw [hcP]; rfl, by omega, I2, ⟨_, KN⟩, BF, hX8⟩
                        case measure => simp [intOf]; omega
                      · have hPJ : PL j = PL (m + 1) := by
                          have := HPE.out (m + 1) (j - (m + 1)) (by rw [HPS.out, ← HZZ.out, K2.out]; decide)
                          rwa [show m + 1 + (j - (m + 1)) = j by omega] at this
                        have HPP := hid (show PlyPost o no (plyL Wd Hd o no rn ru N (ply0 g) ((List.range j).map f)) w (.returned (.tuple #[.slice none 0 0, .slice none 0 0, .int .i64 0, .int .i64 4])) w7 from by
                          rw [HPJ.out, hPJ]
                          exact .inr ⟨by rw [HPS.out, ← HZZ.out, K2.out], rfl, B7⟩)
                        clear hPJ
                        go_wp2_with fail
                        exact bodyPost_ret (v := .tuple #[.slice none 0 0, .slice none 0 0, .int .i64 0, .int .i64 4]) (by simp [results, Tryz.results15, go_sem]) rfl (.inl ⟨by first | exact HE0.out | exact HE0b.out, HPP.out⟩)
            · obtain rfl : q = M8 := (by omega)
              have hz2 : Z = PL (m + 1) := hZ.elim (fun h => absurd h.1 (by omega)) (fun h => h.2)
              subst hz2
              have HI := hid hI; have HK := hid hK; have HX := hid hX
              clear hI hK hX hZ
              go_wp2_with fail
              go_roundw
              case rel => exact ⟨m + 1, by omega, by go_num, rfl, hzc, HI.out, ⟨zs, HK.out⟩, hB, HX.out⟩
              case measure => simp [intOf]; omega
        · obtain rfl : m = j := (by omega)
          obtain ⟨av, cP, rfl, _⟩ := sn_of_own hK.po
          have HPP := hid (show PlyPost o no (plyL Wd Hd o no rn ru N (ply0 g) ((List.range m).map f)) w (.returned (.tuple #[.slice (some ⟨gs, 0, none⟩) M8 cS, .slice av (PL m).P.length cP, .int .i64 ((PL m).cnt : Int), .int .i64 0])) wo from by
            rw [HPJ.out]
            exact .inl ⟨hI.er, _, ys, _, rfl, hK.si.mono (by omega), own_mono hK.po (by omega), hB⟩)
          clear hK hX hI H0 HI0 X0L X0
          go_wp2_with fail
          exact bodyPost_ret (v := .tuple #[.slice (some ⟨gs, 0, none⟩) M8 cS, .slice av (PL m).P.length cP, .int .i64 ((PL m).cnt : Int), .int .i64 0]) (by simp [results, Tryz.results15, go_sem]) rfl (.inl ⟨by first | exact HE0.out | exact HE0b.out, HPP.out⟩)
end Go.Proofs.YtmmjaobpoiofdaaGreat
