/- Walks of the share layer: Spare of the program and of the reference. -/
import Derived.Test.YtgpcmkoimgnlbaaSWts9
namespace Go.Proofs.Ytgpcmkoimgnlbaa
open Go Go.RowKit
set_option linter.unusedVariables false
def ovr (G F : Nat → Int) (k : Nat) : Nat → Int := fun j => if j < k then G j else F j
theorem ovr_zero (G F : Nat → Int) : ovr G F 0 = F := by funext j; simp [ovr]
theorem ovr_succ (G F : Nat → Int) (k : Nat) : ovr G F (k + 1) = upd (ovr G F k) k (G k) := by
  funext j; unfold upd ovr
  by_cases e : j = k
  · subst e; simp
  · simp only [if_neg e, show (j < k + 1) = (j < k) from propext ⟨by omega, by omega⟩]
theorem ovr_at (G F : Nat → Int) (k : Nat) : ovr G F k k = F k := by simp [ovr]
theorem ovr_end {G F : Nat → Int} {k j : Nat} (h : j < k) : ovr G F k j = G j := by simp [ovr, h]
/-- what Spare gives -/
def spR (f : Nat → Int) (n m : Nat) (c : Nat → Int) : List Int := (wtR f n m c).map fun x => pkR f n m c - x
theorem ro_own {W : World} {base : Nat} {v : Value} {xs : List Int} (h : W.ownsRow base 3 1 v xs.length (xs.map vInt)) (hn : 0 < xs.length) :
    ∃ g cap, v = .slice (some ⟨g, 0, none⟩) xs.length cap ∧ base ≤ g ∧ Ro W g xs.length (fun k => xs.getD k 0) := by
  obtain ⟨g, cap, rfl, hb, hlt⟩ := h.form hn
  refine ⟨g, cap, rfl, hb, hlt, fun k hk => ?_, fun i => h.frozenAt i⟩
  rw [h.cellAt k (by omega)]
  simp [vInt, List.getElem?_eq_getElem hk, List.getD_eq_getElem?_getD]
theorem spare_get {P : Int} (L : List Int) {j : Nat} (h : j < L.length) : (L.map fun x => P - x).getD j 0 = P - L.getD j 0 := by
  simp [List.getD_eq_getElem?_getD, List.getElem?_eq_getElem h]
theorem wtR_bd {f c : Nat → Int} {n m : Nat} : (∀ k, k < (wtR f n m c).length → 0 ≤ (wtR f n m c).getD k 0 ∧ (wtR f n m c).getD k 0 ≤ 64000000000) ∧ 0 ≤ pkR f n m c ∧ pkR f n m c ≤ 64000000000 := by
  by_cases hv : (vL n f && vK n m c) = true
  · have e1 : wtR f n m c = wtL f n m c (m + 1) := by rw [wtR, if_pos hv]
    have e2 : pkR f n m c = peakL f n m c := by rw [pkR, if_pos hv]
    rw [Bool.and_eq_true] at hv
    have hV := (vL_iff _ _).1 hv.1
    have hK := (vK_iff _ _ _).1 hv.2
    have hs := (sumTo_most hV.2.2 n (Nat.le_refl _)).2
    have h2 := hV.2.1
    have hw : ∀ j, 0 ≤ wt f n m c j ∧ wt f n m c j ≤ 64000000000 := fun j => by
      have h3 := wt_nonneg (okF_pos hV.2.2) hK j
      have h4 := wt_le (okF_pos hV.2.2) hK j
      omega
    rw [e1, e2, wtL_length]
    refine ⟨fun k hk => ?_, mxTo_nonneg _ _, (mxTo_le (by omega) _).2 fun i hi => (hw i).2⟩
    rw [wtL_get _ _ _ _ _ hk]
    exact hw k
  · have e1 : wtR f n m c = [] := by rw [wtR, if_neg hv]
    have e2 : pkR f n m c = 0 := by rw [pkR, if_neg hv]
    rw [e1, e2]
    exact ⟨fun k hk => absurd hk (by simp), by omega, by omega⟩
set_option maxRecDepth 100000 in
set_option maxHeartbeats 4000000 in
theorem ref9_Spare (a ac : Option Addr) (n m ca cc : Nat) (f c : Nat → Int) (w : World) (hn : n ≤ 100000000) (hm : m ≤ 100000000) (H : Sl w a n f) (HC : Sl w ac m c) :
    Calls Try.prog 24 #[.slice a n ca, .slice ac m cc] w (ListPost (spR f n m c) (askE (vL n f) (vK n m c)) w) := by
  have hw := fun W H HC => ref9_Weights a ac n m ca cc f c W hn hm H HC
  have hl := wtR_length f n m c
  have hp := hid (wtR_peak f n m c)
  obtain ⟨hbd, p0, p1⟩ := wtR_bd (f := f) (c := c) (n := n) (m := m)
  have hS : spR f n m c = (wtR f n m c).map fun x => pkR f n m c - x := rfl
  rw [hS]
  generalize wtR f n m c = L at *
  generalize pkR f n m c = P at *
  generalize askE (vL n f) (vK n m c) = er at *
  have HBD := hid hbd; clear hbd hS
  go_enter Try.func24, Try.ntmps24
  go_wp2_with fail
  refine (hw _ H HC).mono ?_
  rintro e w1 ⟨v, rfl, hv, hb1⟩
  rcases hv with ⟨rfl, rfl⟩ | ⟨g, rfl, hg, hr⟩
  · go_wp2_with fail
    refine (ref9_greatest none 0 0 (fun _ => 0) _ (by omega) (fun k hk => by omega)).mono ?_
    rintro e w2 ⟨rfl, rfl⟩
    go_wp2_with fail
    go_loop [9] (fun i => i = .int .i64 0) (fun i => 0)
    case atStart => rfl
    case round =>
      subst hrel
      go_wp2_with fail
      go_ret2
      exact listPost_nil hb1
  · go_wp2_with fail
    refine (ref9_greatest _ L.length _ _ _ (by omega) hr.sl).mono ?_
    rintro e w2 ⟨rfl, rfl⟩
    have e3 := hp.out
    rw [e3]
    clear e3
    go_wp2_with fail
    go_loopw [9] (fun i wr => ∃ x : Nat, x ≤ L.length ∧ i = .int .i64 x ∧ Ro wr g L.length (ovr (fun j => P - L.getD j 0) (fun j => L.getD j 0) x) ∧ Below w.heap.size w wr) (fun i _ => L.length - (intOf i).toNat)
    case atStart => exact ⟨0, Nat.zero_le _, rfl, by rw [ovr_zero]; exact hr, hb1⟩
    case round =>
      obtain ⟨x, hx, rfl, hrx, hb⟩ := hrel
      by_cases hlt : x < L.length
      · have row := hrx.at_ x hlt
        rw [ovr_at] at row
        have fr := hrx.free
        have hset := hrx.set_ x (P - L.getD x 0)
        have hs2 := ovr_succ (fun j => P - L.getD j 0) (fun j => L.getD j 0) x
        rw [← hs2] at hset
        have HS := hid hset
        obtain ⟨b0, b1⟩ := HBD.out x hlt
        clear hset hs2
        generalize L.getD x 0 = u at *
        go_wp2_with fail
        go_roundw
        case rel => exact ⟨x + 1, by omega, by go_num, HS.out, hb.setCell hg _⟩
        case measure => simp [intOf] <;> omega
      · obtain rfl : x = L.length := (by omega)
        go_wp2_with fail
        go_ret2
        refine ⟨some ⟨g, 0, none⟩, L.length, by simp, ?_, hb⟩
        have h9 := hrx.congr (g := fun j => (L.map fun x => P - x).getD j 0) (fun j hj => by rw [ovr_end hj, spare_get L hj])
        rw [List.length_map]
        exact h9.sl
set_option maxRecDepth 100000 in
set_option maxHeartbeats 4000000 in
theorem share_Spare (a ac : Option Addr) (n m ca cc : Nat) (f c : Nat → Int) (w : World) (hn : n ≤ 100000000) (hm : m ≤ 100000000) (hca : n ≤ ca) (hca2 : ca ≤ maxLen) (H : Sl w a n f) (HC : Sl w ac m c) :
    Calls Try.prog 23 #[.slice a n ca, .slice ac m cc] w (ListPost (spR f n m c) (askE (vL n f) (vK n m c)) w) := by
  have hl := wtR_length f n m c
  have hp := hid (wtR_peak f n m c)
  obtain ⟨hbd, p0, p1⟩ := wtR_bd (f := f) (c := c) (n := n) (m := m)
  have hS : spR f n m c = (wtR f n m c).map fun x => pkR f n m c - x := rfl
  by_cases hv : (vL n f && vK n m c) = true
  · have e1 : wtR f n m c = wtL f n m c (m + 1) := by rw [wtR, if_pos hv]
    rw [Bool.and_eq_true] at hv
    obtain ⟨hv1, hv2⟩ := hv
    have hV := (vL_iff _ _).1 hv1
    obtain ⟨b, off, rfl, hb, _⟩ := H 0 hV.1
    have hask := fun W H HC => share_asked (some ⟨b, off, none⟩) ac n m ca cc f c W hn hm H HC
    rw [hv1, hv2] at hask ⊢
    have hw := fun W H HC => share_weights b off n ca m cc ac f c W hV.2.1 hV.2.2 hca hca2 ((vK_iff _ _ _).1 hv2) H HC
    have h0 : 0 < (wtR f n m c).length := by rw [e1, wtL_length]; omega
    rw [← e1] at hw
    clear e1
    rw [hS]
    generalize wtR f n m c = L at *
    generalize pkR f n m c = P at *
    have HBD := hid hbd; clear hbd hS hV
    go_enter Try.func23, Try.ntmps23
    go_wp2_with fail
    refine (hask _ H HC).mono ?_
    rintro e w1 ⟨rfl, hb1⟩
    go_wp2_with fail
    refine (hw _ (H.below hb1) (HC.below hb1)).mono ?_
    rintro e w2 ⟨v, rfl, hown, hb2⟩
    obtain ⟨g, cap, rfl, hg1, hr⟩ := ro_own hown h0
    have hb2' := bvia hb1 hb2
    have hg : w.heap.size ≤ g := by have := hb1.size; omega
    go_wp2_with fail
    refine (slices_max _ L.length cap _ _ (by omega) h0 HBD.out hr.sl).mono ?_
    rintro e w3 ⟨rfl, rfl⟩
    have e3 := hp.out
    rw [e3]
    clear e3 hb1 hb2 hown
    go_wp2_with fail
    go_loopw [9, 23] (fun _ i wr => ∃ x : Nat, x ≤ L.length ∧ i = .int .i64 x ∧ Ro wr g L.length (ovr (fun j => P - L.getD j 0) (fun j => L.getD j 0) x) ∧ Below w.heap.size w wr) (fun _ i _ => L.length - (intOf i).toNat)
    case atStart => exact ⟨0, Nat.zero_le _, rfl, by rw [ovr_zero]; exact hr, hb2'⟩
    case round =>
      obtain ⟨x, hx, rfl, hrx, hb⟩ := hrel
      by_cases hlt : x < L.length
      · have row := hrx.at_ x hlt
        rw [ovr_at] at row
        have fr := hrx.free
        have hset := hrx.set_ x (P - L.getD x 0)
        have hs2 := ovr_succ (fun j => P - L.getD j 0) (fun j => L.getD j 0) x
        rw [← hs2] at hset
        have HS := hid hset
        obtain ⟨b0, b1⟩ := HBD.out x hlt
        clear hset hs2
        generalize L.getD x 0 = u at *
        go_wp2_with fail
        go_roundw
        case rel => exact ⟨x + 1, by omega, by go_num, HS.out, hb.setCell hg _⟩
        case measure => simp [intOf] <;> omega
      · obtain rfl : x = L.length := (by omega)
        go_wp2_with fail
        go_ret2
        refine ⟨some ⟨g, 0, none⟩, cap, by simp <;> rfl, ?_, hb⟩
        have h9 := hrx.congr (g := fun j => (L.map fun x => P - x).getD j 0) (fun j hj => by rw [ovr_end hj, spare_get L hj])
        rw [List.length_map]
        exact h9.sl
  · have hE := hid (show spR f n m c = [] by rw [hS, wtR, if_neg hv]; rfl)
    have hne := ask_bad hv
    have hask := fun W H HC => share_asked a ac n m ca cc f c W hn hm H HC
    clear hS hp hl hbd p0 p1
    generalize askE (vL n f) (vK n m c) = er at *
    have hb : (er != 0) = true := by simpa using hne
    clear hne
    go_enter Try.func23, Try.ntmps23
    go_wp2_with fail
    refine (hask _ H HC).mono ?_
    rintro e w1 ⟨rfl, hb1⟩
    go_wp2_with fail
    go_ret2
    rw [hE.out]
    exact listPost_nil hb1
end Go.Proofs.Ytgpcmkoimgnlbaa
