/- Walks of the share layer: Peak, Weights and Nodes. -/
import Derived.Test.YtgpcmkoimgnlbaaSWts
import Derived.Test.YtgpcmkoimgnlbaaSWalk6
namespace Go.Proofs.Ytgpcmkoimgnlbaa
open Go Go.RowKit
set_option linter.unusedVariables false
theorem mxTo_one {f : Nat → Int} (h : 0 ≤ f 0) : mxTo f 1 = f 0 := by
  show (if (0 : Int) < f 0 then f 0 else 0) = f 0
  rcases Int.lt_or_le 0 (f 0) with h' | h'
  · rw [if_pos h']
  · rw [if_neg (by omega)]; omega
theorem mxTo_le2 {f : Nat → Int} {B : Int} {n : Nat} (hB : 0 ≤ B) (h : ∀ k, k < n → f k ≤ B) : ∀ k, k ≤ n → mxTo f k ≤ B := fun k hk => (mxTo_le hB k).2 fun i hi => h i (by omega)
set_option maxRecDepth 100000 in
theorem slices_max (a : Option Addr) (n ca : Nat) (f : Nat → Int) (w : World) (hn : n ≤ 100000) (h0 : 0 < n) (hf : ∀ k, k < n → 0 ≤ f k ∧ f k ≤ 64000000000) (H : Sl w a n f) : Calls Try.prog 50 #[.slice a n ca] w fun e w' => e = .returned (.int .i64 (mxTo f n)) ∧ w = w' := by
  obtain ⟨b, off, rfl, hb, hc0⟩ := H 0 h0
  rw [Nat.add_zero] at hc0
  have hf0 := hf 0 h0
  have h1 := hid (mxTo_one (f := f) hf0.1)
  have HF := hid hf; clear hf
  go_enter Try.func50, Try.ntmps50
  go_wp2
  go_loop [3, 4] (fun m i => ∃ k : Nat, 1 ≤ k ∧ k ≤ n ∧ i = .int .i64 k ∧ m = .int .i64 (mxTo f k)) (fun _ i => n - (intOf i).toNat)
  case atStart => exact ⟨1, by omega, h0, rfl, by rw [h1.out]⟩
  case round =>
    obtain ⟨k, hk1, hk, rfl, rfl⟩ := hrel
    by_cases hlt : k < n
    · obtain ⟨b2, off2, e2, hb2, hc⟩ := H k hlt
      injection e2 with e2; injection e2 with e21 e22 _
      subst e21 e22
      have hm : mxTo f (k + 1) = if mxTo f k < f k then f k else mxTo f k := rfl
      have HM := hid hm; clear hm
      generalize hx : mxTo f k = x at HM ⊢
      have HX := hid hx; clear hx
      go_wp2
      all_goals
        go_round
        case rel =>
          refine ⟨k + 1, by omega, by omega, by go_num, ?_⟩
          rw [HM.out] <;> first
            | rfl
            | (rw [if_pos (by omega)])
            | (rw [if_neg (by omega)])
            | (congr 1; split <;> omega)
        case measure => simp [intOf]; omega
    · obtain rfl : k = n := (by omega)
      go_wp2
      go_ret
      exact ⟨rfl, rfl⟩
theorem wtL_get (f : Nat → Int) (n m : Nat) (c : Nat → Int) (k : Nat) {j : Nat} (h : j < k) : (wtL f n m c k).getD j 0 = wt f n m c j := by
  simp [wtL, List.getD_eq_getElem?_getD, h]
/-- what Peak gives -/
def pkR (f : Nat → Int) (n m : Nat) (c : Nat → Int) : Int := if vL n f && vK n m c then peakL f n m c else 0
def wtR (f : Nat → Int) (n m : Nat) (c : Nat → Int) : List Int := if vL n f && vK n m c then wtL f n m c (m + 1) else []
set_option maxRecDepth 100000 in
set_option maxHeartbeats 1000000 in
theorem share_Weights (a ac : Option Addr) (n m ca cc : Nat) (f c : Nat → Int) (w : World) (hn : n ≤ 100000000) (hm : m ≤ 100000000) (hca : n ≤ ca) (hca2 : ca ≤ maxLen) (H : Sl w a n f) (HC : Sl w ac m c) :
    Calls Try.prog 18 #[.slice a n ca, .slice ac m cc] w (ListPost (wtR f n m c) (askE (vL n f) (vK n m c)) w) := by
  by_cases hv : (vL n f && vK n m c) = true
  · have hE := hid (show wtR f n m c = wtL f n m c (m + 1) by rw [wtR, if_pos hv])
    rw [Bool.and_eq_true] at hv
    obtain ⟨hv1, hv2⟩ := hv
    have hV := (vL_iff _ _).1 hv1
    obtain ⟨b, off, rfl, hb, _⟩ := H 0 hV.1
    have hask := fun W H HC => share_asked (some ⟨b, off, none⟩) ac n m ca cc f c W hn hm H HC
    rw [hv1, hv2] at hask ⊢
    have hw := fun W H HC => share_weights b off n ca m cc ac f c W hV.2.1 hV.2.2 hca hca2 ((vK_iff _ _ _).1 hv2) H HC
    generalize wtL f n m c (m + 1) = L at *
    go_enter Try.func18, Try.ntmps18
    go_wp2_with fail
    refine (hask _ H HC).mono ?_
    rintro e w1 ⟨rfl, hb1⟩
    go_wp2_with fail
    refine (hw _ (H.below hb1) (HC.below hb1)).mono ?_
    rintro e w2 ⟨v, rfl, hown, hb2⟩
    go_wp2_with fail
    go_ret2
    rw [hE.out]
    exact listPost_own hown (bvia hb1 hb2)
  · have hE := hid (show wtR f n m c = [] by rw [wtR, if_neg hv])
    have hne : askE (vL n f) (vK n m c) ≠ 0 := by
      intro h
      unfold askE at h
      split at h
      · rename_i h1
        split at h
        · rename_i h2; exact hv (by rw [h1, h2]; rfl)
        · cases h
      · cases h
    have hask := fun W H HC => share_asked a ac n m ca cc f c W hn hm H HC
    generalize askE (vL n f) (vK n m c) = er at *
    have hb : (er != 0) = true := by simpa using hne
    clear hne
    go_enter Try.func18, Try.ntmps18
    go_wp2_with fail
    refine (hask _ H HC).mono ?_
    rintro e w1 ⟨rfl, hb1⟩
    go_wp2_with fail
    go_ret2
    rw [hE.out]
    exact listPost_nil hb1
set_option maxRecDepth 100000 in
set_option maxHeartbeats 1000000 in
theorem share_Peak (a ac : Option Addr) (n m ca cc : Nat) (f c : Nat → Int) (w : World) (hn : n ≤ 100000000) (hm : m ≤ 100000000) (hca : n ≤ ca) (hca2 : ca ≤ maxLen) (H : Sl w a n f) (HC : Sl w ac m c) :
    Calls Try.prog 17 #[.slice a n ca, .slice ac m cc] w fun e w' => e = .returned (.tuple #[.int .i64 (pkR f n m c), .int .i64 (askE (vL n f) (vK n m c))]) ∧ Below w.heap.size w w' := by
  by_cases hv : (vL n f && vK n m c) = true
  · have hE := hid (show pkR f n m c = peakL f n m c by rw [pkR, if_pos hv])
    rw [Bool.and_eq_true] at hv
    obtain ⟨hv1, hv2⟩ := hv
    have hV := (vL_iff _ _).1 hv1
    have hK := (vK_iff _ _ _).1 hv2
    obtain ⟨b, off, rfl, hb, _⟩ := H 0 hV.1
    have hask := fun W H HC => share_asked (some ⟨b, off, none⟩) ac n m ca cc f c W hn hm H HC
    rw [hv1, hv2] at hask ⊢
    have hw := fun W H HC => share_weights b off n ca m cc ac f c W hV.2.1 hV.2.2 hca hca2 hK H HC
    have hll := wtL_length f n m c (m + 1)
    have hmx : mxTo (fun k => (wtL f n m c (m + 1)).getD k 0) (wtL f n m c (m + 1)).length = peakL f n m c := by
      rw [hll]; exact mxTo_congr _ fun i hi => wtL_get f n m c _ hi
    have hbd : ∀ k, k < (wtL f n m c (m + 1)).length → 0 ≤ (wtL f n m c (m + 1)).getD k 0 ∧ (wtL f n m c (m + 1)).getD k 0 ≤ 64000000000 := fun k hk => by
      rw [hll] at hk
      rw [wtL_get f n m c _ hk]
      have h1 := wt_nonneg (okF_pos hV.2.2) hK k
      have h2 := wt_le (okF_pos hV.2.2) hK k
      have h3 := (sumTo_most hV.2.2 n (Nat.le_refl _)).2
      have := hV.2.1
      omega
    have hm16 := hK.1
    have hl0 : 0 < (wtL f n m c (m + 1)).length ∧ (wtL f n m c (m + 1)).length ≤ 100000 := by omega
    generalize wtL f n m c (m + 1) = L at *
    obtain ⟨l0, l1⟩ := hl0
    have HMX := hid hmx; have HBD := hid hbd; clear hmx hbd hll hK hV
    go_enter Try.func17, Try.ntmps17
    go_wp2_with fail
    refine (hask _ H HC).mono ?_
    rintro e w1 ⟨rfl, hb1⟩
    go_wp2_with fail
    refine (hw _ (H.below hb1) (HC.below hb1)).mono ?_
    rintro e w2 ⟨v, rfl, hown, hb2⟩
    obtain ⟨a2, c2, rfl, S2⟩ := sl_of_own hown
    go_wp2_with fail
    refine (slices_max a2 L.length c2 _ _ l1 l0 HBD.out S2).mono ?_
    rintro e w3 ⟨rfl, rfl⟩
    go_wp2_with fail
    go_ret2
    have e3 := HMX.out
    simp only [List.getD_eq_getElem?_getD] at e3
    rw [hE.out, ← e3]
    exact ⟨rfl, bvia hb1 hb2⟩
  · have hE := hid (show pkR f n m c = 0 by rw [pkR, if_neg hv])
    have hne : askE (vL n f) (vK n m c) ≠ 0 := by
      intro h
      unfold askE at h
      split at h
      · rename_i h1
        split at h
        · rename_i h2; exact hv (by rw [h1, h2]; rfl)
        · cases h
      · cases h
    have hask := fun W H HC => share_asked a ac n m ca cc f c W hn hm H HC
    generalize askE (vL n f) (vK n m c) = er at *
    have hb : (er != 0) = true := by simpa using hne
    clear hne
    go_enter Try.func17, Try.ntmps17
    go_wp2_with fail
    refine (hask _ H HC).mono ?_
    rintro e w1 ⟨rfl, hb1⟩
    go_wp2_with fail
    go_ret2
    rw [hE.out]
    exact ⟨rfl, hb1⟩
/-- what Nodes gives -/
def ndR (er : Int) (L : List Int) : Int := if er = 0 then (L.length : Int) + 1 else 0
theorem gr_length {f : Nat → Int} {M : Int} : ∀ i cs now, gr f M i = some (cs, now) → cs.length ≤ i
  | 0, cs, now, e => by simp only [gr, Option.some.injEq, Prod.mk.injEq] at e; rw [← e.1]; simp
  | i + 1, cs, now, e => by
    simp only [gr] at e
    split at e
    · cases e
    · rename_i cs0 now0 e0
      have ih := gr_length i cs0 now0 e0
      split at e
      · cases e
      · split at e
        · simp only [Option.some.injEq, Prod.mk.injEq] at e; rw [← e.1]; simp; omega
        · simp only [Option.some.injEq, Prod.mk.injEq] at e; rw [← e.1]; omega
theorem gdL_length (f : Nat → Int) (n : Nat) (M : Int) : (gdL f n M).length ≤ n := by
  unfold gdL; split
  · unfold grL
    split
    · simp
    · rename_i cs now e; exact gr_length n cs now e
  · simp
set_option maxRecDepth 100000 in
theorem share_Nodes (a : Option Addr) (n ca : Nat) (M : Int) (f : Nat → Int) (w : World) (hn : n ≤ 100000000) (H : Sl w a n f) :
    Calls Try.prog 32 #[.slice a n ca, .int .i64 M] w fun e w' => e = .returned (.tuple #[.int .i64 (ndR (gdE (vL n f) (within M 0 64000000000) (grB f M n)) (gdL f n M)), .int .i64 (gdE (vL n f) (within M 0 64000000000) (grB f M n))]) ∧ Below w.heap.size w w' := by
  have hg := fun W H => share_Greedy a n ca M f W hn H
  have hl : (gdL f n M).length ≤ 100000000 := Nat.le_trans (gdL_length f n M) hn
  generalize gdE (vL n f) (within M 0 64000000000) (grB f M n) = er at *
  generalize gdL f n M = L at *
  by_cases he : er = 0
  · subst he
    have hE := hid (show ndR 0 L = (L.length : Int) + 1 from rfl)
    go_enter Try.func32, Try.ntmps32
    go_wp2_with fail
    refine (hg _ H).mono ?_
    rintro e w1 ⟨a1, c1, rfl, S1, hb1⟩
    go_wp2_with fail
    go_ret2
    rw [hE.out]
    exact ⟨rfl, hb1⟩
  · have hE := hid (show ndR er L = 0 by rw [ndR, if_neg he])
    have hb : (er != 0) = true := by simpa using he
    clear he
    go_enter Try.func32, Try.ntmps32
    go_wp2_with fail
    refine (hg _ H).mono ?_
    rintro e w1 ⟨a1, c1, rfl, S1, hb1⟩
    go_wp2_with fail
    go_ret2
    rw [hE.out]
    exact ⟨rfl, hb1⟩
set_option maxRecDepth 100000 in
theorem ref9_Nodes (a : Option Addr) (n ca : Nat) (M : Int) (f : Nat → Int) (w : World) (hn : n ≤ 100000000) (H : Sl w a n f) :
    Calls Try.prog 33 #[.slice a n ca, .int .i64 M] w fun e w' => e = .returned (.tuple #[.int .i64 (ndR (gdE (vL n f) (within M 0 64000000000) (grB f M n)) (gdL f n M)), .int .i64 (gdE (vL n f) (within M 0 64000000000) (grB f M n))]) ∧ Below w.heap.size w w' := by
  have hg := fun W H => ref9_Greedy a n ca M f W hn H
  have hl : (gdL f n M).length ≤ 100000000 := Nat.le_trans (gdL_length f n M) hn
  generalize gdE (vL n f) (within M 0 64000000000) (grB f M n) = er at *
  generalize gdL f n M = L at *
  by_cases he : er = 0
  · subst he
    have hE := hid (show ndR 0 L = (L.length : Int) + 1 from rfl)
    go_enter Try.func33, Try.ntmps33
    go_wp2_with fail
    refine (hg _ H).mono ?_
    rintro e w1 ⟨a1, c1, rfl, S1, hb1⟩
    go_wp2_with fail
    go_ret2
    rw [hE.out]
    exact ⟨rfl, hb1⟩
  · have hE := hid (show ndR er L = 0 by rw [ndR, if_neg he])
    have hb : (er != 0) = true := by simpa using he
    clear he
    go_enter Try.func33, Try.ntmps33
    go_wp2_with fail
    refine (hg _ H).mono ?_
    rintro e w1 ⟨a1, c1, rfl, S1, hb1⟩
    go_wp2_with fail
    go_ret2
    rw [hE.out]
    exact ⟨rfl, hb1⟩
end Go.Proofs.Ytgpcmkoimgnlbaa
