/- Walks of the share layer: Moved of the program and of the reference. -/
import Derived.Test.YtgpcmkoimgnlbaaSMovesPlain
import Derived.Test.YtgpcmkoimgnlbaaCloneI
namespace Go.Proofs.Ytgpcmkoimgnlbaa
open Go Go.RowKit
set_option linter.unusedVariables false
theorem mvE_zero {f : Nat → Int} {n m : Nat} {c : Nat → Int} {k b : Int} (h1 : vL n f = true) (h2 : vK n m c = true) (h3 : within k 0 ((m : Int) - 1) = true) : mvE f n m c k b = (if vK n m (mvC c k b) then 0 else 7) ∧ mvL f n m c k b = (if vK n m (mvC c k b) then (List.range m).map (mvC c k b) else []) := by
  simp [mvE, mvL, mvB, h1, h2, h3]
theorem mvE_v {f : Nat → Int} {n m : Nat} {c : Nat → Int} {k b : Int} (h : vL n f = false) : mvE f n m c k b = 1 ∧ mvL f n m c k b = [] := by simp [mvE, mvL, mvB, h]
theorem mvE_c {f : Nat → Int} {n m : Nat} {c : Nat → Int} {k b : Int} (h : vL n f = true) (h2 : (vK n m c && within k 0 ((m : Int) - 1) && vK n m (mvC c k b)) = false) : mvE f n m c k b = 7 ∧ mvL f n m c k b = [] := by
  refine ⟨by unfold mvE; rw [h, h2]; rfl, ?_⟩
  have : mvB f n m c k b = false := by unfold mvB; rw [h, Bool.true_and]; exact h2
  unfold mvL; rw [this]; rfl
theorem mv_get {c : Nat → Int} {k b : Int} {m j : Nat} (h : j < m) : ((List.range m).map (mvC c k b)).getD j 0 = mvC c k b j := by
  simp [List.getD_eq_getElem?_getD, h]
theorem listPost_row {w w' : World} {g m cap : Nat} {F : Nat → Int} {er : Int} (R : Ro w' g m F) (hb : Below w.heap.size w w') (xs : List Int) (hx : xs = (List.range m).map F) : ListPost xs er w (.returned (.tuple #[.slice (some ⟨g, 0, none⟩) m cap, .int .i64 er])) w' := by
  subst hx
  have e : ((List.range m).map F).length = m := by simp
  refine ⟨some ⟨g, 0, none⟩, cap, by rw [e], ?_, hb⟩
  rw [e]
  intro j hj
  obtain ⟨b, off, h1, h2, h3⟩ := R.sl j hj
  exact ⟨b, off, h1, h2, by rw [h3]; simp [List.getD_eq_getElem?_getD, hj]⟩
set_option maxRecDepth 100000 in
set_option maxHeartbeats 4000000 in
theorem share_Moved (a ac : Option Addr) (n m ca cc : Nat) (f c : Nat → Int) (k b : Int) (w : World) (hn : n ≤ 100000000) (hm : m ≤ 100000000) (H : Sl w a n f) (HC : Sl w ac m c) :
    Calls Try.prog 34 #[.slice a n ca, .slice ac m cc, .int .i64 k, .int .i64 b] w (ListPost (mvL f n m c k b) (mvE f n m c k b) w) := by
  have hask := fun W H HC => share_asked a ac n m ca cc f c W hn hm H HC
  have hw1 := fun W => share_within k 0 ((m : Int) - 1) W
  have hw2 := fun W => share_within b (-(n : Int)) (n : Int) W
  have hvc := fun g cap F W H => (share_validCuts (some ⟨g, 0, none⟩) m cap n F W hm hn H).mono (fun e w' h => (⟨h.1, by rw [h.2]; exact Below.refl _ _⟩ : e = .returned (.bool (vK n m F)) ∧ Below W.heap.size W w'))
  cases hv : vL n f
  · obtain ⟨e1, e2⟩ := mvE_v (m := m) (c := c) (k := k) (b := b) hv
    rw [e1, e2]
    rw [hv] at hask
    clear e1 e2 hv
    have e0 : ∀ x, askE false x = 1 := fun _ => rfl
    rw [e0] at hask
    go_enter Try.func34, Try.ntmps34
    go_wp2_with fail
    refine (hask _ H HC).mono ?_
    rintro e w1 ⟨rfl, hb1⟩
    go_wp2_with fail
    go_ret2
    exact listPost_nil hb1
  have hV := (vL_iff _ _).1 hv
  rw [hv] at hask
  cases hK : vK n m c
  · obtain ⟨e1, e2⟩ := mvE_c (m := m) (c := c) (k := k) (b := b) hv (by rw [hK]; rfl)
    rw [e1, e2]
    rw [hK, show askE true false = 7 from rfl] at hask
    clear e1 e2 hv hK hV
    go_enter Try.func34, Try.ntmps34
    go_wp2_with fail
    refine (hask _ H HC).mono ?_
    rintro e w1 ⟨rfl, hb1⟩
    go_wp2_with fail
    go_ret2
    exact listPost_nil hb1
  rw [hK, show askE true true = 0 from rfl] at hask
  have hmK := ((vK_iff _ _ _).1 hK).1
  have hcK := ((vK_iff _ _ _).1 hK).2
  cases h1 : within k 0 ((m : Int) - 1)
  · obtain ⟨e1, e2⟩ := mvE_c (m := m) (c := c) (k := k) (b := b) hv (by rw [hK, h1]; rfl)
    rw [e1, e2]
    rw [h1] at hw1
    clear e1 e2 hv hK hcK h1
    go_enter Try.func34, Try.ntmps34
    go_wp2_with fail
    refine (hask _ H HC).mono ?_
    rintro e w1 ⟨rfl, hb1⟩
    go_wp2_with fail
    refine (hw1 _).mono ?_
    rintro e w' ⟨rfl, rfl⟩
    go_wp2_with fail
    go_ret2
    exact listPost_nil hb1
  obtain ⟨k0, k1⟩ := (within_iff _ _ _).1 h1
  rw [h1] at hw1
  cases h2 : within b (-(n : Int)) (n : Int)
  · have h3 : vK n m (mvC c k b) = false := by
      cases h3 : vK n m (mvC c k b)
      · rfl
      · have h4 := mv_by hK h1 h3
        have h5 := (within_no _ _ _).1 h2
        have := hV.2.1
        omega
    obtain ⟨e1, e2⟩ := mvE_c (m := m) (c := c) (k := k) (b := b) hv (by rw [hK, h1, h3]; rfl)
    rw [e1, e2]
    rw [h2] at hw2
    clear e1 e2 hv hK hcK h1 h2 h3
    go_enter Try.func34, Try.ntmps34
    go_wp2_with fail
    refine (hask _ H HC).mono ?_
    rintro e w1 ⟨rfl, hb1⟩
    go_wp2_with fail
    refine (hw1 _).mono ?_
    rintro e w' ⟨rfl, rfl⟩
    go_wp2_with fail
    refine (hw2 _).mono ?_
    rintro e w' ⟨rfl, rfl⟩
    go_wp2_with fail
    go_ret2
    exact listPost_nil hb1
  obtain ⟨b0, b1⟩ := (within_iff _ _ _).1 h2
  rw [h2] at hw2
  obtain ⟨e1, e2⟩ := mvE_zero (b := b) hv hK h1
  rw [e1, e2]
  obtain ⟨j, rfl⟩ : ∃ j : Nat, k = (j : Int) := ⟨k.toNat, by omega⟩
  have hj : j < m := by omega
  have hmc : mvC c (j : Int) b = upd c j (c j + b) := by simp [mvC]
  obtain ⟨hc0, hc1, _⟩ := hcK j hj
  have hVn := hV.2.1
  rw [hmc]
  have hcl := fun W H => clone_ints ac m cc c W (by omega) (by omega) H
  generalize hF : upd c j (c j + b) = F at *
  generalize hxs : (if vK n m F = true then (List.range m).map F else []) = xs at *
  generalize her : (if vK n m F = true then (0 : Int) else 7) = er at *
  have HF := hid hF; have HX := hid hxs; have HE := hid her
  clear hxs her hF hmc e1 e2 hv hK hcK h1 h2 hV
  go_enter Try.func34, Try.ntmps34
  go_wp2_with fail
  refine (hask _ H HC).mono ?_
  rintro e w1 ⟨rfl, hb1⟩
  go_wp2_with fail
  refine (hw1 _).mono ?_
  rintro e w' ⟨rfl, rfl⟩
  go_wp2_with fail
  refine (hw2 _).mono ?_
  rintro e w' ⟨rfl, rfl⟩
  go_wp2_with fail
  refine (hcl _ (HC.below hb1)).mono ?_
  rintro e w2 ⟨g, cap, rfl, hg, R, hb2⟩
  have hB := bvia hb1 hb2
  have hs1 := hb1.size
  have c0 := R.2 j hj; have cf := R.3; have hgl := R.1
  have RS := R.set_ j (c j + b)
  rw [HF.out] at RS
  generalize c j = cj at *
  go_wp2_with fail
  refine (hvc _ _ F _ RS.sl).mono ?_
  rintro e w3 ⟨rfl, hb3⟩
  have hx := HX.out; have he := HE.out
  cases hvk : vK n m F
  · rw [hvk] at hx he
    subst hx he
    have B3 : Below w.heap.size w w3 := bvia (bset hB (by dsimp only; omega) _) hb3
    go_wp2_with fail
    go_ret2
    exact listPost_nil B3
  · rw [hvk] at hx he
    subst hx he
    have B3 : Below w.heap.size w w3 := bvia (bset hB (by dsimp only; omega) _) hb3
    have R3 := RS.below hb3
    go_wp2_with fail
    go_ret2
    exact listPost_row R3 B3 _ rfl
set_option maxRecDepth 100000 in
set_option maxHeartbeats 4000000 in
theorem ref9_Moved (a ac : Option Addr) (n m ca cc : Nat) (f c : Nat → Int) (k b : Int) (w : World) (hn : n ≤ 100000000) (hm : m ≤ 100000000) (H : Sl w a n f) (HC : Sl w ac m c) :
    Calls Try.prog 35 #[.slice a n ca, .slice ac m cc, .int .i64 k, .int .i64 b] w (ListPost (mvL f n m c k b) (mvE f n m c k b) w) := by
  have hask := fun W H HC => ref9_asked a ac n m ca cc f c W hn hm H HC
  have hw1 := fun W => ref9_within k 0 ((m : Int) - 1) W
  have hw2 := fun W => ref9_within b (-64) 64 W
  have hvc := fun g cap F W H => ref9_shared (some ⟨g, 0, none⟩) m cap n F W hm hn H
  cases hv : vL n f
  · obtain ⟨e1, e2⟩ := mvE_v (m := m) (c := c) (k := k) (b := b) hv
    rw [e1, e2]
    rw [hv] at hask
    clear e1 e2 hv
    have e0 : ∀ x, askE false x = 1 := fun _ => rfl
    rw [e0] at hask
    go_enter Try.func35, Try.ntmps35
    go_wp2_with fail
    refine (hask _ H HC).mono ?_
    rintro e w1 ⟨rfl, hb1⟩
    go_wp2_with fail
    go_ret2
    exact listPost_nil hb1
  have hV := (vL_iff _ _).1 hv
  rw [hv] at hask
  cases hK : vK n m c
  · obtain ⟨e1, e2⟩ := mvE_c (m := m) (c := c) (k := k) (b := b) hv (by rw [hK]; rfl)
    rw [e1, e2]
    rw [hK, show askE true false = 7 from rfl] at hask
    clear e1 e2 hv hK hV
    go_enter Try.func35, Try.ntmps35
    go_wp2_with fail
    refine (hask _ H HC).mono ?_
    rintro e w1 ⟨rfl, hb1⟩
    go_wp2_with fail
    go_ret2
    exact listPost_nil hb1
  rw [hK, show askE true true = 0 from rfl] at hask
  have hmK := ((vK_iff _ _ _).1 hK).1
  have hcK := ((vK_iff _ _ _).1 hK).2
  cases h1 : within k 0 ((m : Int) - 1)
  · obtain ⟨e1, e2⟩ := mvE_c (m := m) (c := c) (k := k) (b := b) hv (by rw [hK, h1]; rfl)
    rw [e1, e2]
    rw [h1] at hw1
    clear e1 e2 hv hK hcK h1
    go_enter Try.func35, Try.ntmps35
    go_wp2_with fail
    refine (hask _ H HC).mono ?_
    rintro e w1 ⟨rfl, hb1⟩
    go_wp2_with fail
    refine (hw1 _).mono ?_
    rintro e w' ⟨rfl, rfl⟩
    go_wp2_with fail
    go_ret2
    exact listPost_nil hb1
  obtain ⟨k0, k1⟩ := (within_iff _ _ _).1 h1
  rw [h1] at hw1
  cases h2 : within b (-64) 64
  · have h3 : vK n m (mvC c k b) = false := by
      cases h3 : vK n m (mvC c k b)
      · rfl
      · have h4 := mv_by hK h1 h3
        have h5 := (within_no _ _ _).1 h2
        have := hV.2.1
        omega
    obtain ⟨e1, e2⟩ := mvE_c (m := m) (c := c) (k := k) (b := b) hv (by rw [hK, h1, h3]; rfl)
    rw [e1, e2]
    rw [h2] at hw2
    clear e1 e2 hv hK hcK h1 h2 h3
    go_enter Try.func35, Try.ntmps35
    go_wp2_with fail
    refine (hask _ H HC).mono ?_
    rintro e w1 ⟨rfl, hb1⟩
    go_wp2_with fail
    refine (hw1 _).mono ?_
    rintro e w' ⟨rfl, rfl⟩
    go_wp2_with fail
    refine (hw2 _).mono ?_
    rintro e w' ⟨rfl, rfl⟩
    go_wp2_with fail
    go_ret2
    exact listPost_nil hb1
  obtain ⟨b0, b1⟩ := (within_iff _ _ _).1 h2
  rw [h2] at hw2
  obtain ⟨e1, e2⟩ := mvE_zero (b := b) hv hK h1
  rw [e1, e2]
  obtain ⟨j, rfl⟩ : ∃ j : Nat, k = (j : Int) := ⟨k.toNat, by omega⟩
  have hj : j < m := by omega
  have hmc : mvC c (j : Int) b = upd c j (c j + b) := by simp [mvC]
  obtain ⟨hc0, hc1, _⟩ := hcK j hj
  have hVn := hV.2.1
  rw [hmc]
  have hcl := fun W H => clone_ints ac m cc c W (by omega) (by omega) H
  generalize hF : upd c j (c j + b) = F at *
  generalize hxs : (if vK n m F = true then (List.range m).map F else []) = xs at *
  generalize her : (if vK n m F = true then (0 : Int) else 7) = er at *
  have HF := hid hF; have HX := hid hxs; have HE := hid her
  clear hxs her hF hmc e1 e2 hv hK hcK h1 h2 hV
  obtain ⟨i0, hi, hz0, hz1, hz2⟩ := info_parts infoI
  obtain ⟨bc, oc, rfl, hbc, _⟩ := HC j hj
  have hm0 : 0 < m := by omega
  go_enter Try.func35, Try.ntmps35
  go_wp2_with fail
  refine (hask _ H HC).mono ?_
  rintro e w1 ⟨rfl, hb1⟩
  go_wp2_with fail
  refine (hw1 _).mono ?_
  rintro e w' ⟨rfl, rfl⟩
  go_wp2_with fail
  refine (hw2 _).mono ?_
  rintro e w' ⟨rfl, rfl⟩
  have HC1 := HC.below hb1
  have hnews : ∀ q u, (rowI c m)[q]? = some u → (w1.alloc (.cells #[] 3)).cell? ((⟨bc, oc, none⟩ : Addr).add q) = some u := fun q u hu => by
    obtain ⟨hq, rfl⟩ := rowI_at c m q u hu
    obtain ⟨b', o', e, hlt, hc⟩ := HC1 q hq
    injection e with e; injection e with e1 e2 _
    subst e1 e2
    rw [addr_add, cell_old _ _ hlt]
    exact hc
  have HN := hid hnews; clear hnews
  go_wp2_with (at_builtin; refine wpList_append_own_at _ rfl _ _ 22 rfl w1.heap.size 3 i0 (.int .i64 0) 1 8 Try.underlying22 hi hz0 hz1 hz2 rfl (by decide) (.slice (some ⟨w1.heap.size, 0, none⟩) 0 0) 0 [] rfl (World.ownsRow_lit w1 #[] 0 (Nat.le_refl _) (by simp [maxLen]) rfl) ⟨bc, oc, none⟩ m cc (rowI c m) rfl (rowI_length c m) HN.out (rowI_one c m) (by simp [maxLen]; omega) (by omega) (by simp) ?_; intro v' w2 hown hgrow _ _; simp only [Nat.zero_add, List.nil_append] at hown; obtain ⟨g, cap, rfl⟩ := own_form hown hm0; obtain ⟨hg, R⟩ := ro_of_own hown hm0; have hb2 : Below w1.heap.size w1 w2 := ((Below.refl _ w1).alloc (Nat.le_refl _) _).grown hgrow (by simp) (fun k hk => by simp [Value.ownBlock] at hk; omega); clear hown hgrow; have c0 := R.2 j hj; have cf := R.3; have hgl := R.1; have RS := R.set_ j (c j + b); rw [HF.out] at RS)
  have hB := bvia hb1 hb2
  have hs1 := hb1.size
  refine (hvc _ _ F _ RS.sl).mono ?_
  rintro e w3 ⟨rfl, hb3⟩
  have hx := HX.out; have he := HE.out
  cases hvk : vK n m F
  · rw [hvk] at hx he
    subst hx he
    have B3 : Below w.heap.size w w3 := bvia (bset hB (by dsimp only; omega) _) hb3
    go_wp2_with fail
    go_ret2
    exact listPost_nil B3
  · rw [hvk] at hx he
    subst hx he
    have B3 : Below w.heap.size w w3 := bvia (bset hB (by dsimp only; omega) _) hb3
    have R3 := RS.below hb3
    go_wp2_with fail
    go_ret2
    exact listPost_row R3 B3 _ rfl
end Go.Proofs.Ytgpcmkoimgnlbaa
