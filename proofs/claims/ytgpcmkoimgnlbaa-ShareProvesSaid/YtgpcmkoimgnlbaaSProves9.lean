/- Walks of the share layer: Proves of the reference. -/
import Derived.Test.YtgpcmkoimgnlbaaSProof9
namespace Go.Proofs.Ytgpcmkoimgnlbaa
open Go Go.RowKit
set_option linter.unusedVariables false
noncomputable def pvB (f : Nat → Int) (n : Nat) (k b : Int) (m : Nat) (p : Nat → Int × Int) : Bool := @decide (provesP f n k b m p) (Classical.propDecidable _)
theorem pvB_iff (f : Nat → Int) (n : Nat) (k b : Int) (m : Nat) (p : Nat → Int × Int) : pvB f n k b m p = true ↔ provesP f n k b m p := by simp [pvB]
theorem pv_no {f : Nat → Int} {n m i : Nat} {k b : Int} {p : Nat → Int × Int} {V : Bool} (hV : V = true ↔ provesP f n k b m p) (hi : i < m) (h : ¬ okP f n b m p i) : V = false := by
  cases V
  · rfl
  · exact absurd ((hV.1 rfl).2.2.2.2.1 i hi) h
theorem pv_bad {f : Nat → Int} {n m : Nat} {k b : Int} {p : Nat → Int × Int} {V : Bool} (hV : V = true ↔ provesP f n k b m p) (h : ¬ (askE (vL n f) (within k 1 16) = 0 ∧ 0 ≤ b)) : V = false := by
  cases V
  · rfl
  · obtain ⟨h1, h2, h3, h4, _⟩ := hV.1 rfl
    refine absurd ⟨?_, h4⟩ h
    rw [(vL_iff _ _).2 h1, (within_iff _ _ _).2 ⟨h2, h3⟩]; rfl
theorem pv_end {f : Nat → Int} {n m : Nat} {k b : Int} {p : Nat → Int × Int} {V : Bool} (hV : V = true ↔ provesP f n k b m p) (h : askE (vL n f) (within k 1 16) = 0) (hb : 0 ≤ b) (ho : ∀ i, i < m → okP f n b m p i) :
    V = true ↔ ((m = 1 ∧ (p 0).1 = (p 0).2) ∨ (m : Int) = k) := by
  have hh : vL n f = true ∧ within k 1 16 = true := by
    unfold askE at h
    cases h1 : vL n f <;> cases h2 : within k 1 16 <;> simp [h1, h2] at h ⊢
  have h1 := (vL_iff _ _).1 hh.1
  have h2 := (within_iff _ _ _).1 hh.2
  rw [hV]
  exact ⟨fun h => h.2.2.2.2.2, fun h => ⟨h1, h2.1, h2.2, hb, ho, h⟩⟩
theorem bool_of_iff {V c : Bool} (h : V = true ↔ c = true) : V = c := Bool.eq_iff_iff.2 h
set_option maxRecDepth 100000 in
set_option maxHeartbeats 8000000 in
theorem ref9_Proves (a ap : Option Addr) (n ca m cp : Nat) (k b : Int) (f : Nat → Int) (p : Nat → Int × Int) (w : World) (hn : n ≤ 100000000) (hm : m ≤ 100000000) (H : Sl w a n f) (HP : Sq w ap m p) :
    Calls Try.prog 29 #[.slice a n ca, .int .i64 k, .int .i64 b, .slice ap m cp] w fun e w' => e = .returned (.bool (pvB f n k b m p)) ∧ Below w.heap.size w w' := by
  have hV := pvB_iff f n k b m p
  generalize pvB f n k b m p = V at *
  have HV := hid hV; clear hV
  have hask := fun W H => ref9_noded a n ca k f W hn H
  have hbad := fun h => pv_bad HV.out h
  have hend := fun h hb ho => pv_end HV.out h hb ho
  have hvv := fun h : askE (vL n f) (within k 1 16) = 0 => show validL n f from by
    unfold askE at h
    cases h1 : vL n f
    · rw [h1] at h; simp at h
    · exact (vL_iff _ _).1 h1
  generalize askE (vL n f) (within k 1 16) = E at *
  have HB := hid hbad; have HE := hid hend; have HVV := hid hvv
  clear hbad hend hvv
  by_cases hE : E = 0
  rotate_left
  · have hf9 := hid (HB.out (fun h => hE h.1))
    have hEb : (E != 0) = true := by simpa using hE
    clear hE
    go_enter Try.func29, Try.ntmps29
    go_wp2_with fail
    refine (hask _ H).mono ?_
    rintro e w' ⟨rfl, rfl⟩
    go_wp2_with fail
    go_ret
    exact ⟨ret_bool hf9.out.symm, Below.refl _ _⟩
  subst hE
  by_cases hb0 : b < 0
  · have hf9 := hid (HB.out (fun h => by omega))
    go_enter Try.func29, Try.ntmps29
    go_wp2_with fail
    refine (hask _ H).mono ?_
    rintro e w' ⟨rfl, rfl⟩
    go_wp2_with fail
    go_ret
    exact ⟨ret_bool hf9.out.symm, Below.refl _ _⟩
  obtain ⟨v1, v2, hf⟩ := HVV.out rfl
  have HF := hid hf
  clear hf HB
  go_enter Try.func29, Try.ntmps29
  go_wp2_with fail
  refine (hask _ H).mono ?_
  rintro e w' ⟨rfl, rfl⟩
  go_wp2_with fail
  go_loopw [9] (fun i wr => ∃ t : Nat, t ≤ m ∧ i = .int .i64 t ∧ (∀ j, j < t → okP f n b m p j) ∧ Below w.heap.size w wr) (fun i _ => m - (intOf i).toNat)
  case atStart => exact ⟨0, Nat.zero_le _, rfl, fun j hj => by omega, Below.refl _ _⟩
  case round =>
    obtain ⟨t, ht, rfl, hok, hB⟩ := hrel
    have HOK := hid hok; clear hok
    by_cases hlt : t < m
    · obtain ⟨bp, op, rfl, hbp, c0, c1⟩ := (HP.below hB) t hlt
      have hP0 : okP f n b m p t ↔ (0 ≤ (p t).1 ∧ (p t).1 ≤ (p t).2 ∧ (p t).2 < n ∧ b < sg f (p t).1.toNat ((p t).2.toNat + 1) ∧ (0 < t → (p (t - 1)).2 ≤ (p t).1) ∧ ((p t).1 = (p t).2 → m ≤ 1)) := Iff.rfl
      obtain ⟨x, hx⟩ : ∃ x, (p t).1 = x := ⟨_, rfl⟩
      obtain ⟨y, hy⟩ : ∃ y, (p t).2 = y := ⟨_, rfl⟩
      rw [hx] at c0
      rw [hy] at c1
      rw [hx, hy] at hP0
      have HP0 := hid hP0
      clear hP0 hx hy
      go_wp2_with fail
      go_quiet (fail)
      rename_i nq
      have hBd : Below w.heap.size w (wr.drewN nq) := below_drewN hB nq
      have Hd := H.below hBd
      have HPd := HP.below hBd
      generalize wr.drewN nq = wd at *
      by_cases hx0 : x < 0
      · skip
        have hf9 := hid (pv_no HV.out hlt (fun h => by have := (HP0.out.1 h).1; omega))
        go_wp2_with fail
        go_ret
        exact ⟨ret_bool hf9.out.symm, hBd⟩
      by_cases hyn : (n : Int) ≤ y
      · skip
        have hf9 := hid (pv_no HV.out hlt (fun h => by have := (HP0.out.1 h).2.2.1; omega))
        go_wp2_with fail
        go_ret
        exact ⟨ret_bool hf9.out.symm, hBd⟩
      by_cases hxy : y < x
      · skip
        have hf9 := hid (pv_no HV.out hlt (fun h => by have := (HP0.out.1 h).2.1; omega))
        go_wp2_with fail
        go_ret
        exact ⟨ret_bool hf9.out.symm, hBd⟩
      obtain ⟨xn, rfl⟩ : ∃ xn : Nat, x = (xn : Int) := ⟨x.toNat, by omega⟩
      obtain ⟨yn, rfl⟩ : ∃ yn : Nat, y = (yn : Int) := ⟨y.toNat, by omega⟩
      have hwt := fun W H => ref9_weight a n ca xn (yn + 1) f W v2 HF.out H (by omega) (by omega)
      rw [Int.natCast_add, Int.natCast_one] at hwt
      have hP1 := HP0.out
      rw [Int.toNat_natCast, Int.toNat_natCast] at hP1
      clear HP0
      go_wp2_with fail
      refine (hwt _ Hd).mono ?_
      rintro e w' ⟨rfl, rfl⟩
      generalize sg f xn (yn + 1) = S at *
      have HP0 := hid hP1; clear hP1 hwt
      by_cases hS : S ≤ b
      · skip
        have hf9 := hid (pv_no HV.out hlt (fun h => by have := (HP0.out.1 h).2.2.2.1; omega))
        go_wp2_with fail
        go_ret
        exact ⟨ret_bool hf9.out.symm, hBd⟩
      rcases Nat.eq_zero_or_pos t with h0 | h0
      · subst h0
        by_cases he : xn = yn
        · subst he
          by_cases hm1 : 1 < m
          · skip
            have hf9 := hid (pv_no HV.out hlt (fun h => by have := (HP0.out.1 h).2.2.2.2.2 rfl; omega))
            go_wp2_with fail
            go_ret
            exact ⟨ret_bool hf9.out.symm, hBd⟩
          · skip
            go_wp2_with fail
            go_roundw
            case rel => exact ⟨0 + 1, by omega, by go_num, fun j hj => by
              rcases Nat.lt_succ_iff_lt_or_eq.1 hj with h | rfl
              · exact HOK.out j h
              · exact HP0.out.2 ⟨by omega, by omega, by omega, by omega, fun h => absurd h (Nat.lt_irrefl _), fun h => by omega⟩, hBd⟩
            case measure => simp [intOf] <;> omega
        · have heb : ((xn : Int) == (yn : Int)) = false := by simp; omega
          go_wp2_with fail
          go_roundw
          case rel => exact ⟨0 + 1, by omega, by go_num, fun j hj => by
            rcases Nat.lt_succ_iff_lt_or_eq.1 hj with h | rfl
            · exact HOK.out j h
            · exact HP0.out.2 ⟨by omega, by omega, by omega, by omega, fun h => absurd h (Nat.lt_irrefl _), fun h => by omega⟩, hBd⟩
          case measure => simp [intOf] <;> omega
      · obtain ⟨bq, oq, e3, hbq, d0, d1⟩ := HPd (t - 1) (by omega)
        injection e3 with e3; injection e3 with e31 e32 _
        subst e31 e32
        obtain ⟨z, hz⟩ : ∃ z, (p (t - 1)).2 = z := ⟨_, rfl⟩
        rw [hz] at d1
        have hP1 := HP0.out
        rw [hz] at hP1
        clear HP0 d0 hz
        have HP0 := hid hP1; clear hP1
        by_cases hxz : (xn : Int) < z
        · skip
          have hf9 := hid (pv_no HV.out hlt (fun h => by have := (HP0.out.1 h).2.2.2.2.1 h0; omega))
          go_wp2_with fail
          go_ret
          exact ⟨ret_bool hf9.out.symm, hBd⟩
        · skip
          by_cases he : xn = yn
          · subst he
            by_cases hm1 : 1 < m
            · skip
              have hf9 := hid (pv_no HV.out hlt (fun h => by have := (HP0.out.1 h).2.2.2.2.2 rfl; omega))
              go_wp2_with fail
              go_ret
              exact ⟨ret_bool hf9.out.symm, hBd⟩
            · skip
              exfalso
              omega
          · have heb : ((xn : Int) == (yn : Int)) = false := by simp; omega
            go_wp2_with fail
            go_roundw
            case rel => exact ⟨t + 1, by omega, by go_num, fun j hj => by
              rcases Nat.lt_succ_iff_lt_or_eq.1 hj with h | rfl
              · exact HOK.out j h
              · exact HP0.out.2 ⟨by omega, by omega, by omega, by omega, fun _ => by omega, fun h => by omega⟩, hBd⟩
            case measure => simp [intOf] <;> omega
    · obtain rfl : t = m := (by omega)
      have hfin := HE.out (by first | trivial | rfl) (by omega) HOK.out
      by_cases hm1 : t = 1
      · subst hm1
        obtain ⟨bp, op, rfl, hbp, c0, c1⟩ := (HP.below hB) 0 (by omega)
        simp only [Nat.zero_mul, Nat.add_zero] at c0 c1
        obtain ⟨x, hx⟩ : ∃ x, (p 0).1 = x := ⟨_, rfl⟩
        obtain ⟨y, hy⟩ : ∃ y, (p 0).2 = y := ⟨_, rfl⟩
        rw [hx] at c0
        rw [hy] at c1
        rw [hx, hy] at hfin
        have HFI := hid hfin; clear hfin hx hy
        by_cases hxy : x = y
        · subst hxy
          have hv : V = true := HFI.out.2 (.inl ⟨rfl, rfl⟩)
          have HVT := hid hv; clear hv
          go_wp2_with fail
          go_quiet (fail)
          rename_i nq
          have hBd : Below w.heap.size w (wr.drewN nq) := below_drewN hB nq
          go_wp2_with fail
          go_ret
          exact ⟨ret_bool (by rw [HVT.out] <;> simp), hBd⟩
        · have hxyb : (x == y) = false := by simpa using hxy
          have hv : V = ((1 : Int) == k) := bool_of_iff (by rw [HFI.out]; simp [hxy])
          have HVT := hid hv; clear hv hxy
          go_wp2_with fail
          go_quiet (fail)
          rename_i nq
          have hBd : Below w.heap.size w (wr.drewN nq) := below_drewN hB nq
          go_wp2_with fail
          go_ret
          exact ⟨ret_bool (by rw [HVT.out] <;> simp), hBd⟩
      · have hv : V = ((t : Int) == k) := bool_of_iff (by rw [hfin]; simp [hm1])
        have hmb : ((t : Int) == 1) = false := by simp; omega
        have HVT := hid hv; clear hv hfin hm1
        go_wp2_with fail
        go_quiet (fail)
        rename_i nq
        have hBd : Below w.heap.size w (wr.drewN nq) := below_drewN hB nq
        go_wp2_with fail
        go_ret
        exact ⟨ret_bool (by rw [HVT.out] <;> simp), hBd⟩
end Go.Proofs.Ytgpcmkoimgnlbaa
