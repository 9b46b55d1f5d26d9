/- Walks of the share layer: Proves of the program. -/
import Derived.Test.YtgpcmkoimgnlbaaSProves9
namespace Go.Proofs.Ytgpcmkoimgnlbaa
open Go Go.RowKit
set_option linter.unusedVariables false
set_option maxRecDepth 100000 in
set_option maxHeartbeats 8000000 in
theorem share_Proves (a ap : Option Addr) (n ca m cp : Nat) (k b : Int) (f : Nat → Int) (p : Nat → Int × Int) (w : World) (hn : n ≤ 100000000) (hm : m ≤ 100000000) (hca : n ≤ ca) (hca2 : ca ≤ maxLen) (H : Sl w a n f) (HP : Sq w ap m p) :
    Calls Try.prog 27 #[.slice a n ca, .int .i64 k, .int .i64 b, .slice ap m cp] w fun e w' => e = .returned (.bool (pvB f n k b m p)) ∧ Below w.heap.size w w' := by
  have hV := pvB_iff f n k b m p
  generalize pvB f n k b m p = V at *
  have HV := hid hV; clear hV
  have hask := fun W H => share_among a n ca k f W hn H
  have hbad := fun h => pv_bad HV.out h
  have hend := fun h hb ho => pv_end HV.out h hb ho
  have hvv := fun h : askE (vL n f) (within k 1 16) = 0 => show validL n f from by
    unfold askE at h
    cases h1 : vL n f
    · rw [h1] at h; simp at h
    · exact (vL_iff _ _).1 h1
  generalize askE (vL n f) (within k 1 16) = E at *
  have HB := hid hbad; have HE := hid hend; have HVV := hid hvv
  clear hbad hend hvv
  by_cases hE : E = 0
  rotate_left
  · have hf9 := hid (HB.out (fun h => hE h.1))
    have hEb : (E != 0) = true := by simpa using hE
    clear hE
    go_enter Try.func27, Try.ntmps27
    go_wp2_with fail
    refine (hask _ H).mono ?_
    rintro e w' ⟨rfl, rfl⟩
    go_wp2_with fail
    go_ret
    exact ⟨ret_bool hf9.out.symm, Below.refl _ _⟩
  subst hE
  by_cases hb0 : b < 0
  · have hf9 := hid (HB.out (fun h => by omega))
    go_enter Try.func27, Try.ntmps27
    go_wp2_with fail
    refine (hask _ H).mono ?_
    rintro e w' ⟨rfl, rfl⟩
    go_wp2_with fail
    go_ret
    exact ⟨ret_bool hf9.out.symm, Below.refl _ _⟩
  obtain ⟨v1, v2, hf⟩ := HVV.out rfl
  have HF := hid hf
  clear hf HB
  go_enter Try.func27, Try.ntmps27
  go_wp2_with fail
  refine (hask _ H).mono ?_
  rintro e w' ⟨rfl, rfl⟩
  go_wp2_with fail
  unfold maxLen at hca2
  go_loopw [9, 10, 21] (fun _ _ i wr => ∃ t : Nat, t ≤ m ∧ i = .int .i64 t ∧ (∀ j, j < t → okP f n b m p j ∧ (p j).1 ≠ (p j).2) ∧ Below w.heap.size w wr) (fun _ _ i _ => m - (intOf i).toNat)
  case atStart => exact ⟨0, Nat.zero_le _, rfl, fun j hj => by omega, Below.refl _ _⟩
  case round =>
    obtain ⟨t, ht, rfl, hok, hB⟩ := hrel
    have HOK := hid hok; clear hok
    by_cases hlt : t < m
    · obtain ⟨bp, op, rfl, hbp, c0, c1⟩ := (HP.below hB) t hlt
      have hP0 : okP f n b m p t ↔ (0 ≤ (p t).1 ∧ (p t).1 ≤ (p t).2 ∧ (p t).2 < n ∧ b < sg f (p t).1.toNat ((p t).2.toNat + 1) ∧ (0 < t → (p (t - 1)).2 ≤ (p t).1) ∧ ((p t).1 = (p t).2 → m ≤ 1)) := Iff.rfl
      obtain ⟨x, hx⟩ : ∃ x, (p t).1 = x := ⟨_, rfl⟩
      obtain ⟨y, hy⟩ : ∃ y, (p t).2 = y := ⟨_, rfl⟩
      rw [hx] at c0
      rw [hy] at c1
      rw [hx, hy] at hP0
      have HP0 := hid hP0; have HX := hid hx; have HY := hid hy
      clear hP0 hx hy
      go_upto_region 6 with (fail)
      have U := Bx.new wr #[.int .i64 x, .int .i64 y] 46
      have hBd : Below w.heap.size w (wr.alloc (.cells #[.int .i64 x, .int .i64 y] 46)) := balloc hB _
      have Hd := H.below hBd
      have HPd := HP.below hBd
      generalize hwd : wr.alloc (.cells #[.int .i64 x, .int .i64 y] 46) = wd at *
      have u0 := U.at_ 0 rfl; have u1 := U.at_ 1 rfl
      cases hw : within x 0 y
      · have hw2 := (within_no _ _ _).1 hw
        have hf9 := hid (pv_no HV.out hlt (fun h => by have := (HP0.out.1 h).1; have := (HP0.out.1 h).2.1; omega))
        go_wp2_with fail
        refine (share_within _ _ _ _).mono ?_
        rintro e w' ⟨rfl, rfl⟩
        rw [hw]
        go_wp2_with fail
        go_ret
        exact ⟨ret_bool hf9.out.symm, hBd⟩
      · have hw2 := (within_iff _ _ _).1 hw
        go_wp2_with fail
        refine (share_within _ _ _ _).mono ?_
        rintro e w' ⟨rfl, rfl⟩
        rw [hw]
        by_cases hyn : (n : Int) ≤ y
        · have hf9 := hid (pv_no HV.out hlt (fun h => by have := (HP0.out.1 h).2.2.1; omega))
          go_wp2_with fail
          go_ret
          exact ⟨ret_bool hf9.out.symm, hBd⟩
        · obtain ⟨xn, rfl⟩ : ∃ xn : Nat, x = (xn : Int) := ⟨x.toNat, by omega⟩
          obtain ⟨yn, rfl⟩ : ∃ yn : Nat, y = (yn : Int) := ⟨y.toNat, by omega⟩
          have q1 : (0 : Int) ≤ (xn : Int) := by omega
          have q2 : (xn : Int) ≤ (yn : Int) + 1 := by omega
          have q3 : (yn : Int) + 1 ≤ (ca : Int) := by omega
          have q4 : ¬ ca = xn := by omega
          obtain ⟨b0, o0, rfl, hb00, _⟩ := Hd 0 (by omega)
          have hsl : Sl wd (some ⟨b0, o0 + xn, none⟩) (yn + 1 - xn) (fun i => f (xn + i)) := fun j hj => (Hd.sub (x := xn) (by omega)) j (by omega)
          have hsm : sumTo (fun i => f (xn + i)) (yn + 1 - xn) = sg f xn (yn + 1) := by
            rw [sumTo_shift, show xn + (yn + 1 - xn) = yn + 1 from by omega]; rfl
          have hsum := share_sum (some ⟨b0, o0 + xn, none⟩) (yn + 1 - xn) (ca - xn) (fun i => f (xn + i)) wd (by omega) (fun i hi => HF.out _ (by omega)) hsl
          rw [hsm] at hsum
          have hP1 := HP0.out
          rw [Int.toNat_natCast, Int.toNat_natCast] at hP1
          clear HP0 hsm hsl
          go_wp2_with fail
          refine hsum.mono ?_
          rintro e w' ⟨rfl, rfl⟩
          clear hsum
          generalize sg f xn (yn + 1) = S at *
          have HP0 := hid hP1; clear hP1
          by_cases hS : S ≤ b
          · skip
            have hf9 := hid (pv_no HV.out hlt (fun h => by have := (HP0.out.1 h).2.2.2.1; omega))
            go_wp2_with fail
            go_ret
            exact ⟨ret_bool hf9.out.symm, hBd⟩
          by_cases he : xn = yn
          · subst he
            have hVm : V = ((m : Int) == 1) := bool_of_iff (by
              rw [HV.out]
              simp only [beq_iff_eq]
              constructor
              · intro h
                have := ((HP0.out.1 (h.2.2.2.2.1 t hlt)).2.2.2.2.2 rfl)
                omega
              · intro h
                obtain rfl : m = 1 := by omega
                obtain rfl : t = 0 := by omega
                have hfin := HE.out (by first | trivial | rfl) (by omega) (fun i hi => by
                  obtain rfl : i = 0 := by omega
                  exact HP0.out.2 ⟨by omega, by omega, by omega, by omega, fun h => by omega, fun _ => Nat.le_refl _⟩)
                exact HV.out.1 (hfin.2 (.inl ⟨rfl, by rw [HX.out, HY.out]⟩)))
            have HVM := hid hVm; clear hVm
            go_wp2_with fail
            go_ret
            exact ⟨ret_bool HVM.out.symm, hBd⟩
          · have heb : ((xn : Int) == (yn : Int)) = false := by simp; omega
            rcases Nat.eq_zero_or_pos t with h0 | h0
            · subst h0
              go_wp2_with fail
              go_quiet (fail)
              rename_i nq
              have hBq : Below w.heap.size w (wd.drewN nq) := below_drewN hBd nq
              go_wp2_with fail
              go_roundw
              case rel => exact ⟨0 + 1, by omega, by go_num, fun j hj => by
                rcases Nat.lt_succ_iff_lt_or_eq.1 hj with h | rfl
                · exact HOK.out j h
                · exact ⟨HP0.out.2 ⟨by omega, by omega, by omega, by omega, fun h => absurd h (Nat.lt_irrefl _), fun h => by omega⟩, by rw [HX.out, HY.out]; omega⟩, hBq⟩
              case measure => simp [intOf] <;> omega
            · obtain ⟨bq, oq, e3, hbq, d0, d1⟩ := HPd (t - 1) (by omega)
              injection e3 with e3; injection e3 with e31 e32 _
              subst e31 e32
              obtain ⟨z, hz⟩ : ∃ z, (p (t - 1)).2 = z := ⟨_, rfl⟩
              rw [hz] at d1
              have hP1 := HP0.out
              rw [hz] at hP1
              clear HP0 d0 hz
              have HP0 := hid hP1; clear hP1
              by_cases hxz : (xn : Int) < z
              · have hf9 := hid (pv_no HV.out hlt (fun h => by have := (HP0.out.1 h).2.2.2.2.1 h0; omega))
                go_wp2_with fail
                go_quiet (fail)
                rename_i nq
                go_wp2_with fail
                go_ret
                exact ⟨ret_bool hf9.out.symm, below_drewN hBd nq⟩
              · skip
                go_wp2_with fail
                go_quiet (fail)
                rename_i nq
                have hBq : Below w.heap.size w (wd.drewN nq) := below_drewN hBd nq
                go_wp2_with fail
                go_roundw
                case rel => exact ⟨t + 1, by omega, by go_num, fun j hj => by
                  rcases Nat.lt_succ_iff_lt_or_eq.1 hj with h | rfl
                  · exact HOK.out j h
                  · exact ⟨HP0.out.2 ⟨by omega, by omega, by omega, by omega, fun _ => by omega, fun h => by omega⟩, by rw [HX.out, HY.out]; omega⟩, hBq⟩
                case measure => simp [intOf] <;> omega
    · obtain rfl : t = m := (by omega)
      have hfin := HE.out (by first | trivial | rfl) (by omega) (fun i hi => (HOK.out i hi).1)
      have hv : V = ((t : Int) == k) := bool_of_iff (by
        rw [hfin]
        simp only [beq_iff_eq]
        exact ⟨fun h => h.elim (fun h => absurd h.2 (HOK.out 0 (by omega)).2) id, .inr⟩)
      have HVT := hid hv; clear hv hfin
      go_wp2_with fail
      go_ret
      exact ⟨ret_bool HVT.out.symm, hB⟩
end Go.Proofs.Ytgpcmkoimgnlbaa
