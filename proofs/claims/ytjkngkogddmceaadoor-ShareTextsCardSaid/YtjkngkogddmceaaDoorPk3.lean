/- Walks: the reference's Words; the library's Cut at a mark of one byte. -/
import Derived.Test.YtjkngkogddmceaaDoorPk1
import Derived.Test.YtjkngkogddmceaaDoorShelf
import Derived.Test.YtjkngkogddmceaaDoorPk2
import Derived.Laws.EntriesVeiled
import Derived.Deep.DeepCutAuto
namespace Go.Proofs.YtjkngkogddmceaaDoor
open Go Go.RowKit
set_option linter.unusedVariables false
theorem drop_next {l : List UInt8} {i : Nat} (hi : i < l.length) : l.drop i = l.getD i 0 :: l.drop (i + 1) := by
  rw [List.drop_eq_getElem_cons hi, List.getD_eq_getElem?_getD, List.getElem?_eq_getElem hi]; rfl
def WordsPost (l : List UInt8) (m : UInt8) (w : World) (e : Ending) (w' : World) : Prop :=
  ∃ a c, e = .returned (.slice a (wordsL m l).length c) ∧ Sst w' a (wordsL m l).length (fun k => (wordsL m l).getD k []) ∧ Below w.heap.size w w'
theorem words_length (m : UInt8) : ∀ l : List UInt8, (wordsL m l).length ≤ l.length + 1
  | [] => by simp [wordsL]
  | c :: t => by
    have ih := words_length m t
    simp only [wordsL]
    split
    · simp; omega
    · cases h : wordsL m t with
      | nil => simp [consW]
      | cons w ws => rw [h] at ih; simp only [consW, List.length_cons] at *; omega
end Go.Proofs.YtjkngkogddmceaaDoor
/- Walks: the reference's Number, Numbers and Cut. -/
namespace Go.Proofs.YtjkngkogddmceaaDoor
open Go Go.RowKit
set_option linter.unusedVariables false
theorem wr_dig (A x : Nat) (hA : A < 100000000000000000) (h : 48 ≤ x ∧ x ≤ 57) : IntKind.i64.wrap (10 * (A : Int)) = 10 * (A : Int) ∧ wrap64 (10 * (A : Int)) = 10 * (A : Int) ∧ IntKind.u8.wrap ((x : Int) - 48) = (x : Int) - 48 ∧ IntKind.i64.wrap ((x : Int) - 48) = (x : Int) - 48 ∧
    IntKind.i64.wrap (10 * (A : Int) + ((x : Int) - 48)) = ((A * 10 + (x - 48) : Nat) : Int) ∧ wrap64 (10 * (A : Int) + ((x : Int) - 48)) = ((A * 10 + (x - 48) : Nat) : Int) := by
  have e : 10 * (A : Int) + ((x : Int) - 48) = ((A * 10 + (x - 48) : Nat) : Int) := by omega
  refine ⟨IntWalk.i64_in _ ⟨by omega, by omega⟩, IntWalk.wrap64_in _ ⟨by omega, by omega⟩, IntWalk.u8_in _ ⟨by omega, by omega⟩, IntWalk.i64_in _ ⟨by omega, by omega⟩, ?_, ?_⟩
  · rw [e]; exact IntWalk.i64_in _ ⟨by omega, by omega⟩
  · rw [e]; exact IntWalk.wrap64_in _ ⟨by omega, by omega⟩
theorem ref6_within (n lo hi : Int) (w : World) : Calls Tryd.prog 54 #[.int .i64 n, .int .i64 lo, .int .i64 hi] w fun e w' => e = .returned (.bool (within n lo hi)) ∧ w = w' := by
  go_enter Tryd.func54, Tryd.ntmps54
  by_cases h1 : lo ≤ n <;> by_cases h2 : n ≤ hi <;>
  · go_wp2_with fail
    go_ret
    exact ⟨by simp [within, h1, h2], rfl⟩
/-- a number as it is written, of at most 16 digits -/
def numB (n : Int) : Prop := -1000000000000000 ≤ n ∧ n ≤ 1000000000000000
theorem itoa_len17 {n : Int} (h : numB n) : (Lib.itoa n).length ≤ 17 := by
  unfold numB at h
  have := dec_len 15 n.natAbs (by omega)
  unfold Lib.itoa
  split
  · simp; omega
  · have e : n.toNat = n.natAbs := by omega
    rw [e]; omega
def NumPost (l : List UInt8) (w : World) (e : Ending) (w' : World) : Prop :=
  ∃ (v : Int) (ok : Bool), e = .returned (.tuple #[.int .i64 v, .bool ok]) ∧ (ok = true → numB v ∧ l = Lib.itoa v) ∧ (ok = false → ∀ n, numB n → l ≠ Lib.itoa n) ∧ Below w.heap.size w w'
/-- what the first i bytes spell, without the sign -/
def accN (mi : Bool) (l : List UInt8) (i : Nat) : Nat := valD ((l.take i).drop (if mi then 1 else 0))
theorem accN_zero (mi : Bool) (l : List UInt8) : accN mi l 0 = 0 := by simp [accN, valD]
theorem accN_sign (l : List UInt8) : accN true l 1 = 0 := by
  unfold accN
  rw [if_pos rfl, List.drop_eq_nil_of_le (by simp; omega)]
  rfl
theorem accN_succ (mi : Bool) (l : List UInt8) (i : Nat) (hi : i < l.length) (h : ¬ (i = 0 ∧ mi = true)) : accN mi l (i + 1) = accN mi l i * 10 + ((l.getD i 0).toNat - 48) := by
  unfold accN
  have e : l.take (i + 1) = l.take i ++ [l.getD i 0] := by
    rw [List.take_add_one, List.getD_eq_getElem?_getD, List.getElem?_eq_getElem hi]; rfl
  rw [e]
  have e2 : ((l.take i ++ [l.getD i 0]).drop (if mi = true then 1 else 0)) = (l.take i).drop (if mi = true then 1 else 0) ++ [l.getD i 0] := by
    rw [List.drop_append_of_le_length]
    have hl : (l.take i).length = i := by simp; omega
    cases mi
    · simp
    · simp only [if_true, hl]
      rcases Nat.eq_zero_or_pos i with h0 | h0
      · exact absurd ⟨h0, rfl⟩ h
      · exact h0
  rw [e2, valD_app]
theorem accN_lt (mi : Bool) (l : List UInt8) : ∀ i, i ≤ l.length → (∀ j, j < i → (l.getD j 0).toNat ≤ 57 ) → accN mi l i < 10 ^ i := by
  intro i
  induction i with
  | zero => intro _ _; rw [accN_zero]; simp
  | succ i ih =>
    intro hi hd
    have h1 := ih (by omega) fun j hj => hd j (by omega)
    have h2 := hd i (by omega)
    by_cases h : i = 0 ∧ mi = true
    · obtain ⟨rfl, rfl⟩ := h
      rw [Nat.zero_add, accN_sign]; simp
    · rw [accN_succ mi l i (by omega) h, Nat.pow_succ]
      omega
/-- the whole of a number's digits -/
theorem accN_itoa (n : Int) : (accN ((Lib.itoa n).getD 0 0 == 45) (Lib.itoa n) (Lib.itoa n).length : Int) = if n < 0 then -n else n := by
  unfold accN
  rw [List.take_length]
  by_cases hn : n < 0
  · have e : Lib.itoa n = 45 :: Lib.decDigits n.natAbs := by unfold Lib.itoa; rw [if_pos hn]
    rw [e, if_pos hn]
    simp [valD_dec]
    omega
  · have e : Lib.itoa n = Lib.decDigits n.toNat := by unfold Lib.itoa; rw [if_neg hn]
    have h0 : ((Lib.decDigits n.toNat).getD 0 0 == 45) = false := by
      rw [beq_eq_false_iff_ne]
      intro h
      have hd := decDigits_dig n.toNat
      cases hl : Lib.decDigits n.toNat with
      | nil => exact absurd hl (decDigits_ne _)
      | cons c r =>
        rw [hl] at hd h
        have h1 := hd c (by simp)
        simp at h
        subst h
        exact absurd h1.1 (by decide)
    rw [e, h0, if_neg hn]
    simp [valD_dec]
    omega
theorem itoa_sign (n : Int) : ((Lib.itoa n).getD 0 0 == 45) = decide (n < 0) := by
  by_cases hn : n < 0
  · have e : Lib.itoa n = 45 :: Lib.decDigits n.natAbs := by unfold Lib.itoa; rw [if_pos hn]
    rw [e, decide_eq_true hn]; rfl
  · have e : Lib.itoa n = Lib.decDigits n.toNat := by unfold Lib.itoa; rw [if_neg hn]
    rw [e, decide_eq_false hn, beq_eq_false_iff_ne]
    intro h
    have hd := decDigits_dig n.toNat
    cases hl : Lib.decDigits n.toNat with
    | nil => exact absurd hl (decDigits_ne _)
    | cons c r =>
      rw [hl] at hd h
      have h1 := hd c (by simp)
      simp at h
      subst h
      exact absurd h1.1 (by decide)
/-- a byte that is no digit, behind the sign, is in no number -/
theorem itoa_digits {n : Int} {i : Nat} (hi : i < (Lib.itoa n).length) (h : ¬ (i = 0 ∧ ((Lib.itoa n).getD 0 0 == 45) = true)) : 48 ≤ ((Lib.itoa n).getD i 0).toNat ∧ ((Lib.itoa n).getD i 0).toNat ≤ 57 := by
  by_cases hn : n < 0
  · have e : Lib.itoa n = 45 :: Lib.decDigits n.natAbs := by unfold Lib.itoa; rw [if_pos hn]
    rw [e] at hi h ⊢
    rcases Nat.eq_zero_or_pos i with rfl | h0
    · exact absurd ⟨rfl, by simp⟩ h
    · obtain ⟨j, rfl⟩ : ∃ j, i = j + 1 := ⟨i - 1, by omega⟩
      have hj : j < (Lib.decDigits n.natAbs).length := by simpa using hi
      refine decDigits_dig n.natAbs _ ?_
      rw [List.getD_cons_succ, List.getD_eq_getElem?_getD, List.getElem?_eq_getElem hj]
      exact List.getElem_mem _
  · have e : Lib.itoa n = Lib.decDigits n.toNat := by unfold Lib.itoa; rw [if_neg hn]
    rw [e] at hi ⊢
    refine decDigits_dig n.toNat _ ?_
    rw [List.getD_eq_getElem?_getD, List.getElem?_eq_getElem hi]
    exact List.getElem_mem _
set_option maxRecDepth 100000 in
set_option maxHeartbeats 4000000 in
theorem ref6_Number (l : List UInt8) (w : World) (hl : l.length ≤ 1000000) : Calls Tryd.prog 35 #[.string ⟨l.toArray⟩] w (NumPost l w) := by
  by_cases h0 : l = []
  · subst h0
    go_enter Tryd.func35, Tryd.ntmps35
    go_wp2_with fail
    go_ret2
    exact ⟨0, false, rfl, by simp, fun _ n _ e => itoa_ne n e.symm, Below.refl _ _⟩
  have hpos : 0 < l.length := List.length_pos_iff.2 h0
  have hz0 : l.isEmpty = false := by cases l <;> simp_all
  have hsz := vStr_size l
  by_cases h17 : 17 < l.length
  · have i17 : (17 : Int) < (l.length : Int) := by omega
    go_enter Tryd.func35, Tryd.ntmps35
    go_wp2_with fail
    go_ret2
    exact ⟨0, false, rfl, by simp, fun _ n hn e => by have := itoa_len17 hn; rw [← e] at this; omega, Below.refl _ _⟩
  have i17 : ¬ (17 : Int) < (l.length : Int) := by omega
  obtain ⟨B, hB⟩ : ∃ B : Nat → Nat, ∀ i, (l.getD i 0).toNat = B i := ⟨_, fun _ => rfl⟩
  have hat : ∀ i, i < l.length → ∀ W, (Instr.index 9 (.string ⟨l.toArray⟩) (.int .i64 (i : Int))).run Tryd.prog W = .ok (.int .u8 (B i : Int)) W := fun i hi W => by rw [← hB]; exact str_at l i hi W
  have hat0 : ∀ W, (Instr.index 9 (.string ⟨l.toArray⟩) (.int .i64 0)).run Tryd.prog W = .ok (.int .u8 (B 0 : Int)) W := hat 0 hpos
  obtain ⟨mi, hmi⟩ : ∃ mi, (l.getD 0 0 == 45) = mi := ⟨_, rfl⟩
  have hmi2 : ((B 0 : Int) == 45) = mi := by
    rw [← hmi, ← hB, Bool.eq_iff_iff, beq_iff_eq, beq_iff_eq]
    constructor
    · intro h; exact UInt8.toNat.inj (by show _ = 45; omega)
    · intro h; rw [h]; rfl
  have hB256 : ∀ i, B i < 256 := fun i => by rw [← hB]; exact (l.getD i 0).toNat_lt
  have HMI := hid hmi; have HB := hid hB; have HB2 := hid hB256
  clear hB hB256
  go_enter Tryd.func35, Tryd.ntmps35
  go_wp2_with fail
  refine wp_region_S (fun Y => True) 5 (by kernel_rfl) ?_
  refine anyS_pure (i := 0) rfl (by kernel_rfl) (fun _ _ _ h => h) (Or.inl ⟨by rfl, fun Y hYb => (by clear hYb; go_simp; rfl)⟩) ?_
  refine anyS_pure (i := 1) rfl (by kernel_rfl) (fun _ _ _ h => h) (Or.inl ⟨by rfl, fun Y hYb => (by clear hYb; go_simp; rfl)⟩) ?_
  refine anyS_pure (i := 2) rfl (by kernel_rfl) (fun _ _ _ h => h) (Or.inl ⟨by rfl, fun Y hYb => (by clear hYb; go_simp; rfl)⟩) ?_
  refine anyS_pure (i := 3) rfl (by kernel_rfl) (fun _ _ _ h => h) (Or.inl ⟨by rfl, fun Y hYb => (by clear hYb; go_simp; rfl)⟩) ?_
  refine anyS_pure (i := 4) rfl (by kernel_rfl) (fun _ _ _ h => h) (Or.inl ⟨by rfl, fun Y hYb => (by clear hYb; go_simp; rfl)⟩) ?_
  refine anyS_done (by kernel_rfl) ?_ _
  go_wp2_with fail
  have HZ := hid hz0; have HP := hid hpos
  clear hmi hmi2 hat0 hz0
  go_loopw [4, 6] (fun v4 v6 wr => ∃ i : Nat, i ≤ l.length ∧ v6 = .int .i64 (i : Int) ∧ v4 = .int .i64 (accN mi l i : Int) ∧ (∀ j, j < i → ¬ (j = 0 ∧ mi = true) → 48 ≤ B j ∧ B j ≤ 57) ∧ Below w.heap.size w wr) (fun _ v6 _ => l.length - (intOf v6).toNat)
  case atStart => exact ⟨0, Nat.zero_le _, rfl, by rw [accN_zero]; rfl, fun j hj => by omega, (Below.refl _ _).drew⟩
  case round =>
    obtain ⟨i, hil, rfl, rfl, hdg, hb⟩ := hrel
    have HDG := hid hdg; clear hdg
    by_cases hlt : i < l.length
    · have i1 : (i : Int) < (l.length : Int) := by omega
      have hat1 := hat i hlt
      by_cases hs : i = 0 ∧ mi = true
      · obtain ⟨rfl, rfl⟩ := hs
        go_wp2_with fail
        go_roundw
        case rel => exact ⟨1, by omega, by go_num, (by rw [accN_sign, accN_zero]), fun j hj hn => absurd (by simp; omega) hn, hb⟩
        case measure => simp [intOf]; omega
      · have hx := HB2.out i
        have hx48 : ((B i : Int) < 48) ∨ ¬ ((B i : Int) < 48) := Classical.em _
        have HS := hid hs
        have hmi0 : i = 0 → mi = false := fun h => by cases mi; rfl; exact absurd ⟨h, rfl⟩ hs
        clear hs
        by_cases hd : 48 ≤ B i ∧ B i ≤ 57
        · have d1 : ¬ ((B i : Int) < 48) := by omega
          have d2 : ¬ (57 < (B i : Int)) := by omega
          have hA := accN_lt mi l i hil fun j hj => by
            by_cases h : j = 0 ∧ mi = true
            · have hmm := HMI.out
              rw [h.2, beq_iff_eq] at hmm
              rw [h.1, hmm]; decide
            · rw [HB.out]; exact (HDG.out j hj h).2
          have hA2 : accN mi l i < 100000000000000000 := Nat.lt_of_lt_of_le hA (Nat.pow_le_pow_right (by decide) (by omega : i ≤ 17))
          have hS := hid (accN_succ mi l i hlt HS.out)
          obtain ⟨q1, q2, q3, q4, q5, q6⟩ := wr_dig (accN mi l i) (B i) hA2 hd
          obtain ⟨A, hAe⟩ : ∃ A, accN mi l i = A := ⟨_, rfl⟩
          rw [hAe] at q1 q2 q5 q6 hA2 ⊢
          have HAE := hid hAe
          clear hAe hA hx48 hx
          rcases Nat.eq_zero_or_pos i with rfl | hip
          · obtain rfl := hmi0 rfl
            have hat2 : ∀ W, (Instr.index 9 (.string ⟨l.toArray⟩) (.int .i64 0)).run Tryd.prog W = .ok (.int .u8 (B 0 : Int)) W := hat 0 hlt
            have hbs : B 0 - 48 ≤ 9 := by omega
            generalize hR : A * 10 + (B 0 - 48) = R at *
            have HR := hid hR; clear hR
            go_wp2_with fail
            go_roundw
            case rel => exact ⟨1, by omega, by go_num, (by rw [hS.out, HAE.out, HB.out, HR.out]), (fun j hj hn => by obtain rfl : j = 0 := (by omega); exact hd), hb⟩
            case measure => simp [intOf]; omega
          · have hi0 : ((i : Int) == 0) = false := by rw [beq_eq_false_iff_ne]; omega
            have hR := hid (hS.out.trans (by rw [HAE.out, HB.out]))
            generalize hRR : A * 10 + (B i - 48) = R at *
            clear hRR hS
            go_wp2_with fail
            go_roundw
            case rel => exact ⟨i + 1, by omega, by go_num, (by rw [hR.out]), (fun j hj hn => by
              rcases Nat.lt_succ_iff_lt_or_eq.1 hj with h | rfl
              · exact HDG.out j h hn
              · exact hd), hb⟩
            case measure => simp [intOf]; omega
        · have hbad : ∀ n, numB n → l ≠ Lib.itoa n := fun n _ e => by
            subst e
            have := itoa_digits hlt (by rw [HMI.out]; exact HS.out)
            rw [HB.out] at this
            exact hd this
          have HBAD := hid hbad
          have hd1 : (B i : Int) < 48 ∨ (¬ (B i : Int) < 48 ∧ 57 < (B i : Int)) := by omega
          clear hbad hd hx48
          rcases Nat.eq_zero_or_pos i with rfl | hip
          · obtain rfl := hmi0 rfl
            have hat2 : ∀ W, (Instr.index 9 (.string ⟨l.toArray⟩) (.int .i64 0)).run Tryd.prog W = .ok (.int .u8 (B 0 : Int)) W := hat 0 hlt
            rcases hd1 with hd1 | ⟨hd1, hd2⟩
            · go_wp2_with fail
              go_ret2
              exact ⟨0, false, rfl, by simp, fun _ => HBAD.out, hb⟩
            · go_wp2_with fail
              go_ret2
              exact ⟨0, false, rfl, by simp, fun _ => HBAD.out, hb⟩
          · have hi0 : ((i : Int) == 0) = false := by rw [beq_eq_false_iff_ne]; omega
            rcases hd1 with hd1 | ⟨hd1, hd2⟩
            · go_wp2_with fail
              go_ret2
              exact ⟨0, false, rfl, by simp, fun _ => HBAD.out, hb⟩
            · go_wp2_with fail
              go_ret2
              exact ⟨0, false, rfl, by simp, fun _ => HBAD.out, hb⟩
    · obtain rfl : i = l.length := (by omega)
      obtain ⟨A, hAe⟩ : ∃ A, accN mi l l.length = A := ⟨_, rfl⟩
      have hA := accN_lt mi l l.length (Nat.le_refl _) fun j hj => by
        by_cases h : j = 0 ∧ mi = true
        · have hmm := HMI.out
          rw [h.2, beq_iff_eq] at hmm
          rw [h.1, hmm]; decide
        · rw [HB.out]; exact (HDG.out j hj h).2
      have hA2 : accN mi l l.length < 1000000000000000000 := Nat.lt_of_lt_of_le hA (Nat.pow_le_pow_right (by decide) (by omega : l.length ≤ 18))
      rw [hAe] at hA2 ⊢
      have HAE := hid hAe
      clear hAe hA
      have key : ∀ (b : Bool) (W : World), b = true ∨ b = false → True := fun _ _ _ => trivial
      obtain ⟨v, hv⟩ : ∃ v : Int, (if mi then -(A : Int) else (A : Int)) = v := ⟨_, rfl⟩
      have hvb : -1000000000000000000 < v ∧ v < 1000000000000000000 := by rw [← hv]; split <;> omega
      have hdig := fun W => ref6_Digits v W (by omega) (by omega)
      have hend : ∀ n, l = Lib.itoa n → v = n := fun n e => by
        have h1 := accN_itoa n
        rw [← e, HMI.out, HAE.out] at h1
        have hs : mi = decide (n < 0) := by
          rw [← HMI.out, e]
          exact itoa_sign n
        rw [← hv]
        cases mi
        · have : ¬ n < 0 := by simpa using hs.symm
          rw [if_neg this] at h1; simpa using h1
        · have : n < 0 := by simpa using hs.symm
          rw [if_pos this] at h1; simp; omega
      have hok : ∀ ok : Bool, (ok = true ↔ Lib.itoa v = l ∧ numB v) → (ok = true → numB v ∧ l = Lib.itoa v) ∧ (ok = false → ∀ n, numB n → l ≠ Lib.itoa n) := fun ok h => by
        refine ⟨fun h1 => ⟨(h.1 h1).2, (h.1 h1).1.symm⟩, fun h1 n hn e => ?_⟩
        have := hend n e
        subst this
        rw [h.2 ⟨e.symm, hn⟩] at h1
        cases h1
      have hwi := fun W => ref6_within v (-1000000000000000) 1000000000000000 W
      have HOK := hid hok; clear hok key hend
      clear HAE HMI HB HB2 HDG HZ HP
      have hw1 : IntKind.i64.wrap (-(A : Int)) = -(A : Int) := IntWalk.i64_in _ ⟨by omega, by omega⟩
      have hw2 : wrap64 (-(A : Int)) = -(A : Int) := IntWalk.wrap64_in _ ⟨by omega, by omega⟩
      cases mi
      · have hvA : (A : Int) = v := hv
        rw [hvA]
        clear hw1 hw2 hvA hv
        by_cases heq : Lib.itoa v = l
        · have hw := HOK.out (within v (-1000000000000000) 1000000000000000) (by rw [within_iff]; exact ⟨fun h => ⟨heq, h⟩, fun h => h.2⟩)
          generalize within v (-1000000000000000) 1000000000000000 = ok at *
          have HW := hid hw; clear hw
          obtain ⟨T, hT⟩ : ∃ T, Lib.itoa v = T := ⟨_, rfl⟩
          rw [hT] at heq
          simp only [hT] at hdig
          clear hT
          go_wp2_with (first | (go_at_call 22; refine (hdig _).mono ?_; rintro e w1 ⟨rfl, hb1⟩) | (go_at_call 54; refine (hwi _).mono ?_; rintro e w2 ⟨rfl, rfl⟩))
          go_ret2
          exact ⟨v, ok, rfl, HW.out.1, HW.out.2, bvia hb hb1⟩
        · have hw := HOK.out false ⟨fun h => (by cases h), fun h => absurd h.1 heq⟩
          have HW := hid hw; clear hw
          obtain ⟨T, hT⟩ : ∃ T, Lib.itoa v = T := ⟨_, rfl⟩
          rw [hT] at heq
          simp only [hT] at hdig
          clear hT
          go_wp2_with (go_at_call 22; refine (hdig _).mono ?_; rintro e w1 ⟨rfl, hb1⟩)
          go_ret2
          exact ⟨v, false, rfl, HW.out.1, fun _ => HW.out.2 (by trivial), bvia hb hb1⟩
      · have hvA : -(A : Int) = v := hv
        rw [hvA] at hw1 hw2
        have HVA := hid hvA
        clear hv
        by_cases heq : Lib.itoa v = l
        · have hw := HOK.out (within v (-1000000000000000) 1000000000000000) (by rw [within_iff]; exact ⟨fun h => ⟨heq, h⟩, fun h => h.2⟩)
          generalize within v (-1000000000000000) 1000000000000000 = ok at *
          have HW := hid hw; clear hw
          obtain ⟨T, hT⟩ : ∃ T, Lib.itoa v = T := ⟨_, rfl⟩
          rw [hT] at heq
          simp only [hT] at hdig
          clear hT
          go_wp2_with (first | (go_at_call 22; refine (hdig _).mono ?_; rintro e w1 ⟨rfl, hb1⟩) | (go_at_call 54; refine (hwi _).mono ?_; rintro e w2 ⟨rfl, rfl⟩))
          go_ret2
          exact ⟨v, ok, rfl, HW.out.1, HW.out.2, bvia hb hb1⟩
        · have hw := HOK.out false ⟨fun h => (by cases h), fun h => absurd h.1 heq⟩
          have HW := hid hw; clear hw
          obtain ⟨T, hT⟩ : ∃ T, Lib.itoa v = T := ⟨_, rfl⟩
          rw [hT] at heq
          simp only [hT] at hdig
          clear hT
          go_wp2_with (go_at_call 22; refine (hdig _).mono ?_; rintro e w1 ⟨rfl, hb1⟩)
          go_ret2
          exact ⟨v, false, rfl, HW.out.1, fun _ => HW.out.2 (by trivial), bvia hb hb1⟩
theorem gd_left (xs : List Int) (v : Int) {j : Nat} (h : j < xs.length) : (xs ++ [v]).getD j 0 = xs.getD j 0 := by simp [List.getD_eq_getElem?_getD, List.getElem?_append_left h]
theorem gd_last (xs : List Int) (v : Int) : (xs ++ [v]).getD xs.length 0 = v := by simp [List.getD_eq_getElem?_getD]
/-- texts read as numbers: all of them, or one is none -/
def NumsPost (n : Nat) (f : Nat → List UInt8) (w : World) (e : Ending) (w' : World) : Prop :=
  (∃ (xs : List Int) (a : Option Addr) (c : Nat), xs.length = n ∧ (∀ k, k < n → numB (xs.getD k 0) ∧ f k = Lib.itoa (xs.getD k 0)) ∧ e = .returned (.tuple #[.slice a xs.length c, .bool true]) ∧ Sl w' a xs.length (fun k => xs.getD k 0) ∧ Below w.heap.size w w') ∨
  (e = .returned (.tuple #[.slice none 0 0, .bool false]) ∧ (∃ k, k < n ∧ ∀ m, numB m → f k ≠ Lib.itoa m) ∧ Below w.heap.size w w')
set_option maxRecDepth 100000 in
set_option maxHeartbeats 4000000 in
theorem ref6_Numbers (a : Option Addr) (n c : Nat) (f : Nat → List UInt8) (w : World) (hn : n ≤ 1000001) (hf : ∀ k, k < n → (f k).length ≤ 1000000) (H : Sst w a n f) : Calls Tryd.prog 19 #[.slice a n c] w (NumsPost n f w) := by
  obtain ⟨i0, hi, hz0, hz1, hz2⟩ := info_parts infoI
  have HF := hid hf; clear hf
  go_enter Tryd.func19, Tryd.ntmps19
  go_wp2_with fail
  go_loopw [4, 5] (fun v s5 wr => ∃ (xs : List Int), xs.length ≤ n ∧ s5 = .int .i64 (xs.length : Int) ∧ wr.ownsRow w.heap.size 3 1 v xs.length (xs.map vInt) ∧ (∀ k, k < xs.length → numB (xs.getD k 0) ∧ f k = Lib.itoa (xs.getD k 0)) ∧ Below w.heap.size w wr) (fun _ s5 _ => n - (intOf s5).toNat)
  case atStart => exact ⟨[], Nat.zero_le _, rfl, World.ownsRow_nil .., fun k hk => by simp at hk, Below.refl _ _⟩
  case round =>
    obtain ⟨xs, hxn, rfl, hown, hall, hb⟩ := hrel
    have hsz := hb.size
    have HALL := hid hall; clear hall
    obtain ⟨k, hk⟩ : ∃ k, xs.length = k := ⟨_, rfl⟩
    rw [hk] at hxn
    have HK := hid hk
    by_cases hlt : k < n
    · have i4 : (k : Int) < (n : Int) := by omega
      obtain ⟨b, off, rfl, hbl, hc⟩ := H k hlt
      have hck := (bcell hb _ _ hbl).trans hc
      have hnum := fun W => ref6_Number (f k) W (HF.out k hlt)
      rw [hk] at hown ⊢
      clear hk hc
      go_wp2_with fail
      refine (hnum _).mono ?_
      rintro e w1 ⟨v, ok, rfl, h1, h2, hb1⟩
      have hB1 := bvia hb hb1
      have hsz1 := hb1.size
      cases ok
      · have H2 := hid h2; clear h1 h2
        go_wp2_with fail
        go_ret2
        exact .inr ⟨rfl, ⟨k, hlt, H2.out (by trivial)⟩, hB1⟩
      · have h3 := h1 rfl
        have H3 := hid h3
        clear h1 h2 h3
        replace hown := own_below hown hb1
        go_wp2_with (at_builtin; refine wpList_append_own _ rfl _ _ 22 rfl (w.heap.size) 3 i0 (.int .i64 0) 1 8 Tryd.underlying22 hi hz0 hz1 hz2 rfl (by decide) _ _ _ rfl ((hown).alloc _) ⟨w1.heap.size, 0, none⟩ 1 1 [.int .i64 v] rfl rfl (cell_one_new _ _ _) (by simp [Value.oneCell']) (by simp [maxLen]; omega) (by omega) (by simp; omega) ?_; intro v' w2 hown' hgrow _)
        go_roundw
        case rel =>
          have e := HK.out
          subst e
          refine ⟨xs ++ [v], by simp; omega, by simp, own_snoc hown', fun j hj => ?_, (hB1.alloc (by omega) _).grown hgrow (by simp; omega) (own_base hown)⟩
          rw [List.length_append, List.length_singleton] at hj
          rcases Nat.lt_succ_iff_lt_or_eq.1 hj with h | rfl
          · rw [gd_left _ _ h]; exact HALL.out j h
          · rw [gd_last]
            exact H3.out
        case measure => simp [intOf]; omega
    · obtain rfl : k = n := (by omega)
      rw [hk] at hown ⊢
      clear hk
      go_wp2_with fail
      go_ret2
      have e := HK.out
      subst e
      obtain ⟨a', c', rfl, hs⟩ := sl_of_own hown
      exact .inl ⟨xs, a', c', rfl, HALL.out, rfl, hs, hb⟩
set_option maxRecDepth 100000 in
set_option maxHeartbeats 4000000 in
theorem ref6_Cut (l : List UInt8) (m : UInt8) (w : World) (hl : l.length ≤ 1000000) :
    Calls Tryd.prog 20 #[.string ⟨l.toArray⟩, .int .u8 (m.toNat : Int)] w (WordsPost l m w) := by
  obtain ⟨i0, hi, hz0, hz1, hz2⟩ := info_parts infoStr
  have hwl := words_length m l
  go_enter Tryd.func20, Tryd.ntmps20
  go_wp2_with fail
  go_loopw [5, 6, 7] (fun v s6 s7 wr => (∃ (ws : List (List UInt8)) (p : List UInt8) (i : Nat), i ≤ l.length ∧ p.length ≤ i ∧ s7 = .int .i64 (i : Int) ∧ s6 = .int .i64 ((i - p.length : Nat) : Int) ∧ wr.ownsRow w.heap.size 9 1 v ws.length (ws.map vStr) ∧
    l.drop (i - p.length) = p ++ l.drop i ∧ (∀ c ∈ p, c ≠ m) ∧ wordsL m l = ws ++ wordsL m (p ++ l.drop i) ∧ Below w.heap.size w wr) ∨
    (s7 = .int .i64 ((l.length : Int) + 1) ∧ wr.ownsRow w.heap.size 9 1 v (wordsL m l).length ((wordsL m l).map vStr) ∧ Below w.heap.size w wr)) (fun _ _ s7 _ => l.length + 1 - (intOf s7).toNat)
  case atStart => exact .inl ⟨[], [], 0, Nat.zero_le _, Nat.zero_le _, rfl, rfl, World.ownsRow_nil .., rfl, by simp, by simp, Below.refl _ _⟩
  case round =>
    rcases hrel with ⟨ws, p, i, hil, hpi, rfl, rfl, hown, hdp, hnm, hws, hb⟩ | ⟨rfl, hown, hb⟩
    · have hsz := hb.size
      by_cases hlt : i < l.length
      · have hat := fun W => str_at l i hlt W
        have hdn := drop_next hlt
        have HDN := hid hdn; have HWS := hid hws; have HDP := hid hdp
        clear hdn hws hdp
        have i5 : (i : Int) ≤ (l.length : Int) := by omega
        have i6 : ((i : Int) == (l.length : Int)) = false := by rw [beq_eq_false_iff_ne]; omega
        by_cases hc : l.getD i 0 = m
        · have hcut := fun W => str_cut l (i - p.length) i (by omega) (by omega) W
          have e : (l.drop (i - p.length)).take (i - (i - p.length)) = p := by rw [HDP.out, show i - (i - p.length) = p.length by omega, List.take_left]
          rw [e] at hcut
          rw [hc] at hat
          have hl2 : ws.length ≤ 1000001 := by
            have := congrArg List.length HWS.out
            rw [List.length_append] at this
            omega
          have i1 : (0 : Int) ≤ ((i - p.length : Nat) : Int) := by omega
          have i2 : ((i - p.length : Nat) : Int) ≤ (i : Int) := by omega
          have hmm : ((m.toNat : Int) == (m.toNat : Int)) = true := by simp
          generalize i - p.length = f at *
          go_wp2_with (at_builtin; refine wpList_append_own _ rfl _ _ 39 rfl (w.heap.size) 9 i0 (.string ⟨#[]⟩) 1 16 Tryd.underlying39 hi hz0 hz1 hz2 rfl (by decide) _ _ _ rfl ((hown).alloc _) ⟨wr.heap.size, 0, none⟩ 1 1 [.string ⟨(p).toArray⟩] rfl rfl (cell_one_new _ _ _) (by simp [Value.oneCell']) (by simp [maxLen]; omega) (by omega) (by simp; omega) ?_; intro v' w1 hown' hgrow _)
          go_roundw
          case rel => exact .inl ⟨ws ++ [p], [], i + 1, by omega, by simp, by go_num, by go_num, owns_snoc hown', rfl, by simp, (by
            rw [HWS.out, HDN.out, hc, words_mark hnm]; simp), (hb.alloc hsz _).grown hgrow (by simp; omega) (own_base hown)⟩
          case measure => simp [intOf]; omega
        · have hne : (((l.getD i 0).toNat : Int) == (m.toNat : Int)) = false := by
            rw [beq_eq_false_iff_ne]
            intro h
            exact hc (UInt8.toNat.inj (by omega))
          have HC := hid hc; clear hc
          generalize l.getD i 0 = x at *
          go_wp2_with fail
          go_roundw
          case rel => exact .inl ⟨ws, p ++ [x], i + 1, by omega, (by rw [List.length_append]; show p.length + 1 ≤ i + 1; omega), by go_num, (by rw [List.length_append, show i + 1 - (p.length + [x].length) = i - p.length by (show i + 1 - (p.length + 1) = _; omega)]), hown, (by
            rw [List.length_append, show i + 1 - (p.length + [x].length) = i - p.length by (show i + 1 - (p.length + 1) = _; omega), HDP.out, HDN.out]; simp), (fun c hc => by
            rcases List.mem_append.1 hc with hc | hc
            · exact hnm c hc
            · rw [List.mem_singleton.1 hc]; exact HC.out), (by rw [HWS.out, HDN.out]; simp), hb⟩
          case measure => simp [intOf]; omega
      · obtain rfl : i = l.length := (by omega)
        have hcut := fun W => str_cut l (l.length - p.length) l.length (by omega) (Nat.le_refl _) W
        have hd0 : l.drop l.length = [] := List.drop_length
        rw [hdp, hd0, List.append_nil, show l.length - (l.length - p.length) = p.length by omega, List.take_length] at hcut
        rw [hd0, List.append_nil, words_none hnm] at hws
        have hl2 : ws.length ≤ 1000001 := by
          have := congrArg List.length hws
          rw [List.length_append] at this
          omega
        have HWS := hid hws
        have i1 : (0 : Int) ≤ ((l.length - p.length : Nat) : Int) := by omega
        have i2 : ((l.length - p.length : Nat) : Int) ≤ (l.length : Int) := by omega
        clear hws hdp hd0
        generalize l.length - p.length = f at *
        go_wp2_with (at_builtin; refine wpList_append_own _ rfl _ _ 39 rfl (w.heap.size) 9 i0 (.string ⟨#[]⟩) 1 16 Tryd.underlying39 hi hz0 hz1 hz2 rfl (by decide) _ _ _ rfl ((hown).alloc _) ⟨wr.heap.size, 0, none⟩ 1 1 [.string ⟨(p).toArray⟩] rfl rfl (cell_one_new _ _ _) (by simp [Value.oneCell']) (by simp [maxLen]; omega) (by omega) (by simp; omega) ?_; intro v' w1 hown' hgrow _)
        go_roundw
        case rel =>
          have ho := owns_snoc hown'
          rw [← HWS.out] at ho
          exact .inr ⟨by go_num, ho, (hb.alloc hsz _).grown hgrow (by simp; omega) (own_base hown)⟩
        case measure => simp [intOf]
    · have i5 : ¬ ((l.length : Int) + 1 ≤ (l.length : Int)) := by omega
      go_wp2_with fail
      go_ret
      obtain ⟨a, c, rfl, hs⟩ := sst_of_own hown
      exact ⟨a, c, rfl, hs, hb⟩
end Go.Proofs.YtjkngkogddmceaaDoor
/- Walks of the share layer: validity, sums, the greedy share, of the program and of the reference. -/
namespace Go.Proofs.YtjkngkogddmceaaDoor
open Go Go.RowKit
set_option linter.unusedVariables false
theorem share_within (n lo hi : Int) (w : World) : Calls Tryd.prog 27 #[.int .i64 n, .int .i64 lo, .int .i64 hi] w fun e w' => e = .returned (.bool (within n lo hi)) ∧ w = w' := by
  cases h1 : decide (lo ≤ n)
  all_goals
    go_enter Tryd.func27, Tryd.ntmps27
    go_wp2
    go_ret
    exact ⟨by simp [within, h1], rfl⟩
theorem ref9_within (n lo hi : Int) (w : World) : Calls Tryd.prog 36 #[.int .i64 n, .int .i64 lo, .int .i64 hi] w fun e w' => e = .returned (.bool (within n lo hi)) ∧ w = w' := by
  cases h1 : decide (lo ≤ n)
  all_goals
    go_enter Tryd.func36, Tryd.ntmps36
    go_wp2
    go_ret
    exact ⟨by simp [within, h1], rfl⟩
def vL (n : Nat) (f : Nat → Int) : Bool := decide (1 ≤ n ∧ n ≤ 64 ∧ ∀ k, k < n → 0 ≤ f k ∧ f k ≤ 1000000000)
theorem vL_iff (n : Nat) (f : Nat → Int) : vL n f = true ↔ validL n f := by simp [vL, validL]
theorem share_valid1 (n : Int) (w : World) : Calls Tryd.prog 56 #[.int .i64 n] w fun e w' => e = .returned (.bool (!within n 0 1000000000)) ∧ w = w' := by
  go_enter Tryd.func56, Tryd.ntmps56
  go_wp2_with (go_at_call 27; refine (share_within _ _ _ _).mono ?_; rintro e w' ⟨rfl, rfl⟩)
  go_ret
  exact ⟨rfl, rfl⟩
/-- the first number out of range; n if there is none -/
def badI (f : Nat → Int) (n : Nat) : Nat := firstN (fun y => !within (f y) 0 1000000000) n 0
theorem badI_spec (f : Nat → Int) (n : Nat) : badI f n ≤ n ∧ (∀ y, y < badI f n → within (f y) 0 1000000000 = true) ∧ (badI f n < n → within (f (badI f n)) 0 1000000000 = false) := by
  obtain ⟨a1, a2, a3, a4⟩ := firstN_spec (P := fun y => !within (f y) 0 1000000000) n 0
  refine ⟨by unfold badI; omega, fun y h => ?_, fun h => ?_⟩
  · have h1 := a3 y (Nat.zero_le _) h
    revert h1; cases within (f y) 0 1000000000 <;> simp
  · have h1 := a4 (by unfold badI at h; omega)
    have h2 : (!within (f (badI f n)) 0 1000000000) = true := h1
    revert h2; cases within (f (badI f n)) 0 1000000000 <;> simp
def badR (f : Nat → Int) (n : Nat) : Int := if badI f n < n then (badI f n : Int) else -1
set_option maxHeartbeats 400000 in
theorem indexFunc_bad (a : Option Addr) (n c : Nat) (f : Nat → Int) (w : World) (hn : n ≤ 100000000) (H : Sl w a n f) :
    Calls Tryd.prog 71 #[.slice a n c, .func (.func 56) #[] #[]] w fun e w' => e = .returned (.int .i64 (badR f n)) ∧ w = w' := by
  obtain ⟨s1, s2, s3⟩ := badI_spec f n
  have HS2 := hid s2; have HS3 := hid s3; clear s2 s3
  go_enter Tryd.func71, Tryd.ntmps71
  go_wp2
  go_loop [8] (fun i => ∃ k : Nat, k ≤ badI f n ∧ i = .int .i64 k) (fun i => n - (intOf i).toNat)
  case atStart => exact ⟨0, Nat.zero_le _, rfl⟩
  case round =>
    obtain ⟨k, hk, rfl⟩ := hrel
    by_cases hlt : k < n
    · obtain ⟨b, off, rfl, hb, hc⟩ := H k hlt
      cases hw : within (f k) 0 1000000000
      · have hke : k = badI f n := by
          rcases Nat.eq_or_lt_of_le hk with e | h'
          · exact e
          · have := HS2.out k h'; rw [hw] at this; cases this
        have HKE := hid hke; clear hke
        go_wp2_with (go_at_call 56; refine (share_valid1 _ _).mono ?_; rintro e w' ⟨rfl, rfl⟩)
        go_ret
        exact ⟨ret_int (by rw [badR, ← HKE.out, if_pos hlt]), rfl⟩
      · have hke : k + 1 ≤ badI f n := by
          rcases Nat.eq_or_lt_of_le hk with e | h'
          · have := HS3.out (by omega); rw [← e, hw] at this; cases this
          · exact h'
        go_wp2_with (go_at_call 56; refine (share_valid1 _ _).mono ?_; rintro e w' ⟨rfl, rfl⟩)
        go_round
        case rel => exact ⟨k + 1, hke, by go_num⟩
        case measure => simp [intOf]; omega
    · go_wp2
      go_ret
      exact ⟨ret_int (by rw [badR, if_neg (by omega)]), rfl⟩
theorem containsFunc_bad (a : Option Addr) (n c : Nat) (f : Nat → Int) (w : World) (hn : n ≤ 100000000) (H : Sl w a n f) :
    Calls Tryd.prog 55 #[.slice a n c, .func (.func 56) #[] #[]] w fun e w' => e = .returned (.bool (decide (badI f n < n))) ∧ w = w' := by
  by_cases hb : badI f n < n
  · have h := fun W H => indexFunc_bad a n c f W hn H
    simp only [badR, if_pos hb] at h
    have hd : decide (badI f n < n) = true := by simpa using hb
    rw [hd]
    generalize badI f n = j at *
    clear hd
    go_enter Tryd.func55, Tryd.ntmps55
    go_wp2_with (go_at_call 71; refine (h _ H).mono ?_; rintro e w' ⟨rfl, rfl⟩)
    go_ret
    exact ⟨rfl, rfl⟩
  · have h := fun W H => indexFunc_bad a n c f W hn H
    simp only [badR, if_neg hb] at h
    have hd : decide (badI f n < n) = false := by simpa using hb
    rw [hd]
    generalize badI f n = j at *
    clear hd
    go_enter Tryd.func55, Tryd.ntmps55
    go_wp2_with (go_at_call 71; refine (h _ H).mono ?_; rintro e w' ⟨rfl, rfl⟩)
    go_ret
    exact ⟨rfl, rfl⟩
theorem vL_bad (f : Nat → Int) (n : Nat) : vL n f = (within n 1 64 && !decide (badI f n < n)) := by
  obtain ⟨s1, s2, s3⟩ := badI_spec f n
  rw [Bool.eq_iff_iff, vL_iff, Bool.and_eq_true, within_iff]
  simp only [validL, Bool.not_eq_true', decide_eq_false_iff_not]
  constructor
  · rintro ⟨h1, h2, h3⟩
    refine ⟨by omega, fun hb => ?_⟩
    have := s3 hb
    rw [within_no] at this
    exact this (h3 _ hb)
  · rintro ⟨h1, h2⟩
    refine ⟨by omega, by omega, fun k hk => ?_⟩
    have := s2 k (by omega)
    rwa [within_iff] at this
set_option maxHeartbeats 400000 in
theorem share_valid (a : Option Addr) (n c : Nat) (f : Nat → Int) (w : World) (hn : n ≤ 100000000) (H : Sl w a n f) : Calls Tryd.prog 37 #[.slice a n c] w fun e w' => e = .returned (.bool (vL n f)) ∧ w = w' := by
  rw [vL_bad]
  cases hw : within (n : Int) 1 64
  · go_enter Tryd.func37, Tryd.ntmps37
    go_wp2_with (go_at_call 27; refine (share_within _ _ _ _).mono ?_; rintro e w' ⟨rfl, rfl⟩)
    go_ret
    exact ⟨rfl, rfl⟩
  · have h := fun W H => containsFunc_bad a n c f W hn H
    generalize decide (badI f n < n) = d at *
    go_enter Tryd.func37, Tryd.ntmps37
    go_wp2_with (first | (go_at_call 27; refine (share_within _ _ _ _).mono ?_; rintro e w' ⟨rfl, rfl⟩) | (go_at_call 55; refine (h _ H).mono ?_; rintro e w' ⟨rfl, rfl⟩))
    go_ret
    exact ⟨by cases d <;> rfl, rfl⟩
end Go.Proofs.YtjkngkogddmceaaDoor
/- Walks of the share layer: cuts, the first errors, sums, the greedy share. -/
namespace Go.Proofs.YtjkngkogddmceaaDoor
open Go Go.RowKit
set_option linter.unusedVariables false
def okC (n : Nat) (c : Nat → Int) (i : Nat) : Prop := 0 ≤ c i ∧ c i ≤ n ∧ (0 < i → c (i - 1) ≤ c i)
def vK (n m : Nat) (c : Nat → Int) : Bool := decide (m < 16 ∧ ∀ i, i < m → 0 ≤ c i ∧ c i ≤ n ∧ (0 < i → c (i - 1) ≤ c i))
theorem vK_iff (n m : Nat) (c : Nat → Int) : vK n m c = true ↔ validK n m c := by simp [vK, validK]
theorem vK_no {n m i : Nat} {c : Nat → Int} (hi : i < m) (h : ¬ okC n c i) : vK n m c = false := by
  cases e : vK n m c
  · rfl
  · exact absurd (((vK_iff n m c).1 e).2 i hi) h
theorem vK_end {n m : Nat} {c : Nat → Int} (h : ∀ i, i < m → okC n c i) : vK n m c = decide (m < 16) := by
  rw [Bool.eq_iff_iff, vK_iff, decide_eq_true_iff]
  exact ⟨fun h' => h'.1, fun h' => ⟨h', h⟩⟩
theorem okC_succ {n k : Nat} {c : Nat → Int} (h : ∀ j, j < k → okC n c j) (hk : okC n c k) : ∀ j, j < k + 1 → okC n c j := fun j hj => by
  rcases Nat.lt_succ_iff_lt_or_eq.1 hj with h' | rfl
  · exact h j h'
  · exact hk
set_option maxHeartbeats 1000000 in
theorem share_validCuts (a : Option Addr) (m cap n : Nat) (c : Nat → Int) (w : World) (hm : m ≤ 100000000) (hn : n ≤ 100000000) (H : Sl w a m c) : Calls Tryd.prog 14 #[.slice a m cap, .int .i64 (n : Int)] w fun e w' => e = .returned (.bool (vK n m c)) ∧ w = w' := by
  go_enter Tryd.func14, Tryd.ntmps14
  go_wp2
  go_loop [9] (fun i => ∃ k : Nat, k ≤ m ∧ i = .int .i64 k ∧ ∀ j, j < k → okC n c j) (fun i => m - (intOf i).toNat)
  case atStart => exact ⟨0, Nat.zero_le _, rfl, fun j hj => by omega⟩
  case round =>
    obtain ⟨k, hk, rfl, hok⟩ := hrel
    have HOK := hid hok; clear hok
    by_cases hlt : k < m
    · obtain ⟨b, off, rfl, hb, hc⟩ := H k hlt
      cases hw : within (c k) 0 n
      · have hv := hid (vK_no (n := n) (c := c) hlt fun h => (within_no _ _ _).1 hw ⟨h.1, h.2.1⟩)
        go_wp2_with (go_at_call 27; refine (share_within _ _ _ _).mono ?_; rintro e w' ⟨rfl, rfl⟩)
        go_ret
        exact ⟨ret_bool hv.out.symm, rfl⟩
      · have hw2 := (within_iff _ _ _).1 hw
        obtain ⟨g0, g1⟩ := hw2
        by_cases hk0 : k = 0
        · subst hk0
          rw [Nat.add_zero] at hc
          go_wp2_with (go_at_call 27; refine (share_within _ _ _ _).mono ?_; rintro e w' ⟨rfl, rfl⟩)
          go_round
          case rel => exact ⟨0 + 1, by omega, by go_num, okC_succ HOK.out ⟨g0, g1, fun h => by omega⟩⟩
          case measure => simp [intOf]; omega
        · obtain ⟨b2, off2, e2, hb2, hc2⟩ := H (k - 1) (by omega)
          injection e2 with e2; injection e2 with e21 e22 _
          subst e21 e22
          obtain ⟨j, rfl⟩ : ∃ j, k = j + 1 := ⟨k - 1, by omega⟩
          rw [Nat.add_sub_cancel] at hc2
          by_cases hlt2 : c (j + 1) < c j
          · have hv := hid (vK_no (n := n) (c := c) hlt fun h => by have := h.2.2 (by omega); rw [Nat.add_sub_cancel] at this; omega)
            go_wp2_with (go_at_call 27; refine (share_within _ _ _ _).mono ?_; rintro e w' ⟨rfl, rfl⟩)
            go_ret
            exact ⟨ret_bool hv.out.symm, rfl⟩
          · go_wp2_with (go_at_call 27; refine (share_within _ _ _ _).mono ?_; rintro e w' ⟨rfl, rfl⟩)
            go_round
            case rel => exact ⟨j + 1 + 1, by omega, by go_num, okC_succ HOK.out ⟨g0, g1, fun h => by rw [Nat.add_sub_cancel]; omega⟩⟩
            case measure => simp [intOf]; omega
    · obtain rfl : k = m := (by omega)
      have hv := hid (vK_end HOK.out)
      by_cases h16 : k < 16
      · go_wp2
        go_ret
        exact ⟨ret_bool (by rw [hv.out]; simp; omega), rfl⟩
      · go_wp2
        go_ret
        exact ⟨ret_bool (by rw [hv.out]; simp; omega), rfl⟩
theorem ref9_within_b {n lo hi : Int} {b : Bool} (h : within n lo hi = b) (w : World) : Calls Tryd.prog 36 #[.int .i64 n, .int .i64 lo, .int .i64 hi] w fun e w' => e = .returned (.bool b) ∧ w = w' := h ▸ ref9_within n lo hi w
set_option maxHeartbeats 1000000 in
theorem ref9_shared (a : Option Addr) (m cap n : Nat) (c : Nat → Int) (w : World) (hm : m ≤ 100000000) (hn : n ≤ 100000000) (H : Sl w a m c) : Calls Tryd.prog 21 #[.int .i64 (n : Int), .slice a m cap] w fun e w' => e = .returned (.bool (vK n m c)) ∧ Below w.heap.size w w' := by
  go_enter Tryd.func21, Tryd.ntmps21
  go_wp2
  go_loopw [5] (fun i wr => ∃ k : Nat, k ≤ m ∧ i = .int .i64 k ∧ (∀ j, j < k → okC n c j) ∧ Below w.heap.size w wr) (fun i _ => m - (intOf i).toNat)
  case atStart => exact ⟨0, Nat.zero_le _, rfl, fun j hj => by omega, Below.refl _ _⟩
  case round =>
    obtain ⟨k, hk, rfl, hok, hbw⟩ := hrel
    have HOK := hid hok; clear hok
    by_cases hlt : k < m
    · obtain ⟨b, off, rfl, hb, hc⟩ := (H.below hbw) k hlt
      cases hw : within (c k) 0 n
      · have hv := hid (vK_no (n := n) (c := c) hlt fun h => (within_no _ _ _).1 hw ⟨h.1, h.2.1⟩)
        go_upto_region 4 with (fail)
        go_quiet ((go_at_call 36; exact quiet_left (ref9_within_b hw _)))
        go_wp2
        go_ret
        exact ⟨ret_bool hv.out.symm, by (repeat' (first | with_reducible assumption | with_reducible exact Below.refl _ _ | with_reducible refine Below.drew ?_ | with_reducible refine below_drewN ?_ _ | with_reducible refine balloc ?_ _ | with_reducible refine bset ?_ ?_ _ | with_reducible refine Below.setCell ?_ ?_ _ | with_reducible refine Below.alloc ?_ ?_ _ | omega | (simp; done) | (simp; omega)))⟩
      · have hw2 := (within_iff _ _ _).1 hw
        obtain ⟨g0, g1⟩ := hw2
        by_cases hk0 : k = 0
        · subst hk0
          rw [Nat.add_zero] at hc
          go_upto_region 4 with (fail)
          go_quiet ((go_at_call 36; exact quiet_left (ref9_within_b hw _)))
          go_wp2
          go_roundw
          case rel => exact ⟨0 + 1, by omega, by go_num, okC_succ HOK.out ⟨g0, g1, fun h => by omega⟩, by (repeat' (first | with_reducible assumption | with_reducible exact Below.refl _ _ | with_reducible refine Below.drew ?_ | with_reducible refine below_drewN ?_ _ | with_reducible refine balloc ?_ _ | with_reducible refine bset ?_ ?_ _ | with_reducible refine Below.setCell ?_ ?_ _ | with_reducible refine Below.alloc ?_ ?_ _ | omega | (simp; done) | (simp; omega)))⟩
          case measure => simp [intOf]; omega
        · obtain ⟨b2, off2, e2, hb2, hc2⟩ := (H.below hbw) (k - 1) (by omega)
          injection e2 with e2; injection e2 with e21 e22 _
          subst e21 e22
          obtain ⟨j, rfl⟩ : ∃ j, k = j + 1 := ⟨k - 1, by omega⟩
          rw [Nat.add_sub_cancel] at hc2
          have hs1 : IntKind.i64.wrap (((j + 1 : Nat) : Int) - 1) = j := by rw [IntWalk.i64_in _ (by omega)]; omega
          cases hlt2 : decide (c (j + 1) < c j)
          · have hge : ¬ c (j + 1) < c j := by simpa using hlt2
            have HG := hid hge; clear hge
            go_upto_region 4 with (fail)
            go_quiet ((go_at_call 36; exact quiet_left (ref9_within_b hw _)))
            go_wp2
            go_roundw
            case rel => exact ⟨j + 1 + 1, by omega, by go_num, okC_succ HOK.out ⟨g0, g1, fun h => by have := HG.out; rw [Nat.add_sub_cancel]; omega⟩, by (repeat' (first | with_reducible assumption | with_reducible exact Below.refl _ _ | with_reducible refine Below.drew ?_ | with_reducible refine below_drewN ?_ _ | with_reducible refine balloc ?_ _ | with_reducible refine bset ?_ ?_ _ | with_reducible refine Below.setCell ?_ ?_ _ | with_reducible refine Below.alloc ?_ ?_ _ | omega | (simp; done) | (simp; omega)))⟩
            case measure => simp [intOf]; omega
          · have hv := hid (vK_no (n := n) (c := c) hlt fun h => by have := h.2.2 (by omega); rw [Nat.add_sub_cancel] at this; have := of_decide_eq_true hlt2; omega)
            go_upto_region 4 with (fail)
            go_quiet ((go_at_call 36; exact quiet_left (ref9_within_b hw _)))
            go_wp2
            go_ret
            exact ⟨ret_bool hv.out.symm, by (repeat' (first | with_reducible assumption | with_reducible exact Below.refl _ _ | with_reducible refine Below.drew ?_ | with_reducible refine below_drewN ?_ _ | with_reducible refine balloc ?_ _ | with_reducible refine bset ?_ ?_ _ | with_reducible refine Below.setCell ?_ ?_ _ | with_reducible refine Below.alloc ?_ ?_ _ | omega | (simp; done) | (simp; omega)))⟩
    · obtain rfl : k = m := (by omega)
      have hv := hid (vK_end HOK.out)
      by_cases h16 : k < 16
      · go_wp2
        go_ret
        exact ⟨ret_bool (by rw [hv.out]; simp; omega), by (repeat' (first | with_reducible assumption | with_reducible exact Below.refl _ _ | with_reducible refine Below.drew ?_ | with_reducible refine below_drewN ?_ _ | with_reducible refine balloc ?_ _ | with_reducible refine bset ?_ ?_ _ | with_reducible refine Below.setCell ?_ ?_ _ | with_reducible refine Below.alloc ?_ ?_ _ | omega | (simp; done) | (simp; omega)))⟩
      · go_wp2
        go_ret
        exact ⟨ret_bool (by rw [hv.out]; simp; omega), by (repeat' (first | with_reducible assumption | with_reducible exact Below.refl _ _ | with_reducible refine Below.drew ?_ | with_reducible refine below_drewN ?_ _ | with_reducible refine balloc ?_ _ | with_reducible refine bset ?_ ?_ _ | with_reducible refine Below.setCell ?_ ?_ _ | with_reducible refine Below.alloc ?_ ?_ _ | omega | (simp; done) | (simp; omega)))⟩
/-- the first error of loads and cuts; of loads and a number of nodes -/
def askS (v k : Bool) : Int := if v then (if k then 0 else 7) else 1
set_option maxHeartbeats 400000 in
theorem share_among (a : Option Addr) (n ca : Nat) (k : Int) (f : Nat → Int) (w : World) (hn : n ≤ 100000000) (H : Sl w a n f) : Calls Tryd.prog 23 #[.slice a n ca, .int .i64 k] w fun e w' => e = .returned (.int .i64 (askS (vL n f) (within k 1 16))) ∧ w = w' := by
  cases hv : vL n f
  · go_enter Tryd.func23, Tryd.ntmps23
    go_wp2_with (go_at_call 37; refine (share_valid _ _ _ f _ hn H).mono ?_; rintro e w' ⟨rfl, rfl⟩)
    go_ret
    exact ⟨rfl, rfl⟩
  · cases hk : within k 1 16
    · go_enter Tryd.func23, Tryd.ntmps23
      go_wp2_with (first | (go_at_call 37; refine (share_valid _ _ _ f _ hn H).mono ?_; rintro e w' ⟨rfl, rfl⟩) | (go_at_call 27; refine (share_within _ _ _ _).mono ?_; rintro e w1 ⟨rfl, rfl⟩))
      go_ret
      exact ⟨rfl, rfl⟩
    · go_enter Tryd.func23, Tryd.ntmps23
      go_wp2_with (first | (go_at_call 37; refine (share_valid _ _ _ f _ hn H).mono ?_; rintro e w' ⟨rfl, rfl⟩) | (go_at_call 27; refine (share_within _ _ _ _).mono ?_; rintro e w1 ⟨rfl, rfl⟩))
      go_ret
      exact ⟨rfl, rfl⟩
end Go.Proofs.YtjkngkogddmceaaDoor
/- Walks: the texts of shares, of the program and of the reference. -/
namespace Go.Proofs.YtjkngkogddmceaaDoor
open Go Go.RowKit
set_option linter.unusedVariables false
/-- the texts of the first k cuts -/
def itsS (c : Nat → Int) (k : Nat) : List (List UInt8) := (List.range k).map fun j => Lib.itoa (c j)
def fmtS (n : Nat) (c : Nat → Int) : List UInt8 := if vK 64 n c then unwords 32 (itsS c n) else []
theorem itsS_succ (c : Nat → Int) (k : Nat) : itsS c (k + 1) = itsS c k ++ [Lib.itoa (c k)] := by simp [itsS, List.range_succ]
theorem itsS_length (c : Nat → Int) (k : Nat) : (itsS c k).length = k := by simp [itsS]
theorem itsS_le {c : Nat → Int} {k : Nat} (h : ∀ j, j < k → 0 ≤ c j ∧ c j ≤ 64) : ∀ l ∈ itsS c k, l.length ≤ 17 := fun l hl => by
  obtain ⟨j, hj, rfl⟩ := List.mem_map.1 hl
  have := h j (List.mem_range.1 hj)
  exact itoa_len17 (by unfold numB; omega)
theorem unwords_le (m : UInt8) : ∀ (xs : List (List UInt8)), (∀ l ∈ xs, l.length ≤ 17) → (unwords m xs).length ≤ 18 * xs.length
  | [], _ => by simp [unwords]
  | [x], h => by have := h x (by simp); simp [unwords]; omega
  | x :: y :: r, h => by
    have h1 := h x (by simp)
    have h2 := unwords_le m (y :: r) fun l hl => h l (by simp [hl])
    simp only [unwords, List.length_append, List.length_cons] at h2 ⊢
    omega
theorem unwords_snoc (m : UInt8) : ∀ (xs : List (List UInt8)) (x : List UInt8), xs ≠ [] → unwords m (xs ++ [x]) = unwords m xs ++ m :: x
  | [], _, h => absurd rfl h
  | [y], x, _ => by simp [unwords]
  | y :: z :: r, x, _ => by
    have := unwords_snoc m (z :: r) x (by simp)
    simp only [List.cons_append, unwords] at this ⊢
    rw [this]; simp
set_option maxRecDepth 100000 in
set_option maxHeartbeats 4000000 in
theorem ref9_Format (a : Option Addr) (n cap : Nat) (c : Nat → Int) (w : World) (hn : n ≤ 100000000) (H : Sl w a n c) : Calls Tryd.prog 8 #[.slice a n cap] w fun e w' => e = .returned (.string ⟨(fmtS n c).toArray⟩) ∧ Below w.heap.size w w' := by
  have hsh := fun W HW => ref9_shared a n cap 64 c W hn (by omega) HW
  obtain ⟨R, hR⟩ : ∃ R, fmtS n c = R := ⟨_, rfl⟩
  rw [hR]
  unfold fmtS at hR
  cases hv : vK 64 n c
  · rw [hv] at hR hsh
    obtain rfl : [] = R := hR
    go_enter Tryd.func8, Tryd.ntmps8
    go_wp2_with (go_at_call 21; refine (hsh _ H).mono ?_; rintro e w1 ⟨rfl, hb1⟩)
    go_ret
    exact ⟨rfl, hb1⟩
  · have hk := (vK_iff 64 n c).1 hv
    rw [hv, if_pos rfl] at hR
    rw [hv] at hsh
    have hn16 : n < 16 := hk.1
    have hc := fun j hj => (⟨(hk.2 j hj).1, (hk.2 j hj).2.1⟩ : 0 ≤ c j ∧ c j ≤ 64)
    clear hk hv
    have HR := hid hR; have HC := hid hc
    have hdig := fun j (hj : j < n) W => ref6_Digits (c j) W (by have := hc j hj; omega) (by have := hc j hj; omega)
    clear hR hc
    go_enter Tryd.func8, Tryd.ntmps8
    go_wp2_with (go_at_call 21; refine (hsh _ H).mono ?_; rintro e w1 ⟨rfl, hb1⟩)
    clear hsh
    go_loopw [3, 4] (fun v i wr => ∃ k : Nat, k ≤ n ∧ i = .int .i64 (k : Int) ∧ v = .string ⟨(unwords 32 (itsS c k)).toArray⟩ ∧ Below w.heap.size w wr) (fun _ i _ => n - (intOf i).toNat)
    case atStart => exact ⟨0, Nat.zero_le _, rfl, rfl, hb1⟩
    case round =>
      obtain ⟨k, hk, rfl, rfl, hb⟩ := hrel
      by_cases hlt : k < n
      · obtain ⟨b, off, rfl, hbl, hcl⟩ := H k hlt
        have hck := (bcell hb _ _ hbl).trans hcl
        have hd := hdig k hlt
        have hl1 := unwords_le 32 (itsS c k) (itsS_le fun j hj => HC.out j (by omega))
        rw [itsS_length] at hl1
        have hl2 := itoa_len17 (n := c k) (by have := HC.out k hlt; unfold numB; omega)
        have hl3 : (Lib.itoa (c k)).length + (unwords 32 (itsS c k)).length ≤ 1000000 := by omega
        have hsn : 0 < k → unwords 32 (itsS c (k + 1)) = (unwords 32 (itsS c k) ++ [32]) ++ Lib.itoa (c k) := fun h => by
          rw [itsS_succ, unwords_snoc _ _ _ (by intro e; have := itsS_length c k; rw [e] at this; simp at this; omega)]
          simp
        have hs0 : k = 0 → unwords 32 (itsS c (k + 1)) = Lib.itoa (c k) := fun h => by subst h; rfl
        have hu0 : k = 0 → unwords 32 (itsS c k) = [] := fun h => by subst h; rfl
        clear hl1 hl2
        obtain ⟨U', hU'⟩ : ∃ U', unwords 32 (itsS c (k + 1)) = U' := ⟨_, rfl⟩
        rw [hU'] at hsn hs0
        have HU' := hid hU'; clear hU'
        generalize unwords 32 (itsS c k) = U at *
        generalize Lib.itoa (c k) = D at *
        rcases Nat.eq_zero_or_pos k with hk0 | hk0
        · obtain rfl := hu0 hk0
          obtain rfl := hs0 hk0
          have hg : ¬ ((0 : Int) < (k : Int)) := by omega
          have hadd := fun W => str_addS [] U' (by simp at hl3; simp; omega) W
          have hadd2 := fun W => str_addS U' [] (by simp at hl3; simp; omega) W
          clear hsn hs0 hu0 hk0
          go_wp2_with (go_at_call 22; refine (hd _).mono ?_; rintro e w2 ⟨rfl, hb2⟩)
          go_roundw
          case rel => exact ⟨k + 1, by omega, by go_num, (by rw [HU'.out]), bvia hb hb2⟩
          case measure => simp [intOf]; omega
        · have hU := hsn hk0
          have hg : (0 : Int) < (k : Int) := by omega
          have hadd := fun W => str_addS U [32] (by simp; omega) W
          have hadd2 := fun W => str_addS (U ++ [32]) D (by simp; omega) W
          have HU := hid hU
          clear hsn hs0 hu0 hk0 hU
          generalize U ++ [32] = V at *
          go_wp2_with (go_at_call 22; refine (hd _).mono ?_; rintro e w2 ⟨rfl, hb2⟩)
          go_roundw
          case rel => exact ⟨k + 1, by omega, by go_num, (by rw [HU'.out, HU.out]), bvia hb hb2⟩
          case measure => simp [intOf]; omega
      · obtain rfl : k = n := (by omega)
        rw [HR.out]
        go_wp2_with fail
        go_ret
        exact ⟨rfl, hb⟩
/-! ### the program's -/
/-- an own row of texts, as a slice -/
theorem own_strsS {w : World} {base : Nat} {v : Value} {xs : List (List UInt8)} (h : w.ownsRow base 9 1 v xs.length (xs.map vStr)) (h0 : 0 < xs.length) :
    ∃ g cap, v = .slice (some ⟨g, 0, none⟩) xs.length cap ∧ xs.length ≤ cap ∧ g < w.heap.size ∧ ∀ (j : Nat) x, (xs.map fun l => (⟨l.toArray⟩ : ByteArray))[j]? = some x → w.cell? ⟨g, 0 + j, none⟩ = some (.string x) := by
  rcases h.2 with ⟨rfl, h0'⟩ | ⟨g, cap, cur, rfl, hb, hh, hn, hm, hc, ht⟩
  · omega
  · refine ⟨g, cap, rfl, by omega, ?_, fun j x hx => ?_⟩
    · rcases Nat.lt_or_ge g w.heap.size with h' | h'
      · exact h'
      · rw [Array.getElem?_eq_none h'] at hh; cases hh
    · have hj : j < xs.length := by
        have := (List.getElem?_eq_some_iff.1 hx).1
        simpa using this
      rw [Nat.zero_add, cell_of_row w g j cur 9 (0, 0) hh]
      have h1 : (cur.toList.take (xs.length * 1))[j]? = (xs.map vStr)[j]? := by rw [ht]
      rw [List.getElem?_take, if_pos (by omega), List.getElem?_map, List.getElem?_eq_getElem hj] at h1
      rw [List.getElem?_map, List.getElem?_eq_getElem hj] at hx
      injection hx with hx
      subst hx
      show cur[j]? = _
      simpa [vStr] using h1
set_option maxRecDepth 100000 in
set_option maxHeartbeats 4000000 in
theorem share_Format (a : Option Addr) (n cap : Nat) (c : Nat → Int) (w : World) (hn : n ≤ 100000000) (H : Sl w a n c) : Calls Tryd.prog 5 #[.slice a n cap] w fun e w' => e = .returned (.string ⟨(fmtS n c).toArray⟩) ∧ Below w.heap.size w w' := by
  obtain ⟨i0, hi, hz0, hz1, hz2⟩ := info_parts infoStr
  have hsh := fun W HW => share_validCuts a n cap 64 c W hn (by omega) HW
  obtain ⟨R, hR⟩ : ∃ R, fmtS n c = R := ⟨_, rfl⟩
  rw [hR]
  unfold fmtS at hR
  cases hv : vK 64 n c
  · rw [hv] at hR hsh
    obtain rfl : [] = R := hR
    go_enter Tryd.func5, Tryd.ntmps5
    go_wp2_with (go_at_call 14; refine (hsh _ H).mono ?_; rintro e w1 ⟨rfl, rfl⟩)
    go_ret
    exact ⟨rfl, Below.refl _ _⟩
  · have hk := (vK_iff 64 n c).1 hv
    rw [hv, if_pos rfl] at hR
    rw [hv] at hsh
    have hn16 : n < 16 := hk.1
    have hc := fun j hj => (⟨(hk.2 j hj).1, (hk.2 j hj).2.1⟩ : 0 ≤ c j ∧ c j ≤ 64)
    clear hk hv
    have HC := hid hc
    have hit : ∀ j, j < n → ∀ W, Calls Tryd.prog 15 #[.int .i64 (c j)] W fun e w' => e = .returned (.string ⟨(Lib.itoa (c j)).toArray⟩) ∧ Below W.heap.size W w' := fun j hj W => by
      obtain ⟨h1, h2⟩ := hc j hj
      obtain ⟨i, hi⟩ : ∃ i : Nat, c j = (i : Int) := ⟨(c j).toNat, by omega⟩
      rw [hi]
      refine (Tryd.strconv_Itoa_small i (by omega) W).mono ?_
      rintro e w' ⟨rfl, rfl⟩
      exact ⟨by unfold Lib.itoa; rw [if_neg (by omega)]; rfl, Below.refl _ _⟩
    have hul := unwords_le 32 (itsS c n) (itsS_le hc)
    rw [itsS_length, hR] at hul
    have hjl := fun g cap Y hcc hg hcap => Tryd.strings_Join g 0 cap ((itsS c n).map fun l => (⟨l.toArray⟩ : ByteArray)) ⟨#[32]⟩ Y hcc hg (by simp [itsS]; omega) hcap (by
      rw [show ((itsS c n).map fun l => (⟨l.toArray⟩ : ByteArray)).map (·.data.toList) = itsS c n by simp [Function.comp_def], show (ByteArray.mk #[32]).data.toList = [32] from rfl, join_unwords, hR]; omega)
    rw [show ((itsS c n).map fun l => (⟨l.toArray⟩ : ByteArray)).map (·.data.toList) = itsS c n by simp [Function.comp_def], List.length_map, itsS_length, show (ByteArray.mk #[32]).data.toList = [32] from rfl, join_unwords, hR] at hjl
    have hj0 := fun a' cp Y => Tryd.strings_Join_none a' cp ⟨#[32]⟩ Y
    have HR := hid hR
    have h6 := fun (B : Nat) (Y : World) (v : Value) (h : Y.ownsRow B 9 1 v (itsS c n).length ((itsS c n).map vStr)) (h0 : 0 < n) => own_strsS h (by rw [itsS_length]; exact h0)
    rw [itsS_length] at h6
    have hsn := fun k => itsS_succ c k
    have hln := fun k => itsS_length c k
    have HSN := hid hsn; have HIT := hid hit; have HJL := hid hjl; have H6 := hid h6; have HLN := hid hln; have HJ0 := hid hj0
    clear hR hc hit hjl h6 hsn hln hul hj0
    go_enter Tryd.func5, Tryd.ntmps5
    go_wp2_with (go_at_call 14; refine (hsh _ H).mono ?_; rintro e w1 ⟨rfl, rfl⟩)
    clear hsh
    go_loopw [3, 11] (fun v i wr => ∃ k : Nat, k ≤ n ∧ i = .int .i64 (k : Int) ∧ wr.ownsRow w.heap.size 9 1 v (itsS c k).length ((itsS c k).map vStr) ∧ Below w.heap.size w wr) (fun _ i _ => n - (intOf i).toNat)
    case atStart => exact ⟨0, Nat.zero_le _, rfl, World.ownsRow_nil .., Below.refl _ _⟩
    case round =>
      obtain ⟨k, hk, rfl, hown, hB⟩ := hrel
      have hsz := hB.size
      by_cases hlt : k < n
      · obtain ⟨b, off, rfl, hbl, hcl⟩ := H k hlt
        have hck := (bcell hB _ _ hbl).trans hcl
        have hln := HLN.out k
        have hd := HIT.out k hlt
        have hitk : ∃ I, Lib.itoa (c k) = I := ⟨_, rfl⟩
        obtain ⟨I, hI⟩ := hitk
        rw [hI] at hd
        have HI := hid hI; clear hI
        go_wp2_with fail
        refine (hd _).mono ?_
        rintro e w2 ⟨rfl, hb2⟩
        replace hown := own_below hown hb2
        have hB2 := bvia hB hb2
        have hsz2 := hb2.size
        go_wp2_with (at_builtin; refine wpList_append_own _ rfl _ _ 39 rfl (w.heap.size) 9 i0 (.string ⟨#[]⟩) 1 16 Tryd.underlying39 hi hz0 hz1 hz2 rfl (by decide) _ _ _ rfl ((hown).alloc _) ⟨w2.heap.size, 0, none⟩ 1 1 [.string ⟨(I).toArray⟩] rfl rfl (cell_one_new _ _ _) (by simp [Value.oneCell']) (by simp [maxLen]; omega) (by omega) (by simp; omega) ?_; intro v' w3 hown' hgrow _)
        go_roundw
        case rel => exact ⟨k + 1, by omega, by go_num, (by rw [HSN.out, HI.out]; exact owns_snoc hown'), (hB2.alloc (by omega) _).grown hgrow (by simp; omega) (own_base hown)⟩
        case measure => simp [intOf]; omega
      · obtain rfl : k = n := (by omega)
        rw [HLN.out] at hown
        rcases Nat.eq_zero_or_pos k with rfl | hk0
        · obtain ⟨a', c', e0⟩ : ∃ a' c', u3 = .slice a' 0 c' := by
            rcases hown.2 with ⟨h, _⟩ | ⟨g, cp, cur, h, _⟩
            · exact ⟨_, _, h⟩
            · exact ⟨_, _, h⟩
          rw [e0]
          have hr : [] = R := HR.out
          have HR0 := hid hr
          clear hown e0 hr
          go_wp2_with fail
          refine (HJ0.out a' c' _).mono ?_
          rintro e w2 ⟨rfl, rfl⟩
          go_wp2_with fail
          go_ret
          exact ⟨by rw [← HR0.out]; rfl, hB⟩
        · obtain ⟨g, cap', rfl, hcap, hg, hcs⟩ := H6.out _ _ _ hown hk0
          go_wp2_with fail
          refine (HJL.out g cap' _ hcs hg hcap).mono ?_
          rintro e w2 ⟨rfl, hb2⟩
          go_wp2_with fail
          go_ret
          exact ⟨rfl, bvia hB hb2⟩
end Go.Proofs.YtjkngkogddmceaaDoor
