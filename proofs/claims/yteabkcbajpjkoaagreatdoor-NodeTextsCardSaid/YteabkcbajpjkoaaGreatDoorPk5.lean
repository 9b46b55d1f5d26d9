/- Walks: the first reference's Digits, Listed, Number and Numbers. -/
import Derived.Test.YteabkcbajpjkoaaGreatDoorPk3
import Derived.Test.YteabkcbajpjkoaaGreatDoorPk4
import Derived.Deep.RegionHeld3
import Derived.Deep.CutRange
namespace Go.Proofs.YteabkcbajpjkoaaGreatDoor
open Go Go.RowKit
set_option linter.unusedVariables false
set_option linter.unusedSimpArgs false
def digsL : List UInt8 := [48, 49, 50, 51, 52, 53, 54, 55, 56, 57]
theorem digs_cut (d : Nat) (h : d < 10) : (digsL.drop d).take 1 = [UInt8.ofNat (48 + d)] := by
  rcases (by omega : d = 0 ∨ d = 1 ∨ d = 2 ∨ d = 3 ∨ d = 4 ∨ d = 5 ∨ d = 6 ∨ d = 7 ∨ d = 8 ∨ d = 9) with rfl | rfl | rfl | rfl | rfl | rfl | rfl | rfl | rfl | rfl <;> rfl
theorem digs_run (d : Nat) (h : d < 10) (W : World) : (Instr.slice 9 (.string ⟨#[48, 49, 50, 51, 52, 53, 54, 55, 56, 57]⟩) (some (.int .i64 (d : Int))) (some (.int .i64 ((d : Int) + 1))) none).run Tryz.prog W = .ok (.string ⟨[UInt8.ofNat (48 + d)].toArray⟩) W := by
  have := str_cut digsL d (d + 1) (by omega) (by simp [digsL]; omega) W
  rw [show d + 1 - d = 1 by omega, digs_cut d h] at this
  exact this
set_option maxRecDepth 100000 in
set_option maxHeartbeats 4000000 in
theorem ref1_DigitsN (u : Nat) (w : World) (hu : u < 9223372036854775808) : Calls Tryz.prog 34 #[.int .i64 (u : Int)] w fun e w' => e = .returned (.string ⟨(Lib.decDigits u).toArray⟩) ∧ w = w' := by
  have e2 : ¬ ((u : Int) < 0) := by omega
  have hl := dec_len 19 u (by omega)
  have HU := hid (show u < 9223372036854775808 from hu)
  obtain ⟨D, hD⟩ : ∃ D, Lib.decDigits u = D := ⟨_, rfl⟩
  rw [hD] at hl ⊢
  have HD := hid hD
  clear hD
  go_enter Tryz.func34, Tryz.ntmps34
  go_wp2_with fail
  clear e2
  go_loop [0, 3] (fun a s => ∃ (m : Nat) (t : List UInt8), m ≤ u ∧ a = .int .i64 (m : Int) ∧ s = .string ⟨t.toArray⟩ ∧ D = Lib.decDigits m ++ t) (fun a _ => (intOf a).toNat)
  case atStart => exact ⟨u, [], Nat.le_refl _, rfl, rfl, by rw [HD.out]; simp⟩
  case round =>
    obtain ⟨m, t, hm, rfl, rfl, ht⟩ := hrel
    have hmu := HU.out
    have hlt : t.length ≤ 20 := by
      have := congrArg List.length ht
      rw [List.length_append] at this
      omega
    have HT := hid ht
    clear ht
    by_cases h9 : 9 < m
    · have i9 : (9 : Int) < (m : Int) := by omega
      have hr1 : Int.tmod (m : Int) 10 = ((m % 10 : Nat) : Int) := by rw [Int.tmod_eq_emod_of_nonneg (by omega)]; omega
      have hq1 : Int.tdiv (m : Int) 10 = ((m / 10 : Nat) : Int) := by rw [Int.tdiv_eq_ediv_of_nonneg (by omega)]; omega
      have hr : m % 10 < 10 := Nat.mod_lt _ (by decide)
      have hq : m / 10 < m := by omega
      have hd : Lib.decDigits m = Lib.decDigits (m / 10) ++ [UInt8.ofNat (48 + m % 10)] := by rw [Lib.decDigits, dif_neg (by omega)]
      have HDD := hid hd
      clear hd
      have hr2 := w_i64 (m % 10) (by omega)
      have hr3 := w_64 (m % 10) (by omega)
      have hq2 := w_i64 (m / 10) (by omega)
      have hq3 := w_64 (m / 10) (by omega)
      have hsl := fun W => digs_run (m % 10) hr W
      obtain ⟨r, hrr⟩ : ∃ r, m % 10 = r := ⟨_, rfl⟩
      obtain ⟨q, hqq⟩ : ∃ q, m / 10 = q := ⟨_, rfl⟩
      rw [hrr] at hr1 hr2 hr3 hsl hr HDD
      rw [hqq] at hq1 hq2 hq3 hq HDD
      have HR := hid hrr; have HQ := hid hqq
      clear hrr hqq
      obtain ⟨cc, hcc⟩ : ∃ cc, UInt8.ofNat (48 + r) = cc := ⟨_, rfl⟩
      rw [hcc] at hsl HDD
      clear hcc
      have hadd := fun W => str_addS [cc] t (by simp; omega) W
      have hr10 : IntKind.i64.wrap ((r : Int) + 1) = (r : Int) + 1 := IntWalk.i64_in _ ⟨by omega, by omega⟩
      go_wp2_with fail
      go_round
      case rel => exact ⟨q, cc :: t, by omega, rfl, rfl, by rw [HT.out, HDD.out]; simp⟩
      case measure => simp [intOf]; omega
    · have i9 : ¬ (9 : Int) < (m : Int) := by omega
      have hsl := fun W => digs_run m (by omega) W
      have hd : Lib.decDigits m = [UInt8.ofNat (48 + m)] := by rw [Lib.decDigits, dif_pos (by omega)]
      have HDD := hid hd
      clear hd
      obtain ⟨cc, hcc⟩ : ∃ cc, UInt8.ofNat (48 + m) = cc := ⟨_, rfl⟩
      rw [hcc] at hsl HDD
      clear hcc
      have hadd := fun W => str_addS [cc] t (by simp; omega) W
      go_wp2_with fail
      go_ret
      exact ⟨by rw [HT.out, HDD.out]; rfl, rfl⟩
set_option maxRecDepth 100000 in
set_option maxHeartbeats 4000000 in
theorem ref1_Digits (n : Int) (w : World) (h0 : -9223372036854775808 ≤ n) (h1 : n ≤ 9223372036854775807) : Calls Tryz.prog 34 #[.int .i64 n] w fun e w' => e = .returned (.string ⟨(Lib.itoa n).toArray⟩) ∧ w = w' := by
  by_cases hn : n < 0
  · have hit : Lib.itoa n = 45 :: Lib.decDigits n.natAbs := by unfold Lib.itoa; rw [if_pos hn]
    by_cases hm : n = -9223372036854775808
    · subst hm
      have e : Lib.itoa (-9223372036854775808) = [45, 57, 50, 50, 51, 51, 55, 50, 48, 51, 54, 56, 53, 52, 55, 55, 53, 56, 48, 56] := by simp [Lib.itoa, Lib.decDigits]
      rw [e]
      have hw : wrap64 9223372036854775808 = -9223372036854775808 := by unfold wrap64; omega
      go_enter Tryz.func34, Tryz.ntmps34
      go_wp2_with fail
      go_ret
      exact ⟨rfl, rfl⟩
    · have hc := fun W => ref1_DigitsN n.natAbs W (by omega)
      rw [show ((n.natAbs : Nat) : Int) = -n by omega] at hc
      have hw1 : IntKind.i64.wrap (-n) = -n := IntWalk.i64_in _ ⟨by omega, by omega⟩
      have hw2 : wrap64 (-n) = -n := IntWalk.wrap64_in _ ⟨by omega, by omega⟩
      have hmi : (n == -n) = false := by rw [beq_eq_false_iff_ne]; omega
      have hl := dec_len 19 n.natAbs (by omega)
      have hadd := fun W => str_addS [45] (Lib.decDigits n.natAbs) (by simp; omega) W
      rw [hit]
      generalize Lib.decDigits n.natAbs = D at *
      go_enter Tryz.func34, Tryz.ntmps34
      go_wp2_with (go_at_call 34; refine (hc _).mono ?_; rintro e w1 ⟨rfl, rfl⟩)
      go_ret
      exact ⟨rfl, rfl⟩
  · obtain ⟨u, rfl⟩ : ∃ u : Nat, n = (u : Int) := ⟨n.toNat, by omega⟩
    have hit : Lib.itoa (u : Int) = Lib.decDigits u := by unfold Lib.itoa; rw [if_neg hn]; rfl
    rw [hit]
    exact ref1_DigitsN u w (by omega)
/-- numbers, each behind a blank -/
def lstT (f : Nat → Int) : Nat → List UInt8
  | 0 => []
  | k + 1 => lstT f k ++ [32] ++ Lib.itoa (f k)
def i64B (n : Int) : Prop := -9223372036854775808 ≤ n ∧ n ≤ 9223372036854775807
theorem itoa_len21 {n : Int} (h : i64B n) : (Lib.itoa n).length ≤ 21 := by
  unfold i64B at h
  have := dec_len 19 n.natAbs (by omega)
  unfold Lib.itoa
  split
  · simp; omega
  · have e : n.toNat = n.natAbs := by omega
    rw [e]; omega
theorem lstT_le {f : Nat → Int} : ∀ k, (∀ j, j < k → i64B (f j)) → (lstT f k).length ≤ 22 * k
  | 0, _ => by simp [lstT]
  | k + 1, h => by
    have h1 := lstT_le k fun j hj => h j (by omega)
    have h2 := itoa_len21 (h k (by omega))
    simp only [lstT, List.length_append, List.length_singleton]
    omega
set_option maxRecDepth 100000 in
set_option maxHeartbeats 1000000 in
theorem ref1_Listed (a : Option Addr) (n c : Nat) (f : Nat → Int) (w : World) (hn : n ≤ 1000000) (hf : ∀ k, k < n → i64B (f k)) (H : Sl w a n f) : Calls Tryz.prog 22 #[.slice a n c] w fun e w' => e = .returned (.string ⟨(lstT f n).toArray⟩) ∧ w = w' := by
  have HF := hid hf; clear hf
  go_enter Tryz.func22, Tryz.ntmps22
  go_wp2_with fail
  go_loop [3, 4] (fun s i => ∃ k : Nat, k ≤ n ∧ i = .int .i64 (k : Int) ∧ s = .string ⟨(lstT f k).toArray⟩) (fun _ i => n - (intOf i).toNat)
  case atStart => exact ⟨0, Nat.zero_le _, rfl, rfl⟩
  case round =>
    obtain ⟨k, hk, rfl, rfl⟩ := hrel
    by_cases hlt : k < n
    · have hki : (k : Int) < (n : Int) := by omega
      obtain ⟨b, off, rfl, hb, hc⟩ := H k hlt
      have hfk := HF.out k hlt
      have hle := lstT_le (f := f) k fun j hj => HF.out j (by omega)
      have hln := itoa_len21 hfk
      have hdg := fun W => ref1_Digits (f k) W hfk.1 hfk.2
      have hs : lstT f (k + 1) = lstT f k ++ [32] ++ Lib.itoa (f k) := rfl
      have HS := hid hs
      clear hs hfk
      obtain ⟨T, hT⟩ : ∃ T, lstT f k = T := ⟨_, rfl⟩
      obtain ⟨D, hD⟩ : ∃ D, Lib.itoa (f k) = D := ⟨_, rfl⟩
      obtain ⟨x, hx⟩ : ∃ x, f k = x := ⟨_, rfl⟩
      rw [hD] at hln
      simp only [hD] at hdg
      rw [hT] at hle ⊢
      rw [hT, hD] at HS
      rw [hx] at hc hdg
      clear hT hD hx
      have ha1 := fun W => str_addS T [32] (by simp; omega) W
      have ha2 := fun W => str_addS (T ++ [32]) D (by simp; omega) W
      go_wp2_with (go_at_call 34; refine (hdg _).mono ?_; rintro e w1 ⟨rfl, rfl⟩)
      go_round
      case rel => exact ⟨k + 1, by omega, by go_num, by rw [HS.out]; simp⟩
      case measure => simp [intOf]; omega
    · obtain rfl : k = n := by omega
      go_wp2_with fail
      go_ret
      exact ⟨rfl, rfl⟩
/-- a number of at most 18 digits -/
def num8B (n : Int) : Prop := -1000000000000000000 < n ∧ n < 1000000000000000000
def Num8Post (l : List UInt8) (w : World) (e : Ending) (w' : World) : Prop :=
  ∃ (v : Int) (ok : Bool), e = .returned (.tuple #[.int .i64 v, .bool ok]) ∧ (ok = true → num8B v ∧ l = Lib.itoa v) ∧ (ok = false → ∀ n, num8B n → l ≠ Lib.itoa n) ∧ w = w'
/-- a text without its sign -/
def bodyB (l : List UInt8) : List UInt8 := if l.getD 0 0 == 45 then l.drop 1 else l
theorem dec_first (u : Nat) : ((Lib.decDigits u).getD 0 0 == 45) = false := by
  rw [beq_eq_false_iff_ne]
  intro h
  have hd := decDigits_dig u
  cases hl : Lib.decDigits u with
  | nil => exact absurd hl (decDigits_ne _)
  | cons c r =>
    rw [hl] at hd h
    have h1 := hd c (by simp)
    simp at h
    subst h
    exact absurd h1.1 (by decide)
theorem itoa_body (n : Int) : bodyB (Lib.itoa n) = Lib.decDigits n.natAbs ∧ ((Lib.itoa n).getD 0 0 == 45) = decide (n < 0) := by
  by_cases hn : n < 0
  · have e : Lib.itoa n = 45 :: Lib.decDigits n.natAbs := by unfold Lib.itoa; rw [if_pos hn]
    rw [e, decide_eq_true hn]
    exact ⟨by simp [bodyB], by simp⟩
  · have e : Lib.itoa n = Lib.decDigits n.natAbs := by
      unfold Lib.itoa
      rw [if_neg hn, show n.toNat = n.natAbs by omega]
    rw [e, decide_eq_false hn]
    exact ⟨by unfold bodyB; rw [dec_first]; rfl, dec_first _⟩
theorem take_snoc8 {l : List UInt8} {i : Nat} (hi : i < l.length) : l.take (i + 1) = l.take i ++ [l.getD i 0] := by
  rw [List.take_add_one, List.getD_eq_getElem?_getD, List.getElem?_eq_getElem hi]; rfl
theorem valD_take {l : List UInt8} (h : digL l) : ∀ k, k ≤ l.length → valD (l.take k) < 10 ^ k
  | 0, _ => by simp [valD]
  | k + 1, hk => by
    have h1 := valD_take h k (by omega)
    have h2 := h (l.getD k 0) (by rw [List.getD_eq_getElem?_getD, List.getElem?_eq_getElem (by omega)]; exact List.getElem_mem _)
    rw [take_snoc8 (by omega), valD_app, Nat.pow_succ]
    omega
theorem valD_lt {l : List UInt8} (h : digL l) : valD l < 10 ^ l.length := by
  have := valD_take h l.length (Nat.le_refl _)
  rwa [List.take_length] at this
theorem wr_dig8 (A x : Nat) (hA : A < 100000000000000000) (h : 48 ≤ x ∧ x ≤ 57) : IntKind.i64.wrap (10 * (A : Int)) = 10 * (A : Int) ∧ wrap64 (10 * (A : Int)) = 10 * (A : Int) ∧ IntKind.u8.wrap ((x : Int) - 48) = (x : Int) - 48 ∧ IntKind.i64.wrap ((x : Int) - 48) = (x : Int) - 48 ∧
    IntKind.i64.wrap (10 * (A : Int) + ((x : Int) - 48)) = ((A * 10 + (x - 48) : Nat) : Int) ∧ wrap64 (10 * (A : Int) + ((x : Int) - 48)) = ((A * 10 + (x - 48) : Nat) : Int) := by
  have e : 10 * (A : Int) + ((x : Int) - 48) = ((A * 10 + (x - 48) : Nat) : Int) := by omega
  refine ⟨IntWalk.i64_in _ ⟨by omega, by omega⟩, IntWalk.wrap64_in _ ⟨by omega, by omega⟩, IntWalk.u8_in _ ⟨by omega, by omega⟩, IntWalk.i64_in _ ⟨by omega, by omega⟩, ?_, ?_⟩
  · rw [e]; exact IntWalk.i64_in _ ⟨by omega, by omega⟩
  · rw [e]; exact IntWalk.wrap64_in _ ⟨by omega, by omega⟩
set_option maxRecDepth 100000 in
set_option maxHeartbeats 4000000 in
theorem ref1_Number (l : List UInt8) (w : World) (hl : l.length ≤ 1000000) : Calls Tryz.prog 32 #[.string ⟨l.toArray⟩] w (Num8Post l w) := by
  by_cases h0 : l = []
  · subst h0
    go_enter Tryz.func32, Tryz.ntmps32
    go_wp2_with fail
    go_ret2
    exact ⟨0, false, rfl, by simp, fun _ n _ e => itoa_ne n e.symm, rfl⟩
  have hpos : 0 < l.length := List.length_pos_iff.2 h0
  have ipos : (0 : Int) < (l.length : Int) := by omega
  have hsz := vStr_size l
  have hat0 : ∀ W, (Instr.index 9 (.string ⟨l.toArray⟩) (.int .i64 0)).run Tryz.prog W = .ok (.int .u8 ((l.getD 0 0).toNat : Int)) W := fun W => str_at l 0 hpos W
  have hmi2 : (((l.getD 0 0).toNat : Int) == 45) = (l.getD 0 0 == 45) := by
    rw [Bool.eq_iff_iff, beq_iff_eq, beq_iff_eq]
    constructor
    · intro h; exact UInt8.toNat.inj (by show _ = 45; omega)
    · intro h; rw [h]; rfl
  have hc256 := (l.getD 0 0).toNat_lt
  have hfr : ∀ W, (Instr.slice 9 (.string ⟨l.toArray⟩) (some (.int .i64 1)) none none).run Tryz.prog W = .ok (.string ⟨(l.drop 1).toArray⟩) W := fun W => str_from l 1 hpos W
  obtain ⟨mi, hmi⟩ : ∃ mi, (l.getD 0 0 == 45) = mi := ⟨_, rfl⟩
  rw [hmi] at hmi2
  obtain ⟨b, hbb⟩ : ∃ b, bodyB l = b := ⟨_, rfl⟩
  have HBB := hid hbb
  have hdr : mi = true → l.drop 1 = b := fun h => by rw [← hbb]; unfold bodyB; rw [hmi, if_pos h]
  have hdr2 : mi = false → bodyB l = l := fun h => by unfold bodyB; rw [hmi, h]; rfl
  clear hbb
  generalize (l.getD 0 0).toNat = c0 at *
  cases mi
  · have HBB := hid (hdr2 rfl)
    clear hdr hdr2 hfr
    have HMI := hid hmi
    have hbl : l.length = if false then l.length - 1 else l.length := by rw [← HBB.out]; unfold bodyB; rw [HMI.out]; simp
    have hz1 := vStr_size l
    by_cases hb0 : l.length < 1
    · have ib : (l.length : Int) < 1 := by omega
      have hno : ∀ n, num8B n → l ≠ Lib.itoa n := fun n _ e => by
        have h := (itoa_body n).1
        rw [← e, HBB.out] at h
        have := decDigits_ne n.natAbs
        rw [← h] at this
        exact this (List.length_eq_zero_iff.1 (by omega))
      have HNO := hid hno
      clear hno hbl
      go_enter Tryz.func32, Tryz.ntmps32
      go_wp2_with fail
      go_ret2
      exact ⟨0, false, rfl, by simp, fun _ => HNO.out, rfl⟩
    have ib : ¬ (l.length : Int) < 1 := by omega
    by_cases hb18 : 18 < l.length
    · have ib2 : (18 : Int) < (l.length : Int) := by omega
      have hno : ∀ n, num8B n → l ≠ Lib.itoa n := fun n hn e => by
        have h := (itoa_body n).1
        rw [← e, HBB.out] at h
        have h2 := dec_len 17 n.natAbs (by unfold num8B at hn; omega)
        rw [← h] at h2
        omega
      have HNO := hid hno
      clear hno hbl
      go_enter Tryz.func32, Tryz.ntmps32
      go_wp2_with fail
      go_ret2
      exact ⟨0, false, rfl, by simp, fun _ => HNO.out, rfl⟩
    have ib2 : ¬ (18 : Int) < (l.length : Int) := by omega
    have HBL := hid hbl
    obtain ⟨B, hB⟩ : ∃ B : Nat → Nat, ∀ i, (l.getD i 0).toNat = B i := ⟨_, fun _ => rfl⟩
    have hat : ∀ i, i < l.length → ∀ W, (Instr.index 9 (.string ⟨l.toArray⟩) (.int .i64 (i : Int))).run Tryz.prog W = .ok (.int .u8 (B i : Int)) W := fun i hi W => by rw [← hB]; exact str_at l i hi W
    have hB256 : ∀ i, B i < 256 := fun i => by rw [← hB]; exact (l.getD i 0).toNat_lt
    have HB := hid hB; have HB2 := hid hB256; have HAT := hid hat
    clear hB hB256 hat hbl
    go_enter Tryz.func32, Tryz.ntmps32
    go_wp2_with fail
    clear ib ib2
    go_loop [5, 6] (fun v5 v6 => ∃ i : Nat, i ≤ l.length ∧ v6 = .int .i64 (i : Int) ∧ v5 = .int .i64 (valD (l.take i) : Int) ∧ (∀ j, j < i → 48 ≤ B j ∧ B j ≤ 57)) (fun _ v6 => l.length - (intOf v6).toNat)
    case atStart => exact ⟨0, Nat.zero_le _, rfl, rfl, fun j hj => by omega⟩
    case round =>
      obtain ⟨i, hil, rfl, rfl, hdg⟩ := hrel
      have HDG := hid hdg; clear hdg
      have hdl : digL (l.take i) := fun c hc => by
        obtain ⟨j, hj, rfl⟩ := List.mem_iff_getElem.1 hc
        rw [List.length_take] at hj
        have := HDG.out j (by omega)
        rw [← HB.out, List.getD_eq_getElem?_getD, List.getElem?_eq_getElem (by omega)] at this
        rw [List.getElem_take]
        exact this
      have hA := valD_lt hdl
      rw [List.length_take, Nat.min_eq_left hil] at hA
      have HDL := hid hdl
      clear hdl
      by_cases hlt : i < l.length
      · have i1 : (i : Int) < (l.length : Int) := by omega
        have hat1 := HAT.out i hlt
        have hx := HB2.out i
        by_cases hd : 48 ≤ B i ∧ B i ≤ 57
        · have d1 : ¬ ((B i : Int) < 48) := by omega
          have d2 : ¬ (57 < (B i : Int)) := by omega
          have hA2 : valD (l.take i) < 100000000000000000 := Nat.lt_of_lt_of_le hA (Nat.pow_le_pow_right (by decide) (by omega : i ≤ 17))
          have hS : valD (l.take (i + 1)) = valD (l.take i) * 10 + (B i - 48) := by rw [take_snoc8 hlt, valD_app, HB.out]
          have HS := hid hS
          obtain ⟨q1, q2, q3, q4, q5, q6⟩ := wr_dig8 (valD (l.take i)) (B i) hA2 hd
          obtain ⟨A, hAe⟩ : ∃ A, valD (l.take i) = A := ⟨_, rfl⟩
          rw [hAe] at q1 q2 q5 q6 hA2 HS ⊢
          clear hAe hA hx hS
          generalize hRR : A * 10 + (B i - 48) = R at *
          clear hRR
          go_wp2_with fail
          go_round
          case rel => exact ⟨i + 1, by omega, by go_num, (by rw [HS.out]), (fun j hj => by
            rcases Nat.lt_succ_iff_lt_or_eq.1 hj with h | rfl
            · exact HDG.out j h
            · exact hd)⟩
          case measure => simp [intOf]; omega
        · have hbad : ∀ n, num8B n → l ≠ Lib.itoa n := fun n _ e => by
            have h := (itoa_body n).1
            rw [← e, HBB.out] at h
            have h2 := decDigits_dig n.natAbs (l.getD i 0) (by rw [← h, List.getD_eq_getElem?_getD, List.getElem?_eq_getElem hlt]; exact List.getElem_mem _)
            rw [HB.out] at h2
            exact hd h2
          have HBAD := hid hbad
          have hd1 : (B i : Int) < 48 ∨ (¬ (B i : Int) < 48 ∧ 57 < (B i : Int)) := by omega
          clear hbad hd
          generalize valD (l.take i) = A at *
          rcases hd1 with hd1 | ⟨hd1, hd2⟩
          · go_wp2_with fail
            go_ret2
            exact ⟨0, false, rfl, by simp, fun _ => HBAD.out, rfl⟩
          · go_wp2_with fail
            go_ret2
            exact ⟨0, false, rfl, by simp, fun _ => HBAD.out, rfl⟩
      · obtain rfl : i = l.length := (by omega)
        rw [List.take_length] at hA ⊢
        have hA2 : valD l < 1000000000000000000 := Nat.lt_of_lt_of_le hA (Nat.pow_le_pow_right (by decide) (by omega : l.length ≤ 18))
        obtain ⟨A, hAe⟩ : ∃ A, valD l = A := ⟨_, rfl⟩
        rw [hAe] at hA2 ⊢
        have HAE := hid hAe
        clear hAe hA
        obtain ⟨v, hv⟩ : ∃ v : Int, (A : Int) = v := ⟨_, rfl⟩
        have hvb : -1000000000000000000 < v ∧ v < 1000000000000000000 := by omega
        have hdig := fun W => ref1_Digits v W (by omega) (by omega)
        have hend : ∀ n, l = Lib.itoa n → v = n := fun n e => by
          obtain ⟨h1, h2⟩ := itoa_body n
          rw [← e, HBB.out] at h1
          rw [← e, HMI.out] at h2
          have h3 := HAE.out
          rw [h1, valD_dec] at h3
          have h4 := h2.symm
          simp at h4
          omega
        have hw1 : IntKind.i64.wrap (-(A : Int)) = -(A : Int) := IntWalk.i64_in _ ⟨by omega, by omega⟩
        have hw2 : wrap64 (-(A : Int)) = -(A : Int) := IntWalk.wrap64_in _ ⟨by omega, by omega⟩
        have hcmp : decide ((l.length : Int) < (l.length : Int)) = false := by
          have := HBL.out
          simp at this
          first | (simp; done) | (simp; omega)
        have hcmp2 : decide (l.length < l.length) = false := by
          have := HBL.out
          simp at this
          first | (simp; done) | (simp; omega)
        rw [hv] at hw1 hw2
        by_cases heq : Lib.itoa v = l
        · have HE := hid heq
          have HV := hid (show num8B v from hvb)
          obtain ⟨T, hT⟩ : ∃ T, Lib.itoa v = T := ⟨_, rfl⟩
          rw [hT] at heq
          simp only [hT] at hdig
          clear hT hend
          have hvA : (A : Int) = v := hv; rw [hvA]; clear hw1 hw2 hvA hv
          go_wp2_with (go_at_call 34; refine (hdig _).mono ?_; rintro e w1 ⟨rfl, rfl⟩)
          go_ret2
          exact ⟨v, true, rfl, fun _ => ⟨HV.out, HE.out.symm⟩, (fun h => by cases h), rfl⟩
        · have hno : ∀ n, num8B n → l ≠ Lib.itoa n := fun n _ e => heq (by rw [hend n e]; exact e.symm)
          have HNO := hid hno
          obtain ⟨T, hT⟩ : ∃ T, Lib.itoa v = T := ⟨_, rfl⟩
          rw [hT] at heq
          simp only [hT] at hdig
          have hbq : (T == l) = false := beq_eq_false_iff_ne.2 heq
          clear hT hend hno heq
          have hvA : (A : Int) = v := hv; rw [hvA]; clear hw1 hw2 hvA hv
          go_wp2_with (go_at_call 34; refine (hdig _).mono ?_; rintro e w1 ⟨rfl, rfl⟩)
          go_ret2
          exact ⟨v, false, rfl, (fun h => by cases h), fun _ => HNO.out, rfl⟩
  · rw [hdr rfl] at hfr
    clear hdr hdr2
    have HMI := hid hmi
    have hbl : b.length = if true then l.length - 1 else l.length := by rw [← HBB.out]; unfold bodyB; rw [HMI.out]; simp
    have hz1 := vStr_size b
    by_cases hb0 : b.length < 1
    · have ib : (b.length : Int) < 1 := by omega
      have hno : ∀ n, num8B n → l ≠ Lib.itoa n := fun n _ e => by
        have h := (itoa_body n).1
        rw [← e, HBB.out] at h
        have := decDigits_ne n.natAbs
        rw [← h] at this
        exact this (List.length_eq_zero_iff.1 (by omega))
      have HNO := hid hno
      clear hno hbl
      go_enter Tryz.func32, Tryz.ntmps32
      go_wp2_with fail
      go_ret2
      exact ⟨0, false, rfl, by simp, fun _ => HNO.out, rfl⟩
    have ib : ¬ (b.length : Int) < 1 := by omega
    by_cases hb18 : 18 < b.length
    · have ib2 : (18 : Int) < (b.length : Int) := by omega
      have hno : ∀ n, num8B n → l ≠ Lib.itoa n := fun n hn e => by
        have h := (itoa_body n).1
        rw [← e, HBB.out] at h
        have h2 := dec_len 17 n.natAbs (by unfold num8B at hn; omega)
        rw [← h] at h2
        omega
      have HNO := hid hno
      clear hno hbl
      go_enter Tryz.func32, Tryz.ntmps32
      go_wp2_with fail
      go_ret2
      exact ⟨0, false, rfl, by simp, fun _ => HNO.out, rfl⟩
    have ib2 : ¬ (18 : Int) < (b.length : Int) := by omega
    have HBL := hid hbl
    obtain ⟨B, hB⟩ : ∃ B : Nat → Nat, ∀ i, (b.getD i 0).toNat = B i := ⟨_, fun _ => rfl⟩
    have hat : ∀ i, i < b.length → ∀ W, (Instr.index 9 (.string ⟨b.toArray⟩) (.int .i64 (i : Int))).run Tryz.prog W = .ok (.int .u8 (B i : Int)) W := fun i hi W => by rw [← hB]; exact str_at b i hi W
    have hB256 : ∀ i, B i < 256 := fun i => by rw [← hB]; exact (b.getD i 0).toNat_lt
    have HB := hid hB; have HB2 := hid hB256; have HAT := hid hat
    clear hB hB256 hat hbl
    go_enter Tryz.func32, Tryz.ntmps32
    go_wp2_with fail
    clear ib ib2
    go_loop [5, 6] (fun v5 v6 => ∃ i : Nat, i ≤ b.length ∧ v6 = .int .i64 (i : Int) ∧ v5 = .int .i64 (valD (b.take i) : Int) ∧ (∀ j, j < i → 48 ≤ B j ∧ B j ≤ 57)) (fun _ v6 => b.length - (intOf v6).toNat)
    case atStart => exact ⟨0, Nat.zero_le _, rfl, rfl, fun j hj => by omega⟩
    case round =>
      obtain ⟨i, hil, rfl, rfl, hdg⟩ := hrel
      have HDG := hid hdg; clear hdg
      have hdl : digL (b.take i) := fun c hc => by
        obtain ⟨j, hj, rfl⟩ := List.mem_iff_getElem.1 hc
        rw [List.length_take] at hj
        have := HDG.out j (by omega)
        rw [← HB.out, List.getD_eq_getElem?_getD, List.getElem?_eq_getElem (by omega)] at this
        rw [List.getElem_take]
        exact this
      have hA := valD_lt hdl
      rw [List.length_take, Nat.min_eq_left hil] at hA
      have HDL := hid hdl
      clear hdl
      by_cases hlt : i < b.length
      · have i1 : (i : Int) < (b.length : Int) := by omega
        have hat1 := HAT.out i hlt
        have hx := HB2.out i
        by_cases hd : 48 ≤ B i ∧ B i ≤ 57
        · have d1 : ¬ ((B i : Int) < 48) := by omega
          have d2 : ¬ (57 < (B i : Int)) := by omega
          have hA2 : valD (b.take i) < 100000000000000000 := Nat.lt_of_lt_of_le hA (Nat.pow_le_pow_right (by decide) (by omega : i ≤ 17))
          have hS : valD (b.take (i + 1)) = valD (b.take i) * 10 + (B i - 48) := by rw [take_snoc8 hlt, valD_app, HB.out]
          have HS := hid hS
          obtain ⟨q1, q2, q3, q4, q5, q6⟩ := wr_dig8 (valD (b.take i)) (B i) hA2 hd
          obtain ⟨A, hAe⟩ : ∃ A, valD (b.take i) = A := ⟨_, rfl⟩
          rw [hAe] at q1 q2 q5 q6 hA2 HS ⊢
          clear hAe hA hx hS
          generalize hRR : A * 10 + (B i - 48) = R at *
          clear hRR
          go_wp2_with fail
          go_round
          case rel => exact ⟨i + 1, by omega, by go_num, (by rw [HS.out]), (fun j hj => by
            rcases Nat.lt_succ_iff_lt_or_eq.1 hj with h | rfl
            · exact HDG.out j h
            · exact hd)⟩
          case measure => simp [intOf]; omega
        · have hbad : ∀ n, num8B n → l ≠ Lib.itoa n := fun n _ e => by
            have h := (itoa_body n).1
            rw [← e, HBB.out] at h
            have h2 := decDigits_dig n.natAbs (b.getD i 0) (by rw [← h, List.getD_eq_getElem?_getD, List.getElem?_eq_getElem hlt]; exact List.getElem_mem _)
            rw [HB.out] at h2
            exact hd h2
          have HBAD := hid hbad
          have hd1 : (B i : Int) < 48 ∨ (¬ (B i : Int) < 48 ∧ 57 < (B i : Int)) := by omega
          clear hbad hd
          generalize valD (b.take i) = A at *
          rcases hd1 with hd1 | ⟨hd1, hd2⟩
          · go_wp2_with fail
            go_ret2
            exact ⟨0, false, rfl, by simp, fun _ => HBAD.out, rfl⟩
          · go_wp2_with fail
            go_ret2
            exact ⟨0, false, rfl, by simp, fun _ => HBAD.out, rfl⟩
      · obtain rfl : i = b.length := (by omega)
        rw [List.take_length] at hA ⊢
        have hA2 : valD b < 1000000000000000000 := Nat.lt_of_lt_of_le hA (Nat.pow_le_pow_right (by decide) (by omega : b.length ≤ 18))
        obtain ⟨A, hAe⟩ : ∃ A, valD b = A := ⟨_, rfl⟩
        rw [hAe] at hA2 ⊢
        have HAE := hid hAe
        clear hAe hA
        obtain ⟨v, hv⟩ : ∃ v : Int, -(A : Int) = v := ⟨_, rfl⟩
        have hvb : -1000000000000000000 < v ∧ v < 1000000000000000000 := by omega
        have hdig := fun W => ref1_Digits v W (by omega) (by omega)
        have hend : ∀ n, l = Lib.itoa n → v = n := fun n e => by
          obtain ⟨h1, h2⟩ := itoa_body n
          rw [← e, HBB.out] at h1
          rw [← e, HMI.out] at h2
          have h3 := HAE.out
          rw [h1, valD_dec] at h3
          have h4 := h2.symm
          simp at h4
          omega
        have hw1 : IntKind.i64.wrap (-(A : Int)) = -(A : Int) := IntWalk.i64_in _ ⟨by omega, by omega⟩
        have hw2 : wrap64 (-(A : Int)) = -(A : Int) := IntWalk.wrap64_in _ ⟨by omega, by omega⟩
        have hcmp : decide ((b.length : Int) < (l.length : Int)) = true := by
          have := HBL.out
          simp at this
          first | (simp; done) | (simp; omega)
        have hcmp2 : decide (b.length < l.length) = true := by
          have := HBL.out
          simp at this
          first | (simp; done) | (simp; omega)
        rw [hv] at hw1 hw2
        by_cases heq : Lib.itoa v = l
        · have HE := hid heq
          have HV := hid (show num8B v from hvb)
          obtain ⟨T, hT⟩ : ∃ T, Lib.itoa v = T := ⟨_, rfl⟩
          rw [hT] at heq
          simp only [hT] at hdig
          clear hT hend
          have hvA : -(A : Int) = v := hv; have HVA := hid hvA; clear hv
          go_wp2_with (go_at_call 34; refine (hdig _).mono ?_; rintro e w1 ⟨rfl, rfl⟩)
          go_ret2
          exact ⟨v, true, rfl, fun _ => ⟨HV.out, HE.out.symm⟩, (fun h => by cases h), rfl⟩
        · have hno : ∀ n, num8B n → l ≠ Lib.itoa n := fun n _ e => heq (by rw [hend n e]; exact e.symm)
          have HNO := hid hno
          obtain ⟨T, hT⟩ : ∃ T, Lib.itoa v = T := ⟨_, rfl⟩
          rw [hT] at heq
          simp only [hT] at hdig
          have hbq : (T == l) = false := beq_eq_false_iff_ne.2 heq
          clear hT hend hno heq
          have hvA : -(A : Int) = v := hv; have HVA := hid hvA; clear hv
          go_wp2_with (go_at_call 34; refine (hdig _).mono ?_; rintro e w1 ⟨rfl, rfl⟩)
          go_ret2
          exact ⟨v, false, rfl, (fun h => by cases h), fun _ => HNO.out, rfl⟩
end Go.Proofs.YteabkcbajpjkoaaGreatDoor
/- Plain words: what a text of notes says, line by line; it is told by the text alone; what is written is read back. -/
namespace Go.Proofs.YteabkcbajpjkoaaGreatDoor
open Go Go.RowKit
set_option linter.unusedVariables false
set_option linter.unusedSimpArgs false
def okN (x : N6) : Prop := ∀ j, j < 6 → 0 ≤ x.get j ∧ x.get j ≤ 1000000000
def lineN (l : List UInt8) (x : N6) : Prop := okN x ∧ l = wordsN x
theorem mem_unwords {m c : UInt8} : ∀ {xs : List (List UInt8)}, c ∈ unwords m xs → c = m ∨ ∃ x ∈ xs, c ∈ x
  | [], h => by simp [unwords] at h
  | [x], h => .inr ⟨x, by simp, by simpa [unwords] using h⟩
  | x :: y :: t, h => by
    simp only [unwords, List.mem_append, List.mem_cons] at h
    rcases h with h | h | h
    · exact .inr ⟨x, by simp, h⟩
    · exact .inl h
    · rcases mem_unwords h with h | ⟨z, hz, hc⟩
      · exact .inl h
      · exact .inr ⟨z, by simp [List.mem_cons] at hz ⊢; exact .inr hz, hc⟩
theorem wordsN_un (x : N6) : wordsN x = unwords 32 (itsN x 6) := join_unwords 32 _
theorem words_note (x : N6) : wordsL 32 (wordsN x) = itsN x 6 := by
  rw [wordsN_un]
  exact words_unwords (by simp [itsN]) (fun l hl => by
    obtain ⟨j, _, rfl⟩ := List.mem_map.1 hl
    exact itoa_no (by decide))
theorem itsN_get (x : N6) {k j : Nat} (h : j < k) : (itsN x k).getD j [] = Lib.itoa (x.get j) := by
  simp [itsN, List.getD_eq_getElem?_getD, h]
theorem note_uniq {x y : N6} (h : wordsN x = wordsN y) : x = y := by
  have e := congrArg (wordsL 32) h
  rw [words_note, words_note] at e
  refine N6.ext' fun j hj => ?_
  have : (itsN x 6).getD j [] = (itsN y 6).getD j [] := by rw [e]
  rw [itsN_get x hj, itsN_get y hj] at this
  exact itoa_inj this
theorem wordsN_no (x : N6) : ∀ c ∈ wordsN x, c ≠ 10 := fun c hc e => by
  rw [wordsN_un] at hc
  subst e
  rcases mem_unwords hc with h | ⟨l, hl, h⟩
  · exact absurd h (by decide)
  · obtain ⟨j, _, rfl⟩ := List.mem_map.1 hl
    exact itoa_no (m := 10) (by decide) _ h rfl
theorem okN_wf {x : N6} (h : okN x) : wfN x := fun j hj => by
  have := h j hj
  exact WalkArith.wf_i64 (by omega)
theorem okN_plain {x : N6} (h : okN x) : plainN x = true := by
  have h0 := h 0 (by omega); have h1 := h 1 (by omega); have h2 := h 2 (by omega); have h3 := h 3 (by omega); have h4 := h 4 (by omega); have h5 := h 5 (by omega)
  simp only [N6.get] at h0 h1 h2 h3 h4 h5
  simp [plainN]
  omega
theorem words_app {m : UInt8} : ∀ (n : Nat) {A B : List UInt8} {ws : List (List UInt8)}, A.length ≤ n → wordsL m A = ws ++ [[]] → wordsL m (A ++ B) = ws ++ wordsL m B
  | n, A, B, ws, hn, h => by
    rcases words_cases m A with hA | ⟨p, t, rfl, hp⟩
    · rw [words_none hA] at h
      cases ws with
      | nil => simp at h; subst h; rfl
      | cons x r => simp at h
    · rw [words_mark hp] at h
      cases ws with
      | nil =>
        simp at h
        exact absurd h.2 (wordsL_ne _ _)
      | cons x r =>
        simp only [List.cons_append, List.cons.injEq] at h
        obtain ⟨rfl, h⟩ := h
        cases n with
        | zero => simp at hn
        | succ n =>
          rw [List.append_assoc, List.cons_append, words_mark hp, words_app n (by simp at hn; omega) h]
          rfl
theorem fmtF_words (p : Nat → N6) : ∀ q, wordsL 10 (fmtF p q) = (List.range q).map (fun k => wordsN (p k)) ++ [[]]
  | 0 => by simp [fmtF, wordsL]
  | q + 1 => by
    have h1 := fmtF_words p q
    have h2 := words_app (B := wordsN (p q) ++ [10]) _ (Nat.le_refl _) h1
    have h3 : wordsL 10 (wordsN (p q) ++ [10]) = [wordsN (p q), []] := by
      rw [words_mark (wordsN_no _)]; rfl
    simp only [fmtF]
    rw [h2, h3, List.range_succ, List.map_append]
    simp
def PrsOk (s : List UInt8) (xs : List N6) : Prop :=
  (wordsL 10 s).length = xs.length + 1 ∧ (∀ k, k < xs.length → lineN ((wordsL 10 s).getD k []) (xs.getD k N6.zero)) ∧ (wordsL 10 s).getD xs.length [] = []
def PrsBad (s : List UInt8) (k : Nat) : Prop :=
  k < (wordsL 10 s).length ∧ (∀ j, j < k → ∃ x, lineN ((wordsL 10 s).getD j []) x) ∧ (k + 1 = (wordsL 10 s).length → (wordsL 10 s).getD k [] ≠ []) ∧ (k + 1 < (wordsL 10 s).length → ∀ x, ¬ lineN ((wordsL 10 s).getD k []) x)
def PrsRel (s : List UInt8) (er ln : Int) (xs : List N6) : Prop :=
  (65536 < s.length ∧ er = 3 ∧ ln = 0 ∧ xs = []) ∨ (s.length ≤ 65536 ∧ ((PrsOk s xs ∧ er = 0 ∧ ln = 0) ∨ (∃ k : Nat, PrsBad s k ∧ er = 2 ∧ ln = k ∧ xs = [])))
theorem prs_ok_bad {s : List UInt8} {xs : List N6} {k : Nat} (h : PrsOk s xs) (b : PrsBad s k) : False := by
  obtain ⟨h1, h2, h3⟩ := h
  obtain ⟨b1, b2, b3, b4⟩ := b
  by_cases hk : k < xs.length
  · exact b4 (by omega) _ (h2 k hk)
  · obtain rfl : k = xs.length := by omega
    exact b3 (by omega) h3
theorem prs_uniq {s : List UInt8} {e1 e2 l1 l2 : Int} {x1 x2 : List N6} (h1 : PrsRel s e1 l1 x1) (h2 : PrsRel s e2 l2 x2) : e1 = e2 ∧ l1 = l2 ∧ x1 = x2 := by
  rcases h1 with ⟨a1, rfl, rfl, rfl⟩ | ⟨a1, ⟨a2, rfl, rfl⟩ | ⟨k, a2, rfl, rfl, rfl⟩⟩ <;> rcases h2 with ⟨b1, rfl, rfl, rfl⟩ | ⟨b1, ⟨b2, rfl, rfl⟩ | ⟨j, b2, rfl, rfl, rfl⟩⟩
  · exact ⟨rfl, rfl, rfl⟩
  · omega
  · omega
  · omega
  · refine ⟨rfl, rfl, List.ext_getElem (by have := a2.1; have := b2.1; omega) fun i hi hj => ?_⟩
    have p := a2.2.1 i hi
    have q := b2.2.1 i hj
    have e := note_uniq (p.2.symm.trans q.2)
    simpa [List.getD_eq_getElem?_getD, hi, hj] using e
  · exact (prs_ok_bad a2 b2).elim
  · omega
  · exact (prs_ok_bad b2 a2).elim
  · refine ⟨rfl, ?_, rfl⟩
    rcases Nat.lt_trichotomy k j with h | h | h
    · obtain ⟨x, hx⟩ := b2.2.1 k h
      have := b2.1
      exact (a2.2.2.2 (by omega) x hx).elim
    · rw [h]
    · obtain ⟨x, hx⟩ := a2.2.1 j h
      have := a2.1
      exact (b2.2.2.2 (by omega) x hx).elim
theorem fmt_prs {p : Nat → N6} {q : Nat} (h : ∀ k, k < q → okN (p k)) : PrsOk (fmtF p q) ((List.range q).map p) := by
  have hw := fmtF_words p q
  refine ⟨by rw [hw]; simp, fun k hk => ?_, ?_⟩
  · simp at hk
    refine ⟨?_, ?_⟩
    · have : ((List.range q).map p).getD k N6.zero = p k := by simp [List.getD_eq_getElem?_getD, hk]
      rw [this]; exact h k hk
    · rw [hw]
      simp [List.getD_eq_getElem?_getD, hk, List.getElem?_append_left]
  · rw [hw]
    simp [List.getD_eq_getElem?_getD, List.getElem?_append_right]
theorem prs_fmt {s : List UInt8} {xs : List N6} (h : PrsOk s xs) : fmtF (fun k => xs.getD k N6.zero) xs.length = s := by
  obtain ⟨h1, h2, h3⟩ := h
  rw [← unwords_words 10 s, ← unwords_words 10 (fmtF (fun k => xs.getD k N6.zero) xs.length), fmtF_words]
  congr 1
  refine List.ext_getElem (by simp [h1]) fun i hi hj => ?_
  simp at hi
  by_cases hlt : i < xs.length
  · have := (h2 i hlt).2
    rw [List.getD_eq_getElem?_getD, List.getElem?_eq_getElem hj] at this
    rw [List.getElem_append_left (by simpa using hlt)]
    simp only [List.getElem_map, List.getElem_range]
    exact this.symm
  · obtain rfl : i = xs.length := by omega
    rw [List.getElem_append_right (by simp)]
    rw [List.getD_eq_getElem?_getD, List.getElem?_eq_getElem hj] at h3
    simp at h3 ⊢
    exact h3
theorem fmtF_ge (p : Nat → N6) : ∀ q, q ≤ (fmtF p q).length
  | 0 => by simp
  | q + 1 => by
    have := fmtF_ge p q
    simp only [fmtF, List.length_append, List.length_singleton]
    omega
theorem fmtN_ok {s : List UInt8} {xs : List N6} (hl : s.length ≤ 65536) (h : PrsOk s xs) : fmtN (fun k => xs.getD k N6.zero) xs.length = s := by
  have e := prs_fmt h
  have hq := fmtF_ge (fun k => xs.getD k N6.zero) xs.length
  rw [e] at hq
  unfold fmtN
  rw [if_pos (by omega), if_pos, e]
  exact List.all_eq_true.2 fun k hk => okN_plain (h.2.1 k (List.mem_range.1 hk)).1
end Go.Proofs.YteabkcbajpjkoaaGreatDoor
/- Walks: the first reference's Numbers. -/
namespace Go.Proofs.YteabkcbajpjkoaaGreatDoor
open Go Go.RowKit
set_option linter.unusedVariables false
theorem gd_left8 (xs : List Int) (v : Int) {j : Nat} (h : j < xs.length) : (xs ++ [v]).getD j 0 = xs.getD j 0 := by simp [List.getD_eq_getElem?_getD, List.getElem?_append_left h]
theorem gd_last8 (xs : List Int) (v : Int) : (xs ++ [v]).getD xs.length 0 = v := by simp [List.getD_eq_getElem?_getD]
/-- texts read as numbers: all of them, or one is none -/
def Nums8Post (n : Nat) (f : Nat → List UInt8) (w : World) (e : Ending) (w' : World) : Prop :=
  (∃ (xs : List Int) (a : Option Addr) (c : Nat), xs.length = n ∧ (∀ k, k < n → num8B (xs.getD k 0) ∧ f k = Lib.itoa (xs.getD k 0)) ∧ e = .returned (.tuple #[.slice a xs.length c, .bool true]) ∧ Sl w' a xs.length (fun k => xs.getD k 0) ∧ (∀ b o, a = some ⟨b, o, none⟩ → w.heap.size ≤ b) ∧ Below w.heap.size w w') ∨
  (e = .returned (.tuple #[.slice none 0 0, .bool false]) ∧ (∃ k, k < n ∧ ∀ m, num8B m → f k ≠ Lib.itoa m) ∧ Below w.heap.size w w')
set_option maxRecDepth 100000 in
set_option maxHeartbeats 4000000 in
theorem ref1_Numbers (a : Option Addr) (n c : Nat) (f : Nat → List UInt8) (w : World) (hn : n ≤ 1000001) (hf : ∀ k, k < n → (f k).length ≤ 1000000) (H : Sst w a n f) : Calls Tryz.prog 17 #[.slice a n c] w (Nums8Post n f w) := by
  obtain ⟨i0, hi, hz0, hz1, hz2⟩ := info_parts infoI
  have HF := hid hf; clear hf
  go_enter Tryz.func17, Tryz.ntmps17
  go_wp2_with fail
  go_loopw [4, 5] (fun v s5 wr => ∃ (xs : List Int), xs.length ≤ n ∧ s5 = .int .i64 (xs.length : Int) ∧ wr.ownsRow w.heap.size 3 1 v xs.length (xs.map vInt) ∧ (∀ k, k < xs.length → num8B (xs.getD k 0) ∧ f k = Lib.itoa (xs.getD k 0)) ∧ Below w.heap.size w wr) (fun _ s5 _ => n - (intOf s5).toNat)
  case atStart => exact ⟨[], Nat.zero_le _, rfl, World.ownsRow_nil .., fun k hk => by simp at hk, Below.refl _ _⟩
  case round =>
    obtain ⟨xs, hxn, rfl, hown, hall, hb⟩ := hrel
    have hsz := hb.size
    have HALL := hid hall; clear hall
    obtain ⟨k, hk⟩ : ∃ k, xs.length = k := ⟨_, rfl⟩
    rw [hk] at hxn
    have HK := hid hk
    by_cases hlt : k < n
    · have i4 : (k : Int) < (n : Int) := by omega
      obtain ⟨b, off, rfl, hbl, hc⟩ := H k hlt
      have hck := (bcell hb _ _ hbl).trans hc
      have hnum := fun W => ref1_Number (f k) W (HF.out k hlt)
      rw [hk] at hown ⊢
      clear hk hc
      go_wp2_with fail
      refine (hnum _).mono ?_
      rintro e w1 ⟨v, ok, rfl, h1, h2, rfl⟩
      have hB1 := hb
      cases ok
      · have H2 := hid h2; clear h1 h2
        go_wp2_with fail
        go_ret2
        exact .inr ⟨rfl, ⟨k, hlt, H2.out (by trivial)⟩, hB1⟩
      · have h3 := h1 rfl
        have H3 := hid h3
        clear h1 h2 h3
        go_wp2_with (at_builtin; refine wpList_append_own _ rfl _ _ 37 rfl (w.heap.size) 3 i0 (.int .i64 0) 1 8 Tryz.underlying37 hi hz0 hz1 hz2 rfl (by decide) _ _ _ rfl ((hown).alloc _) ⟨wr.heap.size, 0, none⟩ 1 1 [.int .i64 v] rfl rfl (cell_one_new _ _ _) (by simp [Value.oneCell']) (by simp [maxLen]; omega) (by omega) (by simp; omega) ?_; intro v' w2 hown' hgrow _)
        go_roundw
        case rel =>
          have e := HK.out
          subst e
          refine ⟨xs ++ [v], by simp; omega, by simp, own_snoc hown', fun j hj => ?_, (hB1.alloc (by omega) _).grown hgrow (by simp; omega) (own_base hown)⟩
          rw [List.length_append, List.length_singleton] at hj
          rcases Nat.lt_succ_iff_lt_or_eq.1 hj with h | rfl
          · rw [gd_left8 _ _ h]; exact HALL.out j h
          · rw [gd_last8]
            exact H3.out
        case measure => simp [intOf]; omega
    · obtain rfl : k = n := (by omega)
      rw [hk] at hown ⊢
      clear hk
      go_wp2_with fail
      go_ret2
      have e := HK.out
      subst e
      obtain ⟨a', c', rfl, hs⟩ := sl_of_own hown
      exact .inl ⟨xs, a', c', rfl, HALL.out, rfl, hs, fun b o e => own_base hown b (by subst e; rfl), hb⟩
end Go.Proofs.YteabkcbajpjkoaaGreatDoor
/- Walks: the reference's Format of notes; Parse of notes, of both. -/
namespace Go.Proofs.YteabkcbajpjkoaaGreatDoor
open Go Go.RowKit
set_option linter.unusedVariables false
set_option linter.unusedSimpArgs false
theorem lst_words (x : N6) : lstT x.get 6 = 32 :: wordsN x := by
  rw [wordsN_un]
  simp [lstT, itsN, List.range, List.range.loop, unwords]
theorem plain_iff (x : N6) : plainN x = true ↔ ∀ j, j < 6 → 0 ≤ x.get j := by
  constructor
  · intro h j hj
    simp [plainN] at h
    rcases (by omega : j = 0 ∨ j = 1 ∨ j = 2 ∨ j = 3 ∨ j = 4 ∨ j = 5) with rfl | rfl | rfl | rfl | rfl | rfl <;> simp only [N6.get] <;> omega
  · intro h
    have h0 := h 0 (by omega); have h1 := h 1 (by omega); have h2 := h 2 (by omega); have h3 := h 3 (by omega); have h4 := h 4 (by omega); have h5 := h 5 (by omega)
    simp only [N6.get] at h0 h1 h2 h3 h4 h5
    simp [plainN]
    omega
theorem bx_get {W : World} {b : Nat} {x : N6} (X : Bx W b #[.int .i64 x.st, .int .i64 x.fr, .int .i64 x.to, .int .i64 x.ce, .int .i64 x.di, .int .i64 x.co]) : ∀ k, k < 6 → W.cell? ⟨b, k, none⟩ = some (.int .i64 (x.get k)) := fun k hk => by
  rcases (by omega : k = 0 ∨ k = 1 ∨ k = 2 ∨ k = 3 ∨ k = 4 ∨ k = 5) with rfl | rfl | rfl | rfl | rfl | rfl
  · exact X.at_ 0 rfl
  · exact X.at_ 1 rfl
  · exact X.at_ 2 rfl
  · exact X.at_ 3 rfl
  · exact X.at_ 4 rfl
  · exact X.at_ 5 rfl
set_option maxRecDepth 100000 in
set_option maxHeartbeats 4000000 in
theorem ref5_Format (a : Option Addr) (q c : Nat) (p : Nat → N6) (w : World) (SP : Sn w a q p) (hw : ∀ k, k < q → wfN (p k)) : Calls Tryz.prog 9 #[.slice a q c] w fun e w' => e = .returned (.string ⟨(fmtN p q).toArray⟩) ∧ Below w.heap.size w w' := by
  by_cases hq : 100000 < q
  · have hqi : (100000 : Int) < (q : Int) := by omega
    have e : fmtN p q = [] := if_neg (by omega)
    rw [e]
    go_enter Tryz.func9, Tryz.ntmps9
    go_wp2_with fail
    go_ret
    exact ⟨rfl, Below.refl _ _⟩
  have hqi : ¬ (100000 : Int) < (q : Int) := by omega
  have e : fmtN p q = if allP p q then fmtF p q else [] := if_pos (by omega)
  obtain ⟨R, hR⟩ : ∃ R, fmtN p q = R := ⟨_, rfl⟩
  rw [hR]
  rw [e] at hR
  have HR := hid hR
  clear e hR
  have HW := hid hw; clear hw
  go_enter Tryz.func9, Tryz.ntmps9
  go_wp2_with fail
  go_loopw [3, 4] (fun s i wr => ∃ k : Nat, k ≤ q ∧ i = .int .i64 (k : Int) ∧ s = .string ⟨(fmtF p k).toArray⟩ ∧ (∀ j, j < k → plainN (p j) = true) ∧ Below w.heap.size w wr) (fun _ i _ => q - (intOf i).toNat)
  case atStart => exact ⟨0, Nat.zero_le _, rfl, rfl, fun j hj => by omega, Below.refl _ _⟩
  case round =>
    obtain ⟨wo, rfl⟩ : ∃ wo : World, wo = wr := ⟨_, rfl⟩
    obtain ⟨i, hi, rfl, rfl, hpl, hb2⟩ := hrel
    have hsz := hb2.size
    have HPL := hid hpl; clear hpl
    by_cases hlt : i < q
    · have hii : (i : Int) < (q : Int) := by omega
      obtain ⟨b, o, rfl, hbb, hc⟩ := (SP.below hb2) i hlt
      have c0 := hc 0 (by omega); have c1 := hc 1 (by omega); have c2 := hc 2 (by omega); have c3 := hc 3 (by omega); have c4 := hc 4 (by omega); have c5 := hc 5 (by omega)
      simp only [N6.get, Nat.add_zero] at c0 c1 c2 c3 c4 c5
      have hl1 := wordsN_le (HW.out i hlt)
      have hl2 := fmtF_le (q := i) fun k hk => HW.out k (by omega)
      have hwf := HW.out i hlt
      have hns : fmtF p (i + 1) = fmtF p i ++ (wordsN (p i) ++ [10]) := rfl
      have HNS := hid hns
      have hpe : plainN (p i) = false → allP p q = false := fun h => allP_no hlt h
      have HPE := hid hpe
      generalize hx : p i = x at c0 c1 c2 c3 c4 c5 hl1 HNS HPE hwf
      have HX := hid hx
      clear hx hc hns hpe
      have f0 : ∀ W, Below wo.heap.size wo W → W.cell? ⟨b, o + i * 6, none⟩ = some (.int .i64 x.st) := fun W h => (bcell h _ _ hbb).trans c0
      have f1 : ∀ W, Below wo.heap.size wo W → W.cell? ⟨b, o + i * 6 + 1, none⟩ = some (.int .i64 x.fr) := fun W h => (bcell h _ _ hbb).trans c1
      have f2 : ∀ W, Below wo.heap.size wo W → W.cell? ⟨b, o + i * 6 + 2, none⟩ = some (.int .i64 x.to) := fun W h => (bcell h _ _ hbb).trans c2
      have f3 : ∀ W, Below wo.heap.size wo W → W.cell? ⟨b, o + i * 6 + 3, none⟩ = some (.int .i64 x.ce) := fun W h => (bcell h _ _ hbb).trans c3
      have f4 : ∀ W, Below wo.heap.size wo W → W.cell? ⟨b, o + i * 6 + 4, none⟩ = some (.int .i64 x.di) := fun W h => (bcell h _ _ hbb).trans c4
      have f5 : ∀ W, Below wo.heap.size wo W → W.cell? ⟨b, o + i * 6 + 5, none⟩ = some (.int .i64 x.co) := fun W h => (bcell h _ _ hbb).trans c5
      clear c0 c1 c2 c3 c4 c5
      go_upto_region 7 with (fail)
      go_cut [5] from 16 to 47 (fun s5 W => ∃ u : Nat, s5 = .slice (some ⟨u, 0, none⟩) 6 6 ∧ wo.heap.size ≤ u ∧ Bx W u #[.int .i64 x.st, .int .i64 x.fr, .int .i64 x.to, .int .i64 x.ce, .int .i64 x.di, .int .i64 x.co] ∧ Below wo.heap.size wo W)
      case first =>
        go_region_held3 (fun W => Below wo.heap.size wo W) ((repeat' (first | with_reducible assumption | with_reducible exact Below.refl _ _ | with_reducible refine Below.drew ?_ | with_reducible refine below_drewN ?_ _ | with_reducible refine balloc ?_ _ | with_reducible refine bset ?_ ?_ _ | with_reducible refine Below.setCell ?_ ?_ _ | with_reducible refine Below.alloc ?_ ?_ _ | omega | (simp; done) | (simp; omega)))) (fail)
        all_goals
          go_wp2_with fail
          go_meet
          refine ⟨_, rfl, ?_, ?_, by with_reducible assumption⟩
          all_goals first | (show (_ : Nat) ≤ _; omega) | (repeat' (first | with_reducible assumption | (with_reducible refine Bx.newE ?_ _ _; (simp; done)) | with_reducible refine Bx.alloc ?_ _ | with_reducible refine Bx.drew ?_ | with_reducible refine Bx.drewN ?_ _ | with_reducible refine Bx.four ?_ | (with_reducible refine Bx.far2 ?_ ?_ _; (dsimp only; omega))))
      case rest =>
        obtain ⟨u, rfl, hu, U, hB2⟩ := hcut
        have hB3 := bvia hb2 hB2
        clear f0 f1 f2 f3 f4 f5
        have HG := hid (bx_get U)
        have HSL : Sl wc (some ⟨u, 0, none⟩) 6 x.get := fun k hk => ⟨u, 0, rfl, U.lt, by rw [Nat.zero_add]; exact bx_get U k hk⟩
        have hul := U.lt
        go_wp2_with fail
        go_loopw [6] (fun s6 wr => ∃ k : Nat, k ≤ 6 ∧ s6 = .int .i64 (k : Int) ∧ (∀ j, j < k → 0 ≤ x.get j) ∧ wc = wr) (fun s6 _ => 6 - (intOf s6).toNat)
        case atStart => exact ⟨0, Nat.zero_le _, rfl, fun j hj => by omega, rfl⟩
        case round =>
          obtain ⟨k, hk, rfl, hnn, rfl⟩ := hrel
          have HNN := hid hnn; clear hnn
          by_cases hlt6 : k < 6
          · have i6 : (k : Int) < 6 := by omega
            have ck := HG.out k hlt6
            by_cases hneg : x.get k < 0
            · have HNG := hid hneg
              obtain ⟨y, hy⟩ : ∃ y, x.get k = y := ⟨_, rfl⟩
              rw [hy] at ck hneg
              have HY := hid hy; clear hy
              go_wp2_with fail
              go_ret
              have hpf : plainN x = false := by
                cases h : plainN x
                · rfl
                · have := (plain_iff x).1 h k hlt6
                  have := HNG.out
                  omega
              have hr := HR.out
              rw [HPE.out hpf] at hr
              subst hr
              exact ⟨rfl, hB3⟩
            · have HNG := hid hneg
              obtain ⟨y, hy⟩ : ∃ y, x.get k = y := ⟨_, rfl⟩
              rw [hy] at ck hneg
              clear hy
              go_wp2_with fail
              go_roundw
              case rel => exact ⟨k + 1, by omega, by go_num, (fun j hj => by
                rcases Nat.lt_succ_iff_lt_or_eq.1 hj with h | rfl
                · exact HNN.out j h
                · have := HNG.out; omega), (by first | rfl | trivial)⟩
              case measure => simp [intOf]; omega
          · obtain rfl : k = 6 := by omega
            have hlst := fun W S => ref1_Listed (some ⟨u, 0, none⟩) 6 6 x.get W (by omega) (fun j hj => wf_range (hwf j hj)) S
            rw [lst_words] at hlst
            have hfr : ∀ W, (Instr.slice 9 (.string ⟨(32 :: wordsN x).toArray⟩) (some (.int .i64 1)) none none).run Tryz.prog W = .ok (.string ⟨(wordsN x).toArray⟩) W := fun W => str_from (32 :: wordsN x) 1 (by simp) W
            have ha1 := fun W => str_addN (fmtF p i) (wordsN x) (by omega) W
            have ha2 := fun W => str_addN (fmtF p i ++ wordsN x) [10] (by simp; omega) W
            have hz := vStr_size (32 :: wordsN x)
            rw [List.append_assoc] at ha2
            have hq1 := HNS.out
            rw [← hq1] at ha2
            clear hq1
            obtain ⟨T2, hT2⟩ : ∃ T2, fmtF p (i + 1) = T2 := ⟨_, rfl⟩
            rw [hT2] at ha2
            have HT2 := hid hT2
            clear hT2 HNS
            obtain ⟨T1, hT1⟩ : ∃ T1, fmtF p i ++ wordsN x = T1 := ⟨_, rfl⟩
            rw [hT1] at ha1 ha2
            generalize 32 :: wordsN x = L at *
            generalize fmtF p i = T0 at *
            generalize wordsN x = V at *
            clear hT1
            go_wp2_with fail
            refine (hlst _ HSL).mono ?_
            rintro e w4 ⟨rfl, rfl⟩
            dsimp only
            go_wp2_with fail
            go_roundw
            case rel => exact ⟨i + 1, by omega, by go_num, (by rw [HT2.out]), (fun j hj => by
              rcases Nat.lt_succ_iff_lt_or_eq.1 hj with h | rfl
              · exact HPL.out j h
              · rw [HX.out]; exact (plain_iff x).2 HNN.out), hB3⟩
            case measure => simp [intOf]; omega
    · obtain rfl : i = q := (by omega)
      have HE := hid (show allP p i = true from List.all_eq_true.2 fun k hk => HPL.out k (List.mem_range.1 hk))
      obtain ⟨T, hT⟩ : ∃ T, fmtF p i = T := ⟨_, rfl⟩
      rw [hT]
      have HT := hid hT
      clear hT
      go_wp2_with fail
      go_ret
      have hr := HR.out
      rw [HE.out, HT.out] at hr
      subst hr
      exact ⟨rfl, hb2⟩
end Go.Proofs.YteabkcbajpjkoaaGreatDoor
