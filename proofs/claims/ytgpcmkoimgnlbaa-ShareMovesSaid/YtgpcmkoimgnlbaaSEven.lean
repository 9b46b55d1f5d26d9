/- Walks of the share layer: Even of the program and of the reference. -/
import Derived.Test.YtgpcmkoimgnlbaaSMovesPlain
namespace Go.Proofs.Ytgpcmkoimgnlbaa
open Go Go.RowKit
set_option linter.unusedVariables false
def evP (n k i : Nat) : List Int := (List.range i).map (fun j => (evA n k (j + 1) : Int))
theorem evP_succ (n k i : Nat) : evP n k (i + 1) = evP n k i ++ [(evA n k (i + 1) : Int)] := by simp [evP, List.range_succ]
theorem evP_len (n k i : Nat) : (evP n k i).length = i := by simp [evP]
theorem evL_no {f : Nat → Int} {n : Nat} {k : Int} (h : (vL n f && within k 1 16) = false) : evL f n k = [] := by
  unfold evL; rw [h]; rfl
theorem evL_yes {f : Nat → Int} {n : Nat} {k : Nat} (h : vL n f = true) (h2 : within (k : Int) 1 16 = true) : evL f n (k : Int) = evP n k (k - 1) := by
  unfold evL; rw [h, h2]; rfl
set_option maxRecDepth 100000 in
set_option maxHeartbeats 4000000 in
theorem share_Even (a : Option Addr) (n ca : Nat) (k : Int) (f : Nat → Int) (w : World) (hn : n ≤ 100000000) (H : Sl w a n f) :
    Calls Try.prog 36 #[.slice a n ca, .int .i64 k] w (ListPost (evL f n k) (askE (vL n f) (within k 1 16)) w) := by
  have hask := fun W H => share_among a n ca k f W hn H
  cases hv : vL n f
  · rw [evL_no (by rw [hv]; rfl)]
    rw [hv] at hask
    have e0 : ∀ x, askE false x = 1 := fun _ => rfl
    rw [e0] at hask ⊢
    go_enter Try.func36, Try.ntmps36
    go_wp2_with fail
    refine (hask _ H).mono ?_
    rintro e w' ⟨rfl, rfl⟩
    go_wp2_with fail
    go_ret2
    exact listPost_nil (Below.refl _ _)
  cases hk : within k 1 16
  · rw [evL_no (by rw [hv, hk]; rfl)]
    rw [hv, hk, show askE true false = 7 from rfl] at hask
    rw [show askE true false = 7 from rfl]
    go_enter Try.func36, Try.ntmps36
    go_wp2_with fail
    refine (hask _ H).mono ?_
    rintro e w' ⟨rfl, rfl⟩
    go_wp2_with fail
    go_ret2
    exact listPost_nil (Below.refl _ _)
  rw [hv, hk, show askE true true = 0 from rfl] at hask
  rw [show askE true true = 0 from rfl]
  obtain ⟨k0, k1⟩ := (within_iff _ _ _).1 hk
  obtain ⟨k, rfl⟩ : ∃ j : Nat, k = (j : Int) := ⟨k.toNat, by omega⟩
  rw [evL_yes hv hk]
  obtain ⟨n0, n1, _⟩ := (vL_iff _ _).1 hv
  have hdv : ((n : Int)).tdiv (k : Int) = ((n / k : Nat) : Int) := by rw [Int.tdiv_eq_ediv_of_nonneg (by omega)]; simp
  have hdm : ((n : Int)).tmod (k : Int) = ((n % k : Nat) : Int) := by rw [Int.tmod_eq_emod_of_nonneg (by omega)]; simp
  have hdv2 : ((n : Int)) / (k : Int) = ((n / k : Nat) : Int) := by simp
  have hdm2 : ((n : Int)) % (k : Int) = ((n % k : Nat) : Int) := by simp
  have hq : n / k ≤ n := Nat.div_le_self _ _
  have hst := fun i => (show evA n k (i + 1) = evA n k i + n / k + (if i < n % k then 1 else 0) from rfl)
  have hle := fun i (h : i ≤ k) => evA_le (n := n) (by omega : 0 < k) i h
  have hsu := fun i => evP_succ n k i
  have hln := fun i => evP_len n k i
  have h00 : evA n k 0 = 0 := rfl
  have hp0 : evP n k 0 = [] := rfl
  have hkz : ¬ (k : Int) = 0 := by omega
  clear hv hk
  generalize evP n k = P at *
  generalize evA n k = E at *
  generalize n / k = q at *
  generalize n % k = r at *
  have HST := hid hst; have HLE := hid hle; have HSU := hid hsu; have HLN := hid hln; have H00 := hid h00; have HP0 := hid hp0
  clear hst hle hsu hln h00 hp0
  obtain ⟨i0, hi, hz0, hz1, hz2⟩ := info_parts infoI
  go_enter Try.func36, Try.ntmps36
  go_wp2_with fail
  refine (hask _ H).mono ?_
  rintro e w' ⟨rfl, rfl⟩
  go_wp2_with fail
  go_loopw [7, 8, 18] (fun v s8 s18 wr => ∃ i : Nat, i ≤ k - 1 ∧ s18 = .int .i64 i ∧ s8 = .int .i64 (E i : Int) ∧ wr.ownsRow w.heap.size 3 1 v (P i).length ((P i).map vInt) ∧ Below w.heap.size w wr) (fun _ _ s18 _ => k - (intOf s18).toNat)
  case atStart => exact ⟨0, Nat.zero_le _, rfl, by rw [H00.out]; rfl, by rw [HP0.out]; exact World.ownsRow_nil .., Below.refl _ _⟩
  case round =>
    obtain ⟨i, hik, rfl, rfl, hown, hb⟩ := hrel
    have hEl := HLE.out i (by omega)
    have h1 : i * n ≤ 16 * 64 := Nat.mul_le_mul (by omega) (by omega)
    have hS := HST.out i
    have hEl1 := HLE.out
    by_cases hlt : i < k - 1
    · have hli : (i : Int) < (k : Int) - 1 := by omega
      have hlen := HLN.out i
      have hsz := hb.size
      have HSS := hid (HSU.out i)
      rw [hlen] at hown
      by_cases hir : i < r
      · rw [if_pos hir] at hS
        have HS := hid hS
        clear hS hEl1 hlen
        generalize E i = ei at *
        have hnx : (((ei + q + 1 : Nat)) : Int) = (ei : Int) + (q : Int) + 1 := by simp
        have HNX := hid hnx; clear hnx
        go_wp2_with (at_builtin; refine wpList_append_own _ rfl _ _ 22 rfl (w.heap.size) 3 i0 (.int .i64 0) 1 8 Try.underlying22 hi hz0 hz1 hz2 rfl (by decide) _ _ _ rfl ((hown).alloc _) ⟨wr.heap.size, 0, none⟩ 1 1 [.int .i64 ((ei : Int) + (q : Int) + 1)] rfl rfl (cell_one_new _ _ _) (by simp [Value.oneCell']) (by simp [maxLen]; omega) (by omega) (by simp; omega) ?_; intro v' w1 hown' hgrow _)
        go_roundw
        case rel => exact ⟨i + 1, by omega, by go_num, by rw [HS.out, HNX.out], by rw [HSS.out, HS.out, HNX.out]; exact own_snoc (by rw [HLN.out]; exact hown'), (hb.alloc hsz _).grown hgrow (by simp; omega) (own_base hown)⟩
        case measure => simp [intOf]; omega
      · rw [if_neg hir, show E i + q + 0 = E i + q from rfl] at hS
        have HS := hid hS
        clear hS hEl1 hlen
        generalize E i = ei at *
        have hnx : (((ei + q : Nat)) : Int) = (ei : Int) + (q : Int) := by simp
        have HNX := hid hnx; clear hnx
        go_wp2_with (at_builtin; refine wpList_append_own _ rfl _ _ 22 rfl (w.heap.size) 3 i0 (.int .i64 0) 1 8 Try.underlying22 hi hz0 hz1 hz2 rfl (by decide) _ _ _ rfl ((hown).alloc _) ⟨wr.heap.size, 0, none⟩ 1 1 [.int .i64 ((ei : Int) + (q : Int))] rfl rfl (cell_one_new _ _ _) (by simp [Value.oneCell']) (by simp [maxLen]; omega) (by omega) (by simp; omega) ?_; intro v' w1 hown' hgrow _)
        go_roundw
        case rel => exact ⟨i + 1, by omega, by go_num, by rw [HS.out, HNX.out], by rw [HSS.out, HS.out, HNX.out]; exact own_snoc (by rw [HLN.out]; exact hown'), (hb.alloc hsz _).grown hgrow (by simp; omega) (own_base hown)⟩
        case measure => simp [intOf]; omega
    · obtain rfl : i = k - 1 := (by omega)
      have hkc : (((k - 1 : Nat)) : Int) = (k : Int) - 1 := by omega
      clear hS hEl1
      rw [hkc]
      go_wp2_with fail
      go_ret2
      exact listPost_own hown hb
set_option maxRecDepth 100000 in
set_option maxHeartbeats 4000000 in
theorem ref9_Even (a : Option Addr) (n ca : Nat) (k : Int) (f : Nat → Int) (w : World) (hn : n ≤ 100000000) (H : Sl w a n f) :
    Calls Try.prog 37 #[.slice a n ca, .int .i64 k] w (ListPost (evL f n k) (askE (vL n f) (within k 1 16)) w) := by
  have hask := fun W H => ref9_noded a n ca k f W hn H
  cases hv : vL n f
  · rw [evL_no (by rw [hv]; rfl)]
    rw [hv] at hask
    have e0 : ∀ x, askE false x = 1 := fun _ => rfl
    rw [e0] at hask ⊢
    go_enter Try.func37, Try.ntmps37
    go_wp2_with fail
    refine (hask _ H).mono ?_
    rintro e w' ⟨rfl, rfl⟩
    go_wp2_with fail
    go_ret2
    exact listPost_nil (Below.refl _ _)
  cases hk : within k 1 16
  · rw [evL_no (by rw [hv, hk]; rfl)]
    rw [hv, hk, show askE true false = 7 from rfl] at hask
    rw [show askE true false = 7 from rfl]
    go_enter Try.func37, Try.ntmps37
    go_wp2_with fail
    refine (hask _ H).mono ?_
    rintro e w' ⟨rfl, rfl⟩
    go_wp2_with fail
    go_ret2
    exact listPost_nil (Below.refl _ _)
  rw [hv, hk, show askE true true = 0 from rfl] at hask
  rw [show askE true true = 0 from rfl]
  obtain ⟨k0, k1⟩ := (within_iff _ _ _).1 hk
  obtain ⟨k, rfl⟩ : ∃ j : Nat, k = (j : Int) := ⟨k.toNat, by omega⟩
  rw [evL_yes hv hk]
  obtain ⟨n0, n1, _⟩ := (vL_iff _ _).1 hv
  have hdv : ((n : Int)).tdiv (k : Int) = ((n / k : Nat) : Int) := by rw [Int.tdiv_eq_ediv_of_nonneg (by omega)]; simp
  have hdm : ((n : Int)).tmod (k : Int) = ((n % k : Nat) : Int) := by rw [Int.tmod_eq_emod_of_nonneg (by omega)]; simp
  have hdv2 : ((n : Int)) / (k : Int) = ((n / k : Nat) : Int) := by simp
  have hdm2 : ((n : Int)) % (k : Int) = ((n % k : Nat) : Int) := by simp
  have hq : n / k ≤ n := Nat.div_le_self _ _
  have hst := fun i => (show evA n k (i + 1) = evA n k i + n / k + (if i < n % k then 1 else 0) from rfl)
  have hle := fun i (h : i ≤ k) => evA_le (n := n) (by omega : 0 < k) i h
  have hsu := fun i => evP_succ n k i
  have hln := fun i => evP_len n k i
  have h00 : evA n k 0 = 0 := rfl
  have hp0 : evP n k 0 = [] := rfl
  have hkz : ¬ (k : Int) = 0 := by omega
  clear hv hk
  generalize evP n k = P at *
  generalize evA n k = E at *
  generalize n / k = q at *
  generalize n % k = r at *
  have HST := hid hst; have HLE := hid hle; have HSU := hid hsu; have HLN := hid hln; have H00 := hid h00; have HP0 := hid hp0
  clear hst hle hsu hln h00 hp0
  obtain ⟨i0, hi, hz0, hz1, hz2⟩ := info_parts infoI
  go_enter Try.func37, Try.ntmps37
  go_wp2_with fail
  refine (hask _ H).mono ?_
  rintro e w' ⟨rfl, rfl⟩
  go_wp2_with fail
  go_loopw [7, 8, 9] (fun v s8 s9 wr => ∃ i : Nat, i ≤ k - 1 ∧ s9 = .int .i64 i ∧ s8 = .int .i64 (E i : Int) ∧ wr.ownsRow w.heap.size 3 1 v (P i).length ((P i).map vInt) ∧ Below w.heap.size w wr) (fun _ _ s9 _ => k - (intOf s9).toNat)
  case atStart => exact ⟨0, Nat.zero_le _, rfl, by rw [H00.out]; rfl, by rw [HP0.out]; exact World.ownsRow_nil .., Below.refl _ _⟩
  case round =>
    obtain ⟨i, hik, rfl, rfl, hown, hb⟩ := hrel
    have hEl := HLE.out i (by omega)
    have h1 : i * n ≤ 16 * 64 := Nat.mul_le_mul (by omega) (by omega)
    have hS := HST.out i
    have hEl1 := HLE.out
    by_cases hlt : i < k - 1
    · have hli : (i : Int) < (k : Int) - 1 := by omega
      have hlen := HLN.out i
      have hsz := hb.size
      have HSS := hid (HSU.out i)
      rw [hlen] at hown
      by_cases hir : i < r
      · rw [if_pos hir] at hS
        have HS := hid hS
        clear hS hEl1 hlen
        generalize E i = ei at *
        have hnx : (((ei + q + 1 : Nat)) : Int) = (ei : Int) + (q : Int) + 1 := by simp
        have HNX := hid hnx; clear hnx
        go_wp2_with (at_builtin; refine wpList_append_own _ rfl _ _ 22 rfl (w.heap.size) 3 i0 (.int .i64 0) 1 8 Try.underlying22 hi hz0 hz1 hz2 rfl (by decide) _ _ _ rfl ((hown).alloc _) ⟨wr.heap.size, 0, none⟩ 1 1 [.int .i64 ((ei : Int) + (q : Int) + 1)] rfl rfl (cell_one_new _ _ _) (by simp [Value.oneCell']) (by simp [maxLen]; omega) (by omega) (by simp; omega) ?_; intro v' w1 hown' hgrow _)
        go_roundw
        case rel => exact ⟨i + 1, by omega, by go_num, by rw [HS.out, HNX.out], by rw [HSS.out, HS.out, HNX.out]; exact own_snoc (by rw [HLN.out]; exact hown'), (hb.alloc hsz _).grown hgrow (by simp; omega) (own_base hown)⟩
        case measure => simp [intOf]; omega
      · rw [if_neg hir, show E i + q + 0 = E i + q from rfl] at hS
        have HS := hid hS
        clear hS hEl1 hlen
        generalize E i = ei at *
        have hnx : (((ei + q : Nat)) : Int) = (ei : Int) + (q : Int) := by simp
        have HNX := hid hnx; clear hnx
        go_wp2_with (at_builtin; refine wpList_append_own _ rfl _ _ 22 rfl (w.heap.size) 3 i0 (.int .i64 0) 1 8 Try.underlying22 hi hz0 hz1 hz2 rfl (by decide) _ _ _ rfl ((hown).alloc _) ⟨wr.heap.size, 0, none⟩ 1 1 [.int .i64 ((ei : Int) + (q : Int))] rfl rfl (cell_one_new _ _ _) (by simp [Value.oneCell']) (by simp [maxLen]; omega) (by omega) (by simp; omega) ?_; intro v' w1 hown' hgrow _)
        go_roundw
        case rel => exact ⟨i + 1, by omega, by go_num, by rw [HS.out, HNX.out], by rw [HSS.out, HS.out, HNX.out]; exact own_snoc (by rw [HLN.out]; exact hown'), (hb.alloc hsz _).grown hgrow (by simp; omega) (own_base hown)⟩
        case measure => simp [intOf]; omega
    · obtain rfl : i = k - 1 := (by omega)
      have hkc : (((k - 1 : Nat)) : Int) = (k : Int) - 1 := by omega
      clear hS hEl1
      rw [hkc]
      go_wp2_with fail
      go_ret2
      exact listPost_own hown hb
end Go.Proofs.Ytgpcmkoimgnlbaa
