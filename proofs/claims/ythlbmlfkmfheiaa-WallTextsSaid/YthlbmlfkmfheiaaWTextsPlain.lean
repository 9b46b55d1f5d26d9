/- The plain law of WallTexts. -/
import Derived.Test.YthlbmlfkmfheiaaPrsBack
namespace Go.Proofs.Ythlbmlfkmfheiaa
open Go Go.RowKit
set_option linter.unusedVariables false
theorem vG_parts {wide high : Int} {n : Nat} {g : Nat → C4} (h : validG wide high n g = true) : 0 < wide.toNat ∧ high.toNat * wide.toNat = n ∧ n ≤ 1024 := by
  obtain ⟨g1, g2, g3, g4, g5, g6, _⟩ := (validG_iff _ _ _ _).1 h
  obtain ⟨W, rfl⟩ : ∃ W : Nat, wide = W := ⟨wide.toNat, by omega⟩
  obtain ⟨H, rfl⟩ : ∃ H : Nat, high = H := ⟨high.toNat, by omega⟩
  simp only [Int.toNat_natCast]
  have e : (W : Int) * (H : Int) = ((H * W : Nat) : Int) := by rw [Nat.mul_comm]; simp
  have g5' : ((H * W : Nat) : Int) ≤ 1024 := by rw [← e]; exact g5
  have g6' : (n : Int) = ((H * W : Nat) : Int) := by rw [← e]; exact g6
  clear g5 g6 e
  generalize hm : H * W = m at *
  omega
theorem prsE_valid {v : Bool} {W H : Nat} {l : List UInt8} (h : prsE v W H l = 0) : v = true := by
  cases v
  · exact absurd (show (1 : Int) = 0 from h) (by decide)
  · rfl
theorem prs_size (wide high : Int) (n : Nat) (g : Nat → C4) (l : List UInt8) :
    (prsK (validG wide high n g) wide.toNat high.toNat l).length ≤ 1024 ∧ (prsL (validG wide high n g) wide.toNat high.toNat l).length ≤ 1024 := by
  by_cases h : prsE (validG wide high n g) wide.toNat high.toNat l = 0
  · have hv := prsE_valid h
    obtain ⟨a1, a2, a3⟩ := vG_parts hv
    rw [hv] at h ⊢
    obtain ⟨q1, q2, _⟩ := fmt_prs a1 h
    omega
  · simp [prsK, prsL, h]
theorem prs_right {wide high : Int} {n : Nat} {g : Nat → C4} {l : List UInt8} {KL LL : List Int} (h : prsE (validG wide high n g) wide.toNat high.toNat l = 0)
    (hK : prsK (validG wide high n g) wide.toNat high.toNat l = KL) (hL : prsL (validG wide high n g) wide.toNat high.toNat l = LL) :
    fmtR (validW wide high n g KL.length LL.length (fun k => KL.getD k 0) (fun k => LL.getD k 0)) wide.toNat (fun k => KL.getD k 0) (fun k => LL.getD k 0) n = l := by
  have hv := prsE_valid h
  obtain ⟨a1, a2, a3⟩ := vG_parts hv
  rw [hv] at h hK hL
  obtain ⟨q1, q2, q3, q4⟩ := fmt_prs a1 h
  rw [hK] at q1 q3 q4
  rw [hL] at q2 q3 q4
  rw [a2] at q1 q2 q3 q4
  have hw : validW wide high n g KL.length LL.length (fun k => KL.getD k 0) (fun k => LL.getD k 0) = true := by
    rw [validW_iff]
    exact ⟨hv, by omega, by omega, fun k hk => by
      have := q3 k hk
      unfold sgnOk at this
      exact this⟩
  rw [fmtR, if_pos hw, q4]
theorem fmt_right {wide high : Int} {n nk nb : Nat} {g : Nat → C4} {K B : Nat → Int} {l : List UInt8} (h : fmtR (validW wide high n g nk nb K B) wide.toNat K B n = l) (hl : l ≠ []) :
    prsE (validG wide high n g) wide.toNat high.toNat l = 0 ∧ prsN (validG wide high n g) wide.toNat high.toNat l = 0 ∧ prsK (validG wide high n g) wide.toNat high.toNat l = (List.range n).map K ∧ prsL (validG wide high n g) wide.toNat high.toNat l = (List.range n).map B ∧ nk = n ∧ nb = n := by
  cases hw : validW wide high n g nk nb K B
  · rw [hw] at h
    exact absurd h.symm hl
  · rw [hw] at h
    rw [fmtR, if_pos rfl] at h
    obtain ⟨hv, e1, e2, hs⟩ := (validW_iff _ _ _ _ _ _ _ _).1 hw
    obtain ⟨a1, a2, a3⟩ := vG_parts hv
    rw [hv]
    have q := prs_fmt (W := wide.toNat) (H := high.toNat) (K := K) (B := B) a1 (fun j hj => by
      rw [a2] at hj
      exact hs j hj) (by omega)
    rw [a2, h] at q
    obtain ⟨q1, q2, q3, q4⟩ := q
    exact ⟨q1, q2, q3, q4, by omega, by omega⟩
/-- the list that is read is the list that was written -/
theorem same_range {n m : Nat} {K : Nat → Int} {l : List Int} (h : l = (List.range n).map K) (hm : m = n) : l.length = m ∧ ∀ k, k < l.length → l.getD k 0 = K k := by
  subst h hm
  refine ⟨by simp, fun k hk => ?_⟩
  simp at hk
  rw [List.getD_eq_getElem?_getD, List.getElem?_eq_getElem (by simpa using hk)]
  simp
end Go.Proofs.Ythlbmlfkmfheiaa
