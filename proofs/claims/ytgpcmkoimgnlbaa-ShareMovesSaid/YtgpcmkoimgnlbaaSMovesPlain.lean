/- Plain words of the moves of shares: moved, even, rebalanced. -/
import Derived.Test.YtgpcmkoimgnlbaaSSpare
namespace Go.Proofs.Ytgpcmkoimgnlbaa
open Go Go.RowKit
set_option linter.unusedVariables false
/-! ### a move -/
def mvC (c : Nat → Int) (k b : Int) : Nat → Int := upd c k.toNat (c k.toNat + b)
def mvB (f : Nat → Int) (n m : Nat) (c : Nat → Int) (k b : Int) : Bool := vL n f && vK n m c && within k 0 ((m : Int) - 1) && vK n m (mvC c k b)
def mvE (f : Nat → Int) (n m : Nat) (c : Nat → Int) (k b : Int) : Int := if vL n f then (if vK n m c && within k 0 ((m : Int) - 1) && vK n m (mvC c k b) then 0 else 7) else 1
def mvL (f : Nat → Int) (n m : Nat) (c : Nat → Int) (k b : Int) : List Int := if mvB f n m c k b then (List.range m).map (mvC c k b) else []
theorem mvL_length (f : Nat → Int) (n m : Nat) (c : Nat → Int) (k b : Int) : (mvL f n m c k b).length ≤ m := by
  unfold mvL; split <;> simp
theorem mv_by {n m : Nat} {c : Nat → Int} {k b : Int} (h1 : vK n m c = true) (h2 : within k 0 ((m : Int) - 1) = true) (h3 : vK n m (mvC c k b) = true) : -(n : Int) ≤ b ∧ b ≤ n := by
  have a1 := (vK_iff _ _ _).1 h1; have a2 := (within_iff _ _ _).1 h2; have a3 := (vK_iff _ _ _).1 h3
  have b1 := a1.2 k.toNat (by omega); have b3 := a3.2 k.toNat (by omega)
  have e : mvC c k b k.toNat = c k.toNat + b := by simp [mvC, upd]
  rw [e] at b3
  omega
theorem vK_congr {n m : Nat} {c d : Nat → Int} (h : ∀ i, i < m → c i = d i) : vK n m c = vK n m d := by
  rw [Bool.eq_iff_iff, vK_iff, vK_iff]
  constructor
  · rintro ⟨a, b⟩
    refine ⟨a, fun i hi => ?_⟩
    have := b i hi
    rw [← h i hi, ← h (i - 1) (by omega)]; exact this
  · rintro ⟨a, b⟩
    refine ⟨a, fun i hi => ?_⟩
    have := b i hi
    rw [h i hi, h (i - 1) (by omega)]; exact this
/-- a move back is nothing -/
theorem mv_back {f c : Nat → Int} {n m : Nat} {k b : Int} (h : mvE f n m c k b = 0) :
    (mvL f n m c k b).length = m ∧ mvE f n m (fun i => (mvL f n m c k b).getD i 0) k (-b) = 0 ∧ (mvL f n m (fun i => (mvL f n m c k b).getD i 0) k (-b)).length = m ∧
      ∀ i, i < m → (mvL f n m (fun i => (mvL f n m c k b).getD i 0) k (-b)).getD i 0 = c i := by
  have hv : vL n f = true := by
    cases h1 : vL n f
    · simp [mvE, h1] at h
    · rfl
  have hB : (vK n m c && within k 0 ((m : Int) - 1) && vK n m (mvC c k b)) = true := by
    cases h1 : (vK n m c && within k 0 ((m : Int) - 1) && vK n m (mvC c k b))
    · simp [mvE, hv, h1] at h
    · rfl
  rw [Bool.and_eq_true, Bool.and_eq_true] at hB
  obtain ⟨⟨h1, h2⟩, h3⟩ := hB
  have hk := (within_iff _ _ _).1 h2
  have e1 : mvL f n m c k b = (List.range m).map (mvC c k b) := by simp [mvL, mvB, hv, h1, h2, h3]
  have g1 : ∀ i, i < m → (mvL f n m c k b).getD i 0 = mvC c k b i := fun i hi => by rw [e1]; simp [List.getD_eq_getElem?_getD, hi]
  have g2 : ∀ i, i < m → mvC (fun i => (mvL f n m c k b).getD i 0) k (-b) i = c i := fun i hi => by
    unfold mvC upd
    split
    · rename_i e
      subst e
      dsimp only
      rw [g1 _ hi]; simp only [mvC, upd, if_pos]; omega
    · rename_i e
      dsimp only
      rw [g1 _ hi]; simp only [mvC, upd, if_neg e]
  have v1 : vK n m (fun i => (mvL f n m c k b).getD i 0) = true := by rw [vK_congr g1]; exact h3
  have v2 : vK n m (mvC (fun i => (mvL f n m c k b).getD i 0) k (-b)) = true := by rw [vK_congr g2]; exact h1
  generalize mvL f n m c k b = L at *
  have e2 : mvL f n m (fun i => L.getD i 0) k (-b) = (List.range m).map (mvC (fun i => L.getD i 0) k (-b)) := by unfold mvL mvB; rw [hv, v1, h2, v2]; rfl
  refine ⟨by rw [e1]; simp, by unfold mvE; rw [hv, v1, h2, v2]; rfl, by rw [e2]; simp, fun i hi => ?_⟩
  rw [e2]
  simp only [List.getD_eq_getElem?_getD, List.getElem?_map, List.getElem?_range hi, Option.map_some, Option.getD_some]
  exact g2 i hi
/-! ### even -/
def evA (n k : Nat) : Nat → Nat
  | 0 => 0
  | i + 1 => evA n k i + n / k + if i < n % k then 1 else 0
theorem evA_le {n k : Nat} (hk : 0 < k) : ∀ i, i ≤ k → evA n k i ≤ i * n + i
  | 0, _ => by simp [evA]
  | i + 1, h => by
    have := evA_le (n := n) hk i (by omega)
    have h2 : n / k ≤ n := Nat.div_le_self _ _
    simp only [evA]
    have e : (i + 1) * n = i * n + n := Nat.succ_mul _ _
    split <;> omega
def evL (f : Nat → Int) (n : Nat) (k : Int) : List Int := if vL n f && within k 1 16 then (List.range (k.toNat - 1)).map (fun i => (evA n k.toNat (i + 1) : Int)) else []
theorem evL_length (f : Nat → Int) (n : Nat) (k : Int) : (evL f n k).length ≤ 16 := by
  unfold evL
  split
  · rename_i h
    rw [Bool.and_eq_true] at h
    have hk := (within_iff _ _ _).1 h.2
    simp; omega
  · simp
/-! ### rebalanced -/
def nodeOf (m : Nat) (c : Nat → Int) (x : Nat) : Nat := firstN (fun j => decide ((x : Int) < c j)) m 0
theorem nodeOf_is (m : Nat) (c : Nat → Int) (x : Nat) : IsNode m c x (nodeOf m c x) := by
  obtain ⟨a1, a2, a3, a4⟩ := firstN_spec (P := fun j => decide ((x : Int) < c j)) m 0
  refine ⟨by unfold nodeOf; omega, fun i hi => ?_, fun h => ?_⟩
  · have := a3 i (Nat.zero_le _) hi
    have := of_decide_eq_false this
    omega
  · exact of_decide_eq_true (a4 (by unfold nodeOf at h; omega))
def difTo (p q : Nat → Nat) : Nat → Nat
  | 0 => 0
  | k + 1 => difTo p q k + if p k = q k then 0 else 1
theorem difTo_le (p q : Nat → Nat) : ∀ k, difTo p q k ≤ k
  | 0 => Nat.le_refl _
  | k + 1 => by have := difTo_le p q k; simp only [difTo]; split <;> omega
def reL (f : Nat → Int) (n m : Nat) (c : Nat → Int) : List Int := if vL n f && vK n m c then bestL f n (leastL f n (m + 1)) m 0 else []
def reN (f : Nat → Int) (n m : Nat) (c : Nat → Int) : Int := if vL n f && vK n m c then (difTo (nodeOf m c) (nodeOf m (fun i => (bestL f n (leastL f n (m + 1)) m 0).getD i 0)) n : Int) else 0
theorem reL_length (f : Nat → Int) (n m : Nat) (c : Nat → Int) : (reL f n m c).length ≤ 16 := by
  unfold reL
  split
  · rename_i h
    rw [Bool.and_eq_true] at h
    have hk := ((vK_iff _ _ _).1 h.2).1
    rw [bestL_length]; omega
  · simp
/-- the places that the best share has are cuts too -/
theorem best_cuts {f c : Nat → Int} {n m : Nat} (h1 : vL n f = true) (h2 : vK n m c = true) : validK n m (fun i => (bestL f n (leastL f n (m + 1)) m 0).getD i 0) := by
  have hV := (vL_iff _ _).1 h1
  have hK := (vK_iff _ _ _).1 h2
  obtain ⟨p1, _⟩ := best_peak (k := m + 1) (validL_nonneg hV) (by omega) (by have := hK.1; omega)
  rw [bestL_length, Nat.add_sub_cancel] at p1
  exact p1
end Go.Proofs.Ytgpcmkoimgnlbaa
