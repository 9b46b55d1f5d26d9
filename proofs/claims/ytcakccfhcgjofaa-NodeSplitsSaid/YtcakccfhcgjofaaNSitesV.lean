/- Plain words and walk: valid sites, of the program. -/
import Derived.Test.YtcakccfhcgjofaaNRefSite
import Derived.Test.YtcakccfhcgjofaaNNodes
import Derived.Test.YtcakccfhcgjofaaCRow
import Derived.Maps.AppendAt
namespace Go.Proofs.Ytcakccfhcgjofaa
open Go Go.RowKit
set_option linter.unusedVariables false
/-- the mass of the first sites -/
def siteM (f : Nat → SiteR) : Nat → Int | 0 => 0 | k + 1 => siteM f k + massTo (f k).C (f k).nc
/-- how many cells the first sites have -/
def siteN (f : Nat → SiteR) : Nat → Nat | 0 => 0 | k + 1 => siteN f k + (f k).nc
/-- valid sites of a valid map -/
def sitesB (o : Nat → Int) (no : Nat) (m : Nat) (f : Nat → SiteR) : Bool :=
  decide (m = (nodeL o no 8).length ∧ (∀ k, k < m → (f k).nd = (nodeL o no 8).getD k 0) ∧ (∀ k, k < m → siteB o no (f k) = true) ∧ siteM f m ≤ 1000000000)
theorem sitesB_iff {o : Nat → Int} {no m : Nat} {f : Nat → SiteR} : sitesB o no m f = true ↔ (m = (nodeL o no 8).length ∧ (∀ k, k < m → (f k).nd = (nodeL o no 8).getD k 0) ∧ (∀ k, k < m → siteB o no (f k) = true) ∧ siteM f m ≤ 1000000000) := by simp [sitesB]
theorem sitesB_no {o : Nat → Int} {no m : Nat} {f : Nat → SiteR} : sitesB o no m f = false ↔ ¬ (m = (nodeL o no 8).length ∧ (∀ k, k < m → (f k).nd = (nodeL o no 8).getD k 0) ∧ (∀ k, k < m → siteB o no (f k) = true) ∧ siteM f m ≤ 1000000000) := by rw [← sitesB_iff]; simp
/-- the cells of the first sites, one behind the other -/
def joinC (f : Nat → SiteR) : Nat → Nat → C4
  | 0, _ => C4.zero
  | k + 1, j => if j < siteN f k then joinC f k j else (f k).C (j - siteN f k)
theorem massTo_congr {g h : Nat → C4} : ∀ {n}, (∀ k, k < n → g k = h k) → massTo g n = massTo h n
  | 0, _ => rfl
  | n + 1, e => by simp only [massTo]; rw [massTo_congr fun k hk => e k (by omega), e n (by omega)]
theorem massTo_add (g : Nat → C4) (n : Nat) : ∀ m, massTo g (n + m) = massTo g n + massTo (fun k => g (n + k)) m
  | 0 => by simp [massTo]
  | m + 1 => by
    rw [← Nat.add_assoc]
    simp only [massTo]
    rw [massTo_add g n m]; omega
theorem joinC_mass (f : Nat → SiteR) : ∀ k, massTo (joinC f k) (siteN f k) = siteM f k
  | 0 => rfl
  | k + 1 => by
    simp only [siteN, siteM]
    rw [massTo_add]
    congr 1
    · rw [← joinC_mass f k]
      exact massTo_congr fun j hj => by simp only [joinC, if_pos hj]
    · exact massTo_congr fun j hj => by simp only [joinC]; rw [if_neg (by omega)]; congr 1; omega
theorem joinC_valid {f : Nat → SiteR} : ∀ {k}, (∀ i, i < k → ∀ j, j < (f i).nc → validC ((f i).C j) = true) → ∀ j, j < siteN f k → validC (joinC f k j) = true
  | 0, _, j, hj => by simp [siteN] at hj
  | k + 1, h, j, hj => by
    simp only [joinC]
    simp only [siteN] at hj
    split
    · rename_i h2; exact joinC_valid (fun i hi => h i (by omega)) j h2
    · exact h k (by omega) _ (by omega)
theorem site_mass {o : Nat → Int} {no : Nat} {s : SiteR} (h : siteB o no s = true) : (∀ j, j < s.nc → validC (s.C j) = true) ∧ massTo s.C s.nc ≤ 1000000000 := (massB_iff _ _).1 (siteB_iff.1 h).2.2.2
theorem siteM_nonneg {f : Nat → SiteR} : ∀ {k}, (∀ i, i < k → ∀ j, j < (f i).nc → validC ((f i).C j) = true) → 0 ≤ siteM f k
  | 0, _ => by simp [siteM]
  | k + 1, h => by
    have := siteM_nonneg (k := k) (fun i hi => h i (by omega))
    have := massTo_nonneg (f k).C (f k).nc (h k (by omega))
    simp only [siteM]; omega
theorem join_massB {o : Nat → Int} {no m : Nat} {f : Nat → SiteR} (h : ∀ k, k < m → siteB o no (f k) = true) : massB (siteN f m) (joinC f m) = decide (siteM f m ≤ 1000000000) := by
  rw [Bool.eq_iff_iff, massB_iff, joinC_mass, decide_eq_true_iff]
  exact ⟨fun h => h.2, fun h2 => ⟨joinC_valid fun i hi => (site_mass (h i hi)).1, h2⟩⟩
theorem siteN_le {f : Nat → SiteR} {c : Nat} : ∀ {k}, (∀ i, i < k → (f i).nc ≤ c) → siteN f k ≤ k * c
  | 0, _ => by simp [siteN]
  | k + 1, h => by
    have := siteN_le (k := k) (fun i hi => h i (by omega))
    have := h k (by omega)
    simp only [siteN]; rw [Nat.add_mul]; omega
/-- an own list of cells -/
theorem rowC_app (f : Nat → SiteR) (k : Nat) : rowC (joinC f (k + 1)) (siteN f (k + 1)) = rowC (joinC f k) (siteN f k) ++ rowC (f k).C (f k).nc := by
  apply List.ext_getElem?
  intro j
  rw [List.getElem?_append, rowC_length]
  simp only [rowC, List.getElem?_map, siteN]
  by_cases h : j < siteN f k * 4
  · rw [if_pos h]
    simp only [List.getElem?_range h, List.getElem?_range (show j < (siteN f k + (f k).nc) * 4 by omega), Option.map_some]
    congr 2
    unfold flatC
    simp only [joinC]
    rw [if_pos (by omega)]
  · rw [if_neg h]
    by_cases h2 : j < (siteN f k + (f k).nc) * 4
    · simp only [List.getElem?_range h2, List.getElem?_range (show j - siteN f k * 4 < (f k).nc * 4 by omega), Option.map_some]
      congr 2
      unfold flatC
      simp only [joinC]
      rw [if_neg (by omega), show j / 4 - siteN f k = (j - siteN f k * 4) / 4 by omega, show (j - siteN f k * 4) % 4 = j % 4 by omega]
    · rw [List.getElem?_eq_none (by simp; omega), List.getElem?_eq_none (by simp; omega)]; rfl
theorem sc_of_own {W : World} {base n : Nat} {v : Value} {f : Nat → C4} (h : W.ownsRow base 110 4 v n (rowC f n)) : ∃ a c, v = .slice a n c ∧ Sc W a n f := by
  rcases h.2 with ⟨rfl, h0⟩ | ⟨g, cap, cur, rfl, hb, hh, hn, hm, hc, ht⟩
  · exact ⟨none, 0, by rw [h0], fun k hk => by omega⟩
  · by_cases h0 : 0 < n
    · obtain ⟨_, hr⟩ := roC_of_own h h0
      exact ⟨_, _, rfl, hr.sc⟩
    · exact ⟨_, _, rfl, fun k hk => by omega⟩
end Go.Proofs.Ytcakccfhcgjofaa
