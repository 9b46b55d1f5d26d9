/- Plain words of the drag: the impulses of steps, summed. -/
import Derived.Test.YtnnaegnkkpknpaaImp
import Derived.Test.YtnnaegnkkpknpaaWStepPlain
namespace Go.Proofs.Ytnnaegnkkpknpaa
open Go Go.RowKit
set_option linter.unusedVariables false
/-- the impulses of the grids G 0 .. G (i - 1) -/
def drgE (G : Nat → Nat → C4) (K B : Nat → Int) (body : Int) (n : Nat) : Nat → Int
  | 0 => 0
  | i + 1 => drgE G K B body n i + impE (G i) K B body n
def drgN (G : Nat → Nat → C4) (K B : Nat → Int) (body : Int) (n : Nat) : Nat → Int
  | 0 => 0
  | i + 1 => drgN G K B body n i + impN (G i) K B body n
theorem drg_bd {G : Nat → Nat → C4} {n : Nat} (K B : Nat → Int) (body : Int) (hn : n ≤ 1024) (h : ∀ i, okG n (G i)) : ∀ i : Nat, -((i : Int) * 4096000000000) ≤ drgE G K B body n i ∧ drgE G K B body n i ≤ (i : Int) * 4096000000000 ∧ -((i : Int) * 4096000000000) ≤ drgN G K B body n i ∧ drgN G K B body n i ≤ (i : Int) * 4096000000000
  | 0 => by simp [drgE, drgN]
  | i + 1 => by
    obtain ⟨a, b, c, d⟩ := drg_bd K B body hn h i
    have e := impE_bd (G i) K B body n (h i).1
    have f := impN_bd (G i) K B body n (h i).1
    simp only [drgE, drgN]
    omega
/-- drag over m steps and then over k others is that over all -/
theorem drg_add (G : Nat → Nat → C4) (K B : Nat → Int) (body : Int) (n m : Nat) : ∀ k, drgE G K B body n (m + k) = drgE G K B body n m + drgE (fun i => G (m + i)) K B body n k ∧ drgN G K B body n (m + k) = drgN G K B body n m + drgN (fun i => G (m + i)) K B body n k
  | 0 => by simp [drgE, drgN]
  | k + 1 => by
    obtain ⟨a, b⟩ := drg_add G K B body n m k
    rw [← Nat.add_assoc]
    simp only [drgE, drgN, a, b]
    omega
theorem impE_congr {g h : Nat → C4} (K B : Nat → Int) (body : Int) : ∀ n, (∀ i, i < n → g i = h i) → impE g K B body n = impE h K B body n ∧ impN g K B body n = impN h K B body n
  | 0, _ => ⟨rfl, rfl⟩
  | n + 1, e => by
    obtain ⟨a, b⟩ := impE_congr K B body n (fun i hi => e i (by omega))
    simp only [impE, impN, a, b, e n (by omega)]
    exact ⟨trivial, trivial⟩
theorem drg_congr {G G' : Nat → Nat → C4} (K B : Nat → Int) (body : Int) (n : Nat) : ∀ k, (∀ i, i < k → ∀ j, j < n → G i j = G' i j) → drgE G K B body n k = drgE G' K B body n k ∧ drgN G K B body n k = drgN G' K B body n k
  | 0, _ => ⟨rfl, rfl⟩
  | k + 1, e => by
    obtain ⟨a, b⟩ := drg_congr K B body n k (fun i hi => e i (by omega))
    obtain ⟨c, d⟩ := impE_congr K B body n (e k (by omega))
    simp only [drgE, drgN, a, b, c, d]
    exact ⟨trivial, trivial⟩
end Go.Proofs.Ytnnaegnkkpknpaa
