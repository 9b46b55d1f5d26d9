/- Plain law of WallKept: the momentum after a step is that before and the impulses of all bodies. No program in sight. -/
import Derived.Test.YtnnaegnkkpknpaaWImp
import Derived.Test.YtnnaegnkkpknpaaGSums
namespace Go.Proofs.Ytnnaegnkkpknpaa
open Go Go.RowKit
set_option linter.unusedVariables false
theorem gE_sum (g : Nat → C4) (n : Nat) : gE g n = sumTo (fun i => (g i).e) n - sumTo (fun i => (g i).w) n := sumTo_sub _ _ _
theorem gN_sum (g : Nat → C4) (n : Nat) : gN g n = sumTo (fun i => (g i).n) n - sumTo (fun i => (g i).s) n := sumTo_sub _ _ _
theorem flow_gE (W H : Nat) (g : Nat → C4) : gE (flow W H g) (W * H) = gE g (W * H) ∧ gN (flow W H g) (W * H) = gN g (W * H) := by
  rw [gE_sum, gE_sum, gN_sum, gN_sum]
  simp only [flow]
  rw [sum_nb (d := 0) (by omega) (fun i => (g i).e), sum_nb (d := 1) (by omega) (fun i => (g i).n), sum_nb (d := 2) (by omega) (fun i => (g i).w), sum_nb (d := 3) (by omega) (fun i => (g i).s)]
  exact ⟨rfl, rfl⟩
/-- what a wall's cell gives, east and north -/
def dE (g : Nat → C4) (K : Nat → Int) (k : Nat) : Int := (sentC (g k) (K k)).e - (sentC (g k) (K k)).w - (g k).e + (g k).w
def dN (g : Nat → C4) (K : Nat → Int) (k : Nat) : Int := (sentC (g k) (K k)).n - (sentC (g k) (K k)).s - (g k).n + (g k).s
theorem impE_sum (g : Nat → C4) (K B : Nat → Int) (b : Int) : ∀ n, impE g K B b n = sumTo (fun k => if B k = b then dE g K k else 0) n
  | 0 => rfl
  | n + 1 => by simp only [impE, sumTo, impE_sum g K B b n, dE]; split <;> omega
theorem impN_sum (g : Nat → C4) (K B : Nat → Int) (b : Int) : ∀ n, impN g K B b n = sumTo (fun k => if B k = b then dN g K k else 0) n
  | 0 => rfl
  | n + 1 => by simp only [impN, sumTo, impN_sum g K B b n, dN]; split <;> omega
theorem metF_gE (k b : Int) (K B : Nat → Int) (g : Nat → C4) (n : Nat) (hK : ∀ i, i < n → (K i = 0 ↔ B i = 0)) :
    gE (metF k b K g) n = gE g n + sumTo (fun i => if B i = 0 then 0 else dE g K i) n ∧ gN (metF k b K g) n = gN g n + sumTo (fun i => if B i = 0 then 0 else dN g K i) n := by
  unfold gE gN
  rw [← sumTo_add, ← sumTo_add]
  refine ⟨sumTo_congr fun i hi => ?_, sumTo_congr fun i hi => ?_⟩
  · have := coll_mom k b (g i)
    unfold metF
    by_cases h : K i = 0
    · rw [if_pos h, if_pos ((hK i hi).1 h)]; omega
    · rw [if_neg h, if_neg (fun e => h ((hK i hi).2 e))]; simp only [dE]; omega
  · have := coll_mom k b (g i)
    unfold metF
    by_cases h : K i = 0
    · rw [if_pos h, if_pos ((hK i hi).1 h)]; omega
    · rw [if_neg h, if_neg (fun e => h ((hK i hi).2 e))]; simp only [dN]; omega
/-- a sum over the first k of a list -/
def sumB (f : Int → Int) (l : List Int) (k : Nat) : Int := sumTo (fun j => f (l.getD j 0)) k
theorem sumB_snoc (f : Int → Int) (l : List Int) (x : Int) : sumB f (l ++ [x]) (l ++ [x]).length = sumB f l l.length + f x := by
  have e : sumTo (fun j => f ((l ++ [x]).getD j 0)) l.length = sumTo (fun j => f (l.getD j 0)) l.length := sumTo_congr fun j hj => by simp [List.getD_eq_getElem?_getD, List.getElem?_append_left hj]
  simp only [sumB, List.length_append, List.length_cons, List.length_nil, Nat.zero_add, sumTo, e]
  simp [List.getD_eq_getElem?_getD]
theorem sumB_bodies (f : Int → Int) (B : Nat → Int) (n : Nat) (h : ∀ b, ownL B b n = [] → f b = 0) : ∀ k, sumB f (bodTo B n k) (bodTo B n k).length = sumTo (fun j => f ((j : Int) + 1)) k
  | 0 => rfl
  | k + 1 => by
    have ih := sumB_bodies f B n h k
    simp only [bodTo, sumTo]
    split
    · rw [sumB_snoc, ih]
    · rename_i hz
      rw [ih, h _ (List.eq_nil_of_length_eq_zero (by omega))]; omega
theorem ownL_nil {B : Nat → Int} {b : Int} : ∀ {n : Nat}, ownL B b n = [] → ∀ k, k < n → B k ≠ b
  | 0, _, k, hk => by omega
  | n + 1, h, k, hk => by
    simp only [ownL] at h
    split at h
    · simp at h
    · rename_i hb
      rcases Nat.lt_succ_iff_lt_or_eq.1 hk with h' | rfl
      · exact ownL_nil h k h'
      · exact hb
theorem impE_nil (g : Nat → C4) (K B : Nat → Int) (n : Nat) (b : Int) (h : ownL B b n = []) : impE g K B b n = 0 ∧ impN g K B b n = 0 := by
  rw [impE_sum, impN_sum]
  have e := ownL_nil h
  constructor
  · rw [sumTo_congr (g := fun _ => 0) (fun i hi => if_neg (e i hi)), sumTo_zero]
  · rw [sumTo_congr (g := fun _ => 0) (fun i hi => if_neg (e i hi)), sumTo_zero]
theorem sum_all (B d : Nat → Int) (n : Nat) (hB : ∀ i, i < n → 0 ≤ B i ∧ B i ≤ 9) : sumTo (fun j => sumTo (fun k => if B k = (j : Int) + 1 then d k else 0) n) 9 = sumTo (fun k => if B k = 0 then 0 else d k) n := by
  rw [sumTo_swap]
  refine sumTo_congr fun k hk => ?_
  obtain ⟨h0, h9⟩ := hB k hk
  have e : sumTo (fun j => if B k = (j : Int) + 1 then d k else 0) 9 = sumTo (fun j => if j = (B k - 1).toNat then (if B k = 0 then 0 else d k) else 0) 9 := sumTo_congr fun j hj => by
    by_cases h : B k = (j : Int) + 1
    · rw [if_pos h, if_pos (by omega), if_neg (by omega)]
    · rw [if_neg h]
      by_cases h2 : j = (B k - 1).toNat
      · rw [if_pos h2, if_pos (by omega)]
      · rw [if_neg h2]
  rw [e, sumTo_point]
  split
  · rfl
  · omega
/-- the momentum after a step -/
theorem kept_mom {W H : Nat} {r : Int × Int} {K B : Nat → Int} {g : Nat → C4} (hK : ∀ i, i < W * H → (K i = 0 ↔ B i = 0)) (hB : ∀ i, i < W * H → 0 ≤ B i ∧ B i ≤ 9) :
    gE g (W * H) + sumB (fun b => impE g K B b (W * H)) (bodTo B (W * H) 9) (bodTo B (W * H) 9).length = gE (stepW W H r K g) (W * H) ∧
    gN g (W * H) + sumB (fun b => impN g K B b (W * H)) (bodTo B (W * H) 9) (bodTo B (W * H) 9).length = gN (stepW W H r K g) (W * H) := by
  unfold stepW
  rw [(flow_gE W H _).1, (flow_gE W H _).2, (metF_gE _ _ K B g _ hK).1, (metF_gE _ _ K B g _ hK).2, sumB_bodies _ _ _ (fun b h => (impE_nil g K B _ b h).1), sumB_bodies _ _ _ (fun b h => (impE_nil g K B _ b h).2)]
  simp only [impE_sum, impN_sum]
  rw [sum_all B _ _ hB, sum_all B _ _ hB]
  exact ⟨rfl, rfl⟩
/-- no bodies: no walls -/
theorem no_bodies {W H : Nat} {K B : Nat → Int} (hK : ∀ i, i < W * H → (K i = 0 ↔ B i = 0)) (hB : ∀ i, i < W * H → 0 ≤ B i ∧ B i ≤ 9) (h : (bodTo B (W * H) 9).length = 0) : ∀ i, i < W * H → K i = 0 := by
  intro i hi
  rw [hK i hi]
  obtain ⟨h0, h9⟩ := hB i hi
  have key : ∀ k, (bodTo B (W * H) k).length = 0 → ∀ j, j < k → ownL B ((j : Int) + 1) (W * H) = [] := by
    intro k
    induction k with
    | zero => intro _ j hj; omega
    | succ k ih =>
      intro hl j hj
      simp only [bodTo] at hl
      split at hl
      · simp at hl
      · rename_i hz
        rcases Nat.lt_succ_iff_lt_or_eq.1 hj with h' | rfl
        · exact ih hl j h'
        · exact List.eq_nil_of_length_eq_zero (by omega)
  rcases Int.lt_or_le 0 (B i) with h1 | h1
  · have := ownL_nil (key 9 h (B i - 1).toNat (by omega)) i hi
    exact absurd (by omega) this
  · omega
theorem stepG_of {W H : Nat} {r : Int × Int} {K : Nat → Int} {g : Nat → C4} (h : ∀ i, i < W * H → K i = 0) {i : Nat} (hi : i < W * H) : stepW W H r K g i = stepW W H r (fun _ => 0) g i := by
  unfold stepW
  refine flow_congr (fun j hj => ?_) hi
  unfold metF
  rw [h j hj]
/-- each of the bodies that are told has a cell -/
theorem bodTo_has (B : Nat → Int) (n : Nat) : ∀ k b, b ∈ bodTo B n k → 1 ≤ b ∧ b ≤ k ∧ 0 < (ownL B b n).length
  | 0, b, h => by simp [bodTo] at h
  | k + 1, b, h => by
    simp only [bodTo] at h
    split at h
    · rename_i hl
      rcases List.mem_append.1 h with h | h
      · have := bodTo_has B n k b h; omega
      · rw [List.mem_singleton] at h; subst h; exact ⟨by omega, by omega, hl⟩
    · have := bodTo_has B n k b h; omega
theorem bodTo_err {B : Nat → Int} {n j : Nat} (hj : j < (bodTo B n 9).length) : bodE B ((bodTo B n 9).getD j 0) n = 0 := by
  have h := bodTo_has B n 9 ((bodTo B n 9).getD j 0) (by rw [List.getD_eq_getElem?_getD, List.getElem?_eq_getElem hj]; exact List.getElem_mem hj)
  unfold bodE
  have hw : within ((bodTo B n 9).getD j 0) 1 9 = true := (within_iff _ _ _).2 ⟨h.1, by have := h.2.1; omega⟩
  rw [if_pos hw, if_pos (by rw [hasL_own]; simpa using h.2.2)]
theorem sumB_bd (f : Int → Int) (l : List Int) (D : Int) (h0 : 0 ≤ D) (h : ∀ b, -D ≤ f b ∧ f b ≤ D) : ∀ k, -(k * D) ≤ sumB f l k ∧ sumB f l k ≤ k * D
  | 0 => by simp [sumB, sumTo]
  | k + 1 => by
    have ih := sumB_bd f l D h0 h k
    have := h (l.getD k 0)
    simp only [sumB, sumTo] at *
    rw [show (((k + 1 : Nat)) : Int) * D = (k : Int) * D + D from by rw [Int.natCast_add, Int.add_mul]; simp]
    omega
end Go.Proofs.Ytnnaegnkkpknpaa
