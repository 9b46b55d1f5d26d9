/- Plain law of WallGrows: discs grow with their radius, and one about the middle is its own mirror image. -/
import Derived.Test.YtnnaegnkkpknpaaMirW
import Derived.Test.YtnnaegnkkpknpaaRDisc2
namespace Go.Proofs.Ytnnaegnkkpknpaa
open Go Go.RowKit
set_option linter.unusedVariables false
def zI : Nat → Int := fun _ => 0
def bI (wide : Int) (f : Int → Int → Bool) (j : Nat) : Int := if f ((j : Int) % wide) ((j : Int) / wide) then 1 else 0
theorem WallPost.congr {er : Int} {l l' : Nat} {K K' B B' : Nat → Int} {w w' : World} {e : Ending} (h : WallPost er l K B w e w') (hl : l = l') (hK : ∀ j, j < l' → K j = K' j) (hB : ∀ j, j < l' → B j = B' j) : WallPost er l' K' B' w e w' := by
  subst hl
  obtain ⟨a, a', c, c', he, s1, s2, hb⟩ := h
  exact ⟨a, a', c, c', he, s1.congr hK, s2.congr hB, hb⟩
theorem putBad_zero (s : Nat → Int) (body : Int) (n : Nat) : putBad s zI body n = false := putBad_no (fun i hi h => h.2.1 rfl)
theorem shErr_zero (e0 : Int) (s : Nat → Int) (body : Int) (n : Nat) : shErr e0 s zI body n = e0 := by
  unfold shErr putErr
  rw [putBad_zero]
  split
  · rename_i h; simp [h]
  · rfl
def okL (e : Int) (n : Nat) : Nat := if e = 0 then n else 0
theorem shLen_zero (e0 : Int) (s : Nat → Int) (body : Int) (n : Nat) : shLen e0 s zI body n = okL e0 n := by
  unfold shLen putLen okL
  rw [putBad_zero]
  simp
theorem okL_le (e : Int) (n : Nat) : okL e n ≤ n := by unfold okL; split <;> omega
theorem put_K {wide : Int} {f : Int → Int → Bool} {kf : Int → Int → Int} {n j : Nat} (hj : j < n) : putTo (fS wide f kf) zI (fS wide f kf) n j = fS wide f kf j := by
  unfold putTo
  split
  · rfl
  · rename_i h
    have : fS wide f kf j = 0 := by
      by_cases h0 : fS wide f kf j = 0
      · exact h0
      · exact absurd ⟨hj, h0⟩ h
    rw [this]; rfl
theorem put_B {wide : Int} {f : Int → Int → Bool} {kf : Int → Int → Int} (hk : ∀ x y, kf x y ≠ 0) {n j : Nat} (hj : j < n) : putTo (fS wide f kf) zI (fun _ => 1) n j = bI wide f j := by
  unfold putTo bI
  by_cases hf : f ((j : Int) % wide) ((j : Int) / wide) = true
  · have : fS wide f kf j ≠ 0 := by unfold fS; rw [if_pos hf]; exact hk _ _
    rw [if_pos ⟨hj, this⟩, if_pos hf]
  · have : fS wide f kf j = 0 := by unfold fS; rw [if_neg hf]
    rw [if_neg (fun h => h.2 this), if_neg hf]; rfl
theorem dIn_mono {wide high q q' : Int} {p : Int × Int} {x y : Int} (hq : q ≤ q') (h : dIn wide high p q x y = true) : dIn wide high p q' x y = true := by
  unfold dIn at h ⊢
  simp only [Bool.and_eq_true, decide_eq_true_eq] at h ⊢
  exact ⟨h.1, by omega⟩
theorem dIn_mir {wide high q : Int} {p : Int × Int} (hm : 2 * p.1 + 1 = wide) (x y : Int) : dIn wide high p q (wide - 1 - x) y = dIn wide high p q x y := by
  unfold dIn
  have e : wide - 1 - x - p.1 = -(x - p.1) := by omega
  rw [e, Int.neg_mul_neg]
  congr 1
  unfold onB within
  rw [Bool.eq_iff_iff]
  simp only [Bool.and_eq_true, decide_eq_true_eq]
  omega
theorem mirS_swap (e n w s : Bool) : mirS w n e s = swp (mirS e n w s) := by
  cases e <;> cases n <;> cases w <;> cases s <;> rfl
theorem mirF_mir {wide high q : Int} {p : Int × Int} (hm : 2 * p.1 + 1 = wide) (x y : Int) : mirF wide high p q (wide - 1 - x) y = swp (mirF wide high p q x y) := by
  unfold mirF
  rw [show wide - 1 - x + 1 = wide - 1 - (x - 1) by omega, show wide - 1 - x - 1 = wide - 1 - (x + 1) by omega, dIn_mir hm, dIn_mir hm, dIn_mir hm, dIn_mir hm]
  exact mirS_swap _ _ _ _
theorem mirS_in (e n w s : Bool) : 1 ≤ mirS e n w s ∧ mirS e n w s ≤ 3 := by
  cases e <;> cases n <;> cases w <;> cases s <;> decide
theorem swp_swp (x : Int) : swp (swp x) = x := by
  unfold swp
  split
  · rename_i h; simp [h]
  · split
    · rename_i h; simp [h]
    · rename_i h h'; simp [h, h']
theorem fS_mir {wide high : Int} {f : Int → Int → Bool} {kf : Int → Int → Int} {n j : Nat} (v1 : 1 ≤ wide) (hn : (n : Int) = wide * high) (hj : j < n) (hf : ∀ x y, f (wide - 1 - x) y = f x y) (hk : ∀ x y, kf (wide - 1 - x) y = swp (kf x y)) : swp (fS wide f kf (mirI wide j)) = fS wide f kf j := by
  obtain ⟨_, _, h3, h4, _⟩ := mirI_at v1 hn hj
  unfold fS
  rw [h3, h4, hf, hk]
  split
  · exact swp_swp _
  · rfl
theorem bI_mir {wide high : Int} {f : Int → Int → Bool} {n j : Nat} (v1 : 1 ≤ wide) (hn : (n : Int) = wide * high) (hj : j < n) (hf : ∀ x y, f (wide - 1 - x) y = f x y) : bI wide f (mirI wide j) = bI wide f j := by
  obtain ⟨_, _, h3, h4, _⟩ := mirI_at v1 hn hj
  unfold bI
  rw [h3, h4, hf]
theorem valid_put {wide high : Int} {n : Nat} {g : Nat → C4} {f : Int → Int → Bool} {kf : Int → Int → Int} (hG : validG wide high n g = true) (hk : ∀ x y, 1 ≤ kf x y ∧ kf x y ≤ 3) : validW wide high n g n n (fS wide f kf) (bI wide f) = true := by
  refine (validW_iff ..).2 ⟨hG, rfl, rfl, fun k _ => ?_⟩
  unfold fS bI
  have := hk ((k : Int) % wide) ((k : Int) / wide)
  split <;> omega
end Go.Proofs.Ytnnaegnkkpknpaa
