/- Plain words of mirrored grids: a step and a mirror in either order. No program in sight. -/
import Derived.Test.YtnnaegnkkpknpaaWStepPlain
import Derived.Test.YtnnaegnkkpknpaaMirW
namespace Go.Proofs.Ytnnaegnkkpknpaa
open Go Go.RowKit
set_option linter.unusedVariables false
/-- a cell in the mirror: east and west change places -/
def mirC (c : C4) : C4 := ⟨c.w, c.n, c.e, c.s⟩
theorem mirC_mirC (c : C4) : mirC (mirC c) = c := rfl
theorem mirC_mass (c : C4) : (mirC c).mass = c.mass := by simp only [mirC, C4.mass]; omega
theorem mirC_valid {c : C4} (h : validC c = true) : validC (mirC c) = true := by rw [validC_iff] at *; simp only [mirC]; omega
theorem mn_comm (a b : Int) : mn a b = mn b a := by unfold mn; split <;> split <;> omega
theorem coll_mir (k b : Int) (c : C4) : coll k b (mirC c) = mirC (coll k b c) := by
  simp only [coll, mirC, mn_comm c.w c.e]
theorem sentC_mir {k : Int} (c : C4) (h0 : 0 ≤ k) (h3 : k ≤ 3) : sentC (mirC c) (swp k) = mirC (sentC c k) := by
  rcases (by omega : k = 0 ∨ k = 1 ∨ k = 2 ∨ k = 3) with rfl | rfl | rfl | rfl <;> simp [swp, sentC, mirC]
/-- the place of the mirror image, in naturals -/
def mirN (W i : Nat) : Nat := (W - 1 - i % W) + i / W * W
theorem mirN_eq {W H i : Nat} (h : i < W * H) : mirI (W : Int) i = mirN W i := by
  obtain ⟨hx, _⟩ := row_lt h
  have e := back_of (W := W) (i := i)
  have e1 : (i : Int) % (W : Int) = ((i % W : Nat) : Int) := by simp
  unfold mirI mirN
  rw [e1]
  generalize i / W * W = q at *
  generalize i % W = x at *
  omega
theorem mirN_lt {W H i : Nat} (h : i < W * H) : mirN W i < W * H := by
  obtain ⟨hx, hy⟩ := row_lt h
  exact nb_lt (by omega) hy
theorem mirN_mod {W H i : Nat} (h : i < W * H) : mirN W i % W = W - 1 - i % W := by
  obtain ⟨hx, hy⟩ := row_lt h
  exact nb_mod (by omega)
theorem mirN_div {W H i : Nat} (h : i < W * H) : mirN W i / W = i / W := by
  obtain ⟨hx, hy⟩ := row_lt h
  exact nb_div (by omega)
theorem mirN_mirN {W H i : Nat} (h : i < W * H) : mirN W (mirN W i) = i := by
  obtain ⟨hx, hy⟩ := row_lt h
  have e := back_of (W := W) (i := i)
  show (W - 1 - mirN W i % W) + mirN W i / W * W = i
  rw [mirN_mod h, mirN_div h, show W - 1 - (W - 1 - i % W) = i % W from by omega, e]
theorem down_mir {x W : Nat} (h : x < W) : (W - 1 - x + W - 1) % W = W - 1 - (x + 1) % W := by
  by_cases e : x + 1 = W
  · rw [e, Nat.mod_self, show W - 1 - x + W - 1 = W - 1 from by omega, Nat.mod_eq_of_lt (by omega)]; omega
  · rw [Nat.mod_eq_of_lt (show x + 1 < W by omega), show W - 1 - x + W - 1 = (W - 1 - (x + 1)) + W from by omega, Nat.add_mod_right, Nat.mod_eq_of_lt (by omega)]
theorem up_mir {x W : Nat} (h : x < W) : (W - 1 - x + 1) % W = W - 1 - (x + W - 1) % W := by
  by_cases e : x = 0
  · subst e
    rw [show W - 1 - 0 + 1 = W from by omega, Nat.mod_self, Nat.mod_eq_of_lt (show 0 + W - 1 < W by omega)]; omega
  · rw [show x + W - 1 = (x - 1) + W from by omega, Nat.add_mod_right, Nat.mod_eq_of_lt (show x - 1 < W by omega), Nat.mod_eq_of_lt (by omega)]; omega
/-- the direction in the mirror -/
def mirD : Nat → Nat | 0 => 2 | 2 => 0 | d => d
theorem nbT_mir {W H i d : Nat} (h : i < W * H) (hd : d < 4) : nbT W H (mirN W i) d = mirN W (nbT W H i (mirD d)) := by
  obtain ⟨hx, hy⟩ := row_lt h
  have hW : 0 < W := by omega
  have hm := mirN_mod h; have hq := mirN_div h
  rcases (by omega : d = 0 ∨ d = 1 ∨ d = 2 ∨ d = 3) with rfl | rfl | rfl | rfl
  · show (mirN W i % W + W - 1) % W + mirN W i / W % H * W = mirN W ((i % W + 1) % W + i / W % H * W)
    unfold mirN at hm hq ⊢
    rw [hm, hq, nb_mod (Nat.mod_lt _ hW), nb_div (Nat.mod_lt _ hW), down_mir hx]
  · show mirN W i % W % W + (mirN W i / W + H - 1) % H * W = mirN W (i % W % W + (i / W + H - 1) % H * W)
    unfold mirN at hm hq ⊢
    rw [hm, hq, nb_mod (Nat.mod_lt _ hW), nb_div (Nat.mod_lt _ hW), Nat.mod_mod, Nat.mod_eq_of_lt (show W - 1 - i % W < W by omega)]
  · show (mirN W i % W + 1) % W + mirN W i / W % H * W = mirN W ((i % W + W - 1) % W + i / W % H * W)
    unfold mirN at hm hq ⊢
    rw [hm, hq, nb_mod (Nat.mod_lt _ hW), nb_div (Nat.mod_lt _ hW), up_mir hx]
  · show mirN W i % W % W + (mirN W i / W + 1) % H * W = mirN W (i % W % W + (i / W + 1) % H * W)
    unfold mirN at hm hq ⊢
    rw [hm, hq, nb_mod (Nat.mod_lt _ hW), nb_div (Nat.mod_lt _ hW), Nat.mod_mod, Nat.mod_eq_of_lt (show W - 1 - i % W < W by omega)]
/-- a grid in the mirror -/
def mirG (W : Nat) (g : Nat → C4) : Nat → C4 := fun i => mirC (g (mirN W i))
theorem flow_mir {W H : Nat} (g : Nat → C4) {i : Nat} (h : i < W * H) : flow W H (mirG W g) i = mirG W (flow W H g) i := by
  have h0 := nbT_mir h (d := 0) (by omega); have h1 := nbT_mir h (d := 1) (by omega); have h2 := nbT_mir h (d := 2) (by omega); have h3 := nbT_mir h (d := 3) (by omega)
  simp only [mirD] at h0 h1 h2 h3
  simp only [flow, mirG, mirC, h0, h1, h2, h3]
theorem metF_mir {W : Nat} {k b : Int} {K : Nat → Int} (g : Nat → C4) {i : Nat} (h0 : 0 ≤ K (mirN W i)) (h3 : K (mirN W i) ≤ 3) :
    metF k b (fun j => swp (K (mirN W j))) (mirG W g) i = mirG W (metF k b K g) i := by
  show (if swp (K (mirN W i)) = 0 then coll k b (mirC (g (mirN W i))) else sentC (mirC (g (mirN W i))) (swp (K (mirN W i)))) = mirC (if K (mirN W i) = 0 then coll k b (g (mirN W i)) else sentC (g (mirN W i)) (K (mirN W i)))
  have e : swp (K (mirN W i)) = 0 ↔ K (mirN W i) = 0 := by unfold swp; split <;> (try split) <;> omega
  by_cases hz : K (mirN W i) = 0
  · rw [if_pos hz, if_pos (e.2 hz), coll_mir]
  · rw [if_neg hz, if_neg (fun h => hz (e.1 h)), sentC_mir _ h0 h3]
theorem stepW_mir {W H : Nat} {r : Int × Int} {K : Nat → Int} (g : Nat → C4) (hK : ∀ j, j < W * H → 0 ≤ K j ∧ K j ≤ 3) {i : Nat} (h : i < W * H) :
    stepW W H r (fun j => swp (K (mirN W j))) (mirG W g) i = mirG W (stepW W H r K g) i := by
  unfold stepW
  rw [flow_congr (fun j hj => metF_mir g (hK _ (mirN_lt hj)).1 (hK _ (mirN_lt hj)).2) h, flow_mir _ h]
theorem mirG_mass (W H : Nat) (g : Nat → C4) : massTo (mirG W g) (W * H) = massTo g (W * H) := by
  have e : ∀ (f : Nat → Int), sumTo (fun i => f (mirN W i)) (W * H) = sumTo f (W * H) := fun f =>
    sumTo_perm (σ := mirN W) (τ := mirN W) (fun i hi => mirN_lt hi) (fun i hi => mirN_lt hi) (fun i hi => mirN_mirN hi) (fun i hi => mirN_mirN hi) f
  rw [massTo_sum, massTo_sum]
  simp only [mirG, mirC]
  rw [e (fun i => (g i).e), e (fun i => (g i).n), e (fun i => (g i).w), e (fun i => (g i).s)]
  omega
theorem mirG_ok {W H : Nat} {g : Nat → C4} (h : okG (W * H) g) : okG (W * H) (mirG W g) :=
  ⟨fun i hi => mirC_valid (h.1 _ (mirN_lt hi)), by rw [mirG_mass]; exact h.2⟩
theorem swp_ok {k b : Int} (h : 0 ≤ k ∧ k ≤ 3 ∧ (k = 0 ↔ b = 0) ∧ 0 ≤ b ∧ b ≤ 9) : 0 ≤ swp k ∧ swp k ≤ 3 ∧ (swp k = 0 ↔ b = 0) ∧ 0 ≤ b ∧ b ≤ 9 := by
  unfold swp; split <;> (try split) <;> omega
end Go.Proofs.Ytnnaegnkkpknpaa
