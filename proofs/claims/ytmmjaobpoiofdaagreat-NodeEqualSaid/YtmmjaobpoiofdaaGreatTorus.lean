/- Plain words: the neighbours of a place on the torus. No program in sight. -/
import Derived.Test.YtmmjaobpoiofdaaGreatBase
namespace Go.Proofs.YtmmjaobpoiofdaaGreat
set_option linter.unusedVariables false
/-- the four neighbours of the place i on a torus of W columns and H rows: to the west, to the south, to the east, to the north -/
def nbT (W H i : Nat) : Nat → Nat
  | 0 => (i % W + W - 1) % W + i / W % H * W
  | 1 => i % W % W + (i / W + H - 1) % H * W
  | 2 => (i % W + 1) % W + i / W % H * W
  | _ => i % W % W + (i / W + 1) % H * W
theorem nb_lt {W H a b : Nat} (ha : a < W) (hb : b < H) : a + b * W < W * H := by
  have h : (b + 1) * W ≤ H * W := Nat.mul_le_mul_right W hb
  rw [Nat.succ_mul] at h
  rw [Nat.mul_comm W H]; omega
theorem nb_mod {W a b : Nat} (ha : a < W) : (a + b * W) % W = a := by rw [Nat.add_mul_mod_self_right, Nat.mod_eq_of_lt ha]
theorem nb_div {W a b : Nat} (ha : a < W) : (a + b * W) / W = b := by rw [Nat.add_mul_div_right _ _ (by omega), Nat.div_eq_of_lt ha]; omega
theorem up_down {x W : Nat} (h : x < W) : ((x + 1) % W + W - 1) % W = x := by
  by_cases e : x + 1 = W
  · rw [e, Nat.mod_self, Nat.mod_eq_of_lt (by omega)]; omega
  · rw [Nat.mod_eq_of_lt (show x + 1 < W by omega), show x + 1 + W - 1 = x + W by omega, Nat.add_mod_right, Nat.mod_eq_of_lt h]
theorem down_up {x W : Nat} (h : x < W) : ((x + W - 1) % W + 1) % W = x := by
  by_cases e : x = 0
  · subst e
    rw [Nat.mod_eq_of_lt (show 0 + W - 1 < W by omega), show 0 + W - 1 + 1 = W by omega, Nat.mod_self]
  · rw [show x + W - 1 = (x - 1) + W by omega, Nat.add_mod_right, Nat.mod_eq_of_lt (show x - 1 < W by omega), show x - 1 + 1 = x by omega, Nat.mod_eq_of_lt h]
theorem row_lt {W H i : Nat} (h : i < W * H) : i % W < W ∧ i / W < H := by
  have hW : 0 < W := Nat.pos_of_ne_zero fun e => by subst e; simp at h
  exact ⟨Nat.mod_lt _ hW, Nat.div_lt_of_lt_mul h⟩
theorem back_of {W i : Nat} : i % W + i / W * W = i := by rw [Nat.mul_comm]; exact Nat.mod_add_div i W
theorem nbT_lt {W H i d : Nat} (h : i < W * H) (hd : d < 4) : nbT W H i d < W * H := by
  obtain ⟨hx, hy⟩ := row_lt h
  have hW : 0 < W := by omega
  have hH : 0 < H := Nat.lt_of_le_of_lt (Nat.zero_le _) hy
  rcases (by omega : d = 0 ∨ d = 1 ∨ d = 2 ∨ d = 3) with rfl | rfl | rfl | rfl
  · exact nb_lt (Nat.mod_lt _ hW) (Nat.mod_lt _ hH)
  · exact nb_lt (Nat.mod_lt _ hW) (Nat.mod_lt _ hH)
  · exact nb_lt (Nat.mod_lt _ hW) (Nat.mod_lt _ hH)
  · exact nb_lt (Nat.mod_lt _ hW) (Nat.mod_lt _ hH)
/-- the neighbour in ints -/
theorem nbT_int {W H i d : Nat} (hd : d < 4) (hW : 0 < W) (hH : 0 < H) : (nbT W H i d : Int) = match d with
    | 0 => ((i : Int) % W + W - 1) % W + (i : Int) / W % H * W
    | 1 => (i : Int) % W % W + ((i : Int) / W + H - 1) % H * W
    | 2 => ((i : Int) % W + 1) % W + (i : Int) / W % H * W
    | _ => (i : Int) % W % W + ((i : Int) / W + 1) % H * W := by
  have f0 := Int.ediv_nonneg (Int.natCast_nonneg i) (Int.natCast_nonneg W)
  have f1 := Int.emod_nonneg (i : Int) (show (W : Int) ≠ 0 by omega)
  have e1 : ((i % W + W - 1 : Nat) : Int) = (i : Int) % W + W - 1 := by rw [Int.natCast_sub (by omega)]; simp
  have e2 : ((i / W + H - 1 : Nat) : Int) = (i : Int) / W + H - 1 := by rw [Int.natCast_sub (by omega)]; simp
  rcases (by omega : d = 0 ∨ d = 1 ∨ d = 2 ∨ d = 3) with rfl | rfl | rfl | rfl
  · simp only [nbT, Int.natCast_add, Int.natCast_mul, Int.natCast_emod, Int.natCast_ediv] at *; rw [e1]
  · simp only [nbT, Int.natCast_add, Int.natCast_mul, Int.natCast_emod] at *; rw [e2]
  · simp [nbT]
  · simp [nbT]
end Go.Proofs.YtmmjaobpoiofdaaGreat
