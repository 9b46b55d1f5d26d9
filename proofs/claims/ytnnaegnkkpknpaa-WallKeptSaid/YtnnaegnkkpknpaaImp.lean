/- Walks: impulses: the reference's momentum of cells; plain words. -/
import Derived.Test.YtnnaegnkkpknpaaBodies
import Derived.Test.YtnnaegnkkpknpaaSent3
namespace Go.Proofs.Ytnnaegnkkpknpaa
open Go.RowKit
set_option linter.unusedVariables false
def momE (g : Nat → C4) : Nat → Int | 0 => 0 | k + 1 => momE g k + ((g k).e - (g k).w)
def momN (g : Nat → C4) : Nat → Int | 0 => 0 | k + 1 => momN g k + ((g k).n - (g k).s)
theorem momE_bd (g : Nat → C4) : ∀ n, (∀ k, k < n → validC (g k) = true) → -(n * 1000000000) ≤ momE g n ∧ momE g n ≤ n * 1000000000
  | 0, _ => by simp [momE]
  | k + 1, h => by
    have := momE_bd g k (fun j hj => h j (by omega)); have h2 := (validC_iff _).1 (h k (by omega)); simp only [momE]; omega
theorem momN_bd (g : Nat → C4) : ∀ n, (∀ k, k < n → validC (g k) = true) → -(n * 1000000000) ≤ momN g n ∧ momN g n ≤ n * 1000000000
  | 0, _ => by simp [momN]
  | k + 1, h => by
    have := momN_bd g k (fun j hj => h j (by omega)); have h2 := (validC_iff _).1 (h k (by omega)); simp only [momN]; omega
set_option maxRecDepth 100000 in
set_option maxHeartbeats 2000000 in
theorem ref2_impulse (a : Option Addr) (n cap : Nat) (g : Nat → C4) (w : World) (hn : n ≤ 1000000) (H : Sc w a n g) (hv : ∀ k, k < n → validC (g k) = true) : Calls Try.prog 134 #[.slice a n cap] w
    fun e w' => e = .returned (.tuple #[.int .i64 (momE g n), .int .i64 (momN g n)]) ∧ Below w.heap.size w w' := by
  go_enter Try.func134, Try.ntmps134
  go_wp2
  go_loopw [4, 5, 6] (fun x y i wr => ∃ k : Nat, k ≤ n ∧ i = .int .i64 k ∧ x = .int .i64 (momE g k) ∧ y = .int .i64 (momN g k) ∧ Below w.heap.size w wr) (fun _ _ i _ => n - (intOf i).toNat)
  case atStart => exact ⟨0, Nat.zero_le _, rfl, rfl, rfl, Below.refl _ _⟩
  case round =>
    obtain ⟨k, hk, rfl, rfl, rfl, hB⟩ := hrel
    obtain ⟨e0, e1⟩ := momE_bd g k (fun j hj => hv j (by omega))
    obtain ⟨n0, n1⟩ := momN_bd g k (fun j hj => hv j (by omega))
    by_cases hlt : k < n
    · obtain ⟨b, off, rfl, hb, c0, c1, c2, c3⟩ := (H.below hB) k hlt
      obtain ⟨b0, b1, b2, b3, b4⟩ := (validC_iff _).1 (hv k hlt)
      have HV := hid hv; clear hv
      go_wp2
      go_quiet (fail)
      go_wp2
      go_quiet (fail)
      go_wp2
      go_roundw
      case rel => exact ⟨k + 1, by omega, by go_num, congrArg (Value.int .i64) (by simp only [momE]; omega), congrArg (Value.int .i64) (by simp only [momN]; omega), by (repeat' (first | with_reducible assumption | with_reducible exact Below.refl _ _ | with_reducible refine Below.drew ?_ | with_reducible refine below_drewN ?_ _ | with_reducible refine balloc ?_ _ | with_reducible refine bset ?_ ?_ _ | with_reducible refine Below.setCell ?_ ?_ _ | with_reducible refine Below.alloc ?_ ?_ _ | omega | (simp; done) | (simp; omega)))⟩
      case measure => simp [intOf]; omega
    · obtain rfl : k = n := (by omega)
      go_wp2
      go_ret2
      exact ⟨rfl, hB⟩
/-- the impulse of a step on a body, cell by cell -/
def impE (g : Nat → C4) (K B : Nat → Int) (body : Int) : Nat → Int
  | 0 => 0
  | k + 1 => if B k = body then impE g K B body k + ((sentC (g k) (K k)).e - (sentC (g k) (K k)).w - (g k).e + (g k).w) else impE g K B body k
def impN (g : Nat → C4) (K B : Nat → Int) (body : Int) : Nat → Int
  | 0 => 0
  | k + 1 => if B k = body then impN g K B body k + ((sentC (g k) (K k)).n - (sentC (g k) (K k)).s - (g k).n + (g k).s) else impN g K B body k
theorem sentC_ok (c : C4) (k : Int) (h : validC c = true) : validC (sentC c k) = true := by
  rw [validC_iff] at h ⊢
  unfold sentC
  split
  · simp; omega
  split
  · simp; omega
  split
  · simp; omega
  · exact h
theorem impE_bd (g : Nat → C4) (K B : Nat → Int) (body : Int) : ∀ n, (∀ k, k < n → validC (g k) = true) → -(n * 4000000000) ≤ impE g K B body n ∧ impE g K B body n ≤ n * 4000000000
  | 0, _ => by simp [impE]
  | k + 1, h => by
    have := impE_bd g K B body k (fun j hj => h j (by omega)); have h2 := (validC_iff _).1 (h k (by omega)); have h3 := (validC_iff _).1 (sentC_ok _ (K k) (h k (by omega)))
    simp only [impE]; split <;> omega
theorem impN_bd (g : Nat → C4) (K B : Nat → Int) (body : Int) : ∀ n, (∀ k, k < n → validC (g k) = true) → -(n * 4000000000) ≤ impN g K B body n ∧ impN g K B body n ≤ n * 4000000000
  | 0, _ => by simp [impN]
  | k + 1, h => by
    have := impN_bd g K B body k (fun j hj => h j (by omega)); have h2 := (validC_iff _).1 (h k (by omega)); have h3 := (validC_iff _).1 (sentC_ok _ (K k) (h k (by omega)))
    simp only [impN]; split <;> omega
/-- the k-th cell of a list of places -/
def pick (l : List Int) (h : Nat → C4) (j : Nat) : C4 := h (l.getD j 0).toNat
theorem mom_pick_snoc (l : List Int) (h : Nat → C4) (k : Nat) : momE (pick (l ++ [(k : Int)]) h) (l.length + 1) = momE (pick l h) l.length + ((h k).e - (h k).w) ∧
    momN (pick (l ++ [(k : Int)]) h) (l.length + 1) = momN (pick l h) l.length + ((h k).n - (h k).s) := by
  have e1 : ∀ m, m ≤ l.length → momE (pick (l ++ [(k : Int)]) h) m = momE (pick l h) m := by
    intro m hm
    induction m with
    | zero => rfl
    | succ m ih => simp only [momE]; rw [ih (by omega)]; simp [pick, List.getD_eq_getElem?_getD, List.getElem?_append_left (show m < l.length by omega)]
  have e2 : ∀ m, m ≤ l.length → momN (pick (l ++ [(k : Int)]) h) m = momN (pick l h) m := by
    intro m hm
    induction m with
    | zero => rfl
    | succ m ih => simp only [momN]; rw [ih (by omega)]; simp [pick, List.getD_eq_getElem?_getD, List.getElem?_append_left (show m < l.length by omega)]
  have e3 : pick (l ++ [(k : Int)]) h l.length = h k := by simp [pick, List.getD_eq_getElem?_getD]
  exact ⟨by simp only [momE]; rw [e1 _ (Nat.le_refl _), e3], by simp only [momN]; rw [e2 _ (Nat.le_refl _), e3]⟩
/-- the reference's impulse is the sum cell by cell -/
theorem imp_of_mom (g : Nat → C4) (K B : Nat → Int) (body : Int) : ∀ n, momE (pick (ownL B body n) (fun i => sentC (g i) (K i))) (ownL B body n).length - momE (pick (ownL B body n) g) (ownL B body n).length = impE g K B body n ∧
    momN (pick (ownL B body n) (fun i => sentC (g i) (K i))) (ownL B body n).length - momN (pick (ownL B body n) g) (ownL B body n).length = impN g K B body n
  | 0 => by simp [ownL, momE, momN, impE, impN]
  | k + 1 => by
    have ih := imp_of_mom g K B body k
    by_cases h : B k = body
    · have p := mom_pick_snoc (ownL B body k) (fun i => sentC (g i) (K i)) k
      have q := mom_pick_snoc (ownL B body k) g k
      simp only [ownL, if_pos h, impE, impN, List.length_append, List.length_cons, List.length_nil, Nat.zero_add]
      rw [p.1, p.2, q.1, q.2]
      omega
    · simp only [ownL, if_neg h, impE, impN]
      exact ih
end Go.Proofs.Ytnnaegnkkpknpaa
