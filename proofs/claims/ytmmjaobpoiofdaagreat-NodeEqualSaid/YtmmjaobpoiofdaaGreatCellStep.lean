/- Walks: rules and collisions of one cell, of the program and of the reference. -/
import Derived.Test.YtmmjaobpoiofdaaGreatStepPlain
import Derived.Test.YtmmjaobpoiofdaaGreatCell
import Derived.Laws.EntriesVeiled
import Derived.Deep.DeepCutAuto
namespace Go.Proofs.YtmmjaobpoiofdaaGreat
open Go Go.RowKit
set_option linter.unusedVariables false
/-- a valid rule -/
def ruleB (k b : Int) : Bool := if k = 0 ∨ k = 1 then decide (b = 0) else if k = 2 then within b (-1000000000) 1000000000 else false
theorem ruleB_iff (k b : Int) : ruleB k b = true ↔ ruleOk k b := by
  unfold ruleB ruleOk
  split
  · rw [decide_eq_true_iff]; omega
  · split
    · rw [within_iff]; omega
    · simp; omega
theorem cell_validRule (k b : Int) (w : World) : Calls Tryz.prog 69 #[.agg #[.int .i64 k, .int .i64 b]] w fun e w' => e = .returned (.bool (ruleB k b)) ∧ Below w.heap.size w w' := by
  by_cases h0 : k = 0
  · subst h0
    have e : ruleB 0 b = (b == 0) := by unfold ruleB; rw [if_pos (by omega)]; rfl
    rw [e]
    go_enter Tryz.func69, Tryz.ntmps69
    go_wp2
    go_ret
    exact ⟨rfl, by (repeat' (first | with_reducible assumption | with_reducible exact Below.refl _ _ | with_reducible refine Below.drew ?_ | with_reducible refine below_drewN ?_ _ | with_reducible refine balloc ?_ _ | with_reducible refine bset ?_ ?_ _ | with_reducible refine Below.setCell ?_ ?_ _ | with_reducible refine Below.alloc ?_ ?_ _ | omega | (simp; done) | (simp; omega)))⟩
  · by_cases h1 : k = 1
    · subst h1
      have e : ruleB 1 b = (b == 0) := by unfold ruleB; rw [if_pos (by omega)]; rfl
      rw [e]
      clear h0
      go_enter Tryz.func69, Tryz.ntmps69
      go_wp2
      go_ret
      exact ⟨rfl, by (repeat' (first | with_reducible assumption | with_reducible exact Below.refl _ _ | with_reducible refine Below.drew ?_ | with_reducible refine below_drewN ?_ _ | with_reducible refine balloc ?_ _ | with_reducible refine bset ?_ ?_ _ | with_reducible refine Below.setCell ?_ ?_ _ | with_reducible refine Below.alloc ?_ ?_ _ | omega | (simp; done) | (simp; omega)))⟩
    · have g0 : (k == 0) = false := by simpa using h0
      have g1 : (k == 1) = false := by simpa using h1
      by_cases h2 : k = 2
      · subst h2
        have e : ruleB 2 b = within b (-1000000000) 1000000000 := by simp [ruleB]
        rw [e]
        clear h0 h1 g0 g1
        go_enter Tryz.func69, Tryz.ntmps69
        go_wp2_with (go_at_call 70; refine (cell_within _ _ _ _).mono ?_; rintro e w' ⟨rfl, rfl⟩)
        go_ret
        exact ⟨rfl, by (repeat' (first | with_reducible assumption | with_reducible exact Below.refl _ _ | with_reducible refine Below.drew ?_ | with_reducible refine below_drewN ?_ _ | with_reducible refine balloc ?_ _ | with_reducible refine bset ?_ ?_ _ | with_reducible refine Below.setCell ?_ ?_ _ | with_reducible refine Below.alloc ?_ ?_ _ | omega | (simp; done) | (simp; omega)))⟩
      · have g2 : (k == 2) = false := by simpa using h2
        have e : ruleB k b = false := by simp [ruleB, h0, h1, h2]
        rw [e]
        clear h0 h1 h2
        go_enter Tryz.func69, Tryz.ntmps69
        go_wp2
        go_ret
        exact ⟨rfl, by (repeat' (first | with_reducible assumption | with_reducible exact Below.refl _ _ | with_reducible refine Below.drew ?_ | with_reducible refine below_drewN ?_ _ | with_reducible refine balloc ?_ _ | with_reducible refine bset ?_ ?_ _ | with_reducible refine Below.setCell ?_ ?_ _ | with_reducible refine Below.alloc ?_ ?_ _ | omega | (simp; done) | (simp; omega)))⟩
theorem ref1_validRule (k b : Int) (w : World) : Calls Tryz.prog 79 #[.agg #[.int .i64 k, .int .i64 b]] w fun e w' => e = .returned (.bool (ruleB k b)) ∧ Below w.heap.size w w' := by
  by_cases h0 : k = 0
  · subst h0
    have e : ruleB 0 b = (b == 0) := by unfold ruleB; rw [if_pos (by omega)]; rfl
    rw [e]
    go_enter Tryz.func79, Tryz.ntmps79
    go_wp2
    go_ret
    exact ⟨rfl, by (repeat' (first | with_reducible assumption | with_reducible exact Below.refl _ _ | with_reducible refine Below.drew ?_ | with_reducible refine below_drewN ?_ _ | with_reducible refine balloc ?_ _ | with_reducible refine bset ?_ ?_ _ | with_reducible refine Below.setCell ?_ ?_ _ | with_reducible refine Below.alloc ?_ ?_ _ | omega | (simp; done) | (simp; omega)))⟩
  · by_cases h1 : k = 1
    · subst h1
      have e : ruleB 1 b = (b == 0) := by unfold ruleB; rw [if_pos (by omega)]; rfl
      rw [e]
      clear h0
      go_enter Tryz.func79, Tryz.ntmps79
      go_wp2
      go_ret
      exact ⟨rfl, by (repeat' (first | with_reducible assumption | with_reducible exact Below.refl _ _ | with_reducible refine Below.drew ?_ | with_reducible refine below_drewN ?_ _ | with_reducible refine balloc ?_ _ | with_reducible refine bset ?_ ?_ _ | with_reducible refine Below.setCell ?_ ?_ _ | with_reducible refine Below.alloc ?_ ?_ _ | omega | (simp; done) | (simp; omega)))⟩
    · have g0 : (k == 0) = false := by simpa using h0
      have g1 : (k == 1) = false := by simpa using h1
      by_cases h2 : k = 2
      · subst h2
        have e : ruleB 2 b = within b (-1000000000) 1000000000 := by simp [ruleB]
        rw [e]
        clear h0 h1 g0 g1
        go_enter Tryz.func79, Tryz.ntmps79
        go_wp2_with (go_at_call 80; refine (ref1_within _ _ _ _).mono ?_; rintro e w' ⟨rfl, rfl⟩)
        go_ret
        exact ⟨rfl, by (repeat' (first | with_reducible assumption | with_reducible exact Below.refl _ _ | with_reducible refine Below.drew ?_ | with_reducible refine below_drewN ?_ _ | with_reducible refine balloc ?_ _ | with_reducible refine bset ?_ ?_ _ | with_reducible refine Below.setCell ?_ ?_ _ | with_reducible refine Below.alloc ?_ ?_ _ | omega | (simp; done) | (simp; omega)))⟩
      · have g2 : (k == 2) = false := by simpa using h2
        have e : ruleB k b = false := by simp [ruleB, h0, h1, h2]
        rw [e]
        clear h0 h1 h2
        go_enter Tryz.func79, Tryz.ntmps79
        go_wp2
        go_ret
        exact ⟨rfl, by (repeat' (first | with_reducible assumption | with_reducible exact Below.refl _ _ | with_reducible refine Below.drew ?_ | with_reducible refine below_drewN ?_ _ | with_reducible refine balloc ?_ _ | with_reducible refine bset ?_ ?_ _ | with_reducible refine Below.setCell ?_ ?_ _ | with_reducible refine Below.alloc ?_ ?_ _ | omega | (simp; done) | (simp; omega)))⟩
/-- a slice of rules -/
def Sr (w : World) (a : Option Addr) (n : Nat) (r : Nat → Int × Int) : Prop :=
  ∀ k, k < n → ∃ b off, a = some ⟨b, off, none⟩ ∧ b < w.heap.size ∧ w.cell? ⟨b, off + k * 2, none⟩ = some (.int .i64 (r k).1) ∧ w.cell? ⟨b, off + k * 2 + 1, none⟩ = some (.int .i64 (r k).2)
theorem Sr.below {w w' : World} {a : Option Addr} {n : Nat} {r : Nat → Int × Int} (h : Sr w a n r) (hb : Below w.heap.size w w') : Sr w' a n r := fun k hkn => by
  obtain ⟨b, off, h1, h2, h3, h4⟩ := h k hkn
  exact ⟨b, off, h1, by have := hb.size; omega, (bcell hb _ _ h2).trans h3, (bcell hb _ _ h2).trans h4⟩
theorem Sr.alloc {w : World} {a : Option Addr} {n : Nat} {r : Nat → Int × Int} (h : Sr w a n r) (o : Obj) : Sr (w.alloc o) a n r := h.below (below_alloc _ _)
theorem Sr.drewN {w : World} {a : Option Addr} {n : Nat} {r : Nat → Int × Int} (h : Sr w a n r) (k : Nat) : Sr (w.drewN k) a n r := h
/-- valid rules -/
def rulesB (n : Nat) (r : Nat → Int × Int) : Bool := decide (1 ≤ n ∧ n ≤ 8 ∧ ∀ i, i < n → ruleB (r i).1 (r i).2 = true)
theorem rulesB_iff (n : Nat) (r : Nat → Int × Int) : rulesB n r = true ↔ (1 ≤ n ∧ n ≤ 8 ∧ ∀ i, i < n → ruleB (r i).1 (r i).2 = true) := by simp [rulesB]
theorem rulesB_no {n i : Nat} {r : Nat → Int × Int} (hi : i < n) (h : ruleB (r i).1 (r i).2 = false) : rulesB n r = false := by
  cases hr : rulesB n r
  · rfl
  · have := ((rulesB_iff n r).1 hr).2.2 i hi; rw [h] at this; cases this
theorem rulesB_end {n : Nat} {r : Nat → Int × Int} (h : ∀ i, i < n → ruleB (r i).1 (r i).2 = true) : rulesB n r = within n 1 8 := by
  rw [Bool.eq_iff_iff, rulesB_iff, within_iff]
  constructor
  · rintro ⟨a, b, _⟩; omega
  · rintro ⟨a, b⟩; exact ⟨by omega, by omega, h⟩
set_option maxHeartbeats 400000 in
theorem cell_validRules (a : Option Addr) (n c : Nat) (r : Nat → Int × Int) (w : World) (hn : n ≤ 100000000) (H : Sr w a n r) : Calls Tryz.prog 27 #[.slice a n c] w fun e w' => e = .returned (.bool (rulesB n r)) ∧ Below w.heap.size w w' := by
  go_enter Tryz.func27, Tryz.ntmps27
  go_wp2
  go_loopw [7] (fun i wr => ∃ k : Nat, k ≤ n ∧ i = .int .i64 k ∧ (∀ j, j < k → ruleB (r j).1 (r j).2 = true) ∧ Below w.heap.size w wr) (fun i _ => n - (intOf i).toNat)
  case atStart => exact ⟨0, Nat.zero_le _, rfl, fun j hj => by omega, Below.refl _ _⟩
  case round =>
    obtain ⟨k, hk, rfl, hok, hb⟩ := hrel
    have HOK := hid hok; clear hok
    by_cases hlt : k < n
    · obtain ⟨b, off, rfl, hlb, c0, c1⟩ := (H.below hb) k hlt
      cases hr : ruleB (r k).1 (r k).2
      · go_wp2_with (go_at_call 69; refine (cell_validRule _ _ _).mono ?_; rintro e w1 ⟨rfl, hb1⟩)
        go_ret
        exact ⟨by rw [rulesB_no hlt hr]; rfl, bvia (balloc hb _) hb1⟩
      · go_wp2_with (go_at_call 69; refine (cell_validRule _ _ _).mono ?_; rintro e w1 ⟨rfl, hb1⟩)
        go_roundw
        case rel => exact ⟨k + 1, by omega, by go_num, fun j hj => by
          rcases Nat.lt_succ_iff_lt_or_eq.1 hj with h' | rfl
          · exact HOK.out j h'
          · exact hr, bvia (balloc hb _) hb1⟩
        case measure => simp [intOf]; omega
    · obtain rfl : k = n := (by omega)
      go_wp2_with (go_at_call 70; refine (cell_within _ _ _ _).mono ?_; rintro e w' ⟨rfl, rfl⟩)
      go_ret
      exact ⟨ret_bool (rulesB_end HOK.out).symm, hb⟩
set_option maxHeartbeats 400000 in
theorem ref1_validRules (a : Option Addr) (n c : Nat) (r : Nat → Int × Int) (w : World) (hn : n ≤ 100000000) (H : Sr w a n r) : Calls Tryz.prog 32 #[.slice a n c] w fun e w' => e = .returned (.bool (rulesB n r)) ∧ Below w.heap.size w w' := by
  go_enter Tryz.func32, Tryz.ntmps32
  go_wp2
  go_loopw [3] (fun i wr => ∃ k : Nat, k ≤ n ∧ i = .int .i64 k ∧ (∀ j, j < k → ruleB (r j).1 (r j).2 = true) ∧ Below w.heap.size w wr) (fun i _ => n - (intOf i).toNat)
  case atStart => exact ⟨0, Nat.zero_le _, rfl, fun j hj => by omega, Below.refl _ _⟩
  case round =>
    obtain ⟨k, hk, rfl, hok, hb⟩ := hrel
    have HOK := hid hok; clear hok
    by_cases hlt : k < n
    · obtain ⟨b, off, rfl, hlb, c0, c1⟩ := (H.below hb) k hlt
      cases hr : ruleB (r k).1 (r k).2
      · go_wp2_with (go_at_call 79; refine (ref1_validRule _ _ _).mono ?_; rintro e w1 ⟨rfl, hb1⟩)
        go_ret
        exact ⟨by rw [rulesB_no hlt hr]; rfl, bvia hb hb1⟩
      · go_wp2_with (go_at_call 79; refine (ref1_validRule _ _ _).mono ?_; rintro e w1 ⟨rfl, hb1⟩)
        go_roundw
        case rel => exact ⟨k + 1, by omega, by go_num, fun j hj => by
          rcases Nat.lt_succ_iff_lt_or_eq.1 hj with h' | rfl
          · exact HOK.out j h'
          · exact hr, bvia hb hb1⟩
        case measure => simp [intOf]; omega
    · obtain rfl : k = n := (by omega)
      go_wp2_with (go_at_call 80; refine (ref1_within _ _ _ _).mono ?_; rintro e w' ⟨rfl, rfl⟩)
      go_ret
      exact ⟨ret_bool (rulesB_end HOK.out).symm, hb⟩
end Go.Proofs.YtmmjaobpoiofdaaGreat
