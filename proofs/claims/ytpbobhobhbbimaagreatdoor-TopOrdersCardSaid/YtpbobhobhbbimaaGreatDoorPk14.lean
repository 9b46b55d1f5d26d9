/- Walks: rules and collisions of one cell, of the program and of the reference. -/
import Derived.Test.YtpbobhobhbbimaaGreatDoorPk7
import Derived.Test.YtpbobhobhbbimaaGreatDoorPk1
import Derived.Laws.EntriesVeiled
import Derived.Deep.DeepCutAuto
import Derived.Test.YtpbobhobhbbimaaGreatDoorPk5
import Derived.Test.YtpbobhobhbbimaaGreatDoorPk10
namespace Go.Proofs.YtpbobhobhbbimaaGreatDoor
open Go Go.RowKit
set_option linter.unusedVariables false
/-- a valid rule -/
def ruleB (k b : Int) : Bool := if k = 0 ∨ k = 1 then decide (b = 0) else if k = 2 then within b (-1000000000) 1000000000 else false
theorem ruleB_iff (k b : Int) : ruleB k b = true ↔ ruleOk k b := by
  unfold ruleB ruleOk
  split
  · rw [decide_eq_true_iff]; omega
  · split
    · rw [within_iff]; omega
    · simp; omega
theorem cell_validRule (k b : Int) (w : World) : Calls Tryz.prog 43 #[.agg #[.int .i64 k, .int .i64 b]] w fun e w' => e = .returned (.bool (ruleB k b)) ∧ Below w.heap.size w w' := by
  by_cases h0 : k = 0
  · subst h0
    have e : ruleB 0 b = (b == 0) := by unfold ruleB; rw [if_pos (by omega)]; rfl
    rw [e]
    go_enter Tryz.func43, Tryz.ntmps43
    go_wp2
    go_ret
    exact ⟨rfl, by (repeat' (first | with_reducible assumption | with_reducible exact Below.refl _ _ | with_reducible refine Below.drew ?_ | with_reducible refine below_drewN ?_ _ | with_reducible refine balloc ?_ _ | with_reducible refine bset ?_ ?_ _ | with_reducible refine Below.setCell ?_ ?_ _ | with_reducible refine Below.alloc ?_ ?_ _ | omega | (simp; done) | (simp; omega)))⟩
  · by_cases h1 : k = 1
    · subst h1
      have e : ruleB 1 b = (b == 0) := by unfold ruleB; rw [if_pos (by omega)]; rfl
      rw [e]
      clear h0
      go_enter Tryz.func43, Tryz.ntmps43
      go_wp2
      go_ret
      exact ⟨rfl, by (repeat' (first | with_reducible assumption | with_reducible exact Below.refl _ _ | with_reducible refine Below.drew ?_ | with_reducible refine below_drewN ?_ _ | with_reducible refine balloc ?_ _ | with_reducible refine bset ?_ ?_ _ | with_reducible refine Below.setCell ?_ ?_ _ | with_reducible refine Below.alloc ?_ ?_ _ | omega | (simp; done) | (simp; omega)))⟩
    · have g0 : (k == 0) = false := by simpa using h0
      have g1 : (k == 1) = false := by simpa using h1
      by_cases h2 : k = 2
      · subst h2
        have e : ruleB 2 b = within b (-1000000000) 1000000000 := by simp [ruleB]
        rw [e]
        clear h0 h1 g0 g1
        go_enter Tryz.func43, Tryz.ntmps43
        go_wp2_with (go_at_call 44; refine (cell_within _ _ _ _).mono ?_; rintro e w' ⟨rfl, rfl⟩)
        go_ret
        exact ⟨rfl, by (repeat' (first | with_reducible assumption | with_reducible exact Below.refl _ _ | with_reducible refine Below.drew ?_ | with_reducible refine below_drewN ?_ _ | with_reducible refine balloc ?_ _ | with_reducible refine bset ?_ ?_ _ | with_reducible refine Below.setCell ?_ ?_ _ | with_reducible refine Below.alloc ?_ ?_ _ | omega | (simp; done) | (simp; omega)))⟩
      · have g2 : (k == 2) = false := by simpa using h2
        have e : ruleB k b = false := by simp [ruleB, h0, h1, h2]
        rw [e]
        clear h0 h1 h2
        go_enter Tryz.func43, Tryz.ntmps43
        go_wp2
        go_ret
        exact ⟨rfl, by (repeat' (first | with_reducible assumption | with_reducible exact Below.refl _ _ | with_reducible refine Below.drew ?_ | with_reducible refine below_drewN ?_ _ | with_reducible refine balloc ?_ _ | with_reducible refine bset ?_ ?_ _ | with_reducible refine Below.setCell ?_ ?_ _ | with_reducible refine Below.alloc ?_ ?_ _ | omega | (simp; done) | (simp; omega)))⟩
/-- a slice of rules -/
def Sr (w : World) (a : Option Addr) (n : Nat) (r : Nat → Int × Int) : Prop :=
  ∀ k, k < n → ∃ b off, a = some ⟨b, off, none⟩ ∧ b < w.heap.size ∧ w.cell? ⟨b, off + k * 2, none⟩ = some (.int .i64 (r k).1) ∧ w.cell? ⟨b, off + k * 2 + 1, none⟩ = some (.int .i64 (r k).2)
theorem Sr.below {w w' : World} {a : Option Addr} {n : Nat} {r : Nat → Int × Int} (h : Sr w a n r) (hb : Below w.heap.size w w') : Sr w' a n r := fun k hkn => by
  obtain ⟨b, off, h1, h2, h3, h4⟩ := h k hkn
  exact ⟨b, off, h1, by have := hb.size; omega, (bcell hb _ _ h2).trans h3, (bcell hb _ _ h2).trans h4⟩
theorem Sr.alloc {w : World} {a : Option Addr} {n : Nat} {r : Nat → Int × Int} (h : Sr w a n r) (o : Obj) : Sr (w.alloc o) a n r := h.below (below_alloc _ _)
theorem Sr.drewN {w : World} {a : Option Addr} {n : Nat} {r : Nat → Int × Int} (h : Sr w a n r) (k : Nat) : Sr (w.drewN k) a n r := h
/-- valid rules -/
def rulesB (n : Nat) (r : Nat → Int × Int) : Bool := decide (1 ≤ n ∧ n ≤ 8 ∧ ∀ i, i < n → ruleB (r i).1 (r i).2 = true)
theorem rulesB_iff (n : Nat) (r : Nat → Int × Int) : rulesB n r = true ↔ (1 ≤ n ∧ n ≤ 8 ∧ ∀ i, i < n → ruleB (r i).1 (r i).2 = true) := by simp [rulesB]
theorem rulesB_no {n i : Nat} {r : Nat → Int × Int} (hi : i < n) (h : ruleB (r i).1 (r i).2 = false) : rulesB n r = false := by
  cases hr : rulesB n r
  · rfl
  · have := ((rulesB_iff n r).1 hr).2.2 i hi; rw [h] at this; cases this
theorem rulesB_end {n : Nat} {r : Nat → Int × Int} (h : ∀ i, i < n → ruleB (r i).1 (r i).2 = true) : rulesB n r = within n 1 8 := by
  rw [Bool.eq_iff_iff, rulesB_iff, within_iff]
  constructor
  · rintro ⟨a, b, _⟩; omega
  · rintro ⟨a, b⟩; exact ⟨by omega, by omega, h⟩
set_option maxHeartbeats 400000 in
theorem cell_validRules (a : Option Addr) (n c : Nat) (r : Nat → Int × Int) (w : World) (hn : n ≤ 100000000) (H : Sr w a n r) : Calls Tryz.prog 13 #[.slice a n c] w fun e w' => e = .returned (.bool (rulesB n r)) ∧ Below w.heap.size w w' := by
  go_enter Tryz.func13, Tryz.ntmps13
  go_wp2
  go_loopw [7] (fun i wr => ∃ k : Nat, k ≤ n ∧ i = .int .i64 k ∧ (∀ j, j < k → ruleB (r j).1 (r j).2 = true) ∧ Below w.heap.size w wr) (fun i _ => n - (intOf i).toNat)
  case atStart => exact ⟨0, Nat.zero_le _, rfl, fun j hj => by omega, Below.refl _ _⟩
  case round =>
    obtain ⟨k, hk, rfl, hok, hb⟩ := hrel
    have HOK := hid hok; clear hok
    by_cases hlt : k < n
    · obtain ⟨b, off, rfl, hlb, c0, c1⟩ := (H.below hb) k hlt
      cases hr : ruleB (r k).1 (r k).2
      · go_wp2_with (go_at_call 43; refine (cell_validRule _ _ _).mono ?_; rintro e w1 ⟨rfl, hb1⟩)
        go_ret
        exact ⟨by rw [rulesB_no hlt hr]; rfl, bvia (balloc hb _) hb1⟩
      · go_wp2_with (go_at_call 43; refine (cell_validRule _ _ _).mono ?_; rintro e w1 ⟨rfl, hb1⟩)
        go_roundw
        case rel => exact ⟨k + 1, by omega, by go_num, fun j hj => by
          rcases Nat.lt_succ_iff_lt_or_eq.1 hj with h' | rfl
          · exact HOK.out j h'
          · exact hr, bvia (balloc hb _) hb1⟩
        case measure => simp [intOf]; omega
    · obtain rfl : k = n := (by omega)
      go_wp2_with (go_at_call 44; refine (cell_within _ _ _ _).mono ?_; rintro e w' ⟨rfl, rfl⟩)
      go_ret
      exact ⟨ret_bool (rulesB_end HOK.out).symm, hb⟩
end Go.Proofs.YtpbobhobhbbimaaGreatDoor
/- Walks: collisions of one cell, of the program. -/
namespace Go.Proofs.YtpbobhobhbbimaaGreatDoor
open Go Go.RowKit
set_option linter.unusedVariables false
theorem tmod_sign {a m : Int} (h : 0 < m) : (0 ≤ a.tmod m → a % m = a.tmod m) ∧ (a.tmod m < 0 → a % m = a.tmod m + m) ∧ -m < a.tmod m ∧ a.tmod m < m := by
  rw [Int.tmod_eq_emod]
  have h1 := Int.emod_nonneg a (show m ≠ 0 by omega)
  have h2 := Int.emod_lt_of_pos a h
  split
  · omega
  · rename_i hh
    have : a % m ≠ 0 := fun e => hh (.inr (Int.dvd_of_emod_eq_zero e))
    omega
set_option maxRecDepth 100000 in
set_option maxHeartbeats 1000000 in
theorem cell_pairs (c : C4) (w : World) : Calls Tryz.prog 106 #[.agg #[.int .i64 c.e, .int .i64 c.n, .int .i64 c.w, .int .i64 c.s]] w fun e w' => e = .returned (.tuple #[.int .i64 (mn c.e c.w), .int .i64 (mn c.n c.s)]) ∧ Below w.heap.size w w' := by
  have X := Bx.new w #[.int .i64 c.e, .int .i64 c.n, .int .i64 c.w, .int .i64 c.s] 49
  have hB : Below w.heap.size w (w.alloc (.cells #[.int .i64 c.e, .int .i64 c.n, .int .i64 c.w, .int .i64 c.s] 49)) := by (repeat' (first | with_reducible assumption | with_reducible exact Below.refl _ _ | with_reducible refine Below.drew ?_ | with_reducible refine below_drewN ?_ _ | with_reducible refine balloc ?_ _ | with_reducible refine bset ?_ ?_ _ | with_reducible refine Below.setCell ?_ ?_ _ | with_reducible refine Below.alloc ?_ ?_ _ | omega | (simp; done) | (simp; omega)))
  go_enter Tryz.func106, Tryz.ntmps106
  go_upto_region 1 with (fail)
  generalize w.alloc (.cells #[.int .i64 c.e, .int .i64 c.n, .int .i64 c.w, .int .i64 c.s] 49) = W0 at X hB ⊢
  have x0 := X.at_ 0 rfl; have x1 := X.at_ 1 rfl; have x2 := X.at_ 2 rfl; have x3 := X.at_ 3 rfl
  go_quiet (fail)
  go_wp2
  all_goals
    go_ret2
    exact ⟨by (simp [mn]; try omega), by (repeat' (first | with_reducible assumption | with_reducible exact Below.refl _ _ | with_reducible refine Below.drew ?_ | with_reducible refine below_drewN ?_ _ | with_reducible refine balloc ?_ _ | with_reducible refine bset ?_ ?_ _ | with_reducible refine Below.setCell ?_ ?_ _ | with_reducible refine Below.alloc ?_ ?_ _ | omega | (simp; done) | (simp; omega)))⟩
theorem turned_1 (h p : Int) (w : World) : Calls Tryz.prog 124 #[.int .i64 h, .int .i64 p] w fun e w' => e = .returned (.int .i64 h) ∧ w = w' := by
  go_enter Tryz.func124, Tryz.ntmps124
  go_wp2
  go_ret
  exact ⟨rfl, rfl⟩
theorem turned_2 (h p : Int) (w : World) (h0 : 0 ≤ h) (h1 : h ≤ p) (h2 : p ≤ 1000000000) : Calls Tryz.prog 125 #[.int .i64 h, .int .i64 p] w fun e w' => e = .returned (.int .i64 (p - h)) ∧ w = w' := by
  go_enter Tryz.func125, Tryz.ntmps125
  go_wp2
  go_ret
  exact ⟨rfl, rfl⟩
theorem turned_3 (h p b : Int) (br : Nat) (w : World) (h0 : 0 ≤ h) (h1 : h ≤ p) (h2 : p ≤ 1000000000) (b0 : -1000000000 ≤ b) (b1 : b ≤ 1000000000) (k : Int) (X : Bx w br #[.int .i64 k, .int .i64 b]) :
    Calls Tryz.prog 126 #[.int .i64 h, .int .i64 p, .pointer (some ⟨br, 0, none⟩)] w fun e w' => e = .returned (.int .i64 ((h + b) % (p + 1))) ∧ w = w' := by
  have x1 := X.at_ 1 rfl
  obtain ⟨t1, t2, t3, t4⟩ := tmod_sign (a := h + b) (m := p + 1) (by omega)
  have hp0 : ¬ p + 1 = 0 := by omega
  by_cases hs : 0 ≤ h + b
  · have ht := Int.tmod_eq_emod_of_nonneg (b := p + 1) hs
    have h5 := Int.emod_nonneg (h + b) hp0
    have h6 := Int.emod_lt_of_pos (h + b) (show 0 < p + 1 by omega)
    clear t1 t2 t3 t4 ht
    go_enter Tryz.func126, Tryz.ntmps126
    go_wp2
    go_ret
    exact ⟨rfl, rfl⟩
  · by_cases hn : (h + b).tmod (p + 1) < 0
    · have t5 := hid (t2 hn)
      clear t1 t2
      go_enter Tryz.func126, Tryz.ntmps126
      go_wp2
      go_ret
      exact ⟨ret_int (by rw [t5.out]), rfl⟩
    · have t5 := hid (t1 (by omega))
      clear t1 t2
      go_enter Tryz.func126, Tryz.ntmps126
      go_wp2
      go_ret
      exact ⟨ret_int t5.out.symm, rfl⟩
set_option maxRecDepth 100000 in
set_option maxHeartbeats 1000000 in
theorem cell_turned (k b h p : Int) (w : World) (hr : ruleOk k b) (h0 : 0 ≤ h) (h1 : h ≤ p) (h2 : p ≤ 1000000000) : Calls Tryz.prog 108 #[.agg #[.int .i64 k, .int .i64 b], .int .i64 h, .int .i64 p] w fun e w' => e = .returned (.int .i64 (turnI k b h p)) ∧ Below w.heap.size w w' := by
  have X := Bx.new w #[.int .i64 k, .int .i64 b] 96
  have i0 : ∀ (f : Value) (w : World), (Instr.index 179 (.agg #[.func (.func 124) #[] #[], .func (.func 125) #[] #[], f]) (.int .i64 0)).run Tryz.prog w = .ok (.func (.func 124) #[] #[]) w := fun f w => by kernel_rfl
  have i1 : ∀ (f : Value) (w : World), (Instr.index 179 (.agg #[.func (.func 124) #[] #[], .func (.func 125) #[] #[], f]) (.int .i64 1)).run Tryz.prog w = .ok (.func (.func 125) #[] #[]) w := fun f w => by kernel_rfl
  have i2 : ∀ (f : Value) (w : World), (Instr.index 179 (.agg #[.func (.func 124) #[] #[], .func (.func 125) #[] #[], f]) (.int .i64 2)).run Tryz.prog w = .ok f w := fun f w => by kernel_rfl
  rcases hr with ⟨rfl | rfl, rfl⟩ | ⟨rfl, b0, b1⟩
  · go_enter Tryz.func108, Tryz.ntmps108
    go_wp2_with (go_at_call 124; refine (turned_1 _ _ _).mono ?_; rintro e w' ⟨rfl, rfl⟩)
    go_ret
    exact ⟨rfl, by (repeat' (first | with_reducible assumption | with_reducible exact Below.refl _ _ | with_reducible refine Below.drew ?_ | with_reducible refine below_drewN ?_ _ | with_reducible refine balloc ?_ _ | with_reducible refine bset ?_ ?_ _ | with_reducible refine Below.setCell ?_ ?_ _ | with_reducible refine Below.alloc ?_ ?_ _ | omega | (simp; done) | (simp; omega)))⟩
  · go_enter Tryz.func108, Tryz.ntmps108
    go_wp2_with (go_at_call 125; refine (turned_2 _ _ _ h0 h1 h2).mono ?_; rintro e w' ⟨rfl, rfl⟩)
    go_ret
    exact ⟨rfl, by (repeat' (first | with_reducible assumption | with_reducible exact Below.refl _ _ | with_reducible refine Below.drew ?_ | with_reducible refine below_drewN ?_ _ | with_reducible refine balloc ?_ _ | with_reducible refine bset ?_ ?_ _ | with_reducible refine Below.setCell ?_ ?_ _ | with_reducible refine Below.alloc ?_ ?_ _ | omega | (simp; done) | (simp; omega)))⟩
  · have hT : turnI 2 b h p = (h + b) % (p + 1) := rfl
    rw [hT]
    clear hT
    go_enter Tryz.func108, Tryz.ntmps108
    go_wp2_with (go_at_call 126; refine (turned_3 _ _ _ _ _ h0 h1 h2 b0 b1 _ X).mono ?_; rintro e w' ⟨rfl, rfl⟩)
    go_ret
    exact ⟨rfl, by (repeat' (first | with_reducible assumption | with_reducible exact Below.refl _ _ | with_reducible refine Below.drew ?_ | with_reducible refine below_drewN ?_ _ | with_reducible refine balloc ?_ _ | with_reducible refine bset ?_ ?_ _ | with_reducible refine Below.setCell ?_ ?_ _ | with_reducible refine Below.alloc ?_ ?_ _ | omega | (simp; done) | (simp; omega)))⟩
/-- the pairs of a valid cell -/
theorem pairs_bd {c : C4} (hv : validC c = true) : 0 ≤ c.e ∧ 0 ≤ c.n ∧ 0 ≤ c.w ∧ 0 ≤ c.s ∧ c.e + c.n + c.w + c.s ≤ 1000000000 ∧ 0 ≤ mn c.e c.w ∧ mn c.e c.w ≤ c.e ∧ mn c.e c.w ≤ c.w ∧ 0 ≤ mn c.n c.s ∧ mn c.n c.s ≤ c.n ∧ mn c.n c.s ≤ c.s := by
  obtain ⟨a, b, d, e, f⟩ := (validC_iff _).1 hv
  have g := mn_range a d
  have h := mn_range b e
  omega
/-- the cell of a class with the place t -/
def plcC (c : C4) (t : Int) : C4 := ⟨c.e + (t - mn c.e c.w), c.n - (t - mn c.e c.w), c.w + (t - mn c.e c.w), c.s - (t - mn c.e c.w)⟩
set_option maxRecDepth 100000 in
set_option maxHeartbeats 1000000 in
theorem cell_placed (c : C4) (t : Int) (w : World) (hv : validC c = true) (h0 : 0 ≤ t) (h1 : t ≤ 1000000000) : Calls Tryz.prog 107 #[.agg #[.int .i64 c.e, .int .i64 c.n, .int .i64 c.w, .int .i64 c.s], .int .i64 t] w fun e w' => e = .returned (.agg #[.int .i64 (plcC c t).e, .int .i64 (plcC c t).n, .int .i64 (plcC c t).w, .int .i64 (plcC c t).s]) ∧ Below w.heap.size w w' := by
  obtain ⟨a1, a2, a3, a4, a5, a6, a7, a8, a9, a10, a11⟩ := pairs_bd hv
  have X0 := (Bx.new w #[.int .i64 c.e, .int .i64 c.n, .int .i64 c.w, .int .i64 c.s] 49).alloc (.cells #[.int .i64 0, .int .i64 0, .int .i64 0, .int .i64 0] 49)
  have X1 := Bx.new (w.alloc (.cells #[.int .i64 c.e, .int .i64 c.n, .int .i64 c.w, .int .i64 c.s] 49)) #[.int .i64 0, .int .i64 0, .int .i64 0, .int .i64 0] 49
  simp only [World.size_alloc] at X1
  have hB0 : Below w.heap.size w ((w.alloc (.cells #[.int .i64 c.e, .int .i64 c.n, .int .i64 c.w, .int .i64 c.s] 49)).alloc (.cells #[.int .i64 0, .int .i64 0, .int .i64 0, .int .i64 0] 49)) := by (repeat' (first | with_reducible assumption | with_reducible exact Below.refl _ _ | with_reducible refine Below.drew ?_ | with_reducible refine below_drewN ?_ _ | with_reducible refine balloc ?_ _ | with_reducible refine bset ?_ ?_ _ | with_reducible refine Below.setCell ?_ ?_ _ | with_reducible refine Below.alloc ?_ ?_ _ | omega | (simp; done) | (simp; omega)))
  go_enter Tryz.func107, Tryz.ntmps107
  go_wp2_with fail
  generalize ((w.alloc (.cells #[.int .i64 c.e, .int .i64 c.n, .int .i64 c.w, .int .i64 c.s] 49)).alloc (.cells #[.int .i64 0, .int .i64 0, .int .i64 0, .int .i64 0] 49)) = W0 at X0 X1 hB0 ⊢
  have z0 := X0.lt
  have z1 := X1.lt
  refine (cell_pairs c _).mono ?_
  rintro e w1 ⟨rfl, hb1⟩
  have hB := hB0
  clear hB0 hv
  replace X0 := X0.below hb1
  replace X1 := X1.below hb1
  replace hB := bvia hB hb1
  clear hb1
  have X0_0 := X0.at_ 0 rfl
  have X0_1 := X0.at_ 1 rfl
  have X0_2 := X0.at_ 2 rfl
  have X0_3 := X0.at_ 3 rfl
  have X0z := X0.lt
  have X1_0 := X1.at_ 0 rfl
  have X1_1 := X1.at_ 1 rfl
  have X1_2 := X1.at_ 2 rfl
  have X1_3 := X1.at_ 3 rfl
  have X1f := X1.free
  have X1z := X1.lt
  have hP : plcC c t = ⟨c.e + (t - mn c.e c.w), c.n - (t - mn c.e c.w), c.w + (t - mn c.e c.w), c.s - (t - mn c.e c.w)⟩ := rfl
  generalize mn c.e c.w = h at *
  have HP := hid hP; clear hP
  go_wp2_with fail
  refine bodyPost_ret (v := .agg #[.int .i64 (c.e + (t - h)), .int .i64 (c.n - (t - h)), .int .i64 (c.w + (t - h)), .int .i64 (c.s - (t - h))]) (by simp [results, Tryz.results107, go_sem, X1_0, X1_1, X1_2, X1_3]) rfl ⟨by rw [HP.out], by (repeat' (first | with_reducible assumption | with_reducible exact Below.refl _ _ | with_reducible refine Below.drew ?_ | with_reducible refine below_drewN ?_ _ | with_reducible refine balloc ?_ _ | with_reducible refine bset ?_ ?_ _ | with_reducible refine Below.setCell ?_ ?_ _ | with_reducible refine Below.alloc ?_ ?_ _ | omega | (simp; done) | (simp; omega)))⟩
set_option maxRecDepth 100000 in
set_option maxHeartbeats 2000000 in
theorem cell_collided (c : C4) (k b : Int) (w : World) (hv : validC c = true) (hr : ruleOk k b) : Calls Tryz.prog 96 #[.agg #[.int .i64 c.e, .int .i64 c.n, .int .i64 c.w, .int .i64 c.s], .agg #[.int .i64 k, .int .i64 b]] w fun e w' => e = .returned (.agg #[.int .i64 (coll k b c).e, .int .i64 (coll k b c).n, .int .i64 (coll k b c).w, .int .i64 (coll k b c).s]) ∧ Below w.heap.size w w' := by
  obtain ⟨a1, a2, a3, a4, a5, a6, a7, a8, a9, a10, a11⟩ := pairs_bd hv
  obtain ⟨t1, t2⟩ := turnI_range (k := k) (b := b) a6 (show mn c.e c.w ≤ mn c.e c.w + mn c.n c.s by omega)
  have hturn := fun W => cell_turned k b (mn c.e c.w) (mn c.e c.w + mn c.n c.s) W hr a6 (by omega) (by omega)
  have hplc := fun W => cell_placed c (turnI k b (mn c.e c.w) (mn c.e c.w + mn c.n c.s)) W hv t1 (by omega)
  have hC : plcC c (turnI k b (mn c.e c.w) (mn c.e c.w + mn c.n c.s)) = coll k b c := rfl
  rw [hC] at hplc
  generalize turnI k b (mn c.e c.w) (mn c.e c.w + mn c.n c.s) = t at hturn hplc t1 t2
  have ha := IntWalk.i64_in (mn c.e c.w + mn c.n c.s) (by omega)
  generalize coll k b c = d at hplc ⊢
  clear hC hr
  have X0 := ((Bx.new w #[.int .i64 c.e, .int .i64 c.n, .int .i64 c.w, .int .i64 c.s] 49).alloc (.cells #[.int .i64 k, .int .i64 b] 96)).alloc (.cells #[.int .i64 0, .int .i64 0, .int .i64 0, .int .i64 0] 49)
  have X1 := (Bx.new (w.alloc (.cells #[.int .i64 c.e, .int .i64 c.n, .int .i64 c.w, .int .i64 c.s] 49)) #[.int .i64 k, .int .i64 b] 96).alloc (.cells #[.int .i64 0, .int .i64 0, .int .i64 0, .int .i64 0] 49)
  have X2 := Bx.new ((w.alloc (.cells #[.int .i64 c.e, .int .i64 c.n, .int .i64 c.w, .int .i64 c.s] 49)).alloc (.cells #[.int .i64 k, .int .i64 b] 96)) #[.int .i64 0, .int .i64 0, .int .i64 0, .int .i64 0] 49
  simp only [World.size_alloc] at X1 X2
  have hB0 : Below w.heap.size w (((w.alloc (.cells #[.int .i64 c.e, .int .i64 c.n, .int .i64 c.w, .int .i64 c.s] 49)).alloc (.cells #[.int .i64 k, .int .i64 b] 96)).alloc (.cells #[.int .i64 0, .int .i64 0, .int .i64 0, .int .i64 0] 49)) := by (repeat' (first | with_reducible assumption | with_reducible exact Below.refl _ _ | with_reducible refine Below.drew ?_ | with_reducible refine below_drewN ?_ _ | with_reducible refine balloc ?_ _ | with_reducible refine bset ?_ ?_ _ | with_reducible refine Below.setCell ?_ ?_ _ | with_reducible refine Below.alloc ?_ ?_ _ | omega | (simp; done) | (simp; omega)))
  go_enter Tryz.func96, Tryz.ntmps96
  go_wp2_with fail
  generalize (((w.alloc (.cells #[.int .i64 c.e, .int .i64 c.n, .int .i64 c.w, .int .i64 c.s] 49)).alloc (.cells #[.int .i64 k, .int .i64 b] 96)).alloc (.cells #[.int .i64 0, .int .i64 0, .int .i64 0, .int .i64 0] 49)) = W0 at X0 X1 X2 hB0 ⊢
  have z0 := X0.lt
  have z1 := X1.lt
  have z2 := X2.lt
  refine (cell_pairs c _).mono ?_
  rintro e w1 ⟨rfl, hb1⟩
  have hB := hB0
  clear hB0 hv
  replace X0 := X0.below hb1
  replace X1 := X1.below hb1
  replace X2 := X2.below hb1
  replace hB := bvia hB hb1
  clear hb1
  generalize mn c.e c.w = h at *
  generalize mn c.n c.s = v at *
  go_upto_region 2 with (fail)
  have r0 : ∀ W, Below (w.heap.size + 1 + 1) w1 W → W.cell? ⟨w.heap.size, 0, none⟩ = some (.int .i64 c.e) := fun W h => (bcell h _ _ (by omega)).trans (X0.at_ 0 rfl)
  have r1 : ∀ W, Below (w.heap.size + 1 + 1) w1 W → W.cell? ⟨w.heap.size, 1, none⟩ = some (.int .i64 c.n) := fun W h => (bcell h _ _ (by omega)).trans (X0.at_ 1 rfl)
  have r2 : ∀ W, Below (w.heap.size + 1 + 1) w1 W → W.cell? ⟨w.heap.size, 2, none⟩ = some (.int .i64 c.w) := fun W h => (bcell h _ _ (by omega)).trans (X0.at_ 2 rfl)
  have r3 : ∀ W, Below (w.heap.size + 1 + 1) w1 W → W.cell? ⟨w.heap.size, 3, none⟩ = some (.int .i64 c.s) := fun W h => (bcell h _ _ (by omega)).trans (X0.at_ 3 rfl)
  have r4 : ∀ W, Below (w.heap.size + 1 + 1) w1 W → W.cell? ⟨w.heap.size + 1, 0, none⟩ = some (.int .i64 k) := fun W h => (bcell h _ _ (by omega)).trans (X1.at_ 0 rfl)
  have r5 : ∀ W, Below (w.heap.size + 1 + 1) w1 W → W.cell? ⟨w.heap.size + 1, 1, none⟩ = some (.int .i64 b) := fun W h => (bcell h _ _ (by omega)).trans (X1.at_ 1 rfl)
  have q0 : ∀ W, Below w1.heap.size w1 W → W.cell? ⟨w.heap.size + 1 + 1, 0, none⟩ = some (.int .i64 0) := fun W h => (X2.below h).at_ 0 rfl
  have q1 : ∀ W, Below w1.heap.size w1 W → W.cell? ⟨w.heap.size + 1 + 1, 1, none⟩ = some (.int .i64 0) := fun W h => (X2.below h).at_ 1 rfl
  have q2 : ∀ W, Below w1.heap.size w1 W → W.cell? ⟨w.heap.size + 1 + 1, 2, none⟩ = some (.int .i64 0) := fun W h => (X2.below h).at_ 2 rfl
  have q3 : ∀ W, Below w1.heap.size w1 W → W.cell? ⟨w.heap.size + 1 + 1, 3, none⟩ = some (.int .i64 0) := fun W h => (X2.below h).at_ 3 rfl
  have qf : ∀ W, Below w1.heap.size w1 W → ∀ i, W.frozen? ⟨w.heap.size + 1 + 1, i, none⟩ = false := fun W h => (X2.below h).free
  have z2' := X2.lt
  have hS1 : Below (w.heap.size + 1 + 1) w1 w1 := Below.refl _ _
  go_region_held3 (fun W => Below (w.heap.size + 1 + 1) w1 W) ((repeat' (first | with_reducible assumption | with_reducible exact Below.refl _ _ | with_reducible refine Below.drew ?_ | with_reducible refine below_drewN ?_ _ | with_reducible refine balloc ?_ _ | with_reducible refine bset ?_ ?_ _ | with_reducible refine Below.setCell ?_ ?_ _ | with_reducible refine Below.alloc ?_ ?_ _ | omega | (simp; done) | (simp; omega))))
    ((first
      | (go_at_call 108; refine (hturn _).mono ?_; rintro e w2 ⟨rfl, hb2⟩; have hB2 : Below w1.heap.size w1 w2 := bvia (by (repeat' (first | with_reducible assumption | with_reducible exact Below.refl _ _ | with_reducible refine Below.drew ?_ | with_reducible refine below_drewN ?_ _ | with_reducible refine balloc ?_ _ | with_reducible refine bset ?_ ?_ _ | with_reducible refine Below.setCell ?_ ?_ _ | with_reducible refine Below.alloc ?_ ?_ _ | omega | (simp; done) | (simp; omega)))) hb2; have hC2 := hB2.mono (show w.heap.size + 1 + 1 ≤ w1.heap.size by omega))
      | (go_at_call 107; refine (hplc _).mono ?_; rintro e w3 ⟨rfl, hb3⟩; have hB3 : Below w1.heap.size w1 w3 := bvia (by (repeat' (first | with_reducible assumption | with_reducible exact Below.refl _ _ | with_reducible refine Below.drew ?_ | with_reducible refine below_drewN ?_ _ | with_reducible refine balloc ?_ _ | with_reducible refine bset ?_ ?_ _ | with_reducible refine Below.setCell ?_ ?_ _ | with_reducible refine Below.alloc ?_ ?_ _ | omega | (simp; done) | (simp; omega)))) hb3; have hC3 := hB3.mono (show w.heap.size + 1 + 1 ≤ w1.heap.size by omega))
      | fail))
  all_goals
    have y0 := q0 w3 hB3; have y1 := q1 w3 hB3; have y2 := q2 w3 hB3; have y3 := q3 w3 hB3; have yf := qf w3 hB3
    have hBw := bvia hB hB3
    go_wp2_with fail
    refine bodyPost_ret (v := .agg #[.int .i64 (d).e, .int .i64 (d).n, .int .i64 (d).w, .int .i64 (d).s]) (by simp [results, Tryz.results96, go_sem, y0, y1, y2, y3]) rfl ⟨rfl, by (repeat' (first | with_reducible assumption | with_reducible exact Below.refl _ _ | with_reducible refine Below.drew ?_ | with_reducible refine below_drewN ?_ _ | with_reducible refine balloc ?_ _ | with_reducible refine bset ?_ ?_ _ | with_reducible refine Below.setCell ?_ ?_ _ | with_reducible refine Below.alloc ?_ ?_ _ | omega | (simp; done) | (simp; omega)))⟩
set_option maxRecDepth 100000 in
set_option maxHeartbeats 2000000 in
theorem cell_Collide (c : C4) (k b : Int) (w : World) (hv : validC c = true) (hr : ruleOk k b) : Calls Tryz.prog 71 #[.agg #[.int .i64 c.e, .int .i64 c.n, .int .i64 c.w, .int .i64 c.s], .agg #[.int .i64 k, .int .i64 b]] w fun e w' => e = .returned (.tuple #[.agg #[.int .i64 (coll k b c).e, .int .i64 (coll k b c).n, .int .i64 (coll k b c).w, .int .i64 (coll k b c).s], .int .i64 0]) ∧ Below w.heap.size w w' := by
  have hcol := fun W => cell_collided c k b W hv hr
  generalize coll k b c = d at hcol ⊢
  have X0 := ((Bx.new w #[.int .i64 c.e, .int .i64 c.n, .int .i64 c.w, .int .i64 c.s] 49).alloc (.cells #[.int .i64 k, .int .i64 b] 96)).alloc (.cells #[.int .i64 0, .int .i64 0, .int .i64 0, .int .i64 0] 49)
  have X1 := (Bx.new (w.alloc (.cells #[.int .i64 c.e, .int .i64 c.n, .int .i64 c.w, .int .i64 c.s] 49)) #[.int .i64 k, .int .i64 b] 96).alloc (.cells #[.int .i64 0, .int .i64 0, .int .i64 0, .int .i64 0] 49)
  have X2 := Bx.new ((w.alloc (.cells #[.int .i64 c.e, .int .i64 c.n, .int .i64 c.w, .int .i64 c.s] 49)).alloc (.cells #[.int .i64 k, .int .i64 b] 96)) #[.int .i64 0, .int .i64 0, .int .i64 0, .int .i64 0] 49
  simp only [World.size_alloc] at X1 X2
  have hB0 : Below w.heap.size w (((w.alloc (.cells #[.int .i64 c.e, .int .i64 c.n, .int .i64 c.w, .int .i64 c.s] 49)).alloc (.cells #[.int .i64 k, .int .i64 b] 96)).alloc (.cells #[.int .i64 0, .int .i64 0, .int .i64 0, .int .i64 0] 49)) := by (repeat' (first | with_reducible assumption | with_reducible exact Below.refl _ _ | with_reducible refine Below.drew ?_ | with_reducible refine below_drewN ?_ _ | with_reducible refine balloc ?_ _ | with_reducible refine bset ?_ ?_ _ | with_reducible refine Below.setCell ?_ ?_ _ | with_reducible refine Below.alloc ?_ ?_ _ | omega | (simp; done) | (simp; omega)))
  have hvc := fun W => cell_valid c W
  have hvr := fun W => cell_validRule k b W
  rw [hv] at hvc
  rw [(ruleB_iff k b).2 hr] at hvr
  go_enter Tryz.func71, Tryz.ntmps71
  go_wp2_with fail
  generalize (((w.alloc (.cells #[.int .i64 c.e, .int .i64 c.n, .int .i64 c.w, .int .i64 c.s] 49)).alloc (.cells #[.int .i64 k, .int .i64 b] 96)).alloc (.cells #[.int .i64 0, .int .i64 0, .int .i64 0, .int .i64 0] 49)) = W0 at X0 X1 X2 hB0 ⊢
  have z0 := X0.lt
  have z1 := X1.lt
  have z2 := X2.lt
  refine (hvc _).mono ?_
  rintro e w1 ⟨rfl, hb1⟩
  have hB := hB0
  clear hB0 z0 z1 z2
  replace X0 := X0.below hb1
  replace X1 := X1.below hb1
  replace X2 := X2.below hb1
  replace hB := bvia hB hb1
  clear hb1
  have X0_0 := X0.at_ 0 rfl
  have X0_1 := X0.at_ 1 rfl
  have X0_2 := X0.at_ 2 rfl
  have X0_3 := X0.at_ 3 rfl
  have X1_0 := X1.at_ 0 rfl
  have X1_1 := X1.at_ 1 rfl
  have X0z := X0.lt
  have X1z := X1.lt
  have X2z := X2.lt
  go_wp2_with fail
  refine (hvr _).mono ?_
  rintro e w2 ⟨rfl, hb2⟩
  clear X0_0 X0_1 X0_2 X0_3 X1_0 X1_1 X0z X1z X2z
  replace X0 := X0.below hb2
  replace X1 := X1.below hb2
  replace X2 := X2.below hb2
  replace hB := bvia hB hb2
  clear hb2
  have X0_0 := X0.at_ 0 rfl
  have X0_1 := X0.at_ 1 rfl
  have X0_2 := X0.at_ 2 rfl
  have X0_3 := X0.at_ 3 rfl
  have X1_0 := X1.at_ 0 rfl
  have X1_1 := X1.at_ 1 rfl
  have X0z := X0.lt
  have X1z := X1.lt
  have X2z := X2.lt
  go_wp2_with fail
  refine (hcol _).mono ?_
  rintro e w3 ⟨rfl, hb3⟩
  clear X0_0 X0_1 X0_2 X0_3 X1_0 X1_1 X0z X1z X2z
  replace X0 := X0.below hb3
  replace X1 := X1.below hb3
  replace X2 := X2.below hb3
  replace hB := bvia hB hb3
  clear hb3
  have X0_0 := X0.at_ 0 rfl
  have X0_1 := X0.at_ 1 rfl
  have X0_2 := X0.at_ 2 rfl
  have X0_3 := X0.at_ 3 rfl
  have X1_0 := X1.at_ 0 rfl
  have X1_1 := X1.at_ 1 rfl
  have X0z := X0.lt
  have X1z := X1.lt
  have X2z := X2.lt
  have X2_0 := X2.at_ 0 rfl
  have X2_1 := X2.at_ 1 rfl
  have X2_2 := X2.at_ 2 rfl
  have X2_3 := X2.at_ 3 rfl
  have X2f := X2.free
  go_wp2_with fail
  refine bodyPost_ret (v := .tuple #[.agg #[.int .i64 (d).e, .int .i64 (d).n, .int .i64 (d).w, .int .i64 (d).s], .int .i64 0]) (by simp [results, Tryz.results71, go_sem, X2_0, X2_1, X2_2, X2_3]) rfl ⟨rfl, by (repeat' (first | with_reducible assumption | with_reducible exact Below.refl _ _ | with_reducible refine Below.drew ?_ | with_reducible refine below_drewN ?_ _ | with_reducible refine balloc ?_ _ | with_reducible refine bset ?_ ?_ _ | with_reducible refine Below.setCell ?_ ?_ _ | with_reducible refine Below.alloc ?_ ?_ _ | omega | (simp; done) | (simp; omega)))⟩
end Go.Proofs.YtpbobhobhbbimaaGreatDoor
/- Walks: a grid in new memory, streaming, of the reference. -/
namespace Go.Proofs.YtpbobhobhbbimaaGreatDoor
open Go Go.RowKit
set_option linter.unusedVariables false
/-- a grid with a row of cells of its own -/
def GridRow (W H n : Nat) (g : Nat → C4) (w : World) (e : Ending) (w' : World) : Prop :=
  ∃ b cap, e = .returned (.agg #[.int .i64 (W : Int), .int .i64 (H : Int), .slice (some ⟨b, 0, none⟩) n cap]) ∧ w.heap.size ≤ b ∧ Ro w' b (n * 4) (flatC g) ∧ n ≤ cap ∧ Below w.heap.size w w'
theorem Sc.get {w : World} {a : Option Addr} {n k d : Nat} {g : Nat → C4} (h : Sc w a n g) (hk : k < n) (hd : d < 4) : ∃ b off, a = some ⟨b, off, none⟩ ∧ b < w.heap.size ∧ w.cell? ⟨b, off + k * 4 + d, none⟩ = some (.int .i64 ((g k).get d)) := by
  obtain ⟨b, off, e, hb, c0, c1, c2, c3⟩ := h k hk
  refine ⟨b, off, e, hb, ?_⟩
  rcases (by omega : d = 0 ∨ d = 1 ∨ d = 2 ∨ d = 3) with rfl | rfl | rfl | rfl
  · exact c0
  · exact c1
  · exact c2
  · exact c3
end Go.Proofs.YtpbobhobhbbimaaGreatDoor
