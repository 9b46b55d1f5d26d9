/- Plain words: the signs of walls. Walks: read, told, sign of both sides. -/
import Derived.Test.YthlbmlfkmfheiaaR3Valid
namespace Go.Proofs.Ythlbmlfkmfheiaa
open Go Go.RowKit
set_option linter.unusedVariables false
/-- the kind and the body that a sign tells, and whether it is one -/
def rdK (c : Nat) : Int := if c = 46 then 0 else if 97 ≤ c ∧ c ≤ 105 then 1 else if 106 ≤ c ∧ c ≤ 114 then 2 else if 65 ≤ c ∧ c ≤ 73 then 3 else 0
def rdB (c : Nat) : Int := if c = 46 then 0 else if 97 ≤ c ∧ c ≤ 105 then (c : Int) - 96 else if 106 ≤ c ∧ c ≤ 114 then (c : Int) - 105 else if 65 ≤ c ∧ c ≤ 73 then (c : Int) - 64 else 0
def rdO (c : Nat) : Bool := decide (c = 46 ∨ (97 ≤ c ∧ c ≤ 114) ∨ (65 ≤ c ∧ c ≤ 73))
theorem signs_at (w : World) : (Instr.index 9 (.string ⟨#[46, 97, 106, 65]⟩) (.int .i64 0)).run Try.prog w = .ok (.int .u8 46) w ∧ (Instr.index 9 (.string ⟨#[46, 97, 106, 65]⟩) (.int .i64 1)).run Try.prog w = .ok (.int .u8 97) w ∧
    (Instr.index 9 (.string ⟨#[46, 97, 106, 65]⟩) (.int .i64 2)).run Try.prog w = .ok (.int .u8 106) w ∧ (Instr.index 9 (.string ⟨#[46, 97, 106, 65]⟩) (.int .i64 3)).run Try.prog w = .ok (.int .u8 65) w := by
  refine ⟨by kernel_rfl, by kernel_rfl, by kernel_rfl, by kernel_rfl⟩
set_option maxRecDepth 100000 in
theorem wall_read (c : Nat) (w : World) (hc : c < 256) : Calls Try.prog 26 #[.int .u8 (c : Int)] w fun e w' => e = .returned (.tuple #[.int .i64 (rdK c), .int .i64 (rdB c), .bool (rdO c)]) ∧ w = w' := by
  have h0 := fun W => (signs_at W).1; have h1 := fun W => (signs_at W).2.1; have h2 := fun W => (signs_at W).2.2.1; have h3 := fun W => (signs_at W).2.2.2
  by_cases h46 : c = 46
  · subst h46
    have e1 : rdK 46 = 0 := rfl
    have e2 : rdB 46 = 0 := rfl
    have e3 : rdO 46 = true := rfl
    rw [e1, e2, e3]
    go_enter Try.func26, Try.ntmps26
    go_wp2_with fail
    go_ret3
    exact ⟨rfl, rfl⟩
  · have h46' : ((c : Int) == 46) = false := by simp; omega
    go_enter Try.func26, Try.ntmps26
    go_wp2_with fail
    go_loop [5, 6] (fun s _ => ∃ k : Nat, 1 ≤ k ∧ k ≤ 4 ∧ s = .int .i64 (k : Int) ∧ (1 < k → ¬ ((0 : Int) ≤ (c : Int) - 97 ∧ (c : Int) - 97 ≤ 8)) ∧ (2 < k → ¬ ((0 : Int) ≤ (c : Int) - 106 ∧ (c : Int) - 106 ≤ 8)) ∧ (3 < k → ¬ ((0 : Int) ≤ (c : Int) - 65 ∧ (c : Int) - 65 ≤ 8))) (fun s _ => 4 - (intOf s).toNat)
    case atStart => exact ⟨1, by omega, by omega, rfl, by omega, by omega, by omega⟩
    case round =>
      obtain ⟨k, hk1, hk2, rfl, q1, q2, q3⟩ := hrel
      rcases (by omega : k = 1 ∨ k = 2 ∨ k = 3 ∨ k = 4) with rfl | rfl | rfl | rfl
      · skip
        by_cases hin : (0 : Int) ≤ (c : Int) - 97 ∧ (c : Int) - 97 ≤ 8
        · have hw := wall_within ((c : Int) - 97) 0 8 w
          rw [show within ((c : Int) - 97) 0 8 = true from (within_iff _ _ _).2 hin] at hw
          go_wp2_with fail
          refine hw.mono ?_
          rintro e w' ⟨rfl, rfl⟩
          go_wp2_with fail
          go_ret3
          refine ⟨?_, rfl⟩
          have e1 : rdK c = 1 := by unfold rdK; repeat' (first | rfl | omega | split)
          have e2 : rdB c = (c : Int) - 97 + 1 := by unfold rdB; repeat' (first | rfl | omega | split)
          have e3 : rdO c = true := by unfold rdO; rw [decide_eq_true_iff]; omega
          rw [e1, e2, e3]
          rfl
        · have hw := wall_within ((c : Int) - 97) 0 8 w
          rw [show within ((c : Int) - 97) 0 8 = false from (within_no _ _ _).2 hin] at hw
          go_wp2_with fail
          refine hw.mono ?_
          rintro e w' ⟨rfl, rfl⟩
          go_wp2_with fail
          go_round
          case rel => exact ⟨1 + 1, by omega, by omega, rfl, fun _ => by omega, fun _ => by omega, fun _ => by omega⟩
          case measure => simp [intOf]
      · have p1 := q1 (by omega)
        by_cases hin : (0 : Int) ≤ (c : Int) - 106 ∧ (c : Int) - 106 ≤ 8
        · have hw := wall_within ((c : Int) - 106) 0 8 w
          rw [show within ((c : Int) - 106) 0 8 = true from (within_iff _ _ _).2 hin] at hw
          go_wp2_with fail
          refine hw.mono ?_
          rintro e w' ⟨rfl, rfl⟩
          go_wp2_with fail
          go_ret3
          refine ⟨?_, rfl⟩
          have e1 : rdK c = 2 := by unfold rdK; repeat' (first | rfl | omega | split)
          have e2 : rdB c = (c : Int) - 106 + 1 := by unfold rdB; repeat' (first | rfl | omega | split)
          have e3 : rdO c = true := by unfold rdO; rw [decide_eq_true_iff]; omega
          rw [e1, e2, e3]
          rfl
        · have hw := wall_within ((c : Int) - 106) 0 8 w
          rw [show within ((c : Int) - 106) 0 8 = false from (within_no _ _ _).2 hin] at hw
          go_wp2_with fail
          refine hw.mono ?_
          rintro e w' ⟨rfl, rfl⟩
          go_wp2_with fail
          go_round
          case rel => exact ⟨2 + 1, by omega, by omega, rfl, fun _ => by omega, fun _ => by omega, fun _ => by omega⟩
          case measure => simp [intOf]
      · have p1 := q1 (by omega)
        have p2 := q2 (by omega)
        by_cases hin : (0 : Int) ≤ (c : Int) - 65 ∧ (c : Int) - 65 ≤ 8
        · have hw := wall_within ((c : Int) - 65) 0 8 w
          rw [show within ((c : Int) - 65) 0 8 = true from (within_iff _ _ _).2 hin] at hw
          go_wp2_with fail
          refine hw.mono ?_
          rintro e w' ⟨rfl, rfl⟩
          go_wp2_with fail
          go_ret3
          refine ⟨?_, rfl⟩
          have e1 : rdK c = 3 := by unfold rdK; repeat' (first | rfl | omega | split)
          have e2 : rdB c = (c : Int) - 65 + 1 := by unfold rdB; repeat' (first | rfl | omega | split)
          have e3 : rdO c = true := by unfold rdO; rw [decide_eq_true_iff]; omega
          rw [e1, e2, e3]
          rfl
        · have hw := wall_within ((c : Int) - 65) 0 8 w
          rw [show within ((c : Int) - 65) 0 8 = false from (within_no _ _ _).2 hin] at hw
          go_wp2_with fail
          refine hw.mono ?_
          rintro e w' ⟨rfl, rfl⟩
          go_wp2_with fail
          go_round
          case rel => exact ⟨3 + 1, by omega, by omega, rfl, fun _ => by omega, fun _ => by omega, fun _ => by omega⟩
          case measure => simp [intOf]
      · have p1 := q1 (by omega)
        have p2 := q2 (by omega)
        have p3 := q3 (by omega)
        clear q1 q2 q3
        go_wp2_with fail
        go_ret3
        refine ⟨?_, rfl⟩
        have e1 : rdK c = 0 := by unfold rdK; repeat' (first | rfl | omega | split)
        have e2 : rdB c = 0 := by unfold rdB; repeat' (first | rfl | omega | split)
        have e3 : rdO c = false := by unfold rdO; rw [decide_eq_false_iff_not]; omega
        rw [e1, e2, e3]
        rfl
set_option maxRecDepth 100000 in
theorem ref3_told (c : Nat) (w : World) (hc : c < 256) : Calls Try.prog 29 #[.int .u8 (c : Int)] w fun e w' => e = .returned (.tuple #[.int .i64 (rdK c), .int .i64 (rdB c), .bool (rdO c)]) ∧ w = w' := by
  go_enter Try.func29, Try.ntmps29
  go_wp2_with fail
  all_goals
    go_ret3
    refine ⟨?_, rfl⟩
    simp at *
    unfold rdK rdB rdO
    repeat' (first | rfl | omega | split)
    all_goals (first | (simp; omega) | (congr; omega))
end Go.Proofs.Ythlbmlfkmfheiaa
