/- Walks: sending: the reference's. -/
import Derived.Test.YtnnaegnkkpknpaaSent
namespace Go.Proofs.Ytnnaegnkkpknpaa
open Go.RowKit
set_option linter.unusedVariables false
theorem ref2_opposite (d : Int) (h0 : 0 ≤ d) (h4 : d < 4) (w : World) : Calls Try.prog 164 #[.int .i64 d] w fun e w' => e = .returned (.int .i64 ((d + 2) % 4)) ∧ w = w' := by
  go_enter Try.func164, Try.ntmps164
  go_wp2
  go_ret
  exact ⟨rfl, rfl⟩
/-- the direction in which a kind of wall sends -/
def wayD (kind d : Int) : Int := if kind = 1 then (d + 2) % 4 else if kind = 2 then bits .xor .i64 d 1 else if kind = 3 then 3 - d else d
theorem ref3_way (kind d : Int) (h0 : 0 ≤ d) (h4 : d < 4) (w : World) : Calls Try.prog 132 #[.int .i64 kind, .int .i64 d] w fun e w' => e = .returned (.int .i64 (wayD kind d)) ∧ w = w' := by
  by_cases k1 : kind = 1
  · subst k1
    go_enter Try.func132, Try.ntmps132
    go_wp2_with (go_at_call 164; refine (ref2_opposite _ h0 h4 _).mono ?_; rintro e w' ⟨rfl, rfl⟩)
    go_ret
    exact ⟨by simp [wayD], rfl⟩
  by_cases k2 : kind = 2
  · subst k2
    go_enter Try.func132, Try.ntmps132
    go_wp2
    go_ret
    exact ⟨by simp [wayD], rfl⟩
  by_cases k3 : kind = 3
  · subst k3
    go_enter Try.func132, Try.ntmps132
    go_wp2
    go_ret
    exact ⟨by simp [wayD], rfl⟩
  · have e1 : (kind == 1) = false := by simpa using k1
    have e2 : (kind == 2) = false := by simpa using k2
    have e3 : (kind == 3) = false := by simpa using k3
    go_enter Try.func132, Try.ntmps132
    go_wp2
    go_ret
    exact ⟨by simp [wayD, k1, k2, k3], rfl⟩
set_option maxRecDepth 100000 in
set_option maxHeartbeats 2000000 in
theorem ref3_sent_0 (c : C4) (w : World) : Calls Try.prog 71 #[.agg #[.int .i64 c.e, .int .i64 c.n, .int .i64 c.w, .int .i64 c.s], .int .i64 0] w
    fun e w' => e = .returned (sentC c 0).val ∧ Below w.heap.size w w' := by
  have hw : wayD 0 0 = 0 ∧ wayD 0 1 = 1 ∧ wayD 0 2 = 2 ∧ wayD 0 3 = 3 := by decide +kernel
  obtain ⟨w0, w1, w2, w3⟩ := hw
  go_enter Try.func71, Try.ntmps71
  go_wp2
  refine wp_loop_rounds 5 ?_
  rw [rounds_succ]
  go_wp2
  go_region_held3 (fun w' => w'.cell? ⟨w.heap.size, 0, none⟩ = some (.int .i64 c.e)) (go_keep) ((go_at_call 132; refine (ref3_way _ _ (by decide) (by decide) _).mono ?_; rintro e w' ⟨rfl, rfl⟩))
  rename_i hH; clear hH
  go_wp2
  rw [rounds_succ]
  go_wp2
  go_region_held3 (fun w' => w'.cell? ⟨w.heap.size, 1, none⟩ = some (.int .i64 c.n)) (go_keep) ((go_at_call 132; refine (ref3_way _ _ (by decide) (by decide) _).mono ?_; rintro e w' ⟨rfl, rfl⟩))
  rename_i hH; clear hH
  go_wp2
  rw [rounds_succ]
  go_wp2
  go_region_held3 (fun w' => w'.cell? ⟨w.heap.size, 2, none⟩ = some (.int .i64 c.w)) (go_keep) ((go_at_call 132; refine (ref3_way _ _ (by decide) (by decide) _).mono ?_; rintro e w' ⟨rfl, rfl⟩))
  rename_i hH; clear hH
  go_wp2
  rw [rounds_succ]
  go_wp2
  go_region_held3 (fun w' => w'.cell? ⟨w.heap.size, 3, none⟩ = some (.int .i64 c.s)) (go_keep) ((go_at_call 132; refine (ref3_way _ _ (by decide) (by decide) _).mono ?_; rintro e w' ⟨rfl, rfl⟩))
  rename_i hH; clear hH
  go_wp2
  rw [rounds_succ]
  go_wp2
  refine bodyPost_ret (v := (sentC c 0).val) (by simp [results, Try.results71, go_sem, sentC, C4.val]) rfl ⟨rfl, ?_⟩
  repeat' (first | exact Below.refl _ _ | refine Below.drew ?_ | refine Below.alloc ?_ (by simp <;> omega) _ | refine Below.setCell ?_ (by simp <;> omega) _)
set_option maxRecDepth 100000 in
set_option maxHeartbeats 2000000 in
theorem ref3_sent_1 (c : C4) (w : World) : Calls Try.prog 71 #[.agg #[.int .i64 c.e, .int .i64 c.n, .int .i64 c.w, .int .i64 c.s], .int .i64 1] w
    fun e w' => e = .returned (sentC c 1).val ∧ Below w.heap.size w w' := by
  have hw : wayD 1 0 = 2 ∧ wayD 1 1 = 3 ∧ wayD 1 2 = 0 ∧ wayD 1 3 = 1 := by decide +kernel
  obtain ⟨w0, w1, w2, w3⟩ := hw
  go_enter Try.func71, Try.ntmps71
  go_wp2
  refine wp_loop_rounds 5 ?_
  rw [rounds_succ]
  go_wp2
  go_region_held3 (fun w' => w'.cell? ⟨w.heap.size, 0, none⟩ = some (.int .i64 c.e)) (go_keep) ((go_at_call 132; refine (ref3_way _ _ (by decide) (by decide) _).mono ?_; rintro e w' ⟨rfl, rfl⟩))
  rename_i hH; clear hH
  go_wp2
  rw [rounds_succ]
  go_wp2
  go_region_held3 (fun w' => w'.cell? ⟨w.heap.size, 1, none⟩ = some (.int .i64 c.n)) (go_keep) ((go_at_call 132; refine (ref3_way _ _ (by decide) (by decide) _).mono ?_; rintro e w' ⟨rfl, rfl⟩))
  rename_i hH; clear hH
  go_wp2
  rw [rounds_succ]
  go_wp2
  go_region_held3 (fun w' => w'.cell? ⟨w.heap.size, 2, none⟩ = some (.int .i64 c.w)) (go_keep) ((go_at_call 132; refine (ref3_way _ _ (by decide) (by decide) _).mono ?_; rintro e w' ⟨rfl, rfl⟩))
  rename_i hH; clear hH
  go_wp2
  rw [rounds_succ]
  go_wp2
  go_region_held3 (fun w' => w'.cell? ⟨w.heap.size, 3, none⟩ = some (.int .i64 c.s)) (go_keep) ((go_at_call 132; refine (ref3_way _ _ (by decide) (by decide) _).mono ?_; rintro e w' ⟨rfl, rfl⟩))
  rename_i hH; clear hH
  go_wp2
  rw [rounds_succ]
  go_wp2
  refine bodyPost_ret (v := (sentC c 1).val) (by simp [results, Try.results71, go_sem, sentC, C4.val]) rfl ⟨rfl, ?_⟩
  repeat' (first | exact Below.refl _ _ | refine Below.drew ?_ | refine Below.alloc ?_ (by simp <;> omega) _ | refine Below.setCell ?_ (by simp <;> omega) _)
set_option maxRecDepth 100000 in
set_option maxHeartbeats 2000000 in
theorem ref3_sent_2 (c : C4) (w : World) : Calls Try.prog 71 #[.agg #[.int .i64 c.e, .int .i64 c.n, .int .i64 c.w, .int .i64 c.s], .int .i64 2] w
    fun e w' => e = .returned (sentC c 2).val ∧ Below w.heap.size w w' := by
  have hw : wayD 2 0 = 1 ∧ wayD 2 1 = 0 ∧ wayD 2 2 = 3 ∧ wayD 2 3 = 2 := by decide +kernel
  obtain ⟨w0, w1, w2, w3⟩ := hw
  go_enter Try.func71, Try.ntmps71
  go_wp2
  refine wp_loop_rounds 5 ?_
  rw [rounds_succ]
  go_wp2
  go_region_held3 (fun w' => w'.cell? ⟨w.heap.size, 0, none⟩ = some (.int .i64 c.e)) (go_keep) ((go_at_call 132; refine (ref3_way _ _ (by decide) (by decide) _).mono ?_; rintro e w' ⟨rfl, rfl⟩))
  rename_i hH; clear hH
  go_wp2
  rw [rounds_succ]
  go_wp2
  go_region_held3 (fun w' => w'.cell? ⟨w.heap.size, 1, none⟩ = some (.int .i64 c.n)) (go_keep) ((go_at_call 132; refine (ref3_way _ _ (by decide) (by decide) _).mono ?_; rintro e w' ⟨rfl, rfl⟩))
  rename_i hH; clear hH
  go_wp2
  rw [rounds_succ]
  go_wp2
  go_region_held3 (fun w' => w'.cell? ⟨w.heap.size, 2, none⟩ = some (.int .i64 c.w)) (go_keep) ((go_at_call 132; refine (ref3_way _ _ (by decide) (by decide) _).mono ?_; rintro e w' ⟨rfl, rfl⟩))
  rename_i hH; clear hH
  go_wp2
  rw [rounds_succ]
  go_wp2
  go_region_held3 (fun w' => w'.cell? ⟨w.heap.size, 3, none⟩ = some (.int .i64 c.s)) (go_keep) ((go_at_call 132; refine (ref3_way _ _ (by decide) (by decide) _).mono ?_; rintro e w' ⟨rfl, rfl⟩))
  rename_i hH; clear hH
  go_wp2
  rw [rounds_succ]
  go_wp2
  refine bodyPost_ret (v := (sentC c 2).val) (by simp [results, Try.results71, go_sem, sentC, C4.val]) rfl ⟨rfl, ?_⟩
  repeat' (first | exact Below.refl _ _ | refine Below.drew ?_ | refine Below.alloc ?_ (by simp <;> omega) _ | refine Below.setCell ?_ (by simp <;> omega) _)
set_option maxRecDepth 100000 in
set_option maxHeartbeats 2000000 in
theorem ref3_sent_3 (c : C4) (w : World) : Calls Try.prog 71 #[.agg #[.int .i64 c.e, .int .i64 c.n, .int .i64 c.w, .int .i64 c.s], .int .i64 3] w
    fun e w' => e = .returned (sentC c 3).val ∧ Below w.heap.size w w' := by
  have hw : wayD 3 0 = 3 ∧ wayD 3 1 = 2 ∧ wayD 3 2 = 1 ∧ wayD 3 3 = 0 := by decide +kernel
  obtain ⟨w0, w1, w2, w3⟩ := hw
  go_enter Try.func71, Try.ntmps71
  go_wp2
  refine wp_loop_rounds 5 ?_
  rw [rounds_succ]
  go_wp2
  go_region_held3 (fun w' => w'.cell? ⟨w.heap.size, 0, none⟩ = some (.int .i64 c.e)) (go_keep) ((go_at_call 132; refine (ref3_way _ _ (by decide) (by decide) _).mono ?_; rintro e w' ⟨rfl, rfl⟩))
  rename_i hH; clear hH
  go_wp2
  rw [rounds_succ]
  go_wp2
  go_region_held3 (fun w' => w'.cell? ⟨w.heap.size, 1, none⟩ = some (.int .i64 c.n)) (go_keep) ((go_at_call 132; refine (ref3_way _ _ (by decide) (by decide) _).mono ?_; rintro e w' ⟨rfl, rfl⟩))
  rename_i hH; clear hH
  go_wp2
  rw [rounds_succ]
  go_wp2
  go_region_held3 (fun w' => w'.cell? ⟨w.heap.size, 2, none⟩ = some (.int .i64 c.w)) (go_keep) ((go_at_call 132; refine (ref3_way _ _ (by decide) (by decide) _).mono ?_; rintro e w' ⟨rfl, rfl⟩))
  rename_i hH; clear hH
  go_wp2
  rw [rounds_succ]
  go_wp2
  go_region_held3 (fun w' => w'.cell? ⟨w.heap.size, 3, none⟩ = some (.int .i64 c.s)) (go_keep) ((go_at_call 132; refine (ref3_way _ _ (by decide) (by decide) _).mono ?_; rintro e w' ⟨rfl, rfl⟩))
  rename_i hH; clear hH
  go_wp2
  rw [rounds_succ]
  go_wp2
  refine bodyPost_ret (v := (sentC c 3).val) (by simp [results, Try.results71, go_sem, sentC, C4.val]) rfl ⟨rfl, ?_⟩
  repeat' (first | exact Below.refl _ _ | refine Below.drew ?_ | refine Below.alloc ?_ (by simp <;> omega) _ | refine Below.setCell ?_ (by simp <;> omega) _)
theorem ref3_sent (c : C4) (w : World) (kind : Int) (h0 : 0 ≤ kind) (h3 : kind ≤ 3) : Calls Try.prog 71 #[.agg #[.int .i64 c.e, .int .i64 c.n, .int .i64 c.w, .int .i64 c.s], .int .i64 kind] w
    fun e w' => e = .returned (.agg #[.int .i64 (sentC c kind).e, .int .i64 (sentC c kind).n, .int .i64 (sentC c kind).w, .int .i64 (sentC c kind).s]) ∧ Below w.heap.size w w' := by
  have : kind = 0 ∨ kind = 1 ∨ kind = 2 ∨ kind = 3 := by omega
  rcases this with rfl | rfl | rfl | rfl
  · exact ref3_sent_0 c w
  · exact ref3_sent_1 c w
  · exact ref3_sent_2 c w
  · exact ref3_sent_3 c w
end Go.Proofs.Ytnnaegnkkpknpaa
