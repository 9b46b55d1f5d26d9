/- Walks: wall.Sent and the reference's Sent; awake. -/
import Derived.Test.YtnnaegnkkpknpaaSent2
namespace Go.Proofs.Ytnnaegnkkpknpaa
open Go.RowKit
set_option linter.unusedVariables false
def sentR (c : C4) (kind : Int) : C4 := if validC c && within kind 0 3 then sentC c kind else C4.zero
def sentE (c : C4) (kind : Int) : Int := if validC c then (if within kind 0 3 then 0 else 7) else 1
set_option maxHeartbeats 1000000 in
theorem wall_Sent (c : C4) (w : World) (kind : Int) : Calls Try.prog 22 #[.agg #[.int .i64 c.e, .int .i64 c.n, .int .i64 c.w, .int .i64 c.s], .int .i64 kind] w
    fun e w' => e = .returned (.tuple #[.agg #[.int .i64 (sentR c kind).e, .int .i64 (sentR c kind).n, .int .i64 (sentR c kind).w, .int .i64 (sentR c kind).s], .int .i64 (sentE c kind)]) ∧ Below w.heap.size w w' := by
  cases hv : validC c
  · go_enter Try.func22, Try.ntmps22
    go_wp2_with fail
    refine (cell_valid c _).mono ?_
    rintro e w1 ⟨rfl, hb1⟩
    have hc1 := bcell hb1
    have hf1 := bfrozen hb1
    have hz1 := hb1.size
    try simp at hz1
    have hz1a : w.heap.size < w1.heap.size := by omega
    have hz1b : w.heap.size + 1 < w1.heap.size := by omega
    have hB1 : Below w.heap.size w w1 := bvia (by (repeat' (first | with_reducible assumption | with_reducible exact Below.refl _ _ | with_reducible refine Below.drew ?_ | with_reducible refine below_drewN ?_ _ | with_reducible refine balloc ?_ _ | with_reducible refine bset ?_ ?_ _ | omega | (simp; done) | (simp; omega)))) hb1
    go_wp2_with fail
    refine bodyPost_ret (v := .tuple #[(sentR c kind).val, .int .i64 (sentE c kind)]) (by simp [results, Try.results22, go_sem, sentR, sentE, hv, C4.val, C4.zero, hc1]) rfl ⟨rfl, ?_⟩
    (repeat' (first | with_reducible assumption | with_reducible exact Below.refl _ _ | with_reducible refine Below.drew ?_ | with_reducible refine below_drewN ?_ _ | with_reducible refine balloc ?_ _ | with_reducible refine bset ?_ ?_ _ | omega | (simp; done) | (simp; omega)))
  · cases hw : within kind 0 3
    · go_enter Try.func22, Try.ntmps22
      go_wp2_with fail
      refine (cell_valid c _).mono ?_
      rintro e w1 ⟨rfl, hb1⟩
      have hc1 := bcell hb1
      have hf1 := bfrozen hb1
      have hz1 := hb1.size
      try simp at hz1
      have hz1a : w.heap.size < w1.heap.size := by omega
      have hz1b : w.heap.size + 1 < w1.heap.size := by omega
      have hB1 : Below w.heap.size w w1 := bvia (by (repeat' (first | with_reducible assumption | with_reducible exact Below.refl _ _ | with_reducible refine Below.drew ?_ | with_reducible refine below_drewN ?_ _ | with_reducible refine balloc ?_ _ | with_reducible refine bset ?_ ?_ _ | omega | (simp; done) | (simp; omega)))) hb1
      go_wp2_with (go_at_call 66; refine (wall_within _ _ _ _).mono ?_; rintro e w' ⟨rfl, rfl⟩)
      refine bodyPost_ret (v := .tuple #[(sentR c kind).val, .int .i64 (sentE c kind)]) (by simp [results, Try.results22, go_sem, sentR, sentE, hv, hw, C4.val, C4.zero, hc1]) rfl ⟨rfl, ?_⟩
      (repeat' (first | with_reducible assumption | with_reducible exact Below.refl _ _ | with_reducible refine Below.drew ?_ | with_reducible refine below_drewN ?_ _ | with_reducible refine balloc ?_ _ | with_reducible refine bset ?_ ?_ _ | omega | (simp; done) | (simp; omega)))
    · have hk := (within_iff _ _ _).1 hw
      go_enter Try.func22, Try.ntmps22
      go_wp2_with fail
      refine (cell_valid c _).mono ?_
      rintro e w1 ⟨rfl, hb1⟩
      have hc1 := bcell hb1
      have hf1 := bfrozen hb1
      have hz1 := hb1.size
      try simp at hz1
      have hz1a : w.heap.size < w1.heap.size := by omega
      have hz1b : w.heap.size + 1 < w1.heap.size := by omega
      have hB1 : Below w.heap.size w w1 := bvia (by (repeat' (first | with_reducible assumption | with_reducible exact Below.refl _ _ | with_reducible refine Below.drew ?_ | with_reducible refine below_drewN ?_ _ | with_reducible refine balloc ?_ _ | with_reducible refine bset ?_ ?_ _ | omega | (simp; done) | (simp; omega)))) hb1
      go_wp2_with (go_at_call 66; refine (wall_within _ _ _ _).mono ?_; rintro e w' ⟨rfl, rfl⟩)
      refine (wall_sent c _ kind hk.1 hk.2).mono ?_
      rintro e w2 ⟨rfl, hb2⟩
      have hc2 := bcell hb2
      have hf2 := bfrozen hb2
      have hz2 := hb2.size
      try simp at hz2
      have hz2a : w.heap.size < w2.heap.size := by omega
      have hz2b : w.heap.size + 1 < w2.heap.size := by omega
      have hB2 : Below w.heap.size w w2 := hB1.trans (hb2.mono hB1.size)
      go_wp2_with fail
      refine bodyPost_ret (v := .tuple #[(sentR c kind).val, .int .i64 (sentE c kind)]) (by simp [results, Try.results22, go_sem, sentR, sentE, hv, hw, C4.val, hc1, hc2, hz1b]) rfl ⟨rfl, ?_⟩
      (repeat' (first | with_reducible assumption | with_reducible exact Below.refl _ _ | with_reducible refine Below.drew ?_ | with_reducible refine below_drewN ?_ _ | with_reducible refine balloc ?_ _ | with_reducible refine bset ?_ ?_ _ | omega | (simp; done) | (simp; omega)))
set_option maxHeartbeats 1000000 in
theorem ref3_Sent (c : C4) (w : World) (kind : Int) : Calls Try.prog 23 #[.agg #[.int .i64 c.e, .int .i64 c.n, .int .i64 c.w, .int .i64 c.s], .int .i64 kind] w
    fun e w' => e = .returned (.tuple #[.agg #[.int .i64 (sentR c kind).e, .int .i64 (sentR c kind).n, .int .i64 (sentR c kind).w, .int .i64 (sentR c kind).s], .int .i64 (sentE c kind)]) ∧ Below w.heap.size w w' := by
  cases hv : validC c
  · go_enter Try.func23, Try.ntmps23
    go_wp2_with fail
    refine (ref1_valid c _).mono ?_
    rintro e w1 ⟨rfl, hb1⟩
    have hc1 := bcell hb1
    have hf1 := bfrozen hb1
    have hz1 := hb1.size
    try simp at hz1
    have hz1a : w.heap.size < w1.heap.size := by omega
    have hz1b : w.heap.size + 1 < w1.heap.size := by omega
    have hB1 : Below w.heap.size w w1 := bvia (by (repeat' (first | with_reducible assumption | with_reducible exact Below.refl _ _ | with_reducible refine Below.drew ?_ | with_reducible refine below_drewN ?_ _ | with_reducible refine balloc ?_ _ | with_reducible refine bset ?_ ?_ _ | omega | (simp; done) | (simp; omega)))) hb1
    go_wp2_with fail
    refine bodyPost_ret (v := .tuple #[(sentR c kind).val, .int .i64 (sentE c kind)]) (by simp [results, Try.results23, go_sem, sentR, sentE, hv, C4.val, C4.zero, hc1]) rfl ⟨rfl, ?_⟩
    (repeat' (first | with_reducible assumption | with_reducible exact Below.refl _ _ | with_reducible refine Below.drew ?_ | with_reducible refine below_drewN ?_ _ | with_reducible refine balloc ?_ _ | with_reducible refine bset ?_ ?_ _ | omega | (simp; done) | (simp; omega)))
  · cases hw : within kind 0 3
    · go_enter Try.func23, Try.ntmps23
      go_wp2_with fail
      refine (ref1_valid c _).mono ?_
      rintro e w1 ⟨rfl, hb1⟩
      have hc1 := bcell hb1
      have hf1 := bfrozen hb1
      have hz1 := hb1.size
      try simp at hz1
      have hz1a : w.heap.size < w1.heap.size := by omega
      have hz1b : w.heap.size + 1 < w1.heap.size := by omega
      have hB1 : Below w.heap.size w w1 := bvia (by (repeat' (first | with_reducible assumption | with_reducible exact Below.refl _ _ | with_reducible refine Below.drew ?_ | with_reducible refine below_drewN ?_ _ | with_reducible refine balloc ?_ _ | with_reducible refine bset ?_ ?_ _ | omega | (simp; done) | (simp; omega)))) hb1
      go_wp2_with (go_at_call 67; refine (ref3_within _ _ _ _).mono ?_; rintro e w' ⟨rfl, rfl⟩)
      refine bodyPost_ret (v := .tuple #[(sentR c kind).val, .int .i64 (sentE c kind)]) (by simp [results, Try.results23, go_sem, sentR, sentE, hv, hw, C4.val, C4.zero, hc1]) rfl ⟨rfl, ?_⟩
      (repeat' (first | with_reducible assumption | with_reducible exact Below.refl _ _ | with_reducible refine Below.drew ?_ | with_reducible refine below_drewN ?_ _ | with_reducible refine balloc ?_ _ | with_reducible refine bset ?_ ?_ _ | omega | (simp; done) | (simp; omega)))
    · have hk := (within_iff _ _ _).1 hw
      go_enter Try.func23, Try.ntmps23
      go_wp2_with fail
      refine (ref1_valid c _).mono ?_
      rintro e w1 ⟨rfl, hb1⟩
      have hc1 := bcell hb1
      have hf1 := bfrozen hb1
      have hz1 := hb1.size
      try simp at hz1
      have hz1a : w.heap.size < w1.heap.size := by omega
      have hz1b : w.heap.size + 1 < w1.heap.size := by omega
      have hB1 : Below w.heap.size w w1 := bvia (by (repeat' (first | with_reducible assumption | with_reducible exact Below.refl _ _ | with_reducible refine Below.drew ?_ | with_reducible refine below_drewN ?_ _ | with_reducible refine balloc ?_ _ | with_reducible refine bset ?_ ?_ _ | omega | (simp; done) | (simp; omega)))) hb1
      go_wp2_with (go_at_call 67; refine (ref3_within _ _ _ _).mono ?_; rintro e w' ⟨rfl, rfl⟩)
      refine (ref3_sent c _ kind hk.1 hk.2).mono ?_
      rintro e w2 ⟨rfl, hb2⟩
      have hc2 := bcell hb2
      have hf2 := bfrozen hb2
      have hz2 := hb2.size
      try simp at hz2
      have hz2a : w.heap.size < w2.heap.size := by omega
      have hz2b : w.heap.size + 1 < w2.heap.size := by omega
      have hB2 : Below w.heap.size w w2 := hB1.trans (hb2.mono hB1.size)
      go_wp2_with fail
      refine bodyPost_ret (v := .tuple #[(sentR c kind).val, .int .i64 (sentE c kind)]) (by simp [results, Try.results23, go_sem, sentR, sentE, hv, hw, C4.val, hc1, hc2, hz1b]) rfl ⟨rfl, ?_⟩
      (repeat' (first | with_reducible assumption | with_reducible exact Below.refl _ _ | with_reducible refine Below.drew ?_ | with_reducible refine below_drewN ?_ _ | with_reducible refine balloc ?_ _ | with_reducible refine bset ?_ ?_ _ | omega | (simp; done) | (simp; omega)))
end Go.Proofs.Ytnnaegnkkpknpaa
