/- Walks: the reference's Same of grids that are equal. -/
import Derived.Test.YtmmjaobpoiofdaaGreatSent3
namespace Go.Proofs.YtmmjaobpoiofdaaGreat
open Go Go.RowKit
set_option linter.unusedVariables false
set_option maxRecDepth 100000 in
set_option maxHeartbeats 1000000 in
theorem ref2_sameCells (a b : Option Addr) (n ca cb : Nat) (g h : Nat → C4) (w : World) (hn : n ≤ 100000000) (S : Sc w a n g) (S' : Sc w b n h) (he : ∀ k, k < n → g k = h k) :
    Calls Tryz.prog 37 #[.slice a n ca, .slice b n cb] w fun e w' => e = .returned (.bool true) ∧ Below w.heap.size w w' := by
  have HE := hid he
  clear he
  go_enter Tryz.func37, Tryz.ntmps37
  go_wp2
  go_loopw [5] (fun i wr => ∃ k : Nat, k ≤ n ∧ i = .int .i64 k ∧ Below w.heap.size w wr) (fun i _ => n - (intOf i).toNat)
  case atStart => exact ⟨0, Nat.zero_le _, rfl, by (repeat' (first | with_reducible assumption | with_reducible exact Below.refl _ _ | with_reducible refine Below.drew ?_ | with_reducible refine below_drewN ?_ _ | with_reducible refine balloc ?_ _ | with_reducible refine bset ?_ ?_ _ | with_reducible refine Below.setCell ?_ ?_ _ | with_reducible refine Below.alloc ?_ ?_ _ | omega | (simp; done) | (simp; omega)))⟩
  case round =>
    obtain ⟨k, hk, rfl, hB⟩ := hrel
    by_cases hlt : k < n
    · obtain ⟨b1, o1, rfl, _, c0, c1, c2, c3⟩ := (S.below hB) k hlt
      obtain ⟨b2, o2, rfl, _, d0, d1, d2, d3⟩ := (S'.below hB) k hlt
      rw [← HE.out k hlt] at d0 d1 d2 d3
      have hne := neq_cell (g k).e (g k).n (g k).w (g k).s (g k).e (g k).n (g k).w (g k).s
      simp only [beq_self_eq_true, Bool.and_self, Bool.not_true] at hne
      go_wp2
      go_quiet (fail)
      go_wp2
      go_roundw
      case rel => exact ⟨k + 1, by omega, by go_num, by (repeat' (first | with_reducible assumption | with_reducible exact Below.refl _ _ | with_reducible refine Below.drew ?_ | with_reducible refine below_drewN ?_ _ | with_reducible refine balloc ?_ _ | with_reducible refine bset ?_ ?_ _ | with_reducible refine Below.setCell ?_ ?_ _ | with_reducible refine Below.alloc ?_ ?_ _ | omega | (simp; done) | (simp; omega)))⟩
      case measure => simp [intOf]; omega
    · go_wp2
      go_ret
      exact ⟨rfl, hB⟩
set_option maxRecDepth 100000 in
set_option maxHeartbeats 1000000 in
theorem ref2_Same (W H : Int) (a b : Option Addr) (n ca cb : Nat) (g h : Nat → C4) (w : World) (hn : n ≤ 100000000) (S : Sc w a n g) (S' : Sc w b n h) (he : ∀ k, k < n → g k = h k) :
    Calls Tryz.prog 22 #[.agg #[.int .i64 W, .int .i64 H, .slice a n ca], .agg #[.int .i64 W, .int .i64 H, .slice b n cb]] w fun e w' => e = .returned (.bool true) ∧ Below w.heap.size w w' := by
  have hs := fun W' S S' => ref2_sameCells a b n ca cb g h W' hn S S' he
  have X0 := (Bx.new w #[.int .i64 W, .int .i64 H, .slice a n ca] 24).alloc (.cells #[.int .i64 W, .int .i64 H, .slice b n cb] 24)
  have X1 := Bx.new (w.alloc (.cells #[.int .i64 W, .int .i64 H, .slice a n ca] 24)) #[.int .i64 W, .int .i64 H, .slice b n cb] 24
  simp only [World.size_alloc] at X1
  have hB0 : Below w.heap.size w ((w.alloc (.cells #[.int .i64 W, .int .i64 H, .slice a n ca] 24)).alloc (.cells #[.int .i64 W, .int .i64 H, .slice b n cb] 24)) := by (repeat' (first | with_reducible assumption | with_reducible exact Below.refl _ _ | with_reducible refine Below.drew ?_ | with_reducible refine below_drewN ?_ _ | with_reducible refine balloc ?_ _ | with_reducible refine bset ?_ ?_ _ | with_reducible refine Below.setCell ?_ ?_ _ | with_reducible refine Below.alloc ?_ ?_ _ | omega | (simp; done) | (simp; omega)))
  go_enter Tryz.func22, Tryz.ntmps22
  go_wp2_with fail
  generalize ((w.alloc (.cells #[.int .i64 W, .int .i64 H, .slice a n ca] 24)).alloc (.cells #[.int .i64 W, .int .i64 H, .slice b n cb] 24)) = W0 at X0 X1 hB0 ⊢
  have z0 := X0.lt
  have z1 := X1.lt
  refine (hs _ (S.below hB0) (S'.below hB0)).mono ?_
  rintro e w1 ⟨rfl, hb1⟩
  go_wp2_with fail
  go_ret
  exact ⟨rfl, bvia hB0 hb1⟩
end Go.Proofs.YtmmjaobpoiofdaaGreat
