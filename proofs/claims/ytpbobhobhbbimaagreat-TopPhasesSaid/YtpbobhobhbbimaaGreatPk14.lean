/- Walks: what a step of two phases does to a pair of cells: meeting, by, deeds. -/
import Derived.Test.YtpbobhobhbbimaaGreatPk12
import Derived.Test.YtpbobhobhbbimaaGreatPk2
import Derived.Test.YtpbobhobhbbimaaGreatPk13
import Derived.Test.YtpbobhobhbbimaaGreatPk3
namespace Go.Proofs.YtpbobhobhbbimaaGreat
open Go Go.RowKit
set_option linter.unusedVariables false
theorem coll_zero (c : C4) : coll 0 0 c = c := by
  obtain ⟨e, n, w, s⟩ := c
  simp [coll, turnI]
set_option maxRecDepth 100000 in
set_option maxHeartbeats 4000000 in
theorem pair_meeting0 (a b : C4) (w : World) : Calls Tryz.prog 95 #[.agg #[.int .i64 a.e, .int .i64 a.n, .int .i64 a.w, .int .i64 a.s, .int .i64 b.e, .int .i64 b.n, .int .i64 b.w, .int .i64 b.s], .int .i64 0] w fun e w' => ∃ bp b6 b7, e = .returned (.tuple #[.agg #[.int .i64 a.e, .int .i64 a.w, .int .i64 b.w, .int .i64 b.e], .func (.func 110) #[] #[.pointer (some ⟨bp, 0, none⟩), .pointer (some ⟨b6, 0, none⟩), .pointer (some ⟨b7, 0, none⟩)]]) ∧
    Bx w' bp #[.int .i64 a.e, .int .i64 a.n, .int .i64 a.w, .int .i64 a.s, .int .i64 b.e, .int .i64 b.n, .int .i64 b.w, .int .i64 b.s] ∧ Bx w' b6 #[.int .i64 0] ∧ Bx w' b7 #[.int .i64 2] ∧ w.heap.size ≤ bp ∧ bp ≠ b6 ∧ bp ≠ b7 ∧ Below w.heap.size w w' := by
  have X0 := (Bx.new w #[.int .i64 a.e, .int .i64 a.n, .int .i64 a.w, .int .i64 a.s, .int .i64 b.e, .int .i64 b.n, .int .i64 b.w, .int .i64 b.s] 125).alloc (.cells #[.int .i64 0, .int .i64 0, .int .i64 0, .int .i64 0] 44)
  have X1 := Bx.new (w.alloc (.cells #[.int .i64 a.e, .int .i64 a.n, .int .i64 a.w, .int .i64 a.s, .int .i64 b.e, .int .i64 b.n, .int .i64 b.w, .int .i64 b.s] 125)) #[.int .i64 0, .int .i64 0, .int .i64 0, .int .i64 0] 44
  simp only [World.size_alloc] at X1
  have hB0 : Below w.heap.size w ((w.alloc (.cells #[.int .i64 a.e, .int .i64 a.n, .int .i64 a.w, .int .i64 a.s, .int .i64 b.e, .int .i64 b.n, .int .i64 b.w, .int .i64 b.s] 125)).alloc (.cells #[.int .i64 0, .int .i64 0, .int .i64 0, .int .i64 0] 44)) := by (repeat' (first | with_reducible assumption | with_reducible exact Below.refl _ _ | with_reducible refine Below.drew ?_ | with_reducible refine below_drewN ?_ _ | with_reducible refine balloc ?_ _ | with_reducible refine bset ?_ ?_ _ | with_reducible refine Below.setCell ?_ ?_ _ | with_reducible refine Below.alloc ?_ ?_ _ | omega | (simp; done) | (simp; omega)))
  go_enter Tryz.func95, Tryz.ntmps95
  go_upto_region 1 with (fail)
  generalize ((w.alloc (.cells #[.int .i64 a.e, .int .i64 a.n, .int .i64 a.w, .int .i64 a.s, .int .i64 b.e, .int .i64 b.n, .int .i64 b.w, .int .i64 b.s] 125)).alloc (.cells #[.int .i64 0, .int .i64 0, .int .i64 0, .int .i64 0] 44)) = W0 at X0 X1 hB0 ⊢
  have z0 := X0.lt
  have z1 := X1.lt
  go_upto_region 2 with (fail)
  have hb1 : Below W0.heap.size W0 ((W0.alloc (.cells #[.int .i64 0] 3)).alloc (.cells #[.int .i64 2] 3)) := by (repeat' (first | with_reducible assumption | with_reducible exact Below.refl _ _ | with_reducible refine Below.drew ?_ | with_reducible refine below_drewN ?_ _ | with_reducible refine balloc ?_ _ | with_reducible refine bset ?_ ?_ _ | with_reducible refine Below.setCell ?_ ?_ _ | with_reducible refine Below.alloc ?_ ?_ _ | omega | (simp; done) | (simp; omega)))
  have X6 : Bx ((W0.alloc (.cells #[.int .i64 0] 3)).alloc (.cells #[.int .i64 2] 3)) W0.heap.size #[.int .i64 0] := (Bx.new W0 #[.int .i64 0] 3).alloc _
  have X7 : Bx ((W0.alloc (.cells #[.int .i64 0] 3)).alloc (.cells #[.int .i64 2] 3)) (W0.heap.size + 1) #[.int .i64 2] := Bx.newE (by simp) #[.int .i64 2] 3
  generalize (W0.alloc (.cells #[.int .i64 0] 3)).alloc (.cells #[.int .i64 2] 3) = W1 at *
  replace X0 := X0.below hb1; replace X1 := X1.below hb1
  have hB := bvia hB0 hb1
  have hs1 := hb1.size
  clear hb1 hB0
  have r0 : ∀ Y, Below W1.heap.size W1 Y → Y.cell? ⟨w.heap.size, 0, none⟩ = some (.int .i64 a.e) := fun Y h => (X0.below h).at_ 0 rfl
  have r2 : ∀ Y, Below W1.heap.size W1 Y → Y.cell? ⟨w.heap.size, 2, none⟩ = some (.int .i64 a.w) := fun Y h => (X0.below h).at_ 2 rfl
  have r4 : ∀ Y, Below W1.heap.size W1 Y → Y.cell? ⟨w.heap.size, 4, none⟩ = some (.int .i64 b.e) := fun Y h => (X0.below h).at_ 4 rfl
  have r6 : ∀ Y, Below W1.heap.size W1 Y → Y.cell? ⟨w.heap.size, 6, none⟩ = some (.int .i64 b.w) := fun Y h => (X0.below h).at_ 6 rfl
  have s6 : ∀ Y, Below W1.heap.size W1 Y → Y.cell? ⟨W0.heap.size, 0, none⟩ = some (.int .i64 0) := fun Y h => (X6.below h).at_ 0 rfl
  have s7 : ∀ Y, Below W1.heap.size W1 Y → Y.cell? ⟨W0.heap.size + 1, 0, none⟩ = some (.int .i64 2) := fun Y h => (X7.below h).at_ 0 rfl
  go_region_held3 (fun Y => Below W1.heap.size W1 Y) ((repeat' (first | with_reducible assumption | with_reducible exact Below.refl _ _ | with_reducible refine Below.drew ?_ | with_reducible refine below_drewN ?_ _ | with_reducible refine balloc ?_ _ | with_reducible refine bset ?_ ?_ _ | with_reducible refine Below.setCell ?_ ?_ _ | with_reducible refine Below.alloc ?_ ?_ _ | omega | (simp; done) | (simp; omega)))) (fail)
  all_goals
    clear r0 r2 r4 r6 s6 s7
    have X8 := (Bx.new W1 #[.int .i64 a.e, .int .i64 a.w, .int .i64 b.w, .int .i64 b.e] 44).drew
    have hb2 : Below W1.heap.size W1 (W1.alloc (.cells #[.int .i64 a.e, .int .i64 a.w, .int .i64 b.w, .int .i64 b.e] 44)).drew := by (repeat' (first | with_reducible assumption | with_reducible exact Below.refl _ _ | with_reducible refine Below.drew ?_ | with_reducible refine below_drewN ?_ _ | with_reducible refine balloc ?_ _ | with_reducible refine bset ?_ ?_ _ | with_reducible refine Below.setCell ?_ ?_ _ | with_reducible refine Below.alloc ?_ ?_ _ | omega | (simp; done) | (simp; omega)))
    generalize (W1.alloc (.cells #[.int .i64 a.e, .int .i64 a.w, .int .i64 b.w, .int .i64 b.e] 44)).drew = W2 at *
    replace X0 := X0.below hb2; replace X1 := X1.below hb2; replace X6 := X6.below hb2; replace X7 := X7.below hb2
    replace hB := bvia hB hb2
    clear hb2
    have y0 := X8.at_ 0 rfl; have y1 := X8.at_ 1 rfl; have y2 := X8.at_ 2 rfl; have y3 := X8.at_ 3 rfl; have yz := X8.lt
    have xf := X1.free; have xz := X1.lt; have x0 := X1.at_ 0 rfl; have x1 := X1.at_ 1 rfl; have x2 := X1.at_ 2 rfl; have x3 := X1.at_ 3 rfl
    go_wp2_with fail
    refine bodyPost_ret (v := .tuple #[.agg #[.int .i64 a.e, .int .i64 a.w, .int .i64 b.w, .int .i64 b.e], .func (.func 110) #[] #[.pointer (some ⟨w.heap.size, 0, none⟩), .pointer (some ⟨W0.heap.size, 0, none⟩), .pointer (some ⟨W0.heap.size + 1, 0, none⟩)]]) (by simp [results, Tryz.results95, go_sem, x0, x1, x2, x3]) rfl ⟨_, _, _, rfl, by (repeat' (first | with_reducible assumption | (with_reducible refine Bx.newE ?_ _ _; (simp; done)) | with_reducible refine Bx.alloc ?_ _ | with_reducible refine Bx.drew ?_ | with_reducible refine Bx.drewN ?_ _ | with_reducible refine Bx.four ?_ | (with_reducible refine Bx.far2 ?_ ?_ _; (dsimp only; omega)))), by (repeat' (first | with_reducible assumption | (with_reducible refine Bx.newE ?_ _ _; (simp; done)) | with_reducible refine Bx.alloc ?_ _ | with_reducible refine Bx.drew ?_ | with_reducible refine Bx.drewN ?_ _ | with_reducible refine Bx.four ?_ | (with_reducible refine Bx.far2 ?_ ?_ _; (dsimp only; omega)))), by (repeat' (first | with_reducible assumption | (with_reducible refine Bx.newE ?_ _ _; (simp; done)) | with_reducible refine Bx.alloc ?_ _ | with_reducible refine Bx.drew ?_ | with_reducible refine Bx.drewN ?_ _ | with_reducible refine Bx.four ?_ | (with_reducible refine Bx.far2 ?_ ?_ _; (dsimp only; omega)))), Nat.le_refl _, by omega, by omega, by (repeat' (first | with_reducible assumption | with_reducible exact Below.refl _ _ | with_reducible refine Below.drew ?_ | with_reducible refine below_drewN ?_ _ | with_reducible refine balloc ?_ _ | with_reducible refine bset ?_ ?_ _ | with_reducible refine Below.setCell ?_ ?_ _ | with_reducible refine Below.alloc ?_ ?_ _ | omega | (simp; done) | (simp; omega)))⟩
set_option maxRecDepth 100000 in
set_option maxHeartbeats 4000000 in
theorem pair_meeting1 (a b : C4) (w : World) : Calls Tryz.prog 95 #[.agg #[.int .i64 a.e, .int .i64 a.n, .int .i64 a.w, .int .i64 a.s, .int .i64 b.e, .int .i64 b.n, .int .i64 b.w, .int .i64 b.s], .int .i64 1] w fun e w' => ∃ bp b6 b7, e = .returned (.tuple #[.agg #[.int .i64 a.n, .int .i64 a.s, .int .i64 b.s, .int .i64 b.n], .func (.func 110) #[] #[.pointer (some ⟨bp, 0, none⟩), .pointer (some ⟨b6, 0, none⟩), .pointer (some ⟨b7, 0, none⟩)]]) ∧
    Bx w' bp #[.int .i64 a.e, .int .i64 a.n, .int .i64 a.w, .int .i64 a.s, .int .i64 b.e, .int .i64 b.n, .int .i64 b.w, .int .i64 b.s] ∧ Bx w' b6 #[.int .i64 1] ∧ Bx w' b7 #[.int .i64 3] ∧ w.heap.size ≤ bp ∧ bp ≠ b6 ∧ bp ≠ b7 ∧ Below w.heap.size w w' := by
  have X0 := (Bx.new w #[.int .i64 a.e, .int .i64 a.n, .int .i64 a.w, .int .i64 a.s, .int .i64 b.e, .int .i64 b.n, .int .i64 b.w, .int .i64 b.s] 125).alloc (.cells #[.int .i64 0, .int .i64 0, .int .i64 0, .int .i64 0] 44)
  have X1 := Bx.new (w.alloc (.cells #[.int .i64 a.e, .int .i64 a.n, .int .i64 a.w, .int .i64 a.s, .int .i64 b.e, .int .i64 b.n, .int .i64 b.w, .int .i64 b.s] 125)) #[.int .i64 0, .int .i64 0, .int .i64 0, .int .i64 0] 44
  simp only [World.size_alloc] at X1
  have hB0 : Below w.heap.size w ((w.alloc (.cells #[.int .i64 a.e, .int .i64 a.n, .int .i64 a.w, .int .i64 a.s, .int .i64 b.e, .int .i64 b.n, .int .i64 b.w, .int .i64 b.s] 125)).alloc (.cells #[.int .i64 0, .int .i64 0, .int .i64 0, .int .i64 0] 44)) := by (repeat' (first | with_reducible assumption | with_reducible exact Below.refl _ _ | with_reducible refine Below.drew ?_ | with_reducible refine below_drewN ?_ _ | with_reducible refine balloc ?_ _ | with_reducible refine bset ?_ ?_ _ | with_reducible refine Below.setCell ?_ ?_ _ | with_reducible refine Below.alloc ?_ ?_ _ | omega | (simp; done) | (simp; omega)))
  go_enter Tryz.func95, Tryz.ntmps95
  go_upto_region 1 with (fail)
  generalize ((w.alloc (.cells #[.int .i64 a.e, .int .i64 a.n, .int .i64 a.w, .int .i64 a.s, .int .i64 b.e, .int .i64 b.n, .int .i64 b.w, .int .i64 b.s] 125)).alloc (.cells #[.int .i64 0, .int .i64 0, .int .i64 0, .int .i64 0] 44)) = W0 at X0 X1 hB0 ⊢
  have z0 := X0.lt
  have z1 := X1.lt
  go_upto_region 2 with (fail)
  have hb1 : Below W0.heap.size W0 ((W0.alloc (.cells #[.int .i64 1] 3)).alloc (.cells #[.int .i64 3] 3)) := by (repeat' (first | with_reducible assumption | with_reducible exact Below.refl _ _ | with_reducible refine Below.drew ?_ | with_reducible refine below_drewN ?_ _ | with_reducible refine balloc ?_ _ | with_reducible refine bset ?_ ?_ _ | with_reducible refine Below.setCell ?_ ?_ _ | with_reducible refine Below.alloc ?_ ?_ _ | omega | (simp; done) | (simp; omega)))
  have X6 : Bx ((W0.alloc (.cells #[.int .i64 1] 3)).alloc (.cells #[.int .i64 3] 3)) W0.heap.size #[.int .i64 1] := (Bx.new W0 #[.int .i64 1] 3).alloc _
  have X7 : Bx ((W0.alloc (.cells #[.int .i64 1] 3)).alloc (.cells #[.int .i64 3] 3)) (W0.heap.size + 1) #[.int .i64 3] := Bx.newE (by simp) #[.int .i64 3] 3
  generalize (W0.alloc (.cells #[.int .i64 1] 3)).alloc (.cells #[.int .i64 3] 3) = W1 at *
  replace X0 := X0.below hb1; replace X1 := X1.below hb1
  have hB := bvia hB0 hb1
  have hs1 := hb1.size
  clear hb1 hB0
  have r0 : ∀ Y, Below W1.heap.size W1 Y → Y.cell? ⟨w.heap.size, 1, none⟩ = some (.int .i64 a.n) := fun Y h => (X0.below h).at_ 1 rfl
  have r2 : ∀ Y, Below W1.heap.size W1 Y → Y.cell? ⟨w.heap.size, 3, none⟩ = some (.int .i64 a.s) := fun Y h => (X0.below h).at_ 3 rfl
  have r4 : ∀ Y, Below W1.heap.size W1 Y → Y.cell? ⟨w.heap.size, 5, none⟩ = some (.int .i64 b.n) := fun Y h => (X0.below h).at_ 5 rfl
  have r6 : ∀ Y, Below W1.heap.size W1 Y → Y.cell? ⟨w.heap.size, 7, none⟩ = some (.int .i64 b.s) := fun Y h => (X0.below h).at_ 7 rfl
  have s6 : ∀ Y, Below W1.heap.size W1 Y → Y.cell? ⟨W0.heap.size, 0, none⟩ = some (.int .i64 1) := fun Y h => (X6.below h).at_ 0 rfl
  have s7 : ∀ Y, Below W1.heap.size W1 Y → Y.cell? ⟨W0.heap.size + 1, 0, none⟩ = some (.int .i64 3) := fun Y h => (X7.below h).at_ 0 rfl
  go_region_held3 (fun Y => Below W1.heap.size W1 Y) ((repeat' (first | with_reducible assumption | with_reducible exact Below.refl _ _ | with_reducible refine Below.drew ?_ | with_reducible refine below_drewN ?_ _ | with_reducible refine balloc ?_ _ | with_reducible refine bset ?_ ?_ _ | with_reducible refine Below.setCell ?_ ?_ _ | with_reducible refine Below.alloc ?_ ?_ _ | omega | (simp; done) | (simp; omega)))) (fail)
  all_goals
    clear r0 r2 r4 r6 s6 s7
    have X8 := (Bx.new W1 #[.int .i64 a.n, .int .i64 a.s, .int .i64 b.s, .int .i64 b.n] 44).drew
    have hb2 : Below W1.heap.size W1 (W1.alloc (.cells #[.int .i64 a.n, .int .i64 a.s, .int .i64 b.s, .int .i64 b.n] 44)).drew := by (repeat' (first | with_reducible assumption | with_reducible exact Below.refl _ _ | with_reducible refine Below.drew ?_ | with_reducible refine below_drewN ?_ _ | with_reducible refine balloc ?_ _ | with_reducible refine bset ?_ ?_ _ | with_reducible refine Below.setCell ?_ ?_ _ | with_reducible refine Below.alloc ?_ ?_ _ | omega | (simp; done) | (simp; omega)))
    generalize (W1.alloc (.cells #[.int .i64 a.n, .int .i64 a.s, .int .i64 b.s, .int .i64 b.n] 44)).drew = W2 at *
    replace X0 := X0.below hb2; replace X1 := X1.below hb2; replace X6 := X6.below hb2; replace X7 := X7.below hb2
    replace hB := bvia hB hb2
    clear hb2
    have y0 := X8.at_ 0 rfl; have y1 := X8.at_ 1 rfl; have y2 := X8.at_ 2 rfl; have y3 := X8.at_ 3 rfl; have yz := X8.lt
    have xf := X1.free; have xz := X1.lt; have x0 := X1.at_ 0 rfl; have x1 := X1.at_ 1 rfl; have x2 := X1.at_ 2 rfl; have x3 := X1.at_ 3 rfl
    go_wp2_with fail
    refine bodyPost_ret (v := .tuple #[.agg #[.int .i64 a.n, .int .i64 a.s, .int .i64 b.s, .int .i64 b.n], .func (.func 110) #[] #[.pointer (some ⟨w.heap.size, 0, none⟩), .pointer (some ⟨W0.heap.size, 0, none⟩), .pointer (some ⟨W0.heap.size + 1, 0, none⟩)]]) (by simp [results, Tryz.results95, go_sem, x0, x1, x2, x3]) rfl ⟨_, _, _, rfl, by (repeat' (first | with_reducible assumption | (with_reducible refine Bx.newE ?_ _ _; (simp; done)) | with_reducible refine Bx.alloc ?_ _ | with_reducible refine Bx.drew ?_ | with_reducible refine Bx.drewN ?_ _ | with_reducible refine Bx.four ?_ | (with_reducible refine Bx.far2 ?_ ?_ _; (dsimp only; omega)))), by (repeat' (first | with_reducible assumption | (with_reducible refine Bx.newE ?_ _ _; (simp; done)) | with_reducible refine Bx.alloc ?_ _ | with_reducible refine Bx.drew ?_ | with_reducible refine Bx.drewN ?_ _ | with_reducible refine Bx.four ?_ | (with_reducible refine Bx.far2 ?_ ?_ _; (dsimp only; omega)))), by (repeat' (first | with_reducible assumption | (with_reducible refine Bx.newE ?_ _ _; (simp; done)) | with_reducible refine Bx.alloc ?_ _ | with_reducible refine Bx.drew ?_ | with_reducible refine Bx.drewN ?_ _ | with_reducible refine Bx.four ?_ | (with_reducible refine Bx.far2 ?_ ?_ _; (dsimp only; omega)))), Nat.le_refl _, by omega, by omega, by (repeat' (first | with_reducible assumption | with_reducible exact Below.refl _ _ | with_reducible refine Below.drew ?_ | with_reducible refine below_drewN ?_ _ | with_reducible refine balloc ?_ _ | with_reducible refine bset ?_ ?_ _ | with_reducible refine Below.setCell ?_ ?_ _ | with_reducible refine Below.alloc ?_ ?_ _ | omega | (simp; done) | (simp; omega)))⟩
set_option maxRecDepth 100000 in
set_option maxHeartbeats 4000000 in
theorem pair_back0 (a b c : C4) (bp b6 b7 : Nat) (w : World) (XP : Bx w bp #[.int .i64 a.e, .int .i64 a.n, .int .i64 a.w, .int .i64 a.s, .int .i64 b.e, .int .i64 b.n, .int .i64 b.w, .int .i64 b.s]) (X6 : Bx w b6 #[.int .i64 0]) (X7 : Bx w b7 #[.int .i64 2]) (h6 : bp ≠ b6) (h7 : bp ≠ b7) :
    Calls Tryz.prog 110 #[.agg #[.int .i64 c.e, .int .i64 c.n, .int .i64 c.w, .int .i64 c.s], .pointer (some ⟨bp, 0, none⟩), .pointer (some ⟨b6, 0, none⟩), .pointer (some ⟨b7, 0, none⟩)] w fun e w' => e = .returned (.agg #[.int .i64 c.e, .int .i64 a.n, .int .i64 c.n, .int .i64 a.s, .int .i64 c.s, .int .i64 b.n, .int .i64 c.w, .int .i64 b.s]) ∧ But (fun q => q = bp) w w' := by
  have X0 := (Bx.new w #[.int .i64 c.e, .int .i64 c.n, .int .i64 c.w, .int .i64 c.s] 44).alloc (.cells #[.int .i64 0, .int .i64 0, .int .i64 0, .int .i64 0, .int .i64 0, .int .i64 0, .int .i64 0, .int .i64 0] 125)
  have X1 := Bx.new (w.alloc (.cells #[.int .i64 c.e, .int .i64 c.n, .int .i64 c.w, .int .i64 c.s] 44)) #[.int .i64 0, .int .i64 0, .int .i64 0, .int .i64 0, .int .i64 0, .int .i64 0, .int .i64 0, .int .i64 0] 125
  simp only [World.size_alloc] at X1
  have hB0 : Below w.heap.size w ((w.alloc (.cells #[.int .i64 c.e, .int .i64 c.n, .int .i64 c.w, .int .i64 c.s] 44)).alloc (.cells #[.int .i64 0, .int .i64 0, .int .i64 0, .int .i64 0, .int .i64 0, .int .i64 0, .int .i64 0, .int .i64 0] 125)) := by (repeat' (first | with_reducible assumption | with_reducible exact Below.refl _ _ | with_reducible refine Below.drew ?_ | with_reducible refine below_drewN ?_ _ | with_reducible refine balloc ?_ _ | with_reducible refine bset ?_ ?_ _ | with_reducible refine Below.setCell ?_ ?_ _ | with_reducible refine Below.alloc ?_ ?_ _ | omega | (simp; done) | (simp; omega)))
  go_enter Tryz.func110, Tryz.ntmps110
  go_upto_region 1 with (fail)
  generalize ((w.alloc (.cells #[.int .i64 c.e, .int .i64 c.n, .int .i64 c.w, .int .i64 c.s] 44)).alloc (.cells #[.int .i64 0, .int .i64 0, .int .i64 0, .int .i64 0, .int .i64 0, .int .i64 0, .int .i64 0, .int .i64 0] 125)) = W0 at X0 X1 hB0 ⊢
  have z0 := X0.lt
  have z1 := X1.lt
  have zp := XP.lt; have z6 := X6.lt; have z7 := X7.lt
  replace XP := XP.below hB0; replace X6 := X6.below hB0; replace X7 := X7.below hB0
  have hs0 := hB0.size
  have n0 : bp ≠ w.heap.size := by omega
  have n1 : bp ≠ w.heap.size + 1 := by omega
  have r0 : ∀ Y, But (fun q => q = bp) W0 Y → Y.cell? ⟨w.heap.size, 0, none⟩ = some (.int .i64 c.e) := fun Y h => (X0.but h fun e => n0 e.symm).at_ 0 rfl
  have r1 : ∀ Y, But (fun q => q = bp) W0 Y → Y.cell? ⟨w.heap.size, 1, none⟩ = some (.int .i64 c.n) := fun Y h => (X0.but h fun e => n0 e.symm).at_ 1 rfl
  have r2 : ∀ Y, But (fun q => q = bp) W0 Y → Y.cell? ⟨w.heap.size, 2, none⟩ = some (.int .i64 c.w) := fun Y h => (X0.but h fun e => n0 e.symm).at_ 2 rfl
  have r3 : ∀ Y, But (fun q => q = bp) W0 Y → Y.cell? ⟨w.heap.size, 3, none⟩ = some (.int .i64 c.s) := fun Y h => (X0.but h fun e => n0 e.symm).at_ 3 rfl
  have s6 : ∀ Y, But (fun q => q = bp) W0 Y → Y.cell? ⟨b6, 0, none⟩ = some (.int .i64 0) := fun Y h => (X6.but h fun e => h6 e.symm).at_ 0 rfl
  have s7 : ∀ Y, But (fun q => q = bp) W0 Y → Y.cell? ⟨b7, 0, none⟩ = some (.int .i64 2) := fun Y h => (X7.but h fun e => h7 e.symm).at_ 0 rfl
  refine wp_region_S (fun Y => But (fun q => q = bp) W0 Y) 24 (by kernel_rfl) ?_
  refine anyS_take (i := 0) rfl (by kernel_rfl) (fun _ _ _ h => h) (Or.inl ⟨by rfl, fun Y hYb => (by (try dsimp only at hYb); go_simp; rfl)⟩) (by repeat' (first | with_reducible assumption | with_reducible exact But.refl _ _ | with_reducible refine But.drew ?_ | with_reducible refine But.drewN ?_ _)) ?_
  refine anyS_take (i := 1) rfl (by kernel_rfl) (fun _ _ _ h => h) (Or.inl ⟨by rfl, fun Y hYb => (by (try dsimp only at hYb); go_simp; rfl)⟩) (by repeat' (first | with_reducible assumption | with_reducible exact But.refl _ _ | with_reducible refine But.drew ?_ | with_reducible refine But.drewN ?_ _)) ?_
  refine anyS_take (i := 2) rfl (by kernel_rfl) (fun _ _ _ h => h) (Or.inl ⟨by rfl, fun Y hYb => (by (try dsimp only at hYb); go_simp; rfl)⟩) (by repeat' (first | with_reducible assumption | with_reducible exact But.refl _ _ | with_reducible refine But.drew ?_ | with_reducible refine But.drewN ?_ _)) ?_
  refine anyS_take (i := 3) rfl (by kernel_rfl) (fun _ _ _ h => h) (Or.inl ⟨by rfl, fun Y hYb => (by (try dsimp only at hYb); go_simp; rfl)⟩) (by repeat' (first | with_reducible assumption | with_reducible exact But.refl _ _ | with_reducible refine But.drew ?_ | with_reducible refine But.drewN ?_ _)) ?_
  refine anyS_pure (i := 4) rfl (by kernel_rfl) (fun _ _ _ h => h) (Or.inl ⟨by rfl, fun Y hYb => (by clear hYb; go_simp; rfl)⟩) ?_
  refine anyS_take (i := 5) rfl (by kernel_rfl) (fun _ _ _ h => h) (Or.inl ⟨by rfl, fun Y hYb => (by (try dsimp only at hYb); go_simp; rfl)⟩) (by repeat' (first | with_reducible assumption | with_reducible exact But.refl _ _ | with_reducible refine But.drew ?_ | with_reducible refine But.drewN ?_ _)) ?_
  refine anyS_pure (i := 6) rfl (by kernel_rfl) (fun _ _ _ h => h) (Or.inl ⟨by rfl, fun Y hYb => (by clear hYb; go_simp; rfl)⟩) ?_
  refine anyS_take (i := 7) rfl (by kernel_rfl) (fun _ _ _ h => h) (Or.inl ⟨by rfl, fun Y hYb => (by (try dsimp only at hYb); go_simp; rfl)⟩) (by repeat' (first | with_reducible assumption | with_reducible exact But.refl _ _ | with_reducible refine But.drew ?_ | with_reducible refine But.drewN ?_ _)) ?_
  refine anyS_pure (i := 8) rfl (by kernel_rfl) (fun _ _ _ h => h) (Or.inl ⟨by rfl, fun Y hYb => (by clear hYb; go_simp; rfl)⟩) ?_
  refine anyS_take (i := 9) rfl (by kernel_rfl) (fun _ _ _ h => h) (Or.inl ⟨by rfl, fun Y hYb => (by (try dsimp only at hYb); go_simp; rfl)⟩) (by repeat' (first | with_reducible assumption | with_reducible exact But.refl _ _ | with_reducible refine But.drew ?_ | with_reducible refine But.drewN ?_ _)) ?_
  refine anyS_pure (i := 10) rfl (by kernel_rfl) (fun _ _ _ h => h) (Or.inl ⟨by rfl, fun Y hYb => (by clear hYb; go_simp; rfl)⟩) ?_
  refine anyS_take (i := 11) rfl (by kernel_rfl) (fun _ _ _ h => h) (Or.inl ⟨by rfl, fun Y hYb => (by (try dsimp only at hYb); go_simp; rfl)⟩) (by repeat' (first | with_reducible assumption | with_reducible exact But.refl _ _ | with_reducible refine But.drew ?_ | with_reducible refine But.drewN ?_ _)) ?_
  refine anyS_pure (i := 12) rfl (by kernel_rfl) (fun _ _ _ h => h) (Or.inl ⟨by rfl, fun Y hYb => (by clear hYb; go_simp; rfl)⟩) ?_
  refine anyS_pure (i := 13) rfl (by kernel_rfl) (fun _ _ _ h => h) (Or.inl ⟨by rfl, fun Y hYb => (by clear hYb; go_simp; rfl)⟩) ?_
  refine anyS_pure (i := 15) rfl (by kernel_rfl) (fun _ _ _ h => h) (Or.inl ⟨by rfl, fun Y hYb => (by clear hYb; go_simp; rfl)⟩) ?_
  refine anyS_pure (i := 18) rfl (by kernel_rfl) (fun _ _ _ h => h) (Or.inl ⟨by rfl, fun Y hYb => (by clear hYb; go_simp; rfl)⟩) ?_
  refine anyS_pure (i := 21) rfl (by kernel_rfl) (fun _ _ _ h => h) (Or.inl ⟨by rfl, fun Y hYb => (by clear hYb; go_simp; rfl)⟩) ?_
  have xf := XP.free
  have y0 := XP.at_ 0 rfl; have y1 := XP.at_ 2 rfl; have y2 := XP.at_ 6 rfl; have y3 := XP.at_ 4 rfl
  have e1 : But (fun q => q = bp) W0 (W0.setCell ⟨bp, 0, none⟩ (.int .i64 c.e)) := But.set_ (But.refl (fun q => q = bp) W0) (p := ⟨bp, 0, none⟩) rfl _
  have e2 : But (fun q => q = bp) W0 ((W0.setCell ⟨bp, 0, none⟩ (.int .i64 c.e)).setCell ⟨bp, 2, none⟩ (.int .i64 c.n)) := e1.set_ (p := ⟨bp, 2, none⟩) rfl _
  have e3 : But (fun q => q = bp) W0 (((W0.setCell ⟨bp, 0, none⟩ (.int .i64 c.e)).setCell ⟨bp, 2, none⟩ (.int .i64 c.n)).setCell ⟨bp, 6, none⟩ (.int .i64 c.w)) := e2.set_ (p := ⟨bp, 6, none⟩) rfl _
  have e4 : But (fun q => q = bp) W0 ((((W0.setCell ⟨bp, 0, none⟩ (.int .i64 c.e)).setCell ⟨bp, 2, none⟩ (.int .i64 c.n)).setCell ⟨bp, 6, none⟩ (.int .i64 c.w)).setCell ⟨bp, 4, none⟩ (.int .i64 c.s)) := e3.set_ (p := ⟨bp, 4, none⟩) rfl _
  refine anyS_one (i := 14) (by kernel_rfl) rfl (by rfl) (fun K hK => ?_)
  go_simp
  refine hK _ _ (fun _ _ => e1.drew) ?_
  clear hK K
  refine anyS_pure (i := 16) rfl (by kernel_rfl) (fun _ _ _ h => h) (Or.inl ⟨by rfl, fun Y hYb => (by clear hYb; go_simp; rfl)⟩) ?_
  refine anyS_one (i := 17) (by kernel_rfl) rfl (by rfl) (fun K hK => ?_)
  go_simp
  refine hK _ _ (fun _ _ => e2.drew) ?_
  clear hK K
  refine anyS_pure (i := 19) rfl (by kernel_rfl) (fun _ _ _ h => h) (Or.inl ⟨by rfl, fun Y hYb => (by clear hYb; go_simp; rfl)⟩) ?_
  refine anyS_one (i := 20) (by kernel_rfl) rfl (by rfl) (fun K hK => ?_)
  go_simp
  refine hK _ _ (fun _ _ => e3.drew) ?_
  clear hK K
  refine anyS_pure (i := 22) rfl (by kernel_rfl) (fun _ _ _ h => h) (Or.inl ⟨by rfl, fun Y hYb => (by clear hYb; go_simp; rfl)⟩) ?_
  refine anyS_one (i := 23) (by kernel_rfl) rfl (by rfl) (fun K hK => ?_)
  go_simp
  refine hK _ _ (fun _ _ => e4.drew) ?_
  clear hK K
  refine anyS_done (by kernel_rfl) ?_ _
  replace XP := (((XP.set_ 0 (by simp) (.int .i64 c.e)).set_ 2 (by simp) (.int .i64 c.n)).set_ 6 (by simp) (.int .i64 c.w)).set_ 4 (by simp) (.int .i64 c.s)
  simp only [List.setIfInBounds_toArray, List.set_cons_zero, List.set_cons_succ] at XP
  replace X1 := X1.but e4 fun e => n1 e.symm
  have hU := (but_below (C := fun q => q = bp) hB0 (Nat.le_refl _)).trans e4
  have hd : ((((W0.setCell ⟨bp, 0, none⟩ (.int .i64 c.e)).setCell ⟨bp, 2, none⟩ (.int .i64 c.n)).setCell ⟨bp, 6, none⟩ (.int .i64 c.w)).setCell ⟨bp, 4, none⟩ (.int .i64 c.s)).heap.size = W0.heap.size := by simp
  clear r0 r1 r2 r3 s6 s7 e1 e2 e3 e4 y0 y1 y2 y3 xf
  generalize (((W0.setCell ⟨bp, 0, none⟩ (.int .i64 c.e)).setCell ⟨bp, 2, none⟩ (.int .i64 c.n)).setCell ⟨bp, 6, none⟩ (.int .i64 c.w)).setCell ⟨bp, 4, none⟩ (.int .i64 c.s) = W1 at *
  replace XP := XP.drew; replace X1 := X1.drew; replace hU := hU.drew
  generalize W1.drew = W2 at *
  clear hd
  have x0 := XP.at_ 0 rfl; have x1 := XP.at_ 1 rfl; have x2 := XP.at_ 2 rfl; have x3 := XP.at_ 3 rfl; have x4 := XP.at_ 4 rfl; have x5 := XP.at_ 5 rfl; have x6 := XP.at_ 6 rfl; have x7 := XP.at_ 7 rfl; have xz := XP.lt
  have y0 := X1.at_ 0 rfl; have y1 := X1.at_ 1 rfl; have y2 := X1.at_ 2 rfl; have y3 := X1.at_ 3 rfl; have y4 := X1.at_ 4 rfl; have y5 := X1.at_ 5 rfl; have y6 := X1.at_ 6 rfl; have y7 := X1.at_ 7 rfl; have yz := X1.lt; have yf := X1.free
  go_wp2_with fail
  refine bodyPost_ret (v := .agg #[.int .i64 c.e, .int .i64 a.n, .int .i64 c.n, .int .i64 a.s, .int .i64 c.s, .int .i64 b.n, .int .i64 c.w, .int .i64 b.s]) (by simp [results, Tryz.results110, go_sem, y0, y1, y2, y3, y4, y5, y6, y7]) rfl ⟨rfl, ?_⟩
  have n8 : ∀ o, w.heap.size ≤ (⟨w.heap.size + 1, o, none⟩ : Addr).block := fun o => by dsimp only; omega
  exact (((((((hU.setN (n8 0) _).setN (n8 1) _).setN (n8 2) _).setN (n8 3) _).setN (n8 4) _).setN (n8 5) _).setN (n8 6) _).setN (n8 7) _
set_option maxRecDepth 100000 in
set_option maxHeartbeats 4000000 in
theorem pair_back1 (a b c : C4) (bp b6 b7 : Nat) (w : World) (XP : Bx w bp #[.int .i64 a.e, .int .i64 a.n, .int .i64 a.w, .int .i64 a.s, .int .i64 b.e, .int .i64 b.n, .int .i64 b.w, .int .i64 b.s]) (X6 : Bx w b6 #[.int .i64 1]) (X7 : Bx w b7 #[.int .i64 3]) (h6 : bp ≠ b6) (h7 : bp ≠ b7) :
    Calls Tryz.prog 110 #[.agg #[.int .i64 c.e, .int .i64 c.n, .int .i64 c.w, .int .i64 c.s], .pointer (some ⟨bp, 0, none⟩), .pointer (some ⟨b6, 0, none⟩), .pointer (some ⟨b7, 0, none⟩)] w fun e w' => e = .returned (.agg #[.int .i64 a.e, .int .i64 c.e, .int .i64 a.w, .int .i64 c.n, .int .i64 b.e, .int .i64 c.s, .int .i64 b.w, .int .i64 c.w]) ∧ But (fun q => q = bp) w w' := by
  have X0 := (Bx.new w #[.int .i64 c.e, .int .i64 c.n, .int .i64 c.w, .int .i64 c.s] 44).alloc (.cells #[.int .i64 0, .int .i64 0, .int .i64 0, .int .i64 0, .int .i64 0, .int .i64 0, .int .i64 0, .int .i64 0] 125)
  have X1 := Bx.new (w.alloc (.cells #[.int .i64 c.e, .int .i64 c.n, .int .i64 c.w, .int .i64 c.s] 44)) #[.int .i64 0, .int .i64 0, .int .i64 0, .int .i64 0, .int .i64 0, .int .i64 0, .int .i64 0, .int .i64 0] 125
  simp only [World.size_alloc] at X1
  have hB0 : Below w.heap.size w ((w.alloc (.cells #[.int .i64 c.e, .int .i64 c.n, .int .i64 c.w, .int .i64 c.s] 44)).alloc (.cells #[.int .i64 0, .int .i64 0, .int .i64 0, .int .i64 0, .int .i64 0, .int .i64 0, .int .i64 0, .int .i64 0] 125)) := by (repeat' (first | with_reducible assumption | with_reducible exact Below.refl _ _ | with_reducible refine Below.drew ?_ | with_reducible refine below_drewN ?_ _ | with_reducible refine balloc ?_ _ | with_reducible refine bset ?_ ?_ _ | with_reducible refine Below.setCell ?_ ?_ _ | with_reducible refine Below.alloc ?_ ?_ _ | omega | (simp; done) | (simp; omega)))
  go_enter Tryz.func110, Tryz.ntmps110
  go_upto_region 1 with (fail)
  generalize ((w.alloc (.cells #[.int .i64 c.e, .int .i64 c.n, .int .i64 c.w, .int .i64 c.s] 44)).alloc (.cells #[.int .i64 0, .int .i64 0, .int .i64 0, .int .i64 0, .int .i64 0, .int .i64 0, .int .i64 0, .int .i64 0] 125)) = W0 at X0 X1 hB0 ⊢
  have z0 := X0.lt
  have z1 := X1.lt
  have zp := XP.lt; have z6 := X6.lt; have z7 := X7.lt
  replace XP := XP.below hB0; replace X6 := X6.below hB0; replace X7 := X7.below hB0
  have hs0 := hB0.size
  have n0 : bp ≠ w.heap.size := by omega
  have n1 : bp ≠ w.heap.size + 1 := by omega
  have r0 : ∀ Y, But (fun q => q = bp) W0 Y → Y.cell? ⟨w.heap.size, 0, none⟩ = some (.int .i64 c.e) := fun Y h => (X0.but h fun e => n0 e.symm).at_ 0 rfl
  have r1 : ∀ Y, But (fun q => q = bp) W0 Y → Y.cell? ⟨w.heap.size, 1, none⟩ = some (.int .i64 c.n) := fun Y h => (X0.but h fun e => n0 e.symm).at_ 1 rfl
  have r2 : ∀ Y, But (fun q => q = bp) W0 Y → Y.cell? ⟨w.heap.size, 2, none⟩ = some (.int .i64 c.w) := fun Y h => (X0.but h fun e => n0 e.symm).at_ 2 rfl
  have r3 : ∀ Y, But (fun q => q = bp) W0 Y → Y.cell? ⟨w.heap.size, 3, none⟩ = some (.int .i64 c.s) := fun Y h => (X0.but h fun e => n0 e.symm).at_ 3 rfl
  have s6 : ∀ Y, But (fun q => q = bp) W0 Y → Y.cell? ⟨b6, 0, none⟩ = some (.int .i64 1) := fun Y h => (X6.but h fun e => h6 e.symm).at_ 0 rfl
  have s7 : ∀ Y, But (fun q => q = bp) W0 Y → Y.cell? ⟨b7, 0, none⟩ = some (.int .i64 3) := fun Y h => (X7.but h fun e => h7 e.symm).at_ 0 rfl
  refine wp_region_S (fun Y => But (fun q => q = bp) W0 Y) 24 (by kernel_rfl) ?_
  refine anyS_take (i := 0) rfl (by kernel_rfl) (fun _ _ _ h => h) (Or.inl ⟨by rfl, fun Y hYb => (by (try dsimp only at hYb); go_simp; rfl)⟩) (by repeat' (first | with_reducible assumption | with_reducible exact But.refl _ _ | with_reducible refine But.drew ?_ | with_reducible refine But.drewN ?_ _)) ?_
  refine anyS_take (i := 1) rfl (by kernel_rfl) (fun _ _ _ h => h) (Or.inl ⟨by rfl, fun Y hYb => (by (try dsimp only at hYb); go_simp; rfl)⟩) (by repeat' (first | with_reducible assumption | with_reducible exact But.refl _ _ | with_reducible refine But.drew ?_ | with_reducible refine But.drewN ?_ _)) ?_
  refine anyS_take (i := 2) rfl (by kernel_rfl) (fun _ _ _ h => h) (Or.inl ⟨by rfl, fun Y hYb => (by (try dsimp only at hYb); go_simp; rfl)⟩) (by repeat' (first | with_reducible assumption | with_reducible exact But.refl _ _ | with_reducible refine But.drew ?_ | with_reducible refine But.drewN ?_ _)) ?_
  refine anyS_take (i := 3) rfl (by kernel_rfl) (fun _ _ _ h => h) (Or.inl ⟨by rfl, fun Y hYb => (by (try dsimp only at hYb); go_simp; rfl)⟩) (by repeat' (first | with_reducible assumption | with_reducible exact But.refl _ _ | with_reducible refine But.drew ?_ | with_reducible refine But.drewN ?_ _)) ?_
  refine anyS_pure (i := 4) rfl (by kernel_rfl) (fun _ _ _ h => h) (Or.inl ⟨by rfl, fun Y hYb => (by clear hYb; go_simp; rfl)⟩) ?_
  refine anyS_take (i := 5) rfl (by kernel_rfl) (fun _ _ _ h => h) (Or.inl ⟨by rfl, fun Y hYb => (by (try dsimp only at hYb); go_simp; rfl)⟩) (by repeat' (first | with_reducible assumption | with_reducible exact But.refl _ _ | with_reducible refine But.drew ?_ | with_reducible refine But.drewN ?_ _)) ?_
  refine anyS_pure (i := 6) rfl (by kernel_rfl) (fun _ _ _ h => h) (Or.inl ⟨by rfl, fun Y hYb => (by clear hYb; go_simp; rfl)⟩) ?_
  refine anyS_take (i := 7) rfl (by kernel_rfl) (fun _ _ _ h => h) (Or.inl ⟨by rfl, fun Y hYb => (by (try dsimp only at hYb); go_simp; rfl)⟩) (by repeat' (first | with_reducible assumption | with_reducible exact But.refl _ _ | with_reducible refine But.drew ?_ | with_reducible refine But.drewN ?_ _)) ?_
  refine anyS_pure (i := 8) rfl (by kernel_rfl) (fun _ _ _ h => h) (Or.inl ⟨by rfl, fun Y hYb => (by clear hYb; go_simp; rfl)⟩) ?_
  refine anyS_take (i := 9) rfl (by kernel_rfl) (fun _ _ _ h => h) (Or.inl ⟨by rfl, fun Y hYb => (by (try dsimp only at hYb); go_simp; rfl)⟩) (by repeat' (first | with_reducible assumption | with_reducible exact But.refl _ _ | with_reducible refine But.drew ?_ | with_reducible refine But.drewN ?_ _)) ?_
  refine anyS_pure (i := 10) rfl (by kernel_rfl) (fun _ _ _ h => h) (Or.inl ⟨by rfl, fun Y hYb => (by clear hYb; go_simp; rfl)⟩) ?_
  refine anyS_take (i := 11) rfl (by kernel_rfl) (fun _ _ _ h => h) (Or.inl ⟨by rfl, fun Y hYb => (by (try dsimp only at hYb); go_simp; rfl)⟩) (by repeat' (first | with_reducible assumption | with_reducible exact But.refl _ _ | with_reducible refine But.drew ?_ | with_reducible refine But.drewN ?_ _)) ?_
  refine anyS_pure (i := 12) rfl (by kernel_rfl) (fun _ _ _ h => h) (Or.inl ⟨by rfl, fun Y hYb => (by clear hYb; go_simp; rfl)⟩) ?_
  refine anyS_pure (i := 13) rfl (by kernel_rfl) (fun _ _ _ h => h) (Or.inl ⟨by rfl, fun Y hYb => (by clear hYb; go_simp; rfl)⟩) ?_
  refine anyS_pure (i := 15) rfl (by kernel_rfl) (fun _ _ _ h => h) (Or.inl ⟨by rfl, fun Y hYb => (by clear hYb; go_simp; rfl)⟩) ?_
  refine anyS_pure (i := 18) rfl (by kernel_rfl) (fun _ _ _ h => h) (Or.inl ⟨by rfl, fun Y hYb => (by clear hYb; go_simp; rfl)⟩) ?_
  refine anyS_pure (i := 21) rfl (by kernel_rfl) (fun _ _ _ h => h) (Or.inl ⟨by rfl, fun Y hYb => (by clear hYb; go_simp; rfl)⟩) ?_
  have xf := XP.free
  have y0 := XP.at_ 1 rfl; have y1 := XP.at_ 3 rfl; have y2 := XP.at_ 7 rfl; have y3 := XP.at_ 5 rfl
  have e1 : But (fun q => q = bp) W0 (W0.setCell ⟨bp, 1, none⟩ (.int .i64 c.e)) := But.set_ (But.refl (fun q => q = bp) W0) (p := ⟨bp, 1, none⟩) rfl _
  have e2 : But (fun q => q = bp) W0 ((W0.setCell ⟨bp, 1, none⟩ (.int .i64 c.e)).setCell ⟨bp, 3, none⟩ (.int .i64 c.n)) := e1.set_ (p := ⟨bp, 3, none⟩) rfl _
  have e3 : But (fun q => q = bp) W0 (((W0.setCell ⟨bp, 1, none⟩ (.int .i64 c.e)).setCell ⟨bp, 3, none⟩ (.int .i64 c.n)).setCell ⟨bp, 7, none⟩ (.int .i64 c.w)) := e2.set_ (p := ⟨bp, 7, none⟩) rfl _
  have e4 : But (fun q => q = bp) W0 ((((W0.setCell ⟨bp, 1, none⟩ (.int .i64 c.e)).setCell ⟨bp, 3, none⟩ (.int .i64 c.n)).setCell ⟨bp, 7, none⟩ (.int .i64 c.w)).setCell ⟨bp, 5, none⟩ (.int .i64 c.s)) := e3.set_ (p := ⟨bp, 5, none⟩) rfl _
  refine anyS_one (i := 14) (by kernel_rfl) rfl (by rfl) (fun K hK => ?_)
  go_simp
  refine hK _ _ (fun _ _ => e1.drew) ?_
  clear hK K
  refine anyS_pure (i := 16) rfl (by kernel_rfl) (fun _ _ _ h => h) (Or.inl ⟨by rfl, fun Y hYb => (by clear hYb; go_simp; rfl)⟩) ?_
  refine anyS_one (i := 17) (by kernel_rfl) rfl (by rfl) (fun K hK => ?_)
  go_simp
  refine hK _ _ (fun _ _ => e2.drew) ?_
  clear hK K
  refine anyS_pure (i := 19) rfl (by kernel_rfl) (fun _ _ _ h => h) (Or.inl ⟨by rfl, fun Y hYb => (by clear hYb; go_simp; rfl)⟩) ?_
  refine anyS_one (i := 20) (by kernel_rfl) rfl (by rfl) (fun K hK => ?_)
  go_simp
  refine hK _ _ (fun _ _ => e3.drew) ?_
  clear hK K
  refine anyS_pure (i := 22) rfl (by kernel_rfl) (fun _ _ _ h => h) (Or.inl ⟨by rfl, fun Y hYb => (by clear hYb; go_simp; rfl)⟩) ?_
  refine anyS_one (i := 23) (by kernel_rfl) rfl (by rfl) (fun K hK => ?_)
  go_simp
  refine hK _ _ (fun _ _ => e4.drew) ?_
  clear hK K
  refine anyS_done (by kernel_rfl) ?_ _
  replace XP := (((XP.set_ 1 (by simp) (.int .i64 c.e)).set_ 3 (by simp) (.int .i64 c.n)).set_ 7 (by simp) (.int .i64 c.w)).set_ 5 (by simp) (.int .i64 c.s)
  simp only [List.setIfInBounds_toArray, List.set_cons_zero, List.set_cons_succ] at XP
  replace X1 := X1.but e4 fun e => n1 e.symm
  have hU := (but_below (C := fun q => q = bp) hB0 (Nat.le_refl _)).trans e4
  have hd : ((((W0.setCell ⟨bp, 1, none⟩ (.int .i64 c.e)).setCell ⟨bp, 3, none⟩ (.int .i64 c.n)).setCell ⟨bp, 7, none⟩ (.int .i64 c.w)).setCell ⟨bp, 5, none⟩ (.int .i64 c.s)).heap.size = W0.heap.size := by simp
  clear r0 r1 r2 r3 s6 s7 e1 e2 e3 e4 y0 y1 y2 y3 xf
  generalize (((W0.setCell ⟨bp, 1, none⟩ (.int .i64 c.e)).setCell ⟨bp, 3, none⟩ (.int .i64 c.n)).setCell ⟨bp, 7, none⟩ (.int .i64 c.w)).setCell ⟨bp, 5, none⟩ (.int .i64 c.s) = W1 at *
  replace XP := XP.drew; replace X1 := X1.drew; replace hU := hU.drew
  generalize W1.drew = W2 at *
  clear hd
  have x0 := XP.at_ 0 rfl; have x1 := XP.at_ 1 rfl; have x2 := XP.at_ 2 rfl; have x3 := XP.at_ 3 rfl; have x4 := XP.at_ 4 rfl; have x5 := XP.at_ 5 rfl; have x6 := XP.at_ 6 rfl; have x7 := XP.at_ 7 rfl; have xz := XP.lt
  have y0 := X1.at_ 0 rfl; have y1 := X1.at_ 1 rfl; have y2 := X1.at_ 2 rfl; have y3 := X1.at_ 3 rfl; have y4 := X1.at_ 4 rfl; have y5 := X1.at_ 5 rfl; have y6 := X1.at_ 6 rfl; have y7 := X1.at_ 7 rfl; have yz := X1.lt; have yf := X1.free
  go_wp2_with fail
  refine bodyPost_ret (v := .agg #[.int .i64 a.e, .int .i64 c.e, .int .i64 a.w, .int .i64 c.n, .int .i64 b.e, .int .i64 c.s, .int .i64 b.w, .int .i64 c.w]) (by simp [results, Tryz.results110, go_sem, y0, y1, y2, y3, y4, y5, y6, y7]) rfl ⟨rfl, ?_⟩
  have n8 : ∀ o, w.heap.size ≤ (⟨w.heap.size + 1, o, none⟩ : Addr).block := fun o => by dsimp only; omega
  exact (((((((hU.setN (n8 0) _).setN (n8 1) _).setN (n8 2) _).setN (n8 3) _).setN (n8 4) _).setN (n8 5) _).setN (n8 6) _).setN (n8 7) _
theorem valid_meet {a b : C4} (ha : validC a = true) (hb : validC b = true) (hm : a.mass + b.mass ≤ 1000000000) : validC ⟨a.e, a.w, b.w, b.e⟩ = true ∧ validC ⟨a.n, a.s, b.s, b.n⟩ = true := by
  have := (validC_iff _).1 ha
  have := (validC_iff _).1 hb
  unfold C4.mass at hm
  exact ⟨(validC_iff _).2 (by dsimp only; omega), (validC_iff _).2 (by dsimp only; omega)⟩
set_option maxRecDepth 100000 in
set_option maxHeartbeats 4000000 in
/-- an exchange by the rule that does nothing -/
theorem pair_by0 (a b : C4) (w : World) (ha : validC a = true) (hb : validC b = true) (hm : a.mass + b.mass ≤ 1000000000) :
    Calls Tryz.prog 71 #[.agg #[.int .i64 a.e, .int .i64 a.n, .int .i64 a.w, .int .i64 a.s, .int .i64 b.e, .int .i64 b.n, .int .i64 b.w, .int .i64 b.s], .func (.func 48) #[] #[], .agg #[.int .i64 0, .int .i64 0], .int .i64 0] w fun e w' => e = .returned (.agg #[.int .i64 a.e, .int .i64 a.n, .int .i64 a.w, .int .i64 a.s, .int .i64 b.e, .int .i64 b.n, .int .i64 b.w, .int .i64 b.s]) ∧ Below w.heap.size w w' := by
  have hru : ruleOk 0 0 := .inl ⟨.inl rfl, rfl⟩
  have hmt := fun W => pair_meeting0 a b W
  have hco := fun W => cell_Collide ⟨a.e, a.w, b.w, b.e⟩ 0 0 W (valid_meet ha hb hm).1 hru
  rw [coll_zero] at hco
  dsimp only at hco
  have hbk := fun bp b6 b7 W h1 h2 h3 h4 h5 => pair_back0 a b ⟨a.e, a.w, b.w, b.e⟩ bp b6 b7 W h1 h2 h3 h4 h5
  dsimp only at hbk
  clear ha hb hm hru
  have X0 := ((Bx.new w #[.int .i64 a.e, .int .i64 a.n, .int .i64 a.w, .int .i64 a.s, .int .i64 b.e, .int .i64 b.n, .int .i64 b.w, .int .i64 b.s] 125).alloc (.cells #[.int .i64 0, .int .i64 0] 38)).alloc (.cells #[.int .i64 0, .int .i64 0, .int .i64 0, .int .i64 0, .int .i64 0, .int .i64 0, .int .i64 0, .int .i64 0] 125)
  have X1 := (Bx.new (w.alloc (.cells #[.int .i64 a.e, .int .i64 a.n, .int .i64 a.w, .int .i64 a.s, .int .i64 b.e, .int .i64 b.n, .int .i64 b.w, .int .i64 b.s] 125)) #[.int .i64 0, .int .i64 0] 38).alloc (.cells #[.int .i64 0, .int .i64 0, .int .i64 0, .int .i64 0, .int .i64 0, .int .i64 0, .int .i64 0, .int .i64 0] 125)
  have X2 := Bx.new ((w.alloc (.cells #[.int .i64 a.e, .int .i64 a.n, .int .i64 a.w, .int .i64 a.s, .int .i64 b.e, .int .i64 b.n, .int .i64 b.w, .int .i64 b.s] 125)).alloc (.cells #[.int .i64 0, .int .i64 0] 38)) #[.int .i64 0, .int .i64 0, .int .i64 0, .int .i64 0, .int .i64 0, .int .i64 0, .int .i64 0, .int .i64 0] 125
  simp only [World.size_alloc] at X1 X2
  have hB0 : Below w.heap.size w (((w.alloc (.cells #[.int .i64 a.e, .int .i64 a.n, .int .i64 a.w, .int .i64 a.s, .int .i64 b.e, .int .i64 b.n, .int .i64 b.w, .int .i64 b.s] 125)).alloc (.cells #[.int .i64 0, .int .i64 0] 38)).alloc (.cells #[.int .i64 0, .int .i64 0, .int .i64 0, .int .i64 0, .int .i64 0, .int .i64 0, .int .i64 0, .int .i64 0] 125)) := by (repeat' (first | with_reducible assumption | with_reducible exact Below.refl _ _ | with_reducible refine Below.drew ?_ | with_reducible refine below_drewN ?_ _ | with_reducible refine balloc ?_ _ | with_reducible refine bset ?_ ?_ _ | with_reducible refine Below.setCell ?_ ?_ _ | with_reducible refine Below.alloc ?_ ?_ _ | omega | (simp; done) | (simp; omega)))
  go_enter Tryz.func71, Tryz.ntmps71
  go_wp2_with fail
  generalize (((w.alloc (.cells #[.int .i64 a.e, .int .i64 a.n, .int .i64 a.w, .int .i64 a.s, .int .i64 b.e, .int .i64 b.n, .int .i64 b.w, .int .i64 b.s] 125)).alloc (.cells #[.int .i64 0, .int .i64 0] 38)).alloc (.cells #[.int .i64 0, .int .i64 0, .int .i64 0, .int .i64 0, .int .i64 0, .int .i64 0, .int .i64 0, .int .i64 0] 125)) = W0 at X0 X1 X2 hB0 ⊢
  have z0 := X0.lt
  have z1 := X1.lt
  have z2 := X2.lt
  refine (hmt _).mono ?_
  rintro e w1 ⟨bp, b6, b7, rfl, XP, X6, X7, hbp, h6, h7, hb1⟩
  replace X1 := X1.below hb1; replace X2 := X2.below hb1
  have hs0 := hB0.size; have hs1 := hb1.size
  have hB := bvia hB0 hb1
  clear X0 hB0 hb1 hmt
  have XC := Bx.new w1 #[.int .i64 a.e, .int .i64 a.w, .int .i64 b.w, .int .i64 b.e] 44
  have x10 := X1.at_ 0 rfl; have x11 := X1.at_ 1 rfl; have x1z := X1.lt
  have zp := XP.lt; have z6 := X6.lt; have z7 := X7.lt
  go_wp2_with fail
  refine (hco _).mono ?_
  rintro e w3 ⟨rfl, hb3⟩
  have hb13 : Below w1.heap.size w1 w3 := bvia (below_alloc w1 (.cells #[.int .i64 a.e, .int .i64 a.w, .int .i64 b.w, .int .i64 b.e] 44)) hb3
  replace XC := XC.below hb3; replace X2 := X2.below hb13; replace XP := XP.below hb13; replace X6 := X6.below hb13; replace X7 := X7.below hb13
  replace hB := bvia hB hb13
  have hs3 := hb13.size
  clear x10 x11 x1z X1 hb3 hb13 hco
  have c0 := XC.at_ 0 rfl; have c1 := XC.at_ 1 rfl; have c2 := XC.at_ 2 rfl; have c3 := XC.at_ 3 rfl; have cf := XC.free; have cz := XC.lt
  go_wp2_with fail
  have hU : But (fun q => q = w1.heap.size) w3 ((((w3.setCell ⟨w1.heap.size, 0, none⟩ (.int .i64 a.e)).setCell ⟨w1.heap.size, 1, none⟩ (.int .i64 a.w)).setCell ⟨w1.heap.size, 2, none⟩ (.int .i64 b.w)).setCell ⟨w1.heap.size, 3, none⟩ (.int .i64 b.e)) := (((But.set_ (But.refl (fun q => q = w1.heap.size) w3) (p := ⟨w1.heap.size, 0, none⟩) rfl _).set_ (p := ⟨w1.heap.size, 1, none⟩) rfl _).set_ (p := ⟨w1.heap.size, 2, none⟩) rfl _).set_ (p := ⟨w1.heap.size, 3, none⟩) rfl _
  replace XP := XP.but hU (by omega); replace X6 := X6.but hU (by omega); replace X7 := X7.but hU (by omega); replace X2 := X2.but hU (by omega)
  have hB4 : Below w.heap.size w ((((w3.setCell ⟨w1.heap.size, 0, none⟩ (.int .i64 a.e)).setCell ⟨w1.heap.size, 1, none⟩ (.int .i64 a.w)).setCell ⟨w1.heap.size, 2, none⟩ (.int .i64 b.w)).setCell ⟨w1.heap.size, 3, none⟩ (.int .i64 b.e)) := by (repeat' (first | with_reducible assumption | with_reducible exact Below.refl _ _ | with_reducible refine Below.drew ?_ | with_reducible refine below_drewN ?_ _ | with_reducible refine balloc ?_ _ | with_reducible refine bset ?_ ?_ _ | with_reducible refine Below.setCell ?_ ?_ _ | with_reducible refine Below.alloc ?_ ?_ _ | omega | (simp; done) | (simp; omega)))
  clear hU hB XC c0 c1 c2 c3 cf cz
  generalize ((((w3.setCell ⟨w1.heap.size, 0, none⟩ (.int .i64 a.e)).setCell ⟨w1.heap.size, 1, none⟩ (.int .i64 a.w)).setCell ⟨w1.heap.size, 2, none⟩ (.int .i64 b.w)).setCell ⟨w1.heap.size, 3, none⟩ (.int .i64 b.e)) = w4 at *
  refine (hbk bp b6 b7 _ XP X6 X7 h6 h7).mono ?_
  rintro e w5 ⟨rfl, hU5⟩
  replace X2 := X2.but hU5 (by omega)
  have hB5 : Below w.heap.size w w5 := hB4.trans ⟨hU5.os, hU5.tape, hU5.output, hU5.size, fun b hb => hU5.block b (by have := hB4.size; omega) (by omega)⟩
  clear hU5 hB4 XP X6 X7 hbk
  have y0 := X2.at_ 0 rfl; have y1 := X2.at_ 1 rfl; have y2 := X2.at_ 2 rfl; have y3 := X2.at_ 3 rfl; have y4 := X2.at_ 4 rfl; have y5 := X2.at_ 5 rfl; have y6 := X2.at_ 6 rfl; have y7 := X2.at_ 7 rfl; have yf := X2.free; have yz := X2.lt
  go_wp2_with fail
  refine bodyPost_ret (v := .agg #[.int .i64 a.e, .int .i64 a.n, .int .i64 a.w, .int .i64 a.s, .int .i64 b.e, .int .i64 b.n, .int .i64 b.w, .int .i64 b.s]) (by simp [results, Tryz.results71, go_sem, y0, y1, y2, y3, y4, y5, y6, y7]) rfl ⟨rfl, by (repeat' (first | with_reducible assumption | with_reducible exact Below.refl _ _ | with_reducible refine Below.drew ?_ | with_reducible refine below_drewN ?_ _ | with_reducible refine balloc ?_ _ | with_reducible refine bset ?_ ?_ _ | with_reducible refine Below.setCell ?_ ?_ _ | with_reducible refine Below.alloc ?_ ?_ _ | omega | (simp; done) | (simp; omega)))⟩
set_option maxRecDepth 100000 in
set_option maxHeartbeats 4000000 in
/-- an exchange by the rule that does nothing -/
theorem pair_by1 (a b : C4) (w : World) (ha : validC a = true) (hb : validC b = true) (hm : a.mass + b.mass ≤ 1000000000) :
    Calls Tryz.prog 71 #[.agg #[.int .i64 a.e, .int .i64 a.n, .int .i64 a.w, .int .i64 a.s, .int .i64 b.e, .int .i64 b.n, .int .i64 b.w, .int .i64 b.s], .func (.func 48) #[] #[], .agg #[.int .i64 0, .int .i64 0], .int .i64 1] w fun e w' => e = .returned (.agg #[.int .i64 a.e, .int .i64 a.n, .int .i64 a.w, .int .i64 a.s, .int .i64 b.e, .int .i64 b.n, .int .i64 b.w, .int .i64 b.s]) ∧ Below w.heap.size w w' := by
  have hru : ruleOk 0 0 := .inl ⟨.inl rfl, rfl⟩
  have hmt := fun W => pair_meeting1 a b W
  have hco := fun W => cell_Collide ⟨a.n, a.s, b.s, b.n⟩ 0 0 W (valid_meet ha hb hm).2 hru
  rw [coll_zero] at hco
  dsimp only at hco
  have hbk := fun bp b6 b7 W h1 h2 h3 h4 h5 => pair_back1 a b ⟨a.n, a.s, b.s, b.n⟩ bp b6 b7 W h1 h2 h3 h4 h5
  dsimp only at hbk
  clear ha hb hm hru
  have X0 := ((Bx.new w #[.int .i64 a.e, .int .i64 a.n, .int .i64 a.w, .int .i64 a.s, .int .i64 b.e, .int .i64 b.n, .int .i64 b.w, .int .i64 b.s] 125).alloc (.cells #[.int .i64 0, .int .i64 0] 38)).alloc (.cells #[.int .i64 0, .int .i64 0, .int .i64 0, .int .i64 0, .int .i64 0, .int .i64 0, .int .i64 0, .int .i64 0] 125)
  have X1 := (Bx.new (w.alloc (.cells #[.int .i64 a.e, .int .i64 a.n, .int .i64 a.w, .int .i64 a.s, .int .i64 b.e, .int .i64 b.n, .int .i64 b.w, .int .i64 b.s] 125)) #[.int .i64 0, .int .i64 0] 38).alloc (.cells #[.int .i64 0, .int .i64 0, .int .i64 0, .int .i64 0, .int .i64 0, .int .i64 0, .int .i64 0, .int .i64 0] 125)
  have X2 := Bx.new ((w.alloc (.cells #[.int .i64 a.e, .int .i64 a.n, .int .i64 a.w, .int .i64 a.s, .int .i64 b.e, .int .i64 b.n, .int .i64 b.w, .int .i64 b.s] 125)).alloc (.cells #[.int .i64 0, .int .i64 0] 38)) #[.int .i64 0, .int .i64 0, .int .i64 0, .int .i64 0, .int .i64 0, .int .i64 0, .int .i64 0, .int .i64 0] 125
  simp only [World.size_alloc] at X1 X2
  have hB0 : Below w.heap.size w (((w.alloc (.cells #[.int .i64 a.e, .int .i64 a.n, .int .i64 a.w, .int .i64 a.s, .int .i64 b.e, .int .i64 b.n, .int .i64 b.w, .int .i64 b.s] 125)).alloc (.cells #[.int .i64 0, .int .i64 0] 38)).alloc (.cells #[.int .i64 0, .int .i64 0, .int .i64 0, .int .i64 0, .int .i64 0, .int .i64 0, .int .i64 0, .int .i64 0] 125)) := by (repeat' (first | with_reducible assumption | with_reducible exact Below.refl _ _ | with_reducible refine Below.drew ?_ | with_reducible refine below_drewN ?_ _ | with_reducible refine balloc ?_ _ | with_reducible refine bset ?_ ?_ _ | with_reducible refine Below.setCell ?_ ?_ _ | with_reducible refine Below.alloc ?_ ?_ _ | omega | (simp; done) | (simp; omega)))
  go_enter Tryz.func71, Tryz.ntmps71
  go_wp2_with fail
  generalize (((w.alloc (.cells #[.int .i64 a.e, .int .i64 a.n, .int .i64 a.w, .int .i64 a.s, .int .i64 b.e, .int .i64 b.n, .int .i64 b.w, .int .i64 b.s] 125)).alloc (.cells #[.int .i64 0, .int .i64 0] 38)).alloc (.cells #[.int .i64 0, .int .i64 0, .int .i64 0, .int .i64 0, .int .i64 0, .int .i64 0, .int .i64 0, .int .i64 0] 125)) = W0 at X0 X1 X2 hB0 ⊢
  have z0 := X0.lt
  have z1 := X1.lt
  have z2 := X2.lt
  refine (hmt _).mono ?_
  rintro e w1 ⟨bp, b6, b7, rfl, XP, X6, X7, hbp, h6, h7, hb1⟩
  replace X1 := X1.below hb1; replace X2 := X2.below hb1
  have hs0 := hB0.size; have hs1 := hb1.size
  have hB := bvia hB0 hb1
  clear X0 hB0 hb1 hmt
  have XC := Bx.new w1 #[.int .i64 a.n, .int .i64 a.s, .int .i64 b.s, .int .i64 b.n] 44
  have x10 := X1.at_ 0 rfl; have x11 := X1.at_ 1 rfl; have x1z := X1.lt
  have zp := XP.lt; have z6 := X6.lt; have z7 := X7.lt
  go_wp2_with fail
  refine (hco _).mono ?_
  rintro e w3 ⟨rfl, hb3⟩
  have hb13 : Below w1.heap.size w1 w3 := bvia (below_alloc w1 (.cells #[.int .i64 a.n, .int .i64 a.s, .int .i64 b.s, .int .i64 b.n] 44)) hb3
  replace XC := XC.below hb3; replace X2 := X2.below hb13; replace XP := XP.below hb13; replace X6 := X6.below hb13; replace X7 := X7.below hb13
  replace hB := bvia hB hb13
  have hs3 := hb13.size
  clear x10 x11 x1z X1 hb3 hb13 hco
  have c0 := XC.at_ 0 rfl; have c1 := XC.at_ 1 rfl; have c2 := XC.at_ 2 rfl; have c3 := XC.at_ 3 rfl; have cf := XC.free; have cz := XC.lt
  go_wp2_with fail
  have hU : But (fun q => q = w1.heap.size) w3 ((((w3.setCell ⟨w1.heap.size, 0, none⟩ (.int .i64 a.n)).setCell ⟨w1.heap.size, 1, none⟩ (.int .i64 a.s)).setCell ⟨w1.heap.size, 2, none⟩ (.int .i64 b.s)).setCell ⟨w1.heap.size, 3, none⟩ (.int .i64 b.n)) := (((But.set_ (But.refl (fun q => q = w1.heap.size) w3) (p := ⟨w1.heap.size, 0, none⟩) rfl _).set_ (p := ⟨w1.heap.size, 1, none⟩) rfl _).set_ (p := ⟨w1.heap.size, 2, none⟩) rfl _).set_ (p := ⟨w1.heap.size, 3, none⟩) rfl _
  replace XP := XP.but hU (by omega); replace X6 := X6.but hU (by omega); replace X7 := X7.but hU (by omega); replace X2 := X2.but hU (by omega)
  have hB4 : Below w.heap.size w ((((w3.setCell ⟨w1.heap.size, 0, none⟩ (.int .i64 a.n)).setCell ⟨w1.heap.size, 1, none⟩ (.int .i64 a.s)).setCell ⟨w1.heap.size, 2, none⟩ (.int .i64 b.s)).setCell ⟨w1.heap.size, 3, none⟩ (.int .i64 b.n)) := by (repeat' (first | with_reducible assumption | with_reducible exact Below.refl _ _ | with_reducible refine Below.drew ?_ | with_reducible refine below_drewN ?_ _ | with_reducible refine balloc ?_ _ | with_reducible refine bset ?_ ?_ _ | with_reducible refine Below.setCell ?_ ?_ _ | with_reducible refine Below.alloc ?_ ?_ _ | omega | (simp; done) | (simp; omega)))
  clear hU hB XC c0 c1 c2 c3 cf cz
  generalize ((((w3.setCell ⟨w1.heap.size, 0, none⟩ (.int .i64 a.n)).setCell ⟨w1.heap.size, 1, none⟩ (.int .i64 a.s)).setCell ⟨w1.heap.size, 2, none⟩ (.int .i64 b.s)).setCell ⟨w1.heap.size, 3, none⟩ (.int .i64 b.n)) = w4 at *
  refine (hbk bp b6 b7 _ XP X6 X7 h6 h7).mono ?_
  rintro e w5 ⟨rfl, hU5⟩
  replace X2 := X2.but hU5 (by omega)
  have hB5 : Below w.heap.size w w5 := hB4.trans ⟨hU5.os, hU5.tape, hU5.output, hU5.size, fun b hb => hU5.block b (by have := hB4.size; omega) (by omega)⟩
  clear hU5 hB4 XP X6 X7 hbk
  have y0 := X2.at_ 0 rfl; have y1 := X2.at_ 1 rfl; have y2 := X2.at_ 2 rfl; have y3 := X2.at_ 3 rfl; have y4 := X2.at_ 4 rfl; have y5 := X2.at_ 5 rfl; have y6 := X2.at_ 6 rfl; have y7 := X2.at_ 7 rfl; have yf := X2.free; have yz := X2.lt
  go_wp2_with fail
  refine bodyPost_ret (v := .agg #[.int .i64 a.e, .int .i64 a.n, .int .i64 a.w, .int .i64 a.s, .int .i64 b.e, .int .i64 b.n, .int .i64 b.w, .int .i64 b.s]) (by simp [results, Tryz.results71, go_sem, y0, y1, y2, y3, y4, y5, y6, y7]) rfl ⟨rfl, by (repeat' (first | with_reducible assumption | with_reducible exact Below.refl _ _ | with_reducible refine Below.drew ?_ | with_reducible refine below_drewN ?_ _ | with_reducible refine balloc ?_ _ | with_reducible refine bset ?_ ?_ _ | with_reducible refine Below.setCell ?_ ?_ _ | with_reducible refine Below.alloc ?_ ?_ _ | omega | (simp; done) | (simp; omega)))⟩
end Go.Proofs.YtpbobhobhbbimaaGreat
/- Plain words: mixes of two phases. Walks: first, second, mass, Valid, of, Parts, Of, asked of the phases. -/
namespace Go.Proofs.YtpbobhobhbbimaaGreat
open Go Go.RowKit
set_option linter.unusedVariables false
def validX (wide high : Int) (n m : Nat) (g k : Nat → C4) : Bool := validG wide high n g && validG wide high m k && decide (massTo g n + massTo k m ≤ 1000000000)
theorem validX_iff (wide high : Int) (n m : Nat) (g k : Nat → C4) : validX wide high n m g k = true ↔ validG wide high n g = true ∧ validG wide high m k = true ∧ massTo g n + massTo k m ≤ 1000000000 := by
  simp [validX, and_assoc]
set_option maxRecDepth 100000 in
theorem phase_first (wide high : Int) (a b : Option Addr) (n m c d : Nat) (w : World) : Calls Tryz.prog 13 #[.agg #[.int .i64 wide, .int .i64 high, .slice a n c, .slice b m d]] w fun e w' => e = .returned (.agg #[.int .i64 wide, .int .i64 high, .slice a n c]) ∧ Below w.heap.size w w' := by
  go_enter Tryz.func13, Tryz.ntmps13
  go_wp2_with fail
  refine bodyPost_ret (v := .agg #[.int .i64 wide, .int .i64 high, .slice a n c]) (by simp [results, Tryz.results13, go_sem]) rfl ⟨rfl, by (repeat' (first | with_reducible assumption | with_reducible exact Below.refl _ _ | with_reducible refine Below.drew ?_ | with_reducible refine below_drewN ?_ _ | with_reducible refine balloc ?_ _ | with_reducible refine bset ?_ ?_ _ | with_reducible refine Below.setCell ?_ ?_ _ | with_reducible refine Below.alloc ?_ ?_ _ | omega | (simp; done) | (simp; omega)))⟩
set_option maxRecDepth 100000 in
theorem phase_second (wide high : Int) (a b : Option Addr) (n m c d : Nat) (w : World) : Calls Tryz.prog 14 #[.agg #[.int .i64 wide, .int .i64 high, .slice a n c, .slice b m d]] w fun e w' => e = .returned (.agg #[.int .i64 wide, .int .i64 high, .slice b m d]) ∧ Below w.heap.size w w' := by
  go_enter Tryz.func14, Tryz.ntmps14
  go_wp2_with fail
  refine bodyPost_ret (v := .agg #[.int .i64 wide, .int .i64 high, .slice b m d]) (by simp [results, Tryz.results14, go_sem]) rfl ⟨rfl, by (repeat' (first | with_reducible assumption | with_reducible exact Below.refl _ _ | with_reducible refine Below.drew ?_ | with_reducible refine below_drewN ?_ _ | with_reducible refine balloc ?_ _ | with_reducible refine bset ?_ ?_ _ | with_reducible refine Below.setCell ?_ ?_ _ | with_reducible refine Below.alloc ?_ ?_ _ | omega | (simp; done) | (simp; omega)))⟩
set_option maxRecDepth 100000 in
theorem phase_mass (wide high : Int) (a : Option Addr) (n c : Nat) (g : Nat → C4) (w : World) (hn : n ≤ 100000) (S : Sc w a n g) :
    Calls Tryz.prog 30 #[.agg #[.int .i64 wide, .int .i64 high, .slice a n c]] w fun e w' => e = .returned (.tuple #[.int .i64 (mR (validG wide high n g) (massTo g n)), .bool (validG wide high n g)]) ∧ Below w.heap.size w w' := by
  have hm := fun W' S' => grid_Mass wide high a n c g W' hn S'
  have X0 := Bx.new w #[.int .i64 wide, .int .i64 high, .slice a n c] 29
  have hB0 : Below w.heap.size w (w.alloc (.cells #[.int .i64 wide, .int .i64 high, .slice a n c] 29)) := by (repeat' (first | with_reducible assumption | with_reducible exact Below.refl _ _ | with_reducible refine Below.drew ?_ | with_reducible refine below_drewN ?_ _ | with_reducible refine balloc ?_ _ | with_reducible refine bset ?_ ?_ _ | with_reducible refine Below.setCell ?_ ?_ _ | with_reducible refine Below.alloc ?_ ?_ _ | omega | (simp; done) | (simp; omega)))
  have he : (decide (errR (validG wide high n g) 1 = 0)) = validG wide high n g := by cases validG wide high n g <;> rfl
  cases hv : validG wide high n g
  all_goals
    rw [hv] at hm
    go_enter Tryz.func30, Tryz.ntmps30
    go_wp2_with fail
    generalize (w.alloc (.cells #[.int .i64 wide, .int .i64 high, .slice a n c] 29)) = W0 at X0 hB0 ⊢
    have z0 := X0.lt
    refine (hm _ (S.below hB0)).mono ?_
    rintro e w1 ⟨rfl, hb1⟩
    go_wp2_with fail
    go_ret2
    exact ⟨rfl, bvia hB0 hb1⟩
set_option maxRecDepth 100000 in
theorem phase_Valid (wide high : Int) (a b : Option Addr) (n m c d : Nat) (g k : Nat → C4) (w : World) (hn : n ≤ 100000) (hm : m ≤ 100000) (S : Sc w a n g) (T : Sc w b m k) :
    Calls Tryz.prog 11 #[.agg #[.int .i64 wide, .int .i64 high, .slice a n c, .slice b m d]] w fun e w' => e = .returned (.bool (validX wide high n m g k)) ∧ Below w.heap.size w w' := by
  have hma := fun W' S' => phase_mass wide high a n c g W' hn S'
  have hmb := fun W' S' => phase_mass wide high b m d k W' hm S'
  have hf := fun W' => phase_first wide high a b n m c d W'
  have hs := fun W' => phase_second wide high a b n m c d W'
  have hx : validX wide high n m g k = (validG wide high n g && validG wide high m k && decide (mR (validG wide high n g) (massTo g n) + mR (validG wide high m k) (massTo k m) ≤ 1000000000)) := by
    unfold validX
    cases h1 : validG wide high n g <;> cases h2 : validG wide high m k <;> simp [mR]
  have hr1 : validG wide high n g = true → 0 ≤ massTo g n ∧ massTo g n ≤ 1000000000 := fun h => by
    have h := (validG_iff _ _ _ _).1 h
    exact ⟨massTo_nonneg _ _ h.2.2.2.2.2.2.1, h.2.2.2.2.2.2.2⟩
  have hr2 : validG wide high m k = true → 0 ≤ massTo k m ∧ massTo k m ≤ 1000000000 := fun h => by
    have h := (validG_iff _ _ _ _).1 h
    exact ⟨massTo_nonneg _ _ h.2.2.2.2.2.2.1, h.2.2.2.2.2.2.2⟩
  have hr1' : 0 ≤ mR (validG wide high n g) (massTo g n) ∧ mR (validG wide high n g) (massTo g n) ≤ 1000000000 := by
    cases h : validG wide high n g
    · simp [mR]
    · exact hr1 h
  have hr2' : 0 ≤ mR (validG wide high m k) (massTo k m) ∧ mR (validG wide high m k) (massTo k m) ≤ 1000000000 := by
    cases h : validG wide high m k
    · simp [mR]
    · exact hr2 h
  rw [hx]
  clear hx hr1 hr2
  generalize validG wide high n g = v1 at *
  generalize validG wide high m k = v2 at *
  generalize mR v1 (massTo g n) = M1 at *
  generalize mR v2 (massTo k m) = M2 at *
  have X0 := Bx.new w #[.int .i64 wide, .int .i64 high, .slice a n c, .slice b m d] 24
  have hB0 : Below w.heap.size w (w.alloc (.cells #[.int .i64 wide, .int .i64 high, .slice a n c, .slice b m d] 24)) := by (repeat' (first | with_reducible assumption | with_reducible exact Below.refl _ _ | with_reducible refine Below.drew ?_ | with_reducible refine below_drewN ?_ _ | with_reducible refine balloc ?_ _ | with_reducible refine bset ?_ ?_ _ | with_reducible refine Below.setCell ?_ ?_ _ | with_reducible refine Below.alloc ?_ ?_ _ | omega | (simp; done) | (simp; omega)))
  cases v1 <;> cases v2
  all_goals
    go_enter Tryz.func11, Tryz.ntmps11
    go_wp2_with fail
    generalize (w.alloc (.cells #[.int .i64 wide, .int .i64 high, .slice a n c, .slice b m d] 24)) = W0 at X0 hB0 ⊢
    have z0 := X0.lt
    refine (hf _).mono ?_
    rintro e w1 ⟨rfl, hb1⟩
    go_wp2_with fail
    refine (hma _ (S.below (bvia hB0 hb1))).mono ?_
    rintro e w2 ⟨rfl, hb2⟩
    have hB2 := bvia (bvia hB0 hb1) hb2
    replace X0 := (X0.below hb1).below hb2
    have x0 := X0.at_ 0 rfl; have x1 := X0.at_ 1 rfl; have x2 := X0.at_ 2 rfl; have x3 := X0.at_ 3 rfl; have xz := X0.lt
    clear hB0 hb1 hb2
    go_wp2_with fail
    refine (hs _).mono ?_
    rintro e w3 ⟨rfl, hb3⟩
    go_wp2_with fail
    refine (hmb _ (T.below (bvia hB2 hb3))).mono ?_
    rintro e w4 ⟨rfl, hb4⟩
    have hB4 := bvia (bvia hB2 hb3) hb4
    clear x0 x1 x2 x3 xz hB2 hb3 hb4
    go_wp2_with fail
    go_ret
    exact ⟨by simp, hB4⟩
end Go.Proofs.YtpbobhobhbbimaaGreat
