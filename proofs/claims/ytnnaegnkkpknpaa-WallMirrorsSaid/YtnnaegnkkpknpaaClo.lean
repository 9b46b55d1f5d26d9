/- Walks: wall.clone and the reference's Copy: a wall in new memory. -/
import Derived.Test.YtnnaegnkkpknpaaRow
import Derived.Deep.DrawnRows
namespace Go.Proofs.Ytnnaegnkkpknpaa
open Go.RowKit
attribute [local go_sem ↓] Go.wp_at_zero Go.wp_at_succ
set_option linter.unusedVariables false
/-- a wall in new memory, that may be written -/
def ClonePost (n : Nat) (K B : Nat → Int) (w : World) (e : Ending) (w' : World) : Prop :=
  ∃ gk ck gb cb, e = .returned (.agg #[.slice (some ⟨gk, 0, none⟩) n ck, .slice (some ⟨gb, 0, none⟩) n cb]) ∧ w.heap.size ≤ gk ∧ w.heap.size ≤ gb ∧ gk ≠ gb ∧ Ro w' gk n K ∧ Ro w' gb n B ∧ Below w.heap.size w w'
set_option maxRecDepth 100000 in
set_option maxHeartbeats 2000000 in
theorem wall_clone (ak ab : Option Addr) (n ck cb : Nat) (K B : Nat → Int) (w : World) (hn : n ≤ 100000) (h0 : 0 < n) (HK : Sl w ak n K) (HB : Sl w ab n B) :
    Calls Try.prog 93 #[.agg #[.slice ak n ck, .slice ab n cb]] w (ClonePost n K B w) := by
  have X0 := (Bx.new w #[.slice ak n ck, .slice ab n cb] 27).alloc (.cells #[.slice none 0 0, .slice none 0 0] 27)
  have X1 := Bx.new (w.alloc (.cells #[.slice ak n ck, .slice ab n cb] 27)) #[.slice none 0 0, .slice none 0 0] 27
  have hB0 : Below w.heap.size w ((w.alloc (.cells #[.slice ak n ck, .slice ab n cb] 27)).alloc (.cells #[.slice none 0 0, .slice none 0 0] 27)) := by (repeat' (first | with_reducible assumption | with_reducible exact Below.refl _ _ | with_reducible refine Below.drew ?_ | with_reducible refine below_drewN ?_ _ | with_reducible refine balloc ?_ _ | with_reducible refine bset ?_ ?_ _ | with_reducible refine Below.setCell ?_ ?_ _ | with_reducible refine Below.alloc ?_ ?_ _ | omega | (simp; done) | (simp; omega)))
  rw [World.size_alloc] at X1
  go_enter Try.func93, Try.ntmps93
  go_upto_region 1 with (fail)
  generalize (w.alloc (.cells #[.slice ak n ck, .slice ab n cb] 27)).alloc (.cells #[.slice none 0 0, .slice none 0 0] 27) = W0 at X0 X1 hB0 ⊢
  have IK := HK.below hB0; have IB := HB.below hB0
  have z0 := X0.lt; have z1 := X1.lt
  have r0 : ∀ W, Below (w.heap.size + 1) W0 W → W.cell? ⟨w.heap.size, 0, none⟩ = some (.slice ak n ck) := fun W h => (bcell h _ _ (by omega)).trans (X0.at_ 0 rfl)
  have r1 : ∀ W, Below (w.heap.size + 1) W0 W → W.cell? ⟨w.heap.size, 1, none⟩ = some (.slice ab n cb) := fun W h => (bcell h _ _ (by omega)).trans (X0.at_ 1 rfl)
  have q0 : ∀ W, Below W0.heap.size W0 W → W.cell? ⟨w.heap.size + 1, 0, none⟩ = some (.slice none 0 0) := fun W h => (X1.below h).at_ 0 rfl
  have q1 : ∀ W, Below W0.heap.size W0 W → W.cell? ⟨w.heap.size + 1, 1, none⟩ = some (.slice none 0 0) := fun W h => (X1.below h).at_ 1 rfl
  have qf : ∀ W, Below W0.heap.size W0 W → ∀ i, W.frozen? ⟨w.heap.size + 1, i, none⟩ = false := fun W h => (X1.below h).free
  go_region_held3 (fun W => Below (w.heap.size + 1) W0 W) ((repeat' (first | with_reducible assumption | with_reducible exact Below.refl _ _ | with_reducible refine Below.drew ?_ | with_reducible refine below_drewN ?_ _ | with_reducible refine balloc ?_ _ | with_reducible refine bset ?_ ?_ _ | with_reducible refine Below.setCell ?_ ?_ _ | with_reducible refine Below.alloc ?_ ?_ _ | omega | (simp; done) | (simp; omega))))
    ((first
      | (have tok1 : True := trivial; go_at_call_of 141 (Value.slice ak n ck); refine (clone_ints ak n ck K _ hn h0 (IK.below (by (repeat' (first | with_reducible assumption | with_reducible exact Below.refl _ _ | with_reducible refine Below.drew ?_ | with_reducible refine below_drewN ?_ _ | with_reducible refine balloc ?_ _ | with_reducible refine bset ?_ ?_ _ | with_reducible refine Below.setCell ?_ ?_ _ | with_reducible refine Below.alloc ?_ ?_ _ | omega | (simp; done) | (simp; omega)))))).mono ?_; rintro e w1 ⟨gk, ck', rfl, hgk, RK, hb1⟩; have hB1 : Below W0.heap.size W0 w1 := bvia (by (repeat' (first | with_reducible assumption | with_reducible exact Below.refl _ _ | with_reducible refine Below.drew ?_ | with_reducible refine below_drewN ?_ _ | with_reducible refine balloc ?_ _ | with_reducible refine bset ?_ ?_ _ | with_reducible refine Below.setCell ?_ ?_ _ | with_reducible refine Below.alloc ?_ ?_ _ | omega | (simp; done) | (simp; omega)))) hb1; have hC1 := hB1.mono (show w.heap.size + 1 ≤ W0.heap.size by omega))
      | (go_at_call_of 141 (Value.slice ab n cb); refine (clone_ints ab n cb B _ hn h0 (IB.below (by (repeat' (first | with_reducible assumption | with_reducible exact Below.refl _ _ | with_reducible refine Below.drew ?_ | with_reducible refine below_drewN ?_ _ | with_reducible refine balloc ?_ _ | with_reducible refine bset ?_ ?_ _ | with_reducible refine Below.setCell ?_ ?_ _ | with_reducible refine Below.alloc ?_ ?_ _ | omega | (simp; done) | (simp; omega)))))).mono ?_; rintro e w2 ⟨gb, cb', rfl, hgb, RB, hb2⟩; have hB2 : Below W0.heap.size W0 w2 := bvia (by (repeat' (first | with_reducible assumption | with_reducible exact Below.refl _ _ | with_reducible refine Below.drew ?_ | with_reducible refine below_drewN ?_ _ | with_reducible refine balloc ?_ _ | with_reducible refine bset ?_ ?_ _ | with_reducible refine Below.setCell ?_ ?_ _ | with_reducible refine Below.alloc ?_ ?_ _ | omega | (simp; done) | (simp; omega)))) hb2; have hC2 := hB2.mono (show w.heap.size + 1 ≤ W0.heap.size by omega))
      | fail))
  all_goals
    have g1 : W0.heap.size ≤ gk := hgk
    have g2 : w1.heap.size ≤ gb := hgb
    have g3 := hB1.size
    have g4 := RK.lt
    have y0 := q0 w2 hB2
    have y1 := q1 w2 hB2
    have yf := qf w2 hB2
    have SK := ((RK.below hb2).far (p := ⟨w.heap.size + 1, 0, none⟩) (by simp; omega) (.slice (some ⟨gk, 0, none⟩) n ck')).far (p := ⟨w.heap.size + 1, 1, none⟩) (by simp; omega) (.slice (some ⟨gb, 0, none⟩) n cb')
    have SB := (RB.far (p := ⟨w.heap.size + 1, 0, none⟩) (by simp; omega) (.slice (some ⟨gk, 0, none⟩) n ck')).far (p := ⟨w.heap.size + 1, 1, none⟩) (by simp; omega) (.slice (some ⟨gb, 0, none⟩) n cb')
    have hBw : Below w.heap.size w w2 := bvia hB0 hB2
    go_wp2_with fail
    refine bodyPost_ret (v := .agg #[.slice (some ⟨gk, 0, none⟩) n ck', .slice (some ⟨gb, 0, none⟩) n cb']) (by simp [results, Try.results93, go_sem, y0, y1]) rfl ⟨gk, ck', gb, cb', rfl, by omega, by omega, by omega, SK, SB, by (repeat' (first | with_reducible assumption | with_reducible exact Below.refl _ _ | with_reducible refine Below.drew ?_ | with_reducible refine below_drewN ?_ _ | with_reducible refine balloc ?_ _ | with_reducible refine bset ?_ ?_ _ | with_reducible refine Below.setCell ?_ ?_ _ | with_reducible refine Below.alloc ?_ ?_ _ | omega | (simp; done) | (simp; omega)))⟩
set_option maxRecDepth 100000 in
set_option maxHeartbeats 4000000 in
theorem ref3_Copy (ak ab : Option Addr) (n ck cb : Nat) (K B : Nat → Int) (w : World) (hn : n ≤ 100000) (h0 : 0 < n) (HK : Sl w ak n K) (HB : Sl w ab n B) :
    Calls Try.prog 94 #[.agg #[.slice ak n ck, .slice ab n cb]] w (ClonePost n K B w) := by
  obtain ⟨i0, hi, hz0, hz1, hz2⟩ := info_parts infoI
  have X0 := (Bx.new w #[.slice ak n ck, .slice ab n cb] 27).alloc (.cells #[.slice none 0 0, .slice none 0 0] 27)
  have X1 := Bx.new (w.alloc (.cells #[.slice ak n ck, .slice ab n cb] 27)) #[.slice none 0 0, .slice none 0 0] 27
  have hB0 : Below w.heap.size w ((w.alloc (.cells #[.slice ak n ck, .slice ab n cb] 27)).alloc (.cells #[.slice none 0 0, .slice none 0 0] 27)) := by (repeat' (first | with_reducible assumption | with_reducible exact Below.refl _ _ | with_reducible refine Below.drew ?_ | with_reducible refine below_drewN ?_ _ | with_reducible refine balloc ?_ _ | with_reducible refine bset ?_ ?_ _ | with_reducible refine Below.setCell ?_ ?_ _ | with_reducible refine Below.alloc ?_ ?_ _ | omega | (simp; done) | (simp; omega)))
  rw [World.size_alloc] at X1
  obtain ⟨b1, o1, rfl, _, _⟩ := HK 0 h0
  obtain ⟨b2, o2, rfl, _, _⟩ := HB 0 h0
  go_enter Try.func94, Try.ntmps94
  go_upto_region 1 with (fail)
  generalize (w.alloc (.cells #[.slice (some ⟨b1, o1, none⟩) n ck, .slice (some ⟨b2, o2, none⟩) n cb] 27)).alloc (.cells #[.slice none 0 0, .slice none 0 0] 27) = W0 at X0 X1 hB0 ⊢
  have IK := HK.below hB0; have IB := HB.below hB0
  have z0 := X0.lt; have z1 := X1.lt
  have r0 : ∀ W, Below (w.heap.size + 1) W0 W → W.cell? ⟨w.heap.size, 0, none⟩ = some (.slice (some ⟨b1, o1, none⟩) n ck) := fun W h => (bcell h _ _ (by omega)).trans (X0.at_ 0 rfl)
  have r1 : ∀ W, Below (w.heap.size + 1) W0 W → W.cell? ⟨w.heap.size, 1, none⟩ = some (.slice (some ⟨b2, o2, none⟩) n cb) := fun W h => (bcell h _ _ (by omega)).trans (X0.at_ 1 rfl)
  have q0 : ∀ W, Below W0.heap.size W0 W → W.cell? ⟨w.heap.size + 1, 0, none⟩ = some (.slice none 0 0) := fun W h => (X1.below h).at_ 0 rfl
  have q1 : ∀ W, Below W0.heap.size W0 W → W.cell? ⟨w.heap.size + 1, 1, none⟩ = some (.slice none 0 0) := fun W h => (X1.below h).at_ 1 rfl
  have qf : ∀ W, Below W0.heap.size W0 W → ∀ i, W.frozen? ⟨w.heap.size + 1, i, none⟩ = false := fun W h => (X1.below h).free
  go_region_held3 (fun W => Below (w.heap.size + 1) W0 W) ((repeat' (first | with_reducible assumption | with_reducible exact Below.refl _ _ | with_reducible refine Below.drew ?_ | with_reducible refine below_drewN ?_ _ | with_reducible refine balloc ?_ _ | with_reducible refine bset ?_ ?_ _ | with_reducible refine Below.setCell ?_ ?_ _ | with_reducible refine Below.alloc ?_ ?_ _ | omega | (simp; done) | (simp; omega))))
    ((first
      | (refine step_app0 (by rfl) (.tmp 3) (.tmp 5) (by rfl) _ (by rfl) (some ⟨b1, o1, none⟩) n ck K (by rfl) h0 hn (IK.below (by (repeat' (first | with_reducible assumption | with_reducible exact Below.refl _ _ | with_reducible refine Below.drew ?_ | with_reducible refine below_drewN ?_ _ | with_reducible refine balloc ?_ _ | with_reducible refine bset ?_ ?_ _ | with_reducible refine Below.setCell ?_ ?_ _ | with_reducible refine Below.alloc ?_ ?_ _ | omega | (simp; done) | (simp; omega))))) ?_; intro gk ck' w1 hgk RK hb1; have hB1 : Below W0.heap.size W0 w1 := bvia (by (repeat' (first | with_reducible assumption | with_reducible exact Below.refl _ _ | with_reducible refine Below.drew ?_ | with_reducible refine below_drewN ?_ _ | with_reducible refine balloc ?_ _ | with_reducible refine bset ?_ ?_ _ | with_reducible refine Below.setCell ?_ ?_ _ | with_reducible refine Below.alloc ?_ ?_ _ | omega | (simp; done) | (simp; omega)))) hb1; have hC1 := hB1.mono (show w.heap.size + 1 ≤ W0.heap.size by omega); have hs1 := hB1.size)
      | (refine step_app0 (by rfl) (.tmp 7) (.tmp 9) (by rfl) _ (by rfl) (some ⟨b2, o2, none⟩) n cb B (by rfl) h0 hn (IB.below (by (repeat' (first | with_reducible assumption | with_reducible exact Below.refl _ _ | with_reducible refine Below.drew ?_ | with_reducible refine below_drewN ?_ _ | with_reducible refine balloc ?_ _ | with_reducible refine bset ?_ ?_ _ | with_reducible refine Below.setCell ?_ ?_ _ | with_reducible refine Below.alloc ?_ ?_ _ | omega | (simp; done) | (simp; omega))))) ?_; intro gb cb' w2 hgb RB hb2; have hB2 : Below W0.heap.size W0 w2 := bvia (by (repeat' (first | with_reducible assumption | with_reducible exact Below.refl _ _ | with_reducible refine Below.drew ?_ | with_reducible refine below_drewN ?_ _ | with_reducible refine balloc ?_ _ | with_reducible refine bset ?_ ?_ _ | with_reducible refine Below.setCell ?_ ?_ _ | with_reducible refine Below.alloc ?_ ?_ _ | omega | (simp; done) | (simp; omega)))) hb2; have hC2 := hB2.mono (show w.heap.size + 1 ≤ W0.heap.size by omega); have hs2 := hB2.size; have RK2 := Ro.below (Ro.below RK (by (repeat' (first | with_reducible assumption | with_reducible exact Below.refl _ _ | with_reducible refine Below.drew ?_ | with_reducible refine below_drewN ?_ _ | with_reducible refine balloc ?_ _ | with_reducible refine bset ?_ ?_ _ | with_reducible refine Below.setCell ?_ ?_ _ | with_reducible refine Below.alloc ?_ ?_ _ | omega | (simp; done) | (simp; omega))))) hb2; have g5 : w1.heap.size ≤ gb := by (have := hgb; (try simp at this); omega))
      | fail))
  all_goals
    have g1 : W0.heap.size ≤ gk := by (have := hgk; (try simp at this); omega)
    have g4 := RK.lt
    have y0 := q0 w2 hB2
    have y1 := q1 w2 hB2
    have yf := qf w2 hB2
    have SK := (RK2.far (p := ⟨w.heap.size + 1, 0, none⟩) (by simp; omega) (.slice (some ⟨gk, 0, none⟩) n ck')).far (p := ⟨w.heap.size + 1, 1, none⟩) (by simp; omega) (.slice (some ⟨gb, 0, none⟩) n cb')
    have SB := (RB.far (p := ⟨w.heap.size + 1, 0, none⟩) (by simp; omega) (.slice (some ⟨gk, 0, none⟩) n ck')).far (p := ⟨w.heap.size + 1, 1, none⟩) (by simp; omega) (.slice (some ⟨gb, 0, none⟩) n cb')
    have hBw : Below w.heap.size w w2 := bvia hB0 hB2
    go_wp2_with fail
    refine bodyPost_ret (v := .agg #[.slice (some ⟨gk, 0, none⟩) n ck', .slice (some ⟨gb, 0, none⟩) n cb']) (by simp [results, Try.results94, go_sem, y0, y1]) rfl ⟨gk, ck', gb, cb', rfl, by omega, by omega, by omega, SK, SB, by (repeat' (first | with_reducible assumption | with_reducible exact Below.refl _ _ | with_reducible refine Below.drew ?_ | with_reducible refine below_drewN ?_ _ | with_reducible refine balloc ?_ _ | with_reducible refine bset ?_ ?_ _ | with_reducible refine Below.setCell ?_ ?_ _ | with_reducible refine Below.alloc ?_ ?_ _ | omega | (simp; done) | (simp; omega)))⟩
end Go.Proofs.Ytnnaegnkkpknpaa
