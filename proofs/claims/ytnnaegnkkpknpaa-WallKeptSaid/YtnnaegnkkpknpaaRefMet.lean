/- Walks: the reference's met, step and back of a grid in walls. -/
import Derived.Test.YtnnaegnkkpknpaaRefGrid
import Derived.Test.YtnnaegnkkpknpaaSeq
import Derived.Test.YtnnaegnkkpknpaaWStepPlain
namespace Go.Proofs.Ytnnaegnkkpknpaa
open Go Go.RowKit
set_option linter.unusedVariables false
set_option maxRecDepth 100000 in
set_option maxHeartbeats 1000000 in
theorem ref2_Flow (W H : Nat) (a : Option Addr) (ca : Nat) (g : Nat → C4) (w : World) (h1 : 1 ≤ W ∧ W ≤ 64) (h2 : 1 ≤ H ∧ H ≤ 64) (S : Sc w a (W * H) g) :
    Calls Try.prog 149 #[.agg #[.int .i64 (W : Int), .int .i64 (H : Int), .slice a (W * H) ca]] w (GridRow W H (W * H) (flow W H g) w) := by
  have hp := fun W' S' => ref2_pulled false W H a ca g W' h1 h2 S'
  have e : pulG false W H g = flow W H g := rfl
  rw [e] at hp
  clear e
  generalize flow W H g = G at *
  generalize W * H = n at *
  have X0 := (Bx.new w #[.int .i64 (W : Int), .int .i64 (H : Int), .slice a n ca] 24).alloc (.cells #[.int .i64 0, .int .i64 0, .slice none 0 0] 24)
  have X1 := Bx.new (w.alloc (.cells #[.int .i64 (W : Int), .int .i64 (H : Int), .slice a n ca] 24)) #[.int .i64 0, .int .i64 0, .slice none 0 0] 24
  simp only [World.size_alloc] at X1
  have hB0 : Below w.heap.size w ((w.alloc (.cells #[.int .i64 (W : Int), .int .i64 (H : Int), .slice a n ca] 24)).alloc (.cells #[.int .i64 0, .int .i64 0, .slice none 0 0] 24)) := by (repeat' (first | with_reducible assumption | with_reducible exact Below.refl _ _ | with_reducible refine Below.drew ?_ | with_reducible refine below_drewN ?_ _ | with_reducible refine balloc ?_ _ | with_reducible refine bset ?_ ?_ _ | with_reducible refine Below.setCell ?_ ?_ _ | with_reducible refine Below.alloc ?_ ?_ _ | omega | (simp; done) | (simp; omega)))
  go_enter Try.func149, Try.ntmps149
  go_wp2_with fail
  generalize ((w.alloc (.cells #[.int .i64 (W : Int), .int .i64 (H : Int), .slice a n ca] 24)).alloc (.cells #[.int .i64 0, .int .i64 0, .slice none 0 0] 24)) = W0 at X0 X1 hB0 ⊢
  have z0 := X0.lt
  have z1 := X1.lt
  refine (hp _ (S.below hB0)).mono ?_
  rintro e w1 ⟨g', cap, rfl, hg', R, hcap, hb1⟩
  have hB := hB0
  clear hB0 hp
  replace X0 := X0.below hb1
  replace X1 := X1.below hb1
  replace hB := bvia hB hb1
  clear hb1
  have X1_0 := X1.at_ 0 rfl
  have X1_1 := X1.at_ 1 rfl
  have X1_2 := X1.at_ 2 rfl
  have X1f := X1.free
  have X1z := X1.lt
  go_wp2_with fail
  refine bodyPost_ret (v := .agg #[.int .i64 (W : Int), .int .i64 (H : Int), .slice (some ⟨g', 0, none⟩) n cap]) (by simp [results, Try.results149, go_sem, X1_0, X1_1, X1_2]) rfl ⟨g', cap, rfl, by omega, by (repeat' (first | with_reducible assumption | with_reducible refine Ro.drew ?_ | with_reducible refine Ro.drewN ?_ _ | with_reducible refine Ro.alloc ?_ _ | with_reducible refine Ro.far ?_ ?_ _ | (show _ ≠ _; dsimp only; omega))), hcap, by (repeat' (first | with_reducible assumption | with_reducible exact Below.refl _ _ | with_reducible refine Below.drew ?_ | with_reducible refine below_drewN ?_ _ | with_reducible refine balloc ?_ _ | with_reducible refine bset ?_ ?_ _ | with_reducible refine Below.setCell ?_ ?_ _ | with_reducible refine Below.alloc ?_ ?_ _ | omega | (simp; done) | (simp; omega)))⟩
set_option maxRecDepth 100000 in
set_option maxHeartbeats 1000000 in
theorem ref2_Ebb (W H : Nat) (a : Option Addr) (ca : Nat) (g : Nat → C4) (w : World) (h1 : 1 ≤ W ∧ W ≤ 64) (h2 : 1 ≤ H ∧ H ≤ 64) (S : Sc w a (W * H) g) :
    Calls Try.prog 153 #[.agg #[.int .i64 (W : Int), .int .i64 (H : Int), .slice a (W * H) ca]] w (GridRow W H (W * H) (ebb W H g) w) := by
  have hp := fun W' S' => ref2_pulled true W H a ca g W' h1 h2 S'
  have e : pulG true W H g = ebb W H g := rfl
  rw [e] at hp
  clear e
  generalize ebb W H g = G at *
  generalize W * H = n at *
  have X0 := (Bx.new w #[.int .i64 (W : Int), .int .i64 (H : Int), .slice a n ca] 24).alloc (.cells #[.int .i64 0, .int .i64 0, .slice none 0 0] 24)
  have X1 := Bx.new (w.alloc (.cells #[.int .i64 (W : Int), .int .i64 (H : Int), .slice a n ca] 24)) #[.int .i64 0, .int .i64 0, .slice none 0 0] 24
  simp only [World.size_alloc] at X1
  have hB0 : Below w.heap.size w ((w.alloc (.cells #[.int .i64 (W : Int), .int .i64 (H : Int), .slice a n ca] 24)).alloc (.cells #[.int .i64 0, .int .i64 0, .slice none 0 0] 24)) := by (repeat' (first | with_reducible assumption | with_reducible exact Below.refl _ _ | with_reducible refine Below.drew ?_ | with_reducible refine below_drewN ?_ _ | with_reducible refine balloc ?_ _ | with_reducible refine bset ?_ ?_ _ | with_reducible refine Below.setCell ?_ ?_ _ | with_reducible refine Below.alloc ?_ ?_ _ | omega | (simp; done) | (simp; omega)))
  go_enter Try.func153, Try.ntmps153
  go_wp2_with fail
  generalize ((w.alloc (.cells #[.int .i64 (W : Int), .int .i64 (H : Int), .slice a n ca] 24)).alloc (.cells #[.int .i64 0, .int .i64 0, .slice none 0 0] 24)) = W0 at X0 X1 hB0 ⊢
  have z0 := X0.lt
  have z1 := X1.lt
  refine (hp _ (S.below hB0)).mono ?_
  rintro e w1 ⟨g', cap, rfl, hg', R, hcap, hb1⟩
  have hB := hB0
  clear hB0 hp
  replace X0 := X0.below hb1
  replace X1 := X1.below hb1
  replace hB := bvia hB hb1
  clear hb1
  have X1_0 := X1.at_ 0 rfl
  have X1_1 := X1.at_ 1 rfl
  have X1_2 := X1.at_ 2 rfl
  have X1f := X1.free
  have X1z := X1.lt
  go_wp2_with fail
  refine bodyPost_ret (v := .agg #[.int .i64 (W : Int), .int .i64 (H : Int), .slice (some ⟨g', 0, none⟩) n cap]) (by simp [results, Try.results153, go_sem, X1_0, X1_1, X1_2]) rfl ⟨g', cap, rfl, by omega, by (repeat' (first | with_reducible assumption | with_reducible refine Ro.drew ?_ | with_reducible refine Ro.drewN ?_ _ | with_reducible refine Ro.alloc ?_ _ | with_reducible refine Ro.far ?_ ?_ _ | (show _ ≠ _; dsimp only; omega))), hcap, by (repeat' (first | with_reducible assumption | with_reducible exact Below.refl _ _ | with_reducible refine Below.drew ?_ | with_reducible refine below_drewN ?_ _ | with_reducible refine balloc ?_ _ | with_reducible refine bset ?_ ?_ _ | with_reducible refine Below.setCell ?_ ?_ _ | with_reducible refine Below.alloc ?_ ?_ _ | omega | (simp; done) | (simp; omega)))⟩
set_option maxRecDepth 100000 in
set_option maxHeartbeats 4000000 in
theorem ref3_met (W H : Nat) (a ak ab : Option Addr) (n ca ck nb cb : Nat) (g : Nat → C4) (K : Nat → Int) (k b : Int) (w : World) (hn : n ≤ 100000) (h0 : 0 < n) (S : Sc w a n g) (SK : Sl w ak n K)
    (hK : ∀ i, i < n → 0 ≤ K i ∧ K i ≤ 3) (hv : ∀ i, i < n → validC (g i) = true) (hr : ruleOk k b) :
    Calls Try.prog 150 #[.agg #[.int .i64 (W : Int), .int .i64 (H : Int), .slice a n ca], .agg #[.slice ak n ck, .slice ab nb cb], .agg #[.int .i64 k, .int .i64 b]] w (GridRow W H n (metF k b K g) w) := by
  have hcopy := fun W' S' => ref2_Copy W H a n ca g W' hn h0 S'
  have hafter := fun i W' h => ref1_after (g i) k b W' (hv i h) hr
  have hsent := fun i W' h => ref3_sent (g i) W' (K i) (hK i h).1 (hK i h).2
  have hm : ∀ i, metF k b K g i = if K i = 0 then coll k b (g i) else sentC (g i) (K i) := fun _ => rfl
  generalize metF k b K g = G at *
  have HA := hid hafter; have HS := hid hsent; have HM := hid hm
  clear hafter hsent hm hK hv hr
  have X0 := (((Bx.new w #[.int .i64 (W : Int), .int .i64 (H : Int), .slice a n ca] 24).alloc (.cells #[.slice ak n ck, .slice ab nb cb] 27)).alloc (.cells #[.int .i64 k, .int .i64 b] 73)).alloc (.cells #[.int .i64 0, .int .i64 0, .slice none 0 0] 24)
  have X1 := ((Bx.new (w.alloc (.cells #[.int .i64 (W : Int), .int .i64 (H : Int), .slice a n ca] 24)) #[.slice ak n ck, .slice ab nb cb] 27).alloc (.cells #[.int .i64 k, .int .i64 b] 73)).alloc (.cells #[.int .i64 0, .int .i64 0, .slice none 0 0] 24)
  have X2 := (Bx.new ((w.alloc (.cells #[.int .i64 (W : Int), .int .i64 (H : Int), .slice a n ca] 24)).alloc (.cells #[.slice ak n ck, .slice ab nb cb] 27)) #[.int .i64 k, .int .i64 b] 73).alloc (.cells #[.int .i64 0, .int .i64 0, .slice none 0 0] 24)
  have X3 := Bx.new (((w.alloc (.cells #[.int .i64 (W : Int), .int .i64 (H : Int), .slice a n ca] 24)).alloc (.cells #[.slice ak n ck, .slice ab nb cb] 27)).alloc (.cells #[.int .i64 k, .int .i64 b] 73)) #[.int .i64 0, .int .i64 0, .slice none 0 0] 24
  simp only [World.size_alloc] at X1 X2 X3
  have hB0 : Below w.heap.size w ((((w.alloc (.cells #[.int .i64 (W : Int), .int .i64 (H : Int), .slice a n ca] 24)).alloc (.cells #[.slice ak n ck, .slice ab nb cb] 27)).alloc (.cells #[.int .i64 k, .int .i64 b] 73)).alloc (.cells #[.int .i64 0, .int .i64 0, .slice none 0 0] 24)) := by (repeat' (first | with_reducible assumption | with_reducible exact Below.refl _ _ | with_reducible refine Below.drew ?_ | with_reducible refine below_drewN ?_ _ | with_reducible refine balloc ?_ _ | with_reducible refine bset ?_ ?_ _ | with_reducible refine Below.setCell ?_ ?_ _ | with_reducible refine Below.alloc ?_ ?_ _ | omega | (simp; done) | (simp; omega)))
  go_enter Try.func150, Try.ntmps150
  go_wp2_with fail
  generalize ((((w.alloc (.cells #[.int .i64 (W : Int), .int .i64 (H : Int), .slice a n ca] 24)).alloc (.cells #[.slice ak n ck, .slice ab nb cb] 27)).alloc (.cells #[.int .i64 k, .int .i64 b] 73)).alloc (.cells #[.int .i64 0, .int .i64 0, .slice none 0 0] 24)) = W0 at X0 X1 X2 X3 hB0 ⊢
  have z0 := X0.lt
  have z1 := X1.lt
  have z2 := X2.lt
  have z3 := X3.lt
  refine (hcopy _ (S.below hB0)).mono ?_
  rintro e w1 ⟨g', cap, rfl, hg', R, hcap, hb1⟩
  have hB := hB0
  clear hB0 hcopy
  replace X0 := X0.below hb1
  replace X1 := X1.below hb1
  replace X2 := X2.below hb1
  replace X3 := X3.below hb1
  replace hB := bvia hB hb1
  clear hb1
  have X0_0 := X0.at_ 0 rfl
  have X0_1 := X0.at_ 1 rfl
  have X0_2 := X0.at_ 2 rfl
  have X0f := X0.free
  have X0z := X0.lt
  have hz1 : w.heap.size + 1 + 1 + 1 < w1.heap.size := X3.lt
  go_wp2_with fail
  clear X0_0 X0_1 X0_2 X0f X0z
  replace X1 := (((X1.far (p := ⟨w.heap.size, 0, none⟩) (by first | (simp; done) | (simp; omega) | (dsimp only; omega)) (.int .i64 (W : Int))).far (p := ⟨w.heap.size, 1, none⟩) (by first | (simp; done) | (simp; omega) | (dsimp only; omega)) (.int .i64 (H : Int))).far (p := ⟨w.heap.size, 2, none⟩) (by first | (simp; done) | (simp; omega) | (dsimp only; omega)) (.slice (some ⟨g', 0, none⟩) n cap))
  replace X2 := (((X2.far (p := ⟨w.heap.size, 0, none⟩) (by first | (simp; done) | (simp; omega) | (dsimp only; omega)) (.int .i64 (W : Int))).far (p := ⟨w.heap.size, 1, none⟩) (by first | (simp; done) | (simp; omega) | (dsimp only; omega)) (.int .i64 (H : Int))).far (p := ⟨w.heap.size, 2, none⟩) (by first | (simp; done) | (simp; omega) | (dsimp only; omega)) (.slice (some ⟨g', 0, none⟩) n cap))
  replace X3 := (((X3.far (p := ⟨w.heap.size, 0, none⟩) (by first | (simp; done) | (simp; omega) | (dsimp only; omega)) (.int .i64 (W : Int))).far (p := ⟨w.heap.size, 1, none⟩) (by first | (simp; done) | (simp; omega) | (dsimp only; omega)) (.int .i64 (H : Int))).far (p := ⟨w.heap.size, 2, none⟩) (by first | (simp; done) | (simp; omega) | (dsimp only; omega)) (.slice (some ⟨g', 0, none⟩) n cap))
  replace R := (((R.far (p := ⟨w.heap.size, 0, none⟩) (by first | (simp; done) | (simp; omega) | (dsimp only; omega)) (.int .i64 (W : Int))).far (p := ⟨w.heap.size, 1, none⟩) (by first | (simp; done) | (simp; omega) | (dsimp only; omega)) (.int .i64 (H : Int))).far (p := ⟨w.heap.size, 2, none⟩) (by first | (simp; done) | (simp; omega) | (dsimp only; omega)) (.slice (some ⟨g', 0, none⟩) n cap))
  replace X0 : Bx _ (w.heap.size) #[.int .i64 (W : Int), .int .i64 (H : Int), .slice (some ⟨g', 0, none⟩) n cap] := (((X0.set_ 0 (by simp) (.int .i64 (W : Int))).set_ 1 (by simp) (.int .i64 (H : Int))).set_ 2 (by simp) (.slice (some ⟨g', 0, none⟩) n cap))
  replace hB := (bset (bset (bset hB (p := ⟨w.heap.size, 0, none⟩) (by first | exact Nat.le_refl _ | (simp; done) | (simp; omega)) (.int .i64 (W : Int))) (p := ⟨w.heap.size, 1, none⟩) (by first | exact Nat.le_refl _ | (simp; done) | (simp; omega)) (.int .i64 (H : Int))) (p := ⟨w.heap.size, 2, none⟩) (by first | exact Nat.le_refl _ | (simp; done) | (simp; omega)) (.slice (some ⟨g', 0, none⟩) n cap))
  have X0_0 := X0.at_ 0 rfl
  have X0_1 := X0.at_ 1 rfl
  have X0_2 := X0.at_ 2 rfl
  have X0f := X0.free
  have X0z := X0.lt
  rw [← ovC_zero G g] at R
  go_loopw [7] (fun s7 wr => ∃ i : Nat, i ≤ n ∧ s7 = .int .i64 i ∧ Bx wr w.heap.size #[.int .i64 (W : Int), .int .i64 (H : Int), .slice (some ⟨g', 0, none⟩) n cap] ∧ Bx wr (w.heap.size + 1) #[.slice ak n ck, .slice ab nb cb] ∧ Bx wr (w.heap.size + 1 + 1) #[.int .i64 k, .int .i64 b] ∧ Bx wr (w.heap.size + 1 + 1 + 1) #[.int .i64 0, .int .i64 0, .slice none 0 0] ∧ Ro wr g' (n * 4) (flatC (ovC G g i)) ∧ Below w.heap.size w wr) (fun s7 _ => n - (intOf s7).toNat)
  case atStart => exact ⟨0, Nat.zero_le _, rfl, X0, X1, X2, X3, R, hB⟩
  case round =>
    clear X0_0 X0_1 X0_2 X0f X0z X0 X1 X2 X3 R hB
    obtain ⟨i, hi, rfl, X0, X1, X2, X3, R, hB⟩ := hrel
    have l0 := X0.lt; have l1 := X1.lt; have l2 := X2.lt; have l3 := X3.lt; have lr := R.lt
    have X0_2 := X0.at_ 2 rfl
    have X1_0 := X1.at_ 0 rfl
    by_cases hlt : i < n
    · obtain ⟨bk, ok, rfl, hbk, ck0⟩ := SK i hlt
      have hk0 := (bcell hB _ _ hbk).trans ck0
      have hw0 := hbk
      have c4 := R.scell hlt
      rw [ovC_at] at c4
      obtain ⟨c0, c1, c2, c3⟩ := c4
      have rf := R.free
      have r0 : ∀ X, Below wr.heap.size wr X → X.cell? ⟨w.heap.size, 2, none⟩ = some (.slice (some ⟨g', 0, none⟩) n cap) := fun X h => (X0.below h).at_ 2 rfl
      have r1 : ∀ X, Below wr.heap.size wr X → X.cell? ⟨w.heap.size + 1, 0, none⟩ = some (.slice (some ⟨bk, ok, none⟩) n ck) := fun X h => (X1.below h).at_ 0 rfl
      have r2 : ∀ X, Below wr.heap.size wr X → X.cell? ⟨w.heap.size + 1 + 1, 0, none⟩ = some (.int .i64 k) := fun X h => (X2.below h).at_ 0 rfl
      have r3 : ∀ X, Below wr.heap.size wr X → X.cell? ⟨w.heap.size + 1 + 1, 1, none⟩ = some (.int .i64 b) := fun X h => (X2.below h).at_ 1 rfl
      have r4 : ∀ X, Below wr.heap.size wr X → X.cell? ⟨bk, ok + i, none⟩ = some (.int .i64 (K i)) := fun X h => (bcell h _ _ (by omega)).trans hk0
      have q0 : ∀ X, Below wr.heap.size wr X → X.cell? ⟨g', i * 4, none⟩ = some (.int .i64 (g i).e) := fun X h => (bcell h _ _ lr).trans c0
      have q1 : ∀ X, Below wr.heap.size wr X → X.cell? ⟨g', i * 4 + 1, none⟩ = some (.int .i64 (g i).n) := fun X h => (bcell h _ _ lr).trans c1
      have q2 : ∀ X, Below wr.heap.size wr X → X.cell? ⟨g', i * 4 + 2, none⟩ = some (.int .i64 (g i).w) := fun X h => (bcell h _ _ lr).trans c2
      have q3 : ∀ X, Below wr.heap.size wr X → X.cell? ⟨g', i * 4 + 3, none⟩ = some (.int .i64 (g i).s) := fun X h => (bcell h _ _ lr).trans c3
      have qf : ∀ X, Below wr.heap.size wr X → ∀ j, X.frozen? ⟨g', j, none⟩ = false := fun X h j => (bfrozen h _ _ lr).trans (rf j)
      have hMi := HM.out i
      have hGi := hid hMi
      by_cases hKi : K i = 0
      · rw [hKi] at r4 hk0
        rw [if_pos hKi] at hMi
        have haf := fun W' => HA.out i W' hlt
        rw [← hMi] at haf
        clear hMi hKi
        go_upto_region 6 with (fail)
        clear X0_2 X1_0 c0 c1 c2 c3 hk0
        refine wp_region_S (fun X => Below wr.heap.size wr X) 11 (by kernel_rfl) ?_
        refine anyS_take (i := 0) rfl (by kernel_rfl) (fun _ _ _ h => h) (Or.inl ⟨by rfl, fun Y hYb => (by (try dsimp only at hYb); go_simp; rfl)⟩) (by repeat' (first | with_reducible assumption | with_reducible exact Below.refl _ _ | with_reducible refine Below.drew ?_ | with_reducible refine below_drewN ?_ _)) ?_
        refine anyS_take (i := 1) rfl (by kernel_rfl) (fun _ _ _ h => h) (Or.inl ⟨by rfl, fun Y hYb => (by (try dsimp only at hYb); go_simp; rfl)⟩) (by repeat' (first | with_reducible assumption | with_reducible exact Below.refl _ _ | with_reducible refine Below.drew ?_ | with_reducible refine below_drewN ?_ _)) ?_
        refine anyS_take (i := 2) rfl (by kernel_rfl) (fun _ _ _ h => h) (Or.inl ⟨by rfl, fun Y hYb => (by (try dsimp only at hYb); go_simp; rfl)⟩) (by repeat' (first | with_reducible assumption | with_reducible exact Below.refl _ _ | with_reducible refine Below.drew ?_ | with_reducible refine below_drewN ?_ _)) ?_
        refine anyS_take (i := 3) rfl (by kernel_rfl) (fun _ _ _ h => h) (Or.inl ⟨by rfl, fun Y hYb => (by (try dsimp only at hYb); go_simp; rfl)⟩) (by repeat' (first | with_reducible assumption | with_reducible exact Below.refl _ _ | with_reducible refine Below.drew ?_ | with_reducible refine below_drewN ?_ _)) ?_
        refine anyS_take (i := 4) rfl (by kernel_rfl) (fun _ _ _ h => h) (Or.inl ⟨by rfl, fun Y hYb => (by (try dsimp only at hYb); go_simp; rfl)⟩) (by repeat' (first | with_reducible assumption | with_reducible exact Below.refl _ _ | with_reducible refine Below.drew ?_ | with_reducible refine below_drewN ?_ _)) ?_
        refine anyS_take (i := 5) rfl (by kernel_rfl) (fun _ _ _ h => h) (Or.inl ⟨by rfl, fun Y hYb => (by (try dsimp only at hYb); go_simp; rfl)⟩) (by repeat' (first | with_reducible assumption | with_reducible exact Below.refl _ _ | with_reducible refine Below.drew ?_ | with_reducible refine below_drewN ?_ _)) ?_
        refine anyS_take (i := 6) rfl (by kernel_rfl) (fun _ _ _ h => h) (Or.inl ⟨by rfl, fun Y hYb => (by (try dsimp only at hYb); go_simp; rfl)⟩) (by repeat' (first | with_reducible assumption | with_reducible exact Below.refl _ _ | with_reducible refine Below.drew ?_ | with_reducible refine below_drewN ?_ _)) ?_
        refine anyS_take (i := 7) rfl (by kernel_rfl) (fun _ _ _ h => h) (Or.inl ⟨by rfl, fun Y hYb => (by (try dsimp only at hYb); go_simp; rfl)⟩) (by repeat' (first | with_reducible assumption | with_reducible exact Below.refl _ _ | with_reducible refine Below.drew ?_ | with_reducible refine below_drewN ?_ _)) ?_
        refine anyS_take (i := 8) rfl (by kernel_rfl) (fun _ _ _ h => h) (Or.inl ⟨by rfl, fun Y hYb => (by (try dsimp only at hYb); go_simp; rfl)⟩) (by repeat' (first | with_reducible assumption | with_reducible exact Below.refl _ _ | with_reducible refine Below.drew ?_ | with_reducible refine below_drewN ?_ _)) ?_
        refine anyS_one (i := 9) (by kernel_rfl) rfl (by rfl) (fun K hK => ?_)
        go_simp
        refine (haf _).mono ?_
        rintro e w2 ⟨rfl, hb2⟩
        dsimp only
        have hS2 : Below wr.heap.size wr w2 := bvia (Below.refl _ wr).drew hb2
        refine hK _ _ (fun _ _ => hS2) ?_
        clear hK K hb2
        refine anyS_take (i := 10) rfl (by kernel_rfl) (fun _ _ _ h => h) (Or.inl ⟨by rfl, fun Y hYb => (by (try dsimp only at hYb); go_simp; rfl)⟩) (by repeat' (first | with_reducible assumption | with_reducible exact Below.refl _ _ | with_reducible refine Below.drew ?_ | with_reducible refine below_drewN ?_ _)) ?_
        have y0 := q0 _ hS2; have y1 := q1 _ hS2; have y2 := q2 _ hS2; have y3 := q3 _ hS2; have yf := qf _ hS2
        refine anyS_one (i := 11) (by kernel_rfl) rfl (by rfl) (fun K hK => ?_)
        go_simp
        refine hK _ _ (fun h _ => absurd h (by decide)) ?_
        clear hK K
        refine anyS_done (by kernel_rfl) ?_ _
        have X0' := X0.below hS2; have X1' := X1.below hS2; have X2' := X2.below hS2; have X3' := X3.below hS2; have R' := R.below hS2
        have hB' := bvia hB hS2
        clear X0 X1 X2 X3 R hB q0 q1 q2 q3 qf r0 r1 r2 r3 r4
        go_wp2_with fail
        go_roundw
        case rel => exact ⟨i + 1, by omega, by go_num, by (repeat' (first | with_reducible assumption | (with_reducible refine Bx.newE ?_ _ _; (simp; done)) | with_reducible refine Bx.alloc ?_ _ | with_reducible refine Bx.drew ?_ | with_reducible refine Bx.drewN ?_ _ | with_reducible refine Bx.four ?_ | (with_reducible refine Bx.far2 ?_ ?_ _; (dsimp only; omega)))), by (repeat' (first | with_reducible assumption | (with_reducible refine Bx.newE ?_ _ _; (simp; done)) | with_reducible refine Bx.alloc ?_ _ | with_reducible refine Bx.drew ?_ | with_reducible refine Bx.drewN ?_ _ | with_reducible refine Bx.four ?_ | (with_reducible refine Bx.far2 ?_ ?_ _; (dsimp only; omega)))), by (repeat' (first | with_reducible assumption | (with_reducible refine Bx.newE ?_ _ _; (simp; done)) | with_reducible refine Bx.alloc ?_ _ | with_reducible refine Bx.drew ?_ | with_reducible refine Bx.drewN ?_ _ | with_reducible refine Bx.four ?_ | (with_reducible refine Bx.far2 ?_ ?_ _; (dsimp only; omega)))), by (repeat' (first | with_reducible assumption | (with_reducible refine Bx.newE ?_ _ _; (simp; done)) | with_reducible refine Bx.alloc ?_ _ | with_reducible refine Bx.drew ?_ | with_reducible refine Bx.drewN ?_ _ | with_reducible refine Bx.four ?_ | (with_reducible refine Bx.far2 ?_ ?_ _; (dsimp only; omega)))), by rw [ovC_succ]; exact R'.setC i (G i), by have hB := hB'; (repeat' (first | with_reducible assumption | with_reducible exact Below.refl _ _ | with_reducible refine Below.drew ?_ | with_reducible refine below_drewN ?_ _ | with_reducible refine balloc ?_ _ | with_reducible refine bset ?_ ?_ _ | with_reducible refine Below.setCell ?_ ?_ _ | with_reducible refine Below.alloc ?_ ?_ _ | omega | (simp; done) | (simp; omega)))⟩
        case measure => simp [intOf]; omega
      · have hkr := fun W' => HS.out i W' hlt
        rw [if_neg hKi] at hMi
        rw [← hMi] at hkr
        have hKi' : (K i == 0) = false := by simpa using hKi
        clear hMi hKi
        go_upto_region 7 with (fail)
        clear X0_2 X1_0 c0 c1 c2 c3 hk0
        refine wp_region_S (fun X => Below wr.heap.size wr X) 15 (by kernel_rfl) ?_
        refine anyS_take (i := 0) rfl (by kernel_rfl) (fun _ _ _ h => h) (Or.inl ⟨by rfl, fun Y hYb => (by (try dsimp only at hYb); go_simp; rfl)⟩) (by repeat' (first | with_reducible assumption | with_reducible exact Below.refl _ _ | with_reducible refine Below.drew ?_ | with_reducible refine below_drewN ?_ _)) ?_
        refine anyS_take (i := 1) rfl (by kernel_rfl) (fun _ _ _ h => h) (Or.inl ⟨by rfl, fun Y hYb => (by (try dsimp only at hYb); go_simp; rfl)⟩) (by repeat' (first | with_reducible assumption | with_reducible exact Below.refl _ _ | with_reducible refine Below.drew ?_ | with_reducible refine below_drewN ?_ _)) ?_
        refine anyS_take (i := 2) rfl (by kernel_rfl) (fun _ _ _ h => h) (Or.inl ⟨by rfl, fun Y hYb => (by (try dsimp only at hYb); go_simp; rfl)⟩) (by repeat' (first | with_reducible assumption | with_reducible exact Below.refl _ _ | with_reducible refine Below.drew ?_ | with_reducible refine below_drewN ?_ _)) ?_
        refine anyS_take (i := 3) rfl (by kernel_rfl) (fun _ _ _ h => h) (Or.inl ⟨by rfl, fun Y hYb => (by (try dsimp only at hYb); go_simp; rfl)⟩) (by repeat' (first | with_reducible assumption | with_reducible exact Below.refl _ _ | with_reducible refine Below.drew ?_ | with_reducible refine below_drewN ?_ _)) ?_
        refine anyS_take (i := 4) rfl (by kernel_rfl) (fun _ _ _ h => h) (Or.inl ⟨by rfl, fun Y hYb => (by (try dsimp only at hYb); go_simp; rfl)⟩) (by repeat' (first | with_reducible assumption | with_reducible exact Below.refl _ _ | with_reducible refine Below.drew ?_ | with_reducible refine below_drewN ?_ _)) ?_
        refine anyS_take (i := 5) rfl (by kernel_rfl) (fun _ _ _ h => h) (Or.inl ⟨by rfl, fun Y hYb => (by (try dsimp only at hYb); go_simp; rfl)⟩) (by repeat' (first | with_reducible assumption | with_reducible exact Below.refl _ _ | with_reducible refine Below.drew ?_ | with_reducible refine below_drewN ?_ _)) ?_
        refine anyS_take (i := 6) rfl (by kernel_rfl) (fun _ _ _ h => h) (Or.inl ⟨by rfl, fun Y hYb => (by (try dsimp only at hYb); go_simp; rfl)⟩) (by repeat' (first | with_reducible assumption | with_reducible exact Below.refl _ _ | with_reducible refine Below.drew ?_ | with_reducible refine below_drewN ?_ _)) ?_
        refine anyS_take (i := 7) rfl (by kernel_rfl) (fun _ _ _ h => h) (Or.inl ⟨by rfl, fun Y hYb => (by (try dsimp only at hYb); go_simp; rfl)⟩) (by repeat' (first | with_reducible assumption | with_reducible exact Below.refl _ _ | with_reducible refine Below.drew ?_ | with_reducible refine below_drewN ?_ _)) ?_
        refine anyS_take (i := 8) rfl (by kernel_rfl) (fun _ _ _ h => h) (Or.inl ⟨by rfl, fun Y hYb => (by (try dsimp only at hYb); go_simp; rfl)⟩) (by repeat' (first | with_reducible assumption | with_reducible exact Below.refl _ _ | with_reducible refine Below.drew ?_ | with_reducible refine below_drewN ?_ _)) ?_
        refine anyS_take (i := 9) rfl (by kernel_rfl) (fun _ _ _ h => h) (Or.inl ⟨by rfl, fun Y hYb => (by (try dsimp only at hYb); go_simp; rfl)⟩) (by repeat' (first | with_reducible assumption | with_reducible exact Below.refl _ _ | with_reducible refine Below.drew ?_ | with_reducible refine below_drewN ?_ _)) ?_
        refine anyS_take (i := 10) rfl (by kernel_rfl) (fun _ _ _ h => h) (Or.inl ⟨by rfl, fun Y hYb => (by (try dsimp only at hYb); go_simp; rfl)⟩) (by repeat' (first | with_reducible assumption | with_reducible exact Below.refl _ _ | with_reducible refine Below.drew ?_ | with_reducible refine below_drewN ?_ _)) ?_
        refine anyS_take (i := 11) rfl (by kernel_rfl) (fun _ _ _ h => h) (Or.inl ⟨by rfl, fun Y hYb => (by (try dsimp only at hYb); go_simp; rfl)⟩) (by repeat' (first | with_reducible assumption | with_reducible exact Below.refl _ _ | with_reducible refine Below.drew ?_ | with_reducible refine below_drewN ?_ _)) ?_
        refine anyS_take (i := 12) rfl (by kernel_rfl) (fun _ _ _ h => h) (Or.inl ⟨by rfl, fun Y hYb => (by (try dsimp only at hYb); go_simp; rfl)⟩) (by repeat' (first | with_reducible assumption | with_reducible exact Below.refl _ _ | with_reducible refine Below.drew ?_ | with_reducible refine below_drewN ?_ _)) ?_
        refine anyS_one (i := 13) (by kernel_rfl) rfl (by rfl) (fun K hK => ?_)
        go_simp
        refine (hkr _).mono ?_
        rintro e w2 ⟨rfl, hb2⟩
        dsimp only
        have hS2 : Below wr.heap.size wr w2 := bvia (Below.refl _ wr).drew hb2
        refine hK _ _ (fun _ _ => hS2) ?_
        clear hK K hb2
        refine anyS_take (i := 14) rfl (by kernel_rfl) (fun _ _ _ h => h) (Or.inl ⟨by rfl, fun Y hYb => (by (try dsimp only at hYb); go_simp; rfl)⟩) (by repeat' (first | with_reducible assumption | with_reducible exact Below.refl _ _ | with_reducible refine Below.drew ?_ | with_reducible refine below_drewN ?_ _)) ?_
        have y0 := q0 _ hS2; have y1 := q1 _ hS2; have y2 := q2 _ hS2; have y3 := q3 _ hS2; have yf := qf _ hS2
        refine anyS_one (i := 15) (by kernel_rfl) rfl (by rfl) (fun K hK => ?_)
        go_simp
        refine hK _ _ (fun h _ => absurd h (by decide)) ?_
        clear hK K
        refine anyS_done (by kernel_rfl) ?_ _
        have X0' := X0.below hS2; have X1' := X1.below hS2; have X2' := X2.below hS2; have X3' := X3.below hS2; have R' := R.below hS2
        have hB' := bvia hB hS2
        clear X0 X1 X2 X3 R hB q0 q1 q2 q3 qf r0 r1 r2 r3 r4
        go_wp2_with fail
        go_roundw
        case rel => exact ⟨i + 1, by omega, by go_num, by (repeat' (first | with_reducible assumption | (with_reducible refine Bx.newE ?_ _ _; (simp; done)) | with_reducible refine Bx.alloc ?_ _ | with_reducible refine Bx.drew ?_ | with_reducible refine Bx.drewN ?_ _ | with_reducible refine Bx.four ?_ | (with_reducible refine Bx.far2 ?_ ?_ _; (dsimp only; omega)))), by (repeat' (first | with_reducible assumption | (with_reducible refine Bx.newE ?_ _ _; (simp; done)) | with_reducible refine Bx.alloc ?_ _ | with_reducible refine Bx.drew ?_ | with_reducible refine Bx.drewN ?_ _ | with_reducible refine Bx.four ?_ | (with_reducible refine Bx.far2 ?_ ?_ _; (dsimp only; omega)))), by (repeat' (first | with_reducible assumption | (with_reducible refine Bx.newE ?_ _ _; (simp; done)) | with_reducible refine Bx.alloc ?_ _ | with_reducible refine Bx.drew ?_ | with_reducible refine Bx.drewN ?_ _ | with_reducible refine Bx.four ?_ | (with_reducible refine Bx.far2 ?_ ?_ _; (dsimp only; omega)))), by (repeat' (first | with_reducible assumption | (with_reducible refine Bx.newE ?_ _ _; (simp; done)) | with_reducible refine Bx.alloc ?_ _ | with_reducible refine Bx.drew ?_ | with_reducible refine Bx.drewN ?_ _ | with_reducible refine Bx.four ?_ | (with_reducible refine Bx.far2 ?_ ?_ _; (dsimp only; omega)))), by rw [ovC_succ]; exact R'.setC i (G i), by have hB := hB'; (repeat' (first | with_reducible assumption | with_reducible exact Below.refl _ _ | with_reducible refine Below.drew ?_ | with_reducible refine below_drewN ?_ _ | with_reducible refine balloc ?_ _ | with_reducible refine bset ?_ ?_ _ | with_reducible refine Below.setCell ?_ ?_ _ | with_reducible refine Below.alloc ?_ ?_ _ | omega | (simp; done) | (simp; omega)))⟩
        case measure => simp [intOf]; omega
    · obtain rfl : i = n := (by omega)
      have HR := hid (R.congr (flatC_congr (fun j hj => ovC_lt hj)))
      have X0_0 := X0.at_ 0 rfl; have X0_1 := X0.at_ 1 rfl
      have X3_0 := X3.at_ 0 rfl; have X3_1 := X3.at_ 1 rfl; have X3_2 := X3.at_ 2 rfl; have X3f := X3.free
      clear R
      go_wp2_with fail
      refine bodyPost_ret (v := .agg #[.int .i64 (W : Int), .int .i64 (H : Int), .slice (some ⟨g', 0, none⟩) i cap]) (by simp [results, Try.results150, go_sem, X3_0, X3_1, X3_2]) rfl ⟨g', cap, rfl, by omega, ?_, hcap, by (repeat' (first | with_reducible assumption | with_reducible exact Below.refl _ _ | with_reducible refine Below.drew ?_ | with_reducible refine below_drewN ?_ _ | with_reducible refine balloc ?_ _ | with_reducible refine bset ?_ ?_ _ | with_reducible refine Below.setCell ?_ ?_ _ | with_reducible refine Below.alloc ?_ ?_ _ | omega | (simp; done) | (simp; omega)))⟩
      have R := HR.out
      (repeat' (first | with_reducible assumption | with_reducible refine Ro.drew ?_ | with_reducible refine Ro.drewN ?_ _ | with_reducible refine Ro.alloc ?_ _ | with_reducible refine Ro.far ?_ ?_ _ | (show _ ≠ _; dsimp only; omega)))
set_option maxRecDepth 100000 in
set_option maxHeartbeats 2000000 in
theorem ref3_step (W H : Nat) (a ak ab : Option Addr) (ca ck nb cb : Nat) (g : Nat → C4) (K : Nat → Int) (k b : Int) (w : World) (h1 : 1 ≤ W ∧ W ≤ 64) (h2 : 1 ≤ H ∧ H ≤ 64) (S : Sc w a (W * H) g) (SK : Sl w ak (W * H) K)
    (hK : ∀ i, i < W * H → 0 ≤ K i ∧ K i ≤ 3) (hv : okG (W * H) g) (hr : ruleOk k b) :
    Calls Try.prog 104 #[.agg #[.int .i64 (W : Int), .int .i64 (H : Int), .slice a (W * H) ca], .agg #[.slice ak (W * H) ck, .slice ab nb cb], .agg #[.int .i64 k, .int .i64 b]] w (GridRow W H (W * H) (stepW W H (k, b) K g) w) := by
  have hWH : W * H ≤ 4096 := Nat.mul_le_mul h1.2 h2.2
  have hn0 : 0 < W * H := Nat.mul_pos (by omega) (by omega)
  have hmet := fun W' S' SK' => ref3_met W H a ak ab (W * H) ca ck nb cb g K k b W' (by omega) hn0 S' SK' hK hv.1 hr
  have hfl := fun a' ca' W' S' => ref2_Flow W H a' ca' (metF k b K g) W' h1 h2 S'
  have e : flow W H (metF k b K g) = stepW W H (k, b) K g := rfl
  rw [e] at hfl
  clear e hK hv hr h1 h2
  generalize stepW W H (k, b) K g = G at *
  generalize metF k b K g = M at *
  generalize W * H = n at *
  have X0 := (((Bx.new w #[.int .i64 (W : Int), .int .i64 (H : Int), .slice a n ca] 24).alloc (.cells #[.slice ak n ck, .slice ab nb cb] 27)).alloc (.cells #[.int .i64 k, .int .i64 b] 73)).alloc (.cells #[.int .i64 0, .int .i64 0, .slice none 0 0] 24)
  have X1 := ((Bx.new (w.alloc (.cells #[.int .i64 (W : Int), .int .i64 (H : Int), .slice a n ca] 24)) #[.slice ak n ck, .slice ab nb cb] 27).alloc (.cells #[.int .i64 k, .int .i64 b] 73)).alloc (.cells #[.int .i64 0, .int .i64 0, .slice none 0 0] 24)
  have X2 := (Bx.new ((w.alloc (.cells #[.int .i64 (W : Int), .int .i64 (H : Int), .slice a n ca] 24)).alloc (.cells #[.slice ak n ck, .slice ab nb cb] 27)) #[.int .i64 k, .int .i64 b] 73).alloc (.cells #[.int .i64 0, .int .i64 0, .slice none 0 0] 24)
  have X3 := Bx.new (((w.alloc (.cells #[.int .i64 (W : Int), .int .i64 (H : Int), .slice a n ca] 24)).alloc (.cells #[.slice ak n ck, .slice ab nb cb] 27)).alloc (.cells #[.int .i64 k, .int .i64 b] 73)) #[.int .i64 0, .int .i64 0, .slice none 0 0] 24
  simp only [World.size_alloc] at X1 X2 X3
  have hB0 : Below w.heap.size w ((((w.alloc (.cells #[.int .i64 (W : Int), .int .i64 (H : Int), .slice a n ca] 24)).alloc (.cells #[.slice ak n ck, .slice ab nb cb] 27)).alloc (.cells #[.int .i64 k, .int .i64 b] 73)).alloc (.cells #[.int .i64 0, .int .i64 0, .slice none 0 0] 24)) := by (repeat' (first | with_reducible assumption | with_reducible exact Below.refl _ _ | with_reducible refine Below.drew ?_ | with_reducible refine below_drewN ?_ _ | with_reducible refine balloc ?_ _ | with_reducible refine bset ?_ ?_ _ | with_reducible refine Below.setCell ?_ ?_ _ | with_reducible refine Below.alloc ?_ ?_ _ | omega | (simp; done) | (simp; omega)))
  go_enter Try.func104, Try.ntmps104
  go_wp2_with fail
  generalize ((((w.alloc (.cells #[.int .i64 (W : Int), .int .i64 (H : Int), .slice a n ca] 24)).alloc (.cells #[.slice ak n ck, .slice ab nb cb] 27)).alloc (.cells #[.int .i64 k, .int .i64 b] 73)).alloc (.cells #[.int .i64 0, .int .i64 0, .slice none 0 0] 24)) = W0 at X0 X1 X2 X3 hB0 ⊢
  have z0 := X0.lt
  have z1 := X1.lt
  have z2 := X2.lt
  have z3 := X3.lt
  refine (hmet _ (S.below hB0) (SK.below hB0)).mono ?_
  rintro e w1 ⟨g1, cap1, rfl, hg1, R1, hcap1, hb1⟩
  have hB := hB0
  clear hB0 hmet
  have hsb := hb1.size
  replace X0 := X0.below hb1
  replace X1 := X1.below hb1
  replace X2 := X2.below hb1
  replace X3 := X3.below hb1
  replace hB := bvia hB hb1
  clear hb1
  go_wp2_with fail
  refine (hfl _ _ _ R1.sc).mono ?_
  rintro e w2 ⟨g', cap, rfl, hg', R, hcap, hb2⟩
  have hs1 := hB.size
  replace X0 := X0.below hb2
  replace X1 := X1.below hb2
  replace X2 := X2.below hb2
  replace X3 := X3.below hb2
  replace hB := bvia hB hb2
  clear hb2
  have X3_0 := X3.at_ 0 rfl
  have X3_1 := X3.at_ 1 rfl
  have X3_2 := X3.at_ 2 rfl
  have X3f := X3.free
  have X3z := X3.lt
  clear R1
  go_wp2_with fail
  refine bodyPost_ret (v := .agg #[.int .i64 (W : Int), .int .i64 (H : Int), .slice (some ⟨g', 0, none⟩) n cap]) (by simp [results, Try.results104, go_sem, X3_0, X3_1, X3_2]) rfl ⟨g', cap, rfl, by omega, by (repeat' (first | with_reducible assumption | with_reducible refine Ro.drew ?_ | with_reducible refine Ro.drewN ?_ _ | with_reducible refine Ro.alloc ?_ _ | with_reducible refine Ro.far ?_ ?_ _ | (show _ ≠ _; dsimp only; omega))), hcap, by (repeat' (first | with_reducible assumption | with_reducible exact Below.refl _ _ | with_reducible refine Below.drew ?_ | with_reducible refine below_drewN ?_ _ | with_reducible refine balloc ?_ _ | with_reducible refine bset ?_ ?_ _ | with_reducible refine Below.setCell ?_ ?_ _ | with_reducible refine Below.alloc ?_ ?_ _ | omega | (simp; done) | (simp; omega)))⟩
set_option maxRecDepth 100000 in
set_option maxHeartbeats 2000000 in
theorem ref3_back (W H : Nat) (a ak ab : Option Addr) (ca ck nb cb : Nat) (g : Nat → C4) (K : Nat → Int) (k b : Int) (w : World) (h1 : 1 ≤ W ∧ W ≤ 64) (h2 : 1 ≤ H ∧ H ≤ 64) (S : Sc w a (W * H) g) (SK : Sl w ak (W * H) K)
    (hK : ∀ i, i < W * H → 0 ≤ K i ∧ K i ≤ 3) (hv : okG (W * H) g) (hr : ruleOk k b) :
    Calls Try.prog 108 #[.agg #[.int .i64 (W : Int), .int .i64 (H : Int), .slice a (W * H) ca], .agg #[.slice ak (W * H) ck, .slice ab nb cb], .agg #[.int .i64 k, .int .i64 b]] w (GridRow W H (W * H) (backW W H (k, b) K g) w) := by
  have hWH : W * H ≤ 4096 := Nat.mul_le_mul h1.2 h2.2
  have hn0 : 0 < W * H := Nat.mul_pos (by omega) (by omega)
  have hE := ebb_valid hv.1 hv.2
  have hbd := ruleOk_bd hr
  have hmet := fun a' ca' W' S' SK' => ref3_met W H a' ak ab (W * H) ca' ck nb cb (ebb W H g) K k (-b) W' (by omega) hn0 S' SK' hK hE (ruleOk_neg hr)
  have hfl := fun W' S' => ref2_Ebb W H a ca g W' h1 h2 S'
  have hop := fun W' => ref1_opposite k b W' hbd.1 hbd.2
  have e : metF k (-b) K (ebb W H g) = backW W H (k, b) K g := rfl
  rw [e] at hmet
  clear e hK hv hr h1 h2 hE hbd
  generalize backW W H (k, b) K g = G at *
  generalize ebb W H g = M at *
  generalize W * H = n at *
  have X0 := (((Bx.new w #[.int .i64 (W : Int), .int .i64 (H : Int), .slice a n ca] 24).alloc (.cells #[.slice ak n ck, .slice ab nb cb] 27)).alloc (.cells #[.int .i64 k, .int .i64 b] 73)).alloc (.cells #[.int .i64 0, .int .i64 0, .slice none 0 0] 24)
  have X1 := ((Bx.new (w.alloc (.cells #[.int .i64 (W : Int), .int .i64 (H : Int), .slice a n ca] 24)) #[.slice ak n ck, .slice ab nb cb] 27).alloc (.cells #[.int .i64 k, .int .i64 b] 73)).alloc (.cells #[.int .i64 0, .int .i64 0, .slice none 0 0] 24)
  have X2 := (Bx.new ((w.alloc (.cells #[.int .i64 (W : Int), .int .i64 (H : Int), .slice a n ca] 24)).alloc (.cells #[.slice ak n ck, .slice ab nb cb] 27)) #[.int .i64 k, .int .i64 b] 73).alloc (.cells #[.int .i64 0, .int .i64 0, .slice none 0 0] 24)
  have X3 := Bx.new (((w.alloc (.cells #[.int .i64 (W : Int), .int .i64 (H : Int), .slice a n ca] 24)).alloc (.cells #[.slice ak n ck, .slice ab nb cb] 27)).alloc (.cells #[.int .i64 k, .int .i64 b] 73)) #[.int .i64 0, .int .i64 0, .slice none 0 0] 24
  simp only [World.size_alloc] at X1 X2 X3
  have hB0 : Below w.heap.size w ((((w.alloc (.cells #[.int .i64 (W : Int), .int .i64 (H : Int), .slice a n ca] 24)).alloc (.cells #[.slice ak n ck, .slice ab nb cb] 27)).alloc (.cells #[.int .i64 k, .int .i64 b] 73)).alloc (.cells #[.int .i64 0, .int .i64 0, .slice none 0 0] 24)) := by (repeat' (first | with_reducible assumption | with_reducible exact Below.refl _ _ | with_reducible refine Below.drew ?_ | with_reducible refine below_drewN ?_ _ | with_reducible refine balloc ?_ _ | with_reducible refine bset ?_ ?_ _ | with_reducible refine Below.setCell ?_ ?_ _ | with_reducible refine Below.alloc ?_ ?_ _ | omega | (simp; done) | (simp; omega)))
  go_enter Try.func108, Try.ntmps108
  go_upto_region 1 with (fail)
  generalize ((((w.alloc (.cells #[.int .i64 (W : Int), .int .i64 (H : Int), .slice a n ca] 24)).alloc (.cells #[.slice ak n ck, .slice ab nb cb] 27)).alloc (.cells #[.int .i64 k, .int .i64 b] 73)).alloc (.cells #[.int .i64 0, .int .i64 0, .slice none 0 0] 24)) = W0 at X0 X1 X2 X3 hB0 ⊢
  have z0 := X0.lt
  have z1 := X1.lt
  have z2 := X2.lt
  have z3 := X3.lt
  have r0 : ∀ X, Below W0.heap.size W0 X → X.cell? ⟨w.heap.size, 0, none⟩ = some (.int .i64 (W : Int)) := fun X h => (X0.below h).at_ 0 rfl
  have r1 : ∀ X, Below W0.heap.size W0 X → X.cell? ⟨w.heap.size, 1, none⟩ = some (.int .i64 (H : Int)) := fun X h => (X0.below h).at_ 1 rfl
  have r2 : ∀ X, Below W0.heap.size W0 X → X.cell? ⟨w.heap.size, 2, none⟩ = some (.slice a n ca) := fun X h => (X0.below h).at_ 2 rfl
  have r3 : ∀ X, Below W0.heap.size W0 X → X.cell? ⟨w.heap.size + 1, 0, none⟩ = some (.slice ak n ck) := fun X h => (X1.below h).at_ 0 rfl
  have r4 : ∀ X, Below W0.heap.size W0 X → X.cell? ⟨w.heap.size + 1, 1, none⟩ = some (.slice ab nb cb) := fun X h => (X1.below h).at_ 1 rfl
  have r5 : ∀ X, Below W0.heap.size W0 X → X.cell? ⟨w.heap.size + 1 + 1, 0, none⟩ = some (.int .i64 k) := fun X h => (X2.below h).at_ 0 rfl
  have r6 : ∀ X, Below W0.heap.size W0 X → X.cell? ⟨w.heap.size + 1 + 1, 1, none⟩ = some (.int .i64 b) := fun X h => (X2.below h).at_ 1 rfl
  have S0 := S.below hB0; have SK0 := SK.below hB0
  have hs0 := hB0.size
  refine wp_region_S (fun X => Below W0.heap.size W0 X) 6 (by kernel_rfl) ?_
  refine anyS_take (i := 0) rfl (by kernel_rfl) (fun _ _ _ h => h) (Or.inl ⟨by rfl, fun Y hYb => (by (try dsimp only at hYb); go_simp; rfl)⟩) (by repeat' (first | with_reducible assumption | with_reducible exact Below.refl _ _ | with_reducible refine Below.drew ?_ | with_reducible refine below_drewN ?_ _)) ?_
  refine anyS_take (i := 2) rfl (by kernel_rfl) (fun _ _ _ h => h) (Or.inl ⟨by rfl, fun Y hYb => (by (try dsimp only at hYb); go_simp; rfl)⟩) (by repeat' (first | with_reducible assumption | with_reducible exact Below.refl _ _ | with_reducible refine Below.drew ?_ | with_reducible refine below_drewN ?_ _)) ?_
  refine anyS_take (i := 3) rfl (by kernel_rfl) (fun _ _ _ h => h) (Or.inl ⟨by rfl, fun Y hYb => (by (try dsimp only at hYb); go_simp; rfl)⟩) (by repeat' (first | with_reducible assumption | with_reducible exact Below.refl _ _ | with_reducible refine Below.drew ?_ | with_reducible refine below_drewN ?_ _)) ?_
  refine anyS_one (i := 1) (by kernel_rfl) rfl (by rfl) (fun K hK => ?_)
  go_simp
  refine (hfl _ (S0.below (Below.refl _ _).drew)).mono ?_
  rintro e w1 ⟨g1, cap1, rfl, hg1, R1, hcap1, hb1⟩
  dsimp only
  have hS1 : Below W0.heap.size W0 w1 := bvia (Below.refl _ W0).drew hb1
  refine hK _ _ (fun _ _ => hS1) ?_
  clear hK K
  refine anyS_one (i := 4) (by kernel_rfl) rfl (by rfl) (fun K hK => ?_)
  go_simp
  refine (hop _).mono ?_
  rintro e w2 ⟨rfl, hb2⟩
  dsimp only
  have hS2 : Below W0.heap.size W0 w2 := bvia hS1 hb2
  refine hK _ _ (fun _ _ => hS2) ?_
  clear hK
  refine anyS_one (i := 5) (by kernel_rfl) rfl (by rfl) (fun K hK => ?_)
  go_simp
  refine (hmet _ _ _ (R1.below hb2).sc (SK0.below hS2)).mono ?_
  rintro e w3 ⟨g', cap, rfl, hg', R, hcap, hb3⟩
  dsimp only
  have hS3 : Below W0.heap.size W0 w3 := bvia hS2 hb3
  refine hK _ _ (fun _ _ => hS3) ?_
  clear hK
  replace X3 := X3.below hS3
  have X3_0 := X3.at_ 0 rfl
  have X3_1 := X3.at_ 1 rfl
  have X3_2 := X3.at_ 2 rfl
  have X3f := X3.free
  have z3' := X3.lt
  have hB := bvia hB0 hS3
  have hss := hS2.size
  refine anyS_one (i := 6) (by kernel_rfl) rfl (by rfl) (fun K hK => ?_)
  go_simp
  refine hK _ _ (fun h _ => absurd h (by decide)) ?_
  clear hK K
  refine anyS_done (by kernel_rfl) ?_ _
  clear r0 r1 r2 r3 r4 r5 r6
  go_wp2_with fail
  refine bodyPost_ret (v := .agg #[.int .i64 (W : Int), .int .i64 (H : Int), .slice (some ⟨g', 0, none⟩) n cap]) (by simp [results, Try.results108, go_sem, X3_0, X3_1, X3_2]) rfl ⟨g', cap, rfl, by omega, by (repeat' (first | with_reducible assumption | with_reducible refine Ro.drew ?_ | with_reducible refine Ro.drewN ?_ _ | with_reducible refine Ro.alloc ?_ _ | with_reducible refine Ro.far ?_ ?_ _ | (show _ ≠ _; dsimp only; omega))), hcap, by (repeat' (first | with_reducible assumption | with_reducible exact Below.refl _ _ | with_reducible refine Below.drew ?_ | with_reducible refine below_drewN ?_ _ | with_reducible refine balloc ?_ _ | with_reducible refine bset ?_ ?_ _ | with_reducible refine Below.setCell ?_ ?_ _ | with_reducible refine Below.alloc ?_ ?_ _ | omega | (simp; done) | (simp; omega)))⟩
end Go.Proofs.Ytnnaegnkkpknpaa
