/- Walks: a cell turned by two quarters; the program's Reversed of a grid; awake5. -/
import Derived.Test.YtpbobhobhbbimaaGreatPk13
import Derived.Test.YtpbobhobhbbimaaGreatPk3
import Derived.Test.YtpbobhobhbbimaaGreatPk12
import Derived.Test.YtpbobhobhbbimaaGreatPk17
import Derived.Test.YtpbobhobhbbimaaGreatPk20
import Derived.Test.YtpbobhobhbbimaaGreatPk11
import Derived.Test.YtpbobhobhbbimaaGreatPk4
namespace Go.Proofs.YtpbobhobhbbimaaGreat
open Go Go.RowKit
set_option linter.unusedVariables false
def revC (c : C4) : C4 := ⟨c.w, c.s, c.e, c.n⟩
def tvA (c : C4) : Nat → Array Value
  | 0 => #[.int .i64 0, .int .i64 0, .int .i64 0, .int .i64 0]
  | 1 => #[.int .i64 0, .int .i64 0, .int .i64 c.e, .int .i64 0]
  | 2 => #[.int .i64 0, .int .i64 0, .int .i64 c.e, .int .i64 c.n]
  | 3 => #[.int .i64 c.w, .int .i64 0, .int .i64 c.e, .int .i64 c.n]
  | _ => #[.int .i64 c.w, .int .i64 c.s, .int .i64 c.e, .int .i64 c.n]
theorem index4r (a b c d : Value) : ∀ w : World, (Instr.index 44 (.agg #[a, b, c, d]) (.int .i64 0)).run Tryz.prog w = .ok a w ∧ (Instr.index 44 (.agg #[a, b, c, d]) (.int .i64 1)).run Tryz.prog w = .ok b w ∧ (Instr.index 44 (.agg #[a, b, c, d]) (.int .i64 2)).run Tryz.prog w = .ok c w ∧ (Instr.index 44 (.agg #[a, b, c, d]) (.int .i64 3)).run Tryz.prog w = .ok d w := fun w => by
  refine ⟨by kernel_rfl, by kernel_rfl, by kernel_rfl, by kernel_rfl⟩
set_option maxRecDepth 100000 in
set_option maxHeartbeats 2000000 in
theorem cell_Turned2 (c : C4) (w : World) (hv : validC c = true) : Calls Tryz.prog 29 #[.agg #[.int .i64 c.e, .int .i64 c.n, .int .i64 c.w, .int .i64 c.s], .int .i64 2] w fun e w' => e = .returned (.tuple #[.agg #[.int .i64 c.w, .int .i64 c.s, .int .i64 c.e, .int .i64 c.n], .int .i64 0]) ∧ Below w.heap.size w w' := by
  have hval := fun W' => cell_valid c W'
  have hix := index4r (.int .i64 c.e) (.int .i64 c.n) (.int .i64 c.w) (.int .i64 c.s)
  have hi0 := fun W' => (hix W').1; have hi1 := fun W' => (hix W').2.1; have hi2 := fun W' => (hix W').2.2.1; have hi3 := fun W' => (hix W').2.2.2
  rw [hv] at hval
  clear hv hix
  have X0 := (Bx.new w #[.int .i64 c.e, .int .i64 c.n, .int .i64 c.w, .int .i64 c.s] 44).alloc (.cells #[.int .i64 0, .int .i64 0, .int .i64 0, .int .i64 0] 44)
  have X1 := Bx.new (w.alloc (.cells #[.int .i64 c.e, .int .i64 c.n, .int .i64 c.w, .int .i64 c.s] 44)) #[.int .i64 0, .int .i64 0, .int .i64 0, .int .i64 0] 44
  simp only [World.size_alloc] at X1
  have hB0 : Below w.heap.size w ((w.alloc (.cells #[.int .i64 c.e, .int .i64 c.n, .int .i64 c.w, .int .i64 c.s] 44)).alloc (.cells #[.int .i64 0, .int .i64 0, .int .i64 0, .int .i64 0] 44)) := by (repeat' (first | with_reducible assumption | with_reducible exact Below.refl _ _ | with_reducible refine Below.drew ?_ | with_reducible refine below_drewN ?_ _ | with_reducible refine balloc ?_ _ | with_reducible refine bset ?_ ?_ _ | with_reducible refine Below.setCell ?_ ?_ _ | with_reducible refine Below.alloc ?_ ?_ _ | omega | (simp; done) | (simp; omega)))
  go_enter Tryz.func29, Tryz.ntmps29
  go_wp2_with fail
  generalize ((w.alloc (.cells #[.int .i64 c.e, .int .i64 c.n, .int .i64 c.w, .int .i64 c.s] 44)).alloc (.cells #[.int .i64 0, .int .i64 0, .int .i64 0, .int .i64 0] 44)) = W0 at X0 X1 hB0 ⊢
  have z0 := X0.lt
  have z1 := X1.lt
  refine (hval _).mono ?_
  rintro e w1 ⟨rfl, hb1⟩
  have hB := hB0
  clear hB0 hval
  replace X0 := X0.below hb1
  replace X1 := X1.below hb1
  replace hB := bvia hB hb1
  clear hb1
  have X0_0 := X0.at_ 0 rfl
  have X0_1 := X0.at_ 1 rfl
  have X0_2 := X0.at_ 2 rfl
  have X0_3 := X0.at_ 3 rfl
  have X0f := X0.free
  have X0z := X0.lt
  have X1z := X1.lt
  go_wp2_with fail
  have hsz : w.heap.size + 1 < w1.heap.size := X1.lt
  clear X0_0 X0_1 X0_2 X0_3 X0f X0z X1z
  replace X0 := X0.alloc (.cells #[.int .i64 0, .int .i64 0, .int .i64 0, .int .i64 0] 44)
  replace X1 := X1.alloc (.cells #[.int .i64 0, .int .i64 0, .int .i64 0, .int .i64 0] 44)
  have X2 := Bx.new w1 #[.int .i64 0, .int .i64 0, .int .i64 0, .int .i64 0] 44
  replace hB := balloc hB (.cells #[.int .i64 0, .int .i64 0, .int .i64 0, .int .i64 0] 44)
  have X0_0 := X0.at_ 0 rfl
  have X0_1 := X0.at_ 1 rfl
  have X0_2 := X0.at_ 2 rfl
  have X0_3 := X0.at_ 3 rfl
  have X0f := X0.free
  have X0z := X0.lt
  have X1z := X1.lt
  clear X0_0 X0_1 X0_2 X0_3 X0f X0z X1z
  go_loopw [14] (fun s14 wr => ∃ i : Nat, i ≤ 4 ∧ s14 = .int .i64 (i : Int) ∧ Bx wr w1.heap.size (tvA c i) ∧ Bx wr (w.heap.size + 1) #[.int .i64 0, .int .i64 0, .int .i64 0, .int .i64 0] ∧ Below w.heap.size w wr) (fun s14 _ => 4 - (intOf s14).toNat)
  case atStart => exact ⟨0, by omega, rfl, X2, X1, hB⟩
  case round =>
    clear X0 X1 X2 hB
    obtain ⟨i, hi, rfl, X2, X1, hb⟩ := hrel
    rcases (by omega : i = 0 ∨ i = 1 ∨ i = 2 ∨ i = 3 ∨ i = 4) with rfl | rfl | rfl | rfl | rfl
    · skip
      have e0 := X2.at_ 0 rfl; have e1 := X2.at_ 1 rfl; have e2 := X2.at_ 2 rfl; have e3 := X2.at_ 3 rfl; have ef := X2.free; have el := X2.lt
      go_wp2_with fail
      go_roundw
      case rel => exact ⟨0 + 1, by omega, rfl, X2.set_ 2 (by simp [tvA]) (.int .i64 (c.e)), X1.far (by dsimp only; omega) _, bset hb (by dsimp only; omega) _⟩
      case measure => simp [intOf]
    · skip
      have e0 := X2.at_ 0 rfl; have e1 := X2.at_ 1 rfl; have e2 := X2.at_ 2 rfl; have e3 := X2.at_ 3 rfl; have ef := X2.free; have el := X2.lt
      go_wp2_with fail
      go_roundw
      case rel => exact ⟨1 + 1, by omega, rfl, X2.set_ 3 (by simp [tvA]) (.int .i64 (c.n)), X1.far (by dsimp only; omega) _, bset hb (by dsimp only; omega) _⟩
      case measure => simp [intOf]
    · skip
      have e0 := X2.at_ 0 rfl; have e1 := X2.at_ 1 rfl; have e2 := X2.at_ 2 rfl; have e3 := X2.at_ 3 rfl; have ef := X2.free; have el := X2.lt
      go_wp2_with fail
      go_roundw
      case rel => exact ⟨2 + 1, by omega, rfl, X2.set_ 0 (by simp [tvA]) (.int .i64 (c.w)), X1.far (by dsimp only; omega) _, bset hb (by dsimp only; omega) _⟩
      case measure => simp [intOf]
    · skip
      have e0 := X2.at_ 0 rfl; have e1 := X2.at_ 1 rfl; have e2 := X2.at_ 2 rfl; have e3 := X2.at_ 3 rfl; have ef := X2.free; have el := X2.lt
      go_wp2_with fail
      go_roundw
      case rel => exact ⟨3 + 1, by omega, rfl, X2.set_ 1 (by simp [tvA]) (.int .i64 (c.s)), X1.far (by dsimp only; omega) _, bset hb (by dsimp only; omega) _⟩
      case measure => simp [intOf]
    · have e0 : wr.cell? ⟨w1.heap.size, 0, none⟩ = some (.int .i64 c.w) := X2.at_ 0 rfl
      have e1 : wr.cell? ⟨w1.heap.size, 1, none⟩ = some (.int .i64 c.s) := X2.at_ 1 rfl
      have e2 : wr.cell? ⟨w1.heap.size, 2, none⟩ = some (.int .i64 c.e) := X2.at_ 2 rfl
      have e3 : wr.cell? ⟨w1.heap.size, 3, none⟩ = some (.int .i64 c.n) := X2.at_ 3 rfl
      have ef := X2.free; have el := X2.lt
      have f0 := X1.at_ 0 rfl; have f1 := X1.at_ 1 rfl; have f2 := X1.at_ 2 rfl; have f3 := X1.at_ 3 rfl; have ff := X1.free; have fl := X1.lt
      have ne : ¬ w1.heap.size = w.heap.size + 1 := by omega
      go_wp2_with fail
      refine bodyPost_ret (v := .tuple #[.agg #[.int .i64 c.w, .int .i64 c.s, .int .i64 c.e, .int .i64 c.n], .int .i64 0]) (by simp [results, Tryz.results29, go_sem, f0, f1, f2, f3]) rfl ⟨rfl, by (repeat' (first | with_reducible assumption | with_reducible exact Below.refl _ _ | with_reducible refine Below.drew ?_ | with_reducible refine below_drewN ?_ _ | with_reducible refine balloc ?_ _ | with_reducible refine bset ?_ ?_ _ | with_reducible refine Below.setCell ?_ ?_ _ | with_reducible refine Below.alloc ?_ ?_ _ | omega | (simp; done) | (simp; omega)))⟩
set_option maxRecDepth 100000 in
set_option maxHeartbeats 8000000 in
theorem grid_reversed1 (W H n b₀ ca : Nat) (g : Nat → C4) (w : World) (hn : n ≤ 4096) (hv : ∀ i, i < n → validC (g i) = true) (R : Ro w b₀ (n * 4) (flatC g)) :
    Calls Tryz.prog 28 #[.agg #[.int .i64 (W : Int), .int .i64 (H : Int), .slice (some ⟨b₀, 0, none⟩) n ca]] w fun e w' => e = .returned (.agg #[.int .i64 (W : Int), .int .i64 (H : Int), .slice (some ⟨b₀, 0, none⟩) n ca]) ∧ Ro w' b₀ (n * 4) (flatC (fun i => revC (g i))) ∧ But (fun q => q = b₀) w w' := by
  have haf0 := fun i W' h => cell_Turned2 (g i) W' (hv i h)
  generalize hF : (fun i => revC (g i)) = F at *
  have hFi : ∀ i, revC (g i) = F i := fun i => by rw [← hF]
  have haf1 := fun i W' h => (show Calls Tryz.prog 29 #[.agg #[.int .i64 (g i).e, .int .i64 (g i).n, .int .i64 (g i).w, .int .i64 (g i).s], .int .i64 2] W' fun e w' => e = .returned (.tuple #[.agg #[.int .i64 (revC (g i)).e, .int .i64 (revC (g i)).n, .int .i64 (revC (g i)).w, .int .i64 (revC (g i)).s], .int .i64 0]) ∧ Below W'.heap.size W' w' from haf0 i W' h)
  have HA := hid haf1; have HM := hid hFi
  clear haf0 haf1 hFi hF hv
  have hbl := R.lt
  have X0 := (Bx.new w #[.int .i64 (W : Int), .int .i64 (H : Int), .slice (some ⟨b₀, 0, none⟩) n ca] 72).alloc (.cells #[.int .i64 0, .int .i64 0, .slice none 0 0] 72)
  have X1 := Bx.new (w.alloc (.cells #[.int .i64 (W : Int), .int .i64 (H : Int), .slice (some ⟨b₀, 0, none⟩) n ca] 72)) #[.int .i64 0, .int .i64 0, .slice none 0 0] 72
  simp only [World.size_alloc] at X1
  have hB0 : Below w.heap.size w ((w.alloc (.cells #[.int .i64 (W : Int), .int .i64 (H : Int), .slice (some ⟨b₀, 0, none⟩) n ca] 72)).alloc (.cells #[.int .i64 0, .int .i64 0, .slice none 0 0] 72)) := by (repeat' (first | with_reducible assumption | with_reducible exact Below.refl _ _ | with_reducible refine Below.drew ?_ | with_reducible refine below_drewN ?_ _ | with_reducible refine balloc ?_ _ | with_reducible refine bset ?_ ?_ _ | with_reducible refine Below.setCell ?_ ?_ _ | with_reducible refine Below.alloc ?_ ?_ _ | omega | (simp; done) | (simp; omega)))
  go_enter Tryz.func28, Tryz.ntmps28
  go_wp2_with fail
  generalize ((w.alloc (.cells #[.int .i64 (W : Int), .int .i64 (H : Int), .slice (some ⟨b₀, 0, none⟩) n ca] 72)).alloc (.cells #[.int .i64 0, .int .i64 0, .slice none 0 0] 72)) = W0 at X0 X1 hB0 ⊢
  have z0 := X0.lt
  have z1 := X1.lt
  have x00 := X0.at_ 2 rfl
  have hU : But (fun q => q = b₀) w W0 := but_below hB0 (Nat.le_refl _)
  replace R := R.below hB0
  rw [← ovC_zero F g] at R
  go_wp2_with fail
  clear x00 hB0 z0 z1
  go_loopw [9] (fun s13 wr => ∃ i : Nat, i ≤ n ∧ s13 = .int .i64 i ∧ Bx wr w.heap.size #[.int .i64 (W : Int), .int .i64 (H : Int), .slice (some ⟨b₀, 0, none⟩) n ca] ∧ Bx wr (w.heap.size + 1) #[.int .i64 0, .int .i64 0, .slice none 0 0] ∧ Ro wr b₀ (n * 4) (flatC (ovC F g i)) ∧ But (fun q => q = b₀) w wr) (fun s13 _ => n - (intOf s13).toNat)
  case atStart => exact ⟨0, Nat.zero_le _, rfl, X0, X1, R, hU⟩
  case round =>
    clear X0 X1 R hU
    obtain ⟨i, hi, rfl, X0, X1, R, hU⟩ := hrel
    by_cases hlt : i < n
    · have c4 := R.scell hlt
      rw [ovC_at] at c4
      obtain ⟨c0, c1, c2, c3⟩ := c4
      have lb := R.lt
      have hMi := HM.out i
      have haf := fun W' => HA.out i W' hlt
      rw [hMi] at haf
      clear hMi
      have l0 := X0.lt; have l1 := X1.lt
      obtain ⟨wo, rfl⟩ : ∃ wo : World, wo = wr := ⟨_, rfl⟩
      go_upto_region 4 with (fail)
      have X3 := Bx.new wo #[.int .i64 (g i).e, .int .i64 (g i).n, .int .i64 (g i).w, .int .i64 (g i).s] 44
      replace X0 := X0.alloc (.cells #[.int .i64 (g i).e, .int .i64 (g i).n, .int .i64 (g i).w, .int .i64 (g i).s] 44)
      replace X1 := X1.alloc (.cells #[.int .i64 (g i).e, .int .i64 (g i).n, .int .i64 (g i).w, .int .i64 (g i).s] 44)
      replace R := R.alloc (.cells #[.int .i64 (g i).e, .int .i64 (g i).n, .int .i64 (g i).w, .int .i64 (g i).s] 44)
      replace hU := hU.alloc (.cells #[.int .i64 (g i).e, .int .i64 (g i).n, .int .i64 (g i).w, .int .i64 (g i).s] 44)
      clear c0 c1 c2 c3
      generalize wo.alloc (.cells #[.int .i64 (g i).e, .int .i64 (g i).n, .int .i64 (g i).w, .int .i64 (g i).s] 44) = wd at *
      have lr := R.lt
      have c4 := R.scell hlt
      rw [ovC_at] at c4
      obtain ⟨c0, c1, c2, c3⟩ := c4
      have rf := R.free
      have r0 : ∀ Y, Below wd.heap.size wd Y → Y.cell? ⟨w.heap.size, 2, none⟩ = some (.slice (some ⟨b₀, 0, none⟩) n ca) := fun Y h => (X0.below h).at_ 2 rfl
      have u4 : ∀ Y, Below wd.heap.size wd Y → Y.cell? ⟨wo.heap.size, 0, none⟩ = some (.int .i64 (g i).e) := fun Y h => (X3.below h).at_ 0 rfl
      have u5 : ∀ Y, Below wd.heap.size wd Y → Y.cell? ⟨wo.heap.size, 1, none⟩ = some (.int .i64 (g i).n) := fun Y h => (X3.below h).at_ 1 rfl
      have u6 : ∀ Y, Below wd.heap.size wd Y → Y.cell? ⟨wo.heap.size, 2, none⟩ = some (.int .i64 (g i).w) := fun Y h => (X3.below h).at_ 2 rfl
      have u7 : ∀ Y, Below wd.heap.size wd Y → Y.cell? ⟨wo.heap.size, 3, none⟩ = some (.int .i64 (g i).s) := fun Y h => (X3.below h).at_ 3 rfl
      have q0 : ∀ Y, Below wd.heap.size wd Y → Y.cell? ⟨b₀, i * 4, none⟩ = some (.int .i64 (g i).e) := fun Y h => (bcell h _ _ lr).trans c0
      have q1 : ∀ Y, Below wd.heap.size wd Y → Y.cell? ⟨b₀, i * 4 + 1, none⟩ = some (.int .i64 (g i).n) := fun Y h => (bcell h _ _ lr).trans c1
      have q2 : ∀ Y, Below wd.heap.size wd Y → Y.cell? ⟨b₀, i * 4 + 2, none⟩ = some (.int .i64 (g i).w) := fun Y h => (bcell h _ _ lr).trans c2
      have q3 : ∀ Y, Below wd.heap.size wd Y → Y.cell? ⟨b₀, i * 4 + 3, none⟩ = some (.int .i64 (g i).s) := fun Y h => (bcell h _ _ lr).trans c3
      have qf : ∀ Y, Below wd.heap.size wd Y → ∀ j, Y.frozen? ⟨b₀, j, none⟩ = false := fun Y h j => (bfrozen h _ _ lr).trans (rf j)
      clear c0 c1 c2 c3 rf
      refine wp_region_S (fun Y => Below wd.heap.size wd Y) 10 (by kernel_rfl) ?_
      refine anyS_take (i := 0) rfl (by kernel_rfl) (fun _ _ _ h => h) (Or.inl ⟨by rfl, fun Y hYb => (by (try dsimp only at hYb); go_simp; rfl)⟩) (by repeat' (first | with_reducible assumption | with_reducible exact Below.refl _ _ | with_reducible refine Below.drew ?_ | with_reducible refine below_drewN ?_ _)) ?_
      refine anyS_take (i := 1) rfl (by kernel_rfl) (fun _ _ _ h => h) (Or.inl ⟨by rfl, fun Y hYb => (by (try dsimp only at hYb); go_simp; rfl)⟩) (by repeat' (first | with_reducible assumption | with_reducible exact Below.refl _ _ | with_reducible refine Below.drew ?_ | with_reducible refine below_drewN ?_ _)) ?_
      refine anyS_take (i := 2) rfl (by kernel_rfl) (fun _ _ _ h => h) (Or.inl ⟨by rfl, fun Y hYb => (by (try dsimp only at hYb); go_simp; rfl)⟩) (by repeat' (first | with_reducible assumption | with_reducible exact Below.refl _ _ | with_reducible refine Below.drew ?_ | with_reducible refine below_drewN ?_ _)) ?_
      refine anyS_take (i := 3) rfl (by kernel_rfl) (fun _ _ _ h => h) (Or.inl ⟨by rfl, fun Y hYb => (by (try dsimp only at hYb); go_simp; rfl)⟩) (by repeat' (first | with_reducible assumption | with_reducible exact Below.refl _ _ | with_reducible refine Below.drew ?_ | with_reducible refine below_drewN ?_ _)) ?_
      refine anyS_take (i := 4) rfl (by kernel_rfl) (fun _ _ _ h => h) (Or.inl ⟨by rfl, fun Y hYb => (by (try dsimp only at hYb); go_simp; rfl)⟩) (by repeat' (first | with_reducible assumption | with_reducible exact Below.refl _ _ | with_reducible refine Below.drew ?_ | with_reducible refine below_drewN ?_ _)) ?_
      refine anyS_one (i := 5) (by kernel_rfl) rfl (by rfl) (fun K hK => ?_)
      go_simp
      refine (haf _).mono ?_
      rintro e w2 ⟨rfl, hb2⟩
      dsimp only
      have hS2 : Below wd.heap.size wd w2 := bvia (Below.refl _ wd).drew hb2
      refine hK _ _ (fun _ _ => hS2) ?_
      clear hK K hb2
      have y0 := q0 _ hS2; have y1 := q1 _ hS2; have y2 := q2 _ hS2; have y3 := q3 _ hS2; have yf := qf _ hS2
      refine anyS_take (i := 6) rfl (by kernel_rfl) (fun _ _ _ h => h) (Or.inl ⟨by rfl, fun Y hYb => (by (try dsimp only at hYb); go_simp; rfl)⟩) (by repeat' (first | with_reducible assumption | with_reducible exact Below.refl _ _ | with_reducible refine Below.drew ?_ | with_reducible refine below_drewN ?_ _)) ?_
      refine anyS_take (i := 7) rfl (by kernel_rfl) (fun _ _ _ h => h) (Or.inl ⟨by rfl, fun Y hYb => (by (try dsimp only at hYb); go_simp; rfl)⟩) (by repeat' (first | with_reducible assumption | with_reducible exact Below.refl _ _ | with_reducible refine Below.drew ?_ | with_reducible refine below_drewN ?_ _)) ?_
      refine anyS_pure (i := 8) rfl (by kernel_rfl) (fun _ _ _ h => h) (Or.inl ⟨by rfl, fun Y hYb => (by clear hYb; go_simp; rfl)⟩) ?_
      refine anyS_take (i := 9) rfl (by kernel_rfl) (fun _ _ _ h => h) (Or.inl ⟨by rfl, fun Y hYb => (by (try dsimp only at hYb); go_simp; rfl)⟩) (by repeat' (first | with_reducible assumption | with_reducible exact Below.refl _ _ | with_reducible refine Below.drew ?_ | with_reducible refine below_drewN ?_ _)) ?_
      refine anyS_one (i := 10) (by kernel_rfl) rfl (by rfl) (fun K hK => ?_)
      go_simp
      refine hK _ _ (fun h _ => absurd h (by decide)) ?_
      clear hK K
      refine anyS_done (by kernel_rfl) ?_ _
      have hw2 := hS2.size
      replace X0 := X0.below hS2; replace X1 := X1.below hS2; replace R := R.below hS2
      replace hU := hU.trans (but_below hS2 (Nat.le_refl _))
      clear X3 r0 u4 u5 u6 u7 q0 q1 q2 q3 qf y0 y1 y2 y3 yf
      have n0 : b₀ ≠ w.heap.size := by omega
      have n1 : b₀ ≠ w.heap.size + 1 := by omega
      go_wp2_with fail
      go_roundw
      case rel => exact ⟨i + 1, by omega, by go_num, (((X0.far (p := ⟨b₀, i * 4, none⟩) n0 _).far (p := ⟨b₀, i * 4 + 1, none⟩) n0 _).far (p := ⟨b₀, i * 4 + 2, none⟩) n0 _).far (p := ⟨b₀, i * 4 + 3, none⟩) n0 _, (((X1.far (p := ⟨b₀, i * 4, none⟩) n1 _).far (p := ⟨b₀, i * 4 + 1, none⟩) n1 _).far (p := ⟨b₀, i * 4 + 2, none⟩) n1 _).far (p := ⟨b₀, i * 4 + 3, none⟩) n1 _, by rw [ovC_succ]; exact R.setC i (F i), by (repeat' (first | with_reducible assumption | with_reducible exact But.refl _ _ | with_reducible refine But.drew ?_ | with_reducible refine But.drewN ?_ _ | (with_reducible refine But.set_ ?_ (by dsimp only) _) | with_reducible refine But.alloc ?_ _))⟩
      case measure => simp [intOf]; omega
    · obtain rfl : i = n := (by omega)
      have HR := hid (R.congr (flatC_congr (fun j hj => ovC_lt hj)))
      clear R
      have x20 := X1.at_ 0 rfl; have x21 := X1.at_ 1 rfl; have x22 := X1.at_ 2 rfl; have x2f := X1.free; have x2l := X1.lt
      have x00 := X0.at_ 0 rfl; have x01 := X0.at_ 1 rfl; have x02 := X0.at_ 2 rfl
      go_wp2_with fail
      refine bodyPost_ret (v := .agg #[.int .i64 (W : Int), .int .i64 (H : Int), .slice (some ⟨b₀, 0, none⟩) i ca]) (by simp [results, Tryz.results28, go_sem, x20, x21, x22]) rfl ⟨rfl, ?_, ?_⟩
      · have R := HR.out
        (repeat' (first | with_reducible assumption | with_reducible refine Ro.drew ?_ | with_reducible refine Ro.drewN ?_ _ | with_reducible refine Ro.alloc ?_ _ | with_reducible refine Ro.far ?_ ?_ _ | (show _ ≠ _; dsimp only; omega)))
      · exact ((hU.setN (p := ⟨w.heap.size + 1, 0, none⟩) (by dsimp only; omega) _).setN (p := ⟨w.heap.size + 1, 1, none⟩) (by dsimp only; omega) _).setN (p := ⟨w.heap.size + 1, 2, none⟩) (by dsimp only; omega) _
theorem below_butR {C : Nat → Prop} {w X Y : World} (h : Below w.heap.size w X) (k : But C X Y) (hc : ∀ b, C b → w.heap.size ≤ b) : Below w.heap.size w Y :=
  ⟨k.os.trans h.os, k.tape.trans h.tape, k.output.trans h.output, Nat.le_trans h.size k.size, fun b hb => (k.block b (Nat.lt_of_lt_of_le hb h.size) (fun h' => by have := hc b h'; omega)).trans (h.block b hb)⟩
set_option maxRecDepth 100000 in
set_option maxHeartbeats 1000000 in
theorem grid_changedR (W H : Nat) (a : Option Addr) (ca : Nat) (g : Nat → C4) (w : World) (h1 : 1 ≤ W ∧ W ≤ 64) (h2 : 1 ≤ H ∧ H ≤ 64) (hm : W * H ≤ 1024) (S : Sc w a (W * H) g) (hv : okG (W * H) g) : Calls Tryz.prog 27 #[.agg #[.int .i64 (W : Int), .int .i64 (H : Int), .slice a (W * H) ca], .func (.func 28) #[] #[]] w (GridRow0 W H (W * H) (fun i => revC (g i)) w) := by
  have hval := fun W' S' => grid_valid W H a (W * H) ca g W' (by omega) S'
  rw [validG_of h1 h2 hm hv] at hval
  have hn0 : 0 < W * H := Nat.mul_pos (by omega) (by omega)
  have hof := fun W' S' => grid_of W H a (W * H) ca g W' (by omega) hn0 S'
  have hst := fun b₀ c₀ W' R' => grid_reversed1 W H (W * H) b₀ c₀ g W' (by omega) hv.1 R'
  clear hv h1 h2
  generalize (fun i => revC (g i)) = G at *
  generalize W * H = n at *
  have X0 := (Bx.new w #[.int .i64 (W : Int), .int .i64 (H : Int), .slice a n ca] 29).alloc (.cells #[.int .i64 0, .int .i64 0, .slice none 0 0] 29)
  have X1 := Bx.new (w.alloc (.cells #[.int .i64 (W : Int), .int .i64 (H : Int), .slice a n ca] 29)) #[.int .i64 0, .int .i64 0, .slice none 0 0] 29
  simp only [World.size_alloc] at X1
  have hB0 : Below w.heap.size w ((w.alloc (.cells #[.int .i64 (W : Int), .int .i64 (H : Int), .slice a n ca] 29)).alloc (.cells #[.int .i64 0, .int .i64 0, .slice none 0 0] 29)) := by (repeat' (first | with_reducible assumption | with_reducible exact Below.refl _ _ | with_reducible refine Below.drew ?_ | with_reducible refine below_drewN ?_ _ | with_reducible refine balloc ?_ _ | with_reducible refine bset ?_ ?_ _ | with_reducible refine Below.setCell ?_ ?_ _ | with_reducible refine Below.alloc ?_ ?_ _ | omega | (simp; done) | (simp; omega)))
  go_enter Tryz.func27, Tryz.ntmps27
  go_wp2_with fail
  generalize ((w.alloc (.cells #[.int .i64 (W : Int), .int .i64 (H : Int), .slice a n ca] 29)).alloc (.cells #[.int .i64 0, .int .i64 0, .slice none 0 0] 29)) = W0 at X0 X1 hB0 ⊢
  have z0 := X0.lt
  have z1 := X1.lt
  refine (hval _ (S.below hB0)).mono ?_
  rintro e w1 ⟨rfl, hb1⟩
  have hB := hB0
  clear hB0 hval
  replace X0 := X0.below hb1
  replace X1 := X1.below hb1
  replace hB := bvia hB hb1
  clear hb1
  have X0_0 := X0.at_ 0 rfl
  have X0_1 := X0.at_ 1 rfl
  have X0_2 := X0.at_ 2 rfl
  go_wp2_with fail
  refine (hof _ (S.below hB)).mono ?_
  rintro e w2 ⟨b₁, c₁, rfl, hb₁, R₁, hc₁, hb2⟩
  have hs1 := hB.size
  have hx1 := X1.lt
  clear X0_0 X0_1 X0_2
  replace X0 := X0.below hb2
  replace X1 := X1.below hb2
  replace hB := bvia hB hb2
  clear hb2
  have X0_0 := X0.at_ 0 rfl
  have X0_1 := X0.at_ 1 rfl
  have X0_2 := X0.at_ 2 rfl
  go_wp2_with fail
  refine (hst _ _ _ R₁).mono ?_
  rintro e w3 ⟨rfl, R, hU3⟩
  replace hB := below_butR hB hU3 (fun b h => by omega)
  replace X1 := X1.but hU3 (fun h => by omega)
  have x0 := X1.at_ 0 rfl; have x1 := X1.at_ 1 rfl; have x2 := X1.at_ 2 rfl; have xf := X1.free; have xl := X1.lt
  have hl := R.lt
  clear X0_0 X0_1 X0_2
  clear R₁ X0 hU3
  have hfd := field_grid (.int .i64 (W : Int)) (.int .i64 (H : Int)) (.slice (some ⟨b₁, 0, none⟩) n c₁)
  go_wp2_with fail
  refine bodyPost_ret (v := .tuple #[.agg #[.int .i64 (W : Int), .int .i64 (H : Int), .slice (some ⟨b₁, 0, none⟩) n c₁], .int .i64 0]) (by simp [results, Tryz.results27, go_sem, x0, x1, x2]) rfl ⟨b₁, c₁, rfl, by omega, by (repeat' (first | with_reducible assumption | with_reducible refine Ro.drew ?_ | with_reducible refine Ro.drewN ?_ _ | with_reducible refine Ro.alloc ?_ _ | with_reducible refine Ro.far ?_ ?_ _ | (show _ ≠ _; dsimp only; omega))), hc₁, by (repeat' (first | with_reducible assumption | with_reducible exact Below.refl _ _ | with_reducible refine Below.drew ?_ | with_reducible refine below_drewN ?_ _ | with_reducible refine balloc ?_ _ | with_reducible refine bset ?_ ?_ _ | with_reducible refine Below.setCell ?_ ?_ _ | with_reducible refine Below.alloc ?_ ?_ _ | omega | (simp; done) | (simp; omega)))⟩
set_option maxRecDepth 100000 in
set_option maxHeartbeats 1000000 in
theorem grid_Reversed (W H : Nat) (a : Option Addr) (ca : Nat) (g : Nat → C4) (w : World) (h1 : 1 ≤ W ∧ W ≤ 64) (h2 : 1 ≤ H ∧ H ≤ 64) (hm : W * H ≤ 1024) (S : Sc w a (W * H) g) (hv : okG (W * H) g) : Calls Tryz.prog 10 #[.agg #[.int .i64 (W : Int), .int .i64 (H : Int), .slice a (W * H) ca]] w (GridRow0 W H (W * H) (fun i => revC (g i)) w) := by
  have hc := fun W' S' => grid_changedR W H a ca g W' h1 h2 hm S' hv
  clear hv h1 h2
  generalize (fun i => revC (g i)) = G at *
  generalize W * H = n at *
  have X0 := (Bx.new w #[.int .i64 (W : Int), .int .i64 (H : Int), .slice a n ca] 29).alloc (.cells #[.int .i64 0, .int .i64 0, .slice none 0 0] 29)
  have X1 := Bx.new (w.alloc (.cells #[.int .i64 (W : Int), .int .i64 (H : Int), .slice a n ca] 29)) #[.int .i64 0, .int .i64 0, .slice none 0 0] 29
  simp only [World.size_alloc] at X1
  have hB0 : Below w.heap.size w ((w.alloc (.cells #[.int .i64 (W : Int), .int .i64 (H : Int), .slice a n ca] 29)).alloc (.cells #[.int .i64 0, .int .i64 0, .slice none 0 0] 29)) := by (repeat' (first | with_reducible assumption | with_reducible exact Below.refl _ _ | with_reducible refine Below.drew ?_ | with_reducible refine below_drewN ?_ _ | with_reducible refine balloc ?_ _ | with_reducible refine bset ?_ ?_ _ | with_reducible refine Below.setCell ?_ ?_ _ | with_reducible refine Below.alloc ?_ ?_ _ | omega | (simp; done) | (simp; omega)))
  go_enter Tryz.func10, Tryz.ntmps10
  go_wp2_with fail
  generalize ((w.alloc (.cells #[.int .i64 (W : Int), .int .i64 (H : Int), .slice a n ca] 29)).alloc (.cells #[.int .i64 0, .int .i64 0, .slice none 0 0] 29)) = W0 at X0 X1 hB0 ⊢
  have z0 := X0.lt
  have z1 := X1.lt
  refine (hc _ (S.below hB0)).mono ?_
  rintro e w1 ⟨b, cap, rfl, hb, R, hcap, hb1⟩
  have hB := hB0
  clear hB0 hc
  have hs1 := hB.size
  replace X0 := X0.below hb1
  replace X1 := X1.below hb1
  replace hB := bvia hB hb1
  clear hb1
  have X1_0 := X1.at_ 0 rfl
  have X1_1 := X1.at_ 1 rfl
  have X1_2 := X1.at_ 2 rfl
  have X1f := X1.free
  have X1z := X1.lt
  go_wp2_with fail
  refine bodyPost_ret (v := .tuple #[.agg #[.int .i64 (W : Int), .int .i64 (H : Int), .slice (some ⟨b, 0, none⟩) n cap], .int .i64 0]) (by simp [results, Tryz.results10, go_sem, X1_0, X1_1, X1_2]) rfl ⟨b, cap, rfl, by omega, by (repeat' (first | with_reducible assumption | with_reducible refine Ro.drew ?_ | with_reducible refine Ro.drewN ?_ _ | with_reducible refine Ro.alloc ?_ _ | with_reducible refine Ro.far ?_ ?_ _ | (show _ ≠ _; dsimp only; omega))), hcap, by (repeat' (first | with_reducible assumption | with_reducible exact Below.refl _ _ | with_reducible refine Below.drew ?_ | with_reducible refine below_drewN ?_ _ | with_reducible refine balloc ?_ _ | with_reducible refine bset ?_ ?_ _ | with_reducible refine Below.setCell ?_ ?_ _ | with_reducible refine Below.alloc ?_ ?_ _ | omega | (simp; done) | (simp; omega)))⟩
set_option maxRecDepth 100000 in
set_option maxHeartbeats 2000000 in
/-- a grid of one particle is reversed -/
theorem awake5_true (w : World) : Calls Tryz.prog 4 #[] w fun e w' => e = .returned (.bool true) ∧ Below w.heap.size w w' := by
  have hS : Sc (w.alloc (.cells #[.int .i64 1, .int .i64 2, .int .i64 3, .int .i64 4] 44)) (some ⟨w.heap.size, 0, none⟩) (1 * 1) (fun _ => ⟨1, 2, 3, 4⟩) := fun k hk => by
    obtain rfl : k = 0 := by omega
    exact ⟨w.heap.size, 0, rfl, by simp, cell_new _ _ _ 0 _ rfl, cell_new _ _ _ 1 _ rfl, cell_new _ _ _ 2 _ rfl, cell_new _ _ _ 3 _ rfl⟩
  have hr := grid_Reversed 1 1 (some ⟨w.heap.size, 0, none⟩) 1 (fun _ => ⟨1, 2, 3, 4⟩) (w.alloc (.cells #[.int .i64 1, .int .i64 2, .int .i64 3, .int .i64 4] 44)) (by omega) (by omega) (by omega) hS ⟨fun i hi => (show validC ⟨1, 2, 3, 4⟩ = true by decide), by decide⟩
  go_enter Tryz.func4, Tryz.ntmps4
  go_wp2_with fail
  refine hr.mono ?_
  rintro e w1 ⟨b, cap, rfl, hb, R, hcap⟩
  have c0 : w1.cell? ⟨b, 0, none⟩ = some (.int .i64 3) := R.2 0 (by omega)
  have c1 : w1.cell? ⟨b, 1, none⟩ = some (.int .i64 4) := R.2 1 (by omega)
  have c2 : w1.cell? ⟨b, 2, none⟩ = some (.int .i64 1) := R.2 2 (by omega)
  have c3 : w1.cell? ⟨b, 3, none⟩ = some (.int .i64 2) := R.2 3 (by omega)
  have hl := R.1
  have heq := eql_cell 3 4 1 2 3 4 1 2
  have hB := bvia (below_alloc w (.cells #[.int .i64 1, .int .i64 2, .int .i64 3, .int .i64 4] 44)) hcap.2
  go_wp2_with fail
  go_ret
  exact ⟨rfl, balloc hB _⟩
end Go.Proofs.YtpbobhobhbbimaaGreat
/- The walk of the law TopPhases: two phases without exchanges, each run on nodes by itself, are the run of both. -/
namespace Go.Proofs.YtpbobhobhbbimaaGreat
open Go Go.RowKit
attribute [local go_sem] Oper.semAt_some
set_option linter.unusedVariables false
set_option linter.unusedSimpArgs false
theorem validX_run {W H n rn : Nat} {ru : Nat → Int × Int} {g k : Nat → C4} (hv : validX W H n n g k = true) (t : Nat) : validX W H n n (gT W H rn ru g t) (gT W H rn ru k t) = true := by
  obtain ⟨h1, h2, rfl, _, hm, hA, hB, hmm⟩ := validX_ok hv
  have a := gT_ok (rn := rn) (ru := ru) hA t
  have b := gT_ok (rn := rn) (ru := ru) hB t
  exact (validX_iff _ _ _ _ _ _).2 ⟨validG_of h1 h2 hm ⟨a.1, by rw [a.2]; exact hA.2⟩, validG_of h1 h2 hm ⟨b.1, by rw [b.2]; exact hB.2⟩, by rw [a.2, b.2]; exact hmm⟩
theorem runL_gT {W H rn : Nat} {ru : Nat → Int × Int} {g : Nat → C4} : runL W H rn ru g (timesL 0 4) = gT W H rn ru g 4 := by rw [runL_run, gT_run]
theorem runE_two {wide high : Int} {n m no : Nat} {g k : Nat → C4} {o : Nat → Int} {r rg : Bool} (h1 : validG wide high n g = true) (h2 : validG wide high m k = true) (e : m = n) : runE (validM wide high m k no o) r rg = runE (validM wide high n g no o) r rg := by
  subst e
  unfold validM
  rw [h1, h2]
set_option maxRecDepth 100000 in
set_option maxHeartbeats 8000000 in
theorem walk_phases (wide high : Int) (a b ao rl : Option Addr) (n m no rn c d co rc : Nat) (g k : Nat → C4) (o : Nat → Int) (ru : Nat → Int × Int) (w : World) (S : Sc w a n g) (T : Sc w b m k) (HO : Sl w ao no o) (HR : Sr w rl rn ru) :
    Calls Tryz.prog 3 #[.agg #[.int .i64 wide, .int .i64 high, .slice a n c, .slice b m d], .slice ao no co, .slice rl rn rc] w fun e w' => e = .returned (.bool true) ∧ Below w.heap.size w w' := by
  have X0 := Bx.new w #[.int .i64 wide, .int .i64 high, .slice a n c, .slice b m d] 24
  have hB0 : Below w.heap.size w (w.alloc (.cells #[.int .i64 wide, .int .i64 high, .slice a n c, .slice b m d] 24)) := by (repeat' (first | with_reducible assumption | with_reducible exact Below.refl _ _ | with_reducible refine Below.drew ?_ | with_reducible refine below_drewN ?_ _ | with_reducible refine balloc ?_ _ | with_reducible refine bset ?_ ?_ _ | with_reducible refine Below.setCell ?_ ?_ _ | with_reducible refine Below.alloc ?_ ?_ _ | omega | (simp; done) | (simp; omega)))
  by_cases hn : 64 < n
  · have q1 : (64 : Int) < (n : Int) := by omega
    go_enter Tryz.func3, Tryz.ntmps3
    go_wp2_with fail
    generalize (w.alloc (.cells #[.int .i64 wide, .int .i64 high, .slice a n c, .slice b m d] 24)) = W0 at X0 hB0 ⊢
    have z0 := X0.lt
    refine (awake5_true _).mono ?_
    rintro e w1 ⟨rfl, hb1⟩
    go_wp2
    go_ret
    exact ⟨rfl, bvia hB0 hb1⟩
  have q1 : ¬ (64 : Int) < (n : Int) := by omega
  by_cases hm : 64 < m
  · have q2 : (64 : Int) < (m : Int) := by omega
    go_enter Tryz.func3, Tryz.ntmps3
    go_wp2_with fail
    generalize (w.alloc (.cells #[.int .i64 wide, .int .i64 high, .slice a n c, .slice b m d] 24)) = W0 at X0 hB0 ⊢
    have z0 := X0.lt
    refine (awake5_true _).mono ?_
    rintro e w1 ⟨rfl, hb1⟩
    go_wp2
    go_ret
    exact ⟨rfl, bvia hB0 hb1⟩
  have q2 : ¬ (64 : Int) < (m : Int) := by omega
  by_cases hno : 64 < no
  · have q3 : (64 : Int) < (no : Int) := by omega
    go_enter Tryz.func3, Tryz.ntmps3
    go_wp2_with fail
    generalize (w.alloc (.cells #[.int .i64 wide, .int .i64 high, .slice a n c, .slice b m d] 24)) = W0 at X0 hB0 ⊢
    have z0 := X0.lt
    refine (awake5_true _).mono ?_
    rintro e w1 ⟨rfl, hb1⟩
    go_wp2
    go_ret
    exact ⟨rfl, bvia hB0 hb1⟩
  have q3 : ¬ (64 : Int) < (no : Int) := by omega
  by_cases hrn : 20 < rn
  · have q4 : (20 : Int) < (rn : Int) := by omega
    go_enter Tryz.func3, Tryz.ntmps3
    go_wp2_with fail
    generalize (w.alloc (.cells #[.int .i64 wide, .int .i64 high, .slice a n c, .slice b m d] 24)) = W0 at X0 hB0 ⊢
    have z0 := X0.lt
    refine (awake5_true _).mono ?_
    rintro e w1 ⟨rfl, hb1⟩
    go_wp2
    go_ret
    exact ⟨rfl, bvia hB0 hb1⟩
  have q4 : ¬ (20 : Int) < (rn : Int) := by omega
  have hP := fun Y S' T' => phase_Parts wide high a b n m c d g k Y (by omega) (by omega) S' T'
  cases hv : validX wide high n m g k
  · rw [hv] at hP
    go_enter Tryz.func3, Tryz.ntmps3
    go_wp2_with fail
    generalize (w.alloc (.cells #[.int .i64 wide, .int .i64 high, .slice a n c, .slice b m d] 24)) = W0 at X0 hB0 ⊢
    have z0 := X0.lt
    refine (hP _ (S.below hB0) (T.below hB0)).mono ?_
    rintro e w1 (⟨_, rfl, hb1⟩ | ⟨h, _⟩)
    rotate_left
    · exact absurd h (by decide)
    have hB1 := balloc (balloc (bvia hB0 hb1) (.cells #[.int .i64 0, .int .i64 0, .slice none 0 0] 29)) (.cells #[.int .i64 0, .int .i64 0, .slice none 0 0] 29)
    go_wp2_with fail
    refine (awake5_true _).mono ?_
    rintro e w2 ⟨rfl, hb2⟩
    go_wp2
    go_ret
    exact ⟨rfl, bvia hB1 hb2⟩
  rw [hv] at hP
  obtain ⟨v1, v2, v3⟩ := (validX_iff _ _ _ _ _ _).1 hv
  have hpos := validG_pos v1
  have hN1 := fun a' c' Y S' SO SR => node_Run wide high a' ao rl n no rn c' co rc g o ru 4 Y (by omega) (by omega) (by omega) (fun _ => by show 4 * no * 32 ≤ 100000; omega) S' SO SR
  have hN2 := fun a' c' Y S' SO SR => node_Run wide high a' ao rl m no rn c' co rc k o ru 4 Y (by omega) (by omega) (by omega) (fun _ => by show 4 * no * 32 ≤ 100000; omega) S' SO SR
  obtain ⟨W, H, rfl, rfl⟩ : ∃ W H : Nat, wide = W ∧ high = H := by
    obtain ⟨a1, a2, a3, a4, a5, a6, a7, a8⟩ := (validG_iff _ _ _ _).1 v1
    exact ⟨wide.toNat, high.toNat, by omega, by omega⟩
  obtain ⟨h1, h2, e1, e2, hmm, hA, hB, hms⟩ := validX_ok hv
  obtain rfl : n = m := e1.trans e2.symm
  clear X0 hB0
  have X0 := Bx.new w #[.int .i64 (W : Int), .int .i64 (H : Int), .slice a n c, .slice b n d] 24
  have hB0 : Below w.heap.size w (w.alloc (.cells #[.int .i64 (W : Int), .int .i64 (H : Int), .slice a n c, .slice b n d] 24)) := by (repeat' (first | with_reducible assumption | with_reducible exact Below.refl _ _ | with_reducible refine Below.drew ?_ | with_reducible refine below_drewN ?_ _ | with_reducible refine balloc ?_ _ | with_reducible refine bset ?_ ?_ _ | with_reducible refine Below.setCell ?_ ?_ _ | with_reducible refine Below.alloc ?_ ?_ _ | omega | (simp; done) | (simp; omega)))
  rw [runE_two v1 v2 rfl] at hN2
  simp only [Int.toNat_natCast] at hN1 hN2
  have hE0 : runE (validM W H n g no o) (rulesB rn ru) (within 4 0 1000) = 0 → rulesB rn ru = true := fun h => by
    revert h
    cases validM W H n g no o <;> cases rulesB rn ru <;> simp [runE]
  generalize runE (validM W H n g no o) (rulesB rn ru) (within 4 0 1000) = E at *
  change ∀ a' c' Y S' SO SR, Calls _ _ _ _ (GridPost E (erZ E W) (erZ E H) (erN E n) (gT W H rn ru g 4) Y) at hN1
  change ∀ a' c' Y S' SO SR, Calls _ _ _ _ (GridPost E (erZ E W) (erZ E H) (erN E n) (gT W H rn ru k 4) Y) at hN2
  by_cases hz : E = 0
  rotate_left
  · have hzc : (E != 0) = true := by simpa using hz
    have hze : (E == 0) = false := by simpa using hz
    have HZ := hid hz
    clear hz hE0 e1 e2
    generalize erZ E W = eW at *
    generalize erZ E H = eH at *
    generalize erN E n = en at *
    go_enter Tryz.func3, Tryz.ntmps3
    go_wp2_with fail
    generalize (w.alloc (.cells #[.int .i64 (W : Int), .int .i64 (H : Int), .slice a n c, .slice b n d] 24)) = W0 at X0 hB0 ⊢
    have z0 := X0.lt
    refine (hP _ (S.below hB0) (T.below hB0)).mono ?_
    rintro e w1 (⟨h, _⟩ | ⟨_, gA, cA, gB, cB, rfl, RA, RB, hb1⟩)
    · exact absurd h (by decide)
    have hB1 := bvia hB0 hb1
    have XA := (Bx.new w1 #[.int .i64 (W : Int), .int .i64 (H : Int), .slice (some ⟨gA, 0, none⟩) n cA] 29).alloc (.cells #[.int .i64 (W : Int), .int .i64 (H : Int), .slice (some ⟨gB, 0, none⟩) n cB] 29)
    have XB := Bx.new (w1.alloc (.cells #[.int .i64 (W : Int), .int .i64 (H : Int), .slice (some ⟨gA, 0, none⟩) n cA] 29)) #[.int .i64 (W : Int), .int .i64 (H : Int), .slice (some ⟨gB, 0, none⟩) n cB] 29
    simp only [World.size_alloc] at XB
    have hB2 := balloc (balloc hB1 (.cells #[.int .i64 (W : Int), .int .i64 (H : Int), .slice (some ⟨gA, 0, none⟩) n cA] 29)) (.cells #[.int .i64 (W : Int), .int .i64 (H : Int), .slice (some ⟨gB, 0, none⟩) n cB] 29)
    have RA2 := (RA.alloc (.cells #[.int .i64 (W : Int), .int .i64 (H : Int), .slice (some ⟨gA, 0, none⟩) n cA] 29)).alloc (.cells #[.int .i64 (W : Int), .int .i64 (H : Int), .slice (some ⟨gB, 0, none⟩) n cB] 29)
    have RB2 := (RB.alloc (.cells #[.int .i64 (W : Int), .int .i64 (H : Int), .slice (some ⟨gA, 0, none⟩) n cA] 29)).alloc (.cells #[.int .i64 (W : Int), .int .i64 (H : Int), .slice (some ⟨gB, 0, none⟩) n cB] 29)
    go_wp2_with fail
    refine (hN1 _ _ _ RA2.sc (HO.below hB2) (HR.below hB2)).mono ?_
    rintro e w2 ⟨a2, c2, rfl, S2, _, hb2⟩
    have hB3 := balloc (bvia hB2 hb2) (.cells #[.int .i64 eW, .int .i64 eH, .slice a2 en c2] 29)
    have XB3 := (XB.below hb2).alloc (.cells #[.int .i64 eW, .int .i64 eH, .slice a2 en c2] 29)
    have RB3 := (RB2.below hb2).alloc (.cells #[.int .i64 eW, .int .i64 eH, .slice a2 en c2] 29)
    have x0 := XB3.at_ 0 rfl; have x1 := XB3.at_ 1 rfl; have x2 := XB3.at_ 2 rfl; have xz := XB3.lt
    go_wp2_with fail
    refine (hN2 _ _ _ RB3.sc (HO.below hB3) (HR.below hB3)).mono ?_
    rintro e w3 ⟨a3, c3, rfl, S3, _, hb3⟩
    have hB4 := balloc (bvia hB3 hb3) (.cells #[.int .i64 eW, .int .i64 eH, .slice a3 en c3] 29)
    go_wp2_with fail
    refine (awake5_true _).mono ?_
    rintro e w4 ⟨rfl, hb4⟩
    go_wp2
    go_ret
    exact ⟨by simp, bvia hB4 hb4⟩
  subst hz
  have hru := hE0 rfl
  change ∀ a' c' Y S' SO SR, Calls _ _ _ _ (GridPost 0 W H n (gT W H rn ru g 4) Y) at hN1
  change ∀ a' c' Y S' SO SR, Calls _ _ _ _ (GridPost 0 W H n (gT W H rn ru k 4) Y) at hN2
  have hRu := fun ax Y S' T' SR SX => phase_Run4 W H n c d rn rc 1 a b rl ax g k ru Y (by omega) S' T' SR SX hv hru
  rw [runL_gT, runL_gT] at hRu
  have hOf := fun a' b' c' d' Y S' T' => phase_OfOk W H n c' d' a' b' (gT W H rn ru g 4) (gT W H rn ru k 4) Y (by omega) (by omega) S' T' (validX_run hv 4)
  have hEq := fun a1 b1 a2 b2 c1 d1 c2 d2 Y S1 T1 S2 T2 => ref4_Equal W H a1 b1 a2 b2 n c1 d1 c2 d2 (gT W H rn ru g 4) (gT W H rn ru k 4) Y (by omega) S1 T1 S2 T2
  generalize gT W H rn ru g 4 = gA' at *
  generalize gT W H rn ru k 4 = gB' at *
  clear hE0 e1 e2 hv v1 v2 v3 hA hB hms hmm hru hpos
  go_enter Tryz.func3, Tryz.ntmps3
  go_wp2_with fail
  generalize (w.alloc (.cells #[.int .i64 (W : Int), .int .i64 (H : Int), .slice a n c, .slice b n d] 24)) = W0 at X0 hB0 ⊢
  have z0 := X0.lt
  refine (hP _ (S.below hB0) (T.below hB0)).mono ?_
  rintro e w1 (⟨h, _⟩ | ⟨_, gA, cA, gB, cB, rfl, RA, RB, hb1⟩)
  · exact absurd h (by decide)
  have hB1 := bvia hB0 hb1
  have XA := (Bx.new w1 #[.int .i64 (W : Int), .int .i64 (H : Int), .slice (some ⟨gA, 0, none⟩) n cA] 29).alloc (.cells #[.int .i64 (W : Int), .int .i64 (H : Int), .slice (some ⟨gB, 0, none⟩) n cB] 29)
  have XB := Bx.new (w1.alloc (.cells #[.int .i64 (W : Int), .int .i64 (H : Int), .slice (some ⟨gA, 0, none⟩) n cA] 29)) #[.int .i64 (W : Int), .int .i64 (H : Int), .slice (some ⟨gB, 0, none⟩) n cB] 29
  simp only [World.size_alloc] at XB
  have hB2 := balloc (balloc hB1 (.cells #[.int .i64 (W : Int), .int .i64 (H : Int), .slice (some ⟨gA, 0, none⟩) n cA] 29)) (.cells #[.int .i64 (W : Int), .int .i64 (H : Int), .slice (some ⟨gB, 0, none⟩) n cB] 29)
  have RA2 := (RA.alloc (.cells #[.int .i64 (W : Int), .int .i64 (H : Int), .slice (some ⟨gA, 0, none⟩) n cA] 29)).alloc (.cells #[.int .i64 (W : Int), .int .i64 (H : Int), .slice (some ⟨gB, 0, none⟩) n cB] 29)
  have RB2 := (RB.alloc (.cells #[.int .i64 (W : Int), .int .i64 (H : Int), .slice (some ⟨gA, 0, none⟩) n cA] 29)).alloc (.cells #[.int .i64 (W : Int), .int .i64 (H : Int), .slice (some ⟨gB, 0, none⟩) n cB] 29)
  have X02 := ((X0.below hb1).alloc (.cells #[.int .i64 (W : Int), .int .i64 (H : Int), .slice (some ⟨gA, 0, none⟩) n cA] 29)).alloc (.cells #[.int .i64 (W : Int), .int .i64 (H : Int), .slice (some ⟨gB, 0, none⟩) n cB] 29)
  go_wp2_with fail
  refine (hN1 _ _ _ RA2.sc (HO.below hB2) (HR.below hB2)).mono ?_
  rintro e w2 ⟨a2, c2, rfl, S2, _, hb2⟩
  have hB3 := balloc (bvia hB2 hb2) (.cells #[.int .i64 (W : Int), .int .i64 (H : Int), .slice a2 n c2] 29)
  have XB3 := (XB.below hb2).alloc (.cells #[.int .i64 (W : Int), .int .i64 (H : Int), .slice a2 n c2] 29)
  have RB3 := (RB2.below hb2).alloc (.cells #[.int .i64 (W : Int), .int .i64 (H : Int), .slice a2 n c2] 29)
  have X03 := (X02.below hb2).alloc (.cells #[.int .i64 (W : Int), .int .i64 (H : Int), .slice a2 n c2] 29)
  have S23 := S2.alloc (.cells #[.int .i64 (W : Int), .int .i64 (H : Int), .slice a2 n c2] 29)
  have XC3 := Bx.new w2 #[.int .i64 (W : Int), .int .i64 (H : Int), .slice a2 n c2] 29
  have x0 := XB3.at_ 0 rfl; have x1 := XB3.at_ 1 rfl; have x2 := XB3.at_ 2 rfl; have xz := XB3.lt
  clear XA X0 X02 XB RA RB RA2 RB2 hB1 hB2 S2 hP hN1 hb1 hb2
  go_wp2_with fail
  refine (hN2 _ _ _ RB3.sc (HO.below hB3) (HR.below hB3)).mono ?_
  rintro e w3 ⟨a3, c3, rfl, S3, _, hb3⟩
  have hB4 := balloc (bvia hB3 hb3) (.cells #[.int .i64 (W : Int), .int .i64 (H : Int), .slice a3 n c3] 29)
  have X04 := (X03.below hb3).alloc (.cells #[.int .i64 (W : Int), .int .i64 (H : Int), .slice a3 n c3] 29)
  have XC4 := (XC3.below hb3).alloc (.cells #[.int .i64 (W : Int), .int .i64 (H : Int), .slice a3 n c3] 29)
  have XD4 := Bx.new w3 #[.int .i64 (W : Int), .int .i64 (H : Int), .slice a3 n c3] 29
  have S24 := (S23.below hb3).alloc (.cells #[.int .i64 (W : Int), .int .i64 (H : Int), .slice a3 n c3] 29)
  have S34 := S3.alloc (.cells #[.int .i64 (W : Int), .int .i64 (H : Int), .slice a3 n c3] 29)
  clear x0 x1 x2 xz XB3 RB3 X03 S23 XC3 hB3 S3 hN2 hb3
  have x0 := X04.at_ 0 rfl; have x1 := X04.at_ 1 rfl; have x2 := X04.at_ 2 rfl; have x3 := X04.at_ 3 rfl; have xz := X04.lt
  have SR5 : Sr ((w3.alloc (.cells #[.int .i64 (W : Int), .int .i64 (H : Int), .slice a3 n c3] 29)).alloc (.cells #[.int .i64 0, .int .i64 0] 38)) (some ⟨(w3.alloc (.cells #[.int .i64 (W : Int), .int .i64 (H : Int), .slice a3 n c3] 29)).heap.size, 0, none⟩) 1 (fun _ => ((0 : Int), (0 : Int))) := fun j hj => by
    obtain rfl : j = 0 := by omega
    exact ⟨_, 0, rfl, by simp, cell_new _ _ _ 0 _ rfl, cell_new _ _ _ 1 _ rfl⟩
  have hB5 := balloc hB4 (.cells #[.int .i64 0, .int .i64 0] 38)
  simp only [World.size_alloc] at SR5
  have XC5 := XC4.alloc (.cells #[.int .i64 0, .int .i64 0] 38); have XD5 := XD4.alloc (.cells #[.int .i64 0, .int .i64 0] 38); have S25 := S24.alloc (.cells #[.int .i64 0, .int .i64 0] 38); have S35 := S34.alloc (.cells #[.int .i64 0, .int .i64 0] 38)
  go_wp2_with fail
  refine (hRu _ _ (S.below hB5) (T.below hB5) (HR.below hB5) SR5).mono ?_
  rintro e w5 ⟨g5, c5, h5, d5, rfl, R5, Q5, hb5⟩
  have hB6 := balloc (bvia hB5 hb5) (.cells #[.int .i64 (W : Int), .int .i64 (H : Int), .slice (some ⟨g5, 0, none⟩) n c5, .slice (some ⟨h5, 0, none⟩) n d5] 24)
  have XC6 := (XC5.below hb5).alloc (.cells #[.int .i64 (W : Int), .int .i64 (H : Int), .slice (some ⟨g5, 0, none⟩) n c5, .slice (some ⟨h5, 0, none⟩) n d5] 24); have XD6 := (XD5.below hb5).alloc (.cells #[.int .i64 (W : Int), .int .i64 (H : Int), .slice (some ⟨g5, 0, none⟩) n c5, .slice (some ⟨h5, 0, none⟩) n d5] 24)
  have S26 := (S25.below hb5).alloc (.cells #[.int .i64 (W : Int), .int .i64 (H : Int), .slice (some ⟨g5, 0, none⟩) n c5, .slice (some ⟨h5, 0, none⟩) n d5] 24); have S36 := (S35.below hb5).alloc (.cells #[.int .i64 (W : Int), .int .i64 (H : Int), .slice (some ⟨g5, 0, none⟩) n c5, .slice (some ⟨h5, 0, none⟩) n d5] 24)
  have R6 := R5.alloc (.cells #[.int .i64 (W : Int), .int .i64 (H : Int), .slice (some ⟨g5, 0, none⟩) n c5, .slice (some ⟨h5, 0, none⟩) n d5] 24); have Q6 := Q5.alloc (.cells #[.int .i64 (W : Int), .int .i64 (H : Int), .slice (some ⟨g5, 0, none⟩) n c5, .slice (some ⟨h5, 0, none⟩) n d5] 24)
  have XE6 := Bx.new w5 #[.int .i64 (W : Int), .int .i64 (H : Int), .slice (some ⟨g5, 0, none⟩) n c5, .slice (some ⟨h5, 0, none⟩) n d5] 24
  clear x0 x1 x2 x3 xz X04 XC4 XD4 S24 S34 SR5 hB5 XC5 XD5 S25 S35 hB4 R5 Q5 hRu hb5
  have x0 := XC6.at_ 0 rfl; have x1 := XC6.at_ 1 rfl; have x2 := XC6.at_ 2 rfl; have xz := XC6.lt
  have y0 := XD6.at_ 0 rfl; have y1 := XD6.at_ 1 rfl; have y2 := XD6.at_ 2 rfl; have yz := XD6.lt
  go_wp2_with fail
  refine (hOf _ _ _ _ _ S26 S36).mono ?_
  rintro e w6 ⟨g6, c6, h6, d6, rfl, R7, Q7, hb6⟩
  have hB7 := balloc (bvia hB6 hb6) (.cells #[.int .i64 (W : Int), .int .i64 (H : Int), .slice (some ⟨g6, 0, none⟩) n c6, .slice (some ⟨h6, 0, none⟩) n d6] 24)
  have XE7 := (XE6.below hb6).alloc (.cells #[.int .i64 (W : Int), .int .i64 (H : Int), .slice (some ⟨g6, 0, none⟩) n c6, .slice (some ⟨h6, 0, none⟩) n d6] 24)
  have R8 := (R6.below hb6).alloc (.cells #[.int .i64 (W : Int), .int .i64 (H : Int), .slice (some ⟨g6, 0, none⟩) n c6, .slice (some ⟨h6, 0, none⟩) n d6] 24); have Q8 := (Q6.below hb6).alloc (.cells #[.int .i64 (W : Int), .int .i64 (H : Int), .slice (some ⟨g6, 0, none⟩) n c6, .slice (some ⟨h6, 0, none⟩) n d6] 24)
  have R9 := R7.alloc (.cells #[.int .i64 (W : Int), .int .i64 (H : Int), .slice (some ⟨g6, 0, none⟩) n c6, .slice (some ⟨h6, 0, none⟩) n d6] 24); have Q9 := Q7.alloc (.cells #[.int .i64 (W : Int), .int .i64 (H : Int), .slice (some ⟨g6, 0, none⟩) n c6, .slice (some ⟨h6, 0, none⟩) n d6] 24)
  clear x0 x1 x2 xz y0 y1 y2 yz XC6 XD6 S26 S36 hB6 XE6 R6 Q6 R7 Q7 hOf hb6
  have x0 := XE7.at_ 0 rfl; have x1 := XE7.at_ 1 rfl; have x2 := XE7.at_ 2 rfl; have x3 := XE7.at_ 3 rfl; have xz := XE7.lt
  go_wp2_with fail
  refine (hEq _ _ _ _ _ _ _ _ _ R8.sc Q8.sc R9.sc Q9.sc).mono ?_
  rintro e w7 ⟨rfl, hb7⟩
  have hB8 := bvia hB7 hb7
  go_wp2_with fail
  refine (awake5_true _).mono ?_
  rintro e w8 ⟨rfl, hb8⟩
  go_wp2
  go_ret
  exact ⟨rfl, bvia hB8 hb8⟩
end Go.Proofs.YtpbobhobhbbimaaGreat
/- What a land reads as, as words on a world. What a state of sites and a post reads as, as words on a world. How a slice of rules reads: opened to cells. Lifting: a turn (a site and a post). Lifting: what an argument of the type Order is in the model. -/
namespace Go.Proofs.YtpbobhobhbbimaaGreat
open Go Go.RowKit Go.ChangeShapes Go.WideShapes
set_option linter.unusedVariables false
section
variable {H : Type} {enc : TypeId × Value → H} {w : World} {spare : Nat → Bool} {held : Bool} {fuel : Nat} {cs : List Value} {x : DataW H × List MemPlace}
end
end Go.Proofs.YtpbobhobhbbimaaGreat
namespace Go.Proofs.YtpbobhobhbbimaaGreat
open Go Go.RowKit Go.ChangeShapes Go.WideShapes Go.ChangeAt Go.Deep
set_option linter.unusedVariables false
section
variable {H : Type} {enc : TypeId × Value → H} {P : Program} {w : World} {spare : Nat → Bool} {held : Bool} {fuel : Nat} {cs : List Value} {x : DataW H × List MemPlace}
end
section
variable {H : Type} {enc : TypeId × Value → H} {w : World} {spare : Nat → Bool} {held : Bool} {fuel : Nat} {cs : List Value} {x : DataW H × List MemPlace}
end
end Go.Proofs.YtpbobhobhbbimaaGreat
namespace Go.Proofs.YtpbobhobhbbimaaGreat
open Go.ChangeShapes Go.WideShapes Go.ChangeAt Go.RowKit Go.Deep
set_option linter.unusedVariables false
theorem Tryz.cells38 : Tryz.prog.cellsOf 38 = 2 := by kernel_rfl
section
variable {H : Type} {enc : TypeId × Value → H} {w : World} {spare : Nat → Bool} {held : Bool} {fuel : Nat} {cs : List Value} {x : DataW H × List MemPlace}
theorem lift_rule2 (h : DataW.trod enc Tryz.prog w 0 spare held fuel 38 cs = some x) : ∃ p : Int × Int, cs = [.int .i64 p.1, .int .i64 p.2] := by
  obtain ⟨y0, y1, m, hlen, h0, h1⟩ := trod_fields2 Tryz.underlying38 Tryz.cells38 Tryz.cells3 Tryz.cells3 h
  obtain ⟨v0, v1, rfl⟩ := list2 hlen
  obtain ⟨n0, e0, _⟩ := lift_int h0
  obtain ⟨n1, e1, _⟩ := lift_int h1
  have e0' : v0 = .int .i64 n0 := by simpa using e0
  have e1' : v1 = .int .i64 n1 := by simpa using e1
  subst e0' e1'
  exact ⟨(n0, n1), rfl⟩
theorem lift_rules (h : DataW.trod enc Tryz.prog w 0 spare held fuel 26 cs = some x) :
    ∃ (a : Option Addr) (n c : Nat) (p : Nat → Int × Int), cs = [.slice a n c] ∧ n ≤ maxLen ∧ n ≤ c ∧ c ≤ maxLen ∧ Sr w a n p := by
  rcases open_slice Tryz.underlying26 h with ⟨hcs, _⟩ | ⟨a, len, cap, m, nf, D, Pl, hcs, _, hl, hm, hmm, _, hi⟩
  · exact ⟨none, 0, 0, fun _ => (0, 0), hcs, by simp, by simp, by simp, fun k hk => by omega⟩
  · have hlm : len ≤ m := by rw [hmm]; split <;> omega
    rw [Tryz.cells38] at hi
    have each : ∀ i, i < m → ∃ p : Int × Int, a.spot = none ∧ a.block < w.heap.size ∧ w.cell? ⟨a.block, a.off + i * 2, none⟩ = some (.int .i64 p.1) ∧ w.cell? ⟨a.block, a.off + i * 2 + 1, none⟩ = some (.int .i64 p.2) := by
      intro i him
      obtain ⟨cs', hc, ht⟩ := hi i him
      obtain ⟨c, rfl⟩ := lift_rule2 ht
      obtain ⟨_, hcl, hat⟩ := World.cells?_some hc
      obtain ⟨_, hc0, ht0⟩ := hi 0 (by omega)
      obtain ⟨c0, rfl⟩ := lift_rule2 ht0
      obtain ⟨_, _, hat0⟩ := World.cells?_some hc0
      have z0 := hat0 0 (by omega)
      rw [Nat.zero_mul] at z0
      have hspot : a.spot = none := by simpa [Addr.add] using World.cell?_spot z0
      have hblk : a.block < w.heap.size := by simpa [Addr.add] using World.block_lt_of_cell? w _ z0
      obtain ⟨b, off, spot⟩ := a
      simp only at hspot hblk
      subst hspot
      have add : ∀ off p : Nat, (Addr.add ⟨b, off, none⟩ p : Addr) = ⟨b, off + p, none⟩ := fun off p => by by_cases h : p = 0 <;> simp [Addr.add, h]
      have r0 := hat 0 (by omega)
      have r1 := hat 1 (by omega)
      simp only [add] at r0 r1
      exact ⟨c, rfl, hblk, r0, r1⟩
    refine ⟨some a, len, cap, fun i => if hi : i < m then (each i hi).choose else (0, 0), hcs, Nat.le_trans hl hm, hl, hm, fun k hk => ?_⟩
    have hkm : k < m := by omega
    obtain ⟨s1, s2, s3, s4⟩ := (each k hkm).choose_spec
    refine ⟨a.block, a.off, ?_, s2, ?_, ?_⟩
    · obtain ⟨b, off, spot⟩ := a
      simp only at s1
      rw [s1]
    · simp only [hkm, dite_true]; exact s3
    · simp only [hkm, dite_true]; exact s4
end
end Go.Proofs.YtpbobhobhbbimaaGreat
namespace Go.Proofs.YtpbobhobhbbimaaGreat
open Go Go.RowKit Go.ChangeShapes Go.WideShapes
set_option linter.unusedVariables false
section
variable {H : Type} {enc : TypeId × Value → H} {w : World} {spare : Nat → Bool} {held : Bool} {fuel : Nat} {cs : List Value} {x : DataW H × List MemPlace}
end
end Go.Proofs.YtpbobhobhbbimaaGreat
namespace Go.Proofs.YtpbobhobhbbimaaGreat
open Go Go.RowKit Go.ChangeShapes Go.WideShapes
set_option linter.unusedVariables false
section
variable {H : Type} {enc : TypeId × Value → H} {w : World} {spare : Nat → Bool} {held : Bool} {fuel : Nat} {cs : List Value} {x : DataW H × List MemPlace}
end
end Go.Proofs.YtpbobhobhbbimaaGreat
