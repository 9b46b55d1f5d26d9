/- Walks: a cell turned by two quarters; the program's Reversed of a grid; awake5. -/
import Derived.Test.YthlbmlfkmfheiaaWStream2
import Derived.Test.YthlbmlfkmfheiaaWStepPlain
import Derived.Test.YthlbmlfkmfheiaaCellStep2
import Derived.Test.YthlbmlfkmfheiaaGCol
namespace Go.Proofs.Ythlbmlfkmfheiaa
open Go Go.RowKit
set_option linter.unusedVariables false
def revC (c : C4) : C4 := ⟨c.w, c.s, c.e, c.n⟩
theorem revC_valid {c : C4} (h : validC c = true) : validC (revC c) = true := by rw [validC_iff] at *; simp only [revC]; omega
def tvA (c : C4) : Nat → Array Value
  | 0 => #[.int .i64 0, .int .i64 0, .int .i64 0, .int .i64 0]
  | 1 => #[.int .i64 0, .int .i64 0, .int .i64 c.e, .int .i64 0]
  | 2 => #[.int .i64 0, .int .i64 0, .int .i64 c.e, .int .i64 c.n]
  | 3 => #[.int .i64 c.w, .int .i64 0, .int .i64 c.e, .int .i64 c.n]
  | _ => #[.int .i64 c.w, .int .i64 c.s, .int .i64 c.e, .int .i64 c.n]
theorem index4r (a b c d : Value) : ∀ w : World, (Instr.index 39 (.agg #[a, b, c, d]) (.int .i64 0)).run Try.prog w = .ok a w ∧ (Instr.index 39 (.agg #[a, b, c, d]) (.int .i64 1)).run Try.prog w = .ok b w ∧ (Instr.index 39 (.agg #[a, b, c, d]) (.int .i64 2)).run Try.prog w = .ok c w ∧ (Instr.index 39 (.agg #[a, b, c, d]) (.int .i64 3)).run Try.prog w = .ok d w := fun w => by
  refine ⟨by kernel_rfl, by kernel_rfl, by kernel_rfl, by kernel_rfl⟩
set_option maxRecDepth 100000 in
set_option maxHeartbeats 2000000 in
theorem cell_Turned2 (c : C4) (w : World) (hv : validC c = true) : Calls Try.prog 38 #[.agg #[.int .i64 c.e, .int .i64 c.n, .int .i64 c.w, .int .i64 c.s], .int .i64 2] w fun e w' => e = .returned (.tuple #[.agg #[.int .i64 c.w, .int .i64 c.s, .int .i64 c.e, .int .i64 c.n], .int .i64 0]) ∧ Below w.heap.size w w' := by
  have hval := fun W' => cell_valid c W'
  have hix := index4r (.int .i64 c.e) (.int .i64 c.n) (.int .i64 c.w) (.int .i64 c.s)
  have hi0 := fun W' => (hix W').1; have hi1 := fun W' => (hix W').2.1; have hi2 := fun W' => (hix W').2.2.1; have hi3 := fun W' => (hix W').2.2.2
  rw [hv] at hval
  clear hv hix
  have X0 := (Bx.new w #[.int .i64 c.e, .int .i64 c.n, .int .i64 c.w, .int .i64 c.s] 39).alloc (.cells #[.int .i64 0, .int .i64 0, .int .i64 0, .int .i64 0] 39)
  have X1 := Bx.new (w.alloc (.cells #[.int .i64 c.e, .int .i64 c.n, .int .i64 c.w, .int .i64 c.s] 39)) #[.int .i64 0, .int .i64 0, .int .i64 0, .int .i64 0] 39
  simp only [World.size_alloc] at X1
  have hB0 : Below w.heap.size w ((w.alloc (.cells #[.int .i64 c.e, .int .i64 c.n, .int .i64 c.w, .int .i64 c.s] 39)).alloc (.cells #[.int .i64 0, .int .i64 0, .int .i64 0, .int .i64 0] 39)) := by (repeat' (first | with_reducible assumption | with_reducible exact Below.refl _ _ | with_reducible refine Below.drew ?_ | with_reducible refine below_drewN ?_ _ | with_reducible refine balloc ?_ _ | with_reducible refine bset ?_ ?_ _ | with_reducible refine Below.setCell ?_ ?_ _ | with_reducible refine Below.alloc ?_ ?_ _ | omega | (simp; done) | (simp; omega)))
  go_enter Try.func38, Try.ntmps38
  go_wp2_with fail
  generalize ((w.alloc (.cells #[.int .i64 c.e, .int .i64 c.n, .int .i64 c.w, .int .i64 c.s] 39)).alloc (.cells #[.int .i64 0, .int .i64 0, .int .i64 0, .int .i64 0] 39)) = W0 at X0 X1 hB0 ⊢
  have z0 := X0.lt
  have z1 := X1.lt
  refine (hval _).mono ?_
  rintro e w1 ⟨rfl, hb1⟩
  have hB := hB0
  clear hB0 hval
  replace X0 := X0.below hb1
  replace X1 := X1.below hb1
  replace hB := bvia hB hb1
  clear hb1
  have X0_0 := X0.at_ 0 rfl
  have X0_1 := X0.at_ 1 rfl
  have X0_2 := X0.at_ 2 rfl
  have X0_3 := X0.at_ 3 rfl
  have X0f := X0.free
  have X0z := X0.lt
  have X1z := X1.lt
  go_wp2_with fail
  have hsz : w.heap.size + 1 < w1.heap.size := X1.lt
  clear X0_0 X0_1 X0_2 X0_3 X0f X0z X1z
  replace X0 := X0.alloc (.cells #[.int .i64 0, .int .i64 0, .int .i64 0, .int .i64 0] 39)
  replace X1 := X1.alloc (.cells #[.int .i64 0, .int .i64 0, .int .i64 0, .int .i64 0] 39)
  have X2 := Bx.new w1 #[.int .i64 0, .int .i64 0, .int .i64 0, .int .i64 0] 39
  replace hB := balloc hB (.cells #[.int .i64 0, .int .i64 0, .int .i64 0, .int .i64 0] 39)
  have X0_0 := X0.at_ 0 rfl
  have X0_1 := X0.at_ 1 rfl
  have X0_2 := X0.at_ 2 rfl
  have X0_3 := X0.at_ 3 rfl
  have X0f := X0.free
  have X0z := X0.lt
  have X1z := X1.lt
  clear X0_0 X0_1 X0_2 X0_3 X0f X0z X1z
  go_loopw [14] (fun s14 wr => ∃ i : Nat, i ≤ 4 ∧ s14 = .int .i64 (i : Int) ∧ Bx wr w1.heap.size (tvA c i) ∧ Bx wr (w.heap.size + 1) #[.int .i64 0, .int .i64 0, .int .i64 0, .int .i64 0] ∧ Below w.heap.size w wr) (fun s14 _ => 4 - (intOf s14).toNat)
  case atStart => exact ⟨0, by omega, rfl, X2, X1, hB⟩
  case round =>
    clear X0 X1 X2 hB
    obtain ⟨i, hi, rfl, X2, X1, hb⟩ := hrel
    rcases (by omega : i = 0 ∨ i = 1 ∨ i = 2 ∨ i = 3 ∨ i = 4) with rfl | rfl | rfl | rfl | rfl
    · skip
      have e0 := X2.at_ 0 rfl; have e1 := X2.at_ 1 rfl; have e2 := X2.at_ 2 rfl; have e3 := X2.at_ 3 rfl; have ef := X2.free; have el := X2.lt
      go_wp2_with fail
      go_roundw
      case rel => exact ⟨0 + 1, by omega, rfl, X2.set_ 2 (by simp [tvA]) (.int .i64 (c.e)), X1.far (by dsimp only; omega) _, bset hb (by dsimp only; omega) _⟩
      case measure => simp [intOf]
    · skip
      have e0 := X2.at_ 0 rfl; have e1 := X2.at_ 1 rfl; have e2 := X2.at_ 2 rfl; have e3 := X2.at_ 3 rfl; have ef := X2.free; have el := X2.lt
      go_wp2_with fail
      go_roundw
      case rel => exact ⟨1 + 1, by omega, rfl, X2.set_ 3 (by simp [tvA]) (.int .i64 (c.n)), X1.far (by dsimp only; omega) _, bset hb (by dsimp only; omega) _⟩
      case measure => simp [intOf]
    · skip
      have e0 := X2.at_ 0 rfl; have e1 := X2.at_ 1 rfl; have e2 := X2.at_ 2 rfl; have e3 := X2.at_ 3 rfl; have ef := X2.free; have el := X2.lt
      go_wp2_with fail
      go_roundw
      case rel => exact ⟨2 + 1, by omega, rfl, X2.set_ 0 (by simp [tvA]) (.int .i64 (c.w)), X1.far (by dsimp only; omega) _, bset hb (by dsimp only; omega) _⟩
      case measure => simp [intOf]
    · skip
      have e0 := X2.at_ 0 rfl; have e1 := X2.at_ 1 rfl; have e2 := X2.at_ 2 rfl; have e3 := X2.at_ 3 rfl; have ef := X2.free; have el := X2.lt
      go_wp2_with fail
      go_roundw
      case rel => exact ⟨3 + 1, by omega, rfl, X2.set_ 1 (by simp [tvA]) (.int .i64 (c.s)), X1.far (by dsimp only; omega) _, bset hb (by dsimp only; omega) _⟩
      case measure => simp [intOf]
    · have e0 : wr.cell? ⟨w1.heap.size, 0, none⟩ = some (.int .i64 c.w) := X2.at_ 0 rfl
      have e1 : wr.cell? ⟨w1.heap.size, 1, none⟩ = some (.int .i64 c.s) := X2.at_ 1 rfl
      have e2 : wr.cell? ⟨w1.heap.size, 2, none⟩ = some (.int .i64 c.e) := X2.at_ 2 rfl
      have e3 : wr.cell? ⟨w1.heap.size, 3, none⟩ = some (.int .i64 c.n) := X2.at_ 3 rfl
      have ef := X2.free; have el := X2.lt
      have f0 := X1.at_ 0 rfl; have f1 := X1.at_ 1 rfl; have f2 := X1.at_ 2 rfl; have f3 := X1.at_ 3 rfl; have ff := X1.free; have fl := X1.lt
      have ne : ¬ w1.heap.size = w.heap.size + 1 := by omega
      go_wp2_with fail
      refine bodyPost_ret (v := .tuple #[.agg #[.int .i64 c.w, .int .i64 c.s, .int .i64 c.e, .int .i64 c.n], .int .i64 0]) (by simp [results, Try.results38, go_sem, f0, f1, f2, f3]) rfl ⟨rfl, by (repeat' (first | with_reducible assumption | with_reducible exact Below.refl _ _ | with_reducible refine Below.drew ?_ | with_reducible refine below_drewN ?_ _ | with_reducible refine balloc ?_ _ | with_reducible refine bset ?_ ?_ _ | with_reducible refine Below.setCell ?_ ?_ _ | with_reducible refine Below.alloc ?_ ?_ _ | omega | (simp; done) | (simp; omega)))⟩
set_option maxRecDepth 100000 in
set_option maxHeartbeats 8000000 in
theorem grid_reversed1 (W H n b₀ ca : Nat) (g : Nat → C4) (w : World) (hn : n ≤ 4096) (hv : ∀ i, i < n → validC (g i) = true) (R : Ro w b₀ (n * 4) (flatC g)) :
    Calls Try.prog 37 #[.agg #[.int .i64 (W : Int), .int .i64 (H : Int), .slice (some ⟨b₀, 0, none⟩) n ca]] w fun e w' => e = .returned (.agg #[.int .i64 (W : Int), .int .i64 (H : Int), .slice (some ⟨b₀, 0, none⟩) n ca]) ∧ Ro w' b₀ (n * 4) (flatC (fun i => revC (g i))) ∧ But (fun q => q = b₀) w w' := by
  have haf0 := fun i W' h => cell_Turned2 (g i) W' (hv i h)
  generalize hF : (fun i => revC (g i)) = F at *
  have hFi : ∀ i, revC (g i) = F i := fun i => by rw [← hF]
  have haf1 := fun i W' h => (show Calls Try.prog 38 #[.agg #[.int .i64 (g i).e, .int .i64 (g i).n, .int .i64 (g i).w, .int .i64 (g i).s], .int .i64 2] W' fun e w' => e = .returned (.tuple #[.agg #[.int .i64 (revC (g i)).e, .int .i64 (revC (g i)).n, .int .i64 (revC (g i)).w, .int .i64 (revC (g i)).s], .int .i64 0]) ∧ Below W'.heap.size W' w' from haf0 i W' h)
  have HA := hid haf1; have HM := hid hFi
  clear haf0 haf1 hFi hF hv
  have hbl := R.lt
  have X0 := (Bx.new w #[.int .i64 (W : Int), .int .i64 (H : Int), .slice (some ⟨b₀, 0, none⟩) n ca] 85).alloc (.cells #[.int .i64 0, .int .i64 0, .slice none 0 0] 85)
  have X1 := Bx.new (w.alloc (.cells #[.int .i64 (W : Int), .int .i64 (H : Int), .slice (some ⟨b₀, 0, none⟩) n ca] 85)) #[.int .i64 0, .int .i64 0, .slice none 0 0] 85
  simp only [World.size_alloc] at X1
  have hB0 : Below w.heap.size w ((w.alloc (.cells #[.int .i64 (W : Int), .int .i64 (H : Int), .slice (some ⟨b₀, 0, none⟩) n ca] 85)).alloc (.cells #[.int .i64 0, .int .i64 0, .slice none 0 0] 85)) := by (repeat' (first | with_reducible assumption | with_reducible exact Below.refl _ _ | with_reducible refine Below.drew ?_ | with_reducible refine below_drewN ?_ _ | with_reducible refine balloc ?_ _ | with_reducible refine bset ?_ ?_ _ | with_reducible refine Below.setCell ?_ ?_ _ | with_reducible refine Below.alloc ?_ ?_ _ | omega | (simp; done) | (simp; omega)))
  go_enter Try.func37, Try.ntmps37
  go_wp2_with fail
  generalize ((w.alloc (.cells #[.int .i64 (W : Int), .int .i64 (H : Int), .slice (some ⟨b₀, 0, none⟩) n ca] 85)).alloc (.cells #[.int .i64 0, .int .i64 0, .slice none 0 0] 85)) = W0 at X0 X1 hB0 ⊢
  have z0 := X0.lt
  have z1 := X1.lt
  have x00 := X0.at_ 2 rfl
  have hU : But (fun q => q = b₀) w W0 := but_below hB0 (Nat.le_refl _)
  replace R := R.below hB0
  rw [← ovC_zero F g] at R
  go_wp2_with fail
  clear x00 hB0 z0 z1
  go_loopw [9] (fun s13 wr => ∃ i : Nat, i ≤ n ∧ s13 = .int .i64 i ∧ Bx wr w.heap.size #[.int .i64 (W : Int), .int .i64 (H : Int), .slice (some ⟨b₀, 0, none⟩) n ca] ∧ Bx wr (w.heap.size + 1) #[.int .i64 0, .int .i64 0, .slice none 0 0] ∧ Ro wr b₀ (n * 4) (flatC (ovC F g i)) ∧ But (fun q => q = b₀) w wr) (fun s13 _ => n - (intOf s13).toNat)
  case atStart => exact ⟨0, Nat.zero_le _, rfl, X0, X1, R, hU⟩
  case round =>
    clear X0 X1 R hU
    obtain ⟨i, hi, rfl, X0, X1, R, hU⟩ := hrel
    by_cases hlt : i < n
    · have c4 := R.scell hlt
      rw [ovC_at] at c4
      obtain ⟨c0, c1, c2, c3⟩ := c4
      have lb := R.lt
      have hMi := HM.out i
      have haf := fun W' => HA.out i W' hlt
      rw [hMi] at haf
      clear hMi
      have l0 := X0.lt; have l1 := X1.lt
      obtain ⟨wo, rfl⟩ : ∃ wo : World, wo = wr := ⟨_, rfl⟩
      go_upto_region 4 with (fail)
      have X3 := Bx.new wo #[.int .i64 (g i).e, .int .i64 (g i).n, .int .i64 (g i).w, .int .i64 (g i).s] 39
      replace X0 := X0.alloc (.cells #[.int .i64 (g i).e, .int .i64 (g i).n, .int .i64 (g i).w, .int .i64 (g i).s] 39)
      replace X1 := X1.alloc (.cells #[.int .i64 (g i).e, .int .i64 (g i).n, .int .i64 (g i).w, .int .i64 (g i).s] 39)
      replace R := R.alloc (.cells #[.int .i64 (g i).e, .int .i64 (g i).n, .int .i64 (g i).w, .int .i64 (g i).s] 39)
      replace hU := hU.alloc (.cells #[.int .i64 (g i).e, .int .i64 (g i).n, .int .i64 (g i).w, .int .i64 (g i).s] 39)
      clear c0 c1 c2 c3
      generalize wo.alloc (.cells #[.int .i64 (g i).e, .int .i64 (g i).n, .int .i64 (g i).w, .int .i64 (g i).s] 39) = wd at *
      have lr := R.lt
      have c4 := R.scell hlt
      rw [ovC_at] at c4
      obtain ⟨c0, c1, c2, c3⟩ := c4
      have rf := R.free
      have r0 : ∀ Y, Below wd.heap.size wd Y → Y.cell? ⟨w.heap.size, 2, none⟩ = some (.slice (some ⟨b₀, 0, none⟩) n ca) := fun Y h => (X0.below h).at_ 2 rfl
      have u4 : ∀ Y, Below wd.heap.size wd Y → Y.cell? ⟨wo.heap.size, 0, none⟩ = some (.int .i64 (g i).e) := fun Y h => (X3.below h).at_ 0 rfl
      have u5 : ∀ Y, Below wd.heap.size wd Y → Y.cell? ⟨wo.heap.size, 1, none⟩ = some (.int .i64 (g i).n) := fun Y h => (X3.below h).at_ 1 rfl
      have u6 : ∀ Y, Below wd.heap.size wd Y → Y.cell? ⟨wo.heap.size, 2, none⟩ = some (.int .i64 (g i).w) := fun Y h => (X3.below h).at_ 2 rfl
      have u7 : ∀ Y, Below wd.heap.size wd Y → Y.cell? ⟨wo.heap.size, 3, none⟩ = some (.int .i64 (g i).s) := fun Y h => (X3.below h).at_ 3 rfl
      have q0 : ∀ Y, Below wd.heap.size wd Y → Y.cell? ⟨b₀, i * 4, none⟩ = some (.int .i64 (g i).e) := fun Y h => (bcell h _ _ lr).trans c0
      have q1 : ∀ Y, Below wd.heap.size wd Y → Y.cell? ⟨b₀, i * 4 + 1, none⟩ = some (.int .i64 (g i).n) := fun Y h => (bcell h _ _ lr).trans c1
      have q2 : ∀ Y, Below wd.heap.size wd Y → Y.cell? ⟨b₀, i * 4 + 2, none⟩ = some (.int .i64 (g i).w) := fun Y h => (bcell h _ _ lr).trans c2
      have q3 : ∀ Y, Below wd.heap.size wd Y → Y.cell? ⟨b₀, i * 4 + 3, none⟩ = some (.int .i64 (g i).s) := fun Y h => (bcell h _ _ lr).trans c3
      have qf : ∀ Y, Below wd.heap.size wd Y → ∀ j, Y.frozen? ⟨b₀, j, none⟩ = false := fun Y h j => (bfrozen h _ _ lr).trans (rf j)
      clear c0 c1 c2 c3 rf
      refine wp_region_S (fun Y => Below wd.heap.size wd Y) 10 (by kernel_rfl) ?_
      refine anyS_take (i := 0) rfl (by kernel_rfl) (fun _ _ _ h => h) (Or.inl ⟨by rfl, fun Y hYb => (by (try dsimp only at hYb); go_simp; rfl)⟩) (by repeat' (first | with_reducible assumption | with_reducible exact Below.refl _ _ | with_reducible refine Below.drew ?_ | with_reducible refine below_drewN ?_ _)) ?_
      refine anyS_take (i := 1) rfl (by kernel_rfl) (fun _ _ _ h => h) (Or.inl ⟨by rfl, fun Y hYb => (by (try dsimp only at hYb); go_simp; rfl)⟩) (by repeat' (first | with_reducible assumption | with_reducible exact Below.refl _ _ | with_reducible refine Below.drew ?_ | with_reducible refine below_drewN ?_ _)) ?_
      refine anyS_take (i := 2) rfl (by kernel_rfl) (fun _ _ _ h => h) (Or.inl ⟨by rfl, fun Y hYb => (by (try dsimp only at hYb); go_simp; rfl)⟩) (by repeat' (first | with_reducible assumption | with_reducible exact Below.refl _ _ | with_reducible refine Below.drew ?_ | with_reducible refine below_drewN ?_ _)) ?_
      refine anyS_take (i := 3) rfl (by kernel_rfl) (fun _ _ _ h => h) (Or.inl ⟨by rfl, fun Y hYb => (by (try dsimp only at hYb); go_simp; rfl)⟩) (by repeat' (first | with_reducible assumption | with_reducible exact Below.refl _ _ | with_reducible refine Below.drew ?_ | with_reducible refine below_drewN ?_ _)) ?_
      refine anyS_take (i := 4) rfl (by kernel_rfl) (fun _ _ _ h => h) (Or.inl ⟨by rfl, fun Y hYb => (by (try dsimp only at hYb); go_simp; rfl)⟩) (by repeat' (first | with_reducible assumption | with_reducible exact Below.refl _ _ | with_reducible refine Below.drew ?_ | with_reducible refine below_drewN ?_ _)) ?_
      refine anyS_one (i := 5) (by kernel_rfl) rfl (by rfl) (fun K hK => ?_)
      go_simp
      refine (haf _).mono ?_
      rintro e w2 ⟨rfl, hb2⟩
      dsimp only
      have hS2 : Below wd.heap.size wd w2 := bvia (Below.refl _ wd).drew hb2
      refine hK _ _ (fun _ _ => hS2) ?_
      clear hK K hb2
      have y0 := q0 _ hS2; have y1 := q1 _ hS2; have y2 := q2 _ hS2; have y3 := q3 _ hS2; have yf := qf _ hS2
      refine anyS_take (i := 6) rfl (by kernel_rfl) (fun _ _ _ h => h) (Or.inl ⟨by rfl, fun Y hYb => (by (try dsimp only at hYb); go_simp; rfl)⟩) (by repeat' (first | with_reducible assumption | with_reducible exact Below.refl _ _ | with_reducible refine Below.drew ?_ | with_reducible refine below_drewN ?_ _)) ?_
      refine anyS_take (i := 7) rfl (by kernel_rfl) (fun _ _ _ h => h) (Or.inl ⟨by rfl, fun Y hYb => (by (try dsimp only at hYb); go_simp; rfl)⟩) (by repeat' (first | with_reducible assumption | with_reducible exact Below.refl _ _ | with_reducible refine Below.drew ?_ | with_reducible refine below_drewN ?_ _)) ?_
      refine anyS_pure (i := 8) rfl (by kernel_rfl) (fun _ _ _ h => h) (Or.inl ⟨by rfl, fun Y hYb => (by clear hYb; go_simp; rfl)⟩) ?_
      refine anyS_take (i := 9) rfl (by kernel_rfl) (fun _ _ _ h => h) (Or.inl ⟨by rfl, fun Y hYb => (by (try dsimp only at hYb); go_simp; rfl)⟩) (by repeat' (first | with_reducible assumption | with_reducible exact Below.refl _ _ | with_reducible refine Below.drew ?_ | with_reducible refine below_drewN ?_ _)) ?_
      refine anyS_one (i := 10) (by kernel_rfl) rfl (by rfl) (fun K hK => ?_)
      go_simp
      refine hK _ _ (fun h _ => absurd h (by decide)) ?_
      clear hK K
      refine anyS_done (by kernel_rfl) ?_ _
      have hw2 := hS2.size
      replace X0 := X0.below hS2; replace X1 := X1.below hS2; replace R := R.below hS2
      replace hU := hU.trans (but_below hS2 (Nat.le_refl _))
      clear X3 r0 u4 u5 u6 u7 q0 q1 q2 q3 qf y0 y1 y2 y3 yf
      have n0 : b₀ ≠ w.heap.size := by omega
      have n1 : b₀ ≠ w.heap.size + 1 := by omega
      go_wp2_with fail
      go_roundw
      case rel => exact ⟨i + 1, by omega, by go_num, (((X0.far (p := ⟨b₀, i * 4, none⟩) n0 _).far (p := ⟨b₀, i * 4 + 1, none⟩) n0 _).far (p := ⟨b₀, i * 4 + 2, none⟩) n0 _).far (p := ⟨b₀, i * 4 + 3, none⟩) n0 _, (((X1.far (p := ⟨b₀, i * 4, none⟩) n1 _).far (p := ⟨b₀, i * 4 + 1, none⟩) n1 _).far (p := ⟨b₀, i * 4 + 2, none⟩) n1 _).far (p := ⟨b₀, i * 4 + 3, none⟩) n1 _, by rw [ovC_succ]; exact R.setC i (F i), by (repeat' (first | with_reducible assumption | with_reducible exact But.refl _ _ | with_reducible refine But.drew ?_ | with_reducible refine But.drewN ?_ _ | (with_reducible refine But.set_ ?_ (by dsimp only) _) | with_reducible refine But.alloc ?_ _))⟩
      case measure => simp [intOf]; omega
    · obtain rfl : i = n := (by omega)
      have HR := hid (R.congr (flatC_congr (fun j hj => ovC_lt hj)))
      clear R
      have x20 := X1.at_ 0 rfl; have x21 := X1.at_ 1 rfl; have x22 := X1.at_ 2 rfl; have x2f := X1.free; have x2l := X1.lt
      have x00 := X0.at_ 0 rfl; have x01 := X0.at_ 1 rfl; have x02 := X0.at_ 2 rfl
      go_wp2_with fail
      refine bodyPost_ret (v := .agg #[.int .i64 (W : Int), .int .i64 (H : Int), .slice (some ⟨b₀, 0, none⟩) i ca]) (by simp [results, Try.results37, go_sem, x20, x21, x22]) rfl ⟨rfl, ?_, ?_⟩
      · have R := HR.out
        (repeat' (first | with_reducible assumption | with_reducible refine Ro.drew ?_ | with_reducible refine Ro.drewN ?_ _ | with_reducible refine Ro.alloc ?_ _ | with_reducible refine Ro.far ?_ ?_ _ | (show _ ≠ _; dsimp only; omega)))
      · exact ((hU.setN (p := ⟨w.heap.size + 1, 0, none⟩) (by dsimp only; omega) _).setN (p := ⟨w.heap.size + 1, 1, none⟩) (by dsimp only; omega) _).setN (p := ⟨w.heap.size + 1, 2, none⟩) (by dsimp only; omega) _
theorem below_butR {C : Nat → Prop} {w X Y : World} (h : Below w.heap.size w X) (k : But C X Y) (hc : ∀ b, C b → w.heap.size ≤ b) : Below w.heap.size w Y :=
  ⟨k.os.trans h.os, k.tape.trans h.tape, k.output.trans h.output, Nat.le_trans h.size k.size, fun b hb => (k.block b (Nat.lt_of_lt_of_le hb h.size) (fun h' => by have := hc b h'; omega)).trans (h.block b hb)⟩
set_option maxRecDepth 100000 in
set_option maxHeartbeats 1000000 in
theorem grid_changedR (W H : Nat) (a : Option Addr) (ca : Nat) (g : Nat → C4) (w : World) (h1 : 1 ≤ W ∧ W ≤ 64) (h2 : 1 ≤ H ∧ H ≤ 64) (hm : W * H ≤ 1024) (S : Sc w a (W * H) g) (hv : okG (W * H) g) : Calls Try.prog 36 #[.agg #[.int .i64 (W : Int), .int .i64 (H : Int), .slice a (W * H) ca], .func (.func 37) #[] #[]] w (GridRow0 W H (W * H) (fun i => revC (g i)) w) := by
  have hval := fun W' S' => grid_valid W H a (W * H) ca g W' (by omega) S'
  rw [validG_of h1 h2 hm hv] at hval
  have hn0 : 0 < W * H := Nat.mul_pos (by omega) (by omega)
  have hof := fun W' S' => grid_of W H a (W * H) ca g W' (by omega) hn0 S'
  have hst := fun b₀ c₀ W' R' => grid_reversed1 W H (W * H) b₀ c₀ g W' (by omega) hv.1 R'
  clear hv h1 h2
  generalize (fun i => revC (g i)) = G at *
  generalize W * H = n at *
  have X0 := (Bx.new w #[.int .i64 (W : Int), .int .i64 (H : Int), .slice a n ca] 24).alloc (.cells #[.int .i64 0, .int .i64 0, .slice none 0 0] 24)
  have X1 := Bx.new (w.alloc (.cells #[.int .i64 (W : Int), .int .i64 (H : Int), .slice a n ca] 24)) #[.int .i64 0, .int .i64 0, .slice none 0 0] 24
  simp only [World.size_alloc] at X1
  have hB0 : Below w.heap.size w ((w.alloc (.cells #[.int .i64 (W : Int), .int .i64 (H : Int), .slice a n ca] 24)).alloc (.cells #[.int .i64 0, .int .i64 0, .slice none 0 0] 24)) := by (repeat' (first | with_reducible assumption | with_reducible exact Below.refl _ _ | with_reducible refine Below.drew ?_ | with_reducible refine below_drewN ?_ _ | with_reducible refine balloc ?_ _ | with_reducible refine bset ?_ ?_ _ | with_reducible refine Below.setCell ?_ ?_ _ | with_reducible refine Below.alloc ?_ ?_ _ | omega | (simp; done) | (simp; omega)))
  go_enter Try.func36, Try.ntmps36
  go_wp2_with fail
  generalize ((w.alloc (.cells #[.int .i64 (W : Int), .int .i64 (H : Int), .slice a n ca] 24)).alloc (.cells #[.int .i64 0, .int .i64 0, .slice none 0 0] 24)) = W0 at X0 X1 hB0 ⊢
  have z0 := X0.lt
  have z1 := X1.lt
  refine (hval _ (S.below hB0)).mono ?_
  rintro e w1 ⟨rfl, hb1⟩
  have hB := hB0
  clear hB0 hval
  replace X0 := X0.below hb1
  replace X1 := X1.below hb1
  replace hB := bvia hB hb1
  clear hb1
  have X0_0 := X0.at_ 0 rfl
  have X0_1 := X0.at_ 1 rfl
  have X0_2 := X0.at_ 2 rfl
  go_wp2_with fail
  refine (hof _ (S.below hB)).mono ?_
  rintro e w2 ⟨b₁, c₁, rfl, hb₁, R₁, hc₁, hb2⟩
  have hs1 := hB.size
  have hx1 := X1.lt
  clear X0_0 X0_1 X0_2
  replace X0 := X0.below hb2
  replace X1 := X1.below hb2
  replace hB := bvia hB hb2
  clear hb2
  have X0_0 := X0.at_ 0 rfl
  have X0_1 := X0.at_ 1 rfl
  have X0_2 := X0.at_ 2 rfl
  go_wp2_with fail
  refine (hst _ _ _ R₁).mono ?_
  rintro e w3 ⟨rfl, R, hU3⟩
  replace hB := below_butR hB hU3 (fun b h => by omega)
  replace X1 := X1.but hU3 (fun h => by omega)
  have x0 := X1.at_ 0 rfl; have x1 := X1.at_ 1 rfl; have x2 := X1.at_ 2 rfl; have xf := X1.free; have xl := X1.lt
  have hl := R.lt
  clear X0_0 X0_1 X0_2
  clear R₁ X0 hU3
  have hfd := field_grid (.int .i64 (W : Int)) (.int .i64 (H : Int)) (.slice (some ⟨b₁, 0, none⟩) n c₁)
  go_wp2_with fail
  refine bodyPost_ret (v := .tuple #[.agg #[.int .i64 (W : Int), .int .i64 (H : Int), .slice (some ⟨b₁, 0, none⟩) n c₁], .int .i64 0]) (by simp [results, Try.results36, go_sem, x0, x1, x2]) rfl ⟨b₁, c₁, rfl, by omega, by (repeat' (first | with_reducible assumption | with_reducible refine Ro.drew ?_ | with_reducible refine Ro.drewN ?_ _ | with_reducible refine Ro.alloc ?_ _ | with_reducible refine Ro.far ?_ ?_ _ | (show _ ≠ _; dsimp only; omega))), hc₁, by (repeat' (first | with_reducible assumption | with_reducible exact Below.refl _ _ | with_reducible refine Below.drew ?_ | with_reducible refine below_drewN ?_ _ | with_reducible refine balloc ?_ _ | with_reducible refine bset ?_ ?_ _ | with_reducible refine Below.setCell ?_ ?_ _ | with_reducible refine Below.alloc ?_ ?_ _ | omega | (simp; done) | (simp; omega)))⟩
set_option maxRecDepth 100000 in
set_option maxHeartbeats 1000000 in
theorem grid_Reversed (W H : Nat) (a : Option Addr) (ca : Nat) (g : Nat → C4) (w : World) (h1 : 1 ≤ W ∧ W ≤ 64) (h2 : 1 ≤ H ∧ H ≤ 64) (hm : W * H ≤ 1024) (S : Sc w a (W * H) g) (hv : okG (W * H) g) : Calls Try.prog 15 #[.agg #[.int .i64 (W : Int), .int .i64 (H : Int), .slice a (W * H) ca]] w (GridRow0 W H (W * H) (fun i => revC (g i)) w) := by
  have hc := fun W' S' => grid_changedR W H a ca g W' h1 h2 hm S' hv
  clear hv h1 h2
  generalize (fun i => revC (g i)) = G at *
  generalize W * H = n at *
  have X0 := (Bx.new w #[.int .i64 (W : Int), .int .i64 (H : Int), .slice a n ca] 24).alloc (.cells #[.int .i64 0, .int .i64 0, .slice none 0 0] 24)
  have X1 := Bx.new (w.alloc (.cells #[.int .i64 (W : Int), .int .i64 (H : Int), .slice a n ca] 24)) #[.int .i64 0, .int .i64 0, .slice none 0 0] 24
  simp only [World.size_alloc] at X1
  have hB0 : Below w.heap.size w ((w.alloc (.cells #[.int .i64 (W : Int), .int .i64 (H : Int), .slice a n ca] 24)).alloc (.cells #[.int .i64 0, .int .i64 0, .slice none 0 0] 24)) := by (repeat' (first | with_reducible assumption | with_reducible exact Below.refl _ _ | with_reducible refine Below.drew ?_ | with_reducible refine below_drewN ?_ _ | with_reducible refine balloc ?_ _ | with_reducible refine bset ?_ ?_ _ | with_reducible refine Below.setCell ?_ ?_ _ | with_reducible refine Below.alloc ?_ ?_ _ | omega | (simp; done) | (simp; omega)))
  go_enter Try.func15, Try.ntmps15
  go_wp2_with fail
  generalize ((w.alloc (.cells #[.int .i64 (W : Int), .int .i64 (H : Int), .slice a n ca] 24)).alloc (.cells #[.int .i64 0, .int .i64 0, .slice none 0 0] 24)) = W0 at X0 X1 hB0 ⊢
  have z0 := X0.lt
  have z1 := X1.lt
  refine (hc _ (S.below hB0)).mono ?_
  rintro e w1 ⟨b, cap, rfl, hb, R, hcap, hb1⟩
  have hB := hB0
  clear hB0 hc
  have hs1 := hB.size
  replace X0 := X0.below hb1
  replace X1 := X1.below hb1
  replace hB := bvia hB hb1
  clear hb1
  have X1_0 := X1.at_ 0 rfl
  have X1_1 := X1.at_ 1 rfl
  have X1_2 := X1.at_ 2 rfl
  have X1f := X1.free
  have X1z := X1.lt
  go_wp2_with fail
  refine bodyPost_ret (v := .tuple #[.agg #[.int .i64 (W : Int), .int .i64 (H : Int), .slice (some ⟨b, 0, none⟩) n cap], .int .i64 0]) (by simp [results, Try.results15, go_sem, X1_0, X1_1, X1_2]) rfl ⟨b, cap, rfl, by omega, by (repeat' (first | with_reducible assumption | with_reducible refine Ro.drew ?_ | with_reducible refine Ro.drewN ?_ _ | with_reducible refine Ro.alloc ?_ _ | with_reducible refine Ro.far ?_ ?_ _ | (show _ ≠ _; dsimp only; omega))), hcap, by (repeat' (first | with_reducible assumption | with_reducible exact Below.refl _ _ | with_reducible refine Below.drew ?_ | with_reducible refine below_drewN ?_ _ | with_reducible refine balloc ?_ _ | with_reducible refine bset ?_ ?_ _ | with_reducible refine Below.setCell ?_ ?_ _ | with_reducible refine Below.alloc ?_ ?_ _ | omega | (simp; done) | (simp; omega)))⟩
set_option maxRecDepth 100000 in
set_option maxHeartbeats 2000000 in
/-- a grid of one particle is reversed -/
theorem awake5_true (w : World) : Calls Try.prog 6 #[] w fun e w' => e = .returned (.bool true) ∧ Below w.heap.size w w' := by
  have hS : Sc (w.alloc (.cells #[.int .i64 1, .int .i64 2, .int .i64 3, .int .i64 4] 39)) (some ⟨w.heap.size, 0, none⟩) (1 * 1) (fun _ => ⟨1, 2, 3, 4⟩) := fun k hk => by
    obtain rfl : k = 0 := by omega
    exact ⟨w.heap.size, 0, rfl, by simp, cell_new _ _ _ 0 _ rfl, cell_new _ _ _ 1 _ rfl, cell_new _ _ _ 2 _ rfl, cell_new _ _ _ 3 _ rfl⟩
  have hr := grid_Reversed 1 1 (some ⟨w.heap.size, 0, none⟩) 1 (fun _ => ⟨1, 2, 3, 4⟩) (w.alloc (.cells #[.int .i64 1, .int .i64 2, .int .i64 3, .int .i64 4] 39)) (by omega) (by omega) (by omega) hS ⟨fun i hi => (show validC ⟨1, 2, 3, 4⟩ = true by decide), by decide⟩
  go_enter Try.func6, Try.ntmps6
  go_wp2_with fail
  refine hr.mono ?_
  rintro e w1 ⟨b, cap, rfl, hb, R, hcap⟩
  have c0 : w1.cell? ⟨b, 0, none⟩ = some (.int .i64 3) := R.2 0 (by omega)
  have c1 : w1.cell? ⟨b, 1, none⟩ = some (.int .i64 4) := R.2 1 (by omega)
  have c2 : w1.cell? ⟨b, 2, none⟩ = some (.int .i64 1) := R.2 2 (by omega)
  have c3 : w1.cell? ⟨b, 3, none⟩ = some (.int .i64 2) := R.2 3 (by omega)
  have hl := R.1
  have heq := eql_cell 3 4 1 2 3 4 1 2
  have hB := bvia (below_alloc w (.cells #[.int .i64 1, .int .i64 2, .int .i64 3, .int .i64 4] 39)) hcap.2
  go_wp2_with fail
  go_ret
  exact ⟨rfl, balloc hB _⟩
end Go.Proofs.Ythlbmlfkmfheiaa
