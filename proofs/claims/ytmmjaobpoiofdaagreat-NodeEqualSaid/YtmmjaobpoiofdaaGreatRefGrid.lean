/- Walks: a grid in new memory, streaming, of the reference. -/
import Derived.Test.YtmmjaobpoiofdaaGreatRefCell
import Derived.Test.YtmmjaobpoiofdaaGreatCRow
import Derived.Test.YtmmjaobpoiofdaaGreatFrom
import Derived.Test.YtmmjaobpoiofdaaGreatSameG
namespace Go.Proofs.YtmmjaobpoiofdaaGreat
open Go Go.RowKit
set_option linter.unusedVariables false
/-- a grid with a row of cells of its own -/
def GridRow (W H n : Nat) (g : Nat → C4) (w : World) (e : Ending) (w' : World) : Prop :=
  ∃ b cap, e = .returned (.agg #[.int .i64 (W : Int), .int .i64 (H : Int), .slice (some ⟨b, 0, none⟩) n cap]) ∧ w.heap.size ≤ b ∧ Ro w' b (n * 4) (flatC g) ∧ n ≤ cap ∧ Below w.heap.size w w'
theorem Sc.get {w : World} {a : Option Addr} {n k d : Nat} {g : Nat → C4} (h : Sc w a n g) (hk : k < n) (hd : d < 4) : ∃ b off, a = some ⟨b, off, none⟩ ∧ b < w.heap.size ∧ w.cell? ⟨b, off + k * 4 + d, none⟩ = some (.int .i64 ((g k).get d)) := by
  obtain ⟨b, off, e, hb, c0, c1, c2, c3⟩ := h k hk
  refine ⟨b, off, e, hb, ?_⟩
  rcases (by omega : d = 0 ∨ d = 1 ∨ d = 2 ∨ d = 3) with rfl | rfl | rfl | rfl
  · exact c0
  · exact c1
  · exact c2
  · exact c3
set_option maxRecDepth 100000 in
set_option maxHeartbeats 1000000 in
theorem ref2_Copy (W H : Nat) (a : Option Addr) (n ca : Nat) (g : Nat → C4) (w : World) (hn : n ≤ 100000) (h0 : 0 < n) (S : Sc w a n g) : Calls Tryz.prog 110 #[.agg #[.int .i64 (W : Int), .int .i64 (H : Int), .slice a n ca]] w (GridRow W H n g w) := by
  obtain ⟨i0, hi, hz0, hz1, hz2⟩ := info_parts infoC
  obtain ⟨b, o, rfl, hlt, _⟩ := S 0 h0
  have hb0 : Below w.heap.size w ((w.alloc (.cells #[.int .i64 (W : Int), .int .i64 (H : Int), .slice (some ⟨b, o, none⟩) n ca] 24)).alloc (.cells #[.int .i64 0, .int .i64 0, .slice none 0 0] 24)) := by (repeat' (first | with_reducible assumption | with_reducible exact Below.refl _ _ | with_reducible refine Below.drew ?_ | with_reducible refine below_drewN ?_ _ | with_reducible refine balloc ?_ _ | with_reducible refine bset ?_ ?_ _ | with_reducible refine Below.setCell ?_ ?_ _ | with_reducible refine Below.alloc ?_ ?_ _ | omega | (simp; done) | (simp; omega)))
  have X0 := (Bx.new w #[.int .i64 (W : Int), .int .i64 (H : Int), .slice (some ⟨b, o, none⟩) n ca] 24).alloc (.cells #[.int .i64 0, .int .i64 0, .slice none 0 0] 24)
  have X1 := Bx.new (w.alloc (.cells #[.int .i64 (W : Int), .int .i64 (H : Int), .slice (some ⟨b, o, none⟩) n ca] 24)) #[.int .i64 0, .int .i64 0, .slice none 0 0] 24
  simp only [World.size_alloc] at X1
  go_enter Tryz.func110, Tryz.ntmps110
  go_upto_region 1 with (fail)
  generalize (w.alloc (.cells #[.int .i64 (W : Int), .int .i64 (H : Int), .slice (some ⟨b, o, none⟩) n ca] 24)).alloc (.cells #[.int .i64 0, .int .i64 0, .slice none 0 0] 24) = W0 at *
  have SW := (S.below hb0).alloc (.cells #[] 80)
  have x00 := X0.at_ 0 rfl; have x01 := X0.at_ 1 rfl; have x02 := X0.at_ 2 rfl; have z0 := X0.lt; have z1 := X1.lt
  have hB := balloc hb0 (.cells #[] 80)
  clear hb0
  replace X0 := X0.alloc (.cells #[] 80)
  replace X1 := X1.alloc (.cells #[] 80)
  go_wp2_with (at_builtin; refine wpList_appC rfl _ _ rfl ⟨W0.heap.size, 0, none⟩ rfl (some ⟨b, o, none⟩) n ca g rfl h0 hn SW ?_; intro g' cap w1 hg' R hcap hcm hb1; simp only [World.size_alloc] at hg'; replace hB := bvia hB hb1; have Y0 := X0.below hb1; have Y1 := X1.below hb1; have y02 := Y0.at_ 2 rfl; have y00 := Y0.at_ 0 rfl; have y01 := Y0.at_ 1 rfl; have y0f := Y0.free; have y1f := Y1.free; have y10 := Y1.at_ 0 rfl; have y11 := Y1.at_ 1 rfl; have y12 := Y1.at_ 2 rfl; have l0 := Y0.lt; have l1 := Y1.lt)
  refine bodyPost_ret (v := .agg #[.int .i64 (W : Int), .int .i64 (H : Int), .slice (some ⟨g', 0, none⟩) n cap]) (by simp [results, Tryz.results110, go_sem, y10, y11, y12]) rfl ⟨g', cap, rfl, by omega, by (repeat' (first | with_reducible assumption | with_reducible refine Ro.drew ?_ | with_reducible refine Ro.drewN ?_ _ | with_reducible refine Ro.alloc ?_ _ | with_reducible refine Ro.far ?_ ?_ _ | (show _ ≠ _; dsimp only; omega))), hcap, by (repeat' (first | with_reducible assumption | with_reducible exact Below.refl _ _ | with_reducible refine Below.drew ?_ | with_reducible refine below_drewN ?_ _ | with_reducible refine balloc ?_ _ | with_reducible refine bset ?_ ?_ _ | with_reducible refine Below.setCell ?_ ?_ _ | with_reducible refine Below.alloc ?_ ?_ _ | omega | (simp; done) | (simp; omega)))⟩
set_option maxRecDepth 100000 in
set_option maxHeartbeats 1000000 in
theorem ref2_blank (W H : Nat) (w : World) (hn : W * H ≤ 100000) (hW : W ≤ 64) (hH : H ≤ 64) : Calls Tryz.prog 185 #[.int .i64 (W : Int), .int .i64 (H : Int)] w (GridRow W H (W * H) (fun _ => C4.zero) w) := by
  have hP : (W : Int) * (H : Int) = ((W * H : Nat) : Int) := by simp
  generalize W * H = n at *
  have hmk := fun W' => mk_cells n (n : Int) rfl (by omega) W'
  have R := fun b => roC_made (w.alloc (.cells #[.int .i64 (W : Int), .int .i64 (H : Int), .slice (some ⟨b, 0, none⟩) n n] 24)) n
  simp only [World.size_alloc] at R
  go_enter Tryz.func185, Tryz.ntmps185
  go_wp2
  refine bodyPost_ret (v := .agg #[.int .i64 (W : Int), .int .i64 (H : Int), .slice (some ⟨w.heap.size + 1, 0, none⟩) n n]) (by simp [results, Tryz.results185, go_sem]) rfl ⟨w.heap.size + 1, n, rfl, by omega, R _, Nat.le_refl _, by (repeat' (first | with_reducible assumption | with_reducible exact Below.refl _ _ | with_reducible refine Below.drew ?_ | with_reducible refine below_drewN ?_ _ | with_reducible refine balloc ?_ _ | with_reducible refine bset ?_ ?_ _ | with_reducible refine Below.setCell ?_ ?_ _ | with_reducible refine Below.alloc ?_ ?_ _ | omega | (simp; done) | (simp; omega)))⟩
theorem flat_zero : flatC (fun _ => C4.zero) = fun _ => 0 := by
  funext k
  have hm : k % 4 < 4 := Nat.mod_lt _ (by omega)
  simp only [flatC, C4.zero]
  rcases (by omega : k % 4 = 0 ∨ k % 4 = 1 ∨ k % 4 = 2 ∨ k % 4 = 3) with h | h | h | h <;> simp [h, C4.get]
/-- the way in which particles are pulled, and what they give -/
def pulD (bk : Bool) (d : Nat) : Nat := if bk then (d + 2) % 4 else d
def pulG (bk : Bool) (W H : Nat) (g : Nat → C4) : Nat → C4 := if bk then ebb W H g else flow W H g
theorem pulG_get (bk : Bool) (W H : Nat) (g : Nat → C4) (i d : Nat) (hd : d < 4) : (pulG bk W H g i).get d = (g (nbT W H i (pulD bk d))).get d := by
  cases bk <;> rcases (by omega : d = 0 ∨ d = 1 ∨ d = 2 ∨ d = 3) with rfl | rfl | rfl | rfl <;> rfl
set_option maxRecDepth 100000 in
set_option maxHeartbeats 4000000 in
theorem ref2_pulled (bk : Bool) (W H : Nat) (a : Option Addr) (ca : Nat) (g : Nat → C4) (w : World) (h1 : 1 ≤ W ∧ W ≤ 64) (h2 : 1 ≤ H ∧ H ≤ 64) (S : Sc w a (W * H) g) :
    Calls Tryz.prog 168 #[.agg #[.int .i64 (W : Int), .int .i64 (H : Int), .slice a (W * H) ca], .bool bk] w (GridRow W H (W * H) (pulG bk W H g) w) := by
  have hWH : W * H ≤ 4096 := Nat.mul_le_mul h1.2 h2.2
  have hnb := fun i d (h : i < W * H) (hd : d < 4) => nbT_lt (d := d) h hd
  have hfrom := fun i d W' (h : i < W * H) (hd : d < 4) => ref2_From W H i d W' h1 h2 h hd
  have hblank := fun W' => ref2_blank W H W' (by omega) h1.2 h2.2
  have hpg := pulG_get bk W H g
  obtain ⟨u1, u2⟩ := h1; obtain ⟨u3, u4⟩ := h2
  have hn0 : 0 < W * H := Nat.mul_pos (by omega) (by omega)
  generalize pulG bk W H g = G at *
  generalize hn : W * H = n at *
  clear hn
  have HP := hid hpg; have HNB := hid hnb; have HF := hid hfrom
  clear hpg hnb hfrom
  have X0 := (Bx.new w #[.int .i64 (W : Int), .int .i64 (H : Int), .slice a n ca] 24).alloc (.cells #[.int .i64 0, .int .i64 0, .slice none 0 0] 24)
  have X1 := Bx.new (w.alloc (.cells #[.int .i64 (W : Int), .int .i64 (H : Int), .slice a n ca] 24)) #[.int .i64 0, .int .i64 0, .slice none 0 0] 24
  simp only [World.size_alloc] at X1
  have hB0 : Below w.heap.size w ((w.alloc (.cells #[.int .i64 (W : Int), .int .i64 (H : Int), .slice a n ca] 24)).alloc (.cells #[.int .i64 0, .int .i64 0, .slice none 0 0] 24)) := by (repeat' (first | with_reducible assumption | with_reducible exact Below.refl _ _ | with_reducible refine Below.drew ?_ | with_reducible refine below_drewN ?_ _ | with_reducible refine balloc ?_ _ | with_reducible refine bset ?_ ?_ _ | with_reducible refine Below.setCell ?_ ?_ _ | with_reducible refine Below.alloc ?_ ?_ _ | omega | (simp; done) | (simp; omega)))
  go_enter Tryz.func168, Tryz.ntmps168
  go_wp2_with fail
  generalize ((w.alloc (.cells #[.int .i64 (W : Int), .int .i64 (H : Int), .slice a n ca] 24)).alloc (.cells #[.int .i64 0, .int .i64 0, .slice none 0 0] 24)) = W0 at X0 X1 hB0 ⊢
  have z0 := X0.lt
  have z1 := X1.lt
  refine (hblank _).mono ?_
  rintro e w1 ⟨b, cap, rfl, hb, R, hcap, hb1⟩
  have hB := hB0
  clear hB0
  have hb1' := hb1.size
  replace X0 := X0.below hb1
  replace X1 := X1.below hb1
  replace hB := bvia hB hb1
  clear hb1
  replace X0 := X0.alloc (.cells #[.int .i64 (W : Int), .int .i64 (H : Int), .slice (some ⟨b, 0, none⟩) n cap] 24)
  replace X1 := X1.alloc (.cells #[.int .i64 (W : Int), .int .i64 (H : Int), .slice (some ⟨b, 0, none⟩) n cap] 24)
  have X2 := Bx.new w1 #[.int .i64 (W : Int), .int .i64 (H : Int), .slice (some ⟨b, 0, none⟩) n cap] 24
  replace hB := balloc hB (.cells #[.int .i64 (W : Int), .int .i64 (H : Int), .slice (some ⟨b, 0, none⟩) n cap] 24)
  have R2 := R.alloc (.cells #[.int .i64 (W : Int), .int .i64 (H : Int), .slice (some ⟨b, 0, none⟩) n cap] 24)
  have hlb := R.lt
  go_wp2_with fail
  have hz1 : w.heap.size + 1 < w1.heap.size := by have := hb1'; omega
  generalize w1.alloc (.cells #[.int .i64 (W : Int), .int .i64 (H : Int), .slice (some ⟨b, 0, none⟩) n cap] 24) = W1 at *
  rw [flat_zero, ← rowTo_zero (flatC G)] at R2
  have hbw : w.heap.size + 1 + 1 ≤ b := by omega
  clear R z0 z1 hblank
  go_loopw [6] (fun s6 wr => ∃ i : Nat, i ≤ n ∧ s6 = .int .i64 i ∧ Bx wr w.heap.size #[.int .i64 (W : Int), .int .i64 (H : Int), .slice a n ca] ∧ Bx wr (w.heap.size + 1) #[.int .i64 0, .int .i64 0, .slice none 0 0] ∧ Bx wr w1.heap.size #[.int .i64 (W : Int), .int .i64 (H : Int), .slice (some ⟨b, 0, none⟩) n cap] ∧ Ro wr b (n * 4) (rowTo (flatC G) (i * 4)) ∧ Below w.heap.size w wr) (fun s6 _ => n - (intOf s6).toNat)
  case atStart => exact ⟨0, Nat.zero_le _, rfl, X0, X1, X2, R2, hB⟩
  case round =>
    clear X0 X1 X2 R2 hB
    obtain ⟨i, hi, rfl, X0, X1, X2, R, hB⟩ := hrel
    have X0_0 := X0.at_ 0 rfl
    have X0_1 := X0.at_ 1 rfl
    have X0_2 := X0.at_ 2 rfl
    have X2_2 := X2.at_ 2 rfl
    have l0 := X0.lt; have l1 := X1.lt; have l2 := X2.lt
    by_cases hlt : i < n
    · obtain ⟨wo, rfl⟩ : ∃ wo : World, wo = wr := ⟨_, rfl⟩
      go_wp2_with fail
      go_loopw [7] (fun s7 wr => ∃ d : Nat, d ≤ 4 ∧ s7 = .int .i64 d ∧ Bx wr w.heap.size #[.int .i64 (W : Int), .int .i64 (H : Int), .slice a n ca] ∧ Bx wr (w.heap.size + 1) #[.int .i64 0, .int .i64 0, .slice none 0 0] ∧ Bx wr w1.heap.size #[.int .i64 (W : Int), .int .i64 (H : Int), .slice (some ⟨b, 0, none⟩) n cap] ∧ Ro wr b (n * 4) (rowTo (flatC G) (i * 4 + d)) ∧ Below w.heap.size w wr) (fun s7 _ => 4 - (intOf s7).toNat)
      case atStart => exact ⟨0, by omega, rfl, X0, X1, X2, R, hB⟩
      case round =>
        clear X0_0 X0_1 X0_2 X2_2 X0 X1 X2 R hB l0 l1 l2
        obtain ⟨d, hd, rfl, X0, X1, X2, R, hB⟩ := hrel
        have X0_0 := X0.at_ 0 rfl; have X0_1 := X0.at_ 1 rfl; have X0_2 := X0.at_ 2 rfl; have X2_2 := X2.at_ 2 rfl
        have l0 := X0.lt; have l1 := X1.lt; have l2 := X2.lt
        by_cases hd4 : d < 4
        · cases bk
          · have hgd : (G i).get d = (g (nbT W H i d)).get d := HP.out i d hd4
            go_upto_region 11 with (fail)
            have hjn : nbT W H i d < n := HNB.out i d hlt (by omega)
            have hfr := fun W' => HF.out i d W' hlt (by omega)
            generalize nbT W H i d = j at *
            obtain ⟨bs, os, rfl, hbs, cs0⟩ := S.get hjn hd4
            have cb := R.2 (i * 4 + d) (by omega)
            have fb := R.free; have lb := R.lt
            have r0 : ∀ X, But (fun q => q = b) wr X → X.cell? ⟨w.heap.size, 0, none⟩ = some (.int .i64 (W : Int)) := fun X h => (X0.but h (by omega)).at_ 0 rfl
            have r1 : ∀ X, But (fun q => q = b) wr X → X.cell? ⟨w.heap.size, 1, none⟩ = some (.int .i64 (H : Int)) := fun X h => (X0.but h (by omega)).at_ 1 rfl
            have r2 : ∀ X, But (fun q => q = b) wr X → X.cell? ⟨w.heap.size, 2, none⟩ = some (.slice (some ⟨bs, os, none⟩) n ca) := fun X h => (X0.but h (by omega)).at_ 2 rfl
            have r3 : ∀ X, But (fun q => q = b) wr X → X.cell? ⟨w1.heap.size, 2, none⟩ = some (.slice (some ⟨b, 0, none⟩) n cap) := fun X h => (X2.but h (by omega)).at_ 2 rfl
            have r4 : ∀ X, But (fun q => q = b) wr X → X.cell? ⟨bs, os + j * 4 + d, none⟩ = some (.int .i64 ((g j).get d)) := fun X h => by
              have e := h.block bs (by omega) (by omega)
              rw [World.cell?_of_block (w := wr) (a := ⟨bs, os + j * 4 + d, none⟩) e]
              exact (bcell hB _ _ hbs).trans cs0
            have HG := hid hgd
            clear hgd
            generalize (g j).get d = v at *
            generalize rowTo (flatC G) (i * 4 + d) (i * 4 + d) = u at *
            clear X0_0 X0_1 X0_2 X2_2 cs0
            go_region_held3 (fun X => But (fun q => q = b) wr X) ((repeat' (first | with_reducible assumption | with_reducible exact But.refl _ _ | with_reducible refine But.drew ?_ | with_reducible refine But.drewN ?_ _ | refine But.set_ ?_ (by dsimp only) _ | with_reducible refine But.alloc ?_ _)))
              ((first | (go_at_call 88; refine (hfr _).mono ?_; rintro e w2 ⟨rfl, hb2⟩; have hC2 : But (fun q => q = b) wr w2 := But.trans (by (repeat' (first | with_reducible assumption | with_reducible exact But.refl _ _ | with_reducible refine But.drew ?_ | with_reducible refine But.drewN ?_ _))) (but_below hb2 (Nat.le_refl _)); have R2 : Ro w2 b (n * 4) (rowTo (flatC G) (i * 4 + d)) := Ro.below (by (repeat' (first | with_reducible assumption | with_reducible refine Ro.drew ?_ | with_reducible refine Ro.drewN ?_ _ | with_reducible refine Ro.alloc ?_ _ | with_reducible refine Ro.far ?_ ?_ _ | (show _ ≠ _; dsimp only; omega)))) hb2; have hB2 := bvia (w := w) (w1 := w2) (by (repeat' (first | with_reducible assumption | with_reducible exact Below.refl _ _ | with_reducible refine Below.drew ?_ | with_reducible refine below_drewN ?_ _ | with_reducible refine balloc ?_ _ | with_reducible refine bset ?_ ?_ _ | with_reducible refine Below.setCell ?_ ?_ _ | with_reducible refine Below.alloc ?_ ?_ _ | omega | (simp; done) | (simp; omega)))) hb2; have Y0 := Bx.below (by (repeat' (first | with_reducible assumption | (with_reducible refine Bx.newE ?_ _ _; (simp; done)) | with_reducible refine Bx.alloc ?_ _ | with_reducible refine Bx.drew ?_ | with_reducible refine Bx.drewN ?_ _ | with_reducible refine Bx.four ?_ | (with_reducible refine Bx.far2 ?_ ?_ _; (dsimp only; omega)))) : Bx _ w.heap.size #[.int .i64 (W : Int), .int .i64 (H : Int), .slice (some ⟨bs, os, none⟩) n ca]) hb2; have Y1 := Bx.below (by (repeat' (first | with_reducible assumption | (with_reducible refine Bx.newE ?_ _ _; (simp; done)) | with_reducible refine Bx.alloc ?_ _ | with_reducible refine Bx.drew ?_ | with_reducible refine Bx.drewN ?_ _ | with_reducible refine Bx.four ?_ | (with_reducible refine Bx.far2 ?_ ?_ _; (dsimp only; omega)))) : Bx _ (w.heap.size + 1) #[.int .i64 0, .int .i64 0, .slice none 0 0]) hb2; have Y2 := Bx.below (by (repeat' (first | with_reducible assumption | (with_reducible refine Bx.newE ?_ _ _; (simp; done)) | with_reducible refine Bx.alloc ?_ _ | with_reducible refine Bx.drew ?_ | with_reducible refine Bx.drewN ?_ _ | with_reducible refine Bx.four ?_ | (with_reducible refine Bx.far2 ?_ ?_ _; (dsimp only; omega)))) : Bx _ w1.heap.size #[.int .i64 (W : Int), .int .i64 (H : Int), .slice (some ⟨b, 0, none⟩) n cap]) hb2; have cb2 := R2.2 (i * 4 + d) (by omega); have fb2 := R2.free; have lb2 := R2.lt) | fail))
            all_goals
              go_wp2_with fail
              go_roundw
              case rel => exact ⟨d + 1, by omega, by go_num, by (repeat' (first | with_reducible assumption | (with_reducible refine Bx.newE ?_ _ _; (simp; done)) | with_reducible refine Bx.alloc ?_ _ | with_reducible refine Bx.drew ?_ | with_reducible refine Bx.drewN ?_ _ | with_reducible refine Bx.four ?_ | (with_reducible refine Bx.far2 ?_ ?_ _; (dsimp only; omega)))), by (repeat' (first | with_reducible assumption | (with_reducible refine Bx.newE ?_ _ _; (simp; done)) | with_reducible refine Bx.alloc ?_ _ | with_reducible refine Bx.drew ?_ | with_reducible refine Bx.drewN ?_ _ | with_reducible refine Bx.four ?_ | (with_reducible refine Bx.far2 ?_ ?_ _; (dsimp only; omega)))), by (repeat' (first | with_reducible assumption | (with_reducible refine Bx.newE ?_ _ _; (simp; done)) | with_reducible refine Bx.alloc ?_ _ | with_reducible refine Bx.drew ?_ | with_reducible refine Bx.drewN ?_ _ | with_reducible refine Bx.four ?_ | (with_reducible refine Bx.far2 ?_ ?_ _; (dsimp only; omega)))), by rw [← Nat.add_assoc, rowTo_succ, flatC_at _ _ _ hd4, HG.out]; exact R2.set_ _ _, by have hB := hB2; (repeat' (first | with_reducible assumption | with_reducible exact Below.refl _ _ | with_reducible refine Below.drew ?_ | with_reducible refine below_drewN ?_ _ | with_reducible refine balloc ?_ _ | with_reducible refine bset ?_ ?_ _ | with_reducible refine Below.setCell ?_ ?_ _ | with_reducible refine Below.alloc ?_ ?_ _ | omega | (simp; done) | (simp; omega)))⟩
              case measure => simp [intOf]; omega
          · have hgd : (G i).get d = (g (nbT W H i ((d + 2) % 4))).get d := HP.out i d hd4
            have hop := fun W' => ref2_opposite (d : Int) (by omega) (by omega) W'
            rw [show (((d : Int) + 2) % 4) = ((((d + 2) % 4 : Nat)) : Int) from by simp] at hop
            have he4 : (d + 2) % 4 < 4 := Nat.mod_lt _ (by omega)
            generalize (d + 2) % 4 = dd at *
            go_wp2_with fail
            refine (hop _).mono ?_
            rintro e w' ⟨rfl, rfl⟩
            dsimp only
            go_wp2_with fail
            have hjn : nbT W H i dd < n := HNB.out i dd hlt (by omega)
            have hfr := fun W' => HF.out i dd W' hlt (by omega)
            generalize nbT W H i dd = j at *
            obtain ⟨bs, os, rfl, hbs, cs0⟩ := S.get hjn hd4
            have cb := R.2 (i * 4 + d) (by omega)
            have fb := R.free; have lb := R.lt
            have r0 : ∀ X, But (fun q => q = b) wr X → X.cell? ⟨w.heap.size, 0, none⟩ = some (.int .i64 (W : Int)) := fun X h => (X0.but h (by omega)).at_ 0 rfl
            have r1 : ∀ X, But (fun q => q = b) wr X → X.cell? ⟨w.heap.size, 1, none⟩ = some (.int .i64 (H : Int)) := fun X h => (X0.but h (by omega)).at_ 1 rfl
            have r2 : ∀ X, But (fun q => q = b) wr X → X.cell? ⟨w.heap.size, 2, none⟩ = some (.slice (some ⟨bs, os, none⟩) n ca) := fun X h => (X0.but h (by omega)).at_ 2 rfl
            have r3 : ∀ X, But (fun q => q = b) wr X → X.cell? ⟨w1.heap.size, 2, none⟩ = some (.slice (some ⟨b, 0, none⟩) n cap) := fun X h => (X2.but h (by omega)).at_ 2 rfl
            have r4 : ∀ X, But (fun q => q = b) wr X → X.cell? ⟨bs, os + j * 4 + d, none⟩ = some (.int .i64 ((g j).get d)) := fun X h => by
              have e := h.block bs (by omega) (by omega)
              rw [World.cell?_of_block (w := wr) (a := ⟨bs, os + j * 4 + d, none⟩) e]
              exact (bcell hB _ _ hbs).trans cs0
            have HG := hid hgd
            clear hgd
            generalize (g j).get d = v at *
            generalize rowTo (flatC G) (i * 4 + d) (i * 4 + d) = u at *
            clear X0_0 X0_1 X0_2 X2_2 cs0
            go_region_held3 (fun X => But (fun q => q = b) wr X) ((repeat' (first | with_reducible assumption | with_reducible exact But.refl _ _ | with_reducible refine But.drew ?_ | with_reducible refine But.drewN ?_ _ | refine But.set_ ?_ (by dsimp only) _ | with_reducible refine But.alloc ?_ _)))
              ((first | (go_at_call 88; refine (hfr _).mono ?_; rintro e w2 ⟨rfl, hb2⟩; have hC2 : But (fun q => q = b) wr w2 := But.trans (by (repeat' (first | with_reducible assumption | with_reducible exact But.refl _ _ | with_reducible refine But.drew ?_ | with_reducible refine But.drewN ?_ _))) (but_below hb2 (Nat.le_refl _)); have R2 : Ro w2 b (n * 4) (rowTo (flatC G) (i * 4 + d)) := Ro.below (by (repeat' (first | with_reducible assumption | with_reducible refine Ro.drew ?_ | with_reducible refine Ro.drewN ?_ _ | with_reducible refine Ro.alloc ?_ _ | with_reducible refine Ro.far ?_ ?_ _ | (show _ ≠ _; dsimp only; omega)))) hb2; have hB2 := bvia (w := w) (w1 := w2) (by (repeat' (first | with_reducible assumption | with_reducible exact Below.refl _ _ | with_reducible refine Below.drew ?_ | with_reducible refine below_drewN ?_ _ | with_reducible refine balloc ?_ _ | with_reducible refine bset ?_ ?_ _ | with_reducible refine Below.setCell ?_ ?_ _ | with_reducible refine Below.alloc ?_ ?_ _ | omega | (simp; done) | (simp; omega)))) hb2; have Y0 := Bx.below (by (repeat' (first | with_reducible assumption | (with_reducible refine Bx.newE ?_ _ _; (simp; done)) | with_reducible refine Bx.alloc ?_ _ | with_reducible refine Bx.drew ?_ | with_reducible refine Bx.drewN ?_ _ | with_reducible refine Bx.four ?_ | (with_reducible refine Bx.far2 ?_ ?_ _; (dsimp only; omega)))) : Bx _ w.heap.size #[.int .i64 (W : Int), .int .i64 (H : Int), .slice (some ⟨bs, os, none⟩) n ca]) hb2; have Y1 := Bx.below (by (repeat' (first | with_reducible assumption | (with_reducible refine Bx.newE ?_ _ _; (simp; done)) | with_reducible refine Bx.alloc ?_ _ | with_reducible refine Bx.drew ?_ | with_reducible refine Bx.drewN ?_ _ | with_reducible refine Bx.four ?_ | (with_reducible refine Bx.far2 ?_ ?_ _; (dsimp only; omega)))) : Bx _ (w.heap.size + 1) #[.int .i64 0, .int .i64 0, .slice none 0 0]) hb2; have Y2 := Bx.below (by (repeat' (first | with_reducible assumption | (with_reducible refine Bx.newE ?_ _ _; (simp; done)) | with_reducible refine Bx.alloc ?_ _ | with_reducible refine Bx.drew ?_ | with_reducible refine Bx.drewN ?_ _ | with_reducible refine Bx.four ?_ | (with_reducible refine Bx.far2 ?_ ?_ _; (dsimp only; omega)))) : Bx _ w1.heap.size #[.int .i64 (W : Int), .int .i64 (H : Int), .slice (some ⟨b, 0, none⟩) n cap]) hb2; have cb2 := R2.2 (i * 4 + d) (by omega); have fb2 := R2.free; have lb2 := R2.lt) | fail))
            all_goals
              go_wp2_with fail
              go_roundw
              case rel => exact ⟨d + 1, by omega, by go_num, by (repeat' (first | with_reducible assumption | (with_reducible refine Bx.newE ?_ _ _; (simp; done)) | with_reducible refine Bx.alloc ?_ _ | with_reducible refine Bx.drew ?_ | with_reducible refine Bx.drewN ?_ _ | with_reducible refine Bx.four ?_ | (with_reducible refine Bx.far2 ?_ ?_ _; (dsimp only; omega)))), by (repeat' (first | with_reducible assumption | (with_reducible refine Bx.newE ?_ _ _; (simp; done)) | with_reducible refine Bx.alloc ?_ _ | with_reducible refine Bx.drew ?_ | with_reducible refine Bx.drewN ?_ _ | with_reducible refine Bx.four ?_ | (with_reducible refine Bx.far2 ?_ ?_ _; (dsimp only; omega)))), by (repeat' (first | with_reducible assumption | (with_reducible refine Bx.newE ?_ _ _; (simp; done)) | with_reducible refine Bx.alloc ?_ _ | with_reducible refine Bx.drew ?_ | with_reducible refine Bx.drewN ?_ _ | with_reducible refine Bx.four ?_ | (with_reducible refine Bx.far2 ?_ ?_ _; (dsimp only; omega)))), by rw [← Nat.add_assoc, rowTo_succ, flatC_at _ _ _ hd4, HG.out]; exact R2.set_ _ _, by have hB := hB2; (repeat' (first | with_reducible assumption | with_reducible exact Below.refl _ _ | with_reducible refine Below.drew ?_ | with_reducible refine below_drewN ?_ _ | with_reducible refine balloc ?_ _ | with_reducible refine bset ?_ ?_ _ | with_reducible refine Below.setCell ?_ ?_ _ | with_reducible refine Below.alloc ?_ ?_ _ | omega | (simp; done) | (simp; omega)))⟩
              case measure => simp [intOf]; omega
        · obtain rfl : d = 4 := (by omega)
          go_wp2_with fail
          go_roundw
          case rel => exact ⟨i + 1, by omega, by go_num, X0, X1, X2, by rw [show (i + 1) * 4 = i * 4 + 4 from by omega]; exact R, hB⟩
          case measure => simp [intOf]; omega
    · obtain rfl : i = n := (by omega)
      have HR := hid (R.congr (fun j hj => by simp [rowTo, hj] : ∀ j, j < i * 4 → rowTo (flatC G) (i * 4) j = flatC G j))
      have y10 := X1.at_ 0 rfl; have y11 := X1.at_ 1 rfl; have y12 := X1.at_ 2 rfl; have y1f := X1.free
      have X2_0 := X2.at_ 0 rfl; have X2_1 := X2.at_ 1 rfl
      clear R
      go_wp2_with fail
      refine bodyPost_ret (v := .agg #[.int .i64 (W : Int), .int .i64 (H : Int), .slice (some ⟨b, 0, none⟩) i cap]) (by simp [results, Tryz.results168, go_sem, y10, y11, y12]) rfl ⟨b, cap, rfl, by omega, ?_, hcap, by (repeat' (first | with_reducible assumption | with_reducible exact Below.refl _ _ | with_reducible refine Below.drew ?_ | with_reducible refine below_drewN ?_ _ | with_reducible refine balloc ?_ _ | with_reducible refine bset ?_ ?_ _ | with_reducible refine Below.setCell ?_ ?_ _ | with_reducible refine Below.alloc ?_ ?_ _ | omega | (simp; done) | (simp; omega)))⟩
      have R := HR.out
      (repeat' (first | with_reducible assumption | with_reducible refine Ro.drew ?_ | with_reducible refine Ro.drewN ?_ _ | with_reducible refine Ro.alloc ?_ _ | with_reducible refine Ro.far ?_ ?_ _ | (show _ ≠ _; dsimp only; omega)))
end Go.Proofs.YtmmjaobpoiofdaaGreat
