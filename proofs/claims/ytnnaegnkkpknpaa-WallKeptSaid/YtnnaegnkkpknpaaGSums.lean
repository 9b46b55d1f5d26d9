/- Walks: the program's grid.Mass and grid.Momentum. -/
import Derived.Test.YtnnaegnkkpknpaaWStepPlain
import Derived.Test.YtnnaegnkkpknpaaR3Valid
namespace Go.Proofs.Ytnnaegnkkpknpaa
open Go Go.RowKit
set_option linter.unusedVariables false
def gE (g : Nat → C4) (n : Nat) : Int := sumTo (fun i => (g i).e - (g i).w) n
def gN (g : Nat → C4) (n : Nat) : Int := sumTo (fun i => (g i).n - (g i).s) n
theorem gE_bd {g : Nat → C4} : ∀ {n : Nat}, (∀ i, i < n → validC (g i) = true) → -massTo g n ≤ gE g n ∧ gE g n ≤ massTo g n ∧ -massTo g n ≤ gN g n ∧ gN g n ≤ massTo g n
  | 0, _ => by simp [gE, gN, sumTo, massTo]
  | n + 1, h => by
    have ih := gE_bd (g := g) (n := n) (fun i hi => h i (by omega))
    have hv := (validC_iff _).1 (h n (by omega))
    simp only [gE, gN, sumTo, massTo, C4.mass] at *
    omega
set_option maxRecDepth 100000 in
set_option maxHeartbeats 2000000 in
theorem grid_sums (W H : Int) (a : Option Addr) (n ca : Nat) (g : Nat → C4) (w : World) (hn : n ≤ 100000) (S : Sc w a n g) (hv : okG n g) :
    Calls Try.prog 124 #[.agg #[.int .i64 W, .int .i64 H, .slice a n ca]] w fun e w' => e = .returned (.tuple #[.int .i64 (massTo g n), .int .i64 (gE g n), .int .i64 (gN g n)]) ∧ Below w.heap.size w w' := by
  have hbd := fun k (h : k ≤ n) => gE_bd (g := g) (n := k) (fun i hi => hv.1 i (by omega))
  have hm := fun k (h : k ≤ n) => massTo_mono g h hv.1
  have hm0 := fun k (h : k ≤ n) => massTo_nonneg g k (fun i hi => hv.1 i (by omega))
  have hM := hv.2
  have hcell := fun k (h : k < n) => (validC_iff _).1 (hv.1 k h)
  have hs1 := fun k => (show massTo g (k + 1) = massTo g k + ((g k).e + (g k).n + (g k).w + (g k).s) from rfl)
  have hs2 := fun k => (show gE g (k + 1) = gE g k + ((g k).e - (g k).w) from rfl)
  have hs3 := fun k => (show gN g (k + 1) = gN g k + ((g k).n - (g k).s) from rfl)
  have z1 : massTo g 0 = 0 := rfl
  have z2 : gE g 0 = 0 := rfl
  have z3 : gN g 0 = 0 := rfl
  generalize massTo g = MM at *
  generalize gE g = EE at *
  generalize gN g = NN at *
  have HB := hid hbd; have HM := hid hm; have HM0 := hid hm0; have HC := hid hcell; have H1 := hid hs1; have H2 := hid hs2; have H3 := hid hs3; have Z1 := hid z1; have Z2 := hid z2; have Z3 := hid z3
  clear hbd hm hm0 hcell hs1 hs2 hs3 z1 z2 z3 hv
  have X0 := Bx.new w #[.int .i64 W, .int .i64 H, .slice a n ca] 131
  have hB0 : Below w.heap.size w (w.alloc (.cells #[.int .i64 W, .int .i64 H, .slice a n ca] 131)) := by (repeat' (first | with_reducible assumption | with_reducible exact Below.refl _ _ | with_reducible refine Below.drew ?_ | with_reducible refine below_drewN ?_ _ | with_reducible refine balloc ?_ _ | with_reducible refine bset ?_ ?_ _ | with_reducible refine Below.setCell ?_ ?_ _ | with_reducible refine Below.alloc ?_ ?_ _ | omega | (simp; done) | (simp; omega)))
  go_enter Try.func124, Try.ntmps124
  go_wp2_with fail
  generalize (w.alloc (.cells #[.int .i64 W, .int .i64 H, .slice a n ca] 131)) = W0 at X0 hB0 ⊢
  have z0 := X0.lt
  have hB := hB0
  clear hB0
  go_loopw [2, 3, 4, 11] (fun s2 s3 s4 i wr => ∃ k : Nat, k ≤ n ∧ i = .int .i64 k ∧ s2 = .int .i64 (MM k) ∧ s3 = .int .i64 (EE k) ∧ s4 = .int .i64 (NN k) ∧ Below w.heap.size w wr) (fun _ _ _ i _ => n - (intOf i).toNat)
  case atStart => exact ⟨0, Nat.zero_le _, rfl, by rw [Z1.out], by rw [Z2.out], by rw [Z3.out], hB⟩
  case round =>
    clear hB X0 z0
    obtain ⟨k, hk, rfl, rfl, rfl, rfl, hB⟩ := hrel
    by_cases hlt : k < n
    · obtain ⟨bs, os, rfl, hbs, c0, c1, c2, c3⟩ := (S.below hB) k hlt
      obtain ⟨v1, v2, v3, v4, v5⟩ := HC.out k hlt
      obtain ⟨b1, b2, b3, b4⟩ := HB.out k (by omega)
      have b5 := HM0.out k (by omega)
      have b6 := HM.out (k + 1) (by omega)
      rw [H1.out k] at b6
      have e1 := H1.out k; have e2 := H2.out k; have e3 := H3.out k
      have HE1 := hid e1; have HE2 := hid e2; have HE3 := hid e3
      clear e1 e2 e3
      generalize MM k = mm at *
      generalize EE k = ee at *
      generalize NN k = nn at *
      generalize (g k).e = x0 at *
      generalize (g k).n = x1 at *
      generalize (g k).w = x2 at *
      generalize (g k).s = x3 at *
      go_wp2_with fail
      go_roundw
      case rel => exact ⟨k + 1, by omega, by go_num, by rw [HE1.out], by rw [HE2.out], by rw [HE3.out], by (repeat' (first | with_reducible assumption | with_reducible exact Below.refl _ _ | with_reducible refine Below.drew ?_ | with_reducible refine below_drewN ?_ _ | with_reducible refine balloc ?_ _ | with_reducible refine bset ?_ ?_ _ | with_reducible refine Below.setCell ?_ ?_ _ | with_reducible refine Below.alloc ?_ ?_ _ | omega | (simp; done) | (simp; omega)))⟩
      case measure => simp [intOf]; omega
    · obtain rfl : k = n := (by omega)
      go_wp2_with fail
      go_ret3
      exact ⟨rfl, hB⟩
def mR (v : Bool) (x : Int) : Int := if v then x else 0
set_option maxRecDepth 100000 in
set_option maxHeartbeats 1000000 in
theorem grid_Mass (W H : Int) (a : Option Addr) (n ca : Nat) (g : Nat → C4) (w : World) (hn : n ≤ 100000) (S : Sc w a n g) :
    Calls Try.prog 61 #[.agg #[.int .i64 W, .int .i64 H, .slice a n ca]] w fun e w' => e = .returned (.tuple #[.int .i64 (mR (validG W H n g) (massTo g n)), .int .i64 (errR (validG W H n g) 1)]) ∧ Below w.heap.size w w' := by
  have hval := fun W' S' => grid_valid W H a n ca g W' (by omega) S'
  cases hv : validG W H n g
  · skip
    rw [hv] at hval
    have X0 := Bx.new w #[.int .i64 W, .int .i64 H, .slice a n ca] 24
    have hB0 : Below w.heap.size w (w.alloc (.cells #[.int .i64 W, .int .i64 H, .slice a n ca] 24)) := by (repeat' (first | with_reducible assumption | with_reducible exact Below.refl _ _ | with_reducible refine Below.drew ?_ | with_reducible refine below_drewN ?_ _ | with_reducible refine balloc ?_ _ | with_reducible refine bset ?_ ?_ _ | with_reducible refine Below.setCell ?_ ?_ _ | with_reducible refine Below.alloc ?_ ?_ _ | omega | (simp; done) | (simp; omega)))
    go_enter Try.func61, Try.ntmps61
    go_wp2_with fail
    generalize (w.alloc (.cells #[.int .i64 W, .int .i64 H, .slice a n ca] 24)) = W0 at X0 hB0 ⊢
    have z0 := X0.lt
    refine (hval _ (S.below hB0)).mono ?_
    rintro e w1 ⟨rfl, hb1⟩
    go_wp2_with fail
    go_ret2
    exact ⟨rfl, bvia hB0 hb1⟩
  · have h := (validG_iff _ _ _ _).1 hv
    have hok : okG n g := ⟨h.2.2.2.2.2.2.1, h.2.2.2.2.2.2.2⟩
    have hsm := fun c W' S' => grid_sums W H a n c g W' (by omega) S' hok
    rw [hv] at hval
    have m1 : mR true (massTo g n) = massTo g n := rfl
    have m2 : mR true (gE g n) = gE g n := rfl
    have m3 : mR true (gN g n) = gN g n := rfl
    try rw [m1]
    try rw [m2, m3]
    clear m1 m2 m3 h hok
    have X0 := Bx.new w #[.int .i64 W, .int .i64 H, .slice a n ca] 24
    have hB0 : Below w.heap.size w (w.alloc (.cells #[.int .i64 W, .int .i64 H, .slice a n ca] 24)) := by (repeat' (first | with_reducible assumption | with_reducible exact Below.refl _ _ | with_reducible refine Below.drew ?_ | with_reducible refine below_drewN ?_ _ | with_reducible refine balloc ?_ _ | with_reducible refine bset ?_ ?_ _ | with_reducible refine Below.setCell ?_ ?_ _ | with_reducible refine Below.alloc ?_ ?_ _ | omega | (simp; done) | (simp; omega)))
    go_enter Try.func61, Try.ntmps61
    go_wp2_with fail
    generalize (w.alloc (.cells #[.int .i64 W, .int .i64 H, .slice a n ca] 24)) = W0 at X0 hB0 ⊢
    have z0 := X0.lt
    refine (hval _ (S.below hB0)).mono ?_
    rintro e w1 ⟨rfl, hb1⟩
    have hB := hB0
    clear hB0
    replace X0 := X0.below hb1
    replace hB := bvia hB hb1
    clear hb1
    have X0_0 := X0.at_ 0 rfl
    have X0_1 := X0.at_ 1 rfl
    have X0_2 := X0.at_ 2 rfl
    have X0z := X0.lt
    go_wp2_with fail
    refine (hsm _ _ (S.below hB)).mono ?_
    rintro e w2 ⟨rfl, hb2⟩
    go_wp2_with fail
    go_ret2
    exact ⟨rfl, bvia hB hb2⟩
set_option maxRecDepth 100000 in
set_option maxHeartbeats 1000000 in
theorem grid_Momentum (W H : Int) (a : Option Addr) (n ca : Nat) (g : Nat → C4) (w : World) (hn : n ≤ 100000) (S : Sc w a n g) :
    Calls Try.prog 62 #[.agg #[.int .i64 W, .int .i64 H, .slice a n ca]] w fun e w' => e = .returned (.tuple #[.int .i64 (mR (validG W H n g) (gE g n)), .int .i64 (mR (validG W H n g) (gN g n)), .int .i64 (errR (validG W H n g) 1)]) ∧ Below w.heap.size w w' := by
  have hval := fun W' S' => grid_valid W H a n ca g W' (by omega) S'
  cases hv : validG W H n g
  · skip
    rw [hv] at hval
    have X0 := Bx.new w #[.int .i64 W, .int .i64 H, .slice a n ca] 24
    have hB0 : Below w.heap.size w (w.alloc (.cells #[.int .i64 W, .int .i64 H, .slice a n ca] 24)) := by (repeat' (first | with_reducible assumption | with_reducible exact Below.refl _ _ | with_reducible refine Below.drew ?_ | with_reducible refine below_drewN ?_ _ | with_reducible refine balloc ?_ _ | with_reducible refine bset ?_ ?_ _ | with_reducible refine Below.setCell ?_ ?_ _ | with_reducible refine Below.alloc ?_ ?_ _ | omega | (simp; done) | (simp; omega)))
    go_enter Try.func62, Try.ntmps62
    go_wp2_with fail
    generalize (w.alloc (.cells #[.int .i64 W, .int .i64 H, .slice a n ca] 24)) = W0 at X0 hB0 ⊢
    have z0 := X0.lt
    refine (hval _ (S.below hB0)).mono ?_
    rintro e w1 ⟨rfl, hb1⟩
    go_wp2_with fail
    go_ret3
    exact ⟨rfl, bvia hB0 hb1⟩
  · have h := (validG_iff _ _ _ _).1 hv
    have hok : okG n g := ⟨h.2.2.2.2.2.2.1, h.2.2.2.2.2.2.2⟩
    have hsm := fun c W' S' => grid_sums W H a n c g W' (by omega) S' hok
    rw [hv] at hval
    have m1 : mR true (massTo g n) = massTo g n := rfl
    have m2 : mR true (gE g n) = gE g n := rfl
    have m3 : mR true (gN g n) = gN g n := rfl
    try rw [m1]
    try rw [m2, m3]
    clear m1 m2 m3 h hok
    have X0 := Bx.new w #[.int .i64 W, .int .i64 H, .slice a n ca] 24
    have hB0 : Below w.heap.size w (w.alloc (.cells #[.int .i64 W, .int .i64 H, .slice a n ca] 24)) := by (repeat' (first | with_reducible assumption | with_reducible exact Below.refl _ _ | with_reducible refine Below.drew ?_ | with_reducible refine below_drewN ?_ _ | with_reducible refine balloc ?_ _ | with_reducible refine bset ?_ ?_ _ | with_reducible refine Below.setCell ?_ ?_ _ | with_reducible refine Below.alloc ?_ ?_ _ | omega | (simp; done) | (simp; omega)))
    go_enter Try.func62, Try.ntmps62
    go_wp2_with fail
    generalize (w.alloc (.cells #[.int .i64 W, .int .i64 H, .slice a n ca] 24)) = W0 at X0 hB0 ⊢
    have z0 := X0.lt
    refine (hval _ (S.below hB0)).mono ?_
    rintro e w1 ⟨rfl, hb1⟩
    have hB := hB0
    clear hB0
    replace X0 := X0.below hb1
    replace hB := bvia hB hb1
    clear hb1
    have X0_0 := X0.at_ 0 rfl
    have X0_1 := X0.at_ 1 rfl
    have X0_2 := X0.at_ 2 rfl
    have X0z := X0.lt
    go_wp2_with fail
    refine (hsm _ _ (S.below hB)).mono ?_
    rintro e w2 ⟨rfl, hb2⟩
    go_wp2_with fail
    go_ret3
    exact ⟨rfl, bvia hB hb2⟩
end Go.Proofs.Ytnnaegnkkpknpaa
