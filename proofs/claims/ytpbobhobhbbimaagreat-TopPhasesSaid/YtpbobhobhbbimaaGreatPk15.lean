/- Walks: the three deeds of a step of two phases, and what makes them. -/
import Derived.Test.YtpbobhobhbbimaaGreatPk14
import Derived.Test.YtpbobhobhbbimaaGreatPk13
import Derived.Test.YtpbobhobhbbimaaGreatPk12
import Derived.LoopIn
import Derived.Sort.CutIn
import Derived.LoopNIn
import Derived.TacticsInMore
import Derived.Shelf.Abstract
import Derived.Laws.EntriesVeiled
namespace Go.Proofs.YtpbobhobhbbimaaGreat
open Go Go.RowKit
set_option linter.unusedVariables false
set_option maxRecDepth 100000 in
set_option maxHeartbeats 4000000 in
theorem deed_1 (a b : C4) (k rb : Int) (bc br : Nat) (w : World) (XC : Bx w bc #[.func (.func 48) #[] #[]]) (XR : Bx w br #[.int .i64 k, .int .i64 rb]) (ha : validC a = true) (hb : validC b = true) (hru : ruleOk k rb) :
    Calls Tryz.prog 69 #[.agg #[.int .i64 a.e, .int .i64 a.n, .int .i64 a.w, .int .i64 a.s, .int .i64 b.e, .int .i64 b.n, .int .i64 b.w, .int .i64 b.s], .pointer (some ⟨bc, 0, none⟩), .pointer (some ⟨br, 0, none⟩)] w fun e w' => e = .returned (.agg #[.int .i64 (coll k rb a).e, .int .i64 (coll k rb a).n, .int .i64 (coll k rb a).w, .int .i64 (coll k rb a).s, .int .i64 (coll k rb b).e, .int .i64 (coll k rb b).n, .int .i64 (coll k rb b).w, .int .i64 (coll k rb b).s]) ∧ Below w.heap.size w w' := by
  have h1 := fun W => cell_Collide a k rb W ha hru
  have h2 := fun W => cell_Collide b k rb W hb hru
  generalize coll k rb a = A at *
  generalize coll k rb b = B at *
  clear ha hb hru
  have X0 := (Bx.new w #[.int .i64 a.e, .int .i64 a.n, .int .i64 a.w, .int .i64 a.s, .int .i64 b.e, .int .i64 b.n, .int .i64 b.w, .int .i64 b.s] 125).alloc (.cells #[.int .i64 0, .int .i64 0, .int .i64 0, .int .i64 0, .int .i64 0, .int .i64 0, .int .i64 0, .int .i64 0] 125)
  have X1 := Bx.new (w.alloc (.cells #[.int .i64 a.e, .int .i64 a.n, .int .i64 a.w, .int .i64 a.s, .int .i64 b.e, .int .i64 b.n, .int .i64 b.w, .int .i64 b.s] 125)) #[.int .i64 0, .int .i64 0, .int .i64 0, .int .i64 0, .int .i64 0, .int .i64 0, .int .i64 0, .int .i64 0] 125
  simp only [World.size_alloc] at X1
  have hB0 : Below w.heap.size w ((w.alloc (.cells #[.int .i64 a.e, .int .i64 a.n, .int .i64 a.w, .int .i64 a.s, .int .i64 b.e, .int .i64 b.n, .int .i64 b.w, .int .i64 b.s] 125)).alloc (.cells #[.int .i64 0, .int .i64 0, .int .i64 0, .int .i64 0, .int .i64 0, .int .i64 0, .int .i64 0, .int .i64 0] 125)) := by (repeat' (first | with_reducible assumption | with_reducible exact Below.refl _ _ | with_reducible refine Below.drew ?_ | with_reducible refine below_drewN ?_ _ | with_reducible refine balloc ?_ _ | with_reducible refine bset ?_ ?_ _ | with_reducible refine Below.setCell ?_ ?_ _ | with_reducible refine Below.alloc ?_ ?_ _ | omega | (simp; done) | (simp; omega)))
  have zc := XC.lt; have zr := XR.lt
  have c0 := (XC.below hB0).at_ 0 rfl; have r0 := (XR.below hB0).at_ 0 rfl; have r1 := (XR.below hB0).at_ 1 rfl
  go_enter Tryz.func69, Tryz.ntmps69
  go_wp2_with fail
  generalize ((w.alloc (.cells #[.int .i64 a.e, .int .i64 a.n, .int .i64 a.w, .int .i64 a.s, .int .i64 b.e, .int .i64 b.n, .int .i64 b.w, .int .i64 b.s] 125)).alloc (.cells #[.int .i64 0, .int .i64 0, .int .i64 0, .int .i64 0, .int .i64 0, .int .i64 0, .int .i64 0, .int .i64 0] 125)) = W0 at X0 X1 hB0 ⊢
  have z0 := X0.lt
  have z1 := X1.lt
  refine (h1 _).mono ?_
  rintro e w1 ⟨rfl, hb1⟩
  have hB := bvia hB0 hb1
  have hs0 := hB0.size
  replace X0 := X0.below hb1; replace X1 := X1.below hb1; replace XC := (XC.below hB0).below hb1; replace XR := (XR.below hB0).below hb1
  clear hB0 hb1 h1 c0 r0 r1
  have x0 := X0.at_ 0 rfl; have x1 := X0.at_ 1 rfl; have x2 := X0.at_ 2 rfl; have x3 := X0.at_ 3 rfl; have x4 := X0.at_ 4 rfl; have x5 := X0.at_ 5 rfl; have x6 := X0.at_ 6 rfl; have x7 := X0.at_ 7 rfl; have xf := X0.free; have xz := X0.lt
  have c0 := XC.at_ 0 rfl; have r0 := XR.at_ 0 rfl; have r1 := XR.at_ 1 rfl
  go_wp2_with fail
  refine (h2 _).mono ?_
  rintro e w3 ⟨rfl, hb3⟩
  have hU : But (fun q => q = w.heap.size) w1 ((((w1.setCell ⟨w.heap.size, 0, none⟩ (.int .i64 A.e)).setCell ⟨w.heap.size, 1, none⟩ (.int .i64 A.n)).setCell ⟨w.heap.size, 2, none⟩ (.int .i64 A.w)).setCell ⟨w.heap.size, 3, none⟩ (.int .i64 A.s)) := (((But.set_ (But.refl (fun q => q = w.heap.size) w1) (p := ⟨w.heap.size, 0, none⟩) rfl _).set_ (p := ⟨w.heap.size, 1, none⟩) rfl _).set_ (p := ⟨w.heap.size, 2, none⟩) rfl _).set_ (p := ⟨w.heap.size, 3, none⟩) rfl _
  replace X1 := (X1.but hU (by omega)).below hb3
  replace X0 := ((((X0.set_ 0 (by simp) (.int .i64 A.e)).set_ 1 (by simp) (.int .i64 A.n)).set_ 2 (by simp) (.int .i64 A.w)).set_ 3 (by simp) (.int .i64 A.s)).below hb3
  simp only [List.setIfInBounds_toArray, List.set_cons_zero, List.set_cons_succ] at X0
  replace hB : Below w.heap.size w w3 := bvia (by (repeat' (first | with_reducible assumption | with_reducible exact Below.refl _ _ | with_reducible refine Below.drew ?_ | with_reducible refine below_drewN ?_ _ | with_reducible refine balloc ?_ _ | with_reducible refine bset ?_ ?_ _ | with_reducible refine Below.setCell ?_ ?_ _ | with_reducible refine Below.alloc ?_ ?_ _ | omega | (simp; done) | (simp; omega)))) hb3
  clear x0 x1 x2 x3 x4 x5 x6 x7 xf xz c0 r0 r1 h2 hU hb3 XC XR
  have x0 := X0.at_ 0 rfl; have x1 := X0.at_ 1 rfl; have x2 := X0.at_ 2 rfl; have x3 := X0.at_ 3 rfl; have x4 := X0.at_ 4 rfl; have x5 := X0.at_ 5 rfl; have x6 := X0.at_ 6 rfl; have x7 := X0.at_ 7 rfl; have xf := X0.free; have xz := X0.lt
  have y0 := X1.at_ 0 rfl; have y1 := X1.at_ 1 rfl; have y2 := X1.at_ 2 rfl; have y3 := X1.at_ 3 rfl; have y4 := X1.at_ 4 rfl; have y5 := X1.at_ 5 rfl; have y6 := X1.at_ 6 rfl; have y7 := X1.at_ 7 rfl; have yf := X1.free; have yz := X1.lt
  go_wp2_with fail
  refine bodyPost_ret (v := .agg #[.int .i64 A.e, .int .i64 A.n, .int .i64 A.w, .int .i64 A.s, .int .i64 B.e, .int .i64 B.n, .int .i64 B.w, .int .i64 B.s]) (by simp [results, Tryz.results69, go_sem, y0, y1, y2, y3, y4, y5, y6, y7]) rfl ⟨rfl, by (repeat' (first | with_reducible assumption | with_reducible exact Below.refl _ _ | with_reducible refine Below.drew ?_ | with_reducible refine below_drewN ?_ _ | with_reducible refine balloc ?_ _ | with_reducible refine bset ?_ ?_ _ | with_reducible refine Below.setCell ?_ ?_ _ | with_reducible refine Below.alloc ?_ ?_ _ | omega | (simp; done) | (simp; omega)))⟩
set_option maxRecDepth 100000 in
set_option maxHeartbeats 4000000 in
theorem deed_2 (a b : C4) (bc br : Nat) (w : World) (XC : Bx w bc #[.func (.func 48) #[] #[]]) (XR : Bx w br #[.int .i64 0, .int .i64 0]) (ha : validC a = true) (hb : validC b = true) (hm : a.mass + b.mass ≤ 1000000000) :
    Calls Tryz.prog 70 #[.agg #[.int .i64 a.e, .int .i64 a.n, .int .i64 a.w, .int .i64 a.s, .int .i64 b.e, .int .i64 b.n, .int .i64 b.w, .int .i64 b.s], .pointer (some ⟨bc, 0, none⟩), .pointer (some ⟨br, 0, none⟩)] w fun e w' => e = .returned (.agg #[.int .i64 a.e, .int .i64 a.n, .int .i64 a.w, .int .i64 a.s, .int .i64 b.e, .int .i64 b.n, .int .i64 b.w, .int .i64 b.s]) ∧ Below w.heap.size w w' := by
  have h1 := fun W => pair_by0 a b W ha hb hm
  clear ha hb hm
  have X0 := (Bx.new w #[.int .i64 a.e, .int .i64 a.n, .int .i64 a.w, .int .i64 a.s, .int .i64 b.e, .int .i64 b.n, .int .i64 b.w, .int .i64 b.s] 125).alloc (.cells #[.int .i64 0, .int .i64 0, .int .i64 0, .int .i64 0, .int .i64 0, .int .i64 0, .int .i64 0, .int .i64 0] 125)
  have X1 := Bx.new (w.alloc (.cells #[.int .i64 a.e, .int .i64 a.n, .int .i64 a.w, .int .i64 a.s, .int .i64 b.e, .int .i64 b.n, .int .i64 b.w, .int .i64 b.s] 125)) #[.int .i64 0, .int .i64 0, .int .i64 0, .int .i64 0, .int .i64 0, .int .i64 0, .int .i64 0, .int .i64 0] 125
  simp only [World.size_alloc] at X1
  have hB0 : Below w.heap.size w ((w.alloc (.cells #[.int .i64 a.e, .int .i64 a.n, .int .i64 a.w, .int .i64 a.s, .int .i64 b.e, .int .i64 b.n, .int .i64 b.w, .int .i64 b.s] 125)).alloc (.cells #[.int .i64 0, .int .i64 0, .int .i64 0, .int .i64 0, .int .i64 0, .int .i64 0, .int .i64 0, .int .i64 0] 125)) := by (repeat' (first | with_reducible assumption | with_reducible exact Below.refl _ _ | with_reducible refine Below.drew ?_ | with_reducible refine below_drewN ?_ _ | with_reducible refine balloc ?_ _ | with_reducible refine bset ?_ ?_ _ | with_reducible refine Below.setCell ?_ ?_ _ | with_reducible refine Below.alloc ?_ ?_ _ | omega | (simp; done) | (simp; omega)))
  have zc := XC.lt; have zr := XR.lt
  have c0 := (XC.below hB0).at_ 0 rfl; have r0 := (XR.below hB0).at_ 0 rfl; have r1 := (XR.below hB0).at_ 1 rfl
  go_enter Tryz.func70, Tryz.ntmps70
  go_wp2_with fail
  generalize ((w.alloc (.cells #[.int .i64 a.e, .int .i64 a.n, .int .i64 a.w, .int .i64 a.s, .int .i64 b.e, .int .i64 b.n, .int .i64 b.w, .int .i64 b.s] 125)).alloc (.cells #[.int .i64 0, .int .i64 0, .int .i64 0, .int .i64 0, .int .i64 0, .int .i64 0, .int .i64 0, .int .i64 0] 125)) = W0 at X0 X1 hB0 ⊢
  have z0 := X0.lt
  have z1 := X1.lt
  refine (h1 _).mono ?_
  rintro e w1 ⟨rfl, hb1⟩
  replace X1 := X1.below hb1
  have hB := bvia hB0 hb1
  clear hB0 hb1 c0 r0 r1 XC XR X0 h1
  have y0 := X1.at_ 0 rfl; have y1 := X1.at_ 1 rfl; have y2 := X1.at_ 2 rfl; have y3 := X1.at_ 3 rfl; have y4 := X1.at_ 4 rfl; have y5 := X1.at_ 5 rfl; have y6 := X1.at_ 6 rfl; have y7 := X1.at_ 7 rfl; have yf := X1.free; have yz := X1.lt
  go_wp2_with fail
  refine bodyPost_ret (v := .agg #[.int .i64 a.e, .int .i64 a.n, .int .i64 a.w, .int .i64 a.s, .int .i64 b.e, .int .i64 b.n, .int .i64 b.w, .int .i64 b.s]) (by simp [results, Tryz.results70, go_sem, y0, y1, y2, y3, y4, y5, y6, y7]) rfl ⟨rfl, by (repeat' (first | with_reducible assumption | with_reducible exact Below.refl _ _ | with_reducible refine Below.drew ?_ | with_reducible refine below_drewN ?_ _ | with_reducible refine balloc ?_ _ | with_reducible refine bset ?_ ?_ _ | with_reducible refine Below.setCell ?_ ?_ _ | with_reducible refine Below.alloc ?_ ?_ _ | omega | (simp; done) | (simp; omega)))⟩
set_option maxRecDepth 100000 in
set_option maxHeartbeats 4000000 in
theorem deed_3 (a b : C4) (bc br : Nat) (w : World) (XC : Bx w bc #[.func (.func 48) #[] #[]]) (XR : Bx w br #[.int .i64 0, .int .i64 0]) (ha : validC a = true) (hb : validC b = true) (hm : a.mass + b.mass ≤ 1000000000) :
    Calls Tryz.prog 72 #[.agg #[.int .i64 a.e, .int .i64 a.n, .int .i64 a.w, .int .i64 a.s, .int .i64 b.e, .int .i64 b.n, .int .i64 b.w, .int .i64 b.s], .pointer (some ⟨bc, 0, none⟩), .pointer (some ⟨br, 0, none⟩)] w fun e w' => e = .returned (.agg #[.int .i64 a.e, .int .i64 a.n, .int .i64 a.w, .int .i64 a.s, .int .i64 b.e, .int .i64 b.n, .int .i64 b.w, .int .i64 b.s]) ∧ Below w.heap.size w w' := by
  have h1 := fun W => pair_by1 a b W ha hb hm
  clear ha hb hm
  have X0 := (Bx.new w #[.int .i64 a.e, .int .i64 a.n, .int .i64 a.w, .int .i64 a.s, .int .i64 b.e, .int .i64 b.n, .int .i64 b.w, .int .i64 b.s] 125).alloc (.cells #[.int .i64 0, .int .i64 0, .int .i64 0, .int .i64 0, .int .i64 0, .int .i64 0, .int .i64 0, .int .i64 0] 125)
  have X1 := Bx.new (w.alloc (.cells #[.int .i64 a.e, .int .i64 a.n, .int .i64 a.w, .int .i64 a.s, .int .i64 b.e, .int .i64 b.n, .int .i64 b.w, .int .i64 b.s] 125)) #[.int .i64 0, .int .i64 0, .int .i64 0, .int .i64 0, .int .i64 0, .int .i64 0, .int .i64 0, .int .i64 0] 125
  simp only [World.size_alloc] at X1
  have hB0 : Below w.heap.size w ((w.alloc (.cells #[.int .i64 a.e, .int .i64 a.n, .int .i64 a.w, .int .i64 a.s, .int .i64 b.e, .int .i64 b.n, .int .i64 b.w, .int .i64 b.s] 125)).alloc (.cells #[.int .i64 0, .int .i64 0, .int .i64 0, .int .i64 0, .int .i64 0, .int .i64 0, .int .i64 0, .int .i64 0] 125)) := by (repeat' (first | with_reducible assumption | with_reducible exact Below.refl _ _ | with_reducible refine Below.drew ?_ | with_reducible refine below_drewN ?_ _ | with_reducible refine balloc ?_ _ | with_reducible refine bset ?_ ?_ _ | with_reducible refine Below.setCell ?_ ?_ _ | with_reducible refine Below.alloc ?_ ?_ _ | omega | (simp; done) | (simp; omega)))
  have zc := XC.lt; have zr := XR.lt
  have c0 := (XC.below hB0).at_ 0 rfl; have r0 := (XR.below hB0).at_ 0 rfl; have r1 := (XR.below hB0).at_ 1 rfl
  go_enter Tryz.func72, Tryz.ntmps72
  go_wp2_with fail
  generalize ((w.alloc (.cells #[.int .i64 a.e, .int .i64 a.n, .int .i64 a.w, .int .i64 a.s, .int .i64 b.e, .int .i64 b.n, .int .i64 b.w, .int .i64 b.s] 125)).alloc (.cells #[.int .i64 0, .int .i64 0, .int .i64 0, .int .i64 0, .int .i64 0, .int .i64 0, .int .i64 0, .int .i64 0] 125)) = W0 at X0 X1 hB0 ⊢
  have z0 := X0.lt
  have z1 := X1.lt
  refine (h1 _).mono ?_
  rintro e w1 ⟨rfl, hb1⟩
  replace X1 := X1.below hb1
  have hB := bvia hB0 hb1
  clear hB0 hb1 c0 r0 r1 XC XR X0 h1
  have y0 := X1.at_ 0 rfl; have y1 := X1.at_ 1 rfl; have y2 := X1.at_ 2 rfl; have y3 := X1.at_ 3 rfl; have y4 := X1.at_ 4 rfl; have y5 := X1.at_ 5 rfl; have y6 := X1.at_ 6 rfl; have y7 := X1.at_ 7 rfl; have yf := X1.free; have yz := X1.lt
  go_wp2_with fail
  refine bodyPost_ret (v := .agg #[.int .i64 a.e, .int .i64 a.n, .int .i64 a.w, .int .i64 a.s, .int .i64 b.e, .int .i64 b.n, .int .i64 b.w, .int .i64 b.s]) (by simp [results, Tryz.results72, go_sem, y0, y1, y2, y3, y4, y5, y6, y7]) rfl ⟨rfl, by (repeat' (first | with_reducible assumption | with_reducible exact Below.refl _ _ | with_reducible refine Below.drew ?_ | with_reducible refine below_drewN ?_ _ | with_reducible refine balloc ?_ _ | with_reducible refine bset ?_ ?_ _ | with_reducible refine Below.setCell ?_ ?_ _ | with_reducible refine Below.alloc ?_ ?_ _ | omega | (simp; done) | (simp; omega)))⟩
end Go.Proofs.YtpbobhobhbbimaaGreat
/- Walks: a step of two phases: deeds, all, streamed, forth. -/
namespace Go.Proofs.YtpbobhobhbbimaaGreat
open Go Go.RowKit
set_option linter.unusedVariables false
set_option maxRecDepth 100000 in
set_option maxHeartbeats 4000000 in
theorem machine_deeds (W H n p t bA bB cA cB nr cr cx : Nat) (ar ax : Option Addr) (r x : Nat → Int × Int) (w : World) (hr0 : 0 < nr) (hr8 : nr ≤ 8) (ht : t ≤ 1000000) (X : Bx w p #[.int .i64 (W : Int), .int .i64 (H : Int), .slice (some ⟨bA, 0, none⟩) n cA, .slice (some ⟨bB, 0, none⟩) n cB, .slice ar nr cr, .slice ax 1 cx]) (SR : Sr w ar nr r) (SX : Sr w ax 1 x) :
    Calls Tryz.prog 47 #[.pointer (some ⟨p, 0, none⟩), .int .i64 (t : Int), .func (.func 48) #[] #[]] w fun e w' => ∃ bc br bs, e = .returned (.agg #[.func (.func 69) #[] #[.pointer (some ⟨bc, 0, none⟩), .pointer (some ⟨br, 0, none⟩)], .func (.func 70) #[] #[.pointer (some ⟨bc, 0, none⟩), .pointer (some ⟨bs, 0, none⟩)], .func (.func 72) #[] #[.pointer (some ⟨bc, 0, none⟩), .pointer (some ⟨bs, 0, none⟩)]]) ∧
      Bx w' bc #[.func (.func 48) #[] #[]] ∧ Bx w' br #[.int .i64 (rlAt nr r t).1, .int .i64 (rlAt nr r t).2] ∧ Bx w' bs #[.int .i64 (x 0).1, .int .i64 (x 0).2] ∧ w.heap.size ≤ bc ∧ w.heap.size ≤ br ∧ w.heap.size ≤ bs ∧ Below w.heap.size w w' := by
  have hlt : t % nr < nr := Nat.mod_lt _ hr0
  obtain ⟨br, orr, rfl, hbr, d0, d1⟩ := SR (t % nr) hlt
  obtain ⟨bx, ox, rfl, hbx, g0, g1⟩ := SX 0 (by omega)
  have htm : ((t : Int)).tmod (nr : Int) = ((t % nr : Nat) : Int) := by rw [Int.tmod_eq_emod_of_nonneg (by omega)]; simp
  have htm2 : ((t : Int)) % (nr : Int) = ((t % nr : Nat) : Int) := by simp
  have htx : ((t : Int)).tmod 1 = 0 := by rw [Int.tmod_eq_emod_of_nonneg (by omega)]; omega
  have hrl : rlAt nr r t = r (t % nr) := rfl
  rw [hrl]
  clear hrl
  generalize t % nr = j at *
  generalize r j = q at *
  generalize x 0 = s at *
  obtain ⟨k, rb⟩ := q
  obtain ⟨k2, rb2⟩ := s
  have hn0 : ¬ (nr : Int) = 0 := by omega
  have hn1 : ¬ nr = 0 := by omega
  have zp := X.lt
  rw [Nat.zero_mul, Nat.add_zero] at g0 g1
  have X0 := (Bx.new w #[.func (.func 48) #[] #[]] 98).alloc (.cells #[.nilFunc, .nilFunc, .nilFunc] 96)
  have X1 := Bx.new (w.alloc (.cells #[.func (.func 48) #[] #[]] 98)) #[.nilFunc, .nilFunc, .nilFunc] 96
  simp only [World.size_alloc] at X1
  have hB0 : Below w.heap.size w ((w.alloc (.cells #[.func (.func 48) #[] #[]] 98)).alloc (.cells #[.nilFunc, .nilFunc, .nilFunc] 96)) := by (repeat' (first | with_reducible assumption | with_reducible exact Below.refl _ _ | with_reducible refine Below.drew ?_ | with_reducible refine below_drewN ?_ _ | with_reducible refine balloc ?_ _ | with_reducible refine bset ?_ ?_ _ | with_reducible refine Below.setCell ?_ ?_ _ | with_reducible refine Below.alloc ?_ ?_ _ | omega | (simp; done) | (simp; omega)))
  go_enter Tryz.func47, Tryz.ntmps47
  go_upto_region 1 with (fail)
  generalize ((w.alloc (.cells #[.func (.func 48) #[] #[]] 98)).alloc (.cells #[.nilFunc, .nilFunc, .nilFunc] 96)) = W0 at X0 X1 hB0 ⊢
  have z0 := X0.lt
  have z1 := X1.lt
  have hs0 := hB0.size
  have r4 : ∀ Y, Below W0.heap.size W0 Y → Y.cell? ⟨p, 4, none⟩ = some (.slice (some ⟨br, orr, none⟩) nr cr) := fun Y h => ((X.below hB0).below h).at_ 4 rfl
  have r5 : ∀ Y, Below W0.heap.size W0 Y → Y.cell? ⟨p, 5, none⟩ = some (.slice (some ⟨bx, ox, none⟩) 1 cx) := fun Y h => ((X.below hB0).below h).at_ 5 rfl
  have u0 : ∀ Y, Below W0.heap.size W0 Y → Y.cell? ⟨br, orr + j * 2, none⟩ = some (.int .i64 k) := fun Y h => (bcell h _ _ (by omega)).trans ((bcell hB0 _ _ hbr).trans d0)
  have u1 : ∀ Y, Below W0.heap.size W0 Y → Y.cell? ⟨br, orr + j * 2 + 1, none⟩ = some (.int .i64 rb) := fun Y h => (bcell h _ _ (by omega)).trans ((bcell hB0 _ _ hbr).trans d1)
  have u2 : ∀ Y, Below W0.heap.size W0 Y → Y.cell? ⟨bx, ox, none⟩ = some (.int .i64 k2) := fun Y h => (bcell h _ _ (by omega)).trans ((bcell hB0 _ _ hbx).trans g0)
  have u3 : ∀ Y, Below W0.heap.size W0 Y → Y.cell? ⟨bx, ox + 1, none⟩ = some (.int .i64 rb2) := fun Y h => (bcell h _ _ (by omega)).trans ((bcell hB0 _ _ hbx).trans g1)
  clear d0 d1 g0 g1
  go_region_held3 (fun Y => Below W0.heap.size W0 Y) ((repeat' (first | with_reducible assumption | with_reducible exact Below.refl _ _ | with_reducible refine Below.drew ?_ | with_reducible refine below_drewN ?_ _ | with_reducible refine balloc ?_ _ | with_reducible refine bset ?_ ?_ _ | with_reducible refine Below.setCell ?_ ?_ _ | with_reducible refine Below.alloc ?_ ?_ _ | omega | (simp; done) | (simp; omega)))) (fail)
  · skip
    clear r4 r5 u0 u1 u2 u3
    have XR : Bx ((W0.alloc (.cells #[.int .i64 k, .int .i64 rb] 38)).alloc (.cells #[.int .i64 k2, .int .i64 rb2] 38)).drew W0.heap.size #[.int .i64 k, .int .i64 rb] := (((Bx.new W0 #[.int .i64 k, .int .i64 rb] 38).alloc _).drew)
    have XS : Bx ((W0.alloc (.cells #[.int .i64 k, .int .i64 rb] 38)).alloc (.cells #[.int .i64 k2, .int .i64 rb2] 38)).drew (W0.heap.size + 1) #[.int .i64 k2, .int .i64 rb2] := (Bx.newE (by simp) #[.int .i64 k2, .int .i64 rb2] 38).drew
    have hb2 : Below W0.heap.size W0 ((W0.alloc (.cells #[.int .i64 k, .int .i64 rb] 38)).alloc (.cells #[.int .i64 k2, .int .i64 rb2] 38)).drew := by (repeat' (first | with_reducible assumption | with_reducible exact Below.refl _ _ | with_reducible refine Below.drew ?_ | with_reducible refine below_drewN ?_ _ | with_reducible refine balloc ?_ _ | with_reducible refine bset ?_ ?_ _ | with_reducible refine Below.setCell ?_ ?_ _ | with_reducible refine Below.alloc ?_ ?_ _ | omega | (simp; done) | (simp; omega)))
    generalize ((W0.alloc (.cells #[.int .i64 k, .int .i64 rb] 38)).alloc (.cells #[.int .i64 k2, .int .i64 rb2] 38)).drew = W2 at *
    replace X0 := X0.below hb2; replace X1 := X1.below hb2
    have hB := bvia hB0 hb2
    clear hb2
    have y0 := X1.at_ 0 rfl; have y1 := X1.at_ 1 rfl; have y2 := X1.at_ 2 rfl; have yf := X1.free; have yz := X1.lt
    go_wp2_with fail
    have hU := But.set_ (But.refl (fun q => q = w.heap.size + 1) W2) (p := ⟨w.heap.size + 1, 0, none⟩) rfl (.func (.func 69) #[] #[.pointer (some ⟨w.heap.size, 0, none⟩), .pointer (some ⟨W0.heap.size, 0, none⟩)])
    replace hU := But.set_ hU (p := ⟨w.heap.size + 1, 1, none⟩) rfl (.func (.func 70) #[] #[.pointer (some ⟨w.heap.size, 0, none⟩), .pointer (some ⟨W0.heap.size + 1, 0, none⟩)])
    replace hU := But.set_ hU (p := ⟨w.heap.size + 1, 2, none⟩) rfl (.func (.func 72) #[] #[.pointer (some ⟨w.heap.size, 0, none⟩), .pointer (some ⟨W0.heap.size + 1, 0, none⟩)])
    refine bodyPost_ret (v := .agg #[.func (.func 69) #[] #[.pointer (some ⟨w.heap.size, 0, none⟩), .pointer (some ⟨W0.heap.size, 0, none⟩)], .func (.func 70) #[] #[.pointer (some ⟨w.heap.size, 0, none⟩), .pointer (some ⟨W0.heap.size + 1, 0, none⟩)], .func (.func 72) #[] #[.pointer (some ⟨w.heap.size, 0, none⟩), .pointer (some ⟨W0.heap.size + 1, 0, none⟩)]]) (by simp [results, Tryz.results47, go_sem, y0, y1, y2]) rfl ⟨w.heap.size, W0.heap.size, W0.heap.size + 1, rfl, X0.but hU (by omega), XR.but hU (by omega), XS.but hU (by omega), Nat.le_refl _, by omega, by omega, by (repeat' (first | with_reducible assumption | with_reducible exact Below.refl _ _ | with_reducible refine Below.drew ?_ | with_reducible refine below_drewN ?_ _ | with_reducible refine balloc ?_ _ | with_reducible refine bset ?_ ?_ _ | with_reducible refine Below.setCell ?_ ?_ _ | with_reducible refine Below.alloc ?_ ?_ _ | omega | (simp; done) | (simp; omega)))⟩
  · skip
    clear r4 r5 u0 u1 u2 u3
    have XS : Bx ((W0.alloc (.cells #[.int .i64 k2, .int .i64 rb2] 38)).alloc (.cells #[.int .i64 k, .int .i64 rb] 38)).drew W0.heap.size #[.int .i64 k2, .int .i64 rb2] := (((Bx.new W0 #[.int .i64 k2, .int .i64 rb2] 38).alloc _).drew)
    have XR : Bx ((W0.alloc (.cells #[.int .i64 k2, .int .i64 rb2] 38)).alloc (.cells #[.int .i64 k, .int .i64 rb] 38)).drew (W0.heap.size + 1) #[.int .i64 k, .int .i64 rb] := (Bx.newE (by simp) #[.int .i64 k, .int .i64 rb] 38).drew
    have hb2 : Below W0.heap.size W0 ((W0.alloc (.cells #[.int .i64 k2, .int .i64 rb2] 38)).alloc (.cells #[.int .i64 k, .int .i64 rb] 38)).drew := by (repeat' (first | with_reducible assumption | with_reducible exact Below.refl _ _ | with_reducible refine Below.drew ?_ | with_reducible refine below_drewN ?_ _ | with_reducible refine balloc ?_ _ | with_reducible refine bset ?_ ?_ _ | with_reducible refine Below.setCell ?_ ?_ _ | with_reducible refine Below.alloc ?_ ?_ _ | omega | (simp; done) | (simp; omega)))
    generalize ((W0.alloc (.cells #[.int .i64 k2, .int .i64 rb2] 38)).alloc (.cells #[.int .i64 k, .int .i64 rb] 38)).drew = W2 at *
    replace X0 := X0.below hb2; replace X1 := X1.below hb2
    have hB := bvia hB0 hb2
    clear hb2
    have y0 := X1.at_ 0 rfl; have y1 := X1.at_ 1 rfl; have y2 := X1.at_ 2 rfl; have yf := X1.free; have yz := X1.lt
    go_wp2_with fail
    have hU := But.set_ (But.refl (fun q => q = w.heap.size + 1) W2) (p := ⟨w.heap.size + 1, 0, none⟩) rfl (.func (.func 69) #[] #[.pointer (some ⟨w.heap.size, 0, none⟩), .pointer (some ⟨W0.heap.size + 1, 0, none⟩)])
    replace hU := But.set_ hU (p := ⟨w.heap.size + 1, 1, none⟩) rfl (.func (.func 70) #[] #[.pointer (some ⟨w.heap.size, 0, none⟩), .pointer (some ⟨W0.heap.size, 0, none⟩)])
    replace hU := But.set_ hU (p := ⟨w.heap.size + 1, 2, none⟩) rfl (.func (.func 72) #[] #[.pointer (some ⟨w.heap.size, 0, none⟩), .pointer (some ⟨W0.heap.size, 0, none⟩)])
    refine bodyPost_ret (v := .agg #[.func (.func 69) #[] #[.pointer (some ⟨w.heap.size, 0, none⟩), .pointer (some ⟨W0.heap.size + 1, 0, none⟩)], .func (.func 70) #[] #[.pointer (some ⟨w.heap.size, 0, none⟩), .pointer (some ⟨W0.heap.size, 0, none⟩)], .func (.func 72) #[] #[.pointer (some ⟨w.heap.size, 0, none⟩), .pointer (some ⟨W0.heap.size, 0, none⟩)]]) (by simp [results, Tryz.results47, go_sem, y0, y1, y2]) rfl ⟨w.heap.size, W0.heap.size + 1, W0.heap.size, rfl, X0.but hU (by omega), XR.but hU (by omega), XS.but hU (by omega), Nat.le_refl _, by omega, by omega, by (repeat' (first | with_reducible assumption | with_reducible exact Below.refl _ _ | with_reducible refine Below.drew ?_ | with_reducible refine below_drewN ?_ _ | with_reducible refine balloc ?_ _ | with_reducible refine bset ?_ ?_ _ | with_reducible refine Below.setCell ?_ ?_ _ | with_reducible refine Below.alloc ?_ ?_ _ | omega | (simp; done) | (simp; omega)))⟩
end Go.Proofs.YtpbobhobhbbimaaGreat
/- Walks: what is done to all pairs of two phases. -/
namespace Go.Proofs.YtpbobhobhbbimaaGreat
open Go Go.RowKit
attribute [local go_sem] Oper.semAt_some
set_option linter.unusedVariables false
theorem anyS_listed2 {P : Program} {ops : Array Oper} {Q : Exit → Act → World → Prop} {md : Region.Mode} {S : World → Prop} {T : Nat} {fuel : Nat} {listed l' : Array Bool} {a : Act} {w : World} (e : listed = l') (h : anyS P md ops Q S T fuel l' a w) : anyS P md ops Q S T fuel listed a w := e ▸ h
theorem dup_all {X : Prop} {H G : World → Nat → Prop} (main : (∀ w5 bx, H w5 bx → G w5 bx) → X) (key : ∀ w5 bx, H w5 bx → G w5 bx) : X := main key
set_option maxRecDepth 100000 in
set_option maxHeartbeats 8000000 in
theorem machine_all (W H : Int) (n p bA bB cA cB gf : Nat) (lb : Array Value) (v4 v5 : Value) (Fa Fb A B : Nat → C4) (w : World) (hn : n ≤ 4096) (X : Bx w p #[.int .i64 W, .int .i64 H, .slice (some ⟨bA, 0, none⟩) n cA, .slice (some ⟨bB, 0, none⟩) n cB, v4, v5]) (RA : Ro w bA (n * 4) (flatC A)) (RB : Ro w bB (n * 4) (flatC B)) (hAB : bA ≠ bB) (hpA : p ≠ bA) (hpB : p ≠ bB)
    (hf : ∀ i, i < n → ∀ Y, But (fun q => q = bA ∨ q = bB) w Y → Calls Tryz.prog gf (#[.agg #[.int .i64 (A i).e, .int .i64 (A i).n, .int .i64 (A i).w, .int .i64 (A i).s, .int .i64 (B i).e, .int .i64 (B i).n, .int .i64 (B i).w, .int .i64 (B i).s]] ++ lb) Y fun e Y' => e = .returned (.agg #[.int .i64 (Fa i).e, .int .i64 (Fa i).n, .int .i64 (Fa i).w, .int .i64 (Fa i).s, .int .i64 (Fb i).e, .int .i64 (Fb i).n, .int .i64 (Fb i).w, .int .i64 (Fb i).s]) ∧ Below Y.heap.size Y Y')
    (eg : ∀ args w, (callFunc gf args).run Tryz.prog w = .ok (.enter gf args) w) :
    Calls Tryz.prog 49 #[.pointer (some ⟨p, 0, none⟩), .func (.func gf) #[] lb] w fun e w' => (∃ v, e = .returned v) ∧ Ro w' bA (n * 4) (flatC Fa) ∧ Ro w' bB (n * 4) (flatC Fb) ∧ But (fun q => q = bA ∨ q = bB) w w' := by
  have HF := hid hf
  clear hf
  have x2 := X.at_ 2 rfl
  have zp := X.lt; have za := RA.lt; have zb := RB.lt
  go_enter Tryz.func49, Tryz.ntmps49
  go_wp2_with fail
  clear x2
  rw [← ovC_zero Fa A] at RA
  rw [← ovC_zero Fb B] at RB
  go_loopw [12] (fun s wr => ∃ i : Nat, i ≤ n ∧ s = .int .i64 i ∧ Ro wr bA (n * 4) (flatC (ovC Fa A i)) ∧ Ro wr bB (n * 4) (flatC (ovC Fb B i)) ∧ But (fun q => q = bA ∨ q = bB) w wr) (fun s _ => n - (intOf s).toNat)
  case atStart => exact ⟨0, Nat.zero_le _, rfl, RA, RB, But.refl _ _⟩
  case round =>
    clear RA RB
    obtain ⟨i, hi, rfl, RA, RB, hU⟩ := hrel
    obtain ⟨wo, rfl⟩ : ∃ wo : World, wo = wr := ⟨_, rfl⟩
    by_cases hlt : i < n
    · have ca := RA.scell hlt
      rw [ovC_at] at ca
      obtain ⟨a0, a1, a2, a3⟩ := ca
      have cb := RB.scell hlt
      rw [ovC_at] at cb
      obtain ⟨b0, b1, b2, b3⟩ := cb
      have haf := fun Y h => HF.out i hlt Y h
      have hsz := hU.size
      have XW := X.but hU (by omega)
      have r2 : ∀ Y, Below wo.heap.size wo Y → Y.cell? ⟨p, 2, none⟩ = some (.slice (some ⟨bA, 0, none⟩) n cA) := fun Y h => (XW.below h).at_ 2 rfl
      have r3 : ∀ Y, Below wo.heap.size wo Y → Y.cell? ⟨p, 3, none⟩ = some (.slice (some ⟨bB, 0, none⟩) n cB) := fun Y h => (XW.below h).at_ 3 rfl
      have q0 : ∀ Y, Below wo.heap.size wo Y → Y.cell? ⟨bA, i * 4, none⟩ = some (.int .i64 (A i).e) := fun Y h => (bcell h _ _ (by omega)).trans a0
      have q1 : ∀ Y, Below wo.heap.size wo Y → Y.cell? ⟨bA, i * 4 + 1, none⟩ = some (.int .i64 (A i).n) := fun Y h => (bcell h _ _ (by omega)).trans a1
      have q2 : ∀ Y, Below wo.heap.size wo Y → Y.cell? ⟨bA, i * 4 + 2, none⟩ = some (.int .i64 (A i).w) := fun Y h => (bcell h _ _ (by omega)).trans a2
      have q3 : ∀ Y, Below wo.heap.size wo Y → Y.cell? ⟨bA, i * 4 + 3, none⟩ = some (.int .i64 (A i).s) := fun Y h => (bcell h _ _ (by omega)).trans a3
      have s0 : ∀ Y, Below wo.heap.size wo Y → Y.cell? ⟨bB, i * 4, none⟩ = some (.int .i64 (B i).e) := fun Y h => (bcell h _ _ (by omega)).trans b0
      have s1 : ∀ Y, Below wo.heap.size wo Y → Y.cell? ⟨bB, i * 4 + 1, none⟩ = some (.int .i64 (B i).n) := fun Y h => (bcell h _ _ (by omega)).trans b1
      have s2 : ∀ Y, Below wo.heap.size wo Y → Y.cell? ⟨bB, i * 4 + 2, none⟩ = some (.int .i64 (B i).w) := fun Y h => (bcell h _ _ (by omega)).trans b2
      have s3 : ∀ Y, Below wo.heap.size wo Y → Y.cell? ⟨bB, i * 4 + 3, none⟩ = some (.int .i64 (B i).s) := fun Y h => (bcell h _ _ (by omega)).trans b3
      clear a0 a1 a2 a3 b0 b1 b2 b3
      go_upto_region 3 with (fail)
      refine wp_region_S (fun Y => Below wo.heap.size wo Y) 20 (by kernel_rfl) ?_
      refine anyS_take (i := 0) rfl (by kernel_rfl) (fun _ _ _ h => h) (Or.inl ⟨by rfl, fun Y hYb => (by (try dsimp only at hYb); go_simp; rfl)⟩) (by repeat' (first | with_reducible assumption | with_reducible exact Below.refl _ _ | with_reducible refine Below.drew ?_ | with_reducible refine below_drewN ?_ _)) ?_
      refine anyS_take (i := 1) rfl (by kernel_rfl) (fun _ _ _ h => h) (Or.inl ⟨by rfl, fun Y hYb => (by (try dsimp only at hYb); go_simp; rfl)⟩) (by repeat' (first | with_reducible assumption | with_reducible exact Below.refl _ _ | with_reducible refine Below.drew ?_ | with_reducible refine below_drewN ?_ _)) ?_
      refine anyS_take (i := 2) rfl (by kernel_rfl) (fun _ _ _ h => h) (Or.inl ⟨by rfl, fun Y hYb => (by (try dsimp only at hYb); go_simp; rfl)⟩) (by repeat' (first | with_reducible assumption | with_reducible exact Below.refl _ _ | with_reducible refine Below.drew ?_ | with_reducible refine below_drewN ?_ _)) ?_
      refine anyS_take (i := 3) rfl (by kernel_rfl) (fun _ _ _ h => h) (Or.inl ⟨by rfl, fun Y hYb => (by (try dsimp only at hYb); go_simp; rfl)⟩) (by repeat' (first | with_reducible assumption | with_reducible exact Below.refl _ _ | with_reducible refine Below.drew ?_ | with_reducible refine below_drewN ?_ _)) ?_
      refine anyS_take (i := 4) rfl (by kernel_rfl) (fun _ _ _ h => h) (Or.inl ⟨by rfl, fun Y hYb => (by (try dsimp only at hYb); go_simp; rfl)⟩) (by repeat' (first | with_reducible assumption | with_reducible exact Below.refl _ _ | with_reducible refine Below.drew ?_ | with_reducible refine below_drewN ?_ _)) ?_
      refine anyS_take (i := 5) rfl (by kernel_rfl) (fun _ _ _ h => h) (Or.inl ⟨by rfl, fun Y hYb => (by (try dsimp only at hYb); go_simp; rfl)⟩) (by repeat' (first | with_reducible assumption | with_reducible exact Below.refl _ _ | with_reducible refine Below.drew ?_ | with_reducible refine below_drewN ?_ _)) ?_
      refine anyS_take (i := 6) rfl (by kernel_rfl) (fun _ _ _ h => h) (Or.inl ⟨by rfl, fun Y hYb => (by (try dsimp only at hYb); go_simp; rfl)⟩) (by repeat' (first | with_reducible assumption | with_reducible exact Below.refl _ _ | with_reducible refine Below.drew ?_ | with_reducible refine below_drewN ?_ _)) ?_
      refine anyS_take (i := 7) rfl (by kernel_rfl) (fun _ _ _ h => h) (Or.inl ⟨by rfl, fun Y hYb => (by (try dsimp only at hYb); go_simp; rfl)⟩) (by repeat' (first | with_reducible assumption | with_reducible exact Below.refl _ _ | with_reducible refine Below.drew ?_ | with_reducible refine below_drewN ?_ _)) ?_
      refine anyS_take (i := 8) rfl (by kernel_rfl) (fun _ _ _ h => h) (Or.inl ⟨by rfl, fun Y hYb => (by (try dsimp only at hYb); go_simp; rfl)⟩) (by repeat' (first | with_reducible assumption | with_reducible exact Below.refl _ _ | with_reducible refine Below.drew ?_ | with_reducible refine below_drewN ?_ _)) ?_
      refine anyS_take (i := 9) rfl (by kernel_rfl) (fun _ _ _ h => h) (Or.inl ⟨by rfl, fun Y hYb => (by (try dsimp only at hYb); go_simp; rfl)⟩) (by repeat' (first | with_reducible assumption | with_reducible exact Below.refl _ _ | with_reducible refine Below.drew ?_ | with_reducible refine below_drewN ?_ _)) ?_
      refine anyS_take (i := 10) rfl (by kernel_rfl) (fun _ _ _ h => h) (Or.inl ⟨by rfl, fun Y hYb => (by (try dsimp only at hYb); go_simp; rfl)⟩) (by repeat' (first | with_reducible assumption | with_reducible exact Below.refl _ _ | with_reducible refine Below.drew ?_ | with_reducible refine below_drewN ?_ _)) ?_
      refine anyS_take (i := 11) rfl (by kernel_rfl) (fun _ _ _ h => h) (Or.inl ⟨by rfl, fun Y hYb => (by (try dsimp only at hYb); go_simp; rfl)⟩) (by repeat' (first | with_reducible assumption | with_reducible exact Below.refl _ _ | with_reducible refine Below.drew ?_ | with_reducible refine below_drewN ?_ _)) ?_
      refine anyS_take (i := 12) rfl (by kernel_rfl) (fun _ _ _ h => h) (Or.inl ⟨by rfl, fun Y hYb => (by (try dsimp only at hYb); go_simp; rfl)⟩) (by repeat' (first | with_reducible assumption | with_reducible exact Below.refl _ _ | with_reducible refine Below.drew ?_ | with_reducible refine below_drewN ?_ _)) ?_
      refine anyS_take (i := 13) rfl (by kernel_rfl) (fun _ _ _ h => h) (Or.inl ⟨by rfl, fun Y hYb => (by (try dsimp only at hYb); go_simp; rfl)⟩) (by repeat' (first | with_reducible assumption | with_reducible exact Below.refl _ _ | with_reducible refine Below.drew ?_ | with_reducible refine below_drewN ?_ _)) ?_
      refine anyS_take (i := 14) rfl (by kernel_rfl) (fun _ _ _ h => h) (Or.inl ⟨by rfl, fun Y hYb => (by (try dsimp only at hYb); go_simp; rfl)⟩) (by repeat' (first | with_reducible assumption | with_reducible exact Below.refl _ _ | with_reducible refine Below.drew ?_ | with_reducible refine below_drewN ?_ _)) ?_
      refine anyS_take (i := 15) rfl (by kernel_rfl) (fun _ _ _ h => h) (Or.inl ⟨by rfl, fun Y hYb => (by (try dsimp only at hYb); go_simp; rfl)⟩) (by repeat' (first | with_reducible assumption | with_reducible exact Below.refl _ _ | with_reducible refine Below.drew ?_ | with_reducible refine below_drewN ?_ _)) ?_
      refine anyS_take (i := 16) rfl (by kernel_rfl) (fun _ _ _ h => h) (Or.inl ⟨by rfl, fun Y hYb => (by (try dsimp only at hYb); go_simp; rfl)⟩) (by repeat' (first | with_reducible assumption | with_reducible exact Below.refl _ _ | with_reducible refine Below.drew ?_ | with_reducible refine below_drewN ?_ _)) ?_
      refine anyS_take (i := 17) rfl (by kernel_rfl) (fun _ _ _ h => h) (Or.inl ⟨by rfl, fun Y hYb => (by (try dsimp only at hYb); go_simp; rfl)⟩) (by repeat' (first | with_reducible assumption | with_reducible exact Below.refl _ _ | with_reducible refine Below.drew ?_ | with_reducible refine below_drewN ?_ _)) ?_
      clear r2 r3 q0 q1 q2 q3 s0 s1 s2 s3
      have hU1 : ∀ Y, Below wo.heap.size wo Y → But (fun q => q = bA ∨ q = bB) w Y := fun Y h => hU.trans (but_below h (Nat.le_refl _))
      apply dup_all (H := fun w5 bx => Below wo.heap.size wo w5 ∧ Bx w5 bx #[.int .i64 0, .int .i64 0, .int .i64 0, .int .i64 0, .int .i64 0, .int .i64 0, .int .i64 0, .int .i64 0] ∧ wo.heap.size ≤ bx)
      case main =>
        intro KEY
        refine anyS_two (i := 18) (j := 19) (by kernel_rfl) rfl rfl (by rfl) (by rfl) (fun K hK => ?_) (fun K hK => ?_)
        · go_simp
          refine (haf _ (hU1 _ (Below.refl _ wo).drew)).mono ?_
          rintro e w2 ⟨rfl, hb2⟩
          dsimp only
          have hS2 : Below wo.heap.size wo w2 := bvia (Below.refl _ wo).drew hb2
          refine hK _ _ (fun _ _ => hS2) ?_
          clear hK K
          refine anyS_one (i := 19) (by kernel_rfl) rfl (by rfl) (fun K hK => ?_)
          go_simp
          refine hK _ _ (fun _ _ => balloc hS2 _) ?_
          clear hK K
          try simp only [List.setIfInBounds_toArray, List.set_cons_zero, List.set_cons_succ]
          refine anyS_listed2 (l' := #[true, true, true, true, true, true, true, true, true, true, true, true, true, true, true, true, true, true, true, true, false]) (by kernel_rfl) ?_
          have hh : Below wo.heap.size wo (w2.alloc (.cells #[.int .i64 0, .int .i64 0, .int .i64 0, .int .i64 0, .int .i64 0, .int .i64 0, .int .i64 0, .int .i64 0] 125)) ∧ Bx (w2.alloc (.cells #[.int .i64 0, .int .i64 0, .int .i64 0, .int .i64 0, .int .i64 0, .int .i64 0, .int .i64 0, .int .i64 0] 125)) w2.heap.size #[.int .i64 0, .int .i64 0, .int .i64 0, .int .i64 0, .int .i64 0, .int .i64 0, .int .i64 0, .int .i64 0] ∧ wo.heap.size ≤ w2.heap.size := ⟨balloc hS2 _, Bx.new w2 _ _, hS2.size⟩
          generalize w2.alloc (.cells #[.int .i64 0, .int .i64 0, .int .i64 0, .int .i64 0, .int .i64 0, .int .i64 0, .int .i64 0, .int .i64 0] 125) = w6 at hh ⊢
          generalize w2.heap.size = bx at hh ⊢
          exact KEY w6 bx hh
        · go_simp
          refine hK _ _ (fun _ _ => balloc (Below.refl _ wo).drew _) ?_
          clear hK K
          refine anyS_one (i := 18) (by kernel_rfl) rfl (by rfl) (fun K hK => ?_)
          go_simp
          refine (haf _ (hU1 _ (balloc (Below.refl _ wo).drew _))).mono ?_
          rintro e w2 ⟨rfl, hb2⟩
          dsimp only
          have hS2 : Below wo.heap.size wo w2 := bvia (balloc (Below.refl _ wo).drew _) hb2
          refine hK _ _ (fun _ _ => hS2) ?_
          clear hK K
          refine anyS_listed2 (l' := #[true, true, true, true, true, true, true, true, true, true, true, true, true, true, true, true, true, true, true, true, false]) (by kernel_rfl) ?_
          have hh : Below wo.heap.size wo w2 ∧ Bx w2 wo.heap.size #[.int .i64 0, .int .i64 0, .int .i64 0, .int .i64 0, .int .i64 0, .int .i64 0, .int .i64 0, .int .i64 0] ∧ wo.heap.size ≤ wo.heap.size := ⟨hS2, (Bx.newE (by simp) _ _).below hb2, Nat.le_refl _⟩
          exact KEY w2 wo.heap.size hh
      case key =>
        rintro w6 bx ⟨hS6, XB, hbx⟩
        have z0 := XB.at_ 0 rfl; have z1 := XB.at_ 1 rfl; have z2 := XB.at_ 2 rfl; have z3 := XB.at_ 3 rfl; have z4 := XB.at_ 4 rfl; have z5 := XB.at_ 5 rfl; have z6 := XB.at_ 6 rfl; have z7 := XB.at_ 7 rfl; have zf := XB.free; have zl := XB.lt
        refine anyS_one (i := 20) (by kernel_rfl) rfl (by rfl) (fun K hK => ?_)
        go_simp
        have hU7 : But (fun q => q = bx) w6 ((((((((w6.setCell ⟨bx, 0, none⟩ (.int .i64 (Fa i).e)).setCell ⟨bx, 1, none⟩ (.int .i64 (Fa i).n)).setCell ⟨bx, 2, none⟩ (.int .i64 (Fa i).w)).setCell ⟨bx, 3, none⟩ (.int .i64 (Fa i).s)).setCell ⟨bx, 4, none⟩ (.int .i64 (Fb i).e)).setCell ⟨bx, 5, none⟩ (.int .i64 (Fb i).n)).setCell ⟨bx, 6, none⟩ (.int .i64 (Fb i).w)).setCell ⟨bx, 7, none⟩ (.int .i64 (Fb i).s)) := (But.set_ (But.set_ (But.set_ (But.set_ (But.set_ (But.set_ (But.set_ (But.set_ (But.refl (fun q => q = bx) w6) (p := ⟨bx, 0, none⟩) rfl (.int .i64 (Fa i).e)) (p := ⟨bx, 1, none⟩) rfl (.int .i64 (Fa i).n)) (p := ⟨bx, 2, none⟩) rfl (.int .i64 (Fa i).w)) (p := ⟨bx, 3, none⟩) rfl (.int .i64 (Fa i).s)) (p := ⟨bx, 4, none⟩) rfl (.int .i64 (Fb i).e)) (p := ⟨bx, 5, none⟩) rfl (.int .i64 (Fb i).n)) (p := ⟨bx, 6, none⟩) rfl (.int .i64 (Fb i).w)) (p := ⟨bx, 7, none⟩) rfl (.int .i64 (Fb i).s))
        have hB7 : Below wo.heap.size wo ((((((((w6.setCell ⟨bx, 0, none⟩ (.int .i64 (Fa i).e)).setCell ⟨bx, 1, none⟩ (.int .i64 (Fa i).n)).setCell ⟨bx, 2, none⟩ (.int .i64 (Fa i).w)).setCell ⟨bx, 3, none⟩ (.int .i64 (Fa i).s)).setCell ⟨bx, 4, none⟩ (.int .i64 (Fb i).e)).setCell ⟨bx, 5, none⟩ (.int .i64 (Fb i).n)).setCell ⟨bx, 6, none⟩ (.int .i64 (Fb i).w)).setCell ⟨bx, 7, none⟩ (.int .i64 (Fb i).s)) := hS6.trans ⟨hU7.os, hU7.tape, hU7.output, hU7.size, fun b hb => hU7.block b (by have := hS6.size; omega) (by omega)⟩
        have XB7 := ((((((((XB.set_ 0 (by simp) (.int .i64 (Fa i).e)).set_ 1 (by simp) (.int .i64 (Fa i).n)).set_ 2 (by simp) (.int .i64 (Fa i).w)).set_ 3 (by simp) (.int .i64 (Fa i).s)).set_ 4 (by simp) (.int .i64 (Fb i).e)).set_ 5 (by simp) (.int .i64 (Fb i).n)).set_ 6 (by simp) (.int .i64 (Fb i).w)).set_ 7 (by simp) (.int .i64 (Fb i).s))
        simp only [List.setIfInBounds_toArray, List.set_cons_zero, List.set_cons_succ] at XB7
        refine hK _ _ (fun h _ => absurd h (by decide)) ?_
        clear hK K z0 z1 z2 z3 z4 z5 z6 z7 zf zl XB hU7 hS6
        generalize ((((((((w6.setCell ⟨bx, 0, none⟩ (.int .i64 (Fa i).e)).setCell ⟨bx, 1, none⟩ (.int .i64 (Fa i).n)).setCell ⟨bx, 2, none⟩ (.int .i64 (Fa i).w)).setCell ⟨bx, 3, none⟩ (.int .i64 (Fa i).s)).setCell ⟨bx, 4, none⟩ (.int .i64 (Fb i).e)).setCell ⟨bx, 5, none⟩ (.int .i64 (Fb i).n)).setCell ⟨bx, 6, none⟩ (.int .i64 (Fb i).w)).setCell ⟨bx, 7, none⟩ (.int .i64 (Fb i).s)) = w7 at *
        refine anyS_done (by kernel_rfl) ?_ _
        clear haf hU1
        have hs7 := hB7.size
        have XW7 := XW.below hB7; have RA7 := RA.below hB7; have RB7 := RB.below hB7
        have ca := RA7.scell hlt
        rw [ovC_at] at ca
        obtain ⟨a0, a1, a2, a3⟩ := ca
        have cb := RB7.scell hlt
        rw [ovC_at] at cb
        obtain ⟨b0, b1, b2, b3⟩ := cb
        have x2 := XW7.at_ 2 rfl; have x3 := XW7.at_ 3 rfl; have xz := XW7.lt; have af := RA7.free; have bf := RB7.free; have az := RA7.lt; have bz := RB7.lt
        have z0 := XB7.at_ 0 rfl; have z1 := XB7.at_ 1 rfl; have z2 := XB7.at_ 2 rfl; have z3 := XB7.at_ 3 rfl; have z4 := XB7.at_ 4 rfl; have z5 := XB7.at_ 5 rfl; have z6 := XB7.at_ 6 rfl; have z7 := XB7.at_ 7 rfl; have zl := XB7.lt
        have hbA : bx ≠ bA := by have := RA.lt; omega
        have hbB : bx ≠ bB := by have := RB.lt; omega
        have r2 : ∀ Y, But (fun q => q = bA ∨ q = bB) w7 Y → Y.cell? ⟨p, 2, none⟩ = some (.slice (some ⟨bA, 0, none⟩) n cA) := fun Y h => (XW7.but h (by omega)).at_ 2 rfl
        have r3 : ∀ Y, But (fun q => q = bA ∨ q = bB) w7 Y → Y.cell? ⟨p, 3, none⟩ = some (.slice (some ⟨bB, 0, none⟩) n cB) := fun Y h => (XW7.but h (by omega)).at_ 3 rfl
        have q0 : ∀ Y, But (fun q => q = bA ∨ q = bB) w7 Y → Y.cell? ⟨bx, 0, none⟩ = some (.int .i64 (Fa i).e) := fun Y h => (XB7.but h (by omega)).at_ 0 rfl
        have q1 : ∀ Y, But (fun q => q = bA ∨ q = bB) w7 Y → Y.cell? ⟨bx, 1, none⟩ = some (.int .i64 (Fa i).n) := fun Y h => (XB7.but h (by omega)).at_ 1 rfl
        have q2 : ∀ Y, But (fun q => q = bA ∨ q = bB) w7 Y → Y.cell? ⟨bx, 2, none⟩ = some (.int .i64 (Fa i).w) := fun Y h => (XB7.but h (by omega)).at_ 2 rfl
        have q3 : ∀ Y, But (fun q => q = bA ∨ q = bB) w7 Y → Y.cell? ⟨bx, 3, none⟩ = some (.int .i64 (Fa i).s) := fun Y h => (XB7.but h (by omega)).at_ 3 rfl
        have q4 : ∀ Y, But (fun q => q = bA ∨ q = bB) w7 Y → Y.cell? ⟨bx, 4, none⟩ = some (.int .i64 (Fb i).e) := fun Y h => (XB7.but h (by omega)).at_ 4 rfl
        have q5 : ∀ Y, But (fun q => q = bA ∨ q = bB) w7 Y → Y.cell? ⟨bx, 5, none⟩ = some (.int .i64 (Fb i).n) := fun Y h => (XB7.but h (by omega)).at_ 5 rfl
        have q6 : ∀ Y, But (fun q => q = bA ∨ q = bB) w7 Y → Y.cell? ⟨bx, 6, none⟩ = some (.int .i64 (Fb i).w) := fun Y h => (XB7.but h (by omega)).at_ 6 rfl
        have q7 : ∀ Y, But (fun q => q = bA ∨ q = bB) w7 Y → Y.cell? ⟨bx, 7, none⟩ = some (.int .i64 (Fb i).s) := fun Y h => (XB7.but h (by omega)).at_ 7 rfl
        clear x2 x3 xz z0 z1 z2 z3 z4 z5 z6 z7
        go_upto_region 4 with (fail)
        have e1 : But (fun q => q = bA ∨ q = bB) w7 ((((w7.setCell ⟨bA, i * 4, none⟩ (.int .i64 (Fa i).e)).setCell ⟨bA, i * 4 + 1, none⟩ (.int .i64 (Fa i).n)).setCell ⟨bA, i * 4 + 2, none⟩ (.int .i64 (Fa i).w)).setCell ⟨bA, i * 4 + 3, none⟩ (.int .i64 (Fa i).s)) := (But.set_ (But.set_ (But.set_ (But.set_ (But.refl (fun q => q = bA ∨ q = bB) w7) (p := ⟨bA, i * 4, none⟩) (.inl rfl) (.int .i64 (Fa i).e)) (p := ⟨bA, i * 4 + 1, none⟩) (.inl rfl) (.int .i64 (Fa i).n)) (p := ⟨bA, i * 4 + 2, none⟩) (.inl rfl) (.int .i64 (Fa i).w)) (p := ⟨bA, i * 4 + 3, none⟩) (.inl rfl) (.int .i64 (Fa i).s))
        have e2 : But (fun q => q = bA ∨ q = bB) w7 ((((((((w7.setCell ⟨bA, i * 4, none⟩ (.int .i64 (Fa i).e)).setCell ⟨bA, i * 4 + 1, none⟩ (.int .i64 (Fa i).n)).setCell ⟨bA, i * 4 + 2, none⟩ (.int .i64 (Fa i).w)).setCell ⟨bA, i * 4 + 3, none⟩ (.int .i64 (Fa i).s)).setCell ⟨bB, i * 4, none⟩ (.int .i64 (Fb i).e)).setCell ⟨bB, i * 4 + 1, none⟩ (.int .i64 (Fb i).n)).setCell ⟨bB, i * 4 + 2, none⟩ (.int .i64 (Fb i).w)).setCell ⟨bB, i * 4 + 3, none⟩ (.int .i64 (Fb i).s)) := (But.set_ (But.set_ (But.set_ (But.set_ e1 (p := ⟨bB, i * 4, none⟩) (.inr rfl) (.int .i64 (Fb i).e)) (p := ⟨bB, i * 4 + 1, none⟩) (.inr rfl) (.int .i64 (Fb i).n)) (p := ⟨bB, i * 4 + 2, none⟩) (.inr rfl) (.int .i64 (Fb i).w)) (p := ⟨bB, i * 4 + 3, none⟩) (.inr rfl) (.int .i64 (Fb i).s))
        refine wp_region_S (fun Y => But (fun q => q = bA ∨ q = bB) w7 Y) 20 (by kernel_rfl) ?_
        refine anyS_pure (i := 0) rfl (by kernel_rfl) (fun _ _ _ h => h) (Or.inl ⟨by rfl, fun Y hYb => (by clear hYb; go_simp; rfl)⟩) ?_
        refine anyS_pure (i := 1) rfl (by kernel_rfl) (fun _ _ _ h => h) (Or.inl ⟨by rfl, fun Y hYb => (by clear hYb; go_simp; rfl)⟩) ?_
        refine anyS_pure (i := 2) rfl (by kernel_rfl) (fun _ _ _ h => h) (Or.inl ⟨by rfl, fun Y hYb => (by clear hYb; go_simp; rfl)⟩) ?_
        refine anyS_pure (i := 3) rfl (by kernel_rfl) (fun _ _ _ h => h) (Or.inl ⟨by rfl, fun Y hYb => (by clear hYb; go_simp; rfl)⟩) ?_
        refine anyS_take (i := 4) rfl (by kernel_rfl) (fun _ _ _ h => h) (Or.inl ⟨by rfl, fun Y hYb => (by (try dsimp only at hYb); go_simp; rfl)⟩) (by repeat' (first | with_reducible assumption | with_reducible exact But.refl _ _ | with_reducible refine But.drew ?_ | with_reducible refine But.drewN ?_ _)) ?_
        refine anyS_pure (i := 5) rfl (by kernel_rfl) (fun _ _ _ h => h) (Or.inl ⟨by rfl, fun Y hYb => (by clear hYb; go_simp; rfl)⟩) ?_
        refine anyS_pure (i := 6) rfl (by kernel_rfl) (fun _ _ _ h => h) (Or.inl ⟨by rfl, fun Y hYb => (by clear hYb; go_simp; rfl)⟩) ?_
        refine anyS_pure (i := 7) rfl (by kernel_rfl) (fun _ _ _ h => h) (Or.inl ⟨by rfl, fun Y hYb => (by clear hYb; go_simp; rfl)⟩) ?_
        refine anyS_pure (i := 8) rfl (by kernel_rfl) (fun _ _ _ h => h) (Or.inl ⟨by rfl, fun Y hYb => (by clear hYb; go_simp; rfl)⟩) ?_
        refine anyS_pure (i := 9) rfl (by kernel_rfl) (fun _ _ _ h => h) (Or.inl ⟨by rfl, fun Y hYb => (by clear hYb; go_simp; rfl)⟩) ?_
        refine anyS_take (i := 10) rfl (by kernel_rfl) (fun _ _ _ h => h) (Or.inl ⟨by rfl, fun Y hYb => (by (try dsimp only at hYb); go_simp; rfl)⟩) (by repeat' (first | with_reducible assumption | with_reducible exact But.refl _ _ | with_reducible refine But.drew ?_ | with_reducible refine But.drewN ?_ _)) ?_
        refine anyS_pure (i := 11) rfl (by kernel_rfl) (fun _ _ _ h => h) (Or.inl ⟨by rfl, fun Y hYb => (by clear hYb; go_simp; rfl)⟩) ?_
        refine anyS_pure (i := 12) rfl (by kernel_rfl) (fun _ _ _ h => h) (Or.inl ⟨by rfl, fun Y hYb => (by clear hYb; go_simp; rfl)⟩) ?_
        refine anyS_take (i := 13) rfl (by kernel_rfl) (fun _ _ _ h => h) (Or.inl ⟨by rfl, fun Y hYb => (by (try dsimp only at hYb); go_simp; rfl)⟩) (by repeat' (first | with_reducible assumption | with_reducible exact But.refl _ _ | with_reducible refine But.drew ?_ | with_reducible refine But.drewN ?_ _)) ?_
        refine anyS_pure (i := 14) rfl (by kernel_rfl) (fun _ _ _ h => h) (Or.inl ⟨by rfl, fun Y hYb => (by clear hYb; go_simp; rfl)⟩) ?_
        refine anyS_take (i := 15) rfl (by kernel_rfl) (fun _ _ _ h => h) (Or.inl ⟨by rfl, fun Y hYb => (by (try dsimp only at hYb); go_simp; rfl)⟩) (by repeat' (first | with_reducible assumption | with_reducible exact But.refl _ _ | with_reducible refine But.drew ?_ | with_reducible refine But.drewN ?_ _)) ?_
        refine anyS_pure (i := 16) rfl (by kernel_rfl) (fun _ _ _ h => h) (Or.inl ⟨by rfl, fun Y hYb => (by clear hYb; go_simp; rfl)⟩) ?_
        clear r2 r3 q0 q1 q2 q3 q4 q5 q6 q7
        refine anyS_one (i := 17) (by kernel_rfl) rfl (by rfl) (fun K hK => ?_)
        go_simp
        refine hK _ _ (fun _ _ => e1.drew) ?_
        clear hK K
        refine anyS_pure (i := 18) rfl (by kernel_rfl) (fun _ _ _ h => h) (Or.inl ⟨by rfl, fun Y hYb => (by clear hYb; go_simp; rfl)⟩) ?_
        refine anyS_one (i := 19) (by kernel_rfl) rfl (by rfl) (fun K hK => ?_)
        go_simp
        refine hK _ _ (fun _ _ => e2.drew) ?_
        clear hK K
        refine anyS_done (by kernel_rfl) ?_ _
        have hUF : But (fun q => q = bA ∨ q = bB) w ((((((((w7.setCell ⟨bA, i * 4, none⟩ (.int .i64 (Fa i).e)).setCell ⟨bA, i * 4 + 1, none⟩ (.int .i64 (Fa i).n)).setCell ⟨bA, i * 4 + 2, none⟩ (.int .i64 (Fa i).w)).setCell ⟨bA, i * 4 + 3, none⟩ (.int .i64 (Fa i).s)).setCell ⟨bB, i * 4, none⟩ (.int .i64 (Fb i).e)).setCell ⟨bB, i * 4 + 1, none⟩ (.int .i64 (Fb i).n)).setCell ⟨bB, i * 4 + 2, none⟩ (.int .i64 (Fb i).w)).setCell ⟨bB, i * 4 + 3, none⟩ (.int .i64 (Fb i).s)) := (hU.trans (but_below hB7 (Nat.le_refl _))).trans e2
        have RAF : Ro ((((((((w7.setCell ⟨bA, i * 4, none⟩ (.int .i64 (Fa i).e)).setCell ⟨bA, i * 4 + 1, none⟩ (.int .i64 (Fa i).n)).setCell ⟨bA, i * 4 + 2, none⟩ (.int .i64 (Fa i).w)).setCell ⟨bA, i * 4 + 3, none⟩ (.int .i64 (Fa i).s)).setCell ⟨bB, i * 4, none⟩ (.int .i64 (Fb i).e)).setCell ⟨bB, i * 4 + 1, none⟩ (.int .i64 (Fb i).n)).setCell ⟨bB, i * 4 + 2, none⟩ (.int .i64 (Fb i).w)).setCell ⟨bB, i * 4 + 3, none⟩ (.int .i64 (Fb i).s)) bA (n * 4) (flatC (ovC Fa A (i + 1))) := by
          rw [ovC_succ]; exact (((((RA7.setC i (Fa i)).far (p := ⟨bB, i * 4, none⟩) (Ne.symm hAB) (.int .i64 (Fb i).e)).far (p := ⟨bB, i * 4 + 1, none⟩) (Ne.symm hAB) (.int .i64 (Fb i).n)).far (p := ⟨bB, i * 4 + 2, none⟩) (Ne.symm hAB) (.int .i64 (Fb i).w)).far (p := ⟨bB, i * 4 + 3, none⟩) (Ne.symm hAB) (.int .i64 (Fb i).s))
        have RBF : Ro ((((((((w7.setCell ⟨bA, i * 4, none⟩ (.int .i64 (Fa i).e)).setCell ⟨bA, i * 4 + 1, none⟩ (.int .i64 (Fa i).n)).setCell ⟨bA, i * 4 + 2, none⟩ (.int .i64 (Fa i).w)).setCell ⟨bA, i * 4 + 3, none⟩ (.int .i64 (Fa i).s)).setCell ⟨bB, i * 4, none⟩ (.int .i64 (Fb i).e)).setCell ⟨bB, i * 4 + 1, none⟩ (.int .i64 (Fb i).n)).setCell ⟨bB, i * 4 + 2, none⟩ (.int .i64 (Fb i).w)).setCell ⟨bB, i * 4 + 3, none⟩ (.int .i64 (Fb i).s)) bB (n * 4) (flatC (ovC Fb B (i + 1))) := by
          rw [ovC_succ]; exact ((((RB7.far (p := ⟨bA, i * 4, none⟩) hAB (.int .i64 (Fa i).e)).far (p := ⟨bA, i * 4 + 1, none⟩) hAB (.int .i64 (Fa i).n)).far (p := ⟨bA, i * 4 + 2, none⟩) hAB (.int .i64 (Fa i).w)).far (p := ⟨bA, i * 4 + 3, none⟩) hAB (.int .i64 (Fa i).s)).setC i (Fb i)
        clear e1 e2 a0 a1 a2 a3 b0 b1 b2 b3 af bf az bz zl
        go_wp2_with fail
        go_roundw
        case rel => exact ⟨i + 1, by omega, by go_num, RAF.drew, RBF.drew, hUF.drew⟩
        case measure => simp [intOf]; omega
    · obtain rfl : i = n := (by omega)
      have HA := hid (RA.congr (flatC_congr (fun j hj => ovC_lt hj)))
      have HB := hid (RB.congr (flatC_congr (fun j hj => ovC_lt hj)))
      go_wp2_with fail
      go_end0
      exact ⟨⟨_, rfl⟩, HA.out, HB.out, hU⟩
end Go.Proofs.YtpbobhobhbbimaaGreat
/- Walks: the program's run of a grid: steps, run. Walks: the program's run of a grid. Walks: the program's Run and Step of a grid. -/
namespace Go.Proofs.YtpbobhobhbbimaaGreat
open Go Go.RowKit
attribute [local go_sem] Oper.semAt_some
set_option linter.unusedVariables false
/-- the numbers of M steps from T on -/
def timesL (T M : Nat) : List Nat := (List.range M).map (fun k => T + k)
def encT (x : Nat) : Array Value := #[.int .i64 (x : Int)]
theorem timesL_succ (T M : Nat) : timesL T (M + 1) = timesL T M ++ [T + M] := by simp [timesL, List.range_succ]
theorem timesL_pre (T k : Nat) : ∀ n, k ≤ n → timesL T k <+: timesL T n
  | 0, h => by rw [show k = 0 from by omega]; exact List.prefix_refl _
  | n + 1, h => by
    rcases Nat.lt_or_ge k (n + 1) with h' | h'
    · rw [timesL_succ]; exact (timesL_pre T k n (by omega)).trans (List.prefix_append _ _)
    · rw [show k = n + 1 from by omega]; exact List.prefix_refl _
theorem timesL_mem {T M x : Nat} (h : x ∈ timesL T M) : ∃ k, k < M ∧ x = T + k := by
  simp only [timesL, List.mem_map, List.mem_range] at h
  obtain ⟨k, hk, rfl⟩ := h
  exact ⟨k, hk, rfl⟩
/-- steps by a list of numbers -/
def runL (W H nr : Nat) (r : Nat → Int × Int) (g : Nat → C4) (L : List Nat) : Nat → C4 := L.foldl (fun G s => stepG W H (rlAt nr r s) G) g
theorem runL_snoc (W H nr : Nat) (r : Nat → Int × Int) (g : Nat → C4) (L : List Nat) (s : Nat) : runL W H nr r g (L ++ [s]) = stepG W H (rlAt nr r s) (runL W H nr r g L) := by simp [runL, List.foldl_append]
theorem runL_ok {W H nr : Nat} {r : Nat → Int × Int} {g : Nat → C4} (h : okG (W * H) g) (L : List Nat) : okG (W * H) (runL W H nr r g L) := by
  unfold runL
  induction L generalizing g with
  | nil => exact h
  | cons x L ih => exact ih (stepW_ok h)
theorem runL_run (W H nr : Nat) (r : Nat → Int × Int) (g : Nat → C4) (T : Nat) : ∀ M, runL W H nr r g (timesL T M) = runW W H (rlAt nr r) (fun _ => 0) g T M
  | 0 => rfl
  | M + 1 => by rw [timesL_succ, runL_snoc, runL_run W H nr r g T M]; rfl
end Go.Proofs.YtpbobhobhbbimaaGreat
namespace Go.Proofs.YtpbobhobhbbimaaGreat
open Go Go.RowKit
attribute [local go_sem] Oper.semAt_some
set_option linter.unusedVariables false
theorem GRun.Ro.but {C : Nat → Prop} {X Y : World} {b n : Nat} {f : Nat → Int} (h : Ro X b n f) (hb : But C X Y) (hc : ¬ C b) : Ro Y b n f := by
  have e := hb.block b h.lt hc
  refine ⟨Nat.lt_of_lt_of_le h.lt hb.size, fun i hi => ?_, fun i => ?_⟩
  · rw [World.cell?_of_block (w := X) (a := ⟨b, i, none⟩) e]; exact h.cells i hi
  · rw [World.frozen?_of_block (w := X) (a := ⟨b, i, none⟩) e]; exact h.free i
end Go.Proofs.YtpbobhobhbbimaaGreat
