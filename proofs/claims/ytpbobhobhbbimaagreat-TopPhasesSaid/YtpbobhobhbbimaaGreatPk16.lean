/- Walks: a step of two phases: streamed, forth. -/
import Derived.Test.YtpbobhobhbbimaaGreatPk15
import Derived.Test.YtpbobhobhbbimaaGreatPk3
namespace Go.Proofs.YtpbobhobhbbimaaGreat
open Go Go.RowKit
set_option linter.unusedVariables false
set_option maxRecDepth 100000 in
set_option maxHeartbeats 4000000 in
theorem machine_streamed (W H n p bA bB cA cB nr cr cx : Nat) (ar ax : Option Addr) (A B : Nat → C4) (w : World) (h1 : 1 ≤ W ∧ W ≤ 64) (h2 : 1 ≤ H ∧ H ≤ 64) (hnn : n = W * H) (hm : W * H ≤ 1024) (X : Bx w p #[.int .i64 (W : Int), .int .i64 (H : Int), .slice (some ⟨bA, 0, none⟩) n cA, .slice (some ⟨bB, 0, none⟩) n cB, .slice ar nr cr, .slice ax 1 cx]) (RA : Ro w bA (n * 4) (flatC A)) (RB : Ro w bB (n * 4) (flatC B)) (hA : okG (W * H) A) (hB : okG (W * H) B) :
    Calls Tryz.prog 50 #[.pointer (some ⟨p, 0, none⟩), .func (.func 51) #[] #[]] w fun e w' => (∃ v, e = .returned v) ∧ ∃ bA' cA' bB' cB', Bx w' p #[.int .i64 (W : Int), .int .i64 (H : Int), .slice (some ⟨bA', 0, none⟩) n cA', .slice (some ⟨bB', 0, none⟩) n cB', .slice ar nr cr, .slice ax 1 cx] ∧ Ro w' bA' (n * 4) (flatC (flow W H A)) ∧ Ro w' bB' (n * 4) (flatC (flow W H B)) ∧ w.heap.size ≤ bA' ∧ w.heap.size ≤ bB' ∧ bA' ≠ bB' ∧ n ≤ cA' ∧ n ≤ cB' ∧ But (fun q => q = p) w w' := by
  have hst := fun ca Y S => grid_Stream W H (some ⟨bA, 0, none⟩) ca A Y h1 h2 hm S hA
  have hst2 := fun ca Y S => grid_Stream W H (some ⟨bB, 0, none⟩) ca B Y h1 h2 hm S hB
  have hf := fun Y => phase_first W H (some ⟨bA, 0, none⟩) (some ⟨bB, 0, none⟩) n n cA cB Y
  have hs := fun Y => phase_second W H (some ⟨bA, 0, none⟩) (some ⟨bB, 0, none⟩) n n cA cB Y
  rw [← hnn] at hst hst2
  clear hnn hm h1 h2 hA hB
  generalize flow W H A = A' at *
  generalize flow W H B = B' at *
  have zp := X.lt
  have x0 := X.at_ 0 rfl; have x1 := X.at_ 1 rfl; have x2 := X.at_ 2 rfl; have x3 := X.at_ 3 rfl
  go_enter Tryz.func50, Tryz.ntmps50
  go_wp2_with fail
  refine (hf _).mono ?_
  rintro e w1 ⟨rfl, hb1⟩
  clear x0 x1 x2 x3
  go_wp2_with fail
  refine (hst _ _ (RA.below hb1).sc).mono ?_
  rintro e w2 ⟨b1, c1, rfl, hb1', R1, hc1, hb2⟩
  have hB2 := bvia hb1 hb2
  have hs1 := hb1.size; have hs2 := hb2.size
  have XG := Bx.new w2 #[.int .i64 (W : Int), .int .i64 (H : Int), .slice (some ⟨b1, 0, none⟩) n c1] 29
  have hB3 := balloc hB2 (.cells #[.int .i64 (W : Int), .int .i64 (H : Int), .slice (some ⟨b1, 0, none⟩) n c1] 29)
  have R3 := R1.alloc (.cells #[.int .i64 (W : Int), .int .i64 (H : Int), .slice (some ⟨b1, 0, none⟩) n c1] 29)
  have X3 := X.below hB3
  have zb1 := R1.lt
  clear hb1 hb2 hst hf hB2 R1
  have x0 := X3.at_ 0 rfl; have x1 := X3.at_ 1 rfl; have x2 := X3.at_ 2 rfl; have x3 := X3.at_ 3 rfl
  go_wp2_with fail
  refine (hs _).mono ?_
  rintro e w4 ⟨rfl, hb4⟩
  have hs4 := hb4.size
  simp only [World.size_alloc] at hs4
  replace XG := XG.below hb4; replace R3 := R3.below hb4
  have hB4 := bvia hB3 hb4
  clear x0 x1 x2 x3 X3 hB3 hb4
  go_wp2_with fail
  refine (hst2 _ _ (RB.below hB4).sc).mono ?_
  rintro e w5 ⟨b2, c2, rfl, hb2', R2, hc2, hb5⟩
  have hB5 := bvia hB4 hb5
  have hs5 := hb5.size
  have XH := Bx.new w5 #[.int .i64 (W : Int), .int .i64 (H : Int), .slice (some ⟨b2, 0, none⟩) n c2] 29
  have hB6 := balloc hB5 (.cells #[.int .i64 (W : Int), .int .i64 (H : Int), .slice (some ⟨b2, 0, none⟩) n c2] 29)
  have R6 := R2.alloc (.cells #[.int .i64 (W : Int), .int .i64 (H : Int), .slice (some ⟨b2, 0, none⟩) n c2] 29)
  replace R3 := (R3.below hb5).alloc (.cells #[.int .i64 (W : Int), .int .i64 (H : Int), .slice (some ⟨b2, 0, none⟩) n c2] 29)
  replace XG := (XG.below hb5).alloc (.cells #[.int .i64 (W : Int), .int .i64 (H : Int), .slice (some ⟨b2, 0, none⟩) n c2] 29)
  have zb2 := R2.lt
  clear hb5 hB4 hst2 hs RA RB hB5 R2
  go_upto_region 2 with (fail)
  have zx : w5.heap.size < (w5.alloc (.cells #[.int .i64 (W : Int), .int .i64 (H : Int), .slice (some ⟨b2, 0, none⟩) n c2] 29)).heap.size := by simp
  generalize w5.alloc (.cells #[.int .i64 (W : Int), .int .i64 (H : Int), .slice (some ⟨b2, 0, none⟩) n c2] 29) = w6 at *
  replace X := X.below hB6
  have xf := X.free; have x2 := X.at_ 2 rfl; have x3 := X.at_ 3 rfl
  have n1 : w2.heap.size ≠ p := by omega
  have n2 : w5.heap.size ≠ p := by omega
  have r1 : ∀ Y, But (fun q => q = p) w6 Y → Y.cell? ⟨w2.heap.size, 2, none⟩ = some (.slice (some ⟨b1, 0, none⟩) n c1) := fun Y h => (XG.but h n1).at_ 2 rfl
  have r2 : ∀ Y, But (fun q => q = p) w6 Y → Y.cell? ⟨w5.heap.size, 2, none⟩ = some (.slice (some ⟨b2, 0, none⟩) n c2) := fun Y h => (XH.but h n2).at_ 2 rfl
  have e1 : But (fun q => q = p) w6 (w6.setCell ⟨p, 2, none⟩ (.slice (some ⟨b1, 0, none⟩) n c1)) := But.set_ (But.refl (fun q => q = p) w6) (p := ⟨p, 2, none⟩) rfl _
  have e2 : But (fun q => q = p) w6 ((w6.setCell ⟨p, 2, none⟩ (.slice (some ⟨b1, 0, none⟩) n c1)).setCell ⟨p, 3, none⟩ (.slice (some ⟨b2, 0, none⟩) n c2)) := But.set_ e1 (p := ⟨p, 3, none⟩) rfl _
  refine wp_region_S (fun Y => But (fun q => q = p) w6 Y) 14 (by kernel_rfl) ?_
  refine anyS_pure (i := 0) rfl (by kernel_rfl) (fun _ _ _ h => h) (Or.inl ⟨by rfl, fun Y hYb => (by clear hYb; go_simp; rfl)⟩) ?_
  refine anyS_pure (i := 1) rfl (by kernel_rfl) (fun _ _ _ h => h) (Or.inl ⟨by rfl, fun Y hYb => (by clear hYb; go_simp; rfl)⟩) ?_
  refine anyS_pure (i := 2) rfl (by kernel_rfl) (fun _ _ _ h => h) (Or.inl ⟨by rfl, fun Y hYb => (by clear hYb; go_simp; rfl)⟩) ?_
  refine anyS_take (i := 3) rfl (by kernel_rfl) (fun _ _ _ h => h) (Or.inl ⟨by rfl, fun Y hYb => (by (try dsimp only at hYb); go_simp; rfl)⟩) (by repeat' (first | with_reducible assumption | with_reducible exact But.refl _ _ | with_reducible refine But.drew ?_ | with_reducible refine But.drewN ?_ _)) ?_
  refine anyS_pure (i := 4) rfl (by kernel_rfl) (fun _ _ _ h => h) (Or.inl ⟨by rfl, fun Y hYb => (by clear hYb; go_simp; rfl)⟩) ?_
  refine anyS_take (i := 5) rfl (by kernel_rfl) (fun _ _ _ h => h) (Or.inl ⟨by rfl, fun Y hYb => (by (try dsimp only at hYb); go_simp; rfl)⟩) (by repeat' (first | with_reducible assumption | with_reducible exact But.refl _ _ | with_reducible refine But.drew ?_ | with_reducible refine But.drewN ?_ _)) ?_
  refine anyS_pure (i := 6) rfl (by kernel_rfl) (fun _ _ _ h => h) (Or.inl ⟨by rfl, fun Y hYb => (by clear hYb; go_simp; rfl)⟩) ?_
  refine anyS_pure (i := 7) rfl (by kernel_rfl) (fun _ _ _ h => h) (Or.inl ⟨by rfl, fun Y hYb => (by clear hYb; go_simp; rfl)⟩) ?_
  refine anyS_pure (i := 8) rfl (by kernel_rfl) (fun _ _ _ h => h) (Or.inl ⟨by rfl, fun Y hYb => (by clear hYb; go_simp; rfl)⟩) ?_
  clear r1 r2
  refine anyS_one (i := 9) (by kernel_rfl) rfl (by rfl) (fun K hK => ?_)
  go_simp
  refine hK _ _ (fun _ _ => e1.drew) ?_
  clear hK K
  refine anyS_pure (i := 10) rfl (by kernel_rfl) (fun _ _ _ h => h) (Or.inl ⟨by rfl, fun Y hYb => (by clear hYb; go_simp; rfl)⟩) ?_
  refine anyS_pure (i := 11) rfl (by kernel_rfl) (fun _ _ _ h => h) (Or.inl ⟨by rfl, fun Y hYb => (by clear hYb; go_simp; rfl)⟩) ?_
  refine anyS_pure (i := 12) rfl (by kernel_rfl) (fun _ _ _ h => h) (Or.inl ⟨by rfl, fun Y hYb => (by clear hYb; go_simp; rfl)⟩) ?_
  refine anyS_one (i := 13) (by kernel_rfl) rfl (by rfl) (fun K hK => ?_)
  go_simp
  refine hK _ _ (fun _ _ => e2.drew) ?_
  clear hK K
  refine anyS_done (by kernel_rfl) ?_ _
  have XF := (X.set_ 2 (by simp) (.slice (some ⟨b1, 0, none⟩) n c1)).set_ 3 (by simp) (.slice (some ⟨b2, 0, none⟩) n c2)
  simp only [List.setIfInBounds_toArray, List.set_cons_zero, List.set_cons_succ] at XF
  have RF1 := (R3.far (p := ⟨p, 2, none⟩) (by dsimp only; omega) (.slice (some ⟨b1, 0, none⟩) n c1)).far (p := ⟨p, 3, none⟩) (by dsimp only; omega) (.slice (some ⟨b2, 0, none⟩) n c2)
  have RF2 := (R6.far (p := ⟨p, 2, none⟩) (by dsimp only; omega) (.slice (some ⟨b1, 0, none⟩) n c1)).far (p := ⟨p, 3, none⟩) (by dsimp only; omega) (.slice (some ⟨b2, 0, none⟩) n c2)
  have hUF := (but_below (C := fun q => q = p) hB6 (Nat.le_refl _)).trans e2
  clear e1 e2 xf x2 x3
  go_wp2_with fail
  go_end0
  exact ⟨⟨_, rfl⟩, b1, c1, b2, c2, XF.drew, RF1.drew, RF2.drew, by omega, by omega, by omega, hc1, hc2, hUF.drew⟩
theorem massTo_ge {g : Nat → C4} : ∀ {n}, (∀ i, i < n → validC (g i) = true) → ∀ i, i < n → (g i).mass ≤ massTo g n
  | 0, _, i, hi => absurd hi (by omega)
  | n + 1, hv, i, hi => by
    have h0 := massTo_nonneg g n fun j hj => hv j (by omega)
    have hn := (validC_iff _).1 (hv n (by omega))
    simp only [massTo]
    by_cases e : i = n
    · subst e; unfold C4.mass at *; omega
    · have := massTo_ge (n := n) (fun j hj => hv j (by omega)) i (by omega)
      unfold C4.mass at *; omega
theorem deed_at (f0 f1 f2 : Nat) (l0 l1 l2 : Array Value) (w : World) :
    (Instr.index 96 (.agg #[.func (.func f0) #[] l0, .func (.func f1) #[] l1, .func (.func f2) #[] l2]) (.int .i64 0)).run Tryz.prog w = .ok (.func (.func f0) #[] l0) w ∧
    (Instr.index 96 (.agg #[.func (.func f0) #[] l0, .func (.func f1) #[] l1, .func (.func f2) #[] l2]) (.int .i64 1)).run Tryz.prog w = .ok (.func (.func f1) #[] l1) w ∧
    (Instr.index 96 (.agg #[.func (.func f0) #[] l0, .func (.func f1) #[] l1, .func (.func f2) #[] l2]) (.int .i64 2)).run Tryz.prog w = .ok (.func (.func f2) #[] l2) w := by
  refine ⟨by kernel_rfl, by kernel_rfl, by kernel_rfl⟩
theorem ent_deed1 : ∀ args w, (callFunc 69 args).run Tryz.prog w = .ok (.enter 69 args) w := Go.Proofs.enters_of Tryz.func69 (by kernel_rfl) rfl
theorem ent_deed2 : ∀ args w, (callFunc 70 args).run Tryz.prog w = .ok (.enter 70 args) w := Go.Proofs.enters_of Tryz.func70 (by kernel_rfl) rfl
theorem ent_deed3 : ∀ args w, (callFunc 72 args).run Tryz.prog w = .ok (.enter 72 args) w := Go.Proofs.enters_of Tryz.func72 (by kernel_rfl) rfl
set_option maxRecDepth 100000 in
set_option maxHeartbeats 8000000 in
/-- a step of both phases without exchanges -/
theorem phase_forth (W H n p t bA bB cA cB nr cr cx : Nat) (ar ax : Option Addr) (r : Nat → Int × Int) (A B : Nat → C4) (w₀ w : World) (h1 : 1 ≤ W ∧ W ≤ 64) (h2 : 1 ≤ H ∧ H ≤ 64) (hnn : n = W * H) (hm : W * H ≤ 1024) (hr0 : 0 < nr) (hr8 : nr ≤ 8) (ht : t ≤ 1000000)
    (hB0 : Below w₀.heap.size w₀ w) (hp : w₀.heap.size ≤ p) (hbA : w₀.heap.size ≤ bA) (hbB : w₀.heap.size ≤ bB) (hAB : bA ≠ bB) (hpA : p ≠ bA) (hpB : p ≠ bB)
    (SR : Sr w₀ ar nr r) (SX : Sr w₀ ax 1 (fun _ => (0, 0))) (X : Bx w p #[.int .i64 (W : Int), .int .i64 (H : Int), .slice (some ⟨bA, 0, none⟩) n cA, .slice (some ⟨bB, 0, none⟩) n cB, .slice ar nr cr, .slice ax 1 cx]) (RA : Ro w bA (n * 4) (flatC A)) (RB : Ro w bB (n * 4) (flatC B)) (hA : okG (W * H) A) (hB : okG (W * H) B) (hmm : massTo A (W * H) + massTo B (W * H) ≤ 1000000000)
    (hru : ruleOk (rlAt nr r t).1 (rlAt nr r t).2) :
    Calls Tryz.prog 24 #[.pointer (some ⟨p, 0, none⟩), .int .i64 (t : Int)] w fun e w' => (∃ v, e = .returned v) ∧ ∃ bA' cA' bB' cB', Bx w' p #[.int .i64 (W : Int), .int .i64 (H : Int), .slice (some ⟨bA', 0, none⟩) n cA', .slice (some ⟨bB', 0, none⟩) n cB', .slice ar nr cr, .slice ax 1 cx] ∧ Ro w' bA' (n * 4) (flatC (stepG W H (rlAt nr r t) A)) ∧ Ro w' bB' (n * 4) (flatC (stepG W H (rlAt nr r t) B)) ∧ w.heap.size ≤ bA' ∧ w.heap.size ≤ bB' ∧ bA' ≠ bB' ∧ n ≤ cA' ∧ n ≤ cB' ∧ But (fun q => q = p ∨ q = bA ∨ q = bB) w w' := by
  have hde := fun Y X' => machine_deeds W H n p t bA bB cA cB nr cr cx ar ax r (fun _ => (0, 0)) Y hr0 hr8 ht X'
  have hal := fun gf lb Fa Fb A' B' Y X' RA' RB' hf eg => machine_all W H n p bA bB cA cB gf lb (.slice ar nr cr) (.slice ax 1 cx) Fa Fb A' B' Y (by have := h1.2; have := h2.2; omega) X' RA' RB' hAB hpA hpB hf eg
  have hsr := fun Y A' B' X' RA' RB' hA' hB' => machine_streamed W H n p bA bB cA cB nr cr cx ar ax A' B' Y h1 h2 hnn hm X' RA' RB' hA' hB'
  go_enter Tryz.func24, Tryz.ntmps24
  go_wp2_with fail
  refine (hde _ X (SR.below hB0) (SX.below hB0)).mono ?_
  rintro e w1 ⟨bc, br, bs, rfl, XC, XR, XS, hc1, hc2, hc3, hb1⟩
  have hs1 := hb1.size
  have za := RA.lt; have zb := RB.lt; have zp := X.lt
  have hv1 : ∀ i, i < W * H → validC (collF (rlAt nr r t).1 (rlAt nr r t).2 A i) = true := fun i hi => coll_valid (hA.1 i hi)
  have hv2 : ∀ i, i < W * H → validC (collF (rlAt nr r t).1 (rlAt nr r t).2 B i) = true := fun i hi => coll_valid (hB.1 i hi)
  have hmA : massTo (collF (rlAt nr r t).1 (rlAt nr r t).2 A) (W * H) = massTo A (W * H) := massTo_masses fun i _ => coll_mass _ _ _
  have hmB : massTo (collF (rlAt nr r t).1 (rlAt nr r t).2 B) (W * H) = massTo B (W * H) := massTo_masses fun i _ => coll_mass _ _ _
  have hfA : flow W H (collF (rlAt nr r t).1 (rlAt nr r t).2 A) = stepG W H (rlAt nr r t) A := by rw [collF_met]; rfl
  have hfB : flow W H (collF (rlAt nr r t).1 (rlAt nr r t).2 B) = stepG W H (rlAt nr r t) B := by rw [collF_met]; rfl
  have HD1 := hid (show ∀ i, i < n → ∀ Y, But (fun q => q = bA ∨ q = bB) w1 Y → Calls Tryz.prog 69 (#[.agg #[.int .i64 (A i).e, .int .i64 (A i).n, .int .i64 (A i).w, .int .i64 (A i).s, .int .i64 (B i).e, .int .i64 (B i).n, .int .i64 (B i).w, .int .i64 (B i).s]] ++ #[.pointer (some ⟨bc, 0, none⟩), .pointer (some ⟨br, 0, none⟩)]) Y fun e Y' => e = .returned (.agg #[.int .i64 (collF (rlAt nr r t).1 (rlAt nr r t).2 A i).e, .int .i64 (collF (rlAt nr r t).1 (rlAt nr r t).2 A i).n, .int .i64 (collF (rlAt nr r t).1 (rlAt nr r t).2 A i).w, .int .i64 (collF (rlAt nr r t).1 (rlAt nr r t).2 A i).s, .int .i64 (collF (rlAt nr r t).1 (rlAt nr r t).2 B i).e, .int .i64 (collF (rlAt nr r t).1 (rlAt nr r t).2 B i).n, .int .i64 (collF (rlAt nr r t).1 (rlAt nr r t).2 B i).w, .int .i64 (collF (rlAt nr r t).1 (rlAt nr r t).2 B i).s]) ∧ Below Y.heap.size Y Y' from
    fun i hi Y hY => deed_1 (A i) (B i) _ _ bc br Y (XC.but hY (by omega)) (XR.but hY (by omega)) (hA.1 i (by omega)) (hB.1 i (by omega)) hru)
  have HD2 := hid (show ∀ i, i < n → ∀ Y, But (fun q => q = bA ∨ q = bB) w1 Y → Calls Tryz.prog 70 (#[.agg #[.int .i64 (collF (rlAt nr r t).1 (rlAt nr r t).2 A i).e, .int .i64 (collF (rlAt nr r t).1 (rlAt nr r t).2 A i).n, .int .i64 (collF (rlAt nr r t).1 (rlAt nr r t).2 A i).w, .int .i64 (collF (rlAt nr r t).1 (rlAt nr r t).2 A i).s, .int .i64 (collF (rlAt nr r t).1 (rlAt nr r t).2 B i).e, .int .i64 (collF (rlAt nr r t).1 (rlAt nr r t).2 B i).n, .int .i64 (collF (rlAt nr r t).1 (rlAt nr r t).2 B i).w, .int .i64 (collF (rlAt nr r t).1 (rlAt nr r t).2 B i).s]] ++ #[.pointer (some ⟨bc, 0, none⟩), .pointer (some ⟨bs, 0, none⟩)]) Y fun e Y' => e = .returned (.agg #[.int .i64 (collF (rlAt nr r t).1 (rlAt nr r t).2 A i).e, .int .i64 (collF (rlAt nr r t).1 (rlAt nr r t).2 A i).n, .int .i64 (collF (rlAt nr r t).1 (rlAt nr r t).2 A i).w, .int .i64 (collF (rlAt nr r t).1 (rlAt nr r t).2 A i).s, .int .i64 (collF (rlAt nr r t).1 (rlAt nr r t).2 B i).e, .int .i64 (collF (rlAt nr r t).1 (rlAt nr r t).2 B i).n, .int .i64 (collF (rlAt nr r t).1 (rlAt nr r t).2 B i).w, .int .i64 (collF (rlAt nr r t).1 (rlAt nr r t).2 B i).s]) ∧ Below Y.heap.size Y Y' from
    fun i hi Y hY => deed_2 _ _ bc bs Y (XC.but hY (by omega)) (XS.but hY (by omega)) (hv1 i (by omega)) (hv2 i (by omega)) (by have := massTo_ge hv1 i (by omega); have := massTo_ge hv2 i (by omega); omega))
  have HD3 := hid (show ∀ i, i < n → ∀ Y, But (fun q => q = bA ∨ q = bB) w1 Y → Calls Tryz.prog 72 (#[.agg #[.int .i64 (collF (rlAt nr r t).1 (rlAt nr r t).2 A i).e, .int .i64 (collF (rlAt nr r t).1 (rlAt nr r t).2 A i).n, .int .i64 (collF (rlAt nr r t).1 (rlAt nr r t).2 A i).w, .int .i64 (collF (rlAt nr r t).1 (rlAt nr r t).2 A i).s, .int .i64 (collF (rlAt nr r t).1 (rlAt nr r t).2 B i).e, .int .i64 (collF (rlAt nr r t).1 (rlAt nr r t).2 B i).n, .int .i64 (collF (rlAt nr r t).1 (rlAt nr r t).2 B i).w, .int .i64 (collF (rlAt nr r t).1 (rlAt nr r t).2 B i).s]] ++ #[.pointer (some ⟨bc, 0, none⟩), .pointer (some ⟨bs, 0, none⟩)]) Y fun e Y' => e = .returned (.agg #[.int .i64 (collF (rlAt nr r t).1 (rlAt nr r t).2 A i).e, .int .i64 (collF (rlAt nr r t).1 (rlAt nr r t).2 A i).n, .int .i64 (collF (rlAt nr r t).1 (rlAt nr r t).2 A i).w, .int .i64 (collF (rlAt nr r t).1 (rlAt nr r t).2 A i).s, .int .i64 (collF (rlAt nr r t).1 (rlAt nr r t).2 B i).e, .int .i64 (collF (rlAt nr r t).1 (rlAt nr r t).2 B i).n, .int .i64 (collF (rlAt nr r t).1 (rlAt nr r t).2 B i).w, .int .i64 (collF (rlAt nr r t).1 (rlAt nr r t).2 B i).s]) ∧ Below Y.heap.size Y Y' from
    fun i hi Y hY => deed_3 _ _ bc bs Y (XC.but hY (by omega)) (XS.but hY (by omega)) (hv1 i (by omega)) (hv2 i (by omega)) (by have := massTo_ge hv1 i (by omega); have := massTo_ge hv2 i (by omega); omega))
  have HOK := hid (show okG (W * H) (collF (rlAt nr r t).1 (rlAt nr r t).2 A) ∧ okG (W * H) (collF (rlAt nr r t).1 (rlAt nr r t).2 B) from ⟨⟨hv1, by rw [hmA]; exact hA.2⟩, ⟨hv2, by rw [hmB]; exact hB.2⟩⟩)
  have HAL := hid hal; have HSR := hid hsr; have HFA := hid hfA; have HFB := hid hfB
  clear hv1 hv2 hmA hmB hfA hfB hal hsr hde hru hA hB hmm
  generalize collF (rlAt nr r t).1 (rlAt nr r t).2 A = A1 at *
  generalize collF (rlAt nr r t).1 (rlAt nr r t).2 B = B1 at *
  replace X := X.below hb1; replace RA := RA.below hb1; replace RB := RB.below hb1
  go_wp2_with fail
  go_loopw [9] (fun s wr => ∃ k : Nat, k ≤ 3 ∧ s = .int .i64 (k : Int) ∧ Ro wr bA (n * 4) (flatC (if k = 0 then A else A1)) ∧ Ro wr bB (n * 4) (flatC (if k = 0 then B else B1)) ∧ But (fun q => q = bA ∨ q = bB) w1 wr) (fun s _ => 3 - (intOf s).toNat)
  case atStart => exact ⟨0, by omega, rfl, RA, RB, But.refl _ _⟩
  case round =>
    clear RA RB
    obtain ⟨k, hk, rfl, RA, RB, hU⟩ := hrel
    rcases (by omega : k = 0 ∨ k = 1 ∨ k = 2 ∨ k = 3) with rfl | rfl | rfl | rfl
    · replace RA := RA.congr fun j _ => (show flatC (if 0 = 0 then A else A1) j = flatC A j from rfl)
      replace RB := RB.congr fun j _ => (show flatC (if 0 = 0 then B else B1) j = flatC B j from rfl)
      have XW := X.but hU (by omega)
      have hix := fun W => (deed_at 69 70 72 #[.pointer (some ⟨bc, 0, none⟩), .pointer (some ⟨br, 0, none⟩)] #[.pointer (some ⟨bc, 0, none⟩), .pointer (some ⟨bs, 0, none⟩)] #[.pointer (some ⟨bc, 0, none⟩), .pointer (some ⟨bs, 0, none⟩)] W).1
      have ha := HAL.out 69 _ A1 B1 A B wr XW RA RB (fun i hi Y hY => HD1.out i hi Y (hU.trans hY)) ent_deed1
      clear RA RB XW
      go_wp2_with fail
      refine ha.mono ?_
      rintro e w3 ⟨⟨v, rfl⟩, RA, RB, hU3⟩
      clear ha hix
      go_wp2_with fail
      go_roundw
      case rel => exact ⟨1, by omega, by go_num, RA.congr fun j _ => rfl, RB.congr fun j _ => rfl, hU.trans hU3⟩
      case measure => simp [intOf]
    · replace RA := RA.congr fun j _ => (show flatC (if 1 = 0 then A else A1) j = flatC A1 j from rfl)
      replace RB := RB.congr fun j _ => (show flatC (if 1 = 0 then B else B1) j = flatC B1 j from rfl)
      have XW := X.but hU (by omega)
      have hix := fun W => (deed_at 69 70 72 #[.pointer (some ⟨bc, 0, none⟩), .pointer (some ⟨br, 0, none⟩)] #[.pointer (some ⟨bc, 0, none⟩), .pointer (some ⟨bs, 0, none⟩)] #[.pointer (some ⟨bc, 0, none⟩), .pointer (some ⟨bs, 0, none⟩)] W).2.1
      have ha := HAL.out 70 _ A1 B1 A1 B1 wr XW RA RB (fun i hi Y hY => HD2.out i hi Y (hU.trans hY)) ent_deed2
      clear RA RB XW
      go_wp2_with fail
      refine ha.mono ?_
      rintro e w3 ⟨⟨v, rfl⟩, RA, RB, hU3⟩
      clear ha hix
      go_wp2_with fail
      go_roundw
      case rel => exact ⟨2, by omega, by go_num, RA.congr fun j _ => rfl, RB.congr fun j _ => rfl, hU.trans hU3⟩
      case measure => simp [intOf]
    · replace RA := RA.congr fun j _ => (show flatC (if 2 = 0 then A else A1) j = flatC A1 j from rfl)
      replace RB := RB.congr fun j _ => (show flatC (if 2 = 0 then B else B1) j = flatC B1 j from rfl)
      have XW := X.but hU (by omega)
      have hix := fun W => (deed_at 69 70 72 #[.pointer (some ⟨bc, 0, none⟩), .pointer (some ⟨br, 0, none⟩)] #[.pointer (some ⟨bc, 0, none⟩), .pointer (some ⟨bs, 0, none⟩)] #[.pointer (some ⟨bc, 0, none⟩), .pointer (some ⟨bs, 0, none⟩)] W).2.2
      have ha := HAL.out 72 _ A1 B1 A1 B1 wr XW RA RB (fun i hi Y hY => HD3.out i hi Y (hU.trans hY)) ent_deed3
      clear RA RB XW
      go_wp2_with fail
      refine ha.mono ?_
      rintro e w3 ⟨⟨v, rfl⟩, RA, RB, hU3⟩
      clear ha hix
      go_wp2_with fail
      go_roundw
      case rel => exact ⟨3, by omega, by go_num, RA.congr fun j _ => rfl, RB.congr fun j _ => rfl, hU.trans hU3⟩
      case measure => simp [intOf]
    · replace RA := RA.congr fun j _ => (show flatC (if 3 = 0 then A else A1) j = flatC A1 j from rfl)
      replace RB := RB.congr fun j _ => (show flatC (if 3 = 0 then B else B1) j = flatC B1 j from rfl)
      have XW := X.but hU (by omega)
      have hss := HSR.out wr A1 B1 XW RA RB HOK.out.1 HOK.out.2
      rw [HFA.out, HFB.out] at hss
      clear RA RB XW
      go_wp2_with fail
      refine hss.mono ?_
      rintro e w3 ⟨⟨v, rfl⟩, b1, c1, b2, c2, X3, RA, RB, k1, k2, k3, k4, k5, hU3⟩
      go_wp2_with fail
      go_end0
      have hs4 := hU.size
      refine ⟨⟨_, rfl⟩, b1, c1, b2, c2, X3, RA, RB, by omega, by omega, k3, k4, k5, ?_⟩
      exact ((but_below (C := fun q => q = p ∨ q = bA ∨ q = bB) hb1 (Nat.le_refl _)).trans (hU.mono fun q _ h => by omega)).trans (hU3.mono fun q _ h => by omega)
end Go.Proofs.YtpbobhobhbbimaaGreat
/- Walks: the run of two phases: steps, asked, of, Parts, Of, Run; the reference's Equal. -/
namespace Go.Proofs.YtpbobhobhbbimaaGreat
open Go Go.RowKit
attribute [local go_sem] Oper.semAt_some
set_option linter.unusedVariables false
theorem ent_psteps : ∀ args w, (callFunc 46 args).run Tryz.prog w = .ok (.enter 46 args) w := Go.Proofs.enters_of Tryz.func46 (by kernel_rfl) rfl
def MixRow (wide high : Int) (n m : Nat) (g k : Nat → C4) (w : World) (e : Ending) (w' : World) : Prop :=
  ∃ gA cA gB cB, e = .returned (.agg #[.int .i64 wide, .int .i64 high, .slice (some ⟨gA, 0, none⟩) n cA, .slice (some ⟨gB, 0, none⟩) m cB]) ∧ w.heap.size ≤ gA ∧ w.heap.size ≤ gB ∧ gA ≠ gB ∧ Ro w' gA (n * 4) (flatC g) ∧ Ro w' gB (m * 4) (flatC k) ∧ n ≤ cA ∧ m ≤ cB ∧ Below w.heap.size w w'
set_option maxRecDepth 100000 in
set_option maxHeartbeats 4000000 in
theorem phase_of (wide high wide2 high2 : Int) (a b : Option Addr) (n m c d : Nat) (g k : Nat → C4) (w : World) (hn : n ≤ 100000) (hm : m ≤ 100000) (h0 : 0 < n) (h1 : 0 < m) (S : Sc w a n g) (T : Sc w b m k) :
    Calls Tryz.prog 12 #[.agg #[.int .i64 wide, .int .i64 high, .slice a n c], .agg #[.int .i64 wide2, .int .i64 high2, .slice b m d]] w (MixRow wide high n m g k w) := by
  have X0 := ((Bx.new w #[.int .i64 wide, .int .i64 high, .slice a n c] 29).alloc (.cells #[.int .i64 wide2, .int .i64 high2, .slice b m d] 29)).alloc (.cells #[.int .i64 0, .int .i64 0, .slice none 0 0, .slice none 0 0] 24)
  have X1 := (Bx.new (w.alloc (.cells #[.int .i64 wide, .int .i64 high, .slice a n c] 29)) #[.int .i64 wide2, .int .i64 high2, .slice b m d] 29).alloc (.cells #[.int .i64 0, .int .i64 0, .slice none 0 0, .slice none 0 0] 24)
  have X2 := Bx.new ((w.alloc (.cells #[.int .i64 wide, .int .i64 high, .slice a n c] 29)).alloc (.cells #[.int .i64 wide2, .int .i64 high2, .slice b m d] 29)) #[.int .i64 0, .int .i64 0, .slice none 0 0, .slice none 0 0] 24
  simp only [World.size_alloc] at X1 X2
  have hB0 : Below w.heap.size w (((w.alloc (.cells #[.int .i64 wide, .int .i64 high, .slice a n c] 29)).alloc (.cells #[.int .i64 wide2, .int .i64 high2, .slice b m d] 29)).alloc (.cells #[.int .i64 0, .int .i64 0, .slice none 0 0, .slice none 0 0] 24)) := by (repeat' (first | with_reducible assumption | with_reducible exact Below.refl _ _ | with_reducible refine Below.drew ?_ | with_reducible refine below_drewN ?_ _ | with_reducible refine balloc ?_ _ | with_reducible refine bset ?_ ?_ _ | with_reducible refine Below.setCell ?_ ?_ _ | with_reducible refine Below.alloc ?_ ?_ _ | omega | (simp; done) | (simp; omega)))
  go_enter Tryz.func12, Tryz.ntmps12
  go_upto_region 1 with (fail)
  generalize (((w.alloc (.cells #[.int .i64 wide, .int .i64 high, .slice a n c] 29)).alloc (.cells #[.int .i64 wide2, .int .i64 high2, .slice b m d] 29)).alloc (.cells #[.int .i64 0, .int .i64 0, .slice none 0 0, .slice none 0 0] 24)) = W0 at X0 X1 X2 hB0 ⊢
  have z0 := X0.lt
  have z1 := X1.lt
  have z2 := X2.lt
  have IA := S.below hB0; have IB := T.below hB0
  have r0 : ∀ Y, Below W0.heap.size W0 Y → Y.cell? ⟨w.heap.size, 0, none⟩ = some (.int .i64 wide) := fun Y h => (X0.below h).at_ 0 rfl
  have r1 : ∀ Y, Below W0.heap.size W0 Y → Y.cell? ⟨w.heap.size, 1, none⟩ = some (.int .i64 high) := fun Y h => (X0.below h).at_ 1 rfl
  have r2 : ∀ Y, Below W0.heap.size W0 Y → Y.cell? ⟨w.heap.size, 2, none⟩ = some (.slice a n c) := fun Y h => (X0.below h).at_ 2 rfl
  have r3 : ∀ Y, Below W0.heap.size W0 Y → Y.cell? ⟨w.heap.size + 1, 2, none⟩ = some (.slice b m d) := fun Y h => (X1.below h).at_ 2 rfl
  refine wp_region_S (fun Y => Below W0.heap.size W0 Y) 11 (by kernel_rfl) ?_
  refine anyS_pure (i := 0) rfl (by kernel_rfl) (fun _ _ _ h => h) (Or.inl ⟨by rfl, fun Y hYb => (by clear hYb; go_simp; rfl)⟩) ?_
  refine anyS_pure (i := 2) rfl (by kernel_rfl) (fun _ _ _ h => h) (Or.inl ⟨by rfl, fun Y hYb => (by clear hYb; go_simp; rfl)⟩) ?_
  refine anyS_pure (i := 4) rfl (by kernel_rfl) (fun _ _ _ h => h) (Or.inl ⟨by rfl, fun Y hYb => (by clear hYb; go_simp; rfl)⟩) ?_
  refine anyS_pure (i := 7) rfl (by kernel_rfl) (fun _ _ _ h => h) (Or.inl ⟨by rfl, fun Y hYb => (by clear hYb; go_simp; rfl)⟩) ?_
  refine anyS_take (i := 1) rfl (by kernel_rfl) (fun _ _ _ h => h) (Or.inl ⟨by rfl, fun Y hYb => (by (try dsimp only at hYb); go_simp; rfl)⟩) (by repeat' (first | with_reducible assumption | with_reducible exact Below.refl _ _ | with_reducible refine Below.drew ?_ | with_reducible refine below_drewN ?_ _)) ?_
  refine anyS_take (i := 3) rfl (by kernel_rfl) (fun _ _ _ h => h) (Or.inl ⟨by rfl, fun Y hYb => (by (try dsimp only at hYb); go_simp; rfl)⟩) (by repeat' (first | with_reducible assumption | with_reducible exact Below.refl _ _ | with_reducible refine Below.drew ?_ | with_reducible refine below_drewN ?_ _)) ?_
  refine anyS_take (i := 5) rfl (by kernel_rfl) (fun _ _ _ h => h) (Or.inl ⟨by rfl, fun Y hYb => (by (try dsimp only at hYb); go_simp; rfl)⟩) (by repeat' (first | with_reducible assumption | with_reducible exact Below.refl _ _ | with_reducible refine Below.drew ?_ | with_reducible refine below_drewN ?_ _)) ?_
  refine anyS_take (i := 8) rfl (by kernel_rfl) (fun _ _ _ h => h) (Or.inl ⟨by rfl, fun Y hYb => (by (try dsimp only at hYb); go_simp; rfl)⟩) (by repeat' (first | with_reducible assumption | with_reducible exact Below.refl _ _ | with_reducible refine Below.drew ?_ | with_reducible refine below_drewN ?_ _)) ?_
  refine anyS_one (i := 6) (by kernel_rfl) rfl (by rfl) (fun K hK => ?_)
  go_simp
  refine (clone_cells a n c g _ hn h0 IA.drew).mono ?_
  rintro e w1 ⟨gA, cA, rfl, hgA, RA, hcA, hb1⟩
  dsimp only
  have hS1 : Below W0.heap.size W0 w1 := bvia (Below.refl _ W0).drew hb1
  refine hK _ _ (fun _ _ => hS1) ?_
  clear hK K
  refine anyS_one (i := 9) (by kernel_rfl) rfl (by rfl) (fun K hK => ?_)
  go_simp
  refine (clone_cells b m d k _ hm h1 (IB.below hS1)).mono ?_
  rintro e w2 ⟨gB, cB, rfl, hgB, RB, hcB, hb2⟩
  dsimp only
  have hS2 : Below W0.heap.size W0 w2 := bvia hS1 hb2
  refine hK _ _ (fun _ _ => hS2) ?_
  clear hK K r0 r1 r2 r3
  refine anyS_pure (i := 10) rfl (by kernel_rfl) (fun _ _ _ h => h) (Or.inl ⟨by rfl, fun Y hYb => (by clear hYb; go_simp; rfl)⟩) ?_
  replace X2 := X2.below hS2
  have y0 := X2.at_ 0 rfl; have y1 := X2.at_ 1 rfl; have y2 := X2.at_ 2 rfl; have y3 := X2.at_ 3 rfl; have yf := X2.free; have yz := X2.lt
  refine anyS_one (i := 11) (by kernel_rfl) rfl (by rfl) (fun K hK => ?_)
  go_simp
  refine hK _ _ (fun h _ => absurd h (by decide)) ?_
  clear hK K
  refine anyS_done (by kernel_rfl) ?_ _
  have g0 : W0.heap.size ≤ gA := hgA
  have g1 := RA.lt; have g2 := hb1.size
  have hne : gA ≠ gB := by omega
  have hs0 := hB0.size; have hs2 := hS2.size
  have hB := bvia hB0 hS2
  replace RA := RA.below hb2
  go_wp2_with fail
  have f1 : ∀ o, (⟨w.heap.size + 1 + 1, o, none⟩ : Addr).block ≠ gA := fun o => by dsimp only; omega
  have f2 : ∀ o, (⟨w.heap.size + 1 + 1, o, none⟩ : Addr).block ≠ gB := fun o => by dsimp only; omega
  refine bodyPost_ret (v := .agg #[.int .i64 wide, .int .i64 high, .slice (some ⟨gA, 0, none⟩) n cA, .slice (some ⟨gB, 0, none⟩) m cB]) (by simp [results, Tryz.results12, go_sem, y0, y1, y2, y3]) rfl ⟨gA, cA, gB, cB, rfl, by omega, by omega, hne, ?_, ?_, hcA, hcB, by (repeat' (first | with_reducible assumption | with_reducible exact Below.refl _ _ | with_reducible refine Below.drew ?_ | with_reducible refine below_drewN ?_ _ | with_reducible refine balloc ?_ _ | with_reducible refine bset ?_ ?_ _ | with_reducible refine Below.setCell ?_ ?_ _ | with_reducible refine Below.alloc ?_ ?_ _ | omega | (simp; done) | (simp; omega)))⟩
  · exact ((((RA.far (f1 0) _).far (f1 1) _).far (f1 2) _).far (f1 3) _)
  · exact ((((RB.far (f2 0) _).far (f2 1) _).far (f2 2) _).far (f2 3) _)
end Go.Proofs.YtpbobhobhbbimaaGreat
/- Walks: Parts, Of, asked, Run of two phases; the reference's Equal. -/
namespace Go.Proofs.YtpbobhobhbbimaaGreat
open Go Go.RowKit
attribute [local go_sem] Oper.semAt_some
set_option linter.unusedVariables false
theorem validG_pos {wide high : Int} {n : Nat} {g : Nat → C4} (h : validG wide high n g = true) : 0 < n ∧ n ≤ 1024 := by
  obtain ⟨a1, a2, a3, a4, a5, a6, a7, a8⟩ := (validG_iff _ _ _ _).1 h
  have : 0 < wide * high := Int.mul_pos (by omega) (by omega)
  omega
theorem ro_but {C : Nat → Prop} {X Y : World} {b n : Nat} {f : Nat → Int} (h : Ro X b n f) (hb : But C X Y) (hc : ¬ C b) : Ro Y b n f := GRun.Ro.but h hb hc
def PartsPost (v : Bool) (wide high : Int) (n m : Nat) (g k : Nat → C4) (w : World) (e : Ending) (w' : World) : Prop :=
  (v = false ∧ e = .returned (.tuple #[.agg #[.int .i64 0, .int .i64 0, .slice none 0 0], .agg #[.int .i64 0, .int .i64 0, .slice none 0 0], .int .i64 1]) ∧ Below w.heap.size w w') ∨
  (v = true ∧ ∃ gA cA gB cB, e = .returned (.tuple #[.agg #[.int .i64 wide, .int .i64 high, .slice (some ⟨gA, 0, none⟩) n cA], .agg #[.int .i64 wide, .int .i64 high, .slice (some ⟨gB, 0, none⟩) m cB], .int .i64 0]) ∧ Ro w' gA (n * 4) (flatC g) ∧ Ro w' gB (m * 4) (flatC k) ∧ Below w.heap.size w w')
set_option maxRecDepth 100000 in
set_option maxHeartbeats 4000000 in
theorem phase_Parts (wide high : Int) (a b : Option Addr) (n m c d : Nat) (g k : Nat → C4) (w : World) (hn : n ≤ 100000) (hm : m ≤ 100000) (S : Sc w a n g) (T : Sc w b m k) : Calls Tryz.prog 5 #[.agg #[.int .i64 wide, .int .i64 high, .slice a n c, .slice b m d]] w (PartsPost (validX wide high n m g k) wide high n m g k w) := by
  have hv := fun Y S' T' => phase_Valid wide high a b n m c d g k Y hn hm S' T'
  cases hx : validX wide high n m g k
  · rw [hx] at hv
    have X0 := ((Bx.new w #[.int .i64 wide, .int .i64 high, .slice a n c, .slice b m d] 24).alloc (.cells #[.int .i64 0, .int .i64 0, .slice none 0 0] 29)).alloc (.cells #[.int .i64 0, .int .i64 0, .slice none 0 0] 29)
    have X1 := (Bx.new (w.alloc (.cells #[.int .i64 wide, .int .i64 high, .slice a n c, .slice b m d] 24)) #[.int .i64 0, .int .i64 0, .slice none 0 0] 29).alloc (.cells #[.int .i64 0, .int .i64 0, .slice none 0 0] 29)
    have X2 := Bx.new ((w.alloc (.cells #[.int .i64 wide, .int .i64 high, .slice a n c, .slice b m d] 24)).alloc (.cells #[.int .i64 0, .int .i64 0, .slice none 0 0] 29)) #[.int .i64 0, .int .i64 0, .slice none 0 0] 29
    simp only [World.size_alloc] at X1 X2
    have hB0 : Below w.heap.size w (((w.alloc (.cells #[.int .i64 wide, .int .i64 high, .slice a n c, .slice b m d] 24)).alloc (.cells #[.int .i64 0, .int .i64 0, .slice none 0 0] 29)).alloc (.cells #[.int .i64 0, .int .i64 0, .slice none 0 0] 29)) := by (repeat' (first | with_reducible assumption | with_reducible exact Below.refl _ _ | with_reducible refine Below.drew ?_ | with_reducible refine below_drewN ?_ _ | with_reducible refine balloc ?_ _ | with_reducible refine bset ?_ ?_ _ | with_reducible refine Below.setCell ?_ ?_ _ | with_reducible refine Below.alloc ?_ ?_ _ | omega | (simp; done) | (simp; omega)))
    go_enter Tryz.func5, Tryz.ntmps5
    go_wp2_with fail
    generalize (((w.alloc (.cells #[.int .i64 wide, .int .i64 high, .slice a n c, .slice b m d] 24)).alloc (.cells #[.int .i64 0, .int .i64 0, .slice none 0 0] 29)).alloc (.cells #[.int .i64 0, .int .i64 0, .slice none 0 0] 29)) = W0 at X0 X1 X2 hB0 ⊢
    have z0 := X0.lt
    have z1 := X1.lt
    have z2 := X2.lt
    refine (hv _ (S.below hB0) (T.below hB0)).mono ?_
    rintro e w1 ⟨rfl, hb1⟩
    replace X1 := X1.below hb1; replace X2 := X2.below hb1
    have hB := bvia hB0 hb1
    have x0 := X1.at_ 0 rfl; have x1 := X1.at_ 1 rfl; have x2 := X1.at_ 2 rfl; have xf := X1.free; have xz := X1.lt
    have y0 := X2.at_ 0 rfl; have y1 := X2.at_ 1 rfl; have y2 := X2.at_ 2 rfl; have yf := X2.free; have yz := X2.lt
    go_wp2_with fail
    refine bodyPost_ret (v := .tuple #[.agg #[.int .i64 0, .int .i64 0, .slice none 0 0], .agg #[.int .i64 0, .int .i64 0, .slice none 0 0], .int .i64 1]) (by simp [results, Tryz.results5, go_sem, x0, x1, x2, y0, y1, y2]) rfl (.inl ⟨rfl, rfl, by (repeat' (first | with_reducible assumption | with_reducible exact Below.refl _ _ | with_reducible refine Below.drew ?_ | with_reducible refine below_drewN ?_ _ | with_reducible refine balloc ?_ _ | with_reducible refine bset ?_ ?_ _ | with_reducible refine Below.setCell ?_ ?_ _ | with_reducible refine Below.alloc ?_ ?_ _ | omega | (simp; done) | (simp; omega)))⟩)
  · rw [hx] at hv
    obtain ⟨v1, v2, v3⟩ := (validX_iff _ _ _ _ _ _).1 hx
    have hp1 := validG_pos v1; have hp2 := validG_pos v2
    clear v1 v2 v3 hx
    have hf := fun Y => phase_first wide high a b n m c d Y
    have hs := fun Y => phase_second wide high a b n m c d Y
    have hof := fun Y S' T' => phase_of wide high wide high a b n m c d g k Y hn hm hp1.1 hp2.1 S' T'
    have X0 := ((Bx.new w #[.int .i64 wide, .int .i64 high, .slice a n c, .slice b m d] 24).alloc (.cells #[.int .i64 0, .int .i64 0, .slice none 0 0] 29)).alloc (.cells #[.int .i64 0, .int .i64 0, .slice none 0 0] 29)
    have X1 := (Bx.new (w.alloc (.cells #[.int .i64 wide, .int .i64 high, .slice a n c, .slice b m d] 24)) #[.int .i64 0, .int .i64 0, .slice none 0 0] 29).alloc (.cells #[.int .i64 0, .int .i64 0, .slice none 0 0] 29)
    have X2 := Bx.new ((w.alloc (.cells #[.int .i64 wide, .int .i64 high, .slice a n c, .slice b m d] 24)).alloc (.cells #[.int .i64 0, .int .i64 0, .slice none 0 0] 29)) #[.int .i64 0, .int .i64 0, .slice none 0 0] 29
    simp only [World.size_alloc] at X1 X2
    have hB0 : Below w.heap.size w (((w.alloc (.cells #[.int .i64 wide, .int .i64 high, .slice a n c, .slice b m d] 24)).alloc (.cells #[.int .i64 0, .int .i64 0, .slice none 0 0] 29)).alloc (.cells #[.int .i64 0, .int .i64 0, .slice none 0 0] 29)) := by (repeat' (first | with_reducible assumption | with_reducible exact Below.refl _ _ | with_reducible refine Below.drew ?_ | with_reducible refine below_drewN ?_ _ | with_reducible refine balloc ?_ _ | with_reducible refine bset ?_ ?_ _ | with_reducible refine Below.setCell ?_ ?_ _ | with_reducible refine Below.alloc ?_ ?_ _ | omega | (simp; done) | (simp; omega)))
    go_enter Tryz.func5, Tryz.ntmps5
    go_wp2_with fail
    generalize (((w.alloc (.cells #[.int .i64 wide, .int .i64 high, .slice a n c, .slice b m d] 24)).alloc (.cells #[.int .i64 0, .int .i64 0, .slice none 0 0] 29)).alloc (.cells #[.int .i64 0, .int .i64 0, .slice none 0 0] 29)) = W0 at X0 X1 X2 hB0 ⊢
    have z0 := X0.lt
    have z1 := X1.lt
    have z2 := X2.lt
    refine (hv _ (S.below hB0) (T.below hB0)).mono ?_
    rintro e w1 ⟨rfl, hb1⟩
    replace X0 := X0.below hb1; replace X1 := X1.below hb1; replace X2 := X2.below hb1
    have hB := bvia hB0 hb1
    have hs1 := hb1.size
    clear hv hb1 hB0
    go_upto_region 3 with (fail)
    have r0 : ∀ Y, Below w1.heap.size w1 Y → Y.cell? ⟨w.heap.size, 0, none⟩ = some (.int .i64 wide) := fun Y h => (X0.below h).at_ 0 rfl
    have r1 : ∀ Y, Below w1.heap.size w1 Y → Y.cell? ⟨w.heap.size, 1, none⟩ = some (.int .i64 high) := fun Y h => (X0.below h).at_ 1 rfl
    have r2 : ∀ Y, Below w1.heap.size w1 Y → Y.cell? ⟨w.heap.size, 2, none⟩ = some (.slice a n c) := fun Y h => (X0.below h).at_ 2 rfl
    have r3 : ∀ Y, Below w1.heap.size w1 Y → Y.cell? ⟨w.heap.size, 3, none⟩ = some (.slice b m d) := fun Y h => (X0.below h).at_ 3 rfl
    refine wp_region_S (fun Y => Below w1.heap.size w1 Y) 5 (by kernel_rfl) ?_
    refine anyS_take (i := 0) rfl (by kernel_rfl) (fun _ _ _ h => h) (Or.inl ⟨by rfl, fun Y hYb => (by (try dsimp only at hYb); go_simp; rfl)⟩) (by repeat' (first | with_reducible assumption | with_reducible exact Below.refl _ _ | with_reducible refine Below.drew ?_ | with_reducible refine below_drewN ?_ _)) ?_
    refine anyS_take (i := 2) rfl (by kernel_rfl) (fun _ _ _ h => h) (Or.inl ⟨by rfl, fun Y hYb => (by (try dsimp only at hYb); go_simp; rfl)⟩) (by repeat' (first | with_reducible assumption | with_reducible exact Below.refl _ _ | with_reducible refine Below.drew ?_ | with_reducible refine below_drewN ?_ _)) ?_
    refine anyS_one (i := 1) (by kernel_rfl) rfl (by rfl) (fun K hK => ?_)
    go_simp
    refine (hf _).mono ?_
    rintro e w2 ⟨rfl, hb2⟩
    dsimp only
    have hS2 : Below w1.heap.size w1 w2 := bvia (Below.refl _ w1).drew hb2
    refine hK _ _ (fun _ _ => hS2) ?_
    clear hK K hb2
    refine anyS_one (i := 3) (by kernel_rfl) rfl (by rfl) (fun K hK => ?_)
    go_simp
    refine (hs _).mono ?_
    rintro e w3 ⟨rfl, hb3⟩
    dsimp only
    have hS3 : Below w1.heap.size w1 w3 := bvia hS2 hb3
    refine hK _ _ (fun _ _ => hS3) ?_
    clear hK K hb3
    refine anyS_one (i := 4) (by kernel_rfl) rfl (by rfl) (fun K hK => ?_)
    go_simp
    refine (hof _ (S.below (bvia hB hS3)) (T.below (bvia hB hS3))).mono ?_
    rintro e w4 ⟨gA, cA, gB, cB, rfl, hA1, hA2, hne, RA, RB, hcA, hcB, hb4⟩
    dsimp only
    have hS4 : Below w1.heap.size w1 w4 := bvia hS3 hb4
    refine hK _ _ (fun _ _ => hS4) ?_
    clear hK K hb4 r0 r1 r2 r3
    have hs3 := hS3.size; have hs4 := hS4.size
    have hwg : w1.heap.size ≤ gA ∧ w1.heap.size ≤ gB := ⟨by omega, by omega⟩
    clear hA1 hA2 hS2 hS3
    replace X0 := X0.below hS4; replace X1 := X1.below hS4; replace X2 := X2.below hS4
    replace hB := bvia hB hS4
    have x0 := X0.at_ 0 rfl; have x1 := X0.at_ 1 rfl; have x2 := X0.at_ 2 rfl; have x3 := X0.at_ 3 rfl; have xf := X0.free; have xz := X0.lt
    refine anyS_one (i := 5) (by kernel_rfl) rfl (by rfl) (fun K hK => ?_)
    go_simp
    refine hK _ _ (fun h _ => absurd h (by decide)) ?_
    clear hK K
    refine anyS_done (by kernel_rfl) ?_ _
    have hU5 : But (fun q => q = w.heap.size) w4 ((((w4.setCell ⟨w.heap.size, 0, none⟩ (.int .i64 wide)).setCell ⟨w.heap.size, 1, none⟩ (.int .i64 high)).setCell ⟨w.heap.size, 2, none⟩ (.slice (some ⟨gA, 0, none⟩) n cA)).setCell ⟨w.heap.size, 3, none⟩ (.slice (some ⟨gB, 0, none⟩) m cB)) := (But.set_ (But.set_ (But.set_ (But.set_ (But.refl (fun q => q = w.heap.size) w4) (p := ⟨w.heap.size, 0, none⟩) rfl (.int .i64 wide)) (p := ⟨w.heap.size, 1, none⟩) rfl (.int .i64 high)) (p := ⟨w.heap.size, 2, none⟩) rfl (.slice (some ⟨gA, 0, none⟩) n cA)) (p := ⟨w.heap.size, 3, none⟩) rfl (.slice (some ⟨gB, 0, none⟩) m cB))
    have XM := ((((X0.set_ 0 (by simp) (.int .i64 wide)).set_ 1 (by simp) (.int .i64 high)).set_ 2 (by simp) (.slice (some ⟨gA, 0, none⟩) n cA)).set_ 3 (by simp) (.slice (some ⟨gB, 0, none⟩) m cB))
    simp only [List.setIfInBounds_toArray, List.set_cons_zero, List.set_cons_succ] at XM
    replace X1 := X1.but hU5 (by omega); replace X2 := X2.but hU5 (by omega); replace RA := ro_but RA hU5 (by omega); replace RB := ro_but RB hU5 (by omega)
    have hB5 : Below w.heap.size w ((((w4.setCell ⟨w.heap.size, 0, none⟩ (.int .i64 wide)).setCell ⟨w.heap.size, 1, none⟩ (.int .i64 high)).setCell ⟨w.heap.size, 2, none⟩ (.slice (some ⟨gA, 0, none⟩) n cA)).setCell ⟨w.heap.size, 3, none⟩ (.slice (some ⟨gB, 0, none⟩) m cB)) := by (repeat' (first | with_reducible assumption | with_reducible exact Below.refl _ _ | with_reducible refine Below.drew ?_ | with_reducible refine below_drewN ?_ _ | with_reducible refine balloc ?_ _ | with_reducible refine bset ?_ ?_ _ | with_reducible refine Below.setCell ?_ ?_ _ | with_reducible refine Below.alloc ?_ ?_ _ | omega | (simp; done) | (simp; omega)))
    have hs5 := hU5.size
    clear hU5 x0 x1 x2 x3 xf xz X0 hS4 hof S T hB
    generalize ((((w4.setCell ⟨w.heap.size, 0, none⟩ (.int .i64 wide)).setCell ⟨w.heap.size, 1, none⟩ (.int .i64 high)).setCell ⟨w.heap.size, 2, none⟩ (.slice (some ⟨gA, 0, none⟩) n cA)).setCell ⟨w.heap.size, 3, none⟩ (.slice (some ⟨gB, 0, none⟩) m cB)) = w5 at *
    have hf2 := fun Y => phase_first wide high (some ⟨gA, 0, none⟩) (some ⟨gB, 0, none⟩) n m cA cB Y
    have hg2 := fun Y => phase_second wide high (some ⟨gA, 0, none⟩) (some ⟨gB, 0, none⟩) n m cA cB Y
    go_upto_region 4 with (fail)
    have r0 : ∀ Y, But (fun q => q = w.heap.size + 1) w5 Y → Y.cell? ⟨w.heap.size, 0, none⟩ = some (.int .i64 wide) := fun Y h => (XM.but h (by omega)).at_ 0 rfl
    have r1 : ∀ Y, But (fun q => q = w.heap.size + 1) w5 Y → Y.cell? ⟨w.heap.size, 1, none⟩ = some (.int .i64 high) := fun Y h => (XM.but h (by omega)).at_ 1 rfl
    have r2 : ∀ Y, But (fun q => q = w.heap.size + 1) w5 Y → Y.cell? ⟨w.heap.size, 2, none⟩ = some (.slice (some ⟨gA, 0, none⟩) n cA) := fun Y h => (XM.but h (by omega)).at_ 2 rfl
    have r3 : ∀ Y, But (fun q => q = w.heap.size + 1) w5 Y → Y.cell? ⟨w.heap.size, 3, none⟩ = some (.slice (some ⟨gB, 0, none⟩) m cB) := fun Y h => (XM.but h (by omega)).at_ 3 rfl
    refine wp_region_S (fun Y => But (fun q => q = w.heap.size + 1) w5 Y) 5 (by kernel_rfl) ?_
    refine anyS_take (i := 0) rfl (by kernel_rfl) (fun _ _ _ h => h) (Or.inl ⟨by rfl, fun Y hYb => (by (try dsimp only at hYb); go_simp; rfl)⟩) (by repeat' (first | with_reducible assumption | with_reducible exact But.refl _ _ | with_reducible refine But.drew ?_ | with_reducible refine But.drewN ?_ _)) ?_
    refine anyS_take (i := 2) rfl (by kernel_rfl) (fun _ _ _ h => h) (Or.inl ⟨by rfl, fun Y hYb => (by (try dsimp only at hYb); go_simp; rfl)⟩) (by repeat' (first | with_reducible assumption | with_reducible exact But.refl _ _ | with_reducible refine But.drew ?_ | with_reducible refine But.drewN ?_ _)) ?_
    refine anyS_one (i := 1) (by kernel_rfl) rfl (by rfl) (fun K hK => ?_)
    go_simp
    refine (hf2 _).mono ?_
    rintro e w6 ⟨rfl, hb6⟩
    dsimp only
    have hS6 : Below w5.heap.size w5 w6 := bvia (Below.refl _ w5).drew hb6
    refine hK _ _ (fun _ _ => but_below hS6 (Nat.le_refl _)) ?_
    clear hK K hb6
    refine anyS_one (i := 3) (by kernel_rfl) rfl (by rfl) (fun K hK => ?_)
    go_simp
    refine (hg2 _).mono ?_
    rintro e w7 ⟨rfl, hb7⟩
    dsimp only
    have hS7 : Below w5.heap.size w5 w7 := bvia hS6 hb7
    refine hK _ _ (fun _ _ => but_below hS7 (Nat.le_refl _)) ?_
    clear hK K hb7 r0 r1 r2 r3 hf2 hg2 hS6
    have hU7 : But (fun q => q = w.heap.size + 1) w5 w7 := but_below hS7 (Nat.le_refl _)
    replace X1 := X1.below hS7; replace X2 := X2.below hS7; replace RA := RA.below hS7; replace RB := RB.below hS7
    replace hB5 := bvia hB5 hS7
    have x0 := X1.at_ 0 rfl; have x1 := X1.at_ 1 rfl; have x2 := X1.at_ 2 rfl; have xf := X1.free; have xz := X1.lt
    have y0 := X2.at_ 0 rfl; have y1 := X2.at_ 1 rfl; have y2 := X2.at_ 2 rfl; have yf := X2.free; have yz := X2.lt
    refine anyS_one (i := 4) (by kernel_rfl) rfl (by rfl) (fun K hK => ?_)
    go_simp
    refine hK _ _ (fun _ _ => But.set_ (But.set_ (But.set_ hU7 (p := ⟨w.heap.size + 1, 0, none⟩) rfl _) (p := ⟨w.heap.size + 1, 1, none⟩) rfl _) (p := ⟨w.heap.size + 1, 2, none⟩) rfl _) ?_
    clear hK K
    refine anyS_one (i := 5) (by kernel_rfl) rfl (by rfl) (fun K hK => ?_)
    go_simp
    refine hK _ _ (fun h _ => absurd h (by decide)) ?_
    clear hK K
    refine anyS_one (i := 6) (by kernel_rfl) rfl (by rfl) (fun K hK => ?_)
    go_simp
    refine hK _ _ (fun h _ => absurd h (by decide)) ?_
    clear hK K
    refine anyS_done (by kernel_rfl) ?_ _
    go_wp2_with fail
    refine bodyPost_ret (v := .tuple #[.agg #[.int .i64 wide, .int .i64 high, .slice (some ⟨gA, 0, none⟩) n cA], .agg #[.int .i64 wide, .int .i64 high, .slice (some ⟨gB, 0, none⟩) m cB], .int .i64 0]) (by simp [results, Tryz.results5, go_sem, x0, x1, x2, y0, y1, y2]) rfl (.inr ⟨rfl, gA, cA, gB, cB, rfl, ?_, ?_, by (repeat' (first | with_reducible assumption | with_reducible exact Below.refl _ _ | with_reducible refine Below.drew ?_ | with_reducible refine below_drewN ?_ _ | with_reducible refine balloc ?_ _ | with_reducible refine bset ?_ ?_ _ | with_reducible refine Below.setCell ?_ ?_ _ | with_reducible refine Below.alloc ?_ ?_ _ | omega | (simp; done) | (simp; omega)))⟩)
    · have f1 : ∀ o, (⟨w.heap.size + 1, o, none⟩ : Addr).block ≠ gA := fun o => by dsimp only; omega
      have f2 : ∀ o, (⟨w.heap.size + 1 + 1, o, none⟩ : Addr).block ≠ gA := fun o => by dsimp only; omega
      exact (((((RA.far (f1 0) _).far (f1 1) _).far (f1 2) _).far (f2 0) _).far (f2 1) _).far (f2 2) _
    · have f1 : ∀ o, (⟨w.heap.size + 1, o, none⟩ : Addr).block ≠ gB := fun o => by dsimp only; omega
      have f2 : ∀ o, (⟨w.heap.size + 1 + 1, o, none⟩ : Addr).block ≠ gB := fun o => by dsimp only; omega
      exact (((((RB.far (f1 0) _).far (f1 1) _).far (f1 2) _).far (f2 0) _).far (f2 1) _).far (f2 2) _
end Go.Proofs.YtpbobhobhbbimaaGreat
/- Walks: asked, Of of two phases; the reference's Equal. -/
namespace Go.Proofs.YtpbobhobhbbimaaGreat
open Go Go.RowKit
attribute [local go_sem] Oper.semAt_some
set_option linter.unusedVariables false
theorem phase_within (n lo hi : Int) (w : World) : Calls Tryz.prog 45 #[.int .i64 n, .int .i64 lo, .int .i64 hi] w fun e w' => e = .returned (.bool (within n lo hi)) ∧ w = w' := by
  cases h1 : decide (lo ≤ n)
  all_goals
    go_enter Tryz.func45, Tryz.ntmps45
    go_wp2
    go_ret
    exact ⟨by simp [within, h1], rfl⟩
theorem rules_zero : rulesB 1 (fun _ => ((0 : Int), (0 : Int))) = true := (rulesB_iff _ _).2 ⟨by omega, by omega, fun i _ => (ruleB_iff _ _).2 (by unfold ruleOk; omega)⟩
set_option maxRecDepth 100000 in
set_option maxHeartbeats 4000000 in
theorem phase_asked0 (wide high : Int) (a b : Option Addr) (n m c d : Nat) (g k : Nat → C4) (w : World) (hn : n ≤ 100000) (hm : m ≤ 100000) (S : Sc w a n g) (T : Sc w b m k) (ar ax : Option Addr) (nr cr cx : Nat) (r : Nat → Int × Int) (hnr : nr ≤ 100000) (SR : Sr w ar nr r) (SX : Sr w ax 1 (fun _ => (0, 0))) (hv : validX wide high n m g k = true) (hr : rulesB nr r = true) :
    Calls Tryz.prog 22 #[.agg #[.int .i64 wide, .int .i64 high, .slice a n c, .slice b m d], .slice ar nr cr, .slice ax 1 cx, .int .i64 0, .int .i64 4] w fun e w' => e = .returned (.int .i64 0) ∧ Below w.heap.size w w' := by
  have hvl := fun Y S' T' => phase_Valid wide high a b n m c d g k Y hn hm S' T'
  have hrl := fun Y S' => cell_validRules ar nr cr r Y (by omega) S'
  have hxl := fun Y S' => cell_validRules ax 1 cx (fun _ => ((0 : Int), (0 : Int))) Y (by omega) S'
  rw [hv] at hvl; rw [hr] at hrl; rw [rules_zero] at hxl
  have hw1 := fun Y => phase_within 0 0 1000000 Y
  have hw2 := fun Y => phase_within 4 0 1000 Y
  rw [show within 0 0 1000000 = true from rfl] at hw1
  rw [show within 4 0 1000 = true from rfl] at hw2
  clear hv hr
  have X0 := Bx.new w #[.int .i64 wide, .int .i64 high, .slice a n c, .slice b m d] 24
  have hB0 : Below w.heap.size w (w.alloc (.cells #[.int .i64 wide, .int .i64 high, .slice a n c, .slice b m d] 24)) := by (repeat' (first | with_reducible assumption | with_reducible exact Below.refl _ _ | with_reducible refine Below.drew ?_ | with_reducible refine below_drewN ?_ _ | with_reducible refine balloc ?_ _ | with_reducible refine bset ?_ ?_ _ | with_reducible refine Below.setCell ?_ ?_ _ | with_reducible refine Below.alloc ?_ ?_ _ | omega | (simp; done) | (simp; omega)))
  go_enter Tryz.func22, Tryz.ntmps22
  go_wp2_with fail
  generalize (w.alloc (.cells #[.int .i64 wide, .int .i64 high, .slice a n c, .slice b m d] 24)) = W0 at X0 hB0 ⊢
  have z0 := X0.lt
  refine (hvl _ (S.below hB0) (T.below hB0)).mono ?_
  rintro e w1 ⟨rfl, hb1⟩
  have hB1 := bvia hB0 hb1
  go_wp2_with fail
  refine (hrl _ (SR.below hB1)).mono ?_
  rintro e w2 ⟨rfl, hb2⟩
  have hB2 := bvia hB1 hb2
  go_wp2_with fail
  refine (hxl _ (SX.below hB2)).mono ?_
  rintro e w3 ⟨rfl, hb3⟩
  have hB3 := bvia hB2 hb3
  go_wp2_with fail
  refine (hw1 _).mono ?_
  rintro e w' ⟨rfl, rfl⟩
  go_wp2_with fail
  refine (hw2 _).mono ?_
  rintro e w' ⟨rfl, rfl⟩
  go_wp2_with fail
  go_ret
  exact ⟨rfl, hB3⟩
def RunPh (W H n : Nat) (A B : Nat → C4) (w : World) (e : Ending) (w' : World) : Prop :=
  ∃ gA cA gB cB, e = .returned (.tuple #[.agg #[.int .i64 (W : Int), .int .i64 (H : Int), .slice (some ⟨gA, 0, none⟩) n cA, .slice (some ⟨gB, 0, none⟩) n cB], .int .i64 0]) ∧ Ro w' gA (n * 4) (flatC A) ∧ Ro w' gB (n * 4) (flatC B) ∧ Below w.heap.size w w'
set_option maxRecDepth 100000 in
set_option maxHeartbeats 4000000 in
theorem phase_OfOk (W H n c d : Nat) (a b : Option Addr) (g k : Nat → C4) (w : World) (hn : n ≤ 100000) (h0 : 0 < n) (S : Sc w a n g) (T : Sc w b n k) (hv : validX W H n n g k = true) :
    Calls Tryz.prog 8 #[.agg #[.int .i64 (W : Int), .int .i64 (H : Int), .slice a n c], .agg #[.int .i64 (W : Int), .int .i64 (H : Int), .slice b n d]] w (RunPh W H n g k w) := by
  obtain ⟨v1, v2, v3⟩ := (validX_iff _ _ _ _ _ _).1 hv
  have hv1 := fun Y S' => grid_valid W H a n c g Y (by omega) S'
  have hv2 := fun Y S' => grid_valid W H b n d k Y (by omega) S'
  rw [v1] at hv1; rw [v2] at hv2
  have hof := fun Y S' T' => phase_of W H W H a b n n c d g k Y hn hn h0 h0 S' T'
  have hva := fun gA gB cA cB Y S' T' => phase_Valid W H (some ⟨gA, 0, none⟩) (some ⟨gB, 0, none⟩) n n cA cB g k Y hn hn S' T'
  rw [hv] at hva
  clear hv v1 v2 v3
  have X0 := ((Bx.new w #[.int .i64 (W : Int), .int .i64 (H : Int), .slice a n c] 29).alloc (.cells #[.int .i64 (W : Int), .int .i64 (H : Int), .slice b n d] 29)).alloc (.cells #[.int .i64 0, .int .i64 0, .slice none 0 0, .slice none 0 0] 24)
  have X1 := (Bx.new (w.alloc (.cells #[.int .i64 (W : Int), .int .i64 (H : Int), .slice a n c] 29)) #[.int .i64 (W : Int), .int .i64 (H : Int), .slice b n d] 29).alloc (.cells #[.int .i64 0, .int .i64 0, .slice none 0 0, .slice none 0 0] 24)
  have X2 := Bx.new ((w.alloc (.cells #[.int .i64 (W : Int), .int .i64 (H : Int), .slice a n c] 29)).alloc (.cells #[.int .i64 (W : Int), .int .i64 (H : Int), .slice b n d] 29)) #[.int .i64 0, .int .i64 0, .slice none 0 0, .slice none 0 0] 24
  simp only [World.size_alloc] at X1 X2
  have hB0 : Below w.heap.size w (((w.alloc (.cells #[.int .i64 (W : Int), .int .i64 (H : Int), .slice a n c] 29)).alloc (.cells #[.int .i64 (W : Int), .int .i64 (H : Int), .slice b n d] 29)).alloc (.cells #[.int .i64 0, .int .i64 0, .slice none 0 0, .slice none 0 0] 24)) := by (repeat' (first | with_reducible assumption | with_reducible exact Below.refl _ _ | with_reducible refine Below.drew ?_ | with_reducible refine below_drewN ?_ _ | with_reducible refine balloc ?_ _ | with_reducible refine bset ?_ ?_ _ | with_reducible refine Below.setCell ?_ ?_ _ | with_reducible refine Below.alloc ?_ ?_ _ | omega | (simp; done) | (simp; omega)))
  go_enter Tryz.func8, Tryz.ntmps8
  go_wp2_with fail
  generalize (((w.alloc (.cells #[.int .i64 (W : Int), .int .i64 (H : Int), .slice a n c] 29)).alloc (.cells #[.int .i64 (W : Int), .int .i64 (H : Int), .slice b n d] 29)).alloc (.cells #[.int .i64 0, .int .i64 0, .slice none 0 0, .slice none 0 0] 24)) = W0 at X0 X1 X2 hB0 ⊢
  have z0 := X0.lt
  have z1 := X1.lt
  have z2 := X2.lt
  refine (hv1 _ (S.below hB0)).mono ?_
  rintro e w1 ⟨rfl, hb1⟩
  have hB1 := bvia hB0 hb1
  replace X0 := X0.below hb1; replace X1 := X1.below hb1; replace X2 := X2.below hb1
  have y0 := X1.at_ 0 rfl; have y1 := X1.at_ 1 rfl; have y2 := X1.at_ 2 rfl; have yz := X1.lt
  go_wp2_with fail
  refine (hv2 _ (T.below hB1)).mono ?_
  rintro e w2 ⟨rfl, hb2⟩
  have hB2 := bvia hB1 hb2
  clear y0 y1 y2 yz
  replace X0 := X0.below hb2; replace X1 := X1.below hb2; replace X2 := X2.below hb2
  have x0 := X0.at_ 0 rfl; have x1 := X0.at_ 1 rfl; have x2 := X0.at_ 2 rfl; have xz := X0.lt
  have y0 := X1.at_ 0 rfl; have y1 := X1.at_ 1 rfl; have y2 := X1.at_ 2 rfl; have yz := X1.lt
  go_wp2_with fail
  refine (hof _ (S.below hB2) (T.below hB2)).mono ?_
  rintro e w3 ⟨gA, cA, gB, cB, rfl, hA1, hA2, hne, RA, RB, hcA, hcB, hb3⟩
  have hB3 := bvia hB2 hb3
  have hs3 := hB2.size; have hs1 := hb1.size; have hs2 := hb2.size; have hs0 := hB0.size
  clear x0 x1 x2 y0 y1 y2 xz yz X0 X1
  replace X2 := X2.below hb3
  have lz := X2.lt
  have XM := Bx.new w3 #[.int .i64 (W : Int), .int .i64 (H : Int), .slice (some ⟨gA, 0, none⟩) n cA, .slice (some ⟨gB, 0, none⟩) n cB] 24
  have hB4 := balloc hB3 (.cells #[.int .i64 (W : Int), .int .i64 (H : Int), .slice (some ⟨gA, 0, none⟩) n cA, .slice (some ⟨gB, 0, none⟩) n cB] 24)
  have RA4 := RA.alloc (.cells #[.int .i64 (W : Int), .int .i64 (H : Int), .slice (some ⟨gA, 0, none⟩) n cA, .slice (some ⟨gB, 0, none⟩) n cB] 24)
  have RB4 := RB.alloc (.cells #[.int .i64 (W : Int), .int .i64 (H : Int), .slice (some ⟨gA, 0, none⟩) n cA, .slice (some ⟨gB, 0, none⟩) n cB] 24)
  replace X2 := X2.alloc (.cells #[.int .i64 (W : Int), .int .i64 (H : Int), .slice (some ⟨gA, 0, none⟩) n cA, .slice (some ⟨gB, 0, none⟩) n cB] 24)
  have lA := RA.lt; have lB := RB.lt
  go_wp2_with fail
  refine (hva gA gB cA cB _ RA4.sc RB4.sc).mono ?_
  rintro e w5 ⟨rfl, hb5⟩
  have hB5 := bvia hB4 hb5
  have hs5 := hb5.size
  simp only [World.size_alloc] at hs5
  replace X2 := X2.below hb5; replace XM := XM.below hb5; replace RA4 := RA4.below hb5; replace RB4 := RB4.below hb5
  have m0 := XM.at_ 0 rfl; have m1 := XM.at_ 1 rfl; have m2 := XM.at_ 2 rfl; have m3 := XM.at_ 3 rfl; have mz := XM.lt
  have y0 := X2.at_ 0 rfl; have y1 := X2.at_ 1 rfl; have y2 := X2.at_ 2 rfl; have y3 := X2.at_ 3 rfl; have yf := X2.free; have yz := X2.lt
  go_wp2_with fail
  have f1 : ∀ o, (⟨w.heap.size + 1 + 1, o, none⟩ : Addr).block ≠ gA := fun o => by dsimp only; omega
  have f2 : ∀ o, (⟨w.heap.size + 1 + 1, o, none⟩ : Addr).block ≠ gB := fun o => by dsimp only; omega
  refine bodyPost_ret (v := .tuple #[.agg #[.int .i64 (W : Int), .int .i64 (H : Int), .slice (some ⟨gA, 0, none⟩) n cA, .slice (some ⟨gB, 0, none⟩) n cB], .int .i64 0]) (by simp [results, Tryz.results8, go_sem, y0, y1, y2, y3]) rfl ⟨gA, cA, gB, cB, rfl, ?_, ?_, by (repeat' (first | with_reducible assumption | with_reducible exact Below.refl _ _ | with_reducible refine Below.drew ?_ | with_reducible refine below_drewN ?_ _ | with_reducible refine balloc ?_ _ | with_reducible refine bset ?_ ?_ _ | with_reducible refine Below.setCell ?_ ?_ _ | with_reducible refine Below.alloc ?_ ?_ _ | omega | (simp; done) | (simp; omega)))⟩
  · exact ((((RA4.far (f1 0) _).far (f1 1) _).far (f1 2) _).far (f1 3) _)
  · exact ((((RB4.far (f2 0) _).far (f2 1) _).far (f2 2) _).far (f2 3) _)
set_option maxRecDepth 100000 in
set_option maxHeartbeats 2000000 in
theorem ref4_Equal (W H : Int) (a b a' b' : Option Addr) (n ca cb ca' cb' : Nat) (g k : Nat → C4) (w : World) (hn : n ≤ 100000) (S : Sc w a n g) (T : Sc w b n k) (S' : Sc w a' n g) (T' : Sc w b' n k) :
    Calls Tryz.prog 9 #[.agg #[.int .i64 W, .int .i64 H, .slice a n ca, .slice b n cb], .agg #[.int .i64 W, .int .i64 H, .slice a' n ca', .slice b' n cb']] w fun e w' => e = .returned (.bool true) ∧ Below w.heap.size w w' := by
  have h1 := fun Y S1 S2 => ref2_sameCells a a' n ca ca' g g Y (by omega) S1 S2 (fun _ _ => rfl)
  have h2 := fun Y S1 S2 => ref2_sameCells b b' n cb cb' k k Y (by omega) S1 S2 (fun _ _ => rfl)
  have X0 := (Bx.new w #[.int .i64 W, .int .i64 H, .slice a n ca, .slice b n cb] 24).alloc (.cells #[.int .i64 W, .int .i64 H, .slice a' n ca', .slice b' n cb'] 24)
  have X1 := Bx.new (w.alloc (.cells #[.int .i64 W, .int .i64 H, .slice a n ca, .slice b n cb] 24)) #[.int .i64 W, .int .i64 H, .slice a' n ca', .slice b' n cb'] 24
  simp only [World.size_alloc] at X1
  have hB0 : Below w.heap.size w ((w.alloc (.cells #[.int .i64 W, .int .i64 H, .slice a n ca, .slice b n cb] 24)).alloc (.cells #[.int .i64 W, .int .i64 H, .slice a' n ca', .slice b' n cb'] 24)) := by (repeat' (first | with_reducible assumption | with_reducible exact Below.refl _ _ | with_reducible refine Below.drew ?_ | with_reducible refine below_drewN ?_ _ | with_reducible refine balloc ?_ _ | with_reducible refine bset ?_ ?_ _ | with_reducible refine Below.setCell ?_ ?_ _ | with_reducible refine Below.alloc ?_ ?_ _ | omega | (simp; done) | (simp; omega)))
  go_enter Tryz.func9, Tryz.ntmps9
  go_wp2_with fail
  generalize ((w.alloc (.cells #[.int .i64 W, .int .i64 H, .slice a n ca, .slice b n cb] 24)).alloc (.cells #[.int .i64 W, .int .i64 H, .slice a' n ca', .slice b' n cb'] 24)) = W0 at X0 X1 hB0 ⊢
  have z0 := X0.lt
  have z1 := X1.lt
  refine (h1 _ (S.below hB0) (S'.below hB0)).mono ?_
  rintro e w1 ⟨rfl, hb1⟩
  have hB1 := bvia hB0 hb1
  replace X0 := X0.below hb1; replace X1 := X1.below hb1
  have x3 := X0.at_ 3 rfl; have xz := X0.lt
  have y3 := X1.at_ 3 rfl; have yz := X1.lt
  go_wp2_with fail
  refine (h2 _ (T.below hB1) (T'.below hB1)).mono ?_
  rintro e w2 ⟨rfl, hb2⟩
  have hB2 := bvia hB1 hb2
  go_wp2_with fail
  go_ret
  exact ⟨rfl, hB2⟩
end Go.Proofs.YtpbobhobhbbimaaGreat
