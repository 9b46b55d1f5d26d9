/- Walks: the iterator that gives each place of another one a kind. -/
import Derived.Test.YtnnaegnkkpknpaaAll
namespace Go.Proofs.Ytnnaegnkkpknpaa
open Go Go.RowKit
attribute [local go_sem] Oper.semAt_some
attribute [local go_sem ↓] Go.wp_at_zero Go.wp_at_succ
set_option linter.unusedVariables false
abbrev Brick := (Int × Int) × Int
def encK (b : Brick) : Array Value := #[.agg #[.int .i64 b.1.1, .int .i64 b.1.2, .int .i64 b.2]]
def mkK (f : Int → Int → Int) (p : Int × Int) : Brick := (p, f p.1 p.2)
theorem prefix_map {α β : Type} (f : α → β) {l m : List α} (h : l <+: m) : l.map f <+: m.map f := by
  obtain ⟨t, rfl⟩ := h; exact ⟨t.map f, by simp⟩
/-- the word between two rounds of kinds' own loop -/
def KW (J : List Brick → (Nat → Prop) → World → Prop) (f : Int → Int → Int) (z l : Nat) (C₀ : Nat → Prop) (W : World) (pre : List (Int × Int)) (C : Nat → Prop) (X : World) : Prop :=
  ∃ Cj, C = (fun b => Cj b ∨ b = z) ∧ J (pre.map (mkK f)) Cj X ∧ Bx X z #[.func (.yield l) #[] #[]] ∧ Grw C₀ Cj W
def KX (J : List Brick → (Nat → Prop) → World → Prop) (f : Int → Int → Int) (z : Nat) (C₀ : Nat → Prop) (W : World) (c : Code) (pre : List (Int × Int)) (C : Nat → Prop) (X : World) : Prop :=
  c = .ret ∧ ∃ Cj, C = (fun b => Cj b ∨ b = z) ∧ J (pre.map (mkK f)) Cj X ∧ Grw C₀ Cj W
theorem Bx.but {C : Nat → Prop} {X Y : World} {b : Nat} {vs : Array Value} (h : Bx X b vs) (hb : But C X Y) (hc : ¬ C b) : Bx Y b vs := by
  have e := hb.block b h.lt hc
  refine ⟨Nat.lt_of_lt_of_le h.lt hb.size, fun i v hi => ?_, fun i => ?_⟩
  · rw [World.cell?_of_block (w := X) (a := ⟨b, i, none⟩) e]; exact h.cells i v hi
  · rw [World.frozen?_of_block (w := X) (a := ⟨b, i, none⟩) e]; exact h.free i
theorem kw_stab {J : List Brick → (Nat → Prop) → World → Prop} {f : Int → Int → Int} {z l : Nat} {C₀ : Nat → Prop} {W : World} {n₀ : Nat} (hJ : Stab n₀ J) : Stab n₀ (KW J f z l C₀ W) := by
  rintro pre C A B ⟨Cj, rfl, hj, hx, hg⟩ hbut
  exact ⟨Cj, rfl, hJ _ Cj A B hj (hbut.mono fun b _ h => ⟨h.1, fun h2 => h.2 (.inl h2)⟩), hx.but hbut (fun h => h.2 (.inr rfl)), hg⟩
theorem kx_stab {J : List Brick → (Nat → Prop) → World → Prop} {f : Int → Int → Int} {z : Nat} {C₀ : Nat → Prop} {W : World} {n₀ : Nat} (hJ : Stab n₀ J) (c : Code) : Stab n₀ (KX J f z C₀ W c) := by
  rintro pre C A B ⟨e, Cj, rfl, hj, hg⟩ hbut
  exact ⟨e, Cj, rfl, hJ _ Cj A B hj (hbut.mono fun b _ h => ⟨h.1, fun h2 => h.2 (.inl h2)⟩), hg⟩
set_option maxRecDepth 100000 in
set_option maxHeartbeats 4000000 in
theorem kinds_iter (bp bk gp gk : Nat) (lbp lbk : Array Value) (D : Int → Int → Prop) (f : Int → Int → Int) (L : List (Int × Int)) (w₀ : World) (Xp : Bx w₀ bp #[.func (.func gp) #[] lbp]) (Xk : Bx w₀ bk #[.func (.func gk) #[] lbk])
    (hit : Iter Try.prog gp lbp encP L w₀) (hf : TellsI gk lbk D f w₀) (hD : ∀ p, p ∈ L → D p.1 p.2) (eg : ∀ args w, (callFunc gp args).run Try.prog w = .ok (.enter gp args) w) (ek : ∀ args w, (callFunc gk args).run Try.prog w = .ok (.enter gk args) w) :
    Iter Try.prog 135 #[.pointer (some ⟨bp, 0, none⟩), .pointer (some ⟨bk, 0, none⟩)] encK (L.map (mkK f)) w₀ := by
  intro l J Jx C₀ W hW hC hJ hJx hY h0
  have hs0 := hW.size
  have p0 : W.cell? ⟨bp, 0, none⟩ = some (.func (.func gp) #[] lbp) := (bcell hW _ _ Xp.lt).trans (Xp.at_ 0 rfl)
  have lp : bp < W.heap.size := by have := Xp.lt; omega
  refine callsIn_wide.1 (callsIn_of_wp_marks (F := Fence.wide) (n := 0) Try.func135 rfl trivial ?_ rfl)
  simp only [Try.ntmps135, List.size_toArray, List.length_cons, List.length_nil, Nat.reduceAdd, Nat.reduceSub, Array.replicate_succ, Array.replicate_zero, List.push_toArray, List.append_toArray, List.nil_append, List.cons_append]
  gi_wp2
  have hw1 : Below W.heap.size W (W.alloc (.cells #[.func (.yield l) #[] #[]] 167)) := below_alloc _ _
  refine wp_range rfl eg hit (hW.trans (hw1.mono hs0)) (fun _ => rfl) (KW J f W.heap.size l C₀ (W.alloc (.cells #[.func (.yield l) #[] #[]] 167))) (KX Jx f W.heap.size C₀ (W.alloc (.cells #[.func (.yield l) #[] #[]] 167))) (fun b => C₀ b ∨ b = W.heap.size) ?hC (kw_stab hJ) (fun c => kx_stab hJx c) ?h0 ?hround ?hdone ?hstop
  case hC =>
    rintro pre C X ⟨Cj, rfl, hj, hx, _⟩ b (hb | rfl)
    · exact hC _ _ _ hj b hb
    · exact ⟨hs0, hx.lt⟩
  case h0 => exact ⟨C₀, rfl, hJ _ _ _ _ h0 (but_below hw1 (Nat.le_refl _)), Bx.new _ _ _, Grw.refl _ _⟩
  case hround =>
    rintro l2 pre x C X hl2 hl2' hnl ⟨rec2, hrec2⟩ ⟨Cj, rfl, hj, hx, hg⟩ hX hgC hpre
    unfold Round
    dsimp only [encP]
    gi_wp2
    refine ⟨below_alloc _ _, ?_⟩
    intro X₂ hb2 hs2 r2 hr2
    have hz1 : ¬ Cj W.heap.size := fun h => by
      rcases hg _ h with h2 | h2
      · have := (hC _ _ _ h0 _ h2).2; omega
      · rw [World.size_alloc] at h2; omega
    have hz2 : ¬ Cj X.heap.size := fun h => by have := (hC _ _ _ hj _ h).2; omega
    have hz3 : ¬ Cj bk := fun h => by have := (hC _ _ _ hj _ h).1; have := Xk.lt; omega
    have hne : l2 ≠ W.heap.size := fun e => hnl (.inr e)
    have hnj : ¬ Cj l2 := fun h => hnl (.inl h)
    simp at hl2
    have hj2 : J (pre.map (mkK f)) Cj X₂ := hJ _ _ _ _ (hJ _ _ _ _ hj (but_below (below_alloc X (.cells #[.int .i64 x.1, .int .i64 x.2] 51)) (Nat.le_refl _))) (hb2.mono fun b _ e => ⟨by omega, by rw [e]; exact hnj⟩)
    have hx2 : Bx X₂ W.heap.size #[.func (.yield l) #[] #[]] := (hx.alloc _).but hb2 (fun e => hne e.symm)
    have hp2 : Bx X₂ X.heap.size #[.int .i64 x.1, .int .i64 x.2] := (Bx.new X #[.int .i64 x.1, .int .i64 x.2] 51).but hb2 (by omega)
    have hX2 : Below w₀.heap.size w₀ X₂ := (hX.trans ((below_alloc X _).mono hX.size)).trans ⟨hb2.os, hb2.tape, hb2.output, hb2.size, fun b hb => hb2.block b (by have := hX.size; simp; omega) (by omega)⟩
    have xk2 : Bx X₂ bk #[.func (.func gk) #[] lbk] := Xk.below hX2
    have r0 : ∀ Y, But Cj X₂ Y → Y.cell? ⟨W.heap.size, 0, none⟩ = some (.func (.yield l) #[] #[]) := fun Y h => (hx2.but h hz1).at_ 0 rfl
    have r1 : ∀ Y, But Cj X₂ Y → Y.cell? ⟨X.heap.size, 0, none⟩ = some (.int .i64 x.1) := fun Y h => (hp2.but h hz2).at_ 0 rfl
    have r3 : ∀ Y, But Cj X₂ Y → Y.cell? ⟨X.heap.size, 1, none⟩ = some (.int .i64 x.2) := fun Y h => (hp2.but h hz2).at_ 1 rfl
    have r4 : ∀ Y, But Cj X₂ Y → Y.cell? ⟨bk, 0, none⟩ = some (.func (.func gk) #[] lbk) := fun Y h => (xk2.but h hz3).at_ 0 rfl
    have hmem : x ∈ L := by obtain ⟨t, ht⟩ := hpre; rw [← ht]; simp
    have hpm := prefix_map (mkK f) hpre
    simp only [List.map_append, List.map_cons, List.map_nil] at hpm
    have hs2' : X.heap.size < X₂.heap.size := by omega
    clear hs2
    gi_upto_region 3 with (fail)
    refine wpIn_region_R (But Cj X₂) (by kernel_rfl) ?_
    refine anyR_take (i := 0) (fun _ => trivial) rfl (by kernel_rfl) (fun _ _ _ h => h) (Or.inl ⟨by rfl, fun Y hYb => (by (try dsimp only at hYb); go_simp; rfl)⟩) (by repeat' (first | assumption | exact But.refl _ _ | refine But.drew ?_ | refine But.drewN ?_ _)) ?_
    simp only [Act.put, List.setIfInBounds_toArray, List.set_cons_zero, List.set_cons_succ]
    refine anyR_take (i := 1) (fun _ => trivial) rfl (by kernel_rfl) (fun _ _ _ h => h) (Or.inl ⟨by rfl, fun Y hYb => (by (try dsimp only at hYb); go_simp; rfl)⟩) (by repeat' (first | assumption | exact But.refl _ _ | refine But.drew ?_ | refine But.drewN ?_ _)) ?_
    simp only [Act.put, List.setIfInBounds_toArray, List.set_cons_zero, List.set_cons_succ]
    refine anyR_take (i := 2) (fun _ => trivial) rfl (by kernel_rfl) (fun _ _ _ h => h) (Or.inl ⟨by rfl, fun Y hYb => (by (try dsimp only at hYb); go_simp; rfl)⟩) (by repeat' (first | assumption | exact But.refl _ _ | refine But.drew ?_ | refine But.drewN ?_ _)) ?_
    simp only [Act.put, List.setIfInBounds_toArray, List.set_cons_zero, List.set_cons_succ]
    refine anyR_take (i := 3) (fun _ => trivial) rfl (by kernel_rfl) (fun _ _ _ h => h) (Or.inl ⟨by rfl, fun Y hYb => (by (try dsimp only at hYb); go_simp; rfl)⟩) (by repeat' (first | assumption | exact But.refl _ _ | refine But.drew ?_ | refine But.drewN ?_ _)) ?_
    simp only [Act.put, List.setIfInBounds_toArray, List.set_cons_zero, List.set_cons_succ]
    refine anyR_one (i := 4) (by kernel_rfl) rfl (by rfl) (fun K hK => ?_)
    go_simp
    refine ⟨trivial, rfl, callsIn_of ((hf x.1 x.2 _ (hD x hmem) hX2.drew).mono ?_)⟩
    rintro e Y3 ⟨rfl, hb3⟩
    have hB3 : Below X₂.heap.size X₂ Y3 := ⟨hb3.os, hb3.tape, hb3.output, hb3.size, hb3.block⟩
    have hbut3 : But Cj X₂ Y3 := but_below hB3 (Nat.le_refl _)
    refine hK _ _ hbut3 ?_
    clear hK K
    refine anyR_take (i := 5) (fun _ => trivial) rfl (by kernel_rfl) (fun _ _ _ h => h) (Or.inl ⟨by rfl, fun Y hYb => (by (try dsimp only at hYb); go_simp; rfl)⟩) (by repeat' (first | assumption | exact But.refl _ _ | refine But.drew ?_ | refine But.drewN ?_ _)) ?_
    simp only [Act.put, List.setIfInBounds_toArray, List.set_cons_zero, List.set_cons_succ]
    have hj3 : J (pre.map (mkK f)) Cj Y3 := hJ _ _ _ _ hj2 (but_below hB3 (Nat.le_refl _))
    have hX3 : Below w₀.heap.size w₀ Y3 := hX2.trans (hB3.mono hX2.size)
    obtain ⟨fn, tmps, asg, bdy, hy, hR⟩ := hY (pre.map (mkK f)) (mkK f x) Cj Y3 hj3 hX3 hpm
    dsimp only [encK, mkK] at hy
    refine anyR_one (i := 6) (by kernel_rfl) rfl (by rfl) (fun K hK => ?_)
    go_simp
    refine ⟨rfl, hR.mono ?_⟩
    rintro e Y4 ⟨C', hbut4, hg4, hor⟩
    have hs3 := hB3.size
    have hs4 := hbut4.size
    have hbutX : But Cj X₂ Y4 := hbut3.trans hbut4
    have hgW : Grw C₀ C' (W.alloc (.cells #[.func (.yield l) #[] #[]] 167)) := fun b h => (hg4 b h).elim (hg b) (fun h2 => .inr (by rw [World.size_alloc]; omega))
    have hgX : Grw Cj C' X₂ := fun b h => (hg4 b h).imp id (fun h2 => by omega)
    rcases hor with ⟨rfl, hj4⟩ | ⟨rfl, hj4⟩
    · refine hK _ _ hbutX ?_
      clear hK K
      refine anyR_take (i := 7) (fun _ => trivial) rfl (by kernel_rfl) (fun _ _ _ h => h) (Or.inl ⟨by rfl, fun Y hYb => (by (try dsimp only at hYb); go_simp; rfl)⟩) (by repeat' (first | assumption | exact But.refl _ _ | refine But.drew ?_ | refine But.drewN ?_ _)) ?_
      simp only [Act.put, List.setIfInBounds_toArray, List.set_cons_zero, List.set_cons_succ]
      refine anyR_done (by kernel_rfl) ?_ _
      gi_wp2
      exact ⟨fun b => C' b ∨ b = W.heap.size, hbutX.mono (fun b _ h => .inl h), fun b h => h.elim (fun h => (hgX b h).imp .inl id) (fun h => .inl (.inr h)), C', rfl, by simpa using hj4, hx2.but hbutX hz1, hgW⟩
    · refine hK _ _ hbutX ?_
      clear hK K
      refine anyR_take (i := 7) (fun _ => trivial) rfl (by kernel_rfl) (fun _ _ _ h => h) (Or.inl ⟨by rfl, fun Y hYb => (by (try dsimp only at hYb); go_simp; rfl)⟩) (by repeat' (first | assumption | exact But.refl _ _ | refine But.drew ?_ | refine But.drewN ?_ _)) ?_
      simp only [Act.put, List.setIfInBounds_toArray, List.set_cons_zero, List.set_cons_succ]
      refine anyR_done (by kernel_rfl) ?_ _
      gi_wp2
      exact ⟨fun b => C' b ∨ b = W.heap.size, hbutX.mono (fun b _ h => .inl h), fun b h => h.elim (fun h => (hgX b h).imp .inl id) (fun h => .inl (.inr h)), rfl, C', rfl, by simpa using hj4, hgW⟩
  case hdone =>
    rintro Dd C X hDd hnD ⟨Cj, rfl, hj, hx, hg⟩ hbut hgC hdef
    simp at hDd
    have hs1 := hbut.size
    simp at hs1
    have hfin : But C₀ W (X.putObj Dd (.deferred none)) := ⟨hbut.os, hbut.tape, hbut.output, by simp; omega, fun b hb hc => (World.putObj_heap_other (by omega)).trans ((hbut.block b (by simp; omega) (fun h => h.elim hc (fun e => by omega))).trans (hw1.block b hb))⟩
    have hjf := hJ _ _ _ _ hj ((but_putObj X Dd (.deferred none)).mono (fun b _ e => ⟨by omega, fun h => hnD (.inl (e ▸ h))⟩))
    have hgf : Grw C₀ Cj W := fun b h => (hg b h).imp id (fun h2 => by rw [World.size_alloc] at h2; omega)
    gi_wp2
    refine ⟨by simp, .inl ⟨_, _, rfl, run_takeDeferred hdef, ?_⟩⟩
    exact ⟨_, results_none rfl _ _ _, ⟨_, rfl⟩, hfin, Cj, hgf, .inl hjf⟩
  case hstop =>
    rintro Dd c pre C X hDd hnD hpre ⟨rfl, Cj, rfl, hj, hg⟩ hbut hgC hdef
    simp at hDd
    have hs1 := hbut.size
    simp at hs1
    have hfin : But C₀ W (X.putObj Dd (.deferred none)) := ⟨hbut.os, hbut.tape, hbut.output, by simp; omega, fun b hb hc => (World.putObj_heap_other (by omega)).trans ((hbut.block b (by simp; omega) (fun h => h.elim hc (fun e => by omega))).trans (hw1.block b hb))⟩
    have hjf := hJx _ _ _ _ hj ((but_putObj X Dd (.deferred none)).mono (fun b _ e => ⟨by omega, fun h => hnD (.inl (e ▸ h))⟩))
    have hgf : Grw C₀ Cj W := fun b h => (hg b h).imp id (fun h2 => by rw [World.size_alloc] at h2; omega)
    have hpm := prefix_map (mkK f) hpre
    gi_wp2
    refine ⟨by simp, .inl ⟨_, _, rfl, run_takeDeferred hdef, ?_⟩⟩
    exact ⟨_, results_none rfl _ _ _, ⟨_, rfl⟩, hfin, Cj, hgf, .inr ⟨_, hpm, hjf⟩⟩
end Go.Proofs.Ytnnaegnkkpknpaa
