/- Walk: ready, of the program: is all that is due to a site in the post? -/
import Derived.Test.YtmmjaobpoiofdaaGreatNCounts
import Derived.Test.YtmmjaobpoiofdaaGreatNDueF
namespace Go.Proofs.YtmmjaobpoiofdaaGreat
open Go Go.RowKit Go.Maps
attribute [local go_sem] Oper.semAt_some
set_option linter.unusedVariables false
set_option linter.unusedSimpArgs false
/-- the word between two rounds -/
def RW (c5 c6 bc bn bs b M : Nat) (cv : Array Value) (nd st : Int) (S : N6 → Bool) (w : World) (pre : List N6) (C : Nat → Prop) (X : World) : Prop :=
  C = (fun z => w.heap.size ≤ z ∧ z < M) ∧ Bx X c5 #[.map (some b)] ∧ Bx X c6 #[.bool false] ∧ DueRd cv nd st bc bn bs X ∧ (∀ x, x ∈ pre → S x = true) ∧ Below w.heap.size w X ∧ M ≤ X.heap.size
/-- .. and when a round has ended it -/
def RX (c6 M : Nat) (S : N6 → Bool) (w : World) (c : Code) (pre : List N6) (C : Nat → Prop) (X : World) : Prop :=
  c = .ret ∧ C = (fun z => w.heap.size ≤ z ∧ z < M) ∧ Bx X c6 #[.bool false] ∧ (∃ x, x ∈ pre ∧ S x = false) ∧ Below w.heap.size w X ∧ M ≤ X.heap.size
theorem below_but {w A B : World} {C : Nat → Prop} (hB : Below w.heap.size w A) (hbut : But (fun z => w.heap.size ≤ z ∧ C z) A B) : Below w.heap.size w B :=
  hB.trans (⟨hbut.os, hbut.tape, hbut.output, hbut.size, fun z hz => hbut.block z (by have := hB.size; omega) (fun h => by omega)⟩ : Below w.heap.size A B)
theorem rw_stab {c5 c6 bc bn bs b M : Nat} {cv : Array Value} {nd st : Int} {S : N6 → Bool} {w : World} (hm : (w.heap.size ≤ c5 ∧ c5 < M) ∧ (w.heap.size ≤ c6 ∧ c6 < M) ∧ (w.heap.size ≤ bc ∧ bc < M) ∧ (w.heap.size ≤ bn ∧ bn < M) ∧ (w.heap.size ≤ bs ∧ bs < M)) :
    Stab w.heap.size (RW c5 c6 bc bn bs b M cv nd st S w) := by
  rintro pre C A B ⟨rfl, h5, h6, ⟨hc, hn, hs⟩, hS, hB, hM⟩ hbut
  obtain ⟨m5, m6, mc, mn, ms⟩ := hm
  exact ⟨rfl, h5.but hbut (fun h => h.2 m5), h6.but hbut (fun h => h.2 m6), ⟨hc.but hbut (fun h => h.2 mc), hn.but hbut (fun h => h.2 mn), hs.but hbut (fun h => h.2 ms)⟩, hS, below_but hB hbut, Nat.le_trans hM hbut.size⟩
theorem rx_stab {c6 M : Nat} {S : N6 → Bool} {w : World} (hm : w.heap.size ≤ c6 ∧ c6 < M) (c : Code) : Stab w.heap.size (RX c6 M S w c) := by
  rintro pre C A B ⟨h1, rfl, h6, hS, hB, hM⟩ hbut
  exact ⟨h1, rfl, h6.but hbut (fun h => h.2 hm), hS, below_but hB hbut, Nat.le_trans hM hbut.size⟩
set_option maxRecDepth 100000 in
set_option maxHeartbeats 4000000 in
theorem node_ready (Wd Hd : Nat) (a ao : Option Addr) (n c no co : Nat) (o : Nat → Int) (nd st : Int) (ix cl : Option Addr) (ni ci nc cc b q : Nat) (S : N6 → Bool) (V : N6 → Int) (w : World) (h1 : 1 ≤ Wd ∧ Wd ≤ 64) (h2 : 1 ≤ Hd ∧ Hd ≤ 64) (hno : no = Wd * Hd) (HO : Sl w ao no o) (HM : PcM w b q S V)
    (hL : ∀ x, x ∈ dueL Wd Hd o nd st no → wfN x) :
    Calls Tryz.prog 28 #[.agg (cluV Wd Hd a ao n c no co), .agg #[.int .i64 nd, .int .i64 st, .slice ix ni ci, .slice cl nc cc], .map (some b)] w
      fun e w' => e = .returned (.bool (st == 0 || (dueL Wd Hd o nd st no).all S)) ∧ Below w.heap.size w w' := by
  have hdu := fun W => node_due (Wd : Int) (Hd : Int) a ao n c no co nd st W
  have hit := fun bc bn bs => due_iterR Wd Hd a ao n c no co o nd st bc bn bs w h1 h2 hno HO
  have hlt := pcm_lt HM
  clear hno
  generalize hLL : dueL Wd Hd o nd st no = L at *
  clear hLL
  unfold cluV at *
  have X0 := (((Bx.new w #[.int .i64 (Wd : Int), .int .i64 (Hd : Int), .slice a n c, .slice ao no co] 67).alloc (.cells #[.int .i64 nd, .int .i64 st, .slice ix ni ci, .slice cl nc cc] 30)).alloc (.cells #[.map (some b)] 69)).alloc (.cells #[.bool false] 4)
  have X1 := ((Bx.new (w.alloc (.cells #[.int .i64 (Wd : Int), .int .i64 (Hd : Int), .slice a n c, .slice ao no co] 67)) #[.int .i64 nd, .int .i64 st, .slice ix ni ci, .slice cl nc cc] 30).alloc (.cells #[.map (some b)] 69)).alloc (.cells #[.bool false] 4)
  have X2 := (Bx.new ((w.alloc (.cells #[.int .i64 (Wd : Int), .int .i64 (Hd : Int), .slice a n c, .slice ao no co] 67)).alloc (.cells #[.int .i64 nd, .int .i64 st, .slice ix ni ci, .slice cl nc cc] 30)) #[.map (some b)] 69).alloc (.cells #[.bool false] 4)
  have X3 := Bx.new (((w.alloc (.cells #[.int .i64 (Wd : Int), .int .i64 (Hd : Int), .slice a n c, .slice ao no co] 67)).alloc (.cells #[.int .i64 nd, .int .i64 st, .slice ix ni ci, .slice cl nc cc] 30)).alloc (.cells #[.map (some b)] 69)) #[.bool false] 4
  simp only [World.size_alloc] at X1 X2 X3
  have hB0 : Below w.heap.size w ((((w.alloc (.cells #[.int .i64 (Wd : Int), .int .i64 (Hd : Int), .slice a n c, .slice ao no co] 67)).alloc (.cells #[.int .i64 nd, .int .i64 st, .slice ix ni ci, .slice cl nc cc] 30)).alloc (.cells #[.map (some b)] 69)).alloc (.cells #[.bool false] 4)) := by (repeat' (first | with_reducible assumption | with_reducible exact Below.refl _ _ | with_reducible refine Below.drew ?_ | with_reducible refine below_drewN ?_ _ | with_reducible refine balloc ?_ _ | with_reducible refine bset ?_ ?_ _ | with_reducible refine Below.setCell ?_ ?_ _ | with_reducible refine Below.alloc ?_ ?_ _ | omega | (simp; done) | (simp; omega)))
  cases h0 : (st == 0)
  rotate_left
  · rw [Bool.true_or]
    go_enter Tryz.func28, Tryz.ntmps28
    go_wp2_with fail
    generalize ((((w.alloc (.cells #[.int .i64 (Wd : Int), .int .i64 (Hd : Int), .slice a n c, .slice ao no co] 67)).alloc (.cells #[.int .i64 nd, .int .i64 st, .slice ix ni ci, .slice cl nc cc] 30)).alloc (.cells #[.map (some b)] 69)).alloc (.cells #[.bool false] 4)) = W0 at X0 X1 X2 X3 hB0 ⊢
    have z0 := X0.lt
    have z1 := X1.lt
    have z2 := X2.lt
    have z3 := X3.lt
    have f3 := X3.free
    go_wp2
    have c3 := (X3.set_ 0 (by simp) (.bool true)).at_ 0 rfl
    refine bodyPost_ret (v := .bool true) (by simp [results, Tryz.results28, go_sem, c3]) rfl ⟨rfl, ?_⟩
    (repeat' (first | with_reducible assumption | with_reducible exact Below.refl _ _ | with_reducible refine Below.drew ?_ | with_reducible refine below_drewN ?_ _ | with_reducible refine balloc ?_ _ | with_reducible refine bset ?_ ?_ _ | with_reducible refine Below.setCell ?_ ?_ _ | with_reducible refine Below.alloc ?_ ?_ _ | omega | (simp; done) | (simp; omega)))
  rw [Bool.false_or]
  refine callsIn_wide.1 (callsIn_of_wp_marks (F := Fence.wide) (n := 0) Tryz.func28 rfl trivial ?_ rfl)
  simp only [Tryz.ntmps28, List.size_toArray, List.length_cons, List.length_nil, Nat.reduceAdd, Nat.reduceSub, Array.replicate_succ, Array.replicate_zero, List.push_toArray, List.append_toArray, List.nil_append, List.cons_append]
  gi_wp2_with fail
  generalize ((((w.alloc (.cells #[.int .i64 (Wd : Int), .int .i64 (Hd : Int), .slice a n c, .slice ao no co] 67)).alloc (.cells #[.int .i64 nd, .int .i64 st, .slice ix ni ci, .slice cl nc cc] 30)).alloc (.cells #[.map (some b)] 69)).alloc (.cells #[.bool false] 4)) = W0 at X0 X1 X2 X3 hB0 ⊢
  have z0 := X0.lt
  have z1 := X1.lt
  have z2 := X2.lt
  have z3 := X3.lt
  refine ⟨trivial, rfl, callsIn_wide.2 ((hdu _).mono ?_)⟩
  rintro e w2 ⟨bc, bn, bs, rfl, Zc, Zn, Zs, ⟨g1, g2, g3⟩, hb2⟩
  have hit2 := hit bc bn bs
  have B2 := bvia hB0 hb2
  have Y2 := X2.below hb2; have Y3 := X3.below hb2
  have hs0 := hB0.size; have hs2 := hb2.size
  have lc := Zc.lt; have ln := Zn.lt; have ls := Zs.lt
  clear X0 X1 X2 X3 hb2 hdu hit hB0
  have hm : (w.heap.size ≤ w.heap.size + 1 + 1 ∧ w.heap.size + 1 + 1 < w2.heap.size) ∧ (w.heap.size ≤ w.heap.size + 1 + 1 + 1 ∧ w.heap.size + 1 + 1 + 1 < w2.heap.size) ∧ (w.heap.size ≤ bc ∧ bc < w2.heap.size) ∧ (w.heap.size ≤ bn ∧ bn < w2.heap.size) ∧ (w.heap.size ≤ bs ∧ bs < w2.heap.size) := by
    have := Y3.lt; omega
  gi_wp2_with fail
  refine wp_rangeR rfl ent_due hit2 B2 (fun _ => rfl) (RW (w.heap.size + 1 + 1) (w.heap.size + 1 + 1 + 1) bc bn bs b w2.heap.size _ nd st S w) (RX (w.heap.size + 1 + 1 + 1) w2.heap.size S w) (fun z => w.heap.size ≤ z ∧ z < w2.heap.size) (fun pre C X h => h.2.2.2.1) ?hC (rw_stab hm) (fun c => rx_stab hm.2.1 c) ?h0 ?hround ?hdone ?hstop
  case hC =>
    rintro pre C X ⟨rfl, _, _, _, _, _, hz⟩ z hz'
    exact ⟨hz'.1, by omega⟩
  case h0 => exact ⟨rfl, Y2, Y3, ⟨Zc, Zn, Zs⟩, fun x hx => (by cases hx), B2, Nat.le_refl _⟩
  case hround =>
    rintro l pre x C X hl hl' hnl ⟨rec2, hrec2⟩ ⟨rfl, h5, h6, hD, hS, hB, hM⟩ hX hgC hpre
    have hwf : wfN x := hL x (by obtain ⟨t, ht⟩ := hpre; rw [← ht]; exact List.mem_append.2 (.inl (List.mem_append.2 (.inr (List.mem_singleton.2 rfl)))))
    have hof := fun W => node_of x W
    unfold Round
    dsimp only [encN]
    gi_wp2_with fail
    refine ⟨below_alloc _ _, ?_⟩
    intro X₂ hb2 hs2 r2 hr2
    have hbx : But (fun z => z = l) X X₂ := (But.refl _ X |>.alloc _).trans hb2
    have hl2 : w2.heap.size ≤ l := hl
    have P5 := h5.but hbx (by omega); have P6 := h6.but hbx (by omega)
    have PD : DueRd _ nd st bc bn bs X₂ := ⟨hD.1.but hbx (by omega), hD.2.1.but hbx (by omega), hD.2.2.but hbx (by omega)⟩
    have B3 : Below w.heap.size w X₂ := below_but (C := fun z => z = l) hB (hbx.mono (fun z _ h => ⟨by omega, h⟩))
    have U : Bx X₂ X.heap.size #[.int .i64 x.st, .int .i64 x.fr, .int .i64 x.to, .int .i64 x.ce, .int .i64 x.di, .int .i64 x.co] := (Bx.new X #[.int .i64 x.st, .int .i64 x.fr, .int .i64 x.to, .int .i64 x.ce, .int .i64 x.di, .int .i64 x.co] 78).but hb2 (by omega)
    have hz2 := hbx.size
    have B4 : Below X₂.heap.size X₂ X₂ := Below.refl _ _
    have r0 : ∀ Y, But (fun _ => False) X₂ Y → Y.cell? ⟨w.heap.size + 1 + 1, 0, none⟩ = some (.map (some b)) := fun Y h => (P5.but h id).at_ 0 rfl
    have u0 : ∀ Y, But (fun _ => False) X₂ Y → Y.cell? ⟨X.heap.size, 0, none⟩ = some (.int .i64 x.st) := fun Y h => (U.but h id).at_ 0 rfl
    have u1 : ∀ Y, But (fun _ => False) X₂ Y → Y.cell? ⟨X.heap.size, 1, none⟩ = some (.int .i64 x.fr) := fun Y h => (U.but h id).at_ 1 rfl
    have u2 : ∀ Y, But (fun _ => False) X₂ Y → Y.cell? ⟨X.heap.size, 2, none⟩ = some (.int .i64 x.to) := fun Y h => (U.but h id).at_ 2 rfl
    have u3 : ∀ Y, But (fun _ => False) X₂ Y → Y.cell? ⟨X.heap.size, 3, none⟩ = some (.int .i64 x.ce) := fun Y h => (U.but h id).at_ 3 rfl
    have u4 : ∀ Y, But (fun _ => False) X₂ Y → Y.cell? ⟨X.heap.size, 4, none⟩ = some (.int .i64 x.di) := fun Y h => (U.but h id).at_ 4 rfl
    have u5 : ∀ Y, But (fun _ => False) X₂ Y → Y.cell? ⟨X.heap.size, 5, none⟩ = some (.int .i64 x.co) := fun Y h => (U.but h id).at_ 5 rfl
    have hlk : ∀ Y, But (fun _ => False) X₂ Y → (Instr.lookup 69 (.map (some b)) (plV x) true).run Tryz.prog Y = .ok (.tuple #[.int .i64 (V x), .bool (S x)]) Y := fun Y h =>
      pcm_look (pcm_below HM (below_but (C := fun _ => False) B3 (h.mono (fun z _ h' => h'.elim)))) hwf
    unfold plV at hlk
    have hgo : S x = true → ∀ Y, But (fun _ => False) X₂ Y → But (fun z => w.heap.size ≤ z ∧ z < w2.heap.size) X₂ Y ∧ RW (w.heap.size + 1 + 1) (w.heap.size + 1 + 1 + 1) bc bn bs b w2.heap.size #[.int .i64 (Wd : Int), .int .i64 (Hd : Int), .slice a n c, .slice ao no co] nd st S w (pre ++ [x]) (fun z => w.heap.size ≤ z ∧ z < w2.heap.size) Y := fun hx Y hY =>
      ⟨hY.mono (fun _ _ h => h.elim), rfl, P5.but hY id, P6.but hY id, ⟨PD.1.but hY id, PD.2.1.but hY id, PD.2.2.but hY id⟩, fun y hy => by
        rcases List.mem_append.1 hy with h | h
        · exact hS y h
        · rw [List.mem_singleton.1 h]; exact hx, below_but (C := fun _ => False) B3 (hY.mono (fun _ _ h => h.elim)), by have := hY.size; omega⟩
    have hend : S x = false → ∀ Y, But (fun _ => False) X₂ Y → But (fun z => w.heap.size ≤ z ∧ z < w2.heap.size) X₂ (Y.setCell ⟨w.heap.size + 1 + 1 + 1, 0, none⟩ (.bool false)) ∧ RX (w.heap.size + 1 + 1 + 1) w2.heap.size S w .ret (pre ++ [x]) (fun z => w.heap.size ≤ z ∧ z < w2.heap.size) (Y.setCell ⟨w.heap.size + 1 + 1 + 1, 0, none⟩ (.bool false)) := fun hx Y hY => by
      have hY2 : But (fun z => w.heap.size ≤ z ∧ z < w2.heap.size) X₂ (Y.setCell ⟨w.heap.size + 1 + 1 + 1, 0, none⟩ (.bool false)) := But.set_ (hY.mono (fun _ _ h => h.elim)) hm.2.1 _
      exact ⟨hY2, rfl, rfl, (P6.but hY id).set_ 0 (by simp) (.bool false), ⟨x, by simp, hx⟩, below_but (C := fun z => z < w2.heap.size) B3 hY2, by have := hY2.size; omega⟩
    gi_upto_region 5 with (fail)
    refine wpIn_region_R (But (fun _ => False) X₂) (by kernel_rfl) ?_
    refine anyR_take (i := 0) (fun _ => trivial) rfl (by kernel_rfl) (fun _ _ _ h => h) (Or.inl ⟨by rfl, fun Y hYb => (by (try dsimp only at hYb); go_simp; rfl)⟩) (by repeat' (first | assumption | exact But.refl _ _ | refine But.drew ?_ | refine But.drewN ?_ _)) ?_
    simp only [Act.put, List.setIfInBounds_toArray, List.set_cons_zero, List.set_cons_succ]
    refine anyR_take (i := 1) (fun _ => trivial) rfl (by kernel_rfl) (fun _ _ _ h => h) (Or.inl ⟨by rfl, fun Y hYb => (by (try dsimp only at hYb); go_simp; rfl)⟩) (by repeat' (first | assumption | exact But.refl _ _ | refine But.drew ?_ | refine But.drewN ?_ _)) ?_
    simp only [Act.put, List.setIfInBounds_toArray, List.set_cons_zero, List.set_cons_succ]
    refine anyR_one (i := 2) (by kernel_rfl) rfl (by rfl) (fun K hK => ?_)
    go_simp
    refine ⟨trivial, rfl, callsIn_of ((hof _).mono ?_)⟩
    rintro e X4 ⟨rfl, hb4⟩
    have hs4 : But (fun _ => False) X₂ X4 := (But.refl _ X₂).drew.trans (but_below hb4 (Nat.le_refl _))
    refine hK _ _ hs4 ?_
    clear hK K hb4
    cases hSx : S x
    all_goals
      rw [hSx] at hlk
      refine anyR_take (i := 3) (fun _ => trivial) rfl (by kernel_rfl) (fun _ _ _ h => h) (Or.inl ⟨by rfl, fun Y hYb => (by (try dsimp only at hYb); go_simp; rfl)⟩) (by repeat' (first | assumption | exact But.refl _ _ | refine But.drew ?_ | refine But.drewN ?_ _)) ?_
      simp only [Act.put, List.setIfInBounds_toArray, List.set_cons_zero, List.set_cons_succ]
      refine anyR_take (i := 4) (fun _ => trivial) rfl (by kernel_rfl) (fun _ _ _ h => h) (Or.inl ⟨by rfl, fun Y hYb => (by (try dsimp only at hYb); go_simp; rfl)⟩) (by repeat' (first | assumption | exact But.refl _ _ | refine But.drew ?_ | refine But.drewN ?_ _)) ?_
      simp only [Act.put, List.setIfInBounds_toArray, List.set_cons_zero, List.set_cons_succ]
      refine anyR_take (i := 5) (fun _ => trivial) rfl (by kernel_rfl) (fun _ _ _ h => h) (Or.inl ⟨by rfl, fun Y hYb => (by (try dsimp only at hYb); go_simp; rfl)⟩) (by repeat' (first | assumption | exact But.refl _ _ | refine But.drew ?_ | refine But.drewN ?_ _)) ?_
      simp only [Act.put, List.setIfInBounds_toArray, List.set_cons_zero, List.set_cons_succ]
      refine anyR_take (i := 6) (fun _ => trivial) rfl (by kernel_rfl) (fun _ _ _ h => h) (Or.inl ⟨by rfl, fun Y hYb => (by (try dsimp only at hYb); go_simp; rfl)⟩) (by repeat' (first | assumption | exact But.refl _ _ | refine But.drew ?_ | refine But.drewN ?_ _)) ?_
      simp only [Act.put, List.setIfInBounds_toArray, List.set_cons_zero, List.set_cons_succ]
      refine anyR_take (i := 7) (fun _ => trivial) rfl (by kernel_rfl) (fun _ _ _ h => h) (Or.inl ⟨by rfl, fun Y hYb => (by (try dsimp only at hYb); go_simp; rfl)⟩) (by repeat' (first | assumption | exact But.refl _ _ | refine But.drew ?_ | refine But.drewN ?_ _)) ?_
      simp only [Act.put, List.setIfInBounds_toArray, List.set_cons_zero, List.set_cons_succ]
      refine anyR_take (i := 8) (fun _ => trivial) rfl (by kernel_rfl) (fun _ _ _ h => h) (Or.inl ⟨by rfl, fun Y hYb => (by (try dsimp only at hYb); go_simp; rfl)⟩) (by repeat' (first | assumption | exact But.refl _ _ | refine But.drew ?_ | refine But.drewN ?_ _)) ?_
      simp only [Act.put, List.setIfInBounds_toArray, List.set_cons_zero, List.set_cons_succ]
      refine anyR_done (by kernel_rfl) ?_ _
    · have hst := hend hSx
      have r6 := (P6.but hs4 id).at_ 0 rfl; have f6 := (P6.but hs4 id).free; have l6 := (P6.but hs4 id).lt
      clear hlk u0 u1 u2 u3 u4 u5 r0 hgo hend
      gi_wp2_with fail
      exact ⟨_, (hst _ (by repeat' (first | assumption | exact But.refl _ _ | refine But.drew ?_ | refine But.drewN ?_ _ | exact But.set_ (by repeat' (first | assumption | exact But.refl _ _ | refine But.drew ?_ | refine But.drewN ?_ _)) (.inl rfl) _ | exact But.set_ (by repeat' (first | assumption | exact But.refl _ _ | refine But.drew ?_ | refine But.drewN ?_ _)) (.inr rfl) _))).1, Grw.refl _ _, (hst _ (by repeat' (first | assumption | exact But.refl _ _ | refine But.drew ?_ | refine But.drewN ?_ _ | exact But.set_ (by repeat' (first | assumption | exact But.refl _ _ | refine But.drew ?_ | refine But.drewN ?_ _)) (.inl rfl) _ | exact But.set_ (by repeat' (first | assumption | exact But.refl _ _ | refine But.drew ?_ | refine But.drewN ?_ _)) (.inr rfl) _))).2⟩
    · have hst := hgo hSx
      clear hlk u0 u1 u2 u3 u4 u5 r0 hgo hend
      gi_wp2_with fail
      exact ⟨_, (hst _ (by repeat' (first | assumption | exact But.refl _ _ | refine But.drew ?_ | refine But.drewN ?_ _ | exact But.set_ (by repeat' (first | assumption | exact But.refl _ _ | refine But.drew ?_ | refine But.drewN ?_ _)) (.inl rfl) _ | exact But.set_ (by repeat' (first | assumption | exact But.refl _ _ | refine But.drew ?_ | refine But.drewN ?_ _)) (.inr rfl) _))).1, Grw.refl _ _, (hst _ (by repeat' (first | assumption | exact But.refl _ _ | refine But.drew ?_ | refine But.drewN ?_ _ | exact But.set_ (by repeat' (first | assumption | exact But.refl _ _ | refine But.drew ?_ | refine But.drewN ?_ _)) (.inl rfl) _ | exact But.set_ (by repeat' (first | assumption | exact But.refl _ _ | refine But.drew ?_ | refine But.drewN ?_ _)) (.inr rfl) _))).2⟩
  case hdone =>
    rintro Dd C X hDd hnD ⟨rfl, h5, h6, _, hS, hB, hM⟩ hbut hgC hdef
    have r6 := h6.at_ 0 rfl; have f6 := h6.free; have l6 := h6.lt
    have hall : L.all S = true := List.all_eq_true.2 hS
    have HA := hid hall; clear hall
    gi_wp2
    have hd1 : (X.setCell ⟨w.heap.size + 1 + 1 + 1, 0, none⟩ (.bool true)).heap[Dd]? = some (.deferred (some [])) := by
      rw [Below.heap_setCell _ _ _ _ (by dsimp only; omega)]
      exact hdef
    have hbp := but_putObj (X.setCell ⟨w.heap.size + 1 + 1 + 1, 0, none⟩ (.bool true)) Dd (.deferred none)
    have c6 := ((h6.set_ 0 (by simp) (.bool true)).but hbp (by omega)).at_ 0 rfl
    have B5 : Below w.heap.size w (X.setCell ⟨w.heap.size + 1 + 1 + 1, 0, none⟩ (.bool true)) := by (repeat' (first | with_reducible assumption | with_reducible exact Below.refl _ _ | with_reducible refine Below.drew ?_ | with_reducible refine below_drewN ?_ _ | with_reducible refine balloc ?_ _ | with_reducible refine bset ?_ ?_ _ | with_reducible refine Below.setCell ?_ ?_ _ | with_reducible refine Below.alloc ?_ ?_ _ | omega | (simp; done) | (simp; omega)))
    have B6 := B5.trans (⟨hbp.os, hbp.tape, hbp.output, hbp.size, fun z hz => hbp.block z (by have := B5.size; omega) (by omega)⟩ : Below w.heap.size _ _)
    refine ⟨by simp, .inl ⟨_, _, rfl, run_takeDeferred hd1, ?_⟩⟩
    refine ⟨.bool true, by simp [results, Tryz.results28, go_sem, c6], ?_⟩
    rw [HA.out]
    exact ⟨rfl, B6⟩
  case hstop =>
    rintro Dd c pre C X hDd hnD hpre ⟨rfl, rfl, h6, ⟨x, hx, hbad⟩, hB, hM⟩ hbut hgC hdef
    have hmem : x ∈ L := by obtain ⟨t, ht⟩ := hpre; rw [← ht]; exact List.mem_append.2 (.inl hx)
    have hall : L.all S = false := by
      rw [← Bool.not_eq_true, List.all_eq_true]
      intro h; have := h x hmem; rw [hbad] at this; cases this
    have HA := hid hall; clear hall
    gi_wp2
    have hbp := but_putObj X Dd (.deferred none)
    have c6 := (h6.but hbp (by omega)).at_ 0 rfl
    have B6 := hB.trans (⟨hbp.os, hbp.tape, hbp.output, hbp.size, fun z hz => hbp.block z (by have := hB.size; omega) (by omega)⟩ : Below w.heap.size _ _)
    refine ⟨by simp, .inl ⟨_, _, rfl, run_takeDeferred hdef, ?_⟩⟩
    refine ⟨.bool false, by simp [results, Tryz.results28, go_sem, c6], ?_⟩
    rw [HA.out]
    exact ⟨rfl, B6⟩
end Go.Proofs.YtmmjaobpoiofdaaGreat
