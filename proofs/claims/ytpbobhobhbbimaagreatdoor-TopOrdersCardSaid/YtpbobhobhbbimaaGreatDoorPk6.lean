/- Walk: ready, of the program: is all that is due to a site in the post? -/
import Derived.Test.YtpbobhobhbbimaaGreatDoorPk3
import Derived.Test.YtpbobhobhbbimaaGreatDoorPk5
import Derived.Test.YtpbobhobhbbimaaGreatDoorPk4
import Derived.Test.YtpbobhobhbbimaaGreatDoorPk1
import Derived.Maps.AppendAt
import Derived.Laws.AppendOwnNone
import Derived.Test.YtpbobhobhbbimaaGreatDoorPk2
namespace Go.Proofs.YtpbobhobhbbimaaGreatDoor
open Go Go.RowKit Go.Maps
attribute [local go_sem] Oper.semAt_some
set_option linter.unusedVariables false
set_option linter.unusedSimpArgs false
/-- the word between two rounds -/
def RW (c5 c6 bc bn bs b M : Nat) (cv : Array Value) (nd st : Int) (S : N6 → Bool) (w : World) (pre : List N6) (C : Nat → Prop) (X : World) : Prop :=
  C = (fun z => w.heap.size ≤ z ∧ z < M) ∧ Bx X c5 #[.map (some b)] ∧ Bx X c6 #[.bool false] ∧ DueRd cv nd st bc bn bs X ∧ (∀ x, x ∈ pre → S x = true) ∧ Below w.heap.size w X ∧ M ≤ X.heap.size
/-- .. and when a round has ended it -/
def RX (c6 M : Nat) (S : N6 → Bool) (w : World) (c : Code) (pre : List N6) (C : Nat → Prop) (X : World) : Prop :=
  c = .ret ∧ C = (fun z => w.heap.size ≤ z ∧ z < M) ∧ Bx X c6 #[.bool false] ∧ (∃ x, x ∈ pre ∧ S x = false) ∧ Below w.heap.size w X ∧ M ≤ X.heap.size
theorem below_but {w A B : World} {C : Nat → Prop} (hB : Below w.heap.size w A) (hbut : But (fun z => w.heap.size ≤ z ∧ C z) A B) : Below w.heap.size w B :=
  hB.trans (⟨hbut.os, hbut.tape, hbut.output, hbut.size, fun z hz => hbut.block z (by have := hB.size; omega) (fun h => by omega)⟩ : Below w.heap.size A B)
theorem rw_stab {c5 c6 bc bn bs b M : Nat} {cv : Array Value} {nd st : Int} {S : N6 → Bool} {w : World} (hm : (w.heap.size ≤ c5 ∧ c5 < M) ∧ (w.heap.size ≤ c6 ∧ c6 < M) ∧ (w.heap.size ≤ bc ∧ bc < M) ∧ (w.heap.size ≤ bn ∧ bn < M) ∧ (w.heap.size ≤ bs ∧ bs < M)) :
    Stab w.heap.size (RW c5 c6 bc bn bs b M cv nd st S w) := by
  rintro pre C A B ⟨rfl, h5, h6, ⟨hc, hn, hs⟩, hS, hB, hM⟩ hbut
  obtain ⟨m5, m6, mc, mn, ms⟩ := hm
  exact ⟨rfl, h5.but hbut (fun h => h.2 m5), h6.but hbut (fun h => h.2 m6), ⟨hc.but hbut (fun h => h.2 mc), hn.but hbut (fun h => h.2 mn), hs.but hbut (fun h => h.2 ms)⟩, hS, below_but hB hbut, Nat.le_trans hM hbut.size⟩
theorem rx_stab {c6 M : Nat} {S : N6 → Bool} {w : World} (hm : w.heap.size ≤ c6 ∧ c6 < M) (c : Code) : Stab w.heap.size (RX c6 M S w c) := by
  rintro pre C A B ⟨h1, rfl, h6, hS, hB, hM⟩ hbut
  exact ⟨h1, rfl, h6.but hbut (fun h => h.2 hm), hS, below_but hB hbut, Nat.le_trans hM hbut.size⟩
set_option maxRecDepth 100000 in
set_option maxHeartbeats 4000000 in
theorem node_ready (Wd Hd : Nat) (a ao : Option Addr) (n c no co : Nat) (o : Nat → Int) (nd st : Int) (ix cl : Option Addr) (ni ci nc cc b q : Nat) (S : N6 → Bool) (V : N6 → Int) (w : World) (h1 : 1 ≤ Wd ∧ Wd ≤ 64) (h2 : 1 ≤ Hd ∧ Hd ≤ 64) (hno : no = Wd * Hd) (HO : Sl w ao no o) (HM : PcM w b q S V)
    (hL : ∀ x, x ∈ dueL Wd Hd o nd st no → wfN x) :
    Calls Tryz.prog 24 #[.agg (cluV Wd Hd a ao n c no co), .agg #[.int .i64 nd, .int .i64 st, .slice ix ni ci, .slice cl nc cc], .map (some b)] w
      fun e w' => e = .returned (.bool (st == 0 || (dueL Wd Hd o nd st no).all S)) ∧ Below w.heap.size w w' := by
  have hdu := fun W => node_due (Wd : Int) (Hd : Int) a ao n c no co nd st W
  have hit := fun bc bn bs => due_iterR Wd Hd a ao n c no co o nd st bc bn bs w h1 h2 hno HO
  have hlt := pcm_lt HM
  clear hno
  generalize hLL : dueL Wd Hd o nd st no = L at *
  clear hLL
  unfold cluV at *
  have X0 := (((Bx.new w #[.int .i64 (Wd : Int), .int .i64 (Hd : Int), .slice a n c, .slice ao no co] 57).alloc (.cells #[.int .i64 nd, .int .i64 st, .slice ix ni ci, .slice cl nc cc] 40)).alloc (.cells #[.map (some b)] 65)).alloc (.cells #[.bool false] 4)
  have X1 := ((Bx.new (w.alloc (.cells #[.int .i64 (Wd : Int), .int .i64 (Hd : Int), .slice a n c, .slice ao no co] 57)) #[.int .i64 nd, .int .i64 st, .slice ix ni ci, .slice cl nc cc] 40).alloc (.cells #[.map (some b)] 65)).alloc (.cells #[.bool false] 4)
  have X2 := (Bx.new ((w.alloc (.cells #[.int .i64 (Wd : Int), .int .i64 (Hd : Int), .slice a n c, .slice ao no co] 57)).alloc (.cells #[.int .i64 nd, .int .i64 st, .slice ix ni ci, .slice cl nc cc] 40)) #[.map (some b)] 65).alloc (.cells #[.bool false] 4)
  have X3 := Bx.new (((w.alloc (.cells #[.int .i64 (Wd : Int), .int .i64 (Hd : Int), .slice a n c, .slice ao no co] 57)).alloc (.cells #[.int .i64 nd, .int .i64 st, .slice ix ni ci, .slice cl nc cc] 40)).alloc (.cells #[.map (some b)] 65)) #[.bool false] 4
  simp only [World.size_alloc] at X1 X2 X3
  have hB0 : Below w.heap.size w ((((w.alloc (.cells #[.int .i64 (Wd : Int), .int .i64 (Hd : Int), .slice a n c, .slice ao no co] 57)).alloc (.cells #[.int .i64 nd, .int .i64 st, .slice ix ni ci, .slice cl nc cc] 40)).alloc (.cells #[.map (some b)] 65)).alloc (.cells #[.bool false] 4)) := by (repeat' (first | with_reducible assumption | with_reducible exact Below.refl _ _ | with_reducible refine Below.drew ?_ | with_reducible refine below_drewN ?_ _ | with_reducible refine balloc ?_ _ | with_reducible refine bset ?_ ?_ _ | with_reducible refine Below.setCell ?_ ?_ _ | with_reducible refine Below.alloc ?_ ?_ _ | omega | (simp; done) | (simp; omega)))
  cases h0 : (st == 0)
  rotate_left
  · rw [Bool.true_or]
    go_enter Tryz.func24, Tryz.ntmps24
    go_wp2_with fail
    generalize ((((w.alloc (.cells #[.int .i64 (Wd : Int), .int .i64 (Hd : Int), .slice a n c, .slice ao no co] 57)).alloc (.cells #[.int .i64 nd, .int .i64 st, .slice ix ni ci, .slice cl nc cc] 40)).alloc (.cells #[.map (some b)] 65)).alloc (.cells #[.bool false] 4)) = W0 at X0 X1 X2 X3 hB0 ⊢
    have z0 := X0.lt
    have z1 := X1.lt
    have z2 := X2.lt
    have z3 := X3.lt
    have f3 := X3.free
    go_wp2
    have c3 := (X3.set_ 0 (by simp) (.bool true)).at_ 0 rfl
    refine bodyPost_ret (v := .bool true) (by simp [results, Tryz.results24, go_sem, c3]) rfl ⟨rfl, ?_⟩
    (repeat' (first | with_reducible assumption | with_reducible exact Below.refl _ _ | with_reducible refine Below.drew ?_ | with_reducible refine below_drewN ?_ _ | with_reducible refine balloc ?_ _ | with_reducible refine bset ?_ ?_ _ | with_reducible refine Below.setCell ?_ ?_ _ | with_reducible refine Below.alloc ?_ ?_ _ | omega | (simp; done) | (simp; omega)))
  rw [Bool.false_or]
  refine callsIn_wide.1 (callsIn_of_wp_marks (F := Fence.wide) (n := 0) Tryz.func24 rfl trivial ?_ rfl)
  simp only [Tryz.ntmps24, List.size_toArray, List.length_cons, List.length_nil, Nat.reduceAdd, Nat.reduceSub, Array.replicate_succ, Array.replicate_zero, List.push_toArray, List.append_toArray, List.nil_append, List.cons_append]
  gi_wp2_with fail
  generalize ((((w.alloc (.cells #[.int .i64 (Wd : Int), .int .i64 (Hd : Int), .slice a n c, .slice ao no co] 57)).alloc (.cells #[.int .i64 nd, .int .i64 st, .slice ix ni ci, .slice cl nc cc] 40)).alloc (.cells #[.map (some b)] 65)).alloc (.cells #[.bool false] 4)) = W0 at X0 X1 X2 X3 hB0 ⊢
  have z0 := X0.lt
  have z1 := X1.lt
  have z2 := X2.lt
  have z3 := X3.lt
  refine ⟨trivial, rfl, callsIn_wide.2 ((hdu _).mono ?_)⟩
  rintro e w2 ⟨bc, bn, bs, rfl, Zc, Zn, Zs, ⟨g1, g2, g3⟩, hb2⟩
  have hit2 := hit bc bn bs
  have B2 := bvia hB0 hb2
  have Y2 := X2.below hb2; have Y3 := X3.below hb2
  have hs0 := hB0.size; have hs2 := hb2.size
  have lc := Zc.lt; have ln := Zn.lt; have ls := Zs.lt
  clear X0 X1 X2 X3 hb2 hdu hit hB0
  have hm : (w.heap.size ≤ w.heap.size + 1 + 1 ∧ w.heap.size + 1 + 1 < w2.heap.size) ∧ (w.heap.size ≤ w.heap.size + 1 + 1 + 1 ∧ w.heap.size + 1 + 1 + 1 < w2.heap.size) ∧ (w.heap.size ≤ bc ∧ bc < w2.heap.size) ∧ (w.heap.size ≤ bn ∧ bn < w2.heap.size) ∧ (w.heap.size ≤ bs ∧ bs < w2.heap.size) := by
    have := Y3.lt; omega
  gi_wp2_with fail
  refine wp_rangeR rfl ent_due hit2 B2 (fun _ => rfl) (RW (w.heap.size + 1 + 1) (w.heap.size + 1 + 1 + 1) bc bn bs b w2.heap.size _ nd st S w) (RX (w.heap.size + 1 + 1 + 1) w2.heap.size S w) (fun z => w.heap.size ≤ z ∧ z < w2.heap.size) (fun pre C X h => h.2.2.2.1) ?hC (rw_stab hm) (fun c => rx_stab hm.2.1 c) ?h0 ?hround ?hdone ?hstop
  case hC =>
    rintro pre C X ⟨rfl, _, _, _, _, _, hz⟩ z hz'
    exact ⟨hz'.1, by omega⟩
  case h0 => exact ⟨rfl, Y2, Y3, ⟨Zc, Zn, Zs⟩, fun x hx => (by cases hx), B2, Nat.le_refl _⟩
  case hround =>
    rintro l pre x C X hl hl' hnl ⟨rec2, hrec2⟩ ⟨rfl, h5, h6, hD, hS, hB, hM⟩ hX hgC hpre
    have hwf : wfN x := hL x (by obtain ⟨t, ht⟩ := hpre; rw [← ht]; exact List.mem_append.2 (.inl (List.mem_append.2 (.inr (List.mem_singleton.2 rfl)))))
    have hof := fun W => node_of x W
    unfold Round
    dsimp only [encN]
    gi_wp2_with fail
    refine ⟨below_alloc _ _, ?_⟩
    intro X₂ hb2 hs2 r2 hr2
    have hbx : But (fun z => z = l) X X₂ := (But.refl _ X |>.alloc _).trans hb2
    have hl2 : w2.heap.size ≤ l := hl
    have P5 := h5.but hbx (by omega); have P6 := h6.but hbx (by omega)
    have PD : DueRd _ nd st bc bn bs X₂ := ⟨hD.1.but hbx (by omega), hD.2.1.but hbx (by omega), hD.2.2.but hbx (by omega)⟩
    have B3 : Below w.heap.size w X₂ := below_but (C := fun z => z = l) hB (hbx.mono (fun z _ h => ⟨by omega, h⟩))
    have U : Bx X₂ X.heap.size #[.int .i64 x.st, .int .i64 x.fr, .int .i64 x.to, .int .i64 x.ce, .int .i64 x.di, .int .i64 x.co] := (Bx.new X #[.int .i64 x.st, .int .i64 x.fr, .int .i64 x.to, .int .i64 x.ce, .int .i64 x.di, .int .i64 x.co] 70).but hb2 (by omega)
    have hz2 := hbx.size
    have B4 : Below X₂.heap.size X₂ X₂ := Below.refl _ _
    have r0 : ∀ Y, But (fun _ => False) X₂ Y → Y.cell? ⟨w.heap.size + 1 + 1, 0, none⟩ = some (.map (some b)) := fun Y h => (P5.but h id).at_ 0 rfl
    have u0 : ∀ Y, But (fun _ => False) X₂ Y → Y.cell? ⟨X.heap.size, 0, none⟩ = some (.int .i64 x.st) := fun Y h => (U.but h id).at_ 0 rfl
    have u1 : ∀ Y, But (fun _ => False) X₂ Y → Y.cell? ⟨X.heap.size, 1, none⟩ = some (.int .i64 x.fr) := fun Y h => (U.but h id).at_ 1 rfl
    have u2 : ∀ Y, But (fun _ => False) X₂ Y → Y.cell? ⟨X.heap.size, 2, none⟩ = some (.int .i64 x.to) := fun Y h => (U.but h id).at_ 2 rfl
    have u3 : ∀ Y, But (fun _ => False) X₂ Y → Y.cell? ⟨X.heap.size, 3, none⟩ = some (.int .i64 x.ce) := fun Y h => (U.but h id).at_ 3 rfl
    have u4 : ∀ Y, But (fun _ => False) X₂ Y → Y.cell? ⟨X.heap.size, 4, none⟩ = some (.int .i64 x.di) := fun Y h => (U.but h id).at_ 4 rfl
    have u5 : ∀ Y, But (fun _ => False) X₂ Y → Y.cell? ⟨X.heap.size, 5, none⟩ = some (.int .i64 x.co) := fun Y h => (U.but h id).at_ 5 rfl
    have hlk : ∀ Y, But (fun _ => False) X₂ Y → (Instr.lookup 65 (.map (some b)) (plV x) true).run Tryz.prog Y = .ok (.tuple #[.int .i64 (V x), .bool (S x)]) Y := fun Y h =>
      pcm_look (pcm_below HM (below_but (C := fun _ => False) B3 (h.mono (fun z _ h' => h'.elim)))) hwf
    unfold plV at hlk
    have hgo : S x = true → ∀ Y, But (fun _ => False) X₂ Y → But (fun z => w.heap.size ≤ z ∧ z < w2.heap.size) X₂ Y ∧ RW (w.heap.size + 1 + 1) (w.heap.size + 1 + 1 + 1) bc bn bs b w2.heap.size #[.int .i64 (Wd : Int), .int .i64 (Hd : Int), .slice a n c, .slice ao no co] nd st S w (pre ++ [x]) (fun z => w.heap.size ≤ z ∧ z < w2.heap.size) Y := fun hx Y hY =>
      ⟨hY.mono (fun _ _ h => h.elim), rfl, P5.but hY id, P6.but hY id, ⟨PD.1.but hY id, PD.2.1.but hY id, PD.2.2.but hY id⟩, fun y hy => by
        rcases List.mem_append.1 hy with h | h
        · exact hS y h
        · rw [List.mem_singleton.1 h]; exact hx, below_but (C := fun _ => False) B3 (hY.mono (fun _ _ h => h.elim)), by have := hY.size; omega⟩
    have hend : S x = false → ∀ Y, But (fun _ => False) X₂ Y → But (fun z => w.heap.size ≤ z ∧ z < w2.heap.size) X₂ (Y.setCell ⟨w.heap.size + 1 + 1 + 1, 0, none⟩ (.bool false)) ∧ RX (w.heap.size + 1 + 1 + 1) w2.heap.size S w .ret (pre ++ [x]) (fun z => w.heap.size ≤ z ∧ z < w2.heap.size) (Y.setCell ⟨w.heap.size + 1 + 1 + 1, 0, none⟩ (.bool false)) := fun hx Y hY => by
      have hY2 : But (fun z => w.heap.size ≤ z ∧ z < w2.heap.size) X₂ (Y.setCell ⟨w.heap.size + 1 + 1 + 1, 0, none⟩ (.bool false)) := But.set_ (hY.mono (fun _ _ h => h.elim)) hm.2.1 _
      exact ⟨hY2, rfl, rfl, (P6.but hY id).set_ 0 (by simp) (.bool false), ⟨x, by simp, hx⟩, below_but (C := fun z => z < w2.heap.size) B3 hY2, by have := hY2.size; omega⟩
    gi_upto_region 5 with (fail)
    refine wpIn_region_R (But (fun _ => False) X₂) (by kernel_rfl) ?_
    refine anyR_take (i := 0) (fun _ => trivial) rfl (by kernel_rfl) (fun _ _ _ h => h) (Or.inl ⟨by rfl, fun Y hYb => (by (try dsimp only at hYb); go_simp; rfl)⟩) (by repeat' (first | assumption | exact But.refl _ _ | refine But.drew ?_ | refine But.drewN ?_ _)) ?_
    simp only [Act.put, List.setIfInBounds_toArray, List.set_cons_zero, List.set_cons_succ]
    refine anyR_take (i := 1) (fun _ => trivial) rfl (by kernel_rfl) (fun _ _ _ h => h) (Or.inl ⟨by rfl, fun Y hYb => (by (try dsimp only at hYb); go_simp; rfl)⟩) (by repeat' (first | assumption | exact But.refl _ _ | refine But.drew ?_ | refine But.drewN ?_ _)) ?_
    simp only [Act.put, List.setIfInBounds_toArray, List.set_cons_zero, List.set_cons_succ]
    refine anyR_one (i := 2) (by kernel_rfl) rfl (by rfl) (fun K hK => ?_)
    go_simp
    refine ⟨trivial, rfl, callsIn_of ((hof _).mono ?_)⟩
    rintro e X4 ⟨rfl, hb4⟩
    have hs4 : But (fun _ => False) X₂ X4 := (But.refl _ X₂).drew.trans (but_below hb4 (Nat.le_refl _))
    refine hK _ _ hs4 ?_
    clear hK K hb4
    cases hSx : S x
    all_goals
      rw [hSx] at hlk
      refine anyR_take (i := 3) (fun _ => trivial) rfl (by kernel_rfl) (fun _ _ _ h => h) (Or.inl ⟨by rfl, fun Y hYb => (by (try dsimp only at hYb); go_simp; rfl)⟩) (by repeat' (first | assumption | exact But.refl _ _ | refine But.drew ?_ | refine But.drewN ?_ _)) ?_
      simp only [Act.put, List.setIfInBounds_toArray, List.set_cons_zero, List.set_cons_succ]
      refine anyR_take (i := 4) (fun _ => trivial) rfl (by kernel_rfl) (fun _ _ _ h => h) (Or.inl ⟨by rfl, fun Y hYb => (by (try dsimp only at hYb); go_simp; rfl)⟩) (by repeat' (first | assumption | exact But.refl _ _ | refine But.drew ?_ | refine But.drewN ?_ _)) ?_
      simp only [Act.put, List.setIfInBounds_toArray, List.set_cons_zero, List.set_cons_succ]
      refine anyR_take (i := 5) (fun _ => trivial) rfl (by kernel_rfl) (fun _ _ _ h => h) (Or.inl ⟨by rfl, fun Y hYb => (by (try dsimp only at hYb); go_simp; rfl)⟩) (by repeat' (first | assumption | exact But.refl _ _ | refine But.drew ?_ | refine But.drewN ?_ _)) ?_
      simp only [Act.put, List.setIfInBounds_toArray, List.set_cons_zero, List.set_cons_succ]
      refine anyR_take (i := 6) (fun _ => trivial) rfl (by kernel_rfl) (fun _ _ _ h => h) (Or.inl ⟨by rfl, fun Y hYb => (by (try dsimp only at hYb); go_simp; rfl)⟩) (by repeat' (first | assumption | exact But.refl _ _ | refine But.drew ?_ | refine But.drewN ?_ _)) ?_
      simp only [Act.put, List.setIfInBounds_toArray, List.set_cons_zero, List.set_cons_succ]
      refine anyR_take (i := 7) (fun _ => trivial) rfl (by kernel_rfl) (fun _ _ _ h => h) (Or.inl ⟨by rfl, fun Y hYb => (by (try dsimp only at hYb); go_simp; rfl)⟩) (by repeat' (first | assumption | exact But.refl _ _ | refine But.drew ?_ | refine But.drewN ?_ _)) ?_
      simp only [Act.put, List.setIfInBounds_toArray, List.set_cons_zero, List.set_cons_succ]
      refine anyR_take (i := 8) (fun _ => trivial) rfl (by kernel_rfl) (fun _ _ _ h => h) (Or.inl ⟨by rfl, fun Y hYb => (by (try dsimp only at hYb); go_simp; rfl)⟩) (by repeat' (first | assumption | exact But.refl _ _ | refine But.drew ?_ | refine But.drewN ?_ _)) ?_
      simp only [Act.put, List.setIfInBounds_toArray, List.set_cons_zero, List.set_cons_succ]
      refine anyR_done (by kernel_rfl) ?_ _
    · have hst := hend hSx
      have r6 := (P6.but hs4 id).at_ 0 rfl; have f6 := (P6.but hs4 id).free; have l6 := (P6.but hs4 id).lt
      clear hlk u0 u1 u2 u3 u4 u5 r0 hgo hend
      gi_wp2_with fail
      exact ⟨_, (hst _ (by repeat' (first | assumption | exact But.refl _ _ | refine But.drew ?_ | refine But.drewN ?_ _ | exact But.set_ (by repeat' (first | assumption | exact But.refl _ _ | refine But.drew ?_ | refine But.drewN ?_ _)) (.inl rfl) _ | exact But.set_ (by repeat' (first | assumption | exact But.refl _ _ | refine But.drew ?_ | refine But.drewN ?_ _)) (.inr rfl) _))).1, Grw.refl _ _, (hst _ (by repeat' (first | assumption | exact But.refl _ _ | refine But.drew ?_ | refine But.drewN ?_ _ | exact But.set_ (by repeat' (first | assumption | exact But.refl _ _ | refine But.drew ?_ | refine But.drewN ?_ _)) (.inl rfl) _ | exact But.set_ (by repeat' (first | assumption | exact But.refl _ _ | refine But.drew ?_ | refine But.drewN ?_ _)) (.inr rfl) _))).2⟩
    · have hst := hgo hSx
      clear hlk u0 u1 u2 u3 u4 u5 r0 hgo hend
      gi_wp2_with fail
      exact ⟨_, (hst _ (by repeat' (first | assumption | exact But.refl _ _ | refine But.drew ?_ | refine But.drewN ?_ _ | exact But.set_ (by repeat' (first | assumption | exact But.refl _ _ | refine But.drew ?_ | refine But.drewN ?_ _)) (.inl rfl) _ | exact But.set_ (by repeat' (first | assumption | exact But.refl _ _ | refine But.drew ?_ | refine But.drewN ?_ _)) (.inr rfl) _))).1, Grw.refl _ _, (hst _ (by repeat' (first | assumption | exact But.refl _ _ | refine But.drew ?_ | refine But.drewN ?_ _ | exact But.set_ (by repeat' (first | assumption | exact But.refl _ _ | refine But.drew ?_ | refine But.drewN ?_ _)) (.inl rfl) _ | exact But.set_ (by repeat' (first | assumption | exact But.refl _ _ | refine But.drew ?_ | refine But.drewN ?_ _)) (.inr rfl) _))).2⟩
  case hdone =>
    rintro Dd C X hDd hnD ⟨rfl, h5, h6, _, hS, hB, hM⟩ hbut hgC hdef
    have r6 := h6.at_ 0 rfl; have f6 := h6.free; have l6 := h6.lt
    have hall : L.all S = true := List.all_eq_true.2 hS
    have HA := hid hall; clear hall
    gi_wp2
    have hd1 : (X.setCell ⟨w.heap.size + 1 + 1 + 1, 0, none⟩ (.bool true)).heap[Dd]? = some (.deferred (some [])) := by
      rw [Below.heap_setCell _ _ _ _ (by dsimp only; omega)]
      exact hdef
    have hbp := but_putObj (X.setCell ⟨w.heap.size + 1 + 1 + 1, 0, none⟩ (.bool true)) Dd (.deferred none)
    have c6 := ((h6.set_ 0 (by simp) (.bool true)).but hbp (by omega)).at_ 0 rfl
    have B5 : Below w.heap.size w (X.setCell ⟨w.heap.size + 1 + 1 + 1, 0, none⟩ (.bool true)) := by (repeat' (first | with_reducible assumption | with_reducible exact Below.refl _ _ | with_reducible refine Below.drew ?_ | with_reducible refine below_drewN ?_ _ | with_reducible refine balloc ?_ _ | with_reducible refine bset ?_ ?_ _ | with_reducible refine Below.setCell ?_ ?_ _ | with_reducible refine Below.alloc ?_ ?_ _ | omega | (simp; done) | (simp; omega)))
    have B6 := B5.trans (⟨hbp.os, hbp.tape, hbp.output, hbp.size, fun z hz => hbp.block z (by have := B5.size; omega) (by omega)⟩ : Below w.heap.size _ _)
    refine ⟨by simp, .inl ⟨_, _, rfl, run_takeDeferred hd1, ?_⟩⟩
    refine ⟨.bool true, by simp [results, Tryz.results24, go_sem, c6], ?_⟩
    rw [HA.out]
    exact ⟨rfl, B6⟩
  case hstop =>
    rintro Dd c pre C X hDd hnD hpre ⟨rfl, rfl, h6, ⟨x, hx, hbad⟩, hB, hM⟩ hbut hgC hdef
    have hmem : x ∈ L := by obtain ⟨t, ht⟩ := hpre; rw [← ht]; exact List.mem_append.2 (.inl hx)
    have hall : L.all S = false := by
      rw [← Bool.not_eq_true, List.all_eq_true]
      intro h; have := h x hmem; rw [hbad] at this; cases this
    have HA := hid hall; clear hall
    gi_wp2
    have hbp := but_putObj X Dd (.deferred none)
    have c6 := (h6.but hbp (by omega)).at_ 0 rfl
    have B6 := hB.trans (⟨hbp.os, hbp.tape, hbp.output, hbp.size, fun z hz => hbp.block z (by have := hB.size; omega) (by omega)⟩ : Below w.heap.size _ _)
    refine ⟨by simp, .inl ⟨_, _, rfl, run_takeDeferred hdef, ?_⟩⟩
    refine ⟨.bool false, by simp [results, Tryz.results24, go_sem, c6], ?_⟩
    rw [HA.out]
    exact ⟨rfl, B6⟩
end Go.Proofs.YtpbobhobhbbimaaGreatDoor
/- Plain words and walk: valid sites, of the program. Walk: Valid, of the program. -/
namespace Go.Proofs.YtpbobhobhbbimaaGreatDoor
open Go Go.RowKit
set_option linter.unusedVariables false
/-- the mass of the first sites -/
def siteM (f : Nat → SiteR) : Nat → Int | 0 => 0 | k + 1 => siteM f k + massTo (f k).C (f k).nc
/-- how many cells the first sites have -/
def siteN (f : Nat → SiteR) : Nat → Nat | 0 => 0 | k + 1 => siteN f k + (f k).nc
/-- valid sites of a valid map -/
def sitesB (o : Nat → Int) (no : Nat) (m : Nat) (f : Nat → SiteR) : Bool :=
  decide (m = (nodeL o no 8).length ∧ (∀ k, k < m → (f k).nd = (nodeL o no 8).getD k 0) ∧ (∀ k, k < m → siteB o no (f k) = true) ∧ siteM f m ≤ 1000000000)
theorem sitesB_iff {o : Nat → Int} {no m : Nat} {f : Nat → SiteR} : sitesB o no m f = true ↔ (m = (nodeL o no 8).length ∧ (∀ k, k < m → (f k).nd = (nodeL o no 8).getD k 0) ∧ (∀ k, k < m → siteB o no (f k) = true) ∧ siteM f m ≤ 1000000000) := by simp [sitesB]
theorem sitesB_no {o : Nat → Int} {no m : Nat} {f : Nat → SiteR} : sitesB o no m f = false ↔ ¬ (m = (nodeL o no 8).length ∧ (∀ k, k < m → (f k).nd = (nodeL o no 8).getD k 0) ∧ (∀ k, k < m → siteB o no (f k) = true) ∧ siteM f m ≤ 1000000000) := by rw [← sitesB_iff]; simp
/-- the cells of the first sites, one behind the other -/
def joinC (f : Nat → SiteR) : Nat → Nat → C4
  | 0, _ => C4.zero
  | k + 1, j => if j < siteN f k then joinC f k j else (f k).C (j - siteN f k)
theorem massTo_congr {g h : Nat → C4} : ∀ {n}, (∀ k, k < n → g k = h k) → massTo g n = massTo h n
  | 0, _ => rfl
  | n + 1, e => by simp only [massTo]; rw [massTo_congr fun k hk => e k (by omega), e n (by omega)]
theorem massTo_add (g : Nat → C4) (n : Nat) : ∀ m, massTo g (n + m) = massTo g n + massTo (fun k => g (n + k)) m
  | 0 => by simp [massTo]
  | m + 1 => by
    rw [← Nat.add_assoc]
    simp only [massTo]
    rw [massTo_add g n m]; omega
theorem joinC_mass (f : Nat → SiteR) : ∀ k, massTo (joinC f k) (siteN f k) = siteM f k
  | 0 => rfl
  | k + 1 => by
    simp only [siteN, siteM]
    rw [massTo_add]
    congr 1
    · rw [← joinC_mass f k]
      exact massTo_congr fun j hj => by simp only [joinC, if_pos hj]
    · exact massTo_congr fun j hj => by simp only [joinC]; rw [if_neg (by omega)]; congr 1; omega
theorem joinC_valid {f : Nat → SiteR} : ∀ {k}, (∀ i, i < k → ∀ j, j < (f i).nc → validC ((f i).C j) = true) → ∀ j, j < siteN f k → validC (joinC f k j) = true
  | 0, _, j, hj => by simp [siteN] at hj
  | k + 1, h, j, hj => by
    simp only [joinC]
    simp only [siteN] at hj
    split
    · rename_i h2; exact joinC_valid (fun i hi => h i (by omega)) j h2
    · exact h k (by omega) _ (by omega)
theorem site_mass {o : Nat → Int} {no : Nat} {s : SiteR} (h : siteB o no s = true) : (∀ j, j < s.nc → validC (s.C j) = true) ∧ massTo s.C s.nc ≤ 1000000000 := (massB_iff _ _).1 (siteB_iff.1 h).2.2.2
theorem join_massB {o : Nat → Int} {no m : Nat} {f : Nat → SiteR} (h : ∀ k, k < m → siteB o no (f k) = true) : massB (siteN f m) (joinC f m) = decide (siteM f m ≤ 1000000000) := by
  rw [Bool.eq_iff_iff, massB_iff, joinC_mass, decide_eq_true_iff]
  exact ⟨fun h => h.2, fun h2 => ⟨joinC_valid fun i hi => (site_mass (h i hi)).1, h2⟩⟩
theorem siteN_le {f : Nat → SiteR} {c : Nat} : ∀ {k}, (∀ i, i < k → (f i).nc ≤ c) → siteN f k ≤ k * c
  | 0, _ => by simp [siteN]
  | k + 1, h => by
    have := siteN_le (k := k) (fun i hi => h i (by omega))
    have := h k (by omega)
    simp only [siteN]; rw [Nat.add_mul]; omega
/-- an own list of cells -/
theorem rowC_app (f : Nat → SiteR) (k : Nat) : rowC (joinC f (k + 1)) (siteN f (k + 1)) = rowC (joinC f k) (siteN f k) ++ rowC (f k).C (f k).nc := by
  apply List.ext_getElem?
  intro j
  rw [List.getElem?_append, rowC_length]
  simp only [rowC, List.getElem?_map, siteN]
  by_cases h : j < siteN f k * 4
  · rw [if_pos h]
    simp only [List.getElem?_range h, List.getElem?_range (show j < (siteN f k + (f k).nc) * 4 by omega), Option.map_some]
    congr 2
    unfold flatC
    simp only [joinC]
    rw [if_pos (by omega)]
  · rw [if_neg h]
    by_cases h2 : j < (siteN f k + (f k).nc) * 4
    · simp only [List.getElem?_range h2, List.getElem?_range (show j - siteN f k * 4 < (f k).nc * 4 by omega), Option.map_some]
      congr 2
      unfold flatC
      simp only [joinC]
      rw [if_neg (by omega), show j / 4 - siteN f k = (j - siteN f k * 4) / 4 by omega, show (j - siteN f k * 4) % 4 = j % 4 by omega]
    · rw [List.getElem?_eq_none (by simp; omega), List.getElem?_eq_none (by simp; omega)]; rfl
theorem sc_of_own {W : World} {base n : Nat} {v : Value} {f : Nat → C4} (h : W.ownsRow base 49 4 v n (rowC f n)) : ∃ a c, v = .slice a n c ∧ Sc W a n f := by
  rcases h.2 with ⟨rfl, h0⟩ | ⟨g, cap, cur, rfl, hb, hh, hn, hm, hc, ht⟩
  · exact ⟨none, 0, by rw [h0], fun k hk => by omega⟩
  · by_cases h0 : 0 < n
    · obtain ⟨_, hr⟩ := roC_of_own h h0
      exact ⟨_, _, rfl, hr.sc⟩
    · exact ⟨_, _, rfl, fun k hk => by omega⟩
end Go.Proofs.YtpbobhobhbbimaaGreatDoor
namespace Go.Proofs.YtpbobhobhbbimaaGreatDoor
open Go Go.RowKit
set_option linter.unusedVariables false
theorem node_Valid1 (s : SiteR) (n : Int) (w : World) : Calls Tryz.prog 77 #[.agg #[.int .i64 s.nd, .int .i64 s.st, .slice s.ix s.ni s.ci, .slice s.cl s.nc s.cc], .int .i64 n] w fun e w' => e = .returned (.bool (s.nd == n)) ∧ Below w.heap.size w w' := by
  go_enter Tryz.func77, Tryz.ntmps77
  go_wp2
  go_ret
  exact ⟨rfl, by (repeat' (first | with_reducible assumption | with_reducible exact Below.refl _ _ | with_reducible refine Below.drew ?_ | with_reducible refine below_drewN ?_ _ | with_reducible refine balloc ?_ _ | with_reducible refine bset ?_ ?_ _ | with_reducible refine Below.setCell ?_ ?_ _ | with_reducible refine Below.alloc ?_ ?_ _ | omega | (simp; done) | (simp; omega)))⟩
theorem ent_Valid1 : ∀ args w, (callFunc 77 args).run Tryz.prog w = .ok (.enter 77 args) w := Go.Proofs.enters_of Tryz.func77 (by kernel_rfl) rfl
set_option maxRecDepth 100000 in
set_option maxHeartbeats 2000000 in
theorem sites_EqualFunc (al a : Option Addr) (m n cl c : Nat) (f : Nat → SiteR) (g : Nat → Int) (w : World) (hm : m ≤ 100000000) (hn : n ≤ 100000000) (H : Ss w al m f) (HG : Sl w a n g) :
    Calls Tryz.prog 76 #[.slice al m cl, .slice a n c, .func (.func 77) #[] #[]] w fun e w' => e = .returned (.bool (sameL m (fun k => (f k).nd) n g)) ∧ Below w.heap.size w w' := by
  have ent := ent_Valid1
  cases hne : ((m : Int) != n)
  · have hnm : m = n := by simp at hne; omega
    subst hnm
    go_enter Tryz.func76, Tryz.ntmps76
    go_wp2
    go_loopw [17] (fun i wr => ∃ k : Nat, k ≤ m ∧ i = .int .i64 k ∧ (∀ j, j < k → (f j).nd = g j) ∧ Below w.heap.size w wr) (fun i _ => m - (intOf i).toNat)
    case atStart => exact ⟨0, Nat.zero_le _, rfl, fun j hj => by omega, by (repeat' (first | with_reducible assumption | with_reducible exact Below.refl _ _ | with_reducible refine Below.drew ?_ | with_reducible refine below_drewN ?_ _ | with_reducible refine balloc ?_ _ | with_reducible refine bset ?_ ?_ _ | with_reducible refine Below.setCell ?_ ?_ _ | with_reducible refine Below.alloc ?_ ?_ _ | omega | (simp; done) | (simp; omega)))⟩
    case round =>
      obtain ⟨k, hk, rfl, hok, hB⟩ := hrel
      have HOK := hid hok; clear hok
      by_cases hlt : k < m
      · obtain ⟨b1, o1, rfl, hb1, c0, c1, c2, c3, _⟩ := (H.below hB) k hlt
        obtain ⟨b2, o2, rfl, hb2, d0⟩ := (HG.below hB) k hlt
        have hcall := fun W => node_Valid1 (f k) (g k) W
        cases he : ((f k).nd == g k)
        · have he' : ¬ (f k).nd = g k := by simpa using he
          have HE := hid he'; clear he'
          go_wp2_with fail
          refine (hcall _).mono ?_
          rintro e w1 ⟨rfl, hb⟩
          rw [he]
          go_wp2
          go_ret
          exact ⟨ret_bool (sameL_no.2 (fun h => HE.out (h.2 k hlt))).symm, bvia (by (repeat' (first | with_reducible assumption | with_reducible exact Below.refl _ _ | with_reducible refine Below.drew ?_ | with_reducible refine below_drewN ?_ _ | with_reducible refine balloc ?_ _ | with_reducible refine bset ?_ ?_ _ | with_reducible refine Below.setCell ?_ ?_ _ | with_reducible refine Below.alloc ?_ ?_ _ | omega | (simp; done) | (simp; omega)))) hb⟩
        · have he' : (f k).nd = g k := by simpa using he
          have HE := hid he'; clear he'
          go_wp2_with fail
          refine (hcall _).mono ?_
          rintro e w1 ⟨rfl, hb⟩
          rw [he]
          go_wp2_with fail
          go_roundw
          case rel => exact ⟨k + 1, by omega, by go_num, fun j hj => by
              rcases Nat.lt_succ_iff_lt_or_eq.1 hj with h' | rfl
              · exact HOK.out j h'
              · exact HE.out, bvia (by (repeat' (first | with_reducible assumption | with_reducible exact Below.refl _ _ | with_reducible refine Below.drew ?_ | with_reducible refine below_drewN ?_ _ | with_reducible refine balloc ?_ _ | with_reducible refine bset ?_ ?_ _ | with_reducible refine Below.setCell ?_ ?_ _ | with_reducible refine Below.alloc ?_ ?_ _ | omega | (simp; done) | (simp; omega)))) hb⟩
          case measure => simp [intOf]; omega
      · go_wp2
        go_ret
        obtain rfl : k = m := (by omega)
        exact ⟨ret_bool (sameL_iff.2 ⟨rfl, HOK.out⟩).symm, hB⟩
  · have hnm : ¬ m = n := by simp at hne; omega
    go_enter Tryz.func76, Tryz.ntmps76
    go_wp2
    go_ret
    exact ⟨ret_bool (sameL_no.2 (fun h => hnm h.1)).symm, by (repeat' (first | with_reducible assumption | with_reducible exact Below.refl _ _ | with_reducible refine Below.drew ?_ | with_reducible refine below_drewN ?_ _ | with_reducible refine balloc ?_ _ | with_reducible refine bset ?_ ?_ _ | with_reducible refine Below.setCell ?_ ?_ _ | with_reducible refine Below.alloc ?_ ?_ _ | omega | (simp; done) | (simp; omega)))⟩
theorem lies_nil {w : World} {s : SiteR} (h : s.lies w) (e : s.cl = none) : s.nc = 0 ∧ s.cc = 0 := by
  refine ⟨?_, h.2.2 e⟩
  rcases Nat.eq_zero_or_pos s.nc with h0 | h0
  · exact h0
  · obtain ⟨b, off, e2, _⟩ := h.2.1 0 h0
    rw [e] at e2; cases e2
set_option maxRecDepth 100000 in
set_option maxHeartbeats 4000000 in
theorem node_Valid (wide high : Int) (a ao al : Option Addr) (n no m c co cl : Nat) (g : Nat → C4) (o : Nat → Int) (f : Nat → SiteR) (w : World) (hn : n ≤ 100000000) (hno : no ≤ 100000000) (hm : m ≤ 1000) (hb : ∀ k, k < m → (f k).ni ≤ 10000 ∧ (f k).nc ≤ 10000) (H : Sc w a n g) (HO : Sl w ao no o) (HS : Ss w al m f) :
    Calls Tryz.prog 52 #[.agg #[.int .i64 wide, .int .i64 high, .slice a n c], .slice ao no co, .slice al m cl] w fun e w' => e = .returned (.bool (validM wide high n g no o && sitesB o no m f)) ∧ Below w.heap.size w w' := by
  obtain ⟨i0, hi, hz0, hz1, hz2⟩ := info_parts infoC
  have I := H.alloc (.cells #[.int .i64 wide, .int .i64 high, .slice a n c] 24)
  have IO := HO.alloc (.cells #[.int .i64 wide, .int .i64 high, .slice a n c] 24)
  have IS := HS.alloc (.cells #[.int .i64 wide, .int .i64 high, .slice a n c] 24)
  have X := Bx.new w #[.int .i64 wide, .int .i64 high, .slice a n c] 24
  cases hv : validM wide high n g no o
  · go_enter Tryz.func52, Tryz.ntmps52
    go_wp2_with (go_at_call 12; refine (node_ValidMap wide high _ _ n no _ _ g o _ hn hno I IO).mono ?_; rintro e w1 ⟨rfl, hb1⟩; rw [hv])
    go_ret
    exact ⟨rfl, bvia (by (repeat' (first | with_reducible assumption | with_reducible exact Below.refl _ _ | with_reducible refine Below.drew ?_ | with_reducible refine below_drewN ?_ _ | with_reducible refine balloc ?_ _ | with_reducible refine bset ?_ ?_ _ | with_reducible refine Below.setCell ?_ ?_ _ | with_reducible refine Below.alloc ?_ ?_ _ | omega | (simp; done) | (simp; omega)))) hb1⟩
  obtain ⟨Wd, Hd, rfl, rfl, p1, p2, u1, u2, hnn, hn4, hoo, hob, _, _⟩ := validM_sides hv
  have h0 : 0 < no := by rw [hoo, hnn]; exact Nat.mul_pos p1 u1
  have hno4 : no ≤ 1024 := by omega
  have hnd := fun W S => node_nodes (Wd : Int) (Hd : Int) a ao n c no co o W h0 (by omega) (fun k hk => hob k (by omega)) S
  have hsi := fun s W h1 h2 S L => node_site (Wd : Int) (Hd : Int) a ao n c no co o s W (by omega) h1 h2 S L
  unfold cluV at hnd hsi
  have HB := hid hb; clear hb
  have hnl := nodeL_length o no 8
  clear hnn hoo hob
  go_enter Tryz.func52, Tryz.ntmps52
  go_wp2_with fail
  refine (node_ValidMap _ _ _ _ n no _ _ g o _ hn hno I IO).mono ?_
  rintro e w1 ⟨rfl, hb1⟩
  rw [hv]
  clear hv
  have X1 := X.below hb1
  have x0 := X1.at_ 0 rfl; have x1 := X1.at_ 1 rfl; have x2 := X1.at_ 2 rfl; have lx := X1.lt
  have B1 := bvia (below_alloc w (.cells #[.int .i64 (Wd : Int), .int .i64 (Hd : Int), .slice a n c] 24)) hb1
  have O1 := IO.below hb1; have S1 := IS.below hb1
  clear hb1 I IO IS X
  go_wp2_with fail
  have X2 := Bx.new w1 #[.int .i64 (Wd : Int), .int .i64 (Hd : Int), .slice a n c, .slice ao no co] 57
  have B2 := balloc B1 (.cells #[.int .i64 (Wd : Int), .int .i64 (Hd : Int), .slice a n c, .slice ao no co] 57)
  have O2 := O1.alloc (.cells #[.int .i64 (Wd : Int), .int .i64 (Hd : Int), .slice a n c, .slice ao no co] 57)
  have S2 := S1.alloc (.cells #[.int .i64 (Wd : Int), .int .i64 (Hd : Int), .slice a n c, .slice ao no co] 57)
  obtain ⟨W2, hW2⟩ : ∃ W2, W2 = w1.alloc (.cells #[.int .i64 (Wd : Int), .int .i64 (Hd : Int), .slice a n c, .slice ao no co] 57) := ⟨_, rfl⟩
  have hs2 : W2.heap.size = w1.heap.size + 1 := by rw [hW2]; simp
  rw [← hW2] at X2 B2 O2 S2 ⊢
  have HS2 := hid hs2
  have zs2 : w1.heap.size < W2.heap.size := by omega
  clear hW2 hs2 O1 S1 x0 x1 x2 lx X1 B1
  go_loopw [8, 20] (fun v i wr => ∃ k : Nat, k ≤ m ∧ i = .int .i64 k ∧ (∀ j, j < k → siteB o no (f j) = true) ∧ wr.ownsRow W2.heap.size 49 4 v (siteN f k) (rowC (joinC f k) (siteN f k)) ∧ Below W2.heap.size W2 wr) (fun _ i _ => m - (intOf i).toNat)
  case atStart => exact ⟨0, Nat.zero_le _, rfl, fun j hj => by omega, World.ownsRow_nil .., Below.refl _ _⟩
  case round =>
    obtain ⟨k, hk, rfl, hok, hown, hC⟩ := hrel
    have hB : Below w.heap.size w wr := bvia B2 hC
    have HOK := hid hok; clear hok
    have X3 := X2.below hC
    have x0 := X3.at_ 0 rfl; have x1 := X3.at_ 1 rfl; have x2 := X3.at_ 2 rfl; have x3 := X3.at_ 3 rfl; have lx := X3.lt
    by_cases hlt : k < m
    · obtain ⟨b1, o1, rfl, hb1, c0, c1, c2, c3, hl⟩ := (S2.below hC) k hlt
      obtain ⟨m1, m2⟩ := HB.out k hlt
      have hln := siteN_le (f := f) (c := 10000) (k := k) (fun i hi => (HB.out i (by omega)).2)
      have hln2 : k * 10000 ≤ 1000 * 10000 := Nat.mul_le_mul (by omega) (Nat.le_refl _)
      have hcall := hsi (f k) (wr.alloc (.cells #[.int .i64 (f k).nd, .int .i64 (f k).st, .slice (f k).ix (f k).ni (f k).ci, .slice (f k).cl (f k).nc (f k).cc] 40)) (by omega) (by omega) ((O2.below hC).alloc _) (hl.alloc _)
      unfold SiteR.cells at hcall
      cases hs : siteB o no (f k)
      · rw [hs] at hcall
        have hF : sitesB o no m f = false := sitesB_no.2 (fun h => by have := h.2.2.1 k hlt; rw [hs] at this; cases this)
        have HF := hid hF; clear hF hs
        go_wp2_with fail
        refine hcall.mono ?_
        rintro e w3 ⟨rfl, hb3⟩
        go_wp2
        go_ret
        rw [HF.out]
        exact ⟨rfl, bvia (balloc hB _) hb3⟩
      · rw [hs] at hcall
        have HS' := hid hs
        have hr := rowC_app f k
        have HR := hid hr; clear hr hs
        have hl3 := hl.alloc (.cells #[.int .i64 (f k).nd, .int .i64 (f k).st, .slice (f k).ix (f k).ni (f k).ci, .slice (f k).cl (f k).nc (f k).cc] 40)
        have Xs := Bx.new wr #[.int .i64 (f k).nd, .int .i64 (f k).st, .slice (f k).ix (f k).ni (f k).ci, .slice (f k).cl (f k).nc (f k).cc] 40
        have hown3 := hown.alloc (.cells #[.int .i64 (f k).nd, .int .i64 (f k).st, .slice (f k).ix (f k).ni (f k).ci, .slice (f k).cl (f k).nc (f k).cc] 40)
        have C3 := balloc hC (.cells #[.int .i64 (f k).nd, .int .i64 (f k).st, .slice (f k).ix (f k).ni (f k).ci, .slice (f k).cl (f k).nc (f k).cc] 40)
        have hokk : ∀ j, j < k + 1 → siteB o no (f j) = true := fun j hj => by
          rcases Nat.lt_succ_iff_lt_or_eq.1 hj with h' | rfl
          · exact HOK.out j h'
          · exact HS'.out
        have HOK2 := hid hokk; clear hokk
        go_wp2_with fail
        refine hcall.mono ?_
        rintro e w3 ⟨rfl, hb3⟩
        have Xs3 := Xs.below hb3
        have y3 := Xs3.at_ 3 rfl; have ly := Xs3.lt
        have hl4 := hl3.below hb3
        have hown4 := own_below hown3 hb3
        have C4' := bvia C3 hb3
        have hsz3 := C4'.size
        clear hcall hl3 hl Xs hown3 hown C3 hb3 x0 x1 x2 x3 c0 c1 c2 c3
        cases hcn : (f k).cl with
        | none =>
          obtain ⟨z1, z2⟩ := lies_nil hl4 hcn
          rw [hcn, z1, z2] at y3
          have HZ1 := hid z1; clear z1 z2 hcn
          go_wp2_with (at_builtin; refine wpList_append_own_none rfl _ _ 22 rfl W2.heap.size 49 i0 4 Tryz.underlying22 hi _ _ _ rfl hown4 rfl ?_)
          go_roundw
          case rel => exact ⟨k + 1, by omega, by go_num, HOK2.out, by rw [HR.out]; simp only [siteN, HZ1.out, Nat.add_zero, rowC, Nat.zero_mul, List.range_zero, List.map_nil, List.append_nil]; exact hown4, C4'⟩
          case measure => simp [intOf]; omega
        | some ad =>
          have hcl : ∀ j u, (rowC (f k).C (f k).nc)[j]? = some u → w3.cell? (ad.add j) = some u := by
            intro j u hu
            obtain ⟨hj, _⟩ := rowC_at _ _ _ _ hu
            obtain ⟨b', o', e2, _⟩ := hl4.2.1 0 (by omega)
            rw [hcn] at e2
            injection e2 with e2
            subst e2
            have hl5 := hl4.2.1
            rw [hcn] at hl5
            exact sc_row hl5 j u hu
          have HCL := hid hcl; clear hcl
          rw [hcn] at y3
          clear hcn
          go_wp2_with (at_builtin; refine wpList_append_own _ rfl _ _ 22 rfl W2.heap.size 49 i0 _ 4 32 Tryz.underlying22 hi hz0 hz1 hz2 rfl (by decide) _ _ _ rfl hown4 ad (f k).nc (f k).cc (rowC (f k).C (f k).nc) rfl (rowC_length _ _) HCL.out (rowC_one _ _) (by simp [maxLen]; omega) (by omega) (by omega) ?_; intro v' w5 hown5 hgrow _)
          go_roundw
          case rel => exact ⟨k + 1, by omega, by go_num, HOK2.out, by rw [HR.out]; exact hown5, C4'.grown hgrow hsz3 (own_base hown4)⟩
          case measure => simp [intOf]; omega
    · obtain rfl : k = m := (by omega)
      have hjm := join_massB HOK.out
      have hsg := massV_sign (siteN f k) (joinC f k)
      rw [hjm] at hsg
      obtain ⟨av, cv, rfl, Sv⟩ := sc_of_own hown
      have hln := siteN_le (f := f) (c := 10000) (k := k) (fun i hi => (HB.out i (by omega)).2)
      have hln2 : k * 10000 ≤ 1000 * 10000 := Nat.mul_le_mul (by omega) (Nat.le_refl _)
      have hms := node_mass av (siteN f k) cv (joinC f k) wr (by omega) Sv
      clear hjm hown
      generalize massV (siteN f k) (joinC f k) = mv at *
      go_wp2_with fail
      refine hms.mono ?_
      rintro e w3 ⟨rfl, hb3⟩
      have X4 := X3.below hb3
      have B3 := bvia hB hb3
      have O3 := (O2.below hC).below hb3
      have S3 := (S2.below hC).below hb3
      clear hms x0 x1 x2 x3 lx X3 Sv
      have x0 := X4.at_ 0 rfl; have x1 := X4.at_ 1 rfl; have x2 := X4.at_ 2 rfl; have x3 := X4.at_ 3 rfl; have lx := X4.lt
      cases hle : decide (siteM f k ≤ 1000000000)
      · rw [hle] at hsg
        have hF : sitesB o no k f = false := sitesB_no.2 (fun h => by have := h.2.2.2; simp at hle; omega)
        have HF := hid hF; clear hF
        go_wp2
        go_ret
        rw [HF.out]
        exact ⟨rfl, B3⟩
      · rw [hle] at hsg
        have hF : sitesB o no k f = sameL k (fun j => (f j).nd) (nodeL o no 8).length (fun j => (nodeL o no 8).getD j 0) := by
          rw [Bool.eq_iff_iff, sitesB_iff, sameL_iff]
          exact ⟨fun h => ⟨h.1, h.2.1⟩, fun h => ⟨h.1, h.2, HOK.out, by simpa using hle⟩⟩
        have HF := hid hF; clear hF hle
        go_wp2_with fail
        refine (hnd _ O3).mono ?_
        rintro e w4 ⟨v, rfl, hown4, hb4⟩
        obtain ⟨an, cn, rfl, Sn4⟩ := sl_of_own hown4
        clear hnd
        have heq := sites_EqualFunc al an k (nodeL o no 8).length cl cn f (fun j => (nodeL o no 8).getD j 0) w4 (by omega) (by omega) (S3.below hb4) Sn4
        go_wp2_with fail
        refine heq.mono ?_
        rintro e w5 ⟨rfl, hb5⟩
        go_wp2
        go_ret
        rw [HF.out]
        exact ⟨rfl, bvia (bvia B3 hb4) hb5⟩
end Go.Proofs.YtpbobhobhbbimaaGreatDoor
/- Walks: find and ready, of the reference. Plain words and laws: the grid that is merged of sites and a post. No program in sight. -/
namespace Go.Proofs.YtpbobhobhbbimaaGreatDoor
open Go Go.RowKit
set_option linter.unusedVariables false
set_option linter.unusedSimpArgs false
/-- is all that is due to a site in the post? -/
def readyB (W H : Nat) (o : Nat → Int) (no q : Nat) (p : Nat → N6) (nd st : Int) : Bool := st == 0 || (dueL W H o nd st no).all (fun x => metB p x q)
end Go.Proofs.YtpbobhobhbbimaaGreatDoor
namespace Go.Proofs.YtpbobhobhbbimaaGreatDoor
open Go Go.RowKit
set_option linter.unusedVariables false
/-- a cell with another number in one direction -/
def C4.with (c : C4) (d : Nat) (v : Int) : C4 := match d with | 0 => { c with e := v } | 1 => { c with n := v } | 2 => { c with w := v } | _ => { c with s := v }
theorem C4.with_get (c : C4) {d k : Nat} (v : Int) (hd : d < 4) (hk : k < 4) : (c.with d v).get k = if k = d then v else c.get k := by
  rcases (by omega : d = 0 ∨ d = 1 ∨ d = 2 ∨ d = 3) with rfl | rfl | rfl | rfl <;> rcases (by omega : k = 0 ∨ k = 1 ∨ k = 2 ∨ k = 3) with rfl | rfl | rfl | rfl <;> rfl
theorem C4.with_mass (c : C4) {d : Nat} (v : Int) (hd : d < 4) : (c.with d v).mass = c.mass - c.get d + v := by
  rcases (by omega : d = 0 ∨ d = 1 ∨ d = 2 ∨ d = 3) with rfl | rfl | rfl | rfl <;> simp [C4.with, C4.mass, C4.get] <;> omega
theorem flatC_with (g : Nat → C4) (i : Nat) {d : Nat} (v : Int) (hd : d < 4) : upd (flatC g) (i * 4 + d) v = flatC (updC g i ((g i).with d v)) := by
  refine flatC_ext fun j k hk => ?_
  simp only [upd, updC]
  by_cases e : j = i
  · subst e
    rw [if_pos rfl, C4.with_get _ _ hd hk, flatC_at _ _ _ hk]
    by_cases e2 : k = d
    · subst e2; simp
    · rw [if_neg (by omega), if_neg e2]
  · rw [if_neg (by omega), if_neg e, flatC_at _ _ _ hk]
theorem massTo_updC (G : Nat → C4) (i : Nat) (c : C4) : ∀ n, i < n → massTo (updC G i c) n = massTo G n - (G i).mass + c.mass
  | 0, h => by omega
  | n + 1, h => by
    simp only [massTo]
    by_cases e : i = n
    · subst e
      have : massTo (updC G i c) i = massTo G i := massTo_congr fun k hk => by simp only [updC]; rw [if_neg (by omega)]
      rw [this]
      simp only [updC, if_pos]; omega
    · rw [massTo_updC G i c n (by omega)]
      have : updC G i c n = G n := by simp only [updC]; rw [if_neg (by omega)]
      rw [this]; omega
/-- no number of a cell is below 0 -/
def nnC (c : C4) : Prop := 0 ≤ c.e ∧ 0 ≤ c.n ∧ 0 ≤ c.w ∧ 0 ≤ c.s
theorem nnC_iff (c : C4) : nnC c ↔ ∀ d, d < 4 → 0 ≤ c.get d := by
  constructor
  · rintro ⟨h0, h1, h2, h3⟩ d hd
    rcases (by omega : d = 0 ∨ d = 1 ∨ d = 2 ∨ d = 3) with rfl | rfl | rfl | rfl <;> assumption
  · intro h
    exact ⟨h 0 (by omega), h 1 (by omega), h 2 (by omega), h 3 (by omega)⟩
theorem nnC_mass {c : C4} (h : nnC c) : 0 ≤ c.mass := by obtain ⟨h0, h1, h2, h3⟩ := h; simp only [C4.mass]; omega
theorem valid_nn {c : C4} (h : validC c = true) : nnC c := by obtain ⟨h0, h1, h2, h3, _⟩ := (validC_iff c).1 h; exact ⟨h0, h1, h2, h3⟩
theorem nn_valid {c : C4} (h : nnC c) (hm : c.mass ≤ 1000000000) : validC c = true := (validC_iff c).2 ⟨h.1, h.2.1, h.2.2.1, h.2.2.2, hm⟩
theorem nn_mass_le {G : Nat → C4} : ∀ {n}, (∀ i, i < n → nnC (G i)) → (0 ≤ massTo G n ∧ ∀ i, i < n → (G i).mass ≤ massTo G n)
  | 0, _ => ⟨by simp [massTo], fun i hi => by omega⟩
  | n + 1, h => by
    obtain ⟨h1, h2⟩ := nn_mass_le (n := n) fun i hi => h i (by omega)
    have h3 := nnC_mass (h n (by omega))
    simp only [massTo]
    refine ⟨by omega, fun i hi => ?_⟩
    by_cases e : i = n
    · subst e; omega
    · have := h2 i (by omega); omega
/-- a grid without numbers below 0 is valid just if its mass may be -/
theorem nn_validG {W H n : Nat} {G : Nat → C4} (h1 : 1 ≤ W ∧ W ≤ 64) (h2 : 1 ≤ H ∧ H ≤ 64) (hw : W * H ≤ 1024) (hn : n = W * H) (h : ∀ i, i < n → nnC (G i)) : validG W H n G = decide (massTo G n ≤ 1000000000) := by
  obtain ⟨m0, m1⟩ := nn_mass_le h
  rw [Bool.eq_iff_iff, validG_iff, decide_eq_true_iff]
  have e : ((W * H : Nat) : Int) = (W : Int) * H := by rw [Int.natCast_mul]
  constructor
  · rintro ⟨_, _, _, _, _, _, _, h⟩; exact h
  · intro hm
    refine ⟨by omega, by omega, by omega, by omega, by omega, by rw [hn, e], fun k hk => nn_valid (h k hk) (by have := m1 k hk; omega), hm⟩
/-- the first cells of a site, laid into a grid -/
def layTo (G : Nat → C4) (s : SiteR) : Nat → Nat → C4 | 0 => G | k + 1 => updC (layTo G s k) (s.I k).toNat (s.C k)
/-- the cells of the first sites -/
def layS (f : Nat → SiteR) : Nat → Nat → C4 | 0 => fun _ => C4.zero | k + 1 => layTo (layS f k) (f k) (f k).ni
/-- a note's count, put into a grid -/
def addC (G : Nat → C4) (x : N6) : Nat → C4 := updC G x.ce.toNat ((G x.ce.toNat).with x.di.toNat ((G x.ce.toNat).get x.di.toNat + x.co))
/-- the counts of the first notes -/
def addTo (G : Nat → C4) (p : Nat → N6) : Nat → Nat → C4 | 0 => G | k + 1 => addC (addTo G p k) (p k)
def coS (p : Nat → N6) (k : Nat) : Int := sumTo (fun j => (p j).co) k
/-- a site whose cells may be laid into a grid of n cells -/
def fitS (n : Nat) (s : SiteR) : Prop := s.nc = s.ni ∧ (∀ k, k < s.ni → 0 ≤ s.I k ∧ s.I k < n) ∧ ∀ k, k < s.ni → validC (s.C k) = true
/-- a note whose count may be put into a grid of n cells -/
def fitN (n : Nat) (x : N6) : Prop := 0 ≤ x.ce ∧ x.ce < n ∧ 0 ≤ x.di ∧ x.di ≤ 3 ∧ 0 ≤ x.co ∧ x.co ≤ 1000000000
theorem layTo_valid {n : Nat} {G : Nat → C4} {s : SiteR} (hs : fitS n s) (hG : ∀ i, validC (G i) = true) : ∀ k, k ≤ s.ni → ∀ i, validC (layTo G s k i) = true
  | 0, _, i => hG i
  | k + 1, hk, i => by
    simp only [layTo, updC]
    split
    · exact hs.2.2 k (by omega)
    · exact layTo_valid hs hG k (by omega) i
theorem layS_valid {n : Nat} {f : Nat → SiteR} : ∀ k, (∀ j, j < k → fitS n (f j)) → ∀ i, validC (layS f k i) = true
  | 0, _, i => by simp only [layS]; decide
  | k + 1, h, i => layTo_valid (h k (by omega)) (layS_valid k fun j hj => h j (by omega)) _ (Nat.le_refl _) i
theorem addTo_spec {n : Nat} {G : Nat → C4} {p : Nat → N6} (hG : ∀ i, validC (G i) = true) : ∀ k, (∀ j, j < k → fitN n (p j)) →
    (∀ i d, d < 4 → 0 ≤ (addTo G p k i).get d ∧ (addTo G p k i).get d ≤ (k + 1) * 1000000000) ∧ massTo (addTo G p k) n = massTo G n + coS p k
  | 0, _ => by
    refine ⟨fun i d hd => ?_, by simp [addTo, coS, sumTo]⟩
    have := get_le _ d hd (hG i)
    simpa [addTo] using this
  | k + 1, h => by
    obtain ⟨h1, h2⟩ := addTo_spec hG k fun j hj => h j (by omega)
    obtain ⟨n1, n2, n3, n4, n5, n6⟩ := h k (by omega)
    have hd : (p k).di.toNat < 4 := by omega
    obtain ⟨b1, b2⟩ := h1 (p k).ce.toNat _ hd
    refine ⟨fun i d hd' => ?_, ?_⟩
    · simp only [addTo, addC, updC]
      split
      · rw [C4.with_get _ _ hd hd']
        split
        · omega
        · obtain ⟨c1, c2⟩ := h1 (p k).ce.toNat d hd'; omega
      · obtain ⟨c1, c2⟩ := h1 i d hd'; omega
    · simp only [addTo, addC]
      rw [massTo_updC _ _ _ _ (by omega), C4.with_mass _ _ hd, h2]
      simp only [coS, sumTo]; omega
theorem coS_nonneg {n : Nat} {p : Nat → N6} : ∀ k, (∀ j, j < k → fitN n (p j)) → 0 ≤ coS p k ∧ coS p k ≤ k * 1000000000
  | 0, _ => by simp [coS, sumTo]
  | k + 1, h => by
    have h1 := coS_nonneg k fun j hj => h j (by omega)
    obtain ⟨n1, n2, n3, n4, n5, n6⟩ := h k (by omega)
    have e : coS p (k + 1) = coS p k + (p k).co := rfl
    omega
theorem site_fit {o : Nat → Int} {no : Nat} {s : SiteR} (h : siteB o no s = true) : fitS no s := by
  obtain ⟨_, h2, h3, h4⟩ := siteB_iff.1 h
  obtain ⟨e1, e2⟩ := sameL_iff.1 h2
  refine ⟨by omega, fun k hk => ?_, fun k hk => ((massB_iff _ _).1 h4).1 k (by omega)⟩
  have hm : s.I k ∈ ownL o s.nd no := by
    rw [e2 k hk, List.getD_eq_getElem?_getD, List.getElem?_eq_getElem (by omega)]; exact List.getElem_mem _
  obtain ⟨j, hj, e, _⟩ := ownL_mem.1 hm
  omega
theorem post_fit {W H : Nat} {o : Nat → Int} {no q : Nat} {p : Nat → N6} (h : postB W H o no q p = true) : ∀ k, k < q → fitN no (p k) := fun k hk => by
  obtain ⟨hr, _⟩ := noteB_iff.1 ((postB_iff.1 h).2.1 k hk)
  obtain ⟨_, ⟨h2, h3⟩, ⟨h4, h5⟩, h6, h7⟩ := noteR_iff.1 hr
  exact ⟨h2, by omega, h4, h5, h6, h7⟩
/-- have all sites gone as far? -/
def stepsB (f : Nat → SiteR) (m : Nat) : Bool := decide (∀ k, k < m → (f k).st = (f 0).st)
theorem stepsB_iff {f : Nat → SiteR} {m : Nat} : stepsB f m = true ↔ ∀ k, k < m → (f k).st = (f 0).st := by simp [stepsB]
/-- are the first sites ready? -/
def readyA (W H : Nat) (o : Nat → Int) (no q : Nat) (p : Nat → N6) (f : Nat → SiteR) (m : Nat) : Bool := decide (∀ k, k < m → readyB W H o no q p (f k).nd (f k).st = true)
theorem readyA_iff {W H : Nat} {o : Nat → Int} {no q : Nat} {p : Nat → N6} {f : Nat → SiteR} {m : Nat} : readyA W H o no q p f m = true ↔ ∀ k, k < m → readyB W H o no q p (f k).nd (f k).st = true := by simp [readyA]
/-- are all notes of one step? -/
def postS (p : Nat → N6) (q : Nat) (st : Int) : Bool := decide (∀ k, k < q → (p k).st = st)
theorem postS_iff {p : Nat → N6} {q : Nat} {st : Int} : postS p q st = true ↔ ∀ k, k < q → (p k).st = st := by simp [postS]
/-- the error of merging: valid? as far? ready? notes of this step? is the mass one that may be? -/
def mrgE (v s r t l : Bool) : Int := if v then (if s then (if r then (if t then (if l then 0 else 4) else 10) else 12) else 10) else 1
end Go.Proofs.YtpbobhobhbbimaaGreatDoor
/- Plain law: the numbers of the notes that are due. Walks: Neighbours, of the program and of the reference. Walk: Neighbours of the reference. -/
namespace Go.Proofs.YtpbobhobhbbimaaGreatDoor
open Go Go.RowKit
set_option linter.unusedVariables false
theorem dueC_fro {W H : Nat} {o : Nat → Int} {nd st : Int} {i : Nat} {P : Int → Prop} : ∀ {d}, (∀ e, e < d → P (o (nbT W H i e))) → ∀ x ∈ dueC W H o nd st i d, P x.fr
  | 0, _, x, h => by simp [dueC] at h
  | d + 1, hp, x, h => by
    simp only [dueC] at h
    split at h
    · exact dueC_fro (fun e he => hp e (by omega)) x h
    · rcases List.mem_append.1 h with h | h
      · exact dueC_fro (fun e he => hp e (by omega)) x h
      · rw [List.mem_singleton] at h; subst h; exact hp d (by omega)
theorem dueL_fro {W H : Nat} {o : Nat → Int} {nd st : Int} {P : Int → Prop} (hp : ∀ k, k < W * H → P (o k)) : ∀ {n}, n ≤ W * H → ∀ x ∈ dueL W H o nd st n, P x.fr
  | 0, _, x, h => by simp [dueL] at h
  | n + 1, hn, x, h => by
    simp only [dueL] at h
    split at h
    · rcases List.mem_append.1 h with h | h
      · exact dueL_fro hp (by omega) x h
      · exact dueC_fro (fun e he => hp _ (nbT_lt (by omega) he)) x h
    · exact dueL_fro hp (by omega) x h
theorem dueC_num {W H : Nat} {o : Nat → Int} {nd st : Int} {i : Nat} : ∀ {d}, ∀ x ∈ dueC W H o nd st i d, x.st = st ∧ x.to = nd ∧ x.ce = i ∧ 0 ≤ x.di ∧ x.di < d ∧ x.co = 0
  | 0, x, h => by simp [dueC] at h
  | d + 1, x, h => by
    have up : ∀ x ∈ dueC W H o nd st i d, x.st = st ∧ x.to = nd ∧ x.ce = i ∧ 0 ≤ x.di ∧ x.di < (d + 1 : Nat) ∧ x.co = 0 := fun x h => by
      obtain ⟨a1, a2, a3, a4, a5, a6⟩ := dueC_num x h
      exact ⟨a1, a2, a3, a4, by omega, a6⟩
    simp only [dueC] at h
    split at h
    · exact up x h
    · rcases List.mem_append.1 h with h | h
      · exact up x h
      · rw [List.mem_singleton] at h; subst h; exact ⟨rfl, rfl, rfl, by simp, (by show (d : Int) < ((d + 1 : Nat) : Int); omega), rfl⟩
theorem dueL_num {W H : Nat} {o : Nat → Int} {nd st : Int} : ∀ {n}, ∀ x ∈ dueL W H o nd st n, x.st = st ∧ x.to = nd ∧ 0 ≤ x.ce ∧ x.ce < n ∧ 0 ≤ x.di ∧ x.di < 4 ∧ x.co = 0
  | 0, x, h => by simp [dueL] at h
  | n + 1, x, h => by
    have up : ∀ x ∈ dueL W H o nd st n, x.st = st ∧ x.to = nd ∧ 0 ≤ x.ce ∧ x.ce < (n + 1 : Nat) ∧ 0 ≤ x.di ∧ x.di < 4 ∧ x.co = 0 := fun x h => by
      obtain ⟨a1, a2, a3, a4, a5⟩ := dueL_num x h
      exact ⟨a1, a2, a3, by omega, a5⟩
    simp only [dueL] at h
    split at h
    · rcases List.mem_append.1 h with h | h
      · exact up x h
      · obtain ⟨a1, a2, a3, a4, a5, a6⟩ := dueC_num x h
        exact ⟨a1, a2, by omega, by omega, a4, by omega, a6⟩
    · exact up x h
/-- every note due to a site that is right has numbers of 64 bits -/
theorem due_wf {wide high : Int} {n no : Nat} {g : Nat → C4} {o : Nat → Int} {s : SiteR} (hv : validM wide high n g no o = true) (hh : hasB o no s.nd = true) (hb : siteB o no s = true) :
    ∀ x, x ∈ dueL wide.toNat high.toNat o s.nd s.st no → wfN x := by
  intro x hx
  obtain ⟨Wd, Hd, rfl, rfl, p1, p2, u1, u2, hnn, hn4, hoo, hob, _, _⟩ := validM_sides hv
  simp only [Int.toNat_natCast] at hx
  obtain ⟨a1, a2, a3, a4, a5, a6, a7⟩ := dueL_num x hx
  have hf := dueL_fro (P := fun x => 0 ≤ x ∧ x ≤ 7) (fun k hk => hob k (by omega)) (show no ≤ Wd * Hd by omega) x hx
  obtain ⟨k, hk, e⟩ := hasB_iff.1 hh
  have hn7 := hob k (by omega)
  rw [e] at hn7
  obtain ⟨hw, _⟩ := siteB_iff.1 hb
  have hw' : 0 ≤ s.st ∧ s.st ≤ 1000000 := by simpa [within] using hw
  intro j hj
  apply WalkArith.wf_i64
  rcases (by omega : j = 0 ∨ j = 1 ∨ j = 2 ∨ j = 3 ∨ j = 4 ∨ j = 5) with rfl | rfl | rfl | rfl | rfl | rfl <;> simp only [N6.get] <;> omega
end Go.Proofs.YtpbobhobhbbimaaGreatDoor
/- Walk: is a land small? Walk: is a state light enough to ask of it? Walk: equal lists of notes. -/
namespace Go.Proofs.YtpbobhobhbbimaaGreatDoor
open Go Go.RowKit
set_option linter.unusedVariables false
def smallL (n no : Nat) (k : Int) : Bool := decide ((n : Int) ≤ k) && decide ((no : Int) ≤ k)
theorem smallL_iff {n no : Nat} {k : Int} : smallL n no k = true ↔ ((n : Int) ≤ k ∧ (no : Int) ≤ k) := by simp [smallL]
theorem law5_Small (wide high k : Int) (a ao : Option Addr) (n no c co : Nat) (w : World) :
    Calls Tryz.prog 4 #[.agg #[.int .i64 wide, .int .i64 high, .slice a n c, .slice ao no co], .int .i64 k] w fun e w' => e = .returned (.bool (smallL n no k)) ∧ Below w.heap.size w w' := by
  cases h1 : decide ((n : Int) ≤ k)
  all_goals
    go_enter Tryz.func4, Tryz.ntmps4
    go_wp2
    go_ret
    exact ⟨by simp [smallL, h1], by (repeat' (first | with_reducible assumption | with_reducible exact Below.refl _ _ | with_reducible refine Below.drew ?_ | with_reducible refine below_drewN ?_ _ | with_reducible refine balloc ?_ _ | with_reducible refine bset ?_ ?_ _ | with_reducible refine Below.setCell ?_ ?_ _ | with_reducible refine Below.alloc ?_ ?_ _ | omega | (simp; done) | (simp; omega)))⟩
end Go.Proofs.YtpbobhobhbbimaaGreatDoor
