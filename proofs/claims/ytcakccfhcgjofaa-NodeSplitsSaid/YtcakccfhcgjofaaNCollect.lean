/- Walks: the notes that an iterator yields, as a list. -/
import Derived.Test.YtcakccfhcgjofaaNDue
import Derived.Test.YtcakccfhcgjofaaNNotes
import Derived.Test.YtcakccfhcgjofaaNNodes
import Derived.RangeFuncLeaves
import Derived.Maps.OwnIn
namespace Go.Proofs.Ytcakccfhcgjofaa
open Go Go.RowKit
attribute [local go_sem] Oper.semAt_some
set_option linter.unusedVariables false
theorem ownN_but {C : Nat → Prop} {X Y : World} {base : Nat} {v : Value} {xs : List N6} (h : OwnN X base v xs) (hb : But C X Y) (hne : ∀ g, v.ownBlock = some g → ¬ C g) : OwnN Y base v xs := own_butN h hb hne
theorem own_sliceN {w : World} {base : Nat} {e : TypeId} {size n : Nat} {v : Value} {xs : List Value} (h : w.ownsRow base e size v n xs) : ∃ a k c, v = .slice a k c := by
  rcases h.2 with ⟨rfl, _⟩ | ⟨g', cap, cur, rfl, _⟩
  · exact ⟨_, _, _, rfl⟩
  · exact ⟨_, _, _, rfl⟩
/-- the word between two rounds -/
structure SeqW (bo n₀ : Nat) (pre : List N6) (C : Nat → Prop) (X : World) (v : Value) : Prop where
  foot : C = fun b => b = bo ∨ v.ownBlock = some b
  box : Bx X bo #[v]
  own : OwnN X n₀ v pre
theorem seqW_stab {bo n₀ n₁ : Nat} : Stab n₁ (fun pre C X => ∃ v, SeqW bo n₀ pre C X v) := by
  rintro pre C A B ⟨v, h⟩ hb
  have hf := h.foot
  subst hf
  exact ⟨v, rfl, h.box.but hb (fun h' => h'.2 (.inl rfl)), ownN_but h.own hb (fun g hg h' => h'.2 (.inr hg))⟩
theorem but_grownN {C : Nat → Prop} {X Y Z : World} {row : Option Nat} (h : But C X Y) (hg : Y.grownBy Z row) (hr : ∀ g, row = some g → C g) : But C X Z :=
  ⟨hg.os.trans h.os, hg.tape.trans h.tape, hg.output.trans h.output, Nat.le_trans h.size hg.size, fun b hb hc => (hg.block b (Nat.lt_of_lt_of_le hb h.size) (fun e => hc (hr b e.symm))).trans (h.block b hb hc)⟩
set_option maxRecDepth 100000 in
set_option maxHeartbeats 4000000 in
theorem notes_AppendSeq (gf : Nat) (lb : Array Value) (L : List N6) (w : World) (eg : ∀ args w, (callFunc gf args).run Try.prog w = .ok (.enter gf args) w) (hit : Iter Try.prog gf lb encN L w) (hl : L.length ≤ 1000000) :
    Calls Try.prog 93 #[.slice none 0 0, .func (.func gf) #[] lb] w fun e w' => ∃ v, e = .returned v ∧ OwnN w' w.heap.size v L ∧ Below w.heap.size w w' := by
  obtain ⟨i0, hi, hz0, hz1, hz2⟩ := info_parts infoN
  refine callsIn_wide.1 (callsIn_of_wp_marks (F := Fence.wide) (n := 0) Try.func93 rfl trivial ?_ rfl)
  simp only [Try.ntmps93, List.size_toArray, List.length_cons, List.length_nil, Nat.reduceAdd, Nat.reduceSub, Array.replicate_succ, Array.replicate_zero, List.push_toArray, List.append_toArray, List.nil_append, List.cons_append]
  have X0 := Bx.new w #[.slice none 0 0] 35
  have hB0 := below_alloc w (.cells #[.slice none 0 0] 35)
  gi_wp2_with fail
  refine wp_range rfl eg hit hB0 (fun _ => rfl) (fun pre C X => ∃ v, SeqW w.heap.size (w.heap.size + 1) pre C X v) (fun _ _ _ _ => False)
    (fun b => b = w.heap.size ∨ (Value.slice none 0 0).ownBlock = some b) ?hC seqW_stab (fun c => fun _ _ _ _ h => h.elim) ⟨_, rfl, X0, ownN_nil _ _⟩ ?hround ?hdone ?hstop
  case hC =>
    rintro pre C X ⟨v, h⟩ b hb
    have l1 := h.box.lt
    rw [h.foot] at hb
    rcases hb with rfl | hb
    · omega
    · have := own_base h.own b hb; have := own_lt h.own b hb; omega
  case hround =>
    rintro l pre x C X hlw hl' hnl ⟨rec2, hrec2⟩ ⟨v, h⟩ hX hgC hpre
    unfold Round
    dsimp only [encN]
    gi_wp2_with fail
    refine ⟨below_alloc _ _, ?_⟩
    intro X₂ hb2 hs2 r2
    have hf := h.foot
    subst hf
    have l1 := h.box.lt
    have hl0 : l ≠ w.heap.size ∧ v.ownBlock ≠ some l := ⟨fun e => hnl (.inl e), fun e => hnl (.inr e)⟩
    obtain ⟨n1, n2⟩ := hl0
    have Xo := (h.box.alloc (.cells #[.int .i64 x.st, .int .i64 x.fr, .int .i64 x.to, .int .i64 x.ce, .int .i64 x.di, .int .i64 x.co] 41)).but hb2 (fun e => n1 e.symm)
    have Xx := (Bx.new X #[.int .i64 x.st, .int .i64 x.fr, .int .i64 x.to, .int .i64 x.ce, .int .i64 x.di, .int .i64 x.co] 41).but hb2 (fun e => by omega)
    have hown : OwnN X₂ (w.heap.size + 1) v pre := ownN_but (own_below h.own (below_alloc _ _)) hb2 (fun g hg e => n2 (by rw [← e]; exact hg))
    have hpl := hpre.length_le
    simp only [List.length_append, List.length_cons, List.length_nil] at hpl
    have x0 := Xo.at_ 0 rfl; have xf := Xo.free; have xl := Xo.lt
    have y0 := Xx.at_ 0 rfl; have y1 := Xx.at_ 1 rfl; have y2 := Xx.at_ 2 rfl; have y3 := Xx.at_ 3 rfl; have y4 := Xx.at_ 4 rfl; have y5 := Xx.at_ 5 rfl; have yl := Xx.lt
    have hob := own_base hown
    have hol := own_lt hown
    have hown' := hown.alloc (.cells #[.int .i64 x.st, .int .i64 x.fr, .int .i64 x.to, .int .i64 x.ce, .int .i64 x.di, .int .i64 x.co] 41)
    clear h n1 n2 hb2 hs2 r2 hnl hgC hX hpre hrec2
    gi_wp2_with (gi_at_builtin; refine wpListIn_append_own_at _ rfl _ _ 35 rfl (w.heap.size + 1) 41 i0 _ 6 48 Try.underlying35 hi hz0 hz1 hz2 rfl (by decide) v _ _ rfl hown' ⟨X₂.heap.size, 0, none⟩ 1 1 x.list rfl rfl (cells_new _ _ _) (n6_one _) (by (try simp [maxLen]); omega) (by (try simp); omega) (by (try simp); omega) ?_; intro v' w5 hown5 hgr _ hat; obtain ⟨av, nv, cv, hv'⟩ := own_sliceN hown5; subst hv'; have hg5 : v.ownBlock ≠ some w.heap.size := (fun e => (by have := hob _ e; omega)); have Xo5 := (Xo.alloc (.cells #[.int .i64 x.st, .int .i64 x.fr, .int .i64 x.to, .int .i64 x.ce, .int .i64 x.di, .int .i64 x.co] 41)).grown hgr (fun e => hg5 e.symm); have z0 := Xo5.at_ 0 rfl; have zf := Xo5.free; have zl := Xo5.lt)
    have hC5 : But (fun b => b = w.heap.size ∨ v.ownBlock = some b) X₂ w5 := but_grownN ((But.refl _ X₂).alloc _) hgr (fun q hq => .inr hq)
    refine ⟨fun b => b = w.heap.size ∨ (Value.slice av nv cv).ownBlock = some b, hC5.set_ (.inl rfl) _, ?_, _, rfl, Xo5.set_ 0 (by simp) _, ?_⟩
    · rintro b (h | h)
      · exact .inl (.inl h)
      · rcases hat with h' | h'
        · exact .inl (.inr (by rw [← h']; exact h))
        · rw [h'] at h
          injection h with h
          simp at h
          exact .inr (by omega)
    · have h5 : OwnN w5 (w.heap.size + 1) (.slice av nv cv) (pre ++ [x]) := ownN_snoc hown5
      exact ownN_but h5 ((But.refl (fun b => b = w.heap.size) w5).set_ rfl _) (fun q hq e => by
        subst e
        have := own_base h5 _ hq; omega)
  case hdone =>
    rintro D C X hD hnD ⟨v, h⟩ hbut hgC hdef
    have hf := h.foot
    subst hf
    have x0 := h.box.at_ 0 rfl; have lx := h.box.lt
    have hs1 := hbut.size
    have hv0 : ∀ g, (Value.slice none 0 0).ownBlock = some g → False := fun g h => by cases h
    have hbel : Below w.heap.size w X := hB0.trans ⟨hbut.os, hbut.tape, hbut.output, hbut.size, fun b hb => hbut.block b (by simp; omega) (fun h => by
      rcases h with h | h
      · omega
      · exact hv0 b h)⟩
    have hbp := but_putObj X D (.deferred none)
    simp only [World.size_alloc] at hD
    have B6 := hbel.trans (⟨hbp.os, hbp.tape, hbp.output, hbp.size, fun b hb => hbp.block b (by have := hbel.size; omega) (by omega)⟩ : Below w.heap.size _ _)
    have O6 := ownN_but h.own hbp (fun g hg e => hnD (.inr (by rw [← e]; exact hg)))
    gi_wp2
    refine ⟨by simp, .inl ⟨_, _, rfl, run_takeDeferred hdef, ?_⟩⟩
    exact ⟨v, by simp [results, Try.results93, go_sem], v, rfl, own_mono O6 (by omega), B6⟩
  case hstop =>
    rintro Dd c pre C X hDd hnD hpre h
    exact h.elim
end Go.Proofs.Ytcakccfhcgjofaa
