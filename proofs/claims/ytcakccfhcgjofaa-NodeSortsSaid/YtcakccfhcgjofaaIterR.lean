/- Iterators that read blocks which the caller carries: the law of the loop. -/
import Derived.Test.YtcakccfhcgjofaaIter
namespace Go.Proofs.Ytcakccfhcgjofaa
open Go Go.RowKit
set_option linter.unusedVariables false
/-- as Iter; what the iterator reads beside w₀ is told by Rd, which the caller's word gives -/
def IterR {α : Type} (P : Program) (g : Nat) (lb : Array Value) (enc : α → Array Value) (L : List α) (w₀ : World) (Rd : World → Prop) : Prop :=
  ∀ (l : Nat) (J Jx : List α → (Nat → Prop) → World → Prop) (C₀ : Nat → Prop) (W : World), (∀ pre C X, J pre C X → Rd X) →
    Below w₀.heap.size w₀ W → (∀ pre C X, J pre C X → ∀ b, C b → w₀.heap.size ≤ b ∧ b < X.heap.size) → Stab w₀.heap.size J → Stab w₀.heap.size Jx →
    (∀ pre x C X, J pre C X → Below w₀.heap.size w₀ X → pre ++ [x] <+: L → YieldAt Fence.wide 0 P l (enc x) X (Ans J Jx (pre ++ [x]) C X)) →
    J [] C₀ W →
    Calls P g (#[.func (.yield l) #[] #[]] ++ lb) W fun e X => (∃ v, e = .returned v) ∧ ∃ C', But C₀ W X ∧ Grw C₀ C' W ∧ (J L C' X ∨ ∃ pre, pre <+: L ∧ Jx pre C' X)
section
variable {α : Type} {P : Program} {g : Operand} {ps : Array Tmp} {assign body : Code} {a : Act} {gf : Nat} {lb : Array Value} {enc : α → Array Value} {L : List α} {w₀ : World}
/-- THE LOOP over an iterator, outside of rounds -/
theorem wp_rangeR {Rd : World → Prop} {Q : Exit → Act → World → Prop} {w : World} (hg : a.eval g = .func (.func gf) #[] lb) (eg : ∀ args w, (callFunc gf args).run P w = .ok (.enter gf args) w) (hit : IterR P gf lb enc L w₀ Rd) (hb0 : Below w₀.heap.size w₀ w) (hps : ∀ x, (enc x).size = ps.size)
    (I : List α → (Nat → Prop) → World → Prop) (Ix : Code → List α → (Nat → Prop) → World → Prop) (C₀ : Nat → Prop) (hRd : ∀ pre C X, I pre C X → Rd X) (hC : ∀ pre C X, I pre C X → ∀ b, C b → w₀.heap.size ≤ b ∧ b < X.heap.size) (hI : Stab w₀.heap.size I) (hIx : ∀ c, Stab w₀.heap.size (Ix c)) (h0 : I [] C₀ w)
    (hround : ∀ l pre x C X, w.heap.size ≤ l → l < X.heap.size → ¬ C l → (∃ r, X.heap[l]? = some (.loop r)) → I pre C X → Below w₀.heap.size w₀ X → Grw C₀ C w → pre ++ [x] <+: L →
      Round P assign body l I Ix (pre ++ [x]) C ((ps.zip (enc x)).foldl (fun t (p, v) => t.setIfInBounds p v) a.tmps) X)
    (hdone : ∀ D C X, w.heap.size ≤ D → ¬ C D → I L C X → But C₀ w X → Grw C₀ C w → X.heap[D]? = some (.deferred (some [])) → Q .normal { a with defers := { target := .collected D, args := #[] } :: a.defers } X)
    (hstop : ∀ D c pre C X, w.heap.size ≤ D → ¬ C D → pre <+: L → Ix c pre C X → But C₀ w X → Grw C₀ C w → X.heap[D]? = some (.deferred (some [])) → c.wpIn Fence.wide 0 P Q { a with defers := { target := .collected D, args := #[] } :: a.defers } X) :
    (Code.rangeFunc g ps assign body).wpIn Fence.wide 0 P Q a w := by
  refine wpIn_rangeFunc ?_
  intro fn _
  obtain ⟨rec, hrec⟩ : ∃ rec : LoopState → Option Code → Loop, rec = fun st pe => { state := st, pending := pe, fn, tmps := a.tmps, params := ps, assign, body, defers := w.heap.size } := ⟨_, rfl⟩
  obtain ⟨W1, hW1⟩ : ∃ W1, (w.alloc (.deferred (some []))).alloc (.loop (rec .ready none)) = W1 := ⟨_, rfl⟩
  have hs1 : W1.heap.size = w.heap.size + 1 + 1 := by rw [← hW1]; simp
  have hL1 : W1.heap[w.heap.size + 1]? = some (.loop (rec .ready none)) := by
    rw [← hW1]; have := World.alloc_heap_new (w.alloc (.deferred (some []))) (.loop (rec .ready none)); rwa [World.size_alloc] at this
  have hK1 : W1.heap[w.heap.size]? = some (.deferred (some [])) := by
    rw [← hW1]; exact (Below.heap_alloc _ _ _ (by simp)).trans (World.alloc_heap_new w _)
  have hw1 : Below w.heap.size w W1 := by rw [← hW1]; exact ((Below.refl _ w).alloc (Nat.le_refl _) _).alloc (by simp) _
  have hb1 : Below w₀.heap.size w₀ W1 := hb0.trans (hw1.mono hb0.size)
  have hI1 : I [] C₀ W1 := hI [] C₀ w W1 h0 (but_below hw1 (Nat.le_refl _))
  have hC0 := hC [] C₀ w h0
  have hbs := hb0.size
  obtain ⟨Z, hZ⟩ : ∃ Z : Nat → Prop, Z = fun b => b = w.heap.size ∨ b = w.heap.size + 1 := ⟨_, rfl⟩
  obtain ⟨Ed, hEd⟩ : ∃ Ed : World → Prop, Ed = fun X => X.heap[w.heap.size]? = some (.deferred (some [])) := ⟨_, rfl⟩
  have edl : ∀ A B, Ed A → But (fun b => b = w.heap.size + 1) A B → Ed B := by
    rw [hEd]; intro A B h hb; exact (hb.block _ (Array.getElem?_eq_some_iff.1 h).1 (by simp)).trans h
  have edc : ∀ C A B, Ed A → But C A B → (∀ b, Z b → ¬ C b) → W1.heap.size ≤ A.heap.size → Ed B := by
    rw [hEd]; intro C A B h hb hn _; exact (hb.block _ (Array.getElem?_eq_some_iff.1 h).1 (hn _ (by rw [hZ]; exact .inl rfl))).trans h
  have edz : ∀ (st : Option Code → Loop) (c : Option Code) A B, (A.heap[w.heap.size + 1]? = some (.loop (st c)) ∧ Ed A) → But (fun b => ¬ Z b) A B → (B.heap[w.heap.size + 1]? = some (.loop (st c)) ∧ Ed B) := by
    rw [hEd]; intro st c A B h hb
    exact ⟨(hb.block _ (Array.getElem?_eq_some_iff.1 h.1).1 (fun hn => hn (by rw [hZ]; exact .inr rfl))).trans h.1, (hb.block _ (Array.getElem?_eq_some_iff.1 h.2).1 (fun hn => hn (by rw [hZ]; exact .inl rfl))).trans h.2⟩
  have dz : ∀ D : Nat → Prop, Grw C₀ D W1 → ∀ b, Z b → ¬ D b := by
    rw [hZ]; intro D hg b hb h
    rcases hg b h with h2 | h2
    · have := (hC0 b h2).2; omega
    · omega
  refine ⟨w.heap.size + 1, [{ target := .collected w.heap.size, args := #[] }], W1, { target := .fn (.func gf) lb, args := #[.func (.yield (w.heap.size + 1)) #[] #[]] }, W1, gf,
    #[.func (.yield (w.heap.size + 1)) #[] #[]] ++ lb, W1, ?_, ?_, ?_, ?_, fun h => (by cases h), ?_⟩
  · rw [← hW1, hrec]; exact run_enterLoop_outer _ _ _ _ _
  · simp only [resolve, hg]
    simp [go_sem]
  · intro f' _; trivial
  · simp [invoke, go_sem, eg]
  refine callsIn_wide.2 ((hit (w.heap.size + 1) (LoopW I C₀ W1 Z (fun X => X.heap[w.heap.size + 1]? = some (.loop (rec .ready none)) ∧ Ed X)) (fun pre C X => ∃ c, LoopW (Ix c) C₀ W1 Z (fun X => X.heap[w.heap.size + 1]? = some (.loop (rec .done (some c))) ∧ Ed X) pre C X)
    (fun b => C₀ b ∨ Z b) W1 (fun pre C X h => by obtain ⟨D, _, hi, _⟩ := h; exact hRd _ _ _ hi) hb1 ?_ (loopW_stab hI (fun A B => edz (rec .ready) none A B)) ?_ ?_ ⟨C₀, rfl, hI1, Grw.refl _ _, Nat.le_refl _, hL1, by rw [hEd]; exact hK1⟩).mono ?_)
  · rintro pre C X ⟨D, rfl, hi, hg, hz, he⟩ b (hb | hb)
    · exact hC pre D X hi b hb
    · rw [hZ] at hb; omega
  · rintro pre C A B ⟨c, h⟩ hbut
    exact ⟨c, loopW_stab (hIx c) (fun A B => edz (rec .done) (some c) A B) pre C A B h hbut⟩
  · rintro pre x C X ⟨D, rfl, hi, hg, hz, hl, hd⟩ hX hpre
    have hy := run_yield (P := P) (args := enc x) hl (by rw [hrec]; exact hps x)
    refine ⟨fn, (ps.zip (enc x)).foldl (fun t (p, v) => t.setIfInBounds p v) a.tmps, assign, body, by rw [hy, hrec], ?_⟩
    have hgw : Grw C₀ D w := fun b h => (hg b h).imp id (fun h2 => by omega)
    exact round_of hrec hI hIx (by rw [hZ]; exact .inr rfl) (by rw [hZ]; intro b hb; omega) edl edc hi (dz D hg) hg hz hl hd
      (hround _ pre x D X (by omega) (Array.getElem?_eq_some_iff.1 hl).1 (dz D hg _ (by rw [hZ]; exact .inr rfl)) ⟨_, hl⟩ hi hX hgw hpre)
  · rintro e X ⟨⟨v, rfl⟩, C', hbut, _, hor⟩
    have key : ∀ X', But (fun b => b = w.heap.size + 1) X X' → But C₀ w X' := fun X' hb' => by
      refine (But.trans (but_below hw1 (Nat.le_refl _)) ((hbut.trans' hb' (fun b e => .inl (by rw [hZ]; exact .inr (.inr e)))).mono (D := fun b => C₀ b ∨ w.heap.size ≤ b) ?_) |> fun h => (⟨h.os, h.tape, h.output, h.size, fun b hb hc => h.block b hb (fun h2 => h2.elim hc (fun h3 => by omega))⟩ : But C₀ w X'))
      rw [hZ]; intro b _ hb
      rcases hb with hb | hb
      · exact .inl hb
      · exact .inr (by omega)
    rcases hor with ⟨D, _, hi, hg, hz, hl, hd⟩ | ⟨pre, hpre, c, D, _, hi, hg, hz, hl, hd⟩
    · have hend := run_endLoop (P := P) hl (by rw [hrec]; simp)
      have hb' := but_putObj X (w.heap.size + 1) (.loop { (rec .ready none : Loop) with state := .exhausted })
      have hpe : (rec .ready none).pending = none := by rw [hrec]
      refine ⟨none, _, hend.trans (congrArg (fun c => Result.ok c _) hpe), ?_⟩
      refine hdone w.heap.size D _ (Nat.le_refl _) (dz D hg _ (by rw [hZ]; exact .inl rfl)) (hI _ _ _ _ hi (hb'.mono fun b _ e => ⟨by omega, fun h => dz D hg b (by rw [hZ]; exact .inr e) h⟩)) (key _ hb') (fun b h => (hg b h).imp id (fun h2 => by omega)) ?_
      have := edl _ _ hd hb'
      rw [hEd] at this
      exact this
    · have hend := run_endLoop (P := P) hl (by rw [hrec]; simp)
      have hb' := but_putObj X (w.heap.size + 1) (.loop { (rec .done (some c) : Loop) with state := .exhausted })
      have hpe : (rec .done (some c)).pending = some c := by rw [hrec]
      refine ⟨some c, _, hend.trans (congrArg (fun c => Result.ok c _) hpe), ?_⟩
      refine hstop w.heap.size c pre D _ (Nat.le_refl _) (dz D hg _ (by rw [hZ]; exact .inl rfl)) hpre (hIx c _ _ _ _ hi (hb'.mono fun b _ e => ⟨by omega, fun h => dz D hg b (by rw [hZ]; exact .inr e) h⟩)) (key _ hb') (fun b h => (hg b h).imp id (fun h2 => by omega)) ?_
      have := edl _ _ hd hb'
      rw [hEd] at this
      exact this
end
end Go.Proofs.Ytcakccfhcgjofaa
