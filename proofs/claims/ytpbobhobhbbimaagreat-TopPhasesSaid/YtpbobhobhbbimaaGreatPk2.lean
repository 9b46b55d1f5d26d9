/- A region that draws its order within a round of a range over a function: what only reads may be taken first. Iterators: what a range over a function asks of the function that is ranged over, and the law of the loop. Iterators that read blocks which the caller carries: the law of the loop. -/
import Derived.Test.YtpbobhobhbbimaaGreatPk1
import Derived.OrdersIn
import Derived.OrdersHeld
import Derived.OwnWalkIn
import Derived.Deep.Quiet
import Derived.BigQuiet
import Derived.StillTail
import Derived.RangeFuncNested
import Derived.Handy
import Derived.Laws.MakeOwn
import Derived.Maps.AppendAt
import Derived.Deep.AppendLies
import Derived.Deep.RegionLawGrows
namespace Go.Proofs.YtpbobhobhbbimaaGreat
open Go Go.RowKit
section
variable {F : Fence} {n : Nat} {P : Program} {ops : Array Oper} {Q : Exit → Act → World → Prop} {md : Region.Mode} {S : World → Prop}
def noDefer (ops : Array Oper) : Bool := ops.all fun o => match o.op with | .defer _ => false | _ => true
theorem noDefer_at (h : noDefer ops = true) {j : Nat} {o : Oper} (ho : ops[j]? = some o) : ∀ c, o.op ≠ .defer c := by
  intro c hc
  have hm : o ∈ ops := Array.mem_of_getElem? ho
  have := (Array.all_eq_true_iff_forall_mem.1 h) o hm
  rw [hc] at this
  cases this
/-- whatever order is picked, S holds behind each operation -/
def anyR (F : Fence) (n : Nat) (P : Program) (md : Region.Mode) (ops : Array Oper) (Q : Exit → Act → World → Prop) (S : World → Prop) : Nat → Array Bool → Act → World → Prop
  | 0, listed, a, w => Region.ready md ops listed = [] ∧ Q .normal a w
  | fuel + 1, listed, a, w =>
    (Region.ready md ops listed = [] → Q .normal a w) ∧
    ∀ i ∈ Region.ready md ops listed, wpOpIn F n P ops Q i (fun a' w' => S w' ∧ anyR F n P md ops Q S fuel (listed.setIfInBounds i true) a' w') a w
theorem anyIn_of_anyR : ∀ (fuel : Nat) (listed : Array Bool) (a : Act) (w : World), anyR F n P md ops Q S fuel listed a w → wpAnyIn F n P md ops Q fuel listed a w
  | 0, _, _, _, h => h
  | fuel + 1, _, _, _, h => ⟨h.1, fun i hi => wpOpIn_mono (fun a' w' h' => anyIn_of_anyR fuel _ a' w' h'.2) (h.2 i hi)⟩
theorem yIf_opIn (hfn : ∀ f, F.fn f) (hnd : noDefer ops = true) {i : Nat} {o : Oper} {v : Value} {a : Act} (hi : ops[i]? = some o) (hy : YieldsIf P ops S o v a)
    {K : Act → World → Prop} {w : World} (hS : S w) (h : K (a.put o.dst v) w) : wpOpIn F n P ops Q i K a w := by
  unfold Go.wpOpIn
  simp only [hi]
  rcases hy with ⟨hw, hv⟩ | ⟨hw, rfl⟩
  · simp only [hw, if_true, Oper.wpIn, Oper.semAt_plain F a.eval o (noDefer_at hnd hi), hv w hS, Oper.uponIn]
    exact ⟨fun f _ => hfn f, h⟩
  · simp only [hw, Bool.false_eq_true, if_false]
    exact ⟨fun f _ => hfn f, h⟩
theorem opIn_put (hfn : ∀ f, F.fn f) (hnd : noDefer ops = true) {j : Nat} {oi oj : Oper} {v : Value} (hj : ops[j]? = some oj) (hap : oi.apart ops oj = true)
    (hsi : ∀ cs b, oi.op ≠ .select cs b) (hsj : ∀ cs b, oj.op ≠ .select cs b)
    (hQ : ∀ c a w, Q (.panic c) (a.put oi.dst v) w → Q (.panic c) a w) {K : Act → World → Prop} {a : Act} {w : World}
    (hy : YieldsIf P ops S oi v a) (h : wpOpIn F n P ops Q j K (a.put oi.dst v) w) :
    wpOpIn F n P ops Q j (fun a' w' => YieldsIf P ops S oi v a' ∧ K (a'.put oi.dst v) w') a w := by
  obtain ⟨h1, h2, h3⟩ := Oper.apart_spec hap
  have keep : ∀ (a : Act), YieldsIf P ops S oi v a → ∀ u, YieldsIf P ops S oi v (a.put oj.dst u) := fun a hy u =>
    hy.of_same (execOp_put oi hsi a oj.dst u h3) (wanted_put oi a oj.dst u h3)
  have hsem : ∀ ρ, oj.semAt F.round ρ = execOp ρ oj := fun ρ => Oper.semAt_plain F ρ oj (noDefer_at hnd hj)
  unfold wpOpIn at *
  simp only [hj] at *
  rw [wanted_put oj a oi.dst v h1] at h
  split
  · rename_i hw
    simp only [hw, if_true] at h
    unfold Oper.wpIn at *
    refine ⟨fun f _ => hfn f, ?_⟩
    replace h := h.2
    rw [hsem, execOp_put oj hsj a oi.dst v h1] at h
    rw [hsem]
    generalize (execOp a.eval oj).run P w = r at *
    cases r with
    | ok x w' =>
      cases x <;> simp only [Oper.uponIn] at h ⊢
      case value u => exact ⟨keep a hy u, by rw [← Act.put_comm a v u h2]; exact h⟩
      case skip => exact ⟨keep a hy _, by rw [← Act.put_comm a v undef h2]; exact h⟩
      case defer d =>
        have hd : YieldsIf P ops S oi v { a with defers := d :: a.defers } := hy.of_same rfl rfl
        refine ⟨keep _ hd _, ?_⟩
        rw [← Act.put_comm _ v undef h2, ← Act.put_defers]
        exact h
      case enter f args =>
        refine ⟨h.1, CallsIn.mono h.2 fun e w'' he => ?_⟩
        cases e with
        | returned u => exact ⟨keep a hy u, by rw [← Act.put_comm a v u h2]; exact he⟩
        | panicked c => exact hQ _ _ _ he
        | outgrown => exact he
      case row row args => exact ⟨h.1, RowsIn.mono h.2 fun u w'' he => ⟨keep a hy u, by rw [← Act.put_comm a v u h2]; exact he⟩⟩
      case round l f tmps assign body =>
        refine ⟨h.1, RoundIn.mono h.2 fun e w'' he => ?_⟩
        cases e with
        | returned u => exact ⟨keep a hy u, by rw [← Act.put_comm a v u h2]; exact he⟩
        | panicked c => exact hQ _ _ _ he
        | outgrown => exact he
    | halt x w' =>
      cases x <;> simp only [Oper.uponIn] at h ⊢
      case panic u => exact hQ _ _ _ h
  · rename_i hw
    simp only [hw] at h
    exact ⟨fun f _ => hfn f, keep a hy _, by rw [← Act.put_comm a v undef h2]; exact h.2⟩
theorem anyR_first (hfn : ∀ f, F.fn f) (hnd : noDefer ops = true) {i : Nat} {oi : Oper} {v : Value} (hi : ops[i]? = some oi) (hsel : ∀ (j : Nat) (o : Oper) cs b, ops[j]? = some o → o.op ≠ .select cs b)
    (hQ : ∀ c a w, Q (.panic c) (a.put oi.dst v) w → Q (.panic c) a w) :
    ∀ (fuel : Nat) (listed : Array Bool) (a : Act) (w : World),
      (∀ j oj, ops[j]? = some oj → j ≠ i → listed.getD j true = false → (∀ e ∈ oj.after, Region.binds md e = true → e.on ≠ i) → oi.apart ops oj = true) →
      i ∈ Region.ready md ops listed → YieldsIf P ops S oi v a → S w →
      anyR F n P md ops Q S fuel (listed.setIfInBounds i true) (a.put oi.dst v) w → anyR F n P md ops Q S (fuel + 1) listed a w := by
  intro fuel
  induction fuel with
  | zero =>
    intro listed a w _ hr hy hS H
    refine ⟨fun h => (by rw [h] at hr; cases hr), fun j hj => ?_⟩
    by_cases hji : j = i
    · subst hji; exact yIf_opIn hfn hnd hi hy hS ⟨hS, H⟩
    · have := ready_mono hj hji
      rw [H.1] at this
      cases this
  | succ fuel ih =>
    intro listed a w hfree hr hy hS H
    refine ⟨fun h => (by rw [h] at hr; cases hr), fun j hj => ?_⟩
    by_cases hji : j = i
    · subst hji; exact yIf_opIn hfn hnd hi hy hS ⟨hS, H⟩
    · have h1 := H.2 j (ready_mono hj hji)
      obtain ⟨hjun, oj, hoj, hall⟩ := mem_ready.1 hj
      have hnot : ∀ e ∈ oj.after, Region.binds md e = true → e.on ≠ i := fun e he hb heq => by
        have h1 := hall e he hb
        have h0 := (mem_ready.1 hr).1
        rw [heq] at h1
        rcases Nat.lt_or_ge i listed.size with h' | h'
        · simp [h'] at h0 h1; rw [h0] at h1; cases h1
        · simp [Array.getElem?_eq_none h'] at h1
      have h2 := opIn_put hfn hnd hoj (hfree j oj hoj hji hjun hnot) (fun cs b => hsel i oi cs b hi) (fun cs b => hsel j oj cs b hoj) hQ hy h1
      have hfree' : ∀ k ok, ops[k]? = some ok → k ≠ i → (listed.setIfInBounds j true).getD k true = false →
          (∀ e ∈ ok.after, Region.binds md e = true → e.on ≠ i) → oi.apart ops ok = true := fun k ok hk hki hun hno => by
        refine hfree k ok hk hki ?_ hno
        by_cases hjk : j = k
        · subst hjk; exact hjun
        · rw [getD_set_ne true hjk] at hun; exact hun
      refine wpOpIn_mono (fun a' w' h3 => ⟨h3.2.1, ih (listed.setIfInBounds j true) a' w' hfree' (ready_mono hr (Ne.symm hji)) h3.1 h3.2.1 ?_⟩) h2
      rw [Array.setIfInBounds_comm _ _ hji]
      exact h3.2.2
/-- take number i first -/
theorem anyR_take {i : Nat} {oi : Oper} {v : Value} {fuel : Nat} {listed : Array Bool} {a : Act} {w : World} (hfn : ∀ f, F.fn f) (hi : ops[i]? = some oi)
    (hk : (noDefer ops && Region.noSelect ops && Region.free md ops listed i && (Region.ready md ops listed).contains i) = true)
    (hQ : ∀ c a w, Q (.panic c) (a.put oi.dst v) w → Q (.panic c) a w) (hy : YieldsIf P ops S oi v a) (hS : S w)
    (h : anyR F n P md ops Q S fuel (listed.setIfInBounds i true) (a.put oi.dst v) w) : anyR F n P md ops Q S (fuel + 1) listed a w := by
  simp only [Bool.and_eq_true] at hk
  exact anyR_first hfn hk.1.1.1 hi (Region.noSelect_spec hk.1.1.2) hQ fuel listed a w (Region.free_spec hi hk.1.2) (by simpa using hk.2) hy hS h
/-- number i alone may come up -/
theorem anyR_one {i : Nat} {oi : Oper} {fuel : Nat} {listed : Array Bool} {a : Act} {w : World} (hr : Region.ready md ops listed = [i]) (hi : ops[i]? = some oi) (hw : Region.wanted oi (yielded ops a.tmps) = true)
    (h : ∀ K : Act → World → Prop, (∀ a' w', S w' → anyR F n P md ops Q S fuel (listed.setIfInBounds i true) a' w' → K a' w') → Oper.wpIn F n P oi a w K Q) : anyR F n P md ops Q S (fuel + 1) listed a w := by
  refine ⟨fun h0 => (by rw [h0] at hr; cases hr), fun j hj => ?_⟩
  rw [hr] at hj
  obtain rfl : j = i := by simpa using hj
  unfold wpOpIn
  simp only [hi, hw, if_true]
  exact h _ (fun a' w' hs ha => ⟨hs, ha⟩)
theorem anyR_done {listed : Array Bool} {a : Act} {w : World} (hr : Region.ready md ops listed = []) (h : Q .normal a w) : ∀ fuel, anyR F n P md ops Q S fuel listed a w
  | 0 => ⟨hr, h⟩
  | _ + 1 => ⟨fun _ => h, by rw [hr]; simp⟩
theorem wpIn_region_R {id : Nat} {a : Act} {w : World} (S : World → Prop) (hm : P.follows .mixedOrders = true)
    (h : anyR F n P .any ops Q S ops.size (Array.replicate ops.size false) a w.drew) : (Code.region id ops true).wpIn F n P Q a w :=
  wpIn_region_any hm (anyIn_of_anyR _ _ _ _ h)
/-! ### from a walk outside of rounds to one within -/
theorem callsIn_of {l f : Nat} {args : Array Value} {w : World} {R : Ending → World → Prop} (h : Calls P f args w R) : CallsIn (Fence.wide.inRound l) n P f args w R :=
  CallsIn.inRound l (callsIn_wide.2 h)
end
end Go.Proofs.YtpbobhobhbbimaaGreat
namespace Go.Proofs.YtpbobhobhbbimaaGreat
open Go Go.RowKit
set_option linter.unusedVariables false
/-- W' is W but for the blocks in C and new ones -/
structure But (C : Nat → Prop) (W W' : World) : Prop where
  os : W'.os = W.os
  tape : W'.tape = W.tape
  output : W'.output = W.output
  size : W.heap.size ≤ W'.heap.size
  block : ∀ b, b < W.heap.size → ¬ C b → W'.heap[b]? = W.heap[b]?
theorem But.refl (C : Nat → Prop) (W : World) : But C W W := ⟨rfl, rfl, rfl, Nat.le_refl _, fun _ _ _ => rfl⟩
theorem But.trans {C : Nat → Prop} {X Y Z : World} (h : But C X Y) (k : But C Y Z) : But C X Z :=
  ⟨k.os.trans h.os, k.tape.trans h.tape, k.output.trans h.output, Nat.le_trans h.size k.size, fun b hb hc => (k.block b (Nat.lt_of_lt_of_le hb h.size) hc).trans (h.block b hb hc)⟩
theorem But.mono {C D : Nat → Prop} {X Y : World} (h : But C X Y) (hcd : ∀ b, b < X.heap.size → C b → D b) : But D X Y :=
  ⟨h.os, h.tape, h.output, h.size, fun b hb hd => h.block b hb (fun hc => hd (hcd b hb hc))⟩
/-- what was owned then, or is new since then -/
theorem But.trans' {C D : Nat → Prop} {X Y Z : World} (h : But C X Y) (k : But D Y Z) (hcd : ∀ b, D b → C b ∨ X.heap.size ≤ b) : But C X Z :=
  ⟨k.os.trans h.os, k.tape.trans h.tape, k.output.trans h.output, Nat.le_trans h.size k.size, fun b hb hc => (k.block b (Nat.lt_of_lt_of_le hb h.size) (fun hd => by rcases hcd b hd with h' | h'; exact hc h'; omega)).trans (h.block b hb hc)⟩
theorem But.below {B : Nat} {C : Nat → Prop} {X Y : World} (h : But C X Y) (hc : ∀ b, C b → B ≤ b) : X.heap.size < B ∨ B ≤ X.heap.size → B ≤ X.heap.size → Below B X Y := fun _ hB =>
  ⟨h.os, h.tape, h.output, h.size, fun b hb => h.block b (Nat.lt_of_lt_of_le hb hB) (fun h' => by have := hc b h'; omega)⟩
theorem but_below {B : Nat} {C : Nat → Prop} {X Y : World} (h : Below B X Y) (hB : X.heap.size ≤ B) : But C X Y :=
  ⟨h.os, h.tape, h.output, h.size, fun b hb _ => h.block b (Nat.lt_of_lt_of_le hb hB)⟩
theorem But.set_ {C : Nat → Prop} {X Y : World} (h : But C X Y) {p : Addr} (hp : C p.block) (u : Value) : But C X (Y.setCell p u) :=
  ⟨h.os, h.tape, h.output, by simpa [World.setCell] using h.size, fun b hb hc => (Below.heap_setCell Y p u b (fun e => hc (e ▸ hp))).trans (h.block b hb hc)⟩
theorem But.drew {C : Nat → Prop} {X Y : World} (h : But C X Y) : But C X Y.drew := ⟨h.os, h.tape, h.output, h.size, h.block⟩
theorem But.drewN {C : Nat → Prop} {X Y : World} (h : But C X Y) (k : Nat) : But C X (Y.drewN k) := ⟨h.os, h.tape, h.output, h.size, h.block⟩
theorem But.alloc {C : Nat → Prop} {X Y : World} (h : But C X Y) (o : Obj) : But C X (Y.alloc o) :=
  ⟨h.os, h.tape, h.output, by have := h.size; simp; omega, fun b hb hc => (Below.heap_alloc Y o b (Nat.lt_of_lt_of_le hb h.size)).trans (h.block b hb hc)⟩
theorem but_putObj (W : World) (l : Nat) (o : Obj) : But (fun b => b = l) W (W.putObj l o) := ⟨rfl, rfl, rfl, by simp, fun b _ hb => World.putObj_heap_other hb⟩
theorem Bx.but {C : Nat → Prop} {X Y : World} {b : Nat} {vs : Array Value} (h : Bx X b vs) (hb : But C X Y) (hc : ¬ C b) : Bx Y b vs := by
  have e := hb.block b h.lt hc
  refine ⟨Nat.lt_of_lt_of_le h.lt hb.size, fun i v hi => ?_, fun i => ?_⟩
  · rw [World.cell?_of_block (w := X) (a := ⟨b, i, none⟩) e]; exact h.cells i v hi
  · rw [World.frozen?_of_block (w := X) (a := ⟨b, i, none⟩) e]; exact h.free i
/-- J hangs on the blocks in C and on those below n₀ alone -/
def Stab {β : Type} (n₀ : Nat) (J : β → (Nat → Prop) → World → Prop) : Prop := ∀ s C A B, J s C A → But (fun b => n₀ ≤ b ∧ ¬ C b) A B → J s C B
/-- C' is C and what is new since X -/
def Grw (C C' : Nat → Prop) (X : World) : Prop := ∀ b, C' b → C b ∨ X.heap.size ≤ b
theorem Grw.refl (C : Nat → Prop) (X : World) : Grw C C X := fun _ h => .inl h
/-- a round's answer -/
def Ans {α : Type} (J Jx : List α → (Nat → Prop) → World → Prop) (pre : List α) (C : Nat → Prop) (X : World) (e : Ending) (X' : World) : Prop :=
  ∃ C', But C X X' ∧ Grw C C' X ∧ ((e = .returned (.bool true) ∧ J pre C' X') ∨ (e = .returned (.bool false) ∧ Jx pre C' X'))
/-- the function g with lb calls yield with the elements of L, one by one, till a round says no more; all that it reads lies in w₀ -/
def Iter {α : Type} (P : Program) (g : Nat) (lb : Array Value) (enc : α → Array Value) (L : List α) (w₀ : World) : Prop :=
  ∀ (l : Nat) (J Jx : List α → (Nat → Prop) → World → Prop) (C₀ : Nat → Prop) (W : World),
    Below w₀.heap.size w₀ W → (∀ pre C X, J pre C X → ∀ b, C b → w₀.heap.size ≤ b ∧ b < X.heap.size) → Stab w₀.heap.size J → Stab w₀.heap.size Jx →
    (∀ pre x C X, J pre C X → Below w₀.heap.size w₀ X → pre ++ [x] <+: L → YieldAt Fence.wide 0 P l (enc x) X (Ans J Jx (pre ++ [x]) C X)) →
    J [] C₀ W →
    Calls P g (#[.func (.yield l) #[] #[]] ++ lb) W fun e X => (∃ v, e = .returned v) ∧ ∃ C', But C₀ W X ∧ Grw C₀ C' W ∧ (J L C' X ∨ ∃ pre, pre <+: L ∧ Jx pre C' X)
/-! ### the law of the loop -/
/-- how a round's body may be left -/
def rdPost {α : Type} (I : List α → (Nat → Prop) → World → Prop) (Ix : Code → List α → (Nat → Prop) → World → Prop) (pre : List α) (C : Nat → Prop) (X : World) : Exit → Act → World → Prop
  | .normal, _, X' => ∃ C', But C X X' ∧ Grw C C' X ∧ I pre C' X'
  | .ret, _, X' => ∃ C', But C X X' ∧ Grw C C' X ∧ Ix .ret pre C' X'
  | .exit id, _, X' => ∃ C', But C X X' ∧ Grw C C' X ∧ Ix (.exit id) pre C' X'
  | .goto t, _, X' => ∃ C', But C X X' ∧ Grw C C' X ∧ Ix (.goto t) pre C' X'
  | .panic _, _, _ => False
  | .outgrown, _, _ => False
/-- what a round is to do: the assignment to the loop's variables, then the body -/
def Round {α : Type} (P : Program) (assign body : Code) (l : Nat) (I : List α → (Nat → Prop) → World → Prop) (Ix : Code → List α → (Nat → Prop) → World → Prop) (pre : List α) (C : Nat → Prop) (t : Array Value) (X : World) : Prop :=
  assign.wpIn (Fence.wide.inRound l) 0 P (Exit.then (fun a₁ X₁ => Below X.heap.size X X₁ ∧ ∀ X₂, But (fun b => b = l) X₁ X₂ → X₂.heap.size = X₁.heap.size → (∃ r, X₂.heap[l]? = some (.loop r)) →
    body.wpIn (Fence.wide.inRound l) 0 P (rdPost I Ix pre C X₂) a₁ X₂) (fun _ _ _ => False)) { tmps := t, defers := [] } X
section
variable {α : Type} {P : Program} {g : Operand} {ps : Array Tmp} {assign body : Code} {a : Act} {gf : Nat} {lb : Array Value} {enc : α → Array Value} {L : List α} {w₀ : World}
/-- the loop's own word: the user's, and that its record is as it should be -/
def LoopW (I : List α → (Nat → Prop) → World → Prop) (C₀ : Nat → Prop) (w : World) (Z : Nat → Prop) (E : World → Prop) (pre : List α) (C : Nat → Prop) (X : World) : Prop :=
  ∃ D, C = (fun b => D b ∨ Z b) ∧ I pre D X ∧ Grw C₀ D w ∧ w.heap.size ≤ X.heap.size ∧ E X
theorem loopW_stab {I : List α → (Nat → Prop) → World → Prop} {C₀ : Nat → Prop} {w : World} {Z : Nat → Prop} {E : World → Prop} {n₀ : Nat} (hI : Stab n₀ I) (hE : ∀ A B, E A → But (fun b => ¬ Z b) A B → E B) : Stab n₀ (LoopW I C₀ w Z E) := by
  rintro pre C A B ⟨D, rfl, hi, hg, hz, he⟩ hbut
  exact ⟨D, rfl, hI pre D A B hi (hbut.mono fun b _ h' => ⟨h'.1, fun h2 => h'.2 (.inl h2)⟩), hg, Nat.le_trans hz hbut.size, hE A B he (hbut.mono fun b _ h' => fun h2 => h'.2 (.inr h2))⟩
theorem round_of {l : Nat} {fn : FuncId} {rec : LoopState → Option Code → Loop} {d : Nat} {tm tm' : Array Value} (hrec : rec = fun st pe => { state := st, pending := pe, fn, tmps := tm, params := ps, assign, body, defers := d })
    {I : List α → (Nat → Prop) → World → Prop} {Ix : Code → List α → (Nat → Prop) → World → Prop} {n₀ : Nat} (hI : Stab n₀ I) (hIx : ∀ c, Stab n₀ (Ix c)) {C₀ Z : Nat → Prop} {W1 : World} {Ed : World → Prop}
    (hZ : Z l) (hZn : ∀ b, Z b → n₀ ≤ b ∧ b < W1.heap.size) (hEd : ∀ A B, Ed A → But (fun b => b = l) A B → Ed B) (hEd' : ∀ C A B, Ed A → But C A B → (∀ b, Z b → ¬ C b) → W1.heap.size ≤ A.heap.size → Ed B)
    {pre : List α} {D : Nat → Prop} {X : World} (hi : I pre D X) (hDZ : ∀ b, Z b → ¬ D b) (hg : Grw C₀ D W1) (hz : W1.heap.size ≤ X.heap.size) (hl : X.heap[l]? = some (.loop (rec .ready none))) (hd : Ed X)
    {q : List α} (hr : Round P assign body l I Ix q D tm' X) :
    RoundIn Fence.wide 0 P l fn tm' assign body X (Ans (LoopW I C₀ W1 Z (fun X => X.heap[l]? = some (.loop (rec .ready none)) ∧ Ed X)) (fun pre C X => ∃ c, LoopW (Ix c) C₀ W1 Z (fun X => X.heap[l]? = some (.loop (rec .done (some c))) ∧ Ed X) pre C X) q (fun b => D b ∨ Z b) X) := by
  refine roundIn_of_wpIn trivial (wpIn_mono hr ?_)
  rintro e a₁ X₁ hp
  cases e with
  | normal =>
    obtain ⟨hb1, hbody⟩ := hp
    have hlX := (Array.getElem?_eq_some_iff.1 hl).1
    have hl1 : X₁.heap[l]? = some (.loop (rec .ready none)) := (hb1.block l hlX).trans hl
    have hl1lt := (Array.getElem?_eq_some_iff.1 hl1).1
    refine ⟨_, run_beginRound hl1 (by rw [hrec]), ?_⟩
    have hl2 : (X₁.putObj l (.loop { rec .ready none with state := .busy })).heap[l]? = some (.loop { rec .ready none with state := .busy }) := World.putObj_heap_same hl1lt
    have hb2 := but_putObj X₁ l (.loop { rec .ready none with state := .busy })
    have hd1 : Ed X₁ := hEd' (fun _ => False) X X₁ hd (but_below hb1 (Nat.le_refl _)) (fun _ _ h => h) hz
    have hd2 := hEd _ _ hd1 hb2
    have hs1 := hb1.size
    refine wpIn_mono (hbody _ hb2 (by simp) ⟨_, hl2⟩) ?_
    have fin : ∀ (jump : Option Code) (X3 : World) (D' : Nat → Prop), But D (X₁.putObj l (.loop { rec .ready none with state := .busy })) X3 → Grw D D' (X₁.putObj l (.loop { rec .ready none with state := .busy })) →
        ∃ X4, (Instr.endRound l jump).run P X3 = .ok (.bool jump.isNone) X4 ∧ But (fun b => b = l) X3 X4 ∧ X4.heap[l]? = some (.loop (rec (if jump.isNone then .ready else .done) jump)) ∧ Ed X4 ∧
          But (fun b => D b ∨ Z b) X X4 ∧ Grw (fun b => D b ∨ Z b) (fun b => D' b ∨ Z b) X ∧ Grw C₀ D' W1 ∧ W1.heap.size ≤ X4.heap.size ∧ (∀ b, Z b → ¬ D' b) := fun jump X3 D' hbut hgr => by
      have hl3 : X3.heap[l]? = some (.loop { rec .ready none with state := .busy }) := (hbut.block l (by simpa using hl1lt) (hDZ l hZ)).trans hl2
      have hrun := run_endRound (P := P) jump hl3
      have hb4 := but_putObj X3 l (.loop { (rec .ready none : Loop) with state := if jump.isNone then .ready else .done, pending := jump })
      have hsz : X₁.heap.size ≤ X3.heap.size := by have := hbut.size; simpa using this
      refine ⟨_, hrun, hb4, ?_, ?_, ?_, ?_, ?_, ?_, ?_⟩
      · rw [World.putObj_heap_same (Array.getElem?_eq_some_iff.1 hl3).1, hrec]
      · exact hEd _ _ (hEd' D _ _ hd2 hbut hDZ (by simp; omega)) hb4
      · exact (((but_below hb1 (Nat.le_refl _)).trans (hb2.mono (fun b _ e => .inr (e ▸ hZ)))).trans (hbut.mono (fun b _ h => .inl h))).trans (hb4.mono (fun b _ e => .inr (e ▸ hZ)))
      · intro b h
        rcases h with h | h
        · rcases hgr b h with h2 | h2
          · exact .inl (.inl h2)
          · simp at h2; exact .inr (by omega)
        · exact .inl (.inr h)
      · intro b h
        rcases hgr b h with h2 | h2
        · exact hg b h2
        · simp at h2; exact .inr (by omega)
      · simp; omega
      · intro b hb h
        rcases hgr b h with h2 | h2
        · exact hDZ b hb h2
        · have := (hZn b hb).2; simp at h2; omega
    have stab : ∀ (J : List α → (Nat → Prop) → World → Prop), Stab n₀ J → ∀ X3 X4 D' q, But (fun b => b = l) X3 X4 → J q D' X3 → (∀ b, Z b → ¬ D' b) → J q D' X4 := fun J hJ X3 X4 D' q hb hj hdz =>
      hJ q D' X3 X4 hj (hb.mono fun b _ e => ⟨by rw [e]; exact (hZn l hZ).1, fun h => hdz b (e ▸ hZ) h⟩)
    rintro e a3 X3 hp3
    cases e with
    | normal =>
      obtain ⟨D', hbut, hgr, hi3⟩ := hp3
      obtain ⟨X4, hrun, hb4, hl4, hd4, h1, h2, h3, h4, h5⟩ := fin none X3 D' hbut hgr
      exact ⟨_, _, hrun, _, h1, h2, .inl ⟨rfl, D', rfl, stab I hI _ _ _ _ hb4 hi3 h5, h3, h4, hl4, hd4⟩⟩
    | ret =>
      obtain ⟨D', hbut, hgr, hi3⟩ := hp3
      obtain ⟨X4, hrun, hb4, hl4, hd4, h1, h2, h3, h4, h5⟩ := fin (some .ret) X3 D' hbut hgr
      exact ⟨_, _, hrun, _, h1, h2, .inr ⟨rfl, .ret, D', rfl, stab _ (hIx _) _ _ _ _ hb4 hi3 h5, h3, h4, hl4, hd4⟩⟩
    | exit id =>
      obtain ⟨D', hbut, hgr, hi3⟩ := hp3
      obtain ⟨X4, hrun, hb4, hl4, hd4, h1, h2, h3, h4, h5⟩ := fin (some (.exit id)) X3 D' hbut hgr
      exact ⟨_, _, hrun, _, h1, h2, .inr ⟨rfl, .exit id, D', rfl, stab _ (hIx _) _ _ _ _ hb4 hi3 h5, h3, h4, hl4, hd4⟩⟩
    | goto t =>
      obtain ⟨D', hbut, hgr, hi3⟩ := hp3
      obtain ⟨X4, hrun, hb4, hl4, hd4, h1, h2, h3, h4, h5⟩ := fin (some (.goto t)) X3 D' hbut hgr
      exact ⟨_, _, hrun, _, h1, h2, .inr ⟨rfl, .goto t, D', rfl, stab _ (hIx _) _ _ _ _ hb4 hi3 h5, h3, h4, hl4, hd4⟩⟩
    | panic ch => exact hp3.elim
    | outgrown => exact hp3.elim
  | exit id => exact hp.elim
  | goto t => exact hp.elim
  | ret => exact hp.elim
  | panic ch => exact hp.elim
  | outgrown => exact hp.elim
end
end Go.Proofs.YtpbobhobhbbimaaGreat
namespace Go.Proofs.YtpbobhobhbbimaaGreat
open Go Go.RowKit
set_option linter.unusedVariables false
/-- as Iter; what the iterator reads beside w₀ is told by Rd, which the caller's word gives -/
def IterR {α : Type} (P : Program) (g : Nat) (lb : Array Value) (enc : α → Array Value) (L : List α) (w₀ : World) (Rd : World → Prop) : Prop :=
  ∀ (l : Nat) (J Jx : List α → (Nat → Prop) → World → Prop) (C₀ : Nat → Prop) (W : World), (∀ pre C X, J pre C X → Rd X) →
    Below w₀.heap.size w₀ W → (∀ pre C X, J pre C X → ∀ b, C b → w₀.heap.size ≤ b ∧ b < X.heap.size) → Stab w₀.heap.size J → Stab w₀.heap.size Jx →
    (∀ pre x C X, J pre C X → Below w₀.heap.size w₀ X → pre ++ [x] <+: L → YieldAt Fence.wide 0 P l (enc x) X (Ans J Jx (pre ++ [x]) C X)) →
    J [] C₀ W →
    Calls P g (#[.func (.yield l) #[] #[]] ++ lb) W fun e X => (∃ v, e = .returned v) ∧ ∃ C', But C₀ W X ∧ Grw C₀ C' W ∧ (J L C' X ∨ ∃ pre, pre <+: L ∧ Jx pre C' X)
section
variable {α : Type} {P : Program} {g : Operand} {ps : Array Tmp} {assign body : Code} {a : Act} {gf : Nat} {lb : Array Value} {enc : α → Array Value} {L : List α} {w₀ : World}
/-- THE LOOP over an iterator, outside of rounds -/
theorem wp_rangeR {Rd : World → Prop} {Q : Exit → Act → World → Prop} {w : World} (hg : a.eval g = .func (.func gf) #[] lb) (eg : ∀ args w, (callFunc gf args).run P w = .ok (.enter gf args) w) (hit : IterR P gf lb enc L w₀ Rd) (hb0 : Below w₀.heap.size w₀ w) (hps : ∀ x, (enc x).size = ps.size)
    (I : List α → (Nat → Prop) → World → Prop) (Ix : Code → List α → (Nat → Prop) → World → Prop) (C₀ : Nat → Prop) (hRd : ∀ pre C X, I pre C X → Rd X) (hC : ∀ pre C X, I pre C X → ∀ b, C b → w₀.heap.size ≤ b ∧ b < X.heap.size) (hI : Stab w₀.heap.size I) (hIx : ∀ c, Stab w₀.heap.size (Ix c)) (h0 : I [] C₀ w)
    (hround : ∀ l pre x C X, w.heap.size ≤ l → l < X.heap.size → ¬ C l → (∃ r, X.heap[l]? = some (.loop r)) → I pre C X → Below w₀.heap.size w₀ X → Grw C₀ C w → pre ++ [x] <+: L →
      Round P assign body l I Ix (pre ++ [x]) C ((ps.zip (enc x)).foldl (fun t (p, v) => t.setIfInBounds p v) a.tmps) X)
    (hdone : ∀ D C X, w.heap.size ≤ D → ¬ C D → I L C X → But C₀ w X → Grw C₀ C w → X.heap[D]? = some (.deferred (some [])) → Q .normal { a with defers := { target := .collected D, args := #[] } :: a.defers } X)
    (hstop : ∀ D c pre C X, w.heap.size ≤ D → ¬ C D → pre <+: L → Ix c pre C X → But C₀ w X → Grw C₀ C w → X.heap[D]? = some (.deferred (some [])) → c.wpIn Fence.wide 0 P Q { a with defers := { target := .collected D, args := #[] } :: a.defers } X) :
    (Code.rangeFunc g ps assign body).wpIn Fence.wide 0 P Q a w := by
  refine wpIn_rangeFunc ?_
  intro fn _
  obtain ⟨rec, hrec⟩ : ∃ rec : LoopState → Option Code → Loop, rec = fun st pe => { state := st, pending := pe, fn, tmps := a.tmps, params := ps, assign, body, defers := w.heap.size } := ⟨_, rfl⟩
  obtain ⟨W1, hW1⟩ : ∃ W1, (w.alloc (.deferred (some []))).alloc (.loop (rec .ready none)) = W1 := ⟨_, rfl⟩
  have hs1 : W1.heap.size = w.heap.size + 1 + 1 := by rw [← hW1]; simp
  have hL1 : W1.heap[w.heap.size + 1]? = some (.loop (rec .ready none)) := by
    rw [← hW1]; have := World.alloc_heap_new (w.alloc (.deferred (some []))) (.loop (rec .ready none)); rwa [World.size_alloc] at this
  have hK1 : W1.heap[w.heap.size]? = some (.deferred (some [])) := by
    rw [← hW1]; exact (Below.heap_alloc _ _ _ (by simp)).trans (World.alloc_heap_new w _)
  have hw1 : Below w.heap.size w W1 := by rw [← hW1]; exact ((Below.refl _ w).alloc (Nat.le_refl _) _).alloc (by simp) _
  have hb1 : Below w₀.heap.size w₀ W1 := hb0.trans (hw1.mono hb0.size)
  have hI1 : I [] C₀ W1 := hI [] C₀ w W1 h0 (but_below hw1 (Nat.le_refl _))
  have hC0 := hC [] C₀ w h0
  have hbs := hb0.size
  obtain ⟨Z, hZ⟩ : ∃ Z : Nat → Prop, Z = fun b => b = w.heap.size ∨ b = w.heap.size + 1 := ⟨_, rfl⟩
  obtain ⟨Ed, hEd⟩ : ∃ Ed : World → Prop, Ed = fun X => X.heap[w.heap.size]? = some (.deferred (some [])) := ⟨_, rfl⟩
  have edl : ∀ A B, Ed A → But (fun b => b = w.heap.size + 1) A B → Ed B := by
    rw [hEd]; intro A B h hb; exact (hb.block _ (Array.getElem?_eq_some_iff.1 h).1 (by simp)).trans h
  have edc : ∀ C A B, Ed A → But C A B → (∀ b, Z b → ¬ C b) → W1.heap.size ≤ A.heap.size → Ed B := by
    rw [hEd]; intro C A B h hb hn _; exact (hb.block _ (Array.getElem?_eq_some_iff.1 h).1 (hn _ (by rw [hZ]; exact .inl rfl))).trans h
  have edz : ∀ (st : Option Code → Loop) (c : Option Code) A B, (A.heap[w.heap.size + 1]? = some (.loop (st c)) ∧ Ed A) → But (fun b => ¬ Z b) A B → (B.heap[w.heap.size + 1]? = some (.loop (st c)) ∧ Ed B) := by
    rw [hEd]; intro st c A B h hb
    exact ⟨(hb.block _ (Array.getElem?_eq_some_iff.1 h.1).1 (fun hn => hn (by rw [hZ]; exact .inr rfl))).trans h.1, (hb.block _ (Array.getElem?_eq_some_iff.1 h.2).1 (fun hn => hn (by rw [hZ]; exact .inl rfl))).trans h.2⟩
  have dz : ∀ D : Nat → Prop, Grw C₀ D W1 → ∀ b, Z b → ¬ D b := by
    rw [hZ]; intro D hg b hb h
    rcases hg b h with h2 | h2
    · have := (hC0 b h2).2; omega
    · omega
  refine ⟨w.heap.size + 1, [{ target := .collected w.heap.size, args := #[] }], W1, { target := .fn (.func gf) lb, args := #[.func (.yield (w.heap.size + 1)) #[] #[]] }, W1, gf,
    #[.func (.yield (w.heap.size + 1)) #[] #[]] ++ lb, W1, ?_, ?_, ?_, ?_, fun h => (by cases h), ?_⟩
  · rw [← hW1, hrec]; exact run_enterLoop_outer _ _ _ _ _
  · simp only [resolve, hg]
    simp [go_sem]
  · intro f' _; trivial
  · simp [invoke, go_sem, eg]
  refine callsIn_wide.2 ((hit (w.heap.size + 1) (LoopW I C₀ W1 Z (fun X => X.heap[w.heap.size + 1]? = some (.loop (rec .ready none)) ∧ Ed X)) (fun pre C X => ∃ c, LoopW (Ix c) C₀ W1 Z (fun X => X.heap[w.heap.size + 1]? = some (.loop (rec .done (some c))) ∧ Ed X) pre C X)
    (fun b => C₀ b ∨ Z b) W1 (fun pre C X h => by obtain ⟨D, _, hi, _⟩ := h; exact hRd _ _ _ hi) hb1 ?_ (loopW_stab hI (fun A B => edz (rec .ready) none A B)) ?_ ?_ ⟨C₀, rfl, hI1, Grw.refl _ _, Nat.le_refl _, hL1, by rw [hEd]; exact hK1⟩).mono ?_)
  · rintro pre C X ⟨D, rfl, hi, hg, hz, he⟩ b (hb | hb)
    · exact hC pre D X hi b hb
    · rw [hZ] at hb; omega
  · rintro pre C A B ⟨c, h⟩ hbut
    exact ⟨c, loopW_stab (hIx c) (fun A B => edz (rec .done) (some c) A B) pre C A B h hbut⟩
  · rintro pre x C X ⟨D, rfl, hi, hg, hz, hl, hd⟩ hX hpre
    have hy := run_yield (P := P) (args := enc x) hl (by rw [hrec]; exact hps x)
    refine ⟨fn, (ps.zip (enc x)).foldl (fun t (p, v) => t.setIfInBounds p v) a.tmps, assign, body, by rw [hy, hrec], ?_⟩
    have hgw : Grw C₀ D w := fun b h => (hg b h).imp id (fun h2 => by omega)
    exact round_of hrec hI hIx (by rw [hZ]; exact .inr rfl) (by rw [hZ]; intro b hb; omega) edl edc hi (dz D hg) hg hz hl hd
      (hround _ pre x D X (by omega) (Array.getElem?_eq_some_iff.1 hl).1 (dz D hg _ (by rw [hZ]; exact .inr rfl)) ⟨_, hl⟩ hi hX hgw hpre)
  · rintro e X ⟨⟨v, rfl⟩, C', hbut, _, hor⟩
    have key : ∀ X', But (fun b => b = w.heap.size + 1) X X' → But C₀ w X' := fun X' hb' => by
      refine (But.trans (but_below hw1 (Nat.le_refl _)) ((hbut.trans' hb' (fun b e => .inl (by rw [hZ]; exact .inr (.inr e)))).mono (D := fun b => C₀ b ∨ w.heap.size ≤ b) ?_) |> fun h => (⟨h.os, h.tape, h.output, h.size, fun b hb hc => h.block b hb (fun h2 => h2.elim hc (fun h3 => by omega))⟩ : But C₀ w X'))
      rw [hZ]; intro b _ hb
      rcases hb with hb | hb
      · exact .inl hb
      · exact .inr (by omega)
    rcases hor with ⟨D, _, hi, hg, hz, hl, hd⟩ | ⟨pre, hpre, c, D, _, hi, hg, hz, hl, hd⟩
    · have hend := run_endLoop (P := P) hl (by rw [hrec]; simp)
      have hb' := but_putObj X (w.heap.size + 1) (.loop { (rec .ready none : Loop) with state := .exhausted })
      have hpe : (rec .ready none).pending = none := by rw [hrec]
      refine ⟨none, _, hend.trans (congrArg (fun c => Result.ok c _) hpe), ?_⟩
      refine hdone w.heap.size D _ (Nat.le_refl _) (dz D hg _ (by rw [hZ]; exact .inl rfl)) (hI _ _ _ _ hi (hb'.mono fun b _ e => ⟨by omega, fun h => dz D hg b (by rw [hZ]; exact .inr e) h⟩)) (key _ hb') (fun b h => (hg b h).imp id (fun h2 => by omega)) ?_
      have := edl _ _ hd hb'
      rw [hEd] at this
      exact this
    · have hend := run_endLoop (P := P) hl (by rw [hrec]; simp)
      have hb' := but_putObj X (w.heap.size + 1) (.loop { (rec .done (some c) : Loop) with state := .exhausted })
      have hpe : (rec .done (some c)).pending = some c := by rw [hrec]
      refine ⟨some c, _, hend.trans (congrArg (fun c => Result.ok c _) hpe), ?_⟩
      refine hstop w.heap.size c pre D _ (Nat.le_refl _) (dz D hg _ (by rw [hZ]; exact .inl rfl)) hpre (hIx c _ _ _ _ hi (hb'.mono fun b _ e => ⟨by omega, fun h => dz D hg b (by rw [hZ]; exact .inr e) h⟩)) (key _ hb') (fun b h => (hg b h).imp id (fun h2 => by omega)) ?_
      have := edl _ _ hd hb'
      rw [hEd] at this
      exact this
end
end Go.Proofs.YtpbobhobhbbimaaGreat
/- A region that draws its order: what only reads is taken first, under a word S on the world; S need not outlast the last operations (number T on), each of which waits for all before them. A region that draws its order: two operations may come up. -/
namespace Go.Proofs.YtpbobhobhbbimaaGreat
open Go Go.RowKit
set_option linter.unusedVariables false
section
variable {P : Program} {ops : Array Oper} {Q : Exit → Act → World → Prop} {md : Region.Mode} {S : World → Prop} {T : Nat}
/-- the operations from number T on wait for number i -/
def tailB (md : Region.Mode) (ops : Array Oper) (T i : Nat) : Bool :=
  (List.range ops.size).all fun t => decide (t < T) || ((ops[t]?).map fun o => o.after.any fun e => Region.binds md e && e.on == i).getD false
theorem tailB_spec {i : Nat} (h : tailB md ops T i = true) {t : Nat} {o : Oper} (ho : ops[t]? = some o) (ht : T ≤ t) : ∃ e ∈ o.after, Region.binds md e = true ∧ e.on = i := by
  have hlt : t < ops.size := (Array.getElem?_eq_some_iff.1 ho).1
  have h1 := (List.all_eq_true.1 h) t (by simpa using hlt)
  rw [Bool.or_eq_true] at h1
  rcases h1 with h1 | h1
  · have := of_decide_eq_true h1; omega
  · rw [ho] at h1
    simp only [Option.map_some, Option.getD_some] at h1
    obtain ⟨k, hk, h3⟩ := Array.any_eq_true.1 h1
    rw [Bool.and_eq_true] at h3
    exact ⟨o.after[k], Array.getElem_mem _, h3.1, by simpa using h3.2⟩
def anyS (P : Program) (md : Region.Mode) (ops : Array Oper) (Q : Exit → Act → World → Prop) (S : World → Prop) (T : Nat) : Nat → Array Bool → Act → World → Prop
  | 0, listed, a, w => Region.ready md ops listed = [] ∧ Q .normal a w
  | fuel + 1, listed, a, w =>
    (Region.ready md ops listed = [] → Q .normal a w) ∧
    ∀ i ∈ Region.ready md ops listed, wpOp P ops Q i (fun a' w' => (i < T → S w → S w') ∧ anyS P md ops Q S T fuel (listed.setIfInBounds i true) a' w') a w
theorem any_of_S : ∀ (fuel : Nat) (listed : Array Bool) (a : Act) (w : World), anyS P md ops Q S T fuel listed a w → wpAny P md ops Q fuel listed a w
  | 0, _, _, _, h => h
  | fuel + 1, _, _, _, h => ⟨h.1, fun i hi => wpOp_mono (fun a' w' h' => any_of_S fuel _ a' w' h'.2) (h.2 i hi)⟩
theorem anyS_first {S' : World → Prop} {i : Nat} {oi : Oper} {v : Value} (hT : ∀ j oj, ops[j]? = some oj → (∀ e ∈ oj.after, Region.binds md e = true → e.on ≠ i) → j < T ∨ ∀ w, S' w) (hp : ∀ w w', (S w → S w') → S' w → S' w') (hi : ops[i]? = some oi) (hsel : ∀ (j : Nat) (o : Oper) cs b, ops[j]? = some o → o.op ≠ .select cs b)
    (hQ : ∀ c a w, Q (.panic c) (a.put oi.dst v) w → Q (.panic c) a w) :
    ∀ (fuel : Nat) (listed : Array Bool) (a : Act) (w : World),
      (∀ j oj, ops[j]? = some oj → j ≠ i → listed.getD j true = false → (∀ e ∈ oj.after, Region.binds md e = true → e.on ≠ i) → oi.apart ops oj = true) →
      i ∈ Region.ready md ops listed → YieldsIf P ops S' oi v a → S' w →
      anyS P md ops Q S T fuel (listed.setIfInBounds i true) (a.put oi.dst v) w → anyS P md ops Q S T (fuel + 1) listed a w := by
  intro fuel
  induction fuel with
  | zero =>
    intro listed a w _ hr hy hS H
    refine ⟨fun h => (by rw [h] at hr; cases hr), fun j hj => ?_⟩
    by_cases hji : j = i
    · subst hji; exact hy.wpOp hi hS ⟨fun _ h => h, H⟩
    · have := ready_mono hj hji
      rw [H.1] at this
      cases this
  | succ fuel ih =>
    intro listed a w hfree hr hy hS H
    refine ⟨fun h => (by rw [h] at hr; cases hr), fun j hj => ?_⟩
    by_cases hji : j = i
    · subst hji; exact hy.wpOp hi hS ⟨fun _ h => h, H⟩
    · have h1 := H.2 j (ready_mono hj hji)
      obtain ⟨hjun, oj, hoj, hall⟩ := mem_ready.1 hj
      have hnot : ∀ e ∈ oj.after, Region.binds md e = true → e.on ≠ i := fun e he hb heq => by
        have h1 := hall e he hb
        have h0 := (mem_ready.1 hr).1
        rw [heq] at h1
        rcases Nat.lt_or_ge i listed.size with h' | h'
        · simp [h'] at h0 h1; rw [h0] at h1; cases h1
        · simp [Array.getElem?_eq_none h'] at h1
      have h2 := wpOp_putIf hoj (hfree j oj hoj hji hjun hnot) (fun cs b => hsel i oi cs b hi) (fun cs b => hsel j oj cs b hoj) hQ hy h1
      have hfree' : ∀ k ok, ops[k]? = some ok → k ≠ i → (listed.setIfInBounds j true).getD k true = false →
          (∀ e ∈ ok.after, Region.binds md e = true → e.on ≠ i) → oi.apart ops ok = true := fun k ok hk hki hun hno => by
        refine hfree k ok hk hki ?_ hno
        by_cases hjk : j = k
        · subst hjk; exact hjun
        · rw [getD_set_ne true hjk] at hun; exact hun
      refine wpOp_mono (fun a' w' h3 => ⟨h3.2.1, ih (listed.setIfInBounds j true) a' w' hfree' (ready_mono hr (Ne.symm hji)) h3.1 (by rcases hT j oj hoj hnot with h' | h'; exact hp w w' (h3.2.1 h') hS; exact h' w') ?_⟩) h2
      rw [Array.setIfInBounds_comm _ _ hji]
      exact h3.2.2
/-- take number i first -/
theorem anyS_take {i : Nat} {oi : Oper} {v : Value} {fuel : Nat} {listed : Array Bool} {a : Act} {w : World} (hi : ops[i]? = some oi)
    (hk : (tailB md ops T i && Region.noSelect ops && Region.free md ops listed i && (Region.ready md ops listed).contains i) = true)
    (hQ : ∀ c a w, Q (.panic c) (a.put oi.dst v) w → Q (.panic c) a w) (hy : YieldsIf P ops S oi v a) (hS : S w)
    (h : anyS P md ops Q S T fuel (listed.setIfInBounds i true) (a.put oi.dst v) w) : anyS P md ops Q S T (fuel + 1) listed a w := by
  simp only [Bool.and_eq_true] at hk
  refine anyS_first (S' := S) (fun j oj hj hn => ?_) (fun _ _ h hs => h hs) hi (Region.noSelect_spec hk.1.1.2) hQ fuel listed a w (Region.free_spec hi hk.1.2) (by simpa using hk.2) hy hS h
  rcases Nat.lt_or_ge j T with h' | h'
  · exact .inl h'
  · obtain ⟨e, he, hb, ho⟩ := tailB_spec hk.1.1.1 hj h'
    exact absurd ho (hn e he hb)
/-- take number i first, which asks nothing of the world -/
theorem anyS_pure {i : Nat} {oi : Oper} {v : Value} {fuel : Nat} {listed : Array Bool} {a : Act} {w : World} (hi : ops[i]? = some oi)
    (hk : (Region.noSelect ops && Region.free md ops listed i && (Region.ready md ops listed).contains i) = true)
    (hQ : ∀ c a w, Q (.panic c) (a.put oi.dst v) w → Q (.panic c) a w) (hy : YieldsIf P ops (fun _ => True) oi v a)
    (h : anyS P md ops Q S T fuel (listed.setIfInBounds i true) (a.put oi.dst v) w) : anyS P md ops Q S T (fuel + 1) listed a w := by
  simp only [Bool.and_eq_true] at hk
  exact anyS_first (S' := fun _ => True) (fun _ _ _ _ => .inr fun _ => trivial) (fun _ _ _ h => h) hi (Region.noSelect_spec hk.1.1) hQ fuel listed a w (Region.free_spec hi hk.1.2) (by simpa using hk.2) hy trivial h
/-- number i alone may come up -/
theorem anyS_one {i : Nat} {oi : Oper} {fuel : Nat} {listed : Array Bool} {a : Act} {w : World} (hr : Region.ready md ops listed = [i]) (hi : ops[i]? = some oi) (hw : Region.wanted oi (yielded ops a.tmps) = true)
    (h : ∀ K : Act → World → Prop, (∀ a' w', (i < T → S w → S w') → anyS P md ops Q S T fuel (listed.setIfInBounds i true) a' w' → K a' w') → Oper.wp P oi a w K Q) : anyS P md ops Q S T (fuel + 1) listed a w := by
  refine ⟨fun h0 => (by rw [h0] at hr; cases hr), fun j hj => ?_⟩
  rw [hr] at hj
  obtain rfl : j = i := by simpa using hj
  unfold wpOp
  simp only [hi, hw, if_true]
  exact .inl (h _ (fun a' w' hs ha => ⟨hs, ha⟩))
theorem anyS_done {listed : Array Bool} {a : Act} {w : World} (hr : Region.ready md ops listed = []) (h : Q .normal a w) : ∀ fuel, anyS P md ops Q S T fuel listed a w
  | 0 => ⟨hr, h⟩
  | _ + 1 => ⟨fun _ => h, by rw [hr]; simp⟩
theorem wp_region_S {id : Nat} {a : Act} {w : World} (S : World → Prop) (T : Nat) (hm : P.follows .mixedOrders = true)
    (h : anyS P .any ops Q S T ops.size (Array.replicate ops.size false) a w.drew) : (Code.region id ops true).wp P Q a w :=
  wp_region_any hm (any_of_S _ _ _ _ h)
end
end Go.Proofs.YtpbobhobhbbimaaGreat
namespace Go.Proofs.YtpbobhobhbbimaaGreat
open Go Go.RowKit
set_option linter.unusedVariables false
section
variable {P : Program} {ops : Array Oper} {Q : Exit → Act → World → Prop} {md : Region.Mode} {S : World → Prop} {T : Nat}
theorem anyS_two {i j : Nat} {oi oj : Oper} {fuel : Nat} {listed : Array Bool} {a : Act} {w : World} (hr : Region.ready md ops listed = [i, j]) (hi : ops[i]? = some oi) (hj : ops[j]? = some oj)
    (hw : Region.wanted oi (yielded ops a.tmps) = true) (hw2 : Region.wanted oj (yielded ops a.tmps) = true)
    (h1 : ∀ K : Act → World → Prop, (∀ a' w', (i < T → S w → S w') → anyS P md ops Q S T fuel (listed.setIfInBounds i true) a' w' → K a' w') → Oper.wp P oi a w K Q)
    (h2 : ∀ K : Act → World → Prop, (∀ a' w', (j < T → S w → S w') → anyS P md ops Q S T fuel (listed.setIfInBounds j true) a' w' → K a' w') → Oper.wp P oj a w K Q) : anyS P md ops Q S T (fuel + 1) listed a w := by
  refine ⟨fun h0 => (by rw [h0] at hr; cases hr), fun k hk => ?_⟩
  rw [hr] at hk
  simp only [List.mem_cons, List.not_mem_nil, or_false] at hk
  rcases hk with rfl | rfl
  · unfold wpOp
    simp only [hi, hw, if_true]
    exact .inl (h1 _ (fun a' w' hs ha => ⟨hs, ha⟩))
  · unfold wpOp
    simp only [hj, hw2, if_true]
    exact .inl (h2 _ (fun a' w' hs ha => ⟨hs, ha⟩))
end
end Go.Proofs.YtpbobhobhbbimaaGreat
/- Plain words: lists of ints that are made by append, and what a function leaves that returns one. Plain words: a row of ints of the call's own, known as a function, that may be written; how it is made. Plain words: a row of cells of the call's own, known as a function, that may be written; walks: make, append onto an empty slice, slices.Clone, of cells. -/
namespace Go.Proofs.YtpbobhobhbbimaaGreat
open Go.RowKit
set_option linter.unusedVariables false
theorem infoI : (Tryz.prog.info? 3).map (fun i => (i.zero, i.size, i.bytes)) = some (some (.int .i64 0), 1, 8) := by kernel_rfl
def vInt (x : Int) : Value := .int .i64 x
theorem sl_of_own {w : World} {base : Nat} {v : Value} {xs : List Int} (h : w.ownsRow base 3 1 v xs.length (xs.map vInt)) :
    ∃ a c, v = .slice a xs.length c ∧ Sl w a xs.length (fun k => xs.getD k 0) := by
  rcases h.2 with ⟨rfl, h0⟩ | ⟨g, cap, cur, rfl, hb, hh, hn, hm, hc, ht⟩
  · exact ⟨none, 0, by rw [h0], fun k hk => by omega⟩
  · refine ⟨some ⟨g, 0, none⟩, cap, rfl, fun k hk => ⟨g, 0, rfl, ?_, ?_⟩⟩
    · rcases Nat.lt_or_ge g w.heap.size with h' | h'
      · exact h'
      · rw [Array.getElem?_eq_none h'] at hh; cases hh
    · rw [Nat.zero_add, cell_of_row w g k cur 3 (0, 0) hh]
      have h1 : (cur.toList.take (xs.length * 1))[k]? = (xs.map vInt)[k]? := by rw [ht]
      rw [List.getElem?_take, if_pos (by omega), List.getElem?_map, List.getElem?_eq_getElem hk] at h1
      show cur[k]? = some (.int .i64 (xs.getD k 0))
      rw [List.getD_eq_getElem?_getD, List.getElem?_eq_getElem hk]
      simpa [vInt] using h1
theorem own_base {w : World} {base : Nat} {e : TypeId} {size n : Nat} {v : Value} {xs : List Value} (h : w.ownsRow base e size v n xs) : ∀ g, v.ownBlock = some g → base ≤ g := fun g hg => by
  rcases h.2 with ⟨rfl, _⟩ | ⟨g', cap, cur, rfl, hb, _⟩
  · cases hg
  · injection hg with hg; subst hg; exact hb
theorem own_mono {w : World} {base base' : Nat} {e : TypeId} {size n : Nat} {v : Value} {xs : List Value} (h : w.ownsRow base e size v n xs) (hb : base' ≤ base) : w.ownsRow base' e size v n xs := by
  refine ⟨h.1, h.2.imp id ?_⟩
  rintro ⟨g, cap, cur, h1, h2, h3⟩
  exact ⟨g, cap, cur, h1, by omega, h3⟩
theorem own_snoc {w : World} {base : Nat} {v : Value} {xs : List Int} {k : Int} (h : w.ownsRow base 3 1 v (xs.length + 1) (xs.map vInt ++ [.int .i64 k])) :
    w.ownsRow base 3 1 v (xs ++ [k]).length ((xs ++ [k]).map vInt) := by
  simpa [vInt] using h
theorem own_below {w w' : World} {base : Nat} {e : TypeId} {size n : Nat} {v : Value} {xs : List Value} (h : w.ownsRow base e size v n xs) (hb : Below w.heap.size w w') : w'.ownsRow base e size v n xs := by
  refine ⟨h.1, h.2.imp id ?_⟩
  rintro ⟨g, cap, cur, h1, h2, h3, h4⟩
  refine ⟨g, cap, cur, h1, h2, ?_, h4⟩
  rw [hb.block g ?_]
  · exact h3
  · rcases Nat.lt_or_ge g w.heap.size with h' | h'
    · exact h'
    · rw [Array.getElem?_eq_none h'] at h3; cases h3
theorem Bx.grown {W W' : World} {b : Nat} {vs : Array Value} {row : Option Nat} (h : Bx W b vs) (hg : W.grownBy W' row) (hne : some b ≠ row) : Bx W' b vs := by
  have e := hg.block b h.lt hne
  exact ⟨by have := hg.size; have := h.lt; omega, fun i v hi => (World.cell?_of_block e).trans (h.2 i v hi), fun i => (World.frozen?_of_block e).trans (h.3 i)⟩
theorem own_lt {w : World} {base : Nat} {e : TypeId} {size n : Nat} {v : Value} {xs : List Value} (h : w.ownsRow base e size v n xs) : ∀ g, v.ownBlock = some g → g < w.heap.size := fun g hg => by
  rcases h.2 with ⟨rfl, _⟩ | ⟨g', cap, cur, rfl, hb, hh, _⟩
  · cases hg
  · injection hg with hg
    subst hg
    show g' < _
    rcases Nat.lt_or_ge g' w.heap.size with h' | h'
    · exact h'
    · rw [Array.getElem?_eq_none h'] at hh; cases hh
theorem own_grown {w w' : World} {base : Nat} {e : TypeId} {size n : Nat} {v : Value} {xs : List Value} {row : Option Nat} (h : w.ownsRow base e size v n xs) (hg : w.grownBy w' row)
    (hne : ∀ g, v.ownBlock = some g → some g ≠ row) : w'.ownsRow base e size v n xs := by
  refine ⟨h.1, ?_⟩
  rcases h.2 with h' | ⟨g, cap, cur, rfl, hb, hh, rest⟩
  · exact .inl h'
  · refine .inr ⟨g, cap, cur, rfl, hb, ?_, rest⟩
    rw [hg.block g (own_lt h g rfl) (hne g rfl)]
    exact hh
end Go.Proofs.YtpbobhobhbbimaaGreat
namespace Go.Proofs.YtpbobhobhbbimaaGreat
open Go.RowKit
set_option linter.unusedVariables false
def upd (f : Nat → Int) (i : Nat) (v : Int) : Nat → Int := fun k => if k = i then v else f k
structure Ro (W : World) (b n : Nat) (f : Nat → Int) : Prop where
  lt : b < W.heap.size
  cells : ∀ k, k < n → W.cell? ⟨b, k, none⟩ = some (.int .i64 (f k))
  free : ∀ i, W.frozen? ⟨b, i, none⟩ = false
theorem Ro.below {W W' : World} {b n : Nat} {f : Nat → Int} (h : Ro W b n f) (hb : Below W.heap.size W W') : Ro W' b n f :=
  ⟨by have := hb.size; have := h.1; omega, fun k hk => (bcell hb _ _ h.1).trans (h.2 k hk), fun i => (bfrozen hb _ _ h.1).trans (h.3 i)⟩
theorem Ro.alloc {W : World} {b n : Nat} {f : Nat → Int} (h : Ro W b n f) (o : Obj) : Ro (W.alloc o) b n f := h.below ((Below.refl _ W).alloc (Nat.le_refl _) o)
theorem Ro.drew {W : World} {b n : Nat} {f : Nat → Int} (h : Ro W b n f) : Ro W.drew b n f := ⟨h.1, h.2, h.3⟩
theorem Ro.drewN {W : World} {b n : Nat} {f : Nat → Int} (h : Ro W b n f) (k : Nat) : Ro (W.drewN k) b n f := ⟨h.1, h.2, h.3⟩
theorem Ro.far {W : World} {b n : Nat} {f : Nat → Int} (h : Ro W b n f) {p : Addr} (hp : p.block ≠ b) (u : Value) : Ro (W.setCell p u) b n f :=
  ⟨by simpa [World.setCell] using h.1, fun k hk => by rw [World.cell?_setCell_other _ _ _ _ (fun e => hp (by rw [e]))]; exact h.2 k hk, fun i => by rw [World.frozen?_setCell]; exact h.3 i⟩
theorem Ro.set_ {W : World} {b n : Nat} {f : Nat → Int} (h : Ro W b n f) (j : Nat) (v : Int) : Ro (W.setCell ⟨b, j, none⟩ (.int .i64 v)) b n (upd f j v) := by
  refine ⟨by simpa [World.setCell] using h.1, fun k hk => ?_, fun i => by rw [World.frozen?_setCell]; exact h.3 i⟩
  by_cases e : k = j
  · subst e
    rw [World.cell?_setCell_same' _ _ _ (by rw [h.2 k hk]; rfl)]
    simp [upd]
  · rw [World.cell?_setCell_other _ _ _ _ (fun e' => e (by injection e' with _ e2 _; exact e2.symm)), h.2 k hk]
    simp [upd, e]
theorem Ro.congr {W : World} {b n : Nat} {f g : Nat → Int} (h : Ro W b n f) (e : ∀ k, k < n → f k = g k) : Ro W b n g := ⟨h.1, fun k hk => by rw [h.2 k hk, e k hk], h.3⟩
end Go.Proofs.YtpbobhobhbbimaaGreat
namespace Go.Proofs.YtpbobhobhbbimaaGreat
open Go Go.RowKit
set_option linter.unusedVariables false
/-- the numbers of a row of cells, one by one -/
def flatC (g : Nat → C4) (j : Nat) : Int := (g (j / 4)).get (j % 4)
theorem flatC_at (g : Nat → C4) (i d : Nat) (hd : d < 4) : flatC g (i * 4 + d) = (g i).get d := by
  unfold flatC; rw [show (i * 4 + d) / 4 = i from by omega, show (i * 4 + d) % 4 = d from by omega]
theorem flatC_at0 (g : Nat → C4) (i : Nat) : flatC g (i * 4) = (g i).e := flatC_at g i 0 (by omega)
theorem flatC_at1 (g : Nat → C4) (i : Nat) : flatC g (i * 4 + 1) = (g i).n := flatC_at g i 1 (by omega)
theorem flatC_at2 (g : Nat → C4) (i : Nat) : flatC g (i * 4 + 2) = (g i).w := flatC_at g i 2 (by omega)
theorem flatC_at3 (g : Nat → C4) (i : Nat) : flatC g (i * 4 + 3) = (g i).s := flatC_at g i 3 (by omega)
theorem flatC_ext {g : Nat → C4} {F : Nat → Int} (h : ∀ i d, d < 4 → F (i * 4 + d) = (g i).get d) : F = flatC g := by
  funext j
  have := h (j / 4) (j % 4) (Nat.mod_lt _ (by omega))
  rw [show j / 4 * 4 + j % 4 = j from by omega] at this
  exact this
theorem Ro.scell {W : World} {b n : Nat} {g : Nat → C4} (h : Ro W b (n * 4) (flatC g)) {i : Nat} (hi : i < n) :
    W.cell? ⟨b, i * 4, none⟩ = some (.int .i64 (g i).e) ∧ W.cell? ⟨b, i * 4 + 1, none⟩ = some (.int .i64 (g i).n) ∧ W.cell? ⟨b, i * 4 + 2, none⟩ = some (.int .i64 (g i).w) ∧ W.cell? ⟨b, i * 4 + 3, none⟩ = some (.int .i64 (g i).s) := by
  have h0 := h.2 (i * 4) (by omega); have h1 := h.2 (i * 4 + 1) (by omega); have h2 := h.2 (i * 4 + 2) (by omega); have h3 := h.2 (i * 4 + 3) (by omega)
  rw [flatC_at0] at h0; rw [flatC_at1] at h1; rw [flatC_at2] at h2; rw [flatC_at3] at h3
  exact ⟨h0, h1, h2, h3⟩
theorem Ro.sc {W : World} {b n : Nat} {g : Nat → C4} (h : Ro W b (n * 4) (flatC g)) : Sc W (some ⟨b, 0, none⟩) n g := fun k hk => by
  obtain ⟨h0, h1, h2, h3⟩ := h.scell hk
  exact ⟨b, 0, rfl, h.1, by rw [Nat.zero_add]; exact h0, by rw [Nat.zero_add]; exact h1, by rw [Nat.zero_add]; exact h2, by rw [Nat.zero_add]; exact h3⟩
/-- a cell replaced -/
def updC (g : Nat → C4) (i : Nat) (c : C4) : Nat → C4 := fun k => if k = i then c else g k
theorem Ro.setC {W : World} {b n : Nat} {g : Nat → C4} (h : Ro W b (n * 4) (flatC g)) (i : Nat) (c : C4) :
    Ro ((((W.setCell ⟨b, i * 4, none⟩ (.int .i64 c.e)).setCell ⟨b, i * 4 + 1, none⟩ (.int .i64 c.n)).setCell ⟨b, i * 4 + 2, none⟩ (.int .i64 c.w)).setCell ⟨b, i * 4 + 3, none⟩ (.int .i64 c.s)) b (n * 4) (flatC (updC g i c)) := by
  have h1 := (((h.set_ (i * 4) c.e).set_ (i * 4 + 1) c.n).set_ (i * 4 + 2) c.w).set_ (i * 4 + 3) c.s
  refine h1.congr fun j hj => ?_
  by_cases e : j / 4 = i
  · obtain ⟨d, hd, rfl⟩ : ∃ d, d < 4 ∧ j = i * 4 + d := ⟨j % 4, Nat.mod_lt _ (by omega), by omega⟩
    rw [flatC_at _ _ _ hd]
    simp only [updC, if_pos]
    rcases (by omega : d = 0 ∨ d = 1 ∨ d = 2 ∨ d = 3) with rfl | rfl | rfl | rfl <;> simp [upd, C4.get]
  · have e2 : flatC (updC g i c) j = flatC g j := by simp only [flatC, updC, if_neg e]
    rw [e2]
    simp only [upd]
    rw [if_neg (by omega), if_neg (by omega), if_neg (by omega), if_neg (by omega)]
/-- the first k cells as F says, behind them as G -/
def ovC (F G : Nat → C4) (k : Nat) : Nat → C4 := fun j => if j < k then F j else G j
theorem ovC_zero (F G : Nat → C4) : ovC F G 0 = G := by funext j; simp [ovC]
theorem ovC_at (F G : Nat → C4) (k : Nat) : ovC F G k k = G k := by simp [ovC]
theorem ovC_lt {F G : Nat → C4} {j k : Nat} (h : j < k) : ovC F G k j = F j := by simp [ovC, h]
theorem ovC_succ (F G : Nat → C4) (k : Nat) : ovC F G (k + 1) = updC (ovC F G k) k (F k) := by
  funext j; unfold updC ovC
  by_cases e : j = k
  · subst e; simp
  · simp only [if_neg e, show (j < k + 1) = (j < k) from propext ⟨by omega, by omega⟩]
theorem flatC_congr {F G : Nat → C4} {n : Nat} (h : ∀ i, i < n → F i = G i) : ∀ j, j < n * 4 → flatC F j = flatC G j := fun j hj => by
  unfold flatC; rw [h _ (by omega)]
/-! ### rows of cells as lists -/
def rowC (g : Nat → C4) (n : Nat) : List Value := (List.range (n * 4)).map fun j => .int .i64 (flatC g j)
theorem rowC_length (g : Nat → C4) (n : Nat) : (rowC g n).length = n * 4 := by simp [rowC]
theorem rowC_one (g : Nat → C4) (n : Nat) : ∀ u ∈ rowC g n, u.oneCell' = true := by
  intro u hu; simp only [rowC, List.mem_map] at hu; obtain ⟨k, _, rfl⟩ := hu; simp [Value.oneCell']
theorem rowC_at (g : Nat → C4) (n j : Nat) (u : Value) (h : (rowC g n)[j]? = some u) : j < n * 4 ∧ u = .int .i64 (flatC g j) := by
  simp only [rowC, List.getElem?_map] at h
  by_cases hj : j < n * 4
  · simp [hj] at h; exact ⟨hj, h.symm⟩
  · simp [hj] at h
theorem roC_of_own {W : World} {base n g cap : Nat} {f : Nat → C4} (h : W.ownsRow base 44 4 (.slice (some ⟨g, 0, none⟩) n cap) n (rowC f n)) (hn : 0 < n) : base ≤ g ∧ Ro W g (n * 4) (flatC f) := by
  obtain ⟨g', cap', hv, hb, hlt⟩ := h.form hn
  have e : g = g' := by injection hv with hv; injection hv with hv; injection hv
  subst e
  refine ⟨hb, hlt, fun k hk => ?_, fun i => h.frozenAt i⟩
  rw [h.cellAt k hk]
  simp [rowC, hk]
theorem addrAdd (b o j : Nat) : (⟨b, o, none⟩ : Addr).add j = ⟨b, o + j, none⟩ := by
  unfold Addr.add; split <;> simp_all
theorem ownForm4 {W : World} {base n : Nat} {e : TypeId} {v : Value} {xs : List Value} (h : W.ownsRow base e 4 v n xs) (hn : 0 < n) : ∃ g cap, v = .slice (some ⟨g, 0, none⟩) n cap := by
  obtain ⟨g, cap, hv, _⟩ := h.form hn
  exact ⟨g, cap, hv⟩
/-- a slice of cells, as the cells of a row -/
theorem sc_row {w : World} {b o n : Nat} {g : Nat → C4} (H : Sc w (some ⟨b, o, none⟩) n g) : ∀ j u, (rowC g n)[j]? = some u → w.cell? ((⟨b, o, none⟩ : Addr).add j) = some u := fun j u hu => by
  obtain ⟨hj, rfl⟩ := rowC_at g n j u hu
  obtain ⟨b', o', e, _, c0, c1, c2, c3⟩ := H (j / 4) (by omega)
  injection e with e; injection e with e1 e2 _
  subst e1 e2
  rw [addrAdd]
  obtain ⟨i, d, hd, rfl⟩ : ∃ i d, d < 4 ∧ j = i * 4 + d := ⟨j / 4, j % 4, Nat.mod_lt _ (by omega), by omega⟩
  rw [show (i * 4 + d) / 4 = i from by omega] at c0 c1 c2 c3
  rcases (by omega : d = 0 ∨ d = 1 ∨ d = 2 ∨ d = 3) with rfl | rfl | rfl | rfl
  · rw [Nat.add_zero, c0, flatC_at0]
  · rw [← Nat.add_assoc, c1, flatC_at1]
  · rw [← Nat.add_assoc, c2, flatC_at2]
  · rw [← Nat.add_assoc, c3, flatC_at3]
theorem infoC : (Tryz.prog.info? 44).map (fun i => (i.zero, i.size, i.bytes)) = some (some (.agg #[.int .i64 0, .int .i64 0, .int .i64 0, .int .i64 0]), 4, 32) := by kernel_rfl
def ccells (n : Nat) : Array Value := madeCells (Value.agg #[.int .i64 0, .int .i64 0, .int .i64 0, .int .i64 0]).cells (n * 4)
theorem zero4 : (Value.agg #[.int .i64 0, .int .i64 0, .int .i64 0, .int .i64 0]).cells = #[.int .i64 0, .int .i64 0, .int .i64 0, .int .i64 0] := by kernel_rfl
theorem ccells_get (n k : Nat) (hk : k < n * 4) : (ccells n)[k]? = some (.int .i64 0) := by
  have hm : k % 4 < 4 := Nat.mod_lt _ (by omega)
  simp only [ccells, madeCells, zero4]
  simp [hk]
  rcases (by omega : k % 4 = 0 ∨ k % 4 = 1 ∨ k % 4 = 2 ∨ k % 4 = 3) with h | h | h | h <;> simp [h]
theorem mk_cells (n : Nat) (l : Int) (hl : l = n) (hn : n ≤ 100000000) (w : World) :
    (Instr.makeSlice 22 (.int .i64 l) (.int .i64 l)).run Tryz.prog w = .ok (.slice (some ⟨w.heap.size, 0, none⟩) n n) (w.alloc (.cells (ccells n) 44)) := by
  subst hl
  obtain ⟨i0, hi, hz0, hz1, hz2⟩ := info_parts infoC
  have hr := run_make (P := Tryz.prog) w 22 44 i0 _ Tryz.underlying22 hi hz0 .i64 .i64 n n (by omega) (by omega) (by rw [hz2]; omega) (by omega)
  simp only [Int.toNat_natCast, hz1] at hr
  exact hr
theorem roC_made (w : World) (n : Nat) : Ro (w.alloc (.cells (ccells n) 44)) w.heap.size (n * 4) (flatC fun _ => C4.zero) :=
  ⟨by simp, fun k hk => by
    rw [cell_of_row (w.alloc (.cells (ccells n) 44)) w.heap.size k (ccells n) 44 (0, 0) (Array.getElem?_push_size ..), ccells_get n k hk]
    have hm : k % 4 < 4 := Nat.mod_lt _ (by omega)
    have : flatC (fun _ => C4.zero) k = 0 := by
      simp only [flatC, C4.zero]
      rcases (by omega : k % 4 = 0 ∨ k % 4 = 1 ∨ k % 4 = 2 ∨ k % 4 = 3) with h | h | h | h <;> simp [h, C4.get]
    rw [this], fun i => by simp [go_sem]⟩
set_option maxRecDepth 100000 in
set_option maxHeartbeats 1000000 in
theorem clone_cells (a : Option Addr) (n c : Nat) (f : Nat → C4) (w : World) (hn : n ≤ 100000) (h0 : 0 < n) (H : Sc w a n f) :
    Calls Tryz.prog 31 #[.slice a n c] w fun e w' => ∃ g cap, e = .returned (.slice (some ⟨g, 0, none⟩) n cap) ∧ w.heap.size ≤ g ∧ Ro w' g (n * 4) (flatC f) ∧ n ≤ cap ∧ Below w.heap.size w w' := by
  obtain ⟨i0, hi, hz0, hz1, hz2⟩ := info_parts infoC
  obtain ⟨b, o, rfl, hlt, _⟩ := H 0 h0
  have HN := hid (sc_row (H.alloc (.cells #[] 44)))
  have hnil := fun (w : World) => Lib.run_eql_slice_nil (P := Tryz.prog) w 22 44 (some ⟨b, o, none⟩) n c 0 0 Tryz.underlying22
  go_enter Tryz.func31, Tryz.ntmps31
  go_wp2_with (at_builtin; refine wpList_append_own_at _ rfl _ _ 22 rfl w.heap.size 44 i0 _ 4 32 Tryz.underlying22 hi hz0 hz1 hz2 rfl (by decide) (.slice (some ⟨w.heap.size, 0, none⟩) 0 0) 0 [] rfl (World.ownsRow_lit w #[] 0 (Nat.le_refl _) (by simp [maxLen]) rfl) ⟨b, o, none⟩ n c (rowC f n) rfl (rowC_length f n) HN.out (rowC_one f n) (by simp [maxLen]; omega) (by omega) (by simp) ?_; intro v' w1 hown hgrow _ _)
  go_ret
  simp only [Nat.zero_add, List.nil_append] at hown
  obtain ⟨g, cap, rfl⟩ := ownForm4 hown h0
  obtain ⟨hb, hr⟩ := roC_of_own hown h0
  have hcap : n ≤ cap := by
    rcases hown.2 with ⟨_, h⟩ | ⟨g2, cap2, cur, hv, _, _, h, h2, _⟩
    · omega
    · injection hv with _ _ h'; subst h'; exact h
  exact ⟨g, cap, rfl, hb, hr, hcap, ((Below.refl _ w).alloc (Nat.le_refl _) _).grown hgrow (by simp) (fun k hk => by simp [Value.ownBlock] at hk; omega)⟩
end Go.Proofs.YtpbobhobhbbimaaGreat
