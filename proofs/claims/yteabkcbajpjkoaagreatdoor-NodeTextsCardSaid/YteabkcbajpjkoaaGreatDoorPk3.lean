/- Plain laws: numbers written in decimal digits, read back; words and joins. -/
import Derived.Test.YteabkcbajpjkoaaGreatDoorPk2
import Derived.Lib.AtoiAll
import Derived.Lib.AtoiTie
import Derived.Lib.AtoiAllCases
import Derived.Lib.ItoaMem
import Derived.Lib.Split
import Derived.Lib.Join
import Derived.Test.YteabkcbajpjkoaaGreatDoorPk1
import Derived.OrdersHeld
import Derived.Laws.IdiomStrings
import Derived.Laws.Concat
import Derived.OrdersIn
import Derived.OwnWalkIn
import Derived.Deep.Quiet
import Derived.BigQuiet
import Derived.StillTail
import Derived.RangeFuncNested
import Derived.Test.YteabkcbajpjkoaaGreatDoorRows
import Derived.ProofKit
import Derived.OpenShut
import Derived.ShutString
import Derived.ChangeOld
import Derived.Deep.Slices
namespace Go.Proofs.YteabkcbajpjkoaaGreatDoor
open Go Go.RowKit
set_option linter.unusedVariables false
theorem digit_byte {d : Nat} (h : d < 10) : (UInt8.ofNat (48 + d)).toNat = 48 + d := by
  simp; omega
/-- a row of digits -/
def digL (l : List UInt8) : Prop := ∀ c ∈ l, 48 ≤ c.toNat ∧ c.toNat ≤ 57
theorem decDigits_dig : ∀ u, digL (Lib.decDigits u) := by
  intro u
  induction u using Nat.strongRecOn with
  | _ u ih =>
    rw [Lib.decDigits]
    split
    · intro c hc
      rw [List.mem_singleton.1 hc, digit_byte (by assumption)]
      omega
    · intro c hc
      rcases List.mem_append.1 hc with hc | hc
      · exact ih (u / 10) (by omega) c hc
      · rw [List.mem_singleton.1 hc, digit_byte (by omega)]
        omega
theorem decDigits_ne (u : Nat) : Lib.decDigits u ≠ [] := by
  rw [Lib.decDigits]
  split <;> simp
/-- what digits spell -/
def valD (l : List UInt8) : Nat := l.foldl (fun a c => a * 10 + (c.toNat - 48)) 0
theorem valD_app (l : List UInt8) (c : UInt8) : valD (l ++ [c]) = valD l * 10 + (c.toNat - 48) := by simp [valD]
theorem valD_dec : ∀ u, valD (Lib.decDigits u) = u := by
  intro u
  induction u using Nat.strongRecOn with
  | _ u ih =>
    rw [Lib.decDigits]
    split
    · rename_i h
      show 0 * 10 + ((UInt8.ofNat (48 + u)).toNat - 48) = u
      rw [digit_byte h]; omega
    · rw [valD_app, ih (u / 10) (by omega), digit_byte (by omega)]
      omega
theorem dec_inj {u v : Nat} (h : Lib.decDigits u = Lib.decDigits v) : u = v := by rw [← valD_dec u, ← valD_dec v, h]
theorem itoa_inj {n m : Int} (h : Lib.itoa n = Lib.itoa m) : n = m := by
  unfold Lib.itoa at h
  have key : ∀ u v, Lib.decDigits u ≠ 45 :: Lib.decDigits v := fun u v e => by
    have := decDigits_dig u 45 (by rw [e]; simp)
    exact absurd this.1 (by decide)
  split at h <;> split at h
  · have := dec_inj (List.cons.inj h).2; omega
  · exact absurd h.symm (key _ _)
  · exact absurd h (key _ _)
  · have := dec_inj h; omega
theorem itoa_byte {n : Int} {c : UInt8} (h : c ∈ Lib.itoa n) : (48 ≤ c.toNat ∧ c.toNat ≤ 57) ∨ c.toNat = 45 := by
  unfold Lib.itoa at h
  split at h
  · rcases List.mem_cons.1 h with rfl | h
    · exact .inr rfl
    · exact .inl (decDigits_dig _ c h)
  · exact .inl (decDigits_dig _ c h)
theorem itoa_no {n : Int} {m : UInt8} (hm : m.toNat < 45) : ∀ c ∈ Lib.itoa n, c ≠ m := fun c hc e => by
  subst e
  rcases itoa_byte hc with h | h <;> omega
theorem itoa_ne (n : Int) : Lib.itoa n ≠ [] := by
  unfold Lib.itoa
  split
  · simp
  · exact decDigits_ne _
theorem parse_dig : ∀ (l : List UInt8) (acc : Nat), digL l → l.foldl (fun a c => a * 10 + (c.toNat - 48)) acc < 18446744073709551616 → Lib.parseUint10 acc l = .ok (l.foldl (fun a c => a * 10 + (c.toNat - 48)) acc)
  | [], acc, _, _ => rfl
  | c :: r, acc, h, hlt => by
    have hc := h c (by simp)
    have hmono : ∀ (r : List UInt8) (a : Nat), a ≤ r.foldl (fun a c => a * 10 + (c.toNat - 48)) a := by
      intro r
      induction r with
      | nil => intro a; exact Nat.le_refl _
      | cons x r ih => intro a; simp only [List.foldl]; exact Nat.le_trans (by omega) (ih _)
    have hm := hmono r (acc * 10 + (c.toNat - 48))
    simp only [List.foldl] at hlt ⊢
    rw [Lib.parseUint10, if_pos hc, if_neg (by omega), if_neg (by omega)]
    exact parse_dig r _ (fun x hx => h x (by simp [hx])) hlt
theorem atoiAll_itoa (n : Int) (h0 : -9223372036854775808 ≤ n) (h1 : n ≤ 9223372036854775807) : Lib.atoiAll (Lib.itoa n) = .ok n := by
  have hp : ∀ u : Nat, u ≤ 9223372036854775808 → Lib.parseMag (Lib.decDigits u) = .ok u := fun u hu => by
    unfold Lib.parseMag
    rw [if_neg (decDigits_ne u)]
    have hv := valD_dec u
    unfold valD at hv
    rw [parse_dig _ _ (decDigits_dig u) (by rw [hv]; omega), hv]
  unfold Lib.itoa
  split
  · rename_i hn
    rw [Lib.atoiAll_minus, hp _ (by omega)]
    unfold Lib.signed
    simp only
    rw [if_neg (by omega)]
    congr 1
    omega
  · rename_i hn
    have hd := decDigits_dig n.toNat
    have hq := hp n.toNat (by omega)
    cases hl : Lib.decDigits n.toNat with
    | nil => exact absurd hl (decDigits_ne _)
    | cons c r =>
      rw [hl] at hd hq
      have hc := hd c (by simp)
      rw [Lib.atoiAll_plain c r (by omega) (by omega), hq]
      unfold Lib.signless
      simp only
      rw [if_neg (by omega)]
      congr 1
      omega
theorem join_unwords (m : UInt8) : ∀ xs : List (List UInt8), Lib.join xs [m] = unwords m xs
  | [] => rfl
  | [x] => by simp [Lib.join_one, unwords]
  | x :: y :: r => by
    have ih := join_unwords m (y :: r)
    rw [Lib.join_cons] at ih ⊢
    simp only [Lib.joinTail, List.map_cons, List.flatten_cons, unwords] at ih ⊢
    rw [← ih]
    simp
theorem idx_mark1 (m : UInt8) : ∀ {p t : List UInt8}, (∀ c ∈ p, c ≠ m) → Lib.index (p ++ m :: t) [m] = (p.length : Int)
  | [], t, _ => by simp [Lib.index, List.isPrefixOf]
  | c :: p, t, h => by
    have h1 : (m == c) = false := by rw [beq_eq_false_iff_ne]; exact fun e => h c (by simp) e.symm
    have ih := idx_mark1 m (p := p) (t := t) (fun x hx => h x (by simp [hx]))
    simp only [List.cons_append, Lib.index, List.isPrefixOf, h1, Bool.false_and, ih]
    rw [if_neg (by decide), if_neg (by simp)]
    simp
theorem idx_none1 (m : UInt8) : ∀ {p : List UInt8}, (∀ c ∈ p, c ≠ m) → Lib.index p [m] = -1
  | [], _ => by simp [Lib.index]
  | c :: p, h => by
    have h1 : (m == c) = false := by rw [beq_eq_false_iff_ne]; exact fun e => h c (by simp) e.symm
    have ih := idx_none1 m (p := p) (fun x hx => h x (by simp [hx]))
    simp only [Lib.index, List.isPrefixOf, h1, Bool.false_and, ih]
    rw [if_neg (by decide), if_pos (by simp)]
theorem splitK_words (m : UInt8) : ∀ (k : Nat) (s : List UInt8), Lib.count s [m] ≤ k → Lib.splitK [m] 0 k s = wordsL m s := by
  intro k
  induction k with
  | zero =>
    intro s h
    rcases words_cases m s with hn | ⟨p, t, rfl, hp⟩
    · rw [words_none hn]; rfl
    · have := Lib.count_hit (s := p ++ m :: t) (sub := [m]) (by simp) (idx_mark1 m hp)
      omega
  | succ k ih =>
    intro s h
    rcases words_cases m s with hn | ⟨p, t, rfl, hp⟩
    · rw [words_none hn, Lib.splitK, if_pos (by rw [idx_none1 m hn]; rfl)]
    · have hx := idx_mark1 m (t := t) hp
      have hc := Lib.count_hit (s := p ++ m :: t) (sub := [m]) (by simp) hx
      have hd : (p ++ m :: t).drop (p.length + 1) = t := by simp [List.drop_append]
      simp only [List.length_singleton] at hc
      rw [hd] at hc
      rw [words_mark hp, Lib.splitK, if_neg (by rw [hx]; simp), hx]
      simp only [Int.toNat_natCast, Nat.add_zero, List.length_singleton]
      rw [hd, ih t (by omega), List.take_left]
theorem split_words (m : UInt8) (s : List UInt8) : Lib.split s [m] = wordsL m s := splitK_words m _ s (Nat.le_refl _)
/-- the words of a join of words without the mark -/
theorem words_unwords {m : UInt8} : ∀ {xs : List (List UInt8)}, xs ≠ [] → (∀ x ∈ xs, ∀ c ∈ x, c ≠ m) → wordsL m (unwords m xs) = xs
  | [], h, _ => absurd rfl h
  | [x], _, h => words_none (h x (by simp))
  | x :: y :: r, _, h => by
    simp only [unwords]
    rw [words_mark (h x (by simp)), words_unwords (by simp) (fun z hz => h z (by simp [hz]))]
end Go.Proofs.YteabkcbajpjkoaaGreatDoor
/- Walks: the reference's Digits and Cut. -/
namespace Go.Proofs.YteabkcbajpjkoaaGreatDoor
open Go Go.RowKit
set_option linter.unusedVariables false
theorem str_addS (x y : List UInt8) (h : x.length + y.length ≤ 1000000000) (W : World) : (Op.stringOp .add ⟨x.toArray⟩ ⟨y.toArray⟩).run Tryz.prog W = .ok (.string ⟨(x ++ y).toArray⟩) W := by
  rw [run_string_add_sum W _ _ (by simp [ByteArray.size]; omega), ByteArray.mk_append_mk]
theorem w_i64 (c : Nat) (h : c < 9223372036854775808) : IntKind.i64.wrap (c : Int) = (c : Int) := IntWalk.i64_in _ ⟨by omega, by omega⟩
theorem w_64 (c : Nat) (h : c < 9223372036854775808) : wrap64 (c : Int) = (c : Int) := IntWalk.wrap64_in _ ⟨by omega, by omega⟩
theorem dec_len : ∀ (k u : Nat), u < 10 ^ (k + 1) → (Lib.decDigits u).length ≤ k + 1
  | 0, u, h => by rw [Lib.decDigits, dif_pos (by simpa using h)]; simp
  | k + 1, u, h => by
    rw [Lib.decDigits]
    split
    · simp
    · have := dec_len k (u / 10) (by rw [Nat.pow_succ] at h; omega)
      simp only [List.length_append, List.length_singleton]
      omega
end Go.Proofs.YteabkcbajpjkoaaGreatDoor
/- A region that draws its order within a round of a range over a function: what only reads may be taken first. Iterators: what a range over a function asks of the function that is ranged over, and the law of the loop. Iterators that read blocks which the caller carries: the law of the loop. -/
namespace Go.Proofs.YteabkcbajpjkoaaGreatDoor
open Go Go.RowKit
section
variable {F : Fence} {n : Nat} {P : Program} {ops : Array Oper} {Q : Exit → Act → World → Prop} {md : Region.Mode} {S : World → Prop}
/-! ### from a walk outside of rounds to one within -/
end
end Go.Proofs.YteabkcbajpjkoaaGreatDoor
namespace Go.Proofs.YteabkcbajpjkoaaGreatDoor
open Go Go.RowKit
set_option linter.unusedVariables false
/-- W' is W but for the blocks in C and new ones -/
structure But (C : Nat → Prop) (W W' : World) : Prop where
  os : W'.os = W.os
  tape : W'.tape = W.tape
  output : W'.output = W.output
  size : W.heap.size ≤ W'.heap.size
  block : ∀ b, b < W.heap.size → ¬ C b → W'.heap[b]? = W.heap[b]?
theorem But.refl (C : Nat → Prop) (W : World) : But C W W := ⟨rfl, rfl, rfl, Nat.le_refl _, fun _ _ _ => rfl⟩
theorem But.trans {C : Nat → Prop} {X Y Z : World} (h : But C X Y) (k : But C Y Z) : But C X Z :=
  ⟨k.os.trans h.os, k.tape.trans h.tape, k.output.trans h.output, Nat.le_trans h.size k.size, fun b hb hc => (k.block b (Nat.lt_of_lt_of_le hb h.size) hc).trans (h.block b hb hc)⟩
theorem But.mono {C D : Nat → Prop} {X Y : World} (h : But C X Y) (hcd : ∀ b, b < X.heap.size → C b → D b) : But D X Y :=
  ⟨h.os, h.tape, h.output, h.size, fun b hb hd => h.block b hb (fun hc => hd (hcd b hb hc))⟩
/-- what was owned then, or is new since then -/
theorem But.trans' {C D : Nat → Prop} {X Y Z : World} (h : But C X Y) (k : But D Y Z) (hcd : ∀ b, D b → C b ∨ X.heap.size ≤ b) : But C X Z :=
  ⟨k.os.trans h.os, k.tape.trans h.tape, k.output.trans h.output, Nat.le_trans h.size k.size, fun b hb hc => (k.block b (Nat.lt_of_lt_of_le hb h.size) (fun hd => by rcases hcd b hd with h' | h'; exact hc h'; omega)).trans (h.block b hb hc)⟩
theorem But.below {B : Nat} {C : Nat → Prop} {X Y : World} (h : But C X Y) (hc : ∀ b, C b → B ≤ b) : X.heap.size < B ∨ B ≤ X.heap.size → B ≤ X.heap.size → Below B X Y := fun _ hB =>
  ⟨h.os, h.tape, h.output, h.size, fun b hb => h.block b (Nat.lt_of_lt_of_le hb hB) (fun h' => by have := hc b h'; omega)⟩
theorem but_below {B : Nat} {C : Nat → Prop} {X Y : World} (h : Below B X Y) (hB : X.heap.size ≤ B) : But C X Y :=
  ⟨h.os, h.tape, h.output, h.size, fun b hb _ => h.block b (Nat.lt_of_lt_of_le hb hB)⟩
theorem But.set_ {C : Nat → Prop} {X Y : World} (h : But C X Y) {p : Addr} (hp : C p.block) (u : Value) : But C X (Y.setCell p u) :=
  ⟨h.os, h.tape, h.output, by simpa [World.setCell] using h.size, fun b hb hc => (Below.heap_setCell Y p u b (fun e => hc (e ▸ hp))).trans (h.block b hb hc)⟩
theorem But.drew {C : Nat → Prop} {X Y : World} (h : But C X Y) : But C X Y.drew := ⟨h.os, h.tape, h.output, h.size, h.block⟩
theorem But.drewN {C : Nat → Prop} {X Y : World} (h : But C X Y) (k : Nat) : But C X (Y.drewN k) := ⟨h.os, h.tape, h.output, h.size, h.block⟩
theorem But.alloc {C : Nat → Prop} {X Y : World} (h : But C X Y) (o : Obj) : But C X (Y.alloc o) :=
  ⟨h.os, h.tape, h.output, by have := h.size; simp; omega, fun b hb hc => (Below.heap_alloc Y o b (Nat.lt_of_lt_of_le hb h.size)).trans (h.block b hb hc)⟩
theorem but_putObj (W : World) (l : Nat) (o : Obj) : But (fun b => b = l) W (W.putObj l o) := ⟨rfl, rfl, rfl, by simp, fun b _ hb => World.putObj_heap_other hb⟩
theorem Bx.but {C : Nat → Prop} {X Y : World} {b : Nat} {vs : Array Value} (h : Bx X b vs) (hb : But C X Y) (hc : ¬ C b) : Bx Y b vs := by
  have e := hb.block b h.lt hc
  refine ⟨Nat.lt_of_lt_of_le h.lt hb.size, fun i v hi => ?_, fun i => ?_⟩
  · rw [World.cell?_of_block (w := X) (a := ⟨b, i, none⟩) e]; exact h.cells i v hi
  · rw [World.frozen?_of_block (w := X) (a := ⟨b, i, none⟩) e]; exact h.free i
/-- J hangs on the blocks in C and on those below n₀ alone -/
def Stab {β : Type} (n₀ : Nat) (J : β → (Nat → Prop) → World → Prop) : Prop := ∀ s C A B, J s C A → But (fun b => n₀ ≤ b ∧ ¬ C b) A B → J s C B
/-- C' is C and what is new since X -/
def Grw (C C' : Nat → Prop) (X : World) : Prop := ∀ b, C' b → C b ∨ X.heap.size ≤ b
theorem Grw.refl (C : Nat → Prop) (X : World) : Grw C C X := fun _ h => .inl h
/-- a round's answer -/
def Ans {α : Type} (J Jx : List α → (Nat → Prop) → World → Prop) (pre : List α) (C : Nat → Prop) (X : World) (e : Ending) (X' : World) : Prop :=
  ∃ C', But C X X' ∧ Grw C C' X ∧ ((e = .returned (.bool true) ∧ J pre C' X') ∨ (e = .returned (.bool false) ∧ Jx pre C' X'))
/-- the function g with lb calls yield with the elements of L, one by one, till a round says no more; all that it reads lies in w₀ -/
def Iter {α : Type} (P : Program) (g : Nat) (lb : Array Value) (enc : α → Array Value) (L : List α) (w₀ : World) : Prop :=
  ∀ (l : Nat) (J Jx : List α → (Nat → Prop) → World → Prop) (C₀ : Nat → Prop) (W : World),
    Below w₀.heap.size w₀ W → (∀ pre C X, J pre C X → ∀ b, C b → w₀.heap.size ≤ b ∧ b < X.heap.size) → Stab w₀.heap.size J → Stab w₀.heap.size Jx →
    (∀ pre x C X, J pre C X → Below w₀.heap.size w₀ X → pre ++ [x] <+: L → YieldAt Fence.wide 0 P l (enc x) X (Ans J Jx (pre ++ [x]) C X)) →
    J [] C₀ W →
    Calls P g (#[.func (.yield l) #[] #[]] ++ lb) W fun e X => (∃ v, e = .returned v) ∧ ∃ C', But C₀ W X ∧ Grw C₀ C' W ∧ (J L C' X ∨ ∃ pre, pre <+: L ∧ Jx pre C' X)
/-- what the caller's word says at a later beginning, said at the elder one -/
def Elder {α : Type} (w₀ w₁ : World) (J : List α → (Nat → Prop) → World → Prop) (C₀ : Nat → Prop) (W : World) (pre : List α) (C : Nat → Prop) (X : World) : Prop :=
  ∃ D, C = (fun b => D b ∨ (w₀.heap.size ≤ b ∧ b < w₁.heap.size)) ∧ J pre D X ∧ Below w₁.heap.size w₁ X ∧ Grw C₀ D W ∧ W.heap.size ≤ X.heap.size
theorem elder_stab {α : Type} {w₀ w₁ : World} {J : List α → (Nat → Prop) → World → Prop} {C₀ : Nat → Prop} {W : World} (hs : w₀.heap.size ≤ w₁.heap.size) (hJ : Stab w₁.heap.size J) : Stab w₀.heap.size (Elder w₀ w₁ J C₀ W) := by
  rintro pre C A B ⟨D, rfl, hj, hX, hg, hz⟩ hbut
  refine ⟨D, rfl, hJ pre D A B hj (hbut.mono fun b _ h' => ⟨by omega, fun h2 => h'.2 (.inl h2)⟩), ?_, hg, Nat.le_trans hz hbut.size⟩
  exact hX.trans ⟨hbut.os, hbut.tape, hbut.output, hbut.size, fun b hb' => hbut.block b (by have := hX.size; omega) (fun h2 => h2.2 (.inr ⟨h2.1, hb'⟩))⟩
theorem Iter.later {α : Type} {P : Program} {g : Nat} {lb : Array Value} {enc : α → Array Value} {L : List α} {w₀ w₁ : World} (h : Iter P g lb enc L w₀) (hb : Below w₀.heap.size w₀ w₁) : Iter P g lb enc L w₁ := by
  intro l J Jx C₀ W hW hC hJ hJx hY h0
  have hs := hb.size
  refine (h l (Elder w₀ w₁ J C₀ W) (Elder w₀ w₁ Jx C₀ W) (fun b => C₀ b ∨ (w₀.heap.size ≤ b ∧ b < w₁.heap.size)) W (hb.trans (hW.mono hs)) ?_ (elder_stab hs hJ) (elder_stab hs hJx) ?_ ⟨C₀, rfl, h0, hW, Grw.refl _ _, Nat.le_refl _⟩).mono ?_
  · rintro pre C X ⟨D, rfl, hj, hX, _, _⟩ b (hb' | hb')
    · have := hC pre D X hj b hb'; omega
    · have := hX.size; omega
  · rintro pre x C X ⟨D, rfl, hj, hX, hgD, hz⟩ _ hpre
    obtain ⟨fn, tmps, assign, body, hy, hR⟩ := hY pre x D X hj hX hpre
    refine ⟨fn, tmps, assign, body, hy, hR.mono fun e X' hA => ?_⟩
    obtain ⟨D', hbut, hg, hor⟩ := hA
    have hX' : Below w₁.heap.size w₁ X' := hX.trans ⟨hbut.os, hbut.tape, hbut.output, hbut.size, fun b hb' => hbut.block b (by have := hX.size; omega) (fun h2 => by have := hC pre D X hj b h2; omega)⟩
    have hgD' : Grw C₀ D' W := fun b hd => by
      rcases hg b hd with h2 | h2
      · exact hgD b h2
      · exact .inr (by omega)
    have hz' := Nat.le_trans hz hbut.size
    refine ⟨fun b => D' b ∨ (w₀.heap.size ≤ b ∧ b < w₁.heap.size), hbut.mono (fun b _ h2 => .inl h2), fun b h2 => h2.elim (fun h3 => (hg b h3).imp .inl id) (fun h3 => .inl (.inr h3)), ?_⟩
    exact hor.imp (fun h => ⟨h.1, D', rfl, h.2, hX', hgD', hz'⟩) (fun h => ⟨h.1, D', rfl, h.2, hX', hgD', hz'⟩)
  · rintro e X ⟨hv, C', hbut, _, hor⟩
    have key : Below w₁.heap.size w₁ X → But C₀ W X := fun hX => ⟨hbut.os, hbut.tape, hbut.output, hbut.size, fun b hb' hc => by
        by_cases h1 : b < w₁.heap.size
        · exact (hX.block b h1).trans (hW.block b h1).symm
        · exact hbut.block b hb' (fun h2 => h2.elim hc (fun h3 => h1 h3.2))⟩
    refine ⟨hv, ?_⟩
    rcases hor with ⟨D, _, hj, hX, hg, _⟩ | ⟨pre, hpre, D, _, hj, hX, hg, _⟩
    · exact ⟨D, key hX, hg, .inl hj⟩
    · exact ⟨D, key hX, hg, .inr ⟨pre, hpre, hj⟩⟩
/-! ### the law of the loop -/
/-- how a round's body may be left -/
def rdPost {α : Type} (I : List α → (Nat → Prop) → World → Prop) (Ix : Code → List α → (Nat → Prop) → World → Prop) (pre : List α) (C : Nat → Prop) (X : World) : Exit → Act → World → Prop
  | .normal, _, X' => ∃ C', But C X X' ∧ Grw C C' X ∧ I pre C' X'
  | .ret, _, X' => ∃ C', But C X X' ∧ Grw C C' X ∧ Ix .ret pre C' X'
  | .exit id, _, X' => ∃ C', But C X X' ∧ Grw C C' X ∧ Ix (.exit id) pre C' X'
  | .goto t, _, X' => ∃ C', But C X X' ∧ Grw C C' X ∧ Ix (.goto t) pre C' X'
  | .panic _, _, _ => False
  | .outgrown, _, _ => False
/-- what a round is to do: the assignment to the loop's variables, then the body -/
def Round {α : Type} (P : Program) (assign body : Code) (l : Nat) (I : List α → (Nat → Prop) → World → Prop) (Ix : Code → List α → (Nat → Prop) → World → Prop) (pre : List α) (C : Nat → Prop) (t : Array Value) (X : World) : Prop :=
  assign.wpIn (Fence.wide.inRound l) 0 P (Exit.then (fun a₁ X₁ => Below X.heap.size X X₁ ∧ ∀ X₂, But (fun b => b = l) X₁ X₂ → X₂.heap.size = X₁.heap.size → (∃ r, X₂.heap[l]? = some (.loop r)) →
    body.wpIn (Fence.wide.inRound l) 0 P (rdPost I Ix pre C X₂) a₁ X₂) (fun _ _ _ => False)) { tmps := t, defers := [] } X
section
variable {α : Type} {P : Program} {g : Operand} {ps : Array Tmp} {assign body : Code} {a : Act} {gf : Nat} {lb : Array Value} {enc : α → Array Value} {L : List α} {w₀ : World}
/-- the loop's own word: the user's, and that its record is as it should be -/
def LoopW (I : List α → (Nat → Prop) → World → Prop) (C₀ : Nat → Prop) (w : World) (Z : Nat → Prop) (E : World → Prop) (pre : List α) (C : Nat → Prop) (X : World) : Prop :=
  ∃ D, C = (fun b => D b ∨ Z b) ∧ I pre D X ∧ Grw C₀ D w ∧ w.heap.size ≤ X.heap.size ∧ E X
theorem loopW_stab {I : List α → (Nat → Prop) → World → Prop} {C₀ : Nat → Prop} {w : World} {Z : Nat → Prop} {E : World → Prop} {n₀ : Nat} (hI : Stab n₀ I) (hE : ∀ A B, E A → But (fun b => ¬ Z b) A B → E B) : Stab n₀ (LoopW I C₀ w Z E) := by
  rintro pre C A B ⟨D, rfl, hi, hg, hz, he⟩ hbut
  exact ⟨D, rfl, hI pre D A B hi (hbut.mono fun b _ h' => ⟨h'.1, fun h2 => h'.2 (.inl h2)⟩), hg, Nat.le_trans hz hbut.size, hE A B he (hbut.mono fun b _ h' => fun h2 => h'.2 (.inr h2))⟩
theorem round_of {l : Nat} {fn : FuncId} {rec : LoopState → Option Code → Loop} {d : Nat} {tm tm' : Array Value} (hrec : rec = fun st pe => { state := st, pending := pe, fn, tmps := tm, params := ps, assign, body, defers := d })
    {I : List α → (Nat → Prop) → World → Prop} {Ix : Code → List α → (Nat → Prop) → World → Prop} {n₀ : Nat} (hI : Stab n₀ I) (hIx : ∀ c, Stab n₀ (Ix c)) {C₀ Z : Nat → Prop} {W1 : World} {Ed : World → Prop}
    (hZ : Z l) (hZn : ∀ b, Z b → n₀ ≤ b ∧ b < W1.heap.size) (hEd : ∀ A B, Ed A → But (fun b => b = l) A B → Ed B) (hEd' : ∀ C A B, Ed A → But C A B → (∀ b, Z b → ¬ C b) → W1.heap.size ≤ A.heap.size → Ed B)
    {pre : List α} {D : Nat → Prop} {X : World} (hi : I pre D X) (hDZ : ∀ b, Z b → ¬ D b) (hg : Grw C₀ D W1) (hz : W1.heap.size ≤ X.heap.size) (hl : X.heap[l]? = some (.loop (rec .ready none))) (hd : Ed X)
    {q : List α} (hr : Round P assign body l I Ix q D tm' X) :
    RoundIn Fence.wide 0 P l fn tm' assign body X (Ans (LoopW I C₀ W1 Z (fun X => X.heap[l]? = some (.loop (rec .ready none)) ∧ Ed X)) (fun pre C X => ∃ c, LoopW (Ix c) C₀ W1 Z (fun X => X.heap[l]? = some (.loop (rec .done (some c))) ∧ Ed X) pre C X) q (fun b => D b ∨ Z b) X) := by
  refine roundIn_of_wpIn trivial (wpIn_mono hr ?_)
  rintro e a₁ X₁ hp
  cases e with
  | normal =>
    obtain ⟨hb1, hbody⟩ := hp
    have hlX := (Array.getElem?_eq_some_iff.1 hl).1
    have hl1 : X₁.heap[l]? = some (.loop (rec .ready none)) := (hb1.block l hlX).trans hl
    have hl1lt := (Array.getElem?_eq_some_iff.1 hl1).1
    refine ⟨_, run_beginRound hl1 (by rw [hrec]), ?_⟩
    have hl2 : (X₁.putObj l (.loop { rec .ready none with state := .busy })).heap[l]? = some (.loop { rec .ready none with state := .busy }) := World.putObj_heap_same hl1lt
    have hb2 := but_putObj X₁ l (.loop { rec .ready none with state := .busy })
    have hd1 : Ed X₁ := hEd' (fun _ => False) X X₁ hd (but_below hb1 (Nat.le_refl _)) (fun _ _ h => h) hz
    have hd2 := hEd _ _ hd1 hb2
    have hs1 := hb1.size
    refine wpIn_mono (hbody _ hb2 (by simp) ⟨_, hl2⟩) ?_
    have fin : ∀ (jump : Option Code) (X3 : World) (D' : Nat → Prop), But D (X₁.putObj l (.loop { rec .ready none with state := .busy })) X3 → Grw D D' (X₁.putObj l (.loop { rec .ready none with state := .busy })) →
        ∃ X4, (Instr.endRound l jump).run P X3 = .ok (.bool jump.isNone) X4 ∧ But (fun b => b = l) X3 X4 ∧ X4.heap[l]? = some (.loop (rec (if jump.isNone then .ready else .done) jump)) ∧ Ed X4 ∧
          But (fun b => D b ∨ Z b) X X4 ∧ Grw (fun b => D b ∨ Z b) (fun b => D' b ∨ Z b) X ∧ Grw C₀ D' W1 ∧ W1.heap.size ≤ X4.heap.size ∧ (∀ b, Z b → ¬ D' b) := fun jump X3 D' hbut hgr => by
      have hl3 : X3.heap[l]? = some (.loop { rec .ready none with state := .busy }) := (hbut.block l (by simpa using hl1lt) (hDZ l hZ)).trans hl2
      have hrun := run_endRound (P := P) jump hl3
      have hb4 := but_putObj X3 l (.loop { (rec .ready none : Loop) with state := if jump.isNone then .ready else .done, pending := jump })
      have hsz : X₁.heap.size ≤ X3.heap.size := by have := hbut.size; simpa using this
      refine ⟨_, hrun, hb4, ?_, ?_, ?_, ?_, ?_, ?_, ?_⟩
      · rw [World.putObj_heap_same (Array.getElem?_eq_some_iff.1 hl3).1, hrec]
      · exact hEd _ _ (hEd' D _ _ hd2 hbut hDZ (by simp; omega)) hb4
      · exact (((but_below hb1 (Nat.le_refl _)).trans (hb2.mono (fun b _ e => .inr (e ▸ hZ)))).trans (hbut.mono (fun b _ h => .inl h))).trans (hb4.mono (fun b _ e => .inr (e ▸ hZ)))
      · intro b h
        rcases h with h | h
        · rcases hgr b h with h2 | h2
          · exact .inl (.inl h2)
          · simp at h2; exact .inr (by omega)
        · exact .inl (.inr h)
      · intro b h
        rcases hgr b h with h2 | h2
        · exact hg b h2
        · simp at h2; exact .inr (by omega)
      · simp; omega
      · intro b hb h
        rcases hgr b h with h2 | h2
        · exact hDZ b hb h2
        · have := (hZn b hb).2; simp at h2; omega
    have stab : ∀ (J : List α → (Nat → Prop) → World → Prop), Stab n₀ J → ∀ X3 X4 D' q, But (fun b => b = l) X3 X4 → J q D' X3 → (∀ b, Z b → ¬ D' b) → J q D' X4 := fun J hJ X3 X4 D' q hb hj hdz =>
      hJ q D' X3 X4 hj (hb.mono fun b _ e => ⟨by rw [e]; exact (hZn l hZ).1, fun h => hdz b (e ▸ hZ) h⟩)
    rintro e a3 X3 hp3
    cases e with
    | normal =>
      obtain ⟨D', hbut, hgr, hi3⟩ := hp3
      obtain ⟨X4, hrun, hb4, hl4, hd4, h1, h2, h3, h4, h5⟩ := fin none X3 D' hbut hgr
      exact ⟨_, _, hrun, _, h1, h2, .inl ⟨rfl, D', rfl, stab I hI _ _ _ _ hb4 hi3 h5, h3, h4, hl4, hd4⟩⟩
    | ret =>
      obtain ⟨D', hbut, hgr, hi3⟩ := hp3
      obtain ⟨X4, hrun, hb4, hl4, hd4, h1, h2, h3, h4, h5⟩ := fin (some .ret) X3 D' hbut hgr
      exact ⟨_, _, hrun, _, h1, h2, .inr ⟨rfl, .ret, D', rfl, stab _ (hIx _) _ _ _ _ hb4 hi3 h5, h3, h4, hl4, hd4⟩⟩
    | exit id =>
      obtain ⟨D', hbut, hgr, hi3⟩ := hp3
      obtain ⟨X4, hrun, hb4, hl4, hd4, h1, h2, h3, h4, h5⟩ := fin (some (.exit id)) X3 D' hbut hgr
      exact ⟨_, _, hrun, _, h1, h2, .inr ⟨rfl, .exit id, D', rfl, stab _ (hIx _) _ _ _ _ hb4 hi3 h5, h3, h4, hl4, hd4⟩⟩
    | goto t =>
      obtain ⟨D', hbut, hgr, hi3⟩ := hp3
      obtain ⟨X4, hrun, hb4, hl4, hd4, h1, h2, h3, h4, h5⟩ := fin (some (.goto t)) X3 D' hbut hgr
      exact ⟨_, _, hrun, _, h1, h2, .inr ⟨rfl, .goto t, D', rfl, stab _ (hIx _) _ _ _ _ hb4 hi3 h5, h3, h4, hl4, hd4⟩⟩
    | panic ch => exact hp3.elim
    | outgrown => exact hp3.elim
  | exit id => exact hp.elim
  | goto t => exact hp.elim
  | ret => exact hp.elim
  | panic ch => exact hp.elim
  | outgrown => exact hp.elim
end
end Go.Proofs.YteabkcbajpjkoaaGreatDoor
namespace Go.Proofs.YteabkcbajpjkoaaGreatDoor
open Go Go.RowKit
set_option linter.unusedVariables false
/-- as Iter; what the iterator reads beside w₀ is told by Rd, which the caller's word gives -/
def IterR {α : Type} (P : Program) (g : Nat) (lb : Array Value) (enc : α → Array Value) (L : List α) (w₀ : World) (Rd : World → Prop) : Prop :=
  ∀ (l : Nat) (J Jx : List α → (Nat → Prop) → World → Prop) (C₀ : Nat → Prop) (W : World), (∀ pre C X, J pre C X → Rd X) →
    Below w₀.heap.size w₀ W → (∀ pre C X, J pre C X → ∀ b, C b → w₀.heap.size ≤ b ∧ b < X.heap.size) → Stab w₀.heap.size J → Stab w₀.heap.size Jx →
    (∀ pre x C X, J pre C X → Below w₀.heap.size w₀ X → pre ++ [x] <+: L → YieldAt Fence.wide 0 P l (enc x) X (Ans J Jx (pre ++ [x]) C X)) →
    J [] C₀ W →
    Calls P g (#[.func (.yield l) #[] #[]] ++ lb) W fun e X => (∃ v, e = .returned v) ∧ ∃ C', But C₀ W X ∧ Grw C₀ C' W ∧ (J L C' X ∨ ∃ pre, pre <+: L ∧ Jx pre C' X)
section
variable {α : Type} {P : Program} {g : Operand} {ps : Array Tmp} {assign body : Code} {a : Act} {gf : Nat} {lb : Array Value} {enc : α → Array Value} {L : List α} {w₀ : World}
/-- THE LOOP over an iterator, outside of rounds -/
theorem wp_rangeR {Rd : World → Prop} {Q : Exit → Act → World → Prop} {w : World} (hg : a.eval g = .func (.func gf) #[] lb) (eg : ∀ args w, (callFunc gf args).run P w = .ok (.enter gf args) w) (hit : IterR P gf lb enc L w₀ Rd) (hb0 : Below w₀.heap.size w₀ w) (hps : ∀ x, (enc x).size = ps.size)
    (I : List α → (Nat → Prop) → World → Prop) (Ix : Code → List α → (Nat → Prop) → World → Prop) (C₀ : Nat → Prop) (hRd : ∀ pre C X, I pre C X → Rd X) (hC : ∀ pre C X, I pre C X → ∀ b, C b → w₀.heap.size ≤ b ∧ b < X.heap.size) (hI : Stab w₀.heap.size I) (hIx : ∀ c, Stab w₀.heap.size (Ix c)) (h0 : I [] C₀ w)
    (hround : ∀ l pre x C X, w.heap.size ≤ l → l < X.heap.size → ¬ C l → (∃ r, X.heap[l]? = some (.loop r)) → I pre C X → Below w₀.heap.size w₀ X → Grw C₀ C w → pre ++ [x] <+: L →
      Round P assign body l I Ix (pre ++ [x]) C ((ps.zip (enc x)).foldl (fun t (p, v) => t.setIfInBounds p v) a.tmps) X)
    (hdone : ∀ D C X, w.heap.size ≤ D → ¬ C D → I L C X → But C₀ w X → Grw C₀ C w → X.heap[D]? = some (.deferred (some [])) → Q .normal { a with defers := { target := .collected D, args := #[] } :: a.defers } X)
    (hstop : ∀ D c pre C X, w.heap.size ≤ D → ¬ C D → pre <+: L → Ix c pre C X → But C₀ w X → Grw C₀ C w → X.heap[D]? = some (.deferred (some [])) → c.wpIn Fence.wide 0 P Q { a with defers := { target := .collected D, args := #[] } :: a.defers } X) :
    (Code.rangeFunc g ps assign body).wpIn Fence.wide 0 P Q a w := by
  refine wpIn_rangeFunc ?_
  intro fn _
  obtain ⟨rec, hrec⟩ : ∃ rec : LoopState → Option Code → Loop, rec = fun st pe => { state := st, pending := pe, fn, tmps := a.tmps, params := ps, assign, body, defers := w.heap.size } := ⟨_, rfl⟩
  obtain ⟨W1, hW1⟩ : ∃ W1, (w.alloc (.deferred (some []))).alloc (.loop (rec .ready none)) = W1 := ⟨_, rfl⟩
  have hs1 : W1.heap.size = w.heap.size + 1 + 1 := by rw [← hW1]; simp
  have hL1 : W1.heap[w.heap.size + 1]? = some (.loop (rec .ready none)) := by
    rw [← hW1]; have := World.alloc_heap_new (w.alloc (.deferred (some []))) (.loop (rec .ready none)); rwa [World.size_alloc] at this
  have hK1 : W1.heap[w.heap.size]? = some (.deferred (some [])) := by
    rw [← hW1]; exact (Below.heap_alloc _ _ _ (by simp)).trans (World.alloc_heap_new w _)
  have hw1 : Below w.heap.size w W1 := by rw [← hW1]; exact ((Below.refl _ w).alloc (Nat.le_refl _) _).alloc (by simp) _
  have hb1 : Below w₀.heap.size w₀ W1 := hb0.trans (hw1.mono hb0.size)
  have hI1 : I [] C₀ W1 := hI [] C₀ w W1 h0 (but_below hw1 (Nat.le_refl _))
  have hC0 := hC [] C₀ w h0
  have hbs := hb0.size
  obtain ⟨Z, hZ⟩ : ∃ Z : Nat → Prop, Z = fun b => b = w.heap.size ∨ b = w.heap.size + 1 := ⟨_, rfl⟩
  obtain ⟨Ed, hEd⟩ : ∃ Ed : World → Prop, Ed = fun X => X.heap[w.heap.size]? = some (.deferred (some [])) := ⟨_, rfl⟩
  have edl : ∀ A B, Ed A → But (fun b => b = w.heap.size + 1) A B → Ed B := by
    rw [hEd]; intro A B h hb; exact (hb.block _ (Array.getElem?_eq_some_iff.1 h).1 (by simp)).trans h
  have edc : ∀ C A B, Ed A → But C A B → (∀ b, Z b → ¬ C b) → W1.heap.size ≤ A.heap.size → Ed B := by
    rw [hEd]; intro C A B h hb hn _; exact (hb.block _ (Array.getElem?_eq_some_iff.1 h).1 (hn _ (by rw [hZ]; exact .inl rfl))).trans h
  have edz : ∀ (st : Option Code → Loop) (c : Option Code) A B, (A.heap[w.heap.size + 1]? = some (.loop (st c)) ∧ Ed A) → But (fun b => ¬ Z b) A B → (B.heap[w.heap.size + 1]? = some (.loop (st c)) ∧ Ed B) := by
    rw [hEd]; intro st c A B h hb
    exact ⟨(hb.block _ (Array.getElem?_eq_some_iff.1 h.1).1 (fun hn => hn (by rw [hZ]; exact .inr rfl))).trans h.1, (hb.block _ (Array.getElem?_eq_some_iff.1 h.2).1 (fun hn => hn (by rw [hZ]; exact .inl rfl))).trans h.2⟩
  have dz : ∀ D : Nat → Prop, Grw C₀ D W1 → ∀ b, Z b → ¬ D b := by
    rw [hZ]; intro D hg b hb h
    rcases hg b h with h2 | h2
    · have := (hC0 b h2).2; omega
    · omega
  refine ⟨w.heap.size + 1, [{ target := .collected w.heap.size, args := #[] }], W1, { target := .fn (.func gf) lb, args := #[.func (.yield (w.heap.size + 1)) #[] #[]] }, W1, gf,
    #[.func (.yield (w.heap.size + 1)) #[] #[]] ++ lb, W1, ?_, ?_, ?_, ?_, fun h => (by cases h), ?_⟩
  · rw [← hW1, hrec]; exact run_enterLoop_outer _ _ _ _ _
  · simp only [resolve, hg]
    simp [go_sem]
  · intro f' _; trivial
  · simp [invoke, go_sem, eg]
  refine callsIn_wide.2 ((hit (w.heap.size + 1) (LoopW I C₀ W1 Z (fun X => X.heap[w.heap.size + 1]? = some (.loop (rec .ready none)) ∧ Ed X)) (fun pre C X => ∃ c, LoopW (Ix c) C₀ W1 Z (fun X => X.heap[w.heap.size + 1]? = some (.loop (rec .done (some c))) ∧ Ed X) pre C X)
    (fun b => C₀ b ∨ Z b) W1 (fun pre C X h => by obtain ⟨D, _, hi, _⟩ := h; exact hRd _ _ _ hi) hb1 ?_ (loopW_stab hI (fun A B => edz (rec .ready) none A B)) ?_ ?_ ⟨C₀, rfl, hI1, Grw.refl _ _, Nat.le_refl _, hL1, by rw [hEd]; exact hK1⟩).mono ?_)
  · rintro pre C X ⟨D, rfl, hi, hg, hz, he⟩ b (hb | hb)
    · exact hC pre D X hi b hb
    · rw [hZ] at hb; omega
  · rintro pre C A B ⟨c, h⟩ hbut
    exact ⟨c, loopW_stab (hIx c) (fun A B => edz (rec .done) (some c) A B) pre C A B h hbut⟩
  · rintro pre x C X ⟨D, rfl, hi, hg, hz, hl, hd⟩ hX hpre
    have hy := run_yield (P := P) (args := enc x) hl (by rw [hrec]; exact hps x)
    refine ⟨fn, (ps.zip (enc x)).foldl (fun t (p, v) => t.setIfInBounds p v) a.tmps, assign, body, by rw [hy, hrec], ?_⟩
    have hgw : Grw C₀ D w := fun b h => (hg b h).imp id (fun h2 => by omega)
    exact round_of hrec hI hIx (by rw [hZ]; exact .inr rfl) (by rw [hZ]; intro b hb; omega) edl edc hi (dz D hg) hg hz hl hd
      (hround _ pre x D X (by omega) (Array.getElem?_eq_some_iff.1 hl).1 (dz D hg _ (by rw [hZ]; exact .inr rfl)) ⟨_, hl⟩ hi hX hgw hpre)
  · rintro e X ⟨⟨v, rfl⟩, C', hbut, _, hor⟩
    have key : ∀ X', But (fun b => b = w.heap.size + 1) X X' → But C₀ w X' := fun X' hb' => by
      refine (But.trans (but_below hw1 (Nat.le_refl _)) ((hbut.trans' hb' (fun b e => .inl (by rw [hZ]; exact .inr (.inr e)))).mono (D := fun b => C₀ b ∨ w.heap.size ≤ b) ?_) |> fun h => (⟨h.os, h.tape, h.output, h.size, fun b hb hc => h.block b hb (fun h2 => h2.elim hc (fun h3 => by omega))⟩ : But C₀ w X'))
      rw [hZ]; intro b _ hb
      rcases hb with hb | hb
      · exact .inl hb
      · exact .inr (by omega)
    rcases hor with ⟨D, _, hi, hg, hz, hl, hd⟩ | ⟨pre, hpre, c, D, _, hi, hg, hz, hl, hd⟩
    · have hend := run_endLoop (P := P) hl (by rw [hrec]; simp)
      have hb' := but_putObj X (w.heap.size + 1) (.loop { (rec .ready none : Loop) with state := .exhausted })
      have hpe : (rec .ready none).pending = none := by rw [hrec]
      refine ⟨none, _, hend.trans (congrArg (fun c => Result.ok c _) hpe), ?_⟩
      refine hdone w.heap.size D _ (Nat.le_refl _) (dz D hg _ (by rw [hZ]; exact .inl rfl)) (hI _ _ _ _ hi (hb'.mono fun b _ e => ⟨by omega, fun h => dz D hg b (by rw [hZ]; exact .inr e) h⟩)) (key _ hb') (fun b h => (hg b h).imp id (fun h2 => by omega)) ?_
      have := edl _ _ hd hb'
      rw [hEd] at this
      exact this
    · have hend := run_endLoop (P := P) hl (by rw [hrec]; simp)
      have hb' := but_putObj X (w.heap.size + 1) (.loop { (rec .done (some c) : Loop) with state := .exhausted })
      have hpe : (rec .done (some c)).pending = some c := by rw [hrec]
      refine ⟨some c, _, hend.trans (congrArg (fun c => Result.ok c _) hpe), ?_⟩
      refine hstop w.heap.size c pre D _ (Nat.le_refl _) (dz D hg _ (by rw [hZ]; exact .inl rfl)) hpre (hIx c _ _ _ _ hi (hb'.mono fun b _ e => ⟨by omega, fun h => dz D hg b (by rw [hZ]; exact .inr e) h⟩)) (key _ hb') (fun b h => (hg b h).imp id (fun h2 => by omega)) ?_
      have := edl _ _ hd hb'
      rw [hEd] at this
      exact this
end
end Go.Proofs.YteabkcbajpjkoaaGreatDoor
/- Walk: is a land small? Walk: is a state light enough to ask of it? Walk: equal lists of notes. -/
namespace Go.Proofs.YteabkcbajpjkoaaGreatDoor
open Go Go.RowKit
set_option linter.unusedVariables false
/-- equal notes -/
def eqN (x y : N6) : Bool := x.st == y.st && x.fr == y.fr && x.to == y.to && x.ce == y.ce && x.di == y.di && x.co == y.co
theorem eqN_iff {x y : N6} : eqN x y = true ↔ x = y := by
  unfold eqN
  constructor
  · intro h
    simp only [Bool.and_eq_true, beq_iff_eq] at h
    obtain ⟨⟨⟨⟨⟨h0, h1⟩, h2⟩, h3⟩, h4⟩, h5⟩ := h
    cases x; cases y; simp_all
  · rintro rfl; simp
set_option maxRecDepth 100000 in
theorem equalIn_note (k : Nat) (w : World) (x y : N6) : (Op.equalIn (k + 2) 30 (.agg #[.int .i64 x.st, .int .i64 x.fr, .int .i64 x.to, .int .i64 x.ce, .int .i64 x.di, .int .i64 x.co]) (.agg #[.int .i64 y.st, .int .i64 y.fr, .int .i64 y.to, .int .i64 y.ce, .int .i64 y.di, .int .i64 y.co])).run Tryz.prog w = .ok (eqN x y) w := by
  rw [run_equalIn_struct w (k + 1) _ _ _ (by kernel_rfl) (by kernel_rfl)]
  have key : (Tryz.prog.fieldsOf 30).toList.map (fun f => (f.type, f.offset, f.name == "_")) = [(3, 0, false), (3, 1, false), (3, 2, false), (3, 3, false), (3, 4, false), (3, 5, false)] := by kernel_rfl
  generalize (Tryz.prog.fieldsOf 30).toList = l at key ⊢
  rcases l with _ | ⟨f0, _ | ⟨f1, _ | ⟨f2, _ | ⟨f3, _ | ⟨f4, _ | ⟨f5, _ | ⟨f6, l⟩⟩⟩⟩⟩⟩⟩
  · simp at key
  · simp at key
  · simp at key
  · simp at key
  · simp at key
  · simp at key
  · skip
    simp only [List.map_cons, List.map_nil, List.cons.injEq, Prod.mk.injEq, and_true] at key
    obtain ⟨⟨t0, o0, m0⟩, ⟨t1, o1, m1⟩, ⟨t2, o2, m2⟩, ⟨t3, o3, m3⟩, ⟨t4, o4, m4⟩, t5, o5, m5⟩ := key
    have m0' : ¬ f0.name = "_" := by simpa using m0
    have m1' : ¬ f1.name = "_" := by simpa using m1
    have m2' : ¬ f2.name = "_" := by simpa using m2
    have m3' : ¬ f3.name = "_" := by simpa using m3
    have m4' : ¬ f4.name = "_" := by simpa using m4
    have m5' : ¬ f5.name = "_" := by simpa using m5
    simp [Op.eqFields, t0, o0, t1, o1, t2, o2, t3, o3, t4, o4, t5, o5, go_sem, m0', m1', m2', m3', m4', m5', eqN]
    by_cases h0 : x.st = y.st <;> by_cases h1 : x.fr = y.fr <;> by_cases h2 : x.to = y.to <;> by_cases h3 : x.ce = y.ce <;> by_cases h4 : x.di = y.di <;> by_cases h5 : x.co = y.co <;> simp [h0, h1, h2, h3, h4, h5]
  · simp at key
theorem neq_note (x y : N6) (w : World) : (binOp .neq 30 (.agg #[.int .i64 x.st, .int .i64 x.fr, .int .i64 x.to, .int .i64 x.ce, .int .i64 x.di, .int .i64 x.co]) (.agg #[.int .i64 y.st, .int .i64 y.fr, .int .i64 y.to, .int .i64 y.ce, .int .i64 y.di, .int .i64 y.co])).run Tryz.prog w = .ok (.bool (!eqN x y)) w := by
  simp only [binOp]
  simp [Op.equal, Op.maxDepth, equalIn_note 9998]
/-- equal lists of notes -/
def sameN (n : Nat) (f : Nat → N6) (m : Nat) (g : Nat → N6) : Bool := decide (n = m) && (List.range n).all fun k => eqN (f k) (g k)
theorem sameN_iff {n : Nat} {f : Nat → N6} {m : Nat} {g : Nat → N6} : sameN n f m g = true ↔ (n = m ∧ ∀ k, k < n → f k = g k) := by simp [sameN, eqN_iff]
theorem sameN_no {n : Nat} {f : Nat → N6} {m : Nat} {g : Nat → N6} : sameN n f m g = false ↔ ¬ (n = m ∧ ∀ k, k < n → f k = g k) := by rw [← sameN_iff]; simp
theorem sameN_self (n : Nat) (f : Nat → N6) : sameN n f n f = true := sameN_iff.2 ⟨rfl, fun _ _ => rfl⟩
set_option maxRecDepth 100000 in
set_option maxHeartbeats 2000000 in
theorem ref5_SameNotes (a b : Option Addr) (n m cap cap' : Nat) (f g : Nat → N6) (w : World) (hn : n ≤ 100000000) (hm : m ≤ 100000000) (H : Sn w a n f) (H' : Sn w b m g) :
    Calls Tryz.prog 7 #[.slice a n cap, .slice b m cap'] w fun e w' => e = .returned (.bool (sameN n f m g)) ∧ Below w.heap.size w w' := by
  cases hne : ((n : Int) != m)
  · have hnm : n = m := by simp at hne; omega
    subst hnm
    go_enter Tryz.func7, Tryz.ntmps7
    go_wp2
    go_loopw [5] (fun i wr => ∃ k : Nat, k ≤ n ∧ i = .int .i64 k ∧ (∀ j, j < k → f j = g j) ∧ Below w.heap.size w wr) (fun i _ => n - (intOf i).toNat)
    case atStart => exact ⟨0, Nat.zero_le _, rfl, fun j hj => by omega, by (repeat' (first | with_reducible assumption | with_reducible exact Below.refl _ _ | with_reducible refine Below.drew ?_ | with_reducible refine below_drewN ?_ _ | with_reducible refine balloc ?_ _ | with_reducible refine bset ?_ ?_ _ | with_reducible refine Below.setCell ?_ ?_ _ | with_reducible refine Below.alloc ?_ ?_ _ | omega | (simp; done) | (simp; omega)))⟩
    case round =>
      obtain ⟨k, hk, rfl, hok, hB⟩ := hrel
      have HOK := hid hok; clear hok
      by_cases hlt : k < n
      · obtain ⟨b1, o1, rfl, _, c0, c1, c2, c3, c4, c5⟩ := (H.below hB).six hlt
        obtain ⟨b2, o2, rfl, _, d0, d1, d2, d3, d4, d5⟩ := (H'.below hB).six hlt
        have hq := neq_note (f k) (g k)
        cases he : eqN (f k) (g k)
        · have he' : ¬ f k = g k := fun e => by rw [eqN_iff.2 e] at he; cases he
          have HE := hid he'
          rw [he] at hq
          clear he he'
          go_wp2
          go_quiet (fail)
          go_wp2
          go_ret
          exact ⟨ret_bool (sameN_no.2 (fun h => HE.out (h.2 k hlt))).symm, by (repeat' (first | with_reducible assumption | with_reducible exact Below.refl _ _ | with_reducible refine Below.drew ?_ | with_reducible refine below_drewN ?_ _ | with_reducible refine balloc ?_ _ | with_reducible refine bset ?_ ?_ _ | with_reducible refine Below.setCell ?_ ?_ _ | with_reducible refine Below.alloc ?_ ?_ _ | omega | (simp; done) | (simp; omega)))⟩
        · have HE := hid (eqN_iff.1 he)
          rw [he] at hq
          clear he
          go_wp2
          go_quiet (fail)
          go_wp2
          go_roundw
          case rel => exact ⟨k + 1, by omega, by go_num, fun j hj => by
              rcases Nat.lt_succ_iff_lt_or_eq.1 hj with h' | rfl
              · exact HOK.out j h'
              · exact HE.out, by (repeat' (first | with_reducible assumption | with_reducible exact Below.refl _ _ | with_reducible refine Below.drew ?_ | with_reducible refine below_drewN ?_ _ | with_reducible refine balloc ?_ _ | with_reducible refine bset ?_ ?_ _ | with_reducible refine Below.setCell ?_ ?_ _ | with_reducible refine Below.alloc ?_ ?_ _ | omega | (simp; done) | (simp; omega)))⟩
          case measure => simp [intOf]; omega
      · go_wp2
        go_ret
        obtain rfl : k = n := (by omega)
        exact ⟨ret_bool (sameN_iff.2 ⟨rfl, HOK.out⟩).symm, hB⟩
  · have hnm : ¬ n = m := by simp at hne; omega
    go_enter Tryz.func7, Tryz.ntmps7
    go_wp2
    go_ret
    exact ⟨ret_bool (sameN_no.2 (fun h => hnm h.1)).symm, by (repeat' (first | with_reducible assumption | with_reducible exact Below.refl _ _ | with_reducible refine Below.drew ?_ | with_reducible refine below_drewN ?_ _ | with_reducible refine balloc ?_ _ | with_reducible refine bset ?_ ?_ _ | with_reducible refine Below.setCell ?_ ?_ _ | with_reducible refine Below.alloc ?_ ?_ _ | omega | (simp; done) | (simp; omega)))⟩
end Go.Proofs.YteabkcbajpjkoaaGreatDoor
/- How plain arguments read: ints and lists of ints. How the arguments of this seat's laws read: opened to cells. -/
namespace Go.Proofs.YteabkcbajpjkoaaGreatDoor
open Go.ChangeShapes Go.WideShapes Go.ChangeAt Go.RowKit Go.Deep
set_option linter.unusedVariables false
theorem Tryz.cells3 : Tryz.prog.cellsOf 3 = 1 := by kernel_rfl
section
variable {H : Type} {enc : TypeId × Value → H} {w : World} {spare : Nat → Bool} {held : Bool} {fuel : Nat} {cs : List Value} {x : DataW H × List MemPlace}
theorem lift_int (h : DataW.trod enc Tryz.prog w 0 spare held fuel 3 cs = some x) : ∃ n : Int, cs = [.int .i64 n] ∧ (Lit.int .i64 n).wf = true := by
  obtain ⟨n, h1, _, h3⟩ := DataW.trod_int Tryz.underlying3 h
  exact ⟨n, h1, h3⟩
end
theorem slice_of {a a' : Option Addr} {n n' c c' : Nat} (h : (Value.slice a n c).cells.toList = [.slice a' n' c']) : a = a' ∧ n = n' ∧ c = c' := by
  simpa [Value.cells] using h
theorem own : ownKnob Tryz.prog.godebug = none := by kernel_rfl
theorem laidOut : laidOutB Tryz.prog = true := by kernel_rfl
end Go.Proofs.YteabkcbajpjkoaaGreatDoor
namespace Go.Proofs.YteabkcbajpjkoaaGreatDoor
open Go.ChangeShapes Go.WideShapes Go.ChangeAt Go.RowKit Go.Deep
set_option linter.unusedVariables false
section
variable {H : Type} {enc : TypeId × Value → H} {P : Program} {w : World} {spare : Nat → Bool} {held : Bool} {fuel : Nat} {cs : List Value} {x : DataW H × List MemPlace}
end
section
variable {H : Type} {enc : TypeId × Value → H} {w : World} {spare : Nat → Bool} {held : Bool} {fuel : Nat} {cs : List Value} {x : DataW H × List MemPlace}
end
end Go.Proofs.YteabkcbajpjkoaaGreatDoor
