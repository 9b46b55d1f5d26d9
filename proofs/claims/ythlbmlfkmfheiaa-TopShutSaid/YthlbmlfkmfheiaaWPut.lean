/- Plain words: bricks put into a wall; walk: wall.put. -/
import Derived.Test.YthlbmlfkmfheiaaKinds
namespace Go.Proofs.Ythlbmlfkmfheiaa
open Go Go.RowKit
attribute [local go_sem] Oper.semAt_some
attribute [local go_sem ↓] Go.wp_at_zero Go.wp_at_succ
set_option linter.unusedVariables false
def bOn (wide high : Int) (b : Brick) : Bool := onB wide high b.1.1 b.1.2
def bIdx (wide : Int) (b : Brick) : Nat := (b.1.1 + wide * b.1.2).toNat
def putLK (wide high : Int) (L : List Brick) (K : Nat → Int) : Nat → Int := L.foldl (fun f b => if bOn wide high b then upd f (bIdx wide b) b.2 else f) K
def putLB (wide high body : Int) (L : List Brick) (B : Nat → Int) : Nat → Int := L.foldl (fun f b => if bOn wide high b then upd f (bIdx wide b) body else f) B
/-- a brick that is on the grid and meets another body's cell -/
def bBad (wide high body : Int) (B : Nat → Int) (b : Brick) : Prop := bOn wide high b = true ∧ B (bIdx wide b) ≠ 0 ∧ B (bIdx wide b) ≠ body
theorem putLK_snoc (wide high : Int) (L : List Brick) (b : Brick) (K : Nat → Int) : putLK wide high (L ++ [b]) K = if bOn wide high b then upd (putLK wide high L K) (bIdx wide b) b.2 else putLK wide high L K := by simp [putLK, List.foldl_append]
theorem putLB_snoc (wide high body : Int) (L : List Brick) (b : Brick) (B : Nat → Int) : putLB wide high body (L ++ [b]) B = if bOn wide high b then upd (putLB wide high body L B) (bIdx wide b) body else putLB wide high body L B := by simp [putLB, List.foldl_append]
theorem snoc_ind {α : Type} {p : List α → Prop} (h0 : p []) (h1 : ∀ l a, p l → p (l ++ [a])) : ∀ l, p l := by
  intro l
  have : ∀ n (l : List α), l.length = n → p l := by
    intro n
    induction n with
    | zero => intro l hl; rw [List.eq_nil_of_length_eq_zero hl]; exact h0
    | succ n ih =>
      intro l hl
      have hne : l ≠ [] := by intro e; rw [e] at hl; cases hl
      rw [← List.dropLast_concat_getLast hne]
      exact h1 _ _ (ih _ (by simp [hl]))
  exact this _ l rfl
theorem putLB_or (wide high body : Int) (B : Nat → Int) (j : Nat) : ∀ L, putLB wide high body L B j = B j ∨ putLB wide high body L B j = body := by
  refine snoc_ind (.inl rfl) (fun L b h => ?_)
  rw [putLB_snoc]
  split
  · unfold upd; split
    · exact .inr rfl
    · exact h
  · exact h
theorem putLB_keep (wide high body : Int) (B : Nat → Int) (j : Nat) (h0 : B j ≠ 0) (h1 : B j ≠ body) : ∀ L, (∀ b, b ∈ L → ¬ bBad wide high body B b) → putLB wide high body L B j = B j := by
  refine snoc_ind (fun _ => rfl) (fun L b h hb => ?_)
  have ih := h (fun x hx => hb x (by simp [hx]))
  rw [putLB_snoc]
  split
  · rename_i hon
    unfold upd; split
    · rename_i e
      exact absurd ⟨hon, by rw [← e]; exact h0, by rw [← e]; exact h1⟩ (hb b (by simp))
    · exact ih
  · exact ih
/-- the test of a place -/
theorem putLB_test {wide high body : Int} {B : Nat → Int} {j : Nat} {L : List Brick} (h : ∀ b, b ∈ L → ¬ bBad wide high body B b) : (putLB wide high body L B j ≠ 0 ∧ putLB wide high body L B j ≠ body) ↔ (B j ≠ 0 ∧ B j ≠ body) := by
  constructor
  · intro ⟨a, b⟩
    rcases putLB_or wide high body B j L with e | e
    · rw [e] at a b; exact ⟨a, b⟩
    · exact absurd e b
  · intro ⟨a, b⟩
    rw [putLB_keep wide high body B j a b L h]
    exact ⟨a, b⟩
open Classical in
noncomputable def lErr (wide high body : Int) (B : Nat → Int) (L : List Brick) : Int := if ∃ b, b ∈ L ∧ bBad wide high body B b then 11 else 0
open Classical in
noncomputable def lLen (wide high body : Int) (B : Nat → Int) (L : List Brick) (n : Nat) : Nat := if ∃ b, b ∈ L ∧ bBad wide high body B b then 0 else n
theorem Ro.but {C : Nat → Prop} {X Y : World} {b n : Nat} {f : Nat → Int} (h : Ro X b n f) (hb : But C X Y) (hc : ¬ C b) : Ro Y b n f := by
  have e := hb.block b h.lt hc
  refine ⟨Nat.lt_of_lt_of_le h.lt hb.size, fun i hi => ?_, fun i => ?_⟩
  · rw [World.cell?_of_block (w := X) (a := ⟨b, i, none⟩) e]; exact h.cells i hi
  · rw [World.frozen?_of_block (w := X) (a := ⟨b, i, none⟩) e]; exact h.free i
theorem Bx.one {W : World} {b : Nat} {x y : Value} (h : Bx W b #[x]) : Bx (W.setCell ⟨b, 0, none⟩ y) b #[y] := h.set_ 0 (by simp) y
/-- put's own blocks -/
structure PB (wide high body : Int) (n c gk ck gb cb s z : Nat) (a : Option Addr) (v5 : Array Value) (K B : Nat → Int) (w X : World) : Prop where
  fg : Bx X s #[.int .i64 wide, .int .i64 high, .slice a n c]
  fw : Bx X (s + 1) v5
  fb : Bx X (s + 1 + 1) #[.int .i64 body]
  fr : Bx X (s + 1 + 1 + 1) #[.slice none 0 0, .slice none 0 0]
  fe : Bx X (s + 1 + 1 + 1 + 1) #[.int .i64 0]
  fo : Bx X z #[.slice (some ⟨gk, 0, none⟩) n ck, .slice (some ⟨gb, 0, none⟩) n cb]
  fk : Ro X gk n K
  fl : Ro X gb n B
  bel : Below w.heap.size w X
theorem PB.but {wide high body : Int} {n c gk ck gb cb s z M : Nat} {a : Option Addr} {v5 : Array Value} {K B : Nat → Int} {w X Y : World} (h : PB wide high body n c gk ck gb cb s z a v5 K B w X) {C : Nat → Prop} (hb : But C X Y) (hC : ∀ b, C b → w.heap.size ≤ b ∧ M ≤ b)
    (hs : s = w.heap.size) (hm : s + 4 < M ∧ z < M ∧ gk < M ∧ gb < M) : PB wide high body n c gk ck gb cb s z a v5 K B w Y := by
  have hn : ∀ b, b < M → ¬ C b := fun b hb h => by have := (hC b h).2; omega
  exact ⟨h.fg.but hb (hn _ (by omega)), h.fw.but hb (hn _ (by omega)), h.fb.but hb (hn _ (by omega)), h.fr.but hb (hn _ (by omega)), h.fe.but hb (hn _ (by omega)), h.fo.but hb (hn _ (by omega)), h.fk.but hb (hn _ (by omega)), h.fl.but hb (hn _ (by omega)),
    h.bel.trans ⟨hb.os, hb.tape, hb.output, hb.size, fun b hb' => hb.block b (by have := h.bel.size; omega) (fun h' => by have := (hC b h').1; omega)⟩⟩
/-- the word between two rounds of put's loop -/
def PW (wide high body : Int) (n c gk ck gb cb z M : Nat) (a : Option Addr) (v5 : Array Value) (K B : Nat → Int) (w : World) (pre : List Brick) (C : Nat → Prop) (X : World) : Prop :=
  C = (fun b => w.heap.size ≤ b ∧ b < M) ∧ PB wide high body n c gk ck gb cb w.heap.size z a v5 (putLK wide high pre K) (putLB wide high body pre B) w X ∧ (∀ b, b ∈ pre → ¬ bBad wide high body B b) ∧ M ≤ X.heap.size
/-- .. and where a round has met another body -/
def PX (wide high body : Int) (B : Nat → Int) (M : Nat) (w : World) (c : Code) (pre : List Brick) (C : Nat → Prop) (X : World) : Prop :=
  c = .ret ∧ C = (fun b => w.heap.size ≤ b ∧ b < M) ∧ Bx X (w.heap.size + 1 + 1 + 1) #[.slice none 0 0, .slice none 0 0] ∧ Bx X (w.heap.size + 1 + 1 + 1 + 1) #[.int .i64 11] ∧ (∃ b, b ∈ pre ∧ bBad wide high body B b) ∧ Below w.heap.size w X ∧ w.heap.size + 4 < M ∧ M ≤ X.heap.size
theorem pw_stab {wide high body : Int} {n c gk ck gb cb z M : Nat} {a : Option Addr} {v5 : Array Value} {K B : Nat → Int} {w : World} (hm : w.heap.size + 4 < M ∧ z < M ∧ gk < M ∧ gb < M) : Stab w.heap.size (PW wide high body n c gk ck gb cb z M a v5 K B w) := by
  rintro pre C X Y ⟨rfl, hp, hb, hz⟩ hbut
  exact ⟨rfl, hp.but (M := M) hbut (fun b h => ⟨h.1, by have := h.1; have := h.2; omega⟩) rfl hm, hb, Nat.le_trans hz hbut.size⟩
theorem px_stab {wide high body : Int} {M : Nat} {B : Nat → Int} {w : World} (c : Code) : Stab w.heap.size (PX wide high body B M w c) := by
  rintro pre C X Y ⟨e, rfl, h1, h2, h3, h4, h5, h6⟩ hbut
  refine ⟨e, rfl, h1.but hbut (by omega), h2.but hbut (by omega), h3, h4.trans ⟨hbut.os, hbut.tape, hbut.output, hbut.size, fun b hb' => hbut.block b (by have := h4.size; omega) (by omega)⟩, h5, Nat.le_trans h6 hbut.size⟩
end Go.Proofs.Ythlbmlfkmfheiaa
