/- Walks: the iterator that gives each place of another one a kind. -/
import Derived.Test.YthlbmlfkmfheiaaAll
namespace Go.Proofs.Ythlbmlfkmfheiaa
open Go Go.RowKit
attribute [local go_sem] Oper.semAt_some
attribute [local go_sem ↓] Go.wp_at_zero Go.wp_at_succ
set_option linter.unusedVariables false
abbrev Brick := (Int × Int) × Int
def encK (b : Brick) : Array Value := #[.agg #[.int .i64 b.1.1, .int .i64 b.1.2, .int .i64 b.2]]
def mkK (f : Int → Int → Int) (p : Int × Int) : Brick := (p, f p.1 p.2)
theorem prefix_map {α β : Type} (f : α → β) {l m : List α} (h : l <+: m) : l.map f <+: m.map f := by
  obtain ⟨t, rfl⟩ := h; exact ⟨t.map f, by simp⟩
/-- the word between two rounds of kinds' own loop -/
def KW (J : List Brick → (Nat → Prop) → World → Prop) (f : Int → Int → Int) (z l : Nat) (C₀ : Nat → Prop) (W : World) (pre : List (Int × Int)) (C : Nat → Prop) (X : World) : Prop :=
  ∃ Cj, C = (fun b => Cj b ∨ b = z) ∧ J (pre.map (mkK f)) Cj X ∧ Bx X z #[.func (.yield l) #[] #[]] ∧ Grw C₀ Cj W
def KX (J : List Brick → (Nat → Prop) → World → Prop) (f : Int → Int → Int) (z : Nat) (C₀ : Nat → Prop) (W : World) (c : Code) (pre : List (Int × Int)) (C : Nat → Prop) (X : World) : Prop :=
  c = .ret ∧ ∃ Cj, C = (fun b => Cj b ∨ b = z) ∧ J (pre.map (mkK f)) Cj X ∧ Grw C₀ Cj W
theorem kw_stab {J : List Brick → (Nat → Prop) → World → Prop} {f : Int → Int → Int} {z l : Nat} {C₀ : Nat → Prop} {W : World} {n₀ : Nat} (hJ : Stab n₀ J) : Stab n₀ (KW J f z l C₀ W) := by
  rintro pre C A B ⟨Cj, rfl, hj, hx, hg⟩ hbut
  exact ⟨Cj, rfl, hJ _ Cj A B hj (hbut.mono fun b _ h => ⟨h.1, fun h2 => h.2 (.inl h2)⟩), hx.but hbut (fun h => h.2 (.inr rfl)), hg⟩
theorem kx_stab {J : List Brick → (Nat → Prop) → World → Prop} {f : Int → Int → Int} {z : Nat} {C₀ : Nat → Prop} {W : World} {n₀ : Nat} (hJ : Stab n₀ J) (c : Code) : Stab n₀ (KX J f z C₀ W c) := by
  rintro pre C A B ⟨e, Cj, rfl, hj, hg⟩ hbut
  exact ⟨e, Cj, rfl, hJ _ Cj A B hj (hbut.mono fun b _ h => ⟨h.1, fun h2 => h.2 (.inl h2)⟩), hg⟩
end Go.Proofs.Ythlbmlfkmfheiaa
