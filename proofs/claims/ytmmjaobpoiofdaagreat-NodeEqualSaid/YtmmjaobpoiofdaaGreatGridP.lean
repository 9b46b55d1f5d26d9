/- Plain words: what a function leaves that returns a grid and an error. -/
import Derived.Test.YtmmjaobpoiofdaaGreatCRow
namespace Go.Proofs.YtmmjaobpoiofdaaGreat
open Go Go.RowKit
set_option linter.unusedVariables false
/-- a grid and an error -/
def GridPost (er W H : Int) (n : Nat) (g : Nat → C4) (w : World) (e : Ending) (w' : World) : Prop :=
  ∃ a c, e = .returned (.tuple #[.agg #[.int .i64 W, .int .i64 H, .slice a n c], .int .i64 er]) ∧ Sc w' a n g ∧ (∀ b off, a = some ⟨b, off, none⟩ → w.heap.size ≤ b) ∧ Below w.heap.size w w'
def erZ (er x : Int) : Int := if er = 0 then x else 0
def erN (er : Int) (n : Nat) : Nat := if er = 0 then n else 0
theorem gridPost_none {er W H : Int} {n : Nat} {g : Nat → C4} {w w' : World} (he : er ≠ 0) (hb : Below w.heap.size w w') : GridPost er (erZ er W) (erZ er H) (erN er n) g w (.returned (.tuple #[.agg #[.int .i64 0, .int .i64 0, .slice none 0 0], .int .i64 er])) w' := by
  refine ⟨none, 0, ?_, ?_, (fun b off h => by cases h), hb⟩
  · simp [erZ, erN, he]
  · intro k hk; simp [erN, he] at hk
theorem gridPost_row {W H n b cap : Nat} {g : Nat → C4} {w w' : World} (R : Ro w' b (n * 4) (flatC g)) (hge : w.heap.size ≤ b) (hb : Below w.heap.size w w') : GridPost 0 (erZ 0 (W : Int)) (erZ 0 (H : Int)) (erN 0 n) g w (.returned (.tuple #[.agg #[.int .i64 (W : Int), .int .i64 (H : Int), .slice (some ⟨b, 0, none⟩) n cap], .int .i64 0])) w' :=
  ⟨some ⟨b, 0, none⟩, cap, rfl, R.sc, (fun b' off h => by injection h with h; injection h with h _ _; omega), hb⟩
theorem Sc.far {W : World} {a : Option Addr} {n : Nat} {g : Nat → C4} (h : Sc W a n g) {p : Addr} (hp : ∀ b off, a = some ⟨b, off, none⟩ → p.block ≠ b) (u : Value) : Sc (W.setCell p u) a n g := fun k hk => by
  obtain ⟨b, off, e, h1, h2, h3, h4, h5⟩ := h k hk
  have hne := hp b off e
  refine ⟨b, off, e, by simpa [World.setCell] using h1, ?_, ?_, ?_, ?_⟩
  all_goals
    rw [World.cell?_setCell_other _ _ _ _ (fun e' => hne (by rw [e']))]
    assumption
end Go.Proofs.YtmmjaobpoiofdaaGreat
