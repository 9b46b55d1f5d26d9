/- Walks: the reference's Run, Undo, Step and Back of a grid in walls. -/
import Derived.Test.YthlbmlfkmfheiaaRefMet
import Derived.Test.YthlbmlfkmfheiaaRunErr
namespace Go.Proofs.Ythlbmlfkmfheiaa
open Go Go.RowKit
set_option linter.unusedVariables false
/-- a grid and an error -/
def GridPost (er W H : Int) (n : Nat) (g : Nat → C4) (w : World) (e : Ending) (w' : World) : Prop :=
  ∃ a c, e = .returned (.tuple #[.agg #[.int .i64 W, .int .i64 H, .slice a n c], .int .i64 er]) ∧ Sc w' a n g ∧ (∀ b off, a = some ⟨b, off, none⟩ → w.heap.size ≤ b) ∧ Below w.heap.size w w'
def erZ (er x : Int) : Int := if er = 0 then x else 0
def erN (er : Int) (n : Nat) : Nat := if er = 0 then n else 0
theorem gridPost_none {er W H : Int} {n : Nat} {g : Nat → C4} {w w' : World} (he : er ≠ 0) (hb : Below w.heap.size w w') : GridPost er (erZ er W) (erZ er H) (erN er n) g w (.returned (.tuple #[.agg #[.int .i64 0, .int .i64 0, .slice none 0 0], .int .i64 er])) w' := by
  refine ⟨none, 0, ?_, ?_, (fun b off h => by cases h), hb⟩
  · simp [erZ, erN, he]
  · intro k hk; simp [erN, he] at hk
theorem gridPost_row {W H n b cap : Nat} {g : Nat → C4} {w w' : World} (R : Ro w' b (n * 4) (flatC g)) (hge : w.heap.size ≤ b) (hb : Below w.heap.size w w') : GridPost 0 (erZ 0 (W : Int)) (erZ 0 (H : Int)) (erN 0 n) g w (.returned (.tuple #[.agg #[.int .i64 (W : Int), .int .i64 (H : Int), .slice (some ⟨b, 0, none⟩) n cap], .int .i64 0])) w' :=
  ⟨some ⟨b, 0, none⟩, cap, rfl, R.sc, (fun b' off h => by injection h with h; injection h with h _ _; omega), hb⟩
theorem Sc.far {W : World} {a : Option Addr} {n : Nat} {g : Nat → C4} (h : Sc W a n g) {p : Addr} (hp : ∀ b off, a = some ⟨b, off, none⟩ → p.block ≠ b) (u : Value) : Sc (W.setCell p u) a n g := fun k hk => by
  obtain ⟨b, off, e, h1, h2, h3, h4, h5⟩ := h k hk
  have hne := hp b off e
  refine ⟨b, off, e, by simpa [World.setCell] using h1, ?_, ?_, ?_, ?_⟩
  all_goals
    rw [World.cell?_setCell_other _ _ _ _ (fun e' => hne (by rw [e']))]
    assumption
/-- the rule of a step -/
def rlAt (nr : Nat) (r : Nat → Int × Int) (s : Nat) : Int × Int := r (s % nr)
theorem rnE_zero {v u s : Bool} (h : rnE v u s = 0) : v = true ∧ u = true ∧ s = true := by
  cases v <;> cases u <;> cases s <;> simp [rnE] at h ⊢
/-- what a run that has no error has -/
theorem run_ok {wide high : Int} {n nk nb nr : Nat} {g : Nat → C4} {K B : Nat → Int} {r : Nat → Int × Int} {t m : Int} (h : rnE (validW wide high n g nk nb K B) (rulesB nr r) (timesB t m) = 0) :
    ∃ W H T M : Nat, wide = W ∧ high = H ∧ t = T ∧ m = M ∧ (1 ≤ W ∧ W ≤ 64) ∧ (1 ≤ H ∧ H ≤ 64) ∧ n = W * H ∧ nk = W * H ∧ nb = W * H ∧ okG (W * H) g ∧ (∀ i, i < W * H → 0 ≤ K i ∧ K i ≤ 3) ∧ 0 < nr ∧ nr ≤ 8 ∧ (∀ s, ruleOk (rlAt nr r s).1 (rlAt nr r s).2) ∧ T ≤ 1000000 ∧ M ≤ 1000 ∧ (∀ i, i < M → T + i ≤ 1000000) := by
  obtain ⟨h1, h2, h3⟩ := rnE_zero h
  obtain ⟨g1, g2, g3, g4⟩ := (validW_iff _ _ _ _ _ _ _ _).1 h1
  obtain ⟨a1, a2, a3, a4, a5, a6, a7, a8⟩ := (validG_iff _ _ _ _).1 g1
  obtain ⟨c1, c2, c3⟩ := (rulesB_iff _ _).1 h2
  obtain ⟨d1, d2, d3, d4, d5⟩ := (timesB_iff _ _).1 h3
  have en : n = wide.toNat * high.toNat := by
    have e1 : wide = (wide.toNat : Int) := by omega
    have e2 : high = (high.toNat : Int) := by omega
    rw [e1, e2] at a6
    exact_mod_cast a6
  subst en
  refine ⟨wide.toNat, high.toNat, t.toNat, m.toNat, by omega, by omega, by omega, by omega, by omega, by omega, rfl, g2, g3, ⟨a7, a8⟩, fun i hi => ⟨(g4 i hi).1, (g4 i hi).2.1⟩, by omega, c2, fun s => (ruleB_iff _ _).1 (c3 _ (Nat.mod_lt _ (by omega))), by omega, by omega, fun i hi => by omega⟩
end Go.Proofs.Ythlbmlfkmfheiaa
