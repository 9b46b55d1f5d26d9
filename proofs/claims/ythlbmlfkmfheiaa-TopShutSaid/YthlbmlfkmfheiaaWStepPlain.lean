/- Plain laws of steps in walls: a run keeps grids valid, and is undone. No program in sight. -/
import Derived.Test.YthlbmlfkmfheiaaStepPlain
import Derived.Test.YthlbmlfkmfheiaaSent3
namespace Go.Proofs.Ythlbmlfkmfheiaa
set_option linter.unusedVariables false
theorem sentC_valid {c : C4} {k : Int} (h : validC c = true) : validC (sentC c k) = true := by
  rw [validC_iff] at *
  unfold sentC
  repeat' split
  all_goals ((try dsimp only); omega)
theorem sentC_mass (c : C4) (k : Int) : (sentC c k).mass = c.mass := by
  unfold sentC C4.mass
  repeat' split
  all_goals first | rfl | ((try dsimp only); omega)
theorem sentC_back (c : C4) (k : Int) : sentC (sentC c k) k = c := by
  unfold sentC
  repeat' split
  all_goals rfl
/-- all cells have collided, or walls have sent -/
def metF (k b : Int) (K : Nat → Int) (g : Nat → C4) : Nat → C4 := fun i => if K i = 0 then coll k b (g i) else sentC (g i) (K i)
theorem metF_mass (k b : Int) (K : Nat → Int) (g : Nat → C4) (n : Nat) : massTo (metF k b K g) n = massTo g n :=
  massTo_congr fun i _ => by unfold metF; split; exact coll_mass _ _ _; exact sentC_mass _ _
theorem metF_valid {k b : Int} {K : Nat → Int} {g : Nat → C4} {n : Nat} (h : ∀ i, i < n → validC (g i) = true) : ∀ i, i < n → validC (metF k b K g i) = true := fun i hi => by
  unfold metF; split
  · exact coll_valid (h i hi)
  · exact sentC_valid (h i hi)
theorem metF_back {k b : Int} {K : Nat → Int} {g : Nat → C4} {i : Nat} (h : validC (g i) = true) : metF k (-b) K (metF k b K g) i = g i := by
  unfold metF
  split
  · exact coll_back h
  · exact sentC_back _ _
theorem metF_congr {k b : Int} {K : Nat → Int} {g h : Nat → C4} {i : Nat} (e : g i = h i) : metF k b K g i = metF k b K h i := by unfold metF; rw [e]
theorem flow_congr {W H : Nat} {g h : Nat → C4} (e : ∀ i, i < W * H → g i = h i) {i : Nat} (hi : i < W * H) : flow W H g i = flow W H h i := by
  simp only [flow, e _ (nbT_lt hi (show 0 < 4 by omega)), e _ (nbT_lt hi (show 1 < 4 by omega)), e _ (nbT_lt hi (show 2 < 4 by omega)), e _ (nbT_lt hi (show 3 < 4 by omega))]
theorem ebb_congr {W H : Nat} {g h : Nat → C4} (e : ∀ i, i < W * H → g i = h i) {i : Nat} (hi : i < W * H) : ebb W H g i = ebb W H h i := by
  simp only [ebb, e _ (nbT_lt hi (show 0 < 4 by omega)), e _ (nbT_lt hi (show 1 < 4 by omega)), e _ (nbT_lt hi (show 2 < 4 by omega)), e _ (nbT_lt hi (show 3 < 4 by omega))]
/-- a step, and a step back -/
def stepW (W H : Nat) (r : Int × Int) (K : Nat → Int) (g : Nat → C4) : Nat → C4 := flow W H (metF r.1 r.2 K g)
def backW (W H : Nat) (r : Int × Int) (K : Nat → Int) (g : Nat → C4) : Nat → C4 := metF r.1 (-r.2) K (ebb W H g)
/-- a valid grid, by its cells -/
def okG (n : Nat) (g : Nat → C4) : Prop := (∀ i, i < n → validC (g i) = true) ∧ massTo g n ≤ 1000000000
theorem stepW_ok {W H : Nat} {r : Int × Int} {K : Nat → Int} {g : Nat → C4} (h : okG (W * H) g) : okG (W * H) (stepW W H r K g) :=
  ⟨flow_valid (metF_valid h.1) (by rw [metF_mass]; exact h.2), by unfold stepW; rw [flow_mass, metF_mass]; exact h.2⟩
theorem backW_ok {W H : Nat} {r : Int × Int} {K : Nat → Int} {g : Nat → C4} (h : okG (W * H) g) : okG (W * H) (backW W H r K g) :=
  ⟨metF_valid (ebb_valid h.1 h.2), by unfold backW; rw [metF_mass, ebb_mass]; exact h.2⟩
theorem backW_stepW {W H : Nat} {r : Int × Int} {K : Nat → Int} {g : Nat → C4} (h : okG (W * H) g) : ∀ i, i < W * H → backW W H r K (stepW W H r K g) i = g i := fun i hi => by
  unfold backW stepW
  rw [metF_congr (ebb_flow _ hi)]
  exact metF_back (h.1 i hi)
theorem stepW_congr {W H : Nat} {r : Int × Int} {K : Nat → Int} {g h : Nat → C4} (e : ∀ i, i < W * H → g i = h i) : ∀ i, i < W * H → stepW W H r K g i = stepW W H r K h i := fun i hi =>
  flow_congr (fun j hj => metF_congr (e j hj)) hi
theorem backW_congr {W H : Nat} {r : Int × Int} {K : Nat → Int} {g h : Nat → C4} (e : ∀ i, i < W * H → g i = h i) : ∀ i, i < W * H → backW W H r K g i = backW W H r K h i := fun i hi =>
  metF_congr (ebb_congr e hi)
/-- n steps from t on by the rules r -/
def runW (W H : Nat) (r : Nat → Int × Int) (K : Nat → Int) (g : Nat → C4) (t : Nat) : Nat → Nat → C4
  | 0 => g
  | n + 1 => stepW W H (r (t + n)) K (runW W H r K g t n)
/-- the steps t + n - 1, .., t + m are undone -/
def undoW (W H : Nat) (r : Nat → Int × Int) (K : Nat → Int) (t : Nat) : Nat → (Nat → C4) → Nat → C4
  | 0, g => g
  | n + 1, g => undoW W H r K t n (backW W H (r (t + n)) K g)
theorem runW_ok {W H : Nat} {r : Nat → Int × Int} {K : Nat → Int} {g : Nat → C4} {t : Nat} (h : okG (W * H) g) : ∀ n, okG (W * H) (runW W H r K g t n)
  | 0 => h
  | n + 1 => stepW_ok (runW_ok h n)
theorem undoW_ok {W H : Nat} {r : Nat → Int × Int} {K : Nat → Int} {t : Nat} : ∀ n (g : Nat → C4), okG (W * H) g → okG (W * H) (undoW W H r K t n g)
  | 0, _, h => h
  | n + 1, _, h => undoW_ok n _ (backW_ok h)
theorem undoW_congr {W H : Nat} {r : Nat → Int × Int} {K : Nat → Int} {t : Nat} : ∀ n (g h : Nat → C4), (∀ i, i < W * H → g i = h i) → ∀ i, i < W * H → undoW W H r K t n g i = undoW W H r K t n h i
  | 0, _, _, e => e
  | n + 1, _, _, e => undoW_congr n _ _ (backW_congr e)
/-- a run is undone -/
theorem undoW_runW {W H : Nat} {r : Nat → Int × Int} {K : Nat → Int} {g : Nat → C4} {t : Nat} (h : okG (W * H) g) : ∀ n i, i < W * H → undoW W H r K t n (runW W H r K g t n) i = g i
  | 0, _, _ => rfl
  | n + 1, i, hi => (undoW_congr n _ _ (backW_stepW (runW_ok h n)) i hi).trans (undoW_runW h n i hi)
/-- a run of m and then of n steps -/
theorem runW_add (W H : Nat) (r : Nat → Int × Int) (K : Nat → Int) (g : Nat → C4) (t m : Nat) : ∀ n, runW W H r K g t (m + n) = runW W H r K (runW W H r K g t m) (t + m) n
  | 0 => rfl
  | n + 1 => by
    have e : runW W H r K g t (m + (n + 1)) = stepW W H (r (t + (m + n))) K (runW W H r K g t (m + n)) := rfl
    rw [e, runW_add W H r K g t m n, ← Nat.add_assoc]
    rfl
theorem runW_congr {W H : Nat} {r : Nat → Int × Int} {K : Nat → Int} {t : Nat} {g h : Nat → C4} (e : ∀ i, i < W * H → g i = h i) : ∀ n i, i < W * H → runW W H r K g t n i = runW W H r K h t n i
  | 0 => e
  | n + 1 => stepW_congr (runW_congr e n)
end Go.Proofs.Ythlbmlfkmfheiaa
