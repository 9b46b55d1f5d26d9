/- Plain laws of steps in walls: a run keeps grids valid, and is undone. No program in sight. -/
import Derived.Test.YtmmjaobpoiofdaaGreatStepPlain
import Derived.Test.YtmmjaobpoiofdaaGreatSameG
namespace Go.Proofs.YtmmjaobpoiofdaaGreat
set_option linter.unusedVariables false
theorem sentC_valid {c : C4} {k : Int} (h : validC c = true) : validC (sentC c k) = true := by
  rw [validC_iff] at *
  unfold sentC
  repeat' split
  all_goals ((try dsimp only); omega)
theorem sentC_mass (c : C4) (k : Int) : (sentC c k).mass = c.mass := by
  unfold sentC C4.mass
  repeat' split
  all_goals first | rfl | ((try dsimp only); omega)
/-- all cells have collided, or walls have sent -/
def metF (k b : Int) (K : Nat → Int) (g : Nat → C4) : Nat → C4 := fun i => if K i = 0 then coll k b (g i) else sentC (g i) (K i)
theorem metF_mass (k b : Int) (K : Nat → Int) (g : Nat → C4) (n : Nat) : massTo (metF k b K g) n = massTo g n :=
  massTo_masses fun i _ => by unfold metF; split; exact coll_mass _ _ _; exact sentC_mass _ _
theorem metF_valid {k b : Int} {K : Nat → Int} {g : Nat → C4} {n : Nat} (h : ∀ i, i < n → validC (g i) = true) : ∀ i, i < n → validC (metF k b K g i) = true := fun i hi => by
  unfold metF; split
  · exact coll_valid (h i hi)
  · exact sentC_valid (h i hi)
/-- a step, and a step back -/
def stepW (W H : Nat) (r : Int × Int) (K : Nat → Int) (g : Nat → C4) : Nat → C4 := flow W H (metF r.1 r.2 K g)
/-- a valid grid, by its cells -/
def okG (n : Nat) (g : Nat → C4) : Prop := (∀ i, i < n → validC (g i) = true) ∧ massTo g n ≤ 1000000000
theorem stepW_ok {W H : Nat} {r : Int × Int} {K : Nat → Int} {g : Nat → C4} (h : okG (W * H) g) : okG (W * H) (stepW W H r K g) :=
  ⟨flow_valid (metF_valid h.1) (by rw [metF_mass]; exact h.2), by unfold stepW; rw [flow_mass, metF_mass]; exact h.2⟩
/-- n steps from t on by the rules r -/
def runW (W H : Nat) (r : Nat → Int × Int) (K : Nat → Int) (g : Nat → C4) (t : Nat) : Nat → Nat → C4
  | 0 => g
  | n + 1 => stepW W H (r (t + n)) K (runW W H r K g t n)
theorem runW_ok {W H : Nat} {r : Nat → Int × Int} {K : Nat → Int} {g : Nat → C4} {t : Nat} (h : okG (W * H) g) : ∀ n, okG (W * H) (runW W H r K g t n)
  | 0 => h
  | n + 1 => stepW_ok (runW_ok h n)
end Go.Proofs.YtmmjaobpoiofdaaGreat
