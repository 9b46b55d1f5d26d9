/- Plain law: what begins in open cells from which no way leads out stays there, and in walls next to them. No program in sight. -/
import Derived.Test.YthlbmlfkmfheiaaWStepPlain
import Derived.Test.YthlbmlfkmfheiaaReach
namespace Go.Proofs.Ythlbmlfkmfheiaa
set_option linter.unusedVariables false
theorem collS_zero (k b : Int) : coll k b C4.zero = C4.zero := by
  have e : turnI k b 0 0 = 0 := by unfold turnI; split; rfl; split; simp; rfl
  simp only [coll, C4.zero, mn]
  simp [e]
theorem oppS_lt {d : Nat} (hd : d < 4) : opp d < 4 := by rcases (by omega : d = 0 ∨ d = 1 ∨ d = 2 ∨ d = 3) with rfl | rfl | rfl | rfl <;> simp [opp]
theorem oppS_opp {d : Nat} (hd : d < 4) : opp (opp d) = d := by rcases (by omega : d = 0 ∨ d = 1 ∨ d = 2 ∨ d = 3) with rfl | rfl | rfl | rfl <;> rfl
theorem sentC1_get (c : C4) {d : Nat} (hd : d < 4) : (sentC c 1).get d = c.get (opp d) := by rcases (by omega : d = 0 ∨ d = 1 ∨ d = 2 ∨ d = 3) with rfl | rfl | rfl | rfl <;> rfl
theorem flowS_get (W H : Nat) (g : Nat → C4) (i : Nat) {d : Nat} (hd : d < 4) : (flow W H g i).get d = (g (nbT W H i d)).get d := by rcases (by omega : d = 0 ∨ d = 1 ∨ d = 2 ∨ d = 3) with rfl | rfl | rfl | rfl <;> rfl
theorem zeroS_get (d : Nat) : C4.zero.get d = 0 := by unfold C4.get C4.zero; split <;> rfl
/-- what holds between two steps -/
structure ShutI (W H : Nat) (K : Nat → Int) (S : Nat → Prop) (g : Nat → C4) : Prop where
  open_ : ∀ i, i < W * H → K i = 0 → ¬ S i → g i = C4.zero
  wall : ∀ i, i < W * H → K i ≠ 0 → ∀ d, d < 4 → (g i).get d ≠ 0 → S (nbT W H i d)
theorem shut_step {W H : Nat} {K : Nat → Int} {S : Nat → Prop} {g : Nat → C4} {r : Int × Int} (hK : ∀ i, i < W * H → K i = 0 ∨ K i = 1) (hS : ∀ i, S i → K i = 0) (hc : ∀ j d, S j → d < 4 → K (nbT W H j d) = 0 → S (nbT W H j d))
    (h : ShutI W H K S g) : ShutI W H K S (stepW W H r K g) := by
  have key : ∀ i, i < W * H → ∀ d, d < 4 → (stepW W H r K g i).get d ≠ 0 → (K i = 0 → S i) ∧ (K i ≠ 0 → S (nbT W H i d)) := by
    intro i hi d hd hne
    have hj := nbT_lt hi hd
    have hback := nbT_opp hi hd
    unfold stepW at hne
    rw [flowS_get _ _ _ _ hd] at hne
    unfold metF at hne
    rcases hK _ hj with h0 | h1
    · rw [if_pos h0] at hne
      have hSj : S (nbT W H i d) := by
        apply Classical.byContradiction
        intro hn
        rw [h.open_ _ hj h0 hn, collS_zero, zeroS_get] at hne
        exact hne rfl
      refine ⟨fun hk => ?_, fun _ => hSj⟩
      have := hc _ (opp d) hSj (oppS_lt hd)
      rw [hback] at this
      exact this hk
    · rw [if_neg (by omega), h1, sentC1_get _ hd] at hne
      have := h.wall _ hj (by omega) (opp d) (oppS_lt hd) hne
      rw [hback] at this
      exact ⟨fun _ => this, fun hk => absurd (hS _ this) hk⟩
  refine ⟨fun i hi hk hn => C4.ext' fun d hd => ?_, fun i hi hk d hd hne => (key i hi d hd hne).2 hk⟩
  rw [zeroS_get]
  apply Classical.byContradiction
  intro hne
  exact hn ((key i hi d hd hne).1 hk)
theorem shut_run {W H : Nat} {K : Nat → Int} {S : Nat → Prop} {g : Nat → C4} {r : Nat → Int × Int} {t : Nat} (hK : ∀ i, i < W * H → K i = 0 ∨ K i = 1) (hS : ∀ i, S i → K i = 0) (hc : ∀ j d, S j → d < 4 → K (nbT W H j d) = 0 → S (nbT W H j d))
    (h : ShutI W H K S g) : ∀ n, ShutI W H K S (runW W H r K g t n)
  | 0 => h
  | n + 1 => shut_step hK hS hc (shut_run hK hS hc h n)
/-- the cells of a set alone -/
def onlyF (T : Nat → Bool) (g : Nat → C4) : Nat → C4 := fun i => if T i then g i else C4.zero
theorem shut_only {W H : Nat} {K : Nat → Int} {T : Nat → Bool} {g : Nat → C4} (hS : ∀ i, T i = true → K i = 0) : ShutI W H K (fun i => T i = true) (onlyF T g) := by
  refine ⟨fun i hi hk hn => ?_, fun i hi hk d hd hne => ?_⟩
  · unfold onlyF; rw [if_neg hn]
  · unfold onlyF at hne
    rw [if_neg (fun h => hk (hS i h)), zeroS_get] at hne
    exact absurd rfl hne
theorem only_ok {n : Nat} {T : Nat → Bool} {g : Nat → C4} (h : okG n g) : okG n (onlyF T g) := by
  have hv : ∀ i, i < n → validC (onlyF T g i) = true := fun i hi => by
    unfold onlyF; split
    · exact h.1 i hi
    · decide
  refine ⟨hv, ?_⟩
  have : ∀ k, k ≤ n → massTo (onlyF T g) k ≤ massTo g k := by
    intro k
    induction k with
    | zero => intro _; exact Int.le_refl _
    | succ k ih =>
      intro hk
      have a := ih (by omega)
      have b := (validC_iff _).1 (h.1 k (by omega))
      have e : (onlyF T g k).mass ≤ (g k).mass := by
        unfold onlyF; split
        · exact Int.le_refl _
        · simp only [C4.mass, C4.zero]; omega
      simp only [massTo]; omega
  have := this n (Nat.le_refl _)
  have := h.2
  omega
end Go.Proofs.Ythlbmlfkmfheiaa
