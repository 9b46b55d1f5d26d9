/- Plain laws of steps: collisions, streaming on the torus, sums over it, and that they are undone. No program in sight. -/
import Derived.Test.YtmmjaobpoiofdaaGreatTorus
namespace Go.Proofs.YtmmjaobpoiofdaaGreat
set_option linter.unusedVariables false
/-! ### collisions -/
def ruleOk (k b : Int) : Prop := ((k = 0 ∨ k = 1) ∧ b = 0) ∨ (k = 2 ∧ -1000000000 ≤ b ∧ b ≤ 1000000000)
def turnI (k b h p : Int) : Int := if k = 1 then p - h else if k = 2 then (h + b) % (p + 1) else h
def mn (a b : Int) : Int := if b < a then b else a
/-- a cell after a rule -/
def coll (k b : Int) (c : C4) : C4 :=
  let t := turnI k b (mn c.e c.w) (mn c.e c.w + mn c.n c.s) - mn c.e c.w
  ⟨c.e + t, c.n - t, c.w + t, c.s - t⟩
theorem turnI_range {k b h p : Int} (h0 : 0 ≤ h) (h1 : h ≤ p) : 0 ≤ turnI k b h p ∧ turnI k b h p ≤ p := by
  unfold turnI
  split
  · omega
  · split
    · have a := Int.emod_nonneg (h + b) (show p + 1 ≠ 0 by omega)
      have b' := Int.emod_lt_of_pos (h + b) (show 0 < p + 1 by omega)
      omega
    · omega
theorem mn_range {a b : Int} (ha : 0 ≤ a) (hb : 0 ≤ b) : 0 ≤ mn a b ∧ mn a b ≤ a ∧ mn a b ≤ b ∧ (mn a b = a ∨ mn a b = b) := by unfold mn; split <;> omega
theorem coll_mass (k b : Int) (c : C4) : (coll k b c).mass = c.mass := by simp only [coll, C4.mass]; omega
theorem coll_valid {k b : Int} {c : C4} (h : validC c = true) : validC (coll k b c) = true := by
  rw [validC_iff] at *
  obtain ⟨h1, h2, h3, h4, h5⟩ := h
  obtain ⟨a1, a2, a3, _⟩ := mn_range h1 h3
  obtain ⟨b1, b2, b3, _⟩ := mn_range h2 h4
  obtain ⟨t1, t2⟩ := turnI_range (k := k) (b := b) a1 (show mn c.e c.w ≤ mn c.e c.w + mn c.n c.s by omega)
  simp only [coll]
  omega
/-! ### sums -/
theorem sumTo_congr {f g : Nat → Int} : ∀ {n : Nat}, (∀ i, i < n → f i = g i) → sumTo f n = sumTo g n
  | 0, _ => rfl
  | n + 1, h => by
    have ih := sumTo_congr (f := f) (g := g) (n := n) (fun i hi => h i (by omega))
    simp only [sumTo, ih, h n (by omega)]
theorem sumTo_add (f g : Nat → Int) : ∀ n, sumTo (fun i => f i + g i) n = sumTo f n + sumTo g n
  | 0 => rfl
  | n + 1 => by simp only [sumTo, sumTo_add f g n]; omega
theorem sumTo_zero (n : Nat) : sumTo (fun _ => 0) n = 0 := by
  induction n with
  | zero => rfl
  | succ n ih => simp only [sumTo, ih]; rfl
theorem sumTo_point (a : Nat) (v : Int) : ∀ n, sumTo (fun i => if i = a then v else 0) n = if a < n then v else 0
  | 0 => rfl
  | n + 1 => by
    simp only [sumTo, sumTo_point a v n]
    split <;> split <;> split <;> omega
theorem sumTo_swap (f : Nat → Nat → Int) (m : Nat) : ∀ n, sumTo (fun i => sumTo (fun j => f i j) m) n = sumTo (fun j => sumTo (fun i => f i j) n) m
  | 0 => by simp only [sumTo]; rw [sumTo_zero]
  | n + 1 => by
    simp only [sumTo]
    rw [sumTo_swap f m n, ← sumTo_add]
/-- a sum over places in another order -/
theorem sumTo_perm {σ τ : Nat → Nat} {n : Nat} (h1 : ∀ i, i < n → σ i < n) (h2 : ∀ i, i < n → τ i < n) (h3 : ∀ i, i < n → τ (σ i) = i) (h4 : ∀ i, i < n → σ (τ i) = i) (f : Nat → Int) : sumTo (fun i => f (σ i)) n = sumTo f n := by
  have e1 : sumTo (fun i => f (σ i)) n = sumTo (fun i => sumTo (fun j => if j = σ i then f j else 0) n) n := by
    refine sumTo_congr fun i hi => ?_
    have e : sumTo (fun j => if j = σ i then f j else 0) n = sumTo (fun j => if j = σ i then f (σ i) else 0) n := by
      refine sumTo_congr fun j _ => ?_
      split
      · rename_i e; rw [e]
      · rfl
    rw [e, sumTo_point, if_pos (h1 i hi)]
  rw [e1, sumTo_swap]
  refine sumTo_congr fun j hj => ?_
  have e : sumTo (fun i => if j = σ i then f j else 0) n = sumTo (fun i => if i = τ j then f j else 0) n := by
    refine sumTo_congr fun i hi => ?_
    by_cases hij : j = σ i
    · rw [if_pos hij, if_pos (by rw [hij, h3 i hi])]
    · rw [if_neg hij, if_neg (fun e => hij (by rw [e, h4 j hj]))]
  rw [e, sumTo_point, if_pos (h2 j hj)]
theorem massTo_sum (g : Nat → C4) : ∀ n, massTo g n = sumTo (fun i => (g i).e) n + sumTo (fun i => (g i).n) n + sumTo (fun i => (g i).w) n + sumTo (fun i => (g i).s) n
  | 0 => rfl
  | n + 1 => by simp only [massTo, sumTo, massTo_sum g n, C4.mass]; omega
theorem massTo_masses {g h : Nat → C4} : ∀ {n : Nat}, (∀ i, i < n → (g i).mass = (h i).mass) → massTo g n = massTo h n
  | 0, _ => rfl
  | n + 1, e => by
    have ih := massTo_masses (g := g) (h := h) (n := n) (fun i hi => e i (by omega))
    simp only [massTo, ih, e n (by omega)]
/-! ### streaming -/
/-- the direction from which one comes back -/
def opp : Nat → Nat | 0 => 2 | 1 => 3 | 2 => 0 | _ => 1
theorem nbT_opp {W H i d : Nat} (h : i < W * H) (hd : d < 4) : nbT W H (nbT W H i d) (opp d) = i := by
  obtain ⟨hx, hy⟩ := row_lt h
  have hW : 0 < W := by omega
  have hH : 0 < H := Nat.lt_of_le_of_lt (Nat.zero_le _) hy
  rcases (by omega : d = 0 ∨ d = 1 ∨ d = 2 ∨ d = 3) with rfl | rfl | rfl | rfl
  · simp only [nbT, opp]
    rw [nb_mod (Nat.mod_lt _ hW), nb_div (Nat.mod_lt _ hW), down_up hx, Nat.mod_mod, Nat.mod_eq_of_lt hy, back_of]
  · simp only [nbT, opp]
    rw [nb_mod (Nat.mod_lt _ hW), nb_div (Nat.mod_lt _ hW), down_up hy, Nat.mod_mod, Nat.mod_mod, back_of]
  · simp only [nbT, opp]
    rw [nb_mod (Nat.mod_lt _ hW), nb_div (Nat.mod_lt _ hW), up_down hx, Nat.mod_mod, Nat.mod_eq_of_lt hy, back_of]
  · simp only [nbT, opp]
    rw [nb_mod (Nat.mod_lt _ hW), nb_div (Nat.mod_lt _ hW), up_down hy, Nat.mod_mod, Nat.mod_mod, back_of]
def flow (W H : Nat) (g : Nat → C4) : Nat → C4 := fun i => ⟨(g (nbT W H i 0)).e, (g (nbT W H i 1)).n, (g (nbT W H i 2)).w, (g (nbT W H i 3)).s⟩
def ebb (W H : Nat) (g : Nat → C4) : Nat → C4 := fun i => ⟨(g (nbT W H i 2)).e, (g (nbT W H i 3)).n, (g (nbT W H i 0)).w, (g (nbT W H i 1)).s⟩
theorem sum_nb {W H d : Nat} (hd : d < 4) (f : Nat → Int) : sumTo (fun i => f (nbT W H i d)) (W * H) = sumTo f (W * H) :=
  sumTo_perm (σ := fun i => nbT W H i d) (τ := fun i => nbT W H i (opp d)) (fun i hi => nbT_lt hi hd) (fun i hi => nbT_lt hi (by rcases (by omega : d = 0 ∨ d = 1 ∨ d = 2 ∨ d = 3) with rfl | rfl | rfl | rfl <;> simp [opp]))
    (fun i hi => nbT_opp hi hd) (fun i hi => by
      rcases (by omega : d = 0 ∨ d = 1 ∨ d = 2 ∨ d = 3) with rfl | rfl | rfl | rfl
      · exact nbT_opp (d := 2) hi (by omega)
      · exact nbT_opp (d := 3) hi (by omega)
      · exact nbT_opp (d := 0) hi (by omega)
      · exact nbT_opp (d := 1) hi (by omega)) f
theorem flow_mass (W H : Nat) (g : Nat → C4) : massTo (flow W H g) (W * H) = massTo g (W * H) := by
  rw [massTo_sum, massTo_sum]
  simp only [flow]
  rw [sum_nb (d := 0) (by omega) (fun i => (g i).e), sum_nb (d := 1) (by omega) (fun i => (g i).n), sum_nb (d := 2) (by omega) (fun i => (g i).w), sum_nb (d := 3) (by omega) (fun i => (g i).s)]
/-- cells of which each is none and all together are not too heavy are valid -/
theorem valid_of_parts {g : Nat → C4} {n : Nat} (h : ∀ i, i < n → 0 ≤ (g i).e ∧ 0 ≤ (g i).n ∧ 0 ≤ (g i).w ∧ 0 ≤ (g i).s) (hm : massTo g n ≤ 1000000000) : ∀ i, i < n → validC (g i) = true := by
  have pos : ∀ m, m ≤ n → 0 ≤ massTo g m := by
    intro m
    induction m with
    | zero => intro _; exact Int.le_refl _
    | succ m ih =>
      intro hmn
      have := ih (by omega); have := h m (by omega)
      simp only [massTo, C4.mass]; omega
  have mono : ∀ m, m ≤ n → ∀ i, i < m → (g i).mass ≤ massTo g m := by
    intro m
    induction m with
    | zero => intro _ i hi; omega
    | succ m ih =>
      intro hmn i hi
      have h1 := h m (by omega)
      have h2 := pos m (by omega)
      simp only [massTo]
      rcases Nat.lt_succ_iff_lt_or_eq.1 hi with h' | rfl
      · have := ih (by omega) i h'
        simp only [C4.mass] at *; omega
      · omega
  intro i hi
  have h1 := h i hi
  have h2 := mono n (Nat.le_refl _) i hi
  rw [validC_iff]
  simp only [C4.mass] at h2
  omega
theorem flow_valid {W H : Nat} {g : Nat → C4} (h : ∀ i, i < W * H → validC (g i) = true) (hm : massTo g (W * H) ≤ 1000000000) : ∀ i, i < W * H → validC (flow W H g i) = true :=
  valid_of_parts (fun i hi => by
    have h0 := (validC_iff _).1 (h _ (nbT_lt hi (show 0 < 4 by omega))); have h1 := (validC_iff _).1 (h _ (nbT_lt hi (show 1 < 4 by omega)))
    have h2 := (validC_iff _).1 (h _ (nbT_lt hi (show 2 < 4 by omega))); have h3 := (validC_iff _).1 (h _ (nbT_lt hi (show 3 < 4 by omega)))
    simp only [flow]; omega) (by rw [flow_mass]; exact hm)
end Go.Proofs.YtmmjaobpoiofdaaGreat
