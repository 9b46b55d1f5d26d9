/- Walks: find and ready, of the reference. Plain words and laws: the grid that is merged of sites and a post. No program in sight. -/
import Derived.Test.YtmmjaobpoiofdaaGreatNPost
import Derived.Test.YtmmjaobpoiofdaaGreatNDueF
import Derived.Test.YtmmjaobpoiofdaaGreatNValidS
namespace Go.Proofs.YtmmjaobpoiofdaaGreat
open Go Go.RowKit
set_option linter.unusedVariables false
set_option linter.unusedSimpArgs false
/-- the first of q notes at the place of x, or -1 -/
def FindP (p : Nat → N6) (x : N6) (q : Nat) (i : Int) : Prop := (i = -1 ∧ metB p x q = false) ∨ ∃ k : Nat, k < q ∧ i = k ∧ plcB (p k) x = true ∧ metB p x k = false
theorem FindP.sign {p : Nat → N6} {x : N6} {q : Nat} {i : Int} (h : FindP p x q i) : decide (i < 0) = !metB p x q := by
  rcases h with ⟨rfl, h⟩ | ⟨k, hk, rfl, h, _⟩
  · rw [h]; rfl
  · rw [metB_iff.2 ⟨k, hk, h⟩]; simp
/-- is all that is due to a site in the post? -/
def readyB (W H : Nat) (o : Nat → Int) (no q : Nat) (p : Nat → N6) (nd st : Int) : Bool := st == 0 || (dueL W H o nd st no).all (fun x => metB p x q)
end Go.Proofs.YtmmjaobpoiofdaaGreat
namespace Go.Proofs.YtmmjaobpoiofdaaGreat
open Go Go.RowKit
set_option linter.unusedVariables false
/-- a cell with another number in one direction -/
def C4.with (c : C4) (d : Nat) (v : Int) : C4 := match d with | 0 => { c with e := v } | 1 => { c with n := v } | 2 => { c with w := v } | _ => { c with s := v }
theorem C4.with_get (c : C4) {d k : Nat} (v : Int) (hd : d < 4) (hk : k < 4) : (c.with d v).get k = if k = d then v else c.get k := by
  rcases (by omega : d = 0 ∨ d = 1 ∨ d = 2 ∨ d = 3) with rfl | rfl | rfl | rfl <;> rcases (by omega : k = 0 ∨ k = 1 ∨ k = 2 ∨ k = 3) with rfl | rfl | rfl | rfl <;> rfl
theorem C4.with_mass (c : C4) {d : Nat} (v : Int) (hd : d < 4) : (c.with d v).mass = c.mass - c.get d + v := by
  rcases (by omega : d = 0 ∨ d = 1 ∨ d = 2 ∨ d = 3) with rfl | rfl | rfl | rfl <;> simp [C4.with, C4.mass, C4.get] <;> omega
theorem flatC_with (g : Nat → C4) (i : Nat) {d : Nat} (v : Int) (hd : d < 4) : upd (flatC g) (i * 4 + d) v = flatC (updC g i ((g i).with d v)) := by
  refine flatC_ext fun j k hk => ?_
  simp only [upd, updC]
  by_cases e : j = i
  · subst e
    rw [if_pos rfl, C4.with_get _ _ hd hk, flatC_at _ _ _ hk]
    by_cases e2 : k = d
    · subst e2; simp
    · rw [if_neg (by omega), if_neg e2]
  · rw [if_neg (by omega), if_neg e, flatC_at _ _ _ hk]
theorem massTo_updC (G : Nat → C4) (i : Nat) (c : C4) : ∀ n, i < n → massTo (updC G i c) n = massTo G n - (G i).mass + c.mass
  | 0, h => by omega
  | n + 1, h => by
    simp only [massTo]
    by_cases e : i = n
    · subst e
      have : massTo (updC G i c) i = massTo G i := massTo_congr fun k hk => by simp only [updC]; rw [if_neg (by omega)]
      rw [this]
      simp only [updC, if_pos]; omega
    · rw [massTo_updC G i c n (by omega)]
      have : updC G i c n = G n := by simp only [updC]; rw [if_neg (by omega)]
      rw [this]; omega
/-- no number of a cell is below 0 -/
def nnC (c : C4) : Prop := 0 ≤ c.e ∧ 0 ≤ c.n ∧ 0 ≤ c.w ∧ 0 ≤ c.s
theorem nnC_iff (c : C4) : nnC c ↔ ∀ d, d < 4 → 0 ≤ c.get d := by
  constructor
  · rintro ⟨h0, h1, h2, h3⟩ d hd
    rcases (by omega : d = 0 ∨ d = 1 ∨ d = 2 ∨ d = 3) with rfl | rfl | rfl | rfl <;> assumption
  · intro h
    exact ⟨h 0 (by omega), h 1 (by omega), h 2 (by omega), h 3 (by omega)⟩
theorem nnC_mass {c : C4} (h : nnC c) : 0 ≤ c.mass := by obtain ⟨h0, h1, h2, h3⟩ := h; simp only [C4.mass]; omega
theorem valid_nn {c : C4} (h : validC c = true) : nnC c := by obtain ⟨h0, h1, h2, h3, _⟩ := (validC_iff c).1 h; exact ⟨h0, h1, h2, h3⟩
theorem nn_valid {c : C4} (h : nnC c) (hm : c.mass ≤ 1000000000) : validC c = true := (validC_iff c).2 ⟨h.1, h.2.1, h.2.2.1, h.2.2.2, hm⟩
theorem nn_mass_le {G : Nat → C4} : ∀ {n}, (∀ i, i < n → nnC (G i)) → (0 ≤ massTo G n ∧ ∀ i, i < n → (G i).mass ≤ massTo G n)
  | 0, _ => ⟨by simp [massTo], fun i hi => by omega⟩
  | n + 1, h => by
    obtain ⟨h1, h2⟩ := nn_mass_le (n := n) fun i hi => h i (by omega)
    have h3 := nnC_mass (h n (by omega))
    simp only [massTo]
    refine ⟨by omega, fun i hi => ?_⟩
    by_cases e : i = n
    · subst e; omega
    · have := h2 i (by omega); omega
/-- a grid without numbers below 0 is valid just if its mass may be -/
theorem nn_validG {W H n : Nat} {G : Nat → C4} (h1 : 1 ≤ W ∧ W ≤ 64) (h2 : 1 ≤ H ∧ H ≤ 64) (hw : W * H ≤ 1024) (hn : n = W * H) (h : ∀ i, i < n → nnC (G i)) : validG W H n G = decide (massTo G n ≤ 1000000000) := by
  obtain ⟨m0, m1⟩ := nn_mass_le h
  rw [Bool.eq_iff_iff, validG_iff, decide_eq_true_iff]
  have e : ((W * H : Nat) : Int) = (W : Int) * H := by rw [Int.natCast_mul]
  constructor
  · rintro ⟨_, _, _, _, _, _, _, h⟩; exact h
  · intro hm
    refine ⟨by omega, by omega, by omega, by omega, by omega, by rw [hn, e], fun k hk => nn_valid (h k hk) (by have := m1 k hk; omega), hm⟩
/-- the first cells of a site, laid into a grid -/
def layTo (G : Nat → C4) (s : SiteR) : Nat → Nat → C4 | 0 => G | k + 1 => updC (layTo G s k) (s.I k).toNat (s.C k)
/-- the cells of the first sites -/
def layS (f : Nat → SiteR) : Nat → Nat → C4 | 0 => fun _ => C4.zero | k + 1 => layTo (layS f k) (f k) (f k).ni
/-- a note's count, put into a grid -/
def addC (G : Nat → C4) (x : N6) : Nat → C4 := updC G x.ce.toNat ((G x.ce.toNat).with x.di.toNat ((G x.ce.toNat).get x.di.toNat + x.co))
/-- the counts of the first notes -/
def addTo (G : Nat → C4) (p : Nat → N6) : Nat → Nat → C4 | 0 => G | k + 1 => addC (addTo G p k) (p k)
def coS (p : Nat → N6) (k : Nat) : Int := sumTo (fun j => (p j).co) k
/-- a site whose cells may be laid into a grid of n cells -/
def fitS (n : Nat) (s : SiteR) : Prop := s.nc = s.ni ∧ (∀ k, k < s.ni → 0 ≤ s.I k ∧ s.I k < n) ∧ ∀ k, k < s.ni → validC (s.C k) = true
/-- a note whose count may be put into a grid of n cells -/
def fitN (n : Nat) (x : N6) : Prop := 0 ≤ x.ce ∧ x.ce < n ∧ 0 ≤ x.di ∧ x.di ≤ 3 ∧ 0 ≤ x.co ∧ x.co ≤ 1000000000
theorem layTo_valid {n : Nat} {G : Nat → C4} {s : SiteR} (hs : fitS n s) (hG : ∀ i, validC (G i) = true) : ∀ k, k ≤ s.ni → ∀ i, validC (layTo G s k i) = true
  | 0, _, i => hG i
  | k + 1, hk, i => by
    simp only [layTo, updC]
    split
    · exact hs.2.2 k (by omega)
    · exact layTo_valid hs hG k (by omega) i
theorem layS_valid {n : Nat} {f : Nat → SiteR} : ∀ k, (∀ j, j < k → fitS n (f j)) → ∀ i, validC (layS f k i) = true
  | 0, _, i => by simp only [layS]; decide
  | k + 1, h, i => layTo_valid (h k (by omega)) (layS_valid k fun j hj => h j (by omega)) _ (Nat.le_refl _) i
theorem addTo_spec {n : Nat} {G : Nat → C4} {p : Nat → N6} (hG : ∀ i, validC (G i) = true) : ∀ k, (∀ j, j < k → fitN n (p j)) →
    (∀ i d, d < 4 → 0 ≤ (addTo G p k i).get d ∧ (addTo G p k i).get d ≤ (k + 1) * 1000000000) ∧ massTo (addTo G p k) n = massTo G n + coS p k
  | 0, _ => by
    refine ⟨fun i d hd => ?_, by simp [addTo, coS, sumTo]⟩
    have := get_le _ d hd (hG i)
    simpa [addTo] using this
  | k + 1, h => by
    obtain ⟨h1, h2⟩ := addTo_spec hG k fun j hj => h j (by omega)
    obtain ⟨n1, n2, n3, n4, n5, n6⟩ := h k (by omega)
    have hd : (p k).di.toNat < 4 := by omega
    obtain ⟨b1, b2⟩ := h1 (p k).ce.toNat _ hd
    refine ⟨fun i d hd' => ?_, ?_⟩
    · simp only [addTo, addC, updC]
      split
      · rw [C4.with_get _ _ hd hd']
        split
        · omega
        · obtain ⟨c1, c2⟩ := h1 (p k).ce.toNat d hd'; omega
      · obtain ⟨c1, c2⟩ := h1 i d hd'; omega
    · simp only [addTo, addC]
      rw [massTo_updC _ _ _ _ (by omega), C4.with_mass _ _ hd, h2]
      simp only [coS, sumTo]; omega
theorem coS_nonneg {n : Nat} {p : Nat → N6} : ∀ k, (∀ j, j < k → fitN n (p j)) → 0 ≤ coS p k ∧ coS p k ≤ k * 1000000000
  | 0, _ => by simp [coS, sumTo]
  | k + 1, h => by
    have h1 := coS_nonneg k fun j hj => h j (by omega)
    obtain ⟨n1, n2, n3, n4, n5, n6⟩ := h k (by omega)
    have e : coS p (k + 1) = coS p k + (p k).co := rfl
    omega
theorem site_fit {o : Nat → Int} {no : Nat} {s : SiteR} (h : siteB o no s = true) : fitS no s := by
  obtain ⟨_, h2, h3, h4⟩ := siteB_iff.1 h
  obtain ⟨e1, e2⟩ := sameL_iff.1 h2
  refine ⟨by omega, fun k hk => ?_, fun k hk => ((massB_iff _ _).1 h4).1 k (by omega)⟩
  have hm : s.I k ∈ ownL o s.nd no := by
    rw [e2 k hk, List.getD_eq_getElem?_getD, List.getElem?_eq_getElem (by omega)]; exact List.getElem_mem _
  obtain ⟨j, hj, e, _⟩ := ownL_mem.1 hm
  omega
theorem post_fit {W H : Nat} {o : Nat → Int} {no q : Nat} {p : Nat → N6} (h : postB W H o no q p = true) : ∀ k, k < q → fitN no (p k) := fun k hk => by
  obtain ⟨hr, _⟩ := noteB_iff.1 ((postB_iff.1 h).2.1 k hk)
  obtain ⟨_, ⟨h2, h3⟩, ⟨h4, h5⟩, h6, h7⟩ := noteR_iff.1 hr
  exact ⟨h2, by omega, h4, h5, h6, h7⟩
/-- have all sites gone as far? -/
def stepsB (f : Nat → SiteR) (m : Nat) : Bool := decide (∀ k, k < m → (f k).st = (f 0).st)
theorem stepsB_iff {f : Nat → SiteR} {m : Nat} : stepsB f m = true ↔ ∀ k, k < m → (f k).st = (f 0).st := by simp [stepsB]
/-- are the first sites ready? -/
def readyA (W H : Nat) (o : Nat → Int) (no q : Nat) (p : Nat → N6) (f : Nat → SiteR) (m : Nat) : Bool := decide (∀ k, k < m → readyB W H o no q p (f k).nd (f k).st = true)
theorem readyA_iff {W H : Nat} {o : Nat → Int} {no q : Nat} {p : Nat → N6} {f : Nat → SiteR} {m : Nat} : readyA W H o no q p f m = true ↔ ∀ k, k < m → readyB W H o no q p (f k).nd (f k).st = true := by simp [readyA]
/-- are all notes of one step? -/
def postS (p : Nat → N6) (q : Nat) (st : Int) : Bool := decide (∀ k, k < q → (p k).st = st)
theorem postS_iff {p : Nat → N6} {q : Nat} {st : Int} : postS p q st = true ↔ ∀ k, k < q → (p k).st = st := by simp [postS]
/-- the error of merging: valid? as far? ready? notes of this step? is the mass one that may be? -/
def mrgE (v s r t l : Bool) : Int := if v then (if s then (if r then (if t then (if l then 0 else 4) else 10) else 12) else 10) else 1
end Go.Proofs.YtmmjaobpoiofdaaGreat
