/- Walks: find and ready, of the reference. Plain words and laws: the grid that is merged of sites and a post. No program in sight. -/
import Derived.Test.YtjkngkogddmceaaGreatPk5
import Derived.Test.YtjkngkogddmceaaGreatPk6
import Derived.Test.YtjkngkogddmceaaGreatPk2
import Derived.Test.YtjkngkogddmceaaGreatPk4
import Derived.Maps.RangeWalk
import Derived.Maps.OwnSet
import Derived.Below
import Derived.Laws.AppendOwnNone
import Derived.Deep.Cut
namespace Go.Proofs.YtjkngkogddmceaaGreat
open Go Go.RowKit
set_option linter.unusedVariables false
set_option linter.unusedSimpArgs false
/-- is all that is due to a site in the post? -/
def readyB (W H : Nat) (o : Nat → Int) (no q : Nat) (p : Nat → N6) (nd st : Int) : Bool := st == 0 || (dueL W H o nd st no).all (fun x => metB p x q)
end Go.Proofs.YtjkngkogddmceaaGreat
namespace Go.Proofs.YtjkngkogddmceaaGreat
open Go Go.RowKit
set_option linter.unusedVariables false
/-- a cell with another number in one direction -/
def C4.with (c : C4) (d : Nat) (v : Int) : C4 := match d with | 0 => { c with e := v } | 1 => { c with n := v } | 2 => { c with w := v } | _ => { c with s := v }
theorem C4.with_get (c : C4) {d k : Nat} (v : Int) (hd : d < 4) (hk : k < 4) : (c.with d v).get k = if k = d then v else c.get k := by
  rcases (by omega : d = 0 ∨ d = 1 ∨ d = 2 ∨ d = 3) with rfl | rfl | rfl | rfl <;> rcases (by omega : k = 0 ∨ k = 1 ∨ k = 2 ∨ k = 3) with rfl | rfl | rfl | rfl <;> rfl
theorem C4.with_mass (c : C4) {d : Nat} (v : Int) (hd : d < 4) : (c.with d v).mass = c.mass - c.get d + v := by
  rcases (by omega : d = 0 ∨ d = 1 ∨ d = 2 ∨ d = 3) with rfl | rfl | rfl | rfl <;> simp [C4.with, C4.mass, C4.get] <;> omega
theorem flatC_with (g : Nat → C4) (i : Nat) {d : Nat} (v : Int) (hd : d < 4) : upd (flatC g) (i * 4 + d) v = flatC (updC g i ((g i).with d v)) := by
  refine flatC_ext fun j k hk => ?_
  simp only [upd, updC]
  by_cases e : j = i
  · subst e
    rw [if_pos rfl, C4.with_get _ _ hd hk, flatC_at _ _ _ hk]
    by_cases e2 : k = d
    · subst e2; simp
    · rw [if_neg (by omega), if_neg e2]
  · rw [if_neg (by omega), if_neg e, flatC_at _ _ _ hk]
theorem massTo_updC (G : Nat → C4) (i : Nat) (c : C4) : ∀ n, i < n → massTo (updC G i c) n = massTo G n - (G i).mass + c.mass
  | 0, h => by omega
  | n + 1, h => by
    simp only [massTo]
    by_cases e : i = n
    · subst e
      have : massTo (updC G i c) i = massTo G i := massTo_congr fun k hk => by simp only [updC]; rw [if_neg (by omega)]
      rw [this]
      simp only [updC, if_pos]; omega
    · rw [massTo_updC G i c n (by omega)]
      have : updC G i c n = G n := by simp only [updC]; rw [if_neg (by omega)]
      rw [this]; omega
/-- no number of a cell is below 0 -/
def nnC (c : C4) : Prop := 0 ≤ c.e ∧ 0 ≤ c.n ∧ 0 ≤ c.w ∧ 0 ≤ c.s
theorem nnC_iff (c : C4) : nnC c ↔ ∀ d, d < 4 → 0 ≤ c.get d := by
  constructor
  · rintro ⟨h0, h1, h2, h3⟩ d hd
    rcases (by omega : d = 0 ∨ d = 1 ∨ d = 2 ∨ d = 3) with rfl | rfl | rfl | rfl <;> assumption
  · intro h
    exact ⟨h 0 (by omega), h 1 (by omega), h 2 (by omega), h 3 (by omega)⟩
theorem nnC_mass {c : C4} (h : nnC c) : 0 ≤ c.mass := by obtain ⟨h0, h1, h2, h3⟩ := h; simp only [C4.mass]; omega
theorem valid_nn {c : C4} (h : validC c = true) : nnC c := by obtain ⟨h0, h1, h2, h3, _⟩ := (validC_iff c).1 h; exact ⟨h0, h1, h2, h3⟩
theorem nn_valid {c : C4} (h : nnC c) (hm : c.mass ≤ 1000000000) : validC c = true := (validC_iff c).2 ⟨h.1, h.2.1, h.2.2.1, h.2.2.2, hm⟩
theorem nn_mass_le {G : Nat → C4} : ∀ {n}, (∀ i, i < n → nnC (G i)) → (0 ≤ massTo G n ∧ ∀ i, i < n → (G i).mass ≤ massTo G n)
  | 0, _ => ⟨by simp [massTo], fun i hi => by omega⟩
  | n + 1, h => by
    obtain ⟨h1, h2⟩ := nn_mass_le (n := n) fun i hi => h i (by omega)
    have h3 := nnC_mass (h n (by omega))
    simp only [massTo]
    refine ⟨by omega, fun i hi => ?_⟩
    by_cases e : i = n
    · subst e; omega
    · have := h2 i (by omega); omega
/-- the first cells of a site, laid into a grid -/
def layTo (G : Nat → C4) (s : SiteR) : Nat → Nat → C4 | 0 => G | k + 1 => updC (layTo G s k) (s.I k).toNat (s.C k)
/-- the cells of the first sites -/
def layS (f : Nat → SiteR) : Nat → Nat → C4 | 0 => fun _ => C4.zero | k + 1 => layTo (layS f k) (f k) (f k).ni
/-- a note's count, put into a grid -/
def addC (G : Nat → C4) (x : N6) : Nat → C4 := updC G x.ce.toNat ((G x.ce.toNat).with x.di.toNat ((G x.ce.toNat).get x.di.toNat + x.co))
/-- the counts of the first notes -/
def addTo (G : Nat → C4) (p : Nat → N6) : Nat → Nat → C4 | 0 => G | k + 1 => addC (addTo G p k) (p k)
def coS (p : Nat → N6) (k : Nat) : Int := sumTo (fun j => (p j).co) k
/-- a site whose cells may be laid into a grid of n cells -/
def fitS (n : Nat) (s : SiteR) : Prop := s.nc = s.ni ∧ (∀ k, k < s.ni → 0 ≤ s.I k ∧ s.I k < n) ∧ ∀ k, k < s.ni → validC (s.C k) = true
/-- a note whose count may be put into a grid of n cells -/
def fitN (n : Nat) (x : N6) : Prop := 0 ≤ x.ce ∧ x.ce < n ∧ 0 ≤ x.di ∧ x.di ≤ 3 ∧ 0 ≤ x.co ∧ x.co ≤ 1000000000
theorem layTo_valid {n : Nat} {G : Nat → C4} {s : SiteR} (hs : fitS n s) (hG : ∀ i, validC (G i) = true) : ∀ k, k ≤ s.ni → ∀ i, validC (layTo G s k i) = true
  | 0, _, i => hG i
  | k + 1, hk, i => by
    simp only [layTo, updC]
    split
    · exact hs.2.2 k (by omega)
    · exact layTo_valid hs hG k (by omega) i
theorem layS_valid {n : Nat} {f : Nat → SiteR} : ∀ k, (∀ j, j < k → fitS n (f j)) → ∀ i, validC (layS f k i) = true
  | 0, _, i => by simp only [layS]; decide
  | k + 1, h, i => layTo_valid (h k (by omega)) (layS_valid k fun j hj => h j (by omega)) _ (Nat.le_refl _) i
theorem addTo_spec {n : Nat} {G : Nat → C4} {p : Nat → N6} (hG : ∀ i, validC (G i) = true) : ∀ k, (∀ j, j < k → fitN n (p j)) →
    (∀ i d, d < 4 → 0 ≤ (addTo G p k i).get d ∧ (addTo G p k i).get d ≤ (k + 1) * 1000000000) ∧ massTo (addTo G p k) n = massTo G n + coS p k
  | 0, _ => by
    refine ⟨fun i d hd => ?_, by simp [addTo, coS, sumTo]⟩
    have := get_le _ d hd (hG i)
    simpa [addTo] using this
  | k + 1, h => by
    obtain ⟨h1, h2⟩ := addTo_spec hG k fun j hj => h j (by omega)
    obtain ⟨n1, n2, n3, n4, n5, n6⟩ := h k (by omega)
    have hd : (p k).di.toNat < 4 := by omega
    obtain ⟨b1, b2⟩ := h1 (p k).ce.toNat _ hd
    refine ⟨fun i d hd' => ?_, ?_⟩
    · simp only [addTo, addC, updC]
      split
      · rw [C4.with_get _ _ hd hd']
        split
        · omega
        · obtain ⟨c1, c2⟩ := h1 (p k).ce.toNat d hd'; omega
      · obtain ⟨c1, c2⟩ := h1 i d hd'; omega
    · simp only [addTo, addC]
      rw [massTo_updC _ _ _ _ (by omega), C4.with_mass _ _ hd, h2]
      simp only [coS, sumTo]; omega
theorem coS_nonneg {n : Nat} {p : Nat → N6} : ∀ k, (∀ j, j < k → fitN n (p j)) → 0 ≤ coS p k ∧ coS p k ≤ k * 1000000000
  | 0, _ => by simp [coS, sumTo]
  | k + 1, h => by
    have h1 := coS_nonneg k fun j hj => h j (by omega)
    obtain ⟨n1, n2, n3, n4, n5, n6⟩ := h k (by omega)
    have e : coS p (k + 1) = coS p k + (p k).co := rfl
    omega
theorem site_fit {o : Nat → Int} {no : Nat} {s : SiteR} (h : siteB o no s = true) : fitS no s := by
  obtain ⟨_, h2, h3, h4⟩ := siteB_iff.1 h
  obtain ⟨e1, e2⟩ := sameL_iff.1 h2
  refine ⟨by omega, fun k hk => ?_, fun k hk => ((massB_iff _ _).1 h4).1 k (by omega)⟩
  have hm : s.I k ∈ ownL o s.nd no := by
    rw [e2 k hk, List.getD_eq_getElem?_getD, List.getElem?_eq_getElem (by omega)]; exact List.getElem_mem _
  obtain ⟨j, hj, e, _⟩ := ownL_mem.1 hm
  omega
theorem post_fit {W H : Nat} {o : Nat → Int} {no q : Nat} {p : Nat → N6} (h : postB W H o no q p = true) : ∀ k, k < q → fitN no (p k) := fun k hk => by
  obtain ⟨hr, _⟩ := noteB_iff.1 ((postB_iff.1 h).2.1 k hk)
  obtain ⟨_, ⟨h2, h3⟩, ⟨h4, h5⟩, h6, h7⟩ := noteR_iff.1 hr
  exact ⟨h2, by omega, h4, h5, h6, h7⟩
end Go.Proofs.YtjkngkogddmceaaGreat
/- Plain law: the numbers of the notes that are due. Walks: Neighbours, of the program and of the reference. Walk: Neighbours of the reference. -/
namespace Go.Proofs.YtjkngkogddmceaaGreat
open Go Go.RowKit
set_option linter.unusedVariables false
theorem dueC_num {W H : Nat} {o : Nat → Int} {nd st : Int} {i : Nat} : ∀ {d}, ∀ x ∈ dueC W H o nd st i d, x.st = st ∧ x.to = nd ∧ x.ce = i ∧ 0 ≤ x.di ∧ x.di < d ∧ x.co = 0
  | 0, x, h => by simp [dueC] at h
  | d + 1, x, h => by
    have up : ∀ x ∈ dueC W H o nd st i d, x.st = st ∧ x.to = nd ∧ x.ce = i ∧ 0 ≤ x.di ∧ x.di < (d + 1 : Nat) ∧ x.co = 0 := fun x h => by
      obtain ⟨a1, a2, a3, a4, a5, a6⟩ := dueC_num x h
      exact ⟨a1, a2, a3, a4, by omega, a6⟩
    simp only [dueC] at h
    split at h
    · exact up x h
    · rcases List.mem_append.1 h with h | h
      · exact up x h
      · rw [List.mem_singleton] at h; subst h; exact ⟨rfl, rfl, rfl, by simp, (by show (d : Int) < ((d + 1 : Nat) : Int); omega), rfl⟩
theorem dueL_num {W H : Nat} {o : Nat → Int} {nd st : Int} : ∀ {n}, ∀ x ∈ dueL W H o nd st n, x.st = st ∧ x.to = nd ∧ 0 ≤ x.ce ∧ x.ce < n ∧ 0 ≤ x.di ∧ x.di < 4 ∧ x.co = 0
  | 0, x, h => by simp [dueL] at h
  | n + 1, x, h => by
    have up : ∀ x ∈ dueL W H o nd st n, x.st = st ∧ x.to = nd ∧ 0 ≤ x.ce ∧ x.ce < (n + 1 : Nat) ∧ 0 ≤ x.di ∧ x.di < 4 ∧ x.co = 0 := fun x h => by
      obtain ⟨a1, a2, a3, a4, a5⟩ := dueL_num x h
      exact ⟨a1, a2, a3, by omega, a5⟩
    simp only [dueL] at h
    split at h
    · rcases List.mem_append.1 h with h | h
      · exact up x h
      · obtain ⟨a1, a2, a3, a4, a5, a6⟩ := dueC_num x h
        exact ⟨a1, a2, by omega, by omega, a4, by omega, a6⟩
    · exact up x h
end Go.Proofs.YtjkngkogddmceaaGreat
/- Plain words and laws: the order of notes, and notes in order. No program in sight. -/
namespace Go.Proofs.YtjkngkogddmceaaGreat
open Go Go.RowKit
set_option linter.unusedVariables false
/-- the numbers of a note, in the order in which notes are compared -/
def keyN (x : N6) : List Int := [x.st, x.to, x.ce, x.di, x.fr, x.co]
theorem keyN_inj {x y : N6} (h : keyN x = keyN y) : x = y := by
  simp only [keyN, List.cons.injEq, and_true] at h
  cases x; cases y; simp_all
def lexL : List Int → List Int → Bool | a :: l, b :: m => if a = b then lexL l m else decide (a < b) | _, _ => false
def cmpL : List Int → List Int → Int | a :: l, b :: m => if a = b then cmpL l m else if a < b then -1 else 1 | _, _ => 0
/-- does x stand before y? -/
def befN (x y : N6) : Bool := lexL (keyN x) (keyN y)
def cmpN (x y : N6) : Int := cmpL (keyN x) (keyN y)
theorem cmpL_lt : ∀ l m, decide (cmpL l m < 0) = lexL l m
  | [], [] => rfl
  | [], _ :: _ => rfl
  | _ :: _, [] => rfl
  | a :: l, b :: m => by
    simp only [cmpL, lexL]
    split
    · exact cmpL_lt l m
    · split <;> simp_all
theorem cmpN_lt (x y : N6) : decide (cmpN x y < 0) = befN x y := cmpL_lt _ _
theorem lexL_irrefl : ∀ l, lexL l l = false
  | [] => rfl
  | a :: l => by simp only [lexL, if_true]; exact lexL_irrefl l
theorem lexL_trans : ∀ l m k, lexL l m = true → lexL m k = true → lexL l k = true
  | [], m, k, h, _ => by cases m <;> simp [lexL] at h
  | a :: l, [], k, h, _ => by simp [lexL] at h
  | a :: l, b :: m, [], _, h => by simp [lexL] at h
  | a :: l, b :: m, c :: k, h1, h2 => by
    simp only [lexL] at *
    by_cases e1 : a = b
    · subst e1
      by_cases e2 : a = c
      · subst e2
        simp only [if_true] at *
        exact lexL_trans l m k h1 h2
      · simp only [if_neg e2] at *; exact h2
    · rw [if_neg e1] at h1
      have h1' : a < b := by simpa using h1
      by_cases e2 : b = c
      · subst e2; rw [if_neg e1]; exact h1
      · rw [if_neg e2] at h2
        have h2' : b < c := by simpa using h2
        rw [if_neg (by omega)]
        simp; omega
theorem lexL_ntrans : ∀ l m k : List Int, l.length = m.length → m.length = k.length → lexL l m = false → lexL m k = false → lexL l k = false
  | [], _, k, _, _, _, _ => by cases k <;> rfl
  | a :: l, [], k, h, _, _, _ => by simp at h
  | a :: l, b :: m, [], _, h, _, _ => by simp at h
  | a :: l, b :: m, c :: k, l1, l2, h1, h2 => by
    simp only [lexL, List.length_cons, Nat.add_right_cancel_iff] at *
    by_cases e1 : a = b
    · subst e1
      by_cases e2 : a = c
      · subst e2
        simp only [if_true] at *
        exact lexL_ntrans l m k l1 l2 h1 h2
      · simp only [if_neg e2] at *; exact h2
    · rw [if_neg e1] at h1
      have h1' : ¬ a < b := by simpa using h1
      by_cases e2 : b = c
      · subst e2; rw [if_neg e1]; exact h1
      · rw [if_neg e2] at h2
        have h2' : ¬ b < c := by simpa using h2
        rw [if_neg (by omega)]
        simp; omega
theorem lexL_total : ∀ l m : List Int, l.length = m.length → lexL l m = false → lexL m l = false → l = m
  | [], [], _, _, _ => rfl
  | [], _ :: _, h, _, _ => by simp at h
  | _ :: _, [], h, _, _ => by simp at h
  | a :: l, b :: m, h, h1, h2 => by
    simp only [lexL, List.length_cons, Nat.add_right_cancel_iff] at *
    by_cases e : a = b
    · subst e
      simp only [if_true] at *
      rw [lexL_total l m h h1 h2]
    · rw [if_neg e] at h1
      rw [if_neg (fun h => e h.symm)] at h2
      have h1' : ¬ a < b := by simpa using h1
      have h2' : ¬ b < a := by simpa using h2
      omega
theorem befN_irrefl (x : N6) : befN x x = false := lexL_irrefl _
theorem befN_trans {x y z : N6} (h1 : befN x y = true) (h2 : befN y z = true) : befN x z = true := lexL_trans _ _ _ h1 h2
theorem befN_ntrans {x y z : N6} (h1 : befN x y = false) (h2 : befN y z = false) : befN x z = false := lexL_ntrans (keyN x) (keyN y) (keyN z) rfl rfl h1 h2
theorem befN_total {x y : N6} (h1 : befN x y = false) (h2 : befN y x = false) : x = y := keyN_inj (lexL_total (keyN x) (keyN y) rfl h1 h2)
theorem befN_asymm {x y : N6} (h : befN x y = true) : befN y x = false := by
  rw [← Bool.not_eq_true]; intro h2
  have := befN_trans h h2
  rw [befN_irrefl] at this; cases this
/-- notes in order -/
def OrdN (l : List N6) : Prop := l.Pairwise fun x y => befN y x = false
/-- put in order -/
def sortN (l : List N6) : List N6 := l.mergeSort fun x y => !befN y x
theorem sortN_perm (l : List N6) : (sortN l).Perm l := List.mergeSort_perm l _
theorem sortN_ord (l : List N6) : OrdN (sortN l) := by
  have h := List.pairwise_mergeSort (le := fun x y => !befN y x) (fun a b c h1 h2 => by
    simp only [Bool.not_eq_true'] at *
    exact befN_ntrans h2 h1) (fun a b => by
    cases h : befN b a
    · rfl
    · simp [befN_asymm h]) l
  exact h.imp fun {a b} h => by simpa using h
theorem ord_unique : ∀ {l m : List N6}, l.Perm m → OrdN l → OrdN m → l = m
  | [], m, h, _, _ => by rw [List.nil_perm.1 h]
  | x :: l, [], h, _, _ => by simpa using h.length_eq
  | x :: l, y :: m, h, hl, hm => by
    obtain ⟨hl1, hl2⟩ := List.pairwise_cons.1 hl
    obtain ⟨hm1, hm2⟩ := List.pairwise_cons.1 hm
    have e : x = y := by
      have h1 : x ∈ y :: m := h.mem_iff.1 (List.mem_cons_self ..)
      have h2 : y ∈ x :: l := h.mem_iff.2 (List.mem_cons_self ..)
      rcases List.mem_cons.1 h1 with e | h1
      · exact e
      rcases List.mem_cons.1 h2 with e | h2
      · exact e.symm
      exact befN_total (hm1 x h1) (hl1 y h2)
    subst e
    rw [ord_unique ((List.perm_cons _).1 h) hl2 hm2]
theorem sortN_eq {l m : List N6} (h : m.Perm l) (ho : OrdN m) : m = sortN l := ord_unique (h.trans (sortN_perm l).symm) ho (sortN_ord l)
theorem sortN_length (l : List N6) : (sortN l).length = l.length := (sortN_perm l).length_eq
instance : Inhabited N6 := ⟨N6.zero⟩
/-- the list of the first n notes -/
def lstN (p : Nat → N6) (n : Nat) : List N6 := (List.range n).map p
theorem lstN_length (p : Nat → N6) (n : Nat) : (lstN p n).length = n := by simp [lstN]
theorem lstN_getD (p : Nat → N6) {n k : Nat} (h : k < n) : (lstN p n).getD k N6.zero = p k := by
  simp [lstN, List.getD_eq_getElem?_getD, h]
theorem sn_row {w : World} {b o n : Nat} {p : Nat → N6} (H : Sn w (some ⟨b, o, none⟩) n p) : ∀ j u, (flatN (lstN p n))[j]? = some u → w.cell? ((⟨b, o, none⟩ : Addr).add j) = some u := fun j u hu => by
  have hl : (flatN (lstN p n)).length = n * 6 := by rw [flatN_length, lstN_length]
  have hj : j < n * 6 := by
    rcases Nat.lt_or_ge j (n * 6) with h | h
    · exact h
    · rw [List.getElem?_eq_none (by omega)] at hu; cases hu
  obtain ⟨b', o', e, _, c⟩ := H (j / 6) (by omega)
  injection e with e; injection e with e1 e2 _
  subst e1 e2
  have h1 := flatN_at (lstN p n) (j / 6) (j % 6) (by rw [lstN_length]; omega) (Nat.mod_lt _ (by omega))
  rw [show j / 6 * 6 + j % 6 = j by omega, hu, lstN_getD _ (by omega)] at h1
  rw [addrAdd, h1, ← c (j % 6) (Nat.mod_lt _ (by omega))]
  congr 2; omega
end Go.Proofs.YtjkngkogddmceaaGreat
/- A map from numbers to cells that a call makes: what it holds, a look-up, a store; a range over it, whose round may store at a key that is there. -/
namespace Go.Proofs.YtjkngkogddmceaaGreat
open Go Go.RowKit Go.ChangeMaps Go.MapKept Go.WideShapes
open Go.WideElems (Fit rd rg pl rd_key rd_val rg_of rd_mk other_key)
open Go.Maps (Keyed IsMap atKey_put_same atKey_put_other has_put_same has_put_other)
set_option linter.unusedVariables false
section
variable {H : Type} {P : Program} {k : TypeId} {R : Value → Option (DataW H × List MemPlace)} {w : World} {b r n : Nat} {D : DataW H} {left : Lit → Bool} {cnt : Nat}
/-- a store at a key that is there, in a round -/
theorem ranges_put {t e : TypeId} (h : w.ranges P k R b r n D left cnt) (K : Keyed P k) (ht : P.underlying t = some (.map k e)) (hn : n < maxLen) {key val : Value} {kl : Lit} {d : DataW H} {ps : List MemPlace} (hkey : keyOf P k key = some kl) (hv : R val = some (d, ps))
    (hin : ∃ y, ∀ zd, D.atKey kl zd = y) : ∃ w', (Instr.mapUpdate t (.map (some b)) key val).run P w = .ok () w' ∧ w'.ranges P k R b r n (D.put kl d) left cnt ∧ w.mapTurned w' b := by
  have hne := h.ne
  obtain ⟨es, clock, since, seen, c0, hb, F, hs, rfl, hr, hold, rfl, hl1, hl2, hsc, hsk⟩ := h
  obtain ⟨es', clock', hrun, F', hput, _, _, hwho⟩ := Maps.fit_store (R' := R) K ht hb F (Nat.lt_of_le_of_lt hs hn) (fun _ _ _ _ hz => hz) hkey hv
  rcases K.find w hkey es.toList F.keys with ⟨h1, h2⟩ | ⟨j, e0, h1, h2, h3⟩
  · exfalso
    obtain ⟨y, hy⟩ := hin
    have hat := (atKey_sorted (es.toList.map (rg P k R)) (Maps.fit_rising K F) kl (K.key hkey)).1 (fun p hp => by
      obtain ⟨x, hx, rfl⟩ := List.mem_map.1 hp
      obtain ⟨z, hz⟩ := F.reads x hx
      rw [rg_of hz]
      intro e1
      exact h2 x hx (K.inj (e1 ▸ rd_key hz) hkey))
    have a1 := hy (.lit (.bool true)); have a2 := hy (.lit (.bool false))
    rw [hat] at a1 a2
    rw [← a2] at a1
    injection a1 with a1
    injection a1 with a1
    cases a1
  · have hj : es[j]? = some e0 := by simpa using h2
    have hrun2 : (Instr.mapUpdate t (.map (some b)) key val).run P w = .ok () (setBlock w b (.map (es.modify j (fun e' => { e' with key := key, val := val })) clock)) := by
      simp [Instr.mapUpdate, run_underlying ht, MapKept.run_getObj_map hb, K.check w false hkey, h1, hj, h3, K.stays w hkey, MapKept.run_setObj_map _ hb, Result.andThen, setBlock]
    have heq : es' = es.modify j (fun e' => { e' with key := key, val := val }) ∧ clock' = clock := by
      rw [hrun] at hrun2
      injection hrun2 with _ hw
      have h4 := heap_setBlock_same hb (.map es' clock')
      rw [hw, heap_setBlock_same hb _] at h4
      injection h4 with h4
      injection h4 with h5 h6
      exact ⟨h5.symm, h6.symm⟩
    obtain ⟨rfl, rfl⟩ := heq
    have hlist : (es.modify j (fun e' => { e' with key := key, val := val })).toList = es.toList.set j { e0 with key := key, val := val } := by rw [Array.toList_modify, modify_eq_set _ _ _ _ h2]
    have hjl : j < es.toList.length := (List.getElem?_eq_some_iff.1 h2).1
    have hrg0 : (rg P k R e0).1 = kl := by
      obtain ⟨z, hz⟩ := F.reads e0 (List.mem_of_getElem? h2)
      rw [rg_of hz]
      have := rd_key hz
      rw [h3, hkey] at this
      exact (Option.some.inj this).symm
    have hrgn : (rg P k R { e0 with key := key, val := val }).1 = kl := by rw [rg_of (rd_mk hkey hv)]
    have mem' : ∀ x ∈ es.toList.set j { e0 with key := key, val := val }, x = { e0 with key := key, val := val } ∨ x ∈ es.toList := fun x hx => (List.mem_or_eq_of_mem_set hx).symm
    refine ⟨_, hrun, ⟨_, _, since, seen, c0, heap_setBlock_same hb _, F', by simpa using hs, by rw [DataW.put_eq, hput], (heap_setBlock_other hb _ hne).trans hr, fun x hx => ?_, ?_, fun x hx => ?_, fun x0 hx0 => ?_, hsc, hsk⟩, ⟨es, clock', _, _, hb, rfl⟩⟩
    · rw [hlist] at hx
      rcases mem' x hx with rfl | hx
      · exact hold e0 (List.mem_of_getElem? h2)
      · exact hold x hx
    · have e1 : ∀ a : Array MapEntry, (leftOf a seen).size = (a.toList.filter fun e => !seen.contains e.born).length := fun a => by
        unfold leftOf
        rw [← Array.toList_filter, Array.length_toList]
      rw [e1, e1, hlist]
      have key2 : ∀ (l : List MapEntry) (j : Nat) (e0 : MapEntry), l[j]? = some e0 → ((l.set j { e0 with key := key, val := val }).filter fun e => !seen.contains e.born).length = (l.filter fun e => !seen.contains e.born).length := by
        intro l
        induction l with
        | nil => intro j e0 h; simp at h
        | cons a l ih =>
          intro j e0 h
          cases j with
          | zero =>
            simp at h
            subst h
            simp only [List.set_cons_zero, List.filter_cons]
            split <;> rfl
          | succ j =>
            simp at h
            simp only [List.set_cons_succ, List.filter_cons]
            split
            · simp only [List.length_cons]; rw [ih j e0 h]
            · exact ih j e0 h
      exact key2 _ _ _ h2
    · rw [hlist] at hx
      rcases mem' x hx with rfl | hx
      · rw [hrgn, ← hrg0, hl1 e0 (List.mem_of_getElem? h2)]
      · exact hl1 x hx
    · obtain ⟨x, hx, hx2⟩ := hl2 x0 hx0
      rw [hlist]
      obtain ⟨i, hi⟩ := List.getElem?_of_mem hx
      by_cases e1 : i = j
      · subst e1
        rw [h2] at hi
        injection hi with hi
        subst hi
        refine ⟨{ e0 with key := key, val := val }, List.mem_of_getElem? (i := i) (by rw [List.getElem?_set_self hjl]), ?_⟩
        rw [hrgn, ← hx2, hrg0]
      · exact ⟨x, List.mem_of_getElem? (i := i) (by rw [List.getElem?_set_ne (fun e2 => e1 e2.symm)]; exact hi), hx2⟩
end
/-- how a cell reads -/
def encC (c : C4) : DataW Unit := .agg [.lit (.int .i64 c.e), .lit (.int .i64 c.n), .lit (.int .i64 c.w), .lit (.int .i64 c.s)]
theorem encC_inj {c d : C4} (h : encC c = encC d) : c = d := by
  simp only [encC, DataW.agg.injEq, List.cons.injEq, DataW.lit.injEq, Lit.int.injEq, true_and, and_true] at h
  obtain ⟨h1, h2, h3, h4⟩ := h
  cases c; cases d; simp_all
def cellR (v : Value) : Option (DataW Unit × List MemPlace) :=
  match v with
  | .agg xs => match xs.toList with
    | [.int .i64 e, .int .i64 n, .int .i64 w, .int .i64 s] => some (encC ⟨e, n, w, s⟩, [])
    | _ => none
  | _ => none
theorem cellR_val (c : C4) : cellR c.val = some (encC c, []) := rfl
theorem cellR_inv {v : Value} {y : DataW Unit × List MemPlace} (h : cellR v = some y) : ∃ c : C4, v = c.val ∧ y = (encC c, []) := by
  unfold cellR at h
  split at h
  · rename_i xs
    split at h
    · rename_i e n w s hx
      injection h with h
      refine ⟨⟨e, n, w, s⟩, ?_, h.symm⟩
      obtain ⟨l⟩ := xs
      simp only at hx
      subst hx
      rfl
    · cases h
  · cases h
/-- which keys a map has, and what stands there -/
def RdM (D : DataW Unit) (S : Int → Bool) (V : Int → C4) : Prop := ∀ i : Int, (Lit.int .i64 i).wf = true → Maps.has D (.int .i64 i) = S i ∧ D.atKey (.int .i64 i) (encC C4.zero) = encC (V i)
def CmM (w : World) (b n : Nat) (S : Int → Bool) (V : Int → C4) : Prop := ∃ D : DataW Unit, w.ownsMap Tryz.prog 3 cellR b n D ∧ RdM D S V
theorem cmm_made (w : World) : CmM (w.alloc (.map #[] 0)) w.heap.size 0 (fun _ => false) (fun _ => C4.zero) :=
  ⟨.map [], World.ownsMap_made w _ _ _, fun i _ => by simp [DataW.atKey, Maps.has]⟩
theorem cmm_lt {w : World} {b n : Nat} {S : Int → Bool} {V : Int → C4} (h : CmM w b n S V) : b < w.heap.size := by
  obtain ⟨D, h1, _⟩ := h; exact h1.lt
theorem cmm_below {w w' : World} {b n : Nat} {S : Int → Bool} {V : Int → C4} (h : CmM w b n S V) (hb : Below w.heap.size w w') : CmM w' b n S V := by
  have hl := cmm_lt h
  obtain ⟨D, ⟨es, clock, h1, h2⟩, hat⟩ := h
  exact ⟨D, ⟨es, clock, by rw [hb.block b hl]; exact h1, h2⟩, hat⟩
theorem cmm_look {w : World} {b n : Nat} {S : Int → Bool} {V : Int → C4} (h : CmM w b n S V) {i : Int} (hi : (Lit.int .i64 i).wf = true) :
    (Instr.lookup 136 (.map (some b)) (.int .i64 i) false).run Tryz.prog w = .ok (V i).val w := by
  obtain ⟨D, ho, hat⟩ := h
  obtain ⟨v, ps, hrun, hv⟩ := ho.lookup keyedInt Tryz.underlying136 (z := C4.zero.val) (by kernel_rfl) (cellR_val C4.zero) (Go.Maps.keyOf_int_mk Tryz.underlying3 hi)
  obtain ⟨c, rfl, hc⟩ := cellR_inv hv
  have hc1 := congrArg Prod.fst hc
  have hc2 : encC (V i) = encC c := (hat i hi).2.symm.trans hc1
  rw [hrun, encC_inj hc2]
theorem rdm_put {D : DataW Unit} {S : Int → Bool} {V : Int → C4} (hm : IsMap D) (h : RdM D S V) (i : Int) (c : C4) : RdM (D.put (.int .i64 i) (encC c)) (fun j => S j || i == j) (fun j => if i = j then c else V j) := fun j hj => by
  by_cases e : i = j
  · subst e
    rw [atKey_put_same hm (by trivial), has_put_same hm (by trivial)]
    simp
  · rw [atKey_put_other (by intro h'; injection h' with _ h'; exact e h'.symm), has_put_other (by intro h'; injection h' with _ h'; exact e h'.symm), (h j hj).1, (h j hj).2]
    simp [e]
theorem cmm_store {w : World} {b n : Nat} {S : Int → Bool} {V : Int → C4} (h : CmM w b n S V) (hn : n < maxLen) {i : Int} (hi : (Lit.int .i64 i).wf = true) (c : C4) :
    ∃ w', (Instr.mapUpdate 136 (.map (some b)) (.int .i64 i) c.val).run Tryz.prog w = .ok () w' ∧ CmM w' b (n + 1) (fun j => S j || i == j) (fun j => if i = j then c else V j) ∧ w.mapTurned w' b := by
  obtain ⟨D, ho, hat⟩ := h
  obtain ⟨w', hrun, ho', ht⟩ := ho.store keyedInt Tryz.underlying136 hn (Go.Maps.keyOf_int_mk Tryz.underlying3 hi) (cellR_val c)
  exact ⟨w', hrun, ⟨_, ho', rdm_put ho.isMap hat i c⟩, ht⟩
theorem cmm_congr {w : World} {b n : Nat} {S S' : Int → Bool} {V V' : Int → C4} (h : CmM w b n S V) (e : ∀ x, S x = S' x) (e' : ∀ x, V x = V' x) : CmM w b n S' V' := by
  obtain ⟨D, h1, h2⟩ := h
  exact ⟨D, h1, fun x hx => by rw [← e x, ← e' x]; exact h2 x hx⟩
/-- a range over such a map under way: L says which keys are still to come -/
def RgC (w : World) (b r n : Nat) (S : Int → Bool) (V : Int → C4) (L : Int → Bool) (cnt : Nat) : Prop :=
  ∃ (D : DataW Unit) (left : Lit → Bool), w.ranges Tryz.prog 3 cellR b r n D left cnt ∧ RdM D S V ∧ ∀ i : Int, (Lit.int .i64 i).wf = true → left (.int .i64 i) = L i
theorem rgc_start {w : World} {b n : Nat} {S : Int → Bool} {V : Int → C4} (h : CmM w b n S V) :
    ∃ w' cnt, (Instr.range 136 (.map (some b))).run Tryz.prog w = .ok (.pointer (some ⟨w.heap.size, 0, none⟩)) w' ∧ RgC w' b w.heap.size n S V S cnt ∧ w.grownBy w' none ∧ w'.heap.size = w.heap.size + 1 := by
  obtain ⟨D, ho, hat⟩ := h
  obtain ⟨w', hrun, hr, hg, hs⟩ := ho.range keyedInt Tryz.underlying136
  exact ⟨w', _, hrun, ⟨D, _, hr, hat, fun i hi => (hat i hi).1⟩, hg, hs⟩
theorem rgc_left {w : World} {b r n : Nat} {S : Int → Bool} {V : Int → C4} {L : Int → Bool} {cnt : Nat} (h : RgC w b r n S V L cnt) : w.rangeLeft b r = cnt := by
  obtain ⟨D, left, hr, _⟩ := h; exact hr.left_eq
theorem rgc_owns {w : World} {b r n : Nat} {S : Int → Bool} {V : Int → C4} {L : Int → Bool} {cnt : Nat} (h : RgC w b r n S V L cnt) : CmM w b n S V := by
  obtain ⟨D, left, hr, hat, _⟩ := h; exact ⟨D, hr.owns, hat⟩
theorem rgc_next {w : World} {b r n : Nat} {S : Int → Bool} {V : Int → C4} {L : Int → Bool} {cnt : Nat} (h : RgC w b r n S V L cnt) (ty : TypeId) :
    ((∀ i, (Lit.int .i64 i).wf = true → L i = false) ∧ (Instr.next (.pointer (some ⟨r, 0, none⟩)) false ty).run Tryz.prog w = .ok (.tuple #[.bool false]) w) ∨
    ∃ (i : Int) (w' : World) (cnt' : Nat), (Lit.int .i64 i).wf = true ∧ L i = true ∧ (∃ c', RgC w' b r n S V (fun j => L j && !(j == i)) c' ∧ c' = cnt') ∧ cnt' < cnt ∧ (Instr.next (.pointer (some ⟨r, 0, none⟩)) false ty).run Tryz.prog w = .ok (.tuple #[.bool true, .int .i64 i, (V i).val]) w' ∧
      w.grownBy w' (some r) ∧ w'.heap.size = w.heap.size ∧ (Instr.entry (.pointer (some ⟨r, 0, none⟩))).run Tryz.prog w' = .ok (.tuple #[.int .i64 i, (V i).val]) w' ∧
      ∀ c : C4, n < maxLen → ∀ W, Below w'.heap.size w' W → ∃ W', (Instr.mapUpdate 136 (.map (some b)) (.int .i64 i) c.val).run Tryz.prog W = .ok () W' ∧ RgC W' b r n (fun j => S j || i == j) (fun j => if i = j then c else V j) (fun j => L j && !(j == i)) cnt' ∧ W.mapTurned W' b := by
  obtain ⟨D, left, hr, hat, hl⟩ := h
  rcases hr.next keyedInt ty with ⟨h0, h1, h2⟩ | ⟨key, v, kl, y, w', cnt', hk, hlk, hv, hay, hrun, hr', hlt, hg, hs, hen⟩
  · exact .inl ⟨fun i hi => by rw [← hl i hi, h1], h2⟩
  · obtain ⟨i, rfl, rfl, hwi⟩ := Maps.keyOf_int_inv Tryz.underlying3 hk
    obtain ⟨c, rfl, rfl⟩ := cellR_inv hv
    have hVc : V i = c := by
      have h1 := (hat i hwi).2
      rw [hay] at h1
      exact (encC_inj h1).symm
    subst hVc
    have hL' : ∀ j : Int, (Lit.int .i64 j).wf = true → (fun z : Lit => left z && !z.sameKey (.int .i64 i)) (.int .i64 j) = (L j && !(j == i)) := fun j hj => by
      show (left (.int .i64 j) && !(Lit.int .i64 j).sameKey (.int .i64 i)) = _
      rw [hl j hj]
      have hsk : (Lit.int .i64 j).sameKey (.int .i64 i) = (j == i) := by rw [Bool.eq_iff_iff]; simp [Lit.sameKey]
      rw [hsk]
    refine .inr ⟨i, w', cnt', hwi, by rw [← hl i hwi]; exact hlk, ⟨cnt', ⟨D, _, hr', hat, hL'⟩, rfl⟩, hlt, hrun, hg, hs, hen, fun c hn W hW => ?_⟩
    have hrW : W.ranges Tryz.prog 3 cellR b r n D (fun z => left z && !z.sameKey (.int .i64 i)) cnt' := by
      have hb1 := hr'.owns.lt; have hr1 := hr'.lt
      obtain ⟨es, clock, since, seen, c0, a1, a2, a3, a4, a5, a6⟩ := hr'
      exact ⟨es, clock, since, seen, c0, (hW.block b hb1).trans a1, a2, a3, a4, (hW.block r hr1).trans a5, a6⟩
    obtain ⟨W', hrun', hr2, ht⟩ := ranges_put hrW keyedInt Tryz.underlying136 hn hk (cellR_val c) ⟨_, hay⟩
    exact ⟨W', hrun', ⟨_, _, hr2, rdm_put hrW.owns.isMap hat i c, hL'⟩, ht⟩
end Go.Proofs.YtjkngkogddmceaaGreat
/- Walk: Sorted, of the reference (two sorted halves put together). -/
namespace Go.Proofs.YtjkngkogddmceaaGreat
open Go Go.RowKit
set_option linter.unusedVariables false
set_option linter.unusedSimpArgs false
/-- two sorted lists are being put together -/
structure MrgI (l out a b : List N6) : Prop where
  perm : (out ++ (a ++ b)).Perm l
  oa : OrdN a
  ob : OrdN b
  oo : OrdN out
  le : ∀ x ∈ out, ∀ y, y ∈ a ∨ y ∈ b → befN y x = false
theorem MrgI.swap {l out a b : List N6} (h : MrgI l out a b) : MrgI l out b a :=
  ⟨((List.perm_append_comm).append_left out).trans h.perm, h.ob, h.oa, h.oo, fun x hx y hy => h.le x hx y hy.symm⟩
theorem MrgI.step {l out a b : List N6} {x : N6} (h : MrgI l out (x :: a) b) (hb : ∀ y, b.head? = some y → befN y x = false) : MrgI l (out ++ [x]) a b := by
  obtain ⟨ha1, ha2⟩ := List.pairwise_cons.1 h.oa
  refine ⟨?_, ha2, h.ob, ?_, ?_⟩
  · have := h.perm
    simpa using this
  · refine List.pairwise_append.2 ⟨h.oo, List.pairwise_singleton _ _, fun u hu v hv => ?_⟩
    rw [List.mem_singleton.1 hv]
    exact h.le u hu x (.inl (List.mem_cons_self ..))
  · intro u hu y hy
    rcases List.mem_append.1 hu with hu | hu
    · exact h.le u hu y (hy.imp (List.mem_cons_of_mem _) id)
    · rw [List.mem_singleton.1 hu]
      rcases hy with hy | hy
      · exact ha1 y hy
      · cases b with
        | nil => cases hy
        | cons z b =>
          have hz := hb z rfl
          rcases List.mem_cons.1 hy with rfl | hy
          · exact hz
          · exact befN_ntrans ((List.pairwise_cons.1 h.ob).1 y hy) hz
theorem MrgI.done {l out : List N6} (h : MrgI l out [] []) : out = sortN l := sortN_eq (by simpa using h.perm) h.oo
theorem MrgI.start {l a b : List N6} (h : l = a ++ b) : MrgI l [] (sortN a) (sortN b) :=
  ⟨by rw [h]; exact (sortN_perm a).append (sortN_perm b), sortN_ord a, sortN_ord b, List.Pairwise.nil, fun x hx => by cases hx⟩
theorem MrgI.len {l out a b : List N6} (h : MrgI l out a b) : out.length + a.length + b.length = l.length := by
  have := h.perm.length_eq
  simp at this; omega
/-- a slice that reads as a list -/
def ListR (W : World) (p : Option Addr) (n c : Nat) (A : List N6) : Prop := A.length = n ∧ n ≤ c ∧ Sn W p n (fun k => A.getD k N6.zero)
theorem Sn.from {w : World} {a : Option Addr} {n c l : Nat} {p : Nat → N6} (h : Sn w a n p) (hc : n ≤ c) : Sn w (if c = l then a else a.map (·.add (l * 6))) (n - l) (fun k => p (l + k)) := fun k hk => by
  obtain ⟨b, off, rfl, h2, h3⟩ := h (l + k) (by omega)
  rw [if_neg (by omega)]
  refine ⟨b, off + l * 6, ?_, h2, fun j hj => ?_⟩
  · rw [Option.map_some, addrAdd]
  · rw [← h3 j hj]; congr 2; omega
theorem Sn.to {w : World} {a : Option Addr} {n c l : Nat} {p : Nat → N6} (h : Sn w a n p) (hl : l ≤ n) : Sn w (if c = 0 then a else a.map (·.add (0 * 6))) l p := fun k hk => by
  obtain ⟨b, off, rfl, h2, h3⟩ := h k (by omega)
  refine ⟨b, off, ?_, h2, h3⟩
  split
  · rfl
  · rw [Nat.zero_mul, Option.map_some, addrAdd]; rfl
theorem ListR.below {W W' : World} {p : Option Addr} {n c : Nat} {A : List N6} (h : ListR W p n c A) (hb : Below W.heap.size W W') : ListR W' p n c A := ⟨h.1, h.2.1, h.2.2.below hb⟩
theorem notes_slice_from (a : Option Addr) (n c l : Nat) (h : l ≤ n) (w : World) : (Instr.slice 74 (.slice a n c) (some (.int .i64 (l : Int))) none none).run Tryz.prog w = .ok (.slice (if c = l then a else a.map (·.add (l * 6))) (n - l) (c - l)) w := by
  rw [run_slice_l w 74 a n c (by kernel_rfl) .i64 (l : Int) (by omega) (by omega)]
  have hz : (sizeOf (Tryz.prog.elem 74)).run Tryz.prog w = .ok 6 w := by kernel_rfl
  rw [hz]
  rfl
theorem notes_slice_to (a : Option Addr) (n c l : Nat) (h : l ≤ c) (w : World) : (Instr.slice 74 (.slice a n c) none (some (.int .i64 (l : Int))) none).run Tryz.prog w = .ok (.slice (if c = 0 then a else a.map (·.add (0 * 6))) l c) w := by
  rw [run_slice_h w 74 a n c (by kernel_rfl) .i64 (l : Int) (by omega) (by omega)]
  have hz : (sizeOf (Tryz.prog.elem 74)).run Tryz.prog w = .ok 6 w := by kernel_rfl
  rw [hz]
  rfl
theorem ListR.cons {W : World} {p : Option Addr} {n c : Nat} {A : List N6} (h : ListR W p n c A) (hn : 0 < n) : ∃ x T, A = x :: T := by
  cases A with
  | nil => have := h.1; simp at this; omega
  | cons x T => exact ⟨x, T, rfl⟩
theorem ListR.nil {W : World} {p : Option Addr} {n c : Nat} {A : List N6} (h : ListR W p n c A) (hn : n = 0) : A = [] := List.length_eq_zero_iff.1 (h.1.trans hn)
theorem listR_of_own {w : World} {base : Nat} {v : Value} {xs : List N6} (h : OwnN w base v xs) : ∃ p c, v = .slice p xs.length c ∧ ListR w p xs.length c xs := by
  obtain ⟨a, c, rfl, hs⟩ := sn_of_own h
  refine ⟨a, c, rfl, rfl, ?_, hs⟩
  rcases h.2 with ⟨e, h0⟩ | ⟨g, cap, cur, e, hb, hh, hn, hm, hc, ht⟩
  · omega
  · injection e with _ _ e3
    omega
theorem own_listR {w : World} {base : Nat} {p : Option Addr} {n c : Nat} {xs : List N6} (h : OwnN w base (.slice p n c) xs) : ListR w p n c xs := by
  obtain ⟨p', c', e, hl⟩ := listR_of_own h
  injection e with e1 e2 e3
  subst e1 e2 e3
  exact hl
end Go.Proofs.YtjkngkogddmceaaGreat
