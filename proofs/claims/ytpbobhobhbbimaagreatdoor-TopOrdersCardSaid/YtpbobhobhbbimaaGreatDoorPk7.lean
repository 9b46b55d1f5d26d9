/- Plain words and laws: the order of notes, and notes in order. No program in sight. -/
import Derived.Test.YtpbobhobhbbimaaGreatDoorPk2
import Derived.Test.YtpbobhobhbbimaaGreatDoorPk1
import Derived.Maps.RangeWalk
import Derived.Maps.OwnSet
import Derived.Below
import Derived.Test.YtpbobhobhbbimaaGreatDoorPk3
import Derived.Laws.AppendOwnNone
import Derived.Deep.Cut
namespace Go.Proofs.YtpbobhobhbbimaaGreatDoor
open Go Go.RowKit
set_option linter.unusedVariables false
/-- the numbers of a note, in the order in which notes are compared -/
def keyN (x : N6) : List Int := [x.st, x.to, x.ce, x.di, x.fr, x.co]
theorem keyN_inj {x y : N6} (h : keyN x = keyN y) : x = y := by
  simp only [keyN, List.cons.injEq, and_true] at h
  cases x; cases y; simp_all
def lexL : List Int → List Int → Bool | a :: l, b :: m => if a = b then lexL l m else decide (a < b) | _, _ => false
def cmpL : List Int → List Int → Int | a :: l, b :: m => if a = b then cmpL l m else if a < b then -1 else 1 | _, _ => 0
/-- does x stand before y? -/
def befN (x y : N6) : Bool := lexL (keyN x) (keyN y)
def cmpN (x y : N6) : Int := cmpL (keyN x) (keyN y)
theorem cmpL_lt : ∀ l m, decide (cmpL l m < 0) = lexL l m
  | [], [] => rfl
  | [], _ :: _ => rfl
  | _ :: _, [] => rfl
  | a :: l, b :: m => by
    simp only [cmpL, lexL]
    split
    · exact cmpL_lt l m
    · split <;> simp_all
theorem cmpN_lt (x y : N6) : decide (cmpN x y < 0) = befN x y := cmpL_lt _ _
theorem lexL_irrefl : ∀ l, lexL l l = false
  | [] => rfl
  | a :: l => by simp only [lexL, if_true]; exact lexL_irrefl l
theorem lexL_trans : ∀ l m k, lexL l m = true → lexL m k = true → lexL l k = true
  | [], m, k, h, _ => by cases m <;> simp [lexL] at h
  | a :: l, [], k, h, _ => by simp [lexL] at h
  | a :: l, b :: m, [], _, h => by simp [lexL] at h
  | a :: l, b :: m, c :: k, h1, h2 => by
    simp only [lexL] at *
    by_cases e1 : a = b
    · subst e1
      by_cases e2 : a = c
      · subst e2
        simp only [if_true] at *
        exact lexL_trans l m k h1 h2
      · simp only [if_neg e2] at *; exact h2
    · rw [if_neg e1] at h1
      have h1' : a < b := by simpa using h1
      by_cases e2 : b = c
      · subst e2; rw [if_neg e1]; exact h1
      · rw [if_neg e2] at h2
        have h2' : b < c := by simpa using h2
        rw [if_neg (by omega)]
        simp; omega
theorem lexL_ntrans : ∀ l m k : List Int, l.length = m.length → m.length = k.length → lexL l m = false → lexL m k = false → lexL l k = false
  | [], _, k, _, _, _, _ => by cases k <;> rfl
  | a :: l, [], k, h, _, _, _ => by simp at h
  | a :: l, b :: m, [], _, h, _, _ => by simp at h
  | a :: l, b :: m, c :: k, l1, l2, h1, h2 => by
    simp only [lexL, List.length_cons, Nat.add_right_cancel_iff] at *
    by_cases e1 : a = b
    · subst e1
      by_cases e2 : a = c
      · subst e2
        simp only [if_true] at *
        exact lexL_ntrans l m k l1 l2 h1 h2
      · simp only [if_neg e2] at *; exact h2
    · rw [if_neg e1] at h1
      have h1' : ¬ a < b := by simpa using h1
      by_cases e2 : b = c
      · subst e2; rw [if_neg e1]; exact h1
      · rw [if_neg e2] at h2
        have h2' : ¬ b < c := by simpa using h2
        rw [if_neg (by omega)]
        simp; omega
theorem lexL_total : ∀ l m : List Int, l.length = m.length → lexL l m = false → lexL m l = false → l = m
  | [], [], _, _, _ => rfl
  | [], _ :: _, h, _, _ => by simp at h
  | _ :: _, [], h, _, _ => by simp at h
  | a :: l, b :: m, h, h1, h2 => by
    simp only [lexL, List.length_cons, Nat.add_right_cancel_iff] at *
    by_cases e : a = b
    · subst e
      simp only [if_true] at *
      rw [lexL_total l m h h1 h2]
    · rw [if_neg e] at h1
      rw [if_neg (fun h => e h.symm)] at h2
      have h1' : ¬ a < b := by simpa using h1
      have h2' : ¬ b < a := by simpa using h2
      omega
theorem befN_irrefl (x : N6) : befN x x = false := lexL_irrefl _
theorem befN_trans {x y z : N6} (h1 : befN x y = true) (h2 : befN y z = true) : befN x z = true := lexL_trans _ _ _ h1 h2
theorem befN_ntrans {x y z : N6} (h1 : befN x y = false) (h2 : befN y z = false) : befN x z = false := lexL_ntrans (keyN x) (keyN y) (keyN z) rfl rfl h1 h2
theorem befN_total {x y : N6} (h1 : befN x y = false) (h2 : befN y x = false) : x = y := keyN_inj (lexL_total (keyN x) (keyN y) rfl h1 h2)
theorem befN_asymm {x y : N6} (h : befN x y = true) : befN y x = false := by
  rw [← Bool.not_eq_true]; intro h2
  have := befN_trans h h2
  rw [befN_irrefl] at this; cases this
/-- notes in order -/
def OrdN (l : List N6) : Prop := l.Pairwise fun x y => befN y x = false
/-- put in order -/
def sortN (l : List N6) : List N6 := l.mergeSort fun x y => !befN y x
theorem sortN_perm (l : List N6) : (sortN l).Perm l := List.mergeSort_perm l _
theorem sortN_ord (l : List N6) : OrdN (sortN l) := by
  have h := List.pairwise_mergeSort (le := fun x y => !befN y x) (fun a b c h1 h2 => by
    simp only [Bool.not_eq_true'] at *
    exact befN_ntrans h2 h1) (fun a b => by
    cases h : befN b a
    · rfl
    · simp [befN_asymm h]) l
  exact h.imp fun {a b} h => by simpa using h
theorem ord_unique : ∀ {l m : List N6}, l.Perm m → OrdN l → OrdN m → l = m
  | [], m, h, _, _ => by rw [List.nil_perm.1 h]
  | x :: l, [], h, _, _ => by simpa using h.length_eq
  | x :: l, y :: m, h, hl, hm => by
    obtain ⟨hl1, hl2⟩ := List.pairwise_cons.1 hl
    obtain ⟨hm1, hm2⟩ := List.pairwise_cons.1 hm
    have e : x = y := by
      have h1 : x ∈ y :: m := h.mem_iff.1 (List.mem_cons_self ..)
      have h2 : y ∈ x :: l := h.mem_iff.2 (List.mem_cons_self ..)
      rcases List.mem_cons.1 h1 with e | h1
      · exact e
      rcases List.mem_cons.1 h2 with e | h2
      · exact e.symm
      exact befN_total (hm1 x h1) (hl1 y h2)
    subst e
    rw [ord_unique ((List.perm_cons _).1 h) hl2 hm2]
theorem sortN_eq {l m : List N6} (h : m.Perm l) (ho : OrdN m) : m = sortN l := ord_unique (h.trans (sortN_perm l).symm) ho (sortN_ord l)
theorem sortN_of {l m : List N6} (h : l.Perm m) : sortN l = sortN m := sortN_eq ((sortN_perm l).trans h) (sortN_ord l)
theorem sortN_length (l : List N6) : (sortN l).length = l.length := (sortN_perm l).length_eq
instance : Inhabited N6 := ⟨N6.zero⟩
/-- the list of the first n notes -/
def lstN (p : Nat → N6) (n : Nat) : List N6 := (List.range n).map p
theorem lstN_length (p : Nat → N6) (n : Nat) : (lstN p n).length = n := by simp [lstN]
theorem lstN_getD (p : Nat → N6) {n k : Nat} (h : k < n) : (lstN p n).getD k N6.zero = p k := by
  simp [lstN, List.getD_eq_getElem?_getD, h]
theorem sn_row {w : World} {b o n : Nat} {p : Nat → N6} (H : Sn w (some ⟨b, o, none⟩) n p) : ∀ j u, (flatN (lstN p n))[j]? = some u → w.cell? ((⟨b, o, none⟩ : Addr).add j) = some u := fun j u hu => by
  have hl : (flatN (lstN p n)).length = n * 6 := by rw [flatN_length, lstN_length]
  have hj : j < n * 6 := by
    rcases Nat.lt_or_ge j (n * 6) with h | h
    · exact h
    · rw [List.getElem?_eq_none (by omega)] at hu; cases hu
  obtain ⟨b', o', e, _, c⟩ := H (j / 6) (by omega)
  injection e with e; injection e with e1 e2 _
  subst e1 e2
  have h1 := flatN_at (lstN p n) (j / 6) (j % 6) (by rw [lstN_length]; omega) (Nat.mod_lt _ (by omega))
  rw [show j / 6 * 6 + j % 6 = j by omega, hu, lstN_getD _ (by omega)] at h1
  rw [addrAdd, h1, ← c (j % 6) (Nat.mod_lt _ (by omega))]
  congr 2; omega
end Go.Proofs.YtpbobhobhbbimaaGreatDoor
/- Plain laws of steps: collisions, streaming on the torus, sums over it, and that they are undone. No program in sight. -/
namespace Go.Proofs.YtpbobhobhbbimaaGreatDoor
set_option linter.unusedVariables false
/-! ### collisions -/
def ruleOk (k b : Int) : Prop := ((k = 0 ∨ k = 1) ∧ b = 0) ∨ (k = 2 ∧ -1000000000 ≤ b ∧ b ≤ 1000000000)
def turnI (k b h p : Int) : Int := if k = 1 then p - h else if k = 2 then (h + b) % (p + 1) else h
def mn (a b : Int) : Int := if b < a then b else a
/-- a cell after a rule -/
def coll (k b : Int) (c : C4) : C4 :=
  let t := turnI k b (mn c.e c.w) (mn c.e c.w + mn c.n c.s) - mn c.e c.w
  ⟨c.e + t, c.n - t, c.w + t, c.s - t⟩
theorem turnI_range {k b h p : Int} (h0 : 0 ≤ h) (h1 : h ≤ p) : 0 ≤ turnI k b h p ∧ turnI k b h p ≤ p := by
  unfold turnI
  split
  · omega
  · split
    · have a := Int.emod_nonneg (h + b) (show p + 1 ≠ 0 by omega)
      have b' := Int.emod_lt_of_pos (h + b) (show 0 < p + 1 by omega)
      omega
    · omega
theorem mn_range {a b : Int} (ha : 0 ≤ a) (hb : 0 ≤ b) : 0 ≤ mn a b ∧ mn a b ≤ a ∧ mn a b ≤ b ∧ (mn a b = a ∨ mn a b = b) := by unfold mn; split <;> omega
theorem coll_mass (k b : Int) (c : C4) : (coll k b c).mass = c.mass := by simp only [coll, C4.mass]; omega
theorem coll_valid {k b : Int} {c : C4} (h : validC c = true) : validC (coll k b c) = true := by
  rw [validC_iff] at *
  obtain ⟨h1, h2, h3, h4, h5⟩ := h
  obtain ⟨a1, a2, a3, _⟩ := mn_range h1 h3
  obtain ⟨b1, b2, b3, _⟩ := mn_range h2 h4
  obtain ⟨t1, t2⟩ := turnI_range (k := k) (b := b) a1 (show mn c.e c.w ≤ mn c.e c.w + mn c.n c.s by omega)
  simp only [coll]
  omega
/-! ### sums -/
theorem sumTo_congr {f g : Nat → Int} : ∀ {n : Nat}, (∀ i, i < n → f i = g i) → sumTo f n = sumTo g n
  | 0, _ => rfl
  | n + 1, h => by
    have ih := sumTo_congr (f := f) (g := g) (n := n) (fun i hi => h i (by omega))
    simp only [sumTo, ih, h n (by omega)]
theorem sumTo_add (f g : Nat → Int) : ∀ n, sumTo (fun i => f i + g i) n = sumTo f n + sumTo g n
  | 0 => rfl
  | n + 1 => by simp only [sumTo, sumTo_add f g n]; omega
theorem sumTo_zero (n : Nat) : sumTo (fun _ => 0) n = 0 := by
  induction n with
  | zero => rfl
  | succ n ih => simp only [sumTo, ih]; rfl
theorem sumTo_point (a : Nat) (v : Int) : ∀ n, sumTo (fun i => if i = a then v else 0) n = if a < n then v else 0
  | 0 => rfl
  | n + 1 => by
    simp only [sumTo, sumTo_point a v n]
    split <;> split <;> split <;> omega
theorem sumTo_swap (f : Nat → Nat → Int) (m : Nat) : ∀ n, sumTo (fun i => sumTo (fun j => f i j) m) n = sumTo (fun j => sumTo (fun i => f i j) n) m
  | 0 => by simp only [sumTo]; rw [sumTo_zero]
  | n + 1 => by
    simp only [sumTo]
    rw [sumTo_swap f m n, ← sumTo_add]
/-- a sum over places in another order -/
theorem sumTo_perm {σ τ : Nat → Nat} {n : Nat} (h1 : ∀ i, i < n → σ i < n) (h2 : ∀ i, i < n → τ i < n) (h3 : ∀ i, i < n → τ (σ i) = i) (h4 : ∀ i, i < n → σ (τ i) = i) (f : Nat → Int) : sumTo (fun i => f (σ i)) n = sumTo f n := by
  have e1 : sumTo (fun i => f (σ i)) n = sumTo (fun i => sumTo (fun j => if j = σ i then f j else 0) n) n := by
    refine sumTo_congr fun i hi => ?_
    have e : sumTo (fun j => if j = σ i then f j else 0) n = sumTo (fun j => if j = σ i then f (σ i) else 0) n := by
      refine sumTo_congr fun j _ => ?_
      split
      · rename_i e; rw [e]
      · rfl
    rw [e, sumTo_point, if_pos (h1 i hi)]
  rw [e1, sumTo_swap]
  refine sumTo_congr fun j hj => ?_
  have e : sumTo (fun i => if j = σ i then f j else 0) n = sumTo (fun i => if i = τ j then f j else 0) n := by
    refine sumTo_congr fun i hi => ?_
    by_cases hij : j = σ i
    · rw [if_pos hij, if_pos (by rw [hij, h3 i hi])]
    · rw [if_neg hij, if_neg (fun e => hij (by rw [e, h4 j hj]))]
  rw [e, sumTo_point, if_pos (h2 j hj)]
theorem massTo_sum (g : Nat → C4) : ∀ n, massTo g n = sumTo (fun i => (g i).e) n + sumTo (fun i => (g i).n) n + sumTo (fun i => (g i).w) n + sumTo (fun i => (g i).s) n
  | 0 => rfl
  | n + 1 => by simp only [massTo, sumTo, massTo_sum g n, C4.mass]; omega
theorem massTo_masses {g h : Nat → C4} : ∀ {n : Nat}, (∀ i, i < n → (g i).mass = (h i).mass) → massTo g n = massTo h n
  | 0, _ => rfl
  | n + 1, e => by
    have ih := massTo_masses (g := g) (h := h) (n := n) (fun i hi => e i (by omega))
    simp only [massTo, ih, e n (by omega)]
/-! ### streaming -/
/-- the direction from which one comes back -/
def opp : Nat → Nat | 0 => 2 | 1 => 3 | 2 => 0 | _ => 1
theorem nbT_opp {W H i d : Nat} (h : i < W * H) (hd : d < 4) : nbT W H (nbT W H i d) (opp d) = i := by
  obtain ⟨hx, hy⟩ := row_lt h
  have hW : 0 < W := by omega
  have hH : 0 < H := Nat.lt_of_le_of_lt (Nat.zero_le _) hy
  rcases (by omega : d = 0 ∨ d = 1 ∨ d = 2 ∨ d = 3) with rfl | rfl | rfl | rfl
  · simp only [nbT, opp]
    rw [nb_mod (Nat.mod_lt _ hW), nb_div (Nat.mod_lt _ hW), down_up hx, Nat.mod_mod, Nat.mod_eq_of_lt hy, back_of]
  · simp only [nbT, opp]
    rw [nb_mod (Nat.mod_lt _ hW), nb_div (Nat.mod_lt _ hW), down_up hy, Nat.mod_mod, Nat.mod_mod, back_of]
  · simp only [nbT, opp]
    rw [nb_mod (Nat.mod_lt _ hW), nb_div (Nat.mod_lt _ hW), up_down hx, Nat.mod_mod, Nat.mod_eq_of_lt hy, back_of]
  · simp only [nbT, opp]
    rw [nb_mod (Nat.mod_lt _ hW), nb_div (Nat.mod_lt _ hW), up_down hy, Nat.mod_mod, Nat.mod_mod, back_of]
def flow (W H : Nat) (g : Nat → C4) : Nat → C4 := fun i => ⟨(g (nbT W H i 0)).e, (g (nbT W H i 1)).n, (g (nbT W H i 2)).w, (g (nbT W H i 3)).s⟩
theorem sum_nb {W H d : Nat} (hd : d < 4) (f : Nat → Int) : sumTo (fun i => f (nbT W H i d)) (W * H) = sumTo f (W * H) :=
  sumTo_perm (σ := fun i => nbT W H i d) (τ := fun i => nbT W H i (opp d)) (fun i hi => nbT_lt hi hd) (fun i hi => nbT_lt hi (by rcases (by omega : d = 0 ∨ d = 1 ∨ d = 2 ∨ d = 3) with rfl | rfl | rfl | rfl <;> simp [opp]))
    (fun i hi => nbT_opp hi hd) (fun i hi => by
      rcases (by omega : d = 0 ∨ d = 1 ∨ d = 2 ∨ d = 3) with rfl | rfl | rfl | rfl
      · exact nbT_opp (d := 2) hi (by omega)
      · exact nbT_opp (d := 3) hi (by omega)
      · exact nbT_opp (d := 0) hi (by omega)
      · exact nbT_opp (d := 1) hi (by omega)) f
theorem flow_mass (W H : Nat) (g : Nat → C4) : massTo (flow W H g) (W * H) = massTo g (W * H) := by
  rw [massTo_sum, massTo_sum]
  simp only [flow]
  rw [sum_nb (d := 0) (by omega) (fun i => (g i).e), sum_nb (d := 1) (by omega) (fun i => (g i).n), sum_nb (d := 2) (by omega) (fun i => (g i).w), sum_nb (d := 3) (by omega) (fun i => (g i).s)]
/-- cells of which each is none and all together are not too heavy are valid -/
theorem valid_of_parts {g : Nat → C4} {n : Nat} (h : ∀ i, i < n → 0 ≤ (g i).e ∧ 0 ≤ (g i).n ∧ 0 ≤ (g i).w ∧ 0 ≤ (g i).s) (hm : massTo g n ≤ 1000000000) : ∀ i, i < n → validC (g i) = true := by
  have pos : ∀ m, m ≤ n → 0 ≤ massTo g m := by
    intro m
    induction m with
    | zero => intro _; exact Int.le_refl _
    | succ m ih =>
      intro hmn
      have := ih (by omega); have := h m (by omega)
      simp only [massTo, C4.mass]; omega
  have mono : ∀ m, m ≤ n → ∀ i, i < m → (g i).mass ≤ massTo g m := by
    intro m
    induction m with
    | zero => intro _ i hi; omega
    | succ m ih =>
      intro hmn i hi
      have h1 := h m (by omega)
      have h2 := pos m (by omega)
      simp only [massTo]
      rcases Nat.lt_succ_iff_lt_or_eq.1 hi with h' | rfl
      · have := ih (by omega) i h'
        simp only [C4.mass] at *; omega
      · omega
  intro i hi
  have h1 := h i hi
  have h2 := mono n (Nat.le_refl _) i hi
  rw [validC_iff]
  simp only [C4.mass] at h2
  omega
theorem flow_valid {W H : Nat} {g : Nat → C4} (h : ∀ i, i < W * H → validC (g i) = true) (hm : massTo g (W * H) ≤ 1000000000) : ∀ i, i < W * H → validC (flow W H g i) = true :=
  valid_of_parts (fun i hi => by
    have h0 := (validC_iff _).1 (h _ (nbT_lt hi (show 0 < 4 by omega))); have h1 := (validC_iff _).1 (h _ (nbT_lt hi (show 1 < 4 by omega)))
    have h2 := (validC_iff _).1 (h _ (nbT_lt hi (show 2 < 4 by omega))); have h3 := (validC_iff _).1 (h _ (nbT_lt hi (show 3 < 4 by omega)))
    simp only [flow]; omega) (by rw [flow_mass]; exact hm)
end Go.Proofs.YtpbobhobhbbimaaGreatDoor
/- A map from numbers to cells that a call makes: what it holds, a look-up, a store; a range over it, whose round may store at a key that is there. -/
namespace Go.Proofs.YtpbobhobhbbimaaGreatDoor
open Go Go.RowKit Go.ChangeMaps Go.MapKept Go.WideShapes
open Go.WideElems (Fit rd rg pl rd_key rd_val rg_of rd_mk other_key)
open Go.Maps (Keyed IsMap atKey_put_same atKey_put_other has_put_same has_put_other)
set_option linter.unusedVariables false
section
variable {H : Type} {P : Program} {k : TypeId} {R : Value → Option (DataW H × List MemPlace)} {w : World} {b r n : Nat} {D : DataW H} {left : Lit → Bool} {cnt : Nat}
/-- a store at a key that is there, in a round -/
theorem ranges_put {t e : TypeId} (h : w.ranges P k R b r n D left cnt) (K : Keyed P k) (ht : P.underlying t = some (.map k e)) (hn : n < maxLen) {key val : Value} {kl : Lit} {d : DataW H} {ps : List MemPlace} (hkey : keyOf P k key = some kl) (hv : R val = some (d, ps))
    (hin : ∃ y, ∀ zd, D.atKey kl zd = y) : ∃ w', (Instr.mapUpdate t (.map (some b)) key val).run P w = .ok () w' ∧ w'.ranges P k R b r n (D.put kl d) left cnt ∧ w.mapTurned w' b := by
  have hne := h.ne
  obtain ⟨es, clock, since, seen, c0, hb, F, hs, rfl, hr, hold, rfl, hl1, hl2, hsc, hsk⟩ := h
  obtain ⟨es', clock', hrun, F', hput, _, _, hwho⟩ := Maps.fit_store (R' := R) K ht hb F (Nat.lt_of_le_of_lt hs hn) (fun _ _ _ _ hz => hz) hkey hv
  rcases K.find w hkey es.toList F.keys with ⟨h1, h2⟩ | ⟨j, e0, h1, h2, h3⟩
  · exfalso
    obtain ⟨y, hy⟩ := hin
    have hat := (atKey_sorted (es.toList.map (rg P k R)) (Maps.fit_rising K F) kl (K.key hkey)).1 (fun p hp => by
      obtain ⟨x, hx, rfl⟩ := List.mem_map.1 hp
      obtain ⟨z, hz⟩ := F.reads x hx
      rw [rg_of hz]
      intro e1
      exact h2 x hx (K.inj (e1 ▸ rd_key hz) hkey))
    have a1 := hy (.lit (.bool true)); have a2 := hy (.lit (.bool false))
    rw [hat] at a1 a2
    rw [← a2] at a1
    injection a1 with a1
    injection a1 with a1
    cases a1
  · have hj : es[j]? = some e0 := by simpa using h2
    have hrun2 : (Instr.mapUpdate t (.map (some b)) key val).run P w = .ok () (setBlock w b (.map (es.modify j (fun e' => { e' with key := key, val := val })) clock)) := by
      simp [Instr.mapUpdate, run_underlying ht, MapKept.run_getObj_map hb, K.check w false hkey, h1, hj, h3, K.stays w hkey, MapKept.run_setObj_map _ hb, Result.andThen, setBlock]
    have heq : es' = es.modify j (fun e' => { e' with key := key, val := val }) ∧ clock' = clock := by
      rw [hrun] at hrun2
      injection hrun2 with _ hw
      have h4 := heap_setBlock_same hb (.map es' clock')
      rw [hw, heap_setBlock_same hb _] at h4
      injection h4 with h4
      injection h4 with h5 h6
      exact ⟨h5.symm, h6.symm⟩
    obtain ⟨rfl, rfl⟩ := heq
    have hlist : (es.modify j (fun e' => { e' with key := key, val := val })).toList = es.toList.set j { e0 with key := key, val := val } := by rw [Array.toList_modify, modify_eq_set _ _ _ _ h2]
    have hjl : j < es.toList.length := (List.getElem?_eq_some_iff.1 h2).1
    have hrg0 : (rg P k R e0).1 = kl := by
      obtain ⟨z, hz⟩ := F.reads e0 (List.mem_of_getElem? h2)
      rw [rg_of hz]
      have := rd_key hz
      rw [h3, hkey] at this
      exact (Option.some.inj this).symm
    have hrgn : (rg P k R { e0 with key := key, val := val }).1 = kl := by rw [rg_of (rd_mk hkey hv)]
    have mem' : ∀ x ∈ es.toList.set j { e0 with key := key, val := val }, x = { e0 with key := key, val := val } ∨ x ∈ es.toList := fun x hx => (List.mem_or_eq_of_mem_set hx).symm
    refine ⟨_, hrun, ⟨_, _, since, seen, c0, heap_setBlock_same hb _, F', by simpa using hs, by rw [DataW.put_eq, hput], (heap_setBlock_other hb _ hne).trans hr, fun x hx => ?_, ?_, fun x hx => ?_, fun x0 hx0 => ?_, hsc, hsk⟩, ⟨es, clock', _, _, hb, rfl⟩⟩
    · rw [hlist] at hx
      rcases mem' x hx with rfl | hx
      · exact hold e0 (List.mem_of_getElem? h2)
      · exact hold x hx
    · have e1 : ∀ a : Array MapEntry, (leftOf a seen).size = (a.toList.filter fun e => !seen.contains e.born).length := fun a => by
        unfold leftOf
        rw [← Array.toList_filter, Array.length_toList]
      rw [e1, e1, hlist]
      have key2 : ∀ (l : List MapEntry) (j : Nat) (e0 : MapEntry), l[j]? = some e0 → ((l.set j { e0 with key := key, val := val }).filter fun e => !seen.contains e.born).length = (l.filter fun e => !seen.contains e.born).length := by
        intro l
        induction l with
        | nil => intro j e0 h; simp at h
        | cons a l ih =>
          intro j e0 h
          cases j with
          | zero =>
            simp at h
            subst h
            simp only [List.set_cons_zero, List.filter_cons]
            split <;> rfl
          | succ j =>
            simp at h
            simp only [List.set_cons_succ, List.filter_cons]
            split
            · simp only [List.length_cons]; rw [ih j e0 h]
            · exact ih j e0 h
      exact key2 _ _ _ h2
    · rw [hlist] at hx
      rcases mem' x hx with rfl | hx
      · rw [hrgn, ← hrg0, hl1 e0 (List.mem_of_getElem? h2)]
      · exact hl1 x hx
    · obtain ⟨x, hx, hx2⟩ := hl2 x0 hx0
      rw [hlist]
      obtain ⟨i, hi⟩ := List.getElem?_of_mem hx
      by_cases e1 : i = j
      · subst e1
        rw [h2] at hi
        injection hi with hi
        subst hi
        refine ⟨{ e0 with key := key, val := val }, List.mem_of_getElem? (i := i) (by rw [List.getElem?_set_self hjl]), ?_⟩
        rw [hrgn, ← hx2, hrg0]
      · exact ⟨x, List.mem_of_getElem? (i := i) (by rw [List.getElem?_set_ne (fun e2 => e1 e2.symm)]; exact hi), hx2⟩
end
/-- how a cell reads -/
def encC (c : C4) : DataW Unit := .agg [.lit (.int .i64 c.e), .lit (.int .i64 c.n), .lit (.int .i64 c.w), .lit (.int .i64 c.s)]
theorem encC_inj {c d : C4} (h : encC c = encC d) : c = d := by
  simp only [encC, DataW.agg.injEq, List.cons.injEq, DataW.lit.injEq, Lit.int.injEq, true_and, and_true] at h
  obtain ⟨h1, h2, h3, h4⟩ := h
  cases c; cases d; simp_all
def cellR (v : Value) : Option (DataW Unit × List MemPlace) :=
  match v with
  | .agg xs => match xs.toList with
    | [.int .i64 e, .int .i64 n, .int .i64 w, .int .i64 s] => some (encC ⟨e, n, w, s⟩, [])
    | _ => none
  | _ => none
theorem cellR_val (c : C4) : cellR c.val = some (encC c, []) := rfl
theorem cellR_inv {v : Value} {y : DataW Unit × List MemPlace} (h : cellR v = some y) : ∃ c : C4, v = c.val ∧ y = (encC c, []) := by
  unfold cellR at h
  split at h
  · rename_i xs
    split at h
    · rename_i e n w s hx
      injection h with h
      refine ⟨⟨e, n, w, s⟩, ?_, h.symm⟩
      obtain ⟨l⟩ := xs
      simp only at hx
      subst hx
      rfl
    · cases h
  · cases h
/-- which keys a map has, and what stands there -/
def RdM (D : DataW Unit) (S : Int → Bool) (V : Int → C4) : Prop := ∀ i : Int, (Lit.int .i64 i).wf = true → Maps.has D (.int .i64 i) = S i ∧ D.atKey (.int .i64 i) (encC C4.zero) = encC (V i)
def CmM (w : World) (b n : Nat) (S : Int → Bool) (V : Int → C4) : Prop := ∃ D : DataW Unit, w.ownsMap Tryz.prog 3 cellR b n D ∧ RdM D S V
theorem cmm_made (w : World) : CmM (w.alloc (.map #[] 0)) w.heap.size 0 (fun _ => false) (fun _ => C4.zero) :=
  ⟨.map [], World.ownsMap_made w _ _ _, fun i _ => by simp [DataW.atKey, Maps.has]⟩
theorem cmm_lt {w : World} {b n : Nat} {S : Int → Bool} {V : Int → C4} (h : CmM w b n S V) : b < w.heap.size := by
  obtain ⟨D, h1, _⟩ := h; exact h1.lt
theorem cmm_below {w w' : World} {b n : Nat} {S : Int → Bool} {V : Int → C4} (h : CmM w b n S V) (hb : Below w.heap.size w w') : CmM w' b n S V := by
  have hl := cmm_lt h
  obtain ⟨D, ⟨es, clock, h1, h2⟩, hat⟩ := h
  exact ⟨D, ⟨es, clock, by rw [hb.block b hl]; exact h1, h2⟩, hat⟩
theorem cmm_look {w : World} {b n : Nat} {S : Int → Bool} {V : Int → C4} (h : CmM w b n S V) {i : Int} (hi : (Lit.int .i64 i).wf = true) :
    (Instr.lookup 128 (.map (some b)) (.int .i64 i) false).run Tryz.prog w = .ok (V i).val w := by
  obtain ⟨D, ho, hat⟩ := h
  obtain ⟨v, ps, hrun, hv⟩ := ho.lookup keyedInt Tryz.underlying128 (z := C4.zero.val) (by kernel_rfl) (cellR_val C4.zero) (Go.Maps.keyOf_int_mk Tryz.underlying3 hi)
  obtain ⟨c, rfl, hc⟩ := cellR_inv hv
  have hc1 := congrArg Prod.fst hc
  have hc2 : encC (V i) = encC c := (hat i hi).2.symm.trans hc1
  rw [hrun, encC_inj hc2]
theorem rdm_put {D : DataW Unit} {S : Int → Bool} {V : Int → C4} (hm : IsMap D) (h : RdM D S V) (i : Int) (c : C4) : RdM (D.put (.int .i64 i) (encC c)) (fun j => S j || i == j) (fun j => if i = j then c else V j) := fun j hj => by
  by_cases e : i = j
  · subst e
    rw [atKey_put_same hm (by trivial), has_put_same hm (by trivial)]
    simp
  · rw [atKey_put_other (by intro h'; injection h' with _ h'; exact e h'.symm), has_put_other (by intro h'; injection h' with _ h'; exact e h'.symm), (h j hj).1, (h j hj).2]
    simp [e]
theorem cmm_store {w : World} {b n : Nat} {S : Int → Bool} {V : Int → C4} (h : CmM w b n S V) (hn : n < maxLen) {i : Int} (hi : (Lit.int .i64 i).wf = true) (c : C4) :
    ∃ w', (Instr.mapUpdate 128 (.map (some b)) (.int .i64 i) c.val).run Tryz.prog w = .ok () w' ∧ CmM w' b (n + 1) (fun j => S j || i == j) (fun j => if i = j then c else V j) ∧ w.mapTurned w' b := by
  obtain ⟨D, ho, hat⟩ := h
  obtain ⟨w', hrun, ho', ht⟩ := ho.store keyedInt Tryz.underlying128 hn (Go.Maps.keyOf_int_mk Tryz.underlying3 hi) (cellR_val c)
  exact ⟨w', hrun, ⟨_, ho', rdm_put ho.isMap hat i c⟩, ht⟩
theorem cmm_congr {w : World} {b n : Nat} {S S' : Int → Bool} {V V' : Int → C4} (h : CmM w b n S V) (e : ∀ x, S x = S' x) (e' : ∀ x, V x = V' x) : CmM w b n S' V' := by
  obtain ⟨D, h1, h2⟩ := h
  exact ⟨D, h1, fun x hx => by rw [← e x, ← e' x]; exact h2 x hx⟩
/-- a range over such a map under way: L says which keys are still to come -/
def RgC (w : World) (b r n : Nat) (S : Int → Bool) (V : Int → C4) (L : Int → Bool) (cnt : Nat) : Prop :=
  ∃ (D : DataW Unit) (left : Lit → Bool), w.ranges Tryz.prog 3 cellR b r n D left cnt ∧ RdM D S V ∧ ∀ i : Int, (Lit.int .i64 i).wf = true → left (.int .i64 i) = L i
theorem rgc_start {w : World} {b n : Nat} {S : Int → Bool} {V : Int → C4} (h : CmM w b n S V) :
    ∃ w' cnt, (Instr.range 128 (.map (some b))).run Tryz.prog w = .ok (.pointer (some ⟨w.heap.size, 0, none⟩)) w' ∧ RgC w' b w.heap.size n S V S cnt ∧ w.grownBy w' none ∧ w'.heap.size = w.heap.size + 1 := by
  obtain ⟨D, ho, hat⟩ := h
  obtain ⟨w', hrun, hr, hg, hs⟩ := ho.range keyedInt Tryz.underlying128
  exact ⟨w', _, hrun, ⟨D, _, hr, hat, fun i hi => (hat i hi).1⟩, hg, hs⟩
theorem rgc_left {w : World} {b r n : Nat} {S : Int → Bool} {V : Int → C4} {L : Int → Bool} {cnt : Nat} (h : RgC w b r n S V L cnt) : w.rangeLeft b r = cnt := by
  obtain ⟨D, left, hr, _⟩ := h; exact hr.left_eq
theorem rgc_owns {w : World} {b r n : Nat} {S : Int → Bool} {V : Int → C4} {L : Int → Bool} {cnt : Nat} (h : RgC w b r n S V L cnt) : CmM w b n S V := by
  obtain ⟨D, left, hr, hat, _⟩ := h; exact ⟨D, hr.owns, hat⟩
theorem rgc_next {w : World} {b r n : Nat} {S : Int → Bool} {V : Int → C4} {L : Int → Bool} {cnt : Nat} (h : RgC w b r n S V L cnt) (ty : TypeId) :
    ((∀ i, (Lit.int .i64 i).wf = true → L i = false) ∧ (Instr.next (.pointer (some ⟨r, 0, none⟩)) false ty).run Tryz.prog w = .ok (.tuple #[.bool false]) w) ∨
    ∃ (i : Int) (w' : World) (cnt' : Nat), (Lit.int .i64 i).wf = true ∧ L i = true ∧ (∃ c', RgC w' b r n S V (fun j => L j && !(j == i)) c' ∧ c' = cnt') ∧ cnt' < cnt ∧ (Instr.next (.pointer (some ⟨r, 0, none⟩)) false ty).run Tryz.prog w = .ok (.tuple #[.bool true, .int .i64 i, (V i).val]) w' ∧
      w.grownBy w' (some r) ∧ w'.heap.size = w.heap.size ∧ (Instr.entry (.pointer (some ⟨r, 0, none⟩))).run Tryz.prog w' = .ok (.tuple #[.int .i64 i, (V i).val]) w' ∧
      ∀ c : C4, n < maxLen → ∀ W, Below w'.heap.size w' W → ∃ W', (Instr.mapUpdate 128 (.map (some b)) (.int .i64 i) c.val).run Tryz.prog W = .ok () W' ∧ RgC W' b r n (fun j => S j || i == j) (fun j => if i = j then c else V j) (fun j => L j && !(j == i)) cnt' ∧ W.mapTurned W' b := by
  obtain ⟨D, left, hr, hat, hl⟩ := h
  rcases hr.next keyedInt ty with ⟨h0, h1, h2⟩ | ⟨key, v, kl, y, w', cnt', hk, hlk, hv, hay, hrun, hr', hlt, hg, hs, hen⟩
  · exact .inl ⟨fun i hi => by rw [← hl i hi, h1], h2⟩
  · obtain ⟨i, rfl, rfl, hwi⟩ := Maps.keyOf_int_inv Tryz.underlying3 hk
    obtain ⟨c, rfl, rfl⟩ := cellR_inv hv
    have hVc : V i = c := by
      have h1 := (hat i hwi).2
      rw [hay] at h1
      exact (encC_inj h1).symm
    subst hVc
    have hL' : ∀ j : Int, (Lit.int .i64 j).wf = true → (fun z : Lit => left z && !z.sameKey (.int .i64 i)) (.int .i64 j) = (L j && !(j == i)) := fun j hj => by
      show (left (.int .i64 j) && !(Lit.int .i64 j).sameKey (.int .i64 i)) = _
      rw [hl j hj]
      have hsk : (Lit.int .i64 j).sameKey (.int .i64 i) = (j == i) := by rw [Bool.eq_iff_iff]; simp [Lit.sameKey]
      rw [hsk]
    refine .inr ⟨i, w', cnt', hwi, by rw [← hl i hwi]; exact hlk, ⟨cnt', ⟨D, _, hr', hat, hL'⟩, rfl⟩, hlt, hrun, hg, hs, hen, fun c hn W hW => ?_⟩
    have hrW : W.ranges Tryz.prog 3 cellR b r n D (fun z => left z && !z.sameKey (.int .i64 i)) cnt' := by
      have hb1 := hr'.owns.lt; have hr1 := hr'.lt
      obtain ⟨es, clock, since, seen, c0, a1, a2, a3, a4, a5, a6⟩ := hr'
      exact ⟨es, clock, since, seen, c0, (hW.block b hb1).trans a1, a2, a3, a4, (hW.block r hr1).trans a5, a6⟩
    obtain ⟨W', hrun', hr2, ht⟩ := ranges_put hrW keyedInt Tryz.underlying128 hn hk (cellR_val c) ⟨_, hay⟩
    exact ⟨W', hrun', ⟨_, _, hr2, rdm_put hrW.owns.isMap hat i c, hL'⟩, ht⟩
end Go.Proofs.YtpbobhobhbbimaaGreatDoor
/- Walk: Sorted, of the reference (two sorted halves put together). -/
namespace Go.Proofs.YtpbobhobhbbimaaGreatDoor
open Go Go.RowKit
set_option linter.unusedVariables false
set_option linter.unusedSimpArgs false
/-- two sorted lists are being put together -/
structure MrgI (l out a b : List N6) : Prop where
  perm : (out ++ (a ++ b)).Perm l
  oa : OrdN a
  ob : OrdN b
  oo : OrdN out
  le : ∀ x ∈ out, ∀ y, y ∈ a ∨ y ∈ b → befN y x = false
theorem MrgI.swap {l out a b : List N6} (h : MrgI l out a b) : MrgI l out b a :=
  ⟨((List.perm_append_comm).append_left out).trans h.perm, h.ob, h.oa, h.oo, fun x hx y hy => h.le x hx y hy.symm⟩
theorem MrgI.step {l out a b : List N6} {x : N6} (h : MrgI l out (x :: a) b) (hb : ∀ y, b.head? = some y → befN y x = false) : MrgI l (out ++ [x]) a b := by
  obtain ⟨ha1, ha2⟩ := List.pairwise_cons.1 h.oa
  refine ⟨?_, ha2, h.ob, ?_, ?_⟩
  · have := h.perm
    simpa using this
  · refine List.pairwise_append.2 ⟨h.oo, List.pairwise_singleton _ _, fun u hu v hv => ?_⟩
    rw [List.mem_singleton.1 hv]
    exact h.le u hu x (.inl (List.mem_cons_self ..))
  · intro u hu y hy
    rcases List.mem_append.1 hu with hu | hu
    · exact h.le u hu y (hy.imp (List.mem_cons_of_mem _) id)
    · rw [List.mem_singleton.1 hu]
      rcases hy with hy | hy
      · exact ha1 y hy
      · cases b with
        | nil => cases hy
        | cons z b =>
          have hz := hb z rfl
          rcases List.mem_cons.1 hy with rfl | hy
          · exact hz
          · exact befN_ntrans ((List.pairwise_cons.1 h.ob).1 y hy) hz
theorem MrgI.done {l out : List N6} (h : MrgI l out [] []) : out = sortN l := sortN_eq (by simpa using h.perm) h.oo
theorem MrgI.start {l a b : List N6} (h : l = a ++ b) : MrgI l [] (sortN a) (sortN b) :=
  ⟨by rw [h]; exact (sortN_perm a).append (sortN_perm b), sortN_ord a, sortN_ord b, List.Pairwise.nil, fun x hx => by cases hx⟩
theorem MrgI.len {l out a b : List N6} (h : MrgI l out a b) : out.length + a.length + b.length = l.length := by
  have := h.perm.length_eq
  simp at this; omega
/-- a slice that reads as a list -/
def ListR (W : World) (p : Option Addr) (n c : Nat) (A : List N6) : Prop := A.length = n ∧ n ≤ c ∧ Sn W p n (fun k => A.getD k N6.zero)
theorem Sn.from {w : World} {a : Option Addr} {n c l : Nat} {p : Nat → N6} (h : Sn w a n p) (hc : n ≤ c) : Sn w (if c = l then a else a.map (·.add (l * 6))) (n - l) (fun k => p (l + k)) := fun k hk => by
  obtain ⟨b, off, rfl, h2, h3⟩ := h (l + k) (by omega)
  rw [if_neg (by omega)]
  refine ⟨b, off + l * 6, ?_, h2, fun j hj => ?_⟩
  · rw [Option.map_some, addrAdd]
  · rw [← h3 j hj]; congr 2; omega
theorem Sn.to {w : World} {a : Option Addr} {n c l : Nat} {p : Nat → N6} (h : Sn w a n p) (hl : l ≤ n) : Sn w (if c = 0 then a else a.map (·.add (0 * 6))) l p := fun k hk => by
  obtain ⟨b, off, rfl, h2, h3⟩ := h k (by omega)
  refine ⟨b, off, ?_, h2, h3⟩
  split
  · rfl
  · rw [Nat.zero_mul, Option.map_some, addrAdd]; rfl
theorem ListR.tail {W : World} {p : Option Addr} {n c : Nat} {x : N6} {A : List N6} (h : ListR W p n c (x :: A)) : ListR W (if c = 1 then p else p.map (·.add (1 * 6))) (n - 1) (c - 1) A := by
  obtain ⟨h1, h2, h4⟩ := h
  refine ⟨by rw [← h1]; rfl, by omega, ?_⟩
  refine (Sn.from (l := 1) h4 h2).congr fun k hk => ?_
  show (x :: A).getD (1 + k) N6.zero = _
  rw [Nat.add_comm]; rfl
theorem ListR.below {W W' : World} {p : Option Addr} {n c : Nat} {A : List N6} (h : ListR W p n c A) (hb : Below W.heap.size W W') : ListR W' p n c A := ⟨h.1, h.2.1, h.2.2.below hb⟩
theorem notes_slice_from (a : Option Addr) (n c l : Nat) (h : l ≤ n) (w : World) : (Instr.slice 35 (.slice a n c) (some (.int .i64 (l : Int))) none none).run Tryz.prog w = .ok (.slice (if c = l then a else a.map (·.add (l * 6))) (n - l) (c - l)) w := by
  rw [run_slice_l w 35 a n c (by kernel_rfl) .i64 (l : Int) (by omega) (by omega)]
  have hz : (sizeOf (Tryz.prog.elem 35)).run Tryz.prog w = .ok 6 w := by kernel_rfl
  rw [hz]
  rfl
theorem notes_slice_to (a : Option Addr) (n c l : Nat) (h : l ≤ c) (w : World) : (Instr.slice 35 (.slice a n c) none (some (.int .i64 (l : Int))) none).run Tryz.prog w = .ok (.slice (if c = 0 then a else a.map (·.add (0 * 6))) l c) w := by
  rw [run_slice_h w 35 a n c (by kernel_rfl) .i64 (l : Int) (by omega) (by omega)]
  have hz : (sizeOf (Tryz.prog.elem 35)).run Tryz.prog w = .ok 6 w := by kernel_rfl
  rw [hz]
  rfl
theorem ListR.cons {W : World} {p : Option Addr} {n c : Nat} {A : List N6} (h : ListR W p n c A) (hn : 0 < n) : ∃ x T, A = x :: T := by
  cases A with
  | nil => have := h.1; simp at this; omega
  | cons x T => exact ⟨x, T, rfl⟩
theorem ListR.nil {W : World} {p : Option Addr} {n c : Nat} {A : List N6} (h : ListR W p n c A) (hn : n = 0) : A = [] := List.length_eq_zero_iff.1 (h.1.trans hn)
theorem listR_of_own {w : World} {base : Nat} {v : Value} {xs : List N6} (h : OwnN w base v xs) : ∃ p c, v = .slice p xs.length c ∧ ListR w p xs.length c xs := by
  obtain ⟨a, c, rfl, hs⟩ := sn_of_own h
  refine ⟨a, c, rfl, rfl, ?_, hs⟩
  rcases h.2 with ⟨e, h0⟩ | ⟨g, cap, cur, e, hb, hh, hn, hm, hc, ht⟩
  · omega
  · injection e with _ _ e3
    omega
theorem listR_of_own2 {w : World} {base : Nat} {v : Value} {xs : List N6} (h : OwnN w base v xs) : ∃ p c, v = .slice p xs.length c ∧ ListR w p xs.length c xs ∧ (p = none → c = 0) := by
  obtain ⟨p, c, rfl, hl⟩ := listR_of_own h
  refine ⟨p, c, rfl, hl, fun e => ?_⟩
  rcases h.2 with ⟨e2, _⟩ | ⟨g, cap, cur, e2, _⟩
  · injection e2
  · injection e2 with e3; rw [e] at e3; cases e3
theorem own_listR {w : World} {base : Nat} {p : Option Addr} {n c : Nat} {xs : List N6} (h : OwnN w base (.slice p n c) xs) : ListR w p n c xs := by
  obtain ⟨p', c', e, hl⟩ := listR_of_own h
  injection e with e1 e2 e3
  subst e1 e2 e3
  exact hl
end Go.Proofs.YtpbobhobhbbimaaGreatDoor
