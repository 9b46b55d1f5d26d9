/- Plain words and laws: the order of notes, and notes in order. No program in sight. -/
import Derived.Test.YtmmjaobpoiofdaaGreatNMassP
import Derived.Test.YtmmjaobpoiofdaaGreatCRow
namespace Go.Proofs.YtmmjaobpoiofdaaGreat
open Go Go.RowKit
set_option linter.unusedVariables false
/-- the numbers of a note, in the order in which notes are compared -/
def keyN (x : N6) : List Int := [x.st, x.to, x.ce, x.di, x.fr, x.co]
theorem keyN_inj {x y : N6} (h : keyN x = keyN y) : x = y := by
  simp only [keyN, List.cons.injEq, and_true] at h
  cases x; cases y; simp_all
def lexL : List Int → List Int → Bool | a :: l, b :: m => if a = b then lexL l m else decide (a < b) | _, _ => false
def cmpL : List Int → List Int → Int | a :: l, b :: m => if a = b then cmpL l m else if a < b then -1 else 1 | _, _ => 0
/-- does x stand before y? -/
def befN (x y : N6) : Bool := lexL (keyN x) (keyN y)
def cmpN (x y : N6) : Int := cmpL (keyN x) (keyN y)
theorem cmpL_lt : ∀ l m, decide (cmpL l m < 0) = lexL l m
  | [], [] => rfl
  | [], _ :: _ => rfl
  | _ :: _, [] => rfl
  | a :: l, b :: m => by
    simp only [cmpL, lexL]
    split
    · exact cmpL_lt l m
    · split <;> simp_all
theorem cmpN_lt (x y : N6) : decide (cmpN x y < 0) = befN x y := cmpL_lt _ _
theorem lexL_irrefl : ∀ l, lexL l l = false
  | [] => rfl
  | a :: l => by simp only [lexL, if_true]; exact lexL_irrefl l
theorem lexL_trans : ∀ l m k, lexL l m = true → lexL m k = true → lexL l k = true
  | [], m, k, h, _ => by cases m <;> simp [lexL] at h
  | a :: l, [], k, h, _ => by simp [lexL] at h
  | a :: l, b :: m, [], _, h => by simp [lexL] at h
  | a :: l, b :: m, c :: k, h1, h2 => by
    simp only [lexL] at *
    by_cases e1 : a = b
    · subst e1
      by_cases e2 : a = c
      · subst e2
        simp only [if_true] at *
        exact lexL_trans l m k h1 h2
      · simp only [if_neg e2] at *; exact h2
    · rw [if_neg e1] at h1
      have h1' : a < b := by simpa using h1
      by_cases e2 : b = c
      · subst e2; rw [if_neg e1]; exact h1
      · rw [if_neg e2] at h2
        have h2' : b < c := by simpa using h2
        rw [if_neg (by omega)]
        simp; omega
theorem lexL_ntrans : ∀ l m k : List Int, l.length = m.length → m.length = k.length → lexL l m = false → lexL m k = false → lexL l k = false
  | [], _, k, _, _, _, _ => by cases k <;> rfl
  | a :: l, [], k, h, _, _, _ => by simp at h
  | a :: l, b :: m, [], _, h, _, _ => by simp at h
  | a :: l, b :: m, c :: k, l1, l2, h1, h2 => by
    simp only [lexL, List.length_cons, Nat.add_right_cancel_iff] at *
    by_cases e1 : a = b
    · subst e1
      by_cases e2 : a = c
      · subst e2
        simp only [if_true] at *
        exact lexL_ntrans l m k l1 l2 h1 h2
      · simp only [if_neg e2] at *; exact h2
    · rw [if_neg e1] at h1
      have h1' : ¬ a < b := by simpa using h1
      by_cases e2 : b = c
      · subst e2; rw [if_neg e1]; exact h1
      · rw [if_neg e2] at h2
        have h2' : ¬ b < c := by simpa using h2
        rw [if_neg (by omega)]
        simp; omega
theorem lexL_total : ∀ l m : List Int, l.length = m.length → lexL l m = false → lexL m l = false → l = m
  | [], [], _, _, _ => rfl
  | [], _ :: _, h, _, _ => by simp at h
  | _ :: _, [], h, _, _ => by simp at h
  | a :: l, b :: m, h, h1, h2 => by
    simp only [lexL, List.length_cons, Nat.add_right_cancel_iff] at *
    by_cases e : a = b
    · subst e
      simp only [if_true] at *
      rw [lexL_total l m h h1 h2]
    · rw [if_neg e] at h1
      rw [if_neg (fun h => e h.symm)] at h2
      have h1' : ¬ a < b := by simpa using h1
      have h2' : ¬ b < a := by simpa using h2
      omega
theorem befN_irrefl (x : N6) : befN x x = false := lexL_irrefl _
theorem befN_trans {x y z : N6} (h1 : befN x y = true) (h2 : befN y z = true) : befN x z = true := lexL_trans _ _ _ h1 h2
theorem befN_ntrans {x y z : N6} (h1 : befN x y = false) (h2 : befN y z = false) : befN x z = false := lexL_ntrans (keyN x) (keyN y) (keyN z) rfl rfl h1 h2
theorem befN_total {x y : N6} (h1 : befN x y = false) (h2 : befN y x = false) : x = y := keyN_inj (lexL_total (keyN x) (keyN y) rfl h1 h2)
theorem befN_asymm {x y : N6} (h : befN x y = true) : befN y x = false := by
  rw [← Bool.not_eq_true]; intro h2
  have := befN_trans h h2
  rw [befN_irrefl] at this; cases this
/-- notes in order -/
def OrdN (l : List N6) : Prop := l.Pairwise fun x y => befN y x = false
/-- put in order -/
def sortN (l : List N6) : List N6 := l.mergeSort fun x y => !befN y x
theorem sortN_perm (l : List N6) : (sortN l).Perm l := List.mergeSort_perm l _
theorem sortN_ord (l : List N6) : OrdN (sortN l) := by
  have h := List.pairwise_mergeSort (le := fun x y => !befN y x) (fun a b c h1 h2 => by
    simp only [Bool.not_eq_true'] at *
    exact befN_ntrans h2 h1) (fun a b => by
    cases h : befN b a
    · rfl
    · simp [befN_asymm h]) l
  exact h.imp fun {a b} h => by simpa using h
theorem ord_unique : ∀ {l m : List N6}, l.Perm m → OrdN l → OrdN m → l = m
  | [], m, h, _, _ => by rw [List.nil_perm.1 h]
  | x :: l, [], h, _, _ => by simpa using h.length_eq
  | x :: l, y :: m, h, hl, hm => by
    obtain ⟨hl1, hl2⟩ := List.pairwise_cons.1 hl
    obtain ⟨hm1, hm2⟩ := List.pairwise_cons.1 hm
    have e : x = y := by
      have h1 : x ∈ y :: m := h.mem_iff.1 (List.mem_cons_self ..)
      have h2 : y ∈ x :: l := h.mem_iff.2 (List.mem_cons_self ..)
      rcases List.mem_cons.1 h1 with e | h1
      · exact e
      rcases List.mem_cons.1 h2 with e | h2
      · exact e.symm
      exact befN_total (hm1 x h1) (hl1 y h2)
    subst e
    rw [ord_unique ((List.perm_cons _).1 h) hl2 hm2]
theorem sortN_eq {l m : List N6} (h : m.Perm l) (ho : OrdN m) : m = sortN l := ord_unique (h.trans (sortN_perm l).symm) ho (sortN_ord l)
theorem sortN_length (l : List N6) : (sortN l).length = l.length := (sortN_perm l).length_eq
instance : Inhabited N6 := ⟨N6.zero⟩
/-- the list of the first n notes -/
def lstN (p : Nat → N6) (n : Nat) : List N6 := (List.range n).map p
theorem lstN_length (p : Nat → N6) (n : Nat) : (lstN p n).length = n := by simp [lstN]
theorem lstN_getD (p : Nat → N6) {n k : Nat} (h : k < n) : (lstN p n).getD k N6.zero = p k := by
  simp [lstN, List.getD_eq_getElem?_getD, h]
theorem sn_row {w : World} {b o n : Nat} {p : Nat → N6} (H : Sn w (some ⟨b, o, none⟩) n p) : ∀ j u, (flatN (lstN p n))[j]? = some u → w.cell? ((⟨b, o, none⟩ : Addr).add j) = some u := fun j u hu => by
  have hl : (flatN (lstN p n)).length = n * 6 := by rw [flatN_length, lstN_length]
  have hj : j < n * 6 := by
    rcases Nat.lt_or_ge j (n * 6) with h | h
    · exact h
    · rw [List.getElem?_eq_none (by omega)] at hu; cases hu
  obtain ⟨b', o', e, _, c⟩ := H (j / 6) (by omega)
  injection e with e; injection e with e1 e2 _
  subst e1 e2
  have h1 := flatN_at (lstN p n) (j / 6) (j % 6) (by rw [lstN_length]; omega) (Nat.mod_lt _ (by omega))
  rw [show j / 6 * 6 + j % 6 = j by omega, hu, lstN_getD _ (by omega)] at h1
  rw [addrAdd, h1, ← c (j % 6) (Nat.mod_lt _ (by omega))]
  congr 2; omega
end Go.Proofs.YtmmjaobpoiofdaaGreat
