/- Plain words: reading a wall, line by line; and that what is written is read back. No program in sight. -/
import Derived.Test.YthlbmlfkmfheiaaStrBase
import Derived.Test.YthlbmlfkmfheiaaWFmt
namespace Go.Proofs.Ythlbmlfkmfheiaa
set_option linter.unusedVariables false
/-- all signs of a line are signs -/
def okL (l : List UInt8) : Bool := l.all fun c => rdO c.toNat
def kL (l : List UInt8) : List Int := l.map fun c => rdK c.toNat
def bL (l : List UInt8) : List Int := l.map fun c => rdB c.toNat
/-- the first k lines as kinds, as bodies -/
def kTo (ws : List (List UInt8)) (k : Nat) : List Int := ((ws.take k).map kL).flatten
def bTo (ws : List (List UInt8)) (k : Nat) : List Int := ((ws.take k).map bL).flatten
def goodB (W H : Nat) (ws : List (List UInt8)) (n : Nat) : Bool := decide (n < H) && decide ((ws.getD n []).length = W) && okL (ws.getD n [])
/-- the first line, from k on, that is not good; m if there is none -/
def badF (W H : Nat) (ws : List (List UInt8)) (m : Nat) : Nat → Nat → Nat
  | 0, k => k
  | f + 1, k => if k < m ∧ goodB W H ws k = true then badF W H ws m f (k + 1) else k
def badN (W H : Nat) (ws : List (List UInt8)) : Nat := badF W H ws (ws.length - 1) (ws.length - 1) 0
theorem badF_spec {W H : Nat} {ws : List (List UInt8)} {m : Nat} : ∀ (f k j : Nat), k + f = m → k ≤ j → j ≤ m → (∀ i, k ≤ i → i < j → goodB W H ws i = true) → (j < m → goodB W H ws j = false) → badF W H ws m f k = j
  | 0, k, j, h, h1, h2, _, _ => by simp only [badF]; omega
  | f + 1, k, j, h, h1, h2, h3, h4 => by
    simp only [badF]
    by_cases e : k = j
    · subst e
      rw [if_neg]
      rintro ⟨a, b⟩
      rw [h4 a] at b; cases b
    · rw [if_pos ⟨by omega, h3 k (Nat.le_refl _) (by omega)⟩]
      exact badF_spec f (k + 1) j (by omega) (by omega) h2 (fun i hi hj => h3 i (by omega) hj) h4
theorem badN_is {W H : Nat} {ws : List (List UInt8)} {j : Nat} (h2 : j ≤ ws.length - 1) (h3 : ∀ i, i < j → goodB W H ws i = true) (h4 : j < ws.length - 1 → goodB W H ws j = false) : badN W H ws = j :=
  badF_spec _ _ _ (by omega) (Nat.zero_le _) h2 (fun i _ hi => h3 i hi) h4
/-- the error of a text of lines ws, and the line that is told with it -/
def prsB (W H : Nat) (ws : List (List UInt8)) : Bool := decide (badN W H ws = ws.length - 1) && decide (ws.length - 1 = H) && decide (ws.getLastD [] = [])
def prsE (v : Bool) (W H : Nat) (l : List UInt8) : Int := if v then (if 65536 < l.length then 3 else if prsB W H (wordsL 10 l) then 0 else 2) else 1
def prsN (v : Bool) (W H : Nat) (l : List UInt8) : Int := if prsE v W H l = 2 then (badN W H (wordsL 10 l) : Int) else 0
def prsK (v : Bool) (W H : Nat) (l : List UInt8) : List Int := if prsE v W H l = 0 then kTo (wordsL 10 l) H else []
def prsL (v : Bool) (W H : Nat) (l : List UInt8) : List Int := if prsE v W H l = 0 then bTo (wordsL 10 l) H else []
theorem prs_bad {W H : Nat} {l : List UInt8} {j : Nat} (hl : ¬ 65536 < l.length) (hj : badN W H (wordsL 10 l) = j) (h : prsB W H (wordsL 10 l) = false) :
    prsE true W H l = 2 ∧ prsN true W H l = (j : Int) ∧ prsK true W H l = [] ∧ prsL true W H l = [] := by
  have e : prsE true W H l = 2 := by simp [prsE, hl, h]
  refine ⟨e, ?_, ?_, ?_⟩
  · simp [prsN, e, hj]
  · simp [prsK, e]
  · simp [prsL, e]
theorem prs_ok {W H : Nat} {l : List UInt8} (hl : ¬ 65536 < l.length) (h : prsB W H (wordsL 10 l) = true) :
    prsE true W H l = 0 ∧ prsN true W H l = 0 ∧ prsK true W H l = kTo (wordsL 10 l) H ∧ prsL true W H l = bTo (wordsL 10 l) H := by
  have e : prsE true W H l = 0 := by simp [prsE, hl, h]
  refine ⟨e, ?_, ?_, ?_⟩
  · simp [prsN, e]
  · simp [prsK, e]
  · simp [prsL, e]
theorem kTo_succ {ws : List (List UInt8)} {k : Nat} (h : k < ws.length) : kTo ws (k + 1) = kTo ws k ++ kL (ws.getD k []) := by
  unfold kTo
  rw [List.take_succ_eq_append_getElem h, List.map_append, List.flatten_append, List.getD_eq_getElem?_getD, List.getElem?_eq_getElem h]
  simp
theorem bTo_succ {ws : List (List UInt8)} {k : Nat} (h : k < ws.length) : bTo ws (k + 1) = bTo ws k ++ bL (ws.getD k []) := by
  unfold bTo
  rw [List.take_succ_eq_append_getElem h, List.map_append, List.flatten_append, List.getD_eq_getElem?_getD, List.getElem?_eq_getElem h]
  simp
theorem good_iff {W H : Nat} {ws : List (List UInt8)} {n : Nat} : goodB W H ws n = true ↔ (n < H ∧ (ws.getD n []).length = W ∧ okL (ws.getD n []) = true) := by
  simp [goodB, and_assoc]
theorem kTo_len {W H : Nat} {ws : List (List UInt8)} : ∀ k, k ≤ ws.length → (∀ i, i < k → goodB W H ws i = true) → (kTo ws k).length = k * W ∧ (bTo ws k).length = k * W
  | 0, _, _ => by simp [kTo, bTo]
  | k + 1, hk, h => by
    obtain ⟨h1, h2⟩ := kTo_len k (by omega) (fun i hi => h i (by omega))
    obtain ⟨_, h3, _⟩ := good_iff.1 (h k (by omega))
    rw [kTo_succ (by omega), bTo_succ (by omega), List.length_append, List.length_append, h1, h2, Nat.succ_mul]
    unfold kL bL
    rw [List.length_map, List.length_map, h3]
    exact ⟨rfl, rfl⟩
theorem okL_at {l : List UInt8} : okL l = true ↔ ∀ i, i < l.length → rdO (l.getD i 0).toNat = true := by
  unfold okL
  rw [List.all_eq_true]
  constructor
  · intro h i hi
    rw [List.getD_eq_getElem?_getD, List.getElem?_eq_getElem hi]
    exact h _ (List.getElem_mem _)
  · intro h c hc
    obtain ⟨i, hi, rfl⟩ := List.getElem_of_mem hc
    have := h i hi
    rwa [List.getD_eq_getElem?_getD, List.getElem?_eq_getElem hi] at this
theorem kL_take {l : List UInt8} {i : Nat} (h : i < l.length) : kL (l.take (i + 1)) = kL (l.take i) ++ [rdK (l.getD i 0).toNat] := by
  unfold kL
  rw [List.take_succ_eq_append_getElem h, List.map_append, List.getD_eq_getElem?_getD, List.getElem?_eq_getElem h]; rfl
theorem bL_take {l : List UInt8} {i : Nat} (h : i < l.length) : bL (l.take (i + 1)) = bL (l.take i) ++ [rdB (l.getD i 0).toNat] := by
  unfold bL
  rw [List.take_succ_eq_append_getElem h, List.map_append, List.getD_eq_getElem?_getD, List.getElem?_eq_getElem h]; rfl
theorem prsB_no {W H : Nat} {ws : List (List UInt8)} (h : badN W H ws ≠ ws.length - 1 ∨ ws.length - 1 ≠ H ∨ ws.getLastD [] ≠ []) : prsB W H ws = false := by
  unfold prsB
  rcases h with h | h | h
  · rw [decide_eq_false h]; rfl
  · rw [decide_eq_false h, Bool.and_false]; rfl
  · rw [decide_eq_false h, Bool.and_false]
theorem prsB_yes {W H : Nat} {ws : List (List UInt8)} (h1 : badN W H ws = ws.length - 1) (h2 : ws.length - 1 = H) (h3 : ws.getLastD [] = []) : prsB W H ws = true := by
  unfold prsB
  rw [decide_eq_true h1, decide_eq_true h2, decide_eq_true h3]; rfl
theorem getD_lastD {ws : List (List UInt8)} {k : Nat} (h : ws.length = k + 1) : ws.getLastD [] = ws.getD k [] := by
  rw [List.getLastD_eq_getLast?, List.getLast?_eq_getElem?, List.getD_eq_getElem?_getD, h]; rfl
end Go.Proofs.Ythlbmlfkmfheiaa
