/- Plain words: texts as lists of bytes, the words between marks; rows of texts of the call's own. -/
import Derived.Test.YthlbmlfkmfheiaaBase
import Derived.Test.YthlbmlfkmfheiaaLists
import Derived.Deep.Cut
import Derived.Maps.AppendAt
import Derived.Laws.Concat
namespace Go.Proofs.Ythlbmlfkmfheiaa
open Go Go.RowKit
set_option linter.unusedVariables false
def vStr (l : List UInt8) : Value := .string ⟨l.toArray⟩
theorem vStr_size (l : List UInt8) : (ByteArray.mk l.toArray).size = l.length := by simp [ByteArray.size]
theorem str_at (l : List UInt8) (i : Nat) (h : i < l.length) (w : World) : (Instr.index 9 (.string ⟨l.toArray⟩) (.int .i64 (i : Int))).run Try.prog w = .ok (.int .u8 ((l.getD i 0).toNat : Int)) w := by
  rw [run_index_string (h := Try.underlying9), dif_pos ⟨by omega, by rw [vStr_size]; omega⟩]
  congr 4
  show l.toArray[i] = _
  simp [List.getD_eq_getElem?_getD, h]
theorem str_cut (l : List UInt8) (i j : Nat) (h : i ≤ j) (h2 : j ≤ l.length) (w : World) : (Instr.slice 9 (.string ⟨l.toArray⟩) (some (.int .i64 (i : Int))) (some (.int .i64 (j : Int))) none).run Try.prog w = .ok (.string ⟨((l.drop i).take (j - i)).toArray⟩) w := by
  rw [run_slice_string (h := Try.underlying9)]
  · rw [ByteArray.extract_mk]; simp [List.extract_eq_take_drop]
  · omega
  · omega
  · rw [vStr_size]; omega
theorem str_from (l : List UInt8) (i : Nat) (h : i ≤ l.length) (w : World) : (Instr.slice 9 (.string ⟨l.toArray⟩) (some (.int .i64 (i : Int))) none none).run Try.prog w = .ok (.string ⟨(l.drop i).toArray⟩) w := by
  rw [run_slice_string_from_if (h := Try.underlying9), if_pos ⟨by omega, by rw [vStr_size]; omega⟩, ByteArray.extract_mk, vStr_size]
  simp [List.extract_eq_take_drop]
  exact List.take_of_length_le (by simp)
theorem str_to (l : List UInt8) (j : Nat) (h : j ≤ l.length) (w : World) : (Instr.slice 9 (.string ⟨l.toArray⟩) none (some (.int .i64 (j : Int))) none).run Try.prog w = .ok (.string ⟨(l.take j).toArray⟩) w := by
  rw [run_slice_string_to_if (h := Try.underlying9), if_pos ⟨by omega, by rw [vStr_size]; omega⟩, ByteArray.extract_mk]
  simp [List.extract_eq_take_drop]
theorem str_ext {x y : List UInt8} : (ByteArray.mk x.toArray = ByteArray.mk y.toArray) ↔ x = y := by
  constructor
  · intro h; injection h with h; simpa using h
  · rintro rfl; rfl
/-! ### words -/
/-- a byte before the first of the words -/
def consW (c : UInt8) : List (List UInt8) → List (List UInt8)
  | [] => [[c]]
  | w :: ws => (c :: w) :: ws
/-- the parts of a text between single marks -/
def wordsL (m : UInt8) : List UInt8 → List (List UInt8)
  | [] => [[]]
  | c :: t => if c = m then [] :: wordsL m t else consW c (wordsL m t)
theorem wordsL_ne (m : UInt8) : ∀ l, wordsL m l ≠ []
  | [] => by simp [wordsL]
  | c :: t => by
    simp only [wordsL]
    split
    · simp
    · cases wordsL m t <;> simp [consW]
theorem words_none {m : UInt8} : ∀ {p : List UInt8}, (∀ c ∈ p, c ≠ m) → wordsL m p = [p]
  | [], _ => rfl
  | c :: t, h => by
    simp only [wordsL]
    rw [if_neg (h c (by simp)), words_none (fun x hx => h x (by simp [hx]))]
    rfl
theorem words_mark {m : UInt8} {t : List UInt8} : ∀ {p : List UInt8}, (∀ c ∈ p, c ≠ m) → wordsL m (p ++ m :: t) = p :: wordsL m t
  | [], _ => by simp [wordsL]
  | c :: p, h => by
    simp only [List.cons_append, wordsL]
    rw [if_neg (h c (by simp)), words_mark (fun x hx => h x (by simp [hx]))]
    rfl
/-- the text of words -/
def unwords (m : UInt8) : List (List UInt8) → List UInt8
  | [] => []
  | [w] => w
  | w :: v :: ws => w ++ m :: unwords m (v :: ws)
theorem unwords_words (m : UInt8) : ∀ l, unwords m (wordsL m l) = l
  | [] => rfl
  | c :: t => by
    have ih := unwords_words m t
    have hn := wordsL_ne m t
    simp only [wordsL]
    split
    · rename_i e
      cases hw : wordsL m t with
      | nil => exact absurd hw hn
      | cons w ws => rw [hw] at ih; simp [unwords, ih, e]
    · cases hw : wordsL m t with
      | nil => exact absurd hw hn
      | cons w ws =>
        rw [hw] at ih
        cases ws with
        | nil => simp only [consW, unwords] at *; rw [ih]
        | cons v vs => simp only [consW, unwords] at *; rw [← ih]; rfl
theorem words_no_mark (m : UInt8) : ∀ l, ∀ w ∈ wordsL m l, ∀ c ∈ w, c ≠ m
  | [], w, hw, c, hc => by simp [wordsL] at hw; subst hw; cases hc
  | x :: t, w, hw, c, hc => by
    have ih := words_no_mark m t
    simp only [wordsL] at hw
    split at hw
    · rcases List.mem_cons.1 hw with rfl | hw
      · cases hc
      · exact ih w hw c hc
    · rename_i hne
      cases h : wordsL m t with
      | nil => exact absurd h (wordsL_ne m t)
      | cons v vs =>
        rw [h] at hw ih
        simp only [consW] at hw
        rcases List.mem_cons.1 hw with rfl | hw
        · rcases List.mem_cons.1 hc with rfl | hc
          · exact hne
          · exact ih v (by simp) c hc
        · exact ih w (by simp [hw]) c hc
/-- the first word, what comes behind its mark, and whether there is one -/
def cutW (m : UInt8) (l : List UInt8) : List UInt8 := (wordsL m l).headD []
theorem words_cases (m : UInt8) (l : List UInt8) : (∀ c ∈ l, c ≠ m) ∨ ∃ p t, l = p ++ m :: t ∧ ∀ c ∈ p, c ≠ m := by
  induction l with
  | nil => exact .inl (by simp)
  | cons c t ih =>
    by_cases e : c = m
    · subst e; exact .inr ⟨[], t, rfl, by simp⟩
    · rcases ih with h | ⟨p, u, rfl, h⟩
      · exact .inl (fun x hx => by rcases List.mem_cons.1 hx with rfl | hx; exact e; exact h x hx)
      · exact .inr ⟨c :: p, u, rfl, fun x hx => by rcases List.mem_cons.1 hx with rfl | hx; exact e; exact h x hx⟩
/-! ### rows of texts -/
theorem infoS : (Try.prog.info? 9).map (fun i => (i.zero, i.size, i.bytes)) = some (some (.string ⟨#[]⟩), 1, 16) := by kernel_rfl
/-- a slice of texts -/
def Ss (w : World) (a : Option Addr) (n : Nat) (f : Nat → List UInt8) : Prop :=
  ∀ k, k < n → ∃ b off, a = some ⟨b, off, none⟩ ∧ b < w.heap.size ∧ w.cell? ⟨b, off + k, none⟩ = some (.string ⟨(f k).toArray⟩)
theorem Ss.below {w w' : World} {a : Option Addr} {n : Nat} {f : Nat → List UInt8} (h : Ss w a n f) (hb : Below w.heap.size w w') : Ss w' a n f := fun k hkn => by
  obtain ⟨b, off, h1, h2, h3⟩ := h k hkn
  exact ⟨b, off, h1, by have := hb.size; omega, (bcell hb _ _ h2).trans h3⟩
theorem Ss.alloc {w : World} {a : Option Addr} {n : Nat} {f : Nat → List UInt8} (h : Ss w a n f) (o : Obj) : Ss (w.alloc o) a n f := h.below (below_alloc _ _)
theorem Ss.drew {w : World} {a : Option Addr} {n : Nat} {f : Nat → List UInt8} (h : Ss w a n f) : Ss w.drew a n f := h
theorem ss_of_own {w : World} {base : Nat} {v : Value} {xs : List (List UInt8)} (h : w.ownsRow base 9 1 v xs.length (xs.map vStr)) :
    ∃ a c, v = .slice a xs.length c ∧ Ss w a xs.length (fun k => xs.getD k []) := by
  rcases h.2 with ⟨rfl, h0⟩ | ⟨g, cap, cur, rfl, hb, hh, hn, hm, hc, ht⟩
  · exact ⟨none, 0, by rw [h0], fun k hk => by omega⟩
  · refine ⟨some ⟨g, 0, none⟩, cap, rfl, fun k hk => ⟨g, 0, rfl, ?_, ?_⟩⟩
    · rcases Nat.lt_or_ge g w.heap.size with h' | h'
      · exact h'
      · rw [Array.getElem?_eq_none h'] at hh; cases hh
    · rw [Nat.zero_add, cell_of_row w g k cur 9 (0, 0) hh]
      have h1 : (cur.toList.take (xs.length * 1))[k]? = (xs.map vStr)[k]? := by rw [ht]
      rw [List.getElem?_take, if_pos (by omega), List.getElem?_map, List.getElem?_eq_getElem hk] at h1
      show cur[k]? = some (.string ⟨(xs.getD k []).toArray⟩)
      rw [List.getD_eq_getElem?_getD, List.getElem?_eq_getElem hk]
      simpa [vStr] using h1
theorem owns_snoc {w : World} {base : Nat} {v : Value} {xs : List (List UInt8)} {k : List UInt8} (h : w.ownsRow base 9 1 v (xs.length + 1) (xs.map vStr ++ [.string ⟨k.toArray⟩])) :
    w.ownsRow base 9 1 v (xs ++ [k]).length ((xs ++ [k]).map vStr) := by
  simpa [vStr] using h
end Go.Proofs.Ythlbmlfkmfheiaa
