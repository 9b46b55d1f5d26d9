/- Walks: lists of ints that are made by append: the reference's own; wall.Cells, ref.Cells. -/
import Derived.Test.YtnnaegnkkpknpaaR3Valid
import Derived.Laws.MakeOwn
import Derived.Maps.AppendAt
namespace Go.Proofs.Ytnnaegnkkpknpaa
open Go.RowKit
set_option linter.unusedVariables false
theorem infoI : (Try.prog.info? 3).map (fun i => (i.zero, i.size, i.bytes)) = some (some (.int .i64 0), 1, 8) := by kernel_rfl
def vInt (x : Int) : Value := .int .i64 x
/-- the places below n at which B is the body -/
def ownL (B : Nat → Int) (body : Int) : Nat → List Int
  | 0 => []
  | k + 1 => if B k = body then ownL B body k ++ [(k : Int)] else ownL B body k
theorem ownL_length (B : Nat → Int) (body : Int) : ∀ n, (ownL B body n).length ≤ n
  | 0 => by simp [ownL]
  | k + 1 => by have := ownL_length B body k; simp only [ownL]; split <;> simp <;> omega
theorem sl_of_own {w : World} {base : Nat} {v : Value} {xs : List Int} (h : w.ownsRow base 3 1 v xs.length (xs.map vInt)) :
    ∃ a c, v = .slice a xs.length c ∧ Sl w a xs.length (fun k => xs.getD k 0) := by
  rcases h.2 with ⟨rfl, h0⟩ | ⟨g, cap, cur, rfl, hb, hh, hn, hm, hc, ht⟩
  · exact ⟨none, 0, by rw [h0], fun k hk => by omega⟩
  · refine ⟨some ⟨g, 0, none⟩, cap, rfl, fun k hk => ⟨g, 0, rfl, ?_, ?_⟩⟩
    · rcases Nat.lt_or_ge g w.heap.size with h' | h'
      · exact h'
      · rw [Array.getElem?_eq_none h'] at hh; cases hh
    · rw [Nat.zero_add, cell_of_row w g k cur 3 (0, 0) hh]
      have h1 : (cur.toList.take (xs.length * 1))[k]? = (xs.map vInt)[k]? := by rw [ht]
      rw [List.getElem?_take, if_pos (by omega), List.getElem?_map, List.getElem?_eq_getElem hk] at h1
      show cur[k]? = some (.int .i64 (xs.getD k 0))
      rw [List.getD_eq_getElem?_getD, List.getElem?_eq_getElem hk]
      simpa [vInt] using h1
theorem own_base {w : World} {base : Nat} {e : TypeId} {size n : Nat} {v : Value} {xs : List Value} (h : w.ownsRow base e size v n xs) : ∀ g, v.ownBlock = some g → base ≤ g := fun g hg => by
  rcases h.2 with ⟨rfl, _⟩ | ⟨g', cap, cur, rfl, hb, _⟩
  · cases hg
  · injection hg with hg; subst hg; exact hb
theorem own_mono {w : World} {base base' : Nat} {e : TypeId} {size n : Nat} {v : Value} {xs : List Value} (h : w.ownsRow base e size v n xs) (hb : base' ≤ base) : w.ownsRow base' e size v n xs := by
  refine ⟨h.1, h.2.imp id ?_⟩
  rintro ⟨g, cap, cur, h1, h2, h3⟩
  exact ⟨g, cap, cur, h1, by omega, h3⟩
theorem own_snoc {w : World} {base : Nat} {v : Value} {xs : List Int} {k : Int} (h : w.ownsRow base 3 1 v (xs.length + 1) (xs.map vInt ++ [.int .i64 k])) :
    w.ownsRow base 3 1 v (xs ++ [k]).length ((xs ++ [k]).map vInt) := by
  simpa [vInt] using h
set_option maxHeartbeats 2000000 in
theorem ref3_own (ak ab : Option Addr) (nk nb ck cb : Nat) (B : Nat → Int) (body : Int) (w : World) (hnb : nb ≤ 100000000) (HB : Sl w ab nb B) :
    Calls Try.prog 75 #[.agg #[.slice ak nk ck, .slice ab nb cb], .int .i64 body] w
      fun e w' => ∃ v, e = .returned v ∧ w'.ownsRow w.heap.size 3 1 v (ownL B body nb).length ((ownL B body nb).map vInt) ∧ Below w.heap.size w w' := by
  obtain ⟨i0, hi, hz0, hz1, hz2⟩ := info_parts infoI
  have HB1 := HB.alloc (.cells #[.slice ak nk ck, .slice ab nb cb] 27)
  have X := Bx.new w #[.slice ak nk ck, .slice ab nb cb] 27
  go_enter Try.func75, Try.ntmps75
  go_wp2
  go_loopw [5, 6] (fun v i wr => ∃ k : Nat, k ≤ nb ∧ i = .int .i64 k ∧ wr.ownsRow (w.heap.size + 1) 3 1 v (ownL B body k).length ((ownL B body k).map vInt) ∧ Below (w.heap.size + 1) (w.alloc (.cells #[.slice ak nk ck, .slice ab nb cb] 27)) wr) (fun _ i _ => nb - (intOf i).toNat)
  case atStart => exact ⟨0, Nat.zero_le _, rfl, World.ownsRow_nil .., Below.refl _ _⟩
  case round =>
    obtain ⟨k, hk, rfl, hown, hb⟩ := hrel
    have X1 := X.below (by simpa using hb)
    have J := HB1.below (by simpa using hb)
    have x1 := X1.at_ 1 rfl
    have z := X1.lt
    by_cases hlt : k < nb
    · obtain ⟨b1, o1, rfl, _, c1⟩ := J k hlt
      have hbd := ownL_length B body k
      cases he : (B k == body)
      · have he' : ¬ B k = body := by simpa using he
        have HE := hid he'; clear he'
        go_wp2
        go_roundw
        case rel => exact ⟨k + 1, by omega, by go_num, by simp only [ownL, if_neg HE.out]; exact hown, hb⟩
        case measure => simp [intOf]; omega
      · have he' : B k = body := by simpa using he
        have HE := hid he'; clear he'
        go_wp2_with (at_builtin; refine wpList_append_own _ rfl _ _ 25 rfl (w.heap.size + 1) 3 i0 (.int .i64 0) 1 8 Try.underlying25 hi hz0 hz1 hz2 rfl (by decide) _ _ _ rfl (hown.alloc _) ⟨wr.heap.size, 0, none⟩ 1 1 [.int .i64 (k : Int)] rfl rfl (cell_one_new _ _ _) (by simp [Value.oneCell']) (by simp [maxLen]; omega) (by omega) (by simp; omega) ?_; intro v' w1 hown' hgrow _)
        go_roundw
        case rel => exact ⟨k + 1, by omega, by go_num, by simp only [ownL, if_pos HE.out]; exact own_snoc hown', (hb.alloc (by have := hb.size; simp at this; omega) _).grown hgrow (by have := hb.size; simp at this; simp; omega) (own_base hown)⟩
        case measure => simp [intOf]; omega
    · obtain rfl : k = nb := (by omega)
      go_wp2
      go_ret
      exact ⟨_, rfl, own_mono hown (by omega), (below_alloc w _).trans (hb.mono (by omega))⟩
end Go.Proofs.Ytnnaegnkkpknpaa
