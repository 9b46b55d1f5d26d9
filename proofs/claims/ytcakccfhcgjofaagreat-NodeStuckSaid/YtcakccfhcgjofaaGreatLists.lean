/- Plain words: lists of ints that are made by append, and what a function leaves that returns one. -/
import Derived.Test.YtcakccfhcgjofaaGreatBase
import Derived.Handy
import Derived.Laws.MakeOwn
import Derived.Maps.AppendAt
namespace Go.Proofs.YtcakccfhcgjofaaGreat
open Go.RowKit
set_option linter.unusedVariables false
theorem infoI : (Tryz.prog.info? 3).map (fun i => (i.zero, i.size, i.bytes)) = some (some (.int .i64 0), 1, 8) := by kernel_rfl
def vInt (x : Int) : Value := .int .i64 x
theorem sl_of_own {w : World} {base : Nat} {v : Value} {xs : List Int} (h : w.ownsRow base 3 1 v xs.length (xs.map vInt)) :
    ∃ a c, v = .slice a xs.length c ∧ Sl w a xs.length (fun k => xs.getD k 0) := by
  rcases h.2 with ⟨rfl, h0⟩ | ⟨g, cap, cur, rfl, hb, hh, hn, hm, hc, ht⟩
  · exact ⟨none, 0, by rw [h0], fun k hk => by omega⟩
  · refine ⟨some ⟨g, 0, none⟩, cap, rfl, fun k hk => ⟨g, 0, rfl, ?_, ?_⟩⟩
    · rcases Nat.lt_or_ge g w.heap.size with h' | h'
      · exact h'
      · rw [Array.getElem?_eq_none h'] at hh; cases hh
    · rw [Nat.zero_add, cell_of_row w g k cur 3 (0, 0) hh]
      have h1 : (cur.toList.take (xs.length * 1))[k]? = (xs.map vInt)[k]? := by rw [ht]
      rw [List.getElem?_take, if_pos (by omega), List.getElem?_map, List.getElem?_eq_getElem hk] at h1
      show cur[k]? = some (.int .i64 (xs.getD k 0))
      rw [List.getD_eq_getElem?_getD, List.getElem?_eq_getElem hk]
      simpa [vInt] using h1
theorem own_base {w : World} {base : Nat} {e : TypeId} {size n : Nat} {v : Value} {xs : List Value} (h : w.ownsRow base e size v n xs) : ∀ g, v.ownBlock = some g → base ≤ g := fun g hg => by
  rcases h.2 with ⟨rfl, _⟩ | ⟨g', cap, cur, rfl, hb, _⟩
  · cases hg
  · injection hg with hg; subst hg; exact hb
theorem own_mono {w : World} {base base' : Nat} {e : TypeId} {size n : Nat} {v : Value} {xs : List Value} (h : w.ownsRow base e size v n xs) (hb : base' ≤ base) : w.ownsRow base' e size v n xs := by
  refine ⟨h.1, h.2.imp id ?_⟩
  rintro ⟨g, cap, cur, h1, h2, h3⟩
  exact ⟨g, cap, cur, h1, by omega, h3⟩
theorem own_snoc {w : World} {base : Nat} {v : Value} {xs : List Int} {k : Int} (h : w.ownsRow base 3 1 v (xs.length + 1) (xs.map vInt ++ [.int .i64 k])) :
    w.ownsRow base 3 1 v (xs ++ [k]).length ((xs ++ [k]).map vInt) := by
  simpa [vInt] using h
/-- a list of ints and an error -/
def ListPost (xs : List Int) (err : Int) (w : World) (e : Ending) (w' : World) : Prop :=
  ∃ a c, e = .returned (.tuple #[.slice a xs.length c, .int .i64 err]) ∧ Sl w' a xs.length (fun k => xs.getD k 0) ∧ Below w.heap.size w w'
theorem listPost_nil {w w' : World} {err : Int} (hb : Below w.heap.size w w') : ListPost [] err w (.returned (.tuple #[.slice none 0 0, .int .i64 err])) w' :=
  ⟨none, 0, rfl, fun k hk => absurd hk (by simp), hb⟩
theorem listPost_own {w w' : World} {base : Nat} {v : Value} {xs : List Int} {err : Int} (h : w'.ownsRow base 3 1 v xs.length (xs.map vInt)) (hb : Below w.heap.size w w') :
    ListPost xs err w (.returned (.tuple #[v, .int .i64 err])) w' := by
  obtain ⟨a, c, rfl, hs⟩ := sl_of_own h
  exact ⟨a, c, rfl, hs, hb⟩
theorem own_below {w w' : World} {base : Nat} {e : TypeId} {size n : Nat} {v : Value} {xs : List Value} (h : w.ownsRow base e size v n xs) (hb : Below w.heap.size w w') : w'.ownsRow base e size v n xs := by
  refine ⟨h.1, h.2.imp id ?_⟩
  rintro ⟨g, cap, cur, h1, h2, h3, h4⟩
  refine ⟨g, cap, cur, h1, h2, ?_, h4⟩
  rw [hb.block g ?_]
  · exact h3
  · rcases Nat.lt_or_ge g w.heap.size with h' | h'
    · exact h'
    · rw [Array.getElem?_eq_none h'] at h3; cases h3
theorem Bx.grown {W W' : World} {b : Nat} {vs : Array Value} {row : Option Nat} (h : Bx W b vs) (hg : W.grownBy W' row) (hne : some b ≠ row) : Bx W' b vs := by
  have e := hg.block b h.lt hne
  exact ⟨by have := hg.size; have := h.lt; omega, fun i v hi => (World.cell?_of_block e).trans (h.2 i v hi), fun i => (World.frozen?_of_block e).trans (h.3 i)⟩
theorem own_lt {w : World} {base : Nat} {e : TypeId} {size n : Nat} {v : Value} {xs : List Value} (h : w.ownsRow base e size v n xs) : ∀ g, v.ownBlock = some g → g < w.heap.size := fun g hg => by
  rcases h.2 with ⟨rfl, _⟩ | ⟨g', cap, cur, rfl, hb, hh, _⟩
  · cases hg
  · injection hg with hg
    subst hg
    show g' < _
    rcases Nat.lt_or_ge g' w.heap.size with h' | h'
    · exact h'
    · rw [Array.getElem?_eq_none h'] at hh; cases hh
theorem own_grown {w w' : World} {base : Nat} {e : TypeId} {size n : Nat} {v : Value} {xs : List Value} {row : Option Nat} (h : w.ownsRow base e size v n xs) (hg : w.grownBy w' row)
    (hne : ∀ g, v.ownBlock = some g → some g ≠ row) : w'.ownsRow base e size v n xs := by
  refine ⟨h.1, ?_⟩
  rcases h.2 with h' | ⟨g, cap, cur, rfl, hb, hh, rest⟩
  · exact .inl h'
  · refine .inr ⟨g, cap, cur, rfl, hb, ?_, rest⟩
    rw [hg.block g (own_lt h g rfl) (hne g rfl)]
    exact hh
end Go.Proofs.YtcakccfhcgjofaaGreat
