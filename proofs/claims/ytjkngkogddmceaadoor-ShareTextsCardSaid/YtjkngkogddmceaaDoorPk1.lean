/- Plain words of this seat's proofs: what a slice of ints or of cells reads as in a world, and how that is kept; small laws on numbers. Plain words: boxes that are laid and written. -/
import Derived.Test.YtjkngkogddmceaaDoorProg
import Derived.WalkKit
import Derived.WalkSpells
import Derived.WalkLawsBesides
import Derived.Below
import Derived.BigQuiet
import Derived.Deep.QuietTactic
import Derived.Deep.RegionHeld3
import Derived.StillTailTactics
import Derived.Handy
import Derived.Laws.MakeOwn
import Derived.Maps.AppendAt
import Derived.Deep.AppendLies
import Derived.Deep.RegionLawGrows
import Derived.Deep.Cut
import Derived.Laws.Concat
import Derived.Lib.AtoiAll
import Derived.Lib.AtoiTie
import Derived.Lib.AtoiAllCases
import Derived.Lib.ItoaMem
import Derived.Lib.Split
import Derived.Lib.Join
import Derived.OrdersHeld
import Derived.Laws.IdiomStrings
namespace Go.Proofs.YtjkngkogddmceaaDoor
open Go.RowKit
theorem hid {p : Prop} (h : p) : Hid p := h
/-- a cell: what goes east, north, west and south -/
structure C4 where
  e : Int
  n : Int
  w : Int
  s : Int
def C4.zero : C4 := ⟨0, 0, 0, 0⟩
/-- a slice of ints: a letter for its address, so that nil is let in -/
def Sl (w : World) (a : Option Addr) (n : Nat) (f : Nat → Int) : Prop :=
  ∀ k, k < n → ∃ b off, a = some ⟨b, off, none⟩ ∧ b < w.heap.size ∧ w.cell? ⟨b, off + k, none⟩ = some (.int .i64 (f k))
/-- a slice of cells -/
def Sc (w : World) (a : Option Addr) (n : Nat) (g : Nat → C4) : Prop :=
  ∀ k, k < n → ∃ b off, a = some ⟨b, off, none⟩ ∧ b < w.heap.size ∧ w.cell? ⟨b, off + k * 4, none⟩ = some (.int .i64 (g k).e) ∧
    w.cell? ⟨b, off + k * 4 + 1, none⟩ = some (.int .i64 (g k).n) ∧ w.cell? ⟨b, off + k * 4 + 2, none⟩ = some (.int .i64 (g k).w) ∧ w.cell? ⟨b, off + k * 4 + 3, none⟩ = some (.int .i64 (g k).s)
theorem Sl.keep {w w' : World} {a : Option Addr} {n : Nat} {f : Nat → Int} (h : Sl w a n f) (hs : w.heap.size ≤ w'.heap.size)
    (hk : ∀ b o, b < w.heap.size → w'.cell? ⟨b, o, none⟩ = w.cell? ⟨b, o, none⟩) : Sl w' a n f := fun k hkn => by
  obtain ⟨b, off, h1, h2, h3⟩ := h k hkn
  exact ⟨b, off, h1, by omega, (hk _ _ h2).trans h3⟩
theorem Sc.keep {w w' : World} {a : Option Addr} {n : Nat} {g : Nat → C4} (h : Sc w a n g) (hs : w.heap.size ≤ w'.heap.size)
    (hk : ∀ b o, b < w.heap.size → w'.cell? ⟨b, o, none⟩ = w.cell? ⟨b, o, none⟩) : Sc w' a n g := fun k hkn => by
  obtain ⟨b, off, h1, h2, h3, h4, h5, h6⟩ := h k hkn
  exact ⟨b, off, h1, by omega, (hk _ _ h2).trans h3, (hk _ _ h2).trans h4, (hk _ _ h2).trans h5, (hk _ _ h2).trans h6⟩
theorem bcell {B : Nat} {w w' : World} (hb : Below B w w') : ∀ b o, b < B → w'.cell? ⟨b, o, none⟩ = w.cell? ⟨b, o, none⟩ := fun b o h => hb.cell (p := ⟨b, o, none⟩) h
theorem bfrozen {B : Nat} {w w' : World} (hb : Below B w w') : ∀ b o, b < B → w'.frozen? ⟨b, o, none⟩ = w.frozen? ⟨b, o, none⟩ := fun b o h => hb.frozen (p := ⟨b, o, none⟩) h
theorem Sl.below {w w' : World} {a : Option Addr} {n : Nat} {f : Nat → Int} (h : Sl w a n f) (hb : Below w.heap.size w w') : Sl w' a n f := h.keep hb.size (bcell hb)
theorem Sc.below {w w' : World} {a : Option Addr} {n : Nat} {g : Nat → C4} (h : Sc w a n g) (hb : Below w.heap.size w w') : Sc w' a n g := h.keep hb.size (bcell hb)
theorem Sl.alloc {w : World} {a : Option Addr} {n : Nat} {f : Nat → Int} (h : Sl w a n f) (o : Obj) : Sl (w.alloc o) a n f := h.below ((Below.refl _ w).alloc (Nat.le_refl _) o)
theorem Sc.alloc {w : World} {a : Option Addr} {n : Nat} {g : Nat → C4} (h : Sc w a n g) (o : Obj) : Sc (w.alloc o) a n g := h.below ((Below.refl _ w).alloc (Nat.le_refl _) o)
theorem Sl.drew {w : World} {a : Option Addr} {n : Nat} {f : Nat → Int} (h : Sl w a n f) : Sl w.drew a n f := h
theorem Sc.drew {w : World} {a : Option Addr} {n : Nat} {g : Nat → C4} (h : Sc w a n g) : Sc w.drew a n g := h
theorem below_drewN {B : Nat} {a w : World} (h : Below B a w) (n : Nat) : Below B a (w.drewN n) := ⟨h.os, h.tape, h.output, h.size, h.block⟩
theorem balloc {w W : World} (h : Below w.heap.size w W) (o : Obj) : Below w.heap.size w (W.alloc o) := h.alloc h.size o
theorem bset {w W : World} (h : Below w.heap.size w W) {p : Addr} (hp : w.heap.size ≤ p.block) (u : Value) : Below w.heap.size w (W.setCell p u) := h.setCell hp u
/-- behind a call: the caller's world is kept too -/
theorem bvia {w W w1 : World} (h : Below w.heap.size w W) (hb : Below W.heap.size W w1) : Below w.heap.size w w1 := h.trans (hb.mono h.size)
theorem Sl.drewN {w : World} {a : Option Addr} {n : Nat} {f : Nat → Int} (h : Sl w a n f) (k : Nat) : Sl (w.drewN k) a n f := h
theorem Sc.drewN {w : World} {a : Option Addr} {n : Nat} {g : Nat → C4} (h : Sc w a n g) (k : Nat) : Sc (w.drewN k) a n g := h
theorem cell_new (w : World) (cs : Array Value) (t : TypeId) (k : Nat) (v : Value) (h : cs[k]? = some v) : (w.alloc (.cells cs t)).cell? ⟨w.heap.size, k, none⟩ = some v := by
  rw [cell_of_row (w.alloc (.cells cs t)) w.heap.size k cs t (0, 0) (Array.getElem?_push_size ..), h]
/-- a block that is just these cells so far (a box), none frozen -/
structure Bx (W : World) (b : Nat) (vs : Array Value) : Prop where
  lt : b < W.heap.size
  cells : ∀ i v, vs[i]? = some v → W.cell? ⟨b, i, none⟩ = some v
  free : ∀ i, W.frozen? ⟨b, i, none⟩ = false
theorem Bx.new (w : World) (vs : Array Value) (t : TypeId) : Bx (w.alloc (.cells vs t)) w.heap.size vs :=
  ⟨by simp, fun i v h => cell_new w vs t i v h, fun i => by simp [go_sem]⟩
theorem Bx.below {W W' : World} {b : Nat} {vs : Array Value} (h : Bx W b vs) (hb : Below W.heap.size W W') : Bx W' b vs :=
  ⟨by have := hb.size; have := h.1; omega, fun i v hi => (bcell hb _ _ h.1).trans (h.2 i v hi), fun i => (bfrozen hb _ _ h.1).trans (h.3 i)⟩
theorem Bx.alloc {W : World} {b : Nat} {vs : Array Value} (h : Bx W b vs) (o : Obj) : Bx (W.alloc o) b vs := h.below ((Below.refl _ W).alloc (Nat.le_refl _) o)
theorem Bx.drew {W : World} {b : Nat} {vs : Array Value} (h : Bx W b vs) : Bx W.drew b vs := ⟨h.1, h.2, h.3⟩
theorem Bx.drewN {W : World} {b : Nat} {vs : Array Value} (h : Bx W b vs) (k : Nat) : Bx (W.drewN k) b vs := ⟨h.1, h.2, h.3⟩
theorem Bx.at_ {W : World} {b : Nat} {vs : Array Value} (h : Bx W b vs) (i : Nat) {v : Value} (hi : vs[i]? = some v) : W.cell? ⟨b, i, none⟩ = some v := h.2 i v hi
theorem Bx.far {W : World} {b : Nat} {vs : Array Value} (h : Bx W b vs) {p : Addr} (hp : p.block ≠ b) (u : Value) : Bx (W.setCell p u) b vs :=
  ⟨by simpa [World.setCell] using h.1, fun i v hi => by rw [World.cell?_setCell_other _ _ _ _ (fun e => hp (by rw [e]))]; exact h.2 i v hi, fun i => by rw [World.frozen?_setCell]; exact h.3 i⟩
theorem Bx.set_ {W : World} {b : Nat} {vs : Array Value} (h : Bx W b vs) (j : Nat) (hj : j < vs.size) (u : Value) : Bx (W.setCell ⟨b, j, none⟩ u) b (vs.setIfInBounds j u) := by
  refine ⟨by simpa [World.setCell] using h.1, fun i v hi => ?_, fun i => by rw [World.frozen?_setCell]; exact h.3 i⟩
  by_cases e : i = j
  · subst e
    have h1 := h.2 i vs[i] (by simp [hj])
    simp [hj] at hi
    rw [World.cell?_setCell_same' _ _ _ (by rw [h1]; rfl), hi]
  · rw [World.cell?_setCell_other _ _ _ _ (fun e' => e (by injection e' with _ e2 _; exact e2.symm))]
    refine h.2 i v ?_
    rwa [Array.getElem?_setIfInBounds_ne (fun e' => e e'.symm)] at hi
theorem quiet_left {P : Program} {f : FuncId} {args : Array Value} {w : World} {n : Nat} {v : Value}
    (h : Calls P f args (w.drewN n) fun e w' => e = .returned v ∧ w.drewN n = w') : Calls P f args (w.drewN n) fun e w'' => e = .returned v ∧ ∃ m, w'' = w.drewN m :=
  h.mono fun _ _ ⟨he, hm⟩ => ⟨he, n, hm.symm⟩
theorem ret_int {k : IntKind} {a b : Int} (h : a = b) : Ending.returned (.int k a) = .returned (.int k b) := by rw [h]
theorem ret_bool {a b : Bool} (h : a = b) : Ending.returned (.bool a) = .returned (.bool b) := by rw [h]
theorem below_alloc (w : World) (o : Obj) : Below w.heap.size w (w.alloc o) := (Below.refl _ w).alloc (Nat.le_refl _) o
/-! ### The plain functions -/
def within (n lo hi : Int) : Bool := decide (lo ≤ n) && decide (n ≤ hi)
theorem within_iff (n lo hi : Int) : within n lo hi = true ↔ lo ≤ n ∧ n ≤ hi := by simp [within]
theorem within_no (n lo hi : Int) : within n lo hi = false ↔ ¬ (lo ≤ n ∧ n ≤ hi) := by rw [← within_iff]; simp
def sumTo (f : Nat → Int) : Nat → Int | 0 => 0 | k + 1 => sumTo f k + f k
/-- what cell.sum asks of the first k numbers -/
def okTo (f : Nat → Int) (k : Nat) : Prop := ∀ j, j < k → 0 ≤ f j ∧ sumTo f (j + 1) ≤ 1000000000
instance (f : Nat → Int) (k : Nat) : Decidable (okTo f k) := inferInstanceAs (Decidable (∀ j, j < k → _))
end Go.Proofs.YtjkngkogddmceaaDoor
/- Plain words: lists of ints that are made by append, and what a function leaves that returns one. Plain words: a row of ints of the call's own, known as a function, that may be written; how it is made. Plain words: a row of cells of the call's own, known as a function, that may be written; walks: make, append onto an empty slice, slices.Clone, of cells. -/
namespace Go.Proofs.YtjkngkogddmceaaDoor
open Go.RowKit
set_option linter.unusedVariables false
theorem infoI : (Tryd.prog.info? 3).map (fun i => (i.zero, i.size, i.bytes)) = some (some (.int .i64 0), 1, 8) := by kernel_rfl
def vInt (x : Int) : Value := .int .i64 x
theorem sl_of_own {w : World} {base : Nat} {v : Value} {xs : List Int} (h : w.ownsRow base 3 1 v xs.length (xs.map vInt)) :
    ∃ a c, v = .slice a xs.length c ∧ Sl w a xs.length (fun k => xs.getD k 0) := by
  rcases h.2 with ⟨rfl, h0⟩ | ⟨g, cap, cur, rfl, hb, hh, hn, hm, hc, ht⟩
  · exact ⟨none, 0, by rw [h0], fun k hk => by omega⟩
  · refine ⟨some ⟨g, 0, none⟩, cap, rfl, fun k hk => ⟨g, 0, rfl, ?_, ?_⟩⟩
    · rcases Nat.lt_or_ge g w.heap.size with h' | h'
      · exact h'
      · rw [Array.getElem?_eq_none h'] at hh; cases hh
    · rw [Nat.zero_add, cell_of_row w g k cur 3 (0, 0) hh]
      have h1 : (cur.toList.take (xs.length * 1))[k]? = (xs.map vInt)[k]? := by rw [ht]
      rw [List.getElem?_take, if_pos (by omega), List.getElem?_map, List.getElem?_eq_getElem hk] at h1
      show cur[k]? = some (.int .i64 (xs.getD k 0))
      rw [List.getD_eq_getElem?_getD, List.getElem?_eq_getElem hk]
      simpa [vInt] using h1
theorem own_base {w : World} {base : Nat} {e : TypeId} {size n : Nat} {v : Value} {xs : List Value} (h : w.ownsRow base e size v n xs) : ∀ g, v.ownBlock = some g → base ≤ g := fun g hg => by
  rcases h.2 with ⟨rfl, _⟩ | ⟨g', cap, cur, rfl, hb, _⟩
  · cases hg
  · injection hg with hg; subst hg; exact hb
theorem own_mono {w : World} {base base' : Nat} {e : TypeId} {size n : Nat} {v : Value} {xs : List Value} (h : w.ownsRow base e size v n xs) (hb : base' ≤ base) : w.ownsRow base' e size v n xs := by
  refine ⟨h.1, h.2.imp id ?_⟩
  rintro ⟨g, cap, cur, h1, h2, h3⟩
  exact ⟨g, cap, cur, h1, by omega, h3⟩
theorem own_snoc {w : World} {base : Nat} {v : Value} {xs : List Int} {k : Int} (h : w.ownsRow base 3 1 v (xs.length + 1) (xs.map vInt ++ [.int .i64 k])) :
    w.ownsRow base 3 1 v (xs ++ [k]).length ((xs ++ [k]).map vInt) := by
  simpa [vInt] using h
/-- a list of ints and an error -/
def ListPost (xs : List Int) (err : Int) (w : World) (e : Ending) (w' : World) : Prop :=
  ∃ a c, e = .returned (.tuple #[.slice a xs.length c, .int .i64 err]) ∧ Sl w' a xs.length (fun k => xs.getD k 0) ∧ Below w.heap.size w w'
theorem listPost_nil {w w' : World} {err : Int} (hb : Below w.heap.size w w') : ListPost [] err w (.returned (.tuple #[.slice none 0 0, .int .i64 err])) w' :=
  ⟨none, 0, rfl, fun k hk => absurd hk (by simp), hb⟩
theorem listPost_own {w w' : World} {base : Nat} {v : Value} {xs : List Int} {err : Int} (h : w'.ownsRow base 3 1 v xs.length (xs.map vInt)) (hb : Below w.heap.size w w') :
    ListPost xs err w (.returned (.tuple #[v, .int .i64 err])) w' := by
  obtain ⟨a, c, rfl, hs⟩ := sl_of_own h
  exact ⟨a, c, rfl, hs, hb⟩
theorem own_below {w w' : World} {base : Nat} {e : TypeId} {size n : Nat} {v : Value} {xs : List Value} (h : w.ownsRow base e size v n xs) (hb : Below w.heap.size w w') : w'.ownsRow base e size v n xs := by
  refine ⟨h.1, h.2.imp id ?_⟩
  rintro ⟨g, cap, cur, h1, h2, h3, h4⟩
  refine ⟨g, cap, cur, h1, h2, ?_, h4⟩
  rw [hb.block g ?_]
  · exact h3
  · rcases Nat.lt_or_ge g w.heap.size with h' | h'
    · exact h'
    · rw [Array.getElem?_eq_none h'] at h3; cases h3
theorem Bx.grown {W W' : World} {b : Nat} {vs : Array Value} {row : Option Nat} (h : Bx W b vs) (hg : W.grownBy W' row) (hne : some b ≠ row) : Bx W' b vs := by
  have e := hg.block b h.lt hne
  exact ⟨by have := hg.size; have := h.lt; omega, fun i v hi => (World.cell?_of_block e).trans (h.2 i v hi), fun i => (World.frozen?_of_block e).trans (h.3 i)⟩
theorem own_lt {w : World} {base : Nat} {e : TypeId} {size n : Nat} {v : Value} {xs : List Value} (h : w.ownsRow base e size v n xs) : ∀ g, v.ownBlock = some g → g < w.heap.size := fun g hg => by
  rcases h.2 with ⟨rfl, _⟩ | ⟨g', cap, cur, rfl, hb, hh, _⟩
  · cases hg
  · injection hg with hg
    subst hg
    show g' < _
    rcases Nat.lt_or_ge g' w.heap.size with h' | h'
    · exact h'
    · rw [Array.getElem?_eq_none h'] at hh; cases hh
end Go.Proofs.YtjkngkogddmceaaDoor
namespace Go.Proofs.YtjkngkogddmceaaDoor
open Go.RowKit
set_option linter.unusedVariables false
def upd (f : Nat → Int) (i : Nat) (v : Int) : Nat → Int := fun k => if k = i then v else f k
structure Ro (W : World) (b n : Nat) (f : Nat → Int) : Prop where
  lt : b < W.heap.size
  cells : ∀ k, k < n → W.cell? ⟨b, k, none⟩ = some (.int .i64 (f k))
  free : ∀ i, W.frozen? ⟨b, i, none⟩ = false
theorem Ro.below {W W' : World} {b n : Nat} {f : Nat → Int} (h : Ro W b n f) (hb : Below W.heap.size W W') : Ro W' b n f :=
  ⟨by have := hb.size; have := h.1; omega, fun k hk => (bcell hb _ _ h.1).trans (h.2 k hk), fun i => (bfrozen hb _ _ h.1).trans (h.3 i)⟩
theorem Ro.alloc {W : World} {b n : Nat} {f : Nat → Int} (h : Ro W b n f) (o : Obj) : Ro (W.alloc o) b n f := h.below ((Below.refl _ W).alloc (Nat.le_refl _) o)
theorem Ro.drew {W : World} {b n : Nat} {f : Nat → Int} (h : Ro W b n f) : Ro W.drew b n f := ⟨h.1, h.2, h.3⟩
theorem Ro.drewN {W : World} {b n : Nat} {f : Nat → Int} (h : Ro W b n f) (k : Nat) : Ro (W.drewN k) b n f := ⟨h.1, h.2, h.3⟩
theorem Ro.far {W : World} {b n : Nat} {f : Nat → Int} (h : Ro W b n f) {p : Addr} (hp : p.block ≠ b) (u : Value) : Ro (W.setCell p u) b n f :=
  ⟨by simpa [World.setCell] using h.1, fun k hk => by rw [World.cell?_setCell_other _ _ _ _ (fun e => hp (by rw [e]))]; exact h.2 k hk, fun i => by rw [World.frozen?_setCell]; exact h.3 i⟩
theorem Ro.set_ {W : World} {b n : Nat} {f : Nat → Int} (h : Ro W b n f) (j : Nat) (v : Int) : Ro (W.setCell ⟨b, j, none⟩ (.int .i64 v)) b n (upd f j v) := by
  refine ⟨by simpa [World.setCell] using h.1, fun k hk => ?_, fun i => by rw [World.frozen?_setCell]; exact h.3 i⟩
  by_cases e : k = j
  · subst e
    rw [World.cell?_setCell_same' _ _ _ (by rw [h.2 k hk]; rfl)]
    simp [upd]
  · rw [World.cell?_setCell_other _ _ _ _ (fun e' => e (by injection e' with _ e2 _; exact e2.symm)), h.2 k hk]
    simp [upd, e]
theorem Ro.congr {W : World} {b n : Nat} {f g : Nat → Int} (h : Ro W b n f) (e : ∀ k, k < n → f k = g k) : Ro W b n g := ⟨h.1, fun k hk => by rw [h.2 k hk, e k hk], h.3⟩
end Go.Proofs.YtjkngkogddmceaaDoor
namespace Go.Proofs.YtjkngkogddmceaaDoor
open Go Go.RowKit
set_option linter.unusedVariables false
/-! ### rows of cells as lists -/
end Go.Proofs.YtjkngkogddmceaaDoor
/- Plain words: texts as lists of bytes, the words between marks; rows of texts of the call's own. -/
namespace Go.Proofs.YtjkngkogddmceaaDoor
open Go Go.RowKit
set_option linter.unusedVariables false
def vStr (l : List UInt8) : Value := .string ⟨l.toArray⟩
theorem vStr_size (l : List UInt8) : (ByteArray.mk l.toArray).size = l.length := by simp [ByteArray.size]
theorem str_at (l : List UInt8) (i : Nat) (h : i < l.length) (w : World) : (Instr.index 9 (.string ⟨l.toArray⟩) (.int .i64 (i : Int))).run Tryd.prog w = .ok (.int .u8 ((l.getD i 0).toNat : Int)) w := by
  rw [run_index_string (h := Tryd.underlying9), dif_pos ⟨by omega, by rw [vStr_size]; omega⟩]
  congr 4
  show l.toArray[i] = _
  simp [List.getD_eq_getElem?_getD, h]
theorem str_cut (l : List UInt8) (i j : Nat) (h : i ≤ j) (h2 : j ≤ l.length) (w : World) : (Instr.slice 9 (.string ⟨l.toArray⟩) (some (.int .i64 (i : Int))) (some (.int .i64 (j : Int))) none).run Tryd.prog w = .ok (.string ⟨((l.drop i).take (j - i)).toArray⟩) w := by
  rw [run_slice_string (h := Tryd.underlying9)]
  · rw [ByteArray.extract_mk]; simp [List.extract_eq_take_drop]
  · omega
  · omega
  · rw [vStr_size]; omega
/-! ### words -/
/-- a byte before the first of the words -/
def consW (c : UInt8) : List (List UInt8) → List (List UInt8)
  | [] => [[c]]
  | w :: ws => (c :: w) :: ws
/-- the parts of a text between single marks -/
def wordsL (m : UInt8) : List UInt8 → List (List UInt8)
  | [] => [[]]
  | c :: t => if c = m then [] :: wordsL m t else consW c (wordsL m t)
theorem wordsL_ne (m : UInt8) : ∀ l, wordsL m l ≠ []
  | [] => by simp [wordsL]
  | c :: t => by
    simp only [wordsL]
    split
    · simp
    · cases wordsL m t <;> simp [consW]
theorem words_none {m : UInt8} : ∀ {p : List UInt8}, (∀ c ∈ p, c ≠ m) → wordsL m p = [p]
  | [], _ => rfl
  | c :: t, h => by
    simp only [wordsL]
    rw [if_neg (h c (by simp)), words_none (fun x hx => h x (by simp [hx]))]
    rfl
theorem words_mark {m : UInt8} {t : List UInt8} : ∀ {p : List UInt8}, (∀ c ∈ p, c ≠ m) → wordsL m (p ++ m :: t) = p :: wordsL m t
  | [], _ => by simp [wordsL]
  | c :: p, h => by
    simp only [List.cons_append, wordsL]
    rw [if_neg (h c (by simp)), words_mark (fun x hx => h x (by simp [hx]))]
    rfl
/-- the text of words -/
def unwords (m : UInt8) : List (List UInt8) → List UInt8
  | [] => []
  | [w] => w
  | w :: v :: ws => w ++ m :: unwords m (v :: ws)
theorem unwords_words (m : UInt8) : ∀ l, unwords m (wordsL m l) = l
  | [] => rfl
  | c :: t => by
    have ih := unwords_words m t
    have hn := wordsL_ne m t
    simp only [wordsL]
    split
    · rename_i e
      cases hw : wordsL m t with
      | nil => exact absurd hw hn
      | cons w ws => rw [hw] at ih; simp [unwords, ih, e]
    · cases hw : wordsL m t with
      | nil => exact absurd hw hn
      | cons w ws =>
        rw [hw] at ih
        cases ws with
        | nil => simp only [consW, unwords] at *; rw [ih]
        | cons v vs => simp only [consW, unwords] at *; rw [← ih]; rfl
theorem words_cases (m : UInt8) (l : List UInt8) : (∀ c ∈ l, c ≠ m) ∨ ∃ p t, l = p ++ m :: t ∧ ∀ c ∈ p, c ≠ m := by
  induction l with
  | nil => exact .inl (by simp)
  | cons c t ih =>
    by_cases e : c = m
    · subst e; exact .inr ⟨[], t, rfl, by simp⟩
    · rcases ih with h | ⟨p, u, rfl, h⟩
      · exact .inl (fun x hx => by rcases List.mem_cons.1 hx with rfl | hx; exact e; exact h x hx)
      · exact .inr ⟨c :: p, u, rfl, fun x hx => by rcases List.mem_cons.1 hx with rfl | hx; exact e; exact h x hx⟩
/-! ### rows of texts -/
theorem infoStr : (Tryd.prog.info? 9).map (fun i => (i.zero, i.size, i.bytes)) = some (some (.string ⟨#[]⟩), 1, 16) := by kernel_rfl
/-- a slice of texts -/
def Sst (w : World) (a : Option Addr) (n : Nat) (f : Nat → List UInt8) : Prop :=
  ∀ k, k < n → ∃ b off, a = some ⟨b, off, none⟩ ∧ b < w.heap.size ∧ w.cell? ⟨b, off + k, none⟩ = some (.string ⟨(f k).toArray⟩)
theorem Sst.below {w w' : World} {a : Option Addr} {n : Nat} {f : Nat → List UInt8} (h : Sst w a n f) (hb : Below w.heap.size w w') : Sst w' a n f := fun k hkn => by
  obtain ⟨b, off, h1, h2, h3⟩ := h k hkn
  exact ⟨b, off, h1, by have := hb.size; omega, (bcell hb _ _ h2).trans h3⟩
theorem Sst.alloc {w : World} {a : Option Addr} {n : Nat} {f : Nat → List UInt8} (h : Sst w a n f) (o : Obj) : Sst (w.alloc o) a n f := h.below (below_alloc _ _)
theorem Sst.drew {w : World} {a : Option Addr} {n : Nat} {f : Nat → List UInt8} (h : Sst w a n f) : Sst w.drew a n f := h
theorem sst_of_own {w : World} {base : Nat} {v : Value} {xs : List (List UInt8)} (h : w.ownsRow base 9 1 v xs.length (xs.map vStr)) :
    ∃ a c, v = .slice a xs.length c ∧ Sst w a xs.length (fun k => xs.getD k []) := by
  rcases h.2 with ⟨rfl, h0⟩ | ⟨g, cap, cur, rfl, hb, hh, hn, hm, hc, ht⟩
  · exact ⟨none, 0, by rw [h0], fun k hk => by omega⟩
  · refine ⟨some ⟨g, 0, none⟩, cap, rfl, fun k hk => ⟨g, 0, rfl, ?_, ?_⟩⟩
    · rcases Nat.lt_or_ge g w.heap.size with h' | h'
      · exact h'
      · rw [Array.getElem?_eq_none h'] at hh; cases hh
    · rw [Nat.zero_add, cell_of_row w g k cur 9 (0, 0) hh]
      have h1 : (cur.toList.take (xs.length * 1))[k]? = (xs.map vStr)[k]? := by rw [ht]
      rw [List.getElem?_take, if_pos (by omega), List.getElem?_map, List.getElem?_eq_getElem hk] at h1
      show cur[k]? = some (.string ⟨(xs.getD k []).toArray⟩)
      rw [List.getD_eq_getElem?_getD, List.getElem?_eq_getElem hk]
      simpa [vStr] using h1
theorem owns_snoc {w : World} {base : Nat} {v : Value} {xs : List (List UInt8)} {k : List UInt8} (h : w.ownsRow base 9 1 v (xs.length + 1) (xs.map vStr ++ [.string ⟨k.toArray⟩])) :
    w.ownsRow base 9 1 v (xs ++ [k]).length ((xs ++ [k]).map vStr) := by
  simpa [vStr] using h
end Go.Proofs.YtjkngkogddmceaaDoor
/- Plain laws: numbers written in decimal digits, read back; words and joins. -/
namespace Go.Proofs.YtjkngkogddmceaaDoor
open Go Go.RowKit
set_option linter.unusedVariables false
theorem digit_byte {d : Nat} (h : d < 10) : (UInt8.ofNat (48 + d)).toNat = 48 + d := by
  simp; omega
/-- a row of digits -/
def digL (l : List UInt8) : Prop := ∀ c ∈ l, 48 ≤ c.toNat ∧ c.toNat ≤ 57
theorem decDigits_dig : ∀ u, digL (Lib.decDigits u) := by
  intro u
  induction u using Nat.strongRecOn with
  | _ u ih =>
    rw [Lib.decDigits]
    split
    · intro c hc
      rw [List.mem_singleton.1 hc, digit_byte (by assumption)]
      omega
    · intro c hc
      rcases List.mem_append.1 hc with hc | hc
      · exact ih (u / 10) (by omega) c hc
      · rw [List.mem_singleton.1 hc, digit_byte (by omega)]
        omega
theorem decDigits_ne (u : Nat) : Lib.decDigits u ≠ [] := by
  rw [Lib.decDigits]
  split <;> simp
/-- what digits spell -/
def valD (l : List UInt8) : Nat := l.foldl (fun a c => a * 10 + (c.toNat - 48)) 0
theorem valD_app (l : List UInt8) (c : UInt8) : valD (l ++ [c]) = valD l * 10 + (c.toNat - 48) := by simp [valD]
theorem valD_dec : ∀ u, valD (Lib.decDigits u) = u := by
  intro u
  induction u using Nat.strongRecOn with
  | _ u ih =>
    rw [Lib.decDigits]
    split
    · rename_i h
      show 0 * 10 + ((UInt8.ofNat (48 + u)).toNat - 48) = u
      rw [digit_byte h]; omega
    · rw [valD_app, ih (u / 10) (by omega), digit_byte (by omega)]
      omega
theorem itoa_byte {n : Int} {c : UInt8} (h : c ∈ Lib.itoa n) : (48 ≤ c.toNat ∧ c.toNat ≤ 57) ∨ c.toNat = 45 := by
  unfold Lib.itoa at h
  split at h
  · rcases List.mem_cons.1 h with rfl | h
    · exact .inr rfl
    · exact .inl (decDigits_dig _ c h)
  · exact .inl (decDigits_dig _ c h)
theorem itoa_no {n : Int} {m : UInt8} (hm : m.toNat < 45) : ∀ c ∈ Lib.itoa n, c ≠ m := fun c hc e => by
  subst e
  rcases itoa_byte hc with h | h <;> omega
theorem itoa_ne (n : Int) : Lib.itoa n ≠ [] := by
  unfold Lib.itoa
  split
  · simp
  · exact decDigits_ne _
theorem parse_dig : ∀ (l : List UInt8) (acc : Nat), digL l → l.foldl (fun a c => a * 10 + (c.toNat - 48)) acc < 18446744073709551616 → Lib.parseUint10 acc l = .ok (l.foldl (fun a c => a * 10 + (c.toNat - 48)) acc)
  | [], acc, _, _ => rfl
  | c :: r, acc, h, hlt => by
    have hc := h c (by simp)
    have hmono : ∀ (r : List UInt8) (a : Nat), a ≤ r.foldl (fun a c => a * 10 + (c.toNat - 48)) a := by
      intro r
      induction r with
      | nil => intro a; exact Nat.le_refl _
      | cons x r ih => intro a; simp only [List.foldl]; exact Nat.le_trans (by omega) (ih _)
    have hm := hmono r (acc * 10 + (c.toNat - 48))
    simp only [List.foldl] at hlt ⊢
    rw [Lib.parseUint10, if_pos hc, if_neg (by omega), if_neg (by omega)]
    exact parse_dig r _ (fun x hx => h x (by simp [hx])) hlt
theorem atoiAll_itoa (n : Int) (h0 : -9223372036854775808 ≤ n) (h1 : n ≤ 9223372036854775807) : Lib.atoiAll (Lib.itoa n) = .ok n := by
  have hp : ∀ u : Nat, u ≤ 9223372036854775808 → Lib.parseMag (Lib.decDigits u) = .ok u := fun u hu => by
    unfold Lib.parseMag
    rw [if_neg (decDigits_ne u)]
    have hv := valD_dec u
    unfold valD at hv
    rw [parse_dig _ _ (decDigits_dig u) (by rw [hv]; omega), hv]
  unfold Lib.itoa
  split
  · rename_i hn
    rw [Lib.atoiAll_minus, hp _ (by omega)]
    unfold Lib.signed
    simp only
    rw [if_neg (by omega)]
    congr 1
    omega
  · rename_i hn
    have hd := decDigits_dig n.toNat
    have hq := hp n.toNat (by omega)
    cases hl : Lib.decDigits n.toNat with
    | nil => exact absurd hl (decDigits_ne _)
    | cons c r =>
      rw [hl] at hd hq
      have hc := hd c (by simp)
      rw [Lib.atoiAll_plain c r (by omega) (by omega), hq]
      unfold Lib.signless
      simp only
      rw [if_neg (by omega)]
      congr 1
      omega
theorem join_unwords (m : UInt8) : ∀ xs : List (List UInt8), Lib.join xs [m] = unwords m xs
  | [] => rfl
  | [x] => by simp [Lib.join_one, unwords]
  | x :: y :: r => by
    have ih := join_unwords m (y :: r)
    rw [Lib.join_cons] at ih ⊢
    simp only [Lib.joinTail, List.map_cons, List.flatten_cons, unwords] at ih ⊢
    rw [← ih]
    simp
theorem idx_mark1 (m : UInt8) : ∀ {p t : List UInt8}, (∀ c ∈ p, c ≠ m) → Lib.index (p ++ m :: t) [m] = (p.length : Int)
  | [], t, _ => by simp [Lib.index, List.isPrefixOf]
  | c :: p, t, h => by
    have h1 : (m == c) = false := by rw [beq_eq_false_iff_ne]; exact fun e => h c (by simp) e.symm
    have ih := idx_mark1 m (p := p) (t := t) (fun x hx => h x (by simp [hx]))
    simp only [List.cons_append, Lib.index, List.isPrefixOf, h1, Bool.false_and, ih]
    rw [if_neg (by decide), if_neg (by simp)]
    simp
theorem idx_none1 (m : UInt8) : ∀ {p : List UInt8}, (∀ c ∈ p, c ≠ m) → Lib.index p [m] = -1
  | [], _ => by simp [Lib.index]
  | c :: p, h => by
    have h1 : (m == c) = false := by rw [beq_eq_false_iff_ne]; exact fun e => h c (by simp) e.symm
    have ih := idx_none1 m (p := p) (fun x hx => h x (by simp [hx]))
    simp only [Lib.index, List.isPrefixOf, h1, Bool.false_and, ih]
    rw [if_neg (by decide), if_pos (by simp)]
theorem splitK_words (m : UInt8) : ∀ (k : Nat) (s : List UInt8), Lib.count s [m] ≤ k → Lib.splitK [m] 0 k s = wordsL m s := by
  intro k
  induction k with
  | zero =>
    intro s h
    rcases words_cases m s with hn | ⟨p, t, rfl, hp⟩
    · rw [words_none hn]; rfl
    · have := Lib.count_hit (s := p ++ m :: t) (sub := [m]) (by simp) (idx_mark1 m hp)
      omega
  | succ k ih =>
    intro s h
    rcases words_cases m s with hn | ⟨p, t, rfl, hp⟩
    · rw [words_none hn, Lib.splitK, if_pos (by rw [idx_none1 m hn]; rfl)]
    · have hx := idx_mark1 m (t := t) hp
      have hc := Lib.count_hit (s := p ++ m :: t) (sub := [m]) (by simp) hx
      have hd : (p ++ m :: t).drop (p.length + 1) = t := by simp [List.drop_append]
      simp only [List.length_singleton] at hc
      rw [hd] at hc
      rw [words_mark hp, Lib.splitK, if_neg (by rw [hx]; simp), hx]
      simp only [Int.toNat_natCast, Nat.add_zero, List.length_singleton]
      rw [hd, ih t (by omega), List.take_left]
theorem split_words (m : UInt8) (s : List UInt8) : Lib.split s [m] = wordsL m s := splitK_words m _ s (Nat.le_refl _)
/-- the words of a join of words without the mark -/
theorem words_unwords {m : UInt8} : ∀ {xs : List (List UInt8)}, xs ≠ [] → (∀ x ∈ xs, ∀ c ∈ x, c ≠ m) → wordsL m (unwords m xs) = xs
  | [], h, _ => absurd rfl h
  | [x], _, h => words_none (h x (by simp))
  | x :: y :: r, _, h => by
    simp only [unwords]
    rw [words_mark (h x (by simp)), words_unwords (by simp) (fun z hz => h z (by simp [hz]))]
end Go.Proofs.YtjkngkogddmceaaDoor
/- A region that draws its order: what only reads is taken first, under a word S on the world; S need not outlast the last operations (number T on), each of which waits for all before them. A region that draws its order: two operations may come up. -/
namespace Go.Proofs.YtjkngkogddmceaaDoor
open Go Go.RowKit
set_option linter.unusedVariables false
section
variable {P : Program} {ops : Array Oper} {Q : Exit → Act → World → Prop} {md : Region.Mode} {S : World → Prop} {T : Nat}
def anyS (P : Program) (md : Region.Mode) (ops : Array Oper) (Q : Exit → Act → World → Prop) (S : World → Prop) (T : Nat) : Nat → Array Bool → Act → World → Prop
  | 0, listed, a, w => Region.ready md ops listed = [] ∧ Q .normal a w
  | fuel + 1, listed, a, w =>
    (Region.ready md ops listed = [] → Q .normal a w) ∧
    ∀ i ∈ Region.ready md ops listed, wpOp P ops Q i (fun a' w' => (i < T → S w → S w') ∧ anyS P md ops Q S T fuel (listed.setIfInBounds i true) a' w') a w
theorem any_of_S : ∀ (fuel : Nat) (listed : Array Bool) (a : Act) (w : World), anyS P md ops Q S T fuel listed a w → wpAny P md ops Q fuel listed a w
  | 0, _, _, _, h => h
  | fuel + 1, _, _, _, h => ⟨h.1, fun i hi => wpOp_mono (fun a' w' h' => any_of_S fuel _ a' w' h'.2) (h.2 i hi)⟩
theorem anyS_first {S' : World → Prop} {i : Nat} {oi : Oper} {v : Value} (hT : ∀ j oj, ops[j]? = some oj → (∀ e ∈ oj.after, Region.binds md e = true → e.on ≠ i) → j < T ∨ ∀ w, S' w) (hp : ∀ w w', (S w → S w') → S' w → S' w') (hi : ops[i]? = some oi) (hsel : ∀ (j : Nat) (o : Oper) cs b, ops[j]? = some o → o.op ≠ .select cs b)
    (hQ : ∀ c a w, Q (.panic c) (a.put oi.dst v) w → Q (.panic c) a w) :
    ∀ (fuel : Nat) (listed : Array Bool) (a : Act) (w : World),
      (∀ j oj, ops[j]? = some oj → j ≠ i → listed.getD j true = false → (∀ e ∈ oj.after, Region.binds md e = true → e.on ≠ i) → oi.apart ops oj = true) →
      i ∈ Region.ready md ops listed → YieldsIf P ops S' oi v a → S' w →
      anyS P md ops Q S T fuel (listed.setIfInBounds i true) (a.put oi.dst v) w → anyS P md ops Q S T (fuel + 1) listed a w := by
  intro fuel
  induction fuel with
  | zero =>
    intro listed a w _ hr hy hS H
    refine ⟨fun h => (by rw [h] at hr; cases hr), fun j hj => ?_⟩
    by_cases hji : j = i
    · subst hji; exact hy.wpOp hi hS ⟨fun _ h => h, H⟩
    · have := ready_mono hj hji
      rw [H.1] at this
      cases this
  | succ fuel ih =>
    intro listed a w hfree hr hy hS H
    refine ⟨fun h => (by rw [h] at hr; cases hr), fun j hj => ?_⟩
    by_cases hji : j = i
    · subst hji; exact hy.wpOp hi hS ⟨fun _ h => h, H⟩
    · have h1 := H.2 j (ready_mono hj hji)
      obtain ⟨hjun, oj, hoj, hall⟩ := mem_ready.1 hj
      have hnot : ∀ e ∈ oj.after, Region.binds md e = true → e.on ≠ i := fun e he hb heq => by
        have h1 := hall e he hb
        have h0 := (mem_ready.1 hr).1
        rw [heq] at h1
        rcases Nat.lt_or_ge i listed.size with h' | h'
        · simp [h'] at h0 h1; rw [h0] at h1; cases h1
        · simp [Array.getElem?_eq_none h'] at h1
      have h2 := wpOp_putIf hoj (hfree j oj hoj hji hjun hnot) (fun cs b => hsel i oi cs b hi) (fun cs b => hsel j oj cs b hoj) hQ hy h1
      have hfree' : ∀ k ok, ops[k]? = some ok → k ≠ i → (listed.setIfInBounds j true).getD k true = false →
          (∀ e ∈ ok.after, Region.binds md e = true → e.on ≠ i) → oi.apart ops ok = true := fun k ok hk hki hun hno => by
        refine hfree k ok hk hki ?_ hno
        by_cases hjk : j = k
        · subst hjk; exact hjun
        · rw [getD_set_ne true hjk] at hun; exact hun
      refine wpOp_mono (fun a' w' h3 => ⟨h3.2.1, ih (listed.setIfInBounds j true) a' w' hfree' (ready_mono hr (Ne.symm hji)) h3.1 (by rcases hT j oj hoj hnot with h' | h'; exact hp w w' (h3.2.1 h') hS; exact h' w') ?_⟩) h2
      rw [Array.setIfInBounds_comm _ _ hji]
      exact h3.2.2
/-- take number i first, which asks nothing of the world -/
theorem anyS_pure {i : Nat} {oi : Oper} {v : Value} {fuel : Nat} {listed : Array Bool} {a : Act} {w : World} (hi : ops[i]? = some oi)
    (hk : (Region.noSelect ops && Region.free md ops listed i && (Region.ready md ops listed).contains i) = true)
    (hQ : ∀ c a w, Q (.panic c) (a.put oi.dst v) w → Q (.panic c) a w) (hy : YieldsIf P ops (fun _ => True) oi v a)
    (h : anyS P md ops Q S T fuel (listed.setIfInBounds i true) (a.put oi.dst v) w) : anyS P md ops Q S T (fuel + 1) listed a w := by
  simp only [Bool.and_eq_true] at hk
  exact anyS_first (S' := fun _ => True) (fun _ _ _ _ => .inr fun _ => trivial) (fun _ _ _ h => h) hi (Region.noSelect_spec hk.1.1) hQ fuel listed a w (Region.free_spec hi hk.1.2) (by simpa using hk.2) hy trivial h
/-- number i alone may come up -/
theorem anyS_one {i : Nat} {oi : Oper} {fuel : Nat} {listed : Array Bool} {a : Act} {w : World} (hr : Region.ready md ops listed = [i]) (hi : ops[i]? = some oi) (hw : Region.wanted oi (yielded ops a.tmps) = true)
    (h : ∀ K : Act → World → Prop, (∀ a' w', (i < T → S w → S w') → anyS P md ops Q S T fuel (listed.setIfInBounds i true) a' w' → K a' w') → Oper.wp P oi a w K Q) : anyS P md ops Q S T (fuel + 1) listed a w := by
  refine ⟨fun h0 => (by rw [h0] at hr; cases hr), fun j hj => ?_⟩
  rw [hr] at hj
  obtain rfl : j = i := by simpa using hj
  unfold wpOp
  simp only [hi, hw, if_true]
  exact .inl (h _ (fun a' w' hs ha => ⟨hs, ha⟩))
theorem anyS_done {listed : Array Bool} {a : Act} {w : World} (hr : Region.ready md ops listed = []) (h : Q .normal a w) : ∀ fuel, anyS P md ops Q S T fuel listed a w
  | 0 => ⟨hr, h⟩
  | _ + 1 => ⟨fun _ => h, by rw [hr]; simp⟩
theorem wp_region_S {id : Nat} {a : Act} {w : World} (S : World → Prop) (T : Nat) (hm : P.follows .mixedOrders = true)
    (h : anyS P .any ops Q S T ops.size (Array.replicate ops.size false) a w.drew) : (Code.region id ops true).wp P Q a w :=
  wp_region_any hm (any_of_S _ _ _ _ h)
end
end Go.Proofs.YtjkngkogddmceaaDoor
namespace Go.Proofs.YtjkngkogddmceaaDoor
open Go Go.RowKit
set_option linter.unusedVariables false
section
variable {P : Program} {ops : Array Oper} {Q : Exit → Act → World → Prop} {md : Region.Mode} {S : World → Prop} {T : Nat}
theorem anyS_two {i j : Nat} {oi oj : Oper} {fuel : Nat} {listed : Array Bool} {a : Act} {w : World} (hr : Region.ready md ops listed = [i, j]) (hi : ops[i]? = some oi) (hj : ops[j]? = some oj)
    (hw : Region.wanted oi (yielded ops a.tmps) = true) (hw2 : Region.wanted oj (yielded ops a.tmps) = true)
    (h1 : ∀ K : Act → World → Prop, (∀ a' w', (i < T → S w → S w') → anyS P md ops Q S T fuel (listed.setIfInBounds i true) a' w' → K a' w') → Oper.wp P oi a w K Q)
    (h2 : ∀ K : Act → World → Prop, (∀ a' w', (j < T → S w → S w') → anyS P md ops Q S T fuel (listed.setIfInBounds j true) a' w' → K a' w') → Oper.wp P oj a w K Q) : anyS P md ops Q S T (fuel + 1) listed a w := by
  refine ⟨fun h0 => (by rw [h0] at hr; cases hr), fun k hk => ?_⟩
  rw [hr] at hk
  simp only [List.mem_cons, List.not_mem_nil, or_false] at hk
  rcases hk with rfl | rfl
  · unfold wpOp
    simp only [hi, hw, if_true]
    exact .inl (h1 _ (fun a' w' hs ha => ⟨hs, ha⟩))
  · unfold wpOp
    simp only [hj, hw2, if_true]
    exact .inl (h2 _ (fun a' w' hs ha => ⟨hs, ha⟩))
end
end Go.Proofs.YtjkngkogddmceaaDoor
/- Walks: the reference's Digits and Cut. -/
namespace Go.Proofs.YtjkngkogddmceaaDoor
open Go Go.RowKit
set_option linter.unusedVariables false
theorem str_addS (x y : List UInt8) (h : x.length + y.length ≤ 1000000000) (W : World) : (Op.stringOp .add ⟨x.toArray⟩ ⟨y.toArray⟩).run Tryd.prog W = .ok (.string ⟨(x ++ y).toArray⟩) W := by
  rw [run_string_add_sum W _ _ (by simp [ByteArray.size]; omega), ByteArray.mk_append_mk]
theorem conv_one (c : Nat) (hc : c < 256) (b o cap : Nat) (w : World) (h : w.cell? ⟨b, o, none⟩ = some (.int .u8 (c : Int))) :
    (convert 56 9 (.slice (some ⟨b, o, none⟩) 1 cap)).run Tryd.prog w = .ok (.string ⟨[UInt8.ofNat c].toArray⟩) w := by
  have e := run_convert_bytes_back (P := Tryd.prog) w 56 9 5 ⟨b, o, none⟩ cap [UInt8.ofNat c] Tryd.underlying56 Tryd.underlying5 Tryd.underlying9 (fun j hj => by
    have hj0 : j = 0 := by simpa using hj
    subst hj0
    show w.cell? ⟨b, o + 0, none⟩ = _
    rw [Nat.add_zero, h]
    simp
    omega)
  exact e
theorem w_u8 (c : Nat) (h : c < 256) : IntKind.u8.wrap (c : Int) = (c : Int) := IntWalk.u8_in _ ⟨by omega, by omega⟩
theorem w_i64 (c : Nat) (h : c < 9223372036854775808) : IntKind.i64.wrap (c : Int) = (c : Int) := IntWalk.i64_in _ ⟨by omega, by omega⟩
theorem w_64 (c : Nat) (h : c < 9223372036854775808) : wrap64 (c : Int) = (c : Int) := IntWalk.wrap64_in _ ⟨by omega, by omega⟩
theorem w_48 (r : Nat) (h : r < 10) : IntKind.i64.wrap (48 + (r : Int)) = ((48 + r : Nat) : Int) := by rw [IntWalk.i64_in _ ⟨by omega, by omega⟩]; omega
theorem w_48b (r : Nat) (h : r < 10) : wrap64 (48 + (r : Int)) = ((48 + r : Nat) : Int) := by rw [IntWalk.wrap64_in _ ⟨by omega, by omega⟩]; omega
theorem dec_len : ∀ (k u : Nat), u < 10 ^ (k + 1) → (Lib.decDigits u).length ≤ k + 1
  | 0, u, h => by rw [Lib.decDigits, dif_pos (by simpa using h)]; simp
  | k + 1, u, h => by
    rw [Lib.decDigits]
    split
    · simp
    · have := dec_len k (u / 10) (by rw [Nat.pow_succ] at h; omega)
      simp only [List.length_append, List.length_singleton]
      omega
set_option maxRecDepth 100000 in
set_option maxHeartbeats 4000000 in
theorem ref6_DigitsN : ∀ (u : Nat) (w : World), u < 9223372036854775808 → Calls Tryd.prog 22 #[.int .i64 (u : Int)] w fun e w' => e = .returned (.string ⟨(Lib.decDigits u).toArray⟩) ∧ Below w.heap.size w w' := by
  intro u
  induction u using Nat.strongRecOn with
  | _ u ih =>
  intro w hu
  have e1 : ((u : Int) == -9223372036854775808) = false := by rw [beq_eq_false_iff_ne]; omega
  have e2 : ¬ ((u : Int) < 0) := by omega
  by_cases h10 : u < 10
  · have i10 : (u : Int) < 10 := by omega
    have hd : Lib.decDigits u = [UInt8.ofNat (48 + u)] := by rw [Lib.decDigits, dif_pos h10]
    have hw1 : IntKind.i64.wrap (48 + (u : Int)) = ((48 + u : Nat) : Int) := by rw [IntWalk.i64_in _ ⟨by omega, by omega⟩]; omega
    have hw2 : wrap64 (48 + (u : Int)) = ((48 + u : Nat) : Int) := by rw [IntWalk.wrap64_in _ ⟨by omega, by omega⟩]; omega
    have hw3 : IntKind.u8.wrap ((48 + u : Nat) : Int) = ((48 + u : Nat) : Int) := IntWalk.u8_in _ ⟨by omega, by omega⟩
    have hcv := fun b o cap W h => conv_one (48 + u) (by omega) b o cap W h
    rw [hd]
    generalize 48 + u = c at *
    go_enter Tryd.func22, Tryd.ntmps22
    go_wp2_with fail
    go_ret
    exact ⟨rfl, below_alloc _ _⟩
  · have i10 : ¬ (u : Int) < 10 := by omega
    have hd : Lib.decDigits u = Lib.decDigits (u / 10) ++ [UInt8.ofNat (48 + u % 10)] := by rw [Lib.decDigits, dif_neg h10]
    have hl := dec_len 19 (u / 10) (by omega)
    have hc := fun W => ih (u / 10) (by omega) W (by omega)
    have hq1 : Int.tdiv (u : Int) 10 = ((u / 10 : Nat) : Int) := by rw [Int.tdiv_eq_ediv_of_nonneg (by omega)]; omega
    have hr1 : Int.tmod (u : Int) 10 = ((u % 10 : Nat) : Int) := by rw [Int.tmod_eq_emod_of_nonneg (by omega)]; omega
    have hr : u % 10 < 10 := Nat.mod_lt _ (by decide)
    rw [hd]
    have hq2 := w_i64 (u / 10) (by omega)
    have hq3 := w_64 (u / 10) (by omega)
    have hr2 := w_i64 (u % 10) (by omega)
    have hr3 := w_64 (u % 10) (by omega)
    have hw1 := w_48 (u % 10) hr
    have hw2 := w_48b (u % 10) hr
    have h48 : 48 + u % 10 < 256 := Nat.lt_of_lt_of_le (Nat.add_lt_add_left hr 48) (by decide)
    have hw3 := w_u8 (48 + u % 10) h48
    have hcv := fun b o cap W h => conv_one (48 + u % 10) h48 b o cap W h
    clear ih hd
    generalize u / 10 = q at *
    generalize u % 10 = r at *
    generalize 48 + r = c at *
    have hadd := fun W => str_addS (Lib.decDigits q) [UInt8.ofNat c] (by simp; omega) W
    generalize Lib.decDigits q = D at *
    go_enter Tryd.func22, Tryd.ntmps22
    go_wp2_with fail
    refine wp_region_S (fun Y => Below w.heap.size w Y) 9 (by kernel_rfl) ?_
    refine anyS_pure (i := 0) rfl (by kernel_rfl) (fun _ _ _ h => h) (Or.inl ⟨by rfl, fun Y hYb => (by clear hYb; go_simp; rfl)⟩) ?_
    refine anyS_pure (i := 1) rfl (by kernel_rfl) (fun _ _ _ h => h) (Or.inl ⟨by rfl, fun Y hYb => (by clear hYb; go_simp; rfl)⟩) ?_
    refine anyS_pure (i := 3) rfl (by kernel_rfl) (fun _ _ _ h => h) (Or.inl ⟨by rfl, fun Y hYb => (by clear hYb; go_simp; rfl)⟩) ?_
    refine anyS_pure (i := 4) rfl (by kernel_rfl) (fun _ _ _ h => h) (Or.inl ⟨by rfl, fun Y hYb => (by clear hYb; go_simp; rfl)⟩) ?_
    refine anyS_pure (i := 5) rfl (by kernel_rfl) (fun _ _ _ h => h) (Or.inl ⟨by rfl, fun Y hYb => (by clear hYb; go_simp; rfl)⟩) ?_
    refine anyS_pure (i := 6) rfl (by kernel_rfl) (fun _ _ _ h => h) (Or.inl ⟨by rfl, fun Y hYb => (by clear hYb; go_simp; rfl)⟩) ?_
    refine anyS_two (i := 2) (j := 7) (by kernel_rfl) rfl rfl (by rfl) (by rfl) (fun K hK => ?_) (fun K hK => ?_)
    · go_simp
      refine (hc _).mono ?_
      rintro e x1 ⟨rfl, hb1⟩
      dsimp only
      refine hK _ _ (fun _ _ => bvia (Below.refl _ w).drew hb1) ?_
      clear hK K
      refine anyS_one (i := 7) (by kernel_rfl) rfl (by rfl) (fun K hK => ?_)
      go_simp
      refine hK _ _ (fun _ _ => balloc (bvia (Below.refl _ w).drew hb1) _) ?_
      clear hK K
      have hcx := hcv x1.heap.size 0 1 _ ((Bx.new x1 #[.int .u8 (c : Int)] 5).at_ 0 rfl)
      refine anyS_one (i := 8) (by kernel_rfl) rfl (by rfl) (fun K hK => ?_)
      go_simp
      refine hK _ _ (fun _ h => h) ?_
      clear hK K
      refine anyS_one (i := 9) (by kernel_rfl) rfl (by rfl) (fun K hK => ?_)
      go_simp
      refine hK _ _ (fun _ h => h) ?_
      clear hK K
      refine anyS_one (i := 10) (by kernel_rfl) rfl (by rfl) (fun K hK => ?_)
      go_simp
      refine hK _ _ (fun h _ => absurd h (by decide)) ?_
      clear hK K
      refine anyS_done (by kernel_rfl) ?_ _
      go_wp2_with fail
      go_ret
      exact ⟨rfl, balloc (bvia (Below.refl _ w).drew hb1) _⟩
    · go_simp
      have X0 := Bx.new w.drew #[.int .u8 (c : Int)] 5
      have hS0 := balloc (Below.refl _ w).drew (.cells #[.int .u8 (c : Int)] 5)
      refine hK _ _ (fun _ _ => hS0) ?_
      clear hK K
      refine anyS_two (i := 2) (j := 8) (by kernel_rfl) rfl rfl (by rfl) (by rfl) (fun K hK => ?_) (fun K hK => ?_)
      · go_simp
        refine (hc _).mono ?_
        rintro e x1 ⟨rfl, hb1⟩
        dsimp only
        have X1 := X0.below hb1
        have hS := bvia hS0 hb1
        refine hK _ _ (fun _ _ => hS) ?_
        clear hK K
        have hcx := hcv w.heap.size 0 1 _ (X1.at_ 0 rfl)
        refine anyS_one (i := 8) (by kernel_rfl) rfl (by rfl) (fun K hK => ?_)
        go_simp
        refine hK _ _ (fun _ _ => hS) ?_
        clear hK K
        refine anyS_one (i := 9) (by kernel_rfl) rfl (by rfl) (fun K hK => ?_)
        go_simp
        refine hK _ _ (fun _ h => h) ?_
        clear hK K
        refine anyS_one (i := 10) (by kernel_rfl) rfl (by rfl) (fun K hK => ?_)
        go_simp
        refine hK _ _ (fun h _ => absurd h (by decide)) ?_
        clear hK K
        refine anyS_done (by kernel_rfl) ?_ _
        go_wp2_with fail
        go_ret
        exact ⟨rfl, hS⟩
      · have hcx := hcv w.heap.size 0 1 _ (X0.at_ 0 rfl)
        go_simp
        refine hK _ _ (fun _ _ => hS0) ?_
        clear hK K
        refine anyS_one (i := 2) (by kernel_rfl) rfl (by rfl) (fun K hK => ?_)
        go_simp
        refine (hc _).mono ?_
        rintro e x1 ⟨rfl, hb1⟩
        dsimp only
        have hS := bvia hS0 hb1
        refine hK _ _ (fun _ _ => hS) ?_
        clear hK K
        refine anyS_one (i := 9) (by kernel_rfl) rfl (by rfl) (fun K hK => ?_)
        go_simp
        refine hK _ _ (fun _ h => h) ?_
        clear hK K
        refine anyS_one (i := 10) (by kernel_rfl) rfl (by rfl) (fun K hK => ?_)
        go_simp
        refine hK _ _ (fun h _ => absurd h (by decide)) ?_
        clear hK K
        refine anyS_done (by kernel_rfl) ?_ _
        go_wp2_with fail
        go_ret
        exact ⟨rfl, hS⟩
set_option maxRecDepth 100000 in
set_option maxHeartbeats 4000000 in
theorem ref6_Digits (n : Int) (w : World) (h0 : -9223372036854775808 ≤ n) (h1 : n ≤ 9223372036854775807) : Calls Tryd.prog 22 #[.int .i64 n] w fun e w' => e = .returned (.string ⟨(Lib.itoa n).toArray⟩) ∧ Below w.heap.size w w' := by
  by_cases hn : n < 0
  · have hit : Lib.itoa n = 45 :: Lib.decDigits n.natAbs := by unfold Lib.itoa; rw [if_pos hn]
    by_cases hm : n = -9223372036854775808
    · subst hm
      have e : Lib.itoa (-9223372036854775808) = [45, 57, 50, 50, 51, 51, 55, 50, 48, 51, 54, 56, 53, 52, 55, 55, 53, 56, 48, 56] := by simp [Lib.itoa, Lib.decDigits]
      rw [e]
      go_enter Tryd.func22, Tryd.ntmps22
      go_wp2_with fail
      go_ret
      exact ⟨rfl, Below.refl _ _⟩
    · have hmi : (n == -9223372036854775808) = false := by rw [beq_eq_false_iff_ne]; exact hm
      have hc := fun W => ref6_DigitsN n.natAbs W (by omega)
      rw [show ((n.natAbs : Nat) : Int) = -n by omega] at hc
      have hw1 : IntKind.i64.wrap (-n) = -n := IntWalk.i64_in _ ⟨by omega, by omega⟩
      have hw2 : wrap64 (-n) = -n := IntWalk.wrap64_in _ ⟨by omega, by omega⟩
      have hl := dec_len 19 n.natAbs (by omega)
      have hadd := fun W => str_addS [45] (Lib.decDigits n.natAbs) (by simp; omega) W
      rw [hit]
      generalize Lib.decDigits n.natAbs = D at *
      go_enter Tryd.func22, Tryd.ntmps22
      go_wp2_with (go_at_call 22; refine (hc _).mono ?_; rintro e w1 ⟨rfl, hb1⟩)
      go_ret
      exact ⟨rfl, hb1⟩
  · obtain ⟨u, rfl⟩ : ∃ u : Nat, n = (u : Int) := ⟨n.toNat, by omega⟩
    have hit : Lib.itoa (u : Int) = Lib.decDigits u := by unfold Lib.itoa; rw [if_neg hn]; rfl
    rw [hit]
    exact ref6_DigitsN u w (by omega)
end Go.Proofs.YtjkngkogddmceaaDoor
