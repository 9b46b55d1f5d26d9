/- Plain words of this seat's proofs: what a slice of ints or of cells reads as in a world, and how that is kept; small laws on numbers. Plain words: boxes that are laid and written. -/
import Derived.Test.YteabkcbajpjkoaaGreatDoorProg
import Derived.WalkKit
import Derived.WalkSpells
import Derived.WalkLawsBesides
import Derived.Below
import Derived.BigQuiet
import Derived.Deep.QuietTactic
import Derived.Deep.RegionHeld3
import Derived.StillTailTactics
import Derived.Handy
import Derived.Laws.MakeOwn
import Derived.Maps.AppendAt
import Derived.Deep.AppendLies
import Derived.Deep.RegionLawGrows
import Derived.Maps.OwnOps
import Derived.Maps.OwnSet
namespace Go.Proofs.YteabkcbajpjkoaaGreatDoor
open Go.RowKit
theorem hid {p : Prop} (h : p) : Hid p := h
/-- a cell: what goes east, north, west and south -/
structure C4 where
  e : Int
  n : Int
  w : Int
  s : Int
def C4.get (c : C4) : Nat → Int | 0 => c.e | 1 => c.n | 2 => c.w | _ => c.s
def C4.zero : C4 := ⟨0, 0, 0, 0⟩
theorem C4.ext' {c d : C4} (h : ∀ k, k < 4 → c.get k = d.get k) : c = d := by
  have h0 := h 0 (by omega); have h1 := h 1 (by omega); have h2 := h 2 (by omega); have h3 := h 3 (by omega)
  cases c; cases d; simp_all [C4.get]
/-- a slice of ints: a letter for its address, so that nil is let in -/
def Sl (w : World) (a : Option Addr) (n : Nat) (f : Nat → Int) : Prop :=
  ∀ k, k < n → ∃ b off, a = some ⟨b, off, none⟩ ∧ b < w.heap.size ∧ w.cell? ⟨b, off + k, none⟩ = some (.int .i64 (f k))
/-- a slice of cells -/
def Sc (w : World) (a : Option Addr) (n : Nat) (g : Nat → C4) : Prop :=
  ∀ k, k < n → ∃ b off, a = some ⟨b, off, none⟩ ∧ b < w.heap.size ∧ w.cell? ⟨b, off + k * 4, none⟩ = some (.int .i64 (g k).e) ∧
    w.cell? ⟨b, off + k * 4 + 1, none⟩ = some (.int .i64 (g k).n) ∧ w.cell? ⟨b, off + k * 4 + 2, none⟩ = some (.int .i64 (g k).w) ∧ w.cell? ⟨b, off + k * 4 + 3, none⟩ = some (.int .i64 (g k).s)
theorem Sl.keep {w w' : World} {a : Option Addr} {n : Nat} {f : Nat → Int} (h : Sl w a n f) (hs : w.heap.size ≤ w'.heap.size)
    (hk : ∀ b o, b < w.heap.size → w'.cell? ⟨b, o, none⟩ = w.cell? ⟨b, o, none⟩) : Sl w' a n f := fun k hkn => by
  obtain ⟨b, off, h1, h2, h3⟩ := h k hkn
  exact ⟨b, off, h1, by omega, (hk _ _ h2).trans h3⟩
theorem Sc.keep {w w' : World} {a : Option Addr} {n : Nat} {g : Nat → C4} (h : Sc w a n g) (hs : w.heap.size ≤ w'.heap.size)
    (hk : ∀ b o, b < w.heap.size → w'.cell? ⟨b, o, none⟩ = w.cell? ⟨b, o, none⟩) : Sc w' a n g := fun k hkn => by
  obtain ⟨b, off, h1, h2, h3, h4, h5, h6⟩ := h k hkn
  exact ⟨b, off, h1, by omega, (hk _ _ h2).trans h3, (hk _ _ h2).trans h4, (hk _ _ h2).trans h5, (hk _ _ h2).trans h6⟩
theorem bcell {B : Nat} {w w' : World} (hb : Below B w w') : ∀ b o, b < B → w'.cell? ⟨b, o, none⟩ = w.cell? ⟨b, o, none⟩ := fun b o h => hb.cell (p := ⟨b, o, none⟩) h
theorem bfrozen {B : Nat} {w w' : World} (hb : Below B w w') : ∀ b o, b < B → w'.frozen? ⟨b, o, none⟩ = w.frozen? ⟨b, o, none⟩ := fun b o h => hb.frozen (p := ⟨b, o, none⟩) h
theorem Sl.below {w w' : World} {a : Option Addr} {n : Nat} {f : Nat → Int} (h : Sl w a n f) (hb : Below w.heap.size w w') : Sl w' a n f := h.keep hb.size (bcell hb)
theorem Sc.below {w w' : World} {a : Option Addr} {n : Nat} {g : Nat → C4} (h : Sc w a n g) (hb : Below w.heap.size w w') : Sc w' a n g := h.keep hb.size (bcell hb)
theorem Sl.alloc {w : World} {a : Option Addr} {n : Nat} {f : Nat → Int} (h : Sl w a n f) (o : Obj) : Sl (w.alloc o) a n f := h.below ((Below.refl _ w).alloc (Nat.le_refl _) o)
theorem Sc.alloc {w : World} {a : Option Addr} {n : Nat} {g : Nat → C4} (h : Sc w a n g) (o : Obj) : Sc (w.alloc o) a n g := h.below ((Below.refl _ w).alloc (Nat.le_refl _) o)
theorem Sl.drew {w : World} {a : Option Addr} {n : Nat} {f : Nat → Int} (h : Sl w a n f) : Sl w.drew a n f := h
theorem Sc.drew {w : World} {a : Option Addr} {n : Nat} {g : Nat → C4} (h : Sc w a n g) : Sc w.drew a n g := h
theorem below_drewN {B : Nat} {a w : World} (h : Below B a w) (n : Nat) : Below B a (w.drewN n) := ⟨h.os, h.tape, h.output, h.size, h.block⟩
theorem balloc {w W : World} (h : Below w.heap.size w W) (o : Obj) : Below w.heap.size w (W.alloc o) := h.alloc h.size o
theorem bset {w W : World} (h : Below w.heap.size w W) {p : Addr} (hp : w.heap.size ≤ p.block) (u : Value) : Below w.heap.size w (W.setCell p u) := h.setCell hp u
/-- behind a call: the caller's world is kept too -/
theorem bvia {w W w1 : World} (h : Below w.heap.size w W) (hb : Below W.heap.size W w1) : Below w.heap.size w w1 := h.trans (hb.mono h.size)
theorem Sl.drewN {w : World} {a : Option Addr} {n : Nat} {f : Nat → Int} (h : Sl w a n f) (k : Nat) : Sl (w.drewN k) a n f := h
theorem Sc.drewN {w : World} {a : Option Addr} {n : Nat} {g : Nat → C4} (h : Sc w a n g) (k : Nat) : Sc (w.drewN k) a n g := h
theorem cell_new (w : World) (cs : Array Value) (t : TypeId) (k : Nat) (v : Value) (h : cs[k]? = some v) : (w.alloc (.cells cs t)).cell? ⟨w.heap.size, k, none⟩ = some v := by
  rw [cell_of_row (w.alloc (.cells cs t)) w.heap.size k cs t (0, 0) (Array.getElem?_push_size ..), h]
/-- a block that is just these cells so far (a box), none frozen -/
structure Bx (W : World) (b : Nat) (vs : Array Value) : Prop where
  lt : b < W.heap.size
  cells : ∀ i v, vs[i]? = some v → W.cell? ⟨b, i, none⟩ = some v
  free : ∀ i, W.frozen? ⟨b, i, none⟩ = false
theorem Bx.new (w : World) (vs : Array Value) (t : TypeId) : Bx (w.alloc (.cells vs t)) w.heap.size vs :=
  ⟨by simp, fun i v h => cell_new w vs t i v h, fun i => by simp [go_sem]⟩
theorem Bx.below {W W' : World} {b : Nat} {vs : Array Value} (h : Bx W b vs) (hb : Below W.heap.size W W') : Bx W' b vs :=
  ⟨by have := hb.size; have := h.1; omega, fun i v hi => (bcell hb _ _ h.1).trans (h.2 i v hi), fun i => (bfrozen hb _ _ h.1).trans (h.3 i)⟩
theorem Bx.alloc {W : World} {b : Nat} {vs : Array Value} (h : Bx W b vs) (o : Obj) : Bx (W.alloc o) b vs := h.below ((Below.refl _ W).alloc (Nat.le_refl _) o)
theorem Bx.drew {W : World} {b : Nat} {vs : Array Value} (h : Bx W b vs) : Bx W.drew b vs := ⟨h.1, h.2, h.3⟩
theorem Bx.drewN {W : World} {b : Nat} {vs : Array Value} (h : Bx W b vs) (k : Nat) : Bx (W.drewN k) b vs := ⟨h.1, h.2, h.3⟩
theorem Bx.at_ {W : World} {b : Nat} {vs : Array Value} (h : Bx W b vs) (i : Nat) {v : Value} (hi : vs[i]? = some v) : W.cell? ⟨b, i, none⟩ = some v := h.2 i v hi
theorem Bx.far {W : World} {b : Nat} {vs : Array Value} (h : Bx W b vs) {p : Addr} (hp : p.block ≠ b) (u : Value) : Bx (W.setCell p u) b vs :=
  ⟨by simpa [World.setCell] using h.1, fun i v hi => by rw [World.cell?_setCell_other _ _ _ _ (fun e => hp (by rw [e]))]; exact h.2 i v hi, fun i => by rw [World.frozen?_setCell]; exact h.3 i⟩
theorem Bx.set_ {W : World} {b : Nat} {vs : Array Value} (h : Bx W b vs) (j : Nat) (hj : j < vs.size) (u : Value) : Bx (W.setCell ⟨b, j, none⟩ u) b (vs.setIfInBounds j u) := by
  refine ⟨by simpa [World.setCell] using h.1, fun i v hi => ?_, fun i => by rw [World.frozen?_setCell]; exact h.3 i⟩
  by_cases e : i = j
  · subst e
    have h1 := h.2 i vs[i] (by simp [hj])
    simp [hj] at hi
    rw [World.cell?_setCell_same' _ _ _ (by rw [h1]; rfl), hi]
  · rw [World.cell?_setCell_other _ _ _ _ (fun e' => e (by injection e' with _ e2 _; exact e2.symm))]
    refine h.2 i v ?_
    rwa [Array.getElem?_setIfInBounds_ne (fun e' => e e'.symm)] at hi
theorem ret_int {k : IntKind} {a b : Int} (h : a = b) : Ending.returned (.int k a) = .returned (.int k b) := by rw [h]
theorem ret_bool {a b : Bool} (h : a = b) : Ending.returned (.bool a) = .returned (.bool b) := by rw [h]
theorem below_alloc (w : World) (o : Obj) : Below w.heap.size w (w.alloc o) := (Below.refl _ w).alloc (Nat.le_refl _) o
/-! ### The plain functions -/
def within (n lo hi : Int) : Bool := decide (lo ≤ n) && decide (n ≤ hi)
theorem within_iff (n lo hi : Int) : within n lo hi = true ↔ lo ≤ n ∧ n ≤ hi := by simp [within]
theorem within_no (n lo hi : Int) : within n lo hi = false ↔ ¬ (lo ≤ n ∧ n ≤ hi) := by rw [← within_iff]; simp
def sumTo (f : Nat → Int) : Nat → Int | 0 => 0 | k + 1 => sumTo f k + f k
/-- what cell.sum asks of the first k numbers -/
def okTo (f : Nat → Int) (k : Nat) : Prop := ∀ j, j < k → 0 ≤ f j ∧ sumTo f (j + 1) ≤ 1000000000
theorem sumTo_nonneg (f : Nat → Int) : ∀ k, okTo f k → 0 ≤ sumTo f k
  | 0, _ => by simp [sumTo]
  | k + 1, h => by have := sumTo_nonneg f k (fun j hj => h j (by omega)); have := h k (by omega); simp [sumTo]; omega
theorem sumTo_le (f : Nat → Int) : ∀ k, okTo f k → sumTo f k ≤ 1000000000
  | 0, _ => by simp [sumTo]
  | k + 1, h => (h k (by omega)).2
theorem okTo_succ {f : Nat → Int} {k : Nat} (h : okTo f k) (h0 : 0 ≤ f k) (h1 : sumTo f k + f k ≤ 1000000000) : okTo f (k + 1) := fun j hj => by
  rcases Nat.lt_succ_iff_lt_or_eq.1 hj with h' | rfl
  · exact h j h'
  · exact ⟨h0, by simpa [sumTo] using h1⟩
instance (f : Nat → Int) (k : Nat) : Decidable (okTo f k) := inferInstanceAs (Decidable (∀ j, j < k → _))
def sumR (f : Nat → Int) (n : Nat) : Int := if okTo f n then sumTo f n else -1
theorem sumR_no {f : Nat → Int} {n k : Nat} (hk : k < n) (h : ¬ (0 ≤ f k ∧ sumTo f k + f k ≤ 1000000000)) : sumR f n = -1 := by
  unfold sumR; rw [if_neg]; intro hh; have := hh k hk; simp only [sumTo] at this; omega
def C4.mass (c : C4) : Int := c.e + c.n + c.w + c.s
def validC (c : C4) : Bool := decide (0 ≤ c.e ∧ 0 ≤ c.n ∧ 0 ≤ c.w ∧ 0 ≤ c.s ∧ c.e + c.n + c.w + c.s ≤ 1000000000)
theorem validC_iff (c : C4) : validC c = true ↔ (0 ≤ c.e ∧ 0 ≤ c.n ∧ 0 ≤ c.w ∧ 0 ≤ c.s ∧ c.e + c.n + c.w + c.s ≤ 1000000000) := by simp [validC]
theorem sumTo4 (c : C4) : sumTo c.get 4 = c.e + c.n + c.w + c.s := by simp [sumTo, C4.get]
theorem okTo4 (c : C4) : okTo c.get 4 ↔ validC c = true := by
  rw [validC_iff]
  constructor
  · intro h
    have h0 := h 0 (by omega); have h1 := h 1 (by omega); have h2 := h 2 (by omega); have h3 := h 3 (by omega)
    simp [sumTo, C4.get] at h0 h1 h2 h3
    omega
  · intro h j hj
    have : j = 0 ∨ j = 1 ∨ j = 2 ∨ j = 3 := by omega
    rcases this with rfl | rfl | rfl | rfl <;> simp [sumTo, C4.get] <;> omega
theorem sumR4 (c : C4) : sumR c.get 4 = if validC c then c.mass else -1 := by
  unfold sumR; simp only [okTo4, sumTo4, C4.mass]
def massTo (g : Nat → C4) : Nat → Int | 0 => 0 | k + 1 => massTo g k + (g k).mass
/-- a valid grid -/
def validG (wide high : Int) (n : Nat) (g : Nat → C4) : Bool :=
  decide (1 ≤ wide ∧ wide ≤ 64 ∧ 1 ≤ high ∧ high ≤ 64 ∧ wide * high ≤ 1024 ∧ (n : Int) = wide * high ∧ (∀ k, k < n → validC (g k) = true) ∧ massTo g n ≤ 1000000000)
theorem validG_iff (wide high : Int) (n : Nat) (g : Nat → C4) : validG wide high n g = true ↔
  (1 ≤ wide ∧ wide ≤ 64 ∧ 1 ≤ high ∧ high ≤ 64 ∧ wide * high ≤ 1024 ∧ (n : Int) = wide * high ∧ (∀ k, k < n → validC (g k) = true) ∧ massTo g n ≤ 1000000000) := by simp [validG]
theorem validG_no (wide high : Int) (n : Nat) (g : Nat → C4) : validG wide high n g = false ↔
  ¬ (1 ≤ wide ∧ wide ≤ 64 ∧ 1 ≤ high ∧ high ≤ 64 ∧ wide * high ≤ 1024 ∧ (n : Int) = wide * high ∧ (∀ k, k < n → validC (g k) = true) ∧ massTo g n ≤ 1000000000) := by rw [← validG_iff]; simp
theorem massTo_nonneg (g : Nat → C4) : ∀ k, (∀ j, j < k → validC (g j) = true) → 0 ≤ massTo g k
  | 0, _ => by simp [massTo]
  | k + 1, h => by
    have := massTo_nonneg g k (fun j hj => h j (by omega))
    have h2 := (validC_iff _).1 (h k (by omega))
    simp only [massTo, C4.mass]; omega
theorem massTo_mono (g : Nat → C4) {k n : Nat} (hkn : k ≤ n) (h : ∀ j, j < n → validC (g j) = true) : massTo g k ≤ massTo g n := by
  induction n with
  | zero => rw [show k = 0 from by omega]; exact Int.le_refl _
  | succ n ih =>
    rcases Nat.lt_or_ge k (n + 1) with h' | h'
    · have h1 := ih (by omega) (fun j hj => h j (by omega))
      have h2 := (validC_iff _).1 (h n (by omega))
      simp only [massTo, C4.mass]; omega
    · obtain rfl : k = n + 1 := by omega
      exact Int.le_refl _
end Go.Proofs.YteabkcbajpjkoaaGreatDoor
namespace Go.Proofs.YteabkcbajpjkoaaGreatDoor
open Go.RowKit
set_option linter.unusedVariables false
theorem Bx.newE {W : World} {b : Nat} (h : b = W.heap.size) (vs : Array Value) (t : TypeId) : Bx (W.alloc (.cells vs t)) b vs := by
  rw [h]
  exact Bx.new W vs t
theorem Bx.far2 {W : World} {b : Nat} {vs : Array Value} {p : Addr} (hp : p.block ≠ b) (h : Bx W b vs) (u : Value) : Bx (W.setCell p u) b vs := h.far hp u
theorem Bx.two {W : World} {b : Nat} {x0 x1 y0 y1 : Value} (h : Bx W b #[x0, x1]) :
    Bx ((W.setCell ⟨b, 0, none⟩ y0).setCell ⟨b, 1, none⟩ y1) b #[y0, y1] :=
  (h.set_ 0 (by simp) y0).set_ 1 (by simp) y1
theorem Bx.four {W : World} {b : Nat} {y0 y1 y2 y3 : Value} (h : Bx W b #[.int .i64 0, .int .i64 0, .int .i64 0, .int .i64 0]) :
    Bx ((((W.setCell ⟨b, 0, none⟩ y0).setCell ⟨b, 1, none⟩ y1).setCell ⟨b, 2, none⟩ y2).setCell ⟨b, 3, none⟩ y3) b #[y0, y1, y2, y3] :=
  (((h.set_ 0 (by simp) y0).set_ 1 (by simp) y1).set_ 2 (by simp) y2).set_ 3 (by simp) y3
end Go.Proofs.YteabkcbajpjkoaaGreatDoor
/- Plain words: the neighbours of a place on the torus. No program in sight. -/
namespace Go.Proofs.YteabkcbajpjkoaaGreatDoor
set_option linter.unusedVariables false
/-- the four neighbours of the place i on a torus of W columns and H rows: to the west, to the south, to the east, to the north -/
def nbT (W H i : Nat) : Nat → Nat
  | 0 => (i % W + W - 1) % W + i / W % H * W
  | 1 => i % W % W + (i / W + H - 1) % H * W
  | 2 => (i % W + 1) % W + i / W % H * W
  | _ => i % W % W + (i / W + 1) % H * W
theorem nb_lt {W H a b : Nat} (ha : a < W) (hb : b < H) : a + b * W < W * H := by
  have h : (b + 1) * W ≤ H * W := Nat.mul_le_mul_right W hb
  rw [Nat.succ_mul] at h
  rw [Nat.mul_comm W H]; omega
theorem row_lt {W H i : Nat} (h : i < W * H) : i % W < W ∧ i / W < H := by
  have hW : 0 < W := Nat.pos_of_ne_zero fun e => by subst e; simp at h
  exact ⟨Nat.mod_lt _ hW, Nat.div_lt_of_lt_mul h⟩
theorem nbT_lt {W H i d : Nat} (h : i < W * H) (hd : d < 4) : nbT W H i d < W * H := by
  obtain ⟨hx, hy⟩ := row_lt h
  have hW : 0 < W := by omega
  have hH : 0 < H := Nat.lt_of_le_of_lt (Nat.zero_le _) hy
  rcases (by omega : d = 0 ∨ d = 1 ∨ d = 2 ∨ d = 3) with rfl | rfl | rfl | rfl
  · exact nb_lt (Nat.mod_lt _ hW) (Nat.mod_lt _ hH)
  · exact nb_lt (Nat.mod_lt _ hW) (Nat.mod_lt _ hH)
  · exact nb_lt (Nat.mod_lt _ hW) (Nat.mod_lt _ hH)
  · exact nb_lt (Nat.mod_lt _ hW) (Nat.mod_lt _ hH)
/-- the neighbour in ints -/
theorem nbT_int {W H i d : Nat} (hd : d < 4) (hW : 0 < W) (hH : 0 < H) : (nbT W H i d : Int) = match d with
    | 0 => ((i : Int) % W + W - 1) % W + (i : Int) / W % H * W
    | 1 => (i : Int) % W % W + ((i : Int) / W + H - 1) % H * W
    | 2 => ((i : Int) % W + 1) % W + (i : Int) / W % H * W
    | _ => (i : Int) % W % W + ((i : Int) / W + 1) % H * W := by
  have f0 := Int.ediv_nonneg (Int.natCast_nonneg i) (Int.natCast_nonneg W)
  have f1 := Int.emod_nonneg (i : Int) (show (W : Int) ≠ 0 by omega)
  have e1 : ((i % W + W - 1 : Nat) : Int) = (i : Int) % W + W - 1 := by rw [Int.natCast_sub (by omega)]; simp
  have e2 : ((i / W + H - 1 : Nat) : Int) = (i : Int) / W + H - 1 := by rw [Int.natCast_sub (by omega)]; simp
  rcases (by omega : d = 0 ∨ d = 1 ∨ d = 2 ∨ d = 3) with rfl | rfl | rfl | rfl
  · simp only [nbT, Int.natCast_add, Int.natCast_mul, Int.natCast_emod, Int.natCast_ediv] at *; rw [e1]
  · simp only [nbT, Int.natCast_add, Int.natCast_mul, Int.natCast_emod] at *; rw [e2]
  · simp [nbT]
  · simp [nbT]
end Go.Proofs.YteabkcbajpjkoaaGreatDoor
/- Walks of the small functions of cell, grid, wall and the references: validity. Walks: cell.Valid, cell.Mass, the reference's Valid. -/
namespace Go.Proofs.YteabkcbajpjkoaaGreatDoor
open Go.RowKit
theorem cell_within (n lo hi : Int) (w : World) : Calls Tryz.prog 96 #[.int .i64 n, .int .i64 lo, .int .i64 hi] w fun e w' => e = .returned (.bool (within n lo hi)) ∧ w = w' := by
  cases h1 : decide (lo ≤ n)
  all_goals
    go_enter Tryz.func96, Tryz.ntmps96
    go_wp2
    go_ret
    exact ⟨by simp [within, h1], rfl⟩
theorem grid_within (n lo hi : Int) (w : World) : Calls Tryz.prog 56 #[.int .i64 n, .int .i64 lo, .int .i64 hi] w fun e w' => e = .returned (.bool (within n lo hi)) ∧ w = w' := by
  cases h1 : decide (lo ≤ n)
  all_goals
    go_enter Tryz.func56, Tryz.ntmps56
    go_wp2
    go_ret
    exact ⟨by simp [within, h1], rfl⟩
set_option maxHeartbeats 400000 in
theorem cell_sum (a : Option Addr) (n cap : Nat) (f : Nat → Int) (w : World) (hn : n ≤ 100000) (H : Sl w a n f) : Calls Tryz.prog 74 #[.slice a n cap] w fun e w' => e = .returned (.int .i64 (sumR f n)) ∧ w = w' := by
  go_enter Tryz.func74, Tryz.ntmps74
  go_wp2
  go_loop [3, 8] (fun t i => ∃ k : Nat, k ≤ n ∧ i = .int .i64 k ∧ t = .int .i64 (sumTo f k) ∧ okTo f k) (fun _ i => n - (intOf i).toNat)
  case atStart => exact ⟨0, Nat.zero_le _, rfl, rfl, fun j hj => by omega⟩
  case round =>
    obtain ⟨k, hk, rfl, rfl, hok⟩ := hrel
    have s0 := sumTo_nonneg f k hok
    have s1 := sumTo_le f k hok
    by_cases hlt : k < n
    · obtain ⟨b, off, rfl, hb, hc⟩ := H k hlt
      have HOK := hid hok; clear hok
      cases hw : within (f k) 0 1000000000 with
      | true =>
        have hb1 := (within_iff _ _ _).1 hw
        obtain ⟨hb1, hb2⟩ := hb1
        by_cases hs : 1000000000 < sumTo f k + f k
        · go_wp2_with (go_at_call 96; refine (cell_within _ _ _ _).mono ?_; rintro e w' ⟨rfl, rfl⟩)
          go_ret
          exact ⟨ret_int (sumR_no hlt (by omega)).symm, rfl⟩
        · go_wp2_with (go_at_call 96; refine (cell_within _ _ _ _).mono ?_; rintro e w' ⟨rfl, rfl⟩)
          go_round
          case rel => exact ⟨k + 1, by omega, by go_num, rfl, okTo_succ HOK.out (by omega) (by omega)⟩
          case measure => simp [intOf]; omega
      | false =>
        go_wp2_with (go_at_call 96; refine (cell_within _ _ _ _).mono ?_; rintro e w' ⟨rfl, rfl⟩)
        go_ret
        have hb1 := (within_no _ _ _).1 hw
        exact ⟨ret_int (sumR_no hlt (by omega)).symm, rfl⟩
    · go_wp2
      go_ret
      obtain rfl : k = n := (by omega)
      exact ⟨ret_int (by rw [sumR, if_pos hok]), rfl⟩
end Go.Proofs.YteabkcbajpjkoaaGreatDoor
namespace Go.Proofs.YteabkcbajpjkoaaGreatDoor
open Go.RowKit
theorem sl_box (w : World) (c : C4) (t : TypeId) : Sl (w.alloc (.cells #[.int .i64 c.e, .int .i64 c.n, .int .i64 c.w, .int .i64 c.s] t)) (some ⟨w.heap.size, 0, none⟩) 4 c.get := fun k hk => by
  refine ⟨w.heap.size, 0, rfl, by simp, ?_⟩
  have : k = 0 ∨ k = 1 ∨ k = 2 ∨ k = 3 := by omega
  rcases this with rfl | rfl | rfl | rfl <;> simp [go_sem, C4.get]
theorem sumR4_nonneg (c : C4) : decide (0 ≤ sumR c.get 4) = validC c := by
  rw [sumR4]
  cases h : validC c
  · simp
  · have := (validC_iff c).1 h
    simp [C4.mass]; omega
set_option maxHeartbeats 400000 in
theorem cell_valid (c : C4) (w : World) : Calls Tryz.prog 73 #[.agg #[.int .i64 c.e, .int .i64 c.n, .int .i64 c.w, .int .i64 c.s]] w fun e w' => e = .returned (.bool (validC c)) ∧ Below w.heap.size w w' := by
  rw [← sumR4_nonneg]
  go_enter Tryz.func73, Tryz.ntmps73
  go_wp2_with (go_at_call 74; refine (cell_sum _ 4 _ c.get _ (by omega) (sl_box w c 92)).mono ?_; rintro e w' ⟨rfl, rfl⟩)
  go_ret
  exact ⟨rfl, below_alloc _ _⟩
def massR (c : C4) : Int := if validC c then c.mass else 0
def errR (b : Bool) (n : Int) : Int := if b then 0 else n
set_option maxHeartbeats 400000 in
theorem cell_mass (c : C4) (w : World) : Calls Tryz.prog 57 #[.agg #[.int .i64 c.e, .int .i64 c.n, .int .i64 c.w, .int .i64 c.s]] w
    fun e w' => e = .returned (.tuple #[.int .i64 (massR c), .int .i64 (errR (validC c) 1)]) ∧ Below w.heap.size w w' := by
  have hs := sumR4 c
  cases hv : validC c
  · go_enter Tryz.func57, Tryz.ntmps57
    go_wp2_with (go_at_call 73; refine (cell_valid c _).mono ?_; rintro e w1 ⟨rfl, hb1⟩)
    go_ret2
    exact ⟨by simp [massR, errR, hv], (below_alloc _ _).trans (hb1.mono (by simp))⟩
  · rw [hv] at hs
    go_enter Tryz.func57, Tryz.ntmps57
    go_wp2_with fail
    refine (cell_valid c _).mono ?_
    rintro e w1 ⟨rfl, hb1⟩
    have hsl := (sl_box w c 92).below hb1
    go_wp2_with (go_at_call 74; refine (cell_sum _ 4 _ c.get _ (by omega) hsl).mono ?_; rintro e w' ⟨rfl, rfl⟩)
    go_ret2
    exact ⟨by simp [massR, errR, hv], (below_alloc _ _).trans (hb1.mono (by simp))⟩
end Go.Proofs.YteabkcbajpjkoaaGreatDoor
/- Walks: grid.Valid and the reference's. Walks: the reference's grid validity. Walks: wall.Valid and the reference's. Walks: the reference's wall validity. -/
namespace Go.Proofs.YteabkcbajpjkoaaGreatDoor
open Go.RowKit
set_option linter.unusedVariables false
theorem mul_bd {a b : Int} (h1 : 1 ≤ a) (h2 : a ≤ 64) (h3 : 1 ≤ b) (h4 : b ≤ 64) : 1 ≤ a * b ∧ a * b ≤ 4096 := by
  refine ⟨?_, ?_⟩
  · have := Int.mul_le_mul h1 h3 (by omega) (by omega); omega
  · have := Int.mul_le_mul h2 h4 (by omega) (by omega); omega
theorem validG_false_w {wide high : Int} {n : Nat} {g : Nat → C4} (h : within wide 1 64 = false) : validG wide high n g = false := by
  rw [validG_no]; rw [within_no] at h; omega
set_option maxHeartbeats 1000000 in
theorem grid_valid (wide high : Int) (a : Option Addr) (n cap : Nat) (g : Nat → C4) (w : World) (hn : n ≤ 100000000) (H : Sc w a n g) : Calls Tryz.prog 35 #[.agg #[.int .i64 wide, .int .i64 high, .slice a n cap]] w
    fun e w' => e = .returned (.bool (validG wide high n g)) ∧ Below w.heap.size w w' := by
  cases hw : within wide 1 64
  · go_enter Tryz.func35, Tryz.ntmps35
    go_wp2_with (go_at_call 56; refine (grid_within _ _ _ _).mono ?_; rintro e w' ⟨rfl, rfl⟩)
    go_ret
    exact ⟨ret_bool (validG_false_w hw).symm, by (repeat' (first | with_reducible assumption | with_reducible exact Below.refl _ _ | with_reducible refine Below.drew ?_ | with_reducible refine below_drewN ?_ _ | with_reducible refine balloc ?_ _ | with_reducible refine bset ?_ ?_ _ | with_reducible refine Below.setCell ?_ ?_ _ | with_reducible refine Below.alloc ?_ ?_ _ | omega | (simp; done) | (simp; omega)))⟩
  cases hh : within high 1 64
  · go_enter Tryz.func35, Tryz.ntmps35
    go_wp2_with (go_at_call 56; refine (grid_within _ _ _ _).mono ?_; rintro e w' ⟨rfl, rfl⟩)
    go_ret
    refine ⟨ret_bool ?_, by (repeat' (first | with_reducible assumption | with_reducible exact Below.refl _ _ | with_reducible refine Below.drew ?_ | with_reducible refine below_drewN ?_ _ | with_reducible refine balloc ?_ _ | with_reducible refine bset ?_ ?_ _ | with_reducible refine Below.setCell ?_ ?_ _ | with_reducible refine Below.alloc ?_ ?_ _ | omega | (simp; done) | (simp; omega)))⟩
    symm; rw [validG_no]; rw [within_no] at hh; omega
  obtain ⟨h1, h2⟩ := (within_iff _ _ _).1 hw
  obtain ⟨h3, h4⟩ := (within_iff _ _ _).1 hh
  obtain ⟨m1, m2⟩ := mul_bd h1 h2 h3 h4
  by_cases hm : 1024 < wide * high
  · go_enter Tryz.func35, Tryz.ntmps35
    go_wp2_with (go_at_call 56; refine (grid_within _ _ _ _).mono ?_; rintro e w' ⟨rfl, rfl⟩)
    go_ret
    refine ⟨ret_bool ?_, by (repeat' (first | with_reducible assumption | with_reducible exact Below.refl _ _ | with_reducible refine Below.drew ?_ | with_reducible refine below_drewN ?_ _ | with_reducible refine balloc ?_ _ | with_reducible refine bset ?_ ?_ _ | with_reducible refine Below.setCell ?_ ?_ _ | with_reducible refine Below.alloc ?_ ?_ _ | omega | (simp; done) | (simp; omega)))⟩
    symm; rw [validG_no]; omega
  have hm' : decide (1024 < wide * high) = false := by simpa using hm
  cases he : ((n : Int) != wide * high)
  · have he' : (n : Int) = wide * high := by simpa using he
    have HE := hid he'; clear he'
    go_enter Tryz.func35, Tryz.ntmps35
    go_wp2_with (go_at_call 56; refine (grid_within _ _ _ _).mono ?_; rintro e w' ⟨rfl, rfl⟩)
    go_loopw [3, 40] (fun m i wr => ∃ k : Nat, k ≤ n ∧ i = .int .i64 k ∧ m = .int .i64 (massTo g k) ∧ (∀ j, j < k → validC (g j) = true) ∧ massTo g k ≤ 1000000000 ∧ Below w.heap.size w wr) (fun _ i _ => n - (intOf i).toNat)
    case atStart => exact ⟨0, Nat.zero_le _, rfl, rfl, fun j hj => by omega, by simp [massTo], by (repeat' (first | with_reducible assumption | with_reducible exact Below.refl _ _ | with_reducible refine Below.drew ?_ | with_reducible refine below_drewN ?_ _ | with_reducible refine balloc ?_ _ | with_reducible refine bset ?_ ?_ _ | with_reducible refine Below.setCell ?_ ?_ _ | with_reducible refine Below.alloc ?_ ?_ _ | omega | (simp; done) | (simp; omega)))⟩
    case round =>
      obtain ⟨k, hk, rfl, rfl, hok, hle, hB⟩ := hrel
      have h0 := massTo_nonneg g k hok
      by_cases hlt : k < n
      · obtain ⟨b, off, rfl, hb, c0, c1, c2, c3⟩ := (H.below hB) k hlt
        have HOK := hid hok; clear hok
        go_wp2_with fail
        refine (cell_mass _ _).mono ?_
        rintro e w1 ⟨rfl, hb1⟩
        have hB1 : Below w.heap.size w w1 := bvia (balloc hB _) hb1
        cases hv : validC (g k)
        · simp only [massR, errR, hv]
          go_wp2_with fail
          go_ret
          refine ⟨ret_bool ?_, hB1⟩
          symm; rw [validG_no]; intro h; have := h.2.2.2.2.2.2.1 k hlt; rw [hv] at this; cases this
        · simp only [massR, errR, hv]
          have b0 := (validC_iff _).1 hv
          have e1 : (g k).mass = (g k).e + (g k).n + (g k).w + (g k).s := rfl
          have b1 : 0 ≤ (g k).mass := by omega
          have b2 : (g k).mass ≤ 1000000000 := by omega
          clear e1 b0
          by_cases hs : 1000000000 < massTo g k + (g k).mass
          · go_wp2_with fail
            go_ret
            refine ⟨ret_bool ?_, hB1⟩
            symm; rw [validG_no]; intro h
            have hm1 := massTo_mono g (k := k + 1) (n := n) (by omega) h.2.2.2.2.2.2.1
            simp only [massTo] at hm1
            have := h.2.2.2.2.2.2.2
            omega
          · go_wp2_with fail
            go_roundw
            case rel => exact ⟨k + 1, by omega, by go_num, rfl, fun j hj => by
              rcases Nat.lt_succ_iff_lt_or_eq.1 hj with h' | rfl
              · exact HOK.out j h'
              · exact hv, by simp only [massTo]; omega, hB1⟩
            case measure => simp [intOf]; omega
      · go_wp2
        go_ret
        obtain rfl : k = n := (by omega)
        refine ⟨ret_bool ?_, hB⟩
        symm; rw [validG_iff]; exact ⟨h1, h2, h3, h4, by omega, HE.out, hok, hle⟩
  · have he' : ¬ ((n : Int) = wide * high) := by simpa using he
    have HE := hid he'; clear he'
    go_enter Tryz.func35, Tryz.ntmps35
    go_wp2_with (go_at_call 56; refine (grid_within _ _ _ _).mono ?_; rintro e w' ⟨rfl, rfl⟩)
    go_ret
    refine ⟨ret_bool ?_, by (repeat' (first | with_reducible assumption | with_reducible exact Below.refl _ _ | with_reducible refine Below.drew ?_ | with_reducible refine below_drewN ?_ _ | with_reducible refine balloc ?_ _ | with_reducible refine bset ?_ ?_ _ | with_reducible refine Below.setCell ?_ ?_ _ | with_reducible refine Below.alloc ?_ ?_ _ | omega | (simp; done) | (simp; omega)))⟩
    symm; rw [validG_no]; intro h; exact HE.out h.2.2.2.2.2.1
end Go.Proofs.YteabkcbajpjkoaaGreatDoor
/- Plain words: lists of ints that are made by append, and what a function leaves that returns one. Plain words: a row of ints of the call's own, known as a function, that may be written; how it is made. Plain words: a row of cells of the call's own, known as a function, that may be written; walks: make, append onto an empty slice, slices.Clone, of cells. -/
namespace Go.Proofs.YteabkcbajpjkoaaGreatDoor
open Go.RowKit
set_option linter.unusedVariables false
theorem infoI : (Tryz.prog.info? 3).map (fun i => (i.zero, i.size, i.bytes)) = some (some (.int .i64 0), 1, 8) := by kernel_rfl
def vInt (x : Int) : Value := .int .i64 x
theorem sl_of_own {w : World} {base : Nat} {v : Value} {xs : List Int} (h : w.ownsRow base 3 1 v xs.length (xs.map vInt)) :
    ∃ a c, v = .slice a xs.length c ∧ Sl w a xs.length (fun k => xs.getD k 0) := by
  rcases h.2 with ⟨rfl, h0⟩ | ⟨g, cap, cur, rfl, hb, hh, hn, hm, hc, ht⟩
  · exact ⟨none, 0, by rw [h0], fun k hk => by omega⟩
  · refine ⟨some ⟨g, 0, none⟩, cap, rfl, fun k hk => ⟨g, 0, rfl, ?_, ?_⟩⟩
    · rcases Nat.lt_or_ge g w.heap.size with h' | h'
      · exact h'
      · rw [Array.getElem?_eq_none h'] at hh; cases hh
    · rw [Nat.zero_add, cell_of_row w g k cur 3 (0, 0) hh]
      have h1 : (cur.toList.take (xs.length * 1))[k]? = (xs.map vInt)[k]? := by rw [ht]
      rw [List.getElem?_take, if_pos (by omega), List.getElem?_map, List.getElem?_eq_getElem hk] at h1
      show cur[k]? = some (.int .i64 (xs.getD k 0))
      rw [List.getD_eq_getElem?_getD, List.getElem?_eq_getElem hk]
      simpa [vInt] using h1
theorem own_base {w : World} {base : Nat} {e : TypeId} {size n : Nat} {v : Value} {xs : List Value} (h : w.ownsRow base e size v n xs) : ∀ g, v.ownBlock = some g → base ≤ g := fun g hg => by
  rcases h.2 with ⟨rfl, _⟩ | ⟨g', cap, cur, rfl, hb, _⟩
  · cases hg
  · injection hg with hg; subst hg; exact hb
theorem own_mono {w : World} {base base' : Nat} {e : TypeId} {size n : Nat} {v : Value} {xs : List Value} (h : w.ownsRow base e size v n xs) (hb : base' ≤ base) : w.ownsRow base' e size v n xs := by
  refine ⟨h.1, h.2.imp id ?_⟩
  rintro ⟨g, cap, cur, h1, h2, h3⟩
  exact ⟨g, cap, cur, h1, by omega, h3⟩
theorem own_snoc {w : World} {base : Nat} {v : Value} {xs : List Int} {k : Int} (h : w.ownsRow base 3 1 v (xs.length + 1) (xs.map vInt ++ [.int .i64 k])) :
    w.ownsRow base 3 1 v (xs ++ [k]).length ((xs ++ [k]).map vInt) := by
  simpa [vInt] using h
theorem own_below {w w' : World} {base : Nat} {e : TypeId} {size n : Nat} {v : Value} {xs : List Value} (h : w.ownsRow base e size v n xs) (hb : Below w.heap.size w w') : w'.ownsRow base e size v n xs := by
  refine ⟨h.1, h.2.imp id ?_⟩
  rintro ⟨g, cap, cur, h1, h2, h3, h4⟩
  refine ⟨g, cap, cur, h1, h2, ?_, h4⟩
  rw [hb.block g ?_]
  · exact h3
  · rcases Nat.lt_or_ge g w.heap.size with h' | h'
    · exact h'
    · rw [Array.getElem?_eq_none h'] at h3; cases h3
theorem Bx.grown {W W' : World} {b : Nat} {vs : Array Value} {row : Option Nat} (h : Bx W b vs) (hg : W.grownBy W' row) (hne : some b ≠ row) : Bx W' b vs := by
  have e := hg.block b h.lt hne
  exact ⟨by have := hg.size; have := h.lt; omega, fun i v hi => (World.cell?_of_block e).trans (h.2 i v hi), fun i => (World.frozen?_of_block e).trans (h.3 i)⟩
theorem own_lt {w : World} {base : Nat} {e : TypeId} {size n : Nat} {v : Value} {xs : List Value} (h : w.ownsRow base e size v n xs) : ∀ g, v.ownBlock = some g → g < w.heap.size := fun g hg => by
  rcases h.2 with ⟨rfl, _⟩ | ⟨g', cap, cur, rfl, hb, hh, _⟩
  · cases hg
  · injection hg with hg
    subst hg
    show g' < _
    rcases Nat.lt_or_ge g' w.heap.size with h' | h'
    · exact h'
    · rw [Array.getElem?_eq_none h'] at hh; cases hh
end Go.Proofs.YteabkcbajpjkoaaGreatDoor
namespace Go.Proofs.YteabkcbajpjkoaaGreatDoor
open Go.RowKit
set_option linter.unusedVariables false
def upd (f : Nat → Int) (i : Nat) (v : Int) : Nat → Int := fun k => if k = i then v else f k
structure Ro (W : World) (b n : Nat) (f : Nat → Int) : Prop where
  lt : b < W.heap.size
  cells : ∀ k, k < n → W.cell? ⟨b, k, none⟩ = some (.int .i64 (f k))
  free : ∀ i, W.frozen? ⟨b, i, none⟩ = false
theorem Ro.below {W W' : World} {b n : Nat} {f : Nat → Int} (h : Ro W b n f) (hb : Below W.heap.size W W') : Ro W' b n f :=
  ⟨by have := hb.size; have := h.1; omega, fun k hk => (bcell hb _ _ h.1).trans (h.2 k hk), fun i => (bfrozen hb _ _ h.1).trans (h.3 i)⟩
theorem Ro.alloc {W : World} {b n : Nat} {f : Nat → Int} (h : Ro W b n f) (o : Obj) : Ro (W.alloc o) b n f := h.below ((Below.refl _ W).alloc (Nat.le_refl _) o)
theorem Ro.drew {W : World} {b n : Nat} {f : Nat → Int} (h : Ro W b n f) : Ro W.drew b n f := ⟨h.1, h.2, h.3⟩
theorem Ro.drewN {W : World} {b n : Nat} {f : Nat → Int} (h : Ro W b n f) (k : Nat) : Ro (W.drewN k) b n f := ⟨h.1, h.2, h.3⟩
theorem Ro.far {W : World} {b n : Nat} {f : Nat → Int} (h : Ro W b n f) {p : Addr} (hp : p.block ≠ b) (u : Value) : Ro (W.setCell p u) b n f :=
  ⟨by simpa [World.setCell] using h.1, fun k hk => by rw [World.cell?_setCell_other _ _ _ _ (fun e => hp (by rw [e]))]; exact h.2 k hk, fun i => by rw [World.frozen?_setCell]; exact h.3 i⟩
theorem Ro.set_ {W : World} {b n : Nat} {f : Nat → Int} (h : Ro W b n f) (j : Nat) (v : Int) : Ro (W.setCell ⟨b, j, none⟩ (.int .i64 v)) b n (upd f j v) := by
  refine ⟨by simpa [World.setCell] using h.1, fun k hk => ?_, fun i => by rw [World.frozen?_setCell]; exact h.3 i⟩
  by_cases e : k = j
  · subst e
    rw [World.cell?_setCell_same' _ _ _ (by rw [h.2 k hk]; rfl)]
    simp [upd]
  · rw [World.cell?_setCell_other _ _ _ _ (fun e' => e (by injection e' with _ e2 _; exact e2.symm)), h.2 k hk]
    simp [upd, e]
theorem Ro.congr {W : World} {b n : Nat} {f g : Nat → Int} (h : Ro W b n f) (e : ∀ k, k < n → f k = g k) : Ro W b n g := ⟨h.1, fun k hk => by rw [h.2 k hk, e k hk], h.3⟩
/-- the first k places as F says, 0 behind them -/
def rowTo (F : Nat → Int) (k : Nat) : Nat → Int := fun j => if j < k then F j else 0
theorem rowTo_zero (F : Nat → Int) : rowTo F 0 = fun _ => 0 := by funext j; simp [rowTo]
theorem rowTo_succ (F : Nat → Int) (k : Nat) : rowTo F (k + 1) = upd (rowTo F k) k (F k) := by
  funext j; unfold upd rowTo
  by_cases e : j = k
  · subst e; simp
  · simp only [if_neg e, show (j < k + 1) = (j < k) from propext ⟨by omega, by omega⟩]
end Go.Proofs.YteabkcbajpjkoaaGreatDoor
namespace Go.Proofs.YteabkcbajpjkoaaGreatDoor
open Go Go.RowKit
set_option linter.unusedVariables false
/-- the numbers of a row of cells, one by one -/
def flatC (g : Nat → C4) (j : Nat) : Int := (g (j / 4)).get (j % 4)
theorem flatC_at (g : Nat → C4) (i d : Nat) (hd : d < 4) : flatC g (i * 4 + d) = (g i).get d := by
  unfold flatC; rw [show (i * 4 + d) / 4 = i from by omega, show (i * 4 + d) % 4 = d from by omega]
theorem flatC_at0 (g : Nat → C4) (i : Nat) : flatC g (i * 4) = (g i).e := flatC_at g i 0 (by omega)
theorem flatC_at1 (g : Nat → C4) (i : Nat) : flatC g (i * 4 + 1) = (g i).n := flatC_at g i 1 (by omega)
theorem flatC_at2 (g : Nat → C4) (i : Nat) : flatC g (i * 4 + 2) = (g i).w := flatC_at g i 2 (by omega)
theorem flatC_at3 (g : Nat → C4) (i : Nat) : flatC g (i * 4 + 3) = (g i).s := flatC_at g i 3 (by omega)
theorem Ro.scell {W : World} {b n : Nat} {g : Nat → C4} (h : Ro W b (n * 4) (flatC g)) {i : Nat} (hi : i < n) :
    W.cell? ⟨b, i * 4, none⟩ = some (.int .i64 (g i).e) ∧ W.cell? ⟨b, i * 4 + 1, none⟩ = some (.int .i64 (g i).n) ∧ W.cell? ⟨b, i * 4 + 2, none⟩ = some (.int .i64 (g i).w) ∧ W.cell? ⟨b, i * 4 + 3, none⟩ = some (.int .i64 (g i).s) := by
  have h0 := h.2 (i * 4) (by omega); have h1 := h.2 (i * 4 + 1) (by omega); have h2 := h.2 (i * 4 + 2) (by omega); have h3 := h.2 (i * 4 + 3) (by omega)
  rw [flatC_at0] at h0; rw [flatC_at1] at h1; rw [flatC_at2] at h2; rw [flatC_at3] at h3
  exact ⟨h0, h1, h2, h3⟩
theorem Ro.sc {W : World} {b n : Nat} {g : Nat → C4} (h : Ro W b (n * 4) (flatC g)) : Sc W (some ⟨b, 0, none⟩) n g := fun k hk => by
  obtain ⟨h0, h1, h2, h3⟩ := h.scell hk
  exact ⟨b, 0, rfl, h.1, by rw [Nat.zero_add]; exact h0, by rw [Nat.zero_add]; exact h1, by rw [Nat.zero_add]; exact h2, by rw [Nat.zero_add]; exact h3⟩
/-! ### rows of cells as lists -/
theorem infoC : (Tryz.prog.info? 92).map (fun i => (i.zero, i.size, i.bytes)) = some (some (.agg #[.int .i64 0, .int .i64 0, .int .i64 0, .int .i64 0]), 4, 32) := by kernel_rfl
def ccells (n : Nat) : Array Value := madeCells (Value.agg #[.int .i64 0, .int .i64 0, .int .i64 0, .int .i64 0]).cells (n * 4)
theorem zero4 : (Value.agg #[.int .i64 0, .int .i64 0, .int .i64 0, .int .i64 0]).cells = #[.int .i64 0, .int .i64 0, .int .i64 0, .int .i64 0] := by kernel_rfl
theorem ccells_get (n k : Nat) (hk : k < n * 4) : (ccells n)[k]? = some (.int .i64 0) := by
  have hm : k % 4 < 4 := Nat.mod_lt _ (by omega)
  simp only [ccells, madeCells, zero4]
  simp [hk]
  rcases (by omega : k % 4 = 0 ∨ k % 4 = 1 ∨ k % 4 = 2 ∨ k % 4 = 3) with h | h | h | h <;> simp [h]
theorem mk_cells (n : Nat) (l : Int) (hl : l = n) (hn : n ≤ 100000000) (w : World) :
    (Instr.makeSlice 34 (.int .i64 l) (.int .i64 l)).run Tryz.prog w = .ok (.slice (some ⟨w.heap.size, 0, none⟩) n n) (w.alloc (.cells (ccells n) 92)) := by
  subst hl
  obtain ⟨i0, hi, hz0, hz1, hz2⟩ := info_parts infoC
  have hr := run_make (P := Tryz.prog) w 34 92 i0 _ Tryz.underlying34 hi hz0 .i64 .i64 n n (by omega) (by omega) (by rw [hz2]; omega) (by omega)
  simp only [Int.toNat_natCast, hz1] at hr
  exact hr
theorem roC_made (w : World) (n : Nat) : Ro (w.alloc (.cells (ccells n) 92)) w.heap.size (n * 4) (flatC fun _ => C4.zero) :=
  ⟨by simp, fun k hk => by
    rw [cell_of_row (w.alloc (.cells (ccells n) 92)) w.heap.size k (ccells n) 92 (0, 0) (Array.getElem?_push_size ..), ccells_get n k hk]
    have hm : k % 4 < 4 := Nat.mod_lt _ (by omega)
    have : flatC (fun _ => C4.zero) k = 0 := by
      simp only [flatC, C4.zero]
      rcases (by omega : k % 4 = 0 ∨ k % 4 = 1 ∨ k % 4 = 2 ∨ k % 4 = 3) with h | h | h | h <;> simp [h, C4.get]
    rw [this], fun i => by simp [go_sem]⟩
end Go.Proofs.YteabkcbajpjkoaaGreatDoor
/- Walks: lists of ints that are made by append: the reference's own; wall.Cells, ref.Cells. Walks: wall.Cells and the reference's. Walks: the reference's Bodies and wall.Bodies. -/
namespace Go.Proofs.YteabkcbajpjkoaaGreatDoor
open Go.RowKit
set_option linter.unusedVariables false
/-- the places below n at which B is the body -/
def ownL (B : Nat → Int) (body : Int) : Nat → List Int
  | 0 => []
  | k + 1 => if B k = body then ownL B body k ++ [(k : Int)] else ownL B body k
theorem ownL_length (B : Nat → Int) (body : Int) : ∀ n, (ownL B body n).length ≤ n
  | 0 => by simp [ownL]
  | k + 1 => by have := ownL_length B body k; simp only [ownL]; split <;> simp <;> omega
end Go.Proofs.YteabkcbajpjkoaaGreatDoor
