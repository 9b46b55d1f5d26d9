/- Plain words of this seat's proofs: what a slice of ints or of cells reads as in a world, and how that is kept; small laws on numbers. Plain words: boxes that are laid and written. -/
import Derived.Test.YtmmjaobpoiofdaaGreatProg
import Derived.WalkKit
import Derived.WalkSpells
import Derived.WalkLawsBesides
import Derived.Below
import Derived.BigQuiet
import Derived.Deep.QuietTactic
import Derived.Deep.RegionHeld3
import Derived.StillTailTactics
namespace Go.Proofs.YtmmjaobpoiofdaaGreat
open Go.RowKit
theorem hid {p : Prop} (h : p) : Hid p := h
/-- a cell: what goes east, north, west and south -/
structure C4 where
  e : Int
  n : Int
  w : Int
  s : Int
def C4.get (c : C4) : Nat → Int | 0 => c.e | 1 => c.n | 2 => c.w | _ => c.s
def C4.zero : C4 := ⟨0, 0, 0, 0⟩
def C4.val (c : C4) : Value := .agg #[.int .i64 c.e, .int .i64 c.n, .int .i64 c.w, .int .i64 c.s]
theorem C4.ext' {c d : C4} (h : ∀ k, k < 4 → c.get k = d.get k) : c = d := by
  have h0 := h 0 (by omega); have h1 := h 1 (by omega); have h2 := h 2 (by omega); have h3 := h 3 (by omega)
  cases c; cases d; simp_all [C4.get]
/-- a slice of ints: a letter for its address, so that nil is let in -/
def Sl (w : World) (a : Option Addr) (n : Nat) (f : Nat → Int) : Prop :=
  ∀ k, k < n → ∃ b off, a = some ⟨b, off, none⟩ ∧ b < w.heap.size ∧ w.cell? ⟨b, off + k, none⟩ = some (.int .i64 (f k))
/-- a slice of cells -/
def Sc (w : World) (a : Option Addr) (n : Nat) (g : Nat → C4) : Prop :=
  ∀ k, k < n → ∃ b off, a = some ⟨b, off, none⟩ ∧ b < w.heap.size ∧ w.cell? ⟨b, off + k * 4, none⟩ = some (.int .i64 (g k).e) ∧
    w.cell? ⟨b, off + k * 4 + 1, none⟩ = some (.int .i64 (g k).n) ∧ w.cell? ⟨b, off + k * 4 + 2, none⟩ = some (.int .i64 (g k).w) ∧ w.cell? ⟨b, off + k * 4 + 3, none⟩ = some (.int .i64 (g k).s)
theorem Sl.keep {w w' : World} {a : Option Addr} {n : Nat} {f : Nat → Int} (h : Sl w a n f) (hs : w.heap.size ≤ w'.heap.size)
    (hk : ∀ b o, b < w.heap.size → w'.cell? ⟨b, o, none⟩ = w.cell? ⟨b, o, none⟩) : Sl w' a n f := fun k hkn => by
  obtain ⟨b, off, h1, h2, h3⟩ := h k hkn
  exact ⟨b, off, h1, by omega, (hk _ _ h2).trans h3⟩
theorem Sc.keep {w w' : World} {a : Option Addr} {n : Nat} {g : Nat → C4} (h : Sc w a n g) (hs : w.heap.size ≤ w'.heap.size)
    (hk : ∀ b o, b < w.heap.size → w'.cell? ⟨b, o, none⟩ = w.cell? ⟨b, o, none⟩) : Sc w' a n g := fun k hkn => by
  obtain ⟨b, off, h1, h2, h3, h4, h5, h6⟩ := h k hkn
  exact ⟨b, off, h1, by omega, (hk _ _ h2).trans h3, (hk _ _ h2).trans h4, (hk _ _ h2).trans h5, (hk _ _ h2).trans h6⟩
theorem bcell {B : Nat} {w w' : World} (hb : Below B w w') : ∀ b o, b < B → w'.cell? ⟨b, o, none⟩ = w.cell? ⟨b, o, none⟩ := fun b o h => hb.cell (p := ⟨b, o, none⟩) h
theorem bfrozen {B : Nat} {w w' : World} (hb : Below B w w') : ∀ b o, b < B → w'.frozen? ⟨b, o, none⟩ = w.frozen? ⟨b, o, none⟩ := fun b o h => hb.frozen (p := ⟨b, o, none⟩) h
theorem Sl.below {w w' : World} {a : Option Addr} {n : Nat} {f : Nat → Int} (h : Sl w a n f) (hb : Below w.heap.size w w') : Sl w' a n f := h.keep hb.size (bcell hb)
theorem Sc.below {w w' : World} {a : Option Addr} {n : Nat} {g : Nat → C4} (h : Sc w a n g) (hb : Below w.heap.size w w') : Sc w' a n g := h.keep hb.size (bcell hb)
theorem Sl.alloc {w : World} {a : Option Addr} {n : Nat} {f : Nat → Int} (h : Sl w a n f) (o : Obj) : Sl (w.alloc o) a n f := h.below ((Below.refl _ w).alloc (Nat.le_refl _) o)
theorem Sc.alloc {w : World} {a : Option Addr} {n : Nat} {g : Nat → C4} (h : Sc w a n g) (o : Obj) : Sc (w.alloc o) a n g := h.below ((Below.refl _ w).alloc (Nat.le_refl _) o)
theorem Sl.drew {w : World} {a : Option Addr} {n : Nat} {f : Nat → Int} (h : Sl w a n f) : Sl w.drew a n f := h
theorem Sc.drew {w : World} {a : Option Addr} {n : Nat} {g : Nat → C4} (h : Sc w a n g) : Sc w.drew a n g := h
theorem below_drewN {B : Nat} {a w : World} (h : Below B a w) (n : Nat) : Below B a (w.drewN n) := ⟨h.os, h.tape, h.output, h.size, h.block⟩
theorem balloc {w W : World} (h : Below w.heap.size w W) (o : Obj) : Below w.heap.size w (W.alloc o) := h.alloc h.size o
theorem bset {w W : World} (h : Below w.heap.size w W) {p : Addr} (hp : w.heap.size ≤ p.block) (u : Value) : Below w.heap.size w (W.setCell p u) := h.setCell hp u
/-- behind a call: the caller's world is kept too -/
theorem bvia {w W w1 : World} (h : Below w.heap.size w W) (hb : Below W.heap.size W w1) : Below w.heap.size w w1 := h.trans (hb.mono h.size)
theorem Sl.drewN {w : World} {a : Option Addr} {n : Nat} {f : Nat → Int} (h : Sl w a n f) (k : Nat) : Sl (w.drewN k) a n f := h
theorem Sc.drewN {w : World} {a : Option Addr} {n : Nat} {g : Nat → C4} (h : Sc w a n g) (k : Nat) : Sc (w.drewN k) a n g := h
theorem cell_new (w : World) (cs : Array Value) (t : TypeId) (k : Nat) (v : Value) (h : cs[k]? = some v) : (w.alloc (.cells cs t)).cell? ⟨w.heap.size, k, none⟩ = some v := by
  rw [cell_of_row (w.alloc (.cells cs t)) w.heap.size k cs t (0, 0) (Array.getElem?_push_size ..), h]
/-- a block that is just these cells so far (a box), none frozen -/
structure Bx (W : World) (b : Nat) (vs : Array Value) : Prop where
  lt : b < W.heap.size
  cells : ∀ i v, vs[i]? = some v → W.cell? ⟨b, i, none⟩ = some v
  free : ∀ i, W.frozen? ⟨b, i, none⟩ = false
theorem Bx.new (w : World) (vs : Array Value) (t : TypeId) : Bx (w.alloc (.cells vs t)) w.heap.size vs :=
  ⟨by simp, fun i v h => cell_new w vs t i v h, fun i => by simp [go_sem]⟩
theorem Bx.below {W W' : World} {b : Nat} {vs : Array Value} (h : Bx W b vs) (hb : Below W.heap.size W W') : Bx W' b vs :=
  ⟨by have := hb.size; have := h.1; omega, fun i v hi => (bcell hb _ _ h.1).trans (h.2 i v hi), fun i => (bfrozen hb _ _ h.1).trans (h.3 i)⟩
theorem Bx.alloc {W : World} {b : Nat} {vs : Array Value} (h : Bx W b vs) (o : Obj) : Bx (W.alloc o) b vs := h.below ((Below.refl _ W).alloc (Nat.le_refl _) o)
theorem Bx.drew {W : World} {b : Nat} {vs : Array Value} (h : Bx W b vs) : Bx W.drew b vs := ⟨h.1, h.2, h.3⟩
theorem Bx.drewN {W : World} {b : Nat} {vs : Array Value} (h : Bx W b vs) (k : Nat) : Bx (W.drewN k) b vs := ⟨h.1, h.2, h.3⟩
theorem Bx.at_ {W : World} {b : Nat} {vs : Array Value} (h : Bx W b vs) (i : Nat) {v : Value} (hi : vs[i]? = some v) : W.cell? ⟨b, i, none⟩ = some v := h.2 i v hi
theorem Bx.far {W : World} {b : Nat} {vs : Array Value} (h : Bx W b vs) {p : Addr} (hp : p.block ≠ b) (u : Value) : Bx (W.setCell p u) b vs :=
  ⟨by simpa [World.setCell] using h.1, fun i v hi => by rw [World.cell?_setCell_other _ _ _ _ (fun e => hp (by rw [e]))]; exact h.2 i v hi, fun i => by rw [World.frozen?_setCell]; exact h.3 i⟩
theorem Bx.set_ {W : World} {b : Nat} {vs : Array Value} (h : Bx W b vs) (j : Nat) (hj : j < vs.size) (u : Value) : Bx (W.setCell ⟨b, j, none⟩ u) b (vs.setIfInBounds j u) := by
  refine ⟨by simpa [World.setCell] using h.1, fun i v hi => ?_, fun i => by rw [World.frozen?_setCell]; exact h.3 i⟩
  by_cases e : i = j
  · subst e
    have h1 := h.2 i vs[i] (by simp [hj])
    simp [hj] at hi
    rw [World.cell?_setCell_same' _ _ _ (by rw [h1]; rfl), hi]
  · rw [World.cell?_setCell_other _ _ _ _ (fun e' => e (by injection e' with _ e2 _; exact e2.symm))]
    refine h.2 i v ?_
    rwa [Array.getElem?_setIfInBounds_ne (fun e' => e e'.symm)] at hi
theorem quiet_left {P : Program} {f : FuncId} {args : Array Value} {w : World} {n : Nat} {v : Value}
    (h : Calls P f args (w.drewN n) fun e w' => e = .returned v ∧ w.drewN n = w') : Calls P f args (w.drewN n) fun e w'' => e = .returned v ∧ ∃ m, w'' = w.drewN m :=
  h.mono fun _ _ ⟨he, hm⟩ => ⟨he, n, hm.symm⟩
theorem ret_int {k : IntKind} {a b : Int} (h : a = b) : Ending.returned (.int k a) = .returned (.int k b) := by rw [h]
theorem ret_bool {a b : Bool} (h : a = b) : Ending.returned (.bool a) = .returned (.bool b) := by rw [h]
theorem below_alloc (w : World) (o : Obj) : Below w.heap.size w (w.alloc o) := (Below.refl _ w).alloc (Nat.le_refl _) o
/-! ### The plain functions -/
def within (n lo hi : Int) : Bool := decide (lo ≤ n) && decide (n ≤ hi)
theorem within_iff (n lo hi : Int) : within n lo hi = true ↔ lo ≤ n ∧ n ≤ hi := by simp [within]
theorem within_no (n lo hi : Int) : within n lo hi = false ↔ ¬ (lo ≤ n ∧ n ≤ hi) := by rw [← within_iff]; simp
def sumTo (f : Nat → Int) : Nat → Int | 0 => 0 | k + 1 => sumTo f k + f k
/-- what cell.sum asks of the first k numbers -/
def okTo (f : Nat → Int) (k : Nat) : Prop := ∀ j, j < k → 0 ≤ f j ∧ sumTo f (j + 1) ≤ 1000000000
theorem sumTo_nonneg (f : Nat → Int) : ∀ k, okTo f k → 0 ≤ sumTo f k
  | 0, _ => by simp [sumTo]
  | k + 1, h => by have := sumTo_nonneg f k (fun j hj => h j (by omega)); have := h k (by omega); simp [sumTo]; omega
theorem sumTo_le (f : Nat → Int) : ∀ k, okTo f k → sumTo f k ≤ 1000000000
  | 0, _ => by simp [sumTo]
  | k + 1, h => (h k (by omega)).2
theorem okTo_succ {f : Nat → Int} {k : Nat} (h : okTo f k) (h0 : 0 ≤ f k) (h1 : sumTo f k + f k ≤ 1000000000) : okTo f (k + 1) := fun j hj => by
  rcases Nat.lt_succ_iff_lt_or_eq.1 hj with h' | rfl
  · exact h j h'
  · exact ⟨h0, by simpa [sumTo] using h1⟩
instance (f : Nat → Int) (k : Nat) : Decidable (okTo f k) := inferInstanceAs (Decidable (∀ j, j < k → _))
def sumR (f : Nat → Int) (n : Nat) : Int := if okTo f n then sumTo f n else -1
theorem sumR_no {f : Nat → Int} {n k : Nat} (hk : k < n) (h : ¬ (0 ≤ f k ∧ sumTo f k + f k ≤ 1000000000)) : sumR f n = -1 := by
  unfold sumR; rw [if_neg]; intro hh; have := hh k hk; simp only [sumTo] at this; omega
def C4.mass (c : C4) : Int := c.e + c.n + c.w + c.s
def validC (c : C4) : Bool := decide (0 ≤ c.e ∧ 0 ≤ c.n ∧ 0 ≤ c.w ∧ 0 ≤ c.s ∧ c.e + c.n + c.w + c.s ≤ 1000000000)
theorem validC_iff (c : C4) : validC c = true ↔ (0 ≤ c.e ∧ 0 ≤ c.n ∧ 0 ≤ c.w ∧ 0 ≤ c.s ∧ c.e + c.n + c.w + c.s ≤ 1000000000) := by simp [validC]
theorem sumTo4 (c : C4) : sumTo c.get 4 = c.e + c.n + c.w + c.s := by simp [sumTo, C4.get]
theorem okTo4 (c : C4) : okTo c.get 4 ↔ validC c = true := by
  rw [validC_iff]
  constructor
  · intro h
    have h0 := h 0 (by omega); have h1 := h 1 (by omega); have h2 := h 2 (by omega); have h3 := h 3 (by omega)
    simp [sumTo, C4.get] at h0 h1 h2 h3
    omega
  · intro h j hj
    have : j = 0 ∨ j = 1 ∨ j = 2 ∨ j = 3 := by omega
    rcases this with rfl | rfl | rfl | rfl <;> simp [sumTo, C4.get] <;> omega
theorem sumR4 (c : C4) : sumR c.get 4 = if validC c then c.mass else -1 := by
  unfold sumR; simp only [okTo4, sumTo4, C4.mass]
def massTo (g : Nat → C4) : Nat → Int | 0 => 0 | k + 1 => massTo g k + (g k).mass
/-- a valid grid -/
def validG (wide high : Int) (n : Nat) (g : Nat → C4) : Bool :=
  decide (1 ≤ wide ∧ wide ≤ 64 ∧ 1 ≤ high ∧ high ≤ 64 ∧ wide * high ≤ 1024 ∧ (n : Int) = wide * high ∧ (∀ k, k < n → validC (g k) = true) ∧ massTo g n ≤ 1000000000)
theorem validG_iff (wide high : Int) (n : Nat) (g : Nat → C4) : validG wide high n g = true ↔
  (1 ≤ wide ∧ wide ≤ 64 ∧ 1 ≤ high ∧ high ≤ 64 ∧ wide * high ≤ 1024 ∧ (n : Int) = wide * high ∧ (∀ k, k < n → validC (g k) = true) ∧ massTo g n ≤ 1000000000) := by simp [validG]
theorem validG_no (wide high : Int) (n : Nat) (g : Nat → C4) : validG wide high n g = false ↔
  ¬ (1 ≤ wide ∧ wide ≤ 64 ∧ 1 ≤ high ∧ high ≤ 64 ∧ wide * high ≤ 1024 ∧ (n : Int) = wide * high ∧ (∀ k, k < n → validC (g k) = true) ∧ massTo g n ≤ 1000000000) := by rw [← validG_iff]; simp
theorem massTo_nonneg (g : Nat → C4) : ∀ k, (∀ j, j < k → validC (g j) = true) → 0 ≤ massTo g k
  | 0, _ => by simp [massTo]
  | k + 1, h => by
    have := massTo_nonneg g k (fun j hj => h j (by omega))
    have h2 := (validC_iff _).1 (h k (by omega))
    simp only [massTo, C4.mass]; omega
theorem massTo_le (g : Nat → C4) : ∀ k, (∀ j, j < k → validC (g j) = true) → massTo g k ≤ k * 1000000000
  | 0, _ => by simp [massTo]
  | k + 1, h => by
    have := massTo_le g k (fun j hj => h j (by omega))
    have h2 := (validC_iff _).1 (h k (by omega))
    simp only [massTo, C4.mass]; omega
theorem massTo_mono (g : Nat → C4) {k n : Nat} (hkn : k ≤ n) (h : ∀ j, j < n → validC (g j) = true) : massTo g k ≤ massTo g n := by
  induction n with
  | zero => rw [show k = 0 from by omega]; exact Int.le_refl _
  | succ n ih =>
    rcases Nat.lt_or_ge k (n + 1) with h' | h'
    · have h1 := ih (by omega) (fun j hj => h j (by omega))
      have h2 := (validC_iff _).1 (h n (by omega))
      simp only [massTo, C4.mass]; omega
    · obtain rfl : k = n + 1 := by omega
      exact Int.le_refl _
end Go.Proofs.YtmmjaobpoiofdaaGreat
namespace Go.Proofs.YtmmjaobpoiofdaaGreat
open Go.RowKit
set_option linter.unusedVariables false
theorem Bx.newE {W : World} {b : Nat} (h : b = W.heap.size) (vs : Array Value) (t : TypeId) : Bx (W.alloc (.cells vs t)) b vs := by
  rw [h]
  exact Bx.new W vs t
theorem Bx.far2 {W : World} {b : Nat} {vs : Array Value} {p : Addr} (hp : p.block ≠ b) (h : Bx W b vs) (u : Value) : Bx (W.setCell p u) b vs := h.far hp u
theorem Bx.two {W : World} {b : Nat} {x0 x1 y0 y1 : Value} (h : Bx W b #[x0, x1]) :
    Bx ((W.setCell ⟨b, 0, none⟩ y0).setCell ⟨b, 1, none⟩ y1) b #[y0, y1] :=
  (h.set_ 0 (by simp) y0).set_ 1 (by simp) y1
theorem Bx.four {W : World} {b : Nat} {y0 y1 y2 y3 : Value} (h : Bx W b #[.int .i64 0, .int .i64 0, .int .i64 0, .int .i64 0]) :
    Bx ((((W.setCell ⟨b, 0, none⟩ y0).setCell ⟨b, 1, none⟩ y1).setCell ⟨b, 2, none⟩ y2).setCell ⟨b, 3, none⟩ y3) b #[y0, y1, y2, y3] :=
  (((h.set_ 0 (by simp) y0).set_ 1 (by simp) y1).set_ 2 (by simp) y2).set_ 3 (by simp) y3
end Go.Proofs.YtmmjaobpoiofdaaGreat
