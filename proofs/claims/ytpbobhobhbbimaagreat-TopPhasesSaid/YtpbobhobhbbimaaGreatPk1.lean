/- Plain words of this seat's proofs: what a slice of ints or of cells reads as in a world, and how that is kept; small laws on numbers. Plain words: boxes that are laid and written. -/
import Derived.Test.YtpbobhobhbbimaaGreatProg
import Derived.WalkKit
import Derived.WalkSpells
import Derived.WalkLawsBesides
import Derived.Below
import Derived.BigQuiet
import Derived.Deep.QuietTactic
import Derived.Deep.RegionHeld3
import Derived.StillTailTactics
namespace Go.Proofs.YtpbobhobhbbimaaGreat
open Go.RowKit
theorem hid {p : Prop} (h : p) : Hid p := h
/-- a cell: what goes east, north, west and south -/
structure C4 where
  e : Int
  n : Int
  w : Int
  s : Int
def C4.get (c : C4) : Nat → Int | 0 => c.e | 1 => c.n | 2 => c.w | _ => c.s
def C4.zero : C4 := ⟨0, 0, 0, 0⟩
def C4.val (c : C4) : Value := .agg #[.int .i64 c.e, .int .i64 c.n, .int .i64 c.w, .int .i64 c.s]
theorem C4.ext' {c d : C4} (h : ∀ k, k < 4 → c.get k = d.get k) : c = d := by
  have h0 := h 0 (by omega); have h1 := h 1 (by omega); have h2 := h 2 (by omega); have h3 := h 3 (by omega)
  cases c; cases d; simp_all [C4.get]
/-- a slice of ints: a letter for its address, so that nil is let in -/
def Sl (w : World) (a : Option Addr) (n : Nat) (f : Nat → Int) : Prop :=
  ∀ k, k < n → ∃ b off, a = some ⟨b, off, none⟩ ∧ b < w.heap.size ∧ w.cell? ⟨b, off + k, none⟩ = some (.int .i64 (f k))
/-- a slice of cells -/
def Sc (w : World) (a : Option Addr) (n : Nat) (g : Nat → C4) : Prop :=
  ∀ k, k < n → ∃ b off, a = some ⟨b, off, none⟩ ∧ b < w.heap.size ∧ w.cell? ⟨b, off + k * 4, none⟩ = some (.int .i64 (g k).e) ∧
    w.cell? ⟨b, off + k * 4 + 1, none⟩ = some (.int .i64 (g k).n) ∧ w.cell? ⟨b, off + k * 4 + 2, none⟩ = some (.int .i64 (g k).w) ∧ w.cell? ⟨b, off + k * 4 + 3, none⟩ = some (.int .i64 (g k).s)
theorem Sl.keep {w w' : World} {a : Option Addr} {n : Nat} {f : Nat → Int} (h : Sl w a n f) (hs : w.heap.size ≤ w'.heap.size)
    (hk : ∀ b o, b < w.heap.size → w'.cell? ⟨b, o, none⟩ = w.cell? ⟨b, o, none⟩) : Sl w' a n f := fun k hkn => by
  obtain ⟨b, off, h1, h2, h3⟩ := h k hkn
  exact ⟨b, off, h1, by omega, (hk _ _ h2).trans h3⟩
theorem Sc.keep {w w' : World} {a : Option Addr} {n : Nat} {g : Nat → C4} (h : Sc w a n g) (hs : w.heap.size ≤ w'.heap.size)
    (hk : ∀ b o, b < w.heap.size → w'.cell? ⟨b, o, none⟩ = w.cell? ⟨b, o, none⟩) : Sc w' a n g := fun k hkn => by
  obtain ⟨b, off, h1, h2, h3, h4, h5, h6⟩ := h k hkn
  exact ⟨b, off, h1, by omega, (hk _ _ h2).trans h3, (hk _ _ h2).trans h4, (hk _ _ h2).trans h5, (hk _ _ h2).trans h6⟩
theorem bcell {B : Nat} {w w' : World} (hb : Below B w w') : ∀ b o, b < B → w'.cell? ⟨b, o, none⟩ = w.cell? ⟨b, o, none⟩ := fun b o h => hb.cell (p := ⟨b, o, none⟩) h
theorem bfrozen {B : Nat} {w w' : World} (hb : Below B w w') : ∀ b o, b < B → w'.frozen? ⟨b, o, none⟩ = w.frozen? ⟨b, o, none⟩ := fun b o h => hb.frozen (p := ⟨b, o, none⟩) h
theorem Sl.below {w w' : World} {a : Option Addr} {n : Nat} {f : Nat → Int} (h : Sl w a n f) (hb : Below w.heap.size w w') : Sl w' a n f := h.keep hb.size (bcell hb)
theorem Sc.below {w w' : World} {a : Option Addr} {n : Nat} {g : Nat → C4} (h : Sc w a n g) (hb : Below w.heap.size w w') : Sc w' a n g := h.keep hb.size (bcell hb)
theorem Sl.alloc {w : World} {a : Option Addr} {n : Nat} {f : Nat → Int} (h : Sl w a n f) (o : Obj) : Sl (w.alloc o) a n f := h.below ((Below.refl _ w).alloc (Nat.le_refl _) o)
theorem Sc.alloc {w : World} {a : Option Addr} {n : Nat} {g : Nat → C4} (h : Sc w a n g) (o : Obj) : Sc (w.alloc o) a n g := h.below ((Below.refl _ w).alloc (Nat.le_refl _) o)
theorem Sl.drew {w : World} {a : Option Addr} {n : Nat} {f : Nat → Int} (h : Sl w a n f) : Sl w.drew a n f := h
theorem Sc.drew {w : World} {a : Option Addr} {n : Nat} {g : Nat → C4} (h : Sc w a n g) : Sc w.drew a n g := h
theorem below_drewN {B : Nat} {a w : World} (h : Below B a w) (n : Nat) : Below B a (w.drewN n) := ⟨h.os, h.tape, h.output, h.size, h.block⟩
theorem balloc {w W : World} (h : Below w.heap.size w W) (o : Obj) : Below w.heap.size w (W.alloc o) := h.alloc h.size o
theorem bset {w W : World} (h : Below w.heap.size w W) {p : Addr} (hp : w.heap.size ≤ p.block) (u : Value) : Below w.heap.size w (W.setCell p u) := h.setCell hp u
/-- behind a call: the caller's world is kept too -/
theorem bvia {w W w1 : World} (h : Below w.heap.size w W) (hb : Below W.heap.size W w1) : Below w.heap.size w w1 := h.trans (hb.mono h.size)
theorem Sl.drewN {w : World} {a : Option Addr} {n : Nat} {f : Nat → Int} (h : Sl w a n f) (k : Nat) : Sl (w.drewN k) a n f := h
theorem Sc.drewN {w : World} {a : Option Addr} {n : Nat} {g : Nat → C4} (h : Sc w a n g) (k : Nat) : Sc (w.drewN k) a n g := h
theorem cell_new (w : World) (cs : Array Value) (t : TypeId) (k : Nat) (v : Value) (h : cs[k]? = some v) : (w.alloc (.cells cs t)).cell? ⟨w.heap.size, k, none⟩ = some v := by
  rw [cell_of_row (w.alloc (.cells cs t)) w.heap.size k cs t (0, 0) (Array.getElem?_push_size ..), h]
/-- a block that is just these cells so far (a box), none frozen -/
structure Bx (W : World) (b : Nat) (vs : Array Value) : Prop where
  lt : b < W.heap.size
  cells : ∀ i v, vs[i]? = some v → W.cell? ⟨b, i, none⟩ = some v
  free : ∀ i, W.frozen? ⟨b, i, none⟩ = false
theorem Bx.new (w : World) (vs : Array Value) (t : TypeId) : Bx (w.alloc (.cells vs t)) w.heap.size vs :=
  ⟨by simp, fun i v h => cell_new w vs t i v h, fun i => by simp [go_sem]⟩
theorem Bx.below {W W' : World} {b : Nat} {vs : Array Value} (h : Bx W b vs) (hb : Below W.heap.size W W') : Bx W' b vs :=
  ⟨by have := hb.size; have := h.1; omega, fun i v hi => (bcell hb _ _ h.1).trans (h.2 i v hi), fun i => (bfrozen hb _ _ h.1).trans (h.3 i)⟩
theorem Bx.alloc {W : World} {b : Nat} {vs : Array Value} (h : Bx W b vs) (o : Obj) : Bx (W.alloc o) b vs := h.below ((Below.refl _ W).alloc (Nat.le_refl _) o)
theorem Bx.drew {W : World} {b : Nat} {vs : Array Value} (h : Bx W b vs) : Bx W.drew b vs := ⟨h.1, h.2, h.3⟩
theorem Bx.drewN {W : World} {b : Nat} {vs : Array Value} (h : Bx W b vs) (k : Nat) : Bx (W.drewN k) b vs := ⟨h.1, h.2, h.3⟩
theorem Bx.at_ {W : World} {b : Nat} {vs : Array Value} (h : Bx W b vs) (i : Nat) {v : Value} (hi : vs[i]? = some v) : W.cell? ⟨b, i, none⟩ = some v := h.2 i v hi
theorem Bx.far {W : World} {b : Nat} {vs : Array Value} (h : Bx W b vs) {p : Addr} (hp : p.block ≠ b) (u : Value) : Bx (W.setCell p u) b vs :=
  ⟨by simpa [World.setCell] using h.1, fun i v hi => by rw [World.cell?_setCell_other _ _ _ _ (fun e => hp (by rw [e]))]; exact h.2 i v hi, fun i => by rw [World.frozen?_setCell]; exact h.3 i⟩
theorem Bx.set_ {W : World} {b : Nat} {vs : Array Value} (h : Bx W b vs) (j : Nat) (hj : j < vs.size) (u : Value) : Bx (W.setCell ⟨b, j, none⟩ u) b (vs.setIfInBounds j u) := by
  refine ⟨by simpa [World.setCell] using h.1, fun i v hi => ?_, fun i => by rw [World.frozen?_setCell]; exact h.3 i⟩
  by_cases e : i = j
  · subst e
    have h1 := h.2 i vs[i] (by simp [hj])
    simp [hj] at hi
    rw [World.cell?_setCell_same' _ _ _ (by rw [h1]; rfl), hi]
  · rw [World.cell?_setCell_other _ _ _ _ (fun e' => e (by injection e' with _ e2 _; exact e2.symm))]
    refine h.2 i v ?_
    rwa [Array.getElem?_setIfInBounds_ne (fun e' => e e'.symm)] at hi
theorem ret_int {k : IntKind} {a b : Int} (h : a = b) : Ending.returned (.int k a) = .returned (.int k b) := by rw [h]
theorem ret_bool {a b : Bool} (h : a = b) : Ending.returned (.bool a) = .returned (.bool b) := by rw [h]
theorem below_alloc (w : World) (o : Obj) : Below w.heap.size w (w.alloc o) := (Below.refl _ w).alloc (Nat.le_refl _) o
/-! ### The plain functions -/
def within (n lo hi : Int) : Bool := decide (lo ≤ n) && decide (n ≤ hi)
theorem within_iff (n lo hi : Int) : within n lo hi = true ↔ lo ≤ n ∧ n ≤ hi := by simp [within]
theorem within_no (n lo hi : Int) : within n lo hi = false ↔ ¬ (lo ≤ n ∧ n ≤ hi) := by rw [← within_iff]; simp
def sumTo (f : Nat → Int) : Nat → Int | 0 => 0 | k + 1 => sumTo f k + f k
/-- what cell.sum asks of the first k numbers -/
def okTo (f : Nat → Int) (k : Nat) : Prop := ∀ j, j < k → 0 ≤ f j ∧ sumTo f (j + 1) ≤ 1000000000
theorem sumTo_nonneg (f : Nat → Int) : ∀ k, okTo f k → 0 ≤ sumTo f k
  | 0, _ => by simp [sumTo]
  | k + 1, h => by have := sumTo_nonneg f k (fun j hj => h j (by omega)); have := h k (by omega); simp [sumTo]; omega
theorem sumTo_le (f : Nat → Int) : ∀ k, okTo f k → sumTo f k ≤ 1000000000
  | 0, _ => by simp [sumTo]
  | k + 1, h => (h k (by omega)).2
theorem okTo_succ {f : Nat → Int} {k : Nat} (h : okTo f k) (h0 : 0 ≤ f k) (h1 : sumTo f k + f k ≤ 1000000000) : okTo f (k + 1) := fun j hj => by
  rcases Nat.lt_succ_iff_lt_or_eq.1 hj with h' | rfl
  · exact h j h'
  · exact ⟨h0, by simpa [sumTo] using h1⟩
instance (f : Nat → Int) (k : Nat) : Decidable (okTo f k) := inferInstanceAs (Decidable (∀ j, j < k → _))
def sumR (f : Nat → Int) (n : Nat) : Int := if okTo f n then sumTo f n else -1
theorem sumR_no {f : Nat → Int} {n k : Nat} (hk : k < n) (h : ¬ (0 ≤ f k ∧ sumTo f k + f k ≤ 1000000000)) : sumR f n = -1 := by
  unfold sumR; rw [if_neg]; intro hh; have := hh k hk; simp only [sumTo] at this; omega
def C4.mass (c : C4) : Int := c.e + c.n + c.w + c.s
def validC (c : C4) : Bool := decide (0 ≤ c.e ∧ 0 ≤ c.n ∧ 0 ≤ c.w ∧ 0 ≤ c.s ∧ c.e + c.n + c.w + c.s ≤ 1000000000)
theorem validC_iff (c : C4) : validC c = true ↔ (0 ≤ c.e ∧ 0 ≤ c.n ∧ 0 ≤ c.w ∧ 0 ≤ c.s ∧ c.e + c.n + c.w + c.s ≤ 1000000000) := by simp [validC]
theorem sumTo4 (c : C4) : sumTo c.get 4 = c.e + c.n + c.w + c.s := by simp [sumTo, C4.get]
theorem okTo4 (c : C4) : okTo c.get 4 ↔ validC c = true := by
  rw [validC_iff]
  constructor
  · intro h
    have h0 := h 0 (by omega); have h1 := h 1 (by omega); have h2 := h 2 (by omega); have h3 := h 3 (by omega)
    simp [sumTo, C4.get] at h0 h1 h2 h3
    omega
  · intro h j hj
    have : j = 0 ∨ j = 1 ∨ j = 2 ∨ j = 3 := by omega
    rcases this with rfl | rfl | rfl | rfl <;> simp [sumTo, C4.get] <;> omega
theorem sumR4 (c : C4) : sumR c.get 4 = if validC c then c.mass else -1 := by
  unfold sumR; simp only [okTo4, sumTo4, C4.mass]
def massTo (g : Nat → C4) : Nat → Int | 0 => 0 | k + 1 => massTo g k + (g k).mass
/-- a valid grid -/
def validG (wide high : Int) (n : Nat) (g : Nat → C4) : Bool :=
  decide (1 ≤ wide ∧ wide ≤ 64 ∧ 1 ≤ high ∧ high ≤ 64 ∧ wide * high ≤ 1024 ∧ (n : Int) = wide * high ∧ (∀ k, k < n → validC (g k) = true) ∧ massTo g n ≤ 1000000000)
theorem validG_iff (wide high : Int) (n : Nat) (g : Nat → C4) : validG wide high n g = true ↔
  (1 ≤ wide ∧ wide ≤ 64 ∧ 1 ≤ high ∧ high ≤ 64 ∧ wide * high ≤ 1024 ∧ (n : Int) = wide * high ∧ (∀ k, k < n → validC (g k) = true) ∧ massTo g n ≤ 1000000000) := by simp [validG]
theorem validG_no (wide high : Int) (n : Nat) (g : Nat → C4) : validG wide high n g = false ↔
  ¬ (1 ≤ wide ∧ wide ≤ 64 ∧ 1 ≤ high ∧ high ≤ 64 ∧ wide * high ≤ 1024 ∧ (n : Int) = wide * high ∧ (∀ k, k < n → validC (g k) = true) ∧ massTo g n ≤ 1000000000) := by rw [← validG_iff]; simp
theorem massTo_nonneg (g : Nat → C4) : ∀ k, (∀ j, j < k → validC (g j) = true) → 0 ≤ massTo g k
  | 0, _ => by simp [massTo]
  | k + 1, h => by
    have := massTo_nonneg g k (fun j hj => h j (by omega))
    have h2 := (validC_iff _).1 (h k (by omega))
    simp only [massTo, C4.mass]; omega
theorem massTo_mono (g : Nat → C4) {k n : Nat} (hkn : k ≤ n) (h : ∀ j, j < n → validC (g j) = true) : massTo g k ≤ massTo g n := by
  induction n with
  | zero => rw [show k = 0 from by omega]; exact Int.le_refl _
  | succ n ih =>
    rcases Nat.lt_or_ge k (n + 1) with h' | h'
    · have h1 := ih (by omega) (fun j hj => h j (by omega))
      have h2 := (validC_iff _).1 (h n (by omega))
      simp only [massTo, C4.mass]; omega
    · obtain rfl : k = n + 1 := by omega
      exact Int.le_refl _
end Go.Proofs.YtpbobhobhbbimaaGreat
namespace Go.Proofs.YtpbobhobhbbimaaGreat
open Go.RowKit
set_option linter.unusedVariables false
theorem Bx.newE {W : World} {b : Nat} (h : b = W.heap.size) (vs : Array Value) (t : TypeId) : Bx (W.alloc (.cells vs t)) b vs := by
  rw [h]
  exact Bx.new W vs t
theorem Bx.far2 {W : World} {b : Nat} {vs : Array Value} {p : Addr} (hp : p.block ≠ b) (h : Bx W b vs) (u : Value) : Bx (W.setCell p u) b vs := h.far hp u
theorem Bx.two {W : World} {b : Nat} {x0 x1 y0 y1 : Value} (h : Bx W b #[x0, x1]) :
    Bx ((W.setCell ⟨b, 0, none⟩ y0).setCell ⟨b, 1, none⟩ y1) b #[y0, y1] :=
  (h.set_ 0 (by simp) y0).set_ 1 (by simp) y1
theorem Bx.four {W : World} {b : Nat} {y0 y1 y2 y3 : Value} (h : Bx W b #[.int .i64 0, .int .i64 0, .int .i64 0, .int .i64 0]) :
    Bx ((((W.setCell ⟨b, 0, none⟩ y0).setCell ⟨b, 1, none⟩ y1).setCell ⟨b, 2, none⟩ y2).setCell ⟨b, 3, none⟩ y3) b #[y0, y1, y2, y3] :=
  (((h.set_ 0 (by simp) y0).set_ 1 (by simp) y1).set_ 2 (by simp) y2).set_ 3 (by simp) y3
end Go.Proofs.YtpbobhobhbbimaaGreat
/- Plain words: the neighbours of a place on the torus. No program in sight. -/
namespace Go.Proofs.YtpbobhobhbbimaaGreat
set_option linter.unusedVariables false
/-- the four neighbours of the place i on a torus of W columns and H rows: to the west, to the south, to the east, to the north -/
def nbT (W H i : Nat) : Nat → Nat
  | 0 => (i % W + W - 1) % W + i / W % H * W
  | 1 => i % W % W + (i / W + H - 1) % H * W
  | 2 => (i % W + 1) % W + i / W % H * W
  | _ => i % W % W + (i / W + 1) % H * W
theorem nb_lt {W H a b : Nat} (ha : a < W) (hb : b < H) : a + b * W < W * H := by
  have h : (b + 1) * W ≤ H * W := Nat.mul_le_mul_right W hb
  rw [Nat.succ_mul] at h
  rw [Nat.mul_comm W H]; omega
theorem nb_mod {W a b : Nat} (ha : a < W) : (a + b * W) % W = a := by rw [Nat.add_mul_mod_self_right, Nat.mod_eq_of_lt ha]
theorem nb_div {W a b : Nat} (ha : a < W) : (a + b * W) / W = b := by rw [Nat.add_mul_div_right _ _ (by omega), Nat.div_eq_of_lt ha]; omega
theorem up_down {x W : Nat} (h : x < W) : ((x + 1) % W + W - 1) % W = x := by
  by_cases e : x + 1 = W
  · rw [e, Nat.mod_self, Nat.mod_eq_of_lt (by omega)]; omega
  · rw [Nat.mod_eq_of_lt (show x + 1 < W by omega), show x + 1 + W - 1 = x + W by omega, Nat.add_mod_right, Nat.mod_eq_of_lt h]
theorem down_up {x W : Nat} (h : x < W) : ((x + W - 1) % W + 1) % W = x := by
  by_cases e : x = 0
  · subst e
    rw [Nat.mod_eq_of_lt (show 0 + W - 1 < W by omega), show 0 + W - 1 + 1 = W by omega, Nat.mod_self]
  · rw [show x + W - 1 = (x - 1) + W by omega, Nat.add_mod_right, Nat.mod_eq_of_lt (show x - 1 < W by omega), show x - 1 + 1 = x by omega, Nat.mod_eq_of_lt h]
theorem row_lt {W H i : Nat} (h : i < W * H) : i % W < W ∧ i / W < H := by
  have hW : 0 < W := Nat.pos_of_ne_zero fun e => by subst e; simp at h
  exact ⟨Nat.mod_lt _ hW, Nat.div_lt_of_lt_mul h⟩
theorem back_of {W i : Nat} : i % W + i / W * W = i := by rw [Nat.mul_comm]; exact Nat.mod_add_div i W
theorem nbT_lt {W H i d : Nat} (h : i < W * H) (hd : d < 4) : nbT W H i d < W * H := by
  obtain ⟨hx, hy⟩ := row_lt h
  have hW : 0 < W := by omega
  have hH : 0 < H := Nat.lt_of_le_of_lt (Nat.zero_le _) hy
  rcases (by omega : d = 0 ∨ d = 1 ∨ d = 2 ∨ d = 3) with rfl | rfl | rfl | rfl
  · exact nb_lt (Nat.mod_lt _ hW) (Nat.mod_lt _ hH)
  · exact nb_lt (Nat.mod_lt _ hW) (Nat.mod_lt _ hH)
  · exact nb_lt (Nat.mod_lt _ hW) (Nat.mod_lt _ hH)
  · exact nb_lt (Nat.mod_lt _ hW) (Nat.mod_lt _ hH)
/-- the neighbour in ints -/
theorem nbT_int {W H i d : Nat} (hd : d < 4) (hW : 0 < W) (hH : 0 < H) : (nbT W H i d : Int) = match d with
    | 0 => ((i : Int) % W + W - 1) % W + (i : Int) / W % H * W
    | 1 => (i : Int) % W % W + ((i : Int) / W + H - 1) % H * W
    | 2 => ((i : Int) % W + 1) % W + (i : Int) / W % H * W
    | _ => (i : Int) % W % W + ((i : Int) / W + 1) % H * W := by
  have f0 := Int.ediv_nonneg (Int.natCast_nonneg i) (Int.natCast_nonneg W)
  have f1 := Int.emod_nonneg (i : Int) (show (W : Int) ≠ 0 by omega)
  have e1 : ((i % W + W - 1 : Nat) : Int) = (i : Int) % W + W - 1 := by rw [Int.natCast_sub (by omega)]; simp
  have e2 : ((i / W + H - 1 : Nat) : Int) = (i : Int) / W + H - 1 := by rw [Int.natCast_sub (by omega)]; simp
  rcases (by omega : d = 0 ∨ d = 1 ∨ d = 2 ∨ d = 3) with rfl | rfl | rfl | rfl
  · simp only [nbT, Int.natCast_add, Int.natCast_mul, Int.natCast_emod, Int.natCast_ediv] at *; rw [e1]
  · simp only [nbT, Int.natCast_add, Int.natCast_mul, Int.natCast_emod] at *; rw [e2]
  · simp [nbT]
  · simp [nbT]
end Go.Proofs.YtpbobhobhbbimaaGreat
/- Plain laws of steps: collisions, streaming on the torus, sums over it, and that they are undone. No program in sight. -/
namespace Go.Proofs.YtpbobhobhbbimaaGreat
set_option linter.unusedVariables false
/-! ### collisions -/
def ruleOk (k b : Int) : Prop := ((k = 0 ∨ k = 1) ∧ b = 0) ∨ (k = 2 ∧ -1000000000 ≤ b ∧ b ≤ 1000000000)
def turnI (k b h p : Int) : Int := if k = 1 then p - h else if k = 2 then (h + b) % (p + 1) else h
def mn (a b : Int) : Int := if b < a then b else a
/-- a cell after a rule -/
def coll (k b : Int) (c : C4) : C4 :=
  let t := turnI k b (mn c.e c.w) (mn c.e c.w + mn c.n c.s) - mn c.e c.w
  ⟨c.e + t, c.n - t, c.w + t, c.s - t⟩
theorem turnI_range {k b h p : Int} (h0 : 0 ≤ h) (h1 : h ≤ p) : 0 ≤ turnI k b h p ∧ turnI k b h p ≤ p := by
  unfold turnI
  split
  · omega
  · split
    · have a := Int.emod_nonneg (h + b) (show p + 1 ≠ 0 by omega)
      have b' := Int.emod_lt_of_pos (h + b) (show 0 < p + 1 by omega)
      omega
    · omega
theorem mn_range {a b : Int} (ha : 0 ≤ a) (hb : 0 ≤ b) : 0 ≤ mn a b ∧ mn a b ≤ a ∧ mn a b ≤ b ∧ (mn a b = a ∨ mn a b = b) := by unfold mn; split <;> omega
theorem coll_mass (k b : Int) (c : C4) : (coll k b c).mass = c.mass := by simp only [coll, C4.mass]; omega
theorem coll_valid {k b : Int} {c : C4} (h : validC c = true) : validC (coll k b c) = true := by
  rw [validC_iff] at *
  obtain ⟨h1, h2, h3, h4, h5⟩ := h
  obtain ⟨a1, a2, a3, _⟩ := mn_range h1 h3
  obtain ⟨b1, b2, b3, _⟩ := mn_range h2 h4
  obtain ⟨t1, t2⟩ := turnI_range (k := k) (b := b) a1 (show mn c.e c.w ≤ mn c.e c.w + mn c.n c.s by omega)
  simp only [coll]
  omega
/-! ### sums -/
theorem sumTo_congr {f g : Nat → Int} : ∀ {n : Nat}, (∀ i, i < n → f i = g i) → sumTo f n = sumTo g n
  | 0, _ => rfl
  | n + 1, h => by
    have ih := sumTo_congr (f := f) (g := g) (n := n) (fun i hi => h i (by omega))
    simp only [sumTo, ih, h n (by omega)]
theorem sumTo_add (f g : Nat → Int) : ∀ n, sumTo (fun i => f i + g i) n = sumTo f n + sumTo g n
  | 0 => rfl
  | n + 1 => by simp only [sumTo, sumTo_add f g n]; omega
theorem sumTo_zero (n : Nat) : sumTo (fun _ => 0) n = 0 := by
  induction n with
  | zero => rfl
  | succ n ih => simp only [sumTo, ih]; rfl
theorem sumTo_point (a : Nat) (v : Int) : ∀ n, sumTo (fun i => if i = a then v else 0) n = if a < n then v else 0
  | 0 => rfl
  | n + 1 => by
    simp only [sumTo, sumTo_point a v n]
    split <;> split <;> split <;> omega
theorem sumTo_swap (f : Nat → Nat → Int) (m : Nat) : ∀ n, sumTo (fun i => sumTo (fun j => f i j) m) n = sumTo (fun j => sumTo (fun i => f i j) n) m
  | 0 => by simp only [sumTo]; rw [sumTo_zero]
  | n + 1 => by
    simp only [sumTo]
    rw [sumTo_swap f m n, ← sumTo_add]
/-- a sum over places in another order -/
theorem sumTo_perm {σ τ : Nat → Nat} {n : Nat} (h1 : ∀ i, i < n → σ i < n) (h2 : ∀ i, i < n → τ i < n) (h3 : ∀ i, i < n → τ (σ i) = i) (h4 : ∀ i, i < n → σ (τ i) = i) (f : Nat → Int) : sumTo (fun i => f (σ i)) n = sumTo f n := by
  have e1 : sumTo (fun i => f (σ i)) n = sumTo (fun i => sumTo (fun j => if j = σ i then f j else 0) n) n := by
    refine sumTo_congr fun i hi => ?_
    have e : sumTo (fun j => if j = σ i then f j else 0) n = sumTo (fun j => if j = σ i then f (σ i) else 0) n := by
      refine sumTo_congr fun j _ => ?_
      split
      · rename_i e; rw [e]
      · rfl
    rw [e, sumTo_point, if_pos (h1 i hi)]
  rw [e1, sumTo_swap]
  refine sumTo_congr fun j hj => ?_
  have e : sumTo (fun i => if j = σ i then f j else 0) n = sumTo (fun i => if i = τ j then f j else 0) n := by
    refine sumTo_congr fun i hi => ?_
    by_cases hij : j = σ i
    · rw [if_pos hij, if_pos (by rw [hij, h3 i hi])]
    · rw [if_neg hij, if_neg (fun e => hij (by rw [e, h4 j hj]))]
  rw [e, sumTo_point, if_pos (h2 j hj)]
theorem massTo_sum (g : Nat → C4) : ∀ n, massTo g n = sumTo (fun i => (g i).e) n + sumTo (fun i => (g i).n) n + sumTo (fun i => (g i).w) n + sumTo (fun i => (g i).s) n
  | 0 => rfl
  | n + 1 => by simp only [massTo, sumTo, massTo_sum g n, C4.mass]; omega
theorem massTo_masses {g h : Nat → C4} : ∀ {n : Nat}, (∀ i, i < n → (g i).mass = (h i).mass) → massTo g n = massTo h n
  | 0, _ => rfl
  | n + 1, e => by
    have ih := massTo_masses (g := g) (h := h) (n := n) (fun i hi => e i (by omega))
    simp only [massTo, ih, e n (by omega)]
/-! ### streaming -/
/-- the direction from which one comes back -/
def opp : Nat → Nat | 0 => 2 | 1 => 3 | 2 => 0 | _ => 1
theorem nbT_opp {W H i d : Nat} (h : i < W * H) (hd : d < 4) : nbT W H (nbT W H i d) (opp d) = i := by
  obtain ⟨hx, hy⟩ := row_lt h
  have hW : 0 < W := by omega
  have hH : 0 < H := Nat.lt_of_le_of_lt (Nat.zero_le _) hy
  rcases (by omega : d = 0 ∨ d = 1 ∨ d = 2 ∨ d = 3) with rfl | rfl | rfl | rfl
  · simp only [nbT, opp]
    rw [nb_mod (Nat.mod_lt _ hW), nb_div (Nat.mod_lt _ hW), down_up hx, Nat.mod_mod, Nat.mod_eq_of_lt hy, back_of]
  · simp only [nbT, opp]
    rw [nb_mod (Nat.mod_lt _ hW), nb_div (Nat.mod_lt _ hW), down_up hy, Nat.mod_mod, Nat.mod_mod, back_of]
  · simp only [nbT, opp]
    rw [nb_mod (Nat.mod_lt _ hW), nb_div (Nat.mod_lt _ hW), up_down hx, Nat.mod_mod, Nat.mod_eq_of_lt hy, back_of]
  · simp only [nbT, opp]
    rw [nb_mod (Nat.mod_lt _ hW), nb_div (Nat.mod_lt _ hW), up_down hy, Nat.mod_mod, Nat.mod_mod, back_of]
def flow (W H : Nat) (g : Nat → C4) : Nat → C4 := fun i => ⟨(g (nbT W H i 0)).e, (g (nbT W H i 1)).n, (g (nbT W H i 2)).w, (g (nbT W H i 3)).s⟩
def ebb (W H : Nat) (g : Nat → C4) : Nat → C4 := fun i => ⟨(g (nbT W H i 2)).e, (g (nbT W H i 3)).n, (g (nbT W H i 0)).w, (g (nbT W H i 1)).s⟩
theorem sum_nb {W H d : Nat} (hd : d < 4) (f : Nat → Int) : sumTo (fun i => f (nbT W H i d)) (W * H) = sumTo f (W * H) :=
  sumTo_perm (σ := fun i => nbT W H i d) (τ := fun i => nbT W H i (opp d)) (fun i hi => nbT_lt hi hd) (fun i hi => nbT_lt hi (by rcases (by omega : d = 0 ∨ d = 1 ∨ d = 2 ∨ d = 3) with rfl | rfl | rfl | rfl <;> simp [opp]))
    (fun i hi => nbT_opp hi hd) (fun i hi => by
      rcases (by omega : d = 0 ∨ d = 1 ∨ d = 2 ∨ d = 3) with rfl | rfl | rfl | rfl
      · exact nbT_opp (d := 2) hi (by omega)
      · exact nbT_opp (d := 3) hi (by omega)
      · exact nbT_opp (d := 0) hi (by omega)
      · exact nbT_opp (d := 1) hi (by omega)) f
theorem flow_mass (W H : Nat) (g : Nat → C4) : massTo (flow W H g) (W * H) = massTo g (W * H) := by
  rw [massTo_sum, massTo_sum]
  simp only [flow]
  rw [sum_nb (d := 0) (by omega) (fun i => (g i).e), sum_nb (d := 1) (by omega) (fun i => (g i).n), sum_nb (d := 2) (by omega) (fun i => (g i).w), sum_nb (d := 3) (by omega) (fun i => (g i).s)]
/-- cells of which each is none and all together are not too heavy are valid -/
theorem valid_of_parts {g : Nat → C4} {n : Nat} (h : ∀ i, i < n → 0 ≤ (g i).e ∧ 0 ≤ (g i).n ∧ 0 ≤ (g i).w ∧ 0 ≤ (g i).s) (hm : massTo g n ≤ 1000000000) : ∀ i, i < n → validC (g i) = true := by
  have pos : ∀ m, m ≤ n → 0 ≤ massTo g m := by
    intro m
    induction m with
    | zero => intro _; exact Int.le_refl _
    | succ m ih =>
      intro hmn
      have := ih (by omega); have := h m (by omega)
      simp only [massTo, C4.mass]; omega
  have mono : ∀ m, m ≤ n → ∀ i, i < m → (g i).mass ≤ massTo g m := by
    intro m
    induction m with
    | zero => intro _ i hi; omega
    | succ m ih =>
      intro hmn i hi
      have h1 := h m (by omega)
      have h2 := pos m (by omega)
      simp only [massTo]
      rcases Nat.lt_succ_iff_lt_or_eq.1 hi with h' | rfl
      · have := ih (by omega) i h'
        simp only [C4.mass] at *; omega
      · omega
  intro i hi
  have h1 := h i hi
  have h2 := mono n (Nat.le_refl _) i hi
  rw [validC_iff]
  simp only [C4.mass] at h2
  omega
theorem flow_valid {W H : Nat} {g : Nat → C4} (h : ∀ i, i < W * H → validC (g i) = true) (hm : massTo g (W * H) ≤ 1000000000) : ∀ i, i < W * H → validC (flow W H g i) = true :=
  valid_of_parts (fun i hi => by
    have h0 := (validC_iff _).1 (h _ (nbT_lt hi (show 0 < 4 by omega))); have h1 := (validC_iff _).1 (h _ (nbT_lt hi (show 1 < 4 by omega)))
    have h2 := (validC_iff _).1 (h _ (nbT_lt hi (show 2 < 4 by omega))); have h3 := (validC_iff _).1 (h _ (nbT_lt hi (show 3 < 4 by omega)))
    simp only [flow]; omega) (by rw [flow_mass]; exact hm)
end Go.Proofs.YtpbobhobhbbimaaGreat
/- Walks of the small functions of cell, grid, wall and the references: validity. Walks: cell.Valid, cell.Mass, the reference's Valid. -/
namespace Go.Proofs.YtpbobhobhbbimaaGreat
open Go.RowKit
theorem cell_within (n lo hi : Int) (w : World) : Calls Tryz.prog 35 #[.int .i64 n, .int .i64 lo, .int .i64 hi] w fun e w' => e = .returned (.bool (within n lo hi)) ∧ w = w' := by
  cases h1 : decide (lo ≤ n)
  all_goals
    go_enter Tryz.func35, Tryz.ntmps35
    go_wp2
    go_ret
    exact ⟨by simp [within, h1], rfl⟩
theorem grid_within (n lo hi : Int) (w : World) : Calls Tryz.prog 52 #[.int .i64 n, .int .i64 lo, .int .i64 hi] w fun e w' => e = .returned (.bool (within n lo hi)) ∧ w = w' := by
  cases h1 : decide (lo ≤ n)
  all_goals
    go_enter Tryz.func52, Tryz.ntmps52
    go_wp2
    go_ret
    exact ⟨by simp [within, h1], rfl⟩
set_option maxHeartbeats 400000 in
theorem cell_sum (a : Option Addr) (n cap : Nat) (f : Nat → Int) (w : World) (hn : n ≤ 100000) (H : Sl w a n f) : Calls Tryz.prog 76 #[.slice a n cap] w fun e w' => e = .returned (.int .i64 (sumR f n)) ∧ w = w' := by
  go_enter Tryz.func76, Tryz.ntmps76
  go_wp2
  go_loop [3, 8] (fun t i => ∃ k : Nat, k ≤ n ∧ i = .int .i64 k ∧ t = .int .i64 (sumTo f k) ∧ okTo f k) (fun _ i => n - (intOf i).toNat)
  case atStart => exact ⟨0, Nat.zero_le _, rfl, rfl, fun j hj => by omega⟩
  case round =>
    obtain ⟨k, hk, rfl, rfl, hok⟩ := hrel
    have s0 := sumTo_nonneg f k hok
    have s1 := sumTo_le f k hok
    by_cases hlt : k < n
    · obtain ⟨b, off, rfl, hb, hc⟩ := H k hlt
      have HOK := hid hok; clear hok
      cases hw : within (f k) 0 1000000000 with
      | true =>
        have hb1 := (within_iff _ _ _).1 hw
        obtain ⟨hb1, hb2⟩ := hb1
        by_cases hs : 1000000000 < sumTo f k + f k
        · go_wp2_with (go_at_call 35; refine (cell_within _ _ _ _).mono ?_; rintro e w' ⟨rfl, rfl⟩)
          go_ret
          exact ⟨ret_int (sumR_no hlt (by omega)).symm, rfl⟩
        · go_wp2_with (go_at_call 35; refine (cell_within _ _ _ _).mono ?_; rintro e w' ⟨rfl, rfl⟩)
          go_round
          case rel => exact ⟨k + 1, by omega, by go_num, rfl, okTo_succ HOK.out (by omega) (by omega)⟩
          case measure => simp [intOf]; omega
      | false =>
        go_wp2_with (go_at_call 35; refine (cell_within _ _ _ _).mono ?_; rintro e w' ⟨rfl, rfl⟩)
        go_ret
        have hb1 := (within_no _ _ _).1 hw
        exact ⟨ret_int (sumR_no hlt (by omega)).symm, rfl⟩
    · go_wp2
      go_ret
      obtain rfl : k = n := (by omega)
      exact ⟨ret_int (by rw [sumR, if_pos hok]), rfl⟩
end Go.Proofs.YtpbobhobhbbimaaGreat
namespace Go.Proofs.YtpbobhobhbbimaaGreat
open Go.RowKit
theorem sl_box (w : World) (c : C4) (t : TypeId) : Sl (w.alloc (.cells #[.int .i64 c.e, .int .i64 c.n, .int .i64 c.w, .int .i64 c.s] t)) (some ⟨w.heap.size, 0, none⟩) 4 c.get := fun k hk => by
  refine ⟨w.heap.size, 0, rfl, by simp, ?_⟩
  have : k = 0 ∨ k = 1 ∨ k = 2 ∨ k = 3 := by omega
  rcases this with rfl | rfl | rfl | rfl <;> simp [go_sem, C4.get]
theorem sumR4_nonneg (c : C4) : decide (0 ≤ sumR c.get 4) = validC c := by
  rw [sumR4]
  cases h : validC c
  · simp
  · have := (validC_iff c).1 h
    simp [C4.mass]; omega
set_option maxHeartbeats 400000 in
theorem cell_valid (c : C4) (w : World) : Calls Tryz.prog 55 #[.agg #[.int .i64 c.e, .int .i64 c.n, .int .i64 c.w, .int .i64 c.s]] w fun e w' => e = .returned (.bool (validC c)) ∧ Below w.heap.size w w' := by
  rw [← sumR4_nonneg]
  go_enter Tryz.func55, Tryz.ntmps55
  go_wp2_with (go_at_call 76; refine (cell_sum _ 4 _ c.get _ (by omega) (sl_box w c 44)).mono ?_; rintro e w' ⟨rfl, rfl⟩)
  go_ret
  exact ⟨rfl, below_alloc _ _⟩
def massR (c : C4) : Int := if validC c then c.mass else 0
def errR (b : Bool) (n : Int) : Int := if b then 0 else n
set_option maxHeartbeats 400000 in
theorem cell_mass (c : C4) (w : World) : Calls Tryz.prog 53 #[.agg #[.int .i64 c.e, .int .i64 c.n, .int .i64 c.w, .int .i64 c.s]] w
    fun e w' => e = .returned (.tuple #[.int .i64 (massR c), .int .i64 (errR (validC c) 1)]) ∧ Below w.heap.size w w' := by
  have hs := sumR4 c
  cases hv : validC c
  · go_enter Tryz.func53, Tryz.ntmps53
    go_wp2_with (go_at_call 55; refine (cell_valid c _).mono ?_; rintro e w1 ⟨rfl, hb1⟩)
    go_ret2
    exact ⟨by simp [massR, errR, hv], (below_alloc _ _).trans (hb1.mono (by simp))⟩
  · rw [hv] at hs
    go_enter Tryz.func53, Tryz.ntmps53
    go_wp2_with fail
    refine (cell_valid c _).mono ?_
    rintro e w1 ⟨rfl, hb1⟩
    have hsl := (sl_box w c 44).below hb1
    go_wp2_with (go_at_call 76; refine (cell_sum _ 4 _ c.get _ (by omega) hsl).mono ?_; rintro e w' ⟨rfl, rfl⟩)
    go_ret2
    exact ⟨by simp [massR, errR, hv], (below_alloc _ _).trans (hb1.mono (by simp))⟩
theorem get_le (c : C4) (k : Nat) (hk : k < 4) (h : validC c = true) : 0 ≤ c.get k ∧ c.get k ≤ 1000000000 := by
  have h := (validC_iff c).1 h
  have : k = 0 ∨ k = 1 ∨ k = 2 ∨ k = 3 := by omega
  rcases this with rfl | rfl | rfl | rfl <;> simp [C4.get] <;> omega
end Go.Proofs.YtpbobhobhbbimaaGreat
