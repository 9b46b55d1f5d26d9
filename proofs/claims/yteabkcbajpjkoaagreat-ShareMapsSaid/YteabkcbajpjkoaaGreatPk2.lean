/- Plain words: lists of ints that are made by append, and what a function leaves that returns one. Plain words: a row of ints of the call's own, known as a function, that may be written; how it is made. Plain words: a row of cells of the call's own, known as a function, that may be written; walks: make, append onto an empty slice, slices.Clone, of cells. -/
import Derived.Test.YteabkcbajpjkoaaGreatPk1
import Derived.Handy
import Derived.Laws.MakeOwn
import Derived.Maps.AppendAt
import Derived.Deep.AppendLies
import Derived.Deep.RegionLawGrows
namespace Go.Proofs.YteabkcbajpjkoaaGreat
open Go.RowKit
set_option linter.unusedVariables false
theorem infoI : (Tryz.prog.info? 3).map (fun i => (i.zero, i.size, i.bytes)) = some (some (.int .i64 0), 1, 8) := by kernel_rfl
def vInt (x : Int) : Value := .int .i64 x
theorem sl_of_own {w : World} {base : Nat} {v : Value} {xs : List Int} (h : w.ownsRow base 3 1 v xs.length (xs.map vInt)) :
    ∃ a c, v = .slice a xs.length c ∧ Sl w a xs.length (fun k => xs.getD k 0) := by
  rcases h.2 with ⟨rfl, h0⟩ | ⟨g, cap, cur, rfl, hb, hh, hn, hm, hc, ht⟩
  · exact ⟨none, 0, by rw [h0], fun k hk => by omega⟩
  · refine ⟨some ⟨g, 0, none⟩, cap, rfl, fun k hk => ⟨g, 0, rfl, ?_, ?_⟩⟩
    · rcases Nat.lt_or_ge g w.heap.size with h' | h'
      · exact h'
      · rw [Array.getElem?_eq_none h'] at hh; cases hh
    · rw [Nat.zero_add, cell_of_row w g k cur 3 (0, 0) hh]
      have h1 : (cur.toList.take (xs.length * 1))[k]? = (xs.map vInt)[k]? := by rw [ht]
      rw [List.getElem?_take, if_pos (by omega), List.getElem?_map, List.getElem?_eq_getElem hk] at h1
      show cur[k]? = some (.int .i64 (xs.getD k 0))
      rw [List.getD_eq_getElem?_getD, List.getElem?_eq_getElem hk]
      simpa [vInt] using h1
theorem own_base {w : World} {base : Nat} {e : TypeId} {size n : Nat} {v : Value} {xs : List Value} (h : w.ownsRow base e size v n xs) : ∀ g, v.ownBlock = some g → base ≤ g := fun g hg => by
  rcases h.2 with ⟨rfl, _⟩ | ⟨g', cap, cur, rfl, hb, _⟩
  · cases hg
  · injection hg with hg; subst hg; exact hb
theorem own_mono {w : World} {base base' : Nat} {e : TypeId} {size n : Nat} {v : Value} {xs : List Value} (h : w.ownsRow base e size v n xs) (hb : base' ≤ base) : w.ownsRow base' e size v n xs := by
  refine ⟨h.1, h.2.imp id ?_⟩
  rintro ⟨g, cap, cur, h1, h2, h3⟩
  exact ⟨g, cap, cur, h1, by omega, h3⟩
theorem own_snoc {w : World} {base : Nat} {v : Value} {xs : List Int} {k : Int} (h : w.ownsRow base 3 1 v (xs.length + 1) (xs.map vInt ++ [.int .i64 k])) :
    w.ownsRow base 3 1 v (xs ++ [k]).length ((xs ++ [k]).map vInt) := by
  simpa [vInt] using h
/-- a list of ints and an error -/
def ListPost (xs : List Int) (err : Int) (w : World) (e : Ending) (w' : World) : Prop :=
  ∃ a c, e = .returned (.tuple #[.slice a xs.length c, .int .i64 err]) ∧ Sl w' a xs.length (fun k => xs.getD k 0) ∧ Below w.heap.size w w'
theorem listPost_nil {w w' : World} {err : Int} (hb : Below w.heap.size w w') : ListPost [] err w (.returned (.tuple #[.slice none 0 0, .int .i64 err])) w' :=
  ⟨none, 0, rfl, fun k hk => absurd hk (by simp), hb⟩
theorem listPost_own {w w' : World} {base : Nat} {v : Value} {xs : List Int} {err : Int} (h : w'.ownsRow base 3 1 v xs.length (xs.map vInt)) (hb : Below w.heap.size w w') :
    ListPost xs err w (.returned (.tuple #[v, .int .i64 err])) w' := by
  obtain ⟨a, c, rfl, hs⟩ := sl_of_own h
  exact ⟨a, c, rfl, hs, hb⟩
theorem own_below {w w' : World} {base : Nat} {e : TypeId} {size n : Nat} {v : Value} {xs : List Value} (h : w.ownsRow base e size v n xs) (hb : Below w.heap.size w w') : w'.ownsRow base e size v n xs := by
  refine ⟨h.1, h.2.imp id ?_⟩
  rintro ⟨g, cap, cur, h1, h2, h3, h4⟩
  refine ⟨g, cap, cur, h1, h2, ?_, h4⟩
  rw [hb.block g ?_]
  · exact h3
  · rcases Nat.lt_or_ge g w.heap.size with h' | h'
    · exact h'
    · rw [Array.getElem?_eq_none h'] at h3; cases h3
theorem Bx.grown {W W' : World} {b : Nat} {vs : Array Value} {row : Option Nat} (h : Bx W b vs) (hg : W.grownBy W' row) (hne : some b ≠ row) : Bx W' b vs := by
  have e := hg.block b h.lt hne
  exact ⟨by have := hg.size; have := h.lt; omega, fun i v hi => (World.cell?_of_block e).trans (h.2 i v hi), fun i => (World.frozen?_of_block e).trans (h.3 i)⟩
theorem own_lt {w : World} {base : Nat} {e : TypeId} {size n : Nat} {v : Value} {xs : List Value} (h : w.ownsRow base e size v n xs) : ∀ g, v.ownBlock = some g → g < w.heap.size := fun g hg => by
  rcases h.2 with ⟨rfl, _⟩ | ⟨g', cap, cur, rfl, hb, hh, _⟩
  · cases hg
  · injection hg with hg
    subst hg
    show g' < _
    rcases Nat.lt_or_ge g' w.heap.size with h' | h'
    · exact h'
    · rw [Array.getElem?_eq_none h'] at hh; cases hh
theorem own_grown {w w' : World} {base : Nat} {e : TypeId} {size n : Nat} {v : Value} {xs : List Value} {row : Option Nat} (h : w.ownsRow base e size v n xs) (hg : w.grownBy w' row)
    (hne : ∀ g, v.ownBlock = some g → some g ≠ row) : w'.ownsRow base e size v n xs := by
  refine ⟨h.1, ?_⟩
  rcases h.2 with h' | ⟨g, cap, cur, rfl, hb, hh, rest⟩
  · exact .inl h'
  · refine .inr ⟨g, cap, cur, rfl, hb, ?_, rest⟩
    rw [hg.block g (own_lt h g rfl) (hne g rfl)]
    exact hh
end Go.Proofs.YteabkcbajpjkoaaGreat
namespace Go.Proofs.YteabkcbajpjkoaaGreat
open Go.RowKit
set_option linter.unusedVariables false
def upd (f : Nat → Int) (i : Nat) (v : Int) : Nat → Int := fun k => if k = i then v else f k
structure Ro (W : World) (b n : Nat) (f : Nat → Int) : Prop where
  lt : b < W.heap.size
  cells : ∀ k, k < n → W.cell? ⟨b, k, none⟩ = some (.int .i64 (f k))
  free : ∀ i, W.frozen? ⟨b, i, none⟩ = false
theorem Ro.below {W W' : World} {b n : Nat} {f : Nat → Int} (h : Ro W b n f) (hb : Below W.heap.size W W') : Ro W' b n f :=
  ⟨by have := hb.size; have := h.1; omega, fun k hk => (bcell hb _ _ h.1).trans (h.2 k hk), fun i => (bfrozen hb _ _ h.1).trans (h.3 i)⟩
theorem Ro.alloc {W : World} {b n : Nat} {f : Nat → Int} (h : Ro W b n f) (o : Obj) : Ro (W.alloc o) b n f := h.below ((Below.refl _ W).alloc (Nat.le_refl _) o)
theorem Ro.drew {W : World} {b n : Nat} {f : Nat → Int} (h : Ro W b n f) : Ro W.drew b n f := ⟨h.1, h.2, h.3⟩
theorem Ro.drewN {W : World} {b n : Nat} {f : Nat → Int} (h : Ro W b n f) (k : Nat) : Ro (W.drewN k) b n f := ⟨h.1, h.2, h.3⟩
theorem Ro.far {W : World} {b n : Nat} {f : Nat → Int} (h : Ro W b n f) {p : Addr} (hp : p.block ≠ b) (u : Value) : Ro (W.setCell p u) b n f :=
  ⟨by simpa [World.setCell] using h.1, fun k hk => by rw [World.cell?_setCell_other _ _ _ _ (fun e => hp (by rw [e]))]; exact h.2 k hk, fun i => by rw [World.frozen?_setCell]; exact h.3 i⟩
theorem Ro.set_ {W : World} {b n : Nat} {f : Nat → Int} (h : Ro W b n f) (j : Nat) (v : Int) : Ro (W.setCell ⟨b, j, none⟩ (.int .i64 v)) b n (upd f j v) := by
  refine ⟨by simpa [World.setCell] using h.1, fun k hk => ?_, fun i => by rw [World.frozen?_setCell]; exact h.3 i⟩
  by_cases e : k = j
  · subst e
    rw [World.cell?_setCell_same' _ _ _ (by rw [h.2 k hk]; rfl)]
    simp [upd]
  · rw [World.cell?_setCell_other _ _ _ _ (fun e' => e (by injection e' with _ e2 _; exact e2.symm)), h.2 k hk]
    simp [upd, e]
theorem Ro.sl {W : World} {b n : Nat} {f : Nat → Int} (h : Ro W b n f) : Sl W (some ⟨b, 0, none⟩) n f := fun k hk => ⟨b, 0, rfl, h.1, by rw [Nat.zero_add]; exact h.2 k hk⟩
theorem Ro.congr {W : World} {b n : Nat} {f g : Nat → Int} (h : Ro W b n f) (e : ∀ k, k < n → f k = g k) : Ro W b n g := ⟨h.1, fun k hk => by rw [h.2 k hk, e k hk], h.3⟩
def zcells (n : Nat) : Array Value := madeCells #[.int .i64 0] n
theorem zcells_get (n k : Nat) (hk : k < n) : (zcells n)[k]? = some (.int .i64 0) := by
  simp [zcells, madeCells, hk, Nat.mod_one]
theorem mk_ints (n : Nat) (l : Int) (hl : l = n) (hn : n ≤ 100000000) (w : World) :
    (Instr.makeSlice 25 (.int .i64 l) (.int .i64 l)).run Tryz.prog w = .ok (.slice (some ⟨w.heap.size, 0, none⟩) n n) (w.alloc (.cells (zcells n) 3)) := by
  subst hl
  obtain ⟨i0, hi, hz0, hz1, hz2⟩ := info_parts infoI
  have hr := run_make (P := Tryz.prog) w 25 3 i0 _ Tryz.underlying25 hi hz0 .i64 .i64 n n (by omega) (by omega) (by rw [hz2]; omega) (by omega)
  simp only [Int.toNat_natCast, hz1, Nat.mul_one] at hr
  exact hr
theorem ro_made (w : World) (n : Nat) : Ro (w.alloc (.cells (zcells n) 3)) w.heap.size n (fun _ => 0) :=
  ⟨by simp, fun k hk => by
    rw [cell_of_row (w.alloc (.cells (zcells n) 3)) w.heap.size k (zcells n) 3 (0, 0) (Array.getElem?_push_size ..), zcells_get n k hk], fun i => by simp [go_sem]⟩
end Go.Proofs.YteabkcbajpjkoaaGreat
namespace Go.Proofs.YteabkcbajpjkoaaGreat
open Go Go.RowKit
set_option linter.unusedVariables false
/-- the numbers of a row of cells, one by one -/
def flatC (g : Nat → C4) (j : Nat) : Int := (g (j / 4)).get (j % 4)
theorem flatC_at (g : Nat → C4) (i d : Nat) (hd : d < 4) : flatC g (i * 4 + d) = (g i).get d := by
  unfold flatC; rw [show (i * 4 + d) / 4 = i from by omega, show (i * 4 + d) % 4 = d from by omega]
theorem flatC_at0 (g : Nat → C4) (i : Nat) : flatC g (i * 4) = (g i).e := flatC_at g i 0 (by omega)
theorem flatC_at1 (g : Nat → C4) (i : Nat) : flatC g (i * 4 + 1) = (g i).n := flatC_at g i 1 (by omega)
theorem flatC_at2 (g : Nat → C4) (i : Nat) : flatC g (i * 4 + 2) = (g i).w := flatC_at g i 2 (by omega)
theorem flatC_at3 (g : Nat → C4) (i : Nat) : flatC g (i * 4 + 3) = (g i).s := flatC_at g i 3 (by omega)
theorem flatC_ext {g : Nat → C4} {F : Nat → Int} (h : ∀ i d, d < 4 → F (i * 4 + d) = (g i).get d) : F = flatC g := by
  funext j
  have := h (j / 4) (j % 4) (Nat.mod_lt _ (by omega))
  rw [show j / 4 * 4 + j % 4 = j from by omega] at this
  exact this
theorem Ro.scell {W : World} {b n : Nat} {g : Nat → C4} (h : Ro W b (n * 4) (flatC g)) {i : Nat} (hi : i < n) :
    W.cell? ⟨b, i * 4, none⟩ = some (.int .i64 (g i).e) ∧ W.cell? ⟨b, i * 4 + 1, none⟩ = some (.int .i64 (g i).n) ∧ W.cell? ⟨b, i * 4 + 2, none⟩ = some (.int .i64 (g i).w) ∧ W.cell? ⟨b, i * 4 + 3, none⟩ = some (.int .i64 (g i).s) := by
  have h0 := h.2 (i * 4) (by omega); have h1 := h.2 (i * 4 + 1) (by omega); have h2 := h.2 (i * 4 + 2) (by omega); have h3 := h.2 (i * 4 + 3) (by omega)
  rw [flatC_at0] at h0; rw [flatC_at1] at h1; rw [flatC_at2] at h2; rw [flatC_at3] at h3
  exact ⟨h0, h1, h2, h3⟩
theorem Ro.sc {W : World} {b n : Nat} {g : Nat → C4} (h : Ro W b (n * 4) (flatC g)) : Sc W (some ⟨b, 0, none⟩) n g := fun k hk => by
  obtain ⟨h0, h1, h2, h3⟩ := h.scell hk
  exact ⟨b, 0, rfl, h.1, by rw [Nat.zero_add]; exact h0, by rw [Nat.zero_add]; exact h1, by rw [Nat.zero_add]; exact h2, by rw [Nat.zero_add]; exact h3⟩
/-- a cell replaced -/
def updC (g : Nat → C4) (i : Nat) (c : C4) : Nat → C4 := fun k => if k = i then c else g k
theorem Ro.setC {W : World} {b n : Nat} {g : Nat → C4} (h : Ro W b (n * 4) (flatC g)) (i : Nat) (c : C4) :
    Ro ((((W.setCell ⟨b, i * 4, none⟩ (.int .i64 c.e)).setCell ⟨b, i * 4 + 1, none⟩ (.int .i64 c.n)).setCell ⟨b, i * 4 + 2, none⟩ (.int .i64 c.w)).setCell ⟨b, i * 4 + 3, none⟩ (.int .i64 c.s)) b (n * 4) (flatC (updC g i c)) := by
  have h1 := (((h.set_ (i * 4) c.e).set_ (i * 4 + 1) c.n).set_ (i * 4 + 2) c.w).set_ (i * 4 + 3) c.s
  refine h1.congr fun j hj => ?_
  by_cases e : j / 4 = i
  · obtain ⟨d, hd, rfl⟩ : ∃ d, d < 4 ∧ j = i * 4 + d := ⟨j % 4, Nat.mod_lt _ (by omega), by omega⟩
    rw [flatC_at _ _ _ hd]
    simp only [updC, if_pos]
    rcases (by omega : d = 0 ∨ d = 1 ∨ d = 2 ∨ d = 3) with rfl | rfl | rfl | rfl <;> simp [upd, C4.get]
  · have e2 : flatC (updC g i c) j = flatC g j := by simp only [flatC, updC, if_neg e]
    rw [e2]
    simp only [upd]
    rw [if_neg (by omega), if_neg (by omega), if_neg (by omega), if_neg (by omega)]
/-- the first k cells as F says, behind them as G -/
def ovC (F G : Nat → C4) (k : Nat) : Nat → C4 := fun j => if j < k then F j else G j
theorem ovC_zero (F G : Nat → C4) : ovC F G 0 = G := by funext j; simp [ovC]
theorem ovC_at (F G : Nat → C4) (k : Nat) : ovC F G k k = G k := by simp [ovC]
theorem ovC_lt {F G : Nat → C4} {j k : Nat} (h : j < k) : ovC F G k j = F j := by simp [ovC, h]
theorem ovC_succ (F G : Nat → C4) (k : Nat) : ovC F G (k + 1) = updC (ovC F G k) k (F k) := by
  funext j; unfold updC ovC
  by_cases e : j = k
  · subst e; simp
  · simp only [if_neg e, show (j < k + 1) = (j < k) from propext ⟨by omega, by omega⟩]
theorem flatC_congr {F G : Nat → C4} {n : Nat} (h : ∀ i, i < n → F i = G i) : ∀ j, j < n * 4 → flatC F j = flatC G j := fun j hj => by
  unfold flatC; rw [h _ (by omega)]
/-! ### rows of cells as lists -/
def rowC (g : Nat → C4) (n : Nat) : List Value := (List.range (n * 4)).map fun j => .int .i64 (flatC g j)
theorem rowC_length (g : Nat → C4) (n : Nat) : (rowC g n).length = n * 4 := by simp [rowC]
theorem rowC_one (g : Nat → C4) (n : Nat) : ∀ u ∈ rowC g n, u.oneCell' = true := by
  intro u hu; simp only [rowC, List.mem_map] at hu; obtain ⟨k, _, rfl⟩ := hu; simp [Value.oneCell']
theorem rowC_at (g : Nat → C4) (n j : Nat) (u : Value) (h : (rowC g n)[j]? = some u) : j < n * 4 ∧ u = .int .i64 (flatC g j) := by
  simp only [rowC, List.getElem?_map] at h
  by_cases hj : j < n * 4
  · simp [hj] at h; exact ⟨hj, h.symm⟩
  · simp [hj] at h
theorem roC_of_own {W : World} {base n g cap : Nat} {f : Nat → C4} (h : W.ownsRow base 49 4 (.slice (some ⟨g, 0, none⟩) n cap) n (rowC f n)) (hn : 0 < n) : base ≤ g ∧ Ro W g (n * 4) (flatC f) := by
  obtain ⟨g', cap', hv, hb, hlt⟩ := h.form hn
  have e : g = g' := by injection hv with hv; injection hv with hv; injection hv
  subst e
  refine ⟨hb, hlt, fun k hk => ?_, fun i => h.frozenAt i⟩
  rw [h.cellAt k hk]
  simp [rowC, hk]
theorem addrAdd (b o j : Nat) : (⟨b, o, none⟩ : Addr).add j = ⟨b, o + j, none⟩ := by
  unfold Addr.add; split <;> simp_all
theorem ownForm4 {W : World} {base n : Nat} {e : TypeId} {v : Value} {xs : List Value} (h : W.ownsRow base e 4 v n xs) (hn : 0 < n) : ∃ g cap, v = .slice (some ⟨g, 0, none⟩) n cap := by
  obtain ⟨g, cap, hv, _⟩ := h.form hn
  exact ⟨g, cap, hv⟩
/-- a slice of cells, as the cells of a row -/
theorem sc_row {w : World} {b o n : Nat} {g : Nat → C4} (H : Sc w (some ⟨b, o, none⟩) n g) : ∀ j u, (rowC g n)[j]? = some u → w.cell? ((⟨b, o, none⟩ : Addr).add j) = some u := fun j u hu => by
  obtain ⟨hj, rfl⟩ := rowC_at g n j u hu
  obtain ⟨b', o', e, _, c0, c1, c2, c3⟩ := H (j / 4) (by omega)
  injection e with e; injection e with e1 e2 _
  subst e1 e2
  rw [addrAdd]
  obtain ⟨i, d, hd, rfl⟩ : ∃ i d, d < 4 ∧ j = i * 4 + d := ⟨j / 4, j % 4, Nat.mod_lt _ (by omega), by omega⟩
  rw [show (i * 4 + d) / 4 = i from by omega] at c0 c1 c2 c3
  rcases (by omega : d = 0 ∨ d = 1 ∨ d = 2 ∨ d = 3) with rfl | rfl | rfl | rfl
  · rw [Nat.add_zero, c0, flatC_at0]
  · rw [← Nat.add_assoc, c1, flatC_at1]
  · rw [← Nat.add_assoc, c2, flatC_at2]
  · rw [← Nat.add_assoc, c3, flatC_at3]
theorem infoC : (Tryz.prog.info? 49).map (fun i => (i.zero, i.size, i.bytes)) = some (some (.agg #[.int .i64 0, .int .i64 0, .int .i64 0, .int .i64 0]), 4, 32) := by kernel_rfl
def ccells (n : Nat) : Array Value := madeCells (Value.agg #[.int .i64 0, .int .i64 0, .int .i64 0, .int .i64 0]).cells (n * 4)
theorem zero4 : (Value.agg #[.int .i64 0, .int .i64 0, .int .i64 0, .int .i64 0]).cells = #[.int .i64 0, .int .i64 0, .int .i64 0, .int .i64 0] := by kernel_rfl
theorem ccells_get (n k : Nat) (hk : k < n * 4) : (ccells n)[k]? = some (.int .i64 0) := by
  have hm : k % 4 < 4 := Nat.mod_lt _ (by omega)
  simp only [ccells, madeCells, zero4]
  simp [hk]
  rcases (by omega : k % 4 = 0 ∨ k % 4 = 1 ∨ k % 4 = 2 ∨ k % 4 = 3) with h | h | h | h <;> simp [h]
theorem mk_cells (n : Nat) (l : Int) (hl : l = n) (hn : n ≤ 100000000) (w : World) :
    (Instr.makeSlice 22 (.int .i64 l) (.int .i64 l)).run Tryz.prog w = .ok (.slice (some ⟨w.heap.size, 0, none⟩) n n) (w.alloc (.cells (ccells n) 49)) := by
  subst hl
  obtain ⟨i0, hi, hz0, hz1, hz2⟩ := info_parts infoC
  have hr := run_make (P := Tryz.prog) w 22 49 i0 _ Tryz.underlying22 hi hz0 .i64 .i64 n n (by omega) (by omega) (by rw [hz2]; omega) (by omega)
  simp only [Int.toNat_natCast, hz1] at hr
  exact hr
theorem roC_made (w : World) (n : Nat) : Ro (w.alloc (.cells (ccells n) 49)) w.heap.size (n * 4) (flatC fun _ => C4.zero) :=
  ⟨by simp, fun k hk => by
    rw [cell_of_row (w.alloc (.cells (ccells n) 49)) w.heap.size k (ccells n) 49 (0, 0) (Array.getElem?_push_size ..), ccells_get n k hk]
    have hm : k % 4 < 4 := Nat.mod_lt _ (by omega)
    have : flatC (fun _ => C4.zero) k = 0 := by
      simp only [flatC, C4.zero]
      rcases (by omega : k % 4 = 0 ∨ k % 4 = 1 ∨ k % 4 = 2 ∨ k % 4 = 3) with h | h | h | h <;> simp [h, C4.get]
    rw [this], fun i => by simp [go_sem]⟩
end Go.Proofs.YteabkcbajpjkoaaGreat
