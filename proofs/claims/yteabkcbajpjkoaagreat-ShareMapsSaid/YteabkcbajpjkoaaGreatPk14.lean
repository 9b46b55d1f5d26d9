/- How plain arguments read: ints and lists of ints. How the arguments of this seat's laws read: opened to cells. -/
import Derived.Test.YteabkcbajpjkoaaGreatPk1
import Derived.Test.YteabkcbajpjkoaaGreatRows
import Derived.ProofKit
import Derived.OpenShut
import Derived.ShutString
import Derived.ChangeOld
import Derived.Deep.Slices
namespace Go.Proofs.YteabkcbajpjkoaaGreat
open Go.ChangeShapes Go.WideShapes Go.ChangeAt Go.RowKit Go.Deep
set_option linter.unusedVariables false
theorem Tryz.cells3 : Tryz.prog.cellsOf 3 = 1 := by kernel_rfl
theorem list2 {α : Type} {l : List α} (h : l.length = 2) : ∃ a b, l = [a, b] := by
  match l, h with
  | [a, b], _ => exact ⟨a, b, rfl⟩
theorem list3 {α : Type} {l : List α} (h : l.length = 3) : ∃ a b c, l = [a, b, c] := by
  match l, h with
  | [a, b, c], _ => exact ⟨a, b, c, rfl⟩
theorem list4 {α : Type} {l : List α} (h : l.length = 4) : ∃ a b c d, l = [a, b, c, d] := by
  match l, h with
  | [a, b, c, d], _ => exact ⟨a, b, c, d, rfl⟩
section
variable {H : Type} {enc : TypeId × Value → H} {w : World} {spare : Nat → Bool} {held : Bool} {fuel : Nat} {cs : List Value} {x : DataW H × List MemPlace}
theorem lift_int (h : DataW.trod enc Tryz.prog w 0 spare held fuel 3 cs = some x) : ∃ n : Int, cs = [.int .i64 n] ∧ (Lit.int .i64 n).wf = true := by
  obtain ⟨n, h1, _, h3⟩ := DataW.trod_int Tryz.underlying3 h
  exact ⟨n, h1, h3⟩
theorem lift_ints (h : DataW.trod enc Tryz.prog w 0 spare held fuel 25 cs = some x) :
    ∃ (a : Option Addr) (n c : Nat) (f : Nat → Int), cs = [.slice a n c] ∧ n ≤ maxLen ∧ n ≤ c ∧ c ≤ maxLen ∧ Sl w a n f ∧ ∀ k, k < n → (Lit.int .i64 (f k)).wf = true := by
  rcases open_ints Tryz.underlying25 Tryz.underlying3 Tryz.cells3 h with ⟨hcs, _⟩ | ⟨a, len, cap, zs, hcs, _, hl, hm, hz, _, hcell, hwz⟩
  · exact ⟨none, 0, 0, fun _ => 0, hcs, by simp, by simp, by simp, fun k hk => by omega, fun k hk => by omega⟩
  · have hlen : len ≤ zs.length := by rw [hz]; split <;> omega
    refine ⟨some a, len, cap, fun i => zs.getD i 0, hcs, Nat.le_trans hl hm, hl, hm, fun k hk => ?_, fun k hk => ?_⟩
    · have hc := hcell k (by omega)
      have h0 := hcell 0 (by omega)
      obtain ⟨b, off, spot⟩ := a
      have hspot : spot = none := by simpa [Addr.add] using World.cell?_spot h0
      subst hspot
      refine ⟨b, off, rfl, ?_, ?_⟩
      · exact World.block_lt_of_cell? w _ h0
      · rw [← hc]; by_cases h : k = 0 <;> simp [Addr.add, h]
    · have : zs.getD k 0 = zs[k]'(by omega) := by rw [List.getD_eq_getElem?_getD, List.getElem?_eq_getElem (by omega)]; rfl
      show (Lit.int .i64 (zs.getD k 0)).wf = true
      rw [this]
      exact hwz _ (List.getElem_mem _)
theorem arr_of {cs : Array Value} {l : List Value} (h : (Value.agg cs).cells.toList = l) : cs = l.toArray := by subst h; rfl
end
theorem slice_of {a a' : Option Addr} {n n' c c' : Nat} (h : (Value.slice a n c).cells.toList = [.slice a' n' c']) : a = a' ∧ n = n' ∧ c = c' := by
  simpa [Value.cells] using h
theorem own : ownKnob Tryz.prog.godebug = none := by kernel_rfl
theorem laidOut : laidOutB Tryz.prog = true := by kernel_rfl
end Go.Proofs.YteabkcbajpjkoaaGreat
namespace Go.Proofs.YteabkcbajpjkoaaGreat
open Go.ChangeShapes Go.WideShapes Go.ChangeAt Go.RowKit Go.Deep
set_option linter.unusedVariables false
theorem Tryz.cells22 : Tryz.prog.cellsOf 22 = 1 := by kernel_rfl
theorem Tryz.cells49 : Tryz.prog.cellsOf 49 = 4 := by kernel_rfl
theorem Tryz.cells24 : Tryz.prog.cellsOf 24 = 3 := by kernel_rfl
section
variable {H : Type} {enc : TypeId × Value → H} {P : Program} {w : World} {spare : Nat → Bool} {held : Bool} {fuel : Nat} {cs : List Value} {x : DataW H × List MemPlace}
theorem trod_array4 {t e : TypeId} (ht : P.underlying t = some (.array 4 e)) (hce : P.cellsOf e = 1) (hct : P.cellsOf t = 4) (h : DataW.trod enc P w 0 spare held fuel t cs = some x) :
    ∃ (v0 v1 v2 v3 : Value) (y0 y1 y2 y3 : DataW H × List MemPlace) (m : Nat), cs = [v0, v1, v2, v3] ∧ DataW.trod enc P w 0 spare held m e [v0] = some y0 ∧ DataW.trod enc P w 0 spare held m e [v1] = some y1 ∧
      DataW.trod enc P w 0 spare held m e [v2] = some y2 ∧ DataW.trod enc P w 0 spare held m e [v3] = some y3 := by
  obtain ⟨xs, m, _, _, hlen, hxl, hat⟩ := DataW.trod_array ht h
  rw [hct] at hlen
  obtain ⟨v0, v1, v2, v3, rfl⟩ := list4 hlen
  obtain ⟨y0, y1, y2, y3, rfl⟩ := list4 hxl
  rw [hce] at hat
  exact ⟨v0, v1, v2, v3, y0, y1, y2, y3, m, rfl, hat 0 (by omega), hat 1 (by omega), hat 2 (by omega), hat 3 (by omega)⟩
/-- a struct of two fields, whatever their sizes -/
theorem trod_fields2 {t : TypeId} {f0 f1 : Field} {n c0 c1 : Nat} (ht : P.underlying t = some (.struct #[f0, f1])) (hn : P.cellsOf t = n) (h0 : P.cellsOf f0.type = c0) (h1 : P.cellsOf f1.type = c1) (h : DataW.trod enc P w 0 spare held fuel t cs = some x) :
    ∃ (y0 y1 : DataW H × List MemPlace) (m : Nat), cs.length = n ∧ DataW.trod enc P w 0 spare held m f0.type ((cs.drop f0.offset).take c0) = some y0 ∧
      DataW.trod enc P w 0 spare held m f1.type ((cs.drop f1.offset).take c1) = some y1 := by
  obtain ⟨xs, m, _, _, hlen, hxl, hat⟩ := DataW.trod_struct ht h
  obtain ⟨y0, y1, rfl⟩ := list2 (hxl.trans rfl)
  subst hn h0 h1
  exact ⟨y0, y1, m, hlen, hat 0 f0 rfl, hat 1 f1 rfl⟩
theorem trod_fields3 {t : TypeId} {f0 f1 f2 : Field} {n c0 c1 c2 : Nat} (ht : P.underlying t = some (.struct #[f0, f1, f2])) (hn : P.cellsOf t = n) (h0 : P.cellsOf f0.type = c0) (h1 : P.cellsOf f1.type = c1) (h2 : P.cellsOf f2.type = c2)
    (h : DataW.trod enc P w 0 spare held fuel t cs = some x) :
    ∃ (y0 y1 y2 : DataW H × List MemPlace) (m : Nat), cs.length = n ∧ DataW.trod enc P w 0 spare held m f0.type ((cs.drop f0.offset).take c0) = some y0 ∧
      DataW.trod enc P w 0 spare held m f1.type ((cs.drop f1.offset).take c1) = some y1 ∧ DataW.trod enc P w 0 spare held m f2.type ((cs.drop f2.offset).take c2) = some y2 := by
  obtain ⟨xs, m, _, _, hlen, hxl, hat⟩ := DataW.trod_struct ht h
  obtain ⟨y0, y1, y2, rfl⟩ := list3 (hxl.trans rfl)
  subst hn h0 h1 h2
  exact ⟨y0, y1, y2, m, hlen, hat 0 f0 rfl, hat 1 f1 rfl, hat 2 f2 rfl⟩
end
section
variable {H : Type} {enc : TypeId × Value → H} {w : World} {spare : Nat → Bool} {held : Bool} {fuel : Nat} {cs : List Value} {x : DataW H × List MemPlace}
theorem lift_cell (h : DataW.trod enc Tryz.prog w 0 spare held fuel 49 cs = some x) :
    ∃ c : C4, cs = [.int .i64 c.e, .int .i64 c.n, .int .i64 c.w, .int .i64 c.s] ∧ (∀ k, k < 4 → (Lit.int .i64 (c.get k)).wf = true) := by
  obtain ⟨v0, v1, v2, v3, y0, y1, y2, y3, m, rfl, h0, h1, h2, h3⟩ := trod_array4 Tryz.underlying49 Tryz.cells3 Tryz.cells49 h
  obtain ⟨n0, e0, f0⟩ := lift_int h0
  obtain ⟨n1, e1, f1⟩ := lift_int h1
  obtain ⟨n2, e2, f2⟩ := lift_int h2
  obtain ⟨n3, e3, f3⟩ := lift_int h3
  simp only [List.cons.injEq, and_true] at e0 e1 e2 e3
  subst e0 e1 e2 e3
  refine ⟨⟨n0, n1, n2, n3⟩, rfl, fun k hk => ?_⟩
  have : k = 0 ∨ k = 1 ∨ k = 2 ∨ k = 3 := by omega
  rcases this with rfl | rfl | rfl | rfl
  · exact f0
  · exact f1
  · exact f2
  · exact f3
theorem lift_cells (h : DataW.trod enc Tryz.prog w 0 spare held fuel 22 cs = some x) :
    ∃ (a : Option Addr) (n c : Nat) (g : Nat → C4), cs = [.slice a n c] ∧ n ≤ maxLen ∧ n ≤ c ∧ c ≤ maxLen ∧ Sc w a n g := by
  rcases open_slice Tryz.underlying22 h with ⟨hcs, _⟩ | ⟨a, len, cap, m, nf, D, Pl, hcs, _, hl, hm, hmm, _, hi⟩
  · exact ⟨none, 0, 0, fun _ => C4.zero, hcs, by simp, by simp, by simp, fun k hk => by omega⟩
  · have hlm : len ≤ m := by rw [hmm]; split <;> omega
    rw [Tryz.cells49] at hi
    have each : ∀ i, i < m → ∃ c : C4, a.spot = none ∧ a.block < w.heap.size ∧ w.cell? ⟨a.block, a.off + i * 4, none⟩ = some (.int .i64 c.e) ∧ w.cell? ⟨a.block, a.off + i * 4 + 1, none⟩ = some (.int .i64 c.n) ∧
        w.cell? ⟨a.block, a.off + i * 4 + 2, none⟩ = some (.int .i64 c.w) ∧ w.cell? ⟨a.block, a.off + i * 4 + 3, none⟩ = some (.int .i64 c.s) := by
      intro i him
      obtain ⟨cs', hc, ht⟩ := hi i him
      obtain ⟨c, rfl, _⟩ := lift_cell ht
      obtain ⟨_, hcl, hat⟩ := World.cells?_some hc
      obtain ⟨_, hc0, ht0⟩ := hi 0 (by omega)
      obtain ⟨c0, rfl, _⟩ := lift_cell ht0
      obtain ⟨_, _, hat0⟩ := World.cells?_some hc0
      have z0 := hat0 0 (by omega)
      rw [Nat.zero_mul] at z0
      have hspot : a.spot = none := by simpa [Addr.add] using World.cell?_spot z0
      have hblk : a.block < w.heap.size := by simpa [Addr.add] using World.block_lt_of_cell? w _ z0
      obtain ⟨b, off, spot⟩ := a
      simp only at hspot hblk
      subst hspot
      have add : ∀ off p : Nat, (Addr.add ⟨b, off, none⟩ p : Addr) = ⟨b, off + p, none⟩ := fun off p => by by_cases h : p = 0 <;> simp [Addr.add, h]
      have r0 := hat 0 (by omega)
      have r1 := hat 1 (by omega)
      have r2 := hat 2 (by omega)
      have r3 := hat 3 (by omega)
      simp only [add] at r0 r1 r2 r3
      refine ⟨c, rfl, hblk, ?_, ?_, ?_, ?_⟩
      · exact r0
      · exact r1
      · exact r2
      · exact r3
    refine ⟨some a, len, cap, fun i => if hi : i < m then (each i hi).choose else C4.zero, hcs, Nat.le_trans hl hm, hl, hm, fun k hk => ?_⟩
    have hkm : k < m := by omega
    obtain ⟨s1, s2, s3, s4, s5, s6⟩ := (each k hkm).choose_spec
    refine ⟨a.block, a.off, ?_, s2, ?_, ?_, ?_, ?_⟩
    · obtain ⟨b, off, spot⟩ := a
      simp only at s1
      rw [s1]
    · simp only [hkm, dite_true]; exact s3
    · simp only [hkm, dite_true]; exact s4
    · simp only [hkm, dite_true]; exact s5
    · simp only [hkm, dite_true]; exact s6
theorem lift_grid (h : DataW.trod enc Tryz.prog w 0 spare held fuel 24 cs = some x) :
    ∃ (wide high : Int) (a : Option Addr) (n c : Nat) (g : Nat → C4), cs = [.int .i64 wide, .int .i64 high, .slice a n c] ∧ (Lit.int .i64 wide).wf = true ∧ (Lit.int .i64 high).wf = true ∧ n ≤ maxLen ∧ n ≤ c ∧ c ≤ maxLen ∧ Sc w a n g := by
  obtain ⟨y0, y1, y2, m, hlen, h0, h1, h2⟩ := trod_fields3 Tryz.underlying24 Tryz.cells24 Tryz.cells3 Tryz.cells3 Tryz.cells22 h
  obtain ⟨v0, v1, v2, rfl⟩ := list3 hlen
  obtain ⟨wide, e0, f0⟩ := lift_int h0
  obtain ⟨high, e1, f1⟩ := lift_int h1
  obtain ⟨a, n, c, g, e2, b1, b2, b3, hs⟩ := lift_cells h2
  simp at e0 e1 e2
  subst e0 e1 e2
  exact ⟨wide, high, a, n, c, g, rfl, f0, f1, b1, b2, b3, hs⟩
end
end Go.Proofs.YteabkcbajpjkoaaGreat
