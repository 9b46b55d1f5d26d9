/- What a land reads as, as words on a world. What a state of sites and a post reads as, as words on a world. How a slice of rules reads: opened to cells. Lifting: a turn (a site and a post). Lifting: what an argument of the type Order is in the model. -/
import Derived.Test.YtmmjaobpoiofdaaGreatLift
import Derived.Test.YtmmjaobpoiofdaaGreatNMassP
import Derived.Test.YtmmjaobpoiofdaaGreatNPost
import Derived.Test.YtmmjaobpoiofdaaGreatCellStep
namespace Go.Proofs.YtmmjaobpoiofdaaGreat
open Go Go.RowKit Go.ChangeShapes Go.WideShapes
set_option linter.unusedVariables false
theorem Tryz.cells27 : Tryz.prog.cellsOf 27 = 4 := by kernel_rfl
section
variable {H : Type} {enc : TypeId × Value → H} {w : World} {spare : Nat → Bool} {held : Bool} {fuel : Nat} {cs : List Value} {x : DataW H × List MemPlace}
theorem lift_land (h : DataW.trod enc Tryz.prog w 0 spare held fuel 27 cs = some x) :
    ∃ (wide high : Int) (a ao : Option Addr) (n no c co : Nat) (g : Nat → C4) (o : Nat → Int), cs = [.int .i64 wide, .int .i64 high, .slice a n c, .slice ao no co] ∧
      n ≤ maxLen ∧ no ≤ maxLen ∧ Sc w a n g ∧ Sl w ao no o := by
  obtain ⟨y0, y1, m, hlen, h0, h1⟩ := trod_fields2 Tryz.underlying27 Tryz.cells27 Tryz.cells24 Tryz.cells25 h
  obtain ⟨v0, v1, v2, v3, rfl⟩ := list4 hlen
  obtain ⟨wide, high, a, n, c, g, e0, f0, f1, b1, _, _, hs⟩ := lift_grid h0
  obtain ⟨ao, no, co, o, e1, b2, _, _, ho, _⟩ := lift_ints h1
  simp at e0 e1
  obtain ⟨rfl, rfl, rfl⟩ := e0
  subst e1
  exact ⟨wide, high, a, ao, n, no, c, co, g, o, rfl, b1, b2, hs, ho⟩
end
end Go.Proofs.YtmmjaobpoiofdaaGreat
namespace Go.Proofs.YtmmjaobpoiofdaaGreat
open Go Go.RowKit Go.ChangeShapes Go.WideShapes Go.ChangeAt Go.Deep
set_option linter.unusedVariables false
section
variable {H : Type} {enc : TypeId × Value → H} {P : Program} {w : World} {spare : Nat → Bool} {held : Bool} {fuel : Nat} {cs : List Value} {x : DataW H × List MemPlace}
end
section
variable {H : Type} {enc : TypeId × Value → H} {w : World} {spare : Nat → Bool} {held : Bool} {fuel : Nat} {cs : List Value} {x : DataW H × List MemPlace}
end
end Go.Proofs.YtmmjaobpoiofdaaGreat
namespace Go.Proofs.YtmmjaobpoiofdaaGreat
open Go.ChangeShapes Go.WideShapes Go.ChangeAt Go.RowKit Go.Deep
set_option linter.unusedVariables false
theorem Tryz.cells116 : Tryz.prog.cellsOf 116 = 2 := by kernel_rfl
section
variable {H : Type} {enc : TypeId × Value → H} {w : World} {spare : Nat → Bool} {held : Bool} {fuel : Nat} {cs : List Value} {x : DataW H × List MemPlace}
theorem lift_rule2 (h : DataW.trod enc Tryz.prog w 0 spare held fuel 116 cs = some x) : ∃ p : Int × Int, cs = [.int .i64 p.1, .int .i64 p.2] := by
  obtain ⟨y0, y1, m, hlen, h0, h1⟩ := trod_fields2 Tryz.underlying116 Tryz.cells116 Tryz.cells3 Tryz.cells3 h
  obtain ⟨v0, v1, rfl⟩ := list2 hlen
  obtain ⟨n0, e0, _⟩ := lift_int h0
  obtain ⟨n1, e1, _⟩ := lift_int h1
  have e0' : v0 = .int .i64 n0 := by simpa using e0
  have e1' : v1 = .int .i64 n1 := by simpa using e1
  subst e0' e1'
  exact ⟨(n0, n1), rfl⟩
theorem lift_rules (h : DataW.trod enc Tryz.prog w 0 spare held fuel 28 cs = some x) :
    ∃ (a : Option Addr) (n c : Nat) (p : Nat → Int × Int), cs = [.slice a n c] ∧ n ≤ maxLen ∧ n ≤ c ∧ c ≤ maxLen ∧ Sr w a n p := by
  rcases open_slice Tryz.underlying28 h with ⟨hcs, _⟩ | ⟨a, len, cap, m, nf, D, Pl, hcs, _, hl, hm, hmm, _, hi⟩
  · exact ⟨none, 0, 0, fun _ => (0, 0), hcs, by simp, by simp, by simp, fun k hk => by omega⟩
  · have hlm : len ≤ m := by rw [hmm]; split <;> omega
    rw [Tryz.cells116] at hi
    have each : ∀ i, i < m → ∃ p : Int × Int, a.spot = none ∧ a.block < w.heap.size ∧ w.cell? ⟨a.block, a.off + i * 2, none⟩ = some (.int .i64 p.1) ∧ w.cell? ⟨a.block, a.off + i * 2 + 1, none⟩ = some (.int .i64 p.2) := by
      intro i him
      obtain ⟨cs', hc, ht⟩ := hi i him
      obtain ⟨c, rfl⟩ := lift_rule2 ht
      obtain ⟨_, hcl, hat⟩ := World.cells?_some hc
      obtain ⟨_, hc0, ht0⟩ := hi 0 (by omega)
      obtain ⟨c0, rfl⟩ := lift_rule2 ht0
      obtain ⟨_, _, hat0⟩ := World.cells?_some hc0
      have z0 := hat0 0 (by omega)
      rw [Nat.zero_mul] at z0
      have hspot : a.spot = none := by simpa [Addr.add] using World.cell?_spot z0
      have hblk : a.block < w.heap.size := by simpa [Addr.add] using World.block_lt_of_cell? w _ z0
      obtain ⟨b, off, spot⟩ := a
      simp only at hspot hblk
      subst hspot
      have add : ∀ off p : Nat, (Addr.add ⟨b, off, none⟩ p : Addr) = ⟨b, off + p, none⟩ := fun off p => by by_cases h : p = 0 <;> simp [Addr.add, h]
      have r0 := hat 0 (by omega)
      have r1 := hat 1 (by omega)
      simp only [add] at r0 r1
      exact ⟨c, rfl, hblk, r0, r1⟩
    refine ⟨some a, len, cap, fun i => if hi : i < m then (each i hi).choose else (0, 0), hcs, Nat.le_trans hl hm, hl, hm, fun k hk => ?_⟩
    have hkm : k < m := by omega
    obtain ⟨s1, s2, s3, s4⟩ := (each k hkm).choose_spec
    refine ⟨a.block, a.off, ?_, s2, ?_, ?_⟩
    · obtain ⟨b, off, spot⟩ := a
      simp only at s1
      rw [s1]
    · simp only [hkm, dite_true]; exact s3
    · simp only [hkm, dite_true]; exact s4
end
end Go.Proofs.YtmmjaobpoiofdaaGreat
namespace Go.Proofs.YtmmjaobpoiofdaaGreat
open Go Go.RowKit Go.ChangeShapes Go.WideShapes
set_option linter.unusedVariables false
section
variable {H : Type} {enc : TypeId × Value → H} {w : World} {spare : Nat → Bool} {held : Bool} {fuel : Nat} {cs : List Value} {x : DataW H × List MemPlace}
end
end Go.Proofs.YtmmjaobpoiofdaaGreat
namespace Go.Proofs.YtmmjaobpoiofdaaGreat
open Go Go.RowKit Go.ChangeShapes Go.WideShapes
set_option linter.unusedVariables false
theorem cellsOrder : Tryz.prog.cellsOf 48 = 2 := by kernel_rfl
section
variable {H : Type} {enc : TypeId × Value → H} {w : World} {spare : Nat → Bool} {held : Bool} {fuel : Nat} {cs : List Value} {x : DataW H × List MemPlace}
theorem lift_order (h : DataW.trod enc Tryz.prog w 0 spare held fuel 48 cs = some x) :
    ∃ (n : Int) (a : Option Addr) (k c : Nat) (f : Nat → Int), cs = [.int .i64 n, .slice a k c] ∧ k ≤ maxLen ∧ Sl w a k f := by
  obtain ⟨y0, y1, m, hlen, h0, h1⟩ := trod_fields2 Tryz.underlying48 cellsOrder Tryz.cells3 Tryz.cells25 h
  obtain ⟨v0, v1, rfl⟩ := list2 hlen
  obtain ⟨n, e0, _⟩ := lift_int h0
  obtain ⟨a, k, c, f, e1, b1, _, _, hk, _⟩ := lift_ints h1
  simp at e0 e1
  subst e0 e1
  exact ⟨n, a, k, c, f, rfl, b1, hk⟩
end
end Go.Proofs.YtmmjaobpoiofdaaGreat
