/- What a land reads as, as words on a world. What a state of sites and a post reads as, as words on a world. How a slice of rules reads: opened to cells. Lifting: a turn (a site and a post). -/
import Derived.Test.YtmmjaobpoiofdaaGreatLift
import Derived.Test.YtmmjaobpoiofdaaGreatNMassP
import Derived.Test.YtmmjaobpoiofdaaGreatNPost
import Derived.Test.YtmmjaobpoiofdaaGreatCellStep
namespace Go.Proofs.YtmmjaobpoiofdaaGreat
open Go Go.RowKit Go.ChangeShapes Go.WideShapes
set_option linter.unusedVariables false
theorem Tryz.cells27 : Tryz.prog.cellsOf 27 = 4 := by kernel_rfl
section
variable {H : Type} {enc : TypeId × Value → H} {w : World} {spare : Nat → Bool} {held : Bool} {fuel : Nat} {cs : List Value} {x : DataW H × List MemPlace}
theorem lift_land (h : DataW.trod enc Tryz.prog w 0 spare held fuel 27 cs = some x) :
    ∃ (wide high : Int) (a ao : Option Addr) (n no c co : Nat) (g : Nat → C4) (o : Nat → Int), cs = [.int .i64 wide, .int .i64 high, .slice a n c, .slice ao no co] ∧
      n ≤ maxLen ∧ no ≤ maxLen ∧ Sc w a n g ∧ Sl w ao no o := by
  obtain ⟨y0, y1, m, hlen, h0, h1⟩ := trod_fields2 Tryz.underlying27 Tryz.cells27 Tryz.cells24 Tryz.cells25 h
  obtain ⟨v0, v1, v2, v3, rfl⟩ := list4 hlen
  obtain ⟨wide, high, a, n, c, g, e0, f0, f1, b1, _, _, hs⟩ := lift_grid h0
  obtain ⟨ao, no, co, o, e1, b2, _, _, ho, _⟩ := lift_ints h1
  simp at e0 e1
  obtain ⟨rfl, rfl, rfl⟩ := e0
  subst e1
  exact ⟨wide, high, a, ao, n, no, c, co, g, o, rfl, b1, b2, hs, ho⟩
end
end Go.Proofs.YtmmjaobpoiofdaaGreat
namespace Go.Proofs.YtmmjaobpoiofdaaGreat
open Go Go.RowKit Go.ChangeShapes Go.WideShapes Go.ChangeAt Go.Deep
set_option linter.unusedVariables false
theorem Tryz.cells78 : Tryz.prog.cellsOf 78 = 6 := by kernel_rfl
theorem Tryz.cells31 : Tryz.prog.cellsOf 31 = 1 := by kernel_rfl
theorem Tryz.cells30 : Tryz.prog.cellsOf 30 = 4 := by kernel_rfl
theorem Tryz.cells36 : Tryz.prog.cellsOf 36 = 1 := by kernel_rfl
theorem Tryz.cells38 : Tryz.prog.cellsOf 38 = 2 := by kernel_rfl
theorem lst6 {α : Type} {l : List α} (h : l.length = 6) : ∃ a b c d e f, l = [a, b, c, d, e, f] := by
  obtain _ | ⟨a, _ | ⟨b, _ | ⟨c, _ | ⟨d, _ | ⟨e, _ | ⟨f, _ | ⟨g, t⟩⟩⟩⟩⟩⟩⟩ := l <;> simp at h
  exact ⟨a, b, c, d, e, f, rfl⟩
section
variable {H : Type} {enc : TypeId × Value → H} {P : Program} {w : World} {spare : Nat → Bool} {held : Bool} {fuel : Nat} {cs : List Value} {x : DataW H × List MemPlace}
theorem trod_six {t : TypeId} {f0 f1 f2 f3 f4 f5 : Field} (ht : P.underlying t = some (.struct #[f0, f1, f2, f3, f4, f5]))
    (h : DataW.trod enc P w 0 spare held fuel t cs = some x) :
    ∃ (y0 y1 y2 y3 y4 y5 : DataW H × List MemPlace) (m : Nat), cs.length = P.cellsOf t ∧ DataW.trod enc P w 0 spare held m f0.type ((cs.drop f0.offset).take (P.cellsOf f0.type)) = some y0 ∧
      DataW.trod enc P w 0 spare held m f1.type ((cs.drop f1.offset).take (P.cellsOf f1.type)) = some y1 ∧
      DataW.trod enc P w 0 spare held m f2.type ((cs.drop f2.offset).take (P.cellsOf f2.type)) = some y2 ∧
      DataW.trod enc P w 0 spare held m f3.type ((cs.drop f3.offset).take (P.cellsOf f3.type)) = some y3 ∧
      DataW.trod enc P w 0 spare held m f4.type ((cs.drop f4.offset).take (P.cellsOf f4.type)) = some y4 ∧
      DataW.trod enc P w 0 spare held m f5.type ((cs.drop f5.offset).take (P.cellsOf f5.type)) = some y5 := by
  obtain ⟨xs, m, _, _, hlen, hxl, hat⟩ := DataW.trod_struct ht h
  obtain ⟨y0, y1, y2, y3, y4, y5, rfl⟩ := lst6 (hxl.trans rfl)
  exact ⟨y0, y1, y2, y3, y4, y5, m, hlen, hat 0 f0 rfl, hat 1 f1 rfl, hat 2 f2 rfl, hat 3 f3 rfl, hat 4 f4 rfl, hat 5 f5 rfl⟩
theorem trod_four {t : TypeId} {f0 f1 f2 f3 : Field} (ht : P.underlying t = some (.struct #[f0, f1, f2, f3]))
    (h : DataW.trod enc P w 0 spare held fuel t cs = some x) :
    ∃ (y0 y1 y2 y3 : DataW H × List MemPlace) (m : Nat), cs.length = P.cellsOf t ∧ DataW.trod enc P w 0 spare held m f0.type ((cs.drop f0.offset).take (P.cellsOf f0.type)) = some y0 ∧
      DataW.trod enc P w 0 spare held m f1.type ((cs.drop f1.offset).take (P.cellsOf f1.type)) = some y1 ∧
      DataW.trod enc P w 0 spare held m f2.type ((cs.drop f2.offset).take (P.cellsOf f2.type)) = some y2 ∧
      DataW.trod enc P w 0 spare held m f3.type ((cs.drop f3.offset).take (P.cellsOf f3.type)) = some y3 := by
  obtain ⟨xs, m, _, _, hlen, hxl, hat⟩ := DataW.trod_struct ht h
  obtain ⟨y0, y1, y2, y3, rfl⟩ := list4 (hxl.trans rfl)
  exact ⟨y0, y1, y2, y3, m, hlen, hat 0 f0 rfl, hat 1 f1 rfl, hat 2 f2 rfl, hat 3 f3 rfl⟩
end
section
variable {H : Type} {enc : TypeId × Value → H} {w : World} {spare : Nat → Bool} {held : Bool} {fuel : Nat} {cs : List Value} {x : DataW H × List MemPlace}
theorem lift_note (h : DataW.trod enc Tryz.prog w 0 spare held fuel 78 cs = some x) :
    ∃ c : N6, cs = c.list ∧ wfN c := by
  obtain ⟨y0, y1, y2, y3, y4, y5, m, hlen, h0, h1, h2, h3, h4, h5⟩ := trod_six Tryz.underlying78 h
  rw [Tryz.cells78] at hlen
  obtain ⟨v0, v1, v2, v3, v4, v5, rfl⟩ := lst6 hlen
  simp only [Tryz.cells3] at h0 h1 h2 h3 h4 h5
  obtain ⟨n0, e0, f0⟩ := lift_int h0
  obtain ⟨n1, e1, f1⟩ := lift_int h1
  obtain ⟨n2, e2, f2⟩ := lift_int h2
  obtain ⟨n3, e3, f3⟩ := lift_int h3
  obtain ⟨n4, e4, f4⟩ := lift_int h4
  obtain ⟨n5, e5, f5⟩ := lift_int h5
  simp at e0 e1 e2 e3 e4 e5
  subst e0 e1 e2 e3 e4 e5
  refine ⟨⟨n0, n1, n2, n3, n4, n5⟩, rfl, fun k hk => ?_⟩
  have : k = 0 ∨ k = 1 ∨ k = 2 ∨ k = 3 ∨ k = 4 ∨ k = 5 := by omega
  rcases this with rfl | rfl | rfl | rfl | rfl | rfl
  · exact f0
  · exact f1
  · exact f2
  · exact f3
  · exact f4
  · exact f5
theorem lift_notes (h : DataW.trod enc Tryz.prog w 0 spare held fuel 31 cs = some x) :
    ∃ (a : Option Addr) (n c : Nat) (g : Nat → N6), cs = [.slice a n c] ∧ n ≤ maxLen ∧ n ≤ c ∧ c ≤ maxLen ∧ Sn w a n g ∧ ∀ k, k < n → wfN (g k) := by
  rcases open_slice Tryz.underlying31 h with ⟨hcs, _⟩ | ⟨a, len, cap, m, nf, D, Pl, hcs, _, hl, hm, hmm, _, hi⟩
  · exact ⟨none, 0, 0, fun _ => N6.zero, hcs, by simp, by simp, by simp, fun k hk => by omega, fun k hk => by omega⟩
  · have hlm : len ≤ m := by rw [hmm]; split <;> omega
    rw [Tryz.cells78] at hi
    have each : ∀ i, i < m → ∃ c : N6, a.spot = none ∧ a.block < w.heap.size ∧ (∀ j, j < 6 → w.cell? ⟨a.block, a.off + i * 6 + j, none⟩ = some (.int .i64 (c.get j))) ∧ wfN c := by
      intro i him
      obtain ⟨cs', hc, ht⟩ := hi i him
      obtain ⟨c, rfl, hwf⟩ := lift_note ht
      obtain ⟨_, hcl, hat⟩ := World.cells?_some hc
      obtain ⟨_, hc0, ht0⟩ := hi 0 (by omega)
      obtain ⟨c0, rfl, _⟩ := lift_note ht0
      obtain ⟨_, _, hat0⟩ := World.cells?_some hc0
      have z0 := hat0 0 (by omega)
      rw [Nat.zero_mul] at z0
      have hspot : a.spot = none := by simpa [Addr.add] using World.cell?_spot z0
      have hblk : a.block < w.heap.size := by simpa [Addr.add] using World.block_lt_of_cell? w _ z0
      obtain ⟨b, off, spot⟩ := a
      simp only at hspot hblk
      subst hspot
      have add : ∀ off p : Nat, (Addr.add ⟨b, off, none⟩ p : Addr) = ⟨b, off + p, none⟩ := fun off p => by by_cases h : p = 0 <;> simp [Addr.add, h]
      refine ⟨c, rfl, hblk, fun j hj => ?_, hwf⟩
      have r := hat j (by omega)
      simp only [add] at r
      rw [r]
      rcases (by omega : j = 0 ∨ j = 1 ∨ j = 2 ∨ j = 3 ∨ j = 4 ∨ j = 5) with rfl | rfl | rfl | rfl | rfl | rfl <;> rfl
    refine ⟨some a, len, cap, fun i => if hi : i < m then (each i hi).choose else N6.zero, hcs, Nat.le_trans hl hm, hl, hm, fun k hk => ?_, fun k hk => ?_⟩
    · have hkm : k < m := by omega
      obtain ⟨s1, s2, s3, s4⟩ := (each k hkm).choose_spec
      refine ⟨a.block, a.off, ?_, s2, ?_⟩
      · obtain ⟨b, off, spot⟩ := a
        simp only at s1
        rw [s1]
      · simp only [hkm, dite_true]; exact s3
    · have hkm : k < m := by omega
      obtain ⟨s1, s2, s3, s4⟩ := (each k hkm).choose_spec
      simp only [hkm, dite_true]; exact s4
theorem lift_site (h : DataW.trod enc Tryz.prog w 0 spare held fuel 30 cs = some x) :
    ∃ s : SiteR, cs = [.int .i64 s.nd, .int .i64 s.st, .slice s.ix s.ni s.ci, .slice s.cl s.nc s.cc] ∧ s.ni ≤ maxLen ∧ s.nc ≤ maxLen ∧ s.lies w := by
  obtain ⟨y0, y1, y2, y3, m, hlen, h0, h1, h2, h3⟩ := trod_four Tryz.underlying30 h
  rw [Tryz.cells30] at hlen
  obtain ⟨v0, v1, v2, v3, rfl⟩ := list4 hlen
  simp only [Tryz.cells3, Tryz.cells25, Tryz.cells22] at h0 h1 h2 h3
  obtain ⟨n0, e0, f0⟩ := lift_int h0
  obtain ⟨n1, e1, f1⟩ := lift_int h1
  obtain ⟨a2, l2, c2, f2, e2, b2, _, _, H2, _⟩ := lift_ints h2
  have hN : ∀ (a : Option Addr) (n c : Nat), v3 = .slice a n c → a = none → c = 0 := by
    intro a n c hv ha
    subst hv ha
    rcases open_slice Tryz.underlying22 h3 with ⟨hcs, _⟩ | ⟨a, len, cap, m, nf, D, Pl, hcs, _⟩
    · simp at hcs; exact hcs.2
    · simp at hcs
  obtain ⟨a3, l3, c3, f3, e3, b3, _, _, H3⟩ := lift_cells h3
  simp at e0 e1 e2 e3
  subst e0 e1 e2 e3
  exact ⟨⟨n0, n1, a2, l2, c2, a3, l3, c3, f2, f3⟩, rfl, b2, b3, H2, H3, hN _ _ _ rfl⟩
theorem lift_sites (h : DataW.trod enc Tryz.prog w 0 spare held fuel 36 cs = some x) :
    ∃ (a : Option Addr) (n c : Nat) (g : Nat → SiteR), cs = [.slice a n c] ∧ n ≤ maxLen ∧ n ≤ c ∧ c ≤ maxLen ∧ Ss w a n g ∧ ∀ k, k < n → (g k).ni ≤ maxLen ∧ (g k).nc ≤ maxLen := by
  rcases open_slice Tryz.underlying36 h with ⟨hcs, _⟩ | ⟨a, len, cap, m, nf, D, Pl, hcs, _, hl, hm, hmm, _, hi⟩
  · exact ⟨none, 0, 0, fun _ => SiteR.zero, hcs, by simp, by simp, by simp, fun k hk => by omega, fun k hk => by omega⟩
  · have hlm : len ≤ m := by rw [hmm]; split <;> omega
    rw [Tryz.cells30] at hi
    have each : ∀ i, i < m → ∃ s : SiteR, a.spot = none ∧ a.block < w.heap.size ∧ (w.cell? ⟨a.block, a.off + i * 4, none⟩ = some (.int .i64 s.nd) ∧ w.cell? ⟨a.block, a.off + i * 4 + 1, none⟩ = some (.int .i64 s.st) ∧
        w.cell? ⟨a.block, a.off + i * 4 + 2, none⟩ = some (.slice s.ix s.ni s.ci) ∧ w.cell? ⟨a.block, a.off + i * 4 + 3, none⟩ = some (.slice s.cl s.nc s.cc) ∧ s.lies w) ∧ s.ni ≤ maxLen ∧ s.nc ≤ maxLen := by
      intro i him
      obtain ⟨cs', hc, ht⟩ := hi i him
      obtain ⟨c, rfl, hn1, hn2, hli⟩ := lift_site ht
      obtain ⟨_, hcl, hat⟩ := World.cells?_some hc
      obtain ⟨_, hc0, ht0⟩ := hi 0 (by omega)
      obtain ⟨c0, rfl, _⟩ := lift_site ht0
      obtain ⟨_, _, hat0⟩ := World.cells?_some hc0
      have z0 := hat0 0 (by omega)
      rw [Nat.zero_mul] at z0
      have hspot : a.spot = none := by simpa [Addr.add] using World.cell?_spot z0
      have hblk : a.block < w.heap.size := by simpa [Addr.add] using World.block_lt_of_cell? w _ z0
      obtain ⟨b, off, spot⟩ := a
      simp only at hspot hblk
      subst hspot
      have add : ∀ off p : Nat, (Addr.add ⟨b, off, none⟩ p : Addr) = ⟨b, off + p, none⟩ := fun off p => by by_cases h : p = 0 <;> simp [Addr.add, h]
      have r0 := hat 0 (by omega)
      have r1 := hat 1 (by omega)
      have r2 := hat 2 (by omega)
      have r3 := hat 3 (by omega)
      simp only [add] at r0 r1 r2 r3
      exact ⟨c, rfl, hblk, ⟨r0, r1, r2, r3, hli⟩, hn1, hn2⟩
    refine ⟨some a, len, cap, fun i => if hi : i < m then (each i hi).choose else SiteR.zero, hcs, Nat.le_trans hl hm, hl, hm, fun k hk => ?_, fun k hk => ?_⟩
    · have hkm : k < m := by omega
      obtain ⟨s1, s2, s3, s4, s5⟩ := (each k hkm).choose_spec
      refine ⟨a.block, a.off, ?_, s2, ?_⟩
      · obtain ⟨b, off, spot⟩ := a
        simp only at s1
        rw [s1]
      · simp only [hkm, dite_true]; exact s3
    · have hkm : k < m := by omega
      obtain ⟨s1, s2, s3, s4, s5⟩ := (each k hkm).choose_spec
      simp only [hkm, dite_true]; exact ⟨s4, s5⟩
theorem lift_state (h : DataW.trod enc Tryz.prog w 0 spare held fuel 38 cs = some x) :
    ∃ (al ap : Option Addr) (m q cl cp : Nat) (f : Nat → SiteR) (p : Nat → N6), cs = [.slice al m cl, .slice ap q cp] ∧ m ≤ maxLen ∧ q ≤ maxLen ∧ (∀ k, k < m → (f k).ni ≤ maxLen ∧ (f k).nc ≤ maxLen) ∧ Ss w al m f ∧ Sn w ap q p ∧ ∀ k, k < q → wfN (p k) := by
  obtain ⟨y0, y1, m, hlen, h0, h1⟩ := trod_fields2 Tryz.underlying38 Tryz.cells38 Tryz.cells36 Tryz.cells31 h
  obtain ⟨v0, v1, rfl⟩ := list2 hlen
  obtain ⟨a, n, c, f, e0, b0, _, _, H0, H0'⟩ := lift_sites h0
  obtain ⟨a', n', c', p, e1, b1, _, _, H1, H1'⟩ := lift_notes h1
  simp at e0 e1
  subst e0 e1
  exact ⟨a, a', n, n', c, c', f, p, rfl, b0, b1, H0', H0, H1, H1'⟩
end
end Go.Proofs.YtmmjaobpoiofdaaGreat
namespace Go.Proofs.YtmmjaobpoiofdaaGreat
open Go.ChangeShapes Go.WideShapes Go.ChangeAt Go.RowKit Go.Deep
set_option linter.unusedVariables false
theorem Tryz.cells116 : Tryz.prog.cellsOf 116 = 2 := by kernel_rfl
section
variable {H : Type} {enc : TypeId × Value → H} {w : World} {spare : Nat → Bool} {held : Bool} {fuel : Nat} {cs : List Value} {x : DataW H × List MemPlace}
theorem lift_rule2 (h : DataW.trod enc Tryz.prog w 0 spare held fuel 116 cs = some x) : ∃ p : Int × Int, cs = [.int .i64 p.1, .int .i64 p.2] := by
  obtain ⟨y0, y1, m, hlen, h0, h1⟩ := trod_fields2 Tryz.underlying116 Tryz.cells116 Tryz.cells3 Tryz.cells3 h
  obtain ⟨v0, v1, rfl⟩ := list2 hlen
  obtain ⟨n0, e0, _⟩ := lift_int h0
  obtain ⟨n1, e1, _⟩ := lift_int h1
  have e0' : v0 = .int .i64 n0 := by simpa using e0
  have e1' : v1 = .int .i64 n1 := by simpa using e1
  subst e0' e1'
  exact ⟨(n0, n1), rfl⟩
theorem lift_rules (h : DataW.trod enc Tryz.prog w 0 spare held fuel 28 cs = some x) :
    ∃ (a : Option Addr) (n c : Nat) (p : Nat → Int × Int), cs = [.slice a n c] ∧ n ≤ maxLen ∧ n ≤ c ∧ c ≤ maxLen ∧ Sr w a n p := by
  rcases open_slice Tryz.underlying28 h with ⟨hcs, _⟩ | ⟨a, len, cap, m, nf, D, Pl, hcs, _, hl, hm, hmm, _, hi⟩
  · exact ⟨none, 0, 0, fun _ => (0, 0), hcs, by simp, by simp, by simp, fun k hk => by omega⟩
  · have hlm : len ≤ m := by rw [hmm]; split <;> omega
    rw [Tryz.cells116] at hi
    have each : ∀ i, i < m → ∃ p : Int × Int, a.spot = none ∧ a.block < w.heap.size ∧ w.cell? ⟨a.block, a.off + i * 2, none⟩ = some (.int .i64 p.1) ∧ w.cell? ⟨a.block, a.off + i * 2 + 1, none⟩ = some (.int .i64 p.2) := by
      intro i him
      obtain ⟨cs', hc, ht⟩ := hi i him
      obtain ⟨c, rfl⟩ := lift_rule2 ht
      obtain ⟨_, hcl, hat⟩ := World.cells?_some hc
      obtain ⟨_, hc0, ht0⟩ := hi 0 (by omega)
      obtain ⟨c0, rfl⟩ := lift_rule2 ht0
      obtain ⟨_, _, hat0⟩ := World.cells?_some hc0
      have z0 := hat0 0 (by omega)
      rw [Nat.zero_mul] at z0
      have hspot : a.spot = none := by simpa [Addr.add] using World.cell?_spot z0
      have hblk : a.block < w.heap.size := by simpa [Addr.add] using World.block_lt_of_cell? w _ z0
      obtain ⟨b, off, spot⟩ := a
      simp only at hspot hblk
      subst hspot
      have add : ∀ off p : Nat, (Addr.add ⟨b, off, none⟩ p : Addr) = ⟨b, off + p, none⟩ := fun off p => by by_cases h : p = 0 <;> simp [Addr.add, h]
      have r0 := hat 0 (by omega)
      have r1 := hat 1 (by omega)
      simp only [add] at r0 r1
      exact ⟨c, rfl, hblk, r0, r1⟩
    refine ⟨some a, len, cap, fun i => if hi : i < m then (each i hi).choose else (0, 0), hcs, Nat.le_trans hl hm, hl, hm, fun k hk => ?_⟩
    have hkm : k < m := by omega
    obtain ⟨s1, s2, s3, s4⟩ := (each k hkm).choose_spec
    refine ⟨a.block, a.off, ?_, s2, ?_, ?_⟩
    · obtain ⟨b, off, spot⟩ := a
      simp only at s1
      rw [s1]
    · simp only [hkm, dite_true]; exact s3
    · simp only [hkm, dite_true]; exact s4
end
end Go.Proofs.YtmmjaobpoiofdaaGreat
namespace Go.Proofs.YtmmjaobpoiofdaaGreat
open Go Go.RowKit Go.ChangeShapes Go.WideShapes
set_option linter.unusedVariables false
theorem cellsTurn : Tryz.prog.cellsOf 33 = 5 := by kernel_rfl
section
variable {H : Type} {enc : TypeId × Value → H} {w : World} {spare : Nat → Bool} {held : Bool} {fuel : Nat} {cs : List Value} {x : DataW H × List MemPlace}
theorem lift_turn (h : DataW.trod enc Tryz.prog w 0 spare held fuel 33 cs = some x) :
    ∃ (s : SiteR) (ap : Option Addr) (q cp : Nat) (p : Nat → N6), cs = [.int .i64 s.nd, .int .i64 s.st, .slice s.ix s.ni s.ci, .slice s.cl s.nc s.cc, .slice ap q cp] ∧ s.ni ≤ maxLen ∧ s.nc ≤ maxLen ∧ s.lies w ∧ q ≤ maxLen ∧ Sn w ap q p ∧ ∀ k, k < q → wfN (p k) := by
  obtain ⟨y0, y1, m, hlen, h0, h1⟩ := trod_fields2 Tryz.underlying33 cellsTurn Tryz.cells30 Tryz.cells31 h
  obtain ⟨v0, v1, v2, v3, v4, rfl⟩ := list5 hlen
  obtain ⟨s, e0, b0, b1, HS⟩ := lift_site h0
  obtain ⟨a', n', c', p, e1, b2, _, _, H1, H1'⟩ := lift_notes h1
  simp at e0 e1
  obtain ⟨q0, q1, q2, q3⟩ := e0
  subst q0 q1 q2 q3 e1
  exact ⟨s, a', n', c', p, rfl, b0, b1, HS, b2, H1, H1'⟩
end
end Go.Proofs.YtmmjaobpoiofdaaGreat
