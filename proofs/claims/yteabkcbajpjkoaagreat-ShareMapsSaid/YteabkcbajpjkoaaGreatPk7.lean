/- Walks: ValidPost, of the program and of the reference. Walk: counts, the map of a post from places to counts. -/
import Derived.Test.YteabkcbajpjkoaaGreatPk6
import Derived.Test.YteabkcbajpjkoaaGreatPk5
import Derived.Test.YteabkcbajpjkoaaGreatPk3
import Derived.Test.YteabkcbajpjkoaaGreatPk4
import Derived.Test.YteabkcbajpjkoaaGreatPk2
import Derived.Maps.AppendAt
import Derived.Laws.AppendOwnNone
namespace Go.Proofs.YteabkcbajpjkoaaGreat
open Go Go.RowKit Go.Maps
set_option linter.unusedVariables false
theorem node_of (x : N6) (w : World) : Calls Tryz.prog 102 #[.agg #[.int .i64 x.st, .int .i64 x.fr, .int .i64 x.to, .int .i64 x.ce, .int .i64 x.di, .int .i64 x.co]] w fun e w' => e = .returned (.agg #[.int .i64 x.st, .int .i64 x.ce, .int .i64 x.di]) ∧ Below w.heap.size w w' := by
  go_enter Tryz.func102, Tryz.ntmps102
  go_wp2
  refine bodyPost_ret (v := .agg #[.int .i64 x.st, .int .i64 x.ce, .int .i64 x.di]) (by simp [results, Tryz.results102, go_sem]) rfl ⟨rfl, ?_⟩
  (repeat' (first | with_reducible assumption | with_reducible exact Below.refl _ _ | with_reducible refine Below.drew ?_ | with_reducible refine below_drewN ?_ _ | with_reducible refine balloc ?_ _ | with_reducible refine bset ?_ ?_ _ | with_reducible refine Below.setCell ?_ ?_ _ | with_reducible refine Below.alloc ?_ ?_ _ | omega | (simp; done) | (simp; omega)))
theorem below_turned {B b : Nat} {w0 w w' : World} (h : Below B w0 w) (ht : w.mapTurned w' b) (hb : B ≤ b) (hB : B ≤ w.heap.size) : Below B w0 w' := h.grown ht.grown hB (fun g e => by injection e with e; omega)
end Go.Proofs.YteabkcbajpjkoaaGreat
namespace Go.Proofs.YteabkcbajpjkoaaGreat
open Go Go.RowKit Go.Maps Go.ChangeMaps
set_option linter.unusedVariables false
set_option linter.unusedSimpArgs false
/-- the count at the place of x of the first k notes -/
def cntV (p : Nat → N6) (x : N6) : Nat → Int | 0 => 0 | k + 1 => if plcB (p k) x then (p k).co else cntV p x k
/-- block b is a map of at most n places to ints: which it has, and what they are -/
def PcM (w : World) (b n : Nat) (S : N6 → Bool) (V : N6 → Int) : Prop :=
  ∃ D : DataW Unit, w.ownsMap Tryz.prog 138 (plainElem Tryz.prog 3) b n D ∧ ∀ x, wfN x → Maps.has D (plL x) = S x ∧ D.atKey (plL x) (.lit (.int .i64 0)) = .lit (.int .i64 (V x))
theorem pcm_made (w : World) : PcM (w.alloc (.map #[] 0)) w.heap.size 0 (fun _ => false) (fun _ => 0) :=
  ⟨.map [], World.ownsMap_made w _ _ _, fun i _ => by simp [DataW.atKey, Maps.has]⟩
theorem pcm_below {w w' : World} {b n : Nat} {S : N6 → Bool} {V : N6 → Int} (h : PcM w b n S V) (hb : Below w.heap.size w w') : PcM w' b n S V := by
  obtain ⟨D, ⟨es, clock, h1, h2⟩, hat⟩ := h
  refine ⟨D, ⟨es, clock, ?_, h2⟩, hat⟩
  rw [hb.block b ?_]
  · exact h1
  · rcases Nat.lt_or_ge b w.heap.size with h' | h'
    · exact h'
    · rw [Array.getElem?_eq_none h'] at h1; cases h1
theorem pcm_congr {w : World} {b n : Nat} {S S' : N6 → Bool} {V V' : N6 → Int} (h : PcM w b n S V) (e : ∀ x, S x = S' x) (e' : ∀ x, V x = V' x) : PcM w b n S' V' := by
  obtain ⟨D, h1, h2⟩ := h
  exact ⟨D, h1, fun x hx => by rw [← e x, ← e' x]; exact h2 x hx⟩
theorem pcm_lt {w : World} {b n : Nat} {S : N6 → Bool} {V : N6 → Int} (h : PcM w b n S V) : b < w.heap.size := by
  obtain ⟨D, ⟨es, clock, h1, h2⟩, hat⟩ := h
  exact (Array.getElem?_eq_some_iff.1 h1).1
theorem pcm_look {w : World} {b n : Nat} {S : N6 → Bool} {V : N6 → Int} (h : PcM w b n S V) {x : N6} (hx : wfN x) :
    (Instr.lookup 101 (.map (some b)) (plV x) true).run Tryz.prog w = .ok (.tuple #[.int .i64 (V x), .bool (S x)]) w := by
  obtain ⟨D, ho, hat⟩ := h
  obtain ⟨v, ps, hrun, hv⟩ := ho.look_ok (Keyed.of_law law_place) Tryz.underlying101 (z := .int .i64 0) (by kernel_rfl) (plainElem_int Tryz.underlying3 (by decide)) (key_place hx)
  obtain ⟨c, rfl, hc, _⟩ := plainElem_int_inv Tryz.underlying3 hv
  obtain ⟨h1, h2⟩ := hat x hx
  rw [h2] at hc
  simp only [Prod.mk.injEq, DataW.lit.injEq, Lit.int.injEq, true_and] at hc
  rw [hrun, h1, hc.1]
theorem pcm_store {w : World} {b n : Nat} {S : N6 → Bool} {V : N6 → Int} (h : PcM w b n S V) (hn : n < maxLen) {x : N6} (hx : wfN x) (c : Int) (hc : (Lit.int .i64 c).wf = true) :
    ∃ w', (Instr.mapUpdate 101 (.map (some b)) (plV x) (.int .i64 c)).run Tryz.prog w = .ok () w' ∧ PcM w' b (n + 1) (fun y => S y || plcB x y) (fun y => if plcB x y then c else V y) ∧ w.mapTurned w' b := by
  obtain ⟨D, ho, hat⟩ := h
  obtain ⟨w', hrun, ho', htn⟩ := ho.store (Keyed.of_law law_place) Tryz.underlying101 hn (key_place hx) (plainElem_int Tryz.underlying3 hc)
  refine ⟨w', hrun, ⟨_, ho', fun y hy => ?_⟩, htn⟩
  cases e : plcB x y
  · have hne : plL y ≠ plL x := by intro h'; have := plL_inj hx hy h'.symm; rw [e] at this; cases this
    rw [atKey_put_other hne, has_put_other hne, (hat y hy).1, (hat y hy).2]
    simp [e]
  · rw [← plL_eq e, atKey_put_same ho.isMap (by trivial), has_put_same ho.isMap (by trivial)]
    simp [e]
set_option maxRecDepth 100000 in
set_option maxHeartbeats 4000000 in
theorem node_counts (ap : Option Addr) (q cp : Nat) (p : Nat → N6) (w : World) (hq : q ≤ 100000000) (HP : Sn w ap q p) (HW : ∀ k, k < q → wfN (p k)) :
    Calls Tryz.prog 72 #[.slice ap q cp] w fun e w' => ∃ b, e = .returned (.map (some b)) ∧ PcM w' b q (fun y => metB p y q) (fun y => cntV p y q) ∧ Below w.heap.size w w' := by
  have hmm := @run_makeMap Tryz.prog
  have P1 := HP.alloc (.map #[] 0)
  have M1 := pcm_made w
  have B1 := below_alloc w (.map #[] 0)
  have HWF := hid HW; clear HW
  go_enter Tryz.func72, Tryz.ntmps72
  go_wp2
  clear hmm
  go_loopw [9] (fun i wr => ∃ k : Nat, k ≤ q ∧ i = .int .i64 k ∧ PcM wr w.heap.size k (fun y => metB p y k) (fun y => cntV p y k) ∧ Below w.heap.size w wr) (fun i _ => q - (intOf i).toNat)
  case atStart => exact ⟨0, Nat.zero_le _, rfl, M1, B1⟩
  case round =>
    obtain ⟨k, hk, rfl, hM, hB⟩ := hrel
    have hkey := pcm_lt hM
    by_cases hlt : k < q
    · obtain ⟨b1, o1, rfl, hb1, c0, c1, c2, c3, c4, c5⟩ := (HP.below hB).six hlt
      have hwf := HWF.out k hlt
      have hof := fun W => node_of (p k) W
      go_wp2_with fail
      have hW : Below wr.heap.size wr (wr.alloc (.cells #[.int .i64 (p k).st, .int .i64 (p k).fr, .int .i64 (p k).to, .int .i64 (p k).ce, .int .i64 (p k).di, .int .i64 (p k).co] 106)) := by (repeat' (first | with_reducible assumption | with_reducible exact Below.refl _ _ | with_reducible refine Below.drew ?_ | with_reducible refine below_drewN ?_ _ | with_reducible refine balloc ?_ _ | with_reducible refine bset ?_ ?_ _ | with_reducible refine Below.setCell ?_ ?_ _ | with_reducible refine Below.alloc ?_ ?_ _ | omega | (simp; done) | (simp; omega)))
      have Xs := Bx.new wr #[.int .i64 (p k).st, .int .i64 (p k).fr, .int .i64 (p k).to, .int .i64 (p k).ce, .int .i64 (p k).di, .int .i64 (p k).co] 106
      have M5 := pcm_below hM hW
      have B5 := bvia hB hW
      clear hM c0 c1 c2 c3 c4 c5
      generalize hWg : (wr.alloc (.cells #[.int .i64 (p k).st, .int .i64 (p k).fr, .int .i64 (p k).to, .int .i64 (p k).ce, .int .i64 (p k).di, .int .i64 (p k).co] 106)) = W5 at *
      clear hWg
      have s0 : ∀ Y, Below W5.heap.size W5 Y → Y.cell? ⟨wr.heap.size, 0, none⟩ = some (.int .i64 (p k).st) := fun Y h => (Xs.below h).at_ 0 rfl
      have s1 : ∀ Y, Below W5.heap.size W5 Y → Y.cell? ⟨wr.heap.size, 1, none⟩ = some (.int .i64 (p k).fr) := fun Y h => (Xs.below h).at_ 1 rfl
      have s2 : ∀ Y, Below W5.heap.size W5 Y → Y.cell? ⟨wr.heap.size, 2, none⟩ = some (.int .i64 (p k).to) := fun Y h => (Xs.below h).at_ 2 rfl
      have s3 : ∀ Y, Below W5.heap.size W5 Y → Y.cell? ⟨wr.heap.size, 3, none⟩ = some (.int .i64 (p k).ce) := fun Y h => (Xs.below h).at_ 3 rfl
      have s4 : ∀ Y, Below W5.heap.size W5 Y → Y.cell? ⟨wr.heap.size, 4, none⟩ = some (.int .i64 (p k).di) := fun Y h => (Xs.below h).at_ 4 rfl
      have s5 : ∀ Y, Below W5.heap.size W5 Y → Y.cell? ⟨wr.heap.size, 5, none⟩ = some (.int .i64 (p k).co) := fun Y h => (Xs.below h).at_ 5 rfl
      have hz := hW.size
      refine wp_region_S (fun Y => Below W5.heap.size W5 Y) 5 (by kernel_rfl) ?_
      refine anyS_take (i := 0) rfl (by kernel_rfl) (fun _ _ _ h => h) (Or.inl ⟨by rfl, fun Y hYb => (by (try dsimp only at hYb); go_simp; rfl)⟩) (by repeat' (first | with_reducible assumption | with_reducible exact Below.refl _ _ | with_reducible refine Below.drew ?_ | with_reducible refine below_drewN ?_ _)) ?_
      simp only [List.getElem_toArray, List.getElem_cons_succ, List.getElem_cons_zero, Act.put, List.setIfInBounds_toArray, List.set_cons_zero, List.set_cons_succ]
      refine anyS_take (i := 1) rfl (by kernel_rfl) (fun _ _ _ h => h) (Or.inl ⟨by rfl, fun Y hYb => (by (try dsimp only at hYb); go_simp; rfl)⟩) (by repeat' (first | with_reducible assumption | with_reducible exact Below.refl _ _ | with_reducible refine Below.drew ?_ | with_reducible refine below_drewN ?_ _)) ?_
      simp only [List.getElem_toArray, List.getElem_cons_succ, List.getElem_cons_zero, Act.put, List.setIfInBounds_toArray, List.set_cons_zero, List.set_cons_succ]
      refine anyS_take (i := 3) rfl (by kernel_rfl) (fun _ _ _ h => h) (Or.inl ⟨by rfl, fun Y hYb => (by (try dsimp only at hYb); go_simp; rfl)⟩) (by repeat' (first | with_reducible assumption | with_reducible exact Below.refl _ _ | with_reducible refine Below.drew ?_ | with_reducible refine below_drewN ?_ _)) ?_
      simp only [List.getElem_toArray, List.getElem_cons_succ, List.getElem_cons_zero, Act.put, List.setIfInBounds_toArray, List.set_cons_zero, List.set_cons_succ]
      refine anyS_take (i := 4) rfl (by kernel_rfl) (fun _ _ _ h => h) (Or.inl ⟨by rfl, fun Y hYb => (by (try dsimp only at hYb); go_simp; rfl)⟩) (by repeat' (first | with_reducible assumption | with_reducible exact Below.refl _ _ | with_reducible refine Below.drew ?_ | with_reducible refine below_drewN ?_ _)) ?_
      simp only [List.getElem_toArray, List.getElem_cons_succ, List.getElem_cons_zero, Act.put, List.setIfInBounds_toArray, List.set_cons_zero, List.set_cons_succ]
      refine anyS_one (i := 2) (by kernel_rfl) rfl (by rfl) (fun K hK => ?_)
      go_simp
      refine (hof _).mono ?_
      rintro e w6 ⟨rfl, hb6⟩
      dsimp only
      have hS6 : Below W5.heap.size W5 w6 := bvia (by (repeat' (first | with_reducible assumption | with_reducible exact Below.refl _ _ | with_reducible refine Below.drew ?_ | with_reducible refine below_drewN ?_ _ | with_reducible refine balloc ?_ _ | with_reducible refine bset ?_ ?_ _ | with_reducible refine Below.setCell ?_ ?_ _ | with_reducible refine Below.alloc ?_ ?_ _ | omega | (simp; done) | (simp; omega)))) hb6
      refine hK _ _ (fun _ _ => hS6) ?_
      clear hK K hb6
      have M6 := pcm_below M5 hS6
      have B6 := bvia B5 hS6
      obtain ⟨w7, hrun, M7, ht⟩ := pcm_store M6 (by simp [maxLen]; omega) hwf (p k).co (hwf 5 (by omega))
      unfold plV at hrun
      have hs6 := hS6.size
      have B7 := below_turned B6 ht (Nat.le_refl _) B6.size
      refine anyS_one (i := 5) (by kernel_rfl) rfl (by rfl) (fun K hK => ?_)
      go_simp
      refine hK _ _ (fun h _ => absurd h (by decide)) ?_
      clear hK K
      refine anyS_done (by kernel_rfl) ?_ _
      go_wp2
      go_roundw
      case rel => exact ⟨k + 1, by omega, by go_num, pcm_congr M7 (fun y => rfl) (fun y => rfl), B7⟩
      case measure => simp [intOf]; omega
    · obtain rfl : k = q := (by omega)
      go_wp2
      go_ret
      exact ⟨_, rfl, hM, hB⟩
end Go.Proofs.YteabkcbajpjkoaaGreat
/- Walks: is a site right, of the program and of the reference. -/
namespace Go.Proofs.YteabkcbajpjkoaaGreat
open Go Go.RowKit
set_option linter.unusedVariables false
set_option linter.unusedSimpArgs false
/-- a site that is as one of valid sites -/
def siteB (o : Nat → Int) (no : Nat) (s : SiteR) : Bool :=
  within s.st 0 1000000 && sameL s.ni s.I (ownL o s.nd no).length (fun k => (ownL o s.nd no).getD k 0) && decide (s.nc = s.ni) && massB s.nc s.C
theorem siteB_iff {o : Nat → Int} {no : Nat} {s : SiteR} : siteB o no s = true ↔ within s.st 0 1000000 = true ∧ sameL s.ni s.I (ownL o s.nd no).length (fun k => (ownL o s.nd no).getD k 0) = true ∧ s.nc = s.ni ∧ massB s.nc s.C = true := by
  simp [siteB, Bool.and_eq_true, and_assoc]
theorem node_within_b {n lo hi : Int} {b : Bool} (h : within n lo hi = b) (w : World) : Calls Tryz.prog 36 #[.int .i64 n, .int .i64 lo, .int .i64 hi] w fun e w' => e = .returned (.bool b) ∧ w = w' := h ▸ node_within n lo hi w
end Go.Proofs.YteabkcbajpjkoaaGreat
/- Walk: ready, of the program: is all that is due to a site in the post? -/
namespace Go.Proofs.YteabkcbajpjkoaaGreat
open Go Go.RowKit Go.Maps
attribute [local go_sem] Oper.semAt_some
set_option linter.unusedVariables false
set_option linter.unusedSimpArgs false
/-- the word between two rounds -/
def RW (c5 c6 bc bn bs b M : Nat) (cv : Array Value) (nd st : Int) (S : N6 → Bool) (w : World) (pre : List N6) (C : Nat → Prop) (X : World) : Prop :=
  C = (fun z => w.heap.size ≤ z ∧ z < M) ∧ Bx X c5 #[.map (some b)] ∧ Bx X c6 #[.bool false] ∧ DueRd cv nd st bc bn bs X ∧ (∀ x, x ∈ pre → S x = true) ∧ Below w.heap.size w X ∧ M ≤ X.heap.size
/-- .. and when a round has ended it -/
def RX (c6 M : Nat) (S : N6 → Bool) (w : World) (c : Code) (pre : List N6) (C : Nat → Prop) (X : World) : Prop :=
  c = .ret ∧ C = (fun z => w.heap.size ≤ z ∧ z < M) ∧ Bx X c6 #[.bool false] ∧ (∃ x, x ∈ pre ∧ S x = false) ∧ Below w.heap.size w X ∧ M ≤ X.heap.size
theorem below_but {w A B : World} {C : Nat → Prop} (hB : Below w.heap.size w A) (hbut : But (fun z => w.heap.size ≤ z ∧ C z) A B) : Below w.heap.size w B :=
  hB.trans (⟨hbut.os, hbut.tape, hbut.output, hbut.size, fun z hz => hbut.block z (by have := hB.size; omega) (fun h => by omega)⟩ : Below w.heap.size A B)
theorem rw_stab {c5 c6 bc bn bs b M : Nat} {cv : Array Value} {nd st : Int} {S : N6 → Bool} {w : World} (hm : (w.heap.size ≤ c5 ∧ c5 < M) ∧ (w.heap.size ≤ c6 ∧ c6 < M) ∧ (w.heap.size ≤ bc ∧ bc < M) ∧ (w.heap.size ≤ bn ∧ bn < M) ∧ (w.heap.size ≤ bs ∧ bs < M)) :
    Stab w.heap.size (RW c5 c6 bc bn bs b M cv nd st S w) := by
  rintro pre C A B ⟨rfl, h5, h6, ⟨hc, hn, hs⟩, hS, hB, hM⟩ hbut
  obtain ⟨m5, m6, mc, mn, ms⟩ := hm
  exact ⟨rfl, h5.but hbut (fun h => h.2 m5), h6.but hbut (fun h => h.2 m6), ⟨hc.but hbut (fun h => h.2 mc), hn.but hbut (fun h => h.2 mn), hs.but hbut (fun h => h.2 ms)⟩, hS, below_but hB hbut, Nat.le_trans hM hbut.size⟩
theorem rx_stab {c6 M : Nat} {S : N6 → Bool} {w : World} (hm : w.heap.size ≤ c6 ∧ c6 < M) (c : Code) : Stab w.heap.size (RX c6 M S w c) := by
  rintro pre C A B ⟨h1, rfl, h6, hS, hB, hM⟩ hbut
  exact ⟨h1, rfl, h6.but hbut (fun h => h.2 hm), hS, below_but hB hbut, Nat.le_trans hM hbut.size⟩
set_option maxRecDepth 100000 in
set_option maxHeartbeats 4000000 in
theorem node_ready (Wd Hd : Nat) (a ao : Option Addr) (n c no co : Nat) (o : Nat → Int) (nd st : Int) (ix cl : Option Addr) (ni ci nc cc b q : Nat) (S : N6 → Bool) (V : N6 → Int) (w : World) (h1 : 1 ≤ Wd ∧ Wd ≤ 64) (h2 : 1 ≤ Hd ∧ Hd ≤ 64) (hno : no = Wd * Hd) (HO : Sl w ao no o) (HM : PcM w b q S V)
    (hL : ∀ x, x ∈ dueL Wd Hd o nd st no → wfN x) :
    Calls Tryz.prog 71 #[.agg (cluV Wd Hd a ao n c no co), .agg #[.int .i64 nd, .int .i64 st, .slice ix ni ci, .slice cl nc cc], .map (some b)] w
      fun e w' => e = .returned (.bool (st == 0 || (dueL Wd Hd o nd st no).all S)) ∧ Below w.heap.size w w' := by
  have hdu := fun W => node_due (Wd : Int) (Hd : Int) a ao n c no co nd st W
  have hit := fun bc bn bs => due_iterR Wd Hd a ao n c no co o nd st bc bn bs w h1 h2 hno HO
  have hlt := pcm_lt HM
  clear hno
  generalize hLL : dueL Wd Hd o nd st no = L at *
  clear hLL
  unfold cluV at *
  have X0 := (((Bx.new w #[.int .i64 (Wd : Int), .int .i64 (Hd : Int), .slice a n c, .slice ao no co] 62).alloc (.cells #[.int .i64 nd, .int .i64 st, .slice ix ni ci, .slice cl nc cc] 98)).alloc (.cells #[.map (some b)] 101)).alloc (.cells #[.bool false] 4)
  have X1 := ((Bx.new (w.alloc (.cells #[.int .i64 (Wd : Int), .int .i64 (Hd : Int), .slice a n c, .slice ao no co] 62)) #[.int .i64 nd, .int .i64 st, .slice ix ni ci, .slice cl nc cc] 98).alloc (.cells #[.map (some b)] 101)).alloc (.cells #[.bool false] 4)
  have X2 := (Bx.new ((w.alloc (.cells #[.int .i64 (Wd : Int), .int .i64 (Hd : Int), .slice a n c, .slice ao no co] 62)).alloc (.cells #[.int .i64 nd, .int .i64 st, .slice ix ni ci, .slice cl nc cc] 98)) #[.map (some b)] 101).alloc (.cells #[.bool false] 4)
  have X3 := Bx.new (((w.alloc (.cells #[.int .i64 (Wd : Int), .int .i64 (Hd : Int), .slice a n c, .slice ao no co] 62)).alloc (.cells #[.int .i64 nd, .int .i64 st, .slice ix ni ci, .slice cl nc cc] 98)).alloc (.cells #[.map (some b)] 101)) #[.bool false] 4
  simp only [World.size_alloc] at X1 X2 X3
  have hB0 : Below w.heap.size w ((((w.alloc (.cells #[.int .i64 (Wd : Int), .int .i64 (Hd : Int), .slice a n c, .slice ao no co] 62)).alloc (.cells #[.int .i64 nd, .int .i64 st, .slice ix ni ci, .slice cl nc cc] 98)).alloc (.cells #[.map (some b)] 101)).alloc (.cells #[.bool false] 4)) := by (repeat' (first | with_reducible assumption | with_reducible exact Below.refl _ _ | with_reducible refine Below.drew ?_ | with_reducible refine below_drewN ?_ _ | with_reducible refine balloc ?_ _ | with_reducible refine bset ?_ ?_ _ | with_reducible refine Below.setCell ?_ ?_ _ | with_reducible refine Below.alloc ?_ ?_ _ | omega | (simp; done) | (simp; omega)))
  cases h0 : (st == 0)
  rotate_left
  · rw [Bool.true_or]
    go_enter Tryz.func71, Tryz.ntmps71
    go_wp2_with fail
    generalize ((((w.alloc (.cells #[.int .i64 (Wd : Int), .int .i64 (Hd : Int), .slice a n c, .slice ao no co] 62)).alloc (.cells #[.int .i64 nd, .int .i64 st, .slice ix ni ci, .slice cl nc cc] 98)).alloc (.cells #[.map (some b)] 101)).alloc (.cells #[.bool false] 4)) = W0 at X0 X1 X2 X3 hB0 ⊢
    have z0 := X0.lt
    have z1 := X1.lt
    have z2 := X2.lt
    have z3 := X3.lt
    have f3 := X3.free
    go_wp2
    have c3 := (X3.set_ 0 (by simp) (.bool true)).at_ 0 rfl
    refine bodyPost_ret (v := .bool true) (by simp [results, Tryz.results71, go_sem, c3]) rfl ⟨rfl, ?_⟩
    (repeat' (first | with_reducible assumption | with_reducible exact Below.refl _ _ | with_reducible refine Below.drew ?_ | with_reducible refine below_drewN ?_ _ | with_reducible refine balloc ?_ _ | with_reducible refine bset ?_ ?_ _ | with_reducible refine Below.setCell ?_ ?_ _ | with_reducible refine Below.alloc ?_ ?_ _ | omega | (simp; done) | (simp; omega)))
  rw [Bool.false_or]
  refine callsIn_wide.1 (callsIn_of_wp_marks (F := Fence.wide) (n := 0) Tryz.func71 rfl trivial ?_ rfl)
  simp only [Tryz.ntmps71, List.size_toArray, List.length_cons, List.length_nil, Nat.reduceAdd, Nat.reduceSub, Array.replicate_succ, Array.replicate_zero, List.push_toArray, List.append_toArray, List.nil_append, List.cons_append]
  gi_wp2_with fail
  generalize ((((w.alloc (.cells #[.int .i64 (Wd : Int), .int .i64 (Hd : Int), .slice a n c, .slice ao no co] 62)).alloc (.cells #[.int .i64 nd, .int .i64 st, .slice ix ni ci, .slice cl nc cc] 98)).alloc (.cells #[.map (some b)] 101)).alloc (.cells #[.bool false] 4)) = W0 at X0 X1 X2 X3 hB0 ⊢
  have z0 := X0.lt
  have z1 := X1.lt
  have z2 := X2.lt
  have z3 := X3.lt
  refine ⟨trivial, rfl, callsIn_wide.2 ((hdu _).mono ?_)⟩
  rintro e w2 ⟨bc, bn, bs, rfl, Zc, Zn, Zs, ⟨g1, g2, g3⟩, hb2⟩
  have hit2 := hit bc bn bs
  have B2 := bvia hB0 hb2
  have Y2 := X2.below hb2; have Y3 := X3.below hb2
  have hs0 := hB0.size; have hs2 := hb2.size
  have lc := Zc.lt; have ln := Zn.lt; have ls := Zs.lt
  clear X0 X1 X2 X3 hb2 hdu hit hB0
  have hm : (w.heap.size ≤ w.heap.size + 1 + 1 ∧ w.heap.size + 1 + 1 < w2.heap.size) ∧ (w.heap.size ≤ w.heap.size + 1 + 1 + 1 ∧ w.heap.size + 1 + 1 + 1 < w2.heap.size) ∧ (w.heap.size ≤ bc ∧ bc < w2.heap.size) ∧ (w.heap.size ≤ bn ∧ bn < w2.heap.size) ∧ (w.heap.size ≤ bs ∧ bs < w2.heap.size) := by
    have := Y3.lt; omega
  gi_wp2_with fail
  refine wp_rangeR rfl ent_due hit2 B2 (fun _ => rfl) (RW (w.heap.size + 1 + 1) (w.heap.size + 1 + 1 + 1) bc bn bs b w2.heap.size _ nd st S w) (RX (w.heap.size + 1 + 1 + 1) w2.heap.size S w) (fun z => w.heap.size ≤ z ∧ z < w2.heap.size) (fun pre C X h => h.2.2.2.1) ?hC (rw_stab hm) (fun c => rx_stab hm.2.1 c) ?h0 ?hround ?hdone ?hstop
  case hC =>
    rintro pre C X ⟨rfl, _, _, _, _, _, hz⟩ z hz'
    exact ⟨hz'.1, by omega⟩
  case h0 => exact ⟨rfl, Y2, Y3, ⟨Zc, Zn, Zs⟩, fun x hx => (by cases hx), B2, Nat.le_refl _⟩
  case hround =>
    rintro l pre x C X hl hl' hnl ⟨rec2, hrec2⟩ ⟨rfl, h5, h6, hD, hS, hB, hM⟩ hX hgC hpre
    have hwf : wfN x := hL x (by obtain ⟨t, ht⟩ := hpre; rw [← ht]; exact List.mem_append.2 (.inl (List.mem_append.2 (.inr (List.mem_singleton.2 rfl)))))
    have hof := fun W => node_of x W
    unfold Round
    dsimp only [encN]
    gi_wp2_with fail
    refine ⟨below_alloc _ _, ?_⟩
    intro X₂ hb2 hs2 r2 hr2
    have hbx : But (fun z => z = l) X X₂ := (But.refl _ X |>.alloc _).trans hb2
    have hl2 : w2.heap.size ≤ l := hl
    have P5 := h5.but hbx (by omega); have P6 := h6.but hbx (by omega)
    have PD : DueRd _ nd st bc bn bs X₂ := ⟨hD.1.but hbx (by omega), hD.2.1.but hbx (by omega), hD.2.2.but hbx (by omega)⟩
    have B3 : Below w.heap.size w X₂ := below_but (C := fun z => z = l) hB (hbx.mono (fun z _ h => ⟨by omega, h⟩))
    have U : Bx X₂ X.heap.size #[.int .i64 x.st, .int .i64 x.fr, .int .i64 x.to, .int .i64 x.ce, .int .i64 x.di, .int .i64 x.co] := (Bx.new X #[.int .i64 x.st, .int .i64 x.fr, .int .i64 x.to, .int .i64 x.ce, .int .i64 x.di, .int .i64 x.co] 106).but hb2 (by omega)
    have hz2 := hbx.size
    have B4 : Below X₂.heap.size X₂ X₂ := Below.refl _ _
    have r0 : ∀ Y, But (fun _ => False) X₂ Y → Y.cell? ⟨w.heap.size + 1 + 1, 0, none⟩ = some (.map (some b)) := fun Y h => (P5.but h id).at_ 0 rfl
    have u0 : ∀ Y, But (fun _ => False) X₂ Y → Y.cell? ⟨X.heap.size, 0, none⟩ = some (.int .i64 x.st) := fun Y h => (U.but h id).at_ 0 rfl
    have u1 : ∀ Y, But (fun _ => False) X₂ Y → Y.cell? ⟨X.heap.size, 1, none⟩ = some (.int .i64 x.fr) := fun Y h => (U.but h id).at_ 1 rfl
    have u2 : ∀ Y, But (fun _ => False) X₂ Y → Y.cell? ⟨X.heap.size, 2, none⟩ = some (.int .i64 x.to) := fun Y h => (U.but h id).at_ 2 rfl
    have u3 : ∀ Y, But (fun _ => False) X₂ Y → Y.cell? ⟨X.heap.size, 3, none⟩ = some (.int .i64 x.ce) := fun Y h => (U.but h id).at_ 3 rfl
    have u4 : ∀ Y, But (fun _ => False) X₂ Y → Y.cell? ⟨X.heap.size, 4, none⟩ = some (.int .i64 x.di) := fun Y h => (U.but h id).at_ 4 rfl
    have u5 : ∀ Y, But (fun _ => False) X₂ Y → Y.cell? ⟨X.heap.size, 5, none⟩ = some (.int .i64 x.co) := fun Y h => (U.but h id).at_ 5 rfl
    have hlk : ∀ Y, But (fun _ => False) X₂ Y → (Instr.lookup 101 (.map (some b)) (plV x) true).run Tryz.prog Y = .ok (.tuple #[.int .i64 (V x), .bool (S x)]) Y := fun Y h =>
      pcm_look (pcm_below HM (below_but (C := fun _ => False) B3 (h.mono (fun z _ h' => h'.elim)))) hwf
    unfold plV at hlk
    have hgo : S x = true → ∀ Y, But (fun _ => False) X₂ Y → But (fun z => w.heap.size ≤ z ∧ z < w2.heap.size) X₂ Y ∧ RW (w.heap.size + 1 + 1) (w.heap.size + 1 + 1 + 1) bc bn bs b w2.heap.size #[.int .i64 (Wd : Int), .int .i64 (Hd : Int), .slice a n c, .slice ao no co] nd st S w (pre ++ [x]) (fun z => w.heap.size ≤ z ∧ z < w2.heap.size) Y := fun hx Y hY =>
      ⟨hY.mono (fun _ _ h => h.elim), rfl, P5.but hY id, P6.but hY id, ⟨PD.1.but hY id, PD.2.1.but hY id, PD.2.2.but hY id⟩, fun y hy => by
        rcases List.mem_append.1 hy with h | h
        · exact hS y h
        · rw [List.mem_singleton.1 h]; exact hx, below_but (C := fun _ => False) B3 (hY.mono (fun _ _ h => h.elim)), by have := hY.size; omega⟩
    have hend : S x = false → ∀ Y, But (fun _ => False) X₂ Y → But (fun z => w.heap.size ≤ z ∧ z < w2.heap.size) X₂ (Y.setCell ⟨w.heap.size + 1 + 1 + 1, 0, none⟩ (.bool false)) ∧ RX (w.heap.size + 1 + 1 + 1) w2.heap.size S w .ret (pre ++ [x]) (fun z => w.heap.size ≤ z ∧ z < w2.heap.size) (Y.setCell ⟨w.heap.size + 1 + 1 + 1, 0, none⟩ (.bool false)) := fun hx Y hY => by
      have hY2 : But (fun z => w.heap.size ≤ z ∧ z < w2.heap.size) X₂ (Y.setCell ⟨w.heap.size + 1 + 1 + 1, 0, none⟩ (.bool false)) := But.set_ (hY.mono (fun _ _ h => h.elim)) hm.2.1 _
      exact ⟨hY2, rfl, rfl, (P6.but hY id).set_ 0 (by simp) (.bool false), ⟨x, by simp, hx⟩, below_but (C := fun z => z < w2.heap.size) B3 hY2, by have := hY2.size; omega⟩
    gi_upto_region 5 with (fail)
    refine wpIn_region_R (But (fun _ => False) X₂) (by kernel_rfl) ?_
    refine anyR_take (i := 0) (fun _ => trivial) rfl (by kernel_rfl) (fun _ _ _ h => h) (Or.inl ⟨by rfl, fun Y hYb => (by (try dsimp only at hYb); go_simp; rfl)⟩) (by repeat' (first | assumption | exact But.refl _ _ | refine But.drew ?_ | refine But.drewN ?_ _)) ?_
    simp only [Act.put, List.setIfInBounds_toArray, List.set_cons_zero, List.set_cons_succ]
    refine anyR_take (i := 1) (fun _ => trivial) rfl (by kernel_rfl) (fun _ _ _ h => h) (Or.inl ⟨by rfl, fun Y hYb => (by (try dsimp only at hYb); go_simp; rfl)⟩) (by repeat' (first | assumption | exact But.refl _ _ | refine But.drew ?_ | refine But.drewN ?_ _)) ?_
    simp only [Act.put, List.setIfInBounds_toArray, List.set_cons_zero, List.set_cons_succ]
    refine anyR_one (i := 2) (by kernel_rfl) rfl (by rfl) (fun K hK => ?_)
    go_simp
    refine ⟨trivial, rfl, callsIn_of ((hof _).mono ?_)⟩
    rintro e X4 ⟨rfl, hb4⟩
    have hs4 : But (fun _ => False) X₂ X4 := (But.refl _ X₂).drew.trans (but_below hb4 (Nat.le_refl _))
    refine hK _ _ hs4 ?_
    clear hK K hb4
    cases hSx : S x
    all_goals
      rw [hSx] at hlk
      refine anyR_take (i := 3) (fun _ => trivial) rfl (by kernel_rfl) (fun _ _ _ h => h) (Or.inl ⟨by rfl, fun Y hYb => (by (try dsimp only at hYb); go_simp; rfl)⟩) (by repeat' (first | assumption | exact But.refl _ _ | refine But.drew ?_ | refine But.drewN ?_ _)) ?_
      simp only [Act.put, List.setIfInBounds_toArray, List.set_cons_zero, List.set_cons_succ]
      refine anyR_take (i := 4) (fun _ => trivial) rfl (by kernel_rfl) (fun _ _ _ h => h) (Or.inl ⟨by rfl, fun Y hYb => (by (try dsimp only at hYb); go_simp; rfl)⟩) (by repeat' (first | assumption | exact But.refl _ _ | refine But.drew ?_ | refine But.drewN ?_ _)) ?_
      simp only [Act.put, List.setIfInBounds_toArray, List.set_cons_zero, List.set_cons_succ]
      refine anyR_take (i := 5) (fun _ => trivial) rfl (by kernel_rfl) (fun _ _ _ h => h) (Or.inl ⟨by rfl, fun Y hYb => (by (try dsimp only at hYb); go_simp; rfl)⟩) (by repeat' (first | assumption | exact But.refl _ _ | refine But.drew ?_ | refine But.drewN ?_ _)) ?_
      simp only [Act.put, List.setIfInBounds_toArray, List.set_cons_zero, List.set_cons_succ]
      refine anyR_take (i := 6) (fun _ => trivial) rfl (by kernel_rfl) (fun _ _ _ h => h) (Or.inl ⟨by rfl, fun Y hYb => (by (try dsimp only at hYb); go_simp; rfl)⟩) (by repeat' (first | assumption | exact But.refl _ _ | refine But.drew ?_ | refine But.drewN ?_ _)) ?_
      simp only [Act.put, List.setIfInBounds_toArray, List.set_cons_zero, List.set_cons_succ]
      refine anyR_take (i := 7) (fun _ => trivial) rfl (by kernel_rfl) (fun _ _ _ h => h) (Or.inl ⟨by rfl, fun Y hYb => (by (try dsimp only at hYb); go_simp; rfl)⟩) (by repeat' (first | assumption | exact But.refl _ _ | refine But.drew ?_ | refine But.drewN ?_ _)) ?_
      simp only [Act.put, List.setIfInBounds_toArray, List.set_cons_zero, List.set_cons_succ]
      refine anyR_take (i := 8) (fun _ => trivial) rfl (by kernel_rfl) (fun _ _ _ h => h) (Or.inl ⟨by rfl, fun Y hYb => (by (try dsimp only at hYb); go_simp; rfl)⟩) (by repeat' (first | assumption | exact But.refl _ _ | refine But.drew ?_ | refine But.drewN ?_ _)) ?_
      simp only [Act.put, List.setIfInBounds_toArray, List.set_cons_zero, List.set_cons_succ]
      refine anyR_done (by kernel_rfl) ?_ _
    · have hst := hend hSx
      have r6 := (P6.but hs4 id).at_ 0 rfl; have f6 := (P6.but hs4 id).free; have l6 := (P6.but hs4 id).lt
      clear hlk u0 u1 u2 u3 u4 u5 r0 hgo hend
      gi_wp2_with fail
      exact ⟨_, (hst _ (by repeat' (first | assumption | exact But.refl _ _ | refine But.drew ?_ | refine But.drewN ?_ _ | exact But.set_ (by repeat' (first | assumption | exact But.refl _ _ | refine But.drew ?_ | refine But.drewN ?_ _)) (.inl rfl) _ | exact But.set_ (by repeat' (first | assumption | exact But.refl _ _ | refine But.drew ?_ | refine But.drewN ?_ _)) (.inr rfl) _))).1, Grw.refl _ _, (hst _ (by repeat' (first | assumption | exact But.refl _ _ | refine But.drew ?_ | refine But.drewN ?_ _ | exact But.set_ (by repeat' (first | assumption | exact But.refl _ _ | refine But.drew ?_ | refine But.drewN ?_ _)) (.inl rfl) _ | exact But.set_ (by repeat' (first | assumption | exact But.refl _ _ | refine But.drew ?_ | refine But.drewN ?_ _)) (.inr rfl) _))).2⟩
    · have hst := hgo hSx
      clear hlk u0 u1 u2 u3 u4 u5 r0 hgo hend
      gi_wp2_with fail
      exact ⟨_, (hst _ (by repeat' (first | assumption | exact But.refl _ _ | refine But.drew ?_ | refine But.drewN ?_ _ | exact But.set_ (by repeat' (first | assumption | exact But.refl _ _ | refine But.drew ?_ | refine But.drewN ?_ _)) (.inl rfl) _ | exact But.set_ (by repeat' (first | assumption | exact But.refl _ _ | refine But.drew ?_ | refine But.drewN ?_ _)) (.inr rfl) _))).1, Grw.refl _ _, (hst _ (by repeat' (first | assumption | exact But.refl _ _ | refine But.drew ?_ | refine But.drewN ?_ _ | exact But.set_ (by repeat' (first | assumption | exact But.refl _ _ | refine But.drew ?_ | refine But.drewN ?_ _)) (.inl rfl) _ | exact But.set_ (by repeat' (first | assumption | exact But.refl _ _ | refine But.drew ?_ | refine But.drewN ?_ _)) (.inr rfl) _))).2⟩
  case hdone =>
    rintro Dd C X hDd hnD ⟨rfl, h5, h6, _, hS, hB, hM⟩ hbut hgC hdef
    have r6 := h6.at_ 0 rfl; have f6 := h6.free; have l6 := h6.lt
    have hall : L.all S = true := List.all_eq_true.2 hS
    have HA := hid hall; clear hall
    gi_wp2
    have hd1 : (X.setCell ⟨w.heap.size + 1 + 1 + 1, 0, none⟩ (.bool true)).heap[Dd]? = some (.deferred (some [])) := by
      rw [Below.heap_setCell _ _ _ _ (by dsimp only; omega)]
      exact hdef
    have hbp := but_putObj (X.setCell ⟨w.heap.size + 1 + 1 + 1, 0, none⟩ (.bool true)) Dd (.deferred none)
    have c6 := ((h6.set_ 0 (by simp) (.bool true)).but hbp (by omega)).at_ 0 rfl
    have B5 : Below w.heap.size w (X.setCell ⟨w.heap.size + 1 + 1 + 1, 0, none⟩ (.bool true)) := by (repeat' (first | with_reducible assumption | with_reducible exact Below.refl _ _ | with_reducible refine Below.drew ?_ | with_reducible refine below_drewN ?_ _ | with_reducible refine balloc ?_ _ | with_reducible refine bset ?_ ?_ _ | with_reducible refine Below.setCell ?_ ?_ _ | with_reducible refine Below.alloc ?_ ?_ _ | omega | (simp; done) | (simp; omega)))
    have B6 := B5.trans (⟨hbp.os, hbp.tape, hbp.output, hbp.size, fun z hz => hbp.block z (by have := B5.size; omega) (by omega)⟩ : Below w.heap.size _ _)
    refine ⟨by simp, .inl ⟨_, _, rfl, run_takeDeferred hd1, ?_⟩⟩
    refine ⟨.bool true, by simp [results, Tryz.results71, go_sem, c6], ?_⟩
    rw [HA.out]
    exact ⟨rfl, B6⟩
  case hstop =>
    rintro Dd c pre C X hDd hnD hpre ⟨rfl, rfl, h6, ⟨x, hx, hbad⟩, hB, hM⟩ hbut hgC hdef
    have hmem : x ∈ L := by obtain ⟨t, ht⟩ := hpre; rw [← ht]; exact List.mem_append.2 (.inl hx)
    have hall : L.all S = false := by
      rw [← Bool.not_eq_true, List.all_eq_true]
      intro h; have := h x hmem; rw [hbad] at this; cases this
    have HA := hid hall; clear hall
    gi_wp2
    have hbp := but_putObj X Dd (.deferred none)
    have c6 := (h6.but hbp (by omega)).at_ 0 rfl
    have B6 := hB.trans (⟨hbp.os, hbp.tape, hbp.output, hbp.size, fun z hz => hbp.block z (by have := hB.size; omega) (by omega)⟩ : Below w.heap.size _ _)
    refine ⟨by simp, .inl ⟨_, _, rfl, run_takeDeferred hdef, ?_⟩⟩
    refine ⟨.bool false, by simp [results, Tryz.results71, go_sem, c6], ?_⟩
    rw [HA.out]
    exact ⟨rfl, B6⟩
end Go.Proofs.YteabkcbajpjkoaaGreat
/- Plain words and walk: valid sites, of the program. Walk: Valid, of the program. -/
namespace Go.Proofs.YteabkcbajpjkoaaGreat
open Go Go.RowKit
set_option linter.unusedVariables false
theorem massTo_congr {g h : Nat → C4} : ∀ {n}, (∀ k, k < n → g k = h k) → massTo g n = massTo h n
  | 0, _ => rfl
  | n + 1, e => by simp only [massTo]; rw [massTo_congr fun k hk => e k (by omega), e n (by omega)]
theorem sc_of_own {W : World} {base n : Nat} {v : Value} {f : Nat → C4} (h : W.ownsRow base 49 4 v n (rowC f n)) : ∃ a c, v = .slice a n c ∧ Sc W a n f := by
  rcases h.2 with ⟨rfl, h0⟩ | ⟨g, cap, cur, rfl, hb, hh, hn, hm, hc, ht⟩
  · exact ⟨none, 0, by rw [h0], fun k hk => by omega⟩
  · by_cases h0 : 0 < n
    · obtain ⟨_, hr⟩ := roC_of_own h h0
      exact ⟨_, _, rfl, hr.sc⟩
    · exact ⟨_, _, rfl, fun k hk => by omega⟩
end Go.Proofs.YteabkcbajpjkoaaGreat
/- Walks: find and ready, of the reference. Plain words and laws: the grid that is merged of sites and a post. No program in sight. -/
namespace Go.Proofs.YteabkcbajpjkoaaGreat
open Go Go.RowKit
set_option linter.unusedVariables false
set_option linter.unusedSimpArgs false
/-- is all that is due to a site in the post? -/
def readyB (W H : Nat) (o : Nat → Int) (no q : Nat) (p : Nat → N6) (nd st : Int) : Bool := st == 0 || (dueL W H o nd st no).all (fun x => metB p x q)
end Go.Proofs.YteabkcbajpjkoaaGreat
namespace Go.Proofs.YteabkcbajpjkoaaGreat
open Go Go.RowKit
set_option linter.unusedVariables false
/-- a cell with another number in one direction -/
def C4.with (c : C4) (d : Nat) (v : Int) : C4 := match d with | 0 => { c with e := v } | 1 => { c with n := v } | 2 => { c with w := v } | _ => { c with s := v }
theorem C4.with_get (c : C4) {d k : Nat} (v : Int) (hd : d < 4) (hk : k < 4) : (c.with d v).get k = if k = d then v else c.get k := by
  rcases (by omega : d = 0 ∨ d = 1 ∨ d = 2 ∨ d = 3) with rfl | rfl | rfl | rfl <;> rcases (by omega : k = 0 ∨ k = 1 ∨ k = 2 ∨ k = 3) with rfl | rfl | rfl | rfl <;> rfl
theorem C4.with_mass (c : C4) {d : Nat} (v : Int) (hd : d < 4) : (c.with d v).mass = c.mass - c.get d + v := by
  rcases (by omega : d = 0 ∨ d = 1 ∨ d = 2 ∨ d = 3) with rfl | rfl | rfl | rfl <;> simp [C4.with, C4.mass, C4.get] <;> omega
theorem flatC_with (g : Nat → C4) (i : Nat) {d : Nat} (v : Int) (hd : d < 4) : upd (flatC g) (i * 4 + d) v = flatC (updC g i ((g i).with d v)) := by
  refine flatC_ext fun j k hk => ?_
  simp only [upd, updC]
  by_cases e : j = i
  · subst e
    rw [if_pos rfl, C4.with_get _ _ hd hk, flatC_at _ _ _ hk]
    by_cases e2 : k = d
    · subst e2; simp
    · rw [if_neg (by omega), if_neg e2]
  · rw [if_neg (by omega), if_neg e, flatC_at _ _ _ hk]
theorem massTo_updC (G : Nat → C4) (i : Nat) (c : C4) : ∀ n, i < n → massTo (updC G i c) n = massTo G n - (G i).mass + c.mass
  | 0, h => by omega
  | n + 1, h => by
    simp only [massTo]
    by_cases e : i = n
    · subst e
      have : massTo (updC G i c) i = massTo G i := massTo_congr fun k hk => by simp only [updC]; rw [if_neg (by omega)]
      rw [this]
      simp only [updC, if_pos]; omega
    · rw [massTo_updC G i c n (by omega)]
      have : updC G i c n = G n := by simp only [updC]; rw [if_neg (by omega)]
      rw [this]; omega
/-- no number of a cell is below 0 -/
def nnC (c : C4) : Prop := 0 ≤ c.e ∧ 0 ≤ c.n ∧ 0 ≤ c.w ∧ 0 ≤ c.s
theorem nnC_iff (c : C4) : nnC c ↔ ∀ d, d < 4 → 0 ≤ c.get d := by
  constructor
  · rintro ⟨h0, h1, h2, h3⟩ d hd
    rcases (by omega : d = 0 ∨ d = 1 ∨ d = 2 ∨ d = 3) with rfl | rfl | rfl | rfl <;> assumption
  · intro h
    exact ⟨h 0 (by omega), h 1 (by omega), h 2 (by omega), h 3 (by omega)⟩
theorem nnC_mass {c : C4} (h : nnC c) : 0 ≤ c.mass := by obtain ⟨h0, h1, h2, h3⟩ := h; simp only [C4.mass]; omega
theorem valid_nn {c : C4} (h : validC c = true) : nnC c := by obtain ⟨h0, h1, h2, h3, _⟩ := (validC_iff c).1 h; exact ⟨h0, h1, h2, h3⟩
theorem nn_valid {c : C4} (h : nnC c) (hm : c.mass ≤ 1000000000) : validC c = true := (validC_iff c).2 ⟨h.1, h.2.1, h.2.2.1, h.2.2.2, hm⟩
theorem nn_mass_le {G : Nat → C4} : ∀ {n}, (∀ i, i < n → nnC (G i)) → (0 ≤ massTo G n ∧ ∀ i, i < n → (G i).mass ≤ massTo G n)
  | 0, _ => ⟨by simp [massTo], fun i hi => by omega⟩
  | n + 1, h => by
    obtain ⟨h1, h2⟩ := nn_mass_le (n := n) fun i hi => h i (by omega)
    have h3 := nnC_mass (h n (by omega))
    simp only [massTo]
    refine ⟨by omega, fun i hi => ?_⟩
    by_cases e : i = n
    · subst e; omega
    · have := h2 i (by omega); omega
/-- the first cells of a site, laid into a grid -/
def layTo (G : Nat → C4) (s : SiteR) : Nat → Nat → C4 | 0 => G | k + 1 => updC (layTo G s k) (s.I k).toNat (s.C k)
/-- the cells of the first sites -/
def layS (f : Nat → SiteR) : Nat → Nat → C4 | 0 => fun _ => C4.zero | k + 1 => layTo (layS f k) (f k) (f k).ni
/-- a note's count, put into a grid -/
def addC (G : Nat → C4) (x : N6) : Nat → C4 := updC G x.ce.toNat ((G x.ce.toNat).with x.di.toNat ((G x.ce.toNat).get x.di.toNat + x.co))
/-- the counts of the first notes -/
def addTo (G : Nat → C4) (p : Nat → N6) : Nat → Nat → C4 | 0 => G | k + 1 => addC (addTo G p k) (p k)
def coS (p : Nat → N6) (k : Nat) : Int := sumTo (fun j => (p j).co) k
/-- a site whose cells may be laid into a grid of n cells -/
def fitS (n : Nat) (s : SiteR) : Prop := s.nc = s.ni ∧ (∀ k, k < s.ni → 0 ≤ s.I k ∧ s.I k < n) ∧ ∀ k, k < s.ni → validC (s.C k) = true
/-- a note whose count may be put into a grid of n cells -/
def fitN (n : Nat) (x : N6) : Prop := 0 ≤ x.ce ∧ x.ce < n ∧ 0 ≤ x.di ∧ x.di ≤ 3 ∧ 0 ≤ x.co ∧ x.co ≤ 1000000000
theorem layTo_valid {n : Nat} {G : Nat → C4} {s : SiteR} (hs : fitS n s) (hG : ∀ i, validC (G i) = true) : ∀ k, k ≤ s.ni → ∀ i, validC (layTo G s k i) = true
  | 0, _, i => hG i
  | k + 1, hk, i => by
    simp only [layTo, updC]
    split
    · exact hs.2.2 k (by omega)
    · exact layTo_valid hs hG k (by omega) i
theorem layS_valid {n : Nat} {f : Nat → SiteR} : ∀ k, (∀ j, j < k → fitS n (f j)) → ∀ i, validC (layS f k i) = true
  | 0, _, i => by simp only [layS]; decide
  | k + 1, h, i => layTo_valid (h k (by omega)) (layS_valid k fun j hj => h j (by omega)) _ (Nat.le_refl _) i
theorem addTo_spec {n : Nat} {G : Nat → C4} {p : Nat → N6} (hG : ∀ i, validC (G i) = true) : ∀ k, (∀ j, j < k → fitN n (p j)) →
    (∀ i d, d < 4 → 0 ≤ (addTo G p k i).get d ∧ (addTo G p k i).get d ≤ (k + 1) * 1000000000) ∧ massTo (addTo G p k) n = massTo G n + coS p k
  | 0, _ => by
    refine ⟨fun i d hd => ?_, by simp [addTo, coS, sumTo]⟩
    have := get_le _ d hd (hG i)
    simpa [addTo] using this
  | k + 1, h => by
    obtain ⟨h1, h2⟩ := addTo_spec hG k fun j hj => h j (by omega)
    obtain ⟨n1, n2, n3, n4, n5, n6⟩ := h k (by omega)
    have hd : (p k).di.toNat < 4 := by omega
    obtain ⟨b1, b2⟩ := h1 (p k).ce.toNat _ hd
    refine ⟨fun i d hd' => ?_, ?_⟩
    · simp only [addTo, addC, updC]
      split
      · rw [C4.with_get _ _ hd hd']
        split
        · omega
        · obtain ⟨c1, c2⟩ := h1 (p k).ce.toNat d hd'; omega
      · obtain ⟨c1, c2⟩ := h1 i d hd'; omega
    · simp only [addTo, addC]
      rw [massTo_updC _ _ _ _ (by omega), C4.with_mass _ _ hd, h2]
      simp only [coS, sumTo]; omega
theorem coS_nonneg {n : Nat} {p : Nat → N6} : ∀ k, (∀ j, j < k → fitN n (p j)) → 0 ≤ coS p k ∧ coS p k ≤ k * 1000000000
  | 0, _ => by simp [coS, sumTo]
  | k + 1, h => by
    have h1 := coS_nonneg k fun j hj => h j (by omega)
    obtain ⟨n1, n2, n3, n4, n5, n6⟩ := h k (by omega)
    have e : coS p (k + 1) = coS p k + (p k).co := rfl
    omega
theorem site_fit {o : Nat → Int} {no : Nat} {s : SiteR} (h : siteB o no s = true) : fitS no s := by
  obtain ⟨_, h2, h3, h4⟩ := siteB_iff.1 h
  obtain ⟨e1, e2⟩ := sameL_iff.1 h2
  refine ⟨by omega, fun k hk => ?_, fun k hk => ((massB_iff _ _).1 h4).1 k (by omega)⟩
  have hm : s.I k ∈ ownL o s.nd no := by
    rw [e2 k hk, List.getD_eq_getElem?_getD, List.getElem?_eq_getElem (by omega)]; exact List.getElem_mem _
  obtain ⟨j, hj, e, _⟩ := ownL_mem.1 hm
  omega
theorem post_fit {W H : Nat} {o : Nat → Int} {no q : Nat} {p : Nat → N6} (h : postB W H o no q p = true) : ∀ k, k < q → fitN no (p k) := fun k hk => by
  obtain ⟨hr, _⟩ := noteB_iff.1 ((postB_iff.1 h).2.1 k hk)
  obtain ⟨_, ⟨h2, h3⟩, ⟨h4, h5⟩, h6, h7⟩ := noteR_iff.1 hr
  exact ⟨h2, by omega, h4, h5, h6, h7⟩
end Go.Proofs.YteabkcbajpjkoaaGreat
/- Plain law: the numbers of the notes that are due. Walks: Neighbours, of the program and of the reference. Walk: Neighbours of the reference. -/
namespace Go.Proofs.YteabkcbajpjkoaaGreat
open Go Go.RowKit
set_option linter.unusedVariables false
theorem dueC_num {W H : Nat} {o : Nat → Int} {nd st : Int} {i : Nat} : ∀ {d}, ∀ x ∈ dueC W H o nd st i d, x.st = st ∧ x.to = nd ∧ x.ce = i ∧ 0 ≤ x.di ∧ x.di < d ∧ x.co = 0
  | 0, x, h => by simp [dueC] at h
  | d + 1, x, h => by
    have up : ∀ x ∈ dueC W H o nd st i d, x.st = st ∧ x.to = nd ∧ x.ce = i ∧ 0 ≤ x.di ∧ x.di < (d + 1 : Nat) ∧ x.co = 0 := fun x h => by
      obtain ⟨a1, a2, a3, a4, a5, a6⟩ := dueC_num x h
      exact ⟨a1, a2, a3, a4, by omega, a6⟩
    simp only [dueC] at h
    split at h
    · exact up x h
    · rcases List.mem_append.1 h with h | h
      · exact up x h
      · rw [List.mem_singleton] at h; subst h; exact ⟨rfl, rfl, rfl, by simp, (by show (d : Int) < ((d + 1 : Nat) : Int); omega), rfl⟩
theorem dueL_num {W H : Nat} {o : Nat → Int} {nd st : Int} : ∀ {n}, ∀ x ∈ dueL W H o nd st n, x.st = st ∧ x.to = nd ∧ 0 ≤ x.ce ∧ x.ce < n ∧ 0 ≤ x.di ∧ x.di < 4 ∧ x.co = 0
  | 0, x, h => by simp [dueL] at h
  | n + 1, x, h => by
    have up : ∀ x ∈ dueL W H o nd st n, x.st = st ∧ x.to = nd ∧ 0 ≤ x.ce ∧ x.ce < (n + 1 : Nat) ∧ 0 ≤ x.di ∧ x.di < 4 ∧ x.co = 0 := fun x h => by
      obtain ⟨a1, a2, a3, a4, a5⟩ := dueL_num x h
      exact ⟨a1, a2, a3, by omega, a5⟩
    simp only [dueL] at h
    split at h
    · rcases List.mem_append.1 h with h | h
      · exact up x h
      · obtain ⟨a1, a2, a3, a4, a5, a6⟩ := dueC_num x h
        exact ⟨a1, a2, by omega, by omega, a4, by omega, a6⟩
    · exact up x h
end Go.Proofs.YteabkcbajpjkoaaGreat
/- Plain words and laws: the order of notes, and notes in order. No program in sight. -/
namespace Go.Proofs.YteabkcbajpjkoaaGreat
open Go Go.RowKit
set_option linter.unusedVariables false
/-- the numbers of a note, in the order in which notes are compared -/
def keyN (x : N6) : List Int := [x.st, x.to, x.ce, x.di, x.fr, x.co]
theorem keyN_inj {x y : N6} (h : keyN x = keyN y) : x = y := by
  simp only [keyN, List.cons.injEq, and_true] at h
  cases x; cases y; simp_all
def lexL : List Int → List Int → Bool | a :: l, b :: m => if a = b then lexL l m else decide (a < b) | _, _ => false
def cmpL : List Int → List Int → Int | a :: l, b :: m => if a = b then cmpL l m else if a < b then -1 else 1 | _, _ => 0
/-- does x stand before y? -/
def befN (x y : N6) : Bool := lexL (keyN x) (keyN y)
def cmpN (x y : N6) : Int := cmpL (keyN x) (keyN y)
theorem cmpL_lt : ∀ l m, decide (cmpL l m < 0) = lexL l m
  | [], [] => rfl
  | [], _ :: _ => rfl
  | _ :: _, [] => rfl
  | a :: l, b :: m => by
    simp only [cmpL, lexL]
    split
    · exact cmpL_lt l m
    · split <;> simp_all
theorem cmpN_lt (x y : N6) : decide (cmpN x y < 0) = befN x y := cmpL_lt _ _
theorem lexL_irrefl : ∀ l, lexL l l = false
  | [] => rfl
  | a :: l => by simp only [lexL, if_true]; exact lexL_irrefl l
theorem lexL_trans : ∀ l m k, lexL l m = true → lexL m k = true → lexL l k = true
  | [], m, k, h, _ => by cases m <;> simp [lexL] at h
  | a :: l, [], k, h, _ => by simp [lexL] at h
  | a :: l, b :: m, [], _, h => by simp [lexL] at h
  | a :: l, b :: m, c :: k, h1, h2 => by
    simp only [lexL] at *
    by_cases e1 : a = b
    · subst e1
      by_cases e2 : a = c
      · subst e2
        simp only [if_true] at *
        exact lexL_trans l m k h1 h2
      · simp only [if_neg e2] at *; exact h2
    · rw [if_neg e1] at h1
      have h1' : a < b := by simpa using h1
      by_cases e2 : b = c
      · subst e2; rw [if_neg e1]; exact h1
      · rw [if_neg e2] at h2
        have h2' : b < c := by simpa using h2
        rw [if_neg (by omega)]
        simp; omega
theorem lexL_ntrans : ∀ l m k : List Int, l.length = m.length → m.length = k.length → lexL l m = false → lexL m k = false → lexL l k = false
  | [], _, k, _, _, _, _ => by cases k <;> rfl
  | a :: l, [], k, h, _, _, _ => by simp at h
  | a :: l, b :: m, [], _, h, _, _ => by simp at h
  | a :: l, b :: m, c :: k, l1, l2, h1, h2 => by
    simp only [lexL, List.length_cons, Nat.add_right_cancel_iff] at *
    by_cases e1 : a = b
    · subst e1
      by_cases e2 : a = c
      · subst e2
        simp only [if_true] at *
        exact lexL_ntrans l m k l1 l2 h1 h2
      · simp only [if_neg e2] at *; exact h2
    · rw [if_neg e1] at h1
      have h1' : ¬ a < b := by simpa using h1
      by_cases e2 : b = c
      · subst e2; rw [if_neg e1]; exact h1
      · rw [if_neg e2] at h2
        have h2' : ¬ b < c := by simpa using h2
        rw [if_neg (by omega)]
        simp; omega
theorem lexL_total : ∀ l m : List Int, l.length = m.length → lexL l m = false → lexL m l = false → l = m
  | [], [], _, _, _ => rfl
  | [], _ :: _, h, _, _ => by simp at h
  | _ :: _, [], h, _, _ => by simp at h
  | a :: l, b :: m, h, h1, h2 => by
    simp only [lexL, List.length_cons, Nat.add_right_cancel_iff] at *
    by_cases e : a = b
    · subst e
      simp only [if_true] at *
      rw [lexL_total l m h h1 h2]
    · rw [if_neg e] at h1
      rw [if_neg (fun h => e h.symm)] at h2
      have h1' : ¬ a < b := by simpa using h1
      have h2' : ¬ b < a := by simpa using h2
      omega
theorem befN_irrefl (x : N6) : befN x x = false := lexL_irrefl _
theorem befN_trans {x y z : N6} (h1 : befN x y = true) (h2 : befN y z = true) : befN x z = true := lexL_trans _ _ _ h1 h2
theorem befN_ntrans {x y z : N6} (h1 : befN x y = false) (h2 : befN y z = false) : befN x z = false := lexL_ntrans (keyN x) (keyN y) (keyN z) rfl rfl h1 h2
theorem befN_total {x y : N6} (h1 : befN x y = false) (h2 : befN y x = false) : x = y := keyN_inj (lexL_total (keyN x) (keyN y) rfl h1 h2)
theorem befN_asymm {x y : N6} (h : befN x y = true) : befN y x = false := by
  rw [← Bool.not_eq_true]; intro h2
  have := befN_trans h h2
  rw [befN_irrefl] at this; cases this
/-- notes in order -/
def OrdN (l : List N6) : Prop := l.Pairwise fun x y => befN y x = false
/-- put in order -/
def sortN (l : List N6) : List N6 := l.mergeSort fun x y => !befN y x
theorem sortN_perm (l : List N6) : (sortN l).Perm l := List.mergeSort_perm l _
theorem sortN_ord (l : List N6) : OrdN (sortN l) := by
  have h := List.pairwise_mergeSort (le := fun x y => !befN y x) (fun a b c h1 h2 => by
    simp only [Bool.not_eq_true'] at *
    exact befN_ntrans h2 h1) (fun a b => by
    cases h : befN b a
    · rfl
    · simp [befN_asymm h]) l
  exact h.imp fun {a b} h => by simpa using h
theorem ord_unique : ∀ {l m : List N6}, l.Perm m → OrdN l → OrdN m → l = m
  | [], m, h, _, _ => by rw [List.nil_perm.1 h]
  | x :: l, [], h, _, _ => by simpa using h.length_eq
  | x :: l, y :: m, h, hl, hm => by
    obtain ⟨hl1, hl2⟩ := List.pairwise_cons.1 hl
    obtain ⟨hm1, hm2⟩ := List.pairwise_cons.1 hm
    have e : x = y := by
      have h1 : x ∈ y :: m := h.mem_iff.1 (List.mem_cons_self ..)
      have h2 : y ∈ x :: l := h.mem_iff.2 (List.mem_cons_self ..)
      rcases List.mem_cons.1 h1 with e | h1
      · exact e
      rcases List.mem_cons.1 h2 with e | h2
      · exact e.symm
      exact befN_total (hm1 x h1) (hl1 y h2)
    subst e
    rw [ord_unique ((List.perm_cons _).1 h) hl2 hm2]
theorem sortN_eq {l m : List N6} (h : m.Perm l) (ho : OrdN m) : m = sortN l := ord_unique (h.trans (sortN_perm l).symm) ho (sortN_ord l)
theorem sortN_length (l : List N6) : (sortN l).length = l.length := (sortN_perm l).length_eq
instance : Inhabited N6 := ⟨N6.zero⟩
/-- the list of the first n notes -/
def lstN (p : Nat → N6) (n : Nat) : List N6 := (List.range n).map p
theorem lstN_length (p : Nat → N6) (n : Nat) : (lstN p n).length = n := by simp [lstN]
theorem lstN_getD (p : Nat → N6) {n k : Nat} (h : k < n) : (lstN p n).getD k N6.zero = p k := by
  simp [lstN, List.getD_eq_getElem?_getD, h]
theorem sn_row {w : World} {b o n : Nat} {p : Nat → N6} (H : Sn w (some ⟨b, o, none⟩) n p) : ∀ j u, (flatN (lstN p n))[j]? = some u → w.cell? ((⟨b, o, none⟩ : Addr).add j) = some u := fun j u hu => by
  have hl : (flatN (lstN p n)).length = n * 6 := by rw [flatN_length, lstN_length]
  have hj : j < n * 6 := by
    rcases Nat.lt_or_ge j (n * 6) with h | h
    · exact h
    · rw [List.getElem?_eq_none (by omega)] at hu; cases hu
  obtain ⟨b', o', e, _, c⟩ := H (j / 6) (by omega)
  injection e with e; injection e with e1 e2 _
  subst e1 e2
  have h1 := flatN_at (lstN p n) (j / 6) (j % 6) (by rw [lstN_length]; omega) (Nat.mod_lt _ (by omega))
  rw [show j / 6 * 6 + j % 6 = j by omega, hu, lstN_getD _ (by omega)] at h1
  rw [addrAdd, h1, ← c (j % 6) (Nat.mod_lt _ (by omega))]
  congr 2; omega
end Go.Proofs.YteabkcbajpjkoaaGreat
