/- Plain words: lists of sites of the call's own; the sites of a grid. Plain law: what is split, merged, is the grid. Walks: SameSite and SameSites of the reference, of sites that are equal. Walk: split, of the program: the sites of a grid. Walks: Split, of the program and of the reference. -/
import Derived.Test.YteabkcbajpjkoaaGreatPk7
import Derived.Test.YteabkcbajpjkoaaGreatPk3
import Derived.Test.YteabkcbajpjkoaaGreatPk4
import Derived.Test.YteabkcbajpjkoaaGreatPk6
namespace Go.Proofs.YteabkcbajpjkoaaGreat
open Go Go.RowKit
set_option linter.unusedVariables false
def SiteR.row (s : SiteR) : List Value := [.int .i64 s.nd, .int .i64 s.st, .slice s.ix s.ni s.ci, .slice s.cl s.nc s.cc]
def flatS (xs : List SiteR) : List Value := xs.flatMap SiteR.row
theorem flatS_length : ∀ xs : List SiteR, (flatS xs).length = xs.length * 4
  | [] => rfl
  | x :: xs => by
    have h : (xs.flatMap SiteR.row).length = xs.length * 4 := flatS_length xs
    simp only [flatS, List.flatMap_cons, List.length_append, List.length_cons]
    rw [h, show x.row.length = 4 from rfl]; omega
theorem flatS_at : ∀ (xs : List SiteR) (k j : Nat), k < xs.length → j < 4 → (flatS xs)[k * 4 + j]? = (xs.getD k SiteR.zero).row[j]?
  | [], k, j, h, _ => by simp at h
  | x :: xs, 0, j, _, hj => by
    simp only [flatS, List.flatMap_cons]
    rw [List.getElem?_append_left (by rw [show x.row.length = 4 from rfl]; omega), show 0 * 4 + j = j by omega]
    rfl
  | x :: xs, k + 1, j, h, hj => by
    have ih := flatS_at xs k j (by simpa using h) hj
    simp only [flatS, List.flatMap_cons]
    rw [List.getElem?_append_right (by rw [show x.row.length = 4 from rfl]; omega), show (k + 1) * 4 + j - x.row.length = k * 4 + j by rw [show x.row.length = 4 from rfl]; omega]
    rw [show (x :: xs).getD (k + 1) SiteR.zero = xs.getD k SiteR.zero from rfl]
    exact ih
theorem infoS : (Tryz.prog.info? 98).map (fun i => (i.zero, i.size, i.bytes)) = some (some (.agg #[.int .i64 0, .int .i64 0, .slice none 0 0, .slice none 0 0]), 4, 64) := by kernel_rfl
/-- an own list of sites -/
def OwnS (w : World) (base : Nat) (v : Value) (xs : List SiteR) : Prop := w.ownsRow base 98 4 v xs.length (flatS xs)
theorem ownS_nil (w : World) (base : Nat) : OwnS w base (.slice none 0 0) [] := World.ownsRow_nil ..
theorem ownS_snoc {w : World} {base : Nat} {v : Value} {xs : List SiteR} {x : SiteR} (h : w.ownsRow base 98 4 v (xs.length + 1) (flatS xs ++ x.row)) : OwnS w base v (xs ++ [x]) := by
  unfold OwnS
  rw [List.length_append, flatS, List.flatMap_append]
  simpa [flatS] using h
theorem ss_of_own {w : World} {base : Nat} {v : Value} {xs : List SiteR} (h : OwnS w base v xs) (hl : ∀ k, k < xs.length → (xs.getD k SiteR.zero).lies w) : ∃ a c, v = .slice a xs.length c ∧ Ss w a xs.length (fun k => xs.getD k SiteR.zero) := by
  rcases h.2 with ⟨rfl, h0⟩ | ⟨g, cap, cur, rfl, hb, hh, hn, hm, hc, ht⟩
  · exact ⟨none, 0, by rw [h0], fun k hk => by omega⟩
  · refine ⟨some ⟨g, 0, none⟩, cap, rfl, fun k hk => ⟨g, 0, rfl, ?_, ?_, ?_, ?_, ?_, hl k hk⟩⟩
    · rcases Nat.lt_or_ge g w.heap.size with h' | h'
      · exact h'
      · rw [Array.getElem?_eq_none h'] at hh; cases hh
    all_goals
      have h1 := fun j hj => flatS_at xs k j hk hj
      rw [← ht] at h1
      rw [Nat.zero_add, cell_of_row w g _ cur 98 (0, 0) hh]
    · have h2 := h1 0 (by omega)
      rw [List.getElem?_take, if_pos (by omega)] at h2
      simpa [SiteR.row] using h2
    · have h2 := h1 1 (by omega)
      rw [List.getElem?_take, if_pos (by omega)] at h2
      simpa [SiteR.row] using h2
    · have h2 := h1 2 (by omega)
      rw [List.getElem?_take, if_pos (by omega)] at h2
      simpa [SiteR.row] using h2
    · have h2 := h1 3 (by omega)
      rw [List.getElem?_take, if_pos (by omega)] at h2
      simpa [SiteR.row] using h2
theorem own_butS {C : Nat → Prop} {X Y : World} {base : Nat} {e : TypeId} {size n : Nat} {v : Value} {xs : List Value} (h : X.ownsRow base e size v n xs) (hb : But C X Y) (hne : ∀ g, v.ownBlock = some g → ¬ C g) : Y.ownsRow base e size v n xs := by
  refine ⟨h.1, ?_⟩
  rcases h.2 with h' | ⟨g, cap, cur, rfl, hbs, hh, rest⟩
  · exact .inl h'
  · refine .inr ⟨g, cap, cur, rfl, hbs, ?_, rest⟩
    rw [hb.block g (own_lt h g rfl) (hne g rfl)]
    exact hh
theorem but_grownS {C : Nat → Prop} {X Y Z : World} {row : Option Nat} (h : But C X Y) (hg : Y.grownBy Z row) (hr : ∀ g, row = some g → C g ∨ X.heap.size ≤ g) : But C X Z :=
  ⟨hg.os.trans h.os, hg.tape.trans h.tape, hg.output.trans h.output, Nat.le_trans h.size hg.size, fun b hb hc => (hg.block b (Nat.lt_of_lt_of_le hb h.size) (fun e => by rcases hr b e.symm with h' | h'; exact hc h'; omega)).trans (h.block b hb hc)⟩
theorem Sl.butS {X Y : World} {C : Nat → Prop} {a : Option Addr} {n : Nat} {f : Nat → Int} (h : Sl X a n f) (hb : But C X Y) (hne : ∀ b o, a = some ⟨b, o, none⟩ → ¬ C b) : Sl Y a n f := fun k hk => by
  obtain ⟨b, off, e, hlt, c⟩ := h k hk
  exact ⟨b, off, e, Nat.lt_of_lt_of_le hlt hb.size, (World.cell?_of_block (hb.block b hlt (hne b off e))).trans c⟩
theorem getD_snoc {α : Type} (xs : List α) (x d : α) : (xs ++ [x]).getD xs.length d = x := by simp [List.getD_eq_getElem?_getD]
theorem getD_app {α : Type} {xs ys : List α} {k : Nat} (d : α) (h : k < xs.length) : (xs ++ ys).getD k d = xs.getD k d := by
  rw [List.getD_eq_getElem?_getD, List.getD_eq_getElem?_getD, List.getElem?_append_left h]
theorem rowC_snoc (C : Nat → C4) (j : Nat) : rowC C (j + 1) = rowC C j ++ [.int .i64 (C j).e, .int .i64 (C j).n, .int .i64 (C j).w, .int .i64 (C j).s] := by
  unfold rowC
  rw [show (j + 1) * 4 = j * 4 + 1 + 1 + 1 + 1 by omega]
  simp only [List.range_succ, List.map_append, List.map_cons, List.map_nil, List.append_assoc, List.cons_append, List.nil_append]
  rw [flatC_at0, flatC_at1, show j * 4 + 1 + 1 = j * 4 + 2 by omega, flatC_at2, show j * 4 + 2 + 1 = j * 4 + 3 by omega, flatC_at3]
/-- the site's slices do not lie in the block gb -/
def SiteR.off (s : SiteR) (gb : Nat) : Prop := (∀ b o, s.ix = some ⟨b, o, none⟩ → b ≠ gb) ∧ (∀ b o, s.cl = some ⟨b, o, none⟩ → b ≠ gb)
theorem Sl.grown {w w' : World} {a : Option Addr} {n : Nat} {f : Nat → Int} {row : Option Nat} (h : Sl w a n f) (hg : w.grownBy w' row) (hne : ∀ b o, a = some ⟨b, o, none⟩ → some b ≠ row) : Sl w' a n f := fun k hk => by
  obtain ⟨b, off, e, hb, c⟩ := h k hk
  exact ⟨b, off, e, by have := hg.size; omega, (World.cell?_of_block (hg.block b hb (hne b off e))).trans c⟩
theorem Sc.grown {w w' : World} {a : Option Addr} {n : Nat} {f : Nat → C4} {row : Option Nat} (h : Sc w a n f) (hg : w.grownBy w' row) (hne : ∀ b o, a = some ⟨b, o, none⟩ → some b ≠ row) : Sc w' a n f := fun k hk => by
  obtain ⟨b, off, e, hb, c0, c1, c2, c3⟩ := h k hk
  have hh : ∀ o, w'.cell? ⟨b, o, none⟩ = w.cell? ⟨b, o, none⟩ := fun o => World.cell?_of_block (hg.block b hb (hne b off e))
  exact ⟨b, off, e, by have := hg.size; omega, (hh _).trans c0, (hh _).trans c1, (hh _).trans c2, (hh _).trans c3⟩
theorem SiteR.lies.grown {w w' : World} {s : SiteR} {row : Option Nat} (h : s.lies w) (hg : w.grownBy w' row) (hne : ∀ gb, row = some gb → s.off gb) : s.lies w' :=
  ⟨h.1.grown hg (fun b o e r => (hne b r.symm).1 b o e rfl), h.2.1.grown hg (fun b o e r => (hne b r.symm).2 b o e rfl), h.2.2⟩
theorem SiteR.lies.but {w w' : World} {s : SiteR} {C : Nat → Prop} (h : s.lies w) (hb : But C w w') (hne : ∀ b o, (s.ix = some ⟨b, o, none⟩ ∨ s.cl = some ⟨b, o, none⟩) → ¬ C b) : s.lies w' := by
  refine ⟨fun k hk => ?_, fun k hk => ?_, h.2.2⟩
  · obtain ⟨b, off, e, hlt, c⟩ := h.1 k hk
    exact ⟨b, off, e, Nat.lt_of_lt_of_le hlt hb.size, (World.cell?_of_block (hb.block b hlt (hne b off (.inl e)))).trans c⟩
  · obtain ⟨b, off, e, hlt, c0, c1, c2, c3⟩ := h.2.1 k hk
    have hh : ∀ o, w'.cell? ⟨b, o, none⟩ = w.cell? ⟨b, o, none⟩ := fun o => World.cell?_of_block (hb.block b hlt (hne b off (.inr e)))
    exact ⟨b, off, e, Nat.lt_of_lt_of_le hlt hb.size, (hh _).trans c0, (hh _).trans c1, (hh _).trans c2, (hh _).trans c3⟩
/-- the site of a node of a grid that has not gone a step -/
def splitS (o : Nat → Int) (no : Nat) (g : Nat → C4) (nd : Int) (s : SiteR) : Prop :=
  s.nd = nd ∧ s.st = 0 ∧ s.ni = (ownL o nd no).length ∧ s.nc = s.ni ∧ ∀ j, j < s.ni → s.I j = (ownL o nd no).getD j 0 ∧ s.C j = g ((ownL o nd no).getD j 0).toNat
theorem ownL_getD {o : Nat → Int} {nd : Int} {no j : Nat} (hj : j < (ownL o nd no).length) : ∃ i : Nat, (ownL o nd no).getD j 0 = i ∧ i < no ∧ o i = nd := by
  have hm : (ownL o nd no).getD j 0 ∈ ownL o nd no := by
    rw [List.getD_eq_getElem?_getD, List.getElem?_eq_getElem hj]; exact List.getElem_mem _
  obtain ⟨i, h1, h2, h3⟩ := ownL_mem.1 hm
  exact ⟨i, h2, h1, h3⟩
/-- what split gives: an own list of the sites of the nodes of a list -/
def SplitOwn (o : Nat → Int) (no : Nat) (g : Nat → C4) (L : List Int) (base : Nat) (W : World) (v : Value) (xs : List SiteR) : Prop :=
  OwnS W base v xs ∧ xs.length = L.length ∧ ∀ k, k < L.length → splitS o no g (L.getD k 0) (xs.getD k SiteR.zero) ∧ (xs.getD k SiteR.zero).lies W ∧ (∀ b of, ((xs.getD k SiteR.zero).ix = some ⟨b, of, none⟩ ∨ (xs.getD k SiteR.zero).cl = some ⟨b, of, none⟩) → base ≤ b ∧ b < W.heap.size) ∧ ∀ gb, v.ownBlock = some gb → (xs.getD k SiteR.zero).off gb
def SplitPost (o : Nat → Int) (no : Nat) (g : Nat → C4) (L : List Int) (w : World) (e : Ending) (w' : World) : Prop :=
  ∃ v xs, e = .returned v ∧ SplitOwn o no g L w.heap.size w' v xs ∧ Below w.heap.size w w'
end Go.Proofs.YteabkcbajpjkoaaGreat
namespace Go.Proofs.YteabkcbajpjkoaaGreat
open Go Go.RowKit
set_option linter.unusedVariables false
theorem layTo_split {o : Nat → Int} {no : Nat} {g : Nat → C4} {nd : Int} {s : SiteR} (h : splitS o no g nd s) (G : Nat → C4) (i : Nat) : ∀ k, k ≤ s.ni → layTo G s k i = if ∃ j, j < k ∧ s.I j = i then g i else G i
  | 0, _ => by rw [if_neg (by rintro ⟨j, hj, _⟩; omega)]; rfl
  | k + 1, hk => by
    have ih := layTo_split h G i k (by omega)
    obtain ⟨h1, h2, h3, h4, h5⟩ := h
    obtain ⟨e1, e2⟩ := h5 k (by omega)
    obtain ⟨i2, f1, f2, _⟩ := ownL_getD (o := o) (nd := nd) (no := no) (j := k) (by omega)
    simp only [layTo, updC]
    rw [e1, f1, Int.toNat_natCast, e2, f1, Int.toNat_natCast]
    by_cases e : i = i2
    · subst e
      rw [if_pos rfl, if_pos ⟨k, by omega, by rw [e1, f1]⟩]
    · rw [if_neg e, ih]
      by_cases hx : ∃ j, j < k ∧ s.I j = i
      · obtain ⟨j, hj, hj2⟩ := hx
        rw [if_pos ⟨j, hj, hj2⟩, if_pos ⟨j, by omega, hj2⟩]
      · rw [if_neg hx, if_neg]
        rintro ⟨j, hj, hj2⟩
        by_cases ej : j = k
        · subst ej; rw [e1, f1] at hj2; omega
        · exact hx ⟨j, by omega, hj2⟩
theorem layS_split {o : Nat → Int} {no : Nat} {g : Nat → C4} {L : List Int} {F : Nat → SiteR} {i : Nat} (hi : i < no) : ∀ m, (∀ k, k < m → splitS o no g (L.getD k 0) (F k)) → layS F m i = if ∃ k, k < m ∧ o i = L.getD k 0 then g i else C4.zero
  | 0, _ => by rw [if_neg (by rintro ⟨k, hk, _⟩; omega)]; rfl
  | m + 1, h => by
    have ih := layS_split hi m fun k hk => h k (by omega)
    have hs := h m (by omega)
    simp only [layS]
    rw [layTo_split hs _ _ _ (Nat.le_refl _), ih]
    obtain ⟨h1, h2, h3, h4, h5⟩ := hs
    have hx : (∃ j, j < (F m).ni ∧ (F m).I j = i) ↔ o i = L.getD m 0 := by
      constructor
      · rintro ⟨j, hj, e⟩
        obtain ⟨i2, f1, f2, f3⟩ := ownL_getD (o := o) (nd := L.getD m 0) (no := no) (j := j) (by omega)
        rw [(h5 j hj).1, f1] at e
        rw [← f3]; congr 1; omega
      · intro e
        have hm : (i : Int) ∈ ownL o (L.getD m 0) no := ownL_mem.2 ⟨i, hi, rfl, e⟩
        obtain ⟨j, hj, e2⟩ := List.getElem_of_mem hm
        exact ⟨j, by omega, by rw [(h5 j (by omega)).1, List.getD_eq_getElem?_getD, List.getElem?_eq_getElem hj]; exact e2⟩
    by_cases e : o i = L.getD m 0
    · rw [if_pos (hx.2 e), if_pos ⟨m, by omega, e⟩]
    · rw [if_neg (fun hc => e (hx.1 hc))]
      by_cases hk : ∃ k, k < m ∧ o i = L.getD k 0
      · obtain ⟨k, hk1, hk2⟩ := hk
        rw [if_pos ⟨k, hk1, hk2⟩, if_pos ⟨k, by omega, hk2⟩]
      · rw [if_neg hk, if_neg]
        rintro ⟨k, hk1, hk2⟩
        by_cases ek : k = m
        · subst ek; exact e hk2
        · exact hk ⟨k, by omega, hk2⟩
theorem layS_grid {o : Nat → Int} {no m : Nat} {g : Nat → C4} {F : Nat → SiteR} (ho : ∀ k, k < no → 0 ≤ o k ∧ o k ≤ 7) (hl : m = (nodeL o no 8).length) (h : ∀ k, k < m → splitS o no g ((nodeL o no 8).getD k 0) (F k)) : ∀ i, i < no → layS F m i = g i := fun i hi => by
  rw [layS_split hi m h, if_pos]
  have hb := ho i hi
  have hm : ((o i).toNat : Int) ∈ nodeL o no 8 := nodeL_mem.2 ⟨(o i).toNat, by omega, rfl, by
    rw [Ne, ownL_nil]; intro hh; exact hh i hi (by omega)⟩
  obtain ⟨k, hk, e⟩ := List.getElem_of_mem hm
  exact ⟨k, by omega, by rw [List.getD_eq_getElem?_getD, List.getElem?_eq_getElem hk, Option.getD_some, e]; omega⟩
end Go.Proofs.YteabkcbajpjkoaaGreat
namespace Go.Proofs.YteabkcbajpjkoaaGreat
open Go Go.RowKit
set_option linter.unusedVariables false
set_option linter.unusedSimpArgs false
set_option maxRecDepth 100000 in
set_option maxHeartbeats 8000000 in
theorem node_split (Wd Hd : Nat) (a ao : Option Addr) (n c no co : Nat) (g : Nat → C4) (o : Nat → Int) (w : World) (h0 : 0 < no) (hno : no ≤ 1024) (hn : n = no) (ho : ∀ k, k < no → 0 ≤ o k ∧ o k ≤ 7) (H : Sc w a n g) (HO : Sl w ao no o) :
    Calls Tryz.prog 68 #[.agg (cluV Wd Hd a ao n c no co)] w (SplitPost o no g (nodeL o no 8) w) := by
  obtain ⟨i0, hi, hz0, hz1, hz2⟩ := info_parts infoC
  obtain ⟨j0, hj0, hy0, hy1, hy2⟩ := info_parts infoS
  have hnd := fun W S => node_nodes Wd Hd a ao n c no co o W h0 (by omega) ho S
  have hown := fun nd W S => node_owned Wd Hd a ao n c no co o nd W (by omega) S
  have hlen := nodeL_length o no 8
  have hol := fun nd => ownL_length o nd no
  have hod := fun nd j (hj : j < (ownL o nd no).length) => ownL_getD hj
  generalize nodeL o no 8 = L at *
  have HOL := hid hol; have HOD := hid hod; have HNN := hid hn
  clear hol hod ho hn
  unfold cluV at *
  have X0 := Bx.new w #[.int .i64 (Wd : Int), .int .i64 (Hd : Int), .slice a n c, .slice ao no co] 62
  have hB0 : Below w.heap.size w (w.alloc (.cells #[.int .i64 (Wd : Int), .int .i64 (Hd : Int), .slice a n c, .slice ao no co] 62)) := by (repeat' (first | with_reducible assumption | with_reducible exact Below.refl _ _ | with_reducible refine Below.drew ?_ | with_reducible refine below_drewN ?_ _ | with_reducible refine balloc ?_ _ | with_reducible refine bset ?_ ?_ _ | with_reducible refine Below.setCell ?_ ?_ _ | with_reducible refine Below.alloc ?_ ?_ _ | omega | (simp; done) | (simp; omega)))
  go_enter Tryz.func68, Tryz.ntmps68
  go_wp2_with fail
  generalize (w.alloc (.cells #[.int .i64 (Wd : Int), .int .i64 (Hd : Int), .slice a n c, .slice ao no co] 62)) = W0 at X0 hB0 ⊢
  have z0 := X0.lt
  refine (hnd _ (HO.below hB0)).mono ?_
  rintro e w1 ⟨v1, rfl, hown1, hb1⟩
  obtain ⟨av, cv, rfl, SL⟩ := sl_of_own hown1
  replace X0 := X0.below hb1
  have hB := bvia hB0 hb1
  clear hnd hb1 hB0 hown1
  have O0 := ownS_nil w1 w.heap.size
  have lx := X0.lt
  go_wp2_with fail
  go_loopw [3, 12] (fun out' i wr => ∃ (k : Nat) (xs : List SiteR) (out : Value), k ≤ L.length ∧ i = .int .i64 k ∧ out = out' ∧ OwnS wr w.heap.size out xs ∧ xs.length = k ∧ (∀ j, j < k → splitS o no g (L.getD j 0) (xs.getD j SiteR.zero) ∧ (xs.getD j SiteR.zero).lies wr ∧ (∀ b of, ((xs.getD j SiteR.zero).ix = some ⟨b, of, none⟩ ∨ (xs.getD j SiteR.zero).cl = some ⟨b, of, none⟩) → w.heap.size ≤ b ∧ b < wr.heap.size) ∧ ∀ gb, out.ownBlock = some gb → (xs.getD j SiteR.zero).off gb) ∧ Bx wr w.heap.size #[.int .i64 (Wd : Int), .int .i64 (Hd : Int), .slice a n c, .slice ao no co] ∧ Sl wr av L.length (fun k => L.getD k 0) ∧ Below w.heap.size w wr ∧ (∀ b off, av = some ⟨b, off, none⟩ → ∀ gb, out.ownBlock = some gb → b ≠ gb) ∧ (∀ gb, out.ownBlock = some gb → gb ≠ w.heap.size)) (fun _ i _ => L.length - (intOf i).toNat)
  case atStart => exact ⟨0, [], _, Nat.zero_le _, rfl, rfl, O0, rfl, fun j hj => by omega, X0, SL, hB, fun b off _ gb h => by simp [Value.ownBlock] at h, fun gb h => by simp [Value.ownBlock] at h⟩
  case round =>
    clear X0 SL hB O0
    obtain ⟨k, xs, out, hk, rfl, rfl, hO, hxl, hxs, X0, SL, hB, hav, hgw⟩ := hrel
    have HXS := hid hxs; clear hxs
    by_cases hlt : k < L.length
    · obtain ⟨bl, ol, rfl, hbl, cl0⟩ := SL k hlt
      dsimp only at cl0
      have hnk := HOL.out (L.getD k 0)
      obtain ⟨nd, hnd⟩ : ∃ nd, nd = L.getD k 0 := ⟨_, rfl⟩
      rw [← hnd] at cl0 hnk
      have HND := hid hnd; clear hnd
      have x0 := X0.at_ 0 rfl; have x1 := X0.at_ 1 rfl; have x2 := X0.at_ 2 rfl; have x3 := X0.at_ 3 rfl; have lx0 := X0.lt
      obtain ⟨wo, rfl⟩ : ∃ wo : World, wo = wr := ⟨_, rfl⟩
      have hOO := HO.below hB
      go_wp2_with fail
      refine (hown nd _ hOO).mono ?_
      rintro e w3 ⟨v3, rfl, hown3, hb3⟩
      obtain ⟨ai, ci, rfl, SI⟩ := sl_of_own hown3
      have hbase := own_base hown3
      have hlt3 := own_lt hown3
      have hnb0 : some w.heap.size ≠ out.ownBlock := fun e => hgw _ e.symm rfl
      have hob := own_lt hO
      replace X0 := X0.below hb3
      have SL3 := SL.below hb3
      have hO3 : OwnS w3 w.heap.size out xs := own_below hO hb3
      have hB3 := bvia hB hb3
      have hbl2 : ∀ b off, ai = some ⟨b, off, none⟩ → wo.heap.size ≤ b ∧ b < w3.heap.size := fun b off e => by
        subst e
        exact ⟨hbase b rfl, hlt3 b rfl⟩
      have hs3 := hb3.size
      have hs0 := hB.size
      have XS := Bx.new w3 #[.int .i64 nd, .int .i64 0, .slice ai (ownL o nd no).length ci, .slice none 0 0] 98
      have hW5 : Below w3.heap.size w3 (w3.alloc (.cells #[.int .i64 nd, .int .i64 0, .slice ai (ownL o nd no).length ci, .slice none 0 0] 98)) := below_alloc _ _
      replace X0 := X0.below hW5; replace SL3 := SL3.below hW5; replace SI := SI.below hW5
      replace hO3 : OwnS (w3.alloc (.cells #[.int .i64 nd, .int .i64 0, .slice ai (ownL o nd no).length ci, .slice none 0 0] 98)) w.heap.size out xs := own_below hO3 hW5
      replace hB3 := bvia hB3 hW5
      have hod := HOD.out nd
      obtain ⟨li, hli⟩ : ∃ li, li = (ownL o nd no).length := ⟨_, rfl⟩
      rw [← hli] at XS hnk SI hod hW5 X0 SL3 hO3 hB3 ⊢
      obtain ⟨I, hI⟩ : ∃ I : Nat → Int, I = fun j => (ownL o nd no).getD j 0 := ⟨_, rfl⟩
      have SI2 : Sl (w3.alloc (.cells #[.int .i64 nd, .int .i64 0, .slice ai li ci, .slice none 0 0] 98)) ai li I := by rw [hI]; exact SI
      have hod' : ∀ j, j < li → ∃ i : Nat, I j = i ∧ i < no ∧ o i = nd := by rw [hI]; exact hod
      have HI := hid hI; have HLI := hid hli; have HOD2 := hid hod'
      clear hI hli hod SI hod' hown3 hbase hlt3 hown SL hOO
      go_wp2_with fail
      have hs5 := hW5.size
      have hW5' := hW5
      generalize hWg : w3.alloc (.cells #[.int .i64 nd, .int .i64 0, .slice ai li ci, .slice none 0 0] 98) = W5 at *
      clear hWg
      have hl5 : w3.heap.size < W5.heap.size := XS.lt
      have hcn := World.ownsRow_nil W5 W5.heap.size 49 4
      go_loopw [24] (fun i2 wr2 => ∃ (j : Nat) (cv : Value), j ≤ li ∧ i2 = .int .i64 j ∧ wr2.ownsRow W5.heap.size 49 4 cv j (rowC (fun i => g (I i).toNat) j) ∧ Bx wr2 w3.heap.size #[.int .i64 nd, .int .i64 0, .slice ai li ci, cv] ∧ But (fun q => q = w3.heap.size) W5 wr2) (fun i2 _ => li - (intOf i2).toNat)
      case atStart => exact ⟨0, _, Nat.zero_le _, rfl, hcn, XS, But.refl _ _⟩
      case round =>
        obtain ⟨j, cv2, hj, rfl, hown5, XS, hU⟩ := hrel
        by_cases hlj : j < li
        · obtain ⟨i, hi1, hi2, hi3⟩ := HOD2.out j hlj
          obtain ⟨bi, oi, rfl, hbi, ci0⟩ := SI2 j hlj
          have hHi := H i (by rw [HNN.out]; exact hi2)
          obtain ⟨bg, og, rfl, hbg, g0, g1, g2, g3⟩ := hHi
          have hbi3 := hbl2 bi oi rfl
          have hBw : Below w.heap.size w wr := hB3.trans (⟨hU.os, hU.tape, hU.output, hU.size, fun z hz => hU.block z (by omega) (by omega)⟩ : Below w.heap.size W5 wr)
          have ci1 := (World.cell?_of_block (hU.block bi hbi (by omega))).trans ci0
          rw [hi1] at ci1
          have k0 := (bcell hBw _ _ hbg).trans g0; have k1 := (bcell hBw _ _ hbg).trans g1; have k2 := (bcell hBw _ _ hbg).trans g2; have k3 := (bcell hBw _ _ hbg).trans g3
          have X9 := X0.but hU (by omega)
          have x2 := X9.at_ 2 rfl
          have s3 := XS.at_ 3 rfl
          have hsU := hU.size
          have hbi4 : bi < wr.heap.size := by omega
          have hbg4 : bg < wr.heap.size := Nat.lt_of_lt_of_le hbg hBw.size
          have lxs := XS.lt
          have hin : (i : Int) < n := by rw [HNN.out]; omega
          have hS0 : wr.drew.cell? ⟨w3.heap.size, 3, none⟩ = some cv2 ∧ wr.drew.cell? ⟨w.heap.size, 2, none⟩ = some (.slice (some ⟨bg, og, none⟩) n c) ∧ wr.drew.cell? ⟨bg, og + i * 4, none⟩ = some (.int .i64 (g i).e) ∧ wr.drew.cell? ⟨bg, og + i * 4 + 1, none⟩ = some (.int .i64 (g i).n) ∧ wr.drew.cell? ⟨bg, og + i * 4 + 2, none⟩ = some (.int .i64 (g i).w) ∧ wr.drew.cell? ⟨bg, og + i * 4 + 3, none⟩ = some (.int .i64 (g i).s) := ⟨s3, x2, k0, k1, k2, k3⟩
          clear ci0 g0 g1 g2 g3
          go_upto_region 9 with (fail)
          clear x2 s3 k0 k1 k2 k3 ci1
          refine wp_region_S (fun Y => Y.cell? ⟨w3.heap.size, 3, none⟩ = some cv2 ∧ Y.cell? ⟨w.heap.size, 2, none⟩ = some (.slice (some ⟨bg, og, none⟩) n c) ∧ Y.cell? ⟨bg, og + i * 4, none⟩ = some (.int .i64 (g i).e) ∧ Y.cell? ⟨bg, og + i * 4 + 1, none⟩ = some (.int .i64 (g i).n) ∧ Y.cell? ⟨bg, og + i * 4 + 2, none⟩ = some (.int .i64 (g i).w) ∧ Y.cell? ⟨bg, og + i * 4 + 3, none⟩ = some (.int .i64 (g i).s)) 11 (by kernel_rfl) ?_
          refine anyS_take (i := 0) rfl (by kernel_rfl) (fun _ _ _ h => h) (Or.inl ⟨by rfl, fun Y hYb => (by (try dsimp only at hYb); obtain ⟨y0, y1, y2, y3, y4, y5⟩ := hYb; go_simp; rfl)⟩) (by assumption) ?_
          refine anyS_take (i := 1) rfl (by kernel_rfl) (fun _ _ _ h => h) (Or.inl ⟨by rfl, fun Y hYb => (by (try dsimp only at hYb); obtain ⟨y0, y1, y2, y3, y4, y5⟩ := hYb; go_simp; rfl)⟩) (by assumption) ?_
          refine anyS_take (i := 2) rfl (by kernel_rfl) (fun _ _ _ h => h) (Or.inl ⟨by rfl, fun Y hYb => (by (try dsimp only at hYb); obtain ⟨y0, y1, y2, y3, y4, y5⟩ := hYb; go_simp; rfl)⟩) (by assumption) ?_
          refine anyS_take (i := 3) rfl (by kernel_rfl) (fun _ _ _ h => h) (Or.inl ⟨by rfl, fun Y hYb => (by (try dsimp only at hYb); obtain ⟨y0, y1, y2, y3, y4, y5⟩ := hYb; go_simp; rfl)⟩) (by assumption) ?_
          refine anyS_take (i := 4) rfl (by kernel_rfl) (fun _ _ _ h => h) (Or.inl ⟨by rfl, fun Y hYb => (by (try dsimp only at hYb); obtain ⟨y0, y1, y2, y3, y4, y5⟩ := hYb; go_simp; rfl)⟩) (by assumption) ?_
          refine anyS_take (i := 5) rfl (by kernel_rfl) (fun _ _ _ h => h) (Or.inl ⟨by rfl, fun Y hYb => (by (try dsimp only at hYb); obtain ⟨y0, y1, y2, y3, y4, y5⟩ := hYb; go_simp; rfl)⟩) (by assumption) ?_
          refine anyS_take (i := 6) rfl (by kernel_rfl) (fun _ _ _ h => h) (Or.inl ⟨by rfl, fun Y hYb => (by (try dsimp only at hYb); obtain ⟨y0, y1, y2, y3, y4, y5⟩ := hYb; go_simp; rfl)⟩) (by assumption) ?_
          refine anyS_take (i := 7) rfl (by kernel_rfl) (fun _ _ _ h => h) (Or.inl ⟨by rfl, fun Y hYb => (by (try dsimp only at hYb); obtain ⟨y0, y1, y2, y3, y4, y5⟩ := hYb; go_simp; rfl)⟩) (by assumption) ?_
          refine anyS_one (i := 8) (by kernel_rfl) rfl (by rfl) (fun K hK => ?_)
          go_simp
          have W8 : But (fun q => q = w3.heap.size) W5 (wr.alloc (.cells #[.int .i64 (g i).e, .int .i64 (g i).n, .int .i64 (g i).w, .int .i64 (g i).s] 49)).drew := (hU.alloc _).drew
          have N8 := cells_new wr [.int .i64 (g i).e, .int .i64 (g i).n, .int .i64 (g i).w, .int .i64 (g i).s] 49
          have O8 : (wr.alloc (.cells #[.int .i64 (g i).e, .int .i64 (g i).n, .int .i64 (g i).w, .int .i64 (g i).s] 49)).drew.ownsRow W5.heap.size 49 4 cv2 j (rowC (fun i => g (I i).toNat) j) := own_below hown5 (below_alloc wr (.cells #[.int .i64 (g i).e, .int .i64 (g i).n, .int .i64 (g i).w, .int .i64 (g i).s] 49)).drew
          have X8 := (XS.alloc (.cells #[.int .i64 (g i).e, .int .i64 (g i).n, .int .i64 (g i).w, .int .i64 (g i).s] 49)).drew
          have Z8 : Below w.heap.size w (wr.alloc (.cells #[.int .i64 (g i).e, .int .i64 (g i).n, .int .i64 (g i).w, .int .i64 (g i).s] 49)).drew := (balloc hBw _).drew
          have C8 := (X9.alloc (.cells #[.int .i64 (g i).e, .int .i64 (g i).n, .int .i64 (g i).w, .int .i64 (g i).s] 49)).drew
          have hs8 : wr.heap.size < (wr.alloc (.cells #[.int .i64 (g i).e, .int .i64 (g i).n, .int .i64 (g i).w, .int .i64 (g i).s] 49)).drew.heap.size := by simp
          have N8' : ∀ j u, [Value.int .i64 (g i).e, .int .i64 (g i).n, .int .i64 (g i).w, .int .i64 (g i).s][j]? = some u → (wr.alloc (.cells #[.int .i64 (g i).e, .int .i64 (g i).n, .int .i64 (g i).w, .int .i64 (g i).s] 49)).drew.cell? ((⟨wr.heap.size, 0, none⟩ : Addr).add j) = some u := N8
          have hg4 := H i (by rw [HNN.out]; exact hi2)
          obtain ⟨bg', og', e', hbg', g0, g1, g2, g3⟩ := hg4
          injection e' with e'; injection e' with e1 e2 _; subst e1 e2
          have hS8 : (wr.alloc (.cells #[.int .i64 (g i).e, .int .i64 (g i).n, .int .i64 (g i).w, .int .i64 (g i).s] 49)).drew.cell? ⟨w3.heap.size, 3, none⟩ = some cv2 ∧ _ ∧ _ ∧ _ ∧ _ ∧ _ := ⟨X8.at_ 3 rfl, C8.at_ 2 rfl, (bcell Z8 _ _ hbg').trans g0, (bcell Z8 _ _ hbg').trans g1, (bcell Z8 _ _ hbg').trans g2, (bcell Z8 _ _ hbg').trans g3⟩
          refine hK _ _ (fun _ _ => hS8) ?_
          clear hK K N8 hS0 hS8
          generalize (wr.alloc (.cells #[.int .i64 (g i).e, .int .i64 (g i).n, .int .i64 (g i).w, .int .i64 (g i).s] 49)).drew = w8 at W8 O8 X8 Z8 C8 hs8 N8' ⊢
          refine anyS_one (i := 9) (by kernel_rfl) rfl (by rfl) (fun K hK => ?_)
          refine wp_append_lies _ _ _ 22 rfl W5.heap.size 49 i0 _ 4 32 Tryz.underlying22 hi hz0 hz1 hz2 rfl (by decide) cv2 _ _ rfl O8 ⟨wr.heap.size, 0, none⟩ 1 1 [.int .i64 (g i).e, .int .i64 (g i).n, .int .i64 (g i).w, .int .i64 (g i).s] rfl rfl N8' (by simp [Value.oneCell']) (by omega) (by simp [maxLen]; omega) (by omega) (by omega) _ rfl ?_
          intro g' cap' w9 hown9 hgr9 hat9 hlt9
          have hcb : ∀ q, cv2.ownBlock = some q → W5.heap.size ≤ q := own_base hown5
          have Y9 := X8.grown hgr9 (fun e => by have := hcb _ e.symm; omega)
          have U9 := but_grownS W8 hgr9 (fun q hq => .inr (hcb q hq))
          have Z9 : Below w.heap.size w w9 := Z8.grown hgr9 (by have := Z8.size; omega) (fun q hq => by have := hcb q hq; omega)
          have C9 := C8.grown hgr9 (fun e => by have := hcb _ e.symm; omega)
          have hS9 : w9.cell? ⟨w3.heap.size, 3, none⟩ = some cv2 ∧ _ ∧ _ ∧ _ ∧ _ ∧ _ := ⟨Y9.at_ 3 rfl, C9.at_ 2 rfl, (bcell Z9 _ _ hbg').trans g0, (bcell Z9 _ _ hbg').trans g1, (bcell Z9 _ _ hbg').trans g2, (bcell Z9 _ _ hbg').trans g3⟩
          have hgg : W5.heap.size ≤ g' := by
            rcases hat9 with h | h
            · exact hcb _ h
            · have := W8.size; omega
          have hrs : rowC (fun i => g (I i).toNat) (j + 1) = rowC (fun i => g (I i).toNat) j ++ [.int .i64 (g i).e, .int .i64 (g i).n, .int .i64 (g i).w, .int .i64 (g i).s] := by
            rw [rowC_snoc, hi1, Int.toNat_natCast]
          rw [← hrs] at hown9
          refine hK _ _ (fun _ _ => hS9) ?_
          clear hK K
          refine anyS_take (i := 10) rfl (by kernel_rfl) (fun _ _ _ h => h) (Or.inl ⟨by rfl, fun Y hYb => (by (try dsimp only at hYb); obtain ⟨y0, y1, y2, y3, y4, y5⟩ := hYb; go_simp; rfl)⟩) (by assumption) ?_
          have y3 := Y9.at_ 3 rfl; have yf := Y9.free
          clear hS9
          refine anyS_one (i := 11) (by kernel_rfl) rfl (by rfl) (fun K hK => ?_)
          go_simp
          refine hK _ _ (fun h _ => absurd h (by decide)) ?_
          clear hK K
          refine anyS_done (by kernel_rfl) ?_ _
          have hne9 : g' ≠ w3.heap.size := by omega
          clear y3 yf W8 O8 X8 Z8 C8 N8' hrs
          go_wp2_with fail
          go_roundw
          case rel => exact ⟨j + 1, _, by omega, by go_num, own_butS hown9 ((But.refl (fun q => q = w3.heap.size) w9).set_ rfl _) (fun q hq e => hne9 (by have h : g' = q := (by injection hq); omega)), Y9.set_ 3 (by simp) _, U9.set_ rfl _⟩
          case measure => simp [intOf]; omega
        · obtain rfl : li = j := (by omega)
          obtain ⟨acl, ccl, rfl, SC⟩ := sc_of_own hown5
          have hcbase := own_base hown5
          have hclt := own_lt hown5
          have hbl9 : ∀ b off, acl = some ⟨b, off, none⟩ → W5.heap.size ≤ b ∧ b < wr.heap.size := fun b off e => by
            subst e
            exact ⟨hcbase b rfl, hclt b rfl⟩
          have hcc0 : acl = none → ccl = 0 := fun e => by
            subst e
            rcases hown5.2 with ⟨h, _⟩ | ⟨g2, cap2, cur2, h, _⟩
            · injection h with _ _ h
            · injection h with h; cases h
          have hOw : OwnS wr w.heap.size out xs := own_butS hO3 hU (fun q hq e => by have := hob q hq; omega)
          have hobs := own_base hOw
          have X9 := X0.but hU (by omega)
          have SL9 := SL3.butS hU (fun b off e => by injection e with e; injection e with e _ _; omega)
          have SI9 := SI2.butS hU (fun b off e => by have := hbl2 b off e; omega)
          have hBw : Below w.heap.size w wr := hB3.trans (⟨hU.os, hU.tape, hU.output, hU.size, fun z hz => hU.block z (by omega) (by omega)⟩ : Below w.heap.size W5 wr)
          have s0 := XS.at_ 0 rfl; have s1 := XS.at_ 1 rfl; have s2 := XS.at_ 2 rfl; have s3 := XS.at_ 3 rfl; have lxs := XS.lt
          have hxs3 : ∀ j', j' < k → (xs.getD j' SiteR.zero).lies wr := fun j' hj' => by
            obtain ⟨_, h2, h3, _⟩ := HXS.out j' hj'
            refine (((h2.below hb3).below hW5')).but hU ?_
            rintro b off h e
            have := (h3 b off h).2
            omega
          have hOwA := own_below (w' := wr.alloc (.cells #[.int .i64 nd, .int .i64 0, .slice ai li ci, .slice acl li ccl] 98)) hOw (below_alloc wr _)
          have hxl8 : xs.length ≤ 8 := by omega
          have hszw : w.heap.size ≤ wr.heap.size := hBw.size
          go_wp2_with (at_builtin; refine wpList_append_own_at _ rfl _ _ 66 rfl w.heap.size 98 j0 _ 4 64 Tryz.underlying66 hj0 hy0 hy1 hy2 rfl (by decide) _ _ _ rfl hOwA ⟨wr.heap.size, 0, none⟩ 1 1 [.int .i64 nd, .int .i64 0, .slice ai li ci, .slice acl li ccl] rfl rfl (cells_new _ _ _) (by simp [Value.oneCell']) (by simp [maxLen]; omega) (by omega) (by simp; omega) ?_; intro v' w9 hown9 hgr9 _ hat9)
          have hgr : (wr.alloc (.cells #[.int .i64 nd, .int .i64 0, .slice ai li ci, .slice acl li ccl] 98)).grownBy w9 out.ownBlock := hgr9
          have hat : v'.ownBlock = out.ownBlock ∨ v'.ownBlock = some (wr.alloc (.cells #[.int .i64 nd, .int .i64 0, .slice ai li ci, .slice acl li ccl] 98)).heap.size := hat9
          have ha := below_alloc wr (.cells #[.int .i64 nd, .int .i64 0, .slice ai li ci, .slice acl li ccl] 98)
          clear hgr9 hat9 hOwA
          have hsa : (wr.alloc (.cells #[.int .i64 nd, .int .i64 0, .slice ai li ci, .slice acl li ccl] 98)).heap.size = wr.heap.size + 1 := World.size_alloc ..
          rw [hsa] at hat
          have hs9 := hgr.size
          rw [hsa] at hs9
          have hnew : ∀ gb, v'.ownBlock = some gb → out.ownBlock = some gb ∨ gb = wr.heap.size + 1 := fun gb e => by
            rcases hat with h | h
            · exact .inl (h ▸ e)
            · rw [h] at e; injection e with e; exact .inr e.symm
          have hOn : OwnS w9 w.heap.size v' (xs ++ [⟨nd, 0, ai, li, ci, acl, li, ccl, I, fun i => g (I i).toNat⟩]) := ownS_snoc hown9
          have X9' := (X9.below ha).grown hgr (fun e => hgw _ e.symm rfl)
          have SL9' := (SL9.below ha).grown hgr (fun b off e e2 => hav b off e b e2.symm rfl)
          have SI9' := (SI9.below ha).grown hgr (fun b off e e2 => by have := hbl2 b off e; have := hob b e2.symm; omega)
          have SC9' := (SC.below ha).grown hgr (fun b off e e2 => by have := hbl9 b off e; have := hob b e2.symm; omega)
          have B9 : Below w.heap.size w w9 := Below.grown (bvia hBw ha) hgr (by omega) (fun q hq => hobs q hq)
          go_roundw
          case rel =>
            refine ⟨k + 1, xs ++ [⟨nd, 0, ai, li, ci, acl, li, ccl, I, fun i => g (I i).toNat⟩], v', by omega, by go_num, rfl, hOn, by simp [hxl], fun j' hj' => ?_, X9', SL9', B9, fun b off e gb h => ?_, fun gb h => ?_⟩
            · rcases Nat.lt_succ_iff_lt_or_eq.1 hj' with h | h
              · obtain ⟨h1, h2, h3, h4⟩ := HXS.out j' h
                rw [getD_app _ (by omega)]
                refine ⟨h1, ((hxs3 j' h).below ha).grown hgr (fun gb e => h4 gb e), fun b off e => by have := h3 b off e; omega, fun gb e => ?_⟩
                rcases hnew gb e with h5 | h5
                · exact h4 gb h5
                · exact ⟨fun b o e2 => by have := h3 b o (.inl e2); omega, fun b o e2 => by have := h3 b o (.inr e2); omega⟩
              · have hjx : j' = xs.length := by omega
                rw [hjx, getD_snoc, hxl, ← HND.out]
                refine ⟨⟨rfl, rfl, HLI.out, rfl, fun j2 hj2 => ⟨by rw [HI.out], by rw [HI.out]⟩⟩, ⟨SI9', SC9', hcc0⟩, fun b off e => ?_, fun gb e => ⟨fun b o e2 => ?_, fun b o e2 => ?_⟩⟩
                · rcases e with e | e
                  · have := hbl2 b off e; omega
                  · have := hbl9 b off e; omega
                · have := hbl2 b o e2
                  rcases hnew gb e with h5 | h5
                  · have := hob gb h5; omega
                  · omega
                · have := hbl9 b o e2
                  rcases hnew gb e with h5 | h5
                  · have := hob gb h5; omega
                  · omega
            · rcases hnew gb h with h5 | h5
              · exact hav b off e gb h5
              · injection e with e; injection e with e _ _; omega
            · rcases hnew gb h with h5 | h5
              · exact hgw gb h5
              · omega
          case measure => simp [intOf]; omega
    · obtain rfl : L.length = k := (by omega)
      go_wp2
      go_ret
      exact ⟨out, xs, rfl, ⟨hO, hxl, HXS.out⟩, hB⟩
end Go.Proofs.YteabkcbajpjkoaaGreat
