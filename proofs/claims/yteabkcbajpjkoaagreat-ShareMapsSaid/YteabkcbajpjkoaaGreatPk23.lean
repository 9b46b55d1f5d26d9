/- Walk: play, of the program: over any iterator of nodes, each turn is a turn of the plain play. Walk: play, of the program: the loop. Walks: slices.Values of ints, and what it yields; the rounds of Run. Walk: Play, of the program. -/
import Derived.Test.YteabkcbajpjkoaaGreatPk21
import Derived.Test.YteabkcbajpjkoaaGreatPk12
import Derived.Test.YteabkcbajpjkoaaGreatPk22
import Derived.Test.YteabkcbajpjkoaaGreatPk6
namespace Go.Proofs.YteabkcbajpjkoaaGreat
open Go Go.RowKit
attribute [local go_sem] Oper.semAt_some
set_option linter.unusedVariables false
set_option linter.unusedSimpArgs false
theorem But.new_ {C : Nat → Prop} {X Y : World} (h : But C X Y) {p : Addr} (hp : X.heap.size ≤ p.block) (u : Value) : But C X (Y.setCell p u) :=
  ⟨h.os, h.tape, h.output, by simpa using h.size, fun b hb hc => (Below.heap_setCell _ _ _ _ (by omega)).trans (h.block b hb hc)⟩
/-- the blocks of a play, in its loop -/
structure PK (w : World) (bs : Nat) (cv : Array Value) (rlv : Value) (N : Int) (o : Nat → Int) (no : Nat) (Y : Ply) (vS : Value) (xs : List SiteR) (vP : Value) (C : Nat → Prop) (X : World) : Prop where
  x0 : Bx X w.heap.size cv
  x1 : Bx X (w.heap.size + 1) #[rlv]
  x2 : Bx X (w.heap.size + 1 + 1) #[.int .i64 N]
  x3 : Bx X (w.heap.size + 1 + 1 + 1) #[.slice none 0 0]
  x4 : Bx X (w.heap.size + 1 + 1 + 1 + 1) #[.slice none 0 0]
  x5 : Bx X (w.heap.size + 1 + 1 + 1 + 1 + 1) #[.int .i64 0]
  x6 : Bx X (w.heap.size + 1 + 1 + 1 + 1 + 1 + 1) #[.int .i64 0]
  y0 : Bx X bs #[vS]
  y1 : Bx X (bs + 1) #[vP]
  y2 : Bx X (bs + 1 + 1) #[.int .i64 Y.cnt]
  si : PlyOwn o no Y.st Y.G (nodeL o no 8) w.heap.size X vS xs
  po : OwnN X w.heap.size vP Y.P
  lo : w.heap.size + 7 ≤ bs
  c0 : ∀ b, (w.heap.size ≤ b ∧ b < w.heap.size + 7) ∨ (bs ≤ b ∧ b < bs + 3) → C b
  c1 : ∀ g, vS.ownBlock = some g → C g ∧ w.heap.size + 7 ≤ g ∧ g < bs
  c2 : ∀ g, vP.ownBlock = some g → C g ∧ bs + 3 ≤ g
  c3 : ∀ k, k < (nodeL o no 8).length → ∀ b of, ((xs.getD k SiteR.zero).ix = some ⟨b, of, none⟩ ∨ (xs.getD k SiteR.zero).cl = some ⟨b, of, none⟩) → C b ∧ w.heap.size + 7 ≤ b ∧ (b < bs ∨ bs + 3 ≤ b)
theorem PK.but {w : World} {bs : Nat} {cv : Array Value} {rlv : Value} {N : Int} {o : Nat → Int} {no : Nat} {Y : Ply} {vS : Value} {xs : List SiteR} {vP : Value} {C D : Nat → Prop} {X Z : World} (h : PK w bs cv rlv N o no Y vS xs vP C X) (hb : But D X Z) (hD : ∀ b, C b → ¬ D b) : PK w bs cv rlv N o no Y vS xs vP C Z where
  x0 := h.x0.but hb (hD _ (h.c0 _ (.inl (by omega))))
  x1 := h.x1.but hb (hD _ (h.c0 _ (.inl (by omega))))
  x2 := h.x2.but hb (hD _ (h.c0 _ (.inl (by omega))))
  x3 := h.x3.but hb (hD _ (h.c0 _ (.inl (by omega))))
  x4 := h.x4.but hb (hD _ (h.c0 _ (.inl (by omega))))
  x5 := h.x5.but hb (hD _ (h.c0 _ (.inl (by omega))))
  x6 := h.x6.but hb (hD _ (h.c0 _ (.inl (by omega))))
  y0 := h.y0.but hb (hD _ (h.c0 _ (.inr (by omega))))
  y1 := h.y1.but hb (hD _ (h.c0 _ (.inr (by omega))))
  y2 := h.y2.but hb (hD _ (h.c0 _ (.inr (by omega))))
  si := h.si.but hb (fun g hg => hD _ (h.c1 g hg).1) (fun k hk b of hh => hD _ (h.c3 k hk b of hh).1)
  po := own_butN h.po hb (fun g hg => hD _ (h.c2 g hg).1)
  lo := h.lo
  c0 := h.c0
  c1 := h.c1
  c2 := h.c2
  c3 := h.c3
/-- an act's end: the site is stored, the post, the count -/
theorem PK.next {w : World} {bs : Nat} {cv : Array Value} {rlv : Value} {N : Int} {o : Nat → Int} {no : Nat} {Y : Ply} {g m cap : Nat} {xs : List SiteR} {vP v' : Value} {C : Nat → Prop} {X : World} (h : PK w bs cv rlv N o no Y (.slice (some ⟨g, 0, none⟩) m cap) xs vP C X) {i B0 : Nat} (hi : i < (nodeL o no 8).length) {s : SiteR} {t : Int} {Cn : Nat → C4} {P' : List N6}
    (hs : s.lies X) (h1 : s.nd = (nodeL o no 8).getD i 0) (h2 : s.st = t) (h3 : s.ni = (ownL o ((nodeL o no 8).getD i 0) no).length) (h4 : s.nc = (ownL o ((nodeL o no 8).getD i 0) no).length) (h5 : ∀ k, k < (ownL o ((nodeL o no 8).getD i 0) no).length → s.I k = (ownL o ((nodeL o no 8).getD i 0) no).getD k 0) (h6 : ∀ k, k < (ownL o ((nodeL o no 8).getD i 0) no).length → s.C k = Cn ((ownL o ((nodeL o no 8).getD i 0) no).getD k 0).toNat)
    (h7 : ∀ b off, (s.ix = some ⟨b, off, none⟩ ∨ s.cl = some ⟨b, off, none⟩) → B0 ≤ b ∧ b < X.heap.size) (h8 : OwnN X B0 v' P') (hB : bs + 3 ≤ B0) :
    PK w bs cv rlv N o no ⟨fun k => if k = (nodeL o no 8).getD i 0 then t else Y.st k, fun j => if o j = (nodeL o no 8).getD i 0 then Cn j else Y.G j, P', Y.cnt + 1, 0⟩ (.slice (some ⟨g, 0, none⟩) m cap) (xs.set i s) v' (fun b => C b ∨ (B0 ≤ b ∧ b < X.heap.size))
      ((((((X.setCell ⟨g, i * 4, none⟩ (.int .i64 s.nd)).setCell ⟨g, i * 4 + 1, none⟩ (.int .i64 s.st)).setCell ⟨g, i * 4 + 2, none⟩ (.slice s.ix s.ni s.ci)).setCell ⟨g, i * 4 + 3, none⟩ (.slice s.cl s.nc s.cc)).setCell ⟨bs + 1, 0, none⟩ v').setCell ⟨bs + 1 + 1, 0, none⟩ (.int .i64 ((Y.cnt + 1 : Nat) : Int))) := by
  obtain ⟨_, hg7, hgb⟩ := h.c1 g rfl
  have hlo := h.lo
  have hnod : (nodeL o no 8).Nodup := (nodeL_sorted o no 8).imp fun hab => by omega
  have S1 := h.si.step hnod hi hs h1 h2 h3 h4 h5 h6 (fun b off hh => ⟨by have := (h7 b off hh).1; omega, (h7 b off hh).2⟩)
  have hb1 : But (fun z => z = g) X ((((X.setCell ⟨g, i * 4, none⟩ (.int .i64 s.nd)).setCell ⟨g, i * 4 + 1, none⟩ (.int .i64 s.st)).setCell ⟨g, i * 4 + 2, none⟩ (.slice s.ix s.ni s.ci)).setCell ⟨g, i * 4 + 3, none⟩ (.slice s.cl s.nc s.cc)) :=
    (((But.set_ (But.refl (fun z => z = g) X) (p := ⟨g, i * 4, none⟩) rfl _).set_ (p := ⟨g, i * 4 + 1, none⟩) rfl _).set_ (p := ⟨g, i * 4 + 2, none⟩) rfl _).set_ (p := ⟨g, i * 4 + 3, none⟩) rfl _
  generalize (((X.setCell ⟨g, i * 4, none⟩ (.int .i64 s.nd)).setCell ⟨g, i * 4 + 1, none⟩ (.int .i64 s.st)).setCell ⟨g, i * 4 + 2, none⟩ (.slice s.ix s.ni s.ci)).setCell ⟨g, i * 4 + 3, none⟩ (.slice s.cl s.nc s.cc) = X1 at *
  have hb2 : But (fun z => z = bs + 1 ∨ z = bs + 1 + 1) X1 ((X1.setCell ⟨bs + 1, 0, none⟩ v').setCell ⟨bs + 1 + 1, 0, none⟩ (.int .i64 ((Y.cnt + 1 : Nat) : Int))) :=
    (But.set_ (But.refl (fun z => z = bs + 1 ∨ z = bs + 1 + 1) X1) (p := ⟨bs + 1, 0, none⟩) (.inl rfl) _).set_ (p := ⟨bs + 1 + 1, 0, none⟩) (.inr rfl) _
  have hb3 : But (fun z => z = g ∨ z = bs + 1 ∨ z = bs + 1 + 1) X ((X1.setCell ⟨bs + 1, 0, none⟩ v').setCell ⟨bs + 1 + 1, 0, none⟩ (.int .i64 ((Y.cnt + 1 : Nat) : Int))) :=
    (hb1.mono fun b _ hb => .inl hb).trans (hb2.mono fun b _ hb => .inr hb)
  have hblk : ∀ k, k < (nodeL o no 8).length → ∀ b of, (((xs.set i s).getD k SiteR.zero).ix = some ⟨b, of, none⟩ ∨ ((xs.set i s).getD k SiteR.zero).cl = some ⟨b, of, none⟩) → (C b ∨ (B0 ≤ b ∧ b < X.heap.size)) ∧ w.heap.size + 7 ≤ b ∧ (b < bs ∨ bs + 3 ≤ b) := fun k hk b of hh => by
    by_cases e : k = i
    · subst e
      have e2 : (xs.set k s).getD k SiteR.zero = s := by simp [List.getD_eq_getElem?_getD, h.si.2.1, hk]
      rw [e2] at hh
      have := h7 b of hh
      exact ⟨.inr this, by omega, by omega⟩
    · have e2 : (xs.set i s).getD k SiteR.zero = xs.getD k SiteR.zero := by simp [List.getD_eq_getElem?_getD, List.getElem?_set, Ne.symm e]
      rw [e2] at hh
      obtain ⟨q1, q2, q3⟩ := h.c3 k hk b of hh
      exact ⟨.inl q1, q2, q3⟩
  refine ⟨h.x0.but hb3 (by omega), h.x1.but hb3 (by omega), h.x2.but hb3 (by omega), h.x3.but hb3 (by omega), h.x4.but hb3 (by omega), h.x5.but hb3 (by omega), h.x6.but hb3 (by omega), h.y0.but hb3 (by omega), ?_, ?_, ?_, ?_, hlo, fun b hb => .inl (h.c0 b hb), fun g' hg' => ?_, fun g' hg' => ?_, hblk⟩
  · exact ((h.y1.but hb1 (by omega)).set_ 0 (by simp) v').but (But.set_ (But.refl (fun z => z = bs + 1 + 1) _) (p := ⟨bs + 1 + 1, 0, none⟩) rfl _) (by omega)
  · exact ((h.y2.but hb1 (by omega)).but (But.set_ (But.refl (fun z => z = bs + 1) _) (p := ⟨bs + 1, 0, none⟩) rfl v') (by omega)).set_ 0 (by simp) _
  · exact S1.but hb2 (fun g' hg' => by have : g' = g := (by simpa [Value.ownBlock] using hg'.symm); omega) (fun k hk b of hh => by have := (hblk k hk b of hh).2; omega)
  · exact own_mono (own_butN h8 hb3 fun g' hg' => by have := own_base h8 g' hg'; omega) (by omega)
  · obtain ⟨q1, q2, q3⟩ := h.c1 g' hg'
    exact ⟨.inl q1, q2, q3⟩
  · have := own_base h8 g' hg'; have := own_lt h8 g' hg'
    exact ⟨.inr (by omega), by omega⟩
theorem PK.next2 {w : World} {bs : Nat} {cv : Array Value} {rlv : Value} {N : Int} {o : Nat → Int} {no : Nat} {Y : Ply} {g m cap : Nat} {xs : List SiteR} {vP v' : Value} {C : Nat → Prop} {X : World} (h : PK w bs cv rlv N o no Y (.slice (some ⟨g, 0, none⟩) m cap) xs vP C X) {i B0 : Nat} (hi : i < (nodeL o no 8).length) {s : SiteR} {t nd : Int} {Cn : Nat → C4} {P' : List N6} (hnd : (nodeL o no 8).getD i 0 = nd)
    (hs : s.lies X) (h1 : s.nd = nd) (h2 : s.st = t) (h3 : s.ni = (ownL o nd no).length) (h4 : s.nc = (ownL o nd no).length) (h5 : ∀ k, k < (ownL o nd no).length → s.I k = (ownL o nd no).getD k 0) (h6 : ∀ k, k < (ownL o nd no).length → s.C k = Cn ((ownL o nd no).getD k 0).toNat)
    (h7 : ∀ b off, (s.ix = some ⟨b, off, none⟩ ∨ s.cl = some ⟨b, off, none⟩) → B0 ≤ b ∧ b < X.heap.size) (h8 : OwnN X B0 v' P') (hB : bs + 3 ≤ B0) :
    PK w bs cv rlv N o no ⟨fun k => if k = nd then t else Y.st k, fun j => if o j = nd then Cn j else Y.G j, P', Y.cnt + 1, 0⟩ (.slice (some ⟨g, 0, none⟩) m cap) (xs.set i s) v' (fun b => C b ∨ (B0 ≤ b ∧ b < X.heap.size))
      ((((((X.setCell ⟨g, i * 4, none⟩ (.int .i64 s.nd)).setCell ⟨g, i * 4 + 1, none⟩ (.int .i64 s.st)).setCell ⟨g, i * 4 + 2, none⟩ (.slice s.ix s.ni s.ci)).setCell ⟨g, i * 4 + 3, none⟩ (.slice s.cl s.nc s.cc)).setCell ⟨bs + 1, 0, none⟩ v').setCell ⟨bs + 1 + 1, 0, none⟩ (.int .i64 ((Y.cnt : Int) + 1))) := by
  subst hnd
  have := h.next hi hs h1 h2 h3 h4 h5 h6 h7 h8 hB
  rwa [show ((Y.cnt + 1 : Nat) : Int) = (Y.cnt : Int) + 1 by omega] at this
/-- the loop's word: the play so far, and no error yet -/
def PI (w : World) (bs M : Nat) (cv : Array Value) (rlv : Value) (W H : Nat) (o : Nat → Int) (no rn : Nat) (ru : Nat → Int × Int) (g : Nat → C4) (N : Int) (pre : List Int) (C : Nat → Prop) (X : World) : Prop :=
  PlyI W H o no rn ru g N (plyL W H o no rn ru N (ply0 g) pre) ∧ (plyL W H o no rn ru N (ply0 g) pre).cnt ≤ pre.length ∧ (∃ vS xs vP, PK w bs cv rlv N o no (plyL W H o no rn ru N (ply0 g) pre) vS xs vP C X) ∧ (∀ b, C b → w.heap.size ≤ b ∧ b < X.heap.size) ∧ Below w.heap.size w X ∧ M ≤ X.heap.size
/-- .. and where there was an error -/
def PX (w : World) (M : Nat) (W H : Nat) (o : Nat → Int) (no rn : Nat) (ru : Nat → Int × Int) (g : Nat → C4) (N : Int) (c : Code) (pre : List Int) (C : Nat → Prop) (X : World) : Prop :=
  c = .ret ∧ (plyL W H o no rn ru N (ply0 g) pre).er = 4 ∧ Bx X (w.heap.size + 1 + 1 + 1) #[.slice none 0 0] ∧ Bx X (w.heap.size + 1 + 1 + 1 + 1) #[.slice none 0 0] ∧ Bx X (w.heap.size + 1 + 1 + 1 + 1 + 1) #[.int .i64 0] ∧ Bx X (w.heap.size + 1 + 1 + 1 + 1 + 1 + 1) #[.int .i64 4] ∧ (∀ b, w.heap.size ≤ b ∧ b < w.heap.size + 7 → C b) ∧ Below w.heap.size w X ∧ M ≤ X.heap.size
theorem below_butC {w A B : World} {C : Nat → Prop} (hB : Below w.heap.size w A) (hb : But (fun b => w.heap.size ≤ b ∧ ¬ C b) A B) : Below w.heap.size w B :=
  hB.trans ⟨hb.os, hb.tape, hb.output, hb.size, fun b hlt => hb.block b (by have := hB.size; omega) (by omega)⟩
theorem pi_stab {w : World} {bs M : Nat} {cv : Array Value} {rlv : Value} {W H : Nat} {o : Nat → Int} {no rn : Nat} {ru : Nat → Int × Int} {g : Nat → C4} {N : Int} : Stab w.heap.size (PI w bs M cv rlv W H o no rn ru g N) := by
  rintro pre C A B ⟨h1, h2, ⟨vS, xs, vP, hK⟩, h4, h5, h6⟩ hb
  have hs := hb.size
  exact ⟨h1, h2, ⟨vS, xs, vP, hK.but hb fun b hc hh => hh.2 hc⟩, fun b hb' => ⟨(h4 b hb').1, by have := (h4 b hb').2; omega⟩, below_butC h5 hb, by omega⟩
theorem px_stab {w : World} {M : Nat} {W H : Nat} {o : Nat → Int} {no rn : Nat} {ru : Nat → Int × Int} {g : Nat → C4} {N : Int} (c : Code) : Stab w.heap.size (PX w M W H o no rn ru g N c) := by
  rintro pre C A B ⟨h0, h1, b3, b4, b5, b6, hC, hB, hM⟩ hb
  have hs := hb.size
  exact ⟨h0, h1, b3.but hb (fun hh => hh.2 (hC _ (by omega))), b4.but hb (fun hh => hh.2 (hC _ (by omega))), b5.but hb (fun hh => hh.2 (hC _ (by omega))), b6.but hb (fun hh => hh.2 (hC _ (by omega))), hC, below_butC hB hb, by omega⟩
theorem PlyOwn.ss3 {o : Nat → Int} {no : Nat} {st : Int → Int} {G : Nat → C4} {L : List Int} {base g m cap : Nat} {W : World} {xs : List SiteR} (h : PlyOwn o no st G L base W (.slice (some ⟨g, 0, none⟩) m cap) xs) : Ss W (some ⟨g, 0, none⟩) xs.length (fun k => xs.getD k SiteR.zero) := by
  obtain ⟨a, c, e, hs⟩ := h.ss
  injection e with e1 e2 e3
  rw [e1]; exact hs
/-- the cells of a site in its list -/
theorem PlyOwn.at4 {o : Nat → Int} {no : Nat} {st : Int → Int} {G : Nat → C4} {L : List Int} {base g m cap : Nat} {W : World} {xs : List SiteR} (h : PlyOwn o no st G L base W (.slice (some ⟨g, 0, none⟩) m cap) xs) {i : Nat} (hi : i < xs.length) {s : SiteR} (hs : xs.getD i SiteR.zero = s) :
    g < W.heap.size ∧ W.cell? ⟨g, i * 4, none⟩ = some (.int .i64 s.nd) ∧ W.cell? ⟨g, i * 4 + 1, none⟩ = some (.int .i64 s.st) ∧ W.cell? ⟨g, i * 4 + 2, none⟩ = some (.slice s.ix s.ni s.ci) ∧ W.cell? ⟨g, i * 4 + 3, none⟩ = some (.slice s.cl s.nc s.cc) := by
  subst hs
  obtain ⟨b, off, e, hb, c0, c1, c2, c3, _⟩ := h.ss3 i hi
  injection e with e
  injection e with e1 e2 e3
  subst e1; subst e2
  simp only [Nat.zero_add] at c0 c1 c2 c3
  exact ⟨hb, c0, c1, c2, c3⟩
theorem Sn.butF {X Y : World} {a : Option Addr} {n : Nat} {f : Nat → N6} (h : Sn X a n f) (hb : But (fun _ => False) X Y) : Sn Y a n f := h.keep hb.size (fun b o hlt => World.cell?_of_block (hb.block b hlt id))
theorem ply_wf {W H : Nat} {o : Nat → Int} {no rn : Nat} {ru : Nat → Int × Int} {g : Nat → C4} {n : Int} {X : Ply} (hno : no = W * H) (hob : ∀ k, k < no → 0 ≤ o k ∧ o k ≤ 7) (hw : W * H ≤ 1024) (hg : (∀ i, i < W * H → validC (g i) = true) ∧ massTo g (W * H) ≤ 1000000000) (hn : n ≤ 1000000) (I : PlyI W H o no rn ru g n X) {k : Nat} (hk : k < X.P.length) : wfN (pF X.P k) := by
  obtain ⟨a1, a2, a3, a4⟩ := noteB_iff.1 ((postB_iff.1 (ply_post hno hg hn I)).2.1 k hk)
  obtain ⟨⟨b1, b2⟩, ⟨b3, b4⟩, ⟨b5, b6⟩, b7, b8⟩ := noteR_iff.1 a1
  have e1 := hob (pF X.P k).ce.toNat (by omega)
  have e2 := hob (nbT W H (pF X.P k).ce.toNat (pF X.P k).di.toNat) (by rw [hno]; exact nbT_lt (by omega) (by omega))
  intro j hj
  refine WalkArith.wf_i64 ?_
  rcases (by omega : j = 0 ∨ j = 1 ∨ j = 2 ∨ j = 3 ∨ j = 4 ∨ j = 5) with rfl | rfl | rfl | rfl | rfl | rfl <;> simp only [N6.get] <;> omega
theorem ply_due {W H : Nat} {o : Nat → Int} {no : Nat} {nd st : Int} (hno : no = W * H) (hob : ∀ k, k < no → 0 ≤ o k ∧ o k ≤ 7) (hw : W * H ≤ 1024) (hs : 0 ≤ st ∧ st ≤ 1000000) (hn : 0 ≤ nd ∧ nd ≤ 7) : ∀ x, x ∈ dueL W H o nd st no → wfN x := fun x hx => by
  obtain ⟨i, d, hi, hd, ho, hne, rfl⟩ := dueL_pl hx
  have e2 := hob (nbT W H i d) (by rw [hno]; exact nbT_lt (by omega) hd)
  intro j hj
  refine WalkArith.wf_i64 ?_
  rcases (by omega : j = 0 ∨ j = 1 ∨ j = 2 ∨ j = 3 ∨ j = 4 ∨ j = 5) with rfl | rfl | rfl | rfl | rfl | rfl <;> simp only [N6.get, plN] <;> omega
section
variable {F : Fence} {n : Nat} {P : Program} {ops : Array Oper} {Q : Exit → Act → World → Prop} {md : Region.Mode} {S : World → Prop}
/-- two may come up -/
theorem anyR_pair {i j : Nat} {oi oj : Oper} {fuel : Nat} {listed : Array Bool} {a : Act} {w : World} (hr : Region.ready md ops listed = [i, j]) (hi : ops[i]? = some oi) (hj : ops[j]? = some oj) (hw : Region.wanted oi (yielded ops a.tmps) = true) (hw2 : Region.wanted oj (yielded ops a.tmps) = true)
    (h1 : ∀ K : Act → World → Prop, (∀ a' w', S w' → anyR F n P md ops Q S fuel (listed.setIfInBounds i true) a' w' → K a' w') → Oper.wpIn F n P oi a w K Q)
    (h2 : ∀ K : Act → World → Prop, (∀ a' w', S w' → anyR F n P md ops Q S fuel (listed.setIfInBounds j true) a' w' → K a' w') → Oper.wpIn F n P oj a w K Q) : anyR F n P md ops Q S (fuel + 1) listed a w := by
  refine ⟨fun h0 => (by rw [h0] at hr; cases hr), fun k hk => ?_⟩
  rw [hr] at hk
  simp only [List.mem_cons, List.not_mem_nil, or_false] at hk
  rcases hk with rfl | rfl
  · unfold wpOpIn
    simp only [hi, hw, if_true]
    exact h1 _ (fun a' w' hs ha => ⟨hs, ha⟩)
  · unfold wpOpIn
    simp only [hj, hw2, if_true]
    exact h2 _ (fun a' w' hs ha => ⟨hs, ha⟩)
end
/-- what is known behind an act and behind the box of its site -/
def ActH (o : Nat → Int) (no : Nat) (Y Y' : Ply) (x : Int) (X3 w6 : World) (bx : Nat) (s' : SiteR) (v : Value) (E : Int) : Prop :=
  (E = 0 ∨ E = 4) ∧ Y'.er = E ∧ (∃ (nd' t' : Int) (L' : List Int) (Cn : Nat → C4) (R' : List N6), (E = 0 → nd' = x ∧ t' = Y.st x + 1 ∧ L' = ownL o x no ∧ Y' = ⟨fun k => if k = x then t' else Y.st k, fun i => if o i = x then Cn i else Y.G i, R', Y.cnt + 1, 0⟩) ∧ s'.nd = nd' ∧ s'.st = t' ∧ s'.ni = L'.length ∧ s'.nc = L'.length ∧ (∀ k, k < L'.length → s'.I k = L'.getD k 0) ∧ (∀ k, k < L'.length → s'.C k = Cn (L'.getD k 0).toNat) ∧ OwnN w6 X3.heap.size v R') ∧ s'.lies w6 ∧ (∀ b off, (s'.ix = some ⟨b, off, none⟩ ∨ s'.cl = some ⟨b, off, none⟩) → X3.heap.size ≤ b ∧ b < w6.heap.size ∧ b ≠ bx) ∧ (∀ g', v.ownBlock = some g' → g' ≠ bx) ∧ But (fun _ => False) X3 w6 ∧ Bx w6 bx #[.int .i64 0, .int .i64 0, .slice none 0 0, .slice none 0 0] ∧ X3.heap.size ≤ bx
theorem actH_mk {o : Nat → Int} {no : Nat} {Y Y' : Ply} {x : Int} {X3 X5 X6 W6 : World} {bx : Nat} {s : SiteR} {v : Value} {E nd' t' : Int} {L' : List Int} {Cn : Nat → C4} {R' : List N6} (g1 : Y'.er = E) (g2 : E = 0 ∨ E = 4)
    (g3 : E = 0 → nd' = x ∧ t' = Y.st x + 1 ∧ L' = ownL o x no ∧ Y' = ⟨fun k => if k = x then t' else Y.st k, fun i => if o i = x then Cn i else Y.G i, R', Y.cnt + 1, 0⟩)
    (f1 : s.lies X6) (f3 : s.nd = nd') (f4 : s.st = t') (f5 : s.ni = L'.length) (f6 : s.nc = L'.length) (f7 : ∀ k, k < L'.length → s.I k = L'.getD k 0) (f8 : ∀ k, k < L'.length → s.C k = Cn (L'.getD k 0).toNat) (f9 : ∀ b off, (s.ix = some ⟨b, off, none⟩ ∨ s.cl = some ⟨b, off, none⟩) → X5.heap.size ≤ b ∧ b < X6.heap.size) (f10 : OwnN X6 X5.heap.size v R')
    (hb6 : Below X5.heap.size X5 X6) (h35 : But (fun _ => False) X3 X5) (hbW : Below X6.heap.size X6 W6) (hbx : Bx W6 bx #[.int .i64 0, .int .i64 0, .slice none 0 0, .slice none 0 0]) (hne : X6.heap.size ≤ bx ∨ X3.heap.size ≤ bx ∧ bx < X5.heap.size) : ActH o no Y Y' x X3 W6 bx s v E := by
  have h1 := h35.size; have h2 := hb6.size; have h3 := hbW.size
  refine ⟨g2, g1, ⟨nd', t', L', Cn, R', g3, f3, f4, f5, f6, f7, f8, own_mono (own_below f10 hbW) h1⟩, f1.below hbW, fun b off hh => ?_, fun g' hg' => ?_, (h35.trans (but_below hb6 (Nat.le_refl _))).trans (but_below hbW (Nat.le_refl _)), hbx, by omega⟩
  · have := f9 b off hh
    omega
  · have := own_base f10 g' hg'; have := own_lt f10 g' hg'
    omega
section
variable {F : Fence} {n : Nat} {P : Program} {ops : Array Oper} {Q : Exit → Act → World → Prop} {md : Region.Mode} {S : World → Prop}
theorem anyR_listed {fuel : Nat} {listed l' : Array Bool} {a : Act} {w : World} (e : listed = l') (h : anyR F n P md ops Q S fuel l' a w) : anyR F n P md ops Q S fuel listed a w := e ▸ h
end
theorem wpIn_region_RN {F : Fence} {n : Nat} {P : Program} {ops : Array Oper} {Q : Exit → Act → World → Prop} {id : Nat} {a : Act} {w : World} (S : World → Prop) (hm : P.follows .mixedOrders = true)
    (h : anyR F n P .any ops (Qn Q) S ops.size (Array.replicate ops.size false) a w.drew) : (Code.region id ops true).wpIn F n P Q a w :=
  Code.wpIn_mono (fun e a w h => by
    cases e with
    | normal => exact h
    | _ => exact h.elim) (wpIn_region_R S hm h)
end Go.Proofs.YteabkcbajpjkoaaGreat
namespace Go.Proofs.YteabkcbajpjkoaaGreat
open Go Go.RowKit
attribute [local go_sem] Oper.semAt_some
set_option linter.unusedVariables false
set_option linter.unusedSimpArgs false
set_option maxRecDepth 100000 in
set_option maxHeartbeats 16000000 in
theorem node_play (Wd Hd : Nat) (a ao rl : Option Addr) (n c no co rn rc gf : Nat) (lb : Array Value) (L : List Int) (o : Nat → Int) (ru : Nat → Int × Int) (g : Nat → C4) (N : Int) (w : World) (h1 : 1 ≤ Wd ∧ Wd ≤ 64) (h2 : 1 ≤ Hd ∧ Hd ≤ 64) (hn4 : Wd * Hd ≤ 1024) (hno : no = Wd * Hd) (hn : n = no)
    (hg : (∀ i, i < Wd * Hd → validC (g i) = true) ∧ massTo g (Wd * Hd) ≤ 1000000000) (hob : ∀ k, k < no → 0 ≤ o k ∧ o k ≤ 7) (hru : rulesB rn ru = true) (hN : 0 ≤ N ∧ N ≤ 1000) (hL : L.length ≤ 1000000) (hLo : ∀ x ∈ L, ∃ i, i < no ∧ o i = x)
    (H : Sc w a n g) (HO : Sl w ao no o) (HR : Sr w rl rn ru) (hit : IterR Tryz.prog gf lb (fun x : Int => #[.int .i64 x]) L w (fun _ => True)) (eg : ∀ args w, (callFunc gf args).run Tryz.prog w = .ok (.enter gf args) w) :
    Calls Tryz.prog 39 #[.agg (cluV Wd Hd a ao n c no co), .slice rl rn rc, .int .i64 N, .func (.func gf) #[] lb] w (PlyPost o no (plyL Wd Hd o no rn ru N (ply0 g) L) w) := by
  have h0 : 0 < no := by rw [hno]; exact Nat.mul_pos (by omega) (by omega)
  have hsp := fun W S SO => node_split Wd Hd a ao n c no co g o W h0 (by omega) hn hob S SO
  have hst := ply_start (W := Wd) (H := Hd) (o := o) (no := no) (rn := rn) (ru := ru) (g := g) (n := N) hN.1
  have hnl : nodeL o no 8 ≠ [] := fun hh => by
    obtain ⟨k, hk, _⟩ := node_has hob (x := o 0) ⟨0, h0, rfl⟩
    rw [hh] at hk
    exact absurd hk (Nat.not_lt_zero _)
  have hnx : ∀ (pre : List Int) (x : Int), (plyL Wd Hd o no rn ru N (ply0 g) (pre ++ [x])) = plyN Wd Hd o no rn ru N (plyL Wd Hd o no rn ru N (ply0 g) pre) x := fun pre x => plyL_snoc _ _ _
  unfold cluV at *
  have HNO := hid hno; have HN := hid hn
  have HST := hid hst; have HNX := hid hnx
  have HOB := hid hob; have HG := hid hg; have HLO := hid hLo
  clear hno hn hst hnx hob hg hLo
  have X0 := ((((((Bx.new w #[.int .i64 (Wd : Int), .int .i64 (Hd : Int), .slice a n c, .slice ao no co] 62).alloc (.cells #[.slice rl rn rc] 26)).alloc (.cells #[.int .i64 N] 3)).alloc (.cells #[.slice none 0 0] 66)).alloc (.cells #[.slice none 0 0] 67)).alloc (.cells #[.int .i64 0] 3)).alloc (.cells #[.int .i64 0] 28)
  have X1 := (((((Bx.new (w.alloc (.cells #[.int .i64 (Wd : Int), .int .i64 (Hd : Int), .slice a n c, .slice ao no co] 62)) #[.slice rl rn rc] 26).alloc (.cells #[.int .i64 N] 3)).alloc (.cells #[.slice none 0 0] 66)).alloc (.cells #[.slice none 0 0] 67)).alloc (.cells #[.int .i64 0] 3)).alloc (.cells #[.int .i64 0] 28)
  have X2 := ((((Bx.new ((w.alloc (.cells #[.int .i64 (Wd : Int), .int .i64 (Hd : Int), .slice a n c, .slice ao no co] 62)).alloc (.cells #[.slice rl rn rc] 26)) #[.int .i64 N] 3).alloc (.cells #[.slice none 0 0] 66)).alloc (.cells #[.slice none 0 0] 67)).alloc (.cells #[.int .i64 0] 3)).alloc (.cells #[.int .i64 0] 28)
  have X3 := (((Bx.new (((w.alloc (.cells #[.int .i64 (Wd : Int), .int .i64 (Hd : Int), .slice a n c, .slice ao no co] 62)).alloc (.cells #[.slice rl rn rc] 26)).alloc (.cells #[.int .i64 N] 3)) #[.slice none 0 0] 66).alloc (.cells #[.slice none 0 0] 67)).alloc (.cells #[.int .i64 0] 3)).alloc (.cells #[.int .i64 0] 28)
  have X4 := ((Bx.new ((((w.alloc (.cells #[.int .i64 (Wd : Int), .int .i64 (Hd : Int), .slice a n c, .slice ao no co] 62)).alloc (.cells #[.slice rl rn rc] 26)).alloc (.cells #[.int .i64 N] 3)).alloc (.cells #[.slice none 0 0] 66)) #[.slice none 0 0] 67).alloc (.cells #[.int .i64 0] 3)).alloc (.cells #[.int .i64 0] 28)
  have X5 := (Bx.new (((((w.alloc (.cells #[.int .i64 (Wd : Int), .int .i64 (Hd : Int), .slice a n c, .slice ao no co] 62)).alloc (.cells #[.slice rl rn rc] 26)).alloc (.cells #[.int .i64 N] 3)).alloc (.cells #[.slice none 0 0] 66)).alloc (.cells #[.slice none 0 0] 67)) #[.int .i64 0] 3).alloc (.cells #[.int .i64 0] 28)
  have X6 := Bx.new ((((((w.alloc (.cells #[.int .i64 (Wd : Int), .int .i64 (Hd : Int), .slice a n c, .slice ao no co] 62)).alloc (.cells #[.slice rl rn rc] 26)).alloc (.cells #[.int .i64 N] 3)).alloc (.cells #[.slice none 0 0] 66)).alloc (.cells #[.slice none 0 0] 67)).alloc (.cells #[.int .i64 0] 3)) #[.int .i64 0] 28
  simp only [World.size_alloc] at X1 X2 X3 X4 X5 X6
  have hB0 : Below w.heap.size w (((((((w.alloc (.cells #[.int .i64 (Wd : Int), .int .i64 (Hd : Int), .slice a n c, .slice ao no co] 62)).alloc (.cells #[.slice rl rn rc] 26)).alloc (.cells #[.int .i64 N] 3)).alloc (.cells #[.slice none 0 0] 66)).alloc (.cells #[.slice none 0 0] 67)).alloc (.cells #[.int .i64 0] 3)).alloc (.cells #[.int .i64 0] 28)) := by (repeat' (first | with_reducible assumption | with_reducible exact Below.refl _ _ | with_reducible refine Below.drew ?_ | with_reducible refine below_drewN ?_ _ | with_reducible refine balloc ?_ _ | with_reducible refine bset ?_ ?_ _ | with_reducible refine Below.setCell ?_ ?_ _ | with_reducible refine Below.alloc ?_ ?_ _ | omega | (simp; done) | (simp; omega)))
  refine callsIn_wide.1 (callsIn_of_wp_marks (F := Fence.wide) (n := 0) Tryz.func39 rfl trivial ?_ rfl)
  simp only [Tryz.ntmps39, List.size_toArray, List.length_cons, List.length_nil, Nat.reduceAdd, Nat.reduceSub, Array.replicate_succ, Array.replicate_zero, List.push_toArray, List.append_toArray, List.nil_append, List.cons_append]
  gi_wp2_with fail
  generalize (((((((w.alloc (.cells #[.int .i64 (Wd : Int), .int .i64 (Hd : Int), .slice a n c, .slice ao no co] 62)).alloc (.cells #[.slice rl rn rc] 26)).alloc (.cells #[.int .i64 N] 3)).alloc (.cells #[.slice none 0 0] 66)).alloc (.cells #[.slice none 0 0] 67)).alloc (.cells #[.int .i64 0] 3)).alloc (.cells #[.int .i64 0] 28)) = W0 at X0 X1 X2 X3 X4 X5 X6 hB0 ⊢
  have z0 := X0.lt
  have z1 := X1.lt
  have z2 := X2.lt
  have z3 := X3.lt
  have z4 := X4.lt
  have z5 := X5.lt
  have z6 := X6.lt
  refine wpIn_wide.2 (wp_scope_straight ((wpIn_wide (n := 0)).1 ?_))
  have q0 := X0.at_ 0 rfl; have q1 := X0.at_ 1 rfl; have q2 := X0.at_ 2 rfl; have q3 := X0.at_ 3 rfl; have ql := X0.lt
  gi_wp2_with fail
  clear q0 q1 q2 q3 ql
  refine ⟨trivial, rfl, callsIn_wide.2 ((hsp _ (H.below hB0) (HO.below hB0)).mono ?_)⟩
  rintro e w1 ⟨vS, xs, rfl, hSO, hb1⟩
  have B1 := bvia hB0 hb1
  have hl6 := X6.lt
  have hs1 := hb1.size
  obtain ⟨gs, cS, rfl, HSs, hgb, hgl⟩ := (ply_split hSO).ss2 hnl
  have S1 := hid (ply_split hSO)
  have C3 := hid (show ∀ k, k < (nodeL o no 8).length → ∀ b of, ((xs.getD k SiteR.zero).ix = some ⟨b, of, none⟩ ∨ (xs.getD k SiteR.zero).cl = some ⟨b, of, none⟩) → w.heap.size + 7 ≤ b ∧ b < w1.heap.size from fun k hk b of hh => by
    have := (hSO.2.2 k hk).2.2.1 b of hh
    omega)
  have hlo : w.heap.size + 7 ≤ w1.heap.size := by omega
  have hgb7 : w.heap.size + 7 ≤ gs := by omega
  clear hSO hnl HSs hgb
  replace X0 := X0.below hb1; replace X1 := X1.below hb1; replace X2 := X2.below hb1; replace X3 := X3.below hb1; replace X4 := X4.below hb1; replace X5 := X5.below hb1; replace X6 := X6.below hb1
  clear hsp hb1 hB0
  gi_wp2_with fail
  have hK0 : PK w w1.heap.size #[.int .i64 (Wd : Int), .int .i64 (Hd : Int), .slice a n c, .slice ao no co] (.slice rl rn rc) N o no (ply0 g) (.slice (some ⟨gs, 0, none⟩) xs.length cS) xs (.slice none 0 0) (fun b => w.heap.size ≤ b ∧ b < w1.heap.size + 3) (((w1.alloc (.cells #[.slice (some ⟨gs, 0, none⟩) xs.length cS] 66)).alloc (.cells #[.slice none 0 0] 67)).alloc (.cells #[.int .i64 0] 3)) := by
    have hb3 : Below w1.heap.size w1 (((w1.alloc (.cells #[.slice (some ⟨gs, 0, none⟩) xs.length cS] 66)).alloc (.cells #[.slice none 0 0] 67)).alloc (.cells #[.int .i64 0] 3)) := balloc (balloc (below_alloc _ _) _) _
    have U0 := ((Bx.new w1 #[.slice (some ⟨gs, 0, none⟩) xs.length cS] 66).alloc (.cells #[.slice none 0 0] 67)).alloc (.cells #[.int .i64 0] 3)
    have U1 := (Bx.new (w1.alloc (.cells #[.slice (some ⟨gs, 0, none⟩) xs.length cS] 66)) #[.slice none 0 0] 67).alloc (.cells #[.int .i64 0] 3)
    have U2 := Bx.new ((w1.alloc (.cells #[.slice (some ⟨gs, 0, none⟩) xs.length cS] 66)).alloc (.cells #[.slice none 0 0] 67)) #[.int .i64 0] 3
    simp only [World.size_alloc] at U1 U2
    refine ⟨X0.below hb3, X1.below hb3, X2.below hb3, X3.below hb3, X4.below hb3, X5.below hb3, X6.below hb3, U0, U1, U2, ?_, ownN_nil _ _, hlo, fun b hb => by omega, fun g' hg' => ?_, fun g' hg' => (by cases hg'), fun k hk b of hh => ?_⟩
    · obtain ⟨p1, p2, p3⟩ := S1.out.below hb3
      exact ⟨own_mono p1 (by omega), p2, fun k hk => by
        obtain ⟨q1, q2, q3, q4⟩ := p3 k hk
        exact ⟨q1, q2, fun b of hh => ⟨by have := (q3 b of hh).1; omega, (q3 b of hh).2⟩, q4⟩⟩
    · have : g' = gs := by simpa [Value.ownBlock] using hg'.symm
      omega
    · have := C3.out k hk b of hh
      omega
  have B2 : Below w.heap.size w (((w1.alloc (.cells #[.slice (some ⟨gs, 0, none⟩) xs.length cS] 66)).alloc (.cells #[.slice none 0 0] 67)).alloc (.cells #[.int .i64 0] 3)) := by (repeat' (first | with_reducible assumption | with_reducible exact Below.refl _ _ | with_reducible refine Below.drew ?_ | with_reducible refine below_drewN ?_ _ | with_reducible refine balloc ?_ _ | with_reducible refine bset ?_ ?_ _ | with_reducible refine Below.setCell ?_ ?_ _ | with_reducible refine Below.alloc ?_ ?_ _ | omega | (simp; done) | (simp; omega)))
  have hs2 : (((w1.alloc (.cells #[.slice (some ⟨gs, 0, none⟩) xs.length cS] 66)).alloc (.cells #[.slice none 0 0] 67)).alloc (.cells #[.int .i64 0] 3)).heap.size = w1.heap.size + 3 := by simp
  have P0 : PI w w1.heap.size (w1.heap.size + 3) #[.int .i64 (Wd : Int), .int .i64 (Hd : Int), .slice a n c, .slice ao no co] (.slice rl rn rc) Wd Hd o no rn ru g N [] (fun b => w.heap.size ≤ b ∧ b < w1.heap.size + 3) (((w1.alloc (.cells #[.slice (some ⟨gs, 0, none⟩) xs.length cS] 66)).alloc (.cells #[.slice none 0 0] 67)).alloc (.cells #[.int .i64 0] 3)) :=
    ⟨HST.out, Nat.le_refl _, ⟨_, _, _, hK0⟩, fun b hb => ⟨hb.1, by rw [hs2]; exact hb.2⟩, B2, by rw [hs2]; exact Nat.le_refl _⟩
  generalize (((w1.alloc (.cells #[.slice (some ⟨gs, 0, none⟩) xs.length cS] 66)).alloc (.cells #[.slice none 0 0] 67)).alloc (.cells #[.int .i64 0] 3)) = w2 at *
  generalize w1.heap.size = bs at *
  clear X0 X1 X2 X3 X4 X5 X6 hK0 S1 C3 z0 z1 z2 z3 z4 z5 z6 B1 hs1 hl6
  refine wpIn_label ?_
  gi_wp2_with fail
  refine wp_rangeR rfl eg hit B2 (fun _ => rfl) (PI w bs (bs + 3) #[.int .i64 (Wd : Int), .int .i64 (Hd : Int), .slice a n c, .slice ao no co] (.slice rl rn rc) Wd Hd o no rn ru g N) (PX w (bs + 3) Wd Hd o no rn ru g N) (fun b => w.heap.size ≤ b ∧ b < bs + 3) (fun _ _ _ _ => trivial) (fun pre C X h => h.2.2.2.1) pi_stab (fun c => px_stab c) P0 ?hround ?hdone ?hstop
  case hround =>
    rintro l pre x C X hl hl' hnl ⟨rec2, hrec2⟩ ⟨hI, hcn, ⟨vS, ys, vP, hK⟩, hCb, hB, hM⟩ hX hgC hpre
    have hxL : x ∈ L := by obtain ⟨t, ht⟩ := hpre; rw [← ht]; exact List.mem_append.2 (.inl (List.mem_append.2 (.inr (List.mem_singleton.2 rfl))))
    have hplen : pre.length < L.length := by obtain ⟨t, ht⟩ := hpre; rw [← ht]; simp
    obtain ⟨ix, hix, hixe, hixn, hown0, hx0, hx7⟩ := node_has HOB.out (HLO.out x hxL)
    have hnxt := HNX.out pre x
    obtain ⟨Y, hY⟩ : ∃ Y, Y = plyL Wd Hd o no rn ru N (ply0 g) pre := ⟨_, rfl⟩
    rw [← hY] at hI hcn hK hnxt
    have HY := hid hY; clear hY
    obtain ⟨av, cP, rfl, HSn⟩ := sn_of_own hK.po
    obtain ⟨gs, cS, rfl, HSs, _, hgl⟩ := hK.si.ss2 (fun hh => by rw [hh] at hix; exact absurd hix (Nat.not_lt_zero _))
    have hyl : ys.length = (nodeL o no 8).length := hK.si.2.1
    obtain ⟨hq, hli, _, _⟩ := hK.si.2.2 ix hix
    unfold Round
    dsimp only
    gi_wp2_with fail
    refine ⟨below_alloc _ _, ?_⟩
    intro X₂ hb2 hsz2 hr2
    have hbx : But (fun z => z = l) X X₂ := (But.refl _ X |>.alloc _).trans hb2
    have hK2 := hK.but hbx (fun b hb e => hnl (e ▸ hb))
    have hsx := hbx.size
    have B3 : Below w.heap.size w X₂ := below_but (C := fun z => z = l) hB (hbx.mono (fun z _ h => ⟨by omega, h⟩))
    have U : Bx X₂ X.heap.size #[.int .i64 x] := (Bx.new X #[.int .i64 x] 3).but hb2 (by omega)
    have hsl := U.lt
    have hn8 := nodeL_length o no 8
    have hidx := sites_at (some ⟨gs, 0, none⟩) ys.length cS X.heap.size x (fun k => ys.getD k SiteR.zero) X₂ (by omega) ((hK2.si.ss2 (fun hh => by rw [hh] at hix; exact absurd hix (Nat.not_lt_zero _))).elim fun g' h' => h'.elim fun c' h'' => by
      obtain ⟨e1, e2, _⟩ := h''
      injection e1 with e1 _ _
      rw [e1]; exact e2) U (by rw [hyl]; exact hix) (hq.1.trans hixe) (fun k hk hh => hixn k (by omega) (by omega) (by rw [← hh]; exact (hK.si.2.2 k (by omega)).1.1.symm))
    have r12 := hK2.y0.at_ 0 rfl; have l12 := hK2.y0.lt
    have HI := hid hI; have HYL := hid hyl; have HIXE := hid hixe; have HIXN := hid hixn; have HNXT := hid hnxt; have HQ := hid hq; have HLI := hid hli; have HIX := hid hix; have HCB := hid hCb
    have HLP := hid hplen
    clear hK hb2 hI hyl hixe hixn hnxt hq hli hix hpre hxL hCb
    gi_wp2_with fail
    clear r12 l12
    refine ⟨trivial, rfl, callsIn_of (hidx.mono ?_)⟩
    rintro e X3 ⟨rfl, hb3⟩
    have hK3 := hK2.but (D := fun _ => False) (but_below hb3 (Nat.le_refl _)) (fun _ _ h => h)
    have hbt3 : But (fun _ => False) X₂ X3 := but_below hb3 (Nat.le_refl _)
    have HBT3 := hid hbt3
    clear hidx hK2 hb3 HSs HSn
    have hs3 := hbt3.size
    gi_upto_region 7 with (fail)
    have B4 : Below w.heap.size w X3 := below_but (C := fun _ => False) B3 (hbt3.mono fun _ _ h => h.elim)
    obtain ⟨s, hs⟩ : ∃ s, ys.getD ix SiteR.zero = s := ⟨_, rfl⟩
    obtain ⟨hgs3, c0, c1, c2, c3⟩ := hK3.si.at4 (i := ix) (by rw [HYL.out]; exact HIX.out) hs
    have HSN : Sn X3 av Y.P.length (pF Y.P) := by
      obtain ⟨a', c', e, h'⟩ := sn_of_own hK3.po
      injection e with e1 e2 e3
      rw [e1]; exact h'
    have HQ2 := hid (show s.nd = x ∧ s.st = Y.st x from ⟨by rw [← hs]; exact HQ.out.1.trans HIXE.out, by rw [← hs, HQ.out.2.1, HIXE.out]⟩)
    have hP5 := HI.out.len
    have hcnt := fun Z (h : But (fun _ => False) X3 Z) => node_counts av Y.P.length cP (pF Y.P) Z (by omega) (HSN.butF h) (fun k hk => ply_wf HNO.out HOB.out hn4 HG.out (by omega) HI.out hk)
    have hread := fun bm Z (h : Below w.heap.size w Z) HM => node_ready Wd Hd a ao n c no co o s.nd s.st s.ix s.cl s.ni s.ci s.nc s.cc bm Y.P.length (fun y => metB (pF Y.P) y Y.P.length) (fun y => cntV (pF Y.P) y Y.P.length) Z h1 h2 HNO.out (HO.below h) HM (ply_due HNO.out HOB.out hn4 (by rw [HQ2.out.2]; have h1 := HI.out.st0 x; have h2 := HI.out.stn x; omega) (by rw [HQ2.out.1]; exact ⟨hx0, hx7⟩))
    unfold cluV at hread
    have hgo : goesB Wd Hd o no N Y x = (!decide (N ≤ s.st) && (s.st == 0 || (dueL Wd Hd o s.nd s.st no).all fun y => metB (pF Y.P) y Y.P.length)) := by
      unfold goesB readyB
      rw [HQ2.out.1, HQ2.out.2]
    obtain ⟨R, hR⟩ : ∃ R, (s.st == 0 || (dueL Wd Hd o s.nd s.st no).all fun y => metB (pF Y.P) y Y.P.length) = R := ⟨_, rfl⟩
    rw [hR] at hread hgo
    have r0 : ∀ Z, But (fun _ => False) X3 Z → Z.cell? ⟨bs, 0, none⟩ = some (.slice (some ⟨gs, 0, none⟩) ys.length cS) := fun Z h => (hK3.y0.but h id).at_ 0 rfl
    have rN : ∀ Z, But (fun _ => False) X3 Z → Z.cell? ⟨w.heap.size + 1 + 1, 0, none⟩ = some (.int .i64 N) := fun Z h => (hK3.x2.but h id).at_ 0 rfl
    have q0 : ∀ Z, But (fun _ => False) X3 Z → Z.cell? ⟨w.heap.size, 0, none⟩ = some (.int .i64 (Wd : Int)) := fun Z h => (hK3.x0.but h id).at_ 0 rfl
    have q1 : ∀ Z, But (fun _ => False) X3 Z → Z.cell? ⟨w.heap.size, 1, none⟩ = some (.int .i64 (Hd : Int)) := fun Z h => (hK3.x0.but h id).at_ 1 rfl
    have q2 : ∀ Z, But (fun _ => False) X3 Z → Z.cell? ⟨w.heap.size, 2, none⟩ = some (.slice a n c) := fun Z h => (hK3.x0.but h id).at_ 2 rfl
    have q3 : ∀ Z, But (fun _ => False) X3 Z → Z.cell? ⟨w.heap.size, 3, none⟩ = some (.slice ao no co) := fun Z h => (hK3.x0.but h id).at_ 3 rfl
    have s0 : ∀ Z, But (fun _ => False) X3 Z → Z.cell? ⟨gs, ix * 4, none⟩ = some (.int .i64 s.nd) := fun Z h => (World.cell?_of_block (h.block gs hgs3 id)).trans c0
    have s1 : ∀ Z, But (fun _ => False) X3 Z → Z.cell? ⟨gs, ix * 4 + 1, none⟩ = some (.int .i64 s.st) := fun Z h => (World.cell?_of_block (h.block gs hgs3 id)).trans c1
    have s2 : ∀ Z, But (fun _ => False) X3 Z → Z.cell? ⟨gs, ix * 4 + 2, none⟩ = some (.slice s.ix s.ni s.ci) := fun Z h => (World.cell?_of_block (h.block gs hgs3 id)).trans c2
    have s3 : ∀ Z, But (fun _ => False) X3 Z → Z.cell? ⟨gs, ix * 4 + 3, none⟩ = some (.slice s.cl s.nc s.cc) := fun Z h => (World.cell?_of_block (h.block gs hgs3 id)).trans c3
    have rp : ∀ Z, But (fun _ => False) X3 Z → Z.cell? ⟨bs + 1, 0, none⟩ = some (.slice av Y.P.length cP) := fun Z h => (hK3.y1.but h id).at_ 0 rfl
    have hixl : ix < ys.length := by rw [HYL.out]; exact HIX.out
    have HS := hid hs; have HR' := hid hR; have HGO := hid hgo
    have HCNT := hid hcnt; have HREAD := hid hread
    have hskip : goesB Wd Hd o no N Y x = false → ∀ Z, But (fun _ => False) X3 Z → ∃ C', But C X₂ Z ∧ Grw C C' X₂ ∧ PI w bs (bs + 3) #[.int .i64 (Wd : Int), .int .i64 (Hd : Int), .slice a n c, .slice ao no co] (.slice rl rn rc) Wd Hd o no rn ru g N (pre ++ [x]) C' Z := fun hno2 Z hZ => by
      have hzs := hZ.size
      refine ⟨C, (hbt3.trans hZ).mono (fun _ _ h => h.elim), Grw.refl _ _, ?_⟩
      unfold PI
      rw [HNXT.out, plyN_no hno2]
      refine ⟨HI.out, by simp; omega, ⟨_, _, _, hK3.but hZ (fun _ _ h => h)⟩, fun b hb => ⟨(HCB.out b hb).1, ?_⟩, below_but (C := fun _ => False) B4 (hZ.mono fun _ _ h => h.elim), by omega⟩
      have := (HCB.out b hb).2
      omega
    have HSKIP := hid hskip
    clear hskip hs hR hgo c0 c1 c2 c3 hcnt hread U hbx hsx hsz2 hr2 hbt3 HSN
    refine wpIn_region_R (But (fun _ => False) X3) (by kernel_rfl) ?_
    refine anyR_take (i := 0) (fun _ => trivial) rfl (by kernel_rfl) (fun _ _ _ h => h) (Or.inl ⟨by rfl, fun Y hYb => (by (try dsimp only at hYb); go_simp; rfl)⟩) (by repeat' (first | assumption | exact But.refl _ _ | refine But.drew ?_ | refine But.drewN ?_ _)) ?_
    simp only [List.getElem_toArray, List.getElem_cons_succ, List.getElem_cons_zero, Act.put, List.setIfInBounds_toArray, List.set_cons_zero, List.set_cons_succ]
    refine anyR_take (i := 1) (fun _ => trivial) rfl (by kernel_rfl) (fun _ _ _ h => h) (Or.inl ⟨by rfl, fun Y hYb => (by (try dsimp only at hYb); go_simp; rfl)⟩) (by repeat' (first | assumption | exact But.refl _ _ | refine But.drew ?_ | refine But.drewN ?_ _)) ?_
    simp only [List.getElem_toArray, List.getElem_cons_succ, List.getElem_cons_zero, Act.put, List.setIfInBounds_toArray, List.set_cons_zero, List.set_cons_succ]
    refine anyR_take (i := 2) (fun _ => trivial) rfl (by kernel_rfl) (fun _ _ _ h => h) (Or.inl ⟨by rfl, fun Y hYb => (by (try dsimp only at hYb); go_simp; rfl)⟩) (by repeat' (first | assumption | exact But.refl _ _ | refine But.drew ?_ | refine But.drewN ?_ _)) ?_
    simp only [List.getElem_toArray, List.getElem_cons_succ, List.getElem_cons_zero, Act.put, List.setIfInBounds_toArray, List.set_cons_zero, List.set_cons_succ]
    refine anyR_take (i := 3) (fun _ => trivial) rfl (by kernel_rfl) (fun _ _ _ h => h) (Or.inl ⟨by rfl, fun Y hYb => (by (try dsimp only at hYb); go_simp; rfl)⟩) (by repeat' (first | assumption | exact But.refl _ _ | refine But.drew ?_ | refine But.drewN ?_ _)) ?_
    simp only [List.getElem_toArray, List.getElem_cons_succ, List.getElem_cons_zero, Act.put, List.setIfInBounds_toArray, List.set_cons_zero, List.set_cons_succ]
    refine anyR_take (i := 4) (fun _ => trivial) rfl (by kernel_rfl) (fun _ _ _ h => h) (Or.inl ⟨by rfl, fun Y hYb => (by (try dsimp only at hYb); go_simp; rfl)⟩) (by repeat' (first | assumption | exact But.refl _ _ | refine But.drew ?_ | refine But.drewN ?_ _)) ?_
    simp only [List.getElem_toArray, List.getElem_cons_succ, List.getElem_cons_zero, Act.put, List.setIfInBounds_toArray, List.set_cons_zero, List.set_cons_succ]
    refine anyR_take (i := 5) (fun _ => trivial) rfl (by kernel_rfl) (fun _ _ _ h => h) (Or.inl ⟨by rfl, fun Y hYb => (by (try dsimp only at hYb); go_simp; rfl)⟩) (by repeat' (first | assumption | exact But.refl _ _ | refine But.drew ?_ | refine But.drewN ?_ _)) ?_
    simp only [List.getElem_toArray, List.getElem_cons_succ, List.getElem_cons_zero, Act.put, List.setIfInBounds_toArray, List.set_cons_zero, List.set_cons_succ]
    cases hge : decide (N ≤ s.st)
    all_goals
      refine anyR_take (i := 6) (fun _ => trivial) rfl (by kernel_rfl) (fun _ _ _ h => h) (Or.inl ⟨by rfl, fun Y hYb => (by (try dsimp only at hYb); go_simp; rfl)⟩) (by repeat' (first | assumption | exact But.refl _ _ | refine But.drew ?_ | refine But.drewN ?_ _)) ?_
      simp only [List.getElem_toArray, List.getElem_cons_succ, List.getElem_cons_zero, Act.put, List.setIfInBounds_toArray, List.set_cons_zero, List.set_cons_succ]
      refine anyR_take (i := 7) (fun _ => trivial) rfl (by kernel_rfl) (fun _ _ _ h => h) (Or.inl ⟨by rfl, fun Y hYb => (by (try dsimp only at hYb); go_simp; rfl)⟩) (by repeat' (first | assumption | exact But.refl _ _ | refine But.drew ?_ | refine But.drewN ?_ _)) ?_
      simp only [List.getElem_toArray, List.getElem_cons_succ, List.getElem_cons_zero, Act.put, List.setIfInBounds_toArray, List.set_cons_zero, List.set_cons_succ]
    · skip
      refine anyR_take (i := 8) (fun _ => trivial) rfl (by kernel_rfl) (fun _ _ _ h => h) (Or.inl ⟨by rfl, fun Y hYb => (by (try dsimp only at hYb); go_simp; rfl)⟩) (by repeat' (first | assumption | exact But.refl _ _ | refine But.drew ?_ | refine But.drewN ?_ _)) ?_
      simp only [List.getElem_toArray, List.getElem_cons_succ, List.getElem_cons_zero, Act.put, List.setIfInBounds_toArray, List.set_cons_zero, List.set_cons_succ]
      refine anyR_take (i := 9) (fun _ => trivial) rfl (by kernel_rfl) (fun _ _ _ h => h) (Or.inl ⟨by rfl, fun Y hYb => (by (try dsimp only at hYb); go_simp; rfl)⟩) (by repeat' (first | assumption | exact But.refl _ _ | refine But.drew ?_ | refine But.drewN ?_ _)) ?_
      simp only [List.getElem_toArray, List.getElem_cons_succ, List.getElem_cons_zero, Act.put, List.setIfInBounds_toArray, List.set_cons_zero, List.set_cons_succ]
      refine anyR_take (i := 10) (fun _ => trivial) rfl (by kernel_rfl) (fun _ _ _ h => h) (Or.inl ⟨by rfl, fun Y hYb => (by (try dsimp only at hYb); go_simp; rfl)⟩) (by repeat' (first | assumption | exact But.refl _ _ | refine But.drew ?_ | refine But.drewN ?_ _)) ?_
      simp only [List.getElem_toArray, List.getElem_cons_succ, List.getElem_cons_zero, Act.put, List.setIfInBounds_toArray, List.set_cons_zero, List.set_cons_succ]
      refine anyR_take (i := 11) (fun _ => trivial) rfl (by kernel_rfl) (fun _ _ _ h => h) (Or.inl ⟨by rfl, fun Y hYb => (by (try dsimp only at hYb); go_simp; rfl)⟩) (by repeat' (first | assumption | exact But.refl _ _ | refine But.drew ?_ | refine But.drewN ?_ _)) ?_
      simp only [List.getElem_toArray, List.getElem_cons_succ, List.getElem_cons_zero, Act.put, List.setIfInBounds_toArray, List.set_cons_zero, List.set_cons_succ]
      refine anyR_take (i := 12) (fun _ => trivial) rfl (by kernel_rfl) (fun _ _ _ h => h) (Or.inl ⟨by rfl, fun Y hYb => (by (try dsimp only at hYb); go_simp; rfl)⟩) (by repeat' (first | assumption | exact But.refl _ _ | refine But.drew ?_ | refine But.drewN ?_ _)) ?_
      simp only [List.getElem_toArray, List.getElem_cons_succ, List.getElem_cons_zero, Act.put, List.setIfInBounds_toArray, List.set_cons_zero, List.set_cons_succ]
      refine anyR_take (i := 13) (fun _ => trivial) rfl (by kernel_rfl) (fun _ _ _ h => h) (Or.inl ⟨by rfl, fun Y hYb => (by (try dsimp only at hYb); go_simp; rfl)⟩) (by repeat' (first | assumption | exact But.refl _ _ | refine But.drew ?_ | refine But.drewN ?_ _)) ?_
      simp only [List.getElem_toArray, List.getElem_cons_succ, List.getElem_cons_zero, Act.put, List.setIfInBounds_toArray, List.set_cons_zero, List.set_cons_succ]
      refine anyR_one (i := 14) (by kernel_rfl) rfl (by rfl) (fun K hK => ?_)
      go_simp
      refine ⟨trivial, rfl, callsIn_of ((HCNT.out _ (But.refl _ X3).drew).mono ?_)⟩
      rintro e X4 ⟨bm, rfl, hM, hb4⟩
      have hs4 : But (fun _ => False) X3 X4 := (But.refl _ X3).drew.trans (but_below hb4 (Nat.le_refl _))
      refine hK _ _ hs4 ?_
      clear hK K hb4
      refine anyR_one (i := 15) (by kernel_rfl) rfl (by rfl) (fun K hK => ?_)
      go_simp
      refine ⟨trivial, rfl, callsIn_of ((HREAD.out bm _ (below_but (C := fun _ => False) B4 (hs4.mono fun _ _ h => h.elim)) hM).mono ?_)⟩
      rintro e X5 ⟨rfl, hb5⟩
      have hs5 : But (fun _ => False) X3 X5 := hs4.trans (but_below hb5 (Nat.le_refl _))
      refine hK _ _ hs5 ?_
      clear hK K hb5 hM hs4 HCNT HREAD
      cases R
      · skip
        refine anyR_take (i := 16) (fun _ => trivial) rfl (by kernel_rfl) (fun _ _ _ h => h) (Or.inl ⟨by rfl, fun Y hYb => (by (try dsimp only at hYb); go_simp; rfl)⟩) (by repeat' (first | assumption | exact But.refl _ _ | refine But.drew ?_ | refine But.drewN ?_ _)) ?_
        simp only [List.getElem_toArray, List.getElem_cons_succ, List.getElem_cons_zero, Act.put, List.setIfInBounds_toArray, List.set_cons_zero, List.set_cons_succ]
        refine anyR_take (i := 17) (fun _ => trivial) rfl (by kernel_rfl) (fun _ _ _ h => h) (Or.inl ⟨by rfl, fun Y hYb => (by (try dsimp only at hYb); go_simp; rfl)⟩) (by repeat' (first | assumption | exact But.refl _ _ | refine But.drew ?_ | refine But.drewN ?_ _)) ?_
        simp only [List.getElem_toArray, List.getElem_cons_succ, List.getElem_cons_zero, Act.put, List.setIfInBounds_toArray, List.set_cons_zero, List.set_cons_succ]
        refine anyR_done (by kernel_rfl) ?_ _
        clear r0 rN q0 q1 q2 q3 s0 s1 s2 s3 rp
        gi_wp2_with fail
        exact HSKIP.out (by rw [HGO.out]; simp) _ hs5
      · skip
        refine anyR_take (i := 16) (fun _ => trivial) rfl (by kernel_rfl) (fun _ _ _ h => h) (Or.inl ⟨by rfl, fun Y hYb => (by (try dsimp only at hYb); go_simp; rfl)⟩) (by repeat' (first | assumption | exact But.refl _ _ | refine But.drew ?_ | refine But.drewN ?_ _)) ?_
        simp only [List.getElem_toArray, List.getElem_cons_succ, List.getElem_cons_zero, Act.put, List.setIfInBounds_toArray, List.set_cons_zero, List.set_cons_succ]
        refine anyR_take (i := 17) (fun _ => trivial) rfl (by kernel_rfl) (fun _ _ _ h => h) (Or.inl ⟨by rfl, fun Y hYb => (by (try dsimp only at hYb); go_simp; rfl)⟩) (by repeat' (first | assumption | exact But.refl _ _ | refine But.drew ?_ | refine But.drewN ?_ _)) ?_
        simp only [List.getElem_toArray, List.getElem_cons_succ, List.getElem_cons_zero, Act.put, List.setIfInBounds_toArray, List.set_cons_zero, List.set_cons_succ]
        refine anyR_done (by kernel_rfl) ?_ _
        gi_upto_region 8 with (fail)
        have hgoT : goesB Wd Hd o no N Y x = true := by rw [HGO.out, hge]; rfl
        have HGT := hid hgoT; clear hgoT
        have r1 : ∀ Z, But (fun _ => False) X3 Z → Z.cell? ⟨w.heap.size + 1, 0, none⟩ = some (.slice rl rn rc) := fun Z h => (hK3.x1.but h id).at_ 0 rfl
        have hact : ∀ Z, But (fun _ => False) X3 Z → Calls Tryz.prog 73 #[.agg #[.int .i64 (Wd : Int), .int .i64 (Hd : Int), .slice a n c, .slice ao no co], .slice rl rn rc, .agg #[.int .i64 s.nd, .int .i64 s.st, .slice s.ix s.ni s.ci, .slice s.cl s.nc s.cc], .slice av Y.P.length cP] Z (ActS Wd Hd o (ru (s.st.toNat % rn)) no s (pF Y.P) Y.P.length Z) := fun Z hZ => by
          have hq' : siteQ o no Y.st Y.G x s := by rw [← HS.out, ← HIXE.out]; exact HQ.out
          have hk4 := hK3.but hZ (fun _ _ h => h)
          have hp := hk4.po
          obtain ⟨a', c', e, hsn⟩ := sn_of_own hp
          injection e with e1 e2 e3
          rw [← e1] at hsn
          have BZ : Below w.heap.size w Z := below_but (C := fun _ => False) B4 (hZ.mono fun _ _ h => h.elim)
          have hlt := (goesB_iff.1 HGT.out).1
          have hli' := (hk4.si.2.2 ix HIX.out).2.1
          rw [HS.out] at hli'
          have hni : s.ni = (ownL o x no).length := hq'.2.2.1
          exact node_act Wd Hd a ao rl av n c no co rn rc Y.P.length cP o ru s (pF Y.P) Z h1 h2 hn4 HNO.out (by rw [siteQ_B hq']; exact ply_site HNO.out HG.out (by omega) HI.out x) (by rw [HQ2.out.2]; omega) (by omega) (by rw [HQ2.out.1]; exact ⟨hx0, hx7⟩) HOB.out (ply_post HNO.out HG.out (by omega) HI.out) hru (HO.below BZ) hli' hsn (HR.below BZ)
        have HACT := hid hact; clear hact
        have hs5b := hs5.size
        refine wpIn_region_R (But (fun _ => False) X3) (by kernel_rfl) ?_
        refine anyR_take (i := 0) (fun _ => trivial) rfl (by kernel_rfl) (fun _ _ _ h => h) (Or.inl ⟨by rfl, fun Y hYb => (by (try dsimp only at hYb); go_simp; rfl)⟩) (by repeat' (first | assumption | exact But.refl _ _ | refine But.drew ?_ | refine But.drewN ?_ _)) ?_
        simp only [List.getElem_toArray, List.getElem_cons_succ, List.getElem_cons_zero, Act.put, List.setIfInBounds_toArray, List.set_cons_zero, List.set_cons_succ]
        refine anyR_take (i := 1) (fun _ => trivial) rfl (by kernel_rfl) (fun _ _ _ h => h) (Or.inl ⟨by rfl, fun Y hYb => (by (try dsimp only at hYb); go_simp; rfl)⟩) (by repeat' (first | assumption | exact But.refl _ _ | refine But.drew ?_ | refine But.drewN ?_ _)) ?_
        simp only [List.getElem_toArray, List.getElem_cons_succ, List.getElem_cons_zero, Act.put, List.setIfInBounds_toArray, List.set_cons_zero, List.set_cons_succ]
        refine anyR_take (i := 2) (fun _ => trivial) rfl (by kernel_rfl) (fun _ _ _ h => h) (Or.inl ⟨by rfl, fun Y hYb => (by (try dsimp only at hYb); go_simp; rfl)⟩) (by repeat' (first | assumption | exact But.refl _ _ | refine But.drew ?_ | refine But.drewN ?_ _)) ?_
        simp only [List.getElem_toArray, List.getElem_cons_succ, List.getElem_cons_zero, Act.put, List.setIfInBounds_toArray, List.set_cons_zero, List.set_cons_succ]
        refine anyR_take (i := 3) (fun _ => trivial) rfl (by kernel_rfl) (fun _ _ _ h => h) (Or.inl ⟨by rfl, fun Y hYb => (by (try dsimp only at hYb); go_simp; rfl)⟩) (by repeat' (first | assumption | exact But.refl _ _ | refine But.drew ?_ | refine But.drewN ?_ _)) ?_
        simp only [List.getElem_toArray, List.getElem_cons_succ, List.getElem_cons_zero, Act.put, List.setIfInBounds_toArray, List.set_cons_zero, List.set_cons_succ]
        refine anyR_take (i := 4) (fun _ => trivial) rfl (by kernel_rfl) (fun _ _ _ h => h) (Or.inl ⟨by rfl, fun Y hYb => (by (try dsimp only at hYb); go_simp; rfl)⟩) (by repeat' (first | assumption | exact But.refl _ _ | refine But.drew ?_ | refine But.drewN ?_ _)) ?_
        simp only [List.getElem_toArray, List.getElem_cons_succ, List.getElem_cons_zero, Act.put, List.setIfInBounds_toArray, List.set_cons_zero, List.set_cons_succ]
        refine anyR_take (i := 5) (fun _ => trivial) rfl (by kernel_rfl) (fun _ _ _ h => h) (Or.inl ⟨by rfl, fun Y hYb => (by (try dsimp only at hYb); go_simp; rfl)⟩) (by repeat' (first | assumption | exact But.refl _ _ | refine But.drew ?_ | refine But.drewN ?_ _)) ?_
        simp only [List.getElem_toArray, List.getElem_cons_succ, List.getElem_cons_zero, Act.put, List.setIfInBounds_toArray, List.set_cons_zero, List.set_cons_succ]
        refine anyR_take (i := 6) (fun _ => trivial) rfl (by kernel_rfl) (fun _ _ _ h => h) (Or.inl ⟨by rfl, fun Y hYb => (by (try dsimp only at hYb); go_simp; rfl)⟩) (by repeat' (first | assumption | exact But.refl _ _ | refine But.drew ?_ | refine But.drewN ?_ _)) ?_
        simp only [List.getElem_toArray, List.getElem_cons_succ, List.getElem_cons_zero, Act.put, List.setIfInBounds_toArray, List.set_cons_zero, List.set_cons_succ]
        clear r1 rN q0 q1 q2 q3 s0 s1 s2 s3 rp r0
        apply dup_act (H := ActH o no Y (plyN Wd Hd o no rn ru N Y x) x X3)
        case main =>
          intro KEY
          refine anyR_pair (i := 7) (j := 12) (by kernel_rfl) rfl rfl (by rfl) (by rfl) (fun K hK => ?_) (fun K hK => ?_)
          · go_simp
            refine ⟨trivial, rfl, callsIn_of ((HACT.out _ hs5.drew).mono ?_)⟩
            rintro e X6 hAS
            have hq' : siteQ o no Y.st Y.G x s := by rw [← HS.out, ← HIXE.out]; exact HQ.out
            obtain ⟨E, nd', t', L', Cn, R', ⟨s', v, rfl, f1, f2, f3, f4, f5, f6, f7, f8, f9, f10, hb6⟩, g1, g2, g3⟩ := act_turn hq' HI.out.er HGT.out hAS
            have hs6 : But (fun _ => False) X3 X6 := hs5.drew.trans (but_below hb6 (Nat.le_refl _))
            refine hK _ _ hs6 ?_
            clear hK K
            refine anyR_take (i := 8) (fun _ => trivial) rfl (by kernel_rfl) (fun _ _ _ h => h) (Or.inl ⟨by rfl, fun Y hYb => (by (try dsimp only at hYb); go_simp; rfl)⟩) (by repeat' (first | assumption | exact But.refl _ _ | refine But.drew ?_ | refine But.drewN ?_ _)) ?_
            simp only [List.getElem_toArray, List.getElem_cons_succ, List.getElem_cons_zero, Act.put, List.setIfInBounds_toArray, List.set_cons_zero, List.set_cons_succ]
            refine anyR_take (i := 9) (fun _ => trivial) rfl (by kernel_rfl) (fun _ _ _ h => h) (Or.inl ⟨by rfl, fun Y hYb => (by (try dsimp only at hYb); go_simp; rfl)⟩) (by repeat' (first | assumption | exact But.refl _ _ | refine But.drew ?_ | refine But.drewN ?_ _)) ?_
            simp only [List.getElem_toArray, List.getElem_cons_succ, List.getElem_cons_zero, Act.put, List.setIfInBounds_toArray, List.set_cons_zero, List.set_cons_succ]
            refine anyR_take (i := 10) (fun _ => trivial) rfl (by kernel_rfl) (fun _ _ _ h => h) (Or.inl ⟨by rfl, fun Y hYb => (by (try dsimp only at hYb); go_simp; rfl)⟩) (by repeat' (first | assumption | exact But.refl _ _ | refine But.drew ?_ | refine But.drewN ?_ _)) ?_
            simp only [List.getElem_toArray, List.getElem_cons_succ, List.getElem_cons_zero, Act.put, List.setIfInBounds_toArray, List.set_cons_zero, List.set_cons_succ]
            refine anyR_take (i := 11) (fun _ => trivial) rfl (by kernel_rfl) (fun _ _ _ h => h) (Or.inl ⟨by rfl, fun Y hYb => (by (try dsimp only at hYb); go_simp; rfl)⟩) (by repeat' (first | assumption | exact But.refl _ _ | refine But.drew ?_ | refine But.drewN ?_ _)) ?_
            simp only [List.getElem_toArray, List.getElem_cons_succ, List.getElem_cons_zero, Act.put, List.setIfInBounds_toArray, List.set_cons_zero, List.set_cons_succ]
            refine anyR_one (i := 12) (by kernel_rfl) rfl (by rfl) (fun K hK => ?_)
            go_simp
            refine hK _ _ (hs6.alloc _) ?_
            clear hK K
            try simp only [List.setIfInBounds_toArray, List.set_cons_zero, List.set_cons_succ]
            refine anyR_listed (l' := #[true, true, true, true, true, true, true, true, true, true, true, true, true, false, false, false]) (by kernel_rfl) ?_
            have hh : ActH o no Y (plyN Wd Hd o no rn ru N Y x) x X3 (X6.alloc (.cells #[.int .i64 0, .int .i64 0, .slice none 0 0, .slice none 0 0] 98)) X6.heap.size s' v E := actH_mk g1 g2 g3 f1 f3 f4 f5 f6 f7 f8 f9 f10 hb6 hs5.drew (below_alloc _ _) (Bx.new X6 _ _) (.inl (Nat.le_refl _))
            generalize X6.alloc (.cells #[.int .i64 0, .int .i64 0, .slice none 0 0, .slice none 0 0] 98) = w6 at hh ⊢
            generalize X6.heap.size = bx at hh ⊢
            exact KEY w6 bx s' v E hh
          · go_simp
            refine hK _ _ (hs5.drew.alloc _) ?_
            clear hK K
            refine anyR_one (i := 7) (by kernel_rfl) rfl (by rfl) (fun K hK => ?_)
            go_simp
            refine ⟨trivial, rfl, callsIn_of ((HACT.out _ (hs5.drew.alloc _)).mono ?_)⟩
            rintro e X6 hAS
            have hq' : siteQ o no Y.st Y.G x s := by rw [← HS.out, ← HIXE.out]; exact HQ.out
            obtain ⟨E, nd', t', L', Cn, R', ⟨s', v, rfl, f1, f2, f3, f4, f5, f6, f7, f8, f9, f10, hb6⟩, g1, g2, g3⟩ := act_turn hq' HI.out.er HGT.out hAS
            have hs6 : But (fun _ => False) X3 X6 := (hs5.drew.alloc _).trans (but_below hb6 (Nat.le_refl _))
            refine hK _ _ hs6 ?_
            clear hK K
            refine anyR_take (i := 8) (fun _ => trivial) rfl (by kernel_rfl) (fun _ _ _ h => h) (Or.inl ⟨by rfl, fun Y hYb => (by (try dsimp only at hYb); go_simp; rfl)⟩) (by repeat' (first | assumption | exact But.refl _ _ | refine But.drew ?_ | refine But.drewN ?_ _)) ?_
            simp only [List.getElem_toArray, List.getElem_cons_succ, List.getElem_cons_zero, Act.put, List.setIfInBounds_toArray, List.set_cons_zero, List.set_cons_succ]
            refine anyR_take (i := 9) (fun _ => trivial) rfl (by kernel_rfl) (fun _ _ _ h => h) (Or.inl ⟨by rfl, fun Y hYb => (by (try dsimp only at hYb); go_simp; rfl)⟩) (by repeat' (first | assumption | exact But.refl _ _ | refine But.drew ?_ | refine But.drewN ?_ _)) ?_
            simp only [List.getElem_toArray, List.getElem_cons_succ, List.getElem_cons_zero, Act.put, List.setIfInBounds_toArray, List.set_cons_zero, List.set_cons_succ]
            refine anyR_take (i := 10) (fun _ => trivial) rfl (by kernel_rfl) (fun _ _ _ h => h) (Or.inl ⟨by rfl, fun Y hYb => (by (try dsimp only at hYb); go_simp; rfl)⟩) (by repeat' (first | assumption | exact But.refl _ _ | refine But.drew ?_ | refine But.drewN ?_ _)) ?_
            simp only [List.getElem_toArray, List.getElem_cons_succ, List.getElem_cons_zero, Act.put, List.setIfInBounds_toArray, List.set_cons_zero, List.set_cons_succ]
            refine anyR_take (i := 11) (fun _ => trivial) rfl (by kernel_rfl) (fun _ _ _ h => h) (Or.inl ⟨by rfl, fun Y hYb => (by (try dsimp only at hYb); go_simp; rfl)⟩) (by repeat' (first | assumption | exact But.refl _ _ | refine But.drew ?_ | refine But.drewN ?_ _)) ?_
            simp only [List.getElem_toArray, List.getElem_cons_succ, List.getElem_cons_zero, Act.put, List.setIfInBounds_toArray, List.set_cons_zero, List.set_cons_succ]
            refine anyR_listed (l' := #[true, true, true, true, true, true, true, true, true, true, true, true, true, false, false, false]) (by kernel_rfl) ?_
            have hb7 : Bx X6 X5.heap.size #[.int .i64 0, .int .i64 0, .slice none 0 0, .slice none 0 0] := (Bx.new X5.drew _ _).below hb6
            have hh : ActH o no Y (plyN Wd Hd o no rn ru N Y x) x X3 X6 X5.heap.size s' v E := actH_mk g1 g2 g3 f1 f3 f4 f5 f6 f7 f8 f9 f10 hb6 (hs5.drew.alloc _) (Below.refl _ _) hb7 (.inr ⟨hs5b, by simp⟩)
            clear hb7
            generalize X5.heap.size = bx at hh ⊢
            exact KEY X6 bx s' v E hh
        case key =>
          intro w6 bx s' v E ⟨k1, k2, k3, k4, k5, k6, k7, k8, k9⟩
          have hk1 := hid k1; have K2 := hid k2; have K3 := hid k3; have K4 := hid k4; have K5 := hid k5; have K6 := hid k6
          clear k1 k2 k3 k4 k5 k6
          have hs67 := k7.size
          have z0 := k8.at_ 0 rfl; have z1 := k8.at_ 1 rfl; have z2 := k8.at_ 2 rfl; have z3 := k8.at_ 3 rfl; have zf := k8.free; have zl := k8.lt
          refine anyR_one (i := 13) (by kernel_rfl) rfl (by rfl) (fun K hK => ?_)
          unfold SiteR.cells
          go_simp
          have hs7 : But (fun _ => False) X3 ((((w6.setCell ⟨bx, 0, none⟩ (.int .i64 s'.nd)).setCell ⟨bx, 1, none⟩ (.int .i64 s'.st)).setCell ⟨bx, 2, none⟩ (.slice s'.ix s'.ni s'.ci)).setCell ⟨bx, 3, none⟩ (.slice s'.cl s'.nc s'.cc)) :=
            (((k7.new_ (p := ⟨bx, 0, none⟩) k9 _).new_ (p := ⟨bx, 1, none⟩) k9 _).new_ (p := ⟨bx, 2, none⟩) k9 _).new_ (p := ⟨bx, 3, none⟩) k9 _
          have hs67 : But (fun b => b = bx) w6 ((((w6.setCell ⟨bx, 0, none⟩ (.int .i64 s'.nd)).setCell ⟨bx, 1, none⟩ (.int .i64 s'.st)).setCell ⟨bx, 2, none⟩ (.slice s'.ix s'.ni s'.ci)).setCell ⟨bx, 3, none⟩ (.slice s'.cl s'.nc s'.cc)) :=
            (((But.set_ (But.refl (fun z => z = bx) w6) (p := ⟨bx, 0, none⟩) rfl _).set_ (p := ⟨bx, 1, none⟩) rfl _).set_ (p := ⟨bx, 2, none⟩) rfl _).set_ (p := ⟨bx, 3, none⟩) rfl _
          have Z := (((k8.set_ 0 (by simp) (.int .i64 s'.nd)).set_ 1 (by simp) (.int .i64 s'.st)).set_ 2 (by simp) (.slice s'.ix s'.ni s'.ci)).set_ 3 (by simp) (.slice s'.cl s'.nc s'.cc)
          simp only [List.setIfInBounds_toArray, List.set_cons_zero, List.set_cons_succ] at Z
          refine hK _ _ hs7 ?_
          clear hK K z0 z1 z2 z3 zf zl k8
          generalize (((w6.setCell ⟨bx, 0, none⟩ (.int .i64 s'.nd)).setCell ⟨bx, 1, none⟩ (.int .i64 s'.st)).setCell ⟨bx, 2, none⟩ (.slice s'.ix s'.ni s'.ci)).setCell ⟨bx, 3, none⟩ (.slice s'.cl s'.nc s'.cc) = w7 at *
          have hz67 := hs67.size
          have HL7 := hid (show s'.lies w7 from K4.out.but hs67 fun b off hh => (K5.out b off hh).2.2)
          have HB7 := hid (show ∀ b off, (s'.ix = some ⟨b, off, none⟩ ∨ s'.cl = some ⟨b, off, none⟩) → X3.heap.size ≤ b ∧ b < w7.heap.size from fun b off hh => ⟨(K5.out b off hh).1, by have := (K5.out b off hh).2.1; omega⟩)
          have HO7 : ∀ R', OwnN w6 X3.heap.size v R' → OwnN w7 X3.heap.size v R' := fun R' h => own_butN h hs67 K6.out
          have HO7' := hid HO7; clear HO7 hs67 K4 K5 K6
          refine anyR_take (i := 14) (fun _ => trivial) rfl (by kernel_rfl) (fun _ _ _ h => h) (Or.inl ⟨by rfl, fun Y hYb => (by (try dsimp only at hYb); go_simp; rfl)⟩) (by repeat' (first | assumption | exact But.refl _ _ | refine But.drew ?_ | refine But.drewN ?_ _)) ?_
          simp only [List.getElem_toArray, List.getElem_cons_succ, List.getElem_cons_zero, Act.put, List.setIfInBounds_toArray, List.set_cons_zero, List.set_cons_succ]
          refine anyR_take (i := 15) (fun _ => trivial) rfl (by kernel_rfl) (fun _ _ _ h => h) (Or.inl ⟨by rfl, fun Y hYb => (by (try dsimp only at hYb); go_simp; rfl)⟩) (by repeat' (first | assumption | exact But.refl _ _ | refine But.drew ?_ | refine But.drewN ?_ _)) ?_
          simp only [List.getElem_toArray, List.getElem_cons_succ, List.getElem_cons_zero, Act.put, List.setIfInBounds_toArray, List.set_cons_zero, List.set_cons_succ]
          refine anyR_done (by kernel_rfl) ?_ _
          have hK7 := hK3.but hs7 (fun _ _ h => h)
          have HBC := hid (show But C X₂ w7 from (HBT3.out.trans hs7).mono fun _ _ h => h.elim)
          have hs7s := hs7.size
          have B7 : Below w.heap.size w w7 := below_but (C := fun _ => False) B4 (hs7.mono fun _ _ h => h.elim)
          clear hs5 hs5b k7 k9 hK3 HACT
          rcases hk1.out with rfl | rfl
          · obtain ⟨nd', t', L', Cn, R', hz, e1, e2, e3, e4, e5, e6, ow⟩ := K3.out
            obtain ⟨rfl, rfl, rfl, hnx2⟩ := hz (by first | rfl | trivial)
            replace ow := HO7'.out _ ow
            obtain ⟨a9, c9, rfl, _⟩ := sn_of_own ow
            have HNX2 := hid hnx2; have E1 := hid e1; have E2 := hid e2; have E3 := hid e3; have E4 := hid e4; have E5 := hid e5; have E6 := hid e6; have OW := hid ow
            clear hz hnx2 e1 e2 e3 e4 e5 e6 ow
            have g0 := hK7.y0.at_ 0 rfl; have g0l := hK7.y0.lt; have g1 := Z.at_ 0 rfl; have g2 := Z.at_ 1 rfl; have g3 := Z.at_ 2 rfl; have g4 := Z.at_ 3 rfl; have g5 := Z.lt
            obtain ⟨hgs7, d0, d1, d2, d3⟩ := hK7.si.at4 (i := ix) hixl rfl
            have fz0 := World.ownsRow.frozenAt hK7.si.1 (ix * 4); have fz1 := World.ownsRow.frozenAt hK7.si.1 (ix * 4 + 1); have fz2 := World.ownsRow.frozenAt hK7.si.1 (ix * 4 + 2); have fz3 := World.ownsRow.frozenAt hK7.si.1 (ix * 4 + 3)
            have p1 := hK7.y1.at_ 0 rfl; have p1f := hK7.y1.free; have p1l := hK7.y1.lt; have p2 := hK7.y2.at_ 0 rfl; have p2f := hK7.y2.free; have p2l := hK7.y2.lt
            have hne1 : gs ≠ bs + 1 := by have := (hK7.c1 gs rfl).2.2; omega
            have hne2 : gs ≠ bs + 1 + 1 := by have := (hK7.c1 gs rfl).2.2; omega
            gi_wp2_with fail
            have KN := hK7.next2 (i := ix) (B0 := X3.heap.size) HIX.out HIXE.out HL7.out E1.out E2.out E3.out E4.out E5.out E6.out HB7.out OW.out (by omega)
            have I2 := ply_one HNO.out HG.out (by omega) (fun _ => HI.out) nd' K2.out
            rw [HNX2.out] at I2
            have hcg := (hK7.c1 gs rfl).1
            have hg7 := (hK7.c1 gs rfl).2.1
            have hlo7 := hK7.lo
            have hc1 := hK7.c0 (bs + 1) (.inr (by omega))
            have hc2 := hK7.c0 (bs + 1 + 1) (.inr (by omega))
            have hbf : But C w7 _ := ((((((But.refl C w7).set_ (p := ⟨gs, ix * 4, none⟩) hcg (.int .i64 s'.nd)).set_ (p := ⟨gs, ix * 4 + 1, none⟩) hcg (.int .i64 s'.st)).set_ (p := ⟨gs, ix * 4 + 2, none⟩) hcg (.slice s'.ix s'.ni s'.ci)).set_ (p := ⟨gs, ix * 4 + 3, none⟩) hcg (.slice s'.cl s'.nc s'.cc)).set_ (p := ⟨bs + 1, 0, none⟩) hc1 (.slice a9 R'.length c9)).set_ (p := ⟨bs + 1 + 1, 0, none⟩) hc2 (.int .i64 ((Y.cnt : Int) + 1))
            have hsf := hbf.size
            have hs2s := HBT3.out.size
            refine ⟨fun b => C b ∨ (X3.heap.size ≤ b ∧ b < w7.heap.size), HBC.out.trans hbf, fun b hb => hb.elim .inl (fun h => .inr (by omega)), ?_⟩
            have hlp := HLP.out
            unfold PI
            rw [HNXT.out, HNX2.out]
            refine ⟨I2, by simp; omega, ⟨_, _, _, KN⟩, fun b hb => ?_, bset (bset (bset (bset (bset (bset B7 (by dsimp only; omega) _) (by dsimp only; omega) _) (by dsimp only; omega) _) (by dsimp only; omega) _) (by dsimp only; omega) _) (by dsimp only; omega) _, by omega⟩
            · rcases hb with hb | hb
              · have := HCB.out b hb
                omega
              · have := B7.size; have := B4.size
                omega
          · have y3 := hK7.x3; have y4 := hK7.x4; have y5 := hK7.x5; have y6 := hK7.x6
            have f3 := y3.free; have l3 := y3.lt; have f4 := y4.free; have l4 := y4.lt; have f5 := y5.free; have l5 := y5.lt; have f6 := y6.free; have l6 := y6.lt
            have v3 := y3.at_ 0 rfl; have v4 := y4.at_ 0 rfl; have v5 := y5.at_ 0 rfl; have v6 := y6.at_ 0 rfl
            gi_wp2_with fail
            have hc3 := hK7.c0 (w.heap.size + 1 + 1 + 1) (.inl (by omega)); have hc4 := hK7.c0 (w.heap.size + 1 + 1 + 1 + 1) (.inl (by omega)); have hc5 := hK7.c0 (w.heap.size + 1 + 1 + 1 + 1 + 1) (.inl (by omega)); have hc6 := hK7.c0 (w.heap.size + 1 + 1 + 1 + 1 + 1 + 1) (.inl (by omega))
            have hbf : But C w7 ((((w7.setCell ⟨w.heap.size + 1 + 1 + 1, 0, none⟩ (.slice none 0 0)).setCell ⟨w.heap.size + 1 + 1 + 1 + 1, 0, none⟩ (.slice none 0 0)).setCell ⟨w.heap.size + 1 + 1 + 1 + 1 + 1, 0, none⟩ (.int .i64 0)).setCell ⟨w.heap.size + 1 + 1 + 1 + 1 + 1 + 1, 0, none⟩ (.int .i64 4)) :=
              (((But.set_ (But.refl C w7) (p := ⟨w.heap.size + 1 + 1 + 1, 0, none⟩) hc3 _).set_ (p := ⟨w.heap.size + 1 + 1 + 1 + 1, 0, none⟩) hc4 _).set_ (p := ⟨w.heap.size + 1 + 1 + 1 + 1 + 1, 0, none⟩) hc5 _).set_ (p := ⟨w.heap.size + 1 + 1 + 1 + 1 + 1 + 1, 0, none⟩) hc6 _
            have hsf := hbf.size
            have hs2s := HBT3.out.size
            refine ⟨C, HBC.out.trans hbf, Grw.refl _ _, rfl, by rw [HNXT.out]; exact K2.out, ?_, ?_, ?_, ?_, fun b hb => hK7.c0 b (.inl hb), ?_, by omega⟩
            · exact (((y3.set_ 0 (by simp) (.slice none 0 0)).far2 (by dsimp only; omega) _).far2 (by dsimp only; omega) _).far2 (by dsimp only; omega) _
            · exact (((y4.far2 (by dsimp only; omega) _).set_ 0 (by simp) (.slice none 0 0)).far2 (by dsimp only; omega) _).far2 (by dsimp only; omega) _
            · exact (((y5.far2 (by dsimp only; omega) _).far2 (by dsimp only; omega) _).set_ 0 (by simp) (.int .i64 0)).far2 (by dsimp only; omega) _
            · exact (((y6.far2 (by dsimp only; omega) _).far2 (by dsimp only; omega) _).far2 (by dsimp only; omega) _).set_ 0 (by simp) (.int .i64 4)
            · refine bset (bset (bset (bset B7 ?_ _) ?_ _) ?_ _) ?_ _ <;> (dsimp only; omega)
    · skip
      refine anyR_take (i := 8) (v := undef) (fun _ => trivial) rfl (by kernel_rfl) (fun _ _ _ h => h) (Or.inr ⟨by kernel_rfl, rfl⟩) (by repeat' (first | assumption | exact But.refl _ _ | refine But.drew ?_ | refine But.drewN ?_ _)) ?_
      simp only [List.getElem_toArray, List.getElem_cons_succ, List.getElem_cons_zero, Act.put, List.setIfInBounds_toArray, List.set_cons_zero, List.set_cons_succ]
      refine anyR_take (i := 9) (v := undef) (fun _ => trivial) rfl (by kernel_rfl) (fun _ _ _ h => h) (Or.inr ⟨by kernel_rfl, rfl⟩) (by repeat' (first | assumption | exact But.refl _ _ | refine But.drew ?_ | refine But.drewN ?_ _)) ?_
      simp only [List.getElem_toArray, List.getElem_cons_succ, List.getElem_cons_zero, Act.put, List.setIfInBounds_toArray, List.set_cons_zero, List.set_cons_succ]
      refine anyR_take (i := 10) (v := undef) (fun _ => trivial) rfl (by kernel_rfl) (fun _ _ _ h => h) (Or.inr ⟨by kernel_rfl, rfl⟩) (by repeat' (first | assumption | exact But.refl _ _ | refine But.drew ?_ | refine But.drewN ?_ _)) ?_
      simp only [List.getElem_toArray, List.getElem_cons_succ, List.getElem_cons_zero, Act.put, List.setIfInBounds_toArray, List.set_cons_zero, List.set_cons_succ]
      refine anyR_take (i := 11) (v := undef) (fun _ => trivial) rfl (by kernel_rfl) (fun _ _ _ h => h) (Or.inr ⟨by kernel_rfl, rfl⟩) (by repeat' (first | assumption | exact But.refl _ _ | refine But.drew ?_ | refine But.drewN ?_ _)) ?_
      simp only [List.getElem_toArray, List.getElem_cons_succ, List.getElem_cons_zero, Act.put, List.setIfInBounds_toArray, List.set_cons_zero, List.set_cons_succ]
      refine anyR_take (i := 12) (v := undef) (fun _ => trivial) rfl (by kernel_rfl) (fun _ _ _ h => h) (Or.inr ⟨by kernel_rfl, rfl⟩) (by repeat' (first | assumption | exact But.refl _ _ | refine But.drew ?_ | refine But.drewN ?_ _)) ?_
      simp only [List.getElem_toArray, List.getElem_cons_succ, List.getElem_cons_zero, Act.put, List.setIfInBounds_toArray, List.set_cons_zero, List.set_cons_succ]
      refine anyR_take (i := 13) (v := undef) (fun _ => trivial) rfl (by kernel_rfl) (fun _ _ _ h => h) (Or.inr ⟨by kernel_rfl, rfl⟩) (by repeat' (first | assumption | exact But.refl _ _ | refine But.drew ?_ | refine But.drewN ?_ _)) ?_
      simp only [List.getElem_toArray, List.getElem_cons_succ, List.getElem_cons_zero, Act.put, List.setIfInBounds_toArray, List.set_cons_zero, List.set_cons_succ]
      refine anyR_take (i := 14) (v := undef) (fun _ => trivial) rfl (by kernel_rfl) (fun _ _ _ h => h) (Or.inr ⟨by kernel_rfl, rfl⟩) (by repeat' (first | assumption | exact But.refl _ _ | refine But.drew ?_ | refine But.drewN ?_ _)) ?_
      simp only [List.getElem_toArray, List.getElem_cons_succ, List.getElem_cons_zero, Act.put, List.setIfInBounds_toArray, List.set_cons_zero, List.set_cons_succ]
      refine anyR_take (i := 15) (v := undef) (fun _ => trivial) rfl (by kernel_rfl) (fun _ _ _ h => h) (Or.inr ⟨by kernel_rfl, rfl⟩) (by repeat' (first | assumption | exact But.refl _ _ | refine But.drew ?_ | refine But.drewN ?_ _)) ?_
      simp only [List.getElem_toArray, List.getElem_cons_succ, List.getElem_cons_zero, Act.put, List.setIfInBounds_toArray, List.set_cons_zero, List.set_cons_succ]
      refine anyR_take (i := 16) (v := undef) (fun _ => trivial) rfl (by kernel_rfl) (fun _ _ _ h => h) (Or.inr ⟨by kernel_rfl, rfl⟩) (by repeat' (first | assumption | exact But.refl _ _ | refine But.drew ?_ | refine But.drewN ?_ _)) ?_
      simp only [List.getElem_toArray, List.getElem_cons_succ, List.getElem_cons_zero, Act.put, List.setIfInBounds_toArray, List.set_cons_zero, List.set_cons_succ]
      refine anyR_take (i := 17) (fun _ => trivial) rfl (by kernel_rfl) (fun _ _ _ h => h) (Or.inl ⟨by rfl, fun Y hYb => (by (try dsimp only at hYb); go_simp; rfl)⟩) (by repeat' (first | assumption | exact But.refl _ _ | refine But.drew ?_ | refine But.drewN ?_ _)) ?_
      simp only [List.getElem_toArray, List.getElem_cons_succ, List.getElem_cons_zero, Act.put, List.setIfInBounds_toArray, List.set_cons_zero, List.set_cons_succ]
      refine anyR_done (by kernel_rfl) ?_ _
      clear r0 rN q0 q1 q2 q3 s0 s1 s2 s3 rp
      gi_wp2_with fail
      exact HSKIP.out (by rw [HGO.out, hge]; rfl) _ (But.refl _ X3).drew
  case hdone =>
    rintro Dd C X hDd hnD ⟨hI, hcn, ⟨vS, ys, vP, hK⟩, hCb, hB, hM⟩ hbut hgC hdef
    obtain ⟨Y, hY⟩ : ∃ Y, plyL Wd Hd o no rn ru N (ply0 g) L = Y := ⟨_, rfl⟩
    rw [hY] at hI hcn hK
    rw [hY]
    have HY := hid hY; clear hY
    have HI := hid hI; clear hI
    obtain ⟨av, cP, rfl, _⟩ := sn_of_own hK.po
    obtain ⟨aS, cS, rfl, _⟩ := hK.si.ss
    have x0 := hK.y0.at_ 0 rfl; have l0 := hK.y0.lt; have x1 := hK.y1.at_ 0 rfl; have l1 := hK.y1.lt; have x2 := hK.y2.at_ 0 rfl; have l2 := hK.y2.lt
    have y3 := hK.x3.at_ 0 rfl; have f3 := hK.x3.free; have l3 := hK.x3.lt
    have y4 := hK.x4.at_ 0 rfl; have f4 := hK.x4.free; have l4 := hK.x4.lt
    have y5 := hK.x5.at_ 0 rfl; have f5 := hK.x5.free; have l5 := hK.x5.lt
    have y6 := hK.x6.at_ 0 rfl; have f6 := hK.x6.free; have l6 := hK.x6.lt
    have hlo7 := hK.lo
    gi_upto_region 13 with (fail)
    have r0 : ∀ Z, But (fun b => w.heap.size + 3 ≤ b ∧ b < w.heap.size + 7) X Z → Z.cell? ⟨bs, 0, none⟩ = some (.slice aS ys.length cS) := fun Z h => (hK.y0.but h (by omega)).at_ 0 rfl
    have r1 : ∀ Z, But (fun b => w.heap.size + 3 ≤ b ∧ b < w.heap.size + 7) X Z → Z.cell? ⟨bs + 1, 0, none⟩ = some (.slice av Y.P.length cP) := fun Z h => (hK.y1.but h (by omega)).at_ 0 rfl
    have r2 : ∀ Z, But (fun b => w.heap.size + 3 ≤ b ∧ b < w.heap.size + 7) X Z → Z.cell? ⟨bs + 1 + 1, 0, none⟩ = some (.int .i64 (Y.cnt : Int)) := fun Z h => (hK.y2.but h (by omega)).at_ 0 rfl
    refine wpIn_region_RN (But (fun b => w.heap.size + 3 ≤ b ∧ b < w.heap.size + 7) X) (by kernel_rfl) ?_
    refine anyR_take (i := 0) (fun _ => trivial) rfl (by kernel_rfl) (fun _ _ _ h => h) (Or.inl ⟨by rfl, fun Y hYb => (by (try dsimp only at hYb); go_simp; rfl)⟩) (by repeat' (first | assumption | exact But.refl _ _ | refine But.drew ?_ | refine But.drewN ?_ _)) ?_
    simp only [List.getElem_toArray, List.getElem_cons_succ, List.getElem_cons_zero, Act.put, List.setIfInBounds_toArray, List.set_cons_zero, List.set_cons_succ]
    refine anyR_take (i := 1) (fun _ => trivial) rfl (by kernel_rfl) (fun _ _ _ h => h) (Or.inl ⟨by rfl, fun Y hYb => (by (try dsimp only at hYb); go_simp; rfl)⟩) (by repeat' (first | assumption | exact But.refl _ _ | refine But.drew ?_ | refine But.drewN ?_ _)) ?_
    simp only [List.getElem_toArray, List.getElem_cons_succ, List.getElem_cons_zero, Act.put, List.setIfInBounds_toArray, List.set_cons_zero, List.set_cons_succ]
    refine anyR_take (i := 2) (fun _ => trivial) rfl (by kernel_rfl) (fun _ _ _ h => h) (Or.inl ⟨by rfl, fun Y hYb => (by (try dsimp only at hYb); go_simp; rfl)⟩) (by repeat' (first | assumption | exact But.refl _ _ | refine But.drew ?_ | refine But.drewN ?_ _)) ?_
    simp only [List.getElem_toArray, List.getElem_cons_succ, List.getElem_cons_zero, Act.put, List.setIfInBounds_toArray, List.set_cons_zero, List.set_cons_succ]
    have B0 : But (fun b => w.heap.size + 3 ≤ b ∧ b < w.heap.size + 7) X X.drew := (But.refl _ X).drew
    refine anyR_one (i := 3) (by kernel_rfl) rfl (by rfl) (fun K hK => ?_)
    go_simp
    have B1 := B0.set_ (p := ⟨w.heap.size + 1 + 1 + 1, 0, none⟩) (by dsimp only; omega) (.slice aS ys.length cS)
    refine hK _ _ B1 ?_
    clear hK K
    refine anyR_one (i := 4) (by kernel_rfl) rfl (by rfl) (fun K hK => ?_)
    go_simp
    have B2 := B1.set_ (p := ⟨w.heap.size + 1 + 1 + 1 + 1, 0, none⟩) (by dsimp only; omega) (.slice av Y.P.length cP)
    refine hK _ _ B2 ?_
    clear hK K
    refine anyR_one (i := 5) (by kernel_rfl) rfl (by rfl) (fun K hK => ?_)
    go_simp
    have B3 := B2.set_ (p := ⟨w.heap.size + 1 + 1 + 1 + 1 + 1, 0, none⟩) (by dsimp only; omega) (.int .i64 (Y.cnt : Int))
    refine hK _ _ B3 ?_
    clear hK K
    refine anyR_one (i := 6) (by kernel_rfl) rfl (by rfl) (fun K hK => ?_)
    go_simp
    have B4 := B3.set_ (p := ⟨w.heap.size + 1 + 1 + 1 + 1 + 1 + 1, 0, none⟩) (by dsimp only; omega) (.int .i64 0)
    refine hK _ _ B4 ?_
    clear hK K r0 r1 r2
    refine anyR_done (by kernel_rfl) ?_ _
    have U3 := ((((hK.x3.set_ 0 (by simp) (.slice aS ys.length cS)).far2 (p := ⟨w.heap.size + 1 + 1 + 1 + 1, 0, none⟩) (by dsimp only; omega) (.slice av Y.P.length cP)).far2 (p := ⟨w.heap.size + 1 + 1 + 1 + 1 + 1, 0, none⟩) (by dsimp only; omega) (.int .i64 (Y.cnt : Int))).far2 (p := ⟨w.heap.size + 1 + 1 + 1 + 1 + 1 + 1, 0, none⟩) (by dsimp only; omega) (.int .i64 0)).drew
    have U4 := ((((hK.x4.far2 (p := ⟨w.heap.size + 1 + 1 + 1, 0, none⟩) (by dsimp only; omega) (.slice aS ys.length cS)).set_ 0 (by simp) (.slice av Y.P.length cP)).far2 (p := ⟨w.heap.size + 1 + 1 + 1 + 1 + 1, 0, none⟩) (by dsimp only; omega) (.int .i64 (Y.cnt : Int))).far2 (p := ⟨w.heap.size + 1 + 1 + 1 + 1 + 1 + 1, 0, none⟩) (by dsimp only; omega) (.int .i64 0)).drew
    have U5 := ((((hK.x5.far2 (p := ⟨w.heap.size + 1 + 1 + 1, 0, none⟩) (by dsimp only; omega) (.slice aS ys.length cS)).far2 (p := ⟨w.heap.size + 1 + 1 + 1 + 1, 0, none⟩) (by dsimp only; omega) (.slice av Y.P.length cP)).set_ 0 (by simp) (.int .i64 (Y.cnt : Int))).far2 (p := ⟨w.heap.size + 1 + 1 + 1 + 1 + 1 + 1, 0, none⟩) (by dsimp only; omega) (.int .i64 0)).drew
    have U6 := ((((hK.x6.far2 (p := ⟨w.heap.size + 1 + 1 + 1, 0, none⟩) (by dsimp only; omega) (.slice aS ys.length cS)).far2 (p := ⟨w.heap.size + 1 + 1 + 1 + 1, 0, none⟩) (by dsimp only; omega) (.slice av Y.P.length cP)).far2 (p := ⟨w.heap.size + 1 + 1 + 1 + 1 + 1, 0, none⟩) (by dsimp only; omega) (.int .i64 (Y.cnt : Int))).set_ 0 (by simp) (.int .i64 0)).drew
    have hdef2 : ((((X.setCell ⟨w.heap.size + 1 + 1 + 1, 0, none⟩ (.slice aS ys.length cS)).setCell ⟨w.heap.size + 1 + 1 + 1 + 1, 0, none⟩ (.slice av Y.P.length cP)).setCell ⟨w.heap.size + 1 + 1 + 1 + 1 + 1, 0, none⟩ (.int .i64 (Y.cnt : Int))).setCell ⟨w.heap.size + 1 + 1 + 1 + 1 + 1 + 1, 0, none⟩ (.int .i64 0)).drew.heap[Dd]? = some (.deferred (some [])) := by
      show ((((X.setCell ⟨w.heap.size + 1 + 1 + 1, 0, none⟩ (.slice aS ys.length cS)).setCell ⟨w.heap.size + 1 + 1 + 1 + 1, 0, none⟩ (.slice av Y.P.length cP)).setCell ⟨w.heap.size + 1 + 1 + 1 + 1 + 1, 0, none⟩ (.int .i64 (Y.cnt : Int))).setCell ⟨w.heap.size + 1 + 1 + 1 + 1 + 1 + 1, 0, none⟩ (.int .i64 0)).heap[Dd]? = some (.deferred (some []))
      rw [Below.heap_setCell _ _ _ _ (by dsimp only; omega), Below.heap_setCell _ _ _ _ (by dsimp only; omega), Below.heap_setCell _ _ _ _ (by dsimp only; omega), Below.heap_setCell _ _ _ _ (by dsimp only; omega)]
      exact hdef
    have B8 := (((((But.refl (fun b => w.heap.size + 3 ≤ b ∧ b < w.heap.size + 7) X).set_ (p := ⟨w.heap.size + 1 + 1 + 1, 0, none⟩) (by dsimp only; omega) (.slice aS ys.length cS)).set_ (p := ⟨w.heap.size + 1 + 1 + 1 + 1, 0, none⟩) (by dsimp only; omega) (.slice av Y.P.length cP)).set_ (p := ⟨w.heap.size + 1 + 1 + 1 + 1 + 1, 0, none⟩) (by dsimp only; omega) (.int .i64 (Y.cnt : Int))).set_ (p := ⟨w.heap.size + 1 + 1 + 1 + 1 + 1 + 1, 0, none⟩) (by dsimp only; omega) (.int .i64 0)).drew
    dsimp only [Qn]
    clear x0 l0 x1 l1 x2 l2 y3 f3 l3 y4 f4 l4 y5 f5 l5 y6 f6 l6 B0 B1 B2 B3
    generalize ((((X.setCell ⟨w.heap.size + 1 + 1 + 1, 0, none⟩ (.slice aS ys.length cS)).setCell ⟨w.heap.size + 1 + 1 + 1 + 1, 0, none⟩ (.slice av Y.P.length cP)).setCell ⟨w.heap.size + 1 + 1 + 1 + 1 + 1, 0, none⟩ (.int .i64 (Y.cnt : Int))).setCell ⟨w.heap.size + 1 + 1 + 1 + 1 + 1 + 1, 0, none⟩ (.int .i64 0)).drew = W8 at *
    gi_wp2_with fail
    have hbp := but_putObj W8 Dd (.deferred none)
    have c3 := (U3.but hbp (by omega)).at_ 0 rfl; have c4 := (U4.but hbp (by omega)).at_ 0 rfl; have c5 := (U5.but hbp (by omega)).at_ 0 rfl; have c6 := (U6.but hbp (by omega)).at_ 0 rfl
    have B5 : Below w.heap.size w W8 := below_but (C := fun b => w.heap.size + 3 ≤ b ∧ b < w.heap.size + 7) hB (B8.mono fun b _ h => ⟨by omega, h⟩)
    have B6 := B5.trans (⟨hbp.os, hbp.tape, hbp.output, hbp.size, fun z hz => hbp.block z (by have := B5.size; omega) (by omega)⟩ : Below w.heap.size _ _)
    have hK8 := (hK.si.but B8 (fun g' hg' => by have := (hK.c1 g' hg').2.1; omega) (fun k hk b of hh => by have := (hK.c3 k hk b of hh).2.1; omega)).but hbp (fun g' hg' e => hnD (e ▸ (hK.c1 g' hg').1)) (fun k hk b of hh e => hnD (e ▸ (hK.c3 k hk b of hh).1))
    have hP8 := own_butN (own_butN hK.po B8 (fun g' hg' => by have := (hK.c2 g' hg').2; omega)) hbp (fun g' hg' e => hnD (e ▸ (hK.c2 g' hg').1))
    rw [Exit.noGoto_ret]
    refine ⟨by simp, .inl ⟨_, _, rfl, run_takeDeferred hdef2, ?_⟩⟩
    refine ⟨.tuple #[.slice aS ys.length cS, .slice av Y.P.length cP, .int .i64 (Y.cnt : Int), .int .i64 0], by simp [results, Tryz.results39, go_sem, c3, c4, c5, c6], ?_⟩
    rw [HY.out]
    exact .inl ⟨HI.out.er, _, ys, _, rfl, hK8, hP8, B6⟩
  case hstop =>
    rintro Dd c pre C X hDd hnD hpre ⟨rfl, her, b3, b4, b5, b6, hC0, hB, hM⟩ hbut hgC hdef
    have hall : plyL Wd Hd o no rn ru N (ply0 g) L = plyL Wd Hd o no rn ru N (ply0 g) pre := by
      obtain ⟨t, rfl⟩ := hpre
      rw [plyL_app, plyL_er (by rw [her]; decide)]
    have HALL := hid hall; have HER := hid her
    clear hall her hpre
    gi_wp2_with fail
    have hbp := but_putObj X Dd (.deferred none)
    have c3 := (b3.but hbp (by omega)).at_ 0 rfl; have c4 := (b4.but hbp (by omega)).at_ 0 rfl; have c5 := (b5.but hbp (by omega)).at_ 0 rfl; have c6 := (b6.but hbp (by omega)).at_ 0 rfl
    have B6 := hB.trans (⟨hbp.os, hbp.tape, hbp.output, hbp.size, fun z hz => hbp.block z (by have := hB.size; omega) (by omega)⟩ : Below w.heap.size _ _)
    refine ⟨by simp, .inl ⟨_, _, rfl, run_takeDeferred hdef, ?_⟩⟩
    refine ⟨.tuple #[.slice none 0 0, .slice none 0 0, .int .i64 0, .int .i64 4], by simp [results, Tryz.results39, go_sem, c3, c4, c5, c6], ?_⟩
    rw [HALL.out]
    exact .inr ⟨HER.out, rfl, B6⟩
end Go.Proofs.YteabkcbajpjkoaaGreat
namespace Go.Proofs.YteabkcbajpjkoaaGreat
open Go Go.RowKit
attribute [local go_sem] Oper.semAt_some
set_option linter.unusedVariables false
set_option linter.unusedSimpArgs false
def encI (x : Int) : Array Value := #[.int .i64 x]
end Go.Proofs.YteabkcbajpjkoaaGreat
namespace Go.Proofs.YteabkcbajpjkoaaGreat
open Go Go.RowKit
attribute [local go_sem] Oper.semAt_some
set_option linter.unusedVariables false
set_option linter.unusedSimpArgs false
theorem PlyOwn.mono {o : Nat → Int} {no : Nat} {st : Int → Int} {G : Nat → C4} {L : List Int} {base base' : Nat} {W : World} {v : Value} {xs : List SiteR} (h : PlyOwn o no st G L base W v xs) (hb : base' ≤ base) : PlyOwn o no st G L base' W v xs :=
  ⟨own_mono h.1 hb, h.2.1, fun k hk => by
    obtain ⟨q1, q2, q3, q4⟩ := h.2.2 k hk
    exact ⟨q1, q2, fun b of hh => ⟨by have := (q3 b of hh).1; omega, (q3 b of hh).2⟩, q4⟩⟩
end Go.Proofs.YteabkcbajpjkoaaGreat
