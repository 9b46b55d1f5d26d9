/- Plain words: bricks put into a wall; walk: wall.put. -/
import Derived.Test.YtnnaegnkkpknpaaKinds
namespace Go.Proofs.Ytnnaegnkkpknpaa
open Go Go.RowKit
attribute [local go_sem] Oper.semAt_some
attribute [local go_sem ↓] Go.wp_at_zero Go.wp_at_succ
set_option linter.unusedVariables false
def bOn (wide high : Int) (b : Brick) : Bool := onB wide high b.1.1 b.1.2
def bIdx (wide : Int) (b : Brick) : Nat := (b.1.1 + wide * b.1.2).toNat
def putLK (wide high : Int) (L : List Brick) (K : Nat → Int) : Nat → Int := L.foldl (fun f b => if bOn wide high b then upd f (bIdx wide b) b.2 else f) K
def putLB (wide high body : Int) (L : List Brick) (B : Nat → Int) : Nat → Int := L.foldl (fun f b => if bOn wide high b then upd f (bIdx wide b) body else f) B
/-- a brick that is on the grid and meets another body's cell -/
def bBad (wide high body : Int) (B : Nat → Int) (b : Brick) : Prop := bOn wide high b = true ∧ B (bIdx wide b) ≠ 0 ∧ B (bIdx wide b) ≠ body
theorem putLK_snoc (wide high : Int) (L : List Brick) (b : Brick) (K : Nat → Int) : putLK wide high (L ++ [b]) K = if bOn wide high b then upd (putLK wide high L K) (bIdx wide b) b.2 else putLK wide high L K := by simp [putLK, List.foldl_append]
theorem putLB_snoc (wide high body : Int) (L : List Brick) (b : Brick) (B : Nat → Int) : putLB wide high body (L ++ [b]) B = if bOn wide high b then upd (putLB wide high body L B) (bIdx wide b) body else putLB wide high body L B := by simp [putLB, List.foldl_append]
theorem snoc_ind {α : Type} {p : List α → Prop} (h0 : p []) (h1 : ∀ l a, p l → p (l ++ [a])) : ∀ l, p l := by
  intro l
  have : ∀ n (l : List α), l.length = n → p l := by
    intro n
    induction n with
    | zero => intro l hl; rw [List.eq_nil_of_length_eq_zero hl]; exact h0
    | succ n ih =>
      intro l hl
      have hne : l ≠ [] := by intro e; rw [e] at hl; cases hl
      rw [← List.dropLast_concat_getLast hne]
      exact h1 _ _ (ih _ (by simp [hl]))
  exact this _ l rfl
theorem putLB_or (wide high body : Int) (B : Nat → Int) (j : Nat) : ∀ L, putLB wide high body L B j = B j ∨ putLB wide high body L B j = body := by
  refine snoc_ind (.inl rfl) (fun L b h => ?_)
  rw [putLB_snoc]
  split
  · unfold upd; split
    · exact .inr rfl
    · exact h
  · exact h
theorem putLB_keep (wide high body : Int) (B : Nat → Int) (j : Nat) (h0 : B j ≠ 0) (h1 : B j ≠ body) : ∀ L, (∀ b, b ∈ L → ¬ bBad wide high body B b) → putLB wide high body L B j = B j := by
  refine snoc_ind (fun _ => rfl) (fun L b h hb => ?_)
  have ih := h (fun x hx => hb x (by simp [hx]))
  rw [putLB_snoc]
  split
  · rename_i hon
    unfold upd; split
    · rename_i e
      exact absurd ⟨hon, by rw [← e]; exact h0, by rw [← e]; exact h1⟩ (hb b (by simp))
    · exact ih
  · exact ih
/-- the test of a place -/
theorem putLB_test {wide high body : Int} {B : Nat → Int} {j : Nat} {L : List Brick} (h : ∀ b, b ∈ L → ¬ bBad wide high body B b) : (putLB wide high body L B j ≠ 0 ∧ putLB wide high body L B j ≠ body) ↔ (B j ≠ 0 ∧ B j ≠ body) := by
  constructor
  · intro ⟨a, b⟩
    rcases putLB_or wide high body B j L with e | e
    · rw [e] at a b; exact ⟨a, b⟩
    · exact absurd e b
  · intro ⟨a, b⟩
    rw [putLB_keep wide high body B j a b L h]
    exact ⟨a, b⟩
open Classical in
noncomputable def lErr (wide high body : Int) (B : Nat → Int) (L : List Brick) : Int := if ∃ b, b ∈ L ∧ bBad wide high body B b then 11 else 0
open Classical in
noncomputable def lLen (wide high body : Int) (B : Nat → Int) (L : List Brick) (n : Nat) : Nat := if ∃ b, b ∈ L ∧ bBad wide high body B b then 0 else n
theorem Ro.but {C : Nat → Prop} {X Y : World} {b n : Nat} {f : Nat → Int} (h : Ro X b n f) (hb : But C X Y) (hc : ¬ C b) : Ro Y b n f := by
  have e := hb.block b h.lt hc
  refine ⟨Nat.lt_of_lt_of_le h.lt hb.size, fun i hi => ?_, fun i => ?_⟩
  · rw [World.cell?_of_block (w := X) (a := ⟨b, i, none⟩) e]; exact h.cells i hi
  · rw [World.frozen?_of_block (w := X) (a := ⟨b, i, none⟩) e]; exact h.free i
theorem Bx.one {W : World} {b : Nat} {x y : Value} (h : Bx W b #[x]) : Bx (W.setCell ⟨b, 0, none⟩ y) b #[y] := h.set_ 0 (by simp) y
/-- put's own blocks -/
structure PB (wide high body : Int) (n c gk ck gb cb s z : Nat) (a : Option Addr) (v5 : Array Value) (K B : Nat → Int) (w X : World) : Prop where
  fg : Bx X s #[.int .i64 wide, .int .i64 high, .slice a n c]
  fw : Bx X (s + 1) v5
  fb : Bx X (s + 1 + 1) #[.int .i64 body]
  fr : Bx X (s + 1 + 1 + 1) #[.slice none 0 0, .slice none 0 0]
  fe : Bx X (s + 1 + 1 + 1 + 1) #[.int .i64 0]
  fo : Bx X z #[.slice (some ⟨gk, 0, none⟩) n ck, .slice (some ⟨gb, 0, none⟩) n cb]
  fk : Ro X gk n K
  fl : Ro X gb n B
  bel : Below w.heap.size w X
theorem PB.but {wide high body : Int} {n c gk ck gb cb s z M : Nat} {a : Option Addr} {v5 : Array Value} {K B : Nat → Int} {w X Y : World} (h : PB wide high body n c gk ck gb cb s z a v5 K B w X) {C : Nat → Prop} (hb : But C X Y) (hC : ∀ b, C b → w.heap.size ≤ b ∧ M ≤ b)
    (hs : s = w.heap.size) (hm : s + 4 < M ∧ z < M ∧ gk < M ∧ gb < M) : PB wide high body n c gk ck gb cb s z a v5 K B w Y := by
  have hn : ∀ b, b < M → ¬ C b := fun b hb h => by have := (hC b h).2; omega
  exact ⟨h.fg.but hb (hn _ (by omega)), h.fw.but hb (hn _ (by omega)), h.fb.but hb (hn _ (by omega)), h.fr.but hb (hn _ (by omega)), h.fe.but hb (hn _ (by omega)), h.fo.but hb (hn _ (by omega)), h.fk.but hb (hn _ (by omega)), h.fl.but hb (hn _ (by omega)),
    h.bel.trans ⟨hb.os, hb.tape, hb.output, hb.size, fun b hb' => hb.block b (by have := h.bel.size; omega) (fun h' => by have := (hC b h').1; omega)⟩⟩
/-- the word between two rounds of put's loop -/
def PW (wide high body : Int) (n c gk ck gb cb z M : Nat) (a : Option Addr) (v5 : Array Value) (K B : Nat → Int) (w : World) (pre : List Brick) (C : Nat → Prop) (X : World) : Prop :=
  C = (fun b => w.heap.size ≤ b ∧ b < M) ∧ PB wide high body n c gk ck gb cb w.heap.size z a v5 (putLK wide high pre K) (putLB wide high body pre B) w X ∧ (∀ b, b ∈ pre → ¬ bBad wide high body B b) ∧ M ≤ X.heap.size
/-- .. and where a round has met another body -/
def PX (wide high body : Int) (B : Nat → Int) (M : Nat) (w : World) (c : Code) (pre : List Brick) (C : Nat → Prop) (X : World) : Prop :=
  c = .ret ∧ C = (fun b => w.heap.size ≤ b ∧ b < M) ∧ Bx X (w.heap.size + 1 + 1 + 1) #[.slice none 0 0, .slice none 0 0] ∧ Bx X (w.heap.size + 1 + 1 + 1 + 1) #[.int .i64 11] ∧ (∃ b, b ∈ pre ∧ bBad wide high body B b) ∧ Below w.heap.size w X ∧ w.heap.size + 4 < M ∧ M ≤ X.heap.size
theorem pw_stab {wide high body : Int} {n c gk ck gb cb z M : Nat} {a : Option Addr} {v5 : Array Value} {K B : Nat → Int} {w : World} (hm : w.heap.size + 4 < M ∧ z < M ∧ gk < M ∧ gb < M) : Stab w.heap.size (PW wide high body n c gk ck gb cb z M a v5 K B w) := by
  rintro pre C X Y ⟨rfl, hp, hb, hz⟩ hbut
  exact ⟨rfl, hp.but (M := M) hbut (fun b h => ⟨h.1, by have := h.1; have := h.2; omega⟩) rfl hm, hb, Nat.le_trans hz hbut.size⟩
theorem px_stab {wide high body : Int} {M : Nat} {B : Nat → Int} {w : World} (c : Code) : Stab w.heap.size (PX wide high body B M w c) := by
  rintro pre C X Y ⟨e, rfl, h1, h2, h3, h4, h5, h6⟩ hbut
  refine ⟨e, rfl, h1.but hbut (by omega), h2.but hbut (by omega), h3, h4.trans ⟨hbut.os, hbut.tape, hbut.output, hbut.size, fun b hb' => hbut.block b (by have := h4.size; omega) (by omega)⟩, h5, Nat.le_trans h6 hbut.size⟩
set_option maxRecDepth 100000 in
set_option maxHeartbeats 8000000 in
theorem wall_put (wide high body : Int) (ak ab a : Option Addr) (n c ck cb gbr : Nat) (lbb : Array Value) (K B : Nat → Int) (L : List Brick) (w : World) (v1 : 1 ≤ wide ∧ wide ≤ 64) (v3 : 1 ≤ high ∧ high ≤ 64) (hnn : (n : Int) = wide * high) (hn : n ≤ 100000) (h0 : 0 < n)
    (HK : Sl w ak n K) (HB : Sl w ab n B) (hit : Iter Try.prog gbr lbb encK L w) (eg : ∀ args w, (callFunc gbr args).run Try.prog w = .ok (.enter gbr args) w) :
    Calls Try.prog 79 #[.agg #[.int .i64 wide, .int .i64 high, .slice a n c], .agg #[.slice ak n ck, .slice ab n cb], .func (.func gbr) #[] lbb, .int .i64 body] w
      (WallPost (lErr wide high body B L) (lLen wide high body B L n) (putLK wide high L K) (putLB wide high body L B) w) := by
  have HNN := hid hnn; clear hnn
  have X0 := ((((Bx.new w #[.int .i64 wide, .int .i64 high, .slice a n c] 24).alloc (.cells #[.slice ak n ck, .slice ab n cb] 27)).alloc (.cells #[.int .i64 body] 3)).alloc (.cells #[.slice none 0 0, .slice none 0 0] 27)).alloc (.cells #[.int .i64 0] 34)
  have X1 := (((Bx.new (w.alloc (.cells #[.int .i64 wide, .int .i64 high, .slice a n c] 24)) #[.slice ak n ck, .slice ab n cb] 27).alloc (.cells #[.int .i64 body] 3)).alloc (.cells #[.slice none 0 0, .slice none 0 0] 27)).alloc (.cells #[.int .i64 0] 34)
  have X2 := ((Bx.new ((w.alloc (.cells #[.int .i64 wide, .int .i64 high, .slice a n c] 24)).alloc (.cells #[.slice ak n ck, .slice ab n cb] 27)) #[.int .i64 body] 3).alloc (.cells #[.slice none 0 0, .slice none 0 0] 27)).alloc (.cells #[.int .i64 0] 34)
  have X3 := (Bx.new (((w.alloc (.cells #[.int .i64 wide, .int .i64 high, .slice a n c] 24)).alloc (.cells #[.slice ak n ck, .slice ab n cb] 27)).alloc (.cells #[.int .i64 body] 3)) #[.slice none 0 0, .slice none 0 0] 27).alloc (.cells #[.int .i64 0] 34)
  have X4 := Bx.new ((((w.alloc (.cells #[.int .i64 wide, .int .i64 high, .slice a n c] 24)).alloc (.cells #[.slice ak n ck, .slice ab n cb] 27)).alloc (.cells #[.int .i64 body] 3)).alloc (.cells #[.slice none 0 0, .slice none 0 0] 27)) #[.int .i64 0] 34
  simp only [World.size_alloc] at X1 X2 X3 X4
  have hB0 : Below w.heap.size w (((((w.alloc (.cells #[.int .i64 wide, .int .i64 high, .slice a n c] 24)).alloc (.cells #[.slice ak n ck, .slice ab n cb] 27)).alloc (.cells #[.int .i64 body] 3)).alloc (.cells #[.slice none 0 0, .slice none 0 0] 27)).alloc (.cells #[.int .i64 0] 34)) := by (repeat' (first | with_reducible assumption | with_reducible exact Below.refl _ _ | with_reducible refine Below.drew ?_ | with_reducible refine below_drewN ?_ _ | with_reducible refine balloc ?_ _ | with_reducible refine bset ?_ ?_ _ | with_reducible refine Below.setCell ?_ ?_ _ | with_reducible refine Below.alloc ?_ ?_ _ | omega | (simp; done) | (simp; omega)))
  refine callsIn_wide.1 (callsIn_of_wp_marks (F := Fence.wide) (n := 0) Try.func79 rfl trivial ?_ rfl)
  simp only [Try.ntmps79, List.size_toArray, List.length_cons, List.length_nil, Nat.reduceAdd, Nat.reduceSub, Array.replicate_succ, Array.replicate_zero, List.push_toArray, List.append_toArray, List.nil_append, List.cons_append]
  gi_wp2_with fail
  generalize (((((w.alloc (.cells #[.int .i64 wide, .int .i64 high, .slice a n c] 24)).alloc (.cells #[.slice ak n ck, .slice ab n cb] 27)).alloc (.cells #[.int .i64 body] 3)).alloc (.cells #[.slice none 0 0, .slice none 0 0] 27)).alloc (.cells #[.int .i64 0] 34)) = W0 at X0 X1 X2 X3 X4 hB0 ⊢
  have z0 := X0.lt
  have z1 := X1.lt
  have z2 := X2.lt
  have z3 := X3.lt
  have z4 := X4.lt
  refine ⟨trivial, rfl, callsIn_wide.2 ((wall_clone ak ab n ck cb K B _ hn h0 (HK.below hB0) (HB.below hB0)).mono ?_)⟩
  rintro e w1 ⟨gk, ck', gb, cb', rfl, hgk, hgb, hne, RK, RB, hb1⟩
  have Y0 := X0.below hb1; have Y1 := X1.below hb1; have Y2 := X2.below hb1; have Y3 := X3.below hb1; have Y4 := X4.below hb1
  have hB1 : Below w.heap.size w w1 := bvia hB0 hb1
  clear X0 X1 X2 X3 X4
  have lk := RK.lt; have lb := RB.lt; have l4 := Y4.lt
  gi_wp2_with fail
  have hwl : Below w1.heap.size w1 (w1.alloc (.cells #[.slice (some ⟨gk, 0, none⟩) n ck', .slice (some ⟨gb, 0, none⟩) n cb'] 27)) := below_alloc _ _
  have hm : w.heap.size + 4 < w1.heap.size + 1 ∧ w1.heap.size < w1.heap.size + 1 ∧ gk < w1.heap.size + 1 ∧ gb < w1.heap.size + 1 := by omega
  have hm2 : gk < w1.heap.size ∧ gb < w1.heap.size := ⟨lk, lb⟩
  have hgk' : w.heap.size + 5 ≤ gk := by have := hgk; omega
  have hgb' : w.heap.size + 5 ≤ gb := by have := hgb; omega
  have P0 : PB wide high body n c gk ck' gb cb' w.heap.size w1.heap.size a #[.slice ak n ck, .slice ab n cb] K B w (w1.alloc (.cells #[.slice (some ⟨gk, 0, none⟩) n ck', .slice (some ⟨gb, 0, none⟩) n cb'] 27)) :=
    ⟨Y0.alloc _, Y1.alloc _, Y2.alloc _, Y3.alloc _, Y4.alloc _, Bx.new _ _ _, RK.alloc _, RB.alloc _, hB1.alloc hB1.size _⟩
  clear Y0 Y1 Y2 Y3 Y4 RK RB hb1 hgk hgb lk lb l4
  refine wp_range rfl eg hit (hB1.alloc hB1.size _) (fun _ => rfl) (PW wide high body n c gk ck' gb cb' w1.heap.size (w1.heap.size + 1) a #[.slice ak n ck, .slice ab n cb] K B w) (PX wide high body B (w1.heap.size + 1) w) (fun b => w.heap.size ≤ b ∧ b < w1.heap.size + 1) ?hC (pw_stab hm) (fun c => px_stab c) ?h0 ?hround ?hdone ?hstop
  case hC =>
    rintro pre C X ⟨rfl, _, _, hz⟩ b hb
    exact ⟨hb.1, by omega⟩
  case h0 => exact ⟨rfl, P0, fun b hb => (by cases hb), by simp⟩
  case hround =>
    rintro l pre x C X hl hl' hnl ⟨rec2, hrec2⟩ ⟨rfl, hp, hgood, hz⟩ hX hgC hpre
    simp at hl
    unfold Round
    dsimp only [encK]
    gi_wp2_with fail
    refine ⟨below_alloc _ _, ?_⟩
    intro X₂ hb2 hs2 r2 hr2
    have hs2' : X.heap.size < X₂.heap.size := by omega
    clear hs2
    have hbx : But (fun b => b = l) X X₂ := (But.refl _ X |>.alloc _).trans hb2
    have P2 := hp.but (M := w1.heap.size + 1) hbx (fun b e => ⟨by omega, by omega⟩) rfl hm
    have U : Bx X₂ X.heap.size #[.int .i64 x.1.1, .int .i64 x.1.2, .int .i64 x.2] := (Bx.new X #[.int .i64 x.1.1, .int .i64 x.1.2, .int .i64 x.2] 166).but hb2 (by omega)
    clear hp hb2 hbx
    have g0 := P2.fg.at_ 0 rfl; have g1 := P2.fg.at_ 1 rfl; have g2 := P2.fg.at_ 2 rfl; have u0 := U.at_ 0 rfl; have u1 := U.at_ 1 rfl
    have lg := P2.fg.lt; have lu := U.lt
    gi_wp2_with fail
    refine ⟨trivial, rfl, callsIn_of ((wall_on wide high x.1.1 x.1.2 _ _ _ _ v1 v3).mono ?_)⟩
    rintro e X3 ⟨rfl, hb3⟩
    have P3 := P2.but (M := w1.heap.size + 1) (but_below (C := fun _ => False) hb3 (Nat.le_refl _)) (fun b h => h.elim) rfl hm
    have U3 := U.below hb3
    have hs3 := hb3.size
    clear g0 g1 g2 u0 u1 lg lu
    cases hon : onB wide high x.1.1 x.1.2
    · have e1 : putLK wide high (pre ++ [x]) K = putLK wide high pre K := by rw [putLK_snoc, if_neg (by simp [bOn, hon])]
      have e2 : putLB wide high body (pre ++ [x]) B = putLB wide high body pre B := by rw [putLB_snoc, if_neg (by simp [bOn, hon])]
      have hg' : ∀ b, b ∈ pre ++ [x] → ¬ bBad wide high body B b := fun b hb => by
        rcases List.mem_append.1 hb with h | h
        · exact hgood b h
        · rw [List.mem_singleton.1 h]; exact fun h2 => by have := h2.1; simp [bOn, hon] at this
      rw [← e1, ← e2] at P3
      have HG := hid hg'; clear hg' e1 e2
      gi_wp2_with fail
      exact ⟨_, but_below hb3 (Nat.le_refl _), Grw.refl _ _, rfl, P3, HG.out, by omega⟩
    · obtain ⟨⟨x0, x1⟩, y0, y1⟩ := onB_iff.1 hon
      obtain ⟨J, hJ, hJn, q0, q1⟩ := idx_lt v1.1 HNN.out x0 x1 y0 y1
      have hidx : bIdx wide x = J := by simp [bIdx, hJ]
      have e1 : putLK wide high (pre ++ [x]) K = upd (putLK wide high pre K) J x.2 := by rw [putLK_snoc, if_pos (by simp [bOn, hon]), hidx]
      have e2 : putLB wide high body (pre ++ [x]) B = upd (putLB wide high body pre B) J body := by rw [putLB_snoc, if_pos (by simp [bOn, hon]), hidx]
      have ht := putLB_test (wide := wide) (high := high) (j := J) hgood
      have g0 := P3.fg.at_ 0 rfl; have g1 := P3.fg.at_ 1 rfl; have g2 := P3.fg.at_ 2 rfl; have u0 := U3.at_ 0 rfl; have u1 := U3.at_ 1 rfl
      have lg := P3.fg.lt; have lu := U3.lt
      have HJ := hid hJ; have HX := hid hidx; have HE1 := hid e1; have HE2 := hid e2; have HON := hid hon; have HT := hid ht
      clear hJ hidx e1 e2 ht
      gi_wp2_with fail
      refine ⟨trivial, rfl, callsIn_of ((wall_index wide high x.1.1 x.1.2 _ _ _ _ v1 ⟨x0, by omega⟩ ⟨y0, by omega⟩).mono ?_)⟩
      rintro e X4 ⟨rfl, hb4⟩
      rw [HJ.out]
      have P4 := P3.but (M := w1.heap.size + 1) (but_below (C := fun _ => False) hb4 (Nat.le_refl _)) (fun b h => h.elim) rfl hm
      have U4 := U3.below hb4
      have hs4 := hb4.size
      have hB24 : Below X₂.heap.size X₂ X4 := hb3.trans (hb4.mono hs3)
      clear g0 g1 g2 u0 u1 lg lu P3 U3 P2 U hb3 hb4 q0 q1
      have o0 := P4.fo.at_ 0 rfl; have o1 := P4.fo.at_ 1 rfl; have b0 := P4.fb.at_ 0 rfl; have u2 := U4.at_ 2 rfl
      have ccb := P4.fl.cells J hJn; have cck := P4.fk.cells J hJn
      have fb := P4.fl.free; have fk := P4.fk.free
      have J0 : (0 : Int) ≤ (J : Int) := by omega
      have Jn : (J : Int) < (n : Int) := by omega
      generalize hy : putLB wide high body pre B J = y at ccb HT
      have HY := hid hy; clear hy
      cases h1 : (y != 0)
      · have hnb : ¬ (B J ≠ 0 ∧ B J ≠ body) := fun h => by have := (HT.out.2 h).1; simp at h1; exact this h1
        have HNB := hid hnb; clear hnb
        gi_upto_region 6 with (fail)
        refine wpIn_quiet_R (by kernel_rfl) (by kernel_rfl) ?_
        repeat (go_big_quiet_step (fail))
        refine wpQuiet_nil ?_
        rintro _ ⟨nq, rfl⟩
        gi_upto_region 8 with (fail)
        have lz : X.heap.size ≠ gk ∧ X.heap.size ≠ gb := by omega
        have r0 : ∀ Y, But (fun b => b = gk ∨ b = gb) X4 Y → Y.cell? ⟨w1.heap.size, 0, none⟩ = some (.slice (some ⟨gk, 0, none⟩) n ck') := fun Y h => (P4.fo.but h (by omega)).at_ 0 rfl
        have r1 : ∀ Y, But (fun b => b = gk ∨ b = gb) X4 Y → Y.cell? ⟨w1.heap.size, 1, none⟩ = some (.slice (some ⟨gb, 0, none⟩) n cb') := fun Y h => (P4.fo.but h (by omega)).at_ 1 rfl
        have r2 : ∀ Y, But (fun b => b = gk ∨ b = gb) X4 Y → Y.cell? ⟨w.heap.size + 1 + 1, 0, none⟩ = some (.int .i64 body) := fun Y h => (P4.fb.but h (by omega)).at_ 0 rfl
        have r3 : ∀ Y, But (fun b => b = gk ∨ b = gb) X4 Y → Y.cell? ⟨X.heap.size, 2, none⟩ = some (.int .i64 x.2) := fun Y h => (U4.but h (by omega)).at_ 2 rfl
        refine wpIn_region_R (But (fun b => b = gk ∨ b = gb) X4) (by kernel_rfl) ?_
        refine anyR_take (i := 0) (fun _ => trivial) rfl (by kernel_rfl) (fun _ _ _ h => h) (Or.inl ⟨by rfl, fun Y hYb => (by (try dsimp only at hYb); go_simp; rfl)⟩) (by repeat' (first | assumption | exact But.refl _ _ | refine But.drew ?_ | refine But.drewN ?_ _)) ?_
        simp only [Act.put, List.setIfInBounds_toArray, List.set_cons_zero, List.set_cons_succ]
        refine anyR_take (i := 1) (fun _ => trivial) rfl (by kernel_rfl) (fun _ _ _ h => h) (Or.inl ⟨by rfl, fun Y hYb => (by (try dsimp only at hYb); go_simp; rfl)⟩) (by repeat' (first | assumption | exact But.refl _ _ | refine But.drew ?_ | refine But.drewN ?_ _)) ?_
        simp only [Act.put, List.setIfInBounds_toArray, List.set_cons_zero, List.set_cons_succ]
        refine anyR_take (i := 2) (fun _ => trivial) rfl (by kernel_rfl) (fun _ _ _ h => h) (Or.inl ⟨by rfl, fun Y hYb => (by (try dsimp only at hYb); go_simp; rfl)⟩) (by repeat' (first | assumption | exact But.refl _ _ | refine But.drew ?_ | refine But.drewN ?_ _)) ?_
        simp only [Act.put, List.setIfInBounds_toArray, List.set_cons_zero, List.set_cons_succ]
        refine anyR_take (i := 3) (fun _ => trivial) rfl (by kernel_rfl) (fun _ _ _ h => h) (Or.inl ⟨by rfl, fun Y hYb => (by (try dsimp only at hYb); go_simp; rfl)⟩) (by repeat' (first | assumption | exact But.refl _ _ | refine But.drew ?_ | refine But.drewN ?_ _)) ?_
        simp only [Act.put, List.setIfInBounds_toArray, List.set_cons_zero, List.set_cons_succ]
        refine anyR_take (i := 4) (fun _ => trivial) rfl (by kernel_rfl) (fun _ _ _ h => h) (Or.inl ⟨by rfl, fun Y hYb => (by (try dsimp only at hYb); go_simp; rfl)⟩) (by repeat' (first | assumption | exact But.refl _ _ | refine But.drew ?_ | refine But.drewN ?_ _)) ?_
        simp only [Act.put, List.setIfInBounds_toArray, List.set_cons_zero, List.set_cons_succ]
        refine anyR_take (i := 5) (fun _ => trivial) rfl (by kernel_rfl) (fun _ _ _ h => h) (Or.inl ⟨by rfl, fun Y hYb => (by (try dsimp only at hYb); go_simp; rfl)⟩) (by repeat' (first | assumption | exact But.refl _ _ | refine But.drew ?_ | refine But.drewN ?_ _)) ?_
        simp only [Act.put, List.setIfInBounds_toArray, List.set_cons_zero, List.set_cons_succ]
        refine anyR_take (i := 6) (fun _ => trivial) rfl (by kernel_rfl) (fun _ _ _ h => h) (Or.inl ⟨by rfl, fun Y hYb => (by (try dsimp only at hYb); go_simp; rfl)⟩) (by repeat' (first | assumption | exact But.refl _ _ | refine But.drew ?_ | refine But.drewN ?_ _)) ?_
        simp only [Act.put, List.setIfInBounds_toArray, List.set_cons_zero, List.set_cons_succ]
        refine anyR_take (i := 7) (fun _ => trivial) rfl (by kernel_rfl) (fun _ _ _ h => h) (Or.inl ⟨by rfl, fun Y hYb => (by (try dsimp only at hYb); go_simp; rfl)⟩) (by repeat' (first | assumption | exact But.refl _ _ | refine But.drew ?_ | refine But.drewN ?_ _)) ?_
        simp only [Act.put, List.setIfInBounds_toArray, List.set_cons_zero, List.set_cons_succ]
        refine anyR_take (i := 8) (fun _ => trivial) rfl (by kernel_rfl) (fun _ _ _ h => h) (Or.inl ⟨by rfl, fun Y hYb => (by (try dsimp only at hYb); go_simp; rfl)⟩) (by repeat' (first | assumption | exact But.refl _ _ | refine But.drew ?_ | refine But.drewN ?_ _)) ?_
        simp only [Act.put, List.setIfInBounds_toArray, List.set_cons_zero, List.set_cons_succ]
        refine anyR_take (i := 9) (fun _ => trivial) rfl (by kernel_rfl) (fun _ _ _ h => h) (Or.inl ⟨by rfl, fun Y hYb => (by (try dsimp only at hYb); go_simp; rfl)⟩) (by repeat' (first | assumption | exact But.refl _ _ | refine But.drew ?_ | refine But.drewN ?_ _)) ?_
        simp only [Act.put, List.setIfInBounds_toArray, List.set_cons_zero, List.set_cons_succ]
        refine anyR_one (i := 10) (by kernel_rfl) rfl (by rfl) (fun K hK => ?_)
        go_simp
        have hs1 : But (fun b => b = gk ∨ b = gb) X4 ((X4.drewN (nq + 1)).setCell ⟨gk, J, none⟩ (.int .i64 x.2)) := But.set_ ((But.refl _ _).drewN _) (.inl rfl) _
        refine hK _ _ hs1 ?_
        clear hK K
        refine anyR_take (i := 11) (fun _ => trivial) rfl (by kernel_rfl) (fun _ _ _ h => h) (Or.inl ⟨by rfl, fun Y hYb => (by (try dsimp only at hYb); go_simp; rfl)⟩) (by repeat' (first | assumption | exact But.refl _ _ | refine But.drew ?_ | refine But.drewN ?_ _)) ?_
        simp only [Act.put, List.setIfInBounds_toArray, List.set_cons_zero, List.set_cons_succ]
        refine anyR_one (i := 12) (by kernel_rfl) rfl (by rfl) (fun K hK => ?_)
        go_simp
        have hs5 : But (fun b => b = gk ∨ b = gb) X4 (((X4.drewN (nq + 1)).setCell ⟨gk, J, none⟩ (.int .i64 x.2)).setCell ⟨gb, J, none⟩ (.int .i64 body)) := But.set_ hs1 (.inr rfl) _
        refine hK _ _ hs5 ?_
        clear hK K
        refine anyR_done (by kernel_rfl) ?_ _
        gi_wp2_with fail
        have nz : ∀ b, b = w.heap.size ∨ b = w.heap.size + 1 ∨ b = w.heap.size + 1 + 1 ∨ b = w.heap.size + 1 + 1 + 1 ∨ b = w.heap.size + 1 + 1 + 1 + 1 ∨ b = w1.heap.size → ¬ (b = gk ∨ b = gb) := fun b h => by omega
        have P5 : PB wide high body n c gk ck' gb cb' w.heap.size w1.heap.size a #[.slice ak n ck, .slice ab n cb] (putLK wide high (pre ++ [x]) K) (putLB wide high body (pre ++ [x]) B) w (((X4.drewN (nq + 1)).setCell ⟨gk, J, none⟩ (.int .i64 x.2)).setCell ⟨gb, J, none⟩ (.int .i64 body)) := by
          refine ⟨P4.fg.but hs5 (nz _ (by simp)), P4.fw.but hs5 (nz _ (by simp)), P4.fb.but hs5 (nz _ (by simp)), P4.fr.but hs5 (nz _ (by simp)), P4.fe.but hs5 (nz _ (by simp)), P4.fo.but hs5 (nz _ (by simp)), ?_, ?_, ?_⟩
          · rw [HE1.out]; exact ((P4.fk.drewN _).set_ J x.2).far (by simp; omega) _
          · rw [HE2.out]; exact ((P4.fl.drewN _).far (by simp; omega) _).set_ J body
          · exact P4.bel.trans ⟨hs5.os, hs5.tape, hs5.output, hs5.size, fun b hb => hs5.block b (by have := P4.bel.size; omega) (by omega)⟩
        have hg' : ∀ b, b ∈ pre ++ [x] → ¬ bBad wide high body B b := fun b hb => by
          rcases List.mem_append.1 hb with h | h
          · exact hgood b h
          · rw [List.mem_singleton.1 h]; exact fun h2 => HNB.out (by have := h2.2; rw [HX.out] at this; exact this)
        have hbt : But (fun b => w.heap.size ≤ b ∧ b < w1.heap.size + 1) X₂ (((X4.drewN (nq + 1)).setCell ⟨gk, J, none⟩ (.int .i64 x.2)).setCell ⟨gb, J, none⟩ (.int .i64 body)) :=
          (but_below hB24 (Nat.le_refl _)).trans (hs5.mono (fun b _ h => by omega))
        exact ⟨_, hbt, Grw.refl _ _, rfl, P5, hg', by have := hbt.size; omega⟩
      · cases h2 : (y != body)
        · have hnb : ¬ (B J ≠ 0 ∧ B J ≠ body) := fun h => by have := (HT.out.2 h).2; simp at h2; exact this h2
          have HNB := hid hnb; clear hnb
          gi_upto_region 6 with (fail)
          refine wpIn_quiet_R (by kernel_rfl) (by kernel_rfl) ?_
          repeat (go_big_quiet_step (fail))
          refine wpQuiet_nil ?_
          rintro _ ⟨nq, rfl⟩
          gi_upto_region 8 with (fail)
          have lz : X.heap.size ≠ gk ∧ X.heap.size ≠ gb := by omega
          have r0 : ∀ Y, But (fun b => b = gk ∨ b = gb) X4 Y → Y.cell? ⟨w1.heap.size, 0, none⟩ = some (.slice (some ⟨gk, 0, none⟩) n ck') := fun Y h => (P4.fo.but h (by omega)).at_ 0 rfl
          have r1 : ∀ Y, But (fun b => b = gk ∨ b = gb) X4 Y → Y.cell? ⟨w1.heap.size, 1, none⟩ = some (.slice (some ⟨gb, 0, none⟩) n cb') := fun Y h => (P4.fo.but h (by omega)).at_ 1 rfl
          have r2 : ∀ Y, But (fun b => b = gk ∨ b = gb) X4 Y → Y.cell? ⟨w.heap.size + 1 + 1, 0, none⟩ = some (.int .i64 body) := fun Y h => (P4.fb.but h (by omega)).at_ 0 rfl
          have r3 : ∀ Y, But (fun b => b = gk ∨ b = gb) X4 Y → Y.cell? ⟨X.heap.size, 2, none⟩ = some (.int .i64 x.2) := fun Y h => (U4.but h (by omega)).at_ 2 rfl
          refine wpIn_region_R (But (fun b => b = gk ∨ b = gb) X4) (by kernel_rfl) ?_
          refine anyR_take (i := 0) (fun _ => trivial) rfl (by kernel_rfl) (fun _ _ _ h => h) (Or.inl ⟨by rfl, fun Y hYb => (by (try dsimp only at hYb); go_simp; rfl)⟩) (by repeat' (first | assumption | exact But.refl _ _ | refine But.drew ?_ | refine But.drewN ?_ _)) ?_
          simp only [Act.put, List.setIfInBounds_toArray, List.set_cons_zero, List.set_cons_succ]
          refine anyR_take (i := 1) (fun _ => trivial) rfl (by kernel_rfl) (fun _ _ _ h => h) (Or.inl ⟨by rfl, fun Y hYb => (by (try dsimp only at hYb); go_simp; rfl)⟩) (by repeat' (first | assumption | exact But.refl _ _ | refine But.drew ?_ | refine But.drewN ?_ _)) ?_
          simp only [Act.put, List.setIfInBounds_toArray, List.set_cons_zero, List.set_cons_succ]
          refine anyR_take (i := 2) (fun _ => trivial) rfl (by kernel_rfl) (fun _ _ _ h => h) (Or.inl ⟨by rfl, fun Y hYb => (by (try dsimp only at hYb); go_simp; rfl)⟩) (by repeat' (first | assumption | exact But.refl _ _ | refine But.drew ?_ | refine But.drewN ?_ _)) ?_
          simp only [Act.put, List.setIfInBounds_toArray, List.set_cons_zero, List.set_cons_succ]
          refine anyR_take (i := 3) (fun _ => trivial) rfl (by kernel_rfl) (fun _ _ _ h => h) (Or.inl ⟨by rfl, fun Y hYb => (by (try dsimp only at hYb); go_simp; rfl)⟩) (by repeat' (first | assumption | exact But.refl _ _ | refine But.drew ?_ | refine But.drewN ?_ _)) ?_
          simp only [Act.put, List.setIfInBounds_toArray, List.set_cons_zero, List.set_cons_succ]
          refine anyR_take (i := 4) (fun _ => trivial) rfl (by kernel_rfl) (fun _ _ _ h => h) (Or.inl ⟨by rfl, fun Y hYb => (by (try dsimp only at hYb); go_simp; rfl)⟩) (by repeat' (first | assumption | exact But.refl _ _ | refine But.drew ?_ | refine But.drewN ?_ _)) ?_
          simp only [Act.put, List.setIfInBounds_toArray, List.set_cons_zero, List.set_cons_succ]
          refine anyR_take (i := 5) (fun _ => trivial) rfl (by kernel_rfl) (fun _ _ _ h => h) (Or.inl ⟨by rfl, fun Y hYb => (by (try dsimp only at hYb); go_simp; rfl)⟩) (by repeat' (first | assumption | exact But.refl _ _ | refine But.drew ?_ | refine But.drewN ?_ _)) ?_
          simp only [Act.put, List.setIfInBounds_toArray, List.set_cons_zero, List.set_cons_succ]
          refine anyR_take (i := 6) (fun _ => trivial) rfl (by kernel_rfl) (fun _ _ _ h => h) (Or.inl ⟨by rfl, fun Y hYb => (by (try dsimp only at hYb); go_simp; rfl)⟩) (by repeat' (first | assumption | exact But.refl _ _ | refine But.drew ?_ | refine But.drewN ?_ _)) ?_
          simp only [Act.put, List.setIfInBounds_toArray, List.set_cons_zero, List.set_cons_succ]
          refine anyR_take (i := 7) (fun _ => trivial) rfl (by kernel_rfl) (fun _ _ _ h => h) (Or.inl ⟨by rfl, fun Y hYb => (by (try dsimp only at hYb); go_simp; rfl)⟩) (by repeat' (first | assumption | exact But.refl _ _ | refine But.drew ?_ | refine But.drewN ?_ _)) ?_
          simp only [Act.put, List.setIfInBounds_toArray, List.set_cons_zero, List.set_cons_succ]
          refine anyR_take (i := 8) (fun _ => trivial) rfl (by kernel_rfl) (fun _ _ _ h => h) (Or.inl ⟨by rfl, fun Y hYb => (by (try dsimp only at hYb); go_simp; rfl)⟩) (by repeat' (first | assumption | exact But.refl _ _ | refine But.drew ?_ | refine But.drewN ?_ _)) ?_
          simp only [Act.put, List.setIfInBounds_toArray, List.set_cons_zero, List.set_cons_succ]
          refine anyR_take (i := 9) (fun _ => trivial) rfl (by kernel_rfl) (fun _ _ _ h => h) (Or.inl ⟨by rfl, fun Y hYb => (by (try dsimp only at hYb); go_simp; rfl)⟩) (by repeat' (first | assumption | exact But.refl _ _ | refine But.drew ?_ | refine But.drewN ?_ _)) ?_
          simp only [Act.put, List.setIfInBounds_toArray, List.set_cons_zero, List.set_cons_succ]
          refine anyR_one (i := 10) (by kernel_rfl) rfl (by rfl) (fun K hK => ?_)
          go_simp
          have hs1 : But (fun b => b = gk ∨ b = gb) X4 ((X4.drewN (nq + 1)).setCell ⟨gk, J, none⟩ (.int .i64 x.2)) := But.set_ ((But.refl _ _).drewN _) (.inl rfl) _
          refine hK _ _ hs1 ?_
          clear hK K
          refine anyR_take (i := 11) (fun _ => trivial) rfl (by kernel_rfl) (fun _ _ _ h => h) (Or.inl ⟨by rfl, fun Y hYb => (by (try dsimp only at hYb); go_simp; rfl)⟩) (by repeat' (first | assumption | exact But.refl _ _ | refine But.drew ?_ | refine But.drewN ?_ _)) ?_
          simp only [Act.put, List.setIfInBounds_toArray, List.set_cons_zero, List.set_cons_succ]
          refine anyR_one (i := 12) (by kernel_rfl) rfl (by rfl) (fun K hK => ?_)
          go_simp
          have hs5 : But (fun b => b = gk ∨ b = gb) X4 (((X4.drewN (nq + 1)).setCell ⟨gk, J, none⟩ (.int .i64 x.2)).setCell ⟨gb, J, none⟩ (.int .i64 body)) := But.set_ hs1 (.inr rfl) _
          refine hK _ _ hs5 ?_
          clear hK K
          refine anyR_done (by kernel_rfl) ?_ _
          gi_wp2_with fail
          have nz : ∀ b, b = w.heap.size ∨ b = w.heap.size + 1 ∨ b = w.heap.size + 1 + 1 ∨ b = w.heap.size + 1 + 1 + 1 ∨ b = w.heap.size + 1 + 1 + 1 + 1 ∨ b = w1.heap.size → ¬ (b = gk ∨ b = gb) := fun b h => by omega
          have P5 : PB wide high body n c gk ck' gb cb' w.heap.size w1.heap.size a #[.slice ak n ck, .slice ab n cb] (putLK wide high (pre ++ [x]) K) (putLB wide high body (pre ++ [x]) B) w (((X4.drewN (nq + 1)).setCell ⟨gk, J, none⟩ (.int .i64 x.2)).setCell ⟨gb, J, none⟩ (.int .i64 body)) := by
            refine ⟨P4.fg.but hs5 (nz _ (by simp)), P4.fw.but hs5 (nz _ (by simp)), P4.fb.but hs5 (nz _ (by simp)), P4.fr.but hs5 (nz _ (by simp)), P4.fe.but hs5 (nz _ (by simp)), P4.fo.but hs5 (nz _ (by simp)), ?_, ?_, ?_⟩
            · rw [HE1.out]; exact ((P4.fk.drewN _).set_ J x.2).far (by simp; omega) _
            · rw [HE2.out]; exact ((P4.fl.drewN _).far (by simp; omega) _).set_ J body
            · exact P4.bel.trans ⟨hs5.os, hs5.tape, hs5.output, hs5.size, fun b hb => hs5.block b (by have := P4.bel.size; omega) (by omega)⟩
          have hg' : ∀ b, b ∈ pre ++ [x] → ¬ bBad wide high body B b := fun b hb => by
            rcases List.mem_append.1 hb with h | h
            · exact hgood b h
            · rw [List.mem_singleton.1 h]; exact fun h2 => HNB.out (by have := h2.2; rw [HX.out] at this; exact this)
          have hbt : But (fun b => w.heap.size ≤ b ∧ b < w1.heap.size + 1) X₂ (((X4.drewN (nq + 1)).setCell ⟨gk, J, none⟩ (.int .i64 x.2)).setCell ⟨gb, J, none⟩ (.int .i64 body)) :=
            (but_below hB24 (Nat.le_refl _)).trans (hs5.mono (fun b _ h => by omega))
          exact ⟨_, hbt, Grw.refl _ _, rfl, P5, hg', by have := hbt.size; omega⟩
        · have hbad : B J ≠ 0 ∧ B J ≠ body := HT.out.1 ⟨by simpa using h1, by simpa using h2⟩
          have HBAD := hid hbad; clear hbad
          gi_upto_region 6 with (fail)
          refine wpIn_quiet_R (by kernel_rfl) (by kernel_rfl) ?_
          repeat (go_big_quiet_step (fail))
          refine wpQuiet_nil ?_
          rintro _ ⟨nq, rfl⟩
          have r0 := P4.fr.at_ 0 rfl; have r1 := P4.fr.at_ 1 rfl; have rf := P4.fr.free
          have e0 := P4.fe.at_ 0 rfl; have ef := P4.fe.free
          gi_wp2_with fail
          have n1 : w.heap.size + 1 + 1 + 1 < w1.heap.size + 1 := by omega
          have hbt : But (fun b => w.heap.size ≤ b ∧ b < w1.heap.size + 1) X₂ ((((X4.drewN nq).setCell ⟨w.heap.size + 1 + 1 + 1, 0, none⟩ (.slice none 0 0)).setCell ⟨w.heap.size + 1 + 1 + 1, 1, none⟩ (.slice none 0 0)).setCell ⟨w.heap.size + 1 + 1 + 1 + 1, 0, none⟩ (.int .i64 11)) :=
            But.set_ (But.set_ (But.set_ ((but_below hB24 (Nat.le_refl _)).drewN _) (by dsimp only; omega) _) (by dsimp only; omega) _) (by dsimp only; omega) _
          have R5 := ((P4.fr.drewN nq).two (y0 := .slice none 0 0) (y1 := .slice none 0 0)).far (p := ⟨w.heap.size + 1 + 1 + 1 + 1, 0, none⟩) (by simp) (.int .i64 11)
          have E5 := (((P4.fe.drewN nq).far (p := ⟨w.heap.size + 1 + 1 + 1, 0, none⟩) (by simp) (.slice none 0 0)).far (p := ⟨w.heap.size + 1 + 1 + 1, 1, none⟩) (by simp) (.slice none 0 0)).one (y := .int .i64 11)
          have hbel : Below w.heap.size w ((((X4.drewN nq).setCell ⟨w.heap.size + 1 + 1 + 1, 0, none⟩ (.slice none 0 0)).setCell ⟨w.heap.size + 1 + 1 + 1, 1, none⟩ (.slice none 0 0)).setCell ⟨w.heap.size + 1 + 1 + 1 + 1, 0, none⟩ (.int .i64 11)) := by
            have := P4.bel
            (repeat' (first | with_reducible assumption | with_reducible exact Below.refl _ _ | with_reducible refine Below.drew ?_ | with_reducible refine below_drewN ?_ _ | with_reducible refine balloc ?_ _ | with_reducible refine bset ?_ ?_ _ | with_reducible refine Below.setCell ?_ ?_ _ | with_reducible refine Below.alloc ?_ ?_ _ | omega | (simp; done) | (simp; omega)))
          exact ⟨_, hbt, Grw.refl _ _, rfl, rfl, R5, E5, ⟨x, by simp, by simp [bOn, HON.out], by rw [HX.out]; exact HBAD.out.1, by rw [HX.out]; exact HBAD.out.2⟩, hbel, by omega, by have := hbt.size; omega⟩
  case hdone =>
    rintro Dd C X hDd hnD ⟨rfl, hp, hgood, hz⟩ hbut hgC hdef
    simp at hDd
    have r0 := hp.fr.at_ 0 rfl; have r1 := hp.fr.at_ 1 rfl; have rf := hp.fr.free
    have e0 := hp.fe.at_ 0 rfl; have ef := hp.fe.free
    have o0 := hp.fo.at_ 0 rfl; have o1 := hp.fo.at_ 1 rfl
    have lr := hp.fr.lt; have le := hp.fe.lt
    have herr : lErr wide high body B L = 0 := by unfold lErr; rw [if_neg]; rintro ⟨b, hb, h⟩; exact hgood b hb h
    have hlen : lLen wide high body B L n = n := by unfold lLen; rw [if_neg]; rintro ⟨b, hb, h⟩; exact hgood b hb h
    have HR := hid herr; have HL := hid hlen; clear herr hlen
    gi_wp2
    have hd1 : ((((X.setCell ⟨w.heap.size + 1 + 1 + 1, 0, none⟩ (.slice (some ⟨gk, 0, none⟩) n ck')).setCell ⟨w.heap.size + 1 + 1 + 1, 1, none⟩ (.slice (some ⟨gb, 0, none⟩) n cb')).setCell ⟨w.heap.size + 1 + 1 + 1 + 1, 0, none⟩ (.int .i64 0))).heap[Dd]? = some (.deferred (some [])) := by
      rw [Below.heap_setCell _ _ _ _ (by dsimp only; omega), Below.heap_setCell _ _ _ _ (by dsimp only; omega), Below.heap_setCell _ _ _ _ (by dsimp only; omega)]
      exact hdef
    have hbp := but_putObj (((X.setCell ⟨w.heap.size + 1 + 1 + 1, 0, none⟩ (.slice (some ⟨gk, 0, none⟩) n ck')).setCell ⟨w.heap.size + 1 + 1 + 1, 1, none⟩ (.slice (some ⟨gb, 0, none⟩) n cb')).setCell ⟨w.heap.size + 1 + 1 + 1 + 1, 0, none⟩ (.int .i64 0)) Dd (.deferred none)
    have R5 := ((hp.fr.two (y0 := .slice (some ⟨gk, 0, none⟩) n ck') (y1 := .slice (some ⟨gb, 0, none⟩) n cb')).far (p := ⟨w.heap.size + 1 + 1 + 1 + 1, 0, none⟩) (by simp) (.int .i64 0)).but hbp (by omega)
    have E5 := (((hp.fe.far (p := ⟨w.heap.size + 1 + 1 + 1, 0, none⟩) (by simp) (.slice (some ⟨gk, 0, none⟩) n ck')).far (p := ⟨w.heap.size + 1 + 1 + 1, 1, none⟩) (by simp) (.slice (some ⟨gb, 0, none⟩) n cb')).one (y := .int .i64 0)).but hbp (by omega)
    have K5 := (((hp.fk.far (p := ⟨w.heap.size + 1 + 1 + 1, 0, none⟩) (by simp; omega) (.slice (some ⟨gk, 0, none⟩) n ck')).far (p := ⟨w.heap.size + 1 + 1 + 1, 1, none⟩) (by simp; omega) (.slice (some ⟨gb, 0, none⟩) n cb')).far (p := ⟨w.heap.size + 1 + 1 + 1 + 1, 0, none⟩) (by simp; omega) (.int .i64 0)).but hbp (by omega)
    have L5 := (((hp.fl.far (p := ⟨w.heap.size + 1 + 1 + 1, 0, none⟩) (by simp; omega) (.slice (some ⟨gk, 0, none⟩) n ck')).far (p := ⟨w.heap.size + 1 + 1 + 1, 1, none⟩) (by simp; omega) (.slice (some ⟨gb, 0, none⟩) n cb')).far (p := ⟨w.heap.size + 1 + 1 + 1 + 1, 0, none⟩) (by simp; omega) (.int .i64 0)).but hbp (by omega)
    have B5 : Below w.heap.size w (((X.setCell ⟨w.heap.size + 1 + 1 + 1, 0, none⟩ (.slice (some ⟨gk, 0, none⟩) n ck')).setCell ⟨w.heap.size + 1 + 1 + 1, 1, none⟩ (.slice (some ⟨gb, 0, none⟩) n cb')).setCell ⟨w.heap.size + 1 + 1 + 1 + 1, 0, none⟩ (.int .i64 0)) := by
      have := hp.bel
      (repeat' (first | with_reducible assumption | with_reducible exact Below.refl _ _ | with_reducible refine Below.drew ?_ | with_reducible refine below_drewN ?_ _ | with_reducible refine balloc ?_ _ | with_reducible refine bset ?_ ?_ _ | with_reducible refine Below.setCell ?_ ?_ _ | with_reducible refine Below.alloc ?_ ?_ _ | omega | (simp; done) | (simp; omega)))
    have B6 := B5.trans (⟨hbp.os, hbp.tape, hbp.output, hbp.size, fun b hb => hbp.block b (by have := B5.size; omega) (by omega)⟩ : Below w.heap.size _ _)
    have c0 := R5.at_ 0 rfl; have c1 := R5.at_ 1 rfl; have c2 := E5.at_ 0 rfl
    refine ⟨by simp, .inl ⟨_, _, rfl, run_takeDeferred hd1, ?_⟩⟩
    refine ⟨.tuple #[.agg #[.slice (some ⟨gk, 0, none⟩) n ck', .slice (some ⟨gb, 0, none⟩) n cb'], .int .i64 0], by simp [results, Try.results79, go_sem, c0, c1, c2], ?_⟩
    rw [HR.out, HL.out]
    exact ⟨_, _, _, _, rfl, K5.sl, L5.sl, B6⟩
  case hstop =>
    rintro Dd c pre C X hDd hnD hpre ⟨rfl, rfl, hr, he, ⟨bb, hbb, hbad⟩, hbel, hm4, hz⟩ hbut hgC hdef
    simp at hDd
    have hmem : bb ∈ L := by obtain ⟨t, ht⟩ := hpre; rw [← ht]; exact List.mem_append.2 (.inl hbb)
    have herr : lErr wide high body B L = 11 := by unfold lErr; rw [if_pos ⟨bb, hmem, hbad⟩]
    have hlen : lLen wide high body B L n = 0 := by unfold lLen; rw [if_pos ⟨bb, hmem, hbad⟩]
    have HR := hid herr; have HL := hid hlen; clear herr hlen hbad
    gi_wp2
    have hbp := but_putObj X Dd (.deferred none)
    have c0 := (hr.but hbp (by omega)).at_ 0 rfl; have c1 := (hr.but hbp (by omega)).at_ 1 rfl; have c2 := (he.but hbp (by omega)).at_ 0 rfl
    have B6 := hbel.trans (⟨hbp.os, hbp.tape, hbp.output, hbp.size, fun b hb => hbp.block b (by have := hbel.size; omega) (by omega)⟩ : Below w.heap.size _ _)
    refine ⟨by simp, .inl ⟨_, _, rfl, run_takeDeferred hdef, ?_⟩⟩
    refine ⟨.tuple #[.agg #[.slice none 0 0, .slice none 0 0], .int .i64 11], by simp [results, Try.results79, go_sem, c0, c1, c2], ?_⟩
    rw [HR.out, HL.out]
    exact wallPost_none B6
end Go.Proofs.Ytnnaegnkkpknpaa
