/- Walk: the notes that are due, of the reference. Walks: the notes that an iterator yields, as a list. Walks: Due, of the program and of the reference; equal notes. -/
import Derived.Test.YtcakccfhcgjofaaGreatNNotes
import Derived.Test.YtcakccfhcgjofaaGreatNFrom
import Derived.Test.YtcakccfhcgjofaaGreatNDue
import Derived.Test.YtcakccfhcgjofaaGreatNNodes
import Derived.RangeFuncLeaves
import Derived.Maps.OwnIn
namespace Go.Proofs.YtcakccfhcgjofaaGreat
open Go Go.RowKit
set_option linter.unusedVariables false
set_option maxRecDepth 100000 in
set_option maxHeartbeats 4000000 in
theorem ref5_due (Wd Hd : Nat) (a ao : Option Addr) (n c no co : Nat) (o : Nat → Int) (nd st : Int) (w : World) (h1 : 1 ≤ Wd ∧ Wd ≤ 64) (h2 : 1 ≤ Hd ∧ Hd ≤ 64) (hno : no = Wd * Hd) (HO : Sl w ao no o) :
    Calls Tryz.prog 42 #[.agg #[.int .i64 (Wd : Int), .int .i64 (Hd : Int), .slice a n c], .slice ao no co, .int .i64 nd, .int .i64 st] w
      fun e w' => ∃ v, e = .returned v ∧ OwnN w' w.heap.size v (dueL Wd Hd o nd st no) ∧ Below w.heap.size w w' := by
  obtain ⟨i0, hi, hz0, hz1, hz2⟩ := info_parts infoN
  have hno4 : no ≤ 4096 := by
    have : Wd * Hd ≤ 64 * 64 := Nat.mul_le_mul h1.2 h2.2
    omega
  have HNO := hid hno; clear hno
  have HO1 := HO.alloc (.cells #[.int .i64 (Wd : Int), .int .i64 (Hd : Int), .slice a n c] 24)
  have X := Bx.new w #[.int .i64 (Wd : Int), .int .i64 (Hd : Int), .slice a n c] 24
  go_enter Tryz.func42, Tryz.ntmps42
  go_wp2
  go_loopw [9, 10] (fun v i wr => ∃ k : Nat, k ≤ no ∧ i = .int .i64 k ∧ OwnN wr (w.heap.size + 1) v (dueL Wd Hd o nd st k) ∧ Below (w.heap.size + 1) (w.alloc (.cells #[.int .i64 (Wd : Int), .int .i64 (Hd : Int), .slice a n c] 24)) wr) (fun _ i _ => no - (intOf i).toNat)
  case atStart => exact ⟨0, Nat.zero_le _, rfl, ownN_nil _ _, Below.refl _ _⟩
  case round =>
    obtain ⟨wo, rfl⟩ : ∃ wo : World, wo = wr := ⟨_, rfl⟩
    obtain ⟨k, hk, rfl, hown, hb⟩ := hrel
    have J := HO1.below (by simpa using hb)
    have hbs := hb.size
    rw [World.size_alloc] at hbs
    by_cases hlt : k < no
    · obtain ⟨b1, o1, rfl, hb1, c1⟩ := J k hlt
      cases he : (o k != nd)
      · have he' : o k = nd := by simpa using he
        have hT : dueL Wd Hd o nd st (k + 1) = dueL Wd Hd o nd st k ++ dueC Wd Hd o nd st k 4 := by simp only [dueL, if_pos he']
        have HT := hid hT
        clear he' hT
        have hdl := dueL_length Wd Hd o nd st k
        go_wp2
        clear c1 J hb1
        go_loopw [9, 11] (fun v di wr => ∃ d : Nat, d ≤ 4 ∧ di = .int .i64 d ∧ OwnN wr (w.heap.size + 1) v (dueL Wd Hd o nd st k ++ dueC Wd Hd o nd st k d) ∧ Below (w.heap.size + 1) (w.alloc (.cells #[.int .i64 (Wd : Int), .int .i64 (Hd : Int), .slice a n c] 24)) wr) (fun _ di _ => 4 - (intOf di).toNat)
        case atStart => exact ⟨0, Nat.zero_le _, rfl, by simpa [dueC] using hown, hb⟩
        case round =>
          clear hown hb hbs
          obtain ⟨d, hd, rfl, hown, hb⟩ := hrel
          have hbs := hb.size
          rw [World.size_alloc] at hbs
          by_cases hd4 : d < 4
          · have hnb := nbT_lt (W := Wd) (H := Hd) (i := k) (by rw [← HNO.out]; exact hlt) hd4
            rw [← HNO.out] at hnb
            have hcf := ref2_From Wd Hd k d wr h1 h2 (by rw [← HNO.out]; exact hlt) hd4
            have hCs : dueC Wd Hd o nd st k (d + 1) = if o (nbT Wd Hd k d) = nd then dueC Wd Hd o nd st k d else dueC Wd Hd o nd st k d ++ [⟨st, o (nbT Wd Hd k d), nd, k, d, 0⟩] := rfl
            have HCS := hid hCs; clear hCs
            have hcl := dueC_length Wd Hd o nd st k d
            have Xw := X.below (by simpa using hb)
            have x0 := Xw.at_ 0 rfl; have x1 := Xw.at_ 1 rfl; have lx := Xw.lt
            generalize nbT Wd Hd k d = m at *
            obtain ⟨b2, o2, e2, hb2, co0⟩ := (HO1.below (w' := wr) (by simpa using hb)) m hnb
            injection e2 with e2; injection e2 with e2 e3 _
            subst e2 e3
            go_wp2_with fail
            refine hcf.mono ?_
            rintro e w8 ⟨rfl, hb8⟩
            have co8 := (bcell hb8 _ _ hb2).trans co0
            have hb9 : Below (w.heap.size + 1) (w.alloc (.cells #[.int .i64 (Wd : Int), .int .i64 (Hd : Int), .slice a n c] 24)) w8 := hb.trans (hb8.mono hbs)
            have hown8 : w8.ownsRow (w.heap.size + 1) 80 6 _ _ _ := own_below hown hb8
            have hs8 := hb8.size
            have lb8 : b1 < w8.heap.size := by omega
            clear hcf x0 x1 co0
            obtain ⟨om, hom⟩ : ∃ x, x = o m := ⟨_, rfl⟩
            rw [← hom] at co8
            have HOM := hid hom; clear hom
            cases hq : (om != nd)
            · have hq' : om = nd := by simpa using hq
              have HQ := hid hq'; clear hq'
              go_wp2_with fail
              go_roundw
              case rel => exact ⟨d + 1, by omega, by go_num, by rw [HCS.out, ← HOM.out, if_pos HQ.out]; exact hown8, hb9⟩
              case measure => simp [intOf]; omega
            · have hq' : ¬ om = nd := by simpa using hq
              have HQ := hid hq'; clear hq'
              go_wp2_with (at_builtin; refine wpList_append_own _ rfl _ _ 29 rfl (w.heap.size + 1) 80 i0 _ 6 48 Tryz.underlying29 hi hz0 hz1 hz2 rfl (by decide) _ _ _ rfl (hown8.alloc _) ⟨w8.heap.size, 0, none⟩ 1 1 (N6.list ⟨st, om, nd, k, d, 0⟩) rfl rfl (cells_new _ _ _) (n6_one _) (by simp [maxLen]; omega) (by simp; omega) (by simp; omega) ?_; intro v' w9 hown' hgrow _)
              go_roundw
              case rel => exact ⟨d + 1, by omega, by go_num, by rw [HCS.out, ← HOM.out, if_neg HQ.out, ← List.append_assoc]; exact ownN_snoc hown', (hb9.alloc (by omega) _).grown hgrow (by simp; omega) (own_base hown8)⟩
              case measure => simp [intOf]; omega
          · obtain rfl : d = 4 := (by omega)
            go_wp2
            go_roundw
            case rel => exact ⟨k + 1, by omega, by go_num, by rw [HT.out]; exact hown, hb⟩
            case measure => simp [intOf]; omega
      · have he' : ¬ o k = nd := by simpa using he
        have hT : dueL Wd Hd o nd st (k + 1) = dueL Wd Hd o nd st k := by simp only [dueL, if_neg he']
        have HT := hid hT
        clear he' hT
        go_wp2
        go_roundw
        case rel => exact ⟨k + 1, by omega, by go_num, by rw [HT.out]; exact hown, hb⟩
        case measure => simp [intOf]; omega
    · obtain rfl : k = no := (by omega)
      go_wp2
      go_ret
      exact ⟨_, rfl, own_mono hown (by omega), (below_alloc w _).trans (hb.mono (by omega))⟩
end Go.Proofs.YtcakccfhcgjofaaGreat
namespace Go.Proofs.YtcakccfhcgjofaaGreat
open Go Go.RowKit
attribute [local go_sem] Oper.semAt_some
set_option linter.unusedVariables false
theorem ownN_but {C : Nat → Prop} {X Y : World} {base : Nat} {v : Value} {xs : List N6} (h : OwnN X base v xs) (hb : But C X Y) (hne : ∀ g, v.ownBlock = some g → ¬ C g) : OwnN Y base v xs := own_butN h hb hne
theorem own_sliceN {w : World} {base : Nat} {e : TypeId} {size n : Nat} {v : Value} {xs : List Value} (h : w.ownsRow base e size v n xs) : ∃ a k c, v = .slice a k c := by
  rcases h.2 with ⟨rfl, _⟩ | ⟨g', cap, cur, rfl, _⟩
  · exact ⟨_, _, _, rfl⟩
  · exact ⟨_, _, _, rfl⟩
/-- the word between two rounds -/
structure SeqW (bo n₀ : Nat) (pre : List N6) (C : Nat → Prop) (X : World) (v : Value) : Prop where
  foot : C = fun b => b = bo ∨ v.ownBlock = some b
  box : Bx X bo #[v]
  own : OwnN X n₀ v pre
theorem seqW_stab {bo n₀ n₁ : Nat} : Stab n₁ (fun pre C X => ∃ v, SeqW bo n₀ pre C X v) := by
  rintro pre C A B ⟨v, h⟩ hb
  have hf := h.foot
  subst hf
  exact ⟨v, rfl, h.box.but hb (fun h' => h'.2 (.inl rfl)), ownN_but h.own hb (fun g hg h' => h'.2 (.inr hg))⟩
theorem but_grownN {C : Nat → Prop} {X Y Z : World} {row : Option Nat} (h : But C X Y) (hg : Y.grownBy Z row) (hr : ∀ g, row = some g → C g) : But C X Z :=
  ⟨hg.os.trans h.os, hg.tape.trans h.tape, hg.output.trans h.output, Nat.le_trans h.size hg.size, fun b hb hc => (hg.block b (Nat.lt_of_lt_of_le hb h.size) (fun e => hc (hr b e.symm))).trans (h.block b hb hc)⟩
set_option maxRecDepth 100000 in
set_option maxHeartbeats 4000000 in
theorem notes_AppendSeq (gf : Nat) (lb : Array Value) (L : List N6) (w : World) (eg : ∀ args w, (callFunc gf args).run Tryz.prog w = .ok (.enter gf args) w) (hit : Iter Tryz.prog gf lb encN L w) (hl : L.length ≤ 1000000) :
    Calls Tryz.prog 79 #[.slice none 0 0, .func (.func gf) #[] lb] w fun e w' => ∃ v, e = .returned v ∧ OwnN w' w.heap.size v L ∧ Below w.heap.size w w' := by
  obtain ⟨i0, hi, hz0, hz1, hz2⟩ := info_parts infoN
  refine callsIn_wide.1 (callsIn_of_wp_marks (F := Fence.wide) (n := 0) Tryz.func79 rfl trivial ?_ rfl)
  simp only [Tryz.ntmps79, List.size_toArray, List.length_cons, List.length_nil, Nat.reduceAdd, Nat.reduceSub, Array.replicate_succ, Array.replicate_zero, List.push_toArray, List.append_toArray, List.nil_append, List.cons_append]
  have X0 := Bx.new w #[.slice none 0 0] 29
  have hB0 := below_alloc w (.cells #[.slice none 0 0] 29)
  gi_wp2_with fail
  refine wp_range rfl eg hit hB0 (fun _ => rfl) (fun pre C X => ∃ v, SeqW w.heap.size (w.heap.size + 1) pre C X v) (fun _ _ _ _ => False)
    (fun b => b = w.heap.size ∨ (Value.slice none 0 0).ownBlock = some b) ?hC seqW_stab (fun c => fun _ _ _ _ h => h.elim) ⟨_, rfl, X0, ownN_nil _ _⟩ ?hround ?hdone ?hstop
  case hC =>
    rintro pre C X ⟨v, h⟩ b hb
    have l1 := h.box.lt
    rw [h.foot] at hb
    rcases hb with rfl | hb
    · omega
    · have := own_base h.own b hb; have := own_lt h.own b hb; omega
  case hround =>
    rintro l pre x C X hlw hl' hnl ⟨rec2, hrec2⟩ ⟨v, h⟩ hX hgC hpre
    unfold Round
    dsimp only [encN]
    gi_wp2_with fail
    refine ⟨below_alloc _ _, ?_⟩
    intro X₂ hb2 hs2 r2
    have hf := h.foot
    subst hf
    have l1 := h.box.lt
    have hl0 : l ≠ w.heap.size ∧ v.ownBlock ≠ some l := ⟨fun e => hnl (.inl e), fun e => hnl (.inr e)⟩
    obtain ⟨n1, n2⟩ := hl0
    have Xo := (h.box.alloc (.cells #[.int .i64 x.st, .int .i64 x.fr, .int .i64 x.to, .int .i64 x.ce, .int .i64 x.di, .int .i64 x.co] 80)).but hb2 (fun e => n1 e.symm)
    have Xx := (Bx.new X #[.int .i64 x.st, .int .i64 x.fr, .int .i64 x.to, .int .i64 x.ce, .int .i64 x.di, .int .i64 x.co] 80).but hb2 (fun e => by omega)
    have hown : OwnN X₂ (w.heap.size + 1) v pre := ownN_but (own_below h.own (below_alloc _ _)) hb2 (fun g hg e => n2 (by rw [← e]; exact hg))
    have hpl := hpre.length_le
    simp only [List.length_append, List.length_cons, List.length_nil] at hpl
    have x0 := Xo.at_ 0 rfl; have xf := Xo.free; have xl := Xo.lt
    have y0 := Xx.at_ 0 rfl; have y1 := Xx.at_ 1 rfl; have y2 := Xx.at_ 2 rfl; have y3 := Xx.at_ 3 rfl; have y4 := Xx.at_ 4 rfl; have y5 := Xx.at_ 5 rfl; have yl := Xx.lt
    have hob := own_base hown
    have hol := own_lt hown
    have hown' := hown.alloc (.cells #[.int .i64 x.st, .int .i64 x.fr, .int .i64 x.to, .int .i64 x.ce, .int .i64 x.di, .int .i64 x.co] 80)
    clear h n1 n2 hb2 hs2 r2 hnl hgC hX hpre hrec2
    gi_wp2_with (gi_at_builtin; refine wpListIn_append_own_at _ rfl _ _ 29 rfl (w.heap.size + 1) 80 i0 _ 6 48 Tryz.underlying29 hi hz0 hz1 hz2 rfl (by decide) v _ _ rfl hown' ⟨X₂.heap.size, 0, none⟩ 1 1 x.list rfl rfl (cells_new _ _ _) (n6_one _) (by (try simp [maxLen]); omega) (by (try simp); omega) (by (try simp); omega) ?_; intro v' w5 hown5 hgr _ hat; obtain ⟨av, nv, cv, hv'⟩ := own_sliceN hown5; subst hv'; have hg5 : v.ownBlock ≠ some w.heap.size := (fun e => (by have := hob _ e; omega)); have Xo5 := (Xo.alloc (.cells #[.int .i64 x.st, .int .i64 x.fr, .int .i64 x.to, .int .i64 x.ce, .int .i64 x.di, .int .i64 x.co] 80)).grown hgr (fun e => hg5 e.symm); have z0 := Xo5.at_ 0 rfl; have zf := Xo5.free; have zl := Xo5.lt)
    have hC5 : But (fun b => b = w.heap.size ∨ v.ownBlock = some b) X₂ w5 := but_grownN ((But.refl _ X₂).alloc _) hgr (fun q hq => .inr hq)
    refine ⟨fun b => b = w.heap.size ∨ (Value.slice av nv cv).ownBlock = some b, hC5.set_ (.inl rfl) _, ?_, _, rfl, Xo5.set_ 0 (by simp) _, ?_⟩
    · rintro b (h | h)
      · exact .inl (.inl h)
      · rcases hat with h' | h'
        · exact .inl (.inr (by rw [← h']; exact h))
        · rw [h'] at h
          injection h with h
          simp at h
          exact .inr (by omega)
    · have h5 : OwnN w5 (w.heap.size + 1) (.slice av nv cv) (pre ++ [x]) := ownN_snoc hown5
      exact ownN_but h5 ((But.refl (fun b => b = w.heap.size) w5).set_ rfl _) (fun q hq e => by
        subst e
        have := own_base h5 _ hq; omega)
  case hdone =>
    rintro D C X hD hnD ⟨v, h⟩ hbut hgC hdef
    have hf := h.foot
    subst hf
    have x0 := h.box.at_ 0 rfl; have lx := h.box.lt
    have hs1 := hbut.size
    have hv0 : ∀ g, (Value.slice none 0 0).ownBlock = some g → False := fun g h => by cases h
    have hbel : Below w.heap.size w X := hB0.trans ⟨hbut.os, hbut.tape, hbut.output, hbut.size, fun b hb => hbut.block b (by simp; omega) (fun h => by
      rcases h with h | h
      · omega
      · exact hv0 b h)⟩
    have hbp := but_putObj X D (.deferred none)
    simp only [World.size_alloc] at hD
    have B6 := hbel.trans (⟨hbp.os, hbp.tape, hbp.output, hbp.size, fun b hb => hbp.block b (by have := hbel.size; omega) (by omega)⟩ : Below w.heap.size _ _)
    have O6 := ownN_but h.own hbp (fun g hg e => hnD (.inr (by rw [← e]; exact hg)))
    gi_wp2
    refine ⟨by simp, .inl ⟨_, _, rfl, run_takeDeferred hdef, ?_⟩⟩
    exact ⟨v, by simp [results, Tryz.results79, go_sem], v, rfl, own_mono O6 (by omega), B6⟩
  case hstop =>
    rintro Dd c pre C X hDd hnD hpre h
    exact h.elim
end Go.Proofs.YtcakccfhcgjofaaGreat
namespace Go.Proofs.YtcakccfhcgjofaaGreat
open Go Go.RowKit
set_option linter.unusedVariables false
/-- does the node own a cell? -/
def hasB (o : Nat → Int) (n : Nat) (nd : Int) : Bool := !(ownL o nd n).isEmpty
theorem hasB_iff {o : Nat → Int} {n : Nat} {nd : Int} : hasB o n nd = true ↔ ∃ k, k < n ∧ o k = nd := by
  unfold hasB
  rw [Bool.not_eq_true', ← Bool.not_eq_true, List.isEmpty_iff, ownL_nil]
  constructor
  · intro h
    exact Classical.byContradiction fun hc => h fun k hk e => hc ⟨k, hk, e⟩
  · rintro ⟨k, hk, e⟩ h
    exact h k hk e
theorem contains_has {o : Nat → Int} {n : Nat} {nd : Int} : ((ownersL o n).take n).contains nd = hasB o n nd := by
  rw [List.take_of_length_le (by simp [ownersL]), Bool.eq_iff_iff, hasB_iff]
  simp [ownersL]
theorem hasB_len {o : Nat → Int} {n : Nat} {nd : Int} : (((ownL o nd n).length : Int) == 0) = !hasB o n nd := by
  unfold hasB
  cases ownL o nd n with
  | nil => rfl
  | cons x l => simp; omega
def dueE (v h r : Bool) : Int := if v = true then (if h = true then (if r = true then 0 else 7) else 5) else 1
def dueX (wide high : Int) (no : Nat) (o : Nat → Int) (nd st : Int) (er : Int) : List N6 := if er = 0 then dueL wide.toNat high.toNat o nd st no else []
theorem dueE_zero {v h r : Bool} (e : dueE v h r = 0) : v = true ∧ h = true ∧ r = true := by
  unfold dueE at e
  cases v <;> cases h <;> cases r <;> simp at e ⊢
/-- a list of notes and an error -/
def NotePost (xs : List N6) (err : Int) (w : World) (e : Ending) (w' : World) : Prop :=
  ∃ a c, e = .returned (.tuple #[.slice a xs.length c, .int .i64 err]) ∧ Sn w' a xs.length (fun k => xs.getD k N6.zero) ∧ Below w.heap.size w w'
theorem notePost_nil {w w' : World} {xs : List N6} {err e0 : Int} (hx : xs = []) (he : err = e0) (hb : Below w.heap.size w w') : NotePost xs err w (.returned (.tuple #[.slice none 0 0, .int .i64 e0])) w' := by
  subst hx; subst he; exact ⟨none, 0, rfl, fun k hk => absurd hk (by simp), hb⟩
theorem notePost_own {w w' : World} {base : Nat} {v : Value} {xs ys : List N6} {err : Int} (h : OwnN w' base v ys) (hx : xs = ys) (he : err = 0) (hb : Below w.heap.size w w') : NotePost xs err w (.returned (.tuple #[v, .int .i64 0])) w' := by
  subst hx; subst he
  obtain ⟨a, c, rfl, hs⟩ := sn_of_own h
  exact ⟨a, c, rfl, hs, hb⟩
theorem notes_Collect (gf : Nat) (lb : Array Value) (L : List N6) (w : World) (eg : ∀ args w, (callFunc gf args).run Tryz.prog w = .ok (.enter gf args) w) (hit : Iter Tryz.prog gf lb encN L w) (hl : L.length ≤ 1000000) :
    Calls Tryz.prog 38 #[.func (.func gf) #[] lb] w fun e w' => ∃ v, e = .returned v ∧ OwnN w' w.heap.size v L ∧ Below w.heap.size w w' := by
  have h := notes_AppendSeq gf lb L w eg hit hl
  go_enter Tryz.func38, Tryz.ntmps38
  go_wp2_with fail
  refine h.mono ?_
  rintro e w1 ⟨v, rfl, hown, hb⟩
  go_wp2
  go_ret
  exact ⟨_, rfl, hown, hb⟩
theorem ints_Contains (a : Option Addr) (n c : Nat) (o : Nat → Int) (nd : Int) (w : World) (h0 : 0 < n) (hn : n ≤ 100000000) (HO : Sl w a n o) :
    Calls Tryz.prog 56 #[.slice a n c, .int .i64 nd] w fun e w' => e = .returned (.bool (hasB o n nd)) ∧ w = w' := by
  obtain ⟨b, off, rfl, _, _⟩ := HO 0 h0
  have h := Tryz.slices_Contains_int b off n c (ownersL o n) nd w (by rw [ownersL_length]; exact Nat.le_refl _) (by omega) (fun j hj => by
    rw [ownersL_length] at hj
    obtain ⟨b', off', e, _, hc⟩ := HO j hj
    injection e with e; injection e with e1 e2 _
    subst e1 e2
    rw [ownersL_get _ _ _ hj]; exact hc)
  rw [contains_has] at h
  exact h.mono fun e w' ⟨h1, h2⟩ => ⟨h1, h2.symm⟩
end Go.Proofs.YtcakccfhcgjofaaGreat
