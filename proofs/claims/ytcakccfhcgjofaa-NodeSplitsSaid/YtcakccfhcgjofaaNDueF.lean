/- Walks: Due, of the program and of the reference; equal notes. -/
import Derived.Test.YtcakccfhcgjofaaNCollect
import Derived.Test.YtcakccfhcgjofaaNRefDue
namespace Go.Proofs.Ytcakccfhcgjofaa
open Go Go.RowKit
set_option linter.unusedVariables false
/-- does the node own a cell? -/
def hasB (o : Nat → Int) (n : Nat) (nd : Int) : Bool := !(ownL o nd n).isEmpty
theorem hasB_iff {o : Nat → Int} {n : Nat} {nd : Int} : hasB o n nd = true ↔ ∃ k, k < n ∧ o k = nd := by
  unfold hasB
  rw [Bool.not_eq_true', ← Bool.not_eq_true, List.isEmpty_iff, ownL_nil]
  constructor
  · intro h
    exact Classical.byContradiction fun hc => h fun k hk e => hc ⟨k, hk, e⟩
  · rintro ⟨k, hk, e⟩ h
    exact h k hk e
theorem contains_has {o : Nat → Int} {n : Nat} {nd : Int} : ((ownersL o n).take n).contains nd = hasB o n nd := by
  rw [List.take_of_length_le (by simp [ownersL]), Bool.eq_iff_iff, hasB_iff]
  simp [ownersL]
theorem hasB_len {o : Nat → Int} {n : Nat} {nd : Int} : (((ownL o nd n).length : Int) == 0) = !hasB o n nd := by
  unfold hasB
  cases ownL o nd n with
  | nil => rfl
  | cons x l => simp; omega
def dueE (v h r : Bool) : Int := if v = true then (if h = true then (if r = true then 0 else 7) else 5) else 1
def dueX (wide high : Int) (no : Nat) (o : Nat → Int) (nd st : Int) (er : Int) : List N6 := if er = 0 then dueL wide.toNat high.toNat o nd st no else []
theorem dueE_zero {v h r : Bool} (e : dueE v h r = 0) : v = true ∧ h = true ∧ r = true := by
  unfold dueE at e
  cases v <;> cases h <;> cases r <;> simp at e ⊢
/-- a list of notes and an error -/
def NotePost (xs : List N6) (err : Int) (w : World) (e : Ending) (w' : World) : Prop :=
  ∃ a c, e = .returned (.tuple #[.slice a xs.length c, .int .i64 err]) ∧ Sn w' a xs.length (fun k => xs.getD k N6.zero) ∧ Below w.heap.size w w'
theorem notePost_nil {w w' : World} {xs : List N6} {err e0 : Int} (hx : xs = []) (he : err = e0) (hb : Below w.heap.size w w') : NotePost xs err w (.returned (.tuple #[.slice none 0 0, .int .i64 e0])) w' := by
  subst hx; subst he; exact ⟨none, 0, rfl, fun k hk => absurd hk (by simp), hb⟩
theorem notePost_own {w w' : World} {base : Nat} {v : Value} {xs ys : List N6} {err : Int} (h : OwnN w' base v ys) (hx : xs = ys) (he : err = 0) (hb : Below w.heap.size w w') : NotePost xs err w (.returned (.tuple #[v, .int .i64 0])) w' := by
  subst hx; subst he
  obtain ⟨a, c, rfl, hs⟩ := sn_of_own h
  exact ⟨a, c, rfl, hs, hb⟩
theorem notes_Collect (gf : Nat) (lb : Array Value) (L : List N6) (w : World) (eg : ∀ args w, (callFunc gf args).run Try.prog w = .ok (.enter gf args) w) (hit : Iter Try.prog gf lb encN L w) (hl : L.length ≤ 1000000) :
    Calls Try.prog 48 #[.func (.func gf) #[] lb] w fun e w' => ∃ v, e = .returned v ∧ OwnN w' w.heap.size v L ∧ Below w.heap.size w w' := by
  have h := notes_AppendSeq gf lb L w eg hit hl
  go_enter Try.func48, Try.ntmps48
  go_wp2_with fail
  refine h.mono ?_
  rintro e w1 ⟨v, rfl, hown, hb⟩
  go_wp2
  go_ret
  exact ⟨_, rfl, hown, hb⟩
theorem ints_Contains (a : Option Addr) (n c : Nat) (o : Nat → Int) (nd : Int) (w : World) (h0 : 0 < n) (hn : n ≤ 100000000) (HO : Sl w a n o) :
    Calls Try.prog 47 #[.slice a n c, .int .i64 nd] w fun e w' => e = .returned (.bool (hasB o n nd)) ∧ w = w' := by
  obtain ⟨b, off, rfl, _, _⟩ := HO 0 h0
  have h := Try.slices_Contains_int b off n c (ownersL o n) nd w (by rw [ownersL_length]; exact Nat.le_refl _) (by omega) (fun j hj => by
    rw [ownersL_length] at hj
    obtain ⟨b', off', e, _, hc⟩ := HO j hj
    injection e with e; injection e with e1 e2 _
    subst e1 e2
    rw [ownersL_get _ _ _ hj]; exact hc)
  rw [contains_has] at h
  exact h.mono fun e w' ⟨h1, h2⟩ => ⟨h1, h2.symm⟩
set_option maxRecDepth 100000 in
set_option maxHeartbeats 2000000 in
theorem node_Due (wide high nd st : Int) (a ao : Option Addr) (n no c co : Nat) (g : Nat → C4) (o : Nat → Int) (w : World) (hn : n ≤ 100000000) (hno : no ≤ 100000000) (H : Sc w a n g) (HO : Sl w ao no o) :
    Calls Try.prog 16 #[.agg #[.int .i64 wide, .int .i64 high, .slice a n c], .slice ao no co, .int .i64 nd, .int .i64 st] w
      (NotePost (dueX wide high no o nd st (dueE (validM wide high n g no o) (hasB o no nd) (within st 1 1000000))) (dueE (validM wide high n g no o) (hasB o no nd) (within st 1 1000000)) w) := by
  have I := H.alloc (.cells #[.int .i64 wide, .int .i64 high, .slice a n c] 24)
  have IO := HO.alloc (.cells #[.int .i64 wide, .int .i64 high, .slice a n c] 24)
  have X := Bx.new w #[.int .i64 wide, .int .i64 high, .slice a n c] 24
  cases hv : validM wide high n g no o
  · go_enter Try.func16, Try.ntmps16
    go_wp2_with (go_at_call 14; refine (node_ValidMap wide high _ _ n no _ _ g o _ hn hno I IO).mono ?_; rintro e w1 ⟨rfl, hb1⟩; rw [hv])
    go_ret2
    exact notePost_nil (by simp [dueX, dueE]) (by simp [dueE]) (bvia (by (repeat' (first | with_reducible assumption | with_reducible exact Below.refl _ _ | with_reducible refine Below.drew ?_ | with_reducible refine below_drewN ?_ _ | with_reducible refine balloc ?_ _ | with_reducible refine bset ?_ ?_ _ | with_reducible refine Below.setCell ?_ ?_ _ | with_reducible refine Below.alloc ?_ ?_ _ | omega | (simp; done) | (simp; omega)))) hb1)
  obtain ⟨Wd, Hd, rfl, rfl, p1, p2, u1, u2, hnn, hn4, hoo, hob, _, _⟩ := validM_sides hv
  have h0 : 0 < no := by rw [hoo, hnn]; exact Nat.mul_pos p1 u1
  have hco := fun W S => ints_Contains ao no co o nd W h0 hno S
  have HNW : Hid (no = Wd * Hd) := hid (by omega)
  have hno4 : no ≤ 1024 := by omega
  clear hnn hoo hob
  cases hh : hasB o no nd
  · rw [hh] at hco
    go_enter Try.func16, Try.ntmps16
    go_wp2_with fail
    refine (node_ValidMap _ _ _ _ n no _ _ g o _ hn hno I IO).mono ?_
    rintro e w1 ⟨rfl, hb1⟩
    rw [hv]
    go_wp2_with fail
    refine (hco _ (IO.below hb1)).mono ?_
    rintro e w2 ⟨rfl, rfl⟩
    go_wp2
    go_ret2
    exact notePost_nil (by simp [dueX, dueE]) (by simp [dueE]) (bvia (by (repeat' (first | with_reducible assumption | with_reducible exact Below.refl _ _ | with_reducible refine Below.drew ?_ | with_reducible refine below_drewN ?_ _ | with_reducible refine balloc ?_ _ | with_reducible refine bset ?_ ?_ _ | with_reducible refine Below.setCell ?_ ?_ _ | with_reducible refine Below.alloc ?_ ?_ _ | omega | (simp; done) | (simp; omega)))) hb1)
  rw [hh] at hco
  cases hr : within st 1 1000000
  · go_enter Try.func16, Try.ntmps16
    go_wp2_with fail
    refine (node_ValidMap _ _ _ _ n no _ _ g o _ hn hno I IO).mono ?_
    rintro e w1 ⟨rfl, hb1⟩
    rw [hv]
    go_wp2_with fail
    refine (hco _ (IO.below hb1)).mono ?_
    rintro e w2 ⟨rfl, rfl⟩
    go_wp2_with (go_at_call 42; refine (node_within _ _ _ _).mono ?_; rintro e w' ⟨rfl, rfl⟩; rw [hr])
    go_ret2
    exact notePost_nil (by simp [dueX, dueE]) (by simp [dueE]) (bvia (by (repeat' (first | with_reducible assumption | with_reducible exact Below.refl _ _ | with_reducible refine Below.drew ?_ | with_reducible refine below_drewN ?_ _ | with_reducible refine balloc ?_ _ | with_reducible refine bset ?_ ?_ _ | with_reducible refine Below.setCell ?_ ?_ _ | with_reducible refine Below.alloc ?_ ?_ _ | omega | (simp; done) | (simp; omega)))) hb1)
  · go_enter Try.func16, Try.ntmps16
    go_wp2_with fail
    refine (node_ValidMap _ _ _ _ n no _ _ g o _ hn hno I IO).mono ?_
    rintro e w1 ⟨rfl, hb1⟩
    rw [hv]
    have X1 := X.below hb1
    have x0 := X1.at_ 0 rfl; have x1 := X1.at_ 1 rfl; have x2 := X1.at_ 2 rfl; have lx := X1.lt
    have hB1 : Below w.heap.size w w1 := bvia (by (repeat' (first | with_reducible assumption | with_reducible exact Below.refl _ _ | with_reducible refine Below.drew ?_ | with_reducible refine below_drewN ?_ _ | with_reducible refine balloc ?_ _ | with_reducible refine bset ?_ ?_ _ | with_reducible refine Below.setCell ?_ ?_ _ | with_reducible refine Below.alloc ?_ ?_ _ | omega | (simp; done) | (simp; omega)))) hb1
    have J := IO.below hb1
    have hdu := node_due (Wd : Int) (Hd : Int) a ao n c no co nd st w1
    unfold cluV at hdu
    go_wp2_with fail
    refine (hco _ J).mono ?_
    rintro e w2 ⟨rfl, rfl⟩
    clear hco
    go_wp2_with (go_at_call 42; refine (node_within _ _ _ _).mono ?_; rintro e w' ⟨rfl, rfl⟩; rw [hr])
    refine hdu.mono ?_
    rintro e w2 ⟨bc, bn, bs, rfl, Zc, Zn, Zs, _, hb2⟩
    clear hdu x0 x1 x2
    have hcl := notes_Collect _ _ _ w2 ent_due (due_iter Wd Hd a ao n c no co o nd st bc bn bs w2 ⟨p1, p2⟩ ⟨u1, u2⟩ HNW.out Zc Zn Zs (J.below hb2)) (by have := dueL_length Wd Hd o nd st no; omega)
    go_wp2_with fail
    refine hcl.mono ?_
    rintro e w3 ⟨v, rfl, hown, hb3⟩
    go_wp2
    go_ret2
    exact notePost_own hown (by simp [dueX, dueE]) (by simp [dueE]) (bvia (bvia hB1 hb2) hb3)
set_option maxRecDepth 100000 in
set_option maxHeartbeats 2000000 in
theorem ref5_Due (wide high nd st : Int) (a ao : Option Addr) (n no c co : Nat) (g : Nat → C4) (o : Nat → Int) (w : World) (hn : n ≤ 100000000) (hno : no ≤ 100000000) (H : Sc w a n g) (HO : Sl w ao no o) :
    Calls Try.prog 17 #[.agg #[.int .i64 wide, .int .i64 high, .slice a n c], .slice ao no co, .int .i64 nd, .int .i64 st] w
      (NotePost (dueX wide high no o nd st (dueE (validM wide high n g no o) (hasB o no nd) (within st 1 1000000))) (dueE (validM wide high n g no o) (hasB o no nd) (within st 1 1000000)) w) := by
  have I := H.alloc (.cells #[.int .i64 wide, .int .i64 high, .slice a n c] 24)
  have IO := HO.alloc (.cells #[.int .i64 wide, .int .i64 high, .slice a n c] 24)
  have X := Bx.new w #[.int .i64 wide, .int .i64 high, .slice a n c] 24
  cases hv : validM wide high n g no o
  · go_enter Try.func17, Try.ntmps17
    go_wp2_with (go_at_call 34; refine (ref5_ValidMap wide high _ _ n no _ _ g o _ hn hno I IO).mono ?_; rintro e w1 ⟨rfl, hb1⟩; rw [hv])
    go_ret2
    exact notePost_nil (by simp [dueX, dueE]) (by simp [dueE]) (bvia (by (repeat' (first | with_reducible assumption | with_reducible exact Below.refl _ _ | with_reducible refine Below.drew ?_ | with_reducible refine below_drewN ?_ _ | with_reducible refine balloc ?_ _ | with_reducible refine bset ?_ ?_ _ | with_reducible refine Below.setCell ?_ ?_ _ | with_reducible refine Below.alloc ?_ ?_ _ | omega | (simp; done) | (simp; omega)))) hb1)
  obtain ⟨Wd, Hd, rfl, rfl, p1, p2, u1, u2, hnn, hn4, hoo, hob, _, _⟩ := validM_sides hv
  have HNW : Hid (no = Wd * Hd) := hid (by omega)
  have hno4 : no ≤ 1024 := by omega
  have hlen := hasB_len (o := o) (n := no) (nd := nd)
  have hol := ownL_length o nd no
  clear hnn hoo hob
  go_enter Try.func17, Try.ntmps17
  go_wp2_with fail
  refine (ref5_ValidMap _ _ _ _ n no _ _ g o _ hn hno I IO).mono ?_
  rintro e w1 ⟨rfl, hb1⟩
  rw [hv]
  have X1 := X.below hb1
  have hB1 : Below w.heap.size w w1 := bvia (by (repeat' (first | with_reducible assumption | with_reducible exact Below.refl _ _ | with_reducible refine Below.drew ?_ | with_reducible refine below_drewN ?_ _ | with_reducible refine balloc ?_ _ | with_reducible refine bset ?_ ?_ _ | with_reducible refine Below.setCell ?_ ?_ _ | with_reducible refine Below.alloc ?_ ?_ _ | omega | (simp; done) | (simp; omega)))) hb1
  have J := IO.below hb1
  go_wp2_with fail
  refine (ref5_own ao no co o nd w1 hno J).mono ?_
  rintro e w2 ⟨v, rfl, hown, hb2⟩
  obtain ⟨av, cv, rfl, _⟩ := sl_of_own hown
  have hB2 := bvia hB1 hb2
  have X2 := X1.below hb2
  have J2 := J.below hb2
  clear hown X1 hB1 J hb1 hb2
  cases hh : hasB o no nd
  · have HH := hid hh
    rw [hh] at hlen
    generalize (ownL o nd no).length = ln at *
    go_wp2
    go_ret2
    exact notePost_nil (by simp [dueX, dueE, HH.out]) (by simp [dueE, HH.out]) hB2
  have HH := hid hh
  rw [hh] at hlen
  generalize (ownL o nd no).length = ln at *
  cases hr : within st 1 1000000
  · have HR := hid hr
    go_wp2_with (go_at_call 44; refine (ref5_within _ _ _ _).mono ?_; rintro e w' ⟨rfl, rfl⟩; rw [hr])
    go_ret2
    exact notePost_nil (by simp [dueX, dueE, HH.out, HR.out]) (by simp [dueE, HH.out, HR.out]) hB2
  · have HR := hid hr
    have x0 := X2.at_ 0 rfl; have x1 := X2.at_ 1 rfl; have x2 := X2.at_ 2 rfl; have lx := X2.lt
    go_wp2_with (go_at_call 44; refine (ref5_within _ _ _ _).mono ?_; rintro e w' ⟨rfl, rfl⟩; rw [hr])
    refine (ref5_due Wd Hd a ao n c no co o nd st w2 ⟨p1, p2⟩ ⟨u1, u2⟩ HNW.out J2).mono ?_
    rintro e w3 ⟨v, rfl, hown, hb3⟩
    go_wp2
    go_ret2
    exact notePost_own hown (by simp [dueX, dueE, HH.out, HR.out]) (by simp [dueE, HH.out, HR.out]) (bvia hB2 hb3)
end Go.Proofs.Ytcakccfhcgjofaa
