/- Walks: find and ready, of the reference. Plain words and laws: the grid that is merged of sites and a post. No program in sight. -/
import Derived.Test.YtmmjaobpoiofdaaGreatNPost
import Derived.Test.YtmmjaobpoiofdaaGreatNDueF
import Derived.Test.YtmmjaobpoiofdaaGreatNValidS
namespace Go.Proofs.YtmmjaobpoiofdaaGreat
open Go Go.RowKit
set_option linter.unusedVariables false
set_option linter.unusedSimpArgs false
/-- the first of q notes at the place of x, or -1 -/
def FindP (p : Nat → N6) (x : N6) (q : Nat) (i : Int) : Prop := (i = -1 ∧ metB p x q = false) ∨ ∃ k : Nat, k < q ∧ i = k ∧ plcB (p k) x = true ∧ metB p x k = false
theorem FindP.sign {p : Nat → N6} {x : N6} {q : Nat} {i : Int} (h : FindP p x q i) : decide (i < 0) = !metB p x q := by
  rcases h with ⟨rfl, h⟩ | ⟨k, hk, rfl, h, _⟩
  · rw [h]; rfl
  · rw [metB_iff.2 ⟨k, hk, h⟩]; simp
set_option maxRecDepth 100000 in
set_option maxHeartbeats 4000000 in
theorem ref5_find (ap : Option Addr) (q cp : Nat) (p : Nat → N6) (x : N6) (w : World) (hq : q ≤ 100000000) (HP : Sn w ap q p) :
    Calls Tryz.prog 84 #[.slice ap q cp, .agg #[.int .i64 x.st, .int .i64 x.fr, .int .i64 x.to, .int .i64 x.ce, .int .i64 x.di, .int .i64 x.co]] w fun e w' => ∃ i, e = .returned (.int .i64 i) ∧ FindP p x q i ∧ Below w.heap.size w w' := by
  have X := Bx.new w #[.int .i64 x.st, .int .i64 x.fr, .int .i64 x.to, .int .i64 x.ce, .int .i64 x.di, .int .i64 x.co] 78
  have hB0 := below_alloc w (.cells #[.int .i64 x.st, .int .i64 x.fr, .int .i64 x.to, .int .i64 x.ce, .int .i64 x.di, .int .i64 x.co] 78)
  go_enter Tryz.func84, Tryz.ntmps84
  go_wp2
  go_loopw [5] (fun i wr => ∃ k : Nat, k ≤ q ∧ i = .int .i64 k ∧ metB p x k = false ∧ Bx wr w.heap.size #[.int .i64 x.st, .int .i64 x.fr, .int .i64 x.to, .int .i64 x.ce, .int .i64 x.di, .int .i64 x.co] ∧ Below w.heap.size w wr) (fun i _ => q - (intOf i).toNat)
  case atStart => exact ⟨0, Nat.zero_le _, rfl, rfl, X, hB0⟩
  case round =>
    obtain ⟨k, hk, rfl, hm, hX, hB⟩ := hrel
    by_cases hlt : k < q
    · obtain ⟨b1, o1, rfl, hb1, c0, c1, c2, c3, c4, c5⟩ := (HP.below hB).six hlt
      have x0 := hX.at_ 0 rfl; have x3 := hX.at_ 3 rfl; have x4 := hX.at_ 4 rfl; have lx := hX.lt
      have hpl : plcB (p k) x = ((p k).st == x.st && (p k).ce == x.ce && (p k).di == x.di) := rfl
      have hmm : metB p x (k + 1) = (metB p x k || plcB (p k) x) := rfl
      rw [hm, Bool.false_or] at hmm
      have HMM := hid hmm; have HM0 := hid hm
      clear hm hmm c1 c2 c5
      have HPL := hid hpl; clear hpl
      generalize (p k).st = st at *; generalize (p k).ce = ce at *; generalize (p k).di = di at *
      cases q0 : (st == x.st)
      · have hf : plcB (p k) x = false := by rw [HPL.out, q0]; rfl
        rw [hf] at HMM
        clear hf HPL
        go_wp2_with fail
        go_quiet (fail)
        go_wp2
        go_roundw
        case rel => exact ⟨k + 1, by omega, by go_num, HMM.out, hX.below (by (repeat' (first | with_reducible assumption | with_reducible exact Below.refl _ _ | with_reducible refine Below.drew ?_ | with_reducible refine below_drewN ?_ _ | with_reducible refine balloc ?_ _ | with_reducible refine bset ?_ ?_ _ | with_reducible refine Below.setCell ?_ ?_ _ | with_reducible refine Below.alloc ?_ ?_ _ | omega | (simp; done) | (simp; omega)))), by (repeat' (first | with_reducible assumption | with_reducible exact Below.refl _ _ | with_reducible refine Below.drew ?_ | with_reducible refine below_drewN ?_ _ | with_reducible refine balloc ?_ _ | with_reducible refine bset ?_ ?_ _ | with_reducible refine Below.setCell ?_ ?_ _ | with_reducible refine Below.alloc ?_ ?_ _ | omega | (simp; done) | (simp; omega)))⟩
        case measure => simp [intOf]; omega
      cases q1 : (ce == x.ce)
      · have hf : plcB (p k) x = false := by rw [HPL.out, q1, Bool.and_false]; rfl
        rw [hf] at HMM
        clear hf HPL
        go_wp2_with fail
        go_quiet (fail)
        go_wp2
        go_roundw
        case rel => exact ⟨k + 1, by omega, by go_num, HMM.out, hX.below (by (repeat' (first | with_reducible assumption | with_reducible exact Below.refl _ _ | with_reducible refine Below.drew ?_ | with_reducible refine below_drewN ?_ _ | with_reducible refine balloc ?_ _ | with_reducible refine bset ?_ ?_ _ | with_reducible refine Below.setCell ?_ ?_ _ | with_reducible refine Below.alloc ?_ ?_ _ | omega | (simp; done) | (simp; omega)))), by (repeat' (first | with_reducible assumption | with_reducible exact Below.refl _ _ | with_reducible refine Below.drew ?_ | with_reducible refine below_drewN ?_ _ | with_reducible refine balloc ?_ _ | with_reducible refine bset ?_ ?_ _ | with_reducible refine Below.setCell ?_ ?_ _ | with_reducible refine Below.alloc ?_ ?_ _ | omega | (simp; done) | (simp; omega)))⟩
        case measure => simp [intOf]; omega
      cases q2 : (di == x.di)
      · have hf : plcB (p k) x = false := by rw [HPL.out, q2, Bool.and_false]
        rw [hf] at HMM
        clear hf HPL
        go_wp2_with fail
        go_quiet (fail)
        go_wp2
        go_roundw
        case rel => exact ⟨k + 1, by omega, by go_num, HMM.out, hX.below (by (repeat' (first | with_reducible assumption | with_reducible exact Below.refl _ _ | with_reducible refine Below.drew ?_ | with_reducible refine below_drewN ?_ _ | with_reducible refine balloc ?_ _ | with_reducible refine bset ?_ ?_ _ | with_reducible refine Below.setCell ?_ ?_ _ | with_reducible refine Below.alloc ?_ ?_ _ | omega | (simp; done) | (simp; omega)))), by (repeat' (first | with_reducible assumption | with_reducible exact Below.refl _ _ | with_reducible refine Below.drew ?_ | with_reducible refine below_drewN ?_ _ | with_reducible refine balloc ?_ _ | with_reducible refine bset ?_ ?_ _ | with_reducible refine Below.setCell ?_ ?_ _ | with_reducible refine Below.alloc ?_ ?_ _ | omega | (simp; done) | (simp; omega)))⟩
        case measure => simp [intOf]; omega
      · have hf : plcB (p k) x = true := by rw [HPL.out, q0, q1, q2]; rfl
        have HF := hid hf
        clear hf HPL HMM
        go_wp2_with fail
        go_quiet (fail)
        go_wp2
        go_ret
        exact ⟨_, rfl, .inr ⟨k, hlt, rfl, HF.out, HM0.out⟩, by (repeat' (first | with_reducible assumption | with_reducible exact Below.refl _ _ | with_reducible refine Below.drew ?_ | with_reducible refine below_drewN ?_ _ | with_reducible refine balloc ?_ _ | with_reducible refine bset ?_ ?_ _ | with_reducible refine Below.setCell ?_ ?_ _ | with_reducible refine Below.alloc ?_ ?_ _ | omega | (simp; done) | (simp; omega)))⟩
    · obtain rfl : k = q := (by omega)
      go_wp2
      go_ret
      exact ⟨_, rfl, .inl ⟨rfl, hm⟩, by (repeat' (first | with_reducible assumption | with_reducible exact Below.refl _ _ | with_reducible refine Below.drew ?_ | with_reducible refine below_drewN ?_ _ | with_reducible refine balloc ?_ _ | with_reducible refine bset ?_ ?_ _ | with_reducible refine Below.setCell ?_ ?_ _ | with_reducible refine Below.alloc ?_ ?_ _ | omega | (simp; done) | (simp; omega)))⟩
/-- is all that is due to a site in the post? -/
def readyB (W H : Nat) (o : Nat → Int) (no q : Nat) (p : Nat → N6) (nd st : Int) : Bool := st == 0 || (dueL W H o nd st no).all (fun x => metB p x q)
theorem readyB_no {W H : Nat} {o : Nat → Int} {no q : Nat} {p : Nat → N6} {nd st : Int} (h0 : (st == 0) = false) {k : Nat} (hk : k < (dueL W H o nd st no).length) (h : metB p ((dueL W H o nd st no).getD k N6.zero) q = false) : readyB W H o no q p nd st = false := by
  unfold readyB
  rw [h0, Bool.false_or, ← Bool.not_eq_true, List.all_eq_true]
  intro ha
  have hm : (dueL W H o nd st no).getD k N6.zero ∈ dueL W H o nd st no := by
    rw [List.getD_eq_getElem?_getD, List.getElem?_eq_getElem hk]; exact List.getElem_mem _
  have := ha _ hm
  rw [h] at this; cases this
theorem readyB_yes {W H : Nat} {o : Nat → Int} {no q : Nat} {p : Nat → N6} {nd st : Int} (h : ∀ k, k < (dueL W H o nd st no).length → metB p ((dueL W H o nd st no).getD k N6.zero) q = true) : readyB W H o no q p nd st = true := by
  unfold readyB
  rw [Bool.or_eq_true, List.all_eq_true]
  refine .inr fun x hx => ?_
  obtain ⟨k, hk, rfl⟩ := List.getElem_of_mem hx
  have := h k hk
  rwa [List.getD_eq_getElem?_getD, List.getElem?_eq_getElem hk] at this
set_option maxRecDepth 100000 in
set_option maxHeartbeats 4000000 in
theorem ref5_ready (Wd Hd : Nat) (a ao ap : Option Addr) (n no q c co cp : Nat) (o : Nat → Int) (p : Nat → N6) (nd st : Int) (ix cl : Option Addr) (ni ci nc cc : Nat) (w : World) (h1 : 1 ≤ Wd ∧ Wd ≤ 64) (h2 : 1 ≤ Hd ∧ Hd ≤ 64) (hno : no = Wd * Hd) (hq : q ≤ 100000000) (HO : Sl w ao no o) (HP : Sn w ap q p) :
    Calls Tryz.prog 34 #[.agg #[.int .i64 (Wd : Int), .int .i64 (Hd : Int), .slice a n c], .slice ao no co, .agg #[.int .i64 nd, .int .i64 st, .slice ix ni ci, .slice cl nc cc], .slice ap q cp] w fun e w' => e = .returned (.bool (readyB Wd Hd o no q p nd st)) ∧ Below w.heap.size w w' := by
  have hfi := fun x W S => ref5_find ap q cp p x W hq S
  have hdu := fun W S => ref5_due Wd Hd a ao n c no co o nd st W h1 h2 hno S
  have hlen := dueL_length Wd Hd o nd st no
  have hno4 : no ≤ 4096 := by
    have : Wd * Hd ≤ 64 * 64 := Nat.mul_le_mul h1.2 h2.2
    omega
  clear hno
  have hno' := fun k h0 hk h => readyB_no (W := Wd) (H := Hd) (o := o) (no := no) (q := q) (p := p) (nd := nd) (st := st) h0 (k := k) hk h
  have hyes := readyB_yes (W := Wd) (H := Hd) (o := o) (no := no) (q := q) (p := p) (nd := nd) (st := st)
  have hzero : (st == 0) = true → readyB Wd Hd o no q p nd st = true := fun h => by unfold readyB; rw [h]; rfl
  generalize readyB Wd Hd o no q p nd st = R at *
  generalize dueL Wd Hd o nd st no = L at *
  have HNO := hid hno'; have HYES := hid hyes
  clear hno' hyes
  have X0 := (Bx.new w #[.int .i64 (Wd : Int), .int .i64 (Hd : Int), .slice a n c] 24).alloc (.cells #[.int .i64 nd, .int .i64 st, .slice ix ni ci, .slice cl nc cc] 30)
  have X1 := Bx.new (w.alloc (.cells #[.int .i64 (Wd : Int), .int .i64 (Hd : Int), .slice a n c] 24)) #[.int .i64 nd, .int .i64 st, .slice ix ni ci, .slice cl nc cc] 30
  simp only [World.size_alloc] at X1
  have hB0 : Below w.heap.size w ((w.alloc (.cells #[.int .i64 (Wd : Int), .int .i64 (Hd : Int), .slice a n c] 24)).alloc (.cells #[.int .i64 nd, .int .i64 st, .slice ix ni ci, .slice cl nc cc] 30)) := by (repeat' (first | with_reducible assumption | with_reducible exact Below.refl _ _ | with_reducible refine Below.drew ?_ | with_reducible refine below_drewN ?_ _ | with_reducible refine balloc ?_ _ | with_reducible refine bset ?_ ?_ _ | with_reducible refine Below.setCell ?_ ?_ _ | with_reducible refine Below.alloc ?_ ?_ _ | omega | (simp; done) | (simp; omega)))
  cases h0 : (st == 0)
  rotate_left
  · have HZ := hid (hzero h0)
    clear hzero
    go_enter Tryz.func34, Tryz.ntmps34
    go_wp2
    go_ret
    rw [HZ.out]
    exact ⟨rfl, by (repeat' (first | with_reducible assumption | with_reducible exact Below.refl _ _ | with_reducible refine Below.drew ?_ | with_reducible refine below_drewN ?_ _ | with_reducible refine balloc ?_ _ | with_reducible refine bset ?_ ?_ _ | with_reducible refine Below.setCell ?_ ?_ _ | with_reducible refine Below.alloc ?_ ?_ _ | omega | (simp; done) | (simp; omega)))⟩
  clear hzero
  go_enter Tryz.func34, Tryz.ntmps34
  go_wp2_with fail
  generalize ((w.alloc (.cells #[.int .i64 (Wd : Int), .int .i64 (Hd : Int), .slice a n c] 24)).alloc (.cells #[.int .i64 nd, .int .i64 st, .slice ix ni ci, .slice cl nc cc] 30)) = W0 at X0 X1 hB0 ⊢
  have z0 := X0.lt
  have z1 := X1.lt
  refine (hdu _ (HO.below hB0)).mono ?_
  rintro e w1 ⟨v, rfl, hown, hb1⟩
  obtain ⟨av, cv, rfl, S1⟩ := sn_of_own hown
  have B1 := bvia hB0 hb1
  have H0 := hid h0
  clear hown hb1 X0 X1 hB0 hdu h0
  go_wp2
  go_loopw [10] (fun i wr => ∃ k : Nat, k ≤ L.length ∧ i = .int .i64 k ∧ (∀ j, j < k → metB p (L.getD j N6.zero) q = true) ∧ Below w1.heap.size w1 wr) (fun i _ => L.length - (intOf i).toNat)
  case atStart => exact ⟨0, Nat.zero_le _, rfl, fun j hj => by omega, Below.refl _ _⟩
  case round =>
    obtain ⟨k, hk, rfl, hok, hC⟩ := hrel
    have HOK := hid hok; clear hok
    by_cases hlt : k < L.length
    · obtain ⟨b1, o1, rfl, hb1, c0, c1, c2, c3, c4, c5⟩ := (S1.below hC).six hlt
      have B2 := bvia B1 hC
      try dsimp only at c0 c1 c2 c3 c4 c5
      have hbad : metB p (L.getD k N6.zero) q = false → R = false := HNO.out k H0.out hlt
      have hgood : metB p (L.getD k N6.zero) q = true → ∀ j, j < k + 1 → metB p (L.getD j N6.zero) q = true := fun h j hj => by
        rcases Nat.lt_succ_iff_lt_or_eq.1 hj with h' | rfl
        · exact HOK.out j h'
        · exact h
      generalize L.getD k N6.zero = x at c0 c1 c2 c3 c4 c5 hbad hgood
      have HBAD := hid hbad; have HGOOD := hid hgood
      clear hbad hgood
      go_wp2_with fail
      refine (hfi x _ (HP.below B2)).mono ?_
      rintro e w3 ⟨i, rfl, hF, hb3⟩
      have hsg := hF.sign
      have B3 := bvia B2 hb3; have C3 := bvia hC hb3
      clear hb3 c0 c1 c2 c3 c4 c5 hF
      cases hme : metB p x q
      · rw [hme] at hsg
        have HR := hid (HBAD.out hme)
        clear hme
        go_wp2
        go_ret
        rw [HR.out]
        exact ⟨rfl, B3⟩
      · rw [hme] at hsg
        have HME := hid hme
        clear hme
        go_wp2
        go_roundw
        case rel => exact ⟨k + 1, by omega, by go_num, HGOOD.out HME.out, C3⟩
        case measure => simp [intOf]; omega
    · obtain rfl : k = L.length := (by omega)
      have HR := hid (HYES.out HOK.out)
      go_wp2
      go_ret
      rw [HR.out]
      exact ⟨rfl, bvia B1 hC⟩
end Go.Proofs.YtmmjaobpoiofdaaGreat
namespace Go.Proofs.YtmmjaobpoiofdaaGreat
open Go Go.RowKit
set_option linter.unusedVariables false
/-- a cell with another number in one direction -/
def C4.with (c : C4) (d : Nat) (v : Int) : C4 := match d with | 0 => { c with e := v } | 1 => { c with n := v } | 2 => { c with w := v } | _ => { c with s := v }
theorem C4.with_get (c : C4) {d k : Nat} (v : Int) (hd : d < 4) (hk : k < 4) : (c.with d v).get k = if k = d then v else c.get k := by
  rcases (by omega : d = 0 ∨ d = 1 ∨ d = 2 ∨ d = 3) with rfl | rfl | rfl | rfl <;> rcases (by omega : k = 0 ∨ k = 1 ∨ k = 2 ∨ k = 3) with rfl | rfl | rfl | rfl <;> rfl
theorem C4.with_mass (c : C4) {d : Nat} (v : Int) (hd : d < 4) : (c.with d v).mass = c.mass - c.get d + v := by
  rcases (by omega : d = 0 ∨ d = 1 ∨ d = 2 ∨ d = 3) with rfl | rfl | rfl | rfl <;> simp [C4.with, C4.mass, C4.get] <;> omega
theorem flatC_with (g : Nat → C4) (i : Nat) {d : Nat} (v : Int) (hd : d < 4) : upd (flatC g) (i * 4 + d) v = flatC (updC g i ((g i).with d v)) := by
  refine flatC_ext fun j k hk => ?_
  simp only [upd, updC]
  by_cases e : j = i
  · subst e
    rw [if_pos rfl, C4.with_get _ _ hd hk, flatC_at _ _ _ hk]
    by_cases e2 : k = d
    · subst e2; simp
    · rw [if_neg (by omega), if_neg e2]
  · rw [if_neg (by omega), if_neg e, flatC_at _ _ _ hk]
/-- no number of a cell is below 0 -/
def nnC (c : C4) : Prop := 0 ≤ c.e ∧ 0 ≤ c.n ∧ 0 ≤ c.w ∧ 0 ≤ c.s
theorem nnC_iff (c : C4) : nnC c ↔ ∀ d, d < 4 → 0 ≤ c.get d := by
  constructor
  · rintro ⟨h0, h1, h2, h3⟩ d hd
    rcases (by omega : d = 0 ∨ d = 1 ∨ d = 2 ∨ d = 3) with rfl | rfl | rfl | rfl <;> assumption
  · intro h
    exact ⟨h 0 (by omega), h 1 (by omega), h 2 (by omega), h 3 (by omega)⟩
theorem nnC_mass {c : C4} (h : nnC c) : 0 ≤ c.mass := by obtain ⟨h0, h1, h2, h3⟩ := h; simp only [C4.mass]; omega
theorem valid_nn {c : C4} (h : validC c = true) : nnC c := by obtain ⟨h0, h1, h2, h3, _⟩ := (validC_iff c).1 h; exact ⟨h0, h1, h2, h3⟩
theorem nn_valid {c : C4} (h : nnC c) (hm : c.mass ≤ 1000000000) : validC c = true := (validC_iff c).2 ⟨h.1, h.2.1, h.2.2.1, h.2.2.2, hm⟩
theorem nn_mass_le {G : Nat → C4} : ∀ {n}, (∀ i, i < n → nnC (G i)) → (0 ≤ massTo G n ∧ ∀ i, i < n → (G i).mass ≤ massTo G n)
  | 0, _ => ⟨by simp [massTo], fun i hi => by omega⟩
  | n + 1, h => by
    obtain ⟨h1, h2⟩ := nn_mass_le (n := n) fun i hi => h i (by omega)
    have h3 := nnC_mass (h n (by omega))
    simp only [massTo]
    refine ⟨by omega, fun i hi => ?_⟩
    by_cases e : i = n
    · subst e; omega
    · have := h2 i (by omega); omega
/-- the first cells of a site, laid into a grid -/
def layTo (G : Nat → C4) (s : SiteR) : Nat → Nat → C4 | 0 => G | k + 1 => updC (layTo G s k) (s.I k).toNat (s.C k)
/-- a note's count, put into a grid -/
def addC (G : Nat → C4) (x : N6) : Nat → C4 := updC G x.ce.toNat ((G x.ce.toNat).with x.di.toNat ((G x.ce.toNat).get x.di.toNat + x.co))
def coS (p : Nat → N6) (k : Nat) : Int := sumTo (fun j => (p j).co) k
/-- a site whose cells may be laid into a grid of n cells -/
def fitS (n : Nat) (s : SiteR) : Prop := s.nc = s.ni ∧ (∀ k, k < s.ni → 0 ≤ s.I k ∧ s.I k < n) ∧ ∀ k, k < s.ni → validC (s.C k) = true
/-- a note whose count may be put into a grid of n cells -/
def fitN (n : Nat) (x : N6) : Prop := 0 ≤ x.ce ∧ x.ce < n ∧ 0 ≤ x.di ∧ x.di ≤ 3 ∧ 0 ≤ x.co ∧ x.co ≤ 1000000000
theorem layTo_valid {n : Nat} {G : Nat → C4} {s : SiteR} (hs : fitS n s) (hG : ∀ i, validC (G i) = true) : ∀ k, k ≤ s.ni → ∀ i, validC (layTo G s k i) = true
  | 0, _, i => hG i
  | k + 1, hk, i => by
    simp only [layTo, updC]
    split
    · exact hs.2.2 k (by omega)
    · exact layTo_valid hs hG k (by omega) i
theorem coS_nonneg {n : Nat} {p : Nat → N6} : ∀ k, (∀ j, j < k → fitN n (p j)) → 0 ≤ coS p k ∧ coS p k ≤ k * 1000000000
  | 0, _ => by simp [coS, sumTo]
  | k + 1, h => by
    have h1 := coS_nonneg k fun j hj => h j (by omega)
    obtain ⟨n1, n2, n3, n4, n5, n6⟩ := h k (by omega)
    have e : coS p (k + 1) = coS p k + (p k).co := rfl
    omega
theorem site_fit {o : Nat → Int} {no : Nat} {s : SiteR} (h : siteB o no s = true) : fitS no s := by
  obtain ⟨_, h2, h3, h4⟩ := siteB_iff.1 h
  obtain ⟨e1, e2⟩ := sameL_iff.1 h2
  refine ⟨by omega, fun k hk => ?_, fun k hk => ((massB_iff _ _).1 h4).1 k (by omega)⟩
  have hm : s.I k ∈ ownL o s.nd no := by
    rw [e2 k hk, List.getD_eq_getElem?_getD, List.getElem?_eq_getElem (by omega)]; exact List.getElem_mem _
  obtain ⟨j, hj, e, _⟩ := ownL_mem.1 hm
  omega
theorem post_fit {W H : Nat} {o : Nat → Int} {no q : Nat} {p : Nat → N6} (h : postB W H o no q p = true) : ∀ k, k < q → fitN no (p k) := fun k hk => by
  obtain ⟨hr, _⟩ := noteB_iff.1 ((postB_iff.1 h).2.1 k hk)
  obtain ⟨_, ⟨h2, h3⟩, ⟨h4, h5⟩, h6, h7⟩ := noteR_iff.1 hr
  exact ⟨h2, by omega, h4, h5, h6, h7⟩
end Go.Proofs.YtmmjaobpoiofdaaGreat
