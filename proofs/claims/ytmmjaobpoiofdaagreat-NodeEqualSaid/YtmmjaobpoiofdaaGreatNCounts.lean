/- Walks: ValidPost, of the program and of the reference. Walk: counts, the map of a post from places to counts. -/
import Derived.Test.YtmmjaobpoiofdaaGreatNPost
namespace Go.Proofs.YtmmjaobpoiofdaaGreat
open Go Go.RowKit Go.Maps
set_option linter.unusedVariables false
theorem node_of (x : N6) (w : World) : Calls Tryz.prog 52 #[.agg #[.int .i64 x.st, .int .i64 x.fr, .int .i64 x.to, .int .i64 x.ce, .int .i64 x.di, .int .i64 x.co]] w fun e w' => e = .returned (.agg #[.int .i64 x.st, .int .i64 x.ce, .int .i64 x.di]) ∧ Below w.heap.size w w' := by
  go_enter Tryz.func52, Tryz.ntmps52
  go_wp2
  refine bodyPost_ret (v := .agg #[.int .i64 x.st, .int .i64 x.ce, .int .i64 x.di]) (by simp [results, Tryz.results52, go_sem]) rfl ⟨rfl, ?_⟩
  (repeat' (first | with_reducible assumption | with_reducible exact Below.refl _ _ | with_reducible refine Below.drew ?_ | with_reducible refine below_drewN ?_ _ | with_reducible refine balloc ?_ _ | with_reducible refine bset ?_ ?_ _ | with_reducible refine Below.setCell ?_ ?_ _ | with_reducible refine Below.alloc ?_ ?_ _ | omega | (simp; done) | (simp; omega)))
theorem below_turned {B b : Nat} {w0 w w' : World} (h : Below B w0 w) (ht : w.mapTurned w' b) (hb : B ≤ b) (hB : B ≤ w.heap.size) : Below B w0 w' := h.grown ht.grown hB (fun g e => by injection e with e; omega)
theorem Bx.turned {w w' : World} {b c : Nat} {vs : Array Value} (h : Bx w c vs) (ht : w.mapTurned w' b) (hne : c ≠ b) : Bx w' c vs := h.grown ht.grown (fun e => hne (by injection e))
set_option maxRecDepth 100000 in
set_option maxHeartbeats 4000000 in
theorem node_ValidPost (wide high : Int) (a ao ap : Option Addr) (n no m c co cp : Nat) (g : Nat → C4) (o : Nat → Int) (p : Nat → N6) (w : World) (hn : n ≤ 100000000) (hno : no ≤ 100000000) (hm : m ≤ 100000000) (H : Sc w a n g) (HO : Sl w ao no o) (HP : Sn w ap m p) (HW : ∀ k, k < m → wfN (p k)) :
    Calls Tryz.prog 67 #[.agg #[.int .i64 wide, .int .i64 high, .slice a n c], .slice ao no co, .slice ap m cp] w fun e w' => e = .returned (.bool (validM wide high n g no o && postB wide.toNat high.toNat o no m p)) ∧ Below w.heap.size w w' := by
  have I := H.alloc (.cells #[.int .i64 wide, .int .i64 high, .slice a n c] 24)
  have IO := HO.alloc (.cells #[.int .i64 wide, .int .i64 high, .slice a n c] 24)
  have IP := HP.alloc (.cells #[.int .i64 wide, .int .i64 high, .slice a n c] 24)
  have X := Bx.new w #[.int .i64 wide, .int .i64 high, .slice a n c] 24
  cases hv : validM wide high n g no o
  · go_enter Tryz.func67, Tryz.ntmps67
    go_wp2_with (go_at_call 39; refine (node_ValidMap wide high _ _ n no _ _ g o _ hn hno I IO).mono ?_; rintro e w1 ⟨rfl, hb1⟩; rw [hv])
    go_ret
    exact ⟨rfl, bvia (by (repeat' (first | with_reducible assumption | with_reducible exact Below.refl _ _ | with_reducible refine Below.drew ?_ | with_reducible refine below_drewN ?_ _ | with_reducible refine balloc ?_ _ | with_reducible refine bset ?_ ?_ _ | with_reducible refine Below.setCell ?_ ?_ _ | with_reducible refine Below.alloc ?_ ?_ _ | omega | (simp; done) | (simp; omega)))) hb1⟩
  obtain ⟨Wd, Hd, rfl, rfl, p1, p2, u1, u2, hnn, hn4, hoo, hob, _, _⟩ := validM_sides hv
  have HNW : Hid (no = Wd * Hd) := hid (by omega)
  simp only [Int.toNat_natCast]
  have HWF := hid HW; clear HW
  clear hnn hoo hob
  by_cases hbig : 100000 < m
  · have hF : postB Wd Hd o no m p = false := postB_no.2 (fun h => by omega)
    have HF := hid hF; clear hF
    go_enter Tryz.func67, Tryz.ntmps67
    go_wp2_with (go_at_call 39; refine (node_ValidMap _ _ _ _ n no _ _ g o _ hn hno I IO).mono ?_; rintro e w1 ⟨rfl, hb1⟩; rw [hv])
    go_ret
    rw [HF.out]
    exact ⟨rfl, bvia (by (repeat' (first | with_reducible assumption | with_reducible exact Below.refl _ _ | with_reducible refine Below.drew ?_ | with_reducible refine below_drewN ?_ _ | with_reducible refine balloc ?_ _ | with_reducible refine bset ?_ ?_ _ | with_reducible refine Below.setCell ?_ ?_ _ | with_reducible refine Below.alloc ?_ ?_ _ | omega | (simp; done) | (simp; omega)))) hb1⟩
  have hmm := @run_makeMap Tryz.prog
  go_enter Tryz.func67, Tryz.ntmps67
  go_wp2_with fail
  refine (node_ValidMap _ _ _ _ n no _ _ g o _ hn hno I IO).mono ?_
  rintro e w1 ⟨rfl, hb1⟩
  rw [hv]
  clear hv
  have X1 := X.below hb1
  have x0 := X1.at_ 0 rfl; have x1 := X1.at_ 1 rfl; have x2 := X1.at_ 2 rfl; have lx := X1.lt
  have B1 := bvia (below_alloc w (.cells #[.int .i64 (Wd : Int), .int .i64 (Hd : Int), .slice a n c] 24)) hb1
  have O1 := IO.below hb1; have P1 := IP.below hb1
  clear hb1 I IO IP X
  go_wp2_with fail
  have X2 := (Bx.new w1 #[.int .i64 (Wd : Int), .int .i64 (Hd : Int), .slice a n c, .slice ao no co] 67).alloc (.map #[] 0)
  have B2 := balloc (balloc B1 (.cells #[.int .i64 (Wd : Int), .int .i64 (Hd : Int), .slice a n c, .slice ao no co] 67)) (.map #[] 0)
  have C2 := balloc (below_alloc w1 (.cells #[.int .i64 (Wd : Int), .int .i64 (Hd : Int), .slice a n c, .slice ao no co] 67)) (.map #[] 0)
  have M2 := plm_made 101 (w1.alloc (.cells #[.int .i64 (Wd : Int), .int .i64 (Hd : Int), .slice a n c, .slice ao no co] 67))
  rw [World.size_alloc] at M2
  have hs1 := B1.size
  clear hmm x0 x1 x2 lx X1
  go_loopw [26] (fun i wr => ∃ k : Nat, k ≤ m ∧ i = .int .i64 k ∧ (∀ j, j < k → noteB Wd Hd o no (p j) = true ∧ metB p (p j) j = false) ∧ PlM 101 wr (w1.heap.size + 1) k (fun y => metB p y k) ∧ Bx wr w1.heap.size #[.int .i64 (Wd : Int), .int .i64 (Hd : Int), .slice a n c, .slice ao no co] ∧ Below w.heap.size w wr ∧ Below w1.heap.size w1 wr) (fun i _ => m - (intOf i).toNat)
  case atStart => exact ⟨0, Nat.zero_le _, rfl, fun j hj => by omega, M2, X2, B2, C2⟩
  case round =>
    obtain ⟨k, hk, rfl, hok, hM, hX, hB, hC⟩ := hrel
    have HOK := hid hok; clear hok
    by_cases hlt : k < m
    · obtain ⟨b1, o1, rfl, hb1, c0, c1, c2, c3, c4, c5⟩ := (P1.below hC).six hlt
      have hwf := HWF.out k hlt
      have hr := fun W S => node_right Wd Hd a ao n c no co o (p k) W ⟨p1, p2⟩ ⟨u1, u2⟩ HNW.out S
      unfold cluV at hr
      have Xn := Bx.new wr #[.int .i64 (p k).st, .int .i64 (p k).fr, .int .i64 (p k).to, .int .i64 (p k).ce, .int .i64 (p k).di, .int .i64 (p k).co] 78
      have X3 := hX.alloc (.cells #[.int .i64 (p k).st, .int .i64 (p k).fr, .int .i64 (p k).to, .int .i64 (p k).ce, .int .i64 (p k).di, .int .i64 (p k).co] 78)
      have M3 := plm_below hM (below_alloc wr (.cells #[.int .i64 (p k).st, .int .i64 (p k).fr, .int .i64 (p k).to, .int .i64 (p k).ce, .int .i64 (p k).di, .int .i64 (p k).co] 78))
      have B3 := balloc hB (.cells #[.int .i64 (p k).st, .int .i64 (p k).fr, .int .i64 (p k).to, .int .i64 (p k).ce, .int .i64 (p k).di, .int .i64 (p k).co] 78)
      have C3 := balloc hC (.cells #[.int .i64 (p k).st, .int .i64 (p k).fr, .int .i64 (p k).to, .int .i64 (p k).ce, .int .i64 (p k).di, .int .i64 (p k).co] 78)
      have O3 := (O1.below hC).alloc (.cells #[.int .i64 (p k).st, .int .i64 (p k).fr, .int .i64 (p k).to, .int .i64 (p k).ce, .int .i64 (p k).di, .int .i64 (p k).co] 78)
      have hsz := hC.size
      have g0 := hX.at_ 0 rfl; have g1 := hX.at_ 1 rfl; have g2 := hX.at_ 2 rfl; have g3 := hX.at_ 3 rfl; have lg := hX.lt
      have hof := fun W => node_of (p k) W
      have hmet : ∀ y, metB p y (k + 1) = (metB p y k || plcB (p k) y) := fun y => rfl
      have HM := hid hmet; clear hmet
      cases hs : noteB Wd Hd o no (p k)
      · have hF : postB Wd Hd o no m p = false := postB_no.2 (fun h => by have := h.2.1 k hlt; rw [hs] at this; cases this)
        have HF := hid hF; clear hF
        rw [hs] at hr
        clear hs
        go_wp2_with fail
        refine (hr _ O3).mono ?_
        rintro e w3 ⟨rfl, hb3⟩
        go_wp2
        go_ret
        rw [HF.out]
        exact ⟨rfl, bvia B3 hb3⟩
      rw [hs] at hr
      have HS := hid hs; clear hs
      go_wp2_with fail
      refine (hr _ O3).mono ?_
      rintro e w3 ⟨rfl, hb3⟩
      have B4 := bvia B3 hb3; have C4 := bvia C3 hb3
      have Xn4 := Xn.below hb3; have X4 := X3.below hb3; have M4 := plm_below M3 hb3
      clear hr hb3 Xn X3 M3 g0 g1 g2 g3 lg c0 c1 c2 c3 c4 c5 hX hM O3 hB hC B3 C3
      have y0 := Xn4.at_ 0 rfl; have y1 := Xn4.at_ 1 rfl; have y2 := Xn4.at_ 2 rfl; have y3 := Xn4.at_ 3 rfl; have y4 := Xn4.at_ 4 rfl; have y5 := Xn4.at_ 5 rfl; have ly := Xn4.lt
      go_wp2_with fail
      refine (hof _).mono ?_
      rintro e w5 ⟨rfl, hb5⟩
      have B5 := bvia B4 hb5; have C5 := bvia C4 hb5
      have Xn5 := Xn4.below hb5; have X5 := X4.below hb5; have M5 := plm_below M4 hb5
      have hl := pl_look M5 hwf
      unfold plV at hl
      clear y0 y1 y2 y3 y4 y5 ly hb5 Xn4 X4 M4 B4 C4
      have y0 := Xn5.at_ 0 rfl; have y1 := Xn5.at_ 1 rfl; have y2 := Xn5.at_ 2 rfl; have y3 := Xn5.at_ 3 rfl; have y4 := Xn5.at_ 4 rfl; have y5 := Xn5.at_ 5 rfl; have ly := Xn5.lt
      cases hq : metB p (p k) k
      rotate_left
      · rw [hq] at hl
        have hF : postB Wd Hd o no m p = false := postB_no.2 (fun h => by have := h.2.2 k hlt; rw [hq] at this; cases this)
        have HF := hid hF; clear hF hq
        go_wp2
        go_ret
        rw [HF.out]
        exact ⟨rfl, B5⟩
      rw [hq] at hl
      have HQ := hid hq; clear hq
      go_wp2_with fail
      refine (hof _).mono ?_
      rintro e w6 ⟨rfl, hb6⟩
      have B6 := bvia B5 hb6; have C6 := bvia C5 hb6
      have X6 := X5.below hb6; have M6 := plm_below M5 hb6
      obtain ⟨w7, hrun, M7, ht⟩ := pl_store M6 (by simp [maxLen]; omega) hwf
      unfold plV at hrun
      have hs6 := C6.size
      have B7 := below_turned B6 ht (by omega) B6.size
      have C7 := below_turned C6 ht (by omega) C6.size
      have X7 := X6.turned ht (by omega)
      clear hl y0 y1 y2 y3 y4 y5 ly hb6 hof
      go_wp2_with fail
      go_roundw
      case rel => exact ⟨k + 1, by omega, by go_num, fun j hj => by
          rcases Nat.lt_succ_iff_lt_or_eq.1 hj with h' | rfl
          · exact HOK.out j h'
          · exact ⟨HS.out, HQ.out⟩, plm_congr M7 (fun y => (HM.out y).symm), X7, B7, C7⟩
      case measure => simp [intOf]; omega
    · obtain rfl : k = m := (by omega)
      have hF : postB Wd Hd o no k p = true := postB_iff.2 ⟨by omega, fun j hj => (HOK.out j hj).1, fun j hj => (HOK.out j hj).2⟩
      have HF := hid hF; clear hF
      go_wp2
      go_ret
      rw [HF.out]
      exact ⟨rfl, hB⟩
end Go.Proofs.YtmmjaobpoiofdaaGreat
namespace Go.Proofs.YtmmjaobpoiofdaaGreat
open Go Go.RowKit Go.Maps Go.ChangeMaps
set_option linter.unusedVariables false
set_option linter.unusedSimpArgs false
/-- the count at the place of x of the first k notes -/
def cntV (p : Nat → N6) (x : N6) : Nat → Int | 0 => 0 | k + 1 => if plcB (p k) x then (p k).co else cntV p x k
/-- block b is a map of at most n places to ints: which it has, and what they are -/
def PcM (w : World) (b n : Nat) (S : N6 → Bool) (V : N6 → Int) : Prop :=
  ∃ D : DataW Unit, w.ownsMap Tryz.prog 101 (plainElem Tryz.prog 3) b n D ∧ ∀ x, wfN x → Maps.has D (plL x) = S x ∧ D.atKey (plL x) (.lit (.int .i64 0)) = .lit (.int .i64 (V x))
theorem pcm_made (w : World) : PcM (w.alloc (.map #[] 0)) w.heap.size 0 (fun _ => false) (fun _ => 0) :=
  ⟨.map [], World.ownsMap_made w _ _ _, fun i _ => by simp [DataW.atKey, Maps.has]⟩
theorem pcm_below {w w' : World} {b n : Nat} {S : N6 → Bool} {V : N6 → Int} (h : PcM w b n S V) (hb : Below w.heap.size w w') : PcM w' b n S V := by
  obtain ⟨D, ⟨es, clock, h1, h2⟩, hat⟩ := h
  refine ⟨D, ⟨es, clock, ?_, h2⟩, hat⟩
  rw [hb.block b ?_]
  · exact h1
  · rcases Nat.lt_or_ge b w.heap.size with h' | h'
    · exact h'
    · rw [Array.getElem?_eq_none h'] at h1; cases h1
theorem pcm_congr {w : World} {b n : Nat} {S S' : N6 → Bool} {V V' : N6 → Int} (h : PcM w b n S V) (e : ∀ x, S x = S' x) (e' : ∀ x, V x = V' x) : PcM w b n S' V' := by
  obtain ⟨D, h1, h2⟩ := h
  exact ⟨D, h1, fun x hx => by rw [← e x, ← e' x]; exact h2 x hx⟩
theorem pcm_lt {w : World} {b n : Nat} {S : N6 → Bool} {V : N6 → Int} (h : PcM w b n S V) : b < w.heap.size := by
  obtain ⟨D, ⟨es, clock, h1, h2⟩, hat⟩ := h
  exact (Array.getElem?_eq_some_iff.1 h1).1
theorem pcm_look {w : World} {b n : Nat} {S : N6 → Bool} {V : N6 → Int} (h : PcM w b n S V) {x : N6} (hx : wfN x) :
    (Instr.lookup 69 (.map (some b)) (plV x) true).run Tryz.prog w = .ok (.tuple #[.int .i64 (V x), .bool (S x)]) w := by
  obtain ⟨D, ho, hat⟩ := h
  obtain ⟨v, ps, hrun, hv⟩ := ho.look_ok (Keyed.of_law law_place) Tryz.underlying69 (z := .int .i64 0) (by kernel_rfl) (plainElem_int Tryz.underlying3 (by decide)) (key_place hx)
  obtain ⟨c, rfl, hc, _⟩ := plainElem_int_inv Tryz.underlying3 hv
  obtain ⟨h1, h2⟩ := hat x hx
  rw [h2] at hc
  simp only [Prod.mk.injEq, DataW.lit.injEq, Lit.int.injEq, true_and] at hc
  rw [hrun, h1, hc.1]
theorem pcm_store {w : World} {b n : Nat} {S : N6 → Bool} {V : N6 → Int} (h : PcM w b n S V) (hn : n < maxLen) {x : N6} (hx : wfN x) (c : Int) (hc : (Lit.int .i64 c).wf = true) :
    ∃ w', (Instr.mapUpdate 69 (.map (some b)) (plV x) (.int .i64 c)).run Tryz.prog w = .ok () w' ∧ PcM w' b (n + 1) (fun y => S y || plcB x y) (fun y => if plcB x y then c else V y) ∧ w.mapTurned w' b := by
  obtain ⟨D, ho, hat⟩ := h
  obtain ⟨w', hrun, ho', htn⟩ := ho.store (Keyed.of_law law_place) Tryz.underlying69 hn (key_place hx) (plainElem_int Tryz.underlying3 hc)
  refine ⟨w', hrun, ⟨_, ho', fun y hy => ?_⟩, htn⟩
  cases e : plcB x y
  · have hne : plL y ≠ plL x := by intro h'; have := plL_inj hx hy h'.symm; rw [e] at this; cases this
    rw [atKey_put_other hne, has_put_other hne, (hat y hy).1, (hat y hy).2]
    simp [e]
  · rw [← plL_eq e, atKey_put_same ho.isMap (by trivial), has_put_same ho.isMap (by trivial)]
    simp [e]
set_option maxRecDepth 100000 in
set_option maxHeartbeats 4000000 in
theorem node_counts (ap : Option Addr) (q cp : Nat) (p : Nat → N6) (w : World) (hq : q ≤ 100000000) (HP : Sn w ap q p) (HW : ∀ k, k < q → wfN (p k)) :
    Calls Tryz.prog 29 #[.slice ap q cp] w fun e w' => ∃ b, e = .returned (.map (some b)) ∧ PcM w' b q (fun y => metB p y q) (fun y => cntV p y q) ∧ Below w.heap.size w w' := by
  have hmm := @run_makeMap Tryz.prog
  have P1 := HP.alloc (.map #[] 0)
  have M1 := pcm_made w
  have B1 := below_alloc w (.map #[] 0)
  have HWF := hid HW; clear HW
  go_enter Tryz.func29, Tryz.ntmps29
  go_wp2
  clear hmm
  go_loopw [9] (fun i wr => ∃ k : Nat, k ≤ q ∧ i = .int .i64 k ∧ PcM wr w.heap.size k (fun y => metB p y k) (fun y => cntV p y k) ∧ Below w.heap.size w wr) (fun i _ => q - (intOf i).toNat)
  case atStart => exact ⟨0, Nat.zero_le _, rfl, M1, B1⟩
  case round =>
    obtain ⟨k, hk, rfl, hM, hB⟩ := hrel
    have hkey := pcm_lt hM
    by_cases hlt : k < q
    · obtain ⟨b1, o1, rfl, hb1, c0, c1, c2, c3, c4, c5⟩ := (HP.below hB).six hlt
      have hwf := HWF.out k hlt
      have hof := fun W => node_of (p k) W
      go_wp2_with fail
      have hW : Below wr.heap.size wr (wr.alloc (.cells #[.int .i64 (p k).st, .int .i64 (p k).fr, .int .i64 (p k).to, .int .i64 (p k).ce, .int .i64 (p k).di, .int .i64 (p k).co] 78)) := by (repeat' (first | with_reducible assumption | with_reducible exact Below.refl _ _ | with_reducible refine Below.drew ?_ | with_reducible refine below_drewN ?_ _ | with_reducible refine balloc ?_ _ | with_reducible refine bset ?_ ?_ _ | with_reducible refine Below.setCell ?_ ?_ _ | with_reducible refine Below.alloc ?_ ?_ _ | omega | (simp; done) | (simp; omega)))
      have Xs := Bx.new wr #[.int .i64 (p k).st, .int .i64 (p k).fr, .int .i64 (p k).to, .int .i64 (p k).ce, .int .i64 (p k).di, .int .i64 (p k).co] 78
      have M5 := pcm_below hM hW
      have B5 := bvia hB hW
      clear hM c0 c1 c2 c3 c4 c5
      generalize hWg : (wr.alloc (.cells #[.int .i64 (p k).st, .int .i64 (p k).fr, .int .i64 (p k).to, .int .i64 (p k).ce, .int .i64 (p k).di, .int .i64 (p k).co] 78)) = W5 at *
      clear hWg
      have s0 : ∀ Y, Below W5.heap.size W5 Y → Y.cell? ⟨wr.heap.size, 0, none⟩ = some (.int .i64 (p k).st) := fun Y h => (Xs.below h).at_ 0 rfl
      have s1 : ∀ Y, Below W5.heap.size W5 Y → Y.cell? ⟨wr.heap.size, 1, none⟩ = some (.int .i64 (p k).fr) := fun Y h => (Xs.below h).at_ 1 rfl
      have s2 : ∀ Y, Below W5.heap.size W5 Y → Y.cell? ⟨wr.heap.size, 2, none⟩ = some (.int .i64 (p k).to) := fun Y h => (Xs.below h).at_ 2 rfl
      have s3 : ∀ Y, Below W5.heap.size W5 Y → Y.cell? ⟨wr.heap.size, 3, none⟩ = some (.int .i64 (p k).ce) := fun Y h => (Xs.below h).at_ 3 rfl
      have s4 : ∀ Y, Below W5.heap.size W5 Y → Y.cell? ⟨wr.heap.size, 4, none⟩ = some (.int .i64 (p k).di) := fun Y h => (Xs.below h).at_ 4 rfl
      have s5 : ∀ Y, Below W5.heap.size W5 Y → Y.cell? ⟨wr.heap.size, 5, none⟩ = some (.int .i64 (p k).co) := fun Y h => (Xs.below h).at_ 5 rfl
      have hz := hW.size
      refine wp_region_S (fun Y => Below W5.heap.size W5 Y) 5 (by kernel_rfl) ?_
      refine anyS_take (i := 0) rfl (by kernel_rfl) (fun _ _ _ h => h) (Or.inl ⟨by rfl, fun Y hYb => (by (try dsimp only at hYb); go_simp; rfl)⟩) (by repeat' (first | with_reducible assumption | with_reducible exact Below.refl _ _ | with_reducible refine Below.drew ?_ | with_reducible refine below_drewN ?_ _)) ?_
      simp only [List.getElem_toArray, List.getElem_cons_succ, List.getElem_cons_zero, Act.put, List.setIfInBounds_toArray, List.set_cons_zero, List.set_cons_succ]
      refine anyS_take (i := 1) rfl (by kernel_rfl) (fun _ _ _ h => h) (Or.inl ⟨by rfl, fun Y hYb => (by (try dsimp only at hYb); go_simp; rfl)⟩) (by repeat' (first | with_reducible assumption | with_reducible exact Below.refl _ _ | with_reducible refine Below.drew ?_ | with_reducible refine below_drewN ?_ _)) ?_
      simp only [List.getElem_toArray, List.getElem_cons_succ, List.getElem_cons_zero, Act.put, List.setIfInBounds_toArray, List.set_cons_zero, List.set_cons_succ]
      refine anyS_take (i := 3) rfl (by kernel_rfl) (fun _ _ _ h => h) (Or.inl ⟨by rfl, fun Y hYb => (by (try dsimp only at hYb); go_simp; rfl)⟩) (by repeat' (first | with_reducible assumption | with_reducible exact Below.refl _ _ | with_reducible refine Below.drew ?_ | with_reducible refine below_drewN ?_ _)) ?_
      simp only [List.getElem_toArray, List.getElem_cons_succ, List.getElem_cons_zero, Act.put, List.setIfInBounds_toArray, List.set_cons_zero, List.set_cons_succ]
      refine anyS_take (i := 4) rfl (by kernel_rfl) (fun _ _ _ h => h) (Or.inl ⟨by rfl, fun Y hYb => (by (try dsimp only at hYb); go_simp; rfl)⟩) (by repeat' (first | with_reducible assumption | with_reducible exact Below.refl _ _ | with_reducible refine Below.drew ?_ | with_reducible refine below_drewN ?_ _)) ?_
      simp only [List.getElem_toArray, List.getElem_cons_succ, List.getElem_cons_zero, Act.put, List.setIfInBounds_toArray, List.set_cons_zero, List.set_cons_succ]
      refine anyS_one (i := 2) (by kernel_rfl) rfl (by rfl) (fun K hK => ?_)
      go_simp
      refine (hof _).mono ?_
      rintro e w6 ⟨rfl, hb6⟩
      dsimp only
      have hS6 : Below W5.heap.size W5 w6 := bvia (by (repeat' (first | with_reducible assumption | with_reducible exact Below.refl _ _ | with_reducible refine Below.drew ?_ | with_reducible refine below_drewN ?_ _ | with_reducible refine balloc ?_ _ | with_reducible refine bset ?_ ?_ _ | with_reducible refine Below.setCell ?_ ?_ _ | with_reducible refine Below.alloc ?_ ?_ _ | omega | (simp; done) | (simp; omega)))) hb6
      refine hK _ _ (fun _ _ => hS6) ?_
      clear hK K hb6
      have M6 := pcm_below M5 hS6
      have B6 := bvia B5 hS6
      obtain ⟨w7, hrun, M7, ht⟩ := pcm_store M6 (by simp [maxLen]; omega) hwf (p k).co (hwf 5 (by omega))
      unfold plV at hrun
      have hs6 := hS6.size
      have B7 := below_turned B6 ht (Nat.le_refl _) B6.size
      refine anyS_one (i := 5) (by kernel_rfl) rfl (by rfl) (fun K hK => ?_)
      go_simp
      refine hK _ _ (fun h _ => absurd h (by decide)) ?_
      clear hK K
      refine anyS_done (by kernel_rfl) ?_ _
      go_wp2
      go_roundw
      case rel => exact ⟨k + 1, by omega, by go_num, pcm_congr M7 (fun y => rfl) (fun y => rfl), B7⟩
      case measure => simp [intOf]; omega
    · obtain rfl : k = q := (by omega)
      go_wp2
      go_ret
      exact ⟨_, rfl, hM, hB⟩
end Go.Proofs.YtmmjaobpoiofdaaGreat
