/- Walk: how many notes are due in a step, of the reference. Walk: how many notes are due in a step, of the program. Walk: what every law of the nodes ends in is true. -/
import Derived.Test.YtmmjaobpoiofdaaGreatNDueF
import Derived.RangeFuncLeaves
import Derived.Test.YtmmjaobpoiofdaaGreatCRow
namespace Go.Proofs.YtmmjaobpoiofdaaGreat
open Go Go.RowKit
set_option linter.unusedVariables false
/-- how many notes are due in a step -/
def trafN (wide high : Int) (n : Nat) (g : Nat → C4) (no : Nat) (o : Nat → Int) : Int := if validM wide high n g no o = true then (trafL wide.toNat high.toNat o no (nodeL o no 8) : Int) else 0
theorem trafN_yes {Wd Hd : Nat} {n : Nat} {g : Nat → C4} {no : Nat} {o : Nat → Int} (h : validM Wd Hd n g no o = true) : trafN Wd Hd n g no o = (trafL Wd Hd o no (nodeL o no 8) : Int) := by
  unfold trafN; rw [if_pos h, Int.toNat_natCast, Int.toNat_natCast]
theorem trafN_no {wide high : Int} {n : Nat} {g : Nat → C4} {no : Nat} {o : Nat → Int} (h : validM wide high n g no o = false) : trafN wide high n g no o = 0 := by
  unfold trafN; rw [h]; rfl
end Go.Proofs.YtmmjaobpoiofdaaGreat
namespace Go.Proofs.YtmmjaobpoiofdaaGreat
open Go Go.RowKit
attribute [local go_sem] Oper.semAt_some
set_option linter.unusedVariables false
/-- a function that leaves with marks alone -/
theorem leaves_all {F : Fence} {n : Nat} {P : Program} {fn : Func} {tmps : Array Value} {R : Ending → World → Prop} : ∀ (ds : List Nat) (w : World), ds.Nodup → (∀ D ∈ ds, w.heap[D]? = some (.deferred (some []))) →
    (∀ w', But (fun b => b ∈ ds) w w' → LeavesIn F n P fn tmps R [] .returning w') → LeavesInM F n P fn tmps R (ds.map fun D => { target := .collected D, args := #[] }) .returning w
  | [], w, _, _, h => h w (But.refl _ _)
  | D :: ds, w, hn, hd, h => by
    rw [List.nodup_cons] at hn
    refine ⟨by simp, .inl ⟨D, _, rfl, run_takeDeferred (hd D (List.mem_cons_self ..)), leaves_all ds _ hn.2 (fun E hE => ?_) (fun w' hb => h w' ?_)⟩⟩
    · rw [World.putObj_heap_other (fun e => hn.1 (by first | (rw [← e]; exact hE) | (rw [e]; exact hE)))]
      exact hd E (List.mem_cons_of_mem _ hE)
    · exact ((but_putObj w D (.deferred none)).mono (D := fun b => b ∈ D :: ds) (fun b _ e => by rw [e]; exact List.mem_cons_self ..)).trans (hb.mono fun b _ e => List.mem_cons_of_mem _ e)
set_option maxRecDepth 100000 in
set_option maxHeartbeats 4000000 in
theorem node_Traffic (wide high : Int) (a ao : Option Addr) (n no c co : Nat) (g : Nat → C4) (o : Nat → Int) (w : World) (hn : n ≤ 100000000) (hno : no ≤ 100000000) (H : Sc w a n g) (HO : Sl w ao no o) :
    Calls Tryz.prog 25 #[.agg #[.int .i64 wide, .int .i64 high, .slice a n c], .slice ao no co] w
    fun e w' => e = .returned (.tuple #[.int .i64 (trafN wide high n g no o), .int .i64 (errR (validM wide high n g no o) 1)]) ∧ Below w.heap.size w w' := by
  have I := H.alloc (.cells #[.int .i64 wide, .int .i64 high, .slice a n c] 24)
  have IO := HO.alloc (.cells #[.int .i64 wide, .int .i64 high, .slice a n c] 24)
  have X := Bx.new w #[.int .i64 wide, .int .i64 high, .slice a n c] 24
  cases hv : validM wide high n g no o
  · have HT := hid (trafN_no hv)
    go_enter Tryz.func25, Tryz.ntmps25
    go_wp2_with (go_at_call 39; refine (node_ValidMap wide high _ _ n no _ _ g o _ hn hno I IO).mono ?_; rintro e w1 ⟨rfl, hb1⟩; rw [hv])
    go_ret2
    rw [HT.out]
    exact ⟨rfl, bvia (by (repeat' (first | with_reducible assumption | with_reducible exact Below.refl _ _ | with_reducible refine Below.drew ?_ | with_reducible refine below_drewN ?_ _ | with_reducible refine balloc ?_ _ | with_reducible refine bset ?_ ?_ _ | with_reducible refine Below.setCell ?_ ?_ _ | with_reducible refine Below.alloc ?_ ?_ _ | omega | (simp; done) | (simp; omega)))) hb1⟩
  · obtain ⟨Wd, Hd, rfl, rfl, p1, p2, u1, u2, hnn, hn4, hoo, hob, _, _⟩ := validM_sides hv
    have HT := hid (trafN_yes hv)
    have hnW : no = Wd * Hd := by omega
    have HNW := hid hnW
    have HNN := hid hnn
    have hno4 : no ≤ 1024 := by omega
    have hnd := fun W S => node_nodes Wd Hd a ao n c no co o W (by rw [hnW]; exact Nat.mul_pos p1 u1) (by omega) (fun k hk => hob k (by omega)) S
    clear hnn hoo hnW
    unfold cluV at hnd
    have HND := hid hnd; clear hnd
    refine callsIn_wide.1 (callsIn_of_wp_marks (F := Fence.wide) (n := 0) Tryz.func25 rfl trivial ?_ rfl)
    simp only [Tryz.ntmps25, List.size_toArray, List.length_cons, List.length_nil, Nat.reduceAdd, Nat.reduceSub, Array.replicate_succ, Array.replicate_zero, List.push_toArray, List.append_toArray, List.nil_append, List.cons_append]
    gi_wp2_with fail
    refine ⟨trivial, rfl, callsIn_wide.2 ((node_ValidMap _ _ _ _ n no _ _ g o _ hn hno I IO).mono ?_)⟩
    rintro e w1 ⟨rfl, hb1⟩
    rw [hv]
    have hB1 : Below w.heap.size w w1 := bvia (by (repeat' (first | with_reducible assumption | with_reducible exact Below.refl _ _ | with_reducible refine Below.drew ?_ | with_reducible refine below_drewN ?_ _ | with_reducible refine balloc ?_ _ | with_reducible refine bset ?_ ?_ _ | with_reducible refine Below.setCell ?_ ?_ _ | with_reducible refine Below.alloc ?_ ?_ _ | omega | (simp; done) | (simp; omega)))) hb1
    have X1 := X.below hb1
    have x0 := X1.at_ 0 rfl; have x1 := X1.at_ 1 rfl; have x2 := X1.at_ 2 rfl; have lx := X1.lt
    have S1 := HO.below hB1
    clear hb1 I IO
    have hnd := fun W S => HND.out W S
    gi_wp2_with fail
    have Xc := (Bx.new w1 #[.int .i64 Wd, .int .i64 Hd, .slice a n c, .slice ao no co] 67).alloc (.cells #[.int .i64 0] 3)
    have Xn := Bx.new (w1.alloc (.cells #[.int .i64 Wd, .int .i64 Hd, .slice a n c, .slice ao no co] 67)) #[.int .i64 0] 3
    have S2 := (S1.alloc (.cells #[.int .i64 Wd, .int .i64 Hd, .slice a n c, .slice ao no co] 67)).alloc (.cells #[.int .i64 0] 3)
    have hB2 := balloc (balloc hB1 (.cells #[.int .i64 Wd, .int .i64 Hd, .slice a n c, .slice ao no co] 67)) (.cells #[.int .i64 0] 3)
    rw [World.size_alloc] at Xn
    refine ⟨trivial, rfl, callsIn_wide.2 ((hnd _ S2).mono ?_)⟩
    rintro e w2 ⟨v, rfl, hown, hb2⟩
    obtain ⟨al, cl, rfl, _⟩ := sl_of_own hown
    clear hnd
    have X2c := Xc.below hb2; have X2n := Xn.below hb2
    have hB3 := bvia hB2 hb2
    have hs2 := hb2.size
    have hs1 := hB1.size
    simp only [World.size_alloc] at hs2 hown
    obtain ⟨L, hL⟩ : ∃ L, L = nodeL o no 8 := ⟨_, rfl⟩
    have hLn : L.length ≤ 8 := by rw [hL]; exact nodeL_length _ _ _
    have htl := trafL_le Wd Hd o no
    rw [← hL] at hown
    gi_wp2_with fail
    rw [← hL]
    have HL := hid hL; clear hL x0 x1 x2 X1 S1 S2 hB1 hB2 Xc Xn hb2
    obtain ⟨I, hI⟩ : ∃ I : Act → World → Prop, I = fun a' w' => ∃ (k : Nat) (ds : List Nat) (u9 u21 u22 u23 u24 u25 u26 u30 : Value), a' = { tmps := #[.agg #[.int .i64 Wd, .int .i64 Hd, .slice a n c], .slice ao no co, .pointer (some ⟨w.heap.size, 0, none⟩), undef, .int .i64 0, .int .i64 0, .pointer (some ⟨w1.heap.size, 0, none⟩), .pointer (some ⟨w1.heap.size + 1, 0, none⟩), undef, u9, .agg #[.int .i64 Wd, .int .i64 Hd, .slice a n c], .slice ao no co, .bool true, .bool false, .agg #[.int .i64 Wd, .int .i64 Hd, .slice a n c], .slice ao no co, .agg #[.int .i64 Wd, .int .i64 Hd, .slice a n c, .slice ao no co], .agg #[.int .i64 Wd, .int .i64 Hd, .slice a n c, .slice ao no co], .slice al L.length cl, .int .i64 L.length, .int .i64 k, u21, u22, u23, u24, u25, u26, undef, undef, undef, u30, undef], defers := ds.map fun D => { target := .collected D, args := #[] } } ∧ k ≤ L.length ∧ Bx w' (w1.heap.size + 1) #[.int .i64 (trafL Wd Hd o no (L.take k) : Nat)] ∧ Bx w' w1.heap.size #[.int .i64 Wd, .int .i64 Hd, .slice a n c, .slice ao no co] ∧ w'.ownsRow (w1.heap.size + 1 + 1) 3 1 (.slice al L.length cl) L.length (L.map vInt) ∧ Below w.heap.size w w' ∧ ds.Nodup ∧
          (∀ D ∈ ds, w1.heap.size + 1 + 1 ≤ D ∧ w'.heap[D]? = some (.deferred (some []))) := ⟨_, rfl⟩
    refine wpIn_loop I (fun a' _ => L.length - (intOf (a'.tmps.getD 20 undef)).toNat) ?_ ?_
    · rw [hI]
      exact ⟨0, [], _, _, _, _, _, _, _, _, rfl, Nat.zero_le _, X2n, X2c, hown, hB3, List.nodup_nil, fun D h => by cases h⟩
    · clear X2n X2c hown hB3
      intro a' w' hr
      rw [hI] at hr
      have HI := hid hI; clear hI
      obtain ⟨k, ds, u9, u21, u22, u23, u24, u25, u26, u30, rfl, hk, X2n, X2c, hown, hB3, hnd, hds⟩ := hr
      by_cases hlt : k < L.length
      · have hT1 : trafL Wd Hd o no (L.take (k + 1)) = trafL Wd Hd o no (L.take k) + (dueL Wd Hd o (L.getD k 0) 1 no).length := by rw [take_getD hlt, trafL_snoc]
        have htk := htl (L.take k)
        rw [List.length_take, Nat.min_eq_left hk] at htk
        have hk8 : k * (4 * no) ≤ 8 * (4 * 1024) := Nat.mul_le_mul (by omega) (by omega)
        generalize trafL Wd Hd o no (L.take k) = T at *
        have HT1 := hid hT1; clear hT1
        obtain ⟨av', cv', hv', Sv⟩ := sl_of_own hown
        injection hv' with hv1 hv2 hv3
        subst hv1
        subst hv3
        obtain ⟨bv, ov, rfl, hbv, cv0⟩ := Sv k hlt
        dsimp only at cv0
        clear hv2 Sv
        have c0 := X2c.at_ 0 rfl; have c1 := X2c.at_ 1 rfl; have c2 := X2c.at_ 2 rfl; have c3 := X2c.at_ 3 rfl; have lc := X2c.lt
        obtain ⟨nd, hnd'⟩ : ∃ nd, nd = L.getD k 0 := ⟨_, rfl⟩
        rw [← hnd'] at cv0
        have HND := hid hnd'; clear hnd'
        have hdue := node_due Wd Hd a ao n c no co nd 1 w'
        unfold cluV at hdue
        gi_wp2_with fail
        refine ⟨trivial, rfl, callsIn_wide.2 (hdue.mono ?_)⟩
        rintro e w4 ⟨bc, bn, bs, rfl, Zc, Zn, Zs, ⟨zc, zn, zs⟩, hb4⟩
        clear hdue c0 c1 c2 c3 cv0
        gi_wp2_with fail
        have hW4 : Below w.heap.size w w4 := bvia hB3 hb4
        have Y2n := X2n.below hb4; have Y2c := X2c.below hb4
        have hown4 := own_below hown hb4
        have hs4 := hb4.size
        have hds4 : ∀ D ∈ ds, w1.heap.size + 1 + 1 ≤ D ∧ D < w'.heap.size ∧ w4.heap[D]? = some (.deferred (some [])) := fun D hD => by
          obtain ⟨d1, d2⟩ := hds D hD
          have d3 := (Array.getElem?_eq_some_iff.1 d2).1
          exact ⟨d1, d3, (hb4.block D d3).trans d2⟩
        have hdl := dueL_length Wd Hd o nd 1 no
        have ob := own_base hown4
        have ol := own_lt hown
        have lx2 := X2n.lt
        clear hds hown X2n X2c hb4 hB3
        refine wp_rangeR rfl ent_due (due_iterR Wd Hd a ao n c no co o nd 1 bc bn bs w ⟨p1, p2⟩ ⟨u1, u2⟩ HNW.out HO) hW4 (fun _ => rfl)
          (fun pre C X => C = (fun b => b = w1.heap.size + 1 ∨ b = bc ∨ b = bn ∨ b = bs) ∧ Bx X (w1.heap.size + 1) #[.int .i64 (T + pre.length : Nat)] ∧ DueRd (cluV Wd Hd a ao n c no co) nd 1 bc bn bs X)
          (fun _ _ _ _ => False) (fun b => b = w1.heap.size + 1 ∨ b = bc ∨ b = bn ∨ b = bs) ?hRd ?hC ?hI (fun c => fun _ _ _ _ h => h.elim) ⟨rfl, Y2n, Zc, Zn, Zs⟩ ?hround ?hdone ?hstop
        case hRd => exact fun pre C X h => h.2.2
        case hC =>
          rintro pre C X ⟨rfl, h1, h2, h3, h4⟩ b hb
          have l1 := h1.lt; have l2 := h2.lt; have l3 := h3.lt; have l4 := h4.lt
          rcases hb with rfl | rfl | rfl | rfl <;> omega
        case hI =>
          rintro pre C A B ⟨rfl, h1, h2, h3, h4⟩ hb
          exact ⟨rfl, h1.but hb (fun h => h.2 (.inl rfl)), h2.but hb (fun h => h.2 (.inr (.inl rfl))), h3.but hb (fun h => h.2 (.inr (.inr (.inl rfl)))), h4.but hb (fun h => h.2 (.inr (.inr (.inr rfl))))⟩
        case hround =>
          rintro l pre x C X hl hl' hnl ⟨rec2, hrec2⟩ ⟨rfl, Yn, h2, h3, h4⟩ hX hgC hpre
          unfold Round
          dsimp only [encN]
          gi_wp2_with fail
          refine ⟨Below.refl _ _, ?_⟩
          intro X₂ hb2 hs2 r2 hr2
          have hn0 : l ≠ w1.heap.size + 1 ∧ l ≠ bc ∧ l ≠ bn ∧ l ≠ bs := ⟨fun e => hnl (.inl e), fun e => hnl (.inr (.inl e)), fun e => hnl (.inr (.inr (.inl e))), fun e => hnl (.inr (.inr (.inr e)))⟩
          obtain ⟨n1, n2, n3, n4⟩ := hn0
          have Yn2 := Yn.but hb2 (fun e => n1 e.symm); have g2 := h2.but hb2 (fun e => n2 e.symm); have g3 := h3.but hb2 (fun e => n3 e.symm); have g4 := h4.but hb2 (fun e => n4 e.symm)
          have hpl := hpre.length_le
          simp only [List.length_append, List.length_cons, List.length_nil] at hpl
          have x0 := Yn2.at_ 0 rfl; have xf := Yn2.free; have xl := Yn2.lt
          have hq : (T : Int) + ((pre ++ [x]).length : Int) = ((T + pre.length : Nat) : Int) + 1 := by simp; omega
          have hbd : T + pre.length + 1 ≤ 100000 := by omega
          have HQ := hid hq
          clear hq n1 n2 n3 n4 Yn h2 h3 h4 hb2 hs2 hr2 r2 hnl hgC hX hpre hrec2 hdl
          generalize T + pre.length = tp at *
          gi_wp2
          have Y4 := Yn2.set_ 0 (by simp) (.int .i64 ((tp : Int) + 1))
          have e1 : ¬ bc = w1.heap.size + 1 := by omega
          have e2 : ¬ bn = w1.heap.size + 1 := by omega
          have e3 : ¬ bs = w1.heap.size + 1 := by omega
          exact ⟨_, (But.refl _ _).set_ (.inl rfl) _, Grw.refl _ _, rfl, by rw [HQ.out]; exact Y4, g2.far (fun h => e1 h.symm) _, g3.far (fun h => e2 h.symm) _, g4.far (fun h => e3 h.symm) _⟩
        case hdone =>
          rintro D C X hD hnD ⟨rfl, Yn, _⟩ hbut hgC hdef
          have Y5c := Y2c.but hbut (fun h => by omega)
          have hown5 := own_butN hown4 hbut (fun g hg h => by have := ob g hg; have := ol g hg; omega)
          have hs5 := hbut.size
          have hb5 : Below w.heap.size w X := hW4.trans ⟨hbut.os, hbut.tape, hbut.output, hbut.size, fun b hb => hbut.block b (by have := hW4.size; omega) (fun h => by omega)⟩
          have hds5 : ∀ E ∈ ds, w1.heap.size + 1 + 1 ≤ E ∧ X.heap[E]? = some (.deferred (some [])) := fun E hE => by
            obtain ⟨d1, d2, d3⟩ := hds4 E hE
            exact ⟨d1, (hbut.block E (by omega) (fun h => by omega)).trans d3⟩
          gi_wp2
          have hnd5 : (D :: ds).Nodup := List.nodup_cons.2 ⟨fun hE => (by have := (hds4 D hE).2.1; omega), hnd⟩
          rw [HI.out]
          refine ⟨⟨k + 1, D :: ds, _, _, _, _, _, _, _, _, rfl, by omega, by rw [HT1.out, ← HND.out]; exact Yn, Y5c, hown5, hb5, hnd5, fun E hE => ?_⟩, ?_⟩
          · rcases List.mem_cons.1 hE with rfl | hE
            · exact ⟨by omega, hdef⟩
            · exact hds5 E hE
          · simp [intOf]; omega
        case hstop =>
          rintro Dd c pre C X hDd hnD hpre h
          exact h.elim
      · obtain rfl : k = L.length := (by omega)
        have x0 := X2n.at_ 0 rfl; have lx := X2n.lt
        have hT1 : trafL Wd Hd o no (L.take L.length) = trafL Wd Hd o no (nodeL o no 8) := by rw [List.take_length, HL.out]
        have HT1 := hid hT1; clear hT1
        generalize trafL Wd Hd o no (L.take L.length) = T at *
        gi_wp2
        refine leaves_all ds _ hnd (fun D hD => (hds D hD).2) (fun w5 hb5 => ?_)
        have hb6 : Below w.heap.size w w5 := hB3.trans ⟨hb5.os, hb5.tape, hb5.output, hb5.size, fun b hb => hb5.block b (by have := hB3.size; omega) (fun h => by have := (hds b h).1; omega)⟩
        refine ⟨.tuple #[.int .i64 (T : Int), .int .i64 0], by simp [results, Tryz.results25, go_sem], ?_⟩
        rw [HT.out, ← HT1.out]
        exact ⟨rfl, hb6⟩
end Go.Proofs.YtmmjaobpoiofdaaGreat
namespace Go.Proofs.YtmmjaobpoiofdaaGreat
open Go Go.RowKit
set_option linter.unusedVariables false
def awakeO (k : Nat) : Int := [0, 0, 1, 1].getD k 0
theorem awake_valid : validM ((4 : Nat) : Int) ((1 : Nat) : Int) 4 (fun _ => C4.zero) 4 awakeO = true := by
  rw [validM_iff, validG_iff]
  refine ⟨⟨by decide, by decide, by decide, by decide, by decide, by decide, fun k _ => by decide, by decide⟩, rfl, fun k hk => ?_⟩
  rcases (by omega : k = 0 ∨ k = 1 ∨ k = 2 ∨ k = 3) with rfl | rfl | rfl | rfl <;> decide
theorem awake_traf : trafN ((4 : Nat) : Int) ((1 : Nat) : Int) 4 (fun _ => C4.zero) 4 awakeO = 4 := by
  rw [trafN_yes awake_valid]; decide
set_option maxRecDepth 100000 in
set_option maxHeartbeats 1000000 in
theorem awake_node (w : World) : Calls Tryz.prog 8 #[] w fun e w' => e = .returned (.bool true) ∧ Below w.heap.size w w' := by
  have hmk := fun W => mk_cells 4 4 rfl (by omega) W
  have S1 := ((roC_made w 4).alloc (.cells #[.int .i64 0, .int .i64 0, .int .i64 1, .int .i64 1] 3)).sc
  have S2 : Sl ((w.alloc (.cells (ccells 4) 80)).alloc (.cells #[.int .i64 0, .int .i64 0, .int .i64 1, .int .i64 1] 3)) (some ⟨w.heap.size + 1, 0, none⟩) 4 awakeO := fun k hk => by
    refine ⟨w.heap.size + 1, 0, rfl, by simp, ?_⟩
    have h := cell_new (w.alloc (.cells (ccells 4) 80)) #[.int .i64 0, .int .i64 0, .int .i64 1, .int .i64 1] 3 k (.int .i64 (awakeO k))
    rw [World.size_alloc] at h
    rw [Nat.zero_add]
    refine h ?_
    rcases (by omega : k = 0 ∨ k = 1 ∨ k = 2 ∨ k = 3) with rfl | rfl | rfl | rfl <;> rfl
  have ht := node_Traffic ((4 : Nat) : Int) ((1 : Nat) : Int) _ _ 4 4 4 4 _ _ _ (by omega) (by omega) S1 S2
  rw [awake_traf, awake_valid] at ht
  have hB := balloc (below_alloc w (.cells (ccells 4) 80)) (.cells #[.int .i64 0, .int .i64 0, .int .i64 1, .int .i64 1] 3)
  generalize hcc : ccells 4 = cc at *
  clear S1 S2 hcc
  go_enter Tryz.func8, Tryz.ntmps8
  go_wp2_with fail
  refine ht.mono ?_
  rintro e w1 ⟨rfl, hb1⟩
  go_wp2
  go_ret
  exact ⟨rfl, bvia hB hb1⟩
end Go.Proofs.YtmmjaobpoiofdaaGreat
