/- Walk: how many notes are due in a step, of the reference. Walk: how many notes are due in a step, of the program. Walk: what every law of the nodes ends in is true. -/
import Derived.Test.YteabkcbajpjkoaaGreatDoorPk6
import Derived.RangeFuncLeaves
import Derived.Test.YteabkcbajpjkoaaGreatDoorPk1
import Derived.Test.YteabkcbajpjkoaaGreatDoorPk3
import Derived.Laws.EntriesVeiled
import Derived.Deep.DeepCutAuto
import Derived.Test.YteabkcbajpjkoaaGreatDoorPk2
namespace Go.Proofs.YteabkcbajpjkoaaGreatDoor
open Go Go.RowKit
set_option linter.unusedVariables false
/-- how many notes are due in a step -/
def trafN (wide high : Int) (n : Nat) (g : Nat → C4) (no : Nat) (o : Nat → Int) : Int := if validM wide high n g no o = true then (trafL wide.toNat high.toNat o no (nodeL o no 8) : Int) else 0
theorem trafN_yes {Wd Hd : Nat} {n : Nat} {g : Nat → C4} {no : Nat} {o : Nat → Int} (h : validM Wd Hd n g no o = true) : trafN Wd Hd n g no o = (trafL Wd Hd o no (nodeL o no 8) : Int) := by
  unfold trafN; rw [if_pos h, Int.toNat_natCast, Int.toNat_natCast]
theorem trafN_no {wide high : Int} {n : Nat} {g : Nat → C4} {no : Nat} {o : Nat → Int} (h : validM wide high n g no o = false) : trafN wide high n g no o = 0 := by
  unfold trafN; rw [h]; rfl
end Go.Proofs.YteabkcbajpjkoaaGreatDoor
namespace Go.Proofs.YteabkcbajpjkoaaGreatDoor
open Go Go.RowKit
attribute [local go_sem] Oper.semAt_some
set_option linter.unusedVariables false
/-- a function that leaves with marks alone -/
theorem leaves_all {F : Fence} {n : Nat} {P : Program} {fn : Func} {tmps : Array Value} {R : Ending → World → Prop} : ∀ (ds : List Nat) (w : World), ds.Nodup → (∀ D ∈ ds, w.heap[D]? = some (.deferred (some []))) →
    (∀ w', But (fun b => b ∈ ds) w w' → LeavesIn F n P fn tmps R [] .returning w') → LeavesInM F n P fn tmps R (ds.map fun D => { target := .collected D, args := #[] }) .returning w
  | [], w, _, _, h => h w (But.refl _ _)
  | D :: ds, w, hn, hd, h => by
    rw [List.nodup_cons] at hn
    refine ⟨by simp, .inl ⟨D, _, rfl, run_takeDeferred (hd D (List.mem_cons_self ..)), leaves_all ds _ hn.2 (fun E hE => ?_) (fun w' hb => h w' ?_)⟩⟩
    · rw [World.putObj_heap_other (fun e => hn.1 (by first | (rw [← e]; exact hE) | (rw [e]; exact hE)))]
      exact hd E (List.mem_cons_of_mem _ hE)
    · exact ((but_putObj w D (.deferred none)).mono (D := fun b => b ∈ D :: ds) (fun b _ e => by rw [e]; exact List.mem_cons_self ..)).trans (hb.mono fun b _ e => List.mem_cons_of_mem _ e)
set_option maxRecDepth 100000 in
set_option maxHeartbeats 4000000 in
theorem node_Traffic (wide high : Int) (a ao : Option Addr) (n no c co : Nat) (g : Nat → C4) (o : Nat → Int) (w : World) (hn : n ≤ 100000000) (hno : no ≤ 100000000) (H : Sc w a n g) (HO : Sl w ao no o) :
    Calls Tryz.prog 10 #[.agg #[.int .i64 wide, .int .i64 high, .slice a n c], .slice ao no co] w
    fun e w' => e = .returned (.tuple #[.int .i64 (trafN wide high n g no o), .int .i64 (errR (validM wide high n g no o) 1)]) ∧ Below w.heap.size w w' := by
  have I := H.alloc (.cells #[.int .i64 wide, .int .i64 high, .slice a n c] 36)
  have IO := HO.alloc (.cells #[.int .i64 wide, .int .i64 high, .slice a n c] 36)
  have X := Bx.new w #[.int .i64 wide, .int .i64 high, .slice a n c] 36
  cases hv : validM wide high n g no o
  · have HT := hid (trafN_no hv)
    go_enter Tryz.func10, Tryz.ntmps10
    go_wp2_with (go_at_call 23; refine (node_ValidMap wide high _ _ n no _ _ g o _ hn hno I IO).mono ?_; rintro e w1 ⟨rfl, hb1⟩; rw [hv])
    go_ret2
    rw [HT.out]
    exact ⟨rfl, bvia (by (repeat' (first | with_reducible assumption | with_reducible exact Below.refl _ _ | with_reducible refine Below.drew ?_ | with_reducible refine below_drewN ?_ _ | with_reducible refine balloc ?_ _ | with_reducible refine bset ?_ ?_ _ | with_reducible refine Below.setCell ?_ ?_ _ | with_reducible refine Below.alloc ?_ ?_ _ | omega | (simp; done) | (simp; omega)))) hb1⟩
  · obtain ⟨Wd, Hd, rfl, rfl, p1, p2, u1, u2, hnn, hn4, hoo, hob, _, _⟩ := validM_sides hv
    have HT := hid (trafN_yes hv)
    have hnW : no = Wd * Hd := by omega
    have HNW := hid hnW
    have HNN := hid hnn
    have hno4 : no ≤ 1024 := by omega
    have hnd := fun W S => node_nodes Wd Hd a ao n c no co o W (by rw [hnW]; exact Nat.mul_pos p1 u1) (by omega) (fun k hk => hob k (by omega)) S
    clear hnn hoo hnW
    unfold cluV at hnd
    have HND := hid hnd; clear hnd
    refine callsIn_wide.1 (callsIn_of_wp_marks (F := Fence.wide) (n := 0) Tryz.func10 rfl trivial ?_ rfl)
    simp only [Tryz.ntmps10, List.size_toArray, List.length_cons, List.length_nil, Nat.reduceAdd, Nat.reduceSub, Array.replicate_succ, Array.replicate_zero, List.push_toArray, List.append_toArray, List.nil_append, List.cons_append]
    gi_wp2_with fail
    refine ⟨trivial, rfl, callsIn_wide.2 ((node_ValidMap _ _ _ _ n no _ _ g o _ hn hno I IO).mono ?_)⟩
    rintro e w1 ⟨rfl, hb1⟩
    rw [hv]
    have hB1 : Below w.heap.size w w1 := bvia (by (repeat' (first | with_reducible assumption | with_reducible exact Below.refl _ _ | with_reducible refine Below.drew ?_ | with_reducible refine below_drewN ?_ _ | with_reducible refine balloc ?_ _ | with_reducible refine bset ?_ ?_ _ | with_reducible refine Below.setCell ?_ ?_ _ | with_reducible refine Below.alloc ?_ ?_ _ | omega | (simp; done) | (simp; omega)))) hb1
    have X1 := X.below hb1
    have x0 := X1.at_ 0 rfl; have x1 := X1.at_ 1 rfl; have x2 := X1.at_ 2 rfl; have lx := X1.lt
    have S1 := HO.below hB1
    clear hb1 I IO
    have hnd := fun W S => HND.out W S
    gi_wp2_with fail
    have Xc := (Bx.new w1 #[.int .i64 Wd, .int .i64 Hd, .slice a n c, .slice ao no co] 61).alloc (.cells #[.int .i64 0] 3)
    have Xn := Bx.new (w1.alloc (.cells #[.int .i64 Wd, .int .i64 Hd, .slice a n c, .slice ao no co] 61)) #[.int .i64 0] 3
    have S2 := (S1.alloc (.cells #[.int .i64 Wd, .int .i64 Hd, .slice a n c, .slice ao no co] 61)).alloc (.cells #[.int .i64 0] 3)
    have hB2 := balloc (balloc hB1 (.cells #[.int .i64 Wd, .int .i64 Hd, .slice a n c, .slice ao no co] 61)) (.cells #[.int .i64 0] 3)
    rw [World.size_alloc] at Xn
    refine ⟨trivial, rfl, callsIn_wide.2 ((hnd _ S2).mono ?_)⟩
    rintro e w2 ⟨v, rfl, hown, hb2⟩
    obtain ⟨al, cl, rfl, _⟩ := sl_of_own hown
    clear hnd
    have X2c := Xc.below hb2; have X2n := Xn.below hb2
    have hB3 := bvia hB2 hb2
    have hs2 := hb2.size
    have hs1 := hB1.size
    simp only [World.size_alloc] at hs2 hown
    obtain ⟨L, hL⟩ : ∃ L, L = nodeL o no 8 := ⟨_, rfl⟩
    have hLn : L.length ≤ 8 := by rw [hL]; exact nodeL_length _ _ _
    have htl := trafL_le Wd Hd o no
    rw [← hL] at hown
    gi_wp2_with fail
    rw [← hL]
    have HL := hid hL; clear hL x0 x1 x2 X1 S1 S2 hB1 hB2 Xc Xn hb2
    obtain ⟨I, hI⟩ : ∃ I : Act → World → Prop, I = fun a' w' => ∃ (k : Nat) (ds : List Nat) (u9 u21 u22 u23 u24 u25 u26 u30 : Value), a' = { tmps := #[.agg #[.int .i64 Wd, .int .i64 Hd, .slice a n c], .slice ao no co, .pointer (some ⟨w.heap.size, 0, none⟩), undef, .int .i64 0, .int .i64 0, .pointer (some ⟨w1.heap.size, 0, none⟩), .pointer (some ⟨w1.heap.size + 1, 0, none⟩), undef, u9, .agg #[.int .i64 Wd, .int .i64 Hd, .slice a n c], .slice ao no co, .bool true, .bool false, .agg #[.int .i64 Wd, .int .i64 Hd, .slice a n c], .slice ao no co, .agg #[.int .i64 Wd, .int .i64 Hd, .slice a n c, .slice ao no co], .agg #[.int .i64 Wd, .int .i64 Hd, .slice a n c, .slice ao no co], .slice al L.length cl, .int .i64 L.length, .int .i64 k, u21, u22, u23, u24, u25, u26, undef, undef, undef, u30, undef], defers := ds.map fun D => { target := .collected D, args := #[] } } ∧ k ≤ L.length ∧ Bx w' (w1.heap.size + 1) #[.int .i64 (trafL Wd Hd o no (L.take k) : Nat)] ∧ Bx w' w1.heap.size #[.int .i64 Wd, .int .i64 Hd, .slice a n c, .slice ao no co] ∧ w'.ownsRow (w1.heap.size + 1 + 1) 3 1 (.slice al L.length cl) L.length (L.map vInt) ∧ Below w.heap.size w w' ∧ ds.Nodup ∧
          (∀ D ∈ ds, w1.heap.size + 1 + 1 ≤ D ∧ w'.heap[D]? = some (.deferred (some []))) := ⟨_, rfl⟩
    refine wpIn_loop I (fun a' _ => L.length - (intOf (a'.tmps.getD 20 undef)).toNat) ?_ ?_
    · rw [hI]
      exact ⟨0, [], _, _, _, _, _, _, _, _, rfl, Nat.zero_le _, X2n, X2c, hown, hB3, List.nodup_nil, fun D h => by cases h⟩
    · clear X2n X2c hown hB3
      intro a' w' hr
      rw [hI] at hr
      have HI := hid hI; clear hI
      obtain ⟨k, ds, u9, u21, u22, u23, u24, u25, u26, u30, rfl, hk, X2n, X2c, hown, hB3, hnd, hds⟩ := hr
      by_cases hlt : k < L.length
      · have hT1 : trafL Wd Hd o no (L.take (k + 1)) = trafL Wd Hd o no (L.take k) + (dueL Wd Hd o (L.getD k 0) 1 no).length := by rw [take_getD hlt, trafL_snoc]
        have htk := htl (L.take k)
        rw [List.length_take, Nat.min_eq_left hk] at htk
        have hk8 : k * (4 * no) ≤ 8 * (4 * 1024) := Nat.mul_le_mul (by omega) (by omega)
        generalize trafL Wd Hd o no (L.take k) = T at *
        have HT1 := hid hT1; clear hT1
        obtain ⟨av', cv', hv', Sv⟩ := sl_of_own hown
        injection hv' with hv1 hv2 hv3
        subst hv1
        subst hv3
        obtain ⟨bv, ov, rfl, hbv, cv0⟩ := Sv k hlt
        dsimp only at cv0
        clear hv2 Sv
        have c0 := X2c.at_ 0 rfl; have c1 := X2c.at_ 1 rfl; have c2 := X2c.at_ 2 rfl; have c3 := X2c.at_ 3 rfl; have lc := X2c.lt
        obtain ⟨nd, hnd'⟩ : ∃ nd, nd = L.getD k 0 := ⟨_, rfl⟩
        rw [← hnd'] at cv0
        have HND := hid hnd'; clear hnd'
        have hdue := node_due Wd Hd a ao n c no co nd 1 w'
        unfold cluV at hdue
        gi_wp2_with fail
        refine ⟨trivial, rfl, callsIn_wide.2 (hdue.mono ?_)⟩
        rintro e w4 ⟨bc, bn, bs, rfl, Zc, Zn, Zs, ⟨zc, zn, zs⟩, hb4⟩
        clear hdue c0 c1 c2 c3 cv0
        gi_wp2_with fail
        have hW4 : Below w.heap.size w w4 := bvia hB3 hb4
        have Y2n := X2n.below hb4; have Y2c := X2c.below hb4
        have hown4 := own_below hown hb4
        have hs4 := hb4.size
        have hds4 : ∀ D ∈ ds, w1.heap.size + 1 + 1 ≤ D ∧ D < w'.heap.size ∧ w4.heap[D]? = some (.deferred (some [])) := fun D hD => by
          obtain ⟨d1, d2⟩ := hds D hD
          have d3 := (Array.getElem?_eq_some_iff.1 d2).1
          exact ⟨d1, d3, (hb4.block D d3).trans d2⟩
        have hdl := dueL_length Wd Hd o nd 1 no
        have ob := own_base hown4
        have ol := own_lt hown
        have lx2 := X2n.lt
        clear hds hown X2n X2c hb4 hB3
        refine wp_rangeR rfl ent_due (due_iterR Wd Hd a ao n c no co o nd 1 bc bn bs w ⟨p1, p2⟩ ⟨u1, u2⟩ HNW.out HO) hW4 (fun _ => rfl)
          (fun pre C X => C = (fun b => b = w1.heap.size + 1 ∨ b = bc ∨ b = bn ∨ b = bs) ∧ Bx X (w1.heap.size + 1) #[.int .i64 (T + pre.length : Nat)] ∧ DueRd (cluV Wd Hd a ao n c no co) nd 1 bc bn bs X)
          (fun _ _ _ _ => False) (fun b => b = w1.heap.size + 1 ∨ b = bc ∨ b = bn ∨ b = bs) ?hRd ?hC ?hI (fun c => fun _ _ _ _ h => h.elim) ⟨rfl, Y2n, Zc, Zn, Zs⟩ ?hround ?hdone ?hstop
        case hRd => exact fun pre C X h => h.2.2
        case hC =>
          rintro pre C X ⟨rfl, h1, h2, h3, h4⟩ b hb
          have l1 := h1.lt; have l2 := h2.lt; have l3 := h3.lt; have l4 := h4.lt
          rcases hb with rfl | rfl | rfl | rfl <;> omega
        case hI =>
          rintro pre C A B ⟨rfl, h1, h2, h3, h4⟩ hb
          exact ⟨rfl, h1.but hb (fun h => h.2 (.inl rfl)), h2.but hb (fun h => h.2 (.inr (.inl rfl))), h3.but hb (fun h => h.2 (.inr (.inr (.inl rfl)))), h4.but hb (fun h => h.2 (.inr (.inr (.inr rfl))))⟩
        case hround =>
          rintro l pre x C X hl hl' hnl ⟨rec2, hrec2⟩ ⟨rfl, Yn, h2, h3, h4⟩ hX hgC hpre
          unfold Round
          dsimp only [encN]
          gi_wp2_with fail
          refine ⟨Below.refl _ _, ?_⟩
          intro X₂ hb2 hs2 r2 hr2
          have hn0 : l ≠ w1.heap.size + 1 ∧ l ≠ bc ∧ l ≠ bn ∧ l ≠ bs := ⟨fun e => hnl (.inl e), fun e => hnl (.inr (.inl e)), fun e => hnl (.inr (.inr (.inl e))), fun e => hnl (.inr (.inr (.inr e)))⟩
          obtain ⟨n1, n2, n3, n4⟩ := hn0
          have Yn2 := Yn.but hb2 (fun e => n1 e.symm); have g2 := h2.but hb2 (fun e => n2 e.symm); have g3 := h3.but hb2 (fun e => n3 e.symm); have g4 := h4.but hb2 (fun e => n4 e.symm)
          have hpl := hpre.length_le
          simp only [List.length_append, List.length_cons, List.length_nil] at hpl
          have x0 := Yn2.at_ 0 rfl; have xf := Yn2.free; have xl := Yn2.lt
          have hq : (T : Int) + ((pre ++ [x]).length : Int) = ((T + pre.length : Nat) : Int) + 1 := by simp; omega
          have hbd : T + pre.length + 1 ≤ 100000 := by omega
          have HQ := hid hq
          clear hq n1 n2 n3 n4 Yn h2 h3 h4 hb2 hs2 hr2 r2 hnl hgC hX hpre hrec2 hdl
          generalize T + pre.length = tp at *
          gi_wp2
          have Y4 := Yn2.set_ 0 (by simp) (.int .i64 ((tp : Int) + 1))
          have e1 : ¬ bc = w1.heap.size + 1 := by omega
          have e2 : ¬ bn = w1.heap.size + 1 := by omega
          have e3 : ¬ bs = w1.heap.size + 1 := by omega
          exact ⟨_, (But.refl _ _).set_ (.inl rfl) _, Grw.refl _ _, rfl, by rw [HQ.out]; exact Y4, g2.far (fun h => e1 h.symm) _, g3.far (fun h => e2 h.symm) _, g4.far (fun h => e3 h.symm) _⟩
        case hdone =>
          rintro D C X hD hnD ⟨rfl, Yn, _⟩ hbut hgC hdef
          have Y5c := Y2c.but hbut (fun h => by omega)
          have hown5 := own_butN hown4 hbut (fun g hg h => by have := ob g hg; have := ol g hg; omega)
          have hs5 := hbut.size
          have hb5 : Below w.heap.size w X := hW4.trans ⟨hbut.os, hbut.tape, hbut.output, hbut.size, fun b hb => hbut.block b (by have := hW4.size; omega) (fun h => by omega)⟩
          have hds5 : ∀ E ∈ ds, w1.heap.size + 1 + 1 ≤ E ∧ X.heap[E]? = some (.deferred (some [])) := fun E hE => by
            obtain ⟨d1, d2, d3⟩ := hds4 E hE
            exact ⟨d1, (hbut.block E (by omega) (fun h => by omega)).trans d3⟩
          gi_wp2
          have hnd5 : (D :: ds).Nodup := List.nodup_cons.2 ⟨fun hE => (by have := (hds4 D hE).2.1; omega), hnd⟩
          rw [HI.out]
          refine ⟨⟨k + 1, D :: ds, _, _, _, _, _, _, _, _, rfl, by omega, by rw [HT1.out, ← HND.out]; exact Yn, Y5c, hown5, hb5, hnd5, fun E hE => ?_⟩, ?_⟩
          · rcases List.mem_cons.1 hE with rfl | hE
            · exact ⟨by omega, hdef⟩
            · exact hds5 E hE
          · simp [intOf]; omega
        case hstop =>
          rintro Dd c pre C X hDd hnD hpre h
          exact h.elim
      · obtain rfl : k = L.length := (by omega)
        have x0 := X2n.at_ 0 rfl; have lx := X2n.lt
        have hT1 : trafL Wd Hd o no (L.take L.length) = trafL Wd Hd o no (nodeL o no 8) := by rw [List.take_length, HL.out]
        have HT1 := hid hT1; clear hT1
        generalize trafL Wd Hd o no (L.take L.length) = T at *
        gi_wp2
        refine leaves_all ds _ hnd (fun D hD => (hds D hD).2) (fun w5 hb5 => ?_)
        have hb6 : Below w.heap.size w w5 := hB3.trans ⟨hb5.os, hb5.tape, hb5.output, hb5.size, fun b hb => hb5.block b (by have := hB3.size; omega) (fun h => by have := (hds b h).1; omega)⟩
        refine ⟨.tuple #[.int .i64 (T : Int), .int .i64 0], by simp [results, Tryz.results10, go_sem], ?_⟩
        rw [HT.out, ← HT1.out]
        exact ⟨rfl, hb6⟩
end Go.Proofs.YteabkcbajpjkoaaGreatDoor
namespace Go.Proofs.YteabkcbajpjkoaaGreatDoor
open Go Go.RowKit
set_option linter.unusedVariables false
def awakeO (k : Nat) : Int := [0, 0, 1, 1].getD k 0
theorem awake_valid : validM ((4 : Nat) : Int) ((1 : Nat) : Int) 4 (fun _ => C4.zero) 4 awakeO = true := by
  rw [validM_iff, validG_iff]
  refine ⟨⟨by decide, by decide, by decide, by decide, by decide, by decide, fun k _ => by decide, by decide⟩, rfl, fun k hk => ?_⟩
  rcases (by omega : k = 0 ∨ k = 1 ∨ k = 2 ∨ k = 3) with rfl | rfl | rfl | rfl <;> decide
theorem awake_traf : trafN ((4 : Nat) : Int) ((1 : Nat) : Int) 4 (fun _ => C4.zero) 4 awakeO = 4 := by
  rw [trafN_yes awake_valid]; decide
set_option maxRecDepth 100000 in
set_option maxHeartbeats 1000000 in
theorem awake_node (w : World) : Calls Tryz.prog 4 #[] w fun e w' => e = .returned (.bool true) ∧ Below w.heap.size w w' := by
  have hmk := fun W => mk_cells 4 4 rfl (by omega) W
  have S1 := ((roC_made w 4).alloc (.cells #[.int .i64 0, .int .i64 0, .int .i64 1, .int .i64 1] 3)).sc
  have S2 : Sl ((w.alloc (.cells (ccells 4) 92)).alloc (.cells #[.int .i64 0, .int .i64 0, .int .i64 1, .int .i64 1] 3)) (some ⟨w.heap.size + 1, 0, none⟩) 4 awakeO := fun k hk => by
    refine ⟨w.heap.size + 1, 0, rfl, by simp, ?_⟩
    have h := cell_new (w.alloc (.cells (ccells 4) 92)) #[.int .i64 0, .int .i64 0, .int .i64 1, .int .i64 1] 3 k (.int .i64 (awakeO k))
    rw [World.size_alloc] at h
    rw [Nat.zero_add]
    refine h ?_
    rcases (by omega : k = 0 ∨ k = 1 ∨ k = 2 ∨ k = 3) with rfl | rfl | rfl | rfl <;> rfl
  have ht := node_Traffic ((4 : Nat) : Int) ((1 : Nat) : Int) _ _ 4 4 4 4 _ _ _ (by omega) (by omega) S1 S2
  rw [awake_traf, awake_valid] at ht
  have hB := balloc (below_alloc w (.cells (ccells 4) 92)) (.cells #[.int .i64 0, .int .i64 0, .int .i64 1, .int .i64 1] 3)
  generalize hcc : ccells 4 = cc at *
  clear S1 S2 hcc
  go_enter Tryz.func4, Tryz.ntmps4
  go_wp2_with fail
  refine ht.mono ?_
  rintro e w1 ⟨rfl, hb1⟩
  go_wp2
  go_ret
  exact ⟨rfl, bvia hB hb1⟩
end Go.Proofs.YteabkcbajpjkoaaGreatDoor
/- The walk of the law NodeTexts. -/
namespace Go.Proofs.YteabkcbajpjkoaaGreatDoor
open Go Go.RowKit
set_option linter.unusedVariables false
set_option linter.unusedSimpArgs false
def PrsAns (er ln : Int) (xs : List N6) (w : World) (e : Ending) (w' : World) : Prop :=
  ∃ (a : Option Addr) (c : Nat), e = .returned (.tuple #[.slice a xs.length c, .int .i64 ln, .int .i64 er]) ∧ Sn w' a xs.length (fun k => xs.getD k N6.zero) ∧ Below w.heap.size w w'
theorem prsN_ans {s : List UInt8} {er ln : Int} {xs : List N6} {w w' : World} {e : Ending} (hr : PrsRel s er ln xs) (h : PrsPostN s w e w') : PrsAns er ln xs w e w' := by
  obtain ⟨er', ln', xs', a, c, hr', he, hs, hb⟩ := h
  obtain ⟨rfl, rfl, rfl⟩ := prs_uniq hr' hr
  exact ⟨a, c, he, hs, hb⟩
/-- every text has its answer -/
theorem prs_ex (s : List UInt8) : ∃ er ln xs, PrsRel s er ln xs := by
  by_cases hl : 65536 < s.length
  · exact ⟨3, 0, [], .inl ⟨hl, rfl, rfl, rfl⟩⟩
  have key : ∀ (n : Nat) (xs : List N6) (r : List UInt8), r.length ≤ n → RdN s xs r → ∃ er ln ys, PrsRel s er ln ys := by
    intro n
    induction n with
    | zero =>
      intro xs r hr h
      obtain rfl : r = [] := List.length_eq_zero_iff.1 (by omega)
      exact ⟨0, 0, xs, h.done (by omega)⟩
    | succ n ih =>
      intro xs r hr h
      by_cases h0 : r = []
      · subst h0; exact ⟨0, 0, xs, h.done (by omega)⟩
      rcases words_cases 10 r with hm | ⟨p, t, rfl, hm⟩
      · exact ⟨2, _, [], h.torn (by omega) h0 hm⟩
      · by_cases hx : ∃ x, lineN p x
        · obtain ⟨x, hx⟩ := hx
          exact ih (xs ++ [x]) t (by simp at hr; omega) (h.more hm hx)
        · exact ⟨2, _, [], h.bad (by omega) hm fun x h' => hx ⟨x, h'⟩⟩
  exact key s.length [] s (Nat.le_refl _) ⟨fun x hx => by simp at hx, by simp⟩
theorem prs_len {s : List UInt8} {er ln : Int} {xs : List N6} (h : PrsRel s er ln xs) : xs.length ≤ 65536 := by
  rcases h with ⟨_, _, _, rfl⟩ | ⟨hl, ⟨h, _, _⟩ | ⟨_, _, _, _, rfl⟩⟩
  · simp
  · have := prs_fmt h
    have h2 := fmtF_ge (fun k => xs.getD k N6.zero) xs.length
    rw [this] at h2
    omega
  · simp
theorem prs_zero {s : List UInt8} {ln : Int} {xs : List N6} (h : PrsRel s 0 ln xs) : fmtN (fun k => xs.getD k N6.zero) xs.length = s ∧ ∀ k, k < xs.length → wfN (xs.getD k N6.zero) := by
  rcases h with ⟨_, h, _, _⟩ | ⟨hl, ⟨h, _, _⟩ | ⟨_, _, h, _, _⟩⟩
  · cases h
  · exact ⟨fmtN_ok hl h, fun k hk => okN_wf (h.2.1 k hk).1⟩
  · cases h
set_option maxRecDepth 100000 in
set_option maxHeartbeats 8000000 in
theorem walk_texts (a : Option Addr) (q c : Nat) (p : Nat → N6) (s : List UInt8) (w : World) (hq : q ≤ maxLen) (SP : Sn w a q p) (hw : ∀ k, k < q → wfN (p k)) (HE : EnvS w) (HT : Lib.TabIs Tryz.prog w "internal/strconv.uint64pow10" .u64 Lib.pow10Tab) :
    Calls Tryz.prog 3 #[.slice a q c, .string ⟨s.toArray⟩] w fun e w' => e = .returned (.bool true) ∧ Below w.heap.size w w' := by
  by_cases h4 : 400 < q
  · have q1 : (400 : Int) < (q : Int) := by omega
    go_enter Tryz.func3, Tryz.ntmps3
    go_wp2_with fail
    have hB0 := Below.refl w.heap.size w
    refine (awake_node _).mono ?_
    rintro e w9 ⟨rfl, hb9⟩
    go_wp2
    go_ret
    exact ⟨rfl, bvia hB0 hb9⟩
  have q1 : ¬ (400 : Int) < (q : Int) := by omega
  have hn := fun W HE HT => node_Parse s W HE HT
  have hr := fun W => ref5_Parse s W
  obtain ⟨er, ln, xs, hrel⟩ := prs_ex s
  have hn2 := fun W HE HT => (hn W HE HT).mono fun _ _ => prsN_ans hrel
  have hr2 := fun W => (hr W).mono fun _ _ => prsN_ans hrel
  have hxl := prs_len hrel
  have HZ := hid (fun (h : er = 0) => prs_zero (h ▸ hrel))
  have hsn := fun a b ca cb W S S' => ref5_SameNotes a b xs.length xs.length ca cb (fun k => xs.getD k N6.zero) (fun k => xs.getD k N6.zero) W (by omega) (by omega) S S'
  rw [sameN_self] at hsn
  have hfn := fun W S HT => node_Format a q c p W S hw HT
  have hfr := fun W S => ref5_Format a q c p W S hw
  obtain ⟨T, hTT⟩ : ∃ T, fmtN p q = T := ⟨_, rfl⟩
  rw [hTT] at hfn hfr
  have HTT := hid hTT
  have HW := hid hw
  clear hn hr hrel hTT hw
  unfold PrsAns at hn2 hr2
  have hszs := vStr_size s
  cases he : (er == 0)
  · skip
    go_enter Tryz.func3, Tryz.ntmps3
    go_wp2_with fail
    refine (hn2 _ HE HT).mono ?_
    rintro e w1 ⟨a1, c1, rfl, S1, hb1⟩
    have hB1 := bvia (Below.refl w.heap.size w) hb1
    go_wp2_with fail
    refine (hr2 _).mono ?_
    rintro e w2 ⟨a2, c2, rfl, S2, hb2⟩
    replace S1 := S1.below hb2
    have hB2 := bvia hB1 hb2
    go_wp2_with fail
    refine (hsn a1 a2 c1 c2 _ S1 S2).mono ?_
    rintro e w3 ⟨rfl, hb3⟩
    replace S1 := S1.below hb3
    have hB3 := bvia hB2 hb3
    clear S2 hn2 hr2 hsn hB1 hB2 hb1 hb2 hb3
    go_wp2_with fail
    refine (hfn _ (SP.below hB3) (tab_below HT hB3)).mono ?_
    rintro e w5 ⟨rfl, hb5⟩
    have hB5 := bvia hB3 hb5
    go_wp2_with fail
    refine (hfr _ (SP.below hB5)).mono ?_
    rintro e w6 ⟨rfl, hb6⟩
    have hB6 := bvia hB5 hb6
    clear hfn hfr hB3 hB5 hb5 hb6
    go_wp2_with fail
    go_loopw [12] (fun i wr => ∃ k : Nat, k ≤ q ∧ i = .int .i64 (k : Int) ∧ (∀ j, j < k → ∀ d, d < 6 → (p j).get d ≤ 1000000000) ∧ Below w.heap.size w wr) (fun i _ => q - (intOf i).toNat)
    case atStart => exact ⟨0, Nat.zero_le _, rfl, fun j hj => by omega, hB6⟩
    case round =>
      obtain ⟨k, hk, rfl, hle, hBr⟩ := hrel
      have HLE := hid hle
      clear hle
      by_cases hlt : k < q
      · have hki : (k : Int) < (q : Int) := by omega
        obtain ⟨b, o, rfl, hbb, hc⟩ := (SP.below hBr) k hlt
        have c0 := hc 0 (by omega); have c1 := hc 1 (by omega); have c2 := hc 2 (by omega); have c3 := hc 3 (by omega); have c4 := hc 4 (by omega); have c5 := hc 5 (by omega)
        simp only [N6.get, Nat.add_zero] at c0 c1 c2 c3 c4 c5
        obtain ⟨x, hx⟩ : ∃ x, p k = x := ⟨_, rfl⟩
        rw [hx] at c0 c1 c2 c3 c4 c5
        have HX := hid hx
        clear hx hc
        by_cases h0 : 1000000000 < x.st
        · skip
          go_wp2_with fail
          refine (awake_node _).mono ?_
          rintro e w9 ⟨rfl, hb9⟩
          go_wp2_with fail
          go_ret
          exact ⟨rfl, bvia (balloc hBr _) hb9⟩
        by_cases h1 : 1000000000 < x.fr
        · skip
          go_wp2_with fail
          refine (awake_node _).mono ?_
          rintro e w9 ⟨rfl, hb9⟩
          go_wp2_with fail
          go_ret
          exact ⟨rfl, bvia (balloc hBr _) hb9⟩
        by_cases h2 : 1000000000 < x.to
        · skip
          go_wp2_with fail
          refine (awake_node _).mono ?_
          rintro e w9 ⟨rfl, hb9⟩
          go_wp2_with fail
          go_ret
          exact ⟨rfl, bvia (balloc hBr _) hb9⟩
        by_cases h3 : 1000000000 < x.ce
        · skip
          go_wp2_with fail
          refine (awake_node _).mono ?_
          rintro e w9 ⟨rfl, hb9⟩
          go_wp2_with fail
          go_ret
          exact ⟨rfl, bvia (balloc hBr _) hb9⟩
        by_cases h4 : 1000000000 < x.di
        · skip
          go_wp2_with fail
          refine (awake_node _).mono ?_
          rintro e w9 ⟨rfl, hb9⟩
          go_wp2_with fail
          go_ret
          exact ⟨rfl, bvia (balloc hBr _) hb9⟩
        by_cases h5 : 1000000000 < x.co
        · skip
          go_wp2_with fail
          refine (awake_node _).mono ?_
          rintro e w9 ⟨rfl, hb9⟩
          go_wp2_with fail
          go_ret
          exact ⟨rfl, bvia (balloc hBr _) hb9⟩
        have HOK := hid (show ∀ d, d < 6 → x.get d ≤ 1000000000 from fun d hd => by
          rcases (by omega : d = 0 ∨ d = 1 ∨ d = 2 ∨ d = 3 ∨ d = 4 ∨ d = 5) with rfl | rfl | rfl | rfl | rfl | rfl <;> simp only [N6.get] <;> omega)
        go_wp2_with fail
        go_roundw
        case rel => exact ⟨k + 1, by omega, by go_num, (fun j hj d hd => by
          rcases Nat.lt_succ_iff_lt_or_eq.1 hj with h | rfl
          · exact HLE.out j h d hd
          · rw [HX.out]; exact HOK.out d hd), balloc hBr _⟩
        case measure => simp [intOf]; omega
      · obtain rfl : k = q := by omega
        have hzT := vStr_size T
        by_cases hT0 : T = []
        · subst hT0
          go_wp2_with fail
          refine (awake_node _).mono ?_
          rintro e w9 ⟨rfl, hb9⟩
          go_wp2_with fail
          go_ret
          exact ⟨rfl, bvia hBr hb9⟩
        have hTe : T.isEmpty = false := by cases T <;> simp_all
        by_cases hTl : 65536 < T.length
        · have iTl : (65536 : Int) < (T.length : Int) := by omega
          go_wp2_with fail
          refine (awake_node _).mono ?_
          rintro e w9 ⟨rfl, hb9⟩
          go_wp2_with fail
          go_ret
          exact ⟨rfl, bvia hBr hb9⟩
        have iTl : ¬ (65536 : Int) < (T.length : Int) := by omega
        have hrl : PrsRel T 0 0 ((List.range k).map p) := by
          have hT := HTT.out
          unfold fmtN at hT
          rw [if_pos (by omega)] at hT
          cases hall : allP p k
          · rw [hall] at hT
            exact absurd hT.symm hT0
          · rw [hall] at hT
            have hT' : fmtF p k = T := hT
            rw [← hT'] at hTl ⊢
            exact .inr ⟨by omega, .inl ⟨fmt_prs fun j hj d hd => ⟨(plain_iff _).1 (List.all_eq_true.1 hall j (List.mem_range.2 hj)) d hd, HLE.out j hj d hd⟩, rfl, rfl⟩⟩
        have hnT := fun W HE HT => (node_Parse T W HE HT).mono fun _ _ => prsN_ans hrl
        unfold PrsAns at hnT
        have hl2 : ((List.range k).map p).length = k := by simp
        have hsn2 := fun a b ca cb W S S' => ref5_SameNotes a b k k ca cb (fun j => ((List.range k).map p).getD j N6.zero) p W (by omega) (by omega) S S'
        rw [show sameN k (fun j => ((List.range k).map p).getD j N6.zero) k p = true from sameN_iff.2 ⟨rfl, fun j hj => by simp [List.getD_eq_getElem?_getD, hj]⟩] at hsn2
        rw [hl2] at hnT
        generalize (fun j => ((List.range k).map p).getD j N6.zero) = F2 at *
        clear hrl hl2 HTT HLE
        go_wp2_with fail
        refine (hnT _ (HE.below hBr) (tab_below HT hBr)).mono ?_
        rintro e w7 ⟨a7, c7, rfl, S7, hb7⟩
        have hB7 := bvia hBr hb7
        go_wp2_with fail
        refine (hsn2 _ _ _ _ _ S7 (SP.below hB7)).mono ?_
        rintro e w8 ⟨rfl, hb8⟩
        have hB8 := bvia hB7 hb8
        go_wp2_with fail
        refine (awake_node _).mono ?_
        rintro e w9 ⟨rfl, hb9⟩
        go_wp2_with fail
        go_ret
        exact ⟨rfl, bvia hB8 hb9⟩
  · have hz0 : er = 0 := by simpa using he
    obtain ⟨z1, z2⟩ := HZ.out hz0
    have Z2 := hid z2
    have hff := fun a1 c1 W S HT => node_Format a1 xs.length c1 (fun k => xs.getD k N6.zero) W S Z2.out HT
    rw [z1] at hff
    clear z1 z2 hz0 Z2
    go_enter Tryz.func3, Tryz.ntmps3
    go_wp2_with fail
    refine (hn2 _ HE HT).mono ?_
    rintro e w1 ⟨a1, c1, rfl, S1, hb1⟩
    have hB1 := bvia (Below.refl w.heap.size w) hb1
    go_wp2_with fail
    refine (hr2 _).mono ?_
    rintro e w2 ⟨a2, c2, rfl, S2, hb2⟩
    replace S1 := S1.below hb2
    have hB2 := bvia hB1 hb2
    go_wp2_with fail
    refine (hsn a1 a2 c1 c2 _ S1 S2).mono ?_
    rintro e w3 ⟨rfl, hb3⟩
    replace S1 := S1.below hb3
    have hB3 := bvia hB2 hb3
    clear S2 hn2 hr2 hsn hB1 hB2 hb1 hb2 hb3
    go_wp2_with fail
    refine (hff a1 c1 _ S1 (tab_below HT hB3)).mono ?_
    rintro e w4 ⟨rfl, hb4⟩
    replace hB3 := bvia hB3 hb4
    clear hff hb4
    go_wp2_with fail
    refine (hfn _ (SP.below hB3) (tab_below HT hB3)).mono ?_
    rintro e w5 ⟨rfl, hb5⟩
    have hB5 := bvia hB3 hb5
    go_wp2_with fail
    refine (hfr _ (SP.below hB5)).mono ?_
    rintro e w6 ⟨rfl, hb6⟩
    have hB6 := bvia hB5 hb6
    clear hfn hfr hB3 hB5 hb5 hb6
    go_wp2_with fail
    go_loopw [12] (fun i wr => ∃ k : Nat, k ≤ q ∧ i = .int .i64 (k : Int) ∧ (∀ j, j < k → ∀ d, d < 6 → (p j).get d ≤ 1000000000) ∧ Below w.heap.size w wr) (fun i _ => q - (intOf i).toNat)
    case atStart => exact ⟨0, Nat.zero_le _, rfl, fun j hj => by omega, hB6⟩
    case round =>
      obtain ⟨k, hk, rfl, hle, hBr⟩ := hrel
      have HLE := hid hle
      clear hle
      by_cases hlt : k < q
      · have hki : (k : Int) < (q : Int) := by omega
        obtain ⟨b, o, rfl, hbb, hc⟩ := (SP.below hBr) k hlt
        have c0 := hc 0 (by omega); have c1 := hc 1 (by omega); have c2 := hc 2 (by omega); have c3 := hc 3 (by omega); have c4 := hc 4 (by omega); have c5 := hc 5 (by omega)
        simp only [N6.get, Nat.add_zero] at c0 c1 c2 c3 c4 c5
        obtain ⟨x, hx⟩ : ∃ x, p k = x := ⟨_, rfl⟩
        rw [hx] at c0 c1 c2 c3 c4 c5
        have HX := hid hx
        clear hx hc
        by_cases h0 : 1000000000 < x.st
        · skip
          go_wp2_with fail
          refine (awake_node _).mono ?_
          rintro e w9 ⟨rfl, hb9⟩
          go_wp2_with fail
          go_ret
          exact ⟨rfl, bvia (balloc hBr _) hb9⟩
        by_cases h1 : 1000000000 < x.fr
        · skip
          go_wp2_with fail
          refine (awake_node _).mono ?_
          rintro e w9 ⟨rfl, hb9⟩
          go_wp2_with fail
          go_ret
          exact ⟨rfl, bvia (balloc hBr _) hb9⟩
        by_cases h2 : 1000000000 < x.to
        · skip
          go_wp2_with fail
          refine (awake_node _).mono ?_
          rintro e w9 ⟨rfl, hb9⟩
          go_wp2_with fail
          go_ret
          exact ⟨rfl, bvia (balloc hBr _) hb9⟩
        by_cases h3 : 1000000000 < x.ce
        · skip
          go_wp2_with fail
          refine (awake_node _).mono ?_
          rintro e w9 ⟨rfl, hb9⟩
          go_wp2_with fail
          go_ret
          exact ⟨rfl, bvia (balloc hBr _) hb9⟩
        by_cases h4 : 1000000000 < x.di
        · skip
          go_wp2_with fail
          refine (awake_node _).mono ?_
          rintro e w9 ⟨rfl, hb9⟩
          go_wp2_with fail
          go_ret
          exact ⟨rfl, bvia (balloc hBr _) hb9⟩
        by_cases h5 : 1000000000 < x.co
        · skip
          go_wp2_with fail
          refine (awake_node _).mono ?_
          rintro e w9 ⟨rfl, hb9⟩
          go_wp2_with fail
          go_ret
          exact ⟨rfl, bvia (balloc hBr _) hb9⟩
        have HOK := hid (show ∀ d, d < 6 → x.get d ≤ 1000000000 from fun d hd => by
          rcases (by omega : d = 0 ∨ d = 1 ∨ d = 2 ∨ d = 3 ∨ d = 4 ∨ d = 5) with rfl | rfl | rfl | rfl | rfl | rfl <;> simp only [N6.get] <;> omega)
        go_wp2_with fail
        go_roundw
        case rel => exact ⟨k + 1, by omega, by go_num, (fun j hj d hd => by
          rcases Nat.lt_succ_iff_lt_or_eq.1 hj with h | rfl
          · exact HLE.out j h d hd
          · rw [HX.out]; exact HOK.out d hd), balloc hBr _⟩
        case measure => simp [intOf]; omega
      · obtain rfl : k = q := by omega
        have hzT := vStr_size T
        by_cases hT0 : T = []
        · subst hT0
          go_wp2_with fail
          refine (awake_node _).mono ?_
          rintro e w9 ⟨rfl, hb9⟩
          go_wp2_with fail
          go_ret
          exact ⟨rfl, bvia hBr hb9⟩
        have hTe : T.isEmpty = false := by cases T <;> simp_all
        by_cases hTl : 65536 < T.length
        · have iTl : (65536 : Int) < (T.length : Int) := by omega
          go_wp2_with fail
          refine (awake_node _).mono ?_
          rintro e w9 ⟨rfl, hb9⟩
          go_wp2_with fail
          go_ret
          exact ⟨rfl, bvia hBr hb9⟩
        have iTl : ¬ (65536 : Int) < (T.length : Int) := by omega
        have hrl : PrsRel T 0 0 ((List.range k).map p) := by
          have hT := HTT.out
          unfold fmtN at hT
          rw [if_pos (by omega)] at hT
          cases hall : allP p k
          · rw [hall] at hT
            exact absurd hT.symm hT0
          · rw [hall] at hT
            have hT' : fmtF p k = T := hT
            rw [← hT'] at hTl ⊢
            exact .inr ⟨by omega, .inl ⟨fmt_prs fun j hj d hd => ⟨(plain_iff _).1 (List.all_eq_true.1 hall j (List.mem_range.2 hj)) d hd, HLE.out j hj d hd⟩, rfl, rfl⟩⟩
        have hnT := fun W HE HT => (node_Parse T W HE HT).mono fun _ _ => prsN_ans hrl
        unfold PrsAns at hnT
        have hl2 : ((List.range k).map p).length = k := by simp
        have hsn2 := fun a b ca cb W S S' => ref5_SameNotes a b k k ca cb (fun j => ((List.range k).map p).getD j N6.zero) p W (by omega) (by omega) S S'
        rw [show sameN k (fun j => ((List.range k).map p).getD j N6.zero) k p = true from sameN_iff.2 ⟨rfl, fun j hj => by simp [List.getD_eq_getElem?_getD, hj]⟩] at hsn2
        rw [hl2] at hnT
        generalize (fun j => ((List.range k).map p).getD j N6.zero) = F2 at *
        clear hrl hl2 HTT HLE
        go_wp2_with fail
        refine (hnT _ (HE.below hBr) (tab_below HT hBr)).mono ?_
        rintro e w7 ⟨a7, c7, rfl, S7, hb7⟩
        have hB7 := bvia hBr hb7
        go_wp2_with fail
        refine (hsn2 _ _ _ _ _ S7 (SP.below hB7)).mono ?_
        rintro e w8 ⟨rfl, hb8⟩
        have hB8 := bvia hB7 hb8
        go_wp2_with fail
        refine (awake_node _).mono ?_
        rintro e w9 ⟨rfl, hb9⟩
        go_wp2_with fail
        go_ret
        exact ⟨rfl, bvia hB8 hb9⟩
end Go.Proofs.YteabkcbajpjkoaaGreatDoor
/- Walks: rules and collisions of one cell, of the program and of the reference. -/
namespace Go.Proofs.YteabkcbajpjkoaaGreatDoor
open Go Go.RowKit
set_option linter.unusedVariables false
/-- a slice of rules -/
def Sr (w : World) (a : Option Addr) (n : Nat) (r : Nat → Int × Int) : Prop :=
  ∀ k, k < n → ∃ b off, a = some ⟨b, off, none⟩ ∧ b < w.heap.size ∧ w.cell? ⟨b, off + k * 2, none⟩ = some (.int .i64 (r k).1) ∧ w.cell? ⟨b, off + k * 2 + 1, none⟩ = some (.int .i64 (r k).2)
theorem Sr.below {w w' : World} {a : Option Addr} {n : Nat} {r : Nat → Int × Int} (h : Sr w a n r) (hb : Below w.heap.size w w') : Sr w' a n r := fun k hkn => by
  obtain ⟨b, off, h1, h2, h3, h4⟩ := h k hkn
  exact ⟨b, off, h1, by have := hb.size; omega, (bcell hb _ _ h2).trans h3, (bcell hb _ _ h2).trans h4⟩
theorem Sr.alloc {w : World} {a : Option Addr} {n : Nat} {r : Nat → Int × Int} (h : Sr w a n r) (o : Obj) : Sr (w.alloc o) a n r := h.below (below_alloc _ _)
theorem Sr.drewN {w : World} {a : Option Addr} {n : Nat} {r : Nat → Int × Int} (h : Sr w a n r) (k : Nat) : Sr (w.drewN k) a n r := h
end Go.Proofs.YteabkcbajpjkoaaGreatDoor
/- What a land reads as, as words on a world. What a state of sites and a post reads as, as words on a world. How a slice of rules reads: opened to cells. Lifting: a turn (a site and a post). Lifting: what an argument of the type Order is in the model. -/
namespace Go.Proofs.YteabkcbajpjkoaaGreatDoor
open Go Go.RowKit Go.ChangeShapes Go.WideShapes
set_option linter.unusedVariables false
section
variable {H : Type} {enc : TypeId × Value → H} {w : World} {spare : Nat → Bool} {held : Bool} {fuel : Nat} {cs : List Value} {x : DataW H × List MemPlace}
end
end Go.Proofs.YteabkcbajpjkoaaGreatDoor
namespace Go.Proofs.YteabkcbajpjkoaaGreatDoor
open Go Go.RowKit Go.ChangeShapes Go.WideShapes Go.ChangeAt Go.Deep
set_option linter.unusedVariables false
theorem Tryz.cells30 : Tryz.prog.cellsOf 30 = 6 := by kernel_rfl
theorem lst6 {α : Type} {l : List α} (h : l.length = 6) : ∃ a b c d e f, l = [a, b, c, d, e, f] := by
  obtain _ | ⟨a, _ | ⟨b, _ | ⟨c, _ | ⟨d, _ | ⟨e, _ | ⟨f, _ | ⟨g, t⟩⟩⟩⟩⟩⟩⟩ := l <;> simp at h
  exact ⟨a, b, c, d, e, f, rfl⟩
section
variable {H : Type} {enc : TypeId × Value → H} {P : Program} {w : World} {spare : Nat → Bool} {held : Bool} {fuel : Nat} {cs : List Value} {x : DataW H × List MemPlace}
theorem trod_six {t : TypeId} {f0 f1 f2 f3 f4 f5 : Field} (ht : P.underlying t = some (.struct #[f0, f1, f2, f3, f4, f5]))
    (h : DataW.trod enc P w 0 spare held fuel t cs = some x) :
    ∃ (y0 y1 y2 y3 y4 y5 : DataW H × List MemPlace) (m : Nat), cs.length = P.cellsOf t ∧ DataW.trod enc P w 0 spare held m f0.type ((cs.drop f0.offset).take (P.cellsOf f0.type)) = some y0 ∧
      DataW.trod enc P w 0 spare held m f1.type ((cs.drop f1.offset).take (P.cellsOf f1.type)) = some y1 ∧
      DataW.trod enc P w 0 spare held m f2.type ((cs.drop f2.offset).take (P.cellsOf f2.type)) = some y2 ∧
      DataW.trod enc P w 0 spare held m f3.type ((cs.drop f3.offset).take (P.cellsOf f3.type)) = some y3 ∧
      DataW.trod enc P w 0 spare held m f4.type ((cs.drop f4.offset).take (P.cellsOf f4.type)) = some y4 ∧
      DataW.trod enc P w 0 spare held m f5.type ((cs.drop f5.offset).take (P.cellsOf f5.type)) = some y5 := by
  obtain ⟨xs, m, _, _, hlen, hxl, hat⟩ := DataW.trod_struct ht h
  obtain ⟨y0, y1, y2, y3, y4, y5, rfl⟩ := lst6 (hxl.trans rfl)
  exact ⟨y0, y1, y2, y3, y4, y5, m, hlen, hat 0 f0 rfl, hat 1 f1 rfl, hat 2 f2 rfl, hat 3 f3 rfl, hat 4 f4 rfl, hat 5 f5 rfl⟩
end
section
variable {H : Type} {enc : TypeId × Value → H} {w : World} {spare : Nat → Bool} {held : Bool} {fuel : Nat} {cs : List Value} {x : DataW H × List MemPlace}
theorem lift_note (h : DataW.trod enc Tryz.prog w 0 spare held fuel 30 cs = some x) :
    ∃ c : N6, cs = c.list ∧ wfN c := by
  obtain ⟨y0, y1, y2, y3, y4, y5, m, hlen, h0, h1, h2, h3, h4, h5⟩ := trod_six Tryz.underlying30 h
  rw [Tryz.cells30] at hlen
  obtain ⟨v0, v1, v2, v3, v4, v5, rfl⟩ := lst6 hlen
  simp only [Tryz.cells3] at h0 h1 h2 h3 h4 h5
  obtain ⟨n0, e0, f0⟩ := lift_int h0
  obtain ⟨n1, e1, f1⟩ := lift_int h1
  obtain ⟨n2, e2, f2⟩ := lift_int h2
  obtain ⟨n3, e3, f3⟩ := lift_int h3
  obtain ⟨n4, e4, f4⟩ := lift_int h4
  obtain ⟨n5, e5, f5⟩ := lift_int h5
  simp at e0 e1 e2 e3 e4 e5
  subst e0 e1 e2 e3 e4 e5
  refine ⟨⟨n0, n1, n2, n3, n4, n5⟩, rfl, fun k hk => ?_⟩
  have : k = 0 ∨ k = 1 ∨ k = 2 ∨ k = 3 ∨ k = 4 ∨ k = 5 := by omega
  rcases this with rfl | rfl | rfl | rfl | rfl | rfl
  · exact f0
  · exact f1
  · exact f2
  · exact f3
  · exact f4
  · exact f5
theorem lift_notes (h : DataW.trod enc Tryz.prog w 0 spare held fuel 22 cs = some x) :
    ∃ (a : Option Addr) (n c : Nat) (g : Nat → N6), cs = [.slice a n c] ∧ n ≤ maxLen ∧ n ≤ c ∧ c ≤ maxLen ∧ Sn w a n g ∧ ∀ k, k < n → wfN (g k) := by
  rcases open_slice Tryz.underlying22 h with ⟨hcs, _⟩ | ⟨a, len, cap, m, nf, D, Pl, hcs, _, hl, hm, hmm, _, hi⟩
  · exact ⟨none, 0, 0, fun _ => N6.zero, hcs, by simp, by simp, by simp, fun k hk => by omega, fun k hk => by omega⟩
  · have hlm : len ≤ m := by rw [hmm]; split <;> omega
    rw [Tryz.cells30] at hi
    have each : ∀ i, i < m → ∃ c : N6, a.spot = none ∧ a.block < w.heap.size ∧ (∀ j, j < 6 → w.cell? ⟨a.block, a.off + i * 6 + j, none⟩ = some (.int .i64 (c.get j))) ∧ wfN c := by
      intro i him
      obtain ⟨cs', hc, ht⟩ := hi i him
      obtain ⟨c, rfl, hwf⟩ := lift_note ht
      obtain ⟨_, hcl, hat⟩ := World.cells?_some hc
      obtain ⟨_, hc0, ht0⟩ := hi 0 (by omega)
      obtain ⟨c0, rfl, _⟩ := lift_note ht0
      obtain ⟨_, _, hat0⟩ := World.cells?_some hc0
      have z0 := hat0 0 (by omega)
      rw [Nat.zero_mul] at z0
      have hspot : a.spot = none := by simpa [Addr.add] using World.cell?_spot z0
      have hblk : a.block < w.heap.size := by simpa [Addr.add] using World.block_lt_of_cell? w _ z0
      obtain ⟨b, off, spot⟩ := a
      simp only at hspot hblk
      subst hspot
      have add : ∀ off p : Nat, (Addr.add ⟨b, off, none⟩ p : Addr) = ⟨b, off + p, none⟩ := fun off p => by by_cases h : p = 0 <;> simp [Addr.add, h]
      refine ⟨c, rfl, hblk, fun j hj => ?_, hwf⟩
      have r := hat j (by omega)
      simp only [add] at r
      rw [r]
      rcases (by omega : j = 0 ∨ j = 1 ∨ j = 2 ∨ j = 3 ∨ j = 4 ∨ j = 5) with rfl | rfl | rfl | rfl | rfl | rfl <;> rfl
    refine ⟨some a, len, cap, fun i => if hi : i < m then (each i hi).choose else N6.zero, hcs, Nat.le_trans hl hm, hl, hm, fun k hk => ?_, fun k hk => ?_⟩
    · have hkm : k < m := by omega
      obtain ⟨s1, s2, s3, s4⟩ := (each k hkm).choose_spec
      refine ⟨a.block, a.off, ?_, s2, ?_⟩
      · obtain ⟨b, off, spot⟩ := a
        simp only at s1
        rw [s1]
      · simp only [hkm, dite_true]; exact s3
    · have hkm : k < m := by omega
      obtain ⟨s1, s2, s3, s4⟩ := (each k hkm).choose_spec
      simp only [hkm, dite_true]; exact s4
end
end Go.Proofs.YteabkcbajpjkoaaGreatDoor
namespace Go.Proofs.YteabkcbajpjkoaaGreatDoor
open Go.ChangeShapes Go.WideShapes Go.ChangeAt Go.RowKit Go.Deep
set_option linter.unusedVariables false
section
variable {H : Type} {enc : TypeId × Value → H} {w : World} {spare : Nat → Bool} {held : Bool} {fuel : Nat} {cs : List Value} {x : DataW H × List MemPlace}
end
end Go.Proofs.YteabkcbajpjkoaaGreatDoor
namespace Go.Proofs.YteabkcbajpjkoaaGreatDoor
open Go Go.RowKit Go.ChangeShapes Go.WideShapes
set_option linter.unusedVariables false
section
variable {H : Type} {enc : TypeId × Value → H} {w : World} {spare : Nat → Bool} {held : Bool} {fuel : Nat} {cs : List Value} {x : DataW H × List MemPlace}
end
end Go.Proofs.YteabkcbajpjkoaaGreatDoor
namespace Go.Proofs.YteabkcbajpjkoaaGreatDoor
open Go Go.RowKit Go.ChangeShapes Go.WideShapes
set_option linter.unusedVariables false
section
variable {H : Type} {enc : TypeId × Value → H} {w : World} {spare : Nat → Bool} {held : Bool} {fuel : Nat} {cs : List Value} {x : DataW H × List MemPlace}
end
end Go.Proofs.YteabkcbajpjkoaaGreatDoor
