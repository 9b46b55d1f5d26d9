/- Walk: ValidPost, of the reference. -/
import Derived.Test.YtmmjaobpoiofdaaGreatNCounts
namespace Go.Proofs.YtmmjaobpoiofdaaGreat
open Go Go.RowKit Go.Maps
set_option linter.unusedVariables false
set_option linter.unusedSimpArgs false
set_option maxRecDepth 100000 in
set_option maxHeartbeats 4000000 in
theorem ref5_ValidPost (wide high : Int) (a ao ap : Option Addr) (n no m c co cp : Nat) (g : Nat → C4) (o : Nat → Int) (p : Nat → N6) (w : World) (hn : n ≤ 100000000) (hno : no ≤ 100000000) (hm : m ≤ 100000000) (H : Sc w a n g) (HO : Sl w ao no o) (HP : Sn w ap m p) (HW : ∀ k, k < m → wfN (p k)) :
    Calls Tryz.prog 81 #[.agg #[.int .i64 wide, .int .i64 high, .slice a n c], .slice ao no co, .slice ap m cp] w fun e w' => e = .returned (.bool (validM wide high n g no o && postB wide.toNat high.toNat o no m p)) ∧ Below w.heap.size w w' := by
  have I := H.alloc (.cells #[.int .i64 wide, .int .i64 high, .slice a n c] 24)
  have IO := HO.alloc (.cells #[.int .i64 wide, .int .i64 high, .slice a n c] 24)
  have IP := HP.alloc (.cells #[.int .i64 wide, .int .i64 high, .slice a n c] 24)
  have X := Bx.new w #[.int .i64 wide, .int .i64 high, .slice a n c] 24
  cases hv : validM wide high n g no o
  · go_enter Tryz.func81, Tryz.ntmps81
    go_wp2_with (go_at_call 31; refine (ref5_ValidMap wide high _ _ n no _ _ g o _ hn hno I IO).mono ?_; rintro e w1 ⟨rfl, hb1⟩; rw [hv])
    go_ret
    exact ⟨rfl, bvia (by (repeat' (first | with_reducible assumption | with_reducible exact Below.refl _ _ | with_reducible refine Below.drew ?_ | with_reducible refine below_drewN ?_ _ | with_reducible refine balloc ?_ _ | with_reducible refine bset ?_ ?_ _ | with_reducible refine Below.setCell ?_ ?_ _ | with_reducible refine Below.alloc ?_ ?_ _ | omega | (simp; done) | (simp; omega)))) hb1⟩
  obtain ⟨Wd, Hd, rfl, rfl, p1, p2, u1, u2, hnn, hn4, hoo, hob, _, _⟩ := validM_sides hv
  have HNW : Hid (no = Wd * Hd) := hid (by omega)
  simp only [Int.toNat_natCast]
  have HWF := hid HW; clear HW
  clear hnn hoo hob
  by_cases hbig : 100000 < m
  · have hF : postB Wd Hd o no m p = false := postB_no.2 (fun h => by omega)
    have HF := hid hF; clear hF
    go_enter Tryz.func81, Tryz.ntmps81
    go_wp2_with (go_at_call 31; refine (ref5_ValidMap _ _ _ _ n no _ _ g o _ hn hno I IO).mono ?_; rintro e w1 ⟨rfl, hb1⟩; rw [hv])
    go_ret
    rw [HF.out]
    exact ⟨rfl, bvia (by (repeat' (first | with_reducible assumption | with_reducible exact Below.refl _ _ | with_reducible refine Below.drew ?_ | with_reducible refine below_drewN ?_ _ | with_reducible refine balloc ?_ _ | with_reducible refine bset ?_ ?_ _ | with_reducible refine Below.setCell ?_ ?_ _ | with_reducible refine Below.alloc ?_ ?_ _ | omega | (simp; done) | (simp; omega)))) hb1⟩
  have hmm := @run_makeMap Tryz.prog
  go_enter Tryz.func81, Tryz.ntmps81
  go_wp2_with fail
  refine (ref5_ValidMap _ _ _ _ n no _ _ g o _ hn hno I IO).mono ?_
  rintro e w1 ⟨rfl, hb1⟩
  rw [hv]
  clear hv
  have X1 := X.below hb1
  have B1 := bvia (below_alloc w (.cells #[.int .i64 (Wd : Int), .int .i64 (Hd : Int), .slice a n c] 24)) hb1
  have O1 := IO.below hb1; have P1 := IP.below hb1
  clear hb1 I IO IP X
  go_wp2_with fail
  have X2 := X1.alloc (.map #[] 0)
  have B2 := balloc B1 (.map #[] 0)
  have C2 := below_alloc w1 (.map #[] 0)
  have M2 := plm_made 161 w1
  have hs1 := B1.size
  clear hmm
  have lx1 := X1.lt
  go_loopw [8] (fun i wr => ∃ k : Nat, k ≤ m ∧ i = .int .i64 k ∧ (∀ j, j < k → noteB Wd Hd o no (p j) = true ∧ metB p (p j) j = false) ∧ PlM 161 wr w1.heap.size k (fun y => metB p y k) ∧ Bx wr w.heap.size #[.int .i64 (Wd : Int), .int .i64 (Hd : Int), .slice a n c] ∧ Below w.heap.size w wr ∧ Below w1.heap.size w1 wr) (fun i _ => m - (intOf i).toNat)
  case atStart => exact ⟨0, Nat.zero_le _, rfl, fun j hj => by omega, M2, X2, B2, C2⟩
  case round =>
    obtain ⟨k, hk, rfl, hok, hM, hX, hB, hC⟩ := hrel
    have HOK := hid hok; clear hok
    by_cases hlt : k < m
    · obtain ⟨b1, o1, rfl, hb1, c0, c1, c2, c3, c4, c5⟩ := (P1.below hC).six hlt
      have hwf := HWF.out k hlt
      have hr := fun W S => ref5_noteRight Wd Hd a ao n c no co o (p k) W ⟨p1, p2⟩ ⟨u1, u2⟩ HNW.out S
      have O3 := O1.below hC
      have hsz := hC.size
      have hmet : ∀ y, metB p y (k + 1) = (metB p y k || plcB (p k) y) := fun y => rfl
      have HM := hid hmet; clear hmet
      have r0 : ∀ Y, Below wr.heap.size wr Y → Y.cell? ⟨b1, o1 + k * 6, none⟩ = some (.int .i64 (p k).st) := fun Y h => (bcell h _ _ hb1).trans c0
      have r1 : ∀ Y, Below wr.heap.size wr Y → Y.cell? ⟨b1, o1 + k * 6 + 1, none⟩ = some (.int .i64 (p k).fr) := fun Y h => (bcell h _ _ hb1).trans c1
      have r2 : ∀ Y, Below wr.heap.size wr Y → Y.cell? ⟨b1, o1 + k * 6 + 2, none⟩ = some (.int .i64 (p k).to) := fun Y h => (bcell h _ _ hb1).trans c2
      have r3 : ∀ Y, Below wr.heap.size wr Y → Y.cell? ⟨b1, o1 + k * 6 + 3, none⟩ = some (.int .i64 (p k).ce) := fun Y h => (bcell h _ _ hb1).trans c3
      have r4 : ∀ Y, Below wr.heap.size wr Y → Y.cell? ⟨b1, o1 + k * 6 + 4, none⟩ = some (.int .i64 (p k).di) := fun Y h => (bcell h _ _ hb1).trans c4
      have r5 : ∀ Y, Below wr.heap.size wr Y → Y.cell? ⟨b1, o1 + k * 6 + 5, none⟩ = some (.int .i64 (p k).co) := fun Y h => (bcell h _ _ hb1).trans c5
      have q0 : ∀ Y, Below wr.heap.size wr Y → Y.cell? ⟨w.heap.size, 0, none⟩ = some (.int .i64 (Wd : Int)) := fun Y h => (hX.below h).at_ 0 rfl
      have q1 : ∀ Y, Below wr.heap.size wr Y → Y.cell? ⟨w.heap.size, 1, none⟩ = some (.int .i64 (Hd : Int)) := fun Y h => (hX.below h).at_ 1 rfl
      have q2 : ∀ Y, Below wr.heap.size wr Y → Y.cell? ⟨w.heap.size, 2, none⟩ = some (.slice a n c) := fun Y h => (hX.below h).at_ 2 rfl
      have hl : ∀ Y, Below wr.heap.size wr Y → (Instr.lookup 159 (.map (some w1.heap.size)) (.agg #[.int .i64 (p k).st, .int .i64 (p k).ce, .int .i64 (p k).di]) false).run Tryz.prog Y = .ok (.bool (metB p (p k) k)) Y := fun Y h => sl_look (plm_below hM h) hwf
      clear c0 c1 c2 c3 c4 c5
      go_wp2_with fail
      go_region_held3 (fun Y => Below wr.heap.size wr Y) ((repeat' (first | with_reducible assumption | with_reducible exact Below.refl _ _ | with_reducible refine Below.drew ?_ | with_reducible refine below_drewN ?_ _ | with_reducible refine balloc ?_ _ | with_reducible refine bset ?_ ?_ _ | with_reducible refine Below.setCell ?_ ?_ _ | with_reducible refine Below.alloc ?_ ?_ _ | omega | (simp; done) | (simp; omega)))) (fail)
      all_goals
        go_wp2_with fail
        have Xs := (Bx.new wr #[.int .i64 (p k).st, .int .i64 (p k).ce, .int .i64 (p k).di] 161).drew
        have hW : Below wr.heap.size wr (wr.alloc (.cells #[.int .i64 (p k).st, .int .i64 (p k).ce, .int .i64 (p k).di] 161)).drew := by assumption
        generalize hWg : (wr.alloc (.cells #[.int .i64 (p k).st, .int .i64 (p k).ce, .int .i64 (p k).di] 161)).drew = W5 at *
        clear hWg
        have B5 := bvia hB hW; have C5 := bvia hC hW
        have X5 := hX.below hW; have M5 := plm_below hM hW; have O5 := O3.below hW
        have s0 : ∀ Y, Below W5.heap.size W5 Y → Y.cell? ⟨wr.heap.size, 0, none⟩ = some (.int .i64 (p k).st) := fun Y h => (Xs.below h).at_ 0 rfl
        have s1 : ∀ Y, Below W5.heap.size W5 Y → Y.cell? ⟨wr.heap.size, 1, none⟩ = some (.int .i64 (p k).ce) := fun Y h => (Xs.below h).at_ 1 rfl
        have s2 : ∀ Y, Below W5.heap.size W5 Y → Y.cell? ⟨wr.heap.size, 2, none⟩ = some (.int .i64 (p k).di) := fun Y h => (Xs.below h).at_ 2 rfl
        replace r0 := fun Y (h : Below W5.heap.size W5 Y) => r0 Y (bvia hW h)
        replace r1 := fun Y (h : Below W5.heap.size W5 Y) => r1 Y (bvia hW h)
        replace r2 := fun Y (h : Below W5.heap.size W5 Y) => r2 Y (bvia hW h)
        replace r3 := fun Y (h : Below W5.heap.size W5 Y) => r3 Y (bvia hW h)
        replace r4 := fun Y (h : Below W5.heap.size W5 Y) => r4 Y (bvia hW h)
        replace r5 := fun Y (h : Below W5.heap.size W5 Y) => r5 Y (bvia hW h)
        replace q0 := fun Y (h : Below W5.heap.size W5 Y) => q0 Y (bvia hW h)
        replace q1 := fun Y (h : Below W5.heap.size W5 Y) => q1 Y (bvia hW h)
        replace q2 := fun Y (h : Below W5.heap.size W5 Y) => q2 Y (bvia hW h)
        replace hl := fun Y (h : Below W5.heap.size W5 Y) => hl Y (bvia hW h)
        have hs5 := hW.size
        clear hX hM O3 hB hC
        cases hq : metB p (p k) k
        rotate_left
        · rw [hq] at hl
          have hF : postB Wd Hd o no m p = false := postB_no.2 (fun h => by have := h.2.2 k hlt; rw [hq] at this; cases this)
          have HF := hid hF; clear hF hq hr
          refine wp_region_S (fun Y => Below W5.heap.size W5 Y) 13 (by kernel_rfl) ?_
          refine anyS_take (i := 0) rfl (by kernel_rfl) (fun _ _ _ h => h) (Or.inl ⟨by rfl, fun Y hYb => (by (try dsimp only at hYb); go_simp; rfl)⟩) (by repeat' (first | with_reducible assumption | with_reducible exact Below.refl _ _ | with_reducible refine Below.drew ?_ | with_reducible refine below_drewN ?_ _)) ?_
          simp only [List.getElem_toArray, List.getElem_cons_succ, List.getElem_cons_zero, Act.put, List.setIfInBounds_toArray, List.set_cons_zero, List.set_cons_succ]
          refine anyS_take (i := 1) rfl (by kernel_rfl) (fun _ _ _ h => h) (Or.inl ⟨by rfl, fun Y hYb => (by (try dsimp only at hYb); go_simp; rfl)⟩) (by repeat' (first | with_reducible assumption | with_reducible exact Below.refl _ _ | with_reducible refine Below.drew ?_ | with_reducible refine below_drewN ?_ _)) ?_
          simp only [List.getElem_toArray, List.getElem_cons_succ, List.getElem_cons_zero, Act.put, List.setIfInBounds_toArray, List.set_cons_zero, List.set_cons_succ]
          refine anyS_take (i := 2) rfl (by kernel_rfl) (fun _ _ _ h => h) (Or.inl ⟨by rfl, fun Y hYb => (by (try dsimp only at hYb); go_simp; rfl)⟩) (by repeat' (first | with_reducible assumption | with_reducible exact Below.refl _ _ | with_reducible refine Below.drew ?_ | with_reducible refine below_drewN ?_ _)) ?_
          simp only [List.getElem_toArray, List.getElem_cons_succ, List.getElem_cons_zero, Act.put, List.setIfInBounds_toArray, List.set_cons_zero, List.set_cons_succ]
          refine anyS_take (i := 3) rfl (by kernel_rfl) (fun _ _ _ h => h) (Or.inl ⟨by rfl, fun Y hYb => (by (try dsimp only at hYb); go_simp; rfl)⟩) (by repeat' (first | with_reducible assumption | with_reducible exact Below.refl _ _ | with_reducible refine Below.drew ?_ | with_reducible refine below_drewN ?_ _)) ?_
          simp only [List.getElem_toArray, List.getElem_cons_succ, List.getElem_cons_zero, Act.put, List.setIfInBounds_toArray, List.set_cons_zero, List.set_cons_succ]
          refine anyS_take (i := 4) (v := undef) rfl (by kernel_rfl) (fun _ _ _ h => h) (Or.inr ⟨by kernel_rfl, rfl⟩) (by repeat' (first | with_reducible assumption | with_reducible exact Below.refl _ _ | with_reducible refine Below.drew ?_ | with_reducible refine below_drewN ?_ _)) ?_
          simp only [List.getElem_toArray, List.getElem_cons_succ, List.getElem_cons_zero, Act.put, List.setIfInBounds_toArray, List.set_cons_zero, List.set_cons_succ]
          refine anyS_take (i := 5) (v := undef) rfl (by kernel_rfl) (fun _ _ _ h => h) (Or.inr ⟨by kernel_rfl, rfl⟩) (by repeat' (first | with_reducible assumption | with_reducible exact Below.refl _ _ | with_reducible refine Below.drew ?_ | with_reducible refine below_drewN ?_ _)) ?_
          simp only [List.getElem_toArray, List.getElem_cons_succ, List.getElem_cons_zero, Act.put, List.setIfInBounds_toArray, List.set_cons_zero, List.set_cons_succ]
          refine anyS_take (i := 6) (v := undef) rfl (by kernel_rfl) (fun _ _ _ h => h) (Or.inr ⟨by kernel_rfl, rfl⟩) (by repeat' (first | with_reducible assumption | with_reducible exact Below.refl _ _ | with_reducible refine Below.drew ?_ | with_reducible refine below_drewN ?_ _)) ?_
          simp only [List.getElem_toArray, List.getElem_cons_succ, List.getElem_cons_zero, Act.put, List.setIfInBounds_toArray, List.set_cons_zero, List.set_cons_succ]
          refine anyS_take (i := 7) (v := undef) rfl (by kernel_rfl) (fun _ _ _ h => h) (Or.inr ⟨by kernel_rfl, rfl⟩) (by repeat' (first | with_reducible assumption | with_reducible exact Below.refl _ _ | with_reducible refine Below.drew ?_ | with_reducible refine below_drewN ?_ _)) ?_
          simp only [List.getElem_toArray, List.getElem_cons_succ, List.getElem_cons_zero, Act.put, List.setIfInBounds_toArray, List.set_cons_zero, List.set_cons_succ]
          refine anyS_take (i := 8) (v := undef) rfl (by kernel_rfl) (fun _ _ _ h => h) (Or.inr ⟨by kernel_rfl, rfl⟩) (by repeat' (first | with_reducible assumption | with_reducible exact Below.refl _ _ | with_reducible refine Below.drew ?_ | with_reducible refine below_drewN ?_ _)) ?_
          simp only [List.getElem_toArray, List.getElem_cons_succ, List.getElem_cons_zero, Act.put, List.setIfInBounds_toArray, List.set_cons_zero, List.set_cons_succ]
          refine anyS_take (i := 9) (v := undef) rfl (by kernel_rfl) (fun _ _ _ h => h) (Or.inr ⟨by kernel_rfl, rfl⟩) (by repeat' (first | with_reducible assumption | with_reducible exact Below.refl _ _ | with_reducible refine Below.drew ?_ | with_reducible refine below_drewN ?_ _)) ?_
          simp only [List.getElem_toArray, List.getElem_cons_succ, List.getElem_cons_zero, Act.put, List.setIfInBounds_toArray, List.set_cons_zero, List.set_cons_succ]
          refine anyS_take (i := 10) (v := undef) rfl (by kernel_rfl) (fun _ _ _ h => h) (Or.inr ⟨by kernel_rfl, rfl⟩) (by repeat' (first | with_reducible assumption | with_reducible exact Below.refl _ _ | with_reducible refine Below.drew ?_ | with_reducible refine below_drewN ?_ _)) ?_
          simp only [List.getElem_toArray, List.getElem_cons_succ, List.getElem_cons_zero, Act.put, List.setIfInBounds_toArray, List.set_cons_zero, List.set_cons_succ]
          refine anyS_take (i := 11) (v := undef) rfl (by kernel_rfl) (fun _ _ _ h => h) (Or.inr ⟨by kernel_rfl, rfl⟩) (by repeat' (first | with_reducible assumption | with_reducible exact Below.refl _ _ | with_reducible refine Below.drew ?_ | with_reducible refine below_drewN ?_ _)) ?_
          simp only [List.getElem_toArray, List.getElem_cons_succ, List.getElem_cons_zero, Act.put, List.setIfInBounds_toArray, List.set_cons_zero, List.set_cons_succ]
          refine anyS_take (i := 12) rfl (by kernel_rfl) (fun _ _ _ h => h) (Or.inl ⟨by rfl, fun Y hYb => (by (try dsimp only at hYb); go_simp; rfl)⟩) (by repeat' (first | with_reducible assumption | with_reducible exact Below.refl _ _ | with_reducible refine Below.drew ?_ | with_reducible refine below_drewN ?_ _)) ?_
          simp only [List.getElem_toArray, List.getElem_cons_succ, List.getElem_cons_zero, Act.put, List.setIfInBounds_toArray, List.set_cons_zero, List.set_cons_succ]
          refine anyS_done (by kernel_rfl) ?_ _
          go_wp2
          go_ret
          rw [HF.out]
          exact ⟨rfl, by (repeat' (first | with_reducible assumption | with_reducible exact Below.refl _ _ | with_reducible refine Below.drew ?_ | with_reducible refine below_drewN ?_ _ | with_reducible refine balloc ?_ _ | with_reducible refine bset ?_ ?_ _ | with_reducible refine Below.setCell ?_ ?_ _ | with_reducible refine Below.alloc ?_ ?_ _ | omega | (simp; done) | (simp; omega)))⟩
        rw [hq] at hl
        have HQ := hid hq; clear hq
        cases hs : noteB Wd Hd o no (p k)
        · have hF : postB Wd Hd o no m p = false := postB_no.2 (fun h => by have := h.2.1 k hlt; rw [hs] at this; cases this)
          have HF := hid hF; clear hF
          rw [hs] at hr
          clear hs
          refine wp_region_S (fun Y => Below W5.heap.size W5 Y) 13 (by kernel_rfl) ?_
          refine anyS_take (i := 0) rfl (by kernel_rfl) (fun _ _ _ h => h) (Or.inl ⟨by rfl, fun Y hYb => (by (try dsimp only at hYb); go_simp; rfl)⟩) (by repeat' (first | with_reducible assumption | with_reducible exact Below.refl _ _ | with_reducible refine Below.drew ?_ | with_reducible refine below_drewN ?_ _)) ?_
          simp only [List.getElem_toArray, List.getElem_cons_succ, List.getElem_cons_zero, Act.put, List.setIfInBounds_toArray, List.set_cons_zero, List.set_cons_succ]
          refine anyS_take (i := 1) rfl (by kernel_rfl) (fun _ _ _ h => h) (Or.inl ⟨by rfl, fun Y hYb => (by (try dsimp only at hYb); go_simp; rfl)⟩) (by repeat' (first | with_reducible assumption | with_reducible exact Below.refl _ _ | with_reducible refine Below.drew ?_ | with_reducible refine below_drewN ?_ _)) ?_
          simp only [List.getElem_toArray, List.getElem_cons_succ, List.getElem_cons_zero, Act.put, List.setIfInBounds_toArray, List.set_cons_zero, List.set_cons_succ]
          refine anyS_take (i := 2) rfl (by kernel_rfl) (fun _ _ _ h => h) (Or.inl ⟨by rfl, fun Y hYb => (by (try dsimp only at hYb); go_simp; rfl)⟩) (by repeat' (first | with_reducible assumption | with_reducible exact Below.refl _ _ | with_reducible refine Below.drew ?_ | with_reducible refine below_drewN ?_ _)) ?_
          simp only [List.getElem_toArray, List.getElem_cons_succ, List.getElem_cons_zero, Act.put, List.setIfInBounds_toArray, List.set_cons_zero, List.set_cons_succ]
          refine anyS_take (i := 3) rfl (by kernel_rfl) (fun _ _ _ h => h) (Or.inl ⟨by rfl, fun Y hYb => (by (try dsimp only at hYb); go_simp; rfl)⟩) (by repeat' (first | with_reducible assumption | with_reducible exact Below.refl _ _ | with_reducible refine Below.drew ?_ | with_reducible refine below_drewN ?_ _)) ?_
          simp only [List.getElem_toArray, List.getElem_cons_succ, List.getElem_cons_zero, Act.put, List.setIfInBounds_toArray, List.set_cons_zero, List.set_cons_succ]
          refine anyS_take (i := 4) rfl (by kernel_rfl) (fun _ _ _ h => h) (Or.inl ⟨by rfl, fun Y hYb => (by (try dsimp only at hYb); go_simp; rfl)⟩) (by repeat' (first | with_reducible assumption | with_reducible exact Below.refl _ _ | with_reducible refine Below.drew ?_ | with_reducible refine below_drewN ?_ _)) ?_
          simp only [List.getElem_toArray, List.getElem_cons_succ, List.getElem_cons_zero, Act.put, List.setIfInBounds_toArray, List.set_cons_zero, List.set_cons_succ]
          refine anyS_take (i := 5) rfl (by kernel_rfl) (fun _ _ _ h => h) (Or.inl ⟨by rfl, fun Y hYb => (by (try dsimp only at hYb); go_simp; rfl)⟩) (by repeat' (first | with_reducible assumption | with_reducible exact Below.refl _ _ | with_reducible refine Below.drew ?_ | with_reducible refine below_drewN ?_ _)) ?_
          simp only [List.getElem_toArray, List.getElem_cons_succ, List.getElem_cons_zero, Act.put, List.setIfInBounds_toArray, List.set_cons_zero, List.set_cons_succ]
          refine anyS_take (i := 6) rfl (by kernel_rfl) (fun _ _ _ h => h) (Or.inl ⟨by rfl, fun Y hYb => (by (try dsimp only at hYb); go_simp; rfl)⟩) (by repeat' (first | with_reducible assumption | with_reducible exact Below.refl _ _ | with_reducible refine Below.drew ?_ | with_reducible refine below_drewN ?_ _)) ?_
          simp only [List.getElem_toArray, List.getElem_cons_succ, List.getElem_cons_zero, Act.put, List.setIfInBounds_toArray, List.set_cons_zero, List.set_cons_succ]
          refine anyS_take (i := 7) rfl (by kernel_rfl) (fun _ _ _ h => h) (Or.inl ⟨by rfl, fun Y hYb => (by (try dsimp only at hYb); go_simp; rfl)⟩) (by repeat' (first | with_reducible assumption | with_reducible exact Below.refl _ _ | with_reducible refine Below.drew ?_ | with_reducible refine below_drewN ?_ _)) ?_
          simp only [List.getElem_toArray, List.getElem_cons_succ, List.getElem_cons_zero, Act.put, List.setIfInBounds_toArray, List.set_cons_zero, List.set_cons_succ]
          refine anyS_take (i := 8) rfl (by kernel_rfl) (fun _ _ _ h => h) (Or.inl ⟨by rfl, fun Y hYb => (by (try dsimp only at hYb); go_simp; rfl)⟩) (by repeat' (first | with_reducible assumption | with_reducible exact Below.refl _ _ | with_reducible refine Below.drew ?_ | with_reducible refine below_drewN ?_ _)) ?_
          simp only [List.getElem_toArray, List.getElem_cons_succ, List.getElem_cons_zero, Act.put, List.setIfInBounds_toArray, List.set_cons_zero, List.set_cons_succ]
          refine anyS_take (i := 9) rfl (by kernel_rfl) (fun _ _ _ h => h) (Or.inl ⟨by rfl, fun Y hYb => (by (try dsimp only at hYb); go_simp; rfl)⟩) (by repeat' (first | with_reducible assumption | with_reducible exact Below.refl _ _ | with_reducible refine Below.drew ?_ | with_reducible refine below_drewN ?_ _)) ?_
          simp only [List.getElem_toArray, List.getElem_cons_succ, List.getElem_cons_zero, Act.put, List.setIfInBounds_toArray, List.set_cons_zero, List.set_cons_succ]
          refine anyS_one (i := 10) (by kernel_rfl) rfl (by rfl) (fun K hK => ?_)
          go_simp
          refine (hr _ (O5.below (by (repeat' (first | with_reducible assumption | with_reducible exact Below.refl _ _ | with_reducible refine Below.drew ?_ | with_reducible refine below_drewN ?_ _ | with_reducible refine balloc ?_ _ | with_reducible refine bset ?_ ?_ _ | with_reducible refine Below.setCell ?_ ?_ _ | with_reducible refine Below.alloc ?_ ?_ _ | omega | (simp; done) | (simp; omega)))))).mono ?_
          rintro e w6 ⟨rfl, hb6⟩
          dsimp only
          have hS6 : Below W5.heap.size W5 w6 := bvia (by (repeat' (first | with_reducible assumption | with_reducible exact Below.refl _ _ | with_reducible refine Below.drew ?_ | with_reducible refine below_drewN ?_ _ | with_reducible refine balloc ?_ _ | with_reducible refine bset ?_ ?_ _ | with_reducible refine Below.setCell ?_ ?_ _ | with_reducible refine Below.alloc ?_ ?_ _ | omega | (simp; done) | (simp; omega)))) hb6
          refine hK _ _ (fun _ _ => hS6) ?_
          clear hK K
          refine anyS_take (i := 11) rfl (by kernel_rfl) (fun _ _ _ h => h) (Or.inl ⟨by rfl, fun Y hYb => (by (try dsimp only at hYb); go_simp; rfl)⟩) (by repeat' (first | with_reducible assumption | with_reducible exact Below.refl _ _ | with_reducible refine Below.drew ?_ | with_reducible refine below_drewN ?_ _)) ?_
          simp only [List.getElem_toArray, List.getElem_cons_succ, List.getElem_cons_zero, Act.put, List.setIfInBounds_toArray, List.set_cons_zero, List.set_cons_succ]
          refine anyS_take (i := 12) rfl (by kernel_rfl) (fun _ _ _ h => h) (Or.inl ⟨by rfl, fun Y hYb => (by (try dsimp only at hYb); go_simp; rfl)⟩) (by repeat' (first | with_reducible assumption | with_reducible exact Below.refl _ _ | with_reducible refine Below.drew ?_ | with_reducible refine below_drewN ?_ _)) ?_
          simp only [List.getElem_toArray, List.getElem_cons_succ, List.getElem_cons_zero, Act.put, List.setIfInBounds_toArray, List.set_cons_zero, List.set_cons_succ]
          refine anyS_done (by kernel_rfl) ?_ _
          go_wp2
          go_ret
          rw [HF.out]
          exact ⟨rfl, bvia B5 hS6⟩
        rw [hs] at hr
        have HS := hid hs; clear hs
        refine wp_region_S (fun Y => Below W5.heap.size W5 Y) 13 (by kernel_rfl) ?_
        refine anyS_take (i := 0) rfl (by kernel_rfl) (fun _ _ _ h => h) (Or.inl ⟨by rfl, fun Y hYb => (by (try dsimp only at hYb); go_simp; rfl)⟩) (by repeat' (first | with_reducible assumption | with_reducible exact Below.refl _ _ | with_reducible refine Below.drew ?_ | with_reducible refine below_drewN ?_ _)) ?_
        simp only [List.getElem_toArray, List.getElem_cons_succ, List.getElem_cons_zero, Act.put, List.setIfInBounds_toArray, List.set_cons_zero, List.set_cons_succ]
        refine anyS_take (i := 1) rfl (by kernel_rfl) (fun _ _ _ h => h) (Or.inl ⟨by rfl, fun Y hYb => (by (try dsimp only at hYb); go_simp; rfl)⟩) (by repeat' (first | with_reducible assumption | with_reducible exact Below.refl _ _ | with_reducible refine Below.drew ?_ | with_reducible refine below_drewN ?_ _)) ?_
        simp only [List.getElem_toArray, List.getElem_cons_succ, List.getElem_cons_zero, Act.put, List.setIfInBounds_toArray, List.set_cons_zero, List.set_cons_succ]
        refine anyS_take (i := 2) rfl (by kernel_rfl) (fun _ _ _ h => h) (Or.inl ⟨by rfl, fun Y hYb => (by (try dsimp only at hYb); go_simp; rfl)⟩) (by repeat' (first | with_reducible assumption | with_reducible exact Below.refl _ _ | with_reducible refine Below.drew ?_ | with_reducible refine below_drewN ?_ _)) ?_
        simp only [List.getElem_toArray, List.getElem_cons_succ, List.getElem_cons_zero, Act.put, List.setIfInBounds_toArray, List.set_cons_zero, List.set_cons_succ]
        refine anyS_take (i := 3) rfl (by kernel_rfl) (fun _ _ _ h => h) (Or.inl ⟨by rfl, fun Y hYb => (by (try dsimp only at hYb); go_simp; rfl)⟩) (by repeat' (first | with_reducible assumption | with_reducible exact Below.refl _ _ | with_reducible refine Below.drew ?_ | with_reducible refine below_drewN ?_ _)) ?_
        simp only [List.getElem_toArray, List.getElem_cons_succ, List.getElem_cons_zero, Act.put, List.setIfInBounds_toArray, List.set_cons_zero, List.set_cons_succ]
        refine anyS_take (i := 4) rfl (by kernel_rfl) (fun _ _ _ h => h) (Or.inl ⟨by rfl, fun Y hYb => (by (try dsimp only at hYb); go_simp; rfl)⟩) (by repeat' (first | with_reducible assumption | with_reducible exact Below.refl _ _ | with_reducible refine Below.drew ?_ | with_reducible refine below_drewN ?_ _)) ?_
        simp only [List.getElem_toArray, List.getElem_cons_succ, List.getElem_cons_zero, Act.put, List.setIfInBounds_toArray, List.set_cons_zero, List.set_cons_succ]
        refine anyS_take (i := 5) rfl (by kernel_rfl) (fun _ _ _ h => h) (Or.inl ⟨by rfl, fun Y hYb => (by (try dsimp only at hYb); go_simp; rfl)⟩) (by repeat' (first | with_reducible assumption | with_reducible exact Below.refl _ _ | with_reducible refine Below.drew ?_ | with_reducible refine below_drewN ?_ _)) ?_
        simp only [List.getElem_toArray, List.getElem_cons_succ, List.getElem_cons_zero, Act.put, List.setIfInBounds_toArray, List.set_cons_zero, List.set_cons_succ]
        refine anyS_take (i := 6) rfl (by kernel_rfl) (fun _ _ _ h => h) (Or.inl ⟨by rfl, fun Y hYb => (by (try dsimp only at hYb); go_simp; rfl)⟩) (by repeat' (first | with_reducible assumption | with_reducible exact Below.refl _ _ | with_reducible refine Below.drew ?_ | with_reducible refine below_drewN ?_ _)) ?_
        simp only [List.getElem_toArray, List.getElem_cons_succ, List.getElem_cons_zero, Act.put, List.setIfInBounds_toArray, List.set_cons_zero, List.set_cons_succ]
        refine anyS_take (i := 7) rfl (by kernel_rfl) (fun _ _ _ h => h) (Or.inl ⟨by rfl, fun Y hYb => (by (try dsimp only at hYb); go_simp; rfl)⟩) (by repeat' (first | with_reducible assumption | with_reducible exact Below.refl _ _ | with_reducible refine Below.drew ?_ | with_reducible refine below_drewN ?_ _)) ?_
        simp only [List.getElem_toArray, List.getElem_cons_succ, List.getElem_cons_zero, Act.put, List.setIfInBounds_toArray, List.set_cons_zero, List.set_cons_succ]
        refine anyS_take (i := 8) rfl (by kernel_rfl) (fun _ _ _ h => h) (Or.inl ⟨by rfl, fun Y hYb => (by (try dsimp only at hYb); go_simp; rfl)⟩) (by repeat' (first | with_reducible assumption | with_reducible exact Below.refl _ _ | with_reducible refine Below.drew ?_ | with_reducible refine below_drewN ?_ _)) ?_
        simp only [List.getElem_toArray, List.getElem_cons_succ, List.getElem_cons_zero, Act.put, List.setIfInBounds_toArray, List.set_cons_zero, List.set_cons_succ]
        refine anyS_take (i := 9) rfl (by kernel_rfl) (fun _ _ _ h => h) (Or.inl ⟨by rfl, fun Y hYb => (by (try dsimp only at hYb); go_simp; rfl)⟩) (by repeat' (first | with_reducible assumption | with_reducible exact Below.refl _ _ | with_reducible refine Below.drew ?_ | with_reducible refine below_drewN ?_ _)) ?_
        simp only [List.getElem_toArray, List.getElem_cons_succ, List.getElem_cons_zero, Act.put, List.setIfInBounds_toArray, List.set_cons_zero, List.set_cons_succ]
        refine anyS_one (i := 10) (by kernel_rfl) rfl (by rfl) (fun K hK => ?_)
        go_simp
        refine (hr _ (O5.below (by (repeat' (first | with_reducible assumption | with_reducible exact Below.refl _ _ | with_reducible refine Below.drew ?_ | with_reducible refine below_drewN ?_ _ | with_reducible refine balloc ?_ _ | with_reducible refine bset ?_ ?_ _ | with_reducible refine Below.setCell ?_ ?_ _ | with_reducible refine Below.alloc ?_ ?_ _ | omega | (simp; done) | (simp; omega)))))).mono ?_
        rintro e w6 ⟨rfl, hb6⟩
        dsimp only
        have hS6 : Below W5.heap.size W5 w6 := bvia (by (repeat' (first | with_reducible assumption | with_reducible exact Below.refl _ _ | with_reducible refine Below.drew ?_ | with_reducible refine below_drewN ?_ _ | with_reducible refine balloc ?_ _ | with_reducible refine bset ?_ ?_ _ | with_reducible refine Below.setCell ?_ ?_ _ | with_reducible refine Below.alloc ?_ ?_ _ | omega | (simp; done) | (simp; omega)))) hb6
        refine hK _ _ (fun _ _ => hS6) ?_
        clear hK K
        refine anyS_take (i := 11) rfl (by kernel_rfl) (fun _ _ _ h => h) (Or.inl ⟨by rfl, fun Y hYb => (by (try dsimp only at hYb); go_simp; rfl)⟩) (by repeat' (first | with_reducible assumption | with_reducible exact Below.refl _ _ | with_reducible refine Below.drew ?_ | with_reducible refine below_drewN ?_ _)) ?_
        simp only [List.getElem_toArray, List.getElem_cons_succ, List.getElem_cons_zero, Act.put, List.setIfInBounds_toArray, List.set_cons_zero, List.set_cons_succ]
        refine anyS_take (i := 12) rfl (by kernel_rfl) (fun _ _ _ h => h) (Or.inl ⟨by rfl, fun Y hYb => (by (try dsimp only at hYb); go_simp; rfl)⟩) (by repeat' (first | with_reducible assumption | with_reducible exact Below.refl _ _ | with_reducible refine Below.drew ?_ | with_reducible refine below_drewN ?_ _)) ?_
        simp only [List.getElem_toArray, List.getElem_cons_succ, List.getElem_cons_zero, Act.put, List.setIfInBounds_toArray, List.set_cons_zero, List.set_cons_succ]
        have z0 := s0 _ hS6; have z1 := s1 _ hS6; have z2 := s2 _ hS6
        have B6 := bvia B5 hS6; have C6 := bvia C5 hS6
        have X6 := X5.below hS6; have M6 := plm_below M5 hS6
        obtain ⟨w7, hrun, M7, ht⟩ := sl_store M6 (by simp [maxLen]; omega) hwf
        unfold plV at hrun
        have hs6 := C6.size
        have B7 := below_turned B6 ht (by omega) B6.size
        have C7 := below_turned C6 ht (by omega) C6.size
        have X7 := X6.turned ht (by omega)
        have lz := (Xs.below hS6).lt
        clear hl r0 r1 r2 r3 r4 r5 q0 q1 q2 s0 s1 s2
        refine anyS_done (by kernel_rfl) ?_ _
        go_wp2_with fail
        go_roundw
        case rel => exact ⟨k + 1, by omega, by go_num, fun j hj => by
            rcases Nat.lt_succ_iff_lt_or_eq.1 hj with h' | rfl
            · exact HOK.out j h'
            · exact ⟨HS.out, HQ.out⟩, plm_congr M7 (fun y => (HM.out y).symm), X7, B7, C7⟩
        case measure => simp [intOf]; omega
    · obtain rfl : k = m := (by omega)
      have hF : postB Wd Hd o no k p = true := postB_iff.2 ⟨by omega, fun j hj => (HOK.out j hj).1, fun j hj => (HOK.out j hj).2⟩
      have HF := hid hF; clear hF
      go_wp2
      go_ret
      rw [HF.out]
      exact ⟨rfl, hB⟩
end Go.Proofs.YtmmjaobpoiofdaaGreat
