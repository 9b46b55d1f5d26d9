/- Walks: is a note right, of the program. -/
import Derived.Test.YtmmjaobpoiofdaaGreatNMassP
import Derived.Test.YtmmjaobpoiofdaaGreatNFrom
namespace Go.Proofs.YtmmjaobpoiofdaaGreat
open Go Go.RowKit
set_option linter.unusedVariables false
/-- the numbers of a note are in their ranges -/
def noteR (no : Nat) (x : N6) : Bool := within x.st 1 1000000 && within x.ce 0 ((no : Int) - 1) && within x.di 0 3 && within x.co 0 1000000000
/-- its nodes are those of its place -/
def noteO (W H : Nat) (o : Nat → Int) (x : N6) : Bool := (x.to == o x.ce.toNat) && (x.fr == o (nbT W H x.ce.toNat x.di.toNat)) && (o (nbT W H x.ce.toNat x.di.toNat) != x.to)
/-- a note that may be due -/
def noteB (W H : Nat) (o : Nat → Int) (no : Nat) (x : N6) : Bool := noteR no x && noteO W H o x
theorem noteR_iff {no : Nat} {x : N6} : noteR no x = true ↔ (1 ≤ x.st ∧ x.st ≤ 1000000) ∧ (0 ≤ x.ce ∧ x.ce ≤ (no : Int) - 1) ∧ (0 ≤ x.di ∧ x.di ≤ 3) ∧ (0 ≤ x.co ∧ x.co ≤ 1000000000) := by
  simp [noteR, within_iff, and_assoc]
theorem noteB_iff {W H : Nat} {o : Nat → Int} {no : Nat} {x : N6} : noteB W H o no x = true ↔ noteR no x = true ∧ x.to = o x.ce.toNat ∧ x.fr = o (nbT W H x.ce.toNat x.di.toNat) ∧ x.fr ≠ x.to := by
  simp only [noteB, noteO, Bool.and_eq_true, beq_iff_eq, bne_iff_ne, and_assoc]
  constructor
  · rintro ⟨h1, h2, h3, h4⟩; exact ⟨h1, h2, h3, by rw [h3]; exact h4⟩
  · rintro ⟨h1, h2, h3, h4⟩; exact ⟨h1, h2, h3, by rw [← h3]; exact h4⟩
set_option maxRecDepth 100000 in
set_option maxHeartbeats 4000000 in
theorem node_right (Wd Hd : Nat) (a ao : Option Addr) (n c no co : Nat) (o : Nat → Int) (x : N6) (w : World) (h1 : 1 ≤ Wd ∧ Wd ≤ 64) (h2 : 1 ≤ Hd ∧ Hd ≤ 64) (hno : no = Wd * Hd) (HO : Sl w ao no o) :
    Calls Tryz.prog 119 #[.agg (cluV Wd Hd a ao n c no co), .agg #[.int .i64 x.st, .int .i64 x.fr, .int .i64 x.to, .int .i64 x.ce, .int .i64 x.di, .int .i64 x.co]] w fun e w' => e = .returned (.bool (noteB Wd Hd o no x)) ∧ Below w.heap.size w w' := by
  have hno4 : no ≤ 4096 := by
    have : Wd * Hd ≤ 64 * 64 := Nat.mul_le_mul h1.2 h2.2
    omega
  have hcf := fun Y i d => node_from Wd Hd i d a ao n c no co Y h1 h2
  have HNO := hid hno; clear hno
  unfold cluV at *
  cases e1 : within x.st 1 1000000
  · skip
    go_enter Tryz.func119, Tryz.ntmps119
    go_wp2_with (go_at_call 38; refine (node_within _ _ _ _).mono ?_; rintro e w' ⟨rfl, rfl⟩)
    go_ret
    exact ⟨ret_bool (by simp [noteB, noteR, e1]), by (repeat' (first | with_reducible assumption | with_reducible exact Below.refl _ _ | with_reducible refine Below.drew ?_ | with_reducible refine below_drewN ?_ _ | with_reducible refine balloc ?_ _ | with_reducible refine bset ?_ ?_ _ | with_reducible refine Below.setCell ?_ ?_ _ | with_reducible refine Below.alloc ?_ ?_ _ | omega | (simp; done) | (simp; omega)))⟩
  cases e2 : within x.ce 0 ((no : Int) - 1)
  · skip
    go_enter Tryz.func119, Tryz.ntmps119
    go_wp2_with (go_at_call 38; refine (node_within _ _ _ _).mono ?_; rintro e w' ⟨rfl, rfl⟩)
    go_ret
    exact ⟨ret_bool (by simp [noteB, noteR, e2]), by (repeat' (first | with_reducible assumption | with_reducible exact Below.refl _ _ | with_reducible refine Below.drew ?_ | with_reducible refine below_drewN ?_ _ | with_reducible refine balloc ?_ _ | with_reducible refine bset ?_ ?_ _ | with_reducible refine Below.setCell ?_ ?_ _ | with_reducible refine Below.alloc ?_ ?_ _ | omega | (simp; done) | (simp; omega)))⟩
  cases e3 : within x.di 0 3
  · skip
    go_enter Tryz.func119, Tryz.ntmps119
    go_wp2_with (go_at_call 38; refine (node_within _ _ _ _).mono ?_; rintro e w' ⟨rfl, rfl⟩)
    go_ret
    exact ⟨ret_bool (by simp [noteB, noteR, e3]), by (repeat' (first | with_reducible assumption | with_reducible exact Below.refl _ _ | with_reducible refine Below.drew ?_ | with_reducible refine below_drewN ?_ _ | with_reducible refine balloc ?_ _ | with_reducible refine bset ?_ ?_ _ | with_reducible refine Below.setCell ?_ ?_ _ | with_reducible refine Below.alloc ?_ ?_ _ | omega | (simp; done) | (simp; omega)))⟩
  cases e4 : within x.co 0 1000000000
  · skip
    go_enter Tryz.func119, Tryz.ntmps119
    go_wp2_with (go_at_call 38; refine (node_within _ _ _ _).mono ?_; rintro e w' ⟨rfl, rfl⟩)
    go_ret
    exact ⟨ret_bool (by simp [noteB, noteR, e4]), by (repeat' (first | with_reducible assumption | with_reducible exact Below.refl _ _ | with_reducible refine Below.drew ?_ | with_reducible refine below_drewN ?_ _ | with_reducible refine balloc ?_ _ | with_reducible refine bset ?_ ?_ _ | with_reducible refine Below.setCell ?_ ?_ _ | with_reducible refine Below.alloc ?_ ?_ _ | omega | (simp; done) | (simp; omega)))⟩
  have hR : noteR no x = true := by simp [noteR, e1, e2, e3, e4]
  have hB : noteB Wd Hd o no x = noteO Wd Hd o x := by simp [noteB, hR]
  obtain ⟨_, ⟨b1, b2⟩, ⟨b3, b4⟩, _⟩ := noteR_iff.1 hR
  rw [hB]
  clear hR hB
  unfold noteO
  obtain ⟨i, hi⟩ : ∃ i : Nat, x.ce = (i : Int) := ⟨x.ce.toNat, by omega⟩
  obtain ⟨d, hd⟩ : ∃ d : Nat, x.di = (d : Int) := ⟨x.di.toNat, by omega⟩
  have hin : i < no := by omega
  have hd4 : d < 4 := by omega
  have hnb := nbT_lt (W := Wd) (H := Hd) (i := i) (by rw [← HNO.out]; exact hin) hd4
  rw [← HNO.out] at hnb
  have hcf' := fun Y => hcf Y i d (by rw [← HNO.out]; exact hin) hd4
  clear hcf
  obtain ⟨st, fr, to, ce, di, co'⟩ := x
  dsimp only at *
  subst hi hd
  simp only [Int.toNat_natCast]
  clear b1 b2 b3 b4
  have X0 := (Bx.new w #[.int .i64 (Wd : Int), .int .i64 (Hd : Int), .slice a n c, .slice ao no co] 67).alloc (.cells #[.int .i64 st, .int .i64 fr, .int .i64 to, .int .i64 (i : Int), .int .i64 (d : Int), .int .i64 co'] 78)
  have X1 := Bx.new (w.alloc (.cells #[.int .i64 (Wd : Int), .int .i64 (Hd : Int), .slice a n c, .slice ao no co] 67)) #[.int .i64 st, .int .i64 fr, .int .i64 to, .int .i64 (i : Int), .int .i64 (d : Int), .int .i64 co'] 78
  simp only [World.size_alloc] at X1
  have hB0 : Below w.heap.size w ((w.alloc (.cells #[.int .i64 (Wd : Int), .int .i64 (Hd : Int), .slice a n c, .slice ao no co] 67)).alloc (.cells #[.int .i64 st, .int .i64 fr, .int .i64 to, .int .i64 (i : Int), .int .i64 (d : Int), .int .i64 co'] 78)) := by (repeat' (first | with_reducible assumption | with_reducible exact Below.refl _ _ | with_reducible refine Below.drew ?_ | with_reducible refine below_drewN ?_ _ | with_reducible refine balloc ?_ _ | with_reducible refine bset ?_ ?_ _ | with_reducible refine Below.setCell ?_ ?_ _ | with_reducible refine Below.alloc ?_ ?_ _ | omega | (simp; done) | (simp; omega)))
  generalize nbT Wd Hd i d = m at *
  go_enter Tryz.func119, Tryz.ntmps119
  go_wp2_with (go_at_call 38; refine (node_within _ _ _ _).mono ?_; rintro e w' ⟨rfl, rfl⟩)
  generalize ((w.alloc (.cells #[.int .i64 (Wd : Int), .int .i64 (Hd : Int), .slice a n c, .slice ao no co] 67)).alloc (.cells #[.int .i64 st, .int .i64 fr, .int .i64 to, .int .i64 (i : Int), .int .i64 (d : Int), .int .i64 co'] 78)) = W0 at X0 X1 hB0 ⊢
  have z0 := X0.lt
  have z1 := X1.lt
  have IO := HO.below hB0
  obtain ⟨bo, oo, rfl, hbo, co1⟩ := IO i hin
  obtain ⟨bo', oo', e9, _, co2⟩ := IO m hnb
  injection e9 with e9; injection e9 with e9 e10 _
  subst e9 e10
  have r0 : ∀ Y, Below W0.heap.size W0 Y → Y.cell? ⟨w.heap.size, 0, none⟩ = some (.int .i64 (Wd : Int)) := fun Y h => (X0.below h).at_ 0 rfl
  have r1 : ∀ Y, Below W0.heap.size W0 Y → Y.cell? ⟨w.heap.size, 1, none⟩ = some (.int .i64 (Hd : Int)) := fun Y h => (X0.below h).at_ 1 rfl
  have r2 : ∀ Y, Below W0.heap.size W0 Y → Y.cell? ⟨w.heap.size, 2, none⟩ = some (.slice a n c) := fun Y h => (X0.below h).at_ 2 rfl
  have r3 : ∀ Y, Below W0.heap.size W0 Y → Y.cell? ⟨w.heap.size, 3, none⟩ = some (.slice (some ⟨bo, oo, none⟩) no co) := fun Y h => (X0.below h).at_ 3 rfl
  have s3 : ∀ Y, Below W0.heap.size W0 Y → Y.cell? ⟨w.heap.size + 1, 3, none⟩ = some (.int .i64 (i : Int)) := fun Y h => (X1.below h).at_ 3 rfl
  have s4 : ∀ Y, Below W0.heap.size W0 Y → Y.cell? ⟨w.heap.size + 1, 4, none⟩ = some (.int .i64 (d : Int)) := fun Y h => (X1.below h).at_ 4 rfl
  have ro : ∀ Y, Below W0.heap.size W0 Y → Y.cell? ⟨bo, oo + m, none⟩ = some (.int .i64 (o m)) := fun Y h => (bcell h _ _ hbo).trans co2
  have hz0 := hB0.size
  go_region_held3 (fun Y => Below W0.heap.size W0 Y) ((repeat' (first | with_reducible assumption | with_reducible exact Below.refl _ _ | with_reducible refine Below.drew ?_ | with_reducible refine below_drewN ?_ _ | with_reducible refine balloc ?_ _ | with_reducible refine bset ?_ ?_ _ | with_reducible refine Below.setCell ?_ ?_ _ | with_reducible refine Below.alloc ?_ ?_ _ | omega | (simp; done) | (simp; omega))))
    ((first
      | (go_at_call 77; refine (hcf' _).mono ?_; rintro e w8 ⟨rfl, hb8⟩; have hB8 : Below W0.heap.size W0 w8 := bvia (by (repeat' (first | with_reducible assumption | with_reducible exact Below.refl _ _ | with_reducible refine Below.drew ?_ | with_reducible refine below_drewN ?_ _ | with_reducible refine balloc ?_ _ | with_reducible refine bset ?_ ?_ _ | with_reducible refine Below.setCell ?_ ?_ _ | with_reducible refine Below.alloc ?_ ?_ _ | omega | (simp; done) | (simp; omega)))) hb8; have hck := bcell hb8; have hfk := bfrozen hb8; have hzk := hb8.size; (try simp at hzk); (try have hz1k : W0.heap.size < w8.heap.size := (by omega)))
      | fail))
  all_goals
    have Y0 := X0.below hB8; have Y1 := X1.below hB8
    have y3 := Y0.at_ 3 rfl
    have t1 := Y1.at_ 1 rfl; have t2 := Y1.at_ 2 rfl; have t3 := Y1.at_ 3 rfl
    have ci : w8.cell? ⟨bo, oo + i, none⟩ = some (.int .i64 (o i)) := (bcell hB8 _ _ hbo).trans co1
    have hBw := bvia hB0 hB8
    clear r0 r1 r2 r3 s3 s4 ro hcf' hck hfk hb8 co1 co2
    go_wp2_with fail
    cases q1 : (to == o i)
    · go_quiet (fail)
      go_wp2
      go_ret
      exact ⟨by rw [q1]; rfl, by (repeat' (first | with_reducible assumption | with_reducible exact Below.refl _ _ | with_reducible refine Below.drew ?_ | with_reducible refine below_drewN ?_ _ | with_reducible refine balloc ?_ _ | with_reducible refine bset ?_ ?_ _ | with_reducible refine Below.setCell ?_ ?_ _ | with_reducible refine Below.alloc ?_ ?_ _ | omega | (simp; done) | (simp; omega)))⟩
    cases q2 : (fr == o m)
    · go_quiet (fail)
      go_wp2
      go_ret
      exact ⟨by rw [q1, q2]; rfl, by (repeat' (first | with_reducible assumption | with_reducible exact Below.refl _ _ | with_reducible refine Below.drew ?_ | with_reducible refine below_drewN ?_ _ | with_reducible refine balloc ?_ _ | with_reducible refine bset ?_ ?_ _ | with_reducible refine Below.setCell ?_ ?_ _ | with_reducible refine Below.alloc ?_ ?_ _ | omega | (simp; done) | (simp; omega)))⟩
    · go_quiet (fail)
      go_wp2
      go_ret
      exact ⟨by rw [q1, q2]; rfl, by (repeat' (first | with_reducible assumption | with_reducible exact Below.refl _ _ | with_reducible refine Below.drew ?_ | with_reducible refine below_drewN ?_ _ | with_reducible refine balloc ?_ _ | with_reducible refine bset ?_ ?_ _ | with_reducible refine Below.setCell ?_ ?_ _ | with_reducible refine Below.alloc ?_ ?_ _ | omega | (simp; done) | (simp; omega)))⟩
end Go.Proofs.YtmmjaobpoiofdaaGreat
