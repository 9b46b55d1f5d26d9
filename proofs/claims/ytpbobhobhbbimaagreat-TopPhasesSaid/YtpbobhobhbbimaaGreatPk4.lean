/- Walks: a node's cells; from which place particles come, of the program. Walk: from which place particles come into a cell, of the program's nodes. -/
import Derived.Test.YtpbobhobhbbimaaGreatPk3
import Derived.Test.YtpbobhobhbbimaaGreatPk1
import Derived.Test.YtpbobhobhbbimaaGreatPk2
import Derived.Maps.OwnSet
import Derived.DeepKeys4
import Derived.Test.YtpbobhobhbbimaaGreatShelf
import Derived.Lib.OwnBridge
import Derived.LoopIn
import Derived.Sort.CutIn
import Derived.LoopNIn
import Derived.TacticsInMore
import Derived.Shelf.Abstract
import Derived.RangeFuncLeaves
import Derived.Maps.OwnIn
namespace Go.Proofs.YtpbobhobhbbimaaGreat
open Go Go.RowKit
set_option linter.unusedVariables false
/-- a cluster's cells -/
def cluV (W H : Int) (a ao : Option Addr) (n c no co : Nat) : Array Value := #[.int .i64 W, .int .i64 H, .slice a n c, .slice ao no co]
set_option maxHeartbeats 2000000 in
theorem node_owned (W H : Int) (a ao : Option Addr) (n c no co : Nat) (o : Nat → Int) (nd : Int) (w : World) (hno : no ≤ 100000000) (HO : Sl w ao no o) :
    Calls Tryz.prog 60 #[.agg (cluV W H a ao n c no co), .int .i64 nd] w
      fun e w' => ∃ v, e = .returned v ∧ w'.ownsRow w.heap.size 3 1 v (ownL o nd no).length ((ownL o nd no).map vInt) ∧ Below w.heap.size w w' := by
  obtain ⟨i0, hi, hz0, hz1, hz2⟩ := info_parts infoI
  unfold cluV
  have HO1 := HO.alloc (.cells #[.int .i64 W, .int .i64 H, .slice a n c, .slice ao no co] 52)
  go_enter Tryz.func60, Tryz.ntmps60
  go_wp2
  go_loopw [5, 11] (fun v i wr => ∃ k : Nat, k ≤ no ∧ i = .int .i64 k ∧ wr.ownsRow (w.heap.size + 1) 3 1 v (ownL o nd k).length ((ownL o nd k).map vInt) ∧ Below (w.heap.size + 1) (w.alloc (.cells #[.int .i64 W, .int .i64 H, .slice a n c, .slice ao no co] 52)) wr) (fun _ i _ => no - (intOf i).toNat)
  case atStart => exact ⟨0, Nat.zero_le _, rfl, World.ownsRow_nil .., Below.refl _ _⟩
  case round =>
    obtain ⟨k, hk, rfl, hown, hb⟩ := hrel
    have J := HO1.below (by simpa using hb)
    have hbs := hb.size
    rw [World.size_alloc] at hbs
    by_cases hlt : k < no
    · obtain ⟨b1, o1, rfl, _, c1⟩ := J k hlt
      have hbd := ownL_length o nd k
      cases he : (o k == nd)
      · have he' : ¬ o k = nd := by simpa using he
        have HE := hid he'; clear he'
        go_wp2
        go_roundw
        case rel => exact ⟨k + 1, by omega, by go_num, by simp only [ownL, if_neg HE.out]; exact hown, hb⟩
        case measure => simp [intOf]; omega
      · have he' : o k = nd := by simpa using he
        have HE := hid he'; clear he'
        go_wp2_with (at_builtin; refine wpList_append_own _ rfl _ _ 25 rfl (w.heap.size + 1) 3 i0 (.int .i64 0) 1 8 Tryz.underlying25 hi hz0 hz1 hz2 rfl (by decide) _ _ _ rfl (hown.alloc _) ⟨wr.heap.size, 0, none⟩ 1 1 [.int .i64 (k : Int)] rfl rfl (cell_one_new _ _ _) (by simp [Value.oneCell']) (by simp [maxLen]; omega) (by omega) (by simp; omega) ?_; intro v' w1 hown' hgrow _)
        go_roundw
        case rel => exact ⟨k + 1, by omega, by go_num, by simp only [ownL, if_pos HE.out]; exact own_snoc hown', (hb.alloc (by have := hb.size; (try simp at this); omega) _).grown hgrow (by have := hb.size; (try simp at this); simp; omega) (own_base hown)⟩
        case measure => simp [intOf]; omega
    · obtain rfl : k = no := (by omega)
      go_wp2
      go_ret
      exact ⟨_, rfl, own_mono hown (by omega), (below_alloc w _).trans (hb.mono (by omega))⟩
end Go.Proofs.YtpbobhobhbbimaaGreat
namespace Go.Proofs.YtpbobhobhbbimaaGreat
open Go Go.RowKit
set_option linter.unusedVariables false
set_option maxRecDepth 100000 in
set_option maxHeartbeats 2000000 in
theorem node_from (Wd Hd i d : Nat) (a ao : Option Addr) (n c no co : Nat) (w : World) (h1 : 1 ≤ Wd ∧ Wd ≤ 64) (h2 : 1 ≤ Hd ∧ Hd ≤ 64) (hi : i < Wd * Hd) (hd : d < 4) :
    Calls Tryz.prog 67 #[.agg (cluV Wd Hd a ao n c no co), .int .i64 (i : Int), .int .i64 (d : Int)] w fun e w' => e = .returned (.int .i64 (nbT Wd Hd i d : Int)) ∧ Below w.heap.size w w' := by
  obtain ⟨v1, v2⟩ := h1
  obtain ⟨u1, u2⟩ := h2
  obtain ⟨hx, hy⟩ := row_lt hi
  have hii : i < 4096 := by
    have : Wd * Hd ≤ 64 * 64 := Nat.mul_le_mul v2 u2
    omega
  unfold cluV
  have hw0 : ¬ (Wd : Int) = 0 := by omega
  have hh0 : ¬ (Hd : Int) = 0 := by omega
  have ht : (i : Int).tmod (Wd : Int) = (i : Int) % (Wd : Int) := Int.tmod_eq_emod_of_nonneg (by omega)
  have hdv : (i : Int).tdiv (Wd : Int) = (i : Int) / (Wd : Int) := Int.tdiv_eq_ediv_of_nonneg (by omega)
  have hN := nbT_int (i := i) hd (show 0 < Wd by omega) (show 0 < Hd by omega)
  have x0 : 0 ≤ (i : Int) % (Wd : Int) := Int.emod_nonneg _ hw0
  have x1 : (i : Int) % (Wd : Int) < Wd := Int.emod_lt_of_pos _ (by omega)
  have y0 : 0 ≤ (i : Int) / (Wd : Int) := Int.ediv_nonneg (by omega) (by omega)
  have y1 : (i : Int) / (Wd : Int) < Hd := by
    have : ((i / Wd : Nat) : Int) = (i : Int) / (Wd : Int) := by simp
    omega
  have HI := hid hi; clear hi
  generalize (i : Int) % (Wd : Int) = x at *
  generalize (i : Int) / (Wd : Int) = y at *
  have HN := hid hN; clear hN
  clear hx hy
  rcases (by omega : d = 0 ∨ d = 1 ∨ d = 2 ∨ d = 3) with rfl | rfl | rfl | rfl
  · skip
    have tX : (x + -1 + (Wd : Int)).tmod (Wd : Int) = (x + (Wd : Int) - 1) % (Wd : Int) := by rw [Int.tmod_eq_emod_of_nonneg (by omega)]; first | (congr 1; omega; done) | rw [Int.add_emod_right]
    have tY : (y + (Hd : Int)).tmod (Hd : Int) = (y) % (Hd : Int) := by rw [Int.tmod_eq_emod_of_nonneg (by omega)]; first | (congr 1; omega; done) | rw [Int.add_emod_right]
    have a0 : 0 ≤ (x + (Wd : Int) - 1) % (Wd : Int) := Int.emod_nonneg _ hw0
    have a1 : (x + (Wd : Int) - 1) % (Wd : Int) < Wd := Int.emod_lt_of_pos _ (by omega)
    have b0 : 0 ≤ (y) % (Hd : Int) := Int.emod_nonneg _ hh0
    have b1 : (y) % (Hd : Int) < Hd := Int.emod_lt_of_pos _ (by omega)
    have hN : (nbT Wd Hd i 0 : Int) = (x + (Wd : Int) - 1) % (Wd : Int) + (Wd : Int) * ((y) % (Hd : Int)) := by
      rw [HN.out, Int.mul_comm (Wd : Int)]
      rfl
    have hix : ∀ w, (Instr.index 146 (.agg #[.int .i64 (-1), .int .i64 0, .int .i64 0, .int .i64 (-1), .int .i64 1, .int .i64 0, .int .i64 0, .int .i64 1]) (.int .i64 0)).run Tryz.prog w = .ok (.agg #[.int .i64 (-1), .int .i64 (0)]) w := fun _ => by kernel_rfl
    generalize hP : (x + (Wd : Int) - 1) % (Wd : Int) = px at tX a0 a1 hN
    generalize hQ : (y) % (Hd : Int) = py at tY b0 b1 hN
    have m0 : 0 ≤ (Wd : Int) * py := Int.mul_nonneg (by omega) b0
    have m1 : (Wd : Int) * py ≤ 64 * 64 := Int.mul_le_mul (by omega) (by omega) (by omega) (by omega)
    have HN2 := hid hN
    have HX := hid tX; have HY := hid tY
    clear hN HN
    go_enter Tryz.func67, Tryz.ntmps67
    go_wp2
    go_quiet (fail)
    go_wp2
    go_quiet (fail)
    go_wp2
    go_ret
    rw [HN2.out]
    exact ⟨rfl, by (repeat' (first | with_reducible assumption | with_reducible exact Below.refl _ _ | with_reducible refine Below.drew ?_ | with_reducible refine below_drewN ?_ _ | with_reducible refine balloc ?_ _ | with_reducible refine bset ?_ ?_ _ | with_reducible refine Below.setCell ?_ ?_ _ | with_reducible refine Below.alloc ?_ ?_ _ | omega | (simp; done) | (simp; omega)))⟩
  · skip
    have tX : (x + (Wd : Int)).tmod (Wd : Int) = (x) % (Wd : Int) := by rw [Int.tmod_eq_emod_of_nonneg (by omega)]; first | (congr 1; omega; done) | rw [Int.add_emod_right]
    have tY : (y + -1 + (Hd : Int)).tmod (Hd : Int) = (y + (Hd : Int) - 1) % (Hd : Int) := by rw [Int.tmod_eq_emod_of_nonneg (by omega)]; first | (congr 1; omega; done) | rw [Int.add_emod_right]
    have a0 : 0 ≤ (x) % (Wd : Int) := Int.emod_nonneg _ hw0
    have a1 : (x) % (Wd : Int) < Wd := Int.emod_lt_of_pos _ (by omega)
    have b0 : 0 ≤ (y + (Hd : Int) - 1) % (Hd : Int) := Int.emod_nonneg _ hh0
    have b1 : (y + (Hd : Int) - 1) % (Hd : Int) < Hd := Int.emod_lt_of_pos _ (by omega)
    have hN : (nbT Wd Hd i 1 : Int) = (x) % (Wd : Int) + (Wd : Int) * ((y + (Hd : Int) - 1) % (Hd : Int)) := by
      rw [HN.out, Int.mul_comm (Wd : Int)]
      rfl
    have hix : ∀ w, (Instr.index 146 (.agg #[.int .i64 (-1), .int .i64 0, .int .i64 0, .int .i64 (-1), .int .i64 1, .int .i64 0, .int .i64 0, .int .i64 1]) (.int .i64 1)).run Tryz.prog w = .ok (.agg #[.int .i64 (0), .int .i64 (-1)]) w := fun _ => by kernel_rfl
    generalize hP : (x) % (Wd : Int) = px at tX a0 a1 hN
    generalize hQ : (y + (Hd : Int) - 1) % (Hd : Int) = py at tY b0 b1 hN
    have m0 : 0 ≤ (Wd : Int) * py := Int.mul_nonneg (by omega) b0
    have m1 : (Wd : Int) * py ≤ 64 * 64 := Int.mul_le_mul (by omega) (by omega) (by omega) (by omega)
    have HN2 := hid hN
    have HX := hid tX; have HY := hid tY
    clear hN HN
    go_enter Tryz.func67, Tryz.ntmps67
    go_wp2
    go_quiet (fail)
    go_wp2
    go_quiet (fail)
    go_wp2
    go_ret
    rw [HN2.out]
    exact ⟨rfl, by (repeat' (first | with_reducible assumption | with_reducible exact Below.refl _ _ | with_reducible refine Below.drew ?_ | with_reducible refine below_drewN ?_ _ | with_reducible refine balloc ?_ _ | with_reducible refine bset ?_ ?_ _ | with_reducible refine Below.setCell ?_ ?_ _ | with_reducible refine Below.alloc ?_ ?_ _ | omega | (simp; done) | (simp; omega)))⟩
  · skip
    have tX : (x + 1 + (Wd : Int)).tmod (Wd : Int) = (x + 1) % (Wd : Int) := by rw [Int.tmod_eq_emod_of_nonneg (by omega)]; first | (congr 1; omega; done) | rw [Int.add_emod_right]
    have tY : (y + (Hd : Int)).tmod (Hd : Int) = (y) % (Hd : Int) := by rw [Int.tmod_eq_emod_of_nonneg (by omega)]; first | (congr 1; omega; done) | rw [Int.add_emod_right]
    have a0 : 0 ≤ (x + 1) % (Wd : Int) := Int.emod_nonneg _ hw0
    have a1 : (x + 1) % (Wd : Int) < Wd := Int.emod_lt_of_pos _ (by omega)
    have b0 : 0 ≤ (y) % (Hd : Int) := Int.emod_nonneg _ hh0
    have b1 : (y) % (Hd : Int) < Hd := Int.emod_lt_of_pos _ (by omega)
    have hN : (nbT Wd Hd i 2 : Int) = (x + 1) % (Wd : Int) + (Wd : Int) * ((y) % (Hd : Int)) := by
      rw [HN.out, Int.mul_comm (Wd : Int)]
      rfl
    have hix : ∀ w, (Instr.index 146 (.agg #[.int .i64 (-1), .int .i64 0, .int .i64 0, .int .i64 (-1), .int .i64 1, .int .i64 0, .int .i64 0, .int .i64 1]) (.int .i64 2)).run Tryz.prog w = .ok (.agg #[.int .i64 (1), .int .i64 (0)]) w := fun _ => by kernel_rfl
    generalize hP : (x + 1) % (Wd : Int) = px at tX a0 a1 hN
    generalize hQ : (y) % (Hd : Int) = py at tY b0 b1 hN
    have m0 : 0 ≤ (Wd : Int) * py := Int.mul_nonneg (by omega) b0
    have m1 : (Wd : Int) * py ≤ 64 * 64 := Int.mul_le_mul (by omega) (by omega) (by omega) (by omega)
    have HN2 := hid hN
    have HX := hid tX; have HY := hid tY
    clear hN HN
    go_enter Tryz.func67, Tryz.ntmps67
    go_wp2
    go_quiet (fail)
    go_wp2
    go_quiet (fail)
    go_wp2
    go_ret
    rw [HN2.out]
    exact ⟨rfl, by (repeat' (first | with_reducible assumption | with_reducible exact Below.refl _ _ | with_reducible refine Below.drew ?_ | with_reducible refine below_drewN ?_ _ | with_reducible refine balloc ?_ _ | with_reducible refine bset ?_ ?_ _ | with_reducible refine Below.setCell ?_ ?_ _ | with_reducible refine Below.alloc ?_ ?_ _ | omega | (simp; done) | (simp; omega)))⟩
  · skip
    have tX : (x + (Wd : Int)).tmod (Wd : Int) = (x) % (Wd : Int) := by rw [Int.tmod_eq_emod_of_nonneg (by omega)]; first | (congr 1; omega; done) | rw [Int.add_emod_right]
    have tY : (y + 1 + (Hd : Int)).tmod (Hd : Int) = (y + 1) % (Hd : Int) := by rw [Int.tmod_eq_emod_of_nonneg (by omega)]; first | (congr 1; omega; done) | rw [Int.add_emod_right]
    have a0 : 0 ≤ (x) % (Wd : Int) := Int.emod_nonneg _ hw0
    have a1 : (x) % (Wd : Int) < Wd := Int.emod_lt_of_pos _ (by omega)
    have b0 : 0 ≤ (y + 1) % (Hd : Int) := Int.emod_nonneg _ hh0
    have b1 : (y + 1) % (Hd : Int) < Hd := Int.emod_lt_of_pos _ (by omega)
    have hN : (nbT Wd Hd i 3 : Int) = (x) % (Wd : Int) + (Wd : Int) * ((y + 1) % (Hd : Int)) := by
      rw [HN.out, Int.mul_comm (Wd : Int)]
      rfl
    have hix : ∀ w, (Instr.index 146 (.agg #[.int .i64 (-1), .int .i64 0, .int .i64 0, .int .i64 (-1), .int .i64 1, .int .i64 0, .int .i64 0, .int .i64 1]) (.int .i64 3)).run Tryz.prog w = .ok (.agg #[.int .i64 (0), .int .i64 (1)]) w := fun _ => by kernel_rfl
    generalize hP : (x) % (Wd : Int) = px at tX a0 a1 hN
    generalize hQ : (y + 1) % (Hd : Int) = py at tY b0 b1 hN
    have m0 : 0 ≤ (Wd : Int) * py := Int.mul_nonneg (by omega) b0
    have m1 : (Wd : Int) * py ≤ 64 * 64 := Int.mul_le_mul (by omega) (by omega) (by omega) (by omega)
    have HN2 := hid hN
    have HX := hid tX; have HY := hid tY
    clear hN HN
    go_enter Tryz.func67, Tryz.ntmps67
    go_wp2
    go_quiet (fail)
    go_wp2
    go_quiet (fail)
    go_wp2
    go_ret
    rw [HN2.out]
    exact ⟨rfl, by (repeat' (first | with_reducible assumption | with_reducible exact Below.refl _ _ | with_reducible refine Below.drew ?_ | with_reducible refine below_drewN ?_ _ | with_reducible refine balloc ?_ _ | with_reducible refine bset ?_ ?_ _ | with_reducible refine Below.setCell ?_ ?_ _ | with_reducible refine Below.alloc ?_ ?_ _ | omega | (simp; done) | (simp; omega)))⟩
end Go.Proofs.YtpbobhobhbbimaaGreat
/- Walks: is a note right, of the program. -/
namespace Go.Proofs.YtpbobhobhbbimaaGreat
open Go Go.RowKit
set_option linter.unusedVariables false
/-- the numbers of a note are in their ranges -/
def noteR (no : Nat) (x : N6) : Bool := within x.st 1 1000000 && within x.ce 0 ((no : Int) - 1) && within x.di 0 3 && within x.co 0 1000000000
/-- its nodes are those of its place -/
def noteO (W H : Nat) (o : Nat → Int) (x : N6) : Bool := (x.to == o x.ce.toNat) && (x.fr == o (nbT W H x.ce.toNat x.di.toNat)) && (o (nbT W H x.ce.toNat x.di.toNat) != x.to)
/-- a note that may be due -/
def noteB (W H : Nat) (o : Nat → Int) (no : Nat) (x : N6) : Bool := noteR no x && noteO W H o x
theorem noteR_iff {no : Nat} {x : N6} : noteR no x = true ↔ (1 ≤ x.st ∧ x.st ≤ 1000000) ∧ (0 ≤ x.ce ∧ x.ce ≤ (no : Int) - 1) ∧ (0 ≤ x.di ∧ x.di ≤ 3) ∧ (0 ≤ x.co ∧ x.co ≤ 1000000000) := by
  simp [noteR, within_iff, and_assoc]
theorem noteB_iff {W H : Nat} {o : Nat → Int} {no : Nat} {x : N6} : noteB W H o no x = true ↔ noteR no x = true ∧ x.to = o x.ce.toNat ∧ x.fr = o (nbT W H x.ce.toNat x.di.toNat) ∧ x.fr ≠ x.to := by
  simp only [noteB, noteO, Bool.and_eq_true, beq_iff_eq, bne_iff_ne, and_assoc]
  constructor
  · rintro ⟨h1, h2, h3, h4⟩; exact ⟨h1, h2, h3, by rw [h3]; exact h4⟩
  · rintro ⟨h1, h2, h3, h4⟩; exact ⟨h1, h2, h3, by rw [← h3]; exact h4⟩
end Go.Proofs.YtpbobhobhbbimaaGreat
/- Plain words: posts whose places differ; maps of places. -/
namespace Go.Proofs.YtpbobhobhbbimaaGreat
open Go Go.RowKit Go.Maps Go.ChangeMaps
set_option linter.unusedVariables false
/-- two notes have one place -/
def plcB (x y : N6) : Bool := x.st == y.st && x.ce == y.ce && x.di == y.di
theorem plcB_iff {x y : N6} : plcB x y = true ↔ x.st = y.st ∧ x.ce = y.ce ∧ x.di = y.di := by simp [plcB, and_assoc]
/-- is the place of x that of one of the first k notes? -/
def metB (p : Nat → N6) (x : N6) : Nat → Bool | 0 => false | k + 1 => metB p x k || plcB (p k) x
theorem metB_iff {p : Nat → N6} {x : N6} : ∀ {k}, metB p x k = true ↔ ∃ j, j < k ∧ plcB (p j) x = true
  | 0 => by simp [metB]
  | k + 1 => by
    simp only [metB, Bool.or_eq_true, metB_iff]
    constructor
    · rintro (⟨j, h1, h2⟩ | h)
      · exact ⟨j, by omega, h2⟩
      · exact ⟨k, by omega, h⟩
    · rintro ⟨j, h1, h2⟩
      by_cases e : j = k
      · subst e; exact .inr h2
      · exact .inl ⟨j, by omega, h2⟩
/-- a valid post -/
def postB (W H : Nat) (o : Nat → Int) (no m : Nat) (p : Nat → N6) : Bool := decide (m ≤ 100000 ∧ (∀ k, k < m → noteB W H o no (p k) = true) ∧ ∀ k, k < m → metB p (p k) k = false)
theorem postB_iff {W H : Nat} {o : Nat → Int} {no m : Nat} {p : Nat → N6} : postB W H o no m p = true ↔ (m ≤ 100000 ∧ (∀ k, k < m → noteB W H o no (p k) = true) ∧ ∀ k, k < m → metB p (p k) k = false) := by simp [postB]
/-- the key of a place -/
def plV (x : N6) : Value := .agg #[.int .i64 x.st, .int .i64 x.ce, .int .i64 x.di]
def plL (x : N6) : Lit := .string (keyBytes [.int .i64 x.st, .int .i64 x.ce, .int .i64 x.di])
/-- the numbers of a note are ints of 64 bits -/
def wfN (x : N6) : Prop := ∀ j, j < 6 → (Lit.int .i64 (x.get j)).wf = true
theorem laid_out : laidOutB Tryz.prog = true := by kernel_rfl
theorem law_place : WideMaps.KeyLaw Tryz.prog 115 := deep_law_laid laid_out (m := 2) (by omega) (of_decide_eq_true (by kernel_rfl)) (by kernel_rfl) (by kernel_rfl)
theorem key_place {x : N6} (h : wfN x) : keyOf Tryz.prog 115 (plV x) = some (plL x) := by
  have h0 : (Lit.int .i64 x.st).wf = true := h 0 (by omega)
  have h3 : (Lit.int .i64 x.ce).wf = true := h 3 (by omega)
  have h4 : (Lit.int .i64 x.di).wf = true := h 4 (by omega)
  have hc : Tryz.prog.cellsOf 115 = 3 := by kernel_rfl
  have hi : Tryz.prog.cellsOf 3 = 1 := by kernel_rfl
  have hk : Tryz.prog.keyType 115 = true := by kernel_rfl
  have hf : (plV x).formed Tryz.prog 115 = true := by simp [plV, Value.formed, Tryz.underlying115, hc]
  unfold keyOf
  rw [Tryz.underlying115]
  simp only [hk, hf]
  obtain ⟨m, hm⟩ : ∃ m, Tryz.prog.types.size + 1 = m + 2 := ⟨Tryz.prog.types.size - 1, by have : 1 ≤ Tryz.prog.types.size := of_decide_eq_true (by kernel_rfl); omega⟩
  rw [hm]
  have hcl : (plV x).cells.toList = [.int .i64 x.st, .int .i64 x.ce, .int .i64 x.di] := rfl
  rw [hcl]
  have g0 : Tryz.prog.keyLits (m + 1) 3 [.int .i64 x.st] = some [.int .i64 x.st] := by simp [Program.keyLits, Tryz.underlying3, h0]
  have g1 : Tryz.prog.keyLits (m + 1) 3 [.int .i64 x.ce] = some [.int .i64 x.ce] := by simp [Program.keyLits, Tryz.underlying3, h3]
  have g2 : Tryz.prog.keyLits (m + 1) 3 [.int .i64 x.di] = some [.int .i64 x.di] := by simp [Program.keyLits, Tryz.underlying3, h4]
  unfold Program.keyLits
  simp [Tryz.underlying115, hc, hi, g0, g1, g2, plL]
theorem plL_inj {x y : N6} (hx : wfN x) (hy : wfN y) (h : plL x = plL y) : plcB x y = true := by
  have e := (Keyed.of_law law_place).inj (key_place hx) ((key_place hy).trans (congrArg some h.symm))
  simp only [plV, Value.agg.injEq, Array.mk.injEq, List.cons.injEq, Value.int.injEq, true_and, and_true] at e
  exact plcB_iff.2 ⟨e.1, e.2.1, e.2.2⟩
theorem plL_eq {x y : N6} (h : plcB x y = true) : plL x = plL y := by
  obtain ⟨h1, h2, h3⟩ := plcB_iff.1 h
  unfold plL; rw [h1, h2, h3]
theorem plainElem_bool_invN {H : Type} {P : Program} {e : TypeId} (he : P.underlying e = some .bool) {v : Value} {z : DataW H × List MemPlace} (h : plainElem P e v = some z) : ∃ x, v = .bool x ∧ z = (.lit (.bool x), []) := by
  unfold plainElem at h
  rw [he] at h
  cases v <;> simp at h
  exact ⟨_, rfl, h.symm⟩
/-- block b is a map of at most n places that says of each whether it is in S -/
def PlM (K : TypeId) (w : World) (b n : Nat) (S : N6 → Bool) : Prop :=
  ∃ D : DataW Unit, w.ownsMap Tryz.prog K (plainElem Tryz.prog 4) b n D ∧ ∀ x, wfN x → D.atKey (plL x) (.lit (.bool false)) = .lit (.bool (S x))
theorem plm_made (K : TypeId) (w : World) : PlM K (w.alloc (.map #[] 0)) w.heap.size 0 (fun _ => false) :=
  ⟨.map [], World.ownsMap_made w _ _ _, fun i _ => by simp [DataW.atKey]⟩
theorem plm_below {K : TypeId} {w w' : World} {b n : Nat} {S : N6 → Bool} (h : PlM K w b n S) (hb : Below w.heap.size w w') : PlM K w' b n S := by
  obtain ⟨D, ⟨es, clock, h1, h2⟩, hat⟩ := h
  refine ⟨D, ⟨es, clock, ?_, h2⟩, hat⟩
  rw [hb.block b ?_]
  · exact h1
  · rcases Nat.lt_or_ge b w.heap.size with h' | h'
    · exact h'
    · rw [Array.getElem?_eq_none h'] at h1; cases h1
theorem plm_congr {K : TypeId} {w : World} {b n : Nat} {S S' : N6 → Bool} (h : PlM K w b n S) (e : ∀ x, S x = S' x) : PlM K w b n S' := by
  obtain ⟨D, h1, h2⟩ := h
  exact ⟨D, h1, fun x hx => by rw [h2 x hx, e x]⟩
theorem plm_lt {K : TypeId} {w : World} {b n : Nat} {S : N6 → Bool} (h : PlM K w b n S) : b < w.heap.size := by
  obtain ⟨D, ⟨es, clock, h1, h2⟩, hat⟩ := h
  exact (Array.getElem?_eq_some_iff.1 h1).1
section
variable {K T : TypeId} (law : WideMaps.KeyLaw Tryz.prog K) (hkey : ∀ {x : N6}, wfN x → keyOf Tryz.prog K (plV x) = some (plL x)) (ht : Tryz.prog.underlying T = some (.map K 4))
include law hkey ht
theorem plm_look {w : World} {b n : Nat} {S : N6 → Bool} (h : PlM K w b n S) {x : N6} (hx : wfN x) :
    (Instr.lookup T (.map (some b)) (plV x) false).run Tryz.prog w = .ok (.bool (S x)) w := by
  obtain ⟨D, ho, hat⟩ := h
  obtain ⟨v, ps, hrun, hv⟩ := ho.lookup (Keyed.of_law law) ht (z := .bool false) (by kernel_rfl) (plainElem_bool Tryz.underlying4 false) (hkey hx)
  obtain ⟨y, rfl, hy⟩ := plainElem_bool_invN Tryz.underlying4 hv
  rw [hat x hx] at hy
  simp only [Prod.mk.injEq, DataW.lit.injEq, Lit.bool.injEq] at hy
  rw [hrun, hy.1]
theorem plm_store {w : World} {b n : Nat} {S : N6 → Bool} (h : PlM K w b n S) (hn : n < maxLen) {x : N6} (hx : wfN x) :
    ∃ w', (Instr.mapUpdate T (.map (some b)) (plV x) (.bool true)).run Tryz.prog w = .ok () w' ∧ PlM K w' b (n + 1) (fun y => S y || plcB x y) ∧ w.mapTurned w' b := by
  obtain ⟨D, ho, hat⟩ := h
  obtain ⟨w', hrun, ho', htn⟩ := ho.store (Keyed.of_law law) ht hn (hkey hx) (plainElem_bool Tryz.underlying4 true)
  refine ⟨w', hrun, ⟨_, ho', fun y hy => ?_⟩, htn⟩
  cases e : plcB x y
  · rw [atKey_put_other (by intro h'; have := plL_inj hx hy h'.symm; rw [e] at this; cases this), hat y hy]
    simp [e]
  · rw [← plL_eq e, atKey_put_same ho.isMap (by trivial)]
    simp [e]
end
theorem pl_look {w : World} {b n : Nat} {S : N6 → Bool} (h : PlM 115 w b n S) {x : N6} (hx : wfN x) : (Instr.lookup 117 (.map (some b)) (plV x) false).run Tryz.prog w = .ok (.bool (S x)) w := plm_look law_place key_place Tryz.underlying117 h hx
theorem pl_store {w : World} {b n : Nat} {S : N6 → Bool} (h : PlM 115 w b n S) (hn : n < maxLen) {x : N6} (hx : wfN x) :
    ∃ w', (Instr.mapUpdate 117 (.map (some b)) (plV x) (.bool true)).run Tryz.prog w = .ok () w' ∧ PlM 115 w' b (n + 1) (fun y => S y || plcB x y) ∧ w.mapTurned w' b := plm_store law_place key_place Tryz.underlying117 h hn hx
end Go.Proofs.YtpbobhobhbbimaaGreat
/- Walks: ValidPost, of the program and of the reference. Walk: counts, the map of a post from places to counts. -/
namespace Go.Proofs.YtpbobhobhbbimaaGreat
open Go Go.RowKit Go.Maps
set_option linter.unusedVariables false
theorem node_of (x : N6) (w : World) : Calls Tryz.prog 62 #[.agg #[.int .i64 x.st, .int .i64 x.fr, .int .i64 x.to, .int .i64 x.ce, .int .i64 x.di, .int .i64 x.co]] w fun e w' => e = .returned (.agg #[.int .i64 x.st, .int .i64 x.ce, .int .i64 x.di]) ∧ Below w.heap.size w w' := by
  go_enter Tryz.func62, Tryz.ntmps62
  go_wp2
  refine bodyPost_ret (v := .agg #[.int .i64 x.st, .int .i64 x.ce, .int .i64 x.di]) (by simp [results, Tryz.results62, go_sem]) rfl ⟨rfl, ?_⟩
  (repeat' (first | with_reducible assumption | with_reducible exact Below.refl _ _ | with_reducible refine Below.drew ?_ | with_reducible refine below_drewN ?_ _ | with_reducible refine balloc ?_ _ | with_reducible refine bset ?_ ?_ _ | with_reducible refine Below.setCell ?_ ?_ _ | with_reducible refine Below.alloc ?_ ?_ _ | omega | (simp; done) | (simp; omega)))
theorem below_turned {B b : Nat} {w0 w w' : World} (h : Below B w0 w) (ht : w.mapTurned w' b) (hb : B ≤ b) (hB : B ≤ w.heap.size) : Below B w0 w' := h.grown ht.grown hB (fun g e => by injection e with e; omega)
end Go.Proofs.YtpbobhobhbbimaaGreat
namespace Go.Proofs.YtpbobhobhbbimaaGreat
open Go Go.RowKit Go.Maps Go.ChangeMaps
set_option linter.unusedVariables false
set_option linter.unusedSimpArgs false
/-- the count at the place of x of the first k notes -/
def cntV (p : Nat → N6) (x : N6) : Nat → Int | 0 => 0 | k + 1 => if plcB (p k) x then (p k).co else cntV p x k
/-- block b is a map of at most n places to ints: which it has, and what they are -/
def PcM (w : World) (b n : Nat) (S : N6 → Bool) (V : N6 → Int) : Prop :=
  ∃ D : DataW Unit, w.ownsMap Tryz.prog 115 (plainElem Tryz.prog 3) b n D ∧ ∀ x, wfN x → Maps.has D (plL x) = S x ∧ D.atKey (plL x) (.lit (.int .i64 0)) = .lit (.int .i64 (V x))
theorem pcm_made (w : World) : PcM (w.alloc (.map #[] 0)) w.heap.size 0 (fun _ => false) (fun _ => 0) :=
  ⟨.map [], World.ownsMap_made w _ _ _, fun i _ => by simp [DataW.atKey, Maps.has]⟩
theorem pcm_below {w w' : World} {b n : Nat} {S : N6 → Bool} {V : N6 → Int} (h : PcM w b n S V) (hb : Below w.heap.size w w') : PcM w' b n S V := by
  obtain ⟨D, ⟨es, clock, h1, h2⟩, hat⟩ := h
  refine ⟨D, ⟨es, clock, ?_, h2⟩, hat⟩
  rw [hb.block b ?_]
  · exact h1
  · rcases Nat.lt_or_ge b w.heap.size with h' | h'
    · exact h'
    · rw [Array.getElem?_eq_none h'] at h1; cases h1
theorem pcm_congr {w : World} {b n : Nat} {S S' : N6 → Bool} {V V' : N6 → Int} (h : PcM w b n S V) (e : ∀ x, S x = S' x) (e' : ∀ x, V x = V' x) : PcM w b n S' V' := by
  obtain ⟨D, h1, h2⟩ := h
  exact ⟨D, h1, fun x hx => by rw [← e x, ← e' x]; exact h2 x hx⟩
theorem pcm_lt {w : World} {b n : Nat} {S : N6 → Bool} {V : N6 → Int} (h : PcM w b n S V) : b < w.heap.size := by
  obtain ⟨D, ⟨es, clock, h1, h2⟩, hat⟩ := h
  exact (Array.getElem?_eq_some_iff.1 h1).1
theorem pcm_look {w : World} {b n : Nat} {S : N6 → Bool} {V : N6 → Int} (h : PcM w b n S V) {x : N6} (hx : wfN x) :
    (Instr.lookup 89 (.map (some b)) (plV x) true).run Tryz.prog w = .ok (.tuple #[.int .i64 (V x), .bool (S x)]) w := by
  obtain ⟨D, ho, hat⟩ := h
  obtain ⟨v, ps, hrun, hv⟩ := ho.look_ok (Keyed.of_law law_place) Tryz.underlying89 (z := .int .i64 0) (by kernel_rfl) (plainElem_int Tryz.underlying3 (by decide)) (key_place hx)
  obtain ⟨c, rfl, hc, _⟩ := plainElem_int_inv Tryz.underlying3 hv
  obtain ⟨h1, h2⟩ := hat x hx
  rw [h2] at hc
  simp only [Prod.mk.injEq, DataW.lit.injEq, Lit.int.injEq, true_and] at hc
  rw [hrun, h1, hc.1]
theorem pcm_store {w : World} {b n : Nat} {S : N6 → Bool} {V : N6 → Int} (h : PcM w b n S V) (hn : n < maxLen) {x : N6} (hx : wfN x) (c : Int) (hc : (Lit.int .i64 c).wf = true) :
    ∃ w', (Instr.mapUpdate 89 (.map (some b)) (plV x) (.int .i64 c)).run Tryz.prog w = .ok () w' ∧ PcM w' b (n + 1) (fun y => S y || plcB x y) (fun y => if plcB x y then c else V y) ∧ w.mapTurned w' b := by
  obtain ⟨D, ho, hat⟩ := h
  obtain ⟨w', hrun, ho', htn⟩ := ho.store (Keyed.of_law law_place) Tryz.underlying89 hn (key_place hx) (plainElem_int Tryz.underlying3 hc)
  refine ⟨w', hrun, ⟨_, ho', fun y hy => ?_⟩, htn⟩
  cases e : plcB x y
  · have hne : plL y ≠ plL x := by intro h'; have := plL_inj hx hy h'.symm; rw [e] at this; cases this
    rw [atKey_put_other hne, has_put_other hne, (hat y hy).1, (hat y hy).2]
    simp [e]
  · rw [← plL_eq e, atKey_put_same ho.isMap (by trivial), has_put_same ho.isMap (by trivial)]
    simp [e]
set_option maxRecDepth 100000 in
set_option maxHeartbeats 4000000 in
theorem node_counts (ap : Option Addr) (q cp : Nat) (p : Nat → N6) (w : World) (hq : q ≤ 100000000) (HP : Sn w ap q p) (HW : ∀ k, k < q → wfN (p k)) :
    Calls Tryz.prog 43 #[.slice ap q cp] w fun e w' => ∃ b, e = .returned (.map (some b)) ∧ PcM w' b q (fun y => metB p y q) (fun y => cntV p y q) ∧ Below w.heap.size w w' := by
  have hmm := @run_makeMap Tryz.prog
  have P1 := HP.alloc (.map #[] 0)
  have M1 := pcm_made w
  have B1 := below_alloc w (.map #[] 0)
  have HWF := hid HW; clear HW
  go_enter Tryz.func43, Tryz.ntmps43
  go_wp2
  clear hmm
  go_loopw [9] (fun i wr => ∃ k : Nat, k ≤ q ∧ i = .int .i64 k ∧ PcM wr w.heap.size k (fun y => metB p y k) (fun y => cntV p y k) ∧ Below w.heap.size w wr) (fun i _ => q - (intOf i).toNat)
  case atStart => exact ⟨0, Nat.zero_le _, rfl, M1, B1⟩
  case round =>
    obtain ⟨k, hk, rfl, hM, hB⟩ := hrel
    have hkey := pcm_lt hM
    by_cases hlt : k < q
    · obtain ⟨b1, o1, rfl, hb1, c0, c1, c2, c3, c4, c5⟩ := (HP.below hB).six hlt
      have hwf := HWF.out k hlt
      have hof := fun W => node_of (p k) W
      go_wp2_with fail
      have hW : Below wr.heap.size wr (wr.alloc (.cells #[.int .i64 (p k).st, .int .i64 (p k).fr, .int .i64 (p k).to, .int .i64 (p k).ce, .int .i64 (p k).di, .int .i64 (p k).co] 94)) := by (repeat' (first | with_reducible assumption | with_reducible exact Below.refl _ _ | with_reducible refine Below.drew ?_ | with_reducible refine below_drewN ?_ _ | with_reducible refine balloc ?_ _ | with_reducible refine bset ?_ ?_ _ | with_reducible refine Below.setCell ?_ ?_ _ | with_reducible refine Below.alloc ?_ ?_ _ | omega | (simp; done) | (simp; omega)))
      have Xs := Bx.new wr #[.int .i64 (p k).st, .int .i64 (p k).fr, .int .i64 (p k).to, .int .i64 (p k).ce, .int .i64 (p k).di, .int .i64 (p k).co] 94
      have M5 := pcm_below hM hW
      have B5 := bvia hB hW
      clear hM c0 c1 c2 c3 c4 c5
      generalize hWg : (wr.alloc (.cells #[.int .i64 (p k).st, .int .i64 (p k).fr, .int .i64 (p k).to, .int .i64 (p k).ce, .int .i64 (p k).di, .int .i64 (p k).co] 94)) = W5 at *
      clear hWg
      have s0 : ∀ Y, Below W5.heap.size W5 Y → Y.cell? ⟨wr.heap.size, 0, none⟩ = some (.int .i64 (p k).st) := fun Y h => (Xs.below h).at_ 0 rfl
      have s1 : ∀ Y, Below W5.heap.size W5 Y → Y.cell? ⟨wr.heap.size, 1, none⟩ = some (.int .i64 (p k).fr) := fun Y h => (Xs.below h).at_ 1 rfl
      have s2 : ∀ Y, Below W5.heap.size W5 Y → Y.cell? ⟨wr.heap.size, 2, none⟩ = some (.int .i64 (p k).to) := fun Y h => (Xs.below h).at_ 2 rfl
      have s3 : ∀ Y, Below W5.heap.size W5 Y → Y.cell? ⟨wr.heap.size, 3, none⟩ = some (.int .i64 (p k).ce) := fun Y h => (Xs.below h).at_ 3 rfl
      have s4 : ∀ Y, Below W5.heap.size W5 Y → Y.cell? ⟨wr.heap.size, 4, none⟩ = some (.int .i64 (p k).di) := fun Y h => (Xs.below h).at_ 4 rfl
      have s5 : ∀ Y, Below W5.heap.size W5 Y → Y.cell? ⟨wr.heap.size, 5, none⟩ = some (.int .i64 (p k).co) := fun Y h => (Xs.below h).at_ 5 rfl
      have hz := hW.size
      refine wp_region_S (fun Y => Below W5.heap.size W5 Y) 5 (by kernel_rfl) ?_
      refine anyS_take (i := 0) rfl (by kernel_rfl) (fun _ _ _ h => h) (Or.inl ⟨by rfl, fun Y hYb => (by (try dsimp only at hYb); go_simp; rfl)⟩) (by repeat' (first | with_reducible assumption | with_reducible exact Below.refl _ _ | with_reducible refine Below.drew ?_ | with_reducible refine below_drewN ?_ _)) ?_
      simp only [List.getElem_toArray, List.getElem_cons_succ, List.getElem_cons_zero, Act.put, List.setIfInBounds_toArray, List.set_cons_zero, List.set_cons_succ]
      refine anyS_take (i := 1) rfl (by kernel_rfl) (fun _ _ _ h => h) (Or.inl ⟨by rfl, fun Y hYb => (by (try dsimp only at hYb); go_simp; rfl)⟩) (by repeat' (first | with_reducible assumption | with_reducible exact Below.refl _ _ | with_reducible refine Below.drew ?_ | with_reducible refine below_drewN ?_ _)) ?_
      simp only [List.getElem_toArray, List.getElem_cons_succ, List.getElem_cons_zero, Act.put, List.setIfInBounds_toArray, List.set_cons_zero, List.set_cons_succ]
      refine anyS_take (i := 3) rfl (by kernel_rfl) (fun _ _ _ h => h) (Or.inl ⟨by rfl, fun Y hYb => (by (try dsimp only at hYb); go_simp; rfl)⟩) (by repeat' (first | with_reducible assumption | with_reducible exact Below.refl _ _ | with_reducible refine Below.drew ?_ | with_reducible refine below_drewN ?_ _)) ?_
      simp only [List.getElem_toArray, List.getElem_cons_succ, List.getElem_cons_zero, Act.put, List.setIfInBounds_toArray, List.set_cons_zero, List.set_cons_succ]
      refine anyS_take (i := 4) rfl (by kernel_rfl) (fun _ _ _ h => h) (Or.inl ⟨by rfl, fun Y hYb => (by (try dsimp only at hYb); go_simp; rfl)⟩) (by repeat' (first | with_reducible assumption | with_reducible exact Below.refl _ _ | with_reducible refine Below.drew ?_ | with_reducible refine below_drewN ?_ _)) ?_
      simp only [List.getElem_toArray, List.getElem_cons_succ, List.getElem_cons_zero, Act.put, List.setIfInBounds_toArray, List.set_cons_zero, List.set_cons_succ]
      refine anyS_one (i := 2) (by kernel_rfl) rfl (by rfl) (fun K hK => ?_)
      go_simp
      refine (hof _).mono ?_
      rintro e w6 ⟨rfl, hb6⟩
      dsimp only
      have hS6 : Below W5.heap.size W5 w6 := bvia (by (repeat' (first | with_reducible assumption | with_reducible exact Below.refl _ _ | with_reducible refine Below.drew ?_ | with_reducible refine below_drewN ?_ _ | with_reducible refine balloc ?_ _ | with_reducible refine bset ?_ ?_ _ | with_reducible refine Below.setCell ?_ ?_ _ | with_reducible refine Below.alloc ?_ ?_ _ | omega | (simp; done) | (simp; omega)))) hb6
      refine hK _ _ (fun _ _ => hS6) ?_
      clear hK K hb6
      have M6 := pcm_below M5 hS6
      have B6 := bvia B5 hS6
      obtain ⟨w7, hrun, M7, ht⟩ := pcm_store M6 (by simp [maxLen]; omega) hwf (p k).co (hwf 5 (by omega))
      unfold plV at hrun
      have hs6 := hS6.size
      have B7 := below_turned B6 ht (Nat.le_refl _) B6.size
      refine anyS_one (i := 5) (by kernel_rfl) rfl (by rfl) (fun K hK => ?_)
      go_simp
      refine hK _ _ (fun h _ => absurd h (by decide)) ?_
      clear hK K
      refine anyS_done (by kernel_rfl) ?_ _
      go_wp2
      go_roundw
      case rel => exact ⟨k + 1, by omega, by go_num, pcm_congr M7 (fun y => rfl) (fun y => rfl), B7⟩
      case measure => simp [intOf]; omega
    · obtain rfl : k = q := (by omega)
      go_wp2
      go_ret
      exact ⟨_, rfl, hM, hB⟩
end Go.Proofs.YtpbobhobhbbimaaGreat
/- Walks: SameInts, Same. -/
namespace Go.Proofs.YtpbobhobhbbimaaGreat
open Go.RowKit
set_option linter.unusedVariables false
def sameL (n : Nat) (f : Nat → Int) (m : Nat) (g : Nat → Int) : Bool := decide (n = m ∧ ∀ k, k < n → f k = g k)
theorem sameL_iff {n : Nat} {f : Nat → Int} {m : Nat} {g : Nat → Int} : sameL n f m g = true ↔ (n = m ∧ ∀ k, k < n → f k = g k) := by simp [sameL]
end Go.Proofs.YtpbobhobhbbimaaGreat
/- Walks: is a site right, of the program and of the reference. -/
namespace Go.Proofs.YtpbobhobhbbimaaGreat
open Go Go.RowKit
set_option linter.unusedVariables false
set_option linter.unusedSimpArgs false
/-- a site that is as one of valid sites -/
def siteB (o : Nat → Int) (no : Nat) (s : SiteR) : Bool :=
  within s.st 0 1000000 && sameL s.ni s.I (ownL o s.nd no).length (fun k => (ownL o s.nd no).getD k 0) && decide (s.nc = s.ni) && massB s.nc s.C
theorem siteB_iff {o : Nat → Int} {no : Nat} {s : SiteR} : siteB o no s = true ↔ within s.st 0 1000000 = true ∧ sameL s.ni s.I (ownL o s.nd no).length (fun k => (ownL o s.nd no).getD k 0) = true ∧ s.nc = s.ni ∧ massB s.nc s.C = true := by
  simp [siteB, Bool.and_eq_true, and_assoc]
theorem node_within_b {n lo hi : Int} {b : Bool} (h : within n lo hi = b) (w : World) : Calls Tryz.prog 17 #[.int .i64 n, .int .i64 lo, .int .i64 hi] w fun e w' => e = .returned (.bool b) ∧ w = w' := h ▸ node_within n lo hi w
end Go.Proofs.YtpbobhobhbbimaaGreat
/- Walk: the nodes that own a cell, of the program. Walks: the notes that are due, as the program's iterator yields them. Walk: the notes that are due, of the reference. Walks: the notes that an iterator yields, as a list. Walks: Due, of the program and of the reference; equal notes. -/
namespace Go.Proofs.YtpbobhobhbbimaaGreat
open Go Go.RowKit Go.Sort
set_option linter.unusedVariables false
theorem below_grow (w : World) (os : Array Obj) : Below w.heap.size w (grow w os) :=
  ⟨rfl, rfl, rfl, by simp [grow], fun k hk => heap_grow_old w os hk⟩
theorem ownersL_length (o : Nat → Int) (n : Nat) : (ownersL o n).length = n := by simp [ownersL]
theorem ownersL_get (o : Nat → Int) (n k : Nat) (h : k < n) : (ownersL o n).getD k 0 = o k := by simp [ownersL, List.getD_eq_getElem?_getD, h]
theorem sort_pairwise (zs : List Int) : (zs.mergeSort fun x y => decide (x ≤ y)).Pairwise (· ≤ ·) := by
  have h := List.pairwise_mergeSort (le := fun x y : Int => decide (x ≤ y)) (fun a b c h1 h2 => by simp at *; omega) (fun a b => by simp; omega) zs
  exact h.imp (fun h => by simpa using h)
set_option maxRecDepth 100000 in
set_option maxHeartbeats 2000000 in
theorem node_nodes (W H : Int) (a ao : Option Addr) (n c no co : Nat) (o : Nat → Int) (w : World) (h0 : 0 < no) (hno : no ≤ 4096) (ho : ∀ k, k < no → 0 ≤ o k ∧ o k ≤ 7) (HO : Sl w ao no o) :
    Calls Tryz.prog 19 #[.agg (cluV W H a ao n c no co)] w fun e w' => ∃ v, e = .returned v ∧ w'.ownsRow w.heap.size 3 1 v (nodeL o no 8).length ((nodeL o no 8).map vInt) ∧ Below w.heap.size w w' := by
  unfold cluV
  obtain ⟨b, off, rfl, hb, _⟩ := HO 0 h0
  have J := HO.alloc (.cells #[.int .i64 W, .int .i64 H, .slice a n c, .slice (some ⟨b, off, none⟩) no co] 52)
  have hcl := fun (W' : World) (hJ : Sl W' (some ⟨b, off, none⟩) no o) => Tryz.slices_Clone_int b off no co (ownersL o no) W' (by rw [ownersL_length]; exact Nat.le_refl _) (by omega) (fun j hj => by
    rw [ownersL_length] at hj
    obtain ⟨b', off', e, _, hc⟩ := hJ j hj
    injection e with e; injection e with e1 e2 _
    subst e1 e2
    rw [ownersL_get _ _ _ hj]; exact hc)
  have hcl' := hcl _ J
  clear hcl
  go_enter Tryz.func19, Tryz.ntmps19
  go_wp2_with fail
  refine hcl'.mono ?_
  rintro e w1 ⟨v1, rfl, hown1, hv1, hb1⟩
  clear hcl'
  have ht : (ownersL o no).take no = ownersL o no := List.take_of_length_le (by rw [ownersL_length]; exact Nat.le_refl _)
  rw [ht] at hown1
  clear ht
  obtain ⟨g, cap, rfl, hg1, hg2, hcap, hcm, _, hH1⟩ := Lib.holds_of_ownsRow hown1 hv1
  have hso := Tryz.slices_Sort_int g 0 cap (ownersL o no) w1 hH1 hg2 (by rw [ownersL_length]; omega)
  rw [ownersL_length] at hso
  obtain ⟨ys, hys⟩ : ∃ ys, ys = (ownersL o no).mergeSort (fun x y => decide (x ≤ y)) := ⟨_, rfl⟩
  have hyl : ys.length = no := by rw [hys, List.length_mergeSort, ownersL_length]
  have hyp : ys.Perm (ownersL o no) := by rw [hys]; exact List.mergeSort_perm _ _
  have hyo : ys.Pairwise (· ≤ ·) := by rw [hys]; exact sort_pairwise _
  rw [← hys] at hso
  have hcomp := nodes_of ho hyp hyo
  have HC := hid hcomp
  clear hys hcomp hyp hyo
  have HYL := hid hyl; clear hyl
  go_wp2_with fail
  refine hso.mono ?_
  rintro e w2 ⟨rfl, q, os, hw2⟩
  clear hso
  have hown2 : w2.ownsRow (w.heap.size + 1) 3 1 (.slice (some ⟨g, 0, none⟩) no cap) no (ys.map (Value.int .i64)) := by
    have h := Lib.ownsRow_putRow (q := q) (k := no) hown1 HYL.out (Nat.le_refl _)
    rw [List.take_of_length_le (by rw [HYL.out]; exact Nat.le_refl _)] at h
    rw [hw2]
    have h2 := own_below h (below_grow _ os)
    simpa using h2
  have hbb : Below w.heap.size w w2 := by
    rw [hw2]
    have h := Lib.below_putRow (enc := Value.int .i64) (q := q) (d := ys.toArray) (bvia (below_alloc w _) hb1) (show w.heap.size ≤ g by simp at hg1; omega)
    exact bvia h (below_grow _ os)
  clear hw2 hown1 hH1 hb1 J
  obtain ⟨g', cap', hv2, hg1', hg2', hcap', _, _, hH2⟩ := Lib.holds_of_ownsRow hown2 (fun h => by injection h with h; cases h)
  injection hv2 with e1 e2 e3
  injection e1 with e1; injection e1 with e1
  subst e1 e3
  have hco := Tryz.slices_Compact_int g 0 cap ys w2 hH2 (by rw [HYL.out]; omega) (by rw [HYL.out]; exact hcap)
  rw [HYL.out] at hco
  clear e2
  obtain ⟨zs, hzs⟩ : ∃ zs, zs = Lib.compact ys := ⟨_, rfl⟩
  have hzl : zs.length ≤ no := by rw [hzs, ← HYL.out]; exact Lib.compact_length_le ys
  rw [← hzs] at hco
  have HZ : Hid (zs = nodeL o no 8) := hid (by rw [hzs]; exact HC.out)
  clear hzs
  go_wp2_with fail
  refine hco.mono ?_
  rintro e w3 ⟨rfl, q2, hw3⟩
  clear hco
  have hown3 : w3.ownsRow (w.heap.size + 1) 3 1 (.slice (some ⟨g, 0, none⟩) zs.length cap) zs.length (zs.map (Value.int .i64)) := by
    have h := Lib.ownsRow_putRow (q := q2) (k := zs.length) (ys := zs ++ List.replicate (no - zs.length) 0) hown2 (by simp; omega) hzl
    rw [List.take_left] at h
    rw [hw3]
    exact h
  have hb3 : Below w.heap.size w w3 := by
    rw [hw3]
    exact Lib.below_putRow hbb (by omega)
  clear hw3
  go_wp2
  go_ret
  rw [← HZ.out]
  exact ⟨_, rfl, own_mono hown3 (by omega), hb3⟩
end Go.Proofs.YtpbobhobhbbimaaGreat
namespace Go.Proofs.YtpbobhobhbbimaaGreat
open Go Go.RowKit
attribute [local go_sem] Oper.semAt_some
set_option linter.unusedVariables false
def encN (x : N6) : Array Value := #[.agg #[.int .i64 x.st, .int .i64 x.fr, .int .i64 x.to, .int .i64 x.ce, .int .i64 x.di, .int .i64 x.co]]
theorem dueC_pre (W H : Nat) (o : Nat → Int) (nd st : Int) (i d : Nat) : ∀ m, d ≤ m → dueC W H o nd st i d <+: dueC W H o nd st i m
  | 0, h => by rw [show d = 0 from by omega]; exact List.prefix_refl _
  | m + 1, h => by
    rcases Nat.lt_or_ge d (m + 1) with h' | h'
    · refine (dueC_pre W H o nd st i d m (by omega)).trans ?_
      simp only [dueC]
      split
      · exact List.prefix_refl _
      · exact List.prefix_append _ _
    · rw [show d = m + 1 from by omega]; exact List.prefix_refl _
theorem dueO_pre (W H : Nat) (o : Nat → Int) (nd st : Int) (l m : List Int) (h : l <+: m) : dueO W H o nd st l <+: dueO W H o nd st m := by
  obtain ⟨t, rfl⟩ := h
  simp only [dueO, List.flatMap_append]
  exact List.prefix_append _ _
theorem take_getD {l : List Int} {k : Nat} (h : k < l.length) : l.take (k + 1) = l.take k ++ [l.getD k 0] := by
  rw [List.take_succ_eq_append_getElem h, List.getD_eq_getElem?_getD, List.getElem?_eq_getElem h]; rfl
theorem own_at {o : Nat → Int} {nd : Int} {n k : Nat} (h : k < (ownL o nd n).length) : ∃ i : Nat, i < n ∧ (ownL o nd n).getD k 0 = i ∧ o i = nd := by
  refine ownL_mem.1 ?_
  rw [List.getD_eq_getElem?_getD, List.getElem?_eq_getElem h]
  exact List.getElem_mem _
theorem own_butN {C : Nat → Prop} {X Y : World} {base : Nat} {e : TypeId} {size n : Nat} {v : Value} {xs : List Value} (h : X.ownsRow base e size v n xs) (hb : But C X Y) (hne : ∀ g, v.ownBlock = some g → ¬ C g) : Y.ownsRow base e size v n xs := by
  refine ⟨h.1, ?_⟩
  rcases h.2 with h' | ⟨g, cap, cur, rfl, hbs, hh, rest⟩
  · exact .inl h'
  · refine .inr ⟨g, cap, cur, rfl, hbs, ?_, rest⟩
    rw [hb.block g (own_lt h g rfl) (hne g rfl)]
    exact hh
theorem node_due (W H : Int) (a ao : Option Addr) (n c no co : Nat) (nd st : Int) (w : World) :
    Calls Tryz.prog 61 #[.agg (cluV W H a ao n c no co), .int .i64 nd, .int .i64 st] w fun e w' => ∃ bc bn bs, e = .returned (.func (.func 89) #[] #[.pointer (some ⟨bc, 0, none⟩), .pointer (some ⟨bn, 0, none⟩), .pointer (some ⟨bs, 0, none⟩)]) ∧
      Bx w' bc (cluV W H a ao n c no co) ∧ Bx w' bn #[.int .i64 nd] ∧ Bx w' bs #[.int .i64 st] ∧ (w.heap.size ≤ bc ∧ w.heap.size ≤ bn ∧ w.heap.size ≤ bs) ∧ Below w.heap.size w w' := by
  unfold cluV
  have X0 := ((Bx.new w #[.int .i64 W, .int .i64 H, .slice a n c, .slice ao no co] 52).alloc (.cells #[.int .i64 nd] 3)).alloc (.cells #[.int .i64 st] 3)
  have X1 := (Bx.new (w.alloc (.cells #[.int .i64 W, .int .i64 H, .slice a n c, .slice ao no co] 52)) #[.int .i64 nd] 3).alloc (.cells #[.int .i64 st] 3)
  have X2 := Bx.new ((w.alloc (.cells #[.int .i64 W, .int .i64 H, .slice a n c, .slice ao no co] 52)).alloc (.cells #[.int .i64 nd] 3)) #[.int .i64 st] 3
  simp only [World.size_alloc] at X1 X2
  have hB0 : Below w.heap.size w (((w.alloc (.cells #[.int .i64 W, .int .i64 H, .slice a n c, .slice ao no co] 52)).alloc (.cells #[.int .i64 nd] 3)).alloc (.cells #[.int .i64 st] 3)) := by (repeat' (first | with_reducible assumption | with_reducible exact Below.refl _ _ | with_reducible refine Below.drew ?_ | with_reducible refine below_drewN ?_ _ | with_reducible refine balloc ?_ _ | with_reducible refine bset ?_ ?_ _ | with_reducible refine Below.setCell ?_ ?_ _ | with_reducible refine Below.alloc ?_ ?_ _ | omega | (simp; done) | (simp; omega)))
  go_enter Tryz.func61, Tryz.ntmps61
  go_wp2_with fail
  generalize (((w.alloc (.cells #[.int .i64 W, .int .i64 H, .slice a n c, .slice ao no co] 52)).alloc (.cells #[.int .i64 nd] 3)).alloc (.cells #[.int .i64 st] 3)) = W0 at X0 X1 X2 hB0 ⊢
  have z0 := X0.lt
  have z1 := X1.lt
  have z2 := X2.lt
  go_ret
  exact ⟨_, _, _, rfl, X0, X1, X2, ⟨by omega, by omega, by omega⟩, hB0⟩
theorem ent_due : ∀ args w, (callFunc 89 args).run Tryz.prog w = .ok (.enter 89 args) w := Go.Proofs.enters_of Tryz.func89 (by kernel_rfl) rfl
/-- what the iterator reads of its own boxes -/
def DueRd (cv : Array Value) (nd st : Int) (bc bn bs : Nat) (X : World) : Prop := Bx X bc cv ∧ Bx X bn #[.int .i64 nd] ∧ Bx X bs #[.int .i64 st]
set_option maxRecDepth 100000 in
set_option maxHeartbeats 4000000 in
theorem due_iterR (Wd Hd : Nat) (a ao : Option Addr) (n c no co : Nat) (o : Nat → Int) (nd st : Int) (bc bn bs : Nat) (w₀ : World) (h1 : 1 ≤ Wd ∧ Wd ≤ 64) (h2 : 1 ≤ Hd ∧ Hd ≤ 64) (hno : no = Wd * Hd) (HO : Sl w₀ ao no o) :
    IterR Tryz.prog 89 #[.pointer (some ⟨bc, 0, none⟩), .pointer (some ⟨bn, 0, none⟩), .pointer (some ⟨bs, 0, none⟩)] encN (dueL Wd Hd o nd st no) w₀ (DueRd (cluV Wd Hd a ao n c no co) nd st bc bn bs) := by
  intro l J Jx C₀ W hR0 hW hC hJ hJx hY h0
  have hs0 := hW.size
  have hno4 : no ≤ 4096 := by
    have : Wd * Hd ≤ 64 * 64 := Nat.mul_le_mul h1.2 h2.2
    omega
  have HNO := hid hno; clear hno
  rw [← dueO_own] at hY ⊢
  have hC0 := hC [] C₀ W h0
  unfold cluV at hR0
  obtain ⟨Yc, Yn, _⟩ := hR0 _ _ _ h0
  have c0 := Yc.at_ 0 rfl; have c1 := Yc.at_ 1 rfl; have c2 := Yc.at_ 2 rfl; have c3 := Yc.at_ 3 rfl; have cn := Yn.at_ 0 rfl; have lc := Yc.lt; have ln := Yn.lt
  have hcall := node_owned (Wd : Int) (Hd : Int) a ao n c no co o nd W (by omega) (HO.below hW)
  unfold cluV at hcall
  refine callsIn_wide.1 (callsIn_of_wp (F := Fence.wide) (n := 0) Tryz.func89 rfl trivial ?_)
  simp only [Tryz.ntmps89, List.size_toArray, List.length_cons, List.length_nil, Nat.reduceAdd, Nat.reduceSub, Array.replicate_succ, Array.replicate_zero, List.push_toArray, List.append_toArray, List.nil_append, List.cons_append]
  gi_wp2_with fail
  refine ⟨trivial, rfl, callsIn_wide.2 (hcall.mono ?_)⟩
  rintro e w1 ⟨v, rfl, hown, hb1⟩
  obtain ⟨av, cv, hv, _⟩ := sl_of_own hown
  obtain ⟨L, hL⟩ : ∃ L, L = ownL o nd no := ⟨_, rfl⟩
  have hLn : L.length ≤ no := by rw [hL]; exact ownL_length _ _ _
  have hLa : ∀ k, k < L.length → ∃ i : Nat, i < no ∧ L.getD k 0 = i ∧ o i = nd := fun k hk => by rw [hL] at hk ⊢; exact own_at hk
  have HLA := hid hLa; clear hLa
  rw [← hL] at hown hY hv
  have HL := hid hL; clear hL
  subst hv
  have hj1 : J (dueO Wd Hd o nd st (L.take 0)) C₀ w1 := hJ _ _ _ _ h0 (but_below hb1 (Nat.le_refl _))
  have hne0 : ∀ g, (Value.slice av L.length cv).ownBlock = some g → ¬ C₀ g := fun g hg hc => by have := own_base hown g hg; have := (hC0 g hc).2; omega
  have hB1 : Below w₀.heap.size w₀ w1 := hW.trans (hb1.mono hs0)
  have hs1 := hb1.size
  clear c0 c1 c2 c3 cn
  gi_wp2_with fail
  gi_loopw [13] (fun i wr => ∃ k : Nat, k ≤ L.length ∧ i = .int .i64 k ∧ wr.ownsRow W.heap.size 3 1 (.slice av L.length cv) L.length (L.map vInt) ∧ ∃ C, J (dueO Wd Hd o nd st (L.take k)) C wr ∧ But C₀ W wr ∧ Grw C₀ C W ∧ Below w₀.heap.size w₀ wr ∧ W.heap.size ≤ wr.heap.size ∧ (∀ g, (Value.slice av L.length cv).ownBlock = some g → ¬ C g)) (fun i _ => L.length - (intOf i).toNat)
  case atStart => exact ⟨0, Nat.zero_le _, rfl, hown, C₀, hj1, but_below hb1 (Nat.le_refl _), Grw.refl _ _, hB1, hs1, hne0⟩
  case round =>
    obtain ⟨wo, rfl⟩ : ∃ wo : World, wo = wr := ⟨_, rfl⟩
    obtain ⟨k, hk, rfl, hown, C, hj, hbut, hg, hB, hz, hne⟩ := hrel
    by_cases hlt : k < L.length
    · obtain ⟨i, hi, hLk, hoi⟩ := HLA.out k hlt
      have HOI := hid hoi; clear hoi
      have hT : dueO Wd Hd o nd st (L.take (k + 1)) = dueO Wd Hd o nd st (L.take k) ++ dueC Wd Hd o nd st i 4 := by
        rw [take_getD hlt, dueO_snoc, hLk]; rfl
      have hTp : dueO Wd Hd o nd st (L.take (k + 1)) <+: dueO Wd Hd o nd st L := dueO_pre _ _ _ _ _ _ _ (List.take_prefix _ _)
      have HT := hid hT; have HTP := hid hTp
      clear hT hTp
      obtain ⟨av', cv', hv', Sv⟩ := sl_of_own hown
      injection hv' with hv1 hv2 hv3
      subst hv1
      subst hv3
      obtain ⟨bv, ov, rfl, hbv, cv0⟩ := Sv k hlt
      dsimp only at cv0
      rw [hLk] at cv0
      clear hv2 Sv
      have HLK := hid hLk; clear hLk
      gi_wp2_with fail
      clear cv0 hbv
      gi_loopw [17] (fun di wr => ∃ d : Nat, d ≤ 4 ∧ di = .int .i64 d ∧ wr.ownsRow W.heap.size 3 1 (.slice (some ⟨bv, ov, none⟩) L.length cv) L.length (L.map vInt) ∧ ∃ C, J (dueO Wd Hd o nd st (L.take k) ++ dueC Wd Hd o nd st i d) C wr ∧ But C₀ W wr ∧ Grw C₀ C W ∧ Below w₀.heap.size w₀ wr ∧ W.heap.size ≤ wr.heap.size ∧ (∀ g, (Value.slice (some ⟨bv, ov, none⟩) L.length cv).ownBlock = some g → ¬ C g)) (fun di _ => 4 - (intOf di).toNat)
      case atStart => exact ⟨0, Nat.zero_le _, rfl, hown, C, by simpa [dueC] using hj, hbut, hg, hB, hz, hne⟩
      case round =>
        obtain ⟨d, hd, rfl, hown5, C5, hj5, hbut5, hg5, hB5, hz5, hne5⟩ := hrel
        clear hown hj hbut hg hB hz hne
        by_cases hd4 : d < 4
        · have hnb := nbT_lt (W := Wd) (H := Hd) (i := i) (by rw [← HNO.out]; exact hi) hd4
          rw [← HNO.out] at hnb
          have hcf := fun Y => node_from Wd Hd i d a ao n c no co Y h1 h2 (by rw [← HNO.out]; exact hi) hd4
          have hCs : dueC Wd Hd o nd st i (d + 1) = if o (nbT Wd Hd i d) = nd then dueC Wd Hd o nd st i d else dueC Wd Hd o nd st i d ++ [⟨st, o (nbT Wd Hd i d), nd, i, d, 0⟩] := rfl
          have hPr : dueO Wd Hd o nd st (L.take k) ++ dueC Wd Hd o nd st i (d + 1) <+: dueO Wd Hd o nd st L :=
            ((List.prefix_append_right_inj _).2 (dueC_pre Wd Hd o nd st i (d + 1) 4 (by omega))).trans (by rw [← HT.out]; exact HTP.out)
          obtain ⟨bo, oo, rfl, hbo, co0⟩ := (HO.below hB5) (nbT Wd Hd i d) hnb
          unfold cluV at hcf
          obtain ⟨Zc, _, _⟩ := hR0 _ _ _ hj5
          have r0 : ∀ Y, Below wr.heap.size wr Y → Y.cell? ⟨bc, 0, none⟩ = some (.int .i64 (Wd : Int)) := fun Y h => (Zc.below h).at_ 0 rfl
          have r1 : ∀ Y, Below wr.heap.size wr Y → Y.cell? ⟨bc, 1, none⟩ = some (.int .i64 (Hd : Int)) := fun Y h => (Zc.below h).at_ 1 rfl
          have r2 : ∀ Y, Below wr.heap.size wr Y → Y.cell? ⟨bc, 2, none⟩ = some (.slice a n c) := fun Y h => (Zc.below h).at_ 2 rfl
          have r3 : ∀ Y, Below wr.heap.size wr Y → Y.cell? ⟨bc, 3, none⟩ = some (.slice (some ⟨bo, oo, none⟩) no co) := fun Y h => (Zc.below h).at_ 3 rfl
          have ro : ∀ Y, Below wr.heap.size wr Y → Y.cell? ⟨bo, oo + nbT Wd Hd i d, none⟩ = some (.int .i64 (o (nbT Wd Hd i d))) := fun Y h => (bcell h _ _ hbo).trans co0
          clear co0 Zc
          have HCS := hid hCs; clear hCs
          have HPR := hid hPr; clear hPr
          generalize nbT Wd Hd i d = m at *
          obtain ⟨om, hom⟩ : ∃ x, x = o m := ⟨_, rfl⟩
          rw [← hom] at ro
          have HOM := hid hom; clear hom
          gi_upto_region 6 with (fail)
          refine wpIn_wide.2 ?_
          go_region_held3 (fun Y => Below wr.heap.size wr Y) ((repeat' (first | with_reducible assumption | with_reducible exact Below.refl _ _ | with_reducible refine Below.drew ?_ | with_reducible refine below_drewN ?_ _ | with_reducible refine balloc ?_ _ | with_reducible refine bset ?_ ?_ _ | with_reducible refine Below.setCell ?_ ?_ _ | with_reducible refine Below.alloc ?_ ?_ _ | omega | (simp; done) | (simp; omega))))
            ((first
              | (go_at_call 67; refine (hcf _).mono ?_; rintro e w8 ⟨rfl, hb8⟩; have hB8 : Below wr.heap.size wr w8 := bvia (by (repeat' (first | with_reducible assumption | with_reducible exact Below.refl _ _ | with_reducible refine Below.drew ?_ | with_reducible refine below_drewN ?_ _ | with_reducible refine balloc ?_ _ | with_reducible refine bset ?_ ?_ _ | with_reducible refine Below.setCell ?_ ?_ _ | with_reducible refine Below.alloc ?_ ?_ _ | omega | (simp; done) | (simp; omega)))) hb8; have hck := bcell hb8; have hfk := bfrozen hb8; have hzk := hb8.size; (try simp at hzk); (try have hz1k : wr.heap.size < w8.heap.size := (by omega)))
              | fail))
          all_goals
            have hW8 : Below w₀.heap.size w₀ w8 := hB5.trans (hB8.mono hB5.size)
            have hbt8 : ∀ C : Nat → Prop, But C wr w8 := fun C => but_below hB8 (Nat.le_refl _)
            have hj8 := hJ _ _ _ _ hj5 (hbt8 _)
            have hown8 := own_butN hown5 (hbt8 C5) hne5
            have hs8 := hB8.size
            clear r0 r1 r2 r3 ro hcf hck hfk hb8 hb1 hj5 hown5 hj1 hown
            obtain ⟨_, Yn, Ys⟩ := hR0 _ _ _ hj8
            have n0 := Yn.at_ 0 rfl; have s0 := Ys.at_ 0 rfl; have ln := Yn.lt; have ls := Ys.lt
            cases hq : (om != nd)
            · have hq' : om = nd := by simpa using hq
              have HQ := hid hq'; clear hq'
              gi_wp2_with fail
              refine ⟨fun _ h => (by cases h), ?_⟩
              gi_wp2_with fail
              go_roundw
              case rel => exact ⟨d + 1, by omega, by go_num, hown8, C5, by rw [HCS.out, ← HOM.out, if_pos HQ.out]; exact hj8, hbut5.trans (hbt8 _), hg5, hW8, by omega, hne5⟩
              case measure => simp [intOf]; omega
            · have hq' : ¬ om = nd := by simpa using hq
              have HQ := hid hq'; clear hq'
              have hnew : dueC Wd Hd o nd st i (d + 1) = dueC Wd Hd o nd st i d ++ [⟨st, om, nd, i, d, 0⟩] := by rw [HCS.out, ← HOM.out, if_neg HQ.out]
              obtain ⟨fn, tmps, asg, bdy, hy, hR⟩ := hY (dueO Wd Hd o nd st (L.take k) ++ dueC Wd Hd o nd st i d) ⟨st, om, nd, i, d, 0⟩ C5 w8 hj8 hW8 (by rw [List.append_assoc, ← hnew]; exact HPR.out)
              rw [List.append_assoc, ← hnew] at hR
              have HNEW := hid hnew; clear hnew
              dsimp only [encN] at hy
              gi_wp2_with fail
              refine ⟨rfl, hR.mono ?_⟩
              rintro e W4 ⟨C', hbut4, hg4, (⟨rfl, hj4⟩ | ⟨rfl, hj4⟩)⟩
              · have hs4 := hbut4.size
                have hBw4 : Below w₀.heap.size w₀ W4 := hW8.trans ⟨hbut4.os, hbut4.tape, hbut4.output, hbut4.size, fun b hb => hbut4.block b (by have := hW8.size; omega) (fun h => by have := (hC _ _ _ hj8 b h).1; omega)⟩
                gi_wp2_with fail
                go_roundw
                case rel => exact ⟨d + 1, by omega, by go_num, own_butN hown8 hbut4 hne5, C', hj4, (hbut5.trans (hbt8 _)).trans' hbut4 hg5, fun b h => (hg4 b h).elim (hg5 b) (fun h2 => .inr (by omega)), hBw4, by omega, fun g hg hc => (hg4 g hc).elim (hne5 g hg) (fun h2 => by have := own_lt hown8 g hg; omega)⟩
                case measure => simp [intOf]; omega
              · gi_wp2_with fail
                refine bodyPost_ret (results_none rfl _ _ _) rfl ?_
                exact ⟨⟨_, rfl⟩, C', (hbut5.trans (hbt8 _)).trans' hbut4 hg5, fun b h => (hg4 b h).elim (hg5 b) (fun h2 => .inr (by omega)), .inr ⟨_, by rw [← HL.out]; exact HPR.out, hj4⟩⟩
        · obtain rfl : d = 4 := (by omega)
          gi_wp2_with fail
          go_roundw
          case rel => exact ⟨k + 1, by omega, by go_num, hown5, C5, by rw [HT.out]; exact hj5, hbut5, hg5, hB5, hz5, hne5⟩
          case measure => simp [intOf]; omega
    · obtain rfl : k = L.length := (by omega)
      gi_wp2
      go_end0
      rw [List.take_length] at hj
      exact ⟨⟨_, rfl⟩, C, hbut, hg, .inl (by rw [← HL.out]; exact hj)⟩
end Go.Proofs.YtpbobhobhbbimaaGreat
namespace Go.Proofs.YtpbobhobhbbimaaGreat
open Go Go.RowKit
attribute [local go_sem] Oper.semAt_some
set_option linter.unusedVariables false
theorem own_sliceN {w : World} {base : Nat} {e : TypeId} {size n : Nat} {v : Value} {xs : List Value} (h : w.ownsRow base e size v n xs) : ∃ a k c, v = .slice a k c := by
  rcases h.2 with ⟨rfl, _⟩ | ⟨g', cap, cur, rfl, _⟩
  · exact ⟨_, _, _, rfl⟩
  · exact ⟨_, _, _, rfl⟩
theorem but_grownN {C : Nat → Prop} {X Y Z : World} {row : Option Nat} (h : But C X Y) (hg : Y.grownBy Z row) (hr : ∀ g, row = some g → C g) : But C X Z :=
  ⟨hg.os.trans h.os, hg.tape.trans h.tape, hg.output.trans h.output, Nat.le_trans h.size hg.size, fun b hb hc => (hg.block b (Nat.lt_of_lt_of_le hb h.size) (fun e => hc (hr b e.symm))).trans (h.block b hb hc)⟩
end Go.Proofs.YtpbobhobhbbimaaGreat
