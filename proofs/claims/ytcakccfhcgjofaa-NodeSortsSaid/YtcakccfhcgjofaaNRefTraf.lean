/- Walk: how many notes are due in a step, of the reference. -/
import Derived.Test.YtcakccfhcgjofaaNRefDue
namespace Go.Proofs.Ytcakccfhcgjofaa
open Go Go.RowKit
set_option linter.unusedVariables false
/-- how many notes are due in a step -/
def trafN (wide high : Int) (n : Nat) (g : Nat → C4) (no : Nat) (o : Nat → Int) : Int := if validM wide high n g no o = true then (trafL wide.toNat high.toNat o no (nodeL o no 8) : Int) else 0
theorem trafN_yes {Wd Hd : Nat} {n : Nat} {g : Nat → C4} {no : Nat} {o : Nat → Int} (h : validM Wd Hd n g no o = true) : trafN Wd Hd n g no o = (trafL Wd Hd o no (nodeL o no 8) : Int) := by
  unfold trafN; rw [if_pos h, Int.toNat_natCast, Int.toNat_natCast]
theorem trafN_no {wide high : Int} {n : Nat} {g : Nat → C4} {no : Nat} {o : Nat → Int} (h : validM wide high n g no o = false) : trafN wide high n g no o = 0 := by
  unfold trafN; rw [h]; rfl
def natL (k : Nat) : List Int := (List.range k).map fun j : Nat => (j : Int)
theorem natL_succ (k : Nat) : natL (k + 1) = natL k ++ [(k : Int)] := by simp [natL, List.range_succ]
theorem natL_length (k : Nat) : (natL k).length = k := by simp [natL]
set_option maxRecDepth 100000 in
set_option maxHeartbeats 2000000 in
theorem ref5_Traffic (wide high : Int) (a ao : Option Addr) (n no c co : Nat) (g : Nat → C4) (o : Nat → Int) (w : World) (hn : n ≤ 100000000) (hno : no ≤ 100000000) (H : Sc w a n g) (HO : Sl w ao no o) :
    Calls Try.prog 36 #[.agg #[.int .i64 wide, .int .i64 high, .slice a n c], .slice ao no co] w
    fun e w' => e = .returned (.tuple #[.int .i64 (trafN wide high n g no o), .int .i64 (errR (validM wide high n g no o) 1)]) ∧ Below w.heap.size w w' := by
  have I := H.alloc (.cells #[.int .i64 wide, .int .i64 high, .slice a n c] 24)
  have IO := HO.alloc (.cells #[.int .i64 wide, .int .i64 high, .slice a n c] 24)
  have X := Bx.new w #[.int .i64 wide, .int .i64 high, .slice a n c] 24
  cases hv : validM wide high n g no o
  · have HT := hid (trafN_no hv)
    go_enter Try.func36, Try.ntmps36
    go_wp2_with (go_at_call 34; refine (ref5_ValidMap wide high _ _ n no _ _ g o _ hn hno I IO).mono ?_; rintro e w1 ⟨rfl, hb1⟩; rw [hv])
    go_ret2
    rw [HT.out]
    exact ⟨rfl, bvia (by (repeat' (first | with_reducible assumption | with_reducible exact Below.refl _ _ | with_reducible refine Below.drew ?_ | with_reducible refine below_drewN ?_ _ | with_reducible refine balloc ?_ _ | with_reducible refine bset ?_ ?_ _ | with_reducible refine Below.setCell ?_ ?_ _ | with_reducible refine Below.alloc ?_ ?_ _ | omega | (simp; done) | (simp; omega)))) hb1⟩
  · obtain ⟨Wd, Hd, rfl, rfl, p1, p2, u1, u2, hnn, hn4, hoo, hob, _, _⟩ := validM_sides hv
    have HT := hid (trafN_yes hv)
    have hnW : no = Wd * Hd := by omega
    have HNW := hid hnW
    have hno4 : no ≤ 1024 := by omega
    clear hnn hoo hnW
    go_enter Try.func36, Try.ntmps36
    go_wp2_with fail
    refine (ref5_ValidMap _ _ _ _ n no _ _ g o _ hn hno I IO).mono ?_
    rintro e w1 ⟨rfl, hb1⟩
    rw [hv]
    have hB1 : Below w.heap.size w w1 := bvia (by (repeat' (first | with_reducible assumption | with_reducible exact Below.refl _ _ | with_reducible refine Below.drew ?_ | with_reducible refine below_drewN ?_ _ | with_reducible refine balloc ?_ _ | with_reducible refine bset ?_ ?_ _ | with_reducible refine Below.setCell ?_ ?_ _ | with_reducible refine Below.alloc ?_ ?_ _ | omega | (simp; done) | (simp; omega)))) hb1
    have X1 := X.below hb1
    clear hb1
    go_wp2_with fail
    go_loopw [6, 7] (fun m i wr => ∃ k : Nat, k ≤ 8 ∧ i = .int .i64 k ∧ m = .int .i64 (trafL Wd Hd o no (natL k) : Nat) ∧ Bx wr w.heap.size #[.int .i64 Wd, .int .i64 Hd, .slice a n c] ∧ Below w.heap.size w wr) (fun _ i _ => 8 - (intOf i).toNat)
    case atStart => exact ⟨0, Nat.zero_le _, rfl, rfl, X1, hB1⟩
    case round =>
      clear X1 hB1
      obtain ⟨k, hk, rfl, rfl, X1, hB1⟩ := hrel
      by_cases hlt : k < 8
      · have x0 := X1.at_ 0 rfl; have x1 := X1.at_ 1 rfl; have x2 := X1.at_ 2 rfl; have lx := X1.lt
        have hd := ref5_due Wd Hd a ao n c no co o k 1 wr ⟨p1, p2⟩ ⟨u1, u2⟩ HNW.out (HO.below hB1)
        have hle := trafL_le Wd Hd o no (natL k)
        rw [natL_length] at hle
        have hdl := dueL_length Wd Hd o k 1 no
        have hs : trafL Wd Hd o no (natL (k + 1)) = trafL Wd Hd o no (natL k) + (dueL Wd Hd o k 1 no).length := by rw [natL_succ, trafL_snoc]
        have HS := hid hs; clear hs
        have hk8 : k * (4 * no) ≤ 8 * (4 * 1024) := Nat.mul_le_mul (by omega) (by omega)
        generalize trafL Wd Hd o no (natL k) = T at *
        go_wp2_with fail
        refine hd.mono ?_
        rintro e w2 ⟨v, rfl, hown, hb2⟩
        obtain ⟨av, cv, rfl, _⟩ := sn_of_own hown
        have X2 := X1.below hb2
        have hB2 := bvia hB1 hb2
        clear hd hown x0 x1 x2
        generalize (dueL Wd Hd o k 1 no).length = D at *
        go_wp2_with fail
        go_roundw
        case rel => exact ⟨k + 1, by omega, by go_num, by rw [HS.out]; go_num, X2, hB2⟩
        case measure => simp [intOf]; omega
      · obtain rfl : k = 8 := (by omega)
        go_wp2
        go_ret2
        rw [HT.out, traf_nodes]
        exact ⟨rfl, hB1⟩
end Go.Proofs.Ytcakccfhcgjofaa
