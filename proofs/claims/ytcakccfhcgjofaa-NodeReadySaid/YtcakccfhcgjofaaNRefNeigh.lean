/- Walk: Neighbours of the reference. -/
import Derived.Test.YtcakccfhcgjofaaNNeigh
namespace Go.Proofs.Ytcakccfhcgjofaa
open Go Go.RowKit
set_option linter.unusedVariables false
/-- does the number stand among the first j senders? -/
def inFro (L : List N6) (k : Int) (j : Nat) : Bool := (froL (L.take j)).contains k
theorem inFro_zero (L : List N6) (k : Int) : inFro L k 0 = false := by simp [inFro, froL]
theorem inFro_succ {L : List N6} {k : Int} {j : Nat} (h : j < L.length) : inFro L k (j + 1) = (inFro L k j || ((L.getD j N6.zero).fr == k)) := by
  unfold inFro
  rw [take_getN h, froL_snoc, List.contains_append]
  congr 1
  by_cases e : (L.getD j N6.zero).fr = k
  · rw [e]; simp
  · have e' : ¬ k = (L.getD j N6.zero).fr := fun h => e h.symm
    rw [Bool.eq_iff_iff, List.contains_iff_mem, List.mem_singleton, beq_iff_eq]
    exact ⟨fun h => absurd h e', fun h => absurd h e⟩
theorem inFro_all {L : List N6} {k : Int} : inFro L k L.length = true ↔ k ∈ froL L := by
  unfold inFro; rw [List.take_length]; simp
set_option maxRecDepth 100000 in
set_option maxHeartbeats 4000000 in
theorem ref5_Neighbours (wide high nd : Int) (a ao : Option Addr) (n no c co : Nat) (g : Nat → C4) (o : Nat → Int) (w : World) (hn : n ≤ 100000000) (hno : no ≤ 100000000) (H : Sc w a n g) (HO : Sl w ao no o) :
    Calls Try.prog 20 #[.agg #[.int .i64 wide, .int .i64 high, .slice a n c], .slice ao no co, .int .i64 nd] w
      (ListPost (neighL wide high no o nd (dueE (validM wide high n g no o) (hasB o no nd) true)) (dueE (validM wide high n g no o) (hasB o no nd) true) w) := by
  obtain ⟨i0, hi, hz0, hz1, hz2⟩ := info_parts infoI
  have I := H.alloc (.cells #[.int .i64 wide, .int .i64 high, .slice a n c] 24)
  have IO := HO.alloc (.cells #[.int .i64 wide, .int .i64 high, .slice a n c] 24)
  have X := Bx.new w #[.int .i64 wide, .int .i64 high, .slice a n c] 24
  cases hv : validM wide high n g no o
  · go_enter Try.func20, Try.ntmps20
    go_wp2_with (go_at_call 34; refine (ref5_ValidMap wide high _ _ n no _ _ g o _ hn hno I IO).mono ?_; rintro e w1 ⟨rfl, hb1⟩; rw [hv])
    go_ret2
    have h1 : neighL wide high no o nd (dueE false (hasB o no nd) true) = [] := by simp [neighL, dueE]
    rw [h1]
    exact listPost_nil (bvia (by (repeat' (first | with_reducible assumption | with_reducible exact Below.refl _ _ | with_reducible refine Below.drew ?_ | with_reducible refine below_drewN ?_ _ | with_reducible refine balloc ?_ _ | with_reducible refine bset ?_ ?_ _ | with_reducible refine Below.setCell ?_ ?_ _ | with_reducible refine Below.alloc ?_ ?_ _ | omega | (simp; done) | (simp; omega)))) hb1)
  obtain ⟨Wd, Hd, rfl, rfl, p1, p2, u1, u2, hnn, hn4, hoo, hob, _, _⟩ := validM_sides hv
  have HNW : Hid (no = Wd * Hd) := hid (by omega)
  have hno4 : no ≤ 1024 := by omega
  have hlen := hasB_len (o := o) (n := no) (nd := nd)
  have hol := ownL_length o nd no
  clear hnn hoo hob
  go_enter Try.func20, Try.ntmps20
  go_wp2_with fail
  refine (ref5_ValidMap _ _ _ _ n no _ _ g o _ hn hno I IO).mono ?_
  rintro e w1 ⟨rfl, hb1⟩
  rw [hv]
  have X1 := X.below hb1
  have hB1 : Below w.heap.size w w1 := bvia (by (repeat' (first | with_reducible assumption | with_reducible exact Below.refl _ _ | with_reducible refine Below.drew ?_ | with_reducible refine below_drewN ?_ _ | with_reducible refine balloc ?_ _ | with_reducible refine bset ?_ ?_ _ | with_reducible refine Below.setCell ?_ ?_ _ | with_reducible refine Below.alloc ?_ ?_ _ | omega | (simp; done) | (simp; omega)))) hb1
  have J := IO.below hb1
  go_wp2_with fail
  refine (ref5_own ao no co o nd w1 hno J).mono ?_
  rintro e w2 ⟨v, rfl, hown, hb2⟩
  obtain ⟨av, cv, rfl, _⟩ := sl_of_own hown
  have hB2 := bvia hB1 hb2
  have X2 := X1.below hb2
  have J2 := J.below hb2
  clear hown X1 hB1 J hb1 hb2
  cases hh : hasB o no nd
  · have HH := hid hh
    rw [hh] at hlen
    generalize (ownL o nd no).length = ln at *
    go_wp2
    go_ret2
    have h1 : neighL Wd Hd no o nd (dueE true (hasB o no nd) true) = [] := by simp [neighL, dueE, HH.out]
    have h2 : dueE true (hasB o no nd) true = 5 := by simp [dueE, HH.out]
    rw [h1, h2]
    exact listPost_nil hB2
  have HH := hid hh
  rw [hh] at hlen
  generalize (ownL o nd no).length = ln at *
  have x0 := X2.at_ 0 rfl; have x1 := X2.at_ 1 rfl; have x2 := X2.at_ 2 rfl; have lx := X2.lt
  have hll := dueL_length Wd Hd o nd 1 no
  have hdu := ref5_due Wd Hd a ao n c no co o nd 1 w2 ⟨p1, p2⟩ ⟨u1, u2⟩ HNW.out J2
  have hN : neighL Wd Hd no o nd 0 = presL (froL (dueL Wd Hd o nd 1 no)) 8 := by simp [neighL]
  have HN := hid hN; clear hN
  clear hh hv
  go_wp2_with fail
  refine hdu.mono ?_
  rintro e w3 ⟨v, rfl, hown, hb3⟩
  generalize dueL Wd Hd o nd 1 no = L at *
  obtain ⟨a3, c3, rfl, S3⟩ := sn_of_own hown
  have hB3 := bvia hB2 hb3
  have hs3 := hB3.size
  clear hdu hown x0 x1 x2 X2 hb3 lx J2
  go_wp2_with fail
  go_loopw [9, 10] (fun v i wr => ∃ k : Nat, k ≤ 8 ∧ i = .int .i64 k ∧ wr.ownsRow w3.heap.size 3 1 v (presL (froL L) k).length ((presL (froL L) k).map vInt) ∧ Below w3.heap.size w3 wr) (fun _ i _ => 8 - (intOf i).toNat)
  case atStart => exact ⟨0, Nat.zero_le _, rfl, World.ownsRow_nil .., Below.refl _ _⟩
  case round =>
    obtain ⟨k, hk, rfl, hown, hB⟩ := hrel
    obtain ⟨wo, rfl⟩ : ∃ wo : World, wo = wr := ⟨_, rfl⟩
    have hpl := presL_length (froL L) k
    by_cases hlt : k < 8
    · have S := S3.below hB
      go_wp2_with fail
      go_loop [11, 12] (fun t ji => ∃ j : Nat, j ≤ L.length ∧ ji = .int .i64 j ∧ t = .bool (inFro L k j)) (fun _ ji => L.length - (intOf ji).toNat)
      case atStart => exact ⟨0, Nat.zero_le _, rfl, by rw [inFro_zero]⟩
      case round =>
        obtain ⟨j, hj, rfl, rfl⟩ := hrel
        by_cases hjl : j < L.length
        · have hs := inFro_succ (k := (k : Int)) hjl
          obtain ⟨b1, o1, rfl, _, c0, c1, c2, c3', c4, c5⟩ := S.six hjl
          try dsimp only at c0 c1 c2 c3' c4 c5
          generalize L.getD j N6.zero = x at *
          cases hin : inFro L k j
          · rw [hin, Bool.false_or] at hs
            cases hfk : (x.fr == (k : Int))
            all_goals
              rw [hfk] at hs
              have HS := hid hs
              have HIN := hid hin
              clear hs hin
              go_wp2_with fail
              go_round
              case rel => exact ⟨j + 1, by omega, by go_num, by rw [HS.out]⟩
              case measure => simp [intOf]; omega
          · rw [hin, Bool.true_or] at hs
            have HS := hid hs
            have HIN := hid hin
            clear hs hin
            go_wp2_with fail
            go_round
            case rel => exact ⟨j + 1, by omega, by go_num, by rw [HS.out]⟩
            case measure => simp [intOf]; omega
        · obtain rfl : j = L.length := (by omega)
          cases hin : inFro L k L.length
          · have hno' : ¬ (k : Int) ∈ froL L := fun h => by rw [inFro_all.2 h] at hin; cases hin
            have HS : Hid (presL (froL L) (k + 1) = presL (froL L) k) := hid (by simp only [presL, if_neg hno'])
            clear hno' S
            go_wp2_with fail
            go_roundw
            case rel => exact ⟨k + 1, by omega, by go_num, by rw [HS.out]; exact hown, hB⟩
            case measure => simp [intOf]; omega
          · have hyes : (k : Int) ∈ froL L := inFro_all.1 hin
            have HS : Hid (presL (froL L) (k + 1) = presL (froL L) k ++ [(k : Int)]) := hid (by simp only [presL, if_pos hyes])
            clear hyes S
            go_wp2_with (at_builtin; refine wpList_append_own _ rfl _ _ 25 rfl w3.heap.size 3 i0 (.int .i64 0) 1 8 Try.underlying25 hi hz0 hz1 hz2 rfl (by decide) _ _ _ rfl (hown.alloc _) ⟨wo.heap.size, 0, none⟩ 1 1 [.int .i64 (k : Int)] rfl rfl (cell_one_new _ _ _) (by simp [Value.oneCell']) (by simp [maxLen]; omega) (by omega) (by have := hB.size; (try simp); omega) ?_; intro v' w9 hown' hgrow _)
            go_roundw
            case rel => exact ⟨k + 1, by omega, by go_num, by rw [HS.out]; exact own_snoc hown', (hB.alloc hB.size _).grown hgrow (by have := hB.size; simp; omega) (own_base hown)⟩
            case measure => simp [intOf]; omega
    · obtain rfl : k = 8 := (by omega)
      go_wp2
      go_ret2
      have h2 : dueE true (hasB o no nd) true = 0 := by simp [dueE, HH.out]
      rw [h2, HN.out]
      exact listPost_own hown (bvia hB3 hB)
end Go.Proofs.Ytcakccfhcgjofaa
