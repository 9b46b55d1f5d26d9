/- The walk of the law NodeDue. -/
import Derived.Test.YtcakccfhcgjofaaNRefNeigh
import Derived.Test.YtcakccfhcgjofaaNSame
import Derived.Test.YtcakccfhcgjofaaNSmall
import Derived.Test.YtcakccfhcgjofaaNAwake
import Derived.Test.YtcakccfhcgjofaaSame
namespace Go.Proofs.Ytcakccfhcgjofaa
open Go Go.RowKit
set_option linter.unusedVariables false
theorem dueC_mem {W H : Nat} {o : Nat → Int} {nd st : Int} {i : Nat} : ∀ {d}, ∀ x ∈ dueC W H o nd st i d, x.to = nd ∧ x.fr ≠ nd
  | 0, x, h => by simp [dueC] at h
  | d + 1, x, h => by
    simp only [dueC] at h
    split at h
    · exact dueC_mem x h
    · rename_i hne
      rcases List.mem_append.1 h with h | h
      · exact dueC_mem x h
      · rw [List.mem_singleton] at h; subst h; exact ⟨rfl, hne⟩
theorem dueL_mem {W H : Nat} {o : Nat → Int} {nd st : Int} : ∀ {n}, ∀ x ∈ dueL W H o nd st n, x.to = nd ∧ x.fr ≠ nd
  | 0, x, h => by simp [dueL] at h
  | n + 1, x, h => by
    simp only [dueL] at h
    split at h
    · rcases List.mem_append.1 h with h | h
      · exact dueL_mem x h
      · exact dueC_mem x h
    · exact dueL_mem x h
theorem dueC_step {W H : Nat} {o : Nat → Int} {nd st : Int} {i : Nat} : ∀ {d}, froL (dueC W H o nd st i d) = froL (dueC W H o nd 1 i d)
  | 0 => rfl
  | d + 1 => by
    simp only [dueC]
    split
    · exact dueC_step
    · rw [froL_snoc, froL_snoc, dueC_step]
theorem froL_app (a b : List N6) : froL (a ++ b) = froL a ++ froL b := by simp [froL]
theorem dueL_step {W H : Nat} {o : Nat → Int} {nd st : Int} : ∀ {n}, froL (dueL W H o nd st n) = froL (dueL W H o nd 1 n)
  | 0 => rfl
  | n + 1 => by
    simp only [dueL]
    split
    · rw [froL_app, froL_app, dueL_step, dueC_step]
    · exact dueL_step
theorem getD_mem {l : List N6} {k : Nat} (h : k < l.length) : l.getD k N6.zero ∈ l := by
  rw [List.getD_eq_getElem?_getD, List.getElem?_eq_getElem h]; exact List.getElem_mem _
theorem getI_mem {l : List Int} {x : Int} (h : x ∈ l) : ∃ k, k < l.length ∧ l.getD k 0 = x := by
  obtain ⟨k, hk, e⟩ := List.getElem_of_mem h
  exact ⟨k, hk, by rw [List.getD_eq_getElem?_getD, List.getElem?_eq_getElem hk]; exact e⟩
/-- what the law asks of each due note -/
theorem due_good {wide high nd st : Int} {n no : Nat} {g : Nat → C4} {o : Nat → Int} {k : Nat} (h : k < (dueX wide high no o nd st (dueE (validM wide high n g no o) (hasB o no nd) (within st 1 1000000))).length) :
    ((dueX wide high no o nd st (dueE (validM wide high n g no o) (hasB o no nd) (within st 1 1000000))).getD k N6.zero).to = nd ∧ ((dueX wide high no o nd st (dueE (validM wide high n g no o) (hasB o no nd) (within st 1 1000000))).getD k N6.zero).fr ≠ nd ∧
      anyTo (fun y => y == ((dueX wide high no o nd st (dueE (validM wide high n g no o) (hasB o no nd) (within st 1 1000000))).getD k N6.zero).fr) (fun j => (neighL wide high no o nd (dueE (validM wide high n g no o) (hasB o no nd) true)).getD j 0) (neighL wide high no o nd (dueE (validM wide high n g no o) (hasB o no nd) true)).length = true := by
  have hm := getD_mem h
  generalize (dueX wide high no o nd st (dueE (validM wide high n g no o) (hasB o no nd) (within st 1 1000000))).getD k N6.zero = x at hm ⊢
  unfold dueX at hm
  split at hm
  · rename_i he
    obtain ⟨hv, hh, hr⟩ := dueE_zero he
    obtain ⟨h1, h2⟩ := dueL_mem x hm
    refine ⟨h1, h2, ?_⟩
    have hN : neighL wide high no o nd (dueE (validM wide high n g no o) (hasB o no nd) true) = presL (froL (dueL wide.toNat high.toNat o nd 1 no)) 8 := by simp [neighL, dueE, hv, hh]
    rw [hN]
    obtain ⟨Wd, Hd, rfl, rfl, p1, p2, u1, u2, hnn, hn4, hoo, hob, _, _⟩ := validM_sides hv
    simp only [Int.toNat_natCast] at hm ⊢
    have hb := dueL_fro (P := fun x => 0 ≤ x ∧ x ≤ 7) (fun k hk => hob k (by omega)) (show no ≤ Wd * Hd by omega) x hm
    have hf : x.fr ∈ froL (dueL Wd Hd o nd 1 no) := by
      rw [← dueL_step (st := st)]
      exact List.mem_map_of_mem hm
    have hp : x.fr ∈ presL (froL (dueL Wd Hd o nd 1 no)) 8 := presL_mem.2 ⟨x.fr.toNat, by omega, by omega, by rw [Int.toNat_of_nonneg hb.1]; exact hf⟩
    obtain ⟨j, hj, e⟩ := getI_mem hp
    exact (anyTo_iff _ _ _).2 ⟨j, hj, by simp only [e, beq_self_eq_true]⟩
  · cases hm
set_option maxRecDepth 100000 in
set_option maxHeartbeats 4000000 in
theorem walk_due (wide high nd st : Int) (a ao : Option Addr) (n no c co : Nat) (g : Nat → C4) (o : Nat → Int) (w : World) (hn : n ≤ maxLen) (hno : no ≤ maxLen) (H : Sc w a n g) (HO : Sl w ao no o) :
    Calls Try.prog 4 #[.agg #[.int .i64 wide, .int .i64 high, .slice a n c, .slice ao no co], .int .i64 nd, .int .i64 st] w fun e w' => e = .returned (.bool true) ∧ Below w.heap.size w w' := by
  have hsm := fun W => law5_Small wide high 400 a ao n no c co W
  have I := H.alloc (.cells #[.int .i64 wide, .int .i64 high, .slice a n c, .slice ao no co] 33)
  have IO := HO.alloc (.cells #[.int .i64 wide, .int .i64 high, .slice a n c, .slice ao no co] 33)
  have X := Bx.new w #[.int .i64 wide, .int .i64 high, .slice a n c, .slice ao no co] 33
  have hB0 := below_alloc w (.cells #[.int .i64 wide, .int .i64 high, .slice a n c, .slice ao no co] 33)
  unfold maxLen at hn hno
  cases hs : smallL n no 400
  · have hsm' := fun W => hsm W
    rw [hs] at hsm'
    clear hsm
    go_enter Try.func4, Try.ntmps4
    go_wp2_with fail
    refine (hsm' _).mono ?_
    rintro e w1 ⟨rfl, hb1⟩
    go_wp2_with fail
    refine (awake_node _).mono ?_
    rintro e w2 ⟨rfl, hb2⟩
    go_wp2
    go_ret
    exact ⟨rfl, bvia (bvia hB0 hb1) hb2⟩
  obtain ⟨s1, s2⟩ := smallL_iff.1 hs
  rw [hs] at hsm
  clear hs
  have hP := fun W S SO => node_Due wide high nd st a ao n no c co g o W (by omega) (by omega) S SO
  have hR := fun W S SO => ref5_Due wide high nd st a ao n no c co g o W (by omega) (by omega) S SO
  have hP2 := fun W S SO => node_Neighbours wide high nd a ao n no c co g o W (by omega) (by omega) S SO
  have hR2 := fun W S SO => ref5_Neighbours wide high nd a ao n no c co g o W (by omega) (by omega) S SO
  have hgood := fun k h => due_good (wide := wide) (high := high) (nd := nd) (st := st) (n := n) (no := no) (g := g) (o := o) (k := k) h
  have hl1 : (dueX wide high no o nd st (dueE (validM wide high n g no o) (hasB o no nd) (within st 1 1000000))).length ≤ 1600 := by
    unfold dueX; split
    · have := dueL_length wide.toNat high.toNat o nd st no; omega
    · simp
  have hl2 : (neighL wide high no o nd (dueE (validM wide high n g no o) (hasB o no nd) true)).length ≤ 8 := by
    unfold neighL; split
    · exact presL_length _ _
    · simp
  generalize dueX wide high no o nd st (dueE (validM wide high n g no o) (hasB o no nd) (within st 1 1000000)) = L at *
  generalize neighL wide high no o nd (dueE (validM wide high n g no o) (hasB o no nd) true) = M at *
  generalize dueE (validM wide high n g no o) (hasB o no nd) (within st 1 1000000) = e1 at *
  generalize dueE (validM wide high n g no o) (hasB o no nd) true = e2 at *
  have HG := hid hgood; clear hgood
  have HSN := hid (sameN_self L.length (fun k => L.getD k N6.zero))
  have hsl : sameL M.length (fun k => M.getD k 0) M.length (fun k => M.getD k 0) = true := sameL_iff.2 ⟨rfl, fun _ _ => rfl⟩
  have HSL := hid hsl; clear hsl
  go_enter Try.func4, Try.ntmps4
  go_wp2_with fail
  refine (hsm _).mono ?_
  rintro e w1 ⟨rfl, hb1⟩
  have X1 := X.below hb1
  have x0 := X1.at_ 0 rfl; have x1 := X1.at_ 1 rfl; have x2 := X1.at_ 2 rfl; have x3 := X1.at_ 3 rfl; have lx := X1.lt
  have I1 := I.below hb1; have IO1 := IO.below hb1
  have B1 := bvia hB0 hb1
  clear hsm hb1
  go_wp2_with fail
  refine (hP _ I1 IO1).mono ?_
  rintro e w2 ⟨a2, c2, rfl, S2, hb2⟩
  clear x0 x1 x2 x3 lx hP
  have X2 := X1.below hb2
  have x0 := X2.at_ 0 rfl; have x1 := X2.at_ 1 rfl; have x2 := X2.at_ 2 rfl; have x3 := X2.at_ 3 rfl; have lx := X2.lt
  have I2 := I1.below hb2; have IO2 := IO1.below hb2
  have B2 := bvia B1 hb2
  go_wp2_with fail
  refine (hR _ I2 IO2).mono ?_
  rintro e w3 ⟨a3, c3, rfl, S3, hb3⟩
  clear x0 x1 x2 x3 lx hR
  have X3 := X2.below hb3
  have x0 := X3.at_ 0 rfl; have x1 := X3.at_ 1 rfl; have x2 := X3.at_ 2 rfl; have x3 := X3.at_ 3 rfl; have lx := X3.lt
  have I3 := I2.below hb3; have IO3 := IO2.below hb3
  have B3 := bvia B2 hb3
  have T3 := S2.below hb3
  go_wp2_with fail
  refine (ref5_SameNotes _ _ _ _ _ _ _ _ _ (by omega) (by omega) T3 S3).mono ?_
  rintro e w4 ⟨rfl, hb4⟩
  rw [HSN.out]
  clear x0 x1 x2 x3 lx
  have X4 := X3.below hb4
  have x0 := X4.at_ 0 rfl; have x1 := X4.at_ 1 rfl; have x2 := X4.at_ 2 rfl; have x3 := X4.at_ 3 rfl; have lx := X4.lt
  have I4 := I3.below hb4; have IO4 := IO3.below hb4
  have B4 := bvia B3 hb4
  have T4 := T3.below hb4
  go_wp2_with fail
  refine (hP2 _ I4 IO4).mono ?_
  rintro e w5 ⟨a5, c5, rfl, S5, hb5⟩
  clear x0 x1 x2 x3 lx hP2
  have X5 := X4.below hb5
  have x0 := X5.at_ 0 rfl; have x1 := X5.at_ 1 rfl; have x2 := X5.at_ 2 rfl; have x3 := X5.at_ 3 rfl; have lx := X5.lt
  have I5 := I4.below hb5; have IO5 := IO4.below hb5
  have B5 := bvia B4 hb5
  have T5 := T4.below hb5
  go_wp2_with fail
  refine (hR2 _ I5 IO5).mono ?_
  rintro e w6 ⟨a6, c6, rfl, S6, hb6⟩
  clear x0 x1 x2 x3 lx hR2
  have B6 := bvia B5 hb6
  have T6 := T5.below hb6
  have N6' := S5.below hb6
  go_wp2_with fail
  refine (ref1_sameInts _ _ _ _ _ _ _ _ _ (by omega) (by omega) N6' S6).mono ?_
  rintro e w7 ⟨rfl, hb7⟩
  rw [HSL.out]
  have B7 := bvia B6 hb7
  have T7 := T6.below hb7
  have N7 := N6'.below hb7
  clear T6 N6' T5 T4 T3 S6 S5 S3 S2 X5 X4 X3 X2 X1 X I5 IO5 I4 IO4 I3 IO3 I2 IO2 I1 IO1 I IO hb7 hb6 hb5 hb4 hb3 hb2 B6 B5 B4 B3 B2 B1 hB0
  go_wp2_with fail
  go_loopw [15] (fun i wr => ∃ k : Nat, k ≤ L.length ∧ i = .int .i64 k ∧ Below w.heap.size w wr ∧ Below w7.heap.size w7 wr) (fun i _ => L.length - (intOf i).toNat)
  case atStart => exact ⟨0, Nat.zero_le _, rfl, B7, Below.refl _ _⟩
  case round =>
    obtain ⟨k, hk, rfl, hB, hC⟩ := hrel
    by_cases hlt : k < L.length
    · obtain ⟨b1, o1, rfl, _, c0, d1, d2, d3, d4, d5⟩ := (T7.below hC).six hlt
      obtain ⟨g1, g2, g3⟩ := HG.out k hlt
      try dsimp only at c0 d1 d2 d3 d4 d5
      generalize L.getD k N6.zero = x at *
      have HG1 := hid g1; have HG2 := hid g2; have HG3 := hid g3
      clear g1 g2 g3 c0 d3 d4 d5
      go_wp2_with fail
      go_loopw [16, 17] (fun t ji wr => ∃ j : Nat, j ≤ M.length ∧ ji = .int .i64 j ∧ t = .bool (anyTo (fun y => y == x.fr) (fun j => M.getD j 0) j) ∧ Below w.heap.size w wr ∧ Below w7.heap.size w7 wr ∧ wr.cell? ⟨b1, o1 + k * 6 + 1, none⟩ = some (.int .i64 x.fr) ∧ wr.cell? ⟨b1, o1 + k * 6 + 2, none⟩ = some (.int .i64 x.to)) (fun _ ji _ => M.length - (intOf ji).toNat)
      case atStart => exact ⟨0, Nat.zero_le _, rfl, rfl, hB, hC, d1, d2⟩
      case round =>
        clear hB hC d1 d2
        obtain ⟨j, hj, rfl, rfl, hB, hC, d1, d2⟩ := hrel
        by_cases hjl : j < M.length
        · obtain ⟨b2, o2, rfl, _, e0⟩ := (N7.below hC) j hjl
          have hs : anyTo (fun y => y == x.fr) (fun j => M.getD j 0) (j + 1) = (anyTo (fun y => y == x.fr) (fun j => M.getD j 0) j || (M.getD j 0 == x.fr)) := rfl
          try dsimp only at e0
          generalize M.getD j 0 = y at *
          cases hin : anyTo (fun y => y == x.fr) (fun j => M.getD j 0) j
          · rw [hin, Bool.false_or] at hs
            cases hfk : (y == x.fr)
            all_goals
              rw [hfk] at hs
              have HS := hid hs
              have HIN := hid hin
              clear hs hin
              go_wp2
              go_quiet (fail)
              go_wp2
              go_roundw
              case rel => exact ⟨j + 1, by omega, by go_num, by rw [HS.out], by (repeat' (first | with_reducible assumption | with_reducible exact Below.refl _ _ | with_reducible refine Below.drew ?_ | with_reducible refine below_drewN ?_ _ | with_reducible refine balloc ?_ _ | with_reducible refine bset ?_ ?_ _ | with_reducible refine Below.setCell ?_ ?_ _ | with_reducible refine Below.alloc ?_ ?_ _ | omega | (simp; done) | (simp; omega))), by (repeat' (first | with_reducible assumption | with_reducible exact Below.refl _ _ | with_reducible refine Below.drew ?_ | with_reducible refine below_drewN ?_ _ | with_reducible refine balloc ?_ _ | with_reducible refine bset ?_ ?_ _ | with_reducible refine Below.setCell ?_ ?_ _ | with_reducible refine Below.alloc ?_ ?_ _ | omega | (simp; done) | (simp; omega))), d1, d2⟩
              case measure => simp [intOf]; omega
          · rw [hin, Bool.true_or] at hs
            have HS := hid hs
            have HIN := hid hin
            clear hs hin
            go_wp2
            go_quiet (fail)
            go_wp2
            go_roundw
            case rel => exact ⟨j + 1, by omega, by go_num, by rw [HS.out], by (repeat' (first | with_reducible assumption | with_reducible exact Below.refl _ _ | with_reducible refine Below.drew ?_ | with_reducible refine below_drewN ?_ _ | with_reducible refine balloc ?_ _ | with_reducible refine bset ?_ ?_ _ | with_reducible refine Below.setCell ?_ ?_ _ | with_reducible refine Below.alloc ?_ ?_ _ | omega | (simp; done) | (simp; omega))), by (repeat' (first | with_reducible assumption | with_reducible exact Below.refl _ _ | with_reducible refine Below.drew ?_ | with_reducible refine below_drewN ?_ _ | with_reducible refine balloc ?_ _ | with_reducible refine bset ?_ ?_ _ | with_reducible refine Below.setCell ?_ ?_ _ | with_reducible refine Below.alloc ?_ ?_ _ | omega | (simp; done) | (simp; omega))), d1, d2⟩
            case measure => simp [intOf]; omega
        · obtain rfl : j = M.length := (by omega)
          rw [HG3.out]
          have g1 : (x.to != nd) = false := by simp [HG1.out]
          have g2 : (x.fr == nd) = false := by simp [HG2.out]
          go_wp2_with fail
          go_roundw
          case rel => exact ⟨k + 1, by omega, by go_num, hB, hC⟩
          case measure => simp [intOf]; omega
    · obtain rfl : k = L.length := (by omega)
      go_wp2_with fail
      refine (awake_node _).mono ?_
      rintro e w2 ⟨rfl, hb2⟩
      go_wp2
      go_ret
      exact ⟨rfl, bvia hB hb2⟩
end Go.Proofs.Ytcakccfhcgjofaa
