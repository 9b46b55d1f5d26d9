/- The walk of the law NodeColumns. -/
import Derived.Test.YtcakccfhcgjofaaNRefCols
import Derived.Test.YtcakccfhcgjofaaNAwake
import Derived.Test.YtcakccfhcgjofaaSame
namespace Go.Proofs.Ytcakccfhcgjofaa
open Go Go.RowKit
set_option linter.unusedVariables false
theorem colsE_zero {wide high : Int} {n : Nat} {g : Nat → C4} {m : Nat} {f : Nat → Int} (h : colsE wide high n g m f = 0) : validM wide high n g (colsL wide high n g m f).length (fun k => (colsL wide high n g m f).getD k 0) = true := by
  unfold colsE at h
  split at h
  · rename_i hv
    split at h
    · rename_i hc
      have e : colsL wide high n g m f = colL wide f m n := by simp [colsL, hv, hc]
      rw [e, colL_length, validM_iff]
      refine ⟨hv, rfl, fun k hk => ?_⟩
      show 0 ≤ (colL wide f m n).getD k 0 ∧ (colL wide f m n).getD k 0 ≤ 7
      rw [colL_get _ _ _ _ _ hk]
      have := colC_le wide f k m
      have := ((cutsB_iff _ _ _).1 hc).1
      omega
    · cases h
  · cases h
theorem colsL_length {wide high : Int} {n : Nat} {g : Nat → C4} {m : Nat} {f : Nat → Int} : (colsL wide high n g m f).length ≤ n := by
  unfold colsL; split
  · rw [colL_length]; exact Nat.le_refl _
  · simp
set_option maxRecDepth 100000 in
set_option maxHeartbeats 2000000 in
theorem walk_columns (wide high : Int) (a ac : Option Addr) (n m c cc : Nat) (g : Nat → C4) (f : Nat → Int) (w : World) (hn : n ≤ maxLen) (hm : m ≤ maxLen) (H : Sc w a n g) (HC : Sl w ac m f) :
    Calls Try.prog 3 #[.agg #[.int .i64 wide, .int .i64 high, .slice a n c], .slice ac m cc] w fun e w' => e = .returned (.bool true) ∧ Below w.heap.size w w' := by
  unfold maxLen at hn hm
  by_cases h1 : 1200 < n
  · skip
    go_enter Try.func3, Try.ntmps3
    go_wp2_with fail
    refine (awake_node _).mono ?_
    rintro e w1 ⟨rfl, hb1⟩
    go_wp2
    go_ret
    exact ⟨rfl, bvia (below_alloc _ _) hb1⟩
  by_cases h2 : 40 < m
  · skip
    go_enter Try.func3, Try.ntmps3
    go_wp2_with fail
    refine (awake_node _).mono ?_
    rintro e w1 ⟨rfl, hb1⟩
    go_wp2
    go_ret
    exact ⟨rfl, bvia (below_alloc _ _) hb1⟩
  have I := H.alloc (.cells #[.int .i64 wide, .int .i64 high, .slice a n c] 24)
  have IC := HC.alloc (.cells #[.int .i64 wide, .int .i64 high, .slice a n c] 24)
  have X := Bx.new w #[.int .i64 wide, .int .i64 high, .slice a n c] 24
  have hB0 := below_alloc w (.cells #[.int .i64 wide, .int .i64 high, .slice a n c] 24)
  have hP := fun W S SC => node_Columns wide high a ac n m c cc g f W (by omega) (by omega) S SC
  have hR := fun W S SC => ref5_Columns wide high a ac n m c cc g f W (by omega) (by omega) S SC
  have hz := fun h => colsE_zero (wide := wide) (high := high) (n := n) (g := g) (m := m) (f := f) h
  have hl := colsL_length (wide := wide) (high := high) (n := n) (g := g) (m := m) (f := f)
  generalize colsE wide high n g m f = er at *
  generalize colsL wide high n g m f = L at *
  have hsm : ∀ F : Nat → Int, sameL L.length F L.length F = true := fun F => sameL_iff.2 ⟨rfl, fun _ _ => rfl⟩
  have HZ := hid hz; clear hz
  have HSM := hid hsm; clear hsm
  cases hq : (er != 0)
  · have hq' : er = 0 := by simpa using hq
    have HV := hid (HZ.out hq')
    subst hq'
    clear hq
    go_enter Try.func3, Try.ntmps3
    go_wp2_with fail
    refine (hP _ I IC).mono ?_
    rintro e w1 ⟨a1, c1, rfl, S1, hb1⟩
    have X1 := X.below hb1
    have x0 := X1.at_ 0 rfl; have x1 := X1.at_ 1 rfl; have x2 := X1.at_ 2 rfl; have lx := X1.lt
    go_wp2_with fail
    refine (hR _ (I.below hb1) (IC.below hb1)).mono ?_
    rintro e w2 ⟨a2, c2, rfl, S2, hb2⟩
    have X2 := X1.below hb2
    clear x0 x1 x2 lx
    have x0 := X2.at_ 0 rfl; have x1 := X2.at_ 1 rfl; have x2 := X2.at_ 2 rfl; have lx := X2.lt
    go_wp2_with fail
    refine (ref1_sameInts _ _ _ _ _ _ _ _ _ (by omega) (by omega) (S1.below hb2) S2).mono ?_
    rintro e w3 ⟨rfl, hb3⟩
    rw [HSM.out]
    have X3 := X2.below hb3
    clear x0 x1 x2 lx
    have x0 := X3.at_ 0 rfl; have x1 := X3.at_ 1 rfl; have x2 := X3.at_ 2 rfl; have lx := X3.lt
    go_wp2_with fail
    refine (node_ValidMap wide high _ _ n _ _ _ g _ _ (by omega) (by omega) (((I.below hb1).below hb2).below hb3) ((S1.below hb2).below hb3)).mono ?_
    rintro e w4 ⟨rfl, hb4⟩
    rw [HV.out]
    go_wp2_with fail
    refine (awake_node _).mono ?_
    rintro e w5 ⟨rfl, hb5⟩
    go_wp2
    go_ret
    exact ⟨rfl, bvia (bvia (bvia (bvia (bvia hB0 hb1) hb2) hb3) hb4) hb5⟩
  · have hq2 : ¬ er = 0 := by simpa using hq
    have HQ2 := hid hq2; clear hq2
    go_enter Try.func3, Try.ntmps3
    go_wp2_with fail
    refine (hP _ I IC).mono ?_
    rintro e w1 ⟨a1, c1, rfl, S1, hb1⟩
    have X1 := X.below hb1
    have x0 := X1.at_ 0 rfl; have x1 := X1.at_ 1 rfl; have x2 := X1.at_ 2 rfl; have lx := X1.lt
    go_wp2_with fail
    refine (hR _ (I.below hb1) (IC.below hb1)).mono ?_
    rintro e w2 ⟨a2, c2, rfl, S2, hb2⟩
    go_wp2_with fail
    refine (ref1_sameInts _ _ _ _ _ _ _ _ _ (by omega) (by omega) (S1.below hb2) S2).mono ?_
    rintro e w3 ⟨rfl, hb3⟩
    rw [HSM.out]
    go_wp2_with fail
    refine (awake_node _).mono ?_
    rintro e w5 ⟨rfl, hb5⟩
    go_wp2
    go_ret
    exact ⟨rfl, bvia (bvia (bvia (bvia hB0 hb1) hb2) hb3) hb5⟩
end Go.Proofs.Ytcakccfhcgjofaa
