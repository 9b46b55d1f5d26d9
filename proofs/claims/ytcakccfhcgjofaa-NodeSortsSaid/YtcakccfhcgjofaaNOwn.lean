/- Walks: a node's cells; from which place particles come, of the program. -/
import Derived.Test.YtcakccfhcgjofaaNValid
import Derived.Test.YtcakccfhcgjofaaFrom
namespace Go.Proofs.Ytcakccfhcgjofaa
open Go Go.RowKit
set_option linter.unusedVariables false
/-- a cluster's cells -/
def cluV (W H : Int) (a ao : Option Addr) (n c no co : Nat) : Array Value := #[.int .i64 W, .int .i64 H, .slice a n c, .slice ao no co]
set_option maxHeartbeats 2000000 in
theorem ref5_own (ao : Option Addr) (no co : Nat) (o : Nat → Int) (nd : Int) (w : World) (hno : no ≤ 100000000) (HO : Sl w ao no o) :
    Calls Try.prog 50 #[.slice ao no co, .int .i64 nd] w
      fun e w' => ∃ v, e = .returned v ∧ w'.ownsRow w.heap.size 3 1 v (ownL o nd no).length ((ownL o nd no).map vInt) ∧ Below w.heap.size w w' := by
  obtain ⟨i0, hi, hz0, hz1, hz2⟩ := info_parts infoI
  go_enter Try.func50, Try.ntmps50
  go_wp2
  go_loopw [5, 6] (fun v i wr => ∃ k : Nat, k ≤ no ∧ i = .int .i64 k ∧ wr.ownsRow w.heap.size 3 1 v (ownL o nd k).length ((ownL o nd k).map vInt) ∧ Below w.heap.size w wr) (fun _ i _ => no - (intOf i).toNat)
  case atStart => exact ⟨0, Nat.zero_le _, rfl, World.ownsRow_nil .., Below.refl _ _⟩
  case round =>
    obtain ⟨k, hk, rfl, hown, hb⟩ := hrel
    have J := HO.below hb
    have hbs := hb.size
    by_cases hlt : k < no
    · obtain ⟨b1, o1, rfl, _, c1⟩ := J k hlt
      have hbd := ownL_length o nd k
      cases he : (o k == nd)
      · have he' : ¬ o k = nd := by simpa using he
        have HE := hid he'; clear he'
        go_wp2
        go_roundw
        case rel => exact ⟨k + 1, by omega, by go_num, by simp only [ownL, if_neg HE.out]; exact hown, hb⟩
        case measure => simp [intOf]; omega
      · have he' : o k = nd := by simpa using he
        have HE := hid he'; clear he'
        go_wp2_with (at_builtin; refine wpList_append_own _ rfl _ _ 25 rfl w.heap.size 3 i0 (.int .i64 0) 1 8 Try.underlying25 hi hz0 hz1 hz2 rfl (by decide) _ _ _ rfl (hown.alloc _) ⟨wr.heap.size, 0, none⟩ 1 1 [.int .i64 (k : Int)] rfl rfl (cell_one_new _ _ _) (by simp [Value.oneCell']) (by simp [maxLen]; omega) (by omega) (by simp; omega) ?_; intro v' w1 hown' hgrow _)
        go_roundw
        case rel => exact ⟨k + 1, by omega, by go_num, by simp only [ownL, if_pos HE.out]; exact own_snoc hown', (hb.alloc (by have := hb.size; (try simp at this); omega) _).grown hgrow (by have := hb.size; (try simp at this); simp; omega) (own_base hown)⟩
        case measure => simp [intOf]; omega
    · obtain rfl : k = no := (by omega)
      go_wp2
      go_ret
      exact ⟨_, rfl, own_mono hown (by omega), hb⟩
set_option maxHeartbeats 2000000 in
theorem node_owned (W H : Int) (a ao : Option Addr) (n c no co : Nat) (o : Nat → Int) (nd : Int) (w : World) (hno : no ≤ 100000000) (HO : Sl w ao no o) :
    Calls Try.prog 95 #[.agg (cluV W H a ao n c no co), .int .i64 nd] w
      fun e w' => ∃ v, e = .returned v ∧ w'.ownsRow w.heap.size 3 1 v (ownL o nd no).length ((ownL o nd no).map vInt) ∧ Below w.heap.size w w' := by
  obtain ⟨i0, hi, hz0, hz1, hz2⟩ := info_parts infoI
  unfold cluV
  have HO1 := HO.alloc (.cells #[.int .i64 W, .int .i64 H, .slice a n c, .slice ao no co] 75)
  go_enter Try.func95, Try.ntmps95
  go_wp2
  go_loopw [5, 11] (fun v i wr => ∃ k : Nat, k ≤ no ∧ i = .int .i64 k ∧ wr.ownsRow (w.heap.size + 1) 3 1 v (ownL o nd k).length ((ownL o nd k).map vInt) ∧ Below (w.heap.size + 1) (w.alloc (.cells #[.int .i64 W, .int .i64 H, .slice a n c, .slice ao no co] 75)) wr) (fun _ i _ => no - (intOf i).toNat)
  case atStart => exact ⟨0, Nat.zero_le _, rfl, World.ownsRow_nil .., Below.refl _ _⟩
  case round =>
    obtain ⟨k, hk, rfl, hown, hb⟩ := hrel
    have J := HO1.below (by simpa using hb)
    have hbs := hb.size
    rw [World.size_alloc] at hbs
    by_cases hlt : k < no
    · obtain ⟨b1, o1, rfl, _, c1⟩ := J k hlt
      have hbd := ownL_length o nd k
      cases he : (o k == nd)
      · have he' : ¬ o k = nd := by simpa using he
        have HE := hid he'; clear he'
        go_wp2
        go_roundw
        case rel => exact ⟨k + 1, by omega, by go_num, by simp only [ownL, if_neg HE.out]; exact hown, hb⟩
        case measure => simp [intOf]; omega
      · have he' : o k = nd := by simpa using he
        have HE := hid he'; clear he'
        go_wp2_with (at_builtin; refine wpList_append_own _ rfl _ _ 25 rfl (w.heap.size + 1) 3 i0 (.int .i64 0) 1 8 Try.underlying25 hi hz0 hz1 hz2 rfl (by decide) _ _ _ rfl (hown.alloc _) ⟨wr.heap.size, 0, none⟩ 1 1 [.int .i64 (k : Int)] rfl rfl (cell_one_new _ _ _) (by simp [Value.oneCell']) (by simp [maxLen]; omega) (by omega) (by simp; omega) ?_; intro v' w1 hown' hgrow _)
        go_roundw
        case rel => exact ⟨k + 1, by omega, by go_num, by simp only [ownL, if_pos HE.out]; exact own_snoc hown', (hb.alloc (by have := hb.size; (try simp at this); omega) _).grown hgrow (by have := hb.size; (try simp at this); simp; omega) (own_base hown)⟩
        case measure => simp [intOf]; omega
    · obtain rfl : k = no := (by omega)
      go_wp2
      go_ret
      exact ⟨_, rfl, own_mono hown (by omega), (below_alloc w _).trans (hb.mono (by omega))⟩
end Go.Proofs.Ytcakccfhcgjofaa
