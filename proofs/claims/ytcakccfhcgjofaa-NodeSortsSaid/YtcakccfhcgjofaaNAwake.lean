/- Walk: what every law of the nodes ends in is true. -/
import Derived.Test.YtcakccfhcgjofaaNTraf
import Derived.Test.YtcakccfhcgjofaaCRow
namespace Go.Proofs.Ytcakccfhcgjofaa
open Go Go.RowKit
set_option linter.unusedVariables false
def awakeO (k : Nat) : Int := [0, 0, 1, 1].getD k 0
theorem awake_valid : validM ((4 : Nat) : Int) ((1 : Nat) : Int) 4 (fun _ => C4.zero) 4 awakeO = true := by
  rw [validM_iff, validG_iff]
  refine ⟨⟨by decide, by decide, by decide, by decide, by decide, by decide, fun k _ => by decide, by decide⟩, rfl, fun k hk => ?_⟩
  rcases (by omega : k = 0 ∨ k = 1 ∨ k = 2 ∨ k = 3) with rfl | rfl | rfl | rfl <;> decide
theorem awake_traf : trafN ((4 : Nat) : Int) ((1 : Nat) : Int) 4 (fun _ => C4.zero) 4 awakeO = 4 := by
  rw [trafN_yes awake_valid]; decide
set_option maxRecDepth 100000 in
set_option maxHeartbeats 1000000 in
theorem awake_node (w : World) : Calls Try.prog 10 #[] w fun e w' => e = .returned (.bool true) ∧ Below w.heap.size w w' := by
  have hmk := fun W => mk_cells 4 4 rfl (by omega) W
  have S1 := ((roC_made w 4).alloc (.cells #[.int .i64 0, .int .i64 0, .int .i64 1, .int .i64 1] 3)).sc
  have S2 : Sl ((w.alloc (.cells (ccells 4) 110)).alloc (.cells #[.int .i64 0, .int .i64 0, .int .i64 1, .int .i64 1] 3)) (some ⟨w.heap.size + 1, 0, none⟩) 4 awakeO := fun k hk => by
    refine ⟨w.heap.size + 1, 0, rfl, by simp, ?_⟩
    have h := cell_new (w.alloc (.cells (ccells 4) 110)) #[.int .i64 0, .int .i64 0, .int .i64 1, .int .i64 1] 3 k (.int .i64 (awakeO k))
    rw [World.size_alloc] at h
    rw [Nat.zero_add]
    refine h ?_
    rcases (by omega : k = 0 ∨ k = 1 ∨ k = 2 ∨ k = 3) with rfl | rfl | rfl | rfl <;> rfl
  have ht := node_Traffic ((4 : Nat) : Int) ((1 : Nat) : Int) _ _ 4 4 4 4 _ _ _ (by omega) (by omega) S1 S2
  rw [awake_traf, awake_valid] at ht
  have hB := balloc (below_alloc w (.cells (ccells 4) 110)) (.cells #[.int .i64 0, .int .i64 0, .int .i64 1, .int .i64 1] 3)
  generalize hcc : ccells 4 = cc at *
  clear S1 S2 hcc
  go_enter Try.func10, Try.ntmps10
  go_wp2_with fail
  refine ht.mono ?_
  rintro e w1 ⟨rfl, hb1⟩
  go_wp2
  go_ret
  exact ⟨rfl, bvia hB hb1⟩
end Go.Proofs.Ytcakccfhcgjofaa
