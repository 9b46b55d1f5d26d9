/- Walk: slices.Repeat at a slice of one int: a new row that holds it so often. -/
import Derived.Test.YteabkcbajpjkoaaGreatPk2
import Derived.Test.YteabkcbajpjkoaaGreatShelf
import Derived.Laws.CopyOwn
import Derived.Deep.RegionLaw
import Derived.Deep.Cut
import Derived.Test.YteabkcbajpjkoaaGreatPk1
import Derived.Handy
import Derived.Laws.StructEq
import Derived.ChangeKeysEq
import Derived.OrdersHeld
import Derived.Laws.MakeOwn
import Derived.Maps.AppendAt
import Derived.Maps.OwnOps
import Derived.Maps.OwnSet
namespace Go.Proofs.YteabkcbajpjkoaaGreat
open Go Go.RowKit
set_option linter.unusedVariables false
/-- j times x, then zeros up to k -/
def repR (x : Int) (j k : Nat) : List Value := List.replicate j (.int .i64 x) ++ List.replicate (k - j) (.int .i64 0)
theorem repR_length (x : Int) (j k : Nat) (h : j ≤ k) : (repR x j k).length = k := by simp [repR]; omega
theorem repR_zero (x : Int) (k : Nat) : zcells k = (repR x 0 k).toArray := by
  apply Array.ext_getElem?
  intro i
  by_cases h : i < k
  · rw [zcells_get k i h]; simp [repR, h]
  · simp [repR, zcells, madeCells, h]
theorem repR_splice (x : Int) (j k m : Nat) (h : j + m ≤ k) : splice (repR x j k) j (List.replicate m (.int .i64 x)) = repR x (j + m) k := by
  unfold splice repR
  rw [List.take_append_of_le_length (by simp), List.take_of_length_le (by simp), List.length_replicate, List.drop_append, List.drop_eq_nil_of_le (by simp), List.length_replicate, Nat.add_sub_cancel_left, List.drop_replicate, List.nil_append, ← List.append_assoc, List.replicate_append_replicate, Nat.sub_sub]
theorem repR_at (x : Int) (j k i : Nat) (v : Value) (h : i < j) (w : World) (g : Nat) (t : TypeId) (hg : w.heap[g]? = some (.cells (repR x j k).toArray t (0, 0))) : w.cell? ⟨g, i, none⟩ = some (.int .i64 x) := by
  rw [cell_of_row w g i _ t (0, 0) hg]
  simp [repR, List.getElem?_append, h]
theorem rep_get {x : Int} {m i : Nat} {v : Value} (h : (List.replicate m (Value.int .i64 x))[i]? = some v) : i < m ∧ v = .int .i64 x := by
  rw [List.getElem?_replicate] at h
  split at h
  · rename_i hi; exact ⟨hi, by injection h with h; exact h.symm⟩
  · cases h
theorem add_addr (b o j : Nat) : (⟨b, o, none⟩ : Addr).add j = ⟨b, o + j, none⟩ := by
  unfold Addr.add; split <;> simp_all
theorem run_copy_spl {P : Program} {w : World} {dT sT ty elem : TypeId} (hu : P.underlying dT = some (.slice elem)) (hsz : (P.info? elem).map (·.size) = some 1)
    (dp sp : Option Addr) (dLen dCap sLen sCap : Nat) (g off : Nat) (cur : List Value) (t : TypeId) (hg : w.heap[g]? = some (.cells cur.toArray t (0, 0))) (cs : List Value) (hn : cs.length = Nat.min sLen dLen)
    (hpos : 0 < cs.length → dp = some ⟨g, off, none⟩ ∧ ∃ ad, sp = some ad ∧ ∀ j v, cs[j]? = some v → w.cell? (ad.add j) = some v)
    (hfit : off + cs.length ≤ cur.length) (h1 : ∀ v ∈ cs, v.oneCell' = true) (B : Nat) (w0 : World) (hb : Below B w0 w) (hBg : B ≤ g) :
    ∃ w', (Builtin.copy_ #[dT, sT] ty #[.slice dp dLen dCap, .slice sp sLen sCap]).run P w = .ok (goInt cs.length) w' ∧ w'.heap[g]? = some (.cells (splice cur off cs).toArray t (0, 0)) ∧ Below B w0 w' := by
  by_cases h0 : cs.length = 0
  · obtain rfl : cs = [] := List.eq_nil_of_length_eq_zero h0
    exact ⟨w, run_copy_none (P := P) w dT sT ty elem dp sp dLen dCap sLen sCap hu hsz (by simpa using hn.symm), by simpa [splice] using hg, hb⟩
  · obtain ⟨rfl, ad, rfl, hsrc⟩ := hpos (by omega)
    exact ⟨_, run_copy_row (P := P) w dT sT ty elem g off dLen dCap ad sLen sCap cur.toArray t cs hu hsz hg hn hsrc (by simpa using hfit) h1, by simpa [splice] using setRow_heap w g _ _ t _ hg, below_setRow hb hBg _⟩
set_option maxRecDepth 100000 in
set_option maxHeartbeats 4000000 in
theorem repeat_one (g cap k : Nat) (x : Int) (w : World) (hk : k ≤ 100000) (hg : g < w.heap.size) (hx : w.cell? ⟨g, 0, none⟩ = some (.int .i64 x)) :
    Calls Tryz.prog 53 #[.slice (some ⟨g, 0, none⟩) 1 cap, .int .i64 (k : Int)] w fun e w' =>
      e = .returned (.slice (some ⟨w.heap.size, 0, none⟩) k k) ∧ w'.heap[w.heap.size]? = some (.cells (repR x k k).toArray 3 (0, 0)) ∧ Below w.heap.size w w' := by
  have hmul := fun W => Tryz.bits_Mul 1 k (by decide) (by omega) W
  have e1 : ((1 * k / 18446744073709551616 : Nat) : Int) = 0 := by rw [Nat.one_mul, Nat.div_eq_of_lt (by omega)]; rfl
  have e2 : ((1 * k % 18446744073709551616 : Nat) : Int) = (k : Int) := by rw [Nat.one_mul, Nat.mod_eq_of_lt (by omega)]
  rw [e1, e2] at hmul
  clear e1 e2
  have hmk := fun W => mk_ints k k rfl (by omega) W
  have hsz : (Tryz.prog.info? 3).map (·.size) = some 1 := by kernel_rfl
  have hns : (IntKind.u64.wrap (k : Int)) = (k : Int) := IntWalk.u64_in _ ⟨by omega, by omega⟩
  have hns2 : (IntKind.i64.wrap (k : Int)) = (k : Int) := IntWalk.i64_in _ ⟨by omega, by omega⟩
  go_enter Tryz.func53, Tryz.ntmps53
  go_wp2_with fail
  refine (hmul _).mono ?_
  rintro e w' ⟨rfl, rfl⟩
  have hb1 := below_alloc w' (.cells (zcells k) 3)
  have hg1 : (w'.alloc (.cells (zcells k) 3)).heap[w'.heap.size]? = some (.cells (repR x 0 k).toArray 3 (0, 0)) := by rw [← repR_zero]; exact Array.getElem?_push_size ..
  have hx1 : (w'.alloc (.cells (zcells k) 3)).cell? ⟨g, 0, none⟩ = some (.int .i64 x) := by rw [cell_old _ _ hg]; exact hx
  have HG1 := hid hg1; have HX1 := hid hx1; have HB1 := hid hb1
  clear hg1 hx1 hb1
  obtain ⟨m0, hm0⟩ : ∃ m0, m0 = Nat.min 1 k := ⟨_, rfl⟩
  have hm1 : m0 ≤ 1 := by rw [hm0]; exact Nat.min_le_left _ _
  have hm2 : m0 ≤ k := by rw [hm0]; exact Nat.min_le_right _ _
  have hm3 : 0 < k → 0 < m0 := fun h => by rw [hm0]; show 0 < min 1 k; omega
  have HM := hid hm0; clear hm0
  obtain ⟨w2, hcp, HG2, hB2⟩ := run_copy_spl (w := w'.alloc (.cells (zcells k) 3)) (dT := 25) (sT := 25) (ty := 3) (elem := 3) Tryz.underlying25 hsz (some ⟨w'.heap.size, 0, none⟩) (some ⟨g, 0, none⟩) k k 1 cap w'.heap.size 0 (repR x 0 k) 3 HG1.out (List.replicate m0 (.int .i64 x)) (by rw [List.length_replicate]; exact HM.out) (fun hp => ⟨rfl, _, rfl, fun j v hj => by
    obtain ⟨h1, rfl⟩ := rep_get hj
    obtain rfl : j = 0 := by omega
    rw [add_addr]; exact HX1.out⟩) (by rw [List.length_replicate, repR_length _ _ _ (Nat.zero_le _)]; omega) (fun v hv => by rw [List.eq_of_mem_replicate hv]; simp [Value.oneCell']) w'.heap.size w' HB1.out (Nat.le_refl _)
  rw [List.length_replicate] at hcp
  go_wp2_with fail
  have hl0 := List.length_replicate (n := m0) (a := Value.int .i64 x)
  rw [repR_splice x 0 k m0 (by omega), Nat.zero_add] at HG2
  clear HG1 HX1 HB1 hcp hmul hmk hns hns2 hx hg
  go_loopw [8] (fun v wr => ∃ j : Nat, m0 ≤ j ∧ j ≤ k ∧ v = .int .i64 (j : Int) ∧ wr.heap[w'.heap.size]? = some (.cells (repR x j k).toArray 3 (0, 0)) ∧ Below w'.heap.size w' wr) (fun v _ => k - (intOf v).toNat)
  case atStart => exact ⟨m0, Nat.le_refl _, hm2, by simp, HG2, hB2⟩
  case round =>
    obtain ⟨j, hj1, hj2, rfl, hrow, hb⟩ := hrel
    have HR := hid hrow; clear hrow
    by_cases hlt : j < k
    · have hj0 : 0 < j := by have := hm3 (by omega); omega
      have i1 : (0 : Int) ≤ (j : Int) := by omega
      have i2 : (j : Int) ≤ (k : Int) := by omega
      go_upto_region 9 with (fail)
      obtain ⟨m, hm⟩ : ∃ m, m = Nat.min j (k - j) := ⟨_, rfl⟩
      have hma : m ≤ j := by rw [hm]; exact Nat.min_le_left _ _
      have hmb : m ≤ k - j := by rw [hm]; exact Nat.min_le_right _ _
      have hmc : 0 < m := by rw [hm]; show 0 < min j (k - j); omega
      have HM2 := hid hm; clear hm
      have hspl := repR_splice x j k m (by omega)
      have HS := hid hspl; clear hspl
      have hlr := List.length_replicate (n := m) (a := Value.int .i64 x)
      have HL := hid hlr; clear hlr
      have hw1 : IntKind.i64.wrap ((j : Int) + (m : Int)) = (j : Int) + (m : Int) := IntWalk.i64_in _ ⟨by omega, by omega⟩
      have hw2 : wrap64 ((j : Int) + (m : Int)) = (j : Int) + (m : Int) := IntWalk.wrap64_in _ ⟨by omega, by omega⟩
      go_region_law (refine step_copy_splice (by rfl) (.tmp 41) (.tmp 44) 25 25 (by rfl) 3 Tryz.underlying25 hsz (some ⟨w'.heap.size, j, none⟩) (some ⟨w'.heap.size, 0, none⟩) (k - j) (k - j) j k (by simp [Act.eval, Act.put]; omega) (by simp [Act.eval, Act.put]) w'.heap.size j (repR x j k) 3 HR.out (List.replicate m (.int .i64 x)) (by rw [HL.out]; exact HM2.out) (fun hp => ⟨rfl, _, rfl, fun i v hi => by obtain ⟨h1, rfl⟩ := rep_get hi; rw [add_addr, Nat.zero_add]; exact repR_at x j k i (.int .i64 x) (by omega) wr.drew w'.heap.size 3 HR.out⟩) (by rw [HL.out, repR_length _ _ _ (by omega)]; omega) (fun v hv => by rw [List.eq_of_mem_replicate hv]; simp [Value.oneCell']) w'.heap.size w' hb.drew (Nat.le_refl _) ?_; intro w4 hg4 hb4)
      go_wp2_with fail
      go_roundw
      case rel => exact ⟨j + m, by omega, by omega, (by omega), (by rw [← HS.out]; exact hg4.out)⟩
      case measure => simp [intOf, hw1]; omega
    · obtain rfl : j = k := (by omega)
      go_wp2_with fail
      go_ret
      exact ⟨rfl, HR.out, hb⟩
end Go.Proofs.YteabkcbajpjkoaaGreat
/- Walks of the small functions of cell, grid, wall and the references: validity. Walks: cell.Valid, cell.Mass, the reference's Valid. -/
namespace Go.Proofs.YteabkcbajpjkoaaGreat
open Go.RowKit
theorem cell_within (n lo hi : Int) (w : World) : Calls Tryz.prog 64 #[.int .i64 n, .int .i64 lo, .int .i64 hi] w fun e w' => e = .returned (.bool (within n lo hi)) ∧ w = w' := by
  cases h1 : decide (lo ≤ n)
  all_goals
    go_enter Tryz.func64, Tryz.ntmps64
    go_wp2
    go_ret
    exact ⟨by simp [within, h1], rfl⟩
theorem grid_within (n lo hi : Int) (w : World) : Calls Tryz.prog 48 #[.int .i64 n, .int .i64 lo, .int .i64 hi] w fun e w' => e = .returned (.bool (within n lo hi)) ∧ w = w' := by
  cases h1 : decide (lo ≤ n)
  all_goals
    go_enter Tryz.func48, Tryz.ntmps48
    go_wp2
    go_ret
    exact ⟨by simp [within, h1], rfl⟩
theorem ref1_within (n lo hi : Int) (w : World) : Calls Tryz.prog 93 #[.int .i64 n, .int .i64 lo, .int .i64 hi] w fun e w' => e = .returned (.bool (within n lo hi)) ∧ w = w' := by
  cases h1 : decide (lo ≤ n)
  all_goals
    go_enter Tryz.func93, Tryz.ntmps93
    go_wp2
    go_ret
    exact ⟨by simp [within, h1], rfl⟩
theorem ref2_within (n lo hi : Int) (w : World) : Calls Tryz.prog 92 #[.int .i64 n, .int .i64 lo, .int .i64 hi] w fun e w' => e = .returned (.bool (within n lo hi)) ∧ w = w' := by
  cases h1 : decide (lo ≤ n)
  all_goals
    go_enter Tryz.func92, Tryz.ntmps92
    go_wp2
    go_ret
    exact ⟨by simp [within, h1], rfl⟩
set_option maxHeartbeats 400000 in
theorem cell_sum (a : Option Addr) (n cap : Nat) (f : Nat → Int) (w : World) (hn : n ≤ 100000) (H : Sl w a n f) : Calls Tryz.prog 84 #[.slice a n cap] w fun e w' => e = .returned (.int .i64 (sumR f n)) ∧ w = w' := by
  go_enter Tryz.func84, Tryz.ntmps84
  go_wp2
  go_loop [3, 8] (fun t i => ∃ k : Nat, k ≤ n ∧ i = .int .i64 k ∧ t = .int .i64 (sumTo f k) ∧ okTo f k) (fun _ i => n - (intOf i).toNat)
  case atStart => exact ⟨0, Nat.zero_le _, rfl, rfl, fun j hj => by omega⟩
  case round =>
    obtain ⟨k, hk, rfl, rfl, hok⟩ := hrel
    have s0 := sumTo_nonneg f k hok
    have s1 := sumTo_le f k hok
    by_cases hlt : k < n
    · obtain ⟨b, off, rfl, hb, hc⟩ := H k hlt
      have HOK := hid hok; clear hok
      cases hw : within (f k) 0 1000000000 with
      | true =>
        have hb1 := (within_iff _ _ _).1 hw
        obtain ⟨hb1, hb2⟩ := hb1
        by_cases hs : 1000000000 < sumTo f k + f k
        · go_wp2_with (go_at_call 64; refine (cell_within _ _ _ _).mono ?_; rintro e w' ⟨rfl, rfl⟩)
          go_ret
          exact ⟨ret_int (sumR_no hlt (by omega)).symm, rfl⟩
        · go_wp2_with (go_at_call 64; refine (cell_within _ _ _ _).mono ?_; rintro e w' ⟨rfl, rfl⟩)
          go_round
          case rel => exact ⟨k + 1, by omega, by go_num, rfl, okTo_succ HOK.out (by omega) (by omega)⟩
          case measure => simp [intOf]; omega
      | false =>
        go_wp2_with (go_at_call 64; refine (cell_within _ _ _ _).mono ?_; rintro e w' ⟨rfl, rfl⟩)
        go_ret
        have hb1 := (within_no _ _ _).1 hw
        exact ⟨ret_int (sumR_no hlt (by omega)).symm, rfl⟩
    · go_wp2
      go_ret
      obtain rfl : k = n := (by omega)
      exact ⟨ret_int (by rw [sumR, if_pos hok]), rfl⟩
end Go.Proofs.YteabkcbajpjkoaaGreat
namespace Go.Proofs.YteabkcbajpjkoaaGreat
open Go.RowKit
theorem sl_box (w : World) (c : C4) (t : TypeId) : Sl (w.alloc (.cells #[.int .i64 c.e, .int .i64 c.n, .int .i64 c.w, .int .i64 c.s] t)) (some ⟨w.heap.size, 0, none⟩) 4 c.get := fun k hk => by
  refine ⟨w.heap.size, 0, rfl, by simp, ?_⟩
  have : k = 0 ∨ k = 1 ∨ k = 2 ∨ k = 3 := by omega
  rcases this with rfl | rfl | rfl | rfl <;> simp [go_sem, C4.get]
theorem sumR4_nonneg (c : C4) : decide (0 ≤ sumR c.get 4) = validC c := by
  rw [sumR4]
  cases h : validC c
  · simp
  · have := (validC_iff c).1 h
    simp [C4.mass]; omega
set_option maxHeartbeats 400000 in
theorem cell_valid (c : C4) (w : World) : Calls Tryz.prog 83 #[.agg #[.int .i64 c.e, .int .i64 c.n, .int .i64 c.w, .int .i64 c.s]] w fun e w' => e = .returned (.bool (validC c)) ∧ Below w.heap.size w w' := by
  rw [← sumR4_nonneg]
  go_enter Tryz.func83, Tryz.ntmps83
  go_wp2_with (go_at_call 84; refine (cell_sum _ 4 _ c.get _ (by omega) (sl_box w c 49)).mono ?_; rintro e w' ⟨rfl, rfl⟩)
  go_ret
  exact ⟨rfl, below_alloc _ _⟩
def massR (c : C4) : Int := if validC c then c.mass else 0
def errR (b : Bool) (n : Int) : Int := if b then 0 else n
set_option maxHeartbeats 400000 in
theorem cell_mass (c : C4) (w : World) : Calls Tryz.prog 49 #[.agg #[.int .i64 c.e, .int .i64 c.n, .int .i64 c.w, .int .i64 c.s]] w
    fun e w' => e = .returned (.tuple #[.int .i64 (massR c), .int .i64 (errR (validC c) 1)]) ∧ Below w.heap.size w w' := by
  have hs := sumR4 c
  cases hv : validC c
  · go_enter Tryz.func49, Tryz.ntmps49
    go_wp2_with (go_at_call 83; refine (cell_valid c _).mono ?_; rintro e w1 ⟨rfl, hb1⟩)
    go_ret2
    exact ⟨by simp [massR, errR, hv], (below_alloc _ _).trans (hb1.mono (by simp))⟩
  · rw [hv] at hs
    go_enter Tryz.func49, Tryz.ntmps49
    go_wp2_with fail
    refine (cell_valid c _).mono ?_
    rintro e w1 ⟨rfl, hb1⟩
    have hsl := (sl_box w c 49).below hb1
    go_wp2_with (go_at_call 84; refine (cell_sum _ 4 _ c.get _ (by omega) hsl).mono ?_; rintro e w' ⟨rfl, rfl⟩)
    go_ret2
    exact ⟨by simp [massR, errR, hv], (below_alloc _ _).trans (hb1.mono (by simp))⟩
theorem get_le (c : C4) (k : Nat) (hk : k < 4) (h : validC c = true) : 0 ≤ c.get k ∧ c.get k ≤ 1000000000 := by
  have h := (validC_iff c).1 h
  have : k = 0 ∨ k = 1 ∨ k = 2 ∨ k = 3 := by omega
  rcases this with rfl | rfl | rfl | rfl <;> simp [C4.get] <;> omega
theorem sumTo_bd (f : Nat → Int) : ∀ k, (∀ j, j < k → 0 ≤ f j ∧ f j ≤ 1000000000) → 0 ≤ sumTo f k ∧ sumTo f k ≤ k * 1000000000
  | 0, _ => by simp [sumTo]
  | k + 1, h => by have := sumTo_bd f k (fun j hj => h j (by omega)); have := h k (by omega); simp only [sumTo]; omega
theorem validC_end (c : C4) (h : ∀ j, j < 4 → 0 ≤ c.get j ∧ c.get j ≤ 1000000000) : decide (sumTo c.get 4 ≤ 1000000000) = validC c := by
  have h0 := h 0 (by omega); have h1 := h 1 (by omega); have h2 := h 2 (by omega); have h3 := h 3 (by omega)
  rw [sumTo4]; simp only [C4.get] at h0 h1 h2 h3
  rw [Bool.eq_iff_iff, validC_iff, decide_eq_true_iff]; omega
set_option maxHeartbeats 1000000 in
theorem ref1_valid (c : C4) (w : World) : Calls Tryz.prog 55 #[.agg #[.int .i64 c.e, .int .i64 c.n, .int .i64 c.w, .int .i64 c.s]] w fun e w' => e = .returned (.bool (validC c)) ∧ Below w.heap.size w w' := by
  have hs := sl_box w c 49
  go_enter Tryz.func55, Tryz.ntmps55
  go_wp2
  go_loop [3, 4] (fun t i => ∃ k : Nat, k ≤ 4 ∧ i = .int .i64 k ∧ t = .int .i64 (sumTo c.get k) ∧ (∀ j, j < k → 0 ≤ c.get j ∧ c.get j ≤ 1000000000)) (fun _ i => 4 - (intOf i).toNat)
  case atStart => exact ⟨0, Nat.zero_le _, rfl, rfl, fun j hj => by omega⟩
  case round =>
    obtain ⟨k, hk, rfl, rfl, hok⟩ := hrel
    by_cases hlt : k < 4
    · obtain ⟨b, off, e1, hb, hc⟩ := hs k hlt
      obtain ⟨rfl, rfl⟩ : b = w.heap.size ∧ off = 0 := by simpa [eq_comm] using e1
      rw [Nat.zero_add] at hc
      clear e1 hs hb
      obtain ⟨b1, b2⟩ := sumTo_bd _ _ hok
      have HOK := hid hok; clear hok
      cases hw : within (c.get k) 0 1000000000 with
      | true =>
        obtain ⟨hb1, hb2⟩ := (within_iff _ _ _).1 hw
        go_wp2_with (go_at_call 93; refine (ref1_within _ _ _ _).mono ?_; rintro e w' ⟨rfl, rfl⟩)
        go_round
        case rel => exact ⟨k + 1, by omega, by go_num, rfl, fun j hj => by
          rcases Nat.lt_succ_iff_lt_or_eq.1 hj with h' | rfl
          · exact HOK.out j h'
          · exact ⟨hb1, hb2⟩⟩
        case measure => simp [intOf]; omega
      | false =>
        have hno := (within_no _ _ _).1 hw
        have hv : validC c = false := by
          cases hv : validC c
          · rfl
          · exact absurd (get_le c k hlt hv) hno
        go_wp2_with (go_at_call 93; refine (ref1_within _ _ _ _).mono ?_; rintro e w' ⟨rfl, rfl⟩)
        go_ret
        exact ⟨by rw [hv]; rfl, below_alloc _ _⟩
    · obtain rfl : k = 4 := (by omega)
      have he := hid (validC_end c hok)
      obtain ⟨b1, b2⟩ := sumTo_bd _ _ hok
      clear hok hs
      go_wp2
      go_ret
      exact ⟨ret_bool he.out, below_alloc _ _⟩
end Go.Proofs.YteabkcbajpjkoaaGreat
/- Walk: the reference's From: from which place particles come. -/
namespace Go.Proofs.YteabkcbajpjkoaaGreat
open Go.RowKit
set_option linter.unusedVariables false
set_option maxRecDepth 100000 in
set_option maxHeartbeats 2000000 in
theorem ref2_From (Wd Hd i d : Nat) (w : World) (h1 : 1 ≤ Wd ∧ Wd ≤ 64) (h2 : 1 ≤ Hd ∧ Hd ≤ 64) (hi : i < Wd * Hd) (hd : d < 4) :
    Calls Tryz.prog 98 #[.int .i64 (Wd : Int), .int .i64 (Hd : Int), .int .i64 (i : Int), .int .i64 (d : Int)] w fun e w' => e = .returned (.int .i64 (nbT Wd Hd i d : Int)) ∧ Below w.heap.size w w' := by
  obtain ⟨v1, v2⟩ := h1
  obtain ⟨u1, u2⟩ := h2
  obtain ⟨hx, hy⟩ := row_lt hi
  have hii : i < 4096 := by
    have : Wd * Hd ≤ 64 * 64 := Nat.mul_le_mul v2 u2
    omega
  have hw0 : ¬ (Wd : Int) = 0 := by omega
  have hh0 : ¬ (Hd : Int) = 0 := by omega
  have ht : (i : Int).tmod (Wd : Int) = (i : Int) % (Wd : Int) := Int.tmod_eq_emod_of_nonneg (by omega)
  have hdv : (i : Int).tdiv (Wd : Int) = (i : Int) / (Wd : Int) := Int.tdiv_eq_ediv_of_nonneg (by omega)
  have hN := nbT_int (i := i) hd (show 0 < Wd by omega) (show 0 < Hd by omega)
  have x0 : 0 ≤ (i : Int) % (Wd : Int) := Int.emod_nonneg _ hw0
  have x1 : (i : Int) % (Wd : Int) < Wd := Int.emod_lt_of_pos _ (by omega)
  have y0 : 0 ≤ (i : Int) / (Wd : Int) := Int.ediv_nonneg (by omega) (by omega)
  have y1 : (i : Int) / (Wd : Int) < Hd := by
    have h := hy
    have e : ((i / Wd : Nat) : Int) = (i : Int) / (Wd : Int) := by simp
    omega
  have hwr : wrap64 ((i : Int) / (Wd : Int)) = (i : Int) / (Wd : Int) := by unfold wrap64; omega
  generalize (i : Int) % (Wd : Int) = x at *
  generalize (i : Int) / (Wd : Int) = y at *
  have HN := hid hN; clear hN
  clear hx hy
  rcases (by omega : d = 0 ∨ d = 1 ∨ d = 2 ∨ d = 3) with rfl | rfl | rfl | rfl
  · skip
    have tX : (x + (Wd : Int) - 1).tmod (Wd : Int) = (x + (Wd : Int) - 1) % (Wd : Int) := Int.tmod_eq_emod_of_nonneg (by omega)
    have tY : (y).tmod (Hd : Int) = (y) % (Hd : Int) := Int.tmod_eq_emod_of_nonneg (by omega)
    have a0 : 0 ≤ (x + (Wd : Int) - 1) % (Wd : Int) := Int.emod_nonneg _ hw0
    have a1 : (x + (Wd : Int) - 1) % (Wd : Int) < Wd := Int.emod_lt_of_pos _ (by omega)
    have b0 : 0 ≤ (y) % (Hd : Int) := Int.emod_nonneg _ hh0
    have b1 : (y) % (Hd : Int) < Hd := Int.emod_lt_of_pos _ (by omega)
    have hN := HN.out
    simp only at hN
    generalize hP : (x + (Wd : Int) - 1) % (Wd : Int) = px at tX a0 a1 hN
    generalize hQ : (y) % (Hd : Int) = py at tY b0 b1 hN
    have m0 : 0 ≤ py * (Wd : Int) := Int.mul_nonneg b0 (by omega)
    have m1 : py * (Wd : Int) ≤ 64 * 64 := Int.mul_le_mul (by omega) (by omega) (by omega) (by omega)
    have HN2 := hid hN
    have HP := hid hP; have HQ := hid hQ
    clear hN HN hP hQ
    go_enter Tryz.func98, Tryz.ntmps98
    go_wp2
    go_quiet (fail)
    go_wp2
    go_quiet (fail)
    go_wp2
    go_ret
    rw [HN2.out]
    exact ⟨rfl, by (repeat' (first | with_reducible assumption | with_reducible exact Below.refl _ _ | with_reducible refine Below.drew ?_ | with_reducible refine below_drewN ?_ _ | with_reducible refine balloc ?_ _ | with_reducible refine bset ?_ ?_ _ | with_reducible refine Below.setCell ?_ ?_ _ | with_reducible refine Below.alloc ?_ ?_ _ | omega | (simp; done) | (simp; omega)))⟩
  · skip
    have tX : (x).tmod (Wd : Int) = (x) % (Wd : Int) := Int.tmod_eq_emod_of_nonneg (by omega)
    have tY : (y + (Hd : Int) - 1).tmod (Hd : Int) = (y + (Hd : Int) - 1) % (Hd : Int) := Int.tmod_eq_emod_of_nonneg (by omega)
    have a0 : 0 ≤ (x) % (Wd : Int) := Int.emod_nonneg _ hw0
    have a1 : (x) % (Wd : Int) < Wd := Int.emod_lt_of_pos _ (by omega)
    have b0 : 0 ≤ (y + (Hd : Int) - 1) % (Hd : Int) := Int.emod_nonneg _ hh0
    have b1 : (y + (Hd : Int) - 1) % (Hd : Int) < Hd := Int.emod_lt_of_pos _ (by omega)
    have hN := HN.out
    simp only at hN
    generalize hP : (x) % (Wd : Int) = px at tX a0 a1 hN
    generalize hQ : (y + (Hd : Int) - 1) % (Hd : Int) = py at tY b0 b1 hN
    have m0 : 0 ≤ py * (Wd : Int) := Int.mul_nonneg b0 (by omega)
    have m1 : py * (Wd : Int) ≤ 64 * 64 := Int.mul_le_mul (by omega) (by omega) (by omega) (by omega)
    have HN2 := hid hN
    have HP := hid hP; have HQ := hid hQ
    clear hN HN hP hQ
    go_enter Tryz.func98, Tryz.ntmps98
    go_wp2
    go_quiet (fail)
    go_wp2
    go_quiet (fail)
    go_wp2
    go_ret
    rw [HN2.out]
    exact ⟨rfl, by (repeat' (first | with_reducible assumption | with_reducible exact Below.refl _ _ | with_reducible refine Below.drew ?_ | with_reducible refine below_drewN ?_ _ | with_reducible refine balloc ?_ _ | with_reducible refine bset ?_ ?_ _ | with_reducible refine Below.setCell ?_ ?_ _ | with_reducible refine Below.alloc ?_ ?_ _ | omega | (simp; done) | (simp; omega)))⟩
  · skip
    have tX : (x + 1).tmod (Wd : Int) = (x + 1) % (Wd : Int) := Int.tmod_eq_emod_of_nonneg (by omega)
    have tY : (y).tmod (Hd : Int) = (y) % (Hd : Int) := Int.tmod_eq_emod_of_nonneg (by omega)
    have a0 : 0 ≤ (x + 1) % (Wd : Int) := Int.emod_nonneg _ hw0
    have a1 : (x + 1) % (Wd : Int) < Wd := Int.emod_lt_of_pos _ (by omega)
    have b0 : 0 ≤ (y) % (Hd : Int) := Int.emod_nonneg _ hh0
    have b1 : (y) % (Hd : Int) < Hd := Int.emod_lt_of_pos _ (by omega)
    have hN := HN.out
    simp only at hN
    generalize hP : (x + 1) % (Wd : Int) = px at tX a0 a1 hN
    generalize hQ : (y) % (Hd : Int) = py at tY b0 b1 hN
    have m0 : 0 ≤ py * (Wd : Int) := Int.mul_nonneg b0 (by omega)
    have m1 : py * (Wd : Int) ≤ 64 * 64 := Int.mul_le_mul (by omega) (by omega) (by omega) (by omega)
    have HN2 := hid hN
    have HP := hid hP; have HQ := hid hQ
    clear hN HN hP hQ
    go_enter Tryz.func98, Tryz.ntmps98
    go_wp2
    go_quiet (fail)
    go_wp2
    go_quiet (fail)
    go_wp2
    go_ret
    rw [HN2.out]
    exact ⟨rfl, by (repeat' (first | with_reducible assumption | with_reducible exact Below.refl _ _ | with_reducible refine Below.drew ?_ | with_reducible refine below_drewN ?_ _ | with_reducible refine balloc ?_ _ | with_reducible refine bset ?_ ?_ _ | with_reducible refine Below.setCell ?_ ?_ _ | with_reducible refine Below.alloc ?_ ?_ _ | omega | (simp; done) | (simp; omega)))⟩
  · skip
    have tX : (x).tmod (Wd : Int) = (x) % (Wd : Int) := Int.tmod_eq_emod_of_nonneg (by omega)
    have tY : (y + 1).tmod (Hd : Int) = (y + 1) % (Hd : Int) := Int.tmod_eq_emod_of_nonneg (by omega)
    have a0 : 0 ≤ (x) % (Wd : Int) := Int.emod_nonneg _ hw0
    have a1 : (x) % (Wd : Int) < Wd := Int.emod_lt_of_pos _ (by omega)
    have b0 : 0 ≤ (y + 1) % (Hd : Int) := Int.emod_nonneg _ hh0
    have b1 : (y + 1) % (Hd : Int) < Hd := Int.emod_lt_of_pos _ (by omega)
    have hN := HN.out
    simp only at hN
    generalize hP : (x) % (Wd : Int) = px at tX a0 a1 hN
    generalize hQ : (y + 1) % (Hd : Int) = py at tY b0 b1 hN
    have m0 : 0 ≤ py * (Wd : Int) := Int.mul_nonneg b0 (by omega)
    have m1 : py * (Wd : Int) ≤ 64 * 64 := Int.mul_le_mul (by omega) (by omega) (by omega) (by omega)
    have HN2 := hid hN
    have HP := hid hP; have HQ := hid hQ
    clear hN HN hP hQ
    go_enter Tryz.func98, Tryz.ntmps98
    go_wp2
    go_quiet (fail)
    go_wp2
    go_quiet (fail)
    go_wp2
    go_ret
    rw [HN2.out]
    exact ⟨rfl, by (repeat' (first | with_reducible assumption | with_reducible exact Below.refl _ _ | with_reducible refine Below.drew ?_ | with_reducible refine below_drewN ?_ _ | with_reducible refine balloc ?_ _ | with_reducible refine bset ?_ ?_ _ | with_reducible refine Below.setCell ?_ ?_ _ | with_reducible refine Below.alloc ?_ ?_ _ | omega | (simp; done) | (simp; omega)))⟩
end Go.Proofs.YteabkcbajpjkoaaGreat
/- Walks: sending: wall.sent, wall.Sent, the reference's. Walks: sending: the reference's. Walks: wall.Sent and the reference's Sent; awake. Walks: awake. Walks: the reference's Same of grids that are equal. -/
namespace Go.Proofs.YteabkcbajpjkoaaGreat
open Go.RowKit
/-- a cell after a kind of wall -/
def sentC (c : C4) (k : Int) : C4 :=
  if k = 1 then ⟨c.w, c.s, c.e, c.n⟩ else if k = 2 then ⟨c.n, c.e, c.s, c.w⟩ else if k = 3 then ⟨c.s, c.w, c.n, c.e⟩ else c
end Go.Proofs.YteabkcbajpjkoaaGreat
namespace Go.Proofs.YteabkcbajpjkoaaGreat
open Go.RowKit
set_option linter.unusedVariables false
theorem infoInt : (Tryz.prog.info? 3).map (fun i => (i.zero, i.size, i.bytes)) = some (some (.int .i64 0), 1, 8) := by kernel_rfl
theorem cellsInt : Tryz.prog.cellsOf 3 = 1 := by kernel_rfl
theorem equalIn_int (d : Nat) (a b : Int) (w : World) : (Op.equalIn (d + 1) 3 (.int .i64 a) (.int .i64 b)).run Tryz.prog w = .ok (a == b) w := by
  simp [Op.equalIn, run_underlying Tryz.underlying3]
theorem equalIn_cell (n : Nat) (a b c d e f g h : Int) (w : World) : (Op.equalIn (n + 2) 49 (.agg #[.int .i64 a, .int .i64 b, .int .i64 c, .int .i64 d]) (.agg #[.int .i64 e, .int .i64 f, .int .i64 g, .int .i64 h])).run Tryz.prog w
    = .ok (a == e && (b == f && (c == g && d == h))) w := by
  obtain ⟨i0, hi, hz0, hz1, hz2⟩ := info_parts infoInt
  rw [run_equalIn_array w (n + 1) _ _ Tryz.underlying49 hi, cellsInt]
  have hp : ∀ (cs : Array Value) (j : Nat) (v : Value), cs[j]? = some v → ∀ (w : World), (part 3 cs j).run Tryz.prog w = .ok v w := by
    intro cs j v hv w
    simp [part, hv, go_sem]
  have h0 := hp #[.int .i64 a, .int .i64 b, .int .i64 c, .int .i64 d] 0 (.int .i64 a) rfl
  have h1 := hp #[.int .i64 a, .int .i64 b, .int .i64 c, .int .i64 d] 1 (.int .i64 b) rfl
  have h2 := hp #[.int .i64 a, .int .i64 b, .int .i64 c, .int .i64 d] 2 (.int .i64 c) rfl
  have h3 := hp #[.int .i64 a, .int .i64 b, .int .i64 c, .int .i64 d] 3 (.int .i64 d) rfl
  have k0 := hp #[.int .i64 e, .int .i64 f, .int .i64 g, .int .i64 h] 0 (.int .i64 e) rfl
  have k1 := hp #[.int .i64 e, .int .i64 f, .int .i64 g, .int .i64 h] 1 (.int .i64 f) rfl
  have k2 := hp #[.int .i64 e, .int .i64 f, .int .i64 g, .int .i64 h] 2 (.int .i64 g) rfl
  have k3 := hp #[.int .i64 e, .int .i64 f, .int .i64 g, .int .i64 h] 3 (.int .i64 h) rfl
  simp only [Op.eqItems, List.range, List.range.loop, Nat.mul_one, Sem.run_bind, h0, h1, h2, h3, k0, k1, k2, k3, Result.andThen_ok, equalIn_int, Sem.run_ite, Sem.run_pure]
  cases (a == e) <;> cases (b == f) <;> cases (c == g) <;> cases (d == h) <;> rfl
theorem neq_cell (a b c d e f g h : Int) (w : World) : (binOp .neq 49 (.agg #[.int .i64 a, .int .i64 b, .int .i64 c, .int .i64 d]) (.agg #[.int .i64 e, .int .i64 f, .int .i64 g, .int .i64 h])).run Tryz.prog w
    = .ok (.bool (!(a == e && (b == f && (c == g && d == h))))) w := by
  simp only [binOp]
  simp [Op.equal, Op.maxDepth, equalIn_cell 9998]
end Go.Proofs.YteabkcbajpjkoaaGreat
/- A region that draws its order: what only reads is taken first, under a word S on the world; S need not outlast the last operations (number T on), each of which waits for all before them. A region that draws its order: two operations may come up. -/
namespace Go.Proofs.YteabkcbajpjkoaaGreat
open Go Go.RowKit
set_option linter.unusedVariables false
section
variable {P : Program} {ops : Array Oper} {Q : Exit → Act → World → Prop} {md : Region.Mode} {S : World → Prop} {T : Nat}
/-- the operations from number T on wait for number i -/
def tailB (md : Region.Mode) (ops : Array Oper) (T i : Nat) : Bool :=
  (List.range ops.size).all fun t => decide (t < T) || ((ops[t]?).map fun o => o.after.any fun e => Region.binds md e && e.on == i).getD false
theorem tailB_spec {i : Nat} (h : tailB md ops T i = true) {t : Nat} {o : Oper} (ho : ops[t]? = some o) (ht : T ≤ t) : ∃ e ∈ o.after, Region.binds md e = true ∧ e.on = i := by
  have hlt : t < ops.size := (Array.getElem?_eq_some_iff.1 ho).1
  have h1 := (List.all_eq_true.1 h) t (by simpa using hlt)
  rw [Bool.or_eq_true] at h1
  rcases h1 with h1 | h1
  · have := of_decide_eq_true h1; omega
  · rw [ho] at h1
    simp only [Option.map_some, Option.getD_some] at h1
    obtain ⟨k, hk, h3⟩ := Array.any_eq_true.1 h1
    rw [Bool.and_eq_true] at h3
    exact ⟨o.after[k], Array.getElem_mem _, h3.1, by simpa using h3.2⟩
def anyS (P : Program) (md : Region.Mode) (ops : Array Oper) (Q : Exit → Act → World → Prop) (S : World → Prop) (T : Nat) : Nat → Array Bool → Act → World → Prop
  | 0, listed, a, w => Region.ready md ops listed = [] ∧ Q .normal a w
  | fuel + 1, listed, a, w =>
    (Region.ready md ops listed = [] → Q .normal a w) ∧
    ∀ i ∈ Region.ready md ops listed, wpOp P ops Q i (fun a' w' => (i < T → S w → S w') ∧ anyS P md ops Q S T fuel (listed.setIfInBounds i true) a' w') a w
theorem any_of_S : ∀ (fuel : Nat) (listed : Array Bool) (a : Act) (w : World), anyS P md ops Q S T fuel listed a w → wpAny P md ops Q fuel listed a w
  | 0, _, _, _, h => h
  | fuel + 1, _, _, _, h => ⟨h.1, fun i hi => wpOp_mono (fun a' w' h' => any_of_S fuel _ a' w' h'.2) (h.2 i hi)⟩
theorem anyS_first {S' : World → Prop} {i : Nat} {oi : Oper} {v : Value} (hT : ∀ j oj, ops[j]? = some oj → (∀ e ∈ oj.after, Region.binds md e = true → e.on ≠ i) → j < T ∨ ∀ w, S' w) (hp : ∀ w w', (S w → S w') → S' w → S' w') (hi : ops[i]? = some oi) (hsel : ∀ (j : Nat) (o : Oper) cs b, ops[j]? = some o → o.op ≠ .select cs b)
    (hQ : ∀ c a w, Q (.panic c) (a.put oi.dst v) w → Q (.panic c) a w) :
    ∀ (fuel : Nat) (listed : Array Bool) (a : Act) (w : World),
      (∀ j oj, ops[j]? = some oj → j ≠ i → listed.getD j true = false → (∀ e ∈ oj.after, Region.binds md e = true → e.on ≠ i) → oi.apart ops oj = true) →
      i ∈ Region.ready md ops listed → YieldsIf P ops S' oi v a → S' w →
      anyS P md ops Q S T fuel (listed.setIfInBounds i true) (a.put oi.dst v) w → anyS P md ops Q S T (fuel + 1) listed a w := by
  intro fuel
  induction fuel with
  | zero =>
    intro listed a w _ hr hy hS H
    refine ⟨fun h => (by rw [h] at hr; cases hr), fun j hj => ?_⟩
    by_cases hji : j = i
    · subst hji; exact hy.wpOp hi hS ⟨fun _ h => h, H⟩
    · have := ready_mono hj hji
      rw [H.1] at this
      cases this
  | succ fuel ih =>
    intro listed a w hfree hr hy hS H
    refine ⟨fun h => (by rw [h] at hr; cases hr), fun j hj => ?_⟩
    by_cases hji : j = i
    · subst hji; exact hy.wpOp hi hS ⟨fun _ h => h, H⟩
    · have h1 := H.2 j (ready_mono hj hji)
      obtain ⟨hjun, oj, hoj, hall⟩ := mem_ready.1 hj
      have hnot : ∀ e ∈ oj.after, Region.binds md e = true → e.on ≠ i := fun e he hb heq => by
        have h1 := hall e he hb
        have h0 := (mem_ready.1 hr).1
        rw [heq] at h1
        rcases Nat.lt_or_ge i listed.size with h' | h'
        · simp [h'] at h0 h1; rw [h0] at h1; cases h1
        · simp [Array.getElem?_eq_none h'] at h1
      have h2 := wpOp_putIf hoj (hfree j oj hoj hji hjun hnot) (fun cs b => hsel i oi cs b hi) (fun cs b => hsel j oj cs b hoj) hQ hy h1
      have hfree' : ∀ k ok, ops[k]? = some ok → k ≠ i → (listed.setIfInBounds j true).getD k true = false →
          (∀ e ∈ ok.after, Region.binds md e = true → e.on ≠ i) → oi.apart ops ok = true := fun k ok hk hki hun hno => by
        refine hfree k ok hk hki ?_ hno
        by_cases hjk : j = k
        · subst hjk; exact hjun
        · rw [getD_set_ne true hjk] at hun; exact hun
      refine wpOp_mono (fun a' w' h3 => ⟨h3.2.1, ih (listed.setIfInBounds j true) a' w' hfree' (ready_mono hr (Ne.symm hji)) h3.1 (by rcases hT j oj hoj hnot with h' | h'; exact hp w w' (h3.2.1 h') hS; exact h' w') ?_⟩) h2
      rw [Array.setIfInBounds_comm _ _ hji]
      exact h3.2.2
/-- take number i first -/
theorem anyS_take {i : Nat} {oi : Oper} {v : Value} {fuel : Nat} {listed : Array Bool} {a : Act} {w : World} (hi : ops[i]? = some oi)
    (hk : (tailB md ops T i && Region.noSelect ops && Region.free md ops listed i && (Region.ready md ops listed).contains i) = true)
    (hQ : ∀ c a w, Q (.panic c) (a.put oi.dst v) w → Q (.panic c) a w) (hy : YieldsIf P ops S oi v a) (hS : S w)
    (h : anyS P md ops Q S T fuel (listed.setIfInBounds i true) (a.put oi.dst v) w) : anyS P md ops Q S T (fuel + 1) listed a w := by
  simp only [Bool.and_eq_true] at hk
  refine anyS_first (S' := S) (fun j oj hj hn => ?_) (fun _ _ h hs => h hs) hi (Region.noSelect_spec hk.1.1.2) hQ fuel listed a w (Region.free_spec hi hk.1.2) (by simpa using hk.2) hy hS h
  rcases Nat.lt_or_ge j T with h' | h'
  · exact .inl h'
  · obtain ⟨e, he, hb, ho⟩ := tailB_spec hk.1.1.1 hj h'
    exact absurd ho (hn e he hb)
/-- take number i first, which asks nothing of the world -/
theorem anyS_pure {i : Nat} {oi : Oper} {v : Value} {fuel : Nat} {listed : Array Bool} {a : Act} {w : World} (hi : ops[i]? = some oi)
    (hk : (Region.noSelect ops && Region.free md ops listed i && (Region.ready md ops listed).contains i) = true)
    (hQ : ∀ c a w, Q (.panic c) (a.put oi.dst v) w → Q (.panic c) a w) (hy : YieldsIf P ops (fun _ => True) oi v a)
    (h : anyS P md ops Q S T fuel (listed.setIfInBounds i true) (a.put oi.dst v) w) : anyS P md ops Q S T (fuel + 1) listed a w := by
  simp only [Bool.and_eq_true] at hk
  exact anyS_first (S' := fun _ => True) (fun _ _ _ _ => .inr fun _ => trivial) (fun _ _ _ h => h) hi (Region.noSelect_spec hk.1.1) hQ fuel listed a w (Region.free_spec hi hk.1.2) (by simpa using hk.2) hy trivial h
/-- number i alone may come up -/
theorem anyS_one {i : Nat} {oi : Oper} {fuel : Nat} {listed : Array Bool} {a : Act} {w : World} (hr : Region.ready md ops listed = [i]) (hi : ops[i]? = some oi) (hw : Region.wanted oi (yielded ops a.tmps) = true)
    (h : ∀ K : Act → World → Prop, (∀ a' w', (i < T → S w → S w') → anyS P md ops Q S T fuel (listed.setIfInBounds i true) a' w' → K a' w') → Oper.wp P oi a w K Q) : anyS P md ops Q S T (fuel + 1) listed a w := by
  refine ⟨fun h0 => (by rw [h0] at hr; cases hr), fun j hj => ?_⟩
  rw [hr] at hj
  obtain rfl : j = i := by simpa using hj
  unfold wpOp
  simp only [hi, hw, if_true]
  exact .inl (h _ (fun a' w' hs ha => ⟨hs, ha⟩))
theorem anyS_done {listed : Array Bool} {a : Act} {w : World} (hr : Region.ready md ops listed = []) (h : Q .normal a w) : ∀ fuel, anyS P md ops Q S T fuel listed a w
  | 0 => ⟨hr, h⟩
  | _ + 1 => ⟨fun _ => h, by rw [hr]; simp⟩
theorem wp_region_S {id : Nat} {a : Act} {w : World} (S : World → Prop) (T : Nat) (hm : P.follows .mixedOrders = true)
    (h : anyS P .any ops Q S T ops.size (Array.replicate ops.size false) a w.drew) : (Code.region id ops true).wp P Q a w :=
  wp_region_any hm (any_of_S _ _ _ _ h)
end
end Go.Proofs.YteabkcbajpjkoaaGreat
namespace Go.Proofs.YteabkcbajpjkoaaGreat
open Go Go.RowKit
set_option linter.unusedVariables false
section
variable {P : Program} {ops : Array Oper} {Q : Exit → Act → World → Prop} {md : Region.Mode} {S : World → Prop} {T : Nat}
theorem anyS_two {i j : Nat} {oi oj : Oper} {fuel : Nat} {listed : Array Bool} {a : Act} {w : World} (hr : Region.ready md ops listed = [i, j]) (hi : ops[i]? = some oi) (hj : ops[j]? = some oj)
    (hw : Region.wanted oi (yielded ops a.tmps) = true) (hw2 : Region.wanted oj (yielded ops a.tmps) = true)
    (h1 : ∀ K : Act → World → Prop, (∀ a' w', (i < T → S w → S w') → anyS P md ops Q S T fuel (listed.setIfInBounds i true) a' w' → K a' w') → Oper.wp P oi a w K Q)
    (h2 : ∀ K : Act → World → Prop, (∀ a' w', (j < T → S w → S w') → anyS P md ops Q S T fuel (listed.setIfInBounds j true) a' w' → K a' w') → Oper.wp P oj a w K Q) : anyS P md ops Q S T (fuel + 1) listed a w := by
  refine ⟨fun h0 => (by rw [h0] at hr; cases hr), fun k hk => ?_⟩
  rw [hr] at hk
  simp only [List.mem_cons, List.not_mem_nil, or_false] at hk
  rcases hk with rfl | rfl
  · unfold wpOp
    simp only [hi, hw, if_true]
    exact .inl (h1 _ (fun a' w' hs ha => ⟨hs, ha⟩))
  · unfold wpOp
    simp only [hj, hw2, if_true]
    exact .inl (h2 _ (fun a' w' hs ha => ⟨hs, ha⟩))
end
end Go.Proofs.YteabkcbajpjkoaaGreat
/- Walks: grid.Valid and the reference's. Walks: the reference's grid validity. Walks: wall.Valid and the reference's. Walks: the reference's wall validity. -/
namespace Go.Proofs.YteabkcbajpjkoaaGreat
open Go.RowKit
set_option linter.unusedVariables false
theorem mul_bd {a b : Int} (h1 : 1 ≤ a) (h2 : a ≤ 64) (h3 : 1 ≤ b) (h4 : b ≤ 64) : 1 ≤ a * b ∧ a * b ≤ 4096 := by
  refine ⟨?_, ?_⟩
  · have := Int.mul_le_mul h1 h3 (by omega) (by omega); omega
  · have := Int.mul_le_mul h2 h4 (by omega) (by omega); omega
theorem validG_false_w {wide high : Int} {n : Nat} {g : Nat → C4} (h : within wide 1 64 = false) : validG wide high n g = false := by
  rw [validG_no]; rw [within_no] at h; omega
set_option maxHeartbeats 1000000 in
theorem grid_valid (wide high : Int) (a : Option Addr) (n cap : Nat) (g : Nat → C4) (w : World) (hn : n ≤ 100000000) (H : Sc w a n g) : Calls Tryz.prog 19 #[.agg #[.int .i64 wide, .int .i64 high, .slice a n cap]] w
    fun e w' => e = .returned (.bool (validG wide high n g)) ∧ Below w.heap.size w w' := by
  cases hw : within wide 1 64
  · go_enter Tryz.func19, Tryz.ntmps19
    go_wp2_with (go_at_call 48; refine (grid_within _ _ _ _).mono ?_; rintro e w' ⟨rfl, rfl⟩)
    go_ret
    exact ⟨ret_bool (validG_false_w hw).symm, by (repeat' (first | with_reducible assumption | with_reducible exact Below.refl _ _ | with_reducible refine Below.drew ?_ | with_reducible refine below_drewN ?_ _ | with_reducible refine balloc ?_ _ | with_reducible refine bset ?_ ?_ _ | with_reducible refine Below.setCell ?_ ?_ _ | with_reducible refine Below.alloc ?_ ?_ _ | omega | (simp; done) | (simp; omega)))⟩
  cases hh : within high 1 64
  · go_enter Tryz.func19, Tryz.ntmps19
    go_wp2_with (go_at_call 48; refine (grid_within _ _ _ _).mono ?_; rintro e w' ⟨rfl, rfl⟩)
    go_ret
    refine ⟨ret_bool ?_, by (repeat' (first | with_reducible assumption | with_reducible exact Below.refl _ _ | with_reducible refine Below.drew ?_ | with_reducible refine below_drewN ?_ _ | with_reducible refine balloc ?_ _ | with_reducible refine bset ?_ ?_ _ | with_reducible refine Below.setCell ?_ ?_ _ | with_reducible refine Below.alloc ?_ ?_ _ | omega | (simp; done) | (simp; omega)))⟩
    symm; rw [validG_no]; rw [within_no] at hh; omega
  obtain ⟨h1, h2⟩ := (within_iff _ _ _).1 hw
  obtain ⟨h3, h4⟩ := (within_iff _ _ _).1 hh
  obtain ⟨m1, m2⟩ := mul_bd h1 h2 h3 h4
  by_cases hm : 1024 < wide * high
  · go_enter Tryz.func19, Tryz.ntmps19
    go_wp2_with (go_at_call 48; refine (grid_within _ _ _ _).mono ?_; rintro e w' ⟨rfl, rfl⟩)
    go_ret
    refine ⟨ret_bool ?_, by (repeat' (first | with_reducible assumption | with_reducible exact Below.refl _ _ | with_reducible refine Below.drew ?_ | with_reducible refine below_drewN ?_ _ | with_reducible refine balloc ?_ _ | with_reducible refine bset ?_ ?_ _ | with_reducible refine Below.setCell ?_ ?_ _ | with_reducible refine Below.alloc ?_ ?_ _ | omega | (simp; done) | (simp; omega)))⟩
    symm; rw [validG_no]; omega
  have hm' : decide (1024 < wide * high) = false := by simpa using hm
  cases he : ((n : Int) != wide * high)
  · have he' : (n : Int) = wide * high := by simpa using he
    have HE := hid he'; clear he'
    go_enter Tryz.func19, Tryz.ntmps19
    go_wp2_with (go_at_call 48; refine (grid_within _ _ _ _).mono ?_; rintro e w' ⟨rfl, rfl⟩)
    go_loopw [3, 40] (fun m i wr => ∃ k : Nat, k ≤ n ∧ i = .int .i64 k ∧ m = .int .i64 (massTo g k) ∧ (∀ j, j < k → validC (g j) = true) ∧ massTo g k ≤ 1000000000 ∧ Below w.heap.size w wr) (fun _ i _ => n - (intOf i).toNat)
    case atStart => exact ⟨0, Nat.zero_le _, rfl, rfl, fun j hj => by omega, by simp [massTo], by (repeat' (first | with_reducible assumption | with_reducible exact Below.refl _ _ | with_reducible refine Below.drew ?_ | with_reducible refine below_drewN ?_ _ | with_reducible refine balloc ?_ _ | with_reducible refine bset ?_ ?_ _ | with_reducible refine Below.setCell ?_ ?_ _ | with_reducible refine Below.alloc ?_ ?_ _ | omega | (simp; done) | (simp; omega)))⟩
    case round =>
      obtain ⟨k, hk, rfl, rfl, hok, hle, hB⟩ := hrel
      have h0 := massTo_nonneg g k hok
      by_cases hlt : k < n
      · obtain ⟨b, off, rfl, hb, c0, c1, c2, c3⟩ := (H.below hB) k hlt
        have HOK := hid hok; clear hok
        go_wp2_with fail
        refine (cell_mass _ _).mono ?_
        rintro e w1 ⟨rfl, hb1⟩
        have hB1 : Below w.heap.size w w1 := bvia (balloc hB _) hb1
        cases hv : validC (g k)
        · simp only [massR, errR, hv]
          go_wp2_with fail
          go_ret
          refine ⟨ret_bool ?_, hB1⟩
          symm; rw [validG_no]; intro h; have := h.2.2.2.2.2.2.1 k hlt; rw [hv] at this; cases this
        · simp only [massR, errR, hv]
          have b0 := (validC_iff _).1 hv
          have e1 : (g k).mass = (g k).e + (g k).n + (g k).w + (g k).s := rfl
          have b1 : 0 ≤ (g k).mass := by omega
          have b2 : (g k).mass ≤ 1000000000 := by omega
          clear e1 b0
          by_cases hs : 1000000000 < massTo g k + (g k).mass
          · go_wp2_with fail
            go_ret
            refine ⟨ret_bool ?_, hB1⟩
            symm; rw [validG_no]; intro h
            have hm1 := massTo_mono g (k := k + 1) (n := n) (by omega) h.2.2.2.2.2.2.1
            simp only [massTo] at hm1
            have := h.2.2.2.2.2.2.2
            omega
          · go_wp2_with fail
            go_roundw
            case rel => exact ⟨k + 1, by omega, by go_num, rfl, fun j hj => by
              rcases Nat.lt_succ_iff_lt_or_eq.1 hj with h' | rfl
              · exact HOK.out j h'
              · exact hv, by simp only [massTo]; omega, hB1⟩
            case measure => simp [intOf]; omega
      · go_wp2
        go_ret
        obtain rfl : k = n := (by omega)
        refine ⟨ret_bool ?_, hB⟩
        symm; rw [validG_iff]; exact ⟨h1, h2, h3, h4, by omega, HE.out, hok, hle⟩
  · have he' : ¬ ((n : Int) = wide * high) := by simpa using he
    have HE := hid he'; clear he'
    go_enter Tryz.func19, Tryz.ntmps19
    go_wp2_with (go_at_call 48; refine (grid_within _ _ _ _).mono ?_; rintro e w' ⟨rfl, rfl⟩)
    go_ret
    refine ⟨ret_bool ?_, by (repeat' (first | with_reducible assumption | with_reducible exact Below.refl _ _ | with_reducible refine Below.drew ?_ | with_reducible refine below_drewN ?_ _ | with_reducible refine balloc ?_ _ | with_reducible refine bset ?_ ?_ _ | with_reducible refine Below.setCell ?_ ?_ _ | with_reducible refine Below.alloc ?_ ?_ _ | omega | (simp; done) | (simp; omega)))⟩
    symm; rw [validG_no]; intro h; exact HE.out h.2.2.2.2.2.1
end Go.Proofs.YteabkcbajpjkoaaGreat
namespace Go.Proofs.YteabkcbajpjkoaaGreat
open Go.RowKit
set_option linter.unusedVariables false
def sidesB (wide high cells : Int) : Bool := decide (1 ≤ wide ∧ wide ≤ 64 ∧ 1 ≤ high ∧ high ≤ 64 ∧ wide * high ≤ 1024 ∧ cells = wide * high)
theorem sidesB_iff (wide high cells : Int) : sidesB wide high cells = true ↔ (1 ≤ wide ∧ wide ≤ 64 ∧ 1 ≤ high ∧ high ≤ 64 ∧ wide * high ≤ 1024 ∧ cells = wide * high) := by simp [sidesB]
theorem sidesB_no (wide high cells : Int) : sidesB wide high cells = false ↔ ¬ (1 ≤ wide ∧ wide ≤ 64 ∧ 1 ≤ high ∧ high ≤ 64 ∧ wide * high ≤ 1024 ∧ cells = wide * high) := by rw [← sidesB_iff]; simp
set_option maxHeartbeats 1000000 in
theorem ref2_sides (wide high cells : Int) (w : World) : Calls Tryz.prog 54 #[.int .i64 wide, .int .i64 high, .int .i64 cells] w
    fun e w' => e = .returned (.bool (sidesB wide high cells)) ∧ w = w' := by
  cases hw : within wide 1 64
  · have hr : sidesB wide high cells = false := by rw [sidesB_no]; rw [within_no] at hw; omega
    go_enter Tryz.func54, Tryz.ntmps54
    go_wp2_with (go_at_call 92; refine (ref2_within _ _ _ _).mono ?_; rintro e w' ⟨rfl, rfl⟩)
    go_ret
    exact ⟨by rw [hr]; rfl, rfl⟩
  cases hh : within high 1 64
  · have hr : sidesB wide high cells = false := by rw [sidesB_no]; rw [within_no] at hh; omega
    go_enter Tryz.func54, Tryz.ntmps54
    go_wp2_with (go_at_call 92; refine (ref2_within _ _ _ _).mono ?_; rintro e w' ⟨rfl, rfl⟩)
    go_ret
    exact ⟨by rw [hr]; rfl, rfl⟩
  obtain ⟨h1, h2⟩ := (within_iff _ _ _).1 hw
  obtain ⟨h3, h4⟩ := (within_iff _ _ _).1 hh
  obtain ⟨m1, m2⟩ := mul_bd h1 h2 h3 h4
  by_cases hm : 1024 < wide * high
  · have hr : sidesB wide high cells = false := by rw [sidesB_no]; omega
    have hm' : decide (wide * high ≤ 1024) = false := by simpa using hm
    go_enter Tryz.func54, Tryz.ntmps54
    go_wp2_with (go_at_call 92; refine (ref2_within _ _ _ _).mono ?_; rintro e w' ⟨rfl, rfl⟩)
    go_ret
    exact ⟨by rw [hr]; rfl, rfl⟩
  have hr : sidesB wide high cells = (cells == wide * high) := by
    rw [Bool.eq_iff_iff, sidesB_iff, beq_iff_eq]; omega
  have hm' : decide (wide * high ≤ 1024) = true := by simp; omega
  have HR := hid hr; clear hr
  go_enter Tryz.func54, Tryz.ntmps54
  go_wp2_with (go_at_call 92; refine (ref2_within _ _ _ _).mono ?_; rintro e w' ⟨rfl, rfl⟩)
  go_ret
  exact ⟨by rw [HR.out]; rfl, rfl⟩
set_option maxHeartbeats 1000000 in
theorem ref2_weight (a : Option Addr) (n cap : Nat) (g : Nat → C4) (w : World) (hn : n ≤ 100000000) (H : Sc w a n g) (hv : ∀ k, k < n → validC (g k) = true) : Calls Tryz.prog 56 #[.slice a n cap] w
    fun e w' => e = .returned (.int .i64 (massTo g n)) ∧ Below w.heap.size w w' := by
  go_enter Tryz.func56, Tryz.ntmps56
  go_wp2
  go_loopw [3, 4] (fun m i wr => ∃ k : Nat, k ≤ n ∧ i = .int .i64 k ∧ m = .int .i64 (massTo g k) ∧ Below w.heap.size w wr) (fun _ i _ => n - (intOf i).toNat)
  case atStart => exact ⟨0, Nat.zero_le _, rfl, rfl, by (repeat' (first | with_reducible assumption | with_reducible exact Below.refl _ _ | with_reducible refine Below.drew ?_ | with_reducible refine below_drewN ?_ _ | with_reducible refine balloc ?_ _ | with_reducible refine bset ?_ ?_ _ | with_reducible refine Below.setCell ?_ ?_ _ | with_reducible refine Below.alloc ?_ ?_ _ | omega | (simp; done) | (simp; omega)))⟩
  case round =>
    obtain ⟨k, hk, rfl, rfl, hB⟩ := hrel
    have h0 := massTo_nonneg g k (fun j hj => hv j (by omega))
    have h1 := massTo_le g k (fun j hj => hv j (by omega))
    by_cases hlt : k < n
    · obtain ⟨b, off, rfl, hb, c0, c1, c2, c3⟩ := (H.below hB) k hlt
      have b0 := (validC_iff _).1 (hv k hlt)
      obtain ⟨b0, b1, b2, b3, b4⟩ := b0
      have HV := hid hv; clear hv
      go_wp2
      go_quiet (fail)
      go_wp2
      go_roundw
      case rel => exact ⟨k + 1, by omega, by go_num, congrArg (Value.int .i64) (by simp only [massTo, C4.mass]; omega), by (repeat' (first | with_reducible assumption | with_reducible exact Below.refl _ _ | with_reducible refine Below.drew ?_ | with_reducible refine below_drewN ?_ _ | with_reducible refine balloc ?_ _ | with_reducible refine bset ?_ ?_ _ | with_reducible refine Below.setCell ?_ ?_ _ | with_reducible refine Below.alloc ?_ ?_ _ | omega | (simp; done) | (simp; omega)))⟩
      case measure => simp [intOf]; omega
    · go_wp2
      go_ret
      obtain rfl : k = n := (by omega)
      exact ⟨rfl, hB⟩
theorem validG_sides {wide high : Int} {n : Nat} {g : Nat → C4} (h : sidesB wide high n = false) : validG wide high n g = false := by
  rw [validG_no]; rw [sidesB_no] at h; intro hh; exact h ⟨hh.1, hh.2.1, hh.2.2.1, hh.2.2.2.1, hh.2.2.2.2.1, hh.2.2.2.2.2.1⟩
set_option maxHeartbeats 1000000 in
theorem ref2_valid (wide high : Int) (a : Option Addr) (n cap : Nat) (g : Nat → C4) (w : World) (hn : n ≤ 100000000) (H : Sc w a n g) : Calls Tryz.prog 23 #[.agg #[.int .i64 wide, .int .i64 high, .slice a n cap]] w
    fun e w' => e = .returned (.bool (validG wide high n g)) ∧ Below w.heap.size w w' := by
  cases hs : sidesB wide high n
  · go_enter Tryz.func23, Tryz.ntmps23
    go_wp2_with (go_at_call 54; refine (ref2_sides _ _ _ _).mono ?_; rintro e w' ⟨rfl, rfl⟩)
    go_ret
    exact ⟨ret_bool (validG_sides hs).symm, by (repeat' (first | with_reducible assumption | with_reducible exact Below.refl _ _ | with_reducible refine Below.drew ?_ | with_reducible refine below_drewN ?_ _ | with_reducible refine balloc ?_ _ | with_reducible refine bset ?_ ?_ _ | with_reducible refine Below.setCell ?_ ?_ _ | with_reducible refine Below.alloc ?_ ?_ _ | omega | (simp; done) | (simp; omega)))⟩
  · have HS := hid ((sidesB_iff _ _ _).1 hs)
    go_enter Tryz.func23, Tryz.ntmps23
    go_wp2_with (go_at_call 54; refine (ref2_sides _ _ _ _).mono ?_; rintro e w' ⟨rfl, rfl⟩)
    go_loopw [3] (fun i wr => ∃ k : Nat, k ≤ n ∧ i = .int .i64 k ∧ (∀ j, j < k → validC (g j) = true) ∧ Below w.heap.size w wr ∧ (w.heap.size < wr.heap.size) ∧ wr.cell? ⟨w.heap.size, 2, none⟩ = some (.slice a n cap)) (fun i _ => n - (intOf i).toNat)
    case atStart => exact ⟨0, Nat.zero_le _, rfl, fun j hj => by omega, by (repeat' (first | with_reducible assumption | with_reducible exact Below.refl _ _ | with_reducible refine Below.drew ?_ | with_reducible refine below_drewN ?_ _ | with_reducible refine balloc ?_ _ | with_reducible refine bset ?_ ?_ _ | with_reducible refine Below.setCell ?_ ?_ _ | with_reducible refine Below.alloc ?_ ?_ _ | omega | (simp; done) | (simp; omega))), by simp, by simp [go_sem]⟩
    case round =>
      obtain ⟨k, hk, rfl, hok, hB, hz, hc⟩ := hrel
      by_cases hlt : k < n
      · obtain ⟨b, off, rfl, hb, c0, c1, c2, c3⟩ := (H.below hB) k hlt
        have HOK := hid hok; clear hok
        cases hv : validC (g k)
        · go_wp2_with (go_at_call 55; refine (ref1_valid (g k) _).mono ?_; rintro e w1 ⟨rfl, hb1⟩)
          go_ret
          refine ⟨ret_bool ?_, hB.trans (hb1.mono hB.size)⟩
          symm; rw [validG_no]; intro h; have := h.2.2.2.2.2.2.1 k hlt; rw [hv] at this; cases this
        · go_wp2_with (go_at_call 55; refine (ref1_valid (g k) _).mono ?_; rintro e w1 ⟨rfl, hb1⟩)
          go_roundw
          case rel => exact ⟨k + 1, by omega, by go_num, fun j hj => by
              rcases Nat.lt_succ_iff_lt_or_eq.1 hj with h' | rfl
              · exact HOK.out j h'
              · exact hv, hB.trans (hb1.mono hB.size), by have := hb1.size; omega, (bcell hb1 _ _ hz).trans hc⟩
          case measure => simp [intOf]; omega
      · obtain rfl : k = n := (by omega)
        have hle := massTo_le g k hok
        have HOK := hid hok
        go_wp2_with (go_at_call 56; refine (ref2_weight _ _ _ g _ hn (H.below hB) HOK.out).mono ?_; rintro e w1 ⟨rfl, hb1⟩)
        go_ret
        refine ⟨ret_bool ?_, hB.trans (hb1.mono hB.size)⟩
        rw [Bool.eq_iff_iff, validG_iff, decide_eq_true_iff]
        have h := HS.out
        exact ⟨fun hh => ⟨h.1, h.2.1, h.2.2.1, h.2.2.2.1, h.2.2.2.2.1, h.2.2.2.2.2, HOK.out, hh⟩, fun hh => hh.2.2.2.2.2.2.2⟩
end Go.Proofs.YteabkcbajpjkoaaGreat
/- Plain laws of steps in walls: a run keeps grids valid, and is undone. No program in sight. -/
namespace Go.Proofs.YteabkcbajpjkoaaGreat
set_option linter.unusedVariables false
theorem sentC_valid {c : C4} {k : Int} (h : validC c = true) : validC (sentC c k) = true := by
  rw [validC_iff] at *
  unfold sentC
  repeat' split
  all_goals ((try dsimp only); omega)
theorem sentC_mass (c : C4) (k : Int) : (sentC c k).mass = c.mass := by
  unfold sentC C4.mass
  repeat' split
  all_goals first | rfl | ((try dsimp only); omega)
/-- all cells have collided, or walls have sent -/
def metF (k b : Int) (K : Nat → Int) (g : Nat → C4) : Nat → C4 := fun i => if K i = 0 then coll k b (g i) else sentC (g i) (K i)
theorem metF_mass (k b : Int) (K : Nat → Int) (g : Nat → C4) (n : Nat) : massTo (metF k b K g) n = massTo g n :=
  massTo_masses fun i _ => by unfold metF; split; exact coll_mass _ _ _; exact sentC_mass _ _
theorem metF_valid {k b : Int} {K : Nat → Int} {g : Nat → C4} {n : Nat} (h : ∀ i, i < n → validC (g i) = true) : ∀ i, i < n → validC (metF k b K g i) = true := fun i hi => by
  unfold metF; split
  · exact coll_valid (h i hi)
  · exact sentC_valid (h i hi)
/-- a step, and a step back -/
def stepW (W H : Nat) (r : Int × Int) (K : Nat → Int) (g : Nat → C4) : Nat → C4 := flow W H (metF r.1 r.2 K g)
/-- a valid grid, by its cells -/
def okG (n : Nat) (g : Nat → C4) : Prop := (∀ i, i < n → validC (g i) = true) ∧ massTo g n ≤ 1000000000
theorem stepW_ok {W H : Nat} {r : Int × Int} {K : Nat → Int} {g : Nat → C4} (h : okG (W * H) g) : okG (W * H) (stepW W H r K g) :=
  ⟨flow_valid (metF_valid h.1) (by rw [metF_mass]; exact h.2), by unfold stepW; rw [flow_mass, metF_mass]; exact h.2⟩
/-- n steps from t on by the rules r -/
def runW (W H : Nat) (r : Nat → Int × Int) (K : Nat → Int) (g : Nat → C4) (t : Nat) : Nat → Nat → C4
  | 0 => g
  | n + 1 => stepW W H (r (t + n)) K (runW W H r K g t n)
end Go.Proofs.YteabkcbajpjkoaaGreat
/- Plain words: what a function leaves that returns a grid and an error. -/
namespace Go.Proofs.YteabkcbajpjkoaaGreat
open Go Go.RowKit
set_option linter.unusedVariables false
/-- a grid and an error -/
def GridPost (er W H : Int) (n : Nat) (g : Nat → C4) (w : World) (e : Ending) (w' : World) : Prop :=
  ∃ a c, e = .returned (.tuple #[.agg #[.int .i64 W, .int .i64 H, .slice a n c], .int .i64 er]) ∧ Sc w' a n g ∧ (∀ b off, a = some ⟨b, off, none⟩ → w.heap.size ≤ b) ∧ Below w.heap.size w w'
def erZ (er x : Int) : Int := if er = 0 then x else 0
def erN (er : Int) (n : Nat) : Nat := if er = 0 then n else 0
theorem gridPost_none {er W H : Int} {n : Nat} {g : Nat → C4} {w w' : World} (he : er ≠ 0) (hb : Below w.heap.size w w') : GridPost er (erZ er W) (erZ er H) (erN er n) g w (.returned (.tuple #[.agg #[.int .i64 0, .int .i64 0, .slice none 0 0], .int .i64 er])) w' := by
  refine ⟨none, 0, ?_, ?_, (fun b off h => by cases h), hb⟩
  · simp [erZ, erN, he]
  · intro k hk; simp [erN, he] at hk
theorem gridPost_row {W H n b cap : Nat} {g : Nat → C4} {w w' : World} (R : Ro w' b (n * 4) (flatC g)) (hge : w.heap.size ≤ b) (hb : Below w.heap.size w w') : GridPost 0 (erZ 0 (W : Int)) (erZ 0 (H : Int)) (erN 0 n) g w (.returned (.tuple #[.agg #[.int .i64 (W : Int), .int .i64 (H : Int), .slice (some ⟨b, 0, none⟩) n cap], .int .i64 0])) w' :=
  ⟨some ⟨b, 0, none⟩, cap, rfl, R.sc, (fun b' off h => by injection h with h; injection h with h _ _; omega), hb⟩
theorem Sc.far {W : World} {a : Option Addr} {n : Nat} {g : Nat → C4} (h : Sc W a n g) {p : Addr} (hp : ∀ b off, a = some ⟨b, off, none⟩ → p.block ≠ b) (u : Value) : Sc (W.setCell p u) a n g := fun k hk => by
  obtain ⟨b, off, e, h1, h2, h3, h4, h5⟩ := h k hk
  have hne := hp b off e
  refine ⟨b, off, e, by simpa [World.setCell] using h1, ?_, ?_, ?_, ?_⟩
  all_goals
    rw [World.cell?_setCell_other _ _ _ _ (fun e' => hne (by rw [e']))]
    assumption
end Go.Proofs.YteabkcbajpjkoaaGreat
/- Walks: lists of ints that are made by append: the reference's own; wall.Cells, ref.Cells. Walks: wall.Cells and the reference's. Walks: the reference's Bodies and wall.Bodies. -/
namespace Go.Proofs.YteabkcbajpjkoaaGreat
open Go.RowKit
set_option linter.unusedVariables false
/-- the places below n at which B is the body -/
def ownL (B : Nat → Int) (body : Int) : Nat → List Int
  | 0 => []
  | k + 1 => if B k = body then ownL B body k ++ [(k : Int)] else ownL B body k
theorem ownL_length (B : Nat → Int) (body : Int) : ∀ n, (ownL B body n).length ≤ n
  | 0 => by simp [ownL]
  | k + 1 => by have := ownL_length B body k; simp only [ownL]; split <;> simp <;> omega
end Go.Proofs.YteabkcbajpjkoaaGreat
namespace Go.Proofs.YteabkcbajpjkoaaGreat
open Go.RowKit Go.Maps
set_option linter.unusedVariables false
theorem keyedInt : Keyed Tryz.prog 3 := int_keyed Tryz.underlying3
end Go.Proofs.YteabkcbajpjkoaaGreat
