/- Walk: slices.Repeat at a slice of one int: a new row that holds it so often. -/
import Derived.Test.YtgpcmkoimgnlbaaLists
import Derived.Test.YtgpcmkoimgnlbaaRo
import Derived.Test.YtgpcmkoimgnlbaaShelf
import Derived.Laws.CopyOwn
import Derived.Deep.RegionLaw
import Derived.Deep.Cut
namespace Go.Proofs.Ytgpcmkoimgnlbaa
open Go Go.RowKit
set_option linter.unusedVariables false
/-- j times x, then zeros up to k -/
def repR (x : Int) (j k : Nat) : List Value := List.replicate j (.int .i64 x) ++ List.replicate (k - j) (.int .i64 0)
theorem repR_length (x : Int) (j k : Nat) (h : j ≤ k) : (repR x j k).length = k := by simp [repR]; omega
theorem repR_zero (x : Int) (k : Nat) : zcells k = (repR x 0 k).toArray := by
  apply Array.ext_getElem?
  intro i
  by_cases h : i < k
  · rw [zcells_get k i h]; simp [repR, h]
  · simp [repR, zcells, madeCells, h]
theorem repR_splice (x : Int) (j k m : Nat) (h : j + m ≤ k) : splice (repR x j k) j (List.replicate m (.int .i64 x)) = repR x (j + m) k := by
  unfold splice repR
  rw [List.take_append_of_le_length (by simp), List.take_of_length_le (by simp), List.length_replicate, List.drop_append, List.drop_eq_nil_of_le (by simp), List.length_replicate, Nat.add_sub_cancel_left, List.drop_replicate, List.nil_append, ← List.append_assoc, List.replicate_append_replicate, Nat.sub_sub]
theorem repR_at (x : Int) (j k i : Nat) (v : Value) (h : i < j) (w : World) (g : Nat) (t : TypeId) (hg : w.heap[g]? = some (.cells (repR x j k).toArray t (0, 0))) : w.cell? ⟨g, i, none⟩ = some (.int .i64 x) := by
  rw [cell_of_row w g i _ t (0, 0) hg]
  simp [repR, List.getElem?_append, h]
theorem rep_get {x : Int} {m i : Nat} {v : Value} (h : (List.replicate m (Value.int .i64 x))[i]? = some v) : i < m ∧ v = .int .i64 x := by
  rw [List.getElem?_replicate] at h
  split at h
  · rename_i hi; exact ⟨hi, by injection h with h; exact h.symm⟩
  · cases h
theorem add_addr (b o j : Nat) : (⟨b, o, none⟩ : Addr).add j = ⟨b, o + j, none⟩ := by
  unfold Addr.add; split <;> simp_all
theorem run_copy_spl {P : Program} {w : World} {dT sT ty elem : TypeId} (hu : P.underlying dT = some (.slice elem)) (hsz : (P.info? elem).map (·.size) = some 1)
    (dp sp : Option Addr) (dLen dCap sLen sCap : Nat) (g off : Nat) (cur : List Value) (t : TypeId) (hg : w.heap[g]? = some (.cells cur.toArray t (0, 0))) (cs : List Value) (hn : cs.length = Nat.min sLen dLen)
    (hpos : 0 < cs.length → dp = some ⟨g, off, none⟩ ∧ ∃ ad, sp = some ad ∧ ∀ j v, cs[j]? = some v → w.cell? (ad.add j) = some v)
    (hfit : off + cs.length ≤ cur.length) (h1 : ∀ v ∈ cs, v.oneCell' = true) (B : Nat) (w0 : World) (hb : Below B w0 w) (hBg : B ≤ g) :
    ∃ w', (Builtin.copy_ #[dT, sT] ty #[.slice dp dLen dCap, .slice sp sLen sCap]).run P w = .ok (goInt cs.length) w' ∧ w'.heap[g]? = some (.cells (splice cur off cs).toArray t (0, 0)) ∧ Below B w0 w' := by
  by_cases h0 : cs.length = 0
  · obtain rfl : cs = [] := List.eq_nil_of_length_eq_zero h0
    exact ⟨w, run_copy_none (P := P) w dT sT ty elem dp sp dLen dCap sLen sCap hu hsz (by simpa using hn.symm), by simpa [splice] using hg, hb⟩
  · obtain ⟨rfl, ad, rfl, hsrc⟩ := hpos (by omega)
    exact ⟨_, run_copy_row (P := P) w dT sT ty elem g off dLen dCap ad sLen sCap cur.toArray t cs hu hsz hg hn hsrc (by simpa using hfit) h1, by simpa [splice] using setRow_heap w g _ _ t _ hg, below_setRow hb hBg _⟩
set_option maxRecDepth 100000 in
set_option maxHeartbeats 4000000 in
theorem repeat_one (g cap k : Nat) (x : Int) (w : World) (hk : k ≤ 100000) (hg : g < w.heap.size) (hx : w.cell? ⟨g, 0, none⟩ = some (.int .i64 x)) :
    Calls Try.prog 74 #[.slice (some ⟨g, 0, none⟩) 1 cap, .int .i64 (k : Int)] w fun e w' =>
      e = .returned (.slice (some ⟨w.heap.size, 0, none⟩) k k) ∧ w'.heap[w.heap.size]? = some (.cells (repR x k k).toArray 3 (0, 0)) ∧ Below w.heap.size w w' := by
  have hmul := fun W => Try.bits_Mul 1 k (by decide) (by omega) W
  have e1 : ((1 * k / 18446744073709551616 : Nat) : Int) = 0 := by rw [Nat.one_mul, Nat.div_eq_of_lt (by omega)]; rfl
  have e2 : ((1 * k % 18446744073709551616 : Nat) : Int) = (k : Int) := by rw [Nat.one_mul, Nat.mod_eq_of_lt (by omega)]
  rw [e1, e2] at hmul
  clear e1 e2
  have hmk := fun W => mk_ints k k rfl (by omega) W
  have hsz : (Try.prog.info? 3).map (·.size) = some 1 := by kernel_rfl
  have hns : (IntKind.u64.wrap (k : Int)) = (k : Int) := IntWalk.u64_in _ ⟨by omega, by omega⟩
  have hns2 : (IntKind.i64.wrap (k : Int)) = (k : Int) := IntWalk.i64_in _ ⟨by omega, by omega⟩
  go_enter Try.func74, Try.ntmps74
  go_wp2_with fail
  refine (hmul _).mono ?_
  rintro e w' ⟨rfl, rfl⟩
  have hb1 := below_alloc w' (.cells (zcells k) 3)
  have hg1 : (w'.alloc (.cells (zcells k) 3)).heap[w'.heap.size]? = some (.cells (repR x 0 k).toArray 3 (0, 0)) := by rw [← repR_zero]; exact Array.getElem?_push_size ..
  have hx1 : (w'.alloc (.cells (zcells k) 3)).cell? ⟨g, 0, none⟩ = some (.int .i64 x) := by rw [cell_old _ _ hg]; exact hx
  have HG1 := hid hg1; have HX1 := hid hx1; have HB1 := hid hb1
  clear hg1 hx1 hb1
  obtain ⟨m0, hm0⟩ : ∃ m0, m0 = Nat.min 1 k := ⟨_, rfl⟩
  have hm1 : m0 ≤ 1 := by rw [hm0]; exact Nat.min_le_left _ _
  have hm2 : m0 ≤ k := by rw [hm0]; exact Nat.min_le_right _ _
  have hm3 : 0 < k → 0 < m0 := fun h => by rw [hm0]; show 0 < min 1 k; omega
  have HM := hid hm0; clear hm0
  obtain ⟨w2, hcp, HG2, hB2⟩ := run_copy_spl (w := w'.alloc (.cells (zcells k) 3)) (dT := 22) (sT := 22) (ty := 3) (elem := 3) Try.underlying22 hsz (some ⟨w'.heap.size, 0, none⟩) (some ⟨g, 0, none⟩) k k 1 cap w'.heap.size 0 (repR x 0 k) 3 HG1.out (List.replicate m0 (.int .i64 x)) (by rw [List.length_replicate]; exact HM.out) (fun hp => ⟨rfl, _, rfl, fun j v hj => by
    obtain ⟨h1, rfl⟩ := rep_get hj
    obtain rfl : j = 0 := by omega
    rw [add_addr]; exact HX1.out⟩) (by rw [List.length_replicate, repR_length _ _ _ (Nat.zero_le _)]; omega) (fun v hv => by rw [List.eq_of_mem_replicate hv]; simp [Value.oneCell']) w'.heap.size w' HB1.out (Nat.le_refl _)
  rw [List.length_replicate] at hcp
  go_wp2_with fail
  have hl0 := List.length_replicate (n := m0) (a := Value.int .i64 x)
  rw [repR_splice x 0 k m0 (by omega), Nat.zero_add] at HG2
  clear HG1 HX1 HB1 hcp hmul hmk hns hns2 hx hg
  go_loopw [8] (fun v wr => ∃ j : Nat, m0 ≤ j ∧ j ≤ k ∧ v = .int .i64 (j : Int) ∧ wr.heap[w'.heap.size]? = some (.cells (repR x j k).toArray 3 (0, 0)) ∧ Below w'.heap.size w' wr) (fun v _ => k - (intOf v).toNat)
  case atStart => exact ⟨m0, Nat.le_refl _, hm2, by simp, HG2, hB2⟩
  case round =>
    obtain ⟨j, hj1, hj2, rfl, hrow, hb⟩ := hrel
    have HR := hid hrow; clear hrow
    by_cases hlt : j < k
    · have hj0 : 0 < j := by have := hm3 (by omega); omega
      have i1 : (0 : Int) ≤ (j : Int) := by omega
      have i2 : (j : Int) ≤ (k : Int) := by omega
      go_upto_region 9 with (fail)
      obtain ⟨m, hm⟩ : ∃ m, m = Nat.min j (k - j) := ⟨_, rfl⟩
      have hma : m ≤ j := by rw [hm]; exact Nat.min_le_left _ _
      have hmb : m ≤ k - j := by rw [hm]; exact Nat.min_le_right _ _
      have hmc : 0 < m := by rw [hm]; show 0 < min j (k - j); omega
      have HM2 := hid hm; clear hm
      have hspl := repR_splice x j k m (by omega)
      have HS := hid hspl; clear hspl
      have hlr := List.length_replicate (n := m) (a := Value.int .i64 x)
      have HL := hid hlr; clear hlr
      have hw1 : IntKind.i64.wrap ((j : Int) + (m : Int)) = (j : Int) + (m : Int) := IntWalk.i64_in _ ⟨by omega, by omega⟩
      have hw2 : wrap64 ((j : Int) + (m : Int)) = (j : Int) + (m : Int) := IntWalk.wrap64_in _ ⟨by omega, by omega⟩
      go_region_law (refine step_copy_splice (by rfl) (.tmp 41) (.tmp 44) 22 22 (by rfl) 3 Try.underlying22 hsz (some ⟨w'.heap.size, j, none⟩) (some ⟨w'.heap.size, 0, none⟩) (k - j) (k - j) j k (by simp [Act.eval, Act.put]; omega) (by simp [Act.eval, Act.put]) w'.heap.size j (repR x j k) 3 HR.out (List.replicate m (.int .i64 x)) (by rw [HL.out]; exact HM2.out) (fun hp => ⟨rfl, _, rfl, fun i v hi => by obtain ⟨h1, rfl⟩ := rep_get hi; rw [add_addr, Nat.zero_add]; exact repR_at x j k i (.int .i64 x) (by omega) wr.drew w'.heap.size 3 HR.out⟩) (by rw [HL.out, repR_length _ _ _ (by omega)]; omega) (fun v hv => by rw [List.eq_of_mem_replicate hv]; simp [Value.oneCell']) w'.heap.size w' hb.drew (Nat.le_refl _) ?_; intro w4 hg4 hb4)
      go_wp2_with fail
      go_roundw
      case rel => exact ⟨j + m, by omega, by omega, (by omega), (by rw [← HS.out]; exact hg4.out)⟩
      case measure => simp [intOf, hw1]; omega
    · obtain rfl : j = k := (by omega)
      go_wp2_with fail
      go_ret
      exact ⟨rfl, HR.out, hb⟩
end Go.Proofs.Ytgpcmkoimgnlbaa
