/- Walk: Sorted, of the program: what comes back is a list of its own that reads as the notes in order. -/
import Derived.Test.YtcakccfhcgjofaaNSorted
import Derived.Test.YtcakccfhcgjofaaNNodes
import Derived.Lib.OwnBridge
namespace Go.Proofs.Ytcakccfhcgjofaa
open Go Go.RowKit Go.Sort
set_option linter.unusedVariables false
set_option linter.unusedSimpArgs false
theorem flatK_eq (ys : List N6) : flatK N6.list 6 ys.toArray = (flatN ys).toArray := by
  refine ext_get! (by simp [flatN_length]) fun t ht => ?_
  have ht' : t < ys.length * 6 := by simpa using ht
  rw [get_flatK _ _ _ t (by simpa using ht')]
  have h1 := flatN_at ys (t / 6) (t % 6) (by omega) (Nat.mod_lt _ (by omega))
  rw [show t / 6 * 6 + t % 6 = t by omega] at h1
  have h2 := N6.list_at (ys.getD (t / 6) N6.zero) (t % 6) (Nat.mod_lt _ (by omega))
  have e : ys.toArray[t / 6]! = ys.getD (t / 6) N6.zero := by
    have hl : t / 6 < ys.length := by omega
    simp [List.getD_eq_getElem?_getD, hl]
  rw [e, List.getElem!_eq_getElem?_getD, h2, List.getElem!_toArray, List.getElem!_eq_getElem?_getD, h1]
theorem holdsN_of_own {w : World} {base g n cap : Nat} {xs : List N6} (h : OwnN w base (.slice (some ⟨g, 0, none⟩) n cap) xs) : HoldsK N6.list 6 w g 0 xs.toArray ∧ base ≤ g ∧ g < w.heap.size ∧ xs.length ≤ cap ∧ cap ≤ maxLen ∧ n = xs.length := by
  unfold HoldsK
  rw [flatK_eq]
  rcases h.2 with ⟨e0, _⟩ | ⟨g', cap', cur, e0, hb, hg, hn, hm, hs, ht⟩
  · cases e0
  · injection e0 with e1 e2 e3
    injection e1 with e1
    injection e1 with e1
    subst e1 e2 e3
    have hlt : g < w.heap.size := by
      rcases Nat.lt_or_ge g w.heap.size with h' | h'
      · exact h'
      · rw [Array.getElem?_eq_none h'] at hg; cases hg
    refine ⟨fun j hj => ⟨?_, by simp [World.frozen?, hg]⟩, hb, hlt, hn, hm, rfl⟩
    have hj' : j < xs.length * 6 := by simpa [flatN_length] using hj
    rw [Nat.zero_add, cell_of_row w g j cur _ (0, 0) hg]
    have e1 : (cur.toList.take (xs.length * 6))[j]? = (flatN xs)[j]? := by rw [ht]
    rw [List.getElem?_take, if_pos (by omega), Array.getElem?_toList] at e1
    have hfl := flatN_length xs
    rw [e1, List.getElem!_toArray, List.getElem!_eq_getElem?_getD, List.getElem?_eq_getElem (by omega)]
    rfl
theorem ownN_putRowK {w : World} {base g n cap q : Nat} {xs ys : List N6} (h : OwnN w base (.slice (some ⟨g, 0, none⟩) n cap) xs) (hy : ys.length = xs.length) :
    OwnN (putRowK N6.list 6 (Sort.ahead w q) g 0 ys.toArray) base (.slice (some ⟨g, 0, none⟩) n cap) ys := by
  unfold putRowK OwnN
  rw [flatK_eq]
  rcases h.2 with ⟨e0, _⟩ | ⟨g', cap', cur, e0, hb, hg, hn, hm, hs, ht⟩
  · cases e0
  · injection e0 with e1 e2 e3
    injection e1 with e1
    injection e1 with e1
    subst e1 e2 e3
    have hfl := flatN_length ys
    refine ⟨by rw [hfl], .inr ⟨g, cap, putCells id 0 (flatN ys).toArray cur, by rw [hy], hb, ?_, by omega, hm, by simpa [putCells] using hs, ?_⟩⟩
    · simp [putRow, mapBlock, Sort.ahead, Array.getElem?_modify, hg, onCells]
    · apply List.ext_getElem?
      intro j
      rw [List.getElem?_take, Array.getElem?_toList]
      by_cases hj : j < ys.length * 6
      · have hjc : j < cur.size := by
          have : ys.length * 6 ≤ cap * 6 := Nat.mul_le_mul_right _ (by omega)
          omega
        simp only [if_pos hj, putCells, Array.getElem?_mapIdx, Array.getElem?_eq_getElem hjc, Option.map_some]
        rw [if_pos (by simp; omega), List.getElem?_eq_getElem (by omega)]
        simp [getElem!_pos, show j < (flatN ys).length by omega]
      · rw [if_neg hj, List.getElem?_eq_none (by omega)]
theorem ltOf_cmpN : ltOf cmpN = befN := by
  funext x y
  exact cmpN_lt x y
theorem swoN : SWO (ltOf cmpN) := by
  rw [ltOf_cmpN]
  exact ⟨befN_irrefl, fun x y z => befN_trans, fun x y z => befN_ntrans⟩
set_option maxRecDepth 100000 in
set_option maxHeartbeats 2000000 in
theorem node_Sorted (a : Option Addr) (n c : Nat) (p : Nat → N6) (w : World) (hn : n ≤ 1000000) (H : Sn w a n p) :
    Calls Try.prog 37 #[.slice a n c] w fun e w' => ∃ v, e = .returned v ∧ OwnN w' w.heap.size v (sortN (lstN p n)) ∧ Below w.heap.size w w' := by
  have hll := lstN_length p n
  have hcl := notes_Clone a n c p w hn H
  generalize lstN p n = xs at *
  have HL := hid hll
  clear hll
  go_enter Try.func37, Try.ntmps37
  go_wp2_with fail
  refine hcl.mono ?_
  rintro e w1 ⟨v, rfl, hown, hb1⟩
  clear hcl
  have hown0 := hown
  rcases hown0.2 with ⟨rfl, h0⟩ | ⟨g, cap, cur, rfl, _⟩
  · have hx : sortN xs = [] := by
      have := sortN_length xs
      rw [h0] at this
      exact List.length_eq_zero_iff.1 this
    have HX := hid hx
    clear hx h0
    have hs := AnyF.slices_SortFunc_none (P := Try.prog) Try.sortN none 0 (.func (.func 82) #[] #[]) w1
    change Calls Try.prog 81 _ _ _ at hs
    go_wp2_with fail
    refine hs.mono ?_
    rintro e w2 ⟨rfl, rfl⟩
    go_wp2
    go_ret
    rw [HX.out]
    exact ⟨_, rfl, ownN_nil _ _, hb1⟩
  · obtain ⟨hH, hg1, hg2, hxc, hcm, _⟩ := holdsN_of_own hown
    have hs := AnyQ.slices_SortFunc_total (P := Try.prog) Try.sortN 6 (fun _ => by kernel_rfl) (fun _ => by kernel_rfl) N6.list (fun _ => rfl) n6_one cmpN swoN 82 #[] g 0 cap xs.toArray w1 (Go.Proofs.enters_of Try.func82 (by kernel_rfl) rfl) (fun m os dk _ x y => node_Sorted1 x y _) hH hg2 (by have := HL.out; rw [List.size_toArray]; omega) (fun x y h1 h2 => by rw [ltOf_cmpN] at h1 h2; exact befN_total h1 h2)
    change Calls Try.prog 81 _ _ _ at hs
    rw [List.size_toArray, ltOf_cmpN] at hs
    go_wp2_with fail
    refine hs.mono ?_
    rintro e w2 ⟨rfl, q, os, hw2⟩
    clear hs
    have hown2 : OwnN w2 w.heap.size (.slice (some ⟨g, 0, none⟩) xs.length cap) (sortN xs) := by
      rw [hw2]
      unfold sortWorldK
      exact own_below (ownN_putRowK (q := q) hown (sortN_length xs)) (below_grow _ os)
    have hbb : Below w.heap.size w w2 := by
      rw [hw2]
      unfold sortWorldK putRowK
      exact bvia (Lib.below_putRow (enc := id) (q := q) hb1 (by omega)) (below_grow _ os)
    clear hw2
    go_wp2
    go_ret
    exact ⟨_, rfl, hown2, hbb⟩
end Go.Proofs.Ytcakccfhcgjofaa
