/- Walks: slices.IndexFunc (the first place) and slices.DeleteFunc of notes. -/
import Derived.Test.YteabkcbajpjkoaaGreatPk8
import Derived.Test.YteabkcbajpjkoaaGreatPk6
namespace Go.Proofs.YteabkcbajpjkoaaGreat
open Go Go.RowKit
set_option linter.unusedVariables false
set_option linter.unusedSimpArgs false
/-- the first place at which P holds -/
def FirstP (P : N6 → Bool) (f : Nat → N6) (n : Nat) (r : Int) : Prop := (r = -1 ∧ ∀ k, k < n → P (f k) = false) ∨ ∃ k : Nat, k < n ∧ r = k ∧ P (f k) = true ∧ ∀ j, j < k → P (f j) = false
def FirstPost (P : N6 → Bool) (f : Nat → N6) (n : Nat) (w : World) (e : Ending) (w' : World) : Prop := ∃ r : Int, e = .returned (.int .i64 r) ∧ FirstP P f n r ∧ Below w.heap.size w w'
set_option maxRecDepth 100000 in
set_option maxHeartbeats 1000000 in
theorem notes_IndexFirst (P : N6 → Bool) (gf : Nat) (cb : Array Value) (a : Option Addr) (n c : Nat) (f : Nat → N6) (w : World) (hn : n ≤ 100000000) (H : Sn w a n f)
    (hp : ∀ k, k < n → ∀ W, Below w.heap.size w W → Calls Tryz.prog gf (#[.agg #[.int .i64 (f k).st, .int .i64 (f k).fr, .int .i64 (f k).to, .int .i64 (f k).ce, .int .i64 (f k).di, .int .i64 (f k).co]] ++ cb) W fun e w' => e = .returned (.bool (P (f k))) ∧ Below W.heap.size W w') (eg : ∀ args w, (callFunc gf args).run Tryz.prog w = .ok (.enter gf args) w) :
    Calls Tryz.prog 129 #[.slice a n c, .func (.func gf) #[] cb] w (FirstPost P f n w) := by
  go_enter Tryz.func129, Tryz.ntmps129
  go_wp2
  go_loopw [8] (fun i wr => ∃ k : Nat, k ≤ n ∧ i = .int .i64 k ∧ (∀ j, j < k → P (f j) = false) ∧ Below w.heap.size w wr) (fun i _ => n - (intOf i).toNat)
  case atStart => exact ⟨0, Nat.zero_le _, rfl, fun j hj => by omega, Below.refl _ _⟩
  case round =>
    obtain ⟨k, hk, rfl, hno, hB⟩ := hrel
    have HNO := hid hno; clear hno
    by_cases hlt : k < n
    · obtain ⟨b1, o1, rfl, hb1, c0, c1, c2, c3, c4, c5⟩ := (H.below hB).six hlt
      have hpk := hp k hlt wr hB
      clear hp
      go_wp2_with fail
      refine hpk.mono ?_
      rintro e w1 ⟨rfl, hb1⟩
      replace hB := bvia hB hb1
      cases hv : P (f k)
      · go_wp2_with fail
        go_roundw
        case rel => exact ⟨k + 1, by omega, by go_num, fun j hj => by
          rcases Nat.lt_succ_iff_lt_or_eq.1 hj with h' | rfl
          · exact HNO.out j h'
          · exact hv, hB⟩
        case measure => simp [intOf]; omega
      · go_wp2_with fail
        go_ret
        exact ⟨k, rfl, .inr ⟨k, hlt, rfl, hv, HNO.out⟩, hB⟩
    · clear hp
      go_wp2
      go_ret
      obtain rfl : k = n := (by omega)
      exact ⟨-1, rfl, .inl ⟨rfl, HNO.out⟩, hB⟩
/-- one cell of an own row is written -/
theorem own_set1 {w : World} {base g n cap size : Nat} {e : TypeId} {xs : List Value} (h : w.ownsRow base e size (.slice (some ⟨g, 0, none⟩) n cap) n xs) (j : Nat) (hj : j < n * size) (u : Value) :
    (w.setCell ⟨g, j, none⟩ u).ownsRow base e size (.slice (some ⟨g, 0, none⟩) n cap) n (xs.set j u) := by
  refine ⟨by simpa using h.1, ?_⟩
  rcases h.2 with ⟨e0, _⟩ | ⟨g', cap', cur, e0, hb, hg, hn, hm, hs, ht⟩
  · cases e0
  · injection e0 with e1 _ e3
    injection e1 with e1
    injection e1 with e1
    subst e1 e3
    refine .inr ⟨g, cap, cur.setIfInBounds j u, rfl, hb, ?_, hn, hm, by simpa using hs, ?_⟩
    · simp [World.setCell, Array.getElem?_modify, hg]
    · rw [← ht, Array.toList_setIfInBounds, List.take_set]
theorem flatN_set : ∀ (ys : List N6) (i : Nat) (x : N6), i < ys.length → ((((((flatN ys).set (i * 6) (.int .i64 x.st)).set (i * 6 + 1) (.int .i64 x.fr)).set (i * 6 + 2) (.int .i64 x.to)).set (i * 6 + 3) (.int .i64 x.ce)).set (i * 6 + 4) (.int .i64 x.di)).set (i * 6 + 5) (.int .i64 x.co) = flatN (ys.set i x) := by
  intro ys i x hi
  apply List.ext_getElem?
  intro t
  have hfl := flatN_length ys
  have hfl2 := flatN_length (ys.set i x)
  rw [List.length_set] at hfl2
  by_cases ht : t < ys.length * 6
  · have e1 := flatN_at ys (t / 6) (t % 6) (by omega) (Nat.mod_lt _ (by omega))
    have e2 := flatN_at (ys.set i x) (t / 6) (t % 6) (by rw [List.length_set]; omega) (Nat.mod_lt _ (by omega))
    rw [show t / 6 * 6 + t % 6 = t by omega] at e1 e2
    rw [e2]
    simp only [List.getElem?_set, List.length_set, hfl, e1]
    by_cases hti : t / 6 = i
    · have hg : (ys.set i x).getD (t / 6) N6.zero = x := by rw [hti, List.getD_eq_getElem?_getD, List.getElem?_set_self hi]; rfl
      rw [hg]
      have ht6 : t = i * 6 + t % 6 := by omega
      have hm := Nat.mod_lt t (show 0 < 6 by omega)
      rcases (by omega : t % 6 = 0 ∨ t % 6 = 1 ∨ t % 6 = 2 ∨ t % 6 = 3 ∨ t % 6 = 4 ∨ t % 6 = 5) with h | h | h | h | h | h <;> rw [h] <;> rw [h] at ht6
      · rw [if_neg (by omega), if_neg (by omega), if_neg (by omega), if_neg (by omega), if_neg (by omega), if_pos (by omega), if_pos (by omega)]; rfl
      · rw [if_neg (by omega), if_neg (by omega), if_neg (by omega), if_neg (by omega), if_pos (by omega), if_pos (by omega)]; rfl
      · rw [if_neg (by omega), if_neg (by omega), if_neg (by omega), if_pos (by omega), if_pos (by omega)]; rfl
      · rw [if_neg (by omega), if_neg (by omega), if_pos (by omega), if_pos (by omega)]; rfl
      · rw [if_neg (by omega), if_pos (by omega), if_pos (by omega)]; rfl
      · rw [if_pos (by omega), if_pos (by omega)]; rfl
    · have hg : (ys.set i x).getD (t / 6) N6.zero = ys.getD (t / 6) N6.zero := by rw [List.getD_eq_getElem?_getD, List.getElem?_set_ne (fun h => hti h.symm), ← List.getD_eq_getElem?_getD]
      rw [hg, if_neg (by omega), if_neg (by omega), if_neg (by omega), if_neg (by omega), if_neg (by omega), if_neg (by omega)]
  · rw [List.getElem?_eq_none (by simp; omega), List.getElem?_eq_none (by omega)]
/-- one note of an own list is written -/
theorem ownN_set {w : World} {base g n cap : Nat} {ys : List N6} (h : OwnN w base (.slice (some ⟨g, 0, none⟩) n cap) ys) (hn : n = ys.length) {i : Nat} (hi : i < ys.length) (x : N6) :
    OwnN ((((((w.setCell ⟨g, i * 6, none⟩ (.int .i64 x.st)).setCell ⟨g, i * 6 + 1, none⟩ (.int .i64 x.fr)).setCell ⟨g, i * 6 + 2, none⟩ (.int .i64 x.to)).setCell ⟨g, i * 6 + 3, none⟩ (.int .i64 x.ce)).setCell ⟨g, i * 6 + 4, none⟩ (.int .i64 x.di)).setCell ⟨g, i * 6 + 5, none⟩ (.int .i64 x.co)) base (.slice (some ⟨g, 0, none⟩) n cap) (ys.set i x) := by
  subst hn
  unfold OwnN
  rw [List.length_set, ← flatN_set ys i x hi]
  exact own_set1 (own_set1 (own_set1 (own_set1 (own_set1 (own_set1 h _ (by omega) _) _ (by omega) _) _ (by omega) _) _ (by omega) _) _ (by omega) _) _ (by omega) _
/-- .. and cut to its first ones, the others overwritten -/
theorem ownN_cut {w : World} {base g n cap : Nat} {ys : List N6} (h : OwnN w base (.slice (some ⟨g, 0, none⟩) n cap) ys) {i : Nat} (hi : i ≤ ys.length) : ∀ (vs : List Value) (o : Nat), i * 6 ≤ o → OwnN (w.setCells g o vs) base (.slice (some ⟨g, 0, none⟩) i cap) (ys.take i) := by
  have hcut : ∀ W : World, (∃ cur', W.heap[g]? = some (.cells cur' 106 (0, 0)) ∧ cur'.size = cap * 6 ∧ cur'.toList.take (i * 6) = flatN (ys.take i)) → base ≤ g → i ≤ cap → cap ≤ maxLen → OwnN W base (.slice (some ⟨g, 0, none⟩) i cap) (ys.take i) := fun W ⟨cur', h1, h2, h3⟩ h4 h5 h6 => by
    have hl : (ys.take i).length = i := by rw [List.length_take]; omega
    unfold OwnN
    rw [hl]
    exact ⟨by rw [flatN_length, hl], .inr ⟨g, cap, cur', rfl, h4, h1, h5, h6, h2, h3⟩⟩
  rcases h.2 with ⟨e0, _⟩ | ⟨g', cap', cur, e0, hb, hg, hn, hm, hs, ht⟩
  · cases e0
  · injection e0 with e1 _ e3
    injection e1 with e1
    injection e1 with e1
    subst e1 e3
    have ht2 : cur.toList.take (i * 6) = flatN (ys.take i) := by
      have h1 : cur.toList.take (i * 6) = (cur.toList.take (ys.length * 6)).take (i * 6) := by rw [List.take_take, Nat.min_eq_left (by omega)]
      rw [h1, ht]
      have h2 : flatN ys = flatN (ys.take i) ++ flatN (ys.drop i) := by
        unfold flatN
        rw [← List.flatMap_append, List.take_append_drop]
      rw [h2, List.take_left' (by rw [flatN_length, List.length_take]; omega)]
    have key : ∀ (vs : List Value) (o : Nat) (W : World), i * 6 ≤ o → (∃ cur', W.heap[g]? = some (.cells cur' 106 (0, 0)) ∧ cur'.size = cap * 6 ∧ cur'.toList.take (i * 6) = flatN (ys.take i)) → ∃ cur', (W.setCells g o vs).heap[g]? = some (.cells cur' 106 (0, 0)) ∧ cur'.size = cap * 6 ∧ cur'.toList.take (i * 6) = flatN (ys.take i) := by
      intro vs
      induction vs with
      | nil => intro o W _ h; exact h
      | cons v vs ih =>
        intro o W ho ⟨cur', h1, h2, h3⟩
        refine ih (o + 1) _ (by omega) ⟨cur'.setIfInBounds o v, ?_, by simpa using h2, ?_⟩
        · simp [World.setCell, Array.getElem?_modify, h1]
        · rw [Array.toList_setIfInBounds, List.take_set, h3, List.set_eq_of_length_le]
          rw [flatN_length, List.length_take]; omega
    intro vs o ho
    exact hcut _ (key vs o w ho ⟨cur, hg, hs, ht2⟩) hb (by omega) hm
theorem below_setCells {B : Nat} {w0 : World} {g : Nat} (hg : B ≤ g) : ∀ (vs : List Value) (o : Nat) (w : World), Below B w0 w → Below B w0 (w.setCells g o vs)
  | [], _, _, h => h
  | v :: vs, o, w, h => below_setCells hg vs (o + 1) _ (h.setCell (p := ⟨g, o, none⟩) hg v)
theorem own_free {w : World} {base g n cap : Nat} {ys : List N6} (h : OwnN w base (.slice (some ⟨g, 0, none⟩) n cap) ys) : ∀ o, w.frozen? ⟨g, o, none⟩ = false := fun o => by
  rcases h.2 with ⟨e0, _⟩ | ⟨g', cap', cur, e0, hb, hg, hn, hm, hs, ht⟩
  · cases e0
  · injection e0 with e1 _ e3
    injection e1 with e1
    injection e1 with e1
    subst e1
    simp [World.frozen?, hg]
theorem own_six {w : World} {base g n cap : Nat} {ys : List N6} (h : OwnN w base (.slice (some ⟨g, 0, none⟩) n cap) ys) {j : Nat} (hj : j < n) : g < w.heap.size ∧
    w.cell? ⟨g, j * 6, none⟩ = some (.int .i64 (ys.getD j N6.zero).st) ∧ w.cell? ⟨g, j * 6 + 1, none⟩ = some (.int .i64 (ys.getD j N6.zero).fr) ∧ w.cell? ⟨g, j * 6 + 2, none⟩ = some (.int .i64 (ys.getD j N6.zero).to) ∧
    w.cell? ⟨g, j * 6 + 3, none⟩ = some (.int .i64 (ys.getD j N6.zero).ce) ∧ w.cell? ⟨g, j * 6 + 4, none⟩ = some (.int .i64 (ys.getD j N6.zero).di) ∧ w.cell? ⟨g, j * 6 + 5, none⟩ = some (.int .i64 (ys.getD j N6.zero).co) := by
  obtain ⟨b, o, e, h1, h2⟩ := (own_listR h).2.2.six hj
  injection e with e
  injection e with e1 e2 _
  subst e1 e2
  rw [Nat.zero_add] at h2
  exact ⟨h1, h2⟩
set_option maxRecDepth 100000 in
theorem run_clear_notes {w : World} {g o n c : Nat} (hn : 0 < n) (hc : ∀ j, j < n * 6 → (w.cell? ⟨g, o + j, none⟩).isSome = true) (hf : ∀ j, w.frozen? ⟨g, j, none⟩ = false) (ty : TypeId) :
    (Builtin.clear_ #[67] ty #[.slice (some ⟨g, o, none⟩) n c]).run Tryz.prog w = .ok (.tuple #[]) (w.setCells g o (List.replicate (n * 6) (.int .i64 0))) := by
  have hzv : (zeroValue 106).run Tryz.prog w = .ok (.agg #[.int .i64 0, .int .i64 0, .int .i64 0, .int .i64 0, .int .i64 0, .int .i64 0]) w := by kernel_rfl
  have hzc : (Builtin.zeroCells (Value.agg #[.int .i64 0, .int .i64 0, .int .i64 0, .int .i64 0, .int .i64 0, .int .i64 0]).cells n).toList = List.replicate (n * 6) (.int .i64 0) := by
    show (Builtin.zeroCells #[.int .i64 0, .int .i64 0, .int .i64 0, .int .i64 0, .int .i64 0, .int .i64 0] n).toList = _
    rw [List.eq_replicate_iff]
    refine ⟨by simp [Builtin.zeroCells], fun b hb => ?_⟩
    simp only [Builtin.zeroCells, Array.toList_map, List.mem_map] at hb
    obtain ⟨i, _, rfl⟩ := hb
    show (#[Value.int .i64 0, .int .i64 0, .int .i64 0, .int .i64 0, .int .i64 0, .int .i64 0])[i % 6]! = _
    have hm := Nat.mod_lt i (show 0 < 6 by omega)
    generalize i % 6 = k at *
    rcases (by omega : k = 0 ∨ k = 1 ∨ k = 2 ∨ k = 3 ∨ k = 4 ∨ k = 5) with rfl | rfl | rfl | rfl | rfl | rfl <;> rfl
  have hst := run_storeCells_cells (P := Tryz.prog) g o (List.replicate (n * 6) (.int .i64 0)) 0 w (by simpa using hc) (by intro j _; exact hf _) (by intro v hv'; rw [List.eq_of_mem_replicate hv']; rfl)
  simp only [Nat.add_zero] at hst
  obtain ⟨m, rfl⟩ : ∃ m, n = m + 1 := ⟨n - 1, by omega⟩
  simp [Builtin.clear_, run_underlying Tryz.underlying67, hzv, hzc, hst]
theorem own_cells {w : World} {base g n cap : Nat} {ys : List N6} (h : OwnN w base (.slice (some ⟨g, 0, none⟩) n cap) ys) : ∀ t, t < n * 6 → (w.cell? ⟨g, t, none⟩).isSome = true := fun t ht => by
  obtain ⟨hg, c0, c1, c2, c3, c4, c5⟩ := own_six h (j := t / 6) (by omega)
  have hm := Nat.mod_lt t (show 0 < 6 by omega)
  have e : t = t / 6 * 6 + t % 6 := by omega
  rcases (by omega : t % 6 = 0 ∨ t % 6 = 1 ∨ t % 6 = 2 ∨ t % 6 = 3 ∨ t % 6 = 4 ∨ t % 6 = 5) with h | h | h | h | h | h <;> rw [h] at e <;> rw [e]
  · rw [Nat.add_zero, c0]; rfl
  · rw [c1]; rfl
  · rw [c2]; rfl
  · rw [c3]; rfl
  · rw [c4]; rfl
  · rw [c5]; rfl
theorem filter_all {P : N6 → Bool} {xs : List N6} (h : ∀ k, k < xs.length → P (xs.getD k N6.zero) = false) : xs.filter (fun x => !P x) = xs := by
  refine List.filter_eq_self.2 fun x hx => ?_
  obtain ⟨k, hk, e⟩ := List.mem_iff_getElem.1 hx
  have := h k hk
  rw [List.getD_eq_getElem?_getD, List.getElem?_eq_getElem hk, Option.getD_some, e] at this
  simp [this]
theorem take_filter_succ {P : N6 → Bool} {xs : List N6} {j : Nat} (hj : j < xs.length) : (xs.take (j + 1)).filter (fun x => !P x) = if P (xs.getD j N6.zero) = true then (xs.take j).filter (fun x => !P x) else (xs.take j).filter (fun x => !P x) ++ [xs.getD j N6.zero] := by
  rw [List.take_succ_eq_append_getElem hj, List.filter_append, List.getD_eq_getElem?_getD, List.getElem?_eq_getElem hj, Option.getD_some]
  split
  · rename_i h; simp [h]
  · rename_i h; simp [h]
theorem take_filter_first {P : N6 → Bool} {xs : List N6} {k : Nat} (hk : k < xs.length) (h : ∀ j, j < k → P (xs.getD j N6.zero) = false) : (xs.take k).filter (fun x => !P x) = xs.take k := by
  refine List.filter_eq_self.2 fun x hx => ?_
  obtain ⟨j, hj, e⟩ := List.mem_iff_getElem.1 hx
  have hj2 : j < k := by rw [List.length_take] at hj; omega
  have := h j hj2
  rw [List.getD_eq_getElem?_getD, List.getElem?_eq_getElem (by omega), Option.getD_some] at this
  rw [List.getElem_take] at e
  rw [e] at this
  simp [this]
/-- what is written while the row is thinned -/
structure DelI (P : N6 → Bool) (xs ys : List N6) (i j : Nat) : Prop where
  len : ys.length = xs.length
  lt : i < j
  le : j ≤ xs.length
  kept : ys.take i = (xs.take j).filter (fun x => !P x)
  rest : ∀ t, j ≤ t → ys[t]? = xs[t]?
theorem DelI.skip {P : N6 → Bool} {xs ys : List N6} {i j : Nat} (h : DelI P xs ys i j) (hj : j < xs.length) (hp : P (xs.getD j N6.zero) = true) : DelI P xs ys i (j + 1) :=
  ⟨h.len, by have := h.lt; omega, hj, by rw [take_filter_succ hj, if_pos hp]; exact h.kept, fun t ht => h.rest t (by omega)⟩
theorem DelI.put {P : N6 → Bool} {xs ys : List N6} {i j : Nat} (h : DelI P xs ys i j) (hj : j < xs.length) (hp : P (xs.getD j N6.zero) = false) : DelI P xs (ys.set i (xs.getD j N6.zero)) (i + 1) (j + 1) := by
  have hl := h.lt
  have hn := h.len
  refine ⟨by rw [List.length_set]; exact h.len, by omega, hj, ?_, fun t ht => ?_⟩
  · rw [take_filter_succ hj, if_neg (by rw [hp]; decide), ← h.kept, List.take_add_one, List.getElem?_set_self (by omega), List.take_set, List.set_eq_of_length_le (by rw [List.length_take]; omega)]
    rfl
  · rw [List.getElem?_set_ne (by omega)]
    exact h.rest t (by omega)
set_option maxRecDepth 100000 in
set_option maxHeartbeats 4000000 in
theorem notes_DeleteFunc (P : N6 → Bool) (gf : Nat) (cb : Array Value) (v : Value) (xs : List N6) (base : Nat) (w : World) (hx : xs.length ≤ 1000000) (hbw : base ≤ w.heap.size) (h : OwnN w base v xs)
    (hp : ∀ x, x ∈ xs → ∀ W, Below base w W → Calls Tryz.prog gf (#[.agg #[.int .i64 x.st, .int .i64 x.fr, .int .i64 x.to, .int .i64 x.ce, .int .i64 x.di, .int .i64 x.co]] ++ cb) W fun e w' => e = .returned (.bool (P x)) ∧ Below W.heap.size W w') (eg : ∀ args w, (callFunc gf args).run Tryz.prog w = .ok (.enter gf args) w) :
    Calls Tryz.prog 105 #[v, .func (.func gf) #[] cb] w fun e w' => ∃ v', e = .returned v' ∧ OwnN w' base v' (xs.filter fun x => !P x) ∧ Below base w w' := by
  obtain ⟨pv, cv, rfl, ⟨_, hcv, SX⟩⟩ := listR_of_own h
  have hmem : ∀ k, k < xs.length → xs.getD k N6.zero ∈ xs := fun k hk => by
    rw [List.getD_eq_getElem?_getD, List.getElem?_eq_getElem hk]; exact List.getElem_mem _
  have hix := notes_IndexFirst P gf cb pv xs.length cv (fun k => xs.getD k N6.zero) w (by omega) SX (fun k hk W hW => hp _ (hmem k hk) W (hW.mono hbw)) eg
  have HP := hid hp; have HM := hid hmem
  clear hp hmem SX
  go_enter Tryz.func105, Tryz.ntmps105
  go_wp2_with fail
  refine hix.mono ?_
  rintro e w1 ⟨r, rfl, hr, hb1⟩
  have h1 := own_below h hb1
  have hB1 := hb1.mono hbw
  clear hix hb1 h
  rcases hr with ⟨rfl, hno⟩ | ⟨k, hk, rfl, hyes, hbef⟩
  · have hf := filter_all hno
    have HF := hid hf
    clear hf hno
    go_wp2
    go_ret
    rw [HF.out]
    exact ⟨_, rfl, h1, hB1⟩
  · have hD : DelI P xs xs k (k + 1) := ⟨rfl, by omega, by omega, by rw [take_filter_succ hk, if_pos hyes, take_filter_first hk hbef], fun _ _ => rfl⟩
    have hkm : ((k : Int) == -1) = false := by
      rw [beq_eq_false_iff_ne]; omega
    obtain ⟨g, rfl⟩ : ∃ g, pv = some ⟨g, 0, none⟩ := by
      rcases h1.2 with ⟨e0, h0⟩ | ⟨g, cap, cur, e0, _⟩
      · omega
      · injection e0 with e0 _ _; exact ⟨g, e0⟩
    have hgb : base ≤ g := own_base h1 g rfl
    clear hyes hbef
    go_wp2
    go_loopw [5, 6] (fun a b wr => ∃ (i j : Nat) (ys : List N6), a = .int .i64 i ∧ b = .int .i64 j ∧ DelI P xs ys i j ∧ OwnN wr base (.slice (some ⟨g, 0, none⟩) xs.length cv) ys ∧ Below base w wr) (fun _ b _ => xs.length - (intOf b).toNat)
    case atStart => exact ⟨k, k + 1, xs, rfl, by go_num, hD, h1, hB1⟩
    case round =>
      clear hD h1 hB1 hkm hk
      obtain ⟨i, j, ys, rfl, rfl, hD, hown, hB⟩ := hrel
      obtain ⟨hl1, hl2, hl3⟩ := (show ys.length = xs.length ∧ i < j ∧ j ≤ xs.length from ⟨hD.len, hD.lt, hD.le⟩)
      have HL := hid hl1
      clear hl1
      by_cases hlt : j < xs.length
      · have hyx : ys.getD j N6.zero = xs.getD j N6.zero := by rw [List.getD_eq_getElem?_getD, List.getD_eq_getElem?_getD, hD.rest j (Nat.le_refl _)]
        obtain ⟨hg, k0, k1, k2, k3, k4, k5⟩ := own_six hown hlt
        rw [hyx] at k0 k1 k2 k3 k4 k5
        have hcall := HP.out _ (HM.out j hlt)
        have hsk := hD.skip hlt; have hpu := hD.put hlt
        have HSK := hid hsk; have HPU := hid hpu
        clear hsk hpu hD hyx
        generalize xs.getD j N6.zero = x at *
        have X0 := Bx.new wr #[.int .i64 x.st, .int .i64 x.fr, .int .i64 x.to, .int .i64 x.ce, .int .i64 x.di, .int .i64 x.co] 106
        have hbs := hB.size
        have hal := below_alloc wr (.cells #[.int .i64 x.st, .int .i64 x.fr, .int .i64 x.to, .int .i64 x.ce, .int .i64 x.di, .int .i64 x.co] 106)
        have hown5 := own_below hown hal
        have hB5 : Below base w _ := hB.trans (hal.mono (show base ≤ wr.heap.size by omega))
        have hcall5 := hcall _ hB5
        clear hcall hown
        go_wp2_with fail
        generalize wr.alloc (.cells #[.int .i64 x.st, .int .i64 x.fr, .int .i64 x.to, .int .i64 x.ce, .int .i64 x.di, .int .i64 x.co] 106) = w5 at *
        refine hcall5.mono ?_
        rintro e w6 ⟨rfl, hb6⟩
        have X6 := X0.below hb6
        have hown6 : OwnN w6 base _ ys := own_below hown5 hb6
        have hB6 : Below base w w6 := hB5.trans (hb6.mono (by have := hB5.size; omega))
        clear hcall5 hown5 hB5 k0 k1 k2 k3 k4 k5 X0 hal
        cases hv : P x
        · have x0 := X6.at_ 0 rfl; have x1 := X6.at_ 1 rfl; have x2 := X6.at_ 2 rfl; have x3 := X6.at_ 3 rfl; have x4 := X6.at_ 4 rfl; have x5 := X6.at_ 5 rfl; have lx := X6.lt
          obtain ⟨hg6, k0, k1, k2, k3, k4, k5⟩ := own_six hown6 (show i < xs.length by omega)
          have fg := own_free hown6
          have hset := ownN_set hown6 HL.out.symm (i := i) (by have := HL.out; omega) x
          have hDn := HPU.out hv
          have HD := hid hDn
          clear hDn
          generalize ys.getD i N6.zero = y at *
          go_wp2_with fail
          go_roundw
          case rel => exact ⟨i + 1, j + 1, _, by go_num, by go_num, HD.out, hset, by (repeat' (first | with_reducible assumption | with_reducible exact Below.refl _ _ | with_reducible refine Below.drew ?_ | with_reducible refine below_drewN ?_ _ | with_reducible refine balloc ?_ _ | with_reducible refine bset ?_ ?_ _ | with_reducible refine Below.setCell ?_ ?_ _ | with_reducible refine Below.alloc ?_ ?_ _ | omega | (simp; done) | (simp; omega)))⟩
          case measure => simp [intOf]; omega
        · have hDn := HSK.out hv
          have HD := hid hDn
          clear hDn
          go_wp2_with fail
          go_roundw
          case rel => exact ⟨i, j + 1, _, rfl, by go_num, HD.out, hown6, hB6⟩
          case measure => simp [intOf]; omega
      · have hj : j = xs.length := by omega
        have hk := hD.kept
        rw [hj, List.take_length] at hk
        have hir : i < xs.length := by omega
        have hne : ¬ cv = i := by omega
        have hsl : ∀ w, (Instr.slice 67 (.slice (some ⟨g, 0, none⟩) xs.length cv) (some (.int .i64 (i : Int))) none none).run Tryz.prog w = .ok (.slice (some ⟨g, i * 6, none⟩) (xs.length - i) (cv - i)) w := fun w => by
          rw [notes_slice_from _ _ _ _ (by omega), if_neg hne, Option.map_some, addrAdd, Nat.zero_add]
        have hsl2 : ∀ w, (Instr.slice 67 (.slice (some ⟨g, 0, none⟩) xs.length cv) none (some (.int .i64 (i : Int))) none).run Tryz.prog w = .ok (.slice (some ⟨g, 0, none⟩) i cv) w := fun w => by
          rw [notes_slice_to _ _ _ _ (by omega), if_neg (by omega), Option.map_some, addrAdd]
        have hcl := run_clear_notes (w := wr) (g := g) (o := i * 6) (n := xs.length - i) (c := cv - i) (by omega) (fun t ht => own_cells hown _ (by omega)) (own_free hown)
        have hcut := ownN_cut hown (i := i) (by have := HL.out; omega) (List.replicate ((xs.length - i) * 6) (.int .i64 0)) (i * 6) (Nat.le_refl _)
        have hbc := below_setCells hgb (List.replicate ((xs.length - i) * 6) (.int .i64 0)) (i * 6) wr hB
        rw [hk] at hcut
        have HC := hid hcut; have HB := hid hbc
        clear hk hD hcut hbc hj
        generalize List.replicate ((xs.length - i) * 6) (Value.int .i64 0) = zs at *
        go_wp2
        go_ret
        exact ⟨_, rfl, HC.out, HB.out⟩
end Go.Proofs.YteabkcbajpjkoaaGreat
