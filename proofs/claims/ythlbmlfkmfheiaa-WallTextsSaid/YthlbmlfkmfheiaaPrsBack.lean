/- Plain laws: what is written of a wall is read back, and what is read is written so again. No program in sight. -/
import Derived.Test.YthlbmlfkmfheiaaPrsPlain
namespace Go.Proofs.Ythlbmlfkmfheiaa
set_option linter.unusedVariables false
theorem sgn_read {c : UInt8} (h : rdO c.toNat = true) : sgnB (rdK c.toNat) (rdB c.toNat) = c ∧ sgnOk (rdK c.toNat) (rdB c.toNat) ∧ c ≠ 10 := by
  have hlt := UInt8.toNat_lt c
  generalize hn : c.toNat = n at *
  have hc : c = UInt8.ofNat n := by rw [← hn]; simp
  have h2 : n = 46 ∨ (97 ≤ n ∧ n ≤ 114) ∨ (65 ≤ n ∧ n ≤ 73) := by simpa [rdO] using h
  have key : sgnN (rdK n) (rdB n) = n ∧ sgnOk (rdK n) (rdB n) := by
    unfold sgnN sgnOk rdK rdB
    rcases h2 with rfl | h2 | h2
    · decide
    · by_cases h3 : n ≤ 105
      · rw [if_neg (show ¬ n = 46 by omega), if_neg (show ¬ n = 46 by omega), if_pos (show 97 ≤ n ∧ n ≤ 105 by omega), if_pos (show 97 ≤ n ∧ n ≤ 105 by omega)]; simp; omega
      · rw [if_neg (show ¬ n = 46 by omega), if_neg (show ¬ n = 46 by omega), if_neg (show ¬ (97 ≤ n ∧ n ≤ 105) by omega), if_neg (show ¬ (97 ≤ n ∧ n ≤ 105) by omega), if_pos (show 106 ≤ n ∧ n ≤ 114 by omega), if_pos (show 106 ≤ n ∧ n ≤ 114 by omega)]; simp; omega
    · rw [if_neg (show ¬ n = 46 by omega), if_neg (show ¬ n = 46 by omega), if_neg (show ¬ (97 ≤ n ∧ n ≤ 105) by omega), if_neg (show ¬ (97 ≤ n ∧ n ≤ 105) by omega), if_neg (show ¬ (106 ≤ n ∧ n ≤ 114) by omega), if_neg (show ¬ (106 ≤ n ∧ n ≤ 114) by omega), if_pos h2, if_pos h2]; simp; omega
  refine ⟨by unfold sgnB; rw [key.1, hc], key.2, fun e => ?_⟩
  have : n = 10 := by rw [← hn, e]; rfl
  omega
theorem read_sgn {K B : Int} (h : sgnOk K B) : rdO (sgnB K B).toNat = true ∧ rdK (sgnB K B).toNat = K ∧ rdB (sgnB K B).toNat = B ∧ sgnB K B ≠ 10 := by
  obtain ⟨k0, k1, k2, b0, b1⟩ := h
  have e : (sgnB K B).toNat = sgnN K B := byte_val (sgnN_lt b1)
  have hne : sgnB K B ≠ 10 := fun h => by
    have : sgnN K B = 10 := by rw [← e, h]; rfl
    unfold sgnN at this
    split at this
    · omega
    · split at this
      · omega
      · split at this <;> omega
  rw [e]
  rcases (by omega : K = 0 ∨ K = 1 ∨ K = 2 ∨ K = 3) with rfl | rfl | rfl | rfl
  · have : B = 0 := by omega
    subst this
    exact ⟨rfl, rfl, rfl, hne⟩
  all_goals
    rcases (by omega : B = 1 ∨ B = 2 ∨ B = 3 ∨ B = 4 ∨ B = 5 ∨ B = 6 ∨ B = 7 ∨ B = 8 ∨ B = 9) with rfl | rfl | rfl | rfl | rfl | rfl | rfl | rfl | rfl
    all_goals exact ⟨rfl, rfl, rfl, hne⟩
/-- the signs of row k -/
def rowT (W : Nat) (K B : Nat → Int) (k : Nat) : List UInt8 := (List.range W).map fun i => sgnB (K (k * W + i)) (B (k * W + i))
theorem fmt_part {W : Nat} {K B : Nat → Int} (k : Nat) : ∀ i, i < W → fmtT W K B (k * W + i) = fmtT W K B (k * W) ++ (List.range i).map fun i => sgnB (K (k * W + i)) (B (k * W + i))
  | 0, _ => by simp
  | i + 1, h => by
    have ih := fmt_part (W := W) (K := K) (B := B) k i (by omega)
    have hm : ¬ (k * W + i + 1) % W = 0 := by
      rw [show k * W + i + 1 = (i + 1) + W * k by rw [Nat.mul_comm]; omega, Nat.add_mul_mod_self_left, Nat.mod_eq_of_lt h]; omega
    rw [← Nat.add_assoc, fmtT, if_neg hm, ih, List.range_succ, List.map_append]
    simp
theorem fmt_row {W : Nat} {K B : Nat → Int} (hW : 0 < W) (k : Nat) : fmtT W K B ((k + 1) * W) = fmtT W K B (k * W) ++ (rowT W K B k ++ [10]) := by
  obtain ⟨V, rfl⟩ : ∃ V, W = V + 1 := ⟨W - 1, by omega⟩
  have h1 := fmt_part (W := V + 1) (K := K) (B := B) k V (by omega)
  have hm : (k * (V + 1) + V + 1) % (V + 1) = 0 := by
    rw [show k * (V + 1) + V + 1 = (V + 1) * (k + 1) by rw [Nat.mul_comm (V + 1) (k + 1), Nat.succ_mul]; omega, Nat.mul_mod_right]
  rw [show (k + 1) * (V + 1) = k * (V + 1) + V + 1 by rw [Nat.succ_mul]; omega, fmtT, if_pos hm, h1]
  unfold rowT
  rw [List.range_succ, List.map_append]
  simp
theorem row_no {W : Nat} {K B : Nat → Int} {n k : Nat} (hs : ∀ j, j < n → sgnOk (K j) (B j)) (h : (k + 1) * W ≤ n) : ∀ c ∈ rowT W K B k, c ≠ 10 := by
  intro c hc
  unfold rowT at hc
  rw [List.mem_map] at hc
  obtain ⟨i, hi, rfl⟩ := hc
  rw [List.mem_range] at hi
  rw [Nat.succ_mul] at h
  exact (read_sgn (hs _ (by omega))).2.2.2
theorem words_fmt {W : Nat} {K B : Nat → Int} {n : Nat} (hW : 0 < W) (hs : ∀ j, j < n → sgnOk (K j) (B j)) : ∀ (k : Nat) (t : List UInt8), k * W ≤ n → wordsL 10 (fmtT W K B (k * W) ++ t) = (List.range k).map (rowT W K B) ++ wordsL 10 t
  | 0, t, _ => by simp [fmtT]
  | k + 1, t, h => by
    have h2 : k * W ≤ n := by rw [Nat.succ_mul] at h; omega
    rw [fmt_row hW, List.append_assoc, List.append_assoc, words_fmt hW hs k _ h2, List.range_succ, List.map_append, show rowT W K B k ++ ([10] ++ t) = rowT W K B k ++ 10 :: t from rfl, words_mark (row_no hs h)]
    simp
theorem kL_row {W : Nat} {K B : Nat → Int} {n k : Nat} (hs : ∀ j, j < n → sgnOk (K j) (B j)) (h : (k + 1) * W ≤ n) : kL (rowT W K B k) = (List.range W).map (fun i => K (k * W + i)) ∧ bL (rowT W K B k) = (List.range W).map (fun i => B (k * W + i)) ∧ okL (rowT W K B k) = true ∧ (rowT W K B k).length = W := by
  rw [Nat.succ_mul] at h
  have hr := fun i (hi : i < W) => read_sgn (hs (k * W + i) (by omega))
  refine ⟨?_, ?_, ?_, by simp [rowT]⟩
  · unfold kL rowT; rw [List.map_map]
    exact List.map_congr_left fun i hi => (hr i (by simpa using hi)).2.1
  · unfold bL rowT; rw [List.map_map]
    exact List.map_congr_left fun i hi => (hr i (by simpa using hi)).2.2.1
  · unfold okL rowT
    rw [List.all_map, List.all_eq_true]
    exact fun i hi => (hr i (by simpa using hi)).1
theorem kTo_rows {W : Nat} {K B : Nat → Int} {n : Nat} {ws : List (List UInt8)} (hs : ∀ j, j < n → sgnOk (K j) (B j)) : ∀ k, k * W ≤ n → k ≤ ws.length → (∀ j, j < k → ws.getD j [] = rowT W K B j) → kTo ws k = (List.range (k * W)).map K ∧ bTo ws k = (List.range (k * W)).map B
  | 0, _, _, _ => by simp [kTo, bTo]
  | k + 1, h, hl, hw => by
    have h2 : k * W ≤ n := by rw [Nat.succ_mul] at h; omega
    obtain ⟨e1, e2⟩ := kTo_rows (ws := ws) hs k h2 (by omega) (fun j hj => hw j (by omega))
    obtain ⟨r1, r2, _, _⟩ := kL_row (K := K) (B := B) hs h
    rw [kTo_succ (by omega), bTo_succ (by omega), hw k (by omega), e1, e2, r1, r2, Nat.succ_mul, List.range_add, List.map_append, List.map_append, List.map_map, List.map_map]
    exact ⟨rfl, rfl⟩
/-- what is written of a wall is read back -/
theorem prs_fmt {W H : Nat} {K B : Nat → Int} (hW : 0 < W) (hs : ∀ j, j < H * W → sgnOk (K j) (B j)) (hl : H * W ≤ 30000) :
    prsE true W H (fmtT W K B (H * W)) = 0 ∧ prsN true W H (fmtT W K B (H * W)) = 0 ∧ prsK true W H (fmtT W K B (H * W)) = (List.range (H * W)).map K ∧ prsL true W H (fmtT W K B (H * W)) = (List.range (H * W)).map B := by
  have hw := words_fmt (n := H * W) hW hs H [] (Nat.le_refl _)
  rw [List.append_nil, show wordsL 10 ([] : List UInt8) = [[]] from rfl] at hw
  have hlen : ¬ 65536 < (fmtT W K B (H * W)).length := by have := fmtT_length W K B (H * W); omega
  have hrow : ∀ j, j < H → (wordsL 10 (fmtT W K B (H * W))).getD j [] = rowT W K B j := fun j hj => by
    rw [hw, List.getD_eq_getElem?_getD, List.getElem?_append_left (by simpa using hj)]; simp [hj]
  have hwl : (wordsL 10 (fmtT W K B (H * W))).length = H + 1 := by rw [hw]; simp
  have hgd : ∀ j, j < H → goodB W H (wordsL 10 (fmtT W K B (H * W))) j = true := fun j hj => by
    obtain ⟨_, _, r3, r4⟩ := kL_row (W := W) (K := K) (B := B) (n := H * W) (k := j) hs (Nat.mul_le_mul_right W (by omega))
    rw [good_iff, hrow j hj]
    exact ⟨hj, r4, r3⟩
  have hok := prsB_yes (W := W) (H := H) (ws := wordsL 10 (fmtT W K B (H * W))) ((badN_is (j := H) (by omega) hgd (fun h => by omega)).trans (by omega)) (by omega) (by rw [hw, List.getLastD_concat])
  obtain ⟨q1, q2, q3, q4⟩ := prs_ok hlen hok
  obtain ⟨e1, e2⟩ := kTo_rows (ws := wordsL 10 (fmtT W K B (H * W))) hs H (Nat.le_refl _) (by omega) hrow
  exact ⟨q1, q2, by rw [q3, e1], by rw [q4, e2]⟩
/-! ### what is read is written so again -/
theorem unwords_last (m : UInt8) : ∀ rows : List (List UInt8), unwords m (rows ++ [[]]) = (rows.map fun r => r ++ [m]).flatten
  | [] => rfl
  | [r] => by simp [unwords]
  | r :: s :: rs => by
    have ih := unwords_last m (s :: rs)
    simp only [List.cons_append, unwords, List.map_cons, List.flatten_cons] at *
    rw [ih]; simp
theorem last_split {ws : List (List UInt8)} {H : Nat} (h : ws.length = H + 1) (hl : ws.getLastD [] = []) : ws = ws.take H ++ [[]] := by
  have h1 := List.take_append_drop H ws
  have h2 : ws.drop H = [[]] := by
    rw [getD_lastD h, List.getD_eq_getElem?_getD, List.getElem?_eq_getElem (by omega)] at hl
    rw [List.drop_eq_getElem_cons (by omega), List.drop_eq_nil_of_le (by omega)]
    simp only [Option.getD_some] at hl
    rw [hl]
  rw [h2] at h1
  exact h1.symm
theorem getD_left {α : Type} {l1 l2 : List α} {i : Nat} {d : α} (h : i < l1.length) : (l1 ++ l2).getD i d = l1.getD i d := by
  rw [List.getD_eq_getElem?_getD, List.getD_eq_getElem?_getD, List.getElem?_append_left h]
theorem getD_right {α : Type} {l1 l2 : List α} {i : Nat} {d : α} (h : l1.length ≤ i) : (l1 ++ l2).getD i d = l2.getD (i - l1.length) d := by
  rw [List.getD_eq_getElem?_getD, List.getD_eq_getElem?_getD, List.getElem?_append_right h]
theorem getD_map {α β : Type} {l : List α} {i : Nat} {f : α → β} {d : β} {e : α} (h : i < l.length) : (l.map f).getD i d = f (l.getD i e) := by
  rw [List.getD_eq_getElem?_getD, List.getD_eq_getElem?_getD, List.getElem?_map, List.getElem?_eq_getElem h]; rfl
theorem getD_at {α : Type} {l : List α} {i : Nat} {d : α} (h : i < l.length) : l.getD i d = l[i] := by
  rw [List.getD_eq_getElem?_getD, List.getElem?_eq_getElem h]; rfl
theorem kTo_at {W H : Nat} {ws : List (List UInt8)} : ∀ k, k ≤ ws.length → (∀ i, i < k → goodB W H ws i = true) → ∀ j, j < k → ∀ i, i < W → (kTo ws k).getD (j * W + i) 0 = rdK ((ws.getD j []).getD i 0).toNat ∧ (bTo ws k).getD (j * W + i) 0 = rdB ((ws.getD j []).getD i 0).toNat
  | 0, _, _, j, hj, _, _ => by omega
  | k + 1, hk, hg, j, hj, i, hi => by
    obtain ⟨l1, l2⟩ := kTo_len (W := W) (H := H) (ws := ws) k (by omega) (fun i hi => hg i (by omega))
    rw [kTo_succ (by omega), bTo_succ (by omega)]
    rcases Nat.lt_succ_iff_lt_or_eq.1 hj with h | rfl
    · have hb : j * W + i < k * W := by
        have := Nat.mul_le_mul_right W (show j + 1 ≤ k by omega)
        rw [Nat.succ_mul] at this; omega
      obtain ⟨r1, r2⟩ := kTo_at k (by omega) (fun i hi => hg i (by omega)) j h i hi
      rw [getD_left (by omega), getD_left (by omega)]
      exact ⟨r1, r2⟩
    · obtain ⟨_, hlen, _⟩ := good_iff.1 (hg j (by omega))
      have hi2 : i < (ws.getD j []).length := by omega
      rw [getD_right (by omega), getD_right (by omega), l1, l2, Nat.add_sub_cancel_left]
      unfold kL bL
      rw [getD_map (e := 0) hi2, getD_map (e := 0) hi2]
      exact ⟨rfl, rfl⟩
theorem fmt_prs {W H : Nat} {l : List UInt8} (hW : 0 < W) (h : prsE true W H l = 0) :
    (prsK true W H l).length = H * W ∧ (prsL true W H l).length = H * W ∧ (∀ j, j < H * W → sgnOk ((prsK true W H l).getD j 0) ((prsL true W H l).getD j 0)) ∧
      fmtT W (fun j => (prsK true W H l).getD j 0) (fun j => (prsL true W H l).getD j 0) (H * W) = l := by
  have hlong : ¬ 65536 < l.length := fun hl => by simp [prsE, hl] at h
  have hB : prsB W H (wordsL 10 l) = true := by
    cases hb : prsB W H (wordsL 10 l)
    · simp [prsE, hlong, hb] at h
    · rfl
  obtain ⟨_, _, q3, q4⟩ := prs_ok hlong hB
  rw [q3, q4]
  unfold prsB at hB
  simp only [Bool.and_eq_true, decide_eq_true_eq] at hB
  obtain ⟨⟨b1, b2⟩, b3⟩ := hB
  have hl1 : 1 ≤ (wordsL 10 l).length := by
    cases hw : wordsL 10 l with
    | nil => exact absurd hw (wordsL_ne 10 l)
    | cons x xs => simp
  have hwl : (wordsL 10 l).length = H + 1 := by omega
  have hgd : ∀ i, i < H → goodB W H (wordsL 10 l) i = true := by
    have key : ∀ f k, badF W H (wordsL 10 l) ((wordsL 10 l).length - 1) f k = (wordsL 10 l).length - 1 → ∀ i, k ≤ i → i < (wordsL 10 l).length - 1 → goodB W H (wordsL 10 l) i = true := by
      intro f
      induction f with
      | zero => intro k hk i h1 h2; simp only [badF] at hk; omega
      | succ f ih =>
        intro k hk i h1 h2
        simp only [badF] at hk
        split at hk
        · rename_i hc
          rcases Nat.lt_or_ge k i with h' | h'
          · exact ih (k + 1) hk i h' h2
          · obtain rfl : k = i := by omega
            exact hc.2
        · omega
    exact fun i hi => key _ 0 b1 i (Nat.zero_le _) (by omega)
  obtain ⟨l1, l2⟩ := kTo_len (W := W) (H := H) (ws := wordsL 10 l) H (by omega) hgd
  have hat := kTo_at (W := W) (H := H) (ws := wordsL 10 l) H (by omega) hgd
  have hch : ∀ j, j < H → ∀ i, i < W → sgnB ((kTo (wordsL 10 l) H).getD (j * W + i) 0) ((bTo (wordsL 10 l) H).getD (j * W + i) 0) = ((wordsL 10 l).getD j []).getD i 0 ∧ sgnOk ((kTo (wordsL 10 l) H).getD (j * W + i) 0) ((bTo (wordsL 10 l) H).getD (j * W + i) 0) := fun j hj i hi => by
    obtain ⟨a1, a2⟩ := hat j hj i hi
    obtain ⟨_, g2, g3⟩ := good_iff.1 (hgd j hj)
    have hr := okL_at.1 g3 i (by omega)
    obtain ⟨c1, c2, _⟩ := sgn_read hr
    rw [a1, a2]
    exact ⟨c1, c2⟩
  refine ⟨l1, l2, fun j hj => ?_, ?_⟩
  · have hd := Nat.div_add_mod j W
    have h1 : j / W < H := (Nat.div_lt_iff_lt_mul hW).2 hj
    have := (hch (j / W) h1 (j % W) (Nat.mod_lt _ hW)).2
    rw [Nat.mul_comm] at hd
    rwa [hd] at this
  · have hrow : ∀ j, j < H → rowT W (fun j => (kTo (wordsL 10 l) H).getD j 0) (fun j => (bTo (wordsL 10 l) H).getD j 0) j = (wordsL 10 l).getD j [] := fun j hj => by
      obtain ⟨_, g2, _⟩ := good_iff.1 (hgd j hj)
      apply List.ext_getElem
      · rw [g2]; simp [rowT]
      · intro i h1 h2
        have hi : i < W := by simpa [rowT] using h1
        have := (hch j hj i hi).1
        rw [getD_at h2] at this
        rw [← this]
        simp [rowT]
    have hf : ∀ k, k ≤ H → fmtT W (fun j => (kTo (wordsL 10 l) H).getD j 0) (fun j => (bTo (wordsL 10 l) H).getD j 0) (k * W) = (((wordsL 10 l).take k).map fun r => r ++ [10]).flatten := by
      intro k
      induction k with
      | zero => intro _; simp [fmtT]
      | succ k ih =>
        intro hk
        rw [fmt_row hW, ih (by omega), hrow k (by omega), List.take_succ_eq_append_getElem (by omega), List.map_append, List.flatten_append, List.getD_eq_getElem?_getD, List.getElem?_eq_getElem (by omega)]
        simp
    rw [hf H (Nat.le_refl _), ← unwords_last, ← last_split hwl b3, unwords_words]
end Go.Proofs.Ythlbmlfkmfheiaa
