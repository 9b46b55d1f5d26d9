/- Walks: Neighbours, of the program and of the reference. -/
import Derived.Test.YtcakccfhcgjofaaNDueF
namespace Go.Proofs.Ytcakccfhcgjofaa
open Go Go.RowKit Go.Sort
set_option linter.unusedVariables false
/-- which of the first k numbers stand in a list -/
def presL (l : List Int) : Nat → List Int
  | 0 => []
  | k + 1 => if (k : Int) ∈ l then presL l k ++ [(k : Int)] else presL l k
theorem presL_mem {l : List Int} {x : Int} : ∀ {k}, x ∈ presL l k ↔ ∃ j : Nat, j < k ∧ x = j ∧ (j : Int) ∈ l
  | 0 => by simp [presL]
  | k + 1 => by
    simp only [presL]
    split
    · rename_i h
      rw [List.mem_append, presL_mem, List.mem_singleton]
      constructor
      · rintro (⟨j, h1, h2, h3⟩ | rfl)
        · exact ⟨j, by omega, h2, h3⟩
        · exact ⟨k, by omega, rfl, h⟩
      · rintro ⟨j, h1, h2, h3⟩
        by_cases e : j = k
        · subst e; exact .inr h2
        · exact .inl ⟨j, by omega, h2, h3⟩
    · rename_i h
      rw [presL_mem]
      constructor
      · rintro ⟨j, h1, h2, h3⟩
        exact ⟨j, by omega, h2, h3⟩
      · rintro ⟨j, h1, h2, h3⟩
        by_cases e : j = k
        · subst e; exact absurd h3 h
        · exact ⟨j, by omega, h2, h3⟩
theorem presL_sorted (l : List Int) : ∀ k, (presL l k).Pairwise (· < ·)
  | 0 => by simp [presL]
  | k + 1 => by
    simp only [presL]
    split
    · rw [List.pairwise_append]
      refine ⟨presL_sorted l k, by simp, fun x hx y hy => ?_⟩
      obtain ⟨j, h1, h2, _⟩ := presL_mem.1 hx
      rw [List.mem_singleton] at hy
      omega
    · exact presL_sorted l k
theorem presL_length (l : List Int) : ∀ k, (presL l k).length ≤ k
  | 0 => by simp [presL]
  | k + 1 => by have := presL_length l k; simp only [presL]; split <;> simp <;> omega
theorem pres_of {l zs : List Int} (hl : ∀ x ∈ l, 0 ≤ x ∧ x ≤ 7) (hp : zs.Perm l) (hs : zs.Pairwise (· ≤ ·)) : Lib.compact zs = presL l 8 := by
  have hd : ∀ i j, i ≤ j → j < zs.toArray.size → zs.toArray[i]! ≤ zs.toArray[j]! := fun i j hij hj => by
    simp at hj
    rw [getElem!_pos _ i (by simp; omega), getElem!_pos _ j (by simp; omega)]
    rcases Nat.lt_or_ge i j with h | h
    · exact List.pairwise_iff_getElem.1 hs i j (by omega) hj h
    · obtain rfl : i = j := by omega
      exact Int.le_refl _
  obtain ⟨h1, h2⟩ := compactUpTo_sorted hd zs.length (by simp)
  refine sorted_ext h1 (presL_sorted l 8) fun x => ?_
  rw [presL_mem]
  unfold Lib.compact at *
  rw [h2]
  constructor
  · rintro ⟨j, hj, rfl⟩
    rw [getElem!_pos _ j (by simpa using hj)]
    have hm : zs.toArray[j] ∈ l := hp.mem_iff.1 (by simp)
    have := hl _ hm
    exact ⟨(zs.toArray[j]).toNat, by omega, by omega, by rw [Int.toNat_of_nonneg this.1]; exact hm⟩
  · rintro ⟨j, hj, rfl, hne⟩
    obtain ⟨i, hi, e⟩ := List.getElem_of_mem (hp.mem_iff.2 hne)
    exact ⟨i, hi, by rw [getElem!_pos _ i (by simpa using hi)]; simpa using e.symm⟩
/-- slices.Sort of an own row of ints -/
theorem own_Sort {w : World} {base : Nat} {v : Value} {xs : List Int} (h : w.ownsRow base 3 1 v xs.length (xs.map vInt)) (hl : xs.length ≤ 1000000) :
    Calls Try.prog 52 #[v] w fun e w' => e = .returned (.tuple #[]) ∧ (∃ ys : List Int, ys.length = xs.length ∧ ys.Perm xs ∧ ys.Pairwise (· ≤ ·) ∧ w'.ownsRow base 3 1 v ys.length (ys.map vInt)) ∧ ∀ w0 : World, w0.heap.size ≤ base → Below w0.heap.size w0 w → Below w0.heap.size w0 w' := by
  by_cases hn : v = .slice none 0 0
  · subst hn
    have hx : xs = [] := by
      rcases h.2 with ⟨_, h0⟩ | ⟨g, cap, cur, e, _⟩
      · exact List.eq_nil_of_length_eq_zero h0
      · injection e with e; cases e
    subst hx
    refine (Try.slices_Sort_int_none none 0 w).mono ?_
    rintro e w' ⟨rfl, rfl⟩
    exact ⟨rfl, ⟨[], rfl, .nil, .nil, h⟩, fun _ _ hb => hb⟩
  · obtain ⟨g, cap, rfl, hg1, hg2, hcap, hcm, _, hH1⟩ := Lib.holds_of_ownsRow (enc := Value.int .i64) (zs := xs) h hn
    refine (Try.slices_Sort_int g 0 cap xs w hH1 hg2 (by omega)).mono ?_
    rintro e w' ⟨rfl, q, os, rfl⟩
    have hyl : (xs.mergeSort fun x y => decide (x ≤ y)).length = xs.length := List.length_mergeSort _
    refine ⟨rfl, ⟨_, hyl, List.mergeSort_perm _ _, sort_pairwise _, ?_⟩, fun w0 hB hb => ?_⟩
    · have h2 := Lib.ownsRow_putRow (enc := Value.int .i64) (q := q) (k := xs.length) h hyl (Nat.le_refl _)
      rw [List.take_of_length_le (by rw [hyl]; exact Nat.le_refl _)] at h2
      rw [hyl]
      exact own_below h2 (below_grow _ os)
    · have h2 := Lib.below_putRow (enc := Value.int .i64) (q := q) (d := (xs.mergeSort fun x y => decide (x ≤ y)).toArray) hb (show w0.heap.size ≤ g by omega)
      exact h2.trans ((below_grow _ os).mono h2.size)
/-- slices.Compact of an own row of ints -/
theorem own_Compact {w : World} {base : Nat} {v : Value} {xs : List Int} (h : w.ownsRow base 3 1 v xs.length (xs.map vInt)) (hl : xs.length ≤ 1000000) :
    Calls Try.prog 53 #[v] w fun e w' => ∃ v', e = .returned v' ∧ w'.ownsRow base 3 1 v' (Lib.compact xs).length ((Lib.compact xs).map vInt) ∧ ∀ w0 : World, w0.heap.size ≤ base → Below w0.heap.size w0 w → Below w0.heap.size w0 w' := by
  by_cases hn : v = .slice none 0 0
  · subst hn
    have hx : xs = [] := by
      rcases h.2 with ⟨_, h0⟩ | ⟨g, cap, cur, e, _⟩
      · exact List.eq_nil_of_length_eq_zero h0
      · injection e with e; cases e
    subst hx
    refine (Try.slices_Compact_int_empty none 0 w).mono ?_
    rintro e w' ⟨rfl, rfl⟩
    exact ⟨_, rfl, h, fun _ _ hb => hb⟩
  · obtain ⟨g, cap, rfl, hg1, hg2, hcap, hcm, _, hH1⟩ := Lib.holds_of_ownsRow (enc := Value.int .i64) (zs := xs) h hn
    refine (Try.slices_Compact_int g 0 cap xs w hH1 (by omega) hcap).mono ?_
    rintro e w' ⟨rfl, q, rfl⟩
    have hcl := Lib.compact_length_le xs
    refine ⟨_, rfl, ?_, fun w0 hB hb => Lib.below_putRow hb (by omega)⟩
    have h2 := Lib.ownsRow_putRow (enc := Value.int .i64) (q := q) (k := (Lib.compact xs).length) (ys := Lib.compact xs ++ List.replicate (xs.length - (Lib.compact xs).length) 0) h (by simp; omega) hcl
    rw [List.take_left] at h2
    exact h2
def froL (l : List N6) : List Int := l.map N6.fr
theorem froL_snoc (l : List N6) (x : N6) : froL (l ++ [x]) = froL l ++ [x.fr] := by simp [froL]
theorem froL_length (l : List N6) : (froL l).length = l.length := by simp [froL]
theorem take_getN {l : List N6} {k : Nat} (h : k < l.length) : l.take (k + 1) = l.take k ++ [l.getD k N6.zero] := by
  rw [List.take_succ_eq_append_getElem h, List.getD_eq_getElem?_getD, List.getElem?_eq_getElem h]; rfl
theorem dueC_fro {W H : Nat} {o : Nat → Int} {nd st : Int} {i : Nat} {P : Int → Prop} : ∀ {d}, (∀ e, e < d → P (o (nbT W H i e))) → ∀ x ∈ dueC W H o nd st i d, P x.fr
  | 0, _, x, h => by simp [dueC] at h
  | d + 1, hp, x, h => by
    simp only [dueC] at h
    split at h
    · exact dueC_fro (fun e he => hp e (by omega)) x h
    · rcases List.mem_append.1 h with h | h
      · exact dueC_fro (fun e he => hp e (by omega)) x h
      · rw [List.mem_singleton] at h; subst h; exact hp d (by omega)
theorem dueL_fro {W H : Nat} {o : Nat → Int} {nd st : Int} {P : Int → Prop} (hp : ∀ k, k < W * H → P (o k)) : ∀ {n}, n ≤ W * H → ∀ x ∈ dueL W H o nd st n, P x.fr
  | 0, _, x, h => by simp [dueL] at h
  | n + 1, hn, x, h => by
    simp only [dueL] at h
    split at h
    · rcases List.mem_append.1 h with h | h
      · exact dueL_fro hp (by omega) x h
      · exact dueC_fro (fun e he => hp _ (nbT_lt (by omega) he)) x h
    · exact dueL_fro hp (by omega) x h
/-- what Neighbours gives -/
def neighL (wide high : Int) (no : Nat) (o : Nat → Int) (nd er : Int) : List Int := if er = 0 then presL (froL (dueL wide.toNat high.toNat o nd 1 no)) 8 else []
theorem within_one : within 1 1 1000000 = true := by decide
set_option maxRecDepth 100000 in
set_option maxHeartbeats 2000000 in
theorem node_Neighbours (wide high nd : Int) (a ao : Option Addr) (n no c co : Nat) (g : Nat → C4) (o : Nat → Int) (w : World) (hn : n ≤ 100000000) (hno : no ≤ 100000000) (H : Sc w a n g) (HO : Sl w ao no o) :
    Calls Try.prog 19 #[.agg #[.int .i64 wide, .int .i64 high, .slice a n c], .slice ao no co, .int .i64 nd] w
      (ListPost (neighL wide high no o nd (dueE (validM wide high n g no o) (hasB o no nd) true)) (dueE (validM wide high n g no o) (hasB o no nd) true) w) := by
  obtain ⟨i0, hi, hz0, hz1, hz2⟩ := info_parts infoI
  have I := H.alloc (.cells #[.int .i64 wide, .int .i64 high, .slice a n c] 24)
  have IO := HO.alloc (.cells #[.int .i64 wide, .int .i64 high, .slice a n c] 24)
  have hdu := node_Due wide high nd 1 a ao n no c co g o _ hn hno I IO
  rw [within_one] at hdu
  have hv : dueE (validM wide high n g no o) (hasB o no nd) true = 0 → validM wide high n g no o = true := fun h => (dueE_zero h).1
  generalize dueE (validM wide high n g no o) (hasB o no nd) true = er at *
  have HV := hid hv; clear hv
  cases hq : (er != 0)
  rotate_left
  · have hq' : ¬ er = 0 := by simpa using hq
    have HQ := hid hq'; clear hq'
    go_enter Try.func19, Try.ntmps19
    go_wp2_with fail
    refine hdu.mono ?_
    rintro e w1 ⟨a1, c1, rfl, S1, hb1⟩
    go_wp2
    go_ret2
    have h1 : neighL wide high no o nd er = [] := by simp [neighL, HQ.out]
    rw [h1]
    exact listPost_nil (bvia (by (repeat' (first | with_reducible assumption | with_reducible exact Below.refl _ _ | with_reducible refine Below.drew ?_ | with_reducible refine below_drewN ?_ _ | with_reducible refine balloc ?_ _ | with_reducible refine bset ?_ ?_ _ | with_reducible refine Below.setCell ?_ ?_ _ | with_reducible refine Below.alloc ?_ ?_ _ | omega | (simp; done) | (simp; omega)))) hb1)
  · have hq' : er = 0 := by simpa using hq
    have hv := HV.out hq'
    subst hq'
    clear hq
    obtain ⟨Wd, Hd, rfl, rfl, p1, p2, u1, u2, hnn, hn4, hoo, hob, _, _⟩ := validM_sides hv
    have hX : dueX Wd Hd no o nd 1 0 = dueL Wd Hd o nd 1 no := by simp [dueX]
    rw [hX] at hdu
    have hbd : ∀ x ∈ froL (dueL Wd Hd o nd 1 no), 0 ≤ x ∧ x ≤ 7 := fun x hx => by
      simp only [froL, List.mem_map] at hx
      obtain ⟨y, hy, rfl⟩ := hx
      exact dueL_fro (P := fun x => 0 ≤ x ∧ x ≤ 7) (fun k hk => hob k (by omega)) (by omega) y hy
    have hll := dueL_length Wd Hd o nd 1 no
    have hN : neighL Wd Hd no o nd 0 = presL (froL (dueL Wd Hd o nd 1 no)) 8 := by simp [neighL]
    have HN := hid hN
    have hno4 : no ≤ 1024 := by omega
    clear hX hN hv hnn hoo hob
    generalize dueL Wd Hd o nd 1 no = L at *
    have HBD := hid hbd; clear hbd
    go_enter Try.func19, Try.ntmps19
    go_wp2_with fail
    refine hdu.mono ?_
    rintro e w1 ⟨a1, c1, rfl, S1, hb1⟩
    have hB1 : Below w.heap.size w w1 := bvia (by (repeat' (first | with_reducible assumption | with_reducible exact Below.refl _ _ | with_reducible refine Below.drew ?_ | with_reducible refine below_drewN ?_ _ | with_reducible refine balloc ?_ _ | with_reducible refine bset ?_ ?_ _ | with_reducible refine Below.setCell ?_ ?_ _ | with_reducible refine Below.alloc ?_ ?_ _ | omega | (simp; done) | (simp; omega)))) hb1
    have hs1 := hb1.size
    rw [World.size_alloc] at hs1
    clear hdu hb1
    go_wp2_with fail
    go_loopw [10, 25] (fun v i wr => ∃ k : Nat, k ≤ L.length ∧ i = .int .i64 k ∧ wr.ownsRow w1.heap.size 3 1 v (froL (L.take k)).length ((froL (L.take k)).map vInt) ∧ Below w1.heap.size w1 wr) (fun _ i _ => L.length - (intOf i).toNat)
    case atStart => exact ⟨0, Nat.zero_le _, rfl, World.ownsRow_nil .., Below.refl _ _⟩
    case round =>
      obtain ⟨k, hk, rfl, hown, hB⟩ := hrel
      have hbs := hB.size
      have hfl : (froL (L.take k)).length = k := by rw [froL_length, List.length_take]; omega
      by_cases hlt : k < L.length
      · have hT : froL (L.take (k + 1)) = froL (L.take k) ++ [(L.getD k N6.zero).fr] := by rw [take_getN hlt, froL_snoc]
        have HT := hid hT; clear hT
        obtain ⟨b1, o1, rfl, _, c0, c1, c2, c3, c4, c5⟩ := (S1.below hB).six hlt
        try dsimp only at c0 c1 c2 c3 c4 c5
        generalize L.getD k N6.zero = x at *
        have HFL := hid hfl
        go_wp2_with (at_builtin; refine wpList_append_own _ rfl _ _ 25 rfl w1.heap.size 3 i0 (.int .i64 0) 1 8 Try.underlying25 hi hz0 hz1 hz2 rfl (by decide) _ _ _ rfl ((hown.alloc _).alloc _) ⟨wr.heap.size + 1, 0, none⟩ 1 1 [.int .i64 x.fr] rfl rfl (by have h := cell_one_new (wr.alloc (.cells #[.int .i64 x.st, .int .i64 x.fr, .int .i64 x.to, .int .i64 x.ce, .int .i64 x.di, .int .i64 x.co] 41)) (.int .i64 x.fr) 3; rw [World.size_alloc] at h; exact h) (by simp [Value.oneCell']) (by simp [maxLen]; omega) (by omega) (by (try simp); omega) ?_; intro v' w2 hown' hgrow _)
        go_roundw
        case rel => exact ⟨k + 1, by omega, by go_num, by rw [HT.out]; exact own_snoc hown', ((hB.alloc hB.size _).alloc (by simp; omega) _).grown hgrow (by simp; omega) (own_base hown)⟩
        case measure => simp [intOf]; omega
      · obtain rfl : k = L.length := (by omega)
        rw [List.take_length] at hown
        have hB2 : Below w.heap.size w wr := bvia hB1 hB
        have hfm : (froL L).length ≤ 1000000 := by rw [froL_length]; omega
        go_wp2_with fail
        refine (own_Sort hown hfm).mono ?_
        rintro e w2 ⟨rfl, ⟨ys, hyl, hyp, hyo, hown2⟩, hk2⟩
        have hB3 := hk2 w (by omega) hB2
        have hcm := pres_of HBD.out hyp hyo
        have HC := hid hcm; clear hcm
        have hym : ys.length ≤ 1000000 := by omega
        clear hyp hyo
        have hco := own_Compact hown2 hym
        have HYL := hid hyl; clear hyl
        go_wp2_with fail
        refine hco.mono ?_
        rintro e w3 ⟨v', rfl, hown3, hk3⟩
        have hB4 := hk3 w (by omega) hB3
        go_wp2
        go_ret2
        rw [HN.out, ← HC.out]
        exact listPost_own hown3 hB4
end Go.Proofs.Ytcakccfhcgjofaa
