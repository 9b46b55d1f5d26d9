/- Plain law: the numbers of the notes that are due. Walks: Neighbours, of the program and of the reference. Walk: Neighbours of the reference. -/
import Derived.Test.YtmmjaobpoiofdaaGreatNRefSite
import Derived.Test.YtmmjaobpoiofdaaGreatNDueF
import Derived.Test.YtmmjaobpoiofdaaGreatNPost
namespace Go.Proofs.YtmmjaobpoiofdaaGreat
open Go Go.RowKit
set_option linter.unusedVariables false
theorem dueC_fro {W H : Nat} {o : Nat → Int} {nd st : Int} {i : Nat} {P : Int → Prop} : ∀ {d}, (∀ e, e < d → P (o (nbT W H i e))) → ∀ x ∈ dueC W H o nd st i d, P x.fr
  | 0, _, x, h => by simp [dueC] at h
  | d + 1, hp, x, h => by
    simp only [dueC] at h
    split at h
    · exact dueC_fro (fun e he => hp e (by omega)) x h
    · rcases List.mem_append.1 h with h | h
      · exact dueC_fro (fun e he => hp e (by omega)) x h
      · rw [List.mem_singleton] at h; subst h; exact hp d (by omega)
theorem dueL_fro {W H : Nat} {o : Nat → Int} {nd st : Int} {P : Int → Prop} (hp : ∀ k, k < W * H → P (o k)) : ∀ {n}, n ≤ W * H → ∀ x ∈ dueL W H o nd st n, P x.fr
  | 0, _, x, h => by simp [dueL] at h
  | n + 1, hn, x, h => by
    simp only [dueL] at h
    split at h
    · rcases List.mem_append.1 h with h | h
      · exact dueL_fro hp (by omega) x h
      · exact dueC_fro (fun e he => hp _ (nbT_lt (by omega) he)) x h
    · exact dueL_fro hp (by omega) x h
theorem dueC_num {W H : Nat} {o : Nat → Int} {nd st : Int} {i : Nat} : ∀ {d}, ∀ x ∈ dueC W H o nd st i d, x.st = st ∧ x.to = nd ∧ x.ce = i ∧ 0 ≤ x.di ∧ x.di < d ∧ x.co = 0
  | 0, x, h => by simp [dueC] at h
  | d + 1, x, h => by
    have up : ∀ x ∈ dueC W H o nd st i d, x.st = st ∧ x.to = nd ∧ x.ce = i ∧ 0 ≤ x.di ∧ x.di < (d + 1 : Nat) ∧ x.co = 0 := fun x h => by
      obtain ⟨a1, a2, a3, a4, a5, a6⟩ := dueC_num x h
      exact ⟨a1, a2, a3, a4, by omega, a6⟩
    simp only [dueC] at h
    split at h
    · exact up x h
    · rcases List.mem_append.1 h with h | h
      · exact up x h
      · rw [List.mem_singleton] at h; subst h; exact ⟨rfl, rfl, rfl, by simp, (by show (d : Int) < ((d + 1 : Nat) : Int); omega), rfl⟩
theorem dueL_num {W H : Nat} {o : Nat → Int} {nd st : Int} : ∀ {n}, ∀ x ∈ dueL W H o nd st n, x.st = st ∧ x.to = nd ∧ 0 ≤ x.ce ∧ x.ce < n ∧ 0 ≤ x.di ∧ x.di < 4 ∧ x.co = 0
  | 0, x, h => by simp [dueL] at h
  | n + 1, x, h => by
    have up : ∀ x ∈ dueL W H o nd st n, x.st = st ∧ x.to = nd ∧ 0 ≤ x.ce ∧ x.ce < (n + 1 : Nat) ∧ 0 ≤ x.di ∧ x.di < 4 ∧ x.co = 0 := fun x h => by
      obtain ⟨a1, a2, a3, a4, a5⟩ := dueL_num x h
      exact ⟨a1, a2, a3, by omega, a5⟩
    simp only [dueL] at h
    split at h
    · rcases List.mem_append.1 h with h | h
      · exact up x h
      · obtain ⟨a1, a2, a3, a4, a5, a6⟩ := dueC_num x h
        exact ⟨a1, a2, by omega, by omega, a4, by omega, a6⟩
    · exact up x h
/-- every note due to a site that is right has numbers of 64 bits -/
theorem due_wf {wide high : Int} {n no : Nat} {g : Nat → C4} {o : Nat → Int} {s : SiteR} (hv : validM wide high n g no o = true) (hh : hasB o no s.nd = true) (hb : siteB o no s = true) :
    ∀ x, x ∈ dueL wide.toNat high.toNat o s.nd s.st no → wfN x := by
  intro x hx
  obtain ⟨Wd, Hd, rfl, rfl, p1, p2, u1, u2, hnn, hn4, hoo, hob, _, _⟩ := validM_sides hv
  simp only [Int.toNat_natCast] at hx
  obtain ⟨a1, a2, a3, a4, a5, a6, a7⟩ := dueL_num x hx
  have hf := dueL_fro (P := fun x => 0 ≤ x ∧ x ≤ 7) (fun k hk => hob k (by omega)) (show no ≤ Wd * Hd by omega) x hx
  obtain ⟨k, hk, e⟩ := hasB_iff.1 hh
  have hn7 := hob k (by omega)
  rw [e] at hn7
  obtain ⟨hw, _⟩ := siteB_iff.1 hb
  have hw' : 0 ≤ s.st ∧ s.st ≤ 1000000 := by simpa [within] using hw
  intro j hj
  apply WalkArith.wf_i64
  rcases (by omega : j = 0 ∨ j = 1 ∨ j = 2 ∨ j = 3 ∨ j = 4 ∨ j = 5) with rfl | rfl | rfl | rfl | rfl | rfl <;> simp only [N6.get] <;> omega
end Go.Proofs.YtmmjaobpoiofdaaGreat
namespace Go.Proofs.YtmmjaobpoiofdaaGreat
open Go Go.RowKit Go.Sort
set_option linter.unusedVariables false
/-- which of the first k numbers stand in a list -/
def presL (l : List Int) : Nat → List Int
  | 0 => []
  | k + 1 => if (k : Int) ∈ l then presL l k ++ [(k : Int)] else presL l k
theorem presL_mem {l : List Int} {x : Int} : ∀ {k}, x ∈ presL l k ↔ ∃ j : Nat, j < k ∧ x = j ∧ (j : Int) ∈ l
  | 0 => by simp [presL]
  | k + 1 => by
    simp only [presL]
    split
    · rename_i h
      rw [List.mem_append, presL_mem, List.mem_singleton]
      constructor
      · rintro (⟨j, h1, h2, h3⟩ | rfl)
        · exact ⟨j, by omega, h2, h3⟩
        · exact ⟨k, by omega, rfl, h⟩
      · rintro ⟨j, h1, h2, h3⟩
        by_cases e : j = k
        · subst e; exact .inr h2
        · exact .inl ⟨j, by omega, h2, h3⟩
    · rename_i h
      rw [presL_mem]
      constructor
      · rintro ⟨j, h1, h2, h3⟩
        exact ⟨j, by omega, h2, h3⟩
      · rintro ⟨j, h1, h2, h3⟩
        by_cases e : j = k
        · subst e; exact absurd h3 h
        · exact ⟨j, by omega, h2, h3⟩
theorem presL_sorted (l : List Int) : ∀ k, (presL l k).Pairwise (· < ·)
  | 0 => by simp [presL]
  | k + 1 => by
    simp only [presL]
    split
    · rw [List.pairwise_append]
      refine ⟨presL_sorted l k, by simp, fun x hx y hy => ?_⟩
      obtain ⟨j, h1, h2, _⟩ := presL_mem.1 hx
      rw [List.mem_singleton] at hy
      omega
    · exact presL_sorted l k
theorem presL_length (l : List Int) : ∀ k, (presL l k).length ≤ k
  | 0 => by simp [presL]
  | k + 1 => by have := presL_length l k; simp only [presL]; split <;> simp <;> omega
theorem pres_of {l zs : List Int} (hl : ∀ x ∈ l, 0 ≤ x ∧ x ≤ 7) (hp : zs.Perm l) (hs : zs.Pairwise (· ≤ ·)) : Lib.compact zs = presL l 8 := by
  have hd : ∀ i j, i ≤ j → j < zs.toArray.size → zs.toArray[i]! ≤ zs.toArray[j]! := fun i j hij hj => by
    simp at hj
    rw [getElem!_pos _ i (by simp; omega), getElem!_pos _ j (by simp; omega)]
    rcases Nat.lt_or_ge i j with h | h
    · exact List.pairwise_iff_getElem.1 hs i j (by omega) hj h
    · obtain rfl : i = j := by omega
      exact Int.le_refl _
  obtain ⟨h1, h2⟩ := compactUpTo_sorted hd zs.length (by simp)
  refine sorted_ext h1 (presL_sorted l 8) fun x => ?_
  rw [presL_mem]
  unfold Lib.compact at *
  rw [h2]
  constructor
  · rintro ⟨j, hj, rfl⟩
    rw [getElem!_pos _ j (by simpa using hj)]
    have hm : zs.toArray[j] ∈ l := hp.mem_iff.1 (by simp)
    have := hl _ hm
    exact ⟨(zs.toArray[j]).toNat, by omega, by omega, by rw [Int.toNat_of_nonneg this.1]; exact hm⟩
  · rintro ⟨j, hj, rfl, hne⟩
    obtain ⟨i, hi, e⟩ := List.getElem_of_mem (hp.mem_iff.2 hne)
    exact ⟨i, hi, by rw [getElem!_pos _ i (by simpa using hi)]; simpa using e.symm⟩
/-- slices.Sort of an own row of ints -/
theorem own_Sort {w : World} {base : Nat} {v : Value} {xs : List Int} (h : w.ownsRow base 3 1 v xs.length (xs.map vInt)) (hl : xs.length ≤ 1000000) :
    Calls Tryz.prog 107 #[v] w fun e w' => e = .returned (.tuple #[]) ∧ (∃ ys : List Int, ys.length = xs.length ∧ ys.Perm xs ∧ ys.Pairwise (· ≤ ·) ∧ w'.ownsRow base 3 1 v ys.length (ys.map vInt)) ∧ ∀ w0 : World, w0.heap.size ≤ base → Below w0.heap.size w0 w → Below w0.heap.size w0 w' := by
  by_cases hn : v = .slice none 0 0
  · subst hn
    have hx : xs = [] := by
      rcases h.2 with ⟨_, h0⟩ | ⟨g, cap, cur, e, _⟩
      · exact List.eq_nil_of_length_eq_zero h0
      · injection e with e; cases e
    subst hx
    refine (Tryz.slices_Sort_int_none none 0 w).mono ?_
    rintro e w' ⟨rfl, rfl⟩
    exact ⟨rfl, ⟨[], rfl, .nil, .nil, h⟩, fun _ _ hb => hb⟩
  · obtain ⟨g, cap, rfl, hg1, hg2, hcap, hcm, _, hH1⟩ := Lib.holds_of_ownsRow (enc := Value.int .i64) (zs := xs) h hn
    refine (Tryz.slices_Sort_int g 0 cap xs w hH1 hg2 (by omega)).mono ?_
    rintro e w' ⟨rfl, q, os, rfl⟩
    have hyl : (xs.mergeSort fun x y => decide (x ≤ y)).length = xs.length := List.length_mergeSort _
    refine ⟨rfl, ⟨_, hyl, List.mergeSort_perm _ _, sort_pairwise _, ?_⟩, fun w0 hB hb => ?_⟩
    · have h2 := Lib.ownsRow_putRow (enc := Value.int .i64) (q := q) (k := xs.length) h hyl (Nat.le_refl _)
      rw [List.take_of_length_le (by rw [hyl]; exact Nat.le_refl _)] at h2
      rw [hyl]
      exact own_below h2 (below_grow _ os)
    · have h2 := Lib.below_putRow (enc := Value.int .i64) (q := q) (d := (xs.mergeSort fun x y => decide (x ≤ y)).toArray) hb (show w0.heap.size ≤ g by omega)
      exact h2.trans ((below_grow _ os).mono h2.size)
/-- slices.Compact of an own row of ints -/
theorem own_Compact {w : World} {base : Nat} {v : Value} {xs : List Int} (h : w.ownsRow base 3 1 v xs.length (xs.map vInt)) (hl : xs.length ≤ 1000000) :
    Calls Tryz.prog 108 #[v] w fun e w' => ∃ v', e = .returned v' ∧ w'.ownsRow base 3 1 v' (Lib.compact xs).length ((Lib.compact xs).map vInt) ∧ ∀ w0 : World, w0.heap.size ≤ base → Below w0.heap.size w0 w → Below w0.heap.size w0 w' := by
  by_cases hn : v = .slice none 0 0
  · subst hn
    have hx : xs = [] := by
      rcases h.2 with ⟨_, h0⟩ | ⟨g, cap, cur, e, _⟩
      · exact List.eq_nil_of_length_eq_zero h0
      · injection e with e; cases e
    subst hx
    refine (Tryz.slices_Compact_int_empty none 0 w).mono ?_
    rintro e w' ⟨rfl, rfl⟩
    exact ⟨_, rfl, h, fun _ _ hb => hb⟩
  · obtain ⟨g, cap, rfl, hg1, hg2, hcap, hcm, _, hH1⟩ := Lib.holds_of_ownsRow (enc := Value.int .i64) (zs := xs) h hn
    refine (Tryz.slices_Compact_int g 0 cap xs w hH1 (by omega) hcap).mono ?_
    rintro e w' ⟨rfl, q, rfl⟩
    have hcl := Lib.compact_length_le xs
    refine ⟨_, rfl, ?_, fun w0 hB hb => Lib.below_putRow hb (by omega)⟩
    have h2 := Lib.ownsRow_putRow (enc := Value.int .i64) (q := q) (k := (Lib.compact xs).length) (ys := Lib.compact xs ++ List.replicate (xs.length - (Lib.compact xs).length) 0) h (by simp; omega) hcl
    rw [List.take_left] at h2
    exact h2
def froL (l : List N6) : List Int := l.map N6.fr
theorem froL_snoc (l : List N6) (x : N6) : froL (l ++ [x]) = froL l ++ [x.fr] := by simp [froL]
theorem froL_length (l : List N6) : (froL l).length = l.length := by simp [froL]
theorem take_getN {l : List N6} {k : Nat} (h : k < l.length) : l.take (k + 1) = l.take k ++ [l.getD k N6.zero] := by
  rw [List.take_succ_eq_append_getElem h, List.getD_eq_getElem?_getD, List.getElem?_eq_getElem h]; rfl
/-- what Neighbours gives -/
def neighL (wide high : Int) (no : Nat) (o : Nat → Int) (nd er : Int) : List Int := if er = 0 then presL (froL (dueL wide.toNat high.toNat o nd 1 no)) 8 else []
theorem within_one : within 1 1 1000000 = true := by decide
end Go.Proofs.YtmmjaobpoiofdaaGreat
namespace Go.Proofs.YtmmjaobpoiofdaaGreat
open Go Go.RowKit
set_option linter.unusedVariables false
/-- does the number stand among the first j senders? -/
def inFro (L : List N6) (k : Int) (j : Nat) : Bool := (froL (L.take j)).contains k
theorem inFro_zero (L : List N6) (k : Int) : inFro L k 0 = false := by simp [inFro, froL]
theorem inFro_succ {L : List N6} {k : Int} {j : Nat} (h : j < L.length) : inFro L k (j + 1) = (inFro L k j || ((L.getD j N6.zero).fr == k)) := by
  unfold inFro
  rw [take_getN h, froL_snoc, List.contains_append]
  congr 1
  by_cases e : (L.getD j N6.zero).fr = k
  · rw [e]; simp
  · have e' : ¬ k = (L.getD j N6.zero).fr := fun h => e h.symm
    rw [Bool.eq_iff_iff, List.contains_iff_mem, List.mem_singleton, beq_iff_eq]
    exact ⟨fun h => absurd h e', fun h => absurd h e⟩
theorem inFro_all {L : List N6} {k : Int} : inFro L k L.length = true ↔ k ∈ froL L := by
  unfold inFro; rw [List.take_length]; simp
end Go.Proofs.YtmmjaobpoiofdaaGreat
