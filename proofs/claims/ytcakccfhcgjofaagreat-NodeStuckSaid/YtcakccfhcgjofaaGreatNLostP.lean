/- Plain words and laws: which nodes are stuck, which notes are lost; where some nodes are stuck, some notes are lost. No program in sight but for a map of ints. Walks: Stuck, of the program and of the reference. -/
import Derived.Test.YtcakccfhcgjofaaGreatNMergeF
import Derived.Test.YtcakccfhcgjofaaGreatNSortP
import Derived.Test.YtcakccfhcgjofaaGreatSeq
namespace Go.Proofs.YtcakccfhcgjofaaGreat
open Go Go.RowKit Go.Maps Go.ChangeMaps
set_option linter.unusedVariables false
/-- the nodes that have gone fewer steps, of the first k sites -/
def stkL (F : Nat → SiteR) (n : Int) : Nat → List Int | 0 => [] | k + 1 => if (F k).st < n then stkL F n k ++ [(F k).nd] else stkL F n k
/-- is one of them ready? -/
def stkF (R : SiteR → Bool) (F : Nat → SiteR) (n : Int) : Nat → Bool | 0 => false | k + 1 => stkF R F n k || (decide ((F k).st < n) && R (F k))
theorem stkF_iff {R : SiteR → Bool} {F : Nat → SiteR} {n : Int} : ∀ {k}, stkF R F n k = true ↔ ∃ j, j < k ∧ (F j).st < n ∧ R (F j) = true
  | 0 => by simp [stkF]
  | k + 1 => by
    simp only [stkF, Bool.or_eq_true, Bool.and_eq_true, decide_eq_true_iff, stkF_iff]
    constructor
    · rintro (⟨j, h1, h2⟩ | h)
      · exact ⟨j, by omega, h2⟩
      · exact ⟨k, by omega, h⟩
    · rintro ⟨j, h1, h2⟩
      by_cases e : j = k
      · subst e; exact .inr h2
      · exact .inl ⟨j, by omega, h2⟩
theorem stkL_nil {F : Nat → SiteR} {n : Int} : ∀ {k}, stkL F n k = [] ↔ ∀ j, j < k → ¬ (F j).st < n
  | 0 => by simp [stkL]
  | k + 1 => by
    simp only [stkL]
    split
    · rename_i h
      constructor
      · intro h2; simp at h2
      · intro h2; exact absurd h (h2 k (by omega))
    · rename_i h
      rw [stkL_nil]
      constructor
      · intro h2 j hj
        by_cases e : j = k
        · subst e; exact h
        · exact h2 j (by omega)
      · intro h2 j hj; exact h2 j (by omega)
theorem stkL_len (F : Nat → SiteR) (n : Int) : ∀ k, (stkL F n k).length ≤ k
  | 0 => by simp [stkL]
  | k + 1 => by
    have := stkL_len F n k
    simp only [stkL]
    split
    · simp; omega
    · omega
def stuE (wh rg : Bool) (L : List Int) (fr : Bool) : Int := if wh = false then 1 else if rg = false then 7 else if L = [] then 8 else if fr = true then 10 else 0
def stuL (wh rg : Bool) (L : List Int) (fr : Bool) : List Int := if wh = false then [] else if rg = false then [] else if L = [] then [] else if fr = true then [] else L
/-- the greatest number of steps -/
def farO (F : Nat → SiteR) : Nat → Int | 0 => 0 | k + 1 => max (farO F k) (F k).st
theorem farO_nonneg (F : Nat → SiteR) : ∀ k, 0 ≤ farO F k
  | 0 => Int.le_refl _
  | k + 1 => by have := farO_nonneg F k; simp only [farO]; omega
theorem farO_ge {F : Nat → SiteR} : ∀ {k j}, j < k → (F j).st ≤ farO F k
  | 0, _, h => by omega
  | k + 1, j, h => by
    simp only [farO]
    by_cases e : j = k
    · subst e; omega
    · have := farO_ge (F := F) (show j < k by omega); omega
theorem farO_le {F : Nat → SiteR} {b : Int} (h0 : 0 ≤ b) : ∀ {k}, (∀ j, j < k → (F j).st ≤ b) → farO F k ≤ b
  | 0, _ => h0
  | k + 1, h => by
    have h1 := farO_le h0 (k := k) fun j hj => h j (by omega)
    have h2 := h k (by omega)
    simp only [farO]; omega
/-- how many steps a node has gone; 0 where there is none -/
def gonV (F : Nat → SiteR) : Nat → Int → Int | 0, _ => 0 | k + 1, nd => if (F k).nd = nd then (F k).st else gonV F k nd
/-- no node stands twice -/
def distN (F : Nat → SiteR) (m : Nat) : Prop := ∀ i j, i < j → j < m → (F i).nd ≠ (F j).nd
theorem gonV_at {F : Nat → SiteR} : ∀ {m}, distN F m → ∀ {k}, k < m → gonV F m (F k).nd = (F k).st
  | 0, _, k, h => by omega
  | m + 1, hd, k, h => by
    simp only [gonV]
    by_cases e : k = m
    · subst e; rw [if_pos rfl]
    · rw [if_neg (fun h' => hd k m (by omega) (by omega) h'.symm)]
      exact gonV_at (fun i j h1 h2 => hd i j h1 (by omega)) (by omega)
theorem gonV_none {F : Nat → SiteR} {nd : Int} : ∀ {m}, (∀ k, k < m → (F k).nd ≠ nd) → gonV F m nd = 0
  | 0, _ => rfl
  | m + 1, h => by
    simp only [gonV, if_neg (h m (by omega))]
    exact gonV_none fun k hk => h k (by omega)
theorem dist_sites {o : Nat → Int} {no m : Nat} {F : Nat → SiteR} (hs : sitesB o no m F = true) : distN F m := by
  obtain ⟨h1, h2, _⟩ := sitesB_iff.1 hs
  intro i j hij hj
  rw [h2 i (by omega), h2 j hj]
  have hp := nodeL_sorted o no 8
  rw [List.pairwise_iff_getElem] at hp
  have := hp i j (by omega) (by omega) hij
  simp only [List.getD_eq_getElem?_getD]
  rw [List.getElem?_eq_getElem (by omega), List.getElem?_eq_getElem (by omega)]
  simp only [Option.getD_some]
  omega
section
variable (W H : Nat) (o : Nat → Int) (no q : Nat) (p : Nat → N6) (F : Nat → SiteR) (m : Nat)
/-- is a note that is due lost? -/
def lsB (st : Int) (x : N6) : Bool := decide (st ≤ gonV F m x.fr) && !metB p x q
/-- the lost ones of the first i that are due to a node for a step -/
def lsT (nd st : Int) (i : Nat) : List N6 := ((dueL W H o nd st no).take i).filter (lsB q p F m st)
def lsN (nd st : Int) : List N6 := (dueL W H o nd st no).filter (lsB q p F m st)
/-- .. for j steps from lo on -/
def lsS (nd lo : Int) : Nat → List N6 | 0 => [] | j + 1 => lsS nd lo j ++ lsN W H o no q p F m nd (lo + j)
def cntS (far st : Int) : Nat := (far + 1 - max 1 st).toNat
/-- .. to the first k sites -/
def lsK (far : Int) : Nat → List N6 | 0 => [] | k + 1 => lsK far k ++ lsS W H o no q p F m (F k).nd (max 1 (F k).st) (cntS far (F k).st)
end
theorem lsT_zero {W H : Nat} {o : Nat → Int} {no q : Nat} {p : Nat → N6} {F : Nat → SiteR} {m : Nat} {nd st : Int} : lsT W H o no q p F m nd st 0 = [] := rfl
theorem lsT_succ {W H : Nat} {o : Nat → Int} {no q : Nat} {p : Nat → N6} {F : Nat → SiteR} {m : Nat} {nd st : Int} {i : Nat} (h : i < (dueL W H o nd st no).length) :
    lsT W H o no q p F m nd st (i + 1) = if lsB q p F m st ((dueL W H o nd st no).getD i N6.zero) = true then lsT W H o no q p F m nd st i ++ [(dueL W H o nd st no).getD i N6.zero] else lsT W H o no q p F m nd st i := by
  unfold lsT
  rw [List.take_succ_eq_append_getElem h, List.filter_append, List.getD_eq_getElem?_getD, List.getElem?_eq_getElem h, Option.getD_some]
  split
  · rename_i h2; simp [h2]
  · rename_i h2; simp [h2]
theorem lsT_all {W H : Nat} {o : Nat → Int} {no q : Nat} {p : Nat → N6} {F : Nat → SiteR} {m : Nat} {nd st : Int} : lsT W H o no q p F m nd st (dueL W H o nd st no).length = lsN W H o no q p F m nd st := by
  unfold lsT lsN; rw [List.take_length]
theorem lsT_len {W H : Nat} {o : Nat → Int} {no q : Nat} {p : Nat → N6} {F : Nat → SiteR} {m : Nat} {nd st : Int} {i : Nat} : (lsT W H o no q p F m nd st i).length ≤ 4 * no := by
  have h1 := List.length_filter_le (lsB q p F m st) ((dueL W H o nd st no).take i)
  have h2 := List.length_take_le' i (dueL W H o nd st no)
  have h3 := dueL_length W H o nd st no
  unfold lsT; omega
theorem lsN_len {W H : Nat} {o : Nat → Int} {no q : Nat} {p : Nat → N6} {F : Nat → SiteR} {m : Nat} {nd st : Int} : (lsN W H o no q p F m nd st).length ≤ 4 * no := by
  rw [← lsT_all]; exact lsT_len
theorem lsS_len {W H : Nat} {o : Nat → Int} {no q : Nat} {p : Nat → N6} {F : Nat → SiteR} {m : Nat} {nd lo : Int} : ∀ j, (lsS W H o no q p F m nd lo j).length ≤ j * (4 * no)
  | 0 => by simp [lsS]
  | j + 1 => by
    have h1 := lsS_len (W := W) (H := H) (o := o) (no := no) (q := q) (p := p) (F := F) (m := m) (nd := nd) (lo := lo) j
    have h2 := lsN_len (W := W) (H := H) (o := o) (no := no) (q := q) (p := p) (F := F) (m := m) (nd := nd) (st := lo + j)
    simp only [lsS, List.length_append]
    rw [Nat.add_mul, Nat.one_mul]; omega
theorem lsK_len {W H : Nat} {o : Nat → Int} {no q : Nat} {p : Nat → N6} {F : Nat → SiteR} {m : Nat} {far : Int} {B : Nat} : ∀ k, (∀ j, j < k → cntS far (F j).st ≤ B) → (lsK W H o no q p F m far k).length ≤ k * (B * (4 * no))
  | 0, _ => by simp [lsK]
  | k + 1, h => by
    have h1 := lsK_len (W := W) (H := H) (o := o) (no := no) (q := q) (p := p) (F := F) (m := m) k fun j hj => h j (by omega)
    have h2 := lsS_len (W := W) (H := H) (o := o) (no := no) (q := q) (p := p) (F := F) (m := m) (nd := (F k).nd) (lo := max 1 (F k).st) (cntS far (F k).st)
    have h3 : cntS far (F k).st * (4 * no) ≤ B * (4 * no) := Nat.mul_le_mul_right _ (h k (by omega))
    simp only [lsK, List.length_append]
    rw [Nat.add_mul, Nat.one_mul]; omega
/-- the same notes for another step -/
def N6.at (x : N6) (st : Int) : N6 := ⟨st, x.fr, x.to, x.ce, x.di, x.co⟩
theorem dueC_at (W H : Nat) (o : Nat → Int) (nd st : Int) (i : Nat) : ∀ d, dueC W H o nd st i d = (dueC W H o nd 0 i d).map (N6.at · st)
  | 0 => rfl
  | d + 1 => by
    simp only [dueC]
    split
    · exact dueC_at W H o nd st i d
    · rw [List.map_append, ← dueC_at W H o nd st i d]; rfl
theorem dueL_at (W H : Nat) (o : Nat → Int) (nd st : Int) : ∀ n, dueL W H o nd st n = (dueL W H o nd 0 n).map (N6.at · st)
  | 0 => rfl
  | n + 1 => by
    simp only [dueL]
    split
    · rw [List.map_append, ← dueL_at W H o nd st n, ← dueC_at]
    · exact dueL_at W H o nd st n
theorem dueL_at_get {W H : Nat} {o : Nat → Int} {nd st : Int} {n i : Nat} (h : i < (dueL W H o nd 0 n).length) : (dueL W H o nd st n).getD i N6.zero = ((dueL W H o nd 0 n).getD i N6.zero).at st := by
  rw [dueL_at, List.getD_eq_getElem?_getD, List.getD_eq_getElem?_getD, List.getElem?_map, List.getElem?_eq_getElem h]; rfl
theorem dueL_at_len {W H : Nat} {o : Nat → Int} {nd st : Int} {n : Nat} : (dueL W H o nd st n).length = (dueL W H o nd 0 n).length := by rw [dueL_at]; simp
theorem lsS_none {W H : Nat} {o : Nat → Int} {no q : Nat} {p : Nat → N6} {F : Nat → SiteR} {m : Nat} {nd lo : Int} (h : dueL W H o nd 0 no = []) : ∀ j, lsS W H o no q p F m nd lo j = []
  | 0 => rfl
  | j + 1 => by
    simp only [lsS, lsS_none h j, List.nil_append, lsN]
    rw [dueL_at, h]; rfl
theorem lsS_mem {W H : Nat} {o : Nat → Int} {no q : Nat} {p : Nat → N6} {F : Nat → SiteR} {m : Nat} {nd lo : Int} {x : N6} : ∀ {j}, x ∈ lsS W H o no q p F m nd lo j ↔ ∃ i : Nat, i < j ∧ x ∈ dueL W H o nd (lo + i) no ∧ lsB q p F m (lo + i) x = true
  | 0 => by simp [lsS]
  | j + 1 => by
    simp only [lsS, List.mem_append, lsS_mem, lsN, List.mem_filter]
    constructor
    · rintro (⟨i, h1, h2⟩ | h)
      · exact ⟨i, by omega, h2⟩
      · exact ⟨j, by omega, h⟩
    · rintro ⟨i, h1, h2⟩
      by_cases e : i = j
      · subst e; exact .inr h2
      · exact .inl ⟨i, by omega, h2⟩
theorem lsK_mem {W H : Nat} {o : Nat → Int} {no q : Nat} {p : Nat → N6} {F : Nat → SiteR} {m : Nat} {far : Int} {x : N6} : ∀ {k}, x ∈ lsK W H o no q p F m far k ↔ ∃ j, j < k ∧ ∃ i : Nat, i < cntS far (F j).st ∧ x ∈ dueL W H o (F j).nd (max 1 (F j).st + i) no ∧ lsB q p F m (max 1 (F j).st + i) x = true
  | 0 => by simp [lsK]
  | k + 1 => by
    simp only [lsK, List.mem_append, lsK_mem, lsS_mem]
    constructor
    · rintro (⟨j, h1, h2⟩ | h)
      · exact ⟨j, by omega, h2⟩
      · exact ⟨k, by omega, h⟩
    · rintro ⟨j, h1, h2⟩
      by_cases e : j = k
      · subst e; exact .inr h2
      · exact .inl ⟨j, by omega, h2⟩
/-- P5.5: where all nodes that have gone fewer steps are stuck, notes are lost -/
theorem stuck_lost {W H : Nat} {o : Nat → Int} {no q : Nat} {p : Nat → N6} {F : Nat → SiteR} {m : Nat} {n : Int} (hno : no ≤ W * H) (hs : sitesB o no m F = true) (ho : ∀ k, k < W * H → ∃ j, j < m ∧ (F j).nd = o k) (hst : ∀ k, k < m → 0 ≤ (F k).st)
    (hL : stkL F n m ≠ []) (hF : stkF (fun s => readyB W H o no q p s.nd s.st) F n m = false) : lsK W H o no q p F m (farO F m) m ≠ [] := by
  have hd := dist_sites hs
  -- the one that has gone the fewest steps
  obtain ⟨j0, hj0, hlt0⟩ : ∃ j, j < m ∧ (F j).st < n := by
    refine Classical.byContradiction fun hc => hL (stkL_nil.2 fun j hj h => hc ⟨j, hj, h⟩)
  have hmin : ∀ b : Nat, ∀ j, j < m → (F j).st ≤ b → (F j).st < n → ∃ k, k < m ∧ (F k).st < n ∧ ∀ i, i < m → (F k).st ≤ (F i).st := by
    intro b
    induction b with
    | zero =>
      intro j hj hb hn
      refine ⟨j, hj, hn, fun i hi => ?_⟩
      have := hst i hi; omega
    | succ b ih =>
      intro j hj hb hn
      by_cases hc : ∃ i, i < m ∧ (F i).st < (F j).st
      · obtain ⟨i, hi, hlt⟩ := hc
        exact ih i hi (by omega) (by omega)
      · refine ⟨j, hj, hn, fun i hi => ?_⟩
        have : ¬ (F i).st < (F j).st := fun h => hc ⟨i, hi, h⟩
        omega
  obtain ⟨k, hk, hkn, hkm⟩ := hmin (F j0).st.toNat j0 hj0 (by omega) hlt0
  have hnr : readyB W H o no q p (F k).nd (F k).st = false := by
    rw [← Bool.not_eq_true]
    intro h
    have : stkF (fun s => readyB W H o no q p s.nd s.st) F n m = true := stkF_iff.2 ⟨k, hk, hkn, h⟩
    rw [hF] at this; cases this
  have h0 : ((F k).st == 0) = false := by
    rw [← Bool.not_eq_true]
    intro h
    unfold readyB at hnr
    rw [h] at hnr; cases hnr
  have h0' : (F k).st ≠ 0 := by simpa using h0
  have hk0 := hst k hk
  unfold readyB at hnr
  rw [h0, Bool.false_or] at hnr
  obtain ⟨x, hx, hxm⟩ : ∃ x, x ∈ dueL W H o (F k).nd (F k).st no ∧ metB p x q = false := by
    refine Classical.byContradiction fun hc => ?_
    have : (dueL W H o (F k).nd (F k).st no).all (fun y => metB p y q) = true := List.all_eq_true.2 fun y hy => by
      cases h : metB p y q
      · exact absurd ⟨y, hy, h⟩ hc
      · rfl
    rw [this] at hnr; cases hnr
  obtain ⟨j, hj, hjn⟩ := dueL_fro (P := fun v => ∃ j, j < m ∧ (F j).nd = v) (fun i hi => ho i hi) hno x hx
  have hgo : gonV F m x.fr = (F j).st := by rw [← hjn]; exact gonV_at hd hj
  have hmem : x ∈ lsK W H o no q p F m (farO F m) m := by
    refine lsK_mem.2 ⟨k, hk, 0, ?_, ?_, ?_⟩
    · have := farO_ge (F := F) hk
      unfold cntS; omega
    · rw [show max 1 (F k).st + ((0 : Nat) : Int) = (F k).st by omega]; exact hx
    · rw [show max 1 (F k).st + ((0 : Nat) : Int) = (F k).st by omega]
      unfold lsB
      rw [hgo, hxm, decide_eq_true (hkm j hj)]; rfl
  intro h
  rw [h] at hmem; cases hmem
/-! ### a map from nodes to steps -/
def GoM (w : World) (b n : Nat) (V : Int → Int) : Prop :=
  ∃ D : DataW Unit, w.ownsMap Tryz.prog 3 (plainElem Tryz.prog 3) b n D ∧ ∀ i : Int, (Lit.int .i64 i).wf = true → D.atKey (.int .i64 i) (.lit (.int .i64 0)) = .lit (.int .i64 (V i))
theorem gom_made (w : World) : GoM (w.alloc (.map #[] 0)) w.heap.size 0 (fun _ => 0) :=
  ⟨.map [], World.ownsMap_made w _ _ _, fun i _ => by simp [DataW.atKey]⟩
theorem gom_look {w : World} {b n : Nat} {V : Int → Int} (h : GoM w b n V) {i : Int} (hi : (Lit.int .i64 i).wf = true) :
    (Instr.lookup 77 (.map (some b)) (.int .i64 i) false).run Tryz.prog w = .ok (.int .i64 (V i)) w := by
  obtain ⟨D, ho, hat⟩ := h
  obtain ⟨v, ps, hrun, hv⟩ := ho.lookup keyedInt Tryz.underlying77 (z := .int .i64 0) (by kernel_rfl) (plainElem_int Tryz.underlying3 (by decide)) (keyOf_int_mk Tryz.underlying3 hi)
  obtain ⟨c, rfl, hc, _⟩ := plainElem_int_inv Tryz.underlying3 hv
  rw [hat i hi] at hc
  simp only [Prod.mk.injEq, DataW.lit.injEq, Lit.int.injEq, true_and] at hc
  rw [hrun, hc.1]
theorem gom_store {w : World} {b n : Nat} {V : Int → Int} (h : GoM w b n V) (hn : n < maxLen) {i : Int} (hi : (Lit.int .i64 i).wf = true) (c : Int) (hc : (Lit.int .i64 c).wf = true) :
    ∃ w', (Instr.mapUpdate 77 (.map (some b)) (.int .i64 i) (.int .i64 c)).run Tryz.prog w = .ok () w' ∧ GoM w' b (n + 1) (fun j => if i = j then c else V j) ∧ w.mapTurned w' b := by
  obtain ⟨D, ho, hat⟩ := h
  obtain ⟨w', hrun, ho', ht⟩ := ho.store keyedInt Tryz.underlying77 hn (keyOf_int_mk Tryz.underlying3 hi) (plainElem_int Tryz.underlying3 hc)
  refine ⟨w', hrun, ⟨_, ho', fun j hj => ?_⟩, ht⟩
  by_cases e : i = j
  · subst e
    rw [atKey_put_same ho.isMap (by trivial)]
    simp
  · rw [atKey_put_other (by intro h'; injection h' with _ h'; exact e h'.symm), hat j hj]
    simp [e]
theorem gom_below {w w' : World} {b n : Nat} {V : Int → Int} (h : GoM w b n V) (hb : Below w.heap.size w w') : GoM w' b n V := by
  obtain ⟨D, ⟨es, clock, h1, h2⟩, hat⟩ := h
  refine ⟨D, ⟨es, clock, ?_, h2⟩, hat⟩
  rw [hb.block b ?_]
  · exact h1
  · rcases Nat.lt_or_ge b w.heap.size with h' | h'
    · exact h'
    · rw [Array.getElem?_eq_none h'] at h1; cases h1
theorem gom_lt {w : World} {b n : Nat} {V : Int → Int} (h : GoM w b n V) : b < w.heap.size := by
  obtain ⟨D, ⟨es, clock, h1, h2⟩, hat⟩ := h
  exact (Array.getElem?_eq_some_iff.1 h1).1
end Go.Proofs.YtcakccfhcgjofaaGreat
namespace Go.Proofs.YtcakccfhcgjofaaGreat
open Go Go.RowKit
set_option linter.unusedVariables false
set_option linter.unusedSimpArgs false
theorem own_sl {w : World} {base : Nat} {v : Value} {xs : List Int} (h : w.ownsRow base 3 1 v xs.length (xs.map vInt)) : ∃ a c, v = .slice a xs.length c ∧ w.ownsRow base 3 1 (.slice a xs.length c) xs.length (xs.map vInt) := by
  obtain ⟨a, c, rfl, _⟩ := sl_of_own h
  exact ⟨a, c, rfl, h⟩
set_option maxRecDepth 100000 in
set_option maxHeartbeats 8000000 in
theorem node_Stuck (wide high : Int) (a ao al ap : Option Addr) (n no m q c co cl cp : Nat) (g : Nat → C4) (o : Nat → Int) (f : Nat → SiteR) (p : Nat → N6) (z : Int) (w : World) (hn : n ≤ 100000000) (hno : no ≤ 100000000) (hm : m ≤ 1000) (hq : q ≤ 100000000) (hb : ∀ k, k < m → (f k).ni ≤ 10000 ∧ (f k).nc ≤ 10000) (H : Sc w a n g) (HO : Sl w ao no o) (HS : Ss w al m f) (HP : Sn w ap q p) (HW : ∀ k, k < q → wfN (p k)) :
    Calls Tryz.prog 10 #[.agg #[.int .i64 wide, .int .i64 high, .slice a n c], .slice ao no co, .slice al m cl, .slice ap q cp, .int .i64 z] w
      (ListPost (stuL (wholeB wide high n g no o m f q p) (within z 0 1000000) (stkL f z m) (stkF (fun s => readyB wide.toNat high.toNat o no q p s.nd s.st) f z m)) (stuE (wholeB wide high n g no o m f q p) (within z 0 1000000) (stkL f z m) (stkF (fun s => readyB wide.toNat high.toNat o no q p s.nd s.st) f z m)) w) := by
  obtain ⟨i0, hi, hz0, hz1, hz2⟩ := info_parts infoI
  have hwh := fun W S SO SS SP => node_whole wide high a ao al ap n no m q c co cl cp g o f p W hn hno hm hq hb S SO SS SP HW
  have hCo := fun W SP => node_counts ap q cp p W hq SP HW
  have X0 := Bx.new w #[.int .i64 wide, .int .i64 high, .slice a n c] 24
  have hB0 : Below w.heap.size w (w.alloc (.cells #[.int .i64 wide, .int .i64 high, .slice a n c] 24)) := by (repeat' (first | with_reducible assumption | with_reducible exact Below.refl _ _ | with_reducible refine Below.drew ?_ | with_reducible refine below_drewN ?_ _ | with_reducible refine balloc ?_ _ | with_reducible refine bset ?_ ?_ _ | with_reducible refine Below.setCell ?_ ?_ _ | with_reducible refine Below.alloc ?_ ?_ _ | omega | (simp; done) | (simp; omega)))
  cases hV : wholeB wide high n g no o m f q p
  · rw [hV] at hwh
    clear hCo HW hb hV
    go_enter Tryz.func10, Tryz.ntmps10
    go_wp2_with fail
    generalize (w.alloc (.cells #[.int .i64 wide, .int .i64 high, .slice a n c] 24)) = W0 at X0 hB0 ⊢
    have z0 := X0.lt
    refine (hwh _ (H.below hB0) (HO.below hB0) (HS.below hB0) (HP.below hB0)).mono ?_
    rintro e w1 ⟨rfl, hb1⟩
    go_wp2
    go_ret2
    exact listPost_nil (bvia hB0 hb1)
  rw [hV] at hwh
  cases hR : within z 0 1000000
  · clear hCo HW hb hV
    go_enter Tryz.func10, Tryz.ntmps10
    go_wp2_with fail
    generalize (w.alloc (.cells #[.int .i64 wide, .int .i64 high, .slice a n c] 24)) = W0 at X0 hB0 ⊢
    have z0 := X0.lt
    refine (hwh _ (H.below hB0) (HO.below hB0) (HS.below hB0) (HP.below hB0)).mono ?_
    rintro e w1 ⟨rfl, hb1⟩
    go_wp2_with (go_at_call 32; refine (node_within _ _ _ _).mono ?_; rintro e w' ⟨rfl, rfl⟩; rw [hR])
    go_ret2
    exact listPost_nil (bvia hB0 hb1)
  obtain ⟨hv, hsb, hpb⟩ := wholeB_iff.1 hV
  have hdw := fun k (hk : k < m) => due_wf hv (sites_has hsb hk) ((sitesB_iff.1 hsb).2.2.1 k hk)
  obtain ⟨Wd, Hd, rfl, rfl, p1, p2, u1, u2, hnn, hn4, hoo, hob, _, _⟩ := validM_sides hv
  simp only [Int.toNat_natCast] at *
  have hrd := fun k (hk : k < m) b W SO SM => node_ready Wd Hd a ao n c no co o (f k).nd (f k).st (f k).ix (f k).cl (f k).ni (f k).ci (f k).nc (f k).cc b q (fun y => metB p y q) (fun y => cntV p y q) W ⟨p1, p2⟩ ⟨u1, u2⟩ (by omega) SO SM (hdw k hk)
  have HRD := hid hrd
  clear hrd hdw hv hsb hpb hoo hob hnn hV HW hb
  obtain ⟨R, hRR⟩ : ∃ R : SiteR → Bool, (fun s => readyB Wd Hd o no q p s.nd s.st) = R := ⟨_, rfl⟩
  rw [hRR]
  have hRe : ∀ s : SiteR, R s = (s.st == 0 || (dueL Wd Hd o s.nd s.st no).all fun y => metB p y q) := fun s => by rw [← hRR]; rfl
  have HRE := hid hRe
  clear hRR hRe
  have hfi := fun j (hj : j < m) (h1 : (f j).st < z) (h2 : R (f j) = true) => (show stkF R f z m = true ∧ stkL f z m ≠ [] from ⟨stkF_iff.2 ⟨j, hj, h1, h2⟩, fun h => stkL_nil.1 h j hj h1⟩)
  have HFI := hid hfi
  clear hfi
  have X0 := Bx.new w #[.int .i64 (Wd : Int), .int .i64 (Hd : Int), .slice a n c] 24
  have hB0 : Below w.heap.size w (w.alloc (.cells #[.int .i64 (Wd : Int), .int .i64 (Hd : Int), .slice a n c] 24)) := by (repeat' (first | with_reducible assumption | with_reducible exact Below.refl _ _ | with_reducible refine Below.drew ?_ | with_reducible refine below_drewN ?_ _ | with_reducible refine balloc ?_ _ | with_reducible refine bset ?_ ?_ _ | with_reducible refine Below.setCell ?_ ?_ _ | with_reducible refine Below.alloc ?_ ?_ _ | omega | (simp; done) | (simp; omega)))
  go_enter Tryz.func10, Tryz.ntmps10
  go_wp2_with fail
  generalize (w.alloc (.cells #[.int .i64 (Wd : Int), .int .i64 (Hd : Int), .slice a n c] 24)) = W0 at X0 hB0 ⊢
  have z0 := X0.lt
  refine (hwh _ (H.below hB0) (HO.below hB0) (HS.below hB0) (HP.below hB0)).mono ?_
  rintro e w1 ⟨rfl, hb1⟩
  replace X0 := X0.below hb1
  have hB := bvia hB0 hb1
  clear hB0 hwh hb1
  go_wp2_with (first | (go_at_call 32; refine (node_within _ _ _ _).mono ?_; rintro e w' ⟨rfl, rfl⟩; rw [hR]) | (go_at_call 33; refine (hCo _ (HP.below hB)).mono ?_; rintro e w3 ⟨b, rfl, hM, hb3⟩))
  have X1 := X0.below hb3
  have hB3 := bvia hB hb3
  have hz3 := hB3.size
  clear hCo hb3 X0 hB hR
  go_loopw [12, 31] (fun v i wr => ∃ k : Nat, k ≤ m ∧ i = .int .i64 k ∧ stkF R f z k = false ∧ wr.ownsRow w3.heap.size 3 1 v (stkL f z k).length ((stkL f z k).map vInt) ∧ Below w3.heap.size w3 wr) (fun _ i _ => m - (intOf i).toNat)
  case atStart => exact ⟨0, Nat.zero_le _, rfl, rfl, World.ownsRow_nil .., Below.refl _ _⟩
  case round =>
    obtain ⟨k, hk, rfl, hno, hown, hC⟩ := hrel
    have hB2 := bvia hB3 hC
    have Z1 := X1.below hC
    have M2 := pcm_below hM hC
    have HNO := hid hno; clear hno
    by_cases hlt : k < m
    · obtain ⟨bs2, os2, rfl, hbs2, d0, d1, d2, d3, hli⟩ := (HS.below hB2) k hlt
      have hrd := HRD.out k hlt b
      rw [← HRE.out (f k)] at hrd
      have hfi := HFI.out k hlt
      have hs1 : stkL f z (k + 1) = if (f k).st < z then stkL f z k ++ [(f k).nd] else stkL f z k := rfl
      have hs2 : stkF R f z (k + 1) = (stkF R f z k || (decide ((f k).st < z) && R (f k))) := rfl
      rw [HNO.out, Bool.false_or] at hs2
      have hlen := stkL_len f z k
      have HFI2 := hid hfi; have HS1 := hid hs1; have HS2 := hid hs2
      clear hfi hs1 hs2
      generalize R (f k) = r at *
      generalize f k = s at *
      have B5 : Below w.heap.size w (wr.alloc (.cells #[.int .i64 s.nd, .int .i64 s.st, .slice s.ix s.ni s.ci, .slice s.cl s.nc s.cc] 45)) := balloc hB2 _
      have C5 : Below w3.heap.size w3 (wr.alloc (.cells #[.int .i64 s.nd, .int .i64 s.st, .slice s.ix s.ni s.ci, .slice s.cl s.nc s.cc] 45)) := balloc hC _
      have hown5 := hown.alloc (.cells #[.int .i64 s.nd, .int .i64 s.st, .slice s.ix s.ni s.ci, .slice s.cl s.nc s.cc] 45)
      by_cases hlt2 : s.st < z
      · have hdl : decide (z ≤ s.st) = false := by simpa using hlt2
        have hrd2 := hrd _ (HO.below B5) (pcm_below M2 (below_alloc _ _))
        have Xs := Bx.new wr #[.int .i64 s.nd, .int .i64 s.st, .slice s.ix s.ni s.ci, .slice s.cl s.nc s.cc] 45
        have Zx := Z1.alloc (.cells #[.int .i64 s.nd, .int .i64 s.st, .slice s.ix s.ni s.ci, .slice s.cl s.nc s.cc] 45)
        have zc0 := Zx.at_ 0 rfl; have zc1 := Zx.at_ 1 rfl; have zc2 := Zx.at_ 2 rfl; have zl := Z1.lt
        clear hrd Zx
        go_wp2_with fail
        refine hrd2.mono ?_
        rintro e w5 ⟨rfl, hb5⟩
        have B6 := bvia B5 hb5
        have C6 := bvia C5 hb5
        have hown6 := own_below hown5 hb5
        have Xs6 := Xs.below hb5
        have y0 := Xs6.at_ 0 rfl; have ly := Xs6.lt
        have hsz := C6.size
        clear hrd2 zc0 zc1 zc2 zl hb5 B5 C5 hown5 hown Xs
        cases r
        · go_wp2_with (at_builtin; refine wpList_append_own _ rfl _ _ 25 rfl (w3.heap.size) 3 i0 (.int .i64 0) 1 8 Tryz.underlying25 hi hz0 hz1 hz2 rfl (by decide) _ _ _ rfl ((hown6).alloc _) ⟨w5.heap.size, 0, none⟩ 1 1 [.int .i64 (s.nd)] rfl rfl (cell_one_new _ _ _) (by simp [Value.oneCell']) (by simp [maxLen]; omega) (by omega) (by simp; omega) ?_; intro v' w9 hown' hgrow _)
          go_roundw
          case rel => exact ⟨k + 1, by omega, by go_num, by rw [HS2.out]; simp, by rw [HS1.out, if_pos hlt2]; exact own_snoc hown', (balloc C6 _).grown hgrow (by simp; omega) (own_base hown6)⟩
          case measure => simp [intOf]; omega
        · obtain ⟨h1, h2⟩ := HFI2.out hlt2 rfl
          have H1 := hid h1; have H2 := hid h2
          clear h1 h2
          go_wp2
          go_ret2
          unfold stuL stuE
          rw [H1.out]
          simp only [if_neg H2.out]
          exact listPost_nil B6
      · have hdl : decide (z ≤ s.st) = true := by simpa using hlt2
        clear hrd
        go_wp2_with fail
        go_roundw
        case rel => exact ⟨k + 1, by omega, by go_num, by rw [HS2.out]; simp [hlt2], by rw [HS1.out, if_neg hlt2]; exact hown5, C5⟩
        case measure => simp [intOf]; omega
    · obtain rfl : k = m := (by omega)
      have hno := HNO.out
      generalize stkL f z k = L at *
      obtain ⟨av, cv, rfl, hown'⟩ := own_sl hown
      by_cases hL : L = []
      · subst hL
        go_wp2
        go_ret2
        unfold stuL stuE
        simp only [if_true]
        exact listPost_nil hB2
      · have hl0 : ((L.length : Int) == 0) = false := by
          have : L.length ≠ 0 := fun h => hL (List.length_eq_zero_iff.1 h)
          simpa using this
        go_wp2
        go_ret2
        unfold stuL stuE
        rw [HNO.out]
        simp only [if_neg hL]
        exact listPost_own hown' hB2
set_option maxRecDepth 100000 in
set_option maxHeartbeats 8000000 in
theorem ref5_Stuck (wide high : Int) (a ao al ap : Option Addr) (n no m q c co cl cp : Nat) (g : Nat → C4) (o : Nat → Int) (f : Nat → SiteR) (p : Nat → N6) (z : Int) (w : World) (hn : n ≤ 100000000) (hno : no ≤ 100000000) (hm : m ≤ 1000) (hq : q ≤ 100000000) (hb : ∀ k, k < m → (f k).ni ≤ 10000 ∧ (f k).nc ≤ 10000) (H : Sc w a n g) (HO : Sl w ao no o) (HS : Ss w al m f) (HP : Sn w ap q p) (HW : ∀ k, k < q → wfN (p k)) :
    Calls Tryz.prog 11 #[.agg #[.int .i64 wide, .int .i64 high, .slice a n c], .slice ao no co, .slice al m cl, .slice ap q cp, .int .i64 z] w
      (ListPost (stuL (wholeB wide high n g no o m f q p) (within z 0 1000000) (stkL f z m) (stkF (fun s => readyB wide.toNat high.toNat o no q p s.nd s.st) f z m)) (stuE (wholeB wide high n g no o m f q p) (within z 0 1000000) (stkL f z m) (stkF (fun s => readyB wide.toNat high.toNat o no q p s.nd s.st) f z m)) w) := by
  obtain ⟨i0, hi, hz0, hz1, hz2⟩ := info_parts infoI
  have hwh := fun W S SO SS SP => ref5_stateError wide high a ao al ap n no m q c co cl cp g o f p W hn hno hm hq hb S SO SS SP HW
  have X0 := Bx.new w #[.int .i64 wide, .int .i64 high, .slice a n c] 24
  have hB0 : Below w.heap.size w (w.alloc (.cells #[.int .i64 wide, .int .i64 high, .slice a n c] 24)) := by (repeat' (first | with_reducible assumption | with_reducible exact Below.refl _ _ | with_reducible refine Below.drew ?_ | with_reducible refine below_drewN ?_ _ | with_reducible refine balloc ?_ _ | with_reducible refine bset ?_ ?_ _ | with_reducible refine Below.setCell ?_ ?_ _ | with_reducible refine Below.alloc ?_ ?_ _ | omega | (simp; done) | (simp; omega)))
  cases hV : wholeB wide high n g no o m f q p
  · rw [hV] at hwh
    clear HW hb hV
    go_enter Tryz.func11, Tryz.ntmps11
    go_wp2_with fail
    generalize (w.alloc (.cells #[.int .i64 wide, .int .i64 high, .slice a n c] 24)) = W0 at X0 hB0 ⊢
    have z0 := X0.lt
    refine (hwh _ (H.below hB0) (HO.below hB0) (HS.below hB0) (HP.below hB0)).mono ?_
    rintro e w1 ⟨rfl, hb1⟩
    go_wp2
    go_ret2
    exact listPost_nil (bvia hB0 hb1)
  rw [hV] at hwh
  cases hR : within z 0 1000000
  · clear HW hb hV
    go_enter Tryz.func11, Tryz.ntmps11
    go_wp2_with fail
    generalize (w.alloc (.cells #[.int .i64 wide, .int .i64 high, .slice a n c] 24)) = W0 at X0 hB0 ⊢
    have z0 := X0.lt
    refine (hwh _ (H.below hB0) (HO.below hB0) (HS.below hB0) (HP.below hB0)).mono ?_
    rintro e w1 ⟨rfl, hb1⟩
    go_wp2_with (go_at_call 36; refine (ref5_within _ _ _ _).mono ?_; rintro e w' ⟨rfl, rfl⟩; rw [hR])
    go_ret2
    exact listPost_nil (bvia hB0 hb1)
  obtain ⟨hv, hsb, hpb⟩ := wholeB_iff.1 hV
  obtain ⟨Wd, Hd, rfl, rfl, p1, p2, u1, u2, hnn, hn4, hoo, hob, _, _⟩ := validM_sides hv
  simp only [Int.toNat_natCast] at *
  have hrd := fun k (hk : k < m) W SO SP => ref5_ready Wd Hd a ao ap n no q c co cp o p (f k).nd (f k).st (f k).ix (f k).cl (f k).ni (f k).ci (f k).nc (f k).cc W ⟨p1, p2⟩ ⟨u1, u2⟩ (by omega) hq SO SP
  have HRD := hid hrd
  clear hrd hv hsb hpb hoo hob hnn hV HW hb
  obtain ⟨R, hRR⟩ : ∃ R : SiteR → Bool, (fun s => readyB Wd Hd o no q p s.nd s.st) = R := ⟨_, rfl⟩
  rw [hRR]
  have hRe : ∀ s : SiteR, R s = readyB Wd Hd o no q p s.nd s.st := fun s => by rw [← hRR]
  have HRE := hid hRe
  clear hRR hRe
  have X0 := Bx.new w #[.int .i64 (Wd : Int), .int .i64 (Hd : Int), .slice a n c] 24
  have hB0 : Below w.heap.size w (w.alloc (.cells #[.int .i64 (Wd : Int), .int .i64 (Hd : Int), .slice a n c] 24)) := by (repeat' (first | with_reducible assumption | with_reducible exact Below.refl _ _ | with_reducible refine Below.drew ?_ | with_reducible refine below_drewN ?_ _ | with_reducible refine balloc ?_ _ | with_reducible refine bset ?_ ?_ _ | with_reducible refine Below.setCell ?_ ?_ _ | with_reducible refine Below.alloc ?_ ?_ _ | omega | (simp; done) | (simp; omega)))
  go_enter Tryz.func11, Tryz.ntmps11
  go_wp2_with fail
  generalize (w.alloc (.cells #[.int .i64 (Wd : Int), .int .i64 (Hd : Int), .slice a n c] 24)) = W0 at X0 hB0 ⊢
  have z0 := X0.lt
  refine (hwh _ (H.below hB0) (HO.below hB0) (HS.below hB0) (HP.below hB0)).mono ?_
  rintro e w3 ⟨rfl, hb3⟩
  have X1 := X0.below hb3
  have hB3 := bvia hB0 hb3
  have hz3 := hB3.size
  clear hwh hb3 X0 hB0
  go_wp2_with (go_at_call 36; refine (ref5_within _ _ _ _).mono ?_; rintro e w' ⟨rfl, rfl⟩; rw [hR])
  clear hR
  go_loopw [12, 13, 14] (fun v b i wr => ∃ k : Nat, k ≤ m ∧ i = .int .i64 k ∧ b = .bool (stkF R f z k) ∧ wr.ownsRow w3.heap.size 3 1 v (stkL f z k).length ((stkL f z k).map vInt) ∧ Below w3.heap.size w3 wr) (fun _ _ i _ => m - (intOf i).toNat)
  case atStart => exact ⟨0, Nat.zero_le _, rfl, rfl, World.ownsRow_nil .., Below.refl _ _⟩
  case round =>
    obtain ⟨k, hk, rfl, rfl, hown, hC⟩ := hrel
    have hB2 := bvia hB3 hC
    have Z1 := X1.below hC
    by_cases hlt : k < m
    · have hsk := fun W (hb : Below w.heap.size w W) => (HS.below hb) k hlt
      obtain ⟨bs2, os2, rfl, hbs2, d0, d1, d2, d3, hli⟩ := hsk wr hB2
      have hrd := HRD.out k hlt
      rw [← HRE.out (f k)] at hrd
      have hs1 : stkL f z (k + 1) = if (f k).st < z then stkL f z k ++ [(f k).nd] else stkL f z k := rfl
      have hs2 : stkF R f z (k + 1) = (stkF R f z k || (decide ((f k).st < z) && R (f k))) := rfl
      have hlen := stkL_len f z k
      have HS1 := hid hs1; have HS2 := hid hs2
      clear hs1 hs2
      generalize hSF : stkF R f z k = fr at *
      have HSF := hid hSF; clear hSF
      generalize R (f k) = r at *
      generalize f k = s at *
      by_cases hlt2 : s.st < z
      · have hdl : decide (s.st < z) = true := by simpa using hlt2
        have hsz := hC.size
        go_wp2_with (at_builtin; refine wpList_append_own _ rfl _ _ 25 rfl (w3.heap.size) 3 i0 (.int .i64 0) 1 8 Tryz.underlying25 hi hz0 hz1 hz2 rfl (by decide) _ _ _ rfl ((hown).alloc _) ⟨wr.heap.size, 0, none⟩ 1 1 [.int .i64 (s.nd)] rfl rfl (cell_one_new _ _ _) (by simp [Value.oneCell']) (by simp [maxLen]; omega) (by omega) (by simp; omega) ?_; intro v' w9 hown' hgrow _)
        have C9 := (balloc hC _).grown hgrow (by simp; omega) (own_base hown)
        have B9 := bvia hB3 C9
        have X9 := X1.below C9
        obtain ⟨bs3, os3, e3, hbs3, k0, k1, k2, k3, _⟩ := hsk w9 B9
        injection e3 with e3; injection e3 with e31 e32 _
        subst e31 e32
        have hO9 := HO.below B9; have hP9 := HP.below B9
        clear d0 d1 d2 d3 hli hbs2 Z1 hB2 hC hown hgrow hsz hsk
        have r0 : ∀ Y, Below w9.heap.size w9 Y → Y.cell? ⟨w.heap.size, 0, none⟩ = some (.int .i64 (Wd : Int)) := fun Y h => (X9.below h).at_ 0 rfl
        have r1 : ∀ Y, Below w9.heap.size w9 Y → Y.cell? ⟨w.heap.size, 1, none⟩ = some (.int .i64 (Hd : Int)) := fun Y h => (X9.below h).at_ 1 rfl
        have r2 : ∀ Y, Below w9.heap.size w9 Y → Y.cell? ⟨w.heap.size, 2, none⟩ = some (.slice a n c) := fun Y h => (X9.below h).at_ 2 rfl
        have s0 : ∀ Y, Below w9.heap.size w9 Y → Y.cell? ⟨bs2, os2 + k * 4, none⟩ = some (.int .i64 s.nd) := fun Y h => (bcell h _ _ hbs3).trans k0
        have s1 : ∀ Y, Below w9.heap.size w9 Y → Y.cell? ⟨bs2, os2 + k * 4 + 1, none⟩ = some (.int .i64 s.st) := fun Y h => (bcell h _ _ hbs3).trans k1
        have s2 : ∀ Y, Below w9.heap.size w9 Y → Y.cell? ⟨bs2, os2 + k * 4 + 2, none⟩ = some (.slice s.ix s.ni s.ci) := fun Y h => (bcell h _ _ hbs3).trans k2
        have s3 : ∀ Y, Below w9.heap.size w9 Y → Y.cell? ⟨bs2, os2 + k * 4 + 3, none⟩ = some (.slice s.cl s.nc s.cc) := fun Y h => (bcell h _ _ hbs3).trans k3
        clear k0 k1 k2 k3
        cases fr
        · go_wp2_with fail
          refine wp_region_S (fun Y => Below w9.heap.size w9 Y) 12 (by kernel_rfl) ?_
          refine anyS_take (i := 0) rfl (by kernel_rfl) (fun _ _ _ h => h) (Or.inl ⟨by rfl, fun Y hYb => (by (try dsimp only at hYb); go_simp; rfl)⟩) (by repeat' (first | with_reducible assumption | with_reducible exact Below.refl _ _ | with_reducible refine Below.drew ?_ | with_reducible refine below_drewN ?_ _)) ?_
          simp only [List.getElem_toArray, List.getElem_cons_succ, List.getElem_cons_zero, Act.put, List.setIfInBounds_toArray, List.set_cons_zero, List.set_cons_succ]
          refine anyS_take (i := 1) rfl (by kernel_rfl) (fun _ _ _ h => h) (Or.inl ⟨by rfl, fun Y hYb => (by (try dsimp only at hYb); go_simp; rfl)⟩) (by repeat' (first | with_reducible assumption | with_reducible exact Below.refl _ _ | with_reducible refine Below.drew ?_ | with_reducible refine below_drewN ?_ _)) ?_
          simp only [List.getElem_toArray, List.getElem_cons_succ, List.getElem_cons_zero, Act.put, List.setIfInBounds_toArray, List.set_cons_zero, List.set_cons_succ]
          refine anyS_take (i := 2) rfl (by kernel_rfl) (fun _ _ _ h => h) (Or.inl ⟨by rfl, fun Y hYb => (by (try dsimp only at hYb); go_simp; rfl)⟩) (by repeat' (first | with_reducible assumption | with_reducible exact Below.refl _ _ | with_reducible refine Below.drew ?_ | with_reducible refine below_drewN ?_ _)) ?_
          simp only [List.getElem_toArray, List.getElem_cons_succ, List.getElem_cons_zero, Act.put, List.setIfInBounds_toArray, List.set_cons_zero, List.set_cons_succ]
          refine anyS_take (i := 3) rfl (by kernel_rfl) (fun _ _ _ h => h) (Or.inl ⟨by rfl, fun Y hYb => (by (try dsimp only at hYb); go_simp; rfl)⟩) (by repeat' (first | with_reducible assumption | with_reducible exact Below.refl _ _ | with_reducible refine Below.drew ?_ | with_reducible refine below_drewN ?_ _)) ?_
          simp only [List.getElem_toArray, List.getElem_cons_succ, List.getElem_cons_zero, Act.put, List.setIfInBounds_toArray, List.set_cons_zero, List.set_cons_succ]
          refine anyS_take (i := 4) rfl (by kernel_rfl) (fun _ _ _ h => h) (Or.inl ⟨by rfl, fun Y hYb => (by (try dsimp only at hYb); go_simp; rfl)⟩) (by repeat' (first | with_reducible assumption | with_reducible exact Below.refl _ _ | with_reducible refine Below.drew ?_ | with_reducible refine below_drewN ?_ _)) ?_
          simp only [List.getElem_toArray, List.getElem_cons_succ, List.getElem_cons_zero, Act.put, List.setIfInBounds_toArray, List.set_cons_zero, List.set_cons_succ]
          refine anyS_take (i := 5) rfl (by kernel_rfl) (fun _ _ _ h => h) (Or.inl ⟨by rfl, fun Y hYb => (by (try dsimp only at hYb); go_simp; rfl)⟩) (by repeat' (first | with_reducible assumption | with_reducible exact Below.refl _ _ | with_reducible refine Below.drew ?_ | with_reducible refine below_drewN ?_ _)) ?_
          simp only [List.getElem_toArray, List.getElem_cons_succ, List.getElem_cons_zero, Act.put, List.setIfInBounds_toArray, List.set_cons_zero, List.set_cons_succ]
          refine anyS_take (i := 6) rfl (by kernel_rfl) (fun _ _ _ h => h) (Or.inl ⟨by rfl, fun Y hYb => (by (try dsimp only at hYb); go_simp; rfl)⟩) (by repeat' (first | with_reducible assumption | with_reducible exact Below.refl _ _ | with_reducible refine Below.drew ?_ | with_reducible refine below_drewN ?_ _)) ?_
          simp only [List.getElem_toArray, List.getElem_cons_succ, List.getElem_cons_zero, Act.put, List.setIfInBounds_toArray, List.set_cons_zero, List.set_cons_succ]
          refine anyS_take (i := 7) rfl (by kernel_rfl) (fun _ _ _ h => h) (Or.inl ⟨by rfl, fun Y hYb => (by (try dsimp only at hYb); go_simp; rfl)⟩) (by repeat' (first | with_reducible assumption | with_reducible exact Below.refl _ _ | with_reducible refine Below.drew ?_ | with_reducible refine below_drewN ?_ _)) ?_
          simp only [List.getElem_toArray, List.getElem_cons_succ, List.getElem_cons_zero, Act.put, List.setIfInBounds_toArray, List.set_cons_zero, List.set_cons_succ]
          refine anyS_take (i := 8) rfl (by kernel_rfl) (fun _ _ _ h => h) (Or.inl ⟨by rfl, fun Y hYb => (by (try dsimp only at hYb); go_simp; rfl)⟩) (by repeat' (first | with_reducible assumption | with_reducible exact Below.refl _ _ | with_reducible refine Below.drew ?_ | with_reducible refine below_drewN ?_ _)) ?_
          simp only [List.getElem_toArray, List.getElem_cons_succ, List.getElem_cons_zero, Act.put, List.setIfInBounds_toArray, List.set_cons_zero, List.set_cons_succ]
          refine anyS_one (i := 9) (by kernel_rfl) rfl (by rfl) (fun K hK => ?_)
          go_simp
          refine (hrd _ (hO9.below (by (repeat' (first | with_reducible assumption | with_reducible exact Below.refl _ _ | with_reducible refine Below.drew ?_ | with_reducible refine below_drewN ?_ _ | with_reducible refine balloc ?_ _ | with_reducible refine bset ?_ ?_ _ | with_reducible refine Below.setCell ?_ ?_ _ | with_reducible refine Below.alloc ?_ ?_ _ | omega | (simp; done) | (simp; omega))))) (hP9.below (by (repeat' (first | with_reducible assumption | with_reducible exact Below.refl _ _ | with_reducible refine Below.drew ?_ | with_reducible refine below_drewN ?_ _ | with_reducible refine balloc ?_ _ | with_reducible refine bset ?_ ?_ _ | with_reducible refine Below.setCell ?_ ?_ _ | with_reducible refine Below.alloc ?_ ?_ _ | omega | (simp; done) | (simp; omega)))))).mono ?_
          rintro e w10 ⟨rfl, hb10⟩
          dsimp only
          have hS10 : Below w9.heap.size w9 w10 := bvia (by (repeat' (first | with_reducible assumption | with_reducible exact Below.refl _ _ | with_reducible refine Below.drew ?_ | with_reducible refine below_drewN ?_ _ | with_reducible refine balloc ?_ _ | with_reducible refine bset ?_ ?_ _ | with_reducible refine Below.setCell ?_ ?_ _ | with_reducible refine Below.alloc ?_ ?_ _ | omega | (simp; done) | (simp; omega)))) hb10
          refine hK _ _ (fun _ _ => hS10) ?_
          clear hK K hb10 hrd
          refine anyS_take (i := 10) rfl (by kernel_rfl) (fun _ _ _ h => h) (Or.inl ⟨by rfl, fun Y hYb => (by (try dsimp only at hYb); go_simp; rfl)⟩) (by repeat' (first | with_reducible assumption | with_reducible exact Below.refl _ _ | with_reducible refine Below.drew ?_ | with_reducible refine below_drewN ?_ _)) ?_
          simp only [List.getElem_toArray, List.getElem_cons_succ, List.getElem_cons_zero, Act.put, List.setIfInBounds_toArray, List.set_cons_zero, List.set_cons_succ]
          refine anyS_take (i := 11) rfl (by kernel_rfl) (fun _ _ _ h => h) (Or.inl ⟨by rfl, fun Y hYb => (by (try dsimp only at hYb); go_simp; rfl)⟩) (by repeat' (first | with_reducible assumption | with_reducible exact Below.refl _ _ | with_reducible refine Below.drew ?_ | with_reducible refine below_drewN ?_ _)) ?_
          simp only [List.getElem_toArray, List.getElem_cons_succ, List.getElem_cons_zero, Act.put, List.setIfInBounds_toArray, List.set_cons_zero, List.set_cons_succ]
          refine anyS_done (by kernel_rfl) ?_ _
          clear r0 r1 r2 s0 s1 s2 s3
          go_wp2_with fail
          go_roundw
          case rel => exact ⟨k + 1, by omega, by go_num, by rw [HS2.out, decide_eq_true hlt2]; rfl, by rw [HS1.out, if_pos hlt2]; exact own_below (own_snoc hown') hS10, bvia C9 hS10⟩
          case measure => simp [intOf]; omega
        · go_wp2_with fail
          refine wp_region_S (fun Y => Below w9.heap.size w9 Y) 12 (by kernel_rfl) ?_
          refine anyS_take (i := 0) rfl (by kernel_rfl) (fun _ _ _ h => h) (Or.inl ⟨by rfl, fun Y hYb => (by (try dsimp only at hYb); go_simp; rfl)⟩) (by repeat' (first | with_reducible assumption | with_reducible exact Below.refl _ _ | with_reducible refine Below.drew ?_ | with_reducible refine below_drewN ?_ _)) ?_
          simp only [List.getElem_toArray, List.getElem_cons_succ, List.getElem_cons_zero, Act.put, List.setIfInBounds_toArray, List.set_cons_zero, List.set_cons_succ]
          refine anyS_take (i := 1) rfl (by kernel_rfl) (fun _ _ _ h => h) (Or.inl ⟨by rfl, fun Y hYb => (by (try dsimp only at hYb); go_simp; rfl)⟩) (by repeat' (first | with_reducible assumption | with_reducible exact Below.refl _ _ | with_reducible refine Below.drew ?_ | with_reducible refine below_drewN ?_ _)) ?_
          simp only [List.getElem_toArray, List.getElem_cons_succ, List.getElem_cons_zero, Act.put, List.setIfInBounds_toArray, List.set_cons_zero, List.set_cons_succ]
          refine anyS_take (i := 2) (v := undef) rfl (by kernel_rfl) (fun _ _ _ h => h) (Or.inr ⟨by kernel_rfl, rfl⟩) (by repeat' (first | with_reducible assumption | with_reducible exact Below.refl _ _ | with_reducible refine Below.drew ?_ | with_reducible refine below_drewN ?_ _)) ?_
          simp only [List.getElem_toArray, List.getElem_cons_succ, List.getElem_cons_zero, Act.put, List.setIfInBounds_toArray, List.set_cons_zero, List.set_cons_succ]
          refine anyS_take (i := 3) (v := undef) rfl (by kernel_rfl) (fun _ _ _ h => h) (Or.inr ⟨by kernel_rfl, rfl⟩) (by repeat' (first | with_reducible assumption | with_reducible exact Below.refl _ _ | with_reducible refine Below.drew ?_ | with_reducible refine below_drewN ?_ _)) ?_
          simp only [List.getElem_toArray, List.getElem_cons_succ, List.getElem_cons_zero, Act.put, List.setIfInBounds_toArray, List.set_cons_zero, List.set_cons_succ]
          refine anyS_take (i := 4) (v := undef) rfl (by kernel_rfl) (fun _ _ _ h => h) (Or.inr ⟨by kernel_rfl, rfl⟩) (by repeat' (first | with_reducible assumption | with_reducible exact Below.refl _ _ | with_reducible refine Below.drew ?_ | with_reducible refine below_drewN ?_ _)) ?_
          simp only [List.getElem_toArray, List.getElem_cons_succ, List.getElem_cons_zero, Act.put, List.setIfInBounds_toArray, List.set_cons_zero, List.set_cons_succ]
          refine anyS_take (i := 5) (v := undef) rfl (by kernel_rfl) (fun _ _ _ h => h) (Or.inr ⟨by kernel_rfl, rfl⟩) (by repeat' (first | with_reducible assumption | with_reducible exact Below.refl _ _ | with_reducible refine Below.drew ?_ | with_reducible refine below_drewN ?_ _)) ?_
          simp only [List.getElem_toArray, List.getElem_cons_succ, List.getElem_cons_zero, Act.put, List.setIfInBounds_toArray, List.set_cons_zero, List.set_cons_succ]
          refine anyS_take (i := 6) (v := undef) rfl (by kernel_rfl) (fun _ _ _ h => h) (Or.inr ⟨by kernel_rfl, rfl⟩) (by repeat' (first | with_reducible assumption | with_reducible exact Below.refl _ _ | with_reducible refine Below.drew ?_ | with_reducible refine below_drewN ?_ _)) ?_
          simp only [List.getElem_toArray, List.getElem_cons_succ, List.getElem_cons_zero, Act.put, List.setIfInBounds_toArray, List.set_cons_zero, List.set_cons_succ]
          refine anyS_take (i := 7) (v := undef) rfl (by kernel_rfl) (fun _ _ _ h => h) (Or.inr ⟨by kernel_rfl, rfl⟩) (by repeat' (first | with_reducible assumption | with_reducible exact Below.refl _ _ | with_reducible refine Below.drew ?_ | with_reducible refine below_drewN ?_ _)) ?_
          simp only [List.getElem_toArray, List.getElem_cons_succ, List.getElem_cons_zero, Act.put, List.setIfInBounds_toArray, List.set_cons_zero, List.set_cons_succ]
          refine anyS_take (i := 8) (v := undef) rfl (by kernel_rfl) (fun _ _ _ h => h) (Or.inr ⟨by kernel_rfl, rfl⟩) (by repeat' (first | with_reducible assumption | with_reducible exact Below.refl _ _ | with_reducible refine Below.drew ?_ | with_reducible refine below_drewN ?_ _)) ?_
          simp only [List.getElem_toArray, List.getElem_cons_succ, List.getElem_cons_zero, Act.put, List.setIfInBounds_toArray, List.set_cons_zero, List.set_cons_succ]
          refine anyS_take (i := 9) (v := undef) rfl (by kernel_rfl) (fun _ _ _ h => h) (Or.inr ⟨by kernel_rfl, rfl⟩) (by repeat' (first | with_reducible assumption | with_reducible exact Below.refl _ _ | with_reducible refine Below.drew ?_ | with_reducible refine below_drewN ?_ _)) ?_
          simp only [List.getElem_toArray, List.getElem_cons_succ, List.getElem_cons_zero, Act.put, List.setIfInBounds_toArray, List.set_cons_zero, List.set_cons_succ]
          refine anyS_take (i := 10) rfl (by kernel_rfl) (fun _ _ _ h => h) (Or.inl ⟨by rfl, fun Y hYb => (by (try dsimp only at hYb); go_simp; rfl)⟩) (by repeat' (first | with_reducible assumption | with_reducible exact Below.refl _ _ | with_reducible refine Below.drew ?_ | with_reducible refine below_drewN ?_ _)) ?_
          simp only [List.getElem_toArray, List.getElem_cons_succ, List.getElem_cons_zero, Act.put, List.setIfInBounds_toArray, List.set_cons_zero, List.set_cons_succ]
          refine anyS_take (i := 11) rfl (by kernel_rfl) (fun _ _ _ h => h) (Or.inl ⟨by rfl, fun Y hYb => (by (try dsimp only at hYb); go_simp; rfl)⟩) (by repeat' (first | with_reducible assumption | with_reducible exact Below.refl _ _ | with_reducible refine Below.drew ?_ | with_reducible refine below_drewN ?_ _)) ?_
          simp only [List.getElem_toArray, List.getElem_cons_succ, List.getElem_cons_zero, Act.put, List.setIfInBounds_toArray, List.set_cons_zero, List.set_cons_succ]
          refine anyS_done (by kernel_rfl) ?_ _
          clear r0 r1 r2 s0 s1 s2 s3
          go_wp2_with fail
          go_roundw
          case rel => exact ⟨k + 1, by omega, by go_num, by rw [HS2.out]; simp, by rw [HS1.out, if_pos hlt2]; exact own_snoc hown', C9.drew⟩
          case measure => simp [intOf]; omega
      · have hdl : decide (s.st < z) = false := by simpa using hlt2
        clear hrd
        go_wp2_with fail
        go_roundw
        case rel => exact ⟨k + 1, by omega, by go_num, by rw [HS2.out]; simp [hlt2], by rw [HS1.out, if_neg hlt2]; exact hown, hC⟩
        case measure => simp [intOf]; omega
    · obtain rfl : k = m := (by omega)
      generalize stkL f z k = L at *
      generalize hSF : stkF R f z k = fr at *
      have HSF := hid hSF; clear hSF
      obtain ⟨av, cv, rfl, hown'⟩ := own_sl hown
      by_cases hL : L = []
      · subst hL
        go_wp2
        go_ret2
        unfold stuL stuE
        simp only [if_true]
        exact listPost_nil hB2
      · have hl0 : ((L.length : Int) == 0) = false := by
          have : L.length ≠ 0 := fun h => hL (List.length_eq_zero_iff.1 h)
          simpa using this
        cases fr
        · go_wp2
          go_ret2
          unfold stuL stuE
          simp only [if_neg hL]
          exact listPost_own hown' hB2
        · go_wp2
          go_ret2
          unfold stuL stuE
          simp only [if_neg hL]
          exact listPost_nil hB2
end Go.Proofs.YtcakccfhcgjofaaGreat
