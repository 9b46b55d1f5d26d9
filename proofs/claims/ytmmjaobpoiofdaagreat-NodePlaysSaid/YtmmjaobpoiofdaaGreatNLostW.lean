/- Plain words and laws: which nodes are stuck, which notes are lost; where some nodes are stuck, some notes are lost. No program in sight but for a map of ints. Walks: Stuck, of the program and of the reference. Walks: stepOf and Lost, of the reference. Walk: Lost, of the program. -/
import Derived.Test.YtmmjaobpoiofdaaGreatNMergeF
import Derived.Test.YtmmjaobpoiofdaaGreatNSortP
import Derived.Test.YtmmjaobpoiofdaaGreatSeq
import Derived.Test.YtmmjaobpoiofdaaGreatNRefSort
import Derived.Test.YtmmjaobpoiofdaaGreatNSorted
import Derived.Test.YtmmjaobpoiofdaaGreatNDueF
import Derived.Deep.Cut
namespace Go.Proofs.YtmmjaobpoiofdaaGreat
open Go Go.RowKit Go.Maps Go.ChangeMaps
set_option linter.unusedVariables false
/-- the greatest number of steps -/
def farO (F : Nat → SiteR) : Nat → Int | 0 => 0 | k + 1 => max (farO F k) (F k).st
theorem farO_nonneg (F : Nat → SiteR) : ∀ k, 0 ≤ farO F k
  | 0 => Int.le_refl _
  | k + 1 => by have := farO_nonneg F k; simp only [farO]; omega
theorem farO_le {F : Nat → SiteR} {b : Int} (h0 : 0 ≤ b) : ∀ {k}, (∀ j, j < k → (F j).st ≤ b) → farO F k ≤ b
  | 0, _ => h0
  | k + 1, h => by
    have h1 := farO_le h0 (k := k) fun j hj => h j (by omega)
    have h2 := h k (by omega)
    simp only [farO]; omega
/-- how many steps a node has gone; 0 where there is none -/
def gonV (F : Nat → SiteR) : Nat → Int → Int | 0, _ => 0 | k + 1, nd => if (F k).nd = nd then (F k).st else gonV F k nd
/-- no node stands twice -/
def distN (F : Nat → SiteR) (m : Nat) : Prop := ∀ i j, i < j → j < m → (F i).nd ≠ (F j).nd
theorem gonV_at {F : Nat → SiteR} : ∀ {m}, distN F m → ∀ {k}, k < m → gonV F m (F k).nd = (F k).st
  | 0, _, k, h => by omega
  | m + 1, hd, k, h => by
    simp only [gonV]
    by_cases e : k = m
    · subst e; rw [if_pos rfl]
    · rw [if_neg (fun h' => hd k m (by omega) (by omega) h'.symm)]
      exact gonV_at (fun i j h1 h2 => hd i j h1 (by omega)) (by omega)
theorem dist_sites {o : Nat → Int} {no m : Nat} {F : Nat → SiteR} (hs : sitesB o no m F = true) : distN F m := by
  obtain ⟨h1, h2, _⟩ := sitesB_iff.1 hs
  intro i j hij hj
  rw [h2 i (by omega), h2 j hj]
  have hp := nodeL_sorted o no 8
  rw [List.pairwise_iff_getElem] at hp
  have := hp i j (by omega) (by omega) hij
  simp only [List.getD_eq_getElem?_getD]
  rw [List.getElem?_eq_getElem (by omega), List.getElem?_eq_getElem (by omega)]
  simp only [Option.getD_some]
  omega
section
variable (W H : Nat) (o : Nat → Int) (no q : Nat) (p : Nat → N6) (F : Nat → SiteR) (m : Nat)
/-- is a note that is due lost? -/
def lsB (st : Int) (x : N6) : Bool := decide (st ≤ gonV F m x.fr) && !metB p x q
/-- the lost ones of the first i that are due to a node for a step -/
def lsT (nd st : Int) (i : Nat) : List N6 := ((dueL W H o nd st no).take i).filter (lsB q p F m st)
def lsN (nd st : Int) : List N6 := (dueL W H o nd st no).filter (lsB q p F m st)
/-- .. for j steps from lo on -/
def lsS (nd lo : Int) : Nat → List N6 | 0 => [] | j + 1 => lsS nd lo j ++ lsN W H o no q p F m nd (lo + j)
def cntS (far st : Int) : Nat := (far + 1 - max 1 st).toNat
/-- .. to the first k sites -/
def lsK (far : Int) : Nat → List N6 | 0 => [] | k + 1 => lsK far k ++ lsS W H o no q p F m (F k).nd (max 1 (F k).st) (cntS far (F k).st)
end
theorem lsT_zero {W H : Nat} {o : Nat → Int} {no q : Nat} {p : Nat → N6} {F : Nat → SiteR} {m : Nat} {nd st : Int} : lsT W H o no q p F m nd st 0 = [] := rfl
theorem lsT_succ {W H : Nat} {o : Nat → Int} {no q : Nat} {p : Nat → N6} {F : Nat → SiteR} {m : Nat} {nd st : Int} {i : Nat} (h : i < (dueL W H o nd st no).length) :
    lsT W H o no q p F m nd st (i + 1) = if lsB q p F m st ((dueL W H o nd st no).getD i N6.zero) = true then lsT W H o no q p F m nd st i ++ [(dueL W H o nd st no).getD i N6.zero] else lsT W H o no q p F m nd st i := by
  unfold lsT
  rw [List.take_succ_eq_append_getElem h, List.filter_append, List.getD_eq_getElem?_getD, List.getElem?_eq_getElem h, Option.getD_some]
  split
  · rename_i h2; simp [h2]
  · rename_i h2; simp [h2]
theorem lsT_all {W H : Nat} {o : Nat → Int} {no q : Nat} {p : Nat → N6} {F : Nat → SiteR} {m : Nat} {nd st : Int} : lsT W H o no q p F m nd st (dueL W H o nd st no).length = lsN W H o no q p F m nd st := by
  unfold lsT lsN; rw [List.take_length]
theorem lsT_len {W H : Nat} {o : Nat → Int} {no q : Nat} {p : Nat → N6} {F : Nat → SiteR} {m : Nat} {nd st : Int} {i : Nat} : (lsT W H o no q p F m nd st i).length ≤ 4 * no := by
  have h1 := List.length_filter_le (lsB q p F m st) ((dueL W H o nd st no).take i)
  have h2 := List.length_take_le' i (dueL W H o nd st no)
  have h3 := dueL_length W H o nd st no
  unfold lsT; omega
theorem lsN_len {W H : Nat} {o : Nat → Int} {no q : Nat} {p : Nat → N6} {F : Nat → SiteR} {m : Nat} {nd st : Int} : (lsN W H o no q p F m nd st).length ≤ 4 * no := by
  rw [← lsT_all]; exact lsT_len
theorem lsS_len {W H : Nat} {o : Nat → Int} {no q : Nat} {p : Nat → N6} {F : Nat → SiteR} {m : Nat} {nd lo : Int} : ∀ j, (lsS W H o no q p F m nd lo j).length ≤ j * (4 * no)
  | 0 => by simp [lsS]
  | j + 1 => by
    have h1 := lsS_len (W := W) (H := H) (o := o) (no := no) (q := q) (p := p) (F := F) (m := m) (nd := nd) (lo := lo) j
    have h2 := lsN_len (W := W) (H := H) (o := o) (no := no) (q := q) (p := p) (F := F) (m := m) (nd := nd) (st := lo + j)
    simp only [lsS, List.length_append]
    rw [Nat.add_mul, Nat.one_mul]; omega
theorem lsK_len {W H : Nat} {o : Nat → Int} {no q : Nat} {p : Nat → N6} {F : Nat → SiteR} {m : Nat} {far : Int} {B : Nat} : ∀ k, (∀ j, j < k → cntS far (F j).st ≤ B) → (lsK W H o no q p F m far k).length ≤ k * (B * (4 * no))
  | 0, _ => by simp [lsK]
  | k + 1, h => by
    have h1 := lsK_len (W := W) (H := H) (o := o) (no := no) (q := q) (p := p) (F := F) (m := m) k fun j hj => h j (by omega)
    have h2 := lsS_len (W := W) (H := H) (o := o) (no := no) (q := q) (p := p) (F := F) (m := m) (nd := (F k).nd) (lo := max 1 (F k).st) (cntS far (F k).st)
    have h3 : cntS far (F k).st * (4 * no) ≤ B * (4 * no) := Nat.mul_le_mul_right _ (h k (by omega))
    simp only [lsK, List.length_append]
    rw [Nat.add_mul, Nat.one_mul]; omega
/-- the same notes for another step -/
def N6.at (x : N6) (st : Int) : N6 := ⟨st, x.fr, x.to, x.ce, x.di, x.co⟩
theorem dueC_at (W H : Nat) (o : Nat → Int) (nd st : Int) (i : Nat) : ∀ d, dueC W H o nd st i d = (dueC W H o nd 0 i d).map (N6.at · st)
  | 0 => rfl
  | d + 1 => by
    simp only [dueC]
    split
    · exact dueC_at W H o nd st i d
    · rw [List.map_append, ← dueC_at W H o nd st i d]; rfl
theorem dueL_at (W H : Nat) (o : Nat → Int) (nd st : Int) : ∀ n, dueL W H o nd st n = (dueL W H o nd 0 n).map (N6.at · st)
  | 0 => rfl
  | n + 1 => by
    simp only [dueL]
    split
    · rw [List.map_append, ← dueL_at W H o nd st n, ← dueC_at]
    · exact dueL_at W H o nd st n
theorem dueL_at_get {W H : Nat} {o : Nat → Int} {nd st : Int} {n i : Nat} (h : i < (dueL W H o nd 0 n).length) : (dueL W H o nd st n).getD i N6.zero = ((dueL W H o nd 0 n).getD i N6.zero).at st := by
  rw [dueL_at, List.getD_eq_getElem?_getD, List.getD_eq_getElem?_getD, List.getElem?_map, List.getElem?_eq_getElem h]; rfl
theorem dueL_at_len {W H : Nat} {o : Nat → Int} {nd st : Int} {n : Nat} : (dueL W H o nd st n).length = (dueL W H o nd 0 n).length := by rw [dueL_at]; simp
theorem lsS_none {W H : Nat} {o : Nat → Int} {no q : Nat} {p : Nat → N6} {F : Nat → SiteR} {m : Nat} {nd lo : Int} (h : dueL W H o nd 0 no = []) : ∀ j, lsS W H o no q p F m nd lo j = []
  | 0 => rfl
  | j + 1 => by
    simp only [lsS, lsS_none h j, List.nil_append, lsN]
    rw [dueL_at, h]; rfl
theorem lsS_mem {W H : Nat} {o : Nat → Int} {no q : Nat} {p : Nat → N6} {F : Nat → SiteR} {m : Nat} {nd lo : Int} {x : N6} : ∀ {j}, x ∈ lsS W H o no q p F m nd lo j ↔ ∃ i : Nat, i < j ∧ x ∈ dueL W H o nd (lo + i) no ∧ lsB q p F m (lo + i) x = true
  | 0 => by simp [lsS]
  | j + 1 => by
    simp only [lsS, List.mem_append, lsS_mem, lsN, List.mem_filter]
    constructor
    · rintro (⟨i, h1, h2⟩ | h)
      · exact ⟨i, by omega, h2⟩
      · exact ⟨j, by omega, h⟩
    · rintro ⟨i, h1, h2⟩
      by_cases e : i = j
      · subst e; exact .inr h2
      · exact .inl ⟨i, by omega, h2⟩
theorem lsK_mem {W H : Nat} {o : Nat → Int} {no q : Nat} {p : Nat → N6} {F : Nat → SiteR} {m : Nat} {far : Int} {x : N6} : ∀ {k}, x ∈ lsK W H o no q p F m far k ↔ ∃ j, j < k ∧ ∃ i : Nat, i < cntS far (F j).st ∧ x ∈ dueL W H o (F j).nd (max 1 (F j).st + i) no ∧ lsB q p F m (max 1 (F j).st + i) x = true
  | 0 => by simp [lsK]
  | k + 1 => by
    simp only [lsK, List.mem_append, lsK_mem, lsS_mem]
    constructor
    · rintro (⟨j, h1, h2⟩ | h)
      · exact ⟨j, by omega, h2⟩
      · exact ⟨k, by omega, h⟩
    · rintro ⟨j, h1, h2⟩
      by_cases e : j = k
      · subst e; exact .inr h2
      · exact .inl ⟨j, by omega, h2⟩
/-! ### a map from nodes to steps -/
def GoM (w : World) (b n : Nat) (V : Int → Int) : Prop :=
  ∃ D : DataW Unit, w.ownsMap Tryz.prog 3 (plainElem Tryz.prog 3) b n D ∧ ∀ i : Int, (Lit.int .i64 i).wf = true → D.atKey (.int .i64 i) (.lit (.int .i64 0)) = .lit (.int .i64 (V i))
theorem gom_made (w : World) : GoM (w.alloc (.map #[] 0)) w.heap.size 0 (fun _ => 0) :=
  ⟨.map [], World.ownsMap_made w _ _ _, fun i _ => by simp [DataW.atKey]⟩
theorem gom_look {w : World} {b n : Nat} {V : Int → Int} (h : GoM w b n V) {i : Int} (hi : (Lit.int .i64 i).wf = true) :
    (Instr.lookup 94 (.map (some b)) (.int .i64 i) false).run Tryz.prog w = .ok (.int .i64 (V i)) w := by
  obtain ⟨D, ho, hat⟩ := h
  obtain ⟨v, ps, hrun, hv⟩ := ho.lookup keyedInt Tryz.underlying94 (z := .int .i64 0) (by kernel_rfl) (plainElem_int Tryz.underlying3 (by decide)) (keyOf_int_mk Tryz.underlying3 hi)
  obtain ⟨c, rfl, hc, _⟩ := plainElem_int_inv Tryz.underlying3 hv
  rw [hat i hi] at hc
  simp only [Prod.mk.injEq, DataW.lit.injEq, Lit.int.injEq, true_and] at hc
  rw [hrun, hc.1]
theorem gom_store {w : World} {b n : Nat} {V : Int → Int} (h : GoM w b n V) (hn : n < maxLen) {i : Int} (hi : (Lit.int .i64 i).wf = true) (c : Int) (hc : (Lit.int .i64 c).wf = true) :
    ∃ w', (Instr.mapUpdate 94 (.map (some b)) (.int .i64 i) (.int .i64 c)).run Tryz.prog w = .ok () w' ∧ GoM w' b (n + 1) (fun j => if i = j then c else V j) ∧ w.mapTurned w' b := by
  obtain ⟨D, ho, hat⟩ := h
  obtain ⟨w', hrun, ho', ht⟩ := ho.store keyedInt Tryz.underlying94 hn (keyOf_int_mk Tryz.underlying3 hi) (plainElem_int Tryz.underlying3 hc)
  refine ⟨w', hrun, ⟨_, ho', fun j hj => ?_⟩, ht⟩
  by_cases e : i = j
  · subst e
    rw [atKey_put_same ho.isMap (by trivial)]
    simp
  · rw [atKey_put_other (by intro h'; injection h' with _ h'; exact e h'.symm), hat j hj]
    simp [e]
theorem gom_below {w w' : World} {b n : Nat} {V : Int → Int} (h : GoM w b n V) (hb : Below w.heap.size w w') : GoM w' b n V := by
  obtain ⟨D, ⟨es, clock, h1, h2⟩, hat⟩ := h
  refine ⟨D, ⟨es, clock, ?_, h2⟩, hat⟩
  rw [hb.block b ?_]
  · exact h1
  · rcases Nat.lt_or_ge b w.heap.size with h' | h'
    · exact h'
    · rw [Array.getElem?_eq_none h'] at h1; cases h1
theorem gom_lt {w : World} {b n : Nat} {V : Int → Int} (h : GoM w b n V) : b < w.heap.size := by
  obtain ⟨D, ⟨es, clock, h1, h2⟩, hat⟩ := h
  exact (Array.getElem?_eq_some_iff.1 h1).1
end Go.Proofs.YtmmjaobpoiofdaaGreat
namespace Go.Proofs.YtmmjaobpoiofdaaGreat
open Go Go.RowKit
set_option linter.unusedVariables false
set_option linter.unusedSimpArgs false
theorem lstN_of (l : List N6) : lstN (fun k => l.getD k N6.zero) l.length = l := by
  apply List.ext_getElem?
  intro i
  unfold lstN
  rw [List.getElem?_map]
  by_cases h : i < l.length
  · rw [List.getElem?_range h, List.getElem?_eq_getElem h, Option.map_some, List.getD_eq_getElem?_getD, List.getElem?_eq_getElem h]; rfl
  · rw [List.getElem?_eq_none (by simpa using h), List.getElem?_eq_none (by omega)]; rfl
def lostX (wh : Bool) (L : List N6) : List N6 := if wh = true then sortN L else []
theorem lost_bnd {W H : Nat} {o : Nat → Int} {no q : Nat} {p : Nat → N6} {F : Nat → SiteR} {m B : Nat} {far : Int} (hB : ∀ k, k < m → cntS far (F k).st ≤ B) (hU : m * (B * (4 * no)) ≤ 1000000) {k j i : Nat} (hk : k < m) (hj : j < cntS far (F k).st) :
    (lsK W H o no q p F m far k ++ lsS W H o no q p F m (F k).nd (max 1 (F k).st) j ++ lsT W H o no q p F m (F k).nd (max 1 (F k).st + j) i).length ≤ 1000000 := by
  have h1 := lsK_len (W := W) (H := H) (o := o) (no := no) (q := q) (p := p) (F := F) (m := m) (far := far) (B := B) k fun i hi => hB i (by omega)
  have h2 := lsS_len (W := W) (H := H) (o := o) (no := no) (q := q) (p := p) (F := F) (m := m) (nd := (F k).nd) (lo := max 1 (F k).st) j
  have h3 := lsT_len (W := W) (H := H) (o := o) (no := no) (q := q) (p := p) (F := F) (m := m) (nd := (F k).nd) (st := max 1 (F k).st + j) (i := i)
  have h4 := hB k hk
  simp only [List.length_append]
  generalize 4 * no = T at *
  have h5 : (j + 1) * T ≤ B * T := Nat.mul_le_mul_right _ (by omega)
  have h6 : (k + 1) * (B * T) ≤ m * (B * T) := Nat.mul_le_mul_right _ (by omega)
  rw [Nat.add_mul, Nat.one_mul] at h5 h6
  omega
end Go.Proofs.YtmmjaobpoiofdaaGreat
namespace Go.Proofs.YtmmjaobpoiofdaaGreat
open Go Go.RowKit
set_option linter.unusedVariables false
set_option linter.unusedSimpArgs false
set_option maxRecDepth 100000 in
set_option maxHeartbeats 8000000 in
theorem node_Lost (wide high : Int) (a ao al ap : Option Addr) (n no m q c co cl cp B : Nat) (g : Nat → C4) (o : Nat → Int) (f : Nat → SiteR) (p : Nat → N6) (w : World) (hn : n ≤ 100000000) (hno : no ≤ 100000000) (hm : m ≤ 1000) (hq : q ≤ 100000000) (hb : ∀ k, k < m → (f k).ni ≤ 10000 ∧ (f k).nc ≤ 10000) (hcB : ∀ k, k < m → cntS (farO f m) (f k).st ≤ B) (hU : m * (B * (4 * no)) ≤ 1000000) (H : Sc w a n g) (HO : Sl w ao no o) (HS : Ss w al m f) (HP : Sn w ap q p) (HW : ∀ k, k < q → wfN (p k)) :
    Calls Tryz.prog 18 #[.agg #[.int .i64 wide, .int .i64 high, .slice a n c], .slice ao no co, .slice al m cl, .slice ap q cp] w
      (NotePost (lostX (wholeB wide high n g no o m f q p) (lsK wide.toNat high.toNat o no q p f m (farO f m) m)) (errR (wholeB wide high n g no o m f q p) 1) w) := by
  obtain ⟨i0, hi, hz0, hz1, hz2⟩ := info_parts infoN
  have hwh := fun W S SO SS SP => node_whole wide high a ao al ap n no m q c co cl cp g o f p W hn hno hm hq hb S SO SS SP HW
  have hCo := fun W SP => node_counts ap q cp p W hq SP HW
  have X0 := Bx.new w #[.int .i64 wide, .int .i64 high, .slice a n c] 24
  have hB0 : Below w.heap.size w (w.alloc (.cells #[.int .i64 wide, .int .i64 high, .slice a n c] 24)) := by (repeat' (first | with_reducible assumption | with_reducible exact Below.refl _ _ | with_reducible refine Below.drew ?_ | with_reducible refine below_drewN ?_ _ | with_reducible refine balloc ?_ _ | with_reducible refine bset ?_ ?_ _ | with_reducible refine Below.setCell ?_ ?_ _ | with_reducible refine Below.alloc ?_ ?_ _ | omega | (simp; done) | (simp; omega)))
  cases hV : wholeB wide high n g no o m f q p
  · rw [hV] at hwh
    clear HW hb hV hcB hU hCo
    go_enter Tryz.func18, Tryz.ntmps18
    go_wp2_with fail
    generalize (w.alloc (.cells #[.int .i64 wide, .int .i64 high, .slice a n c] 24)) = W0 at X0 hB0 ⊢
    have z0 := X0.lt
    refine (hwh _ (H.below hB0) (HO.below hB0) (HS.below hB0) (HP.below hB0)).mono ?_
    rintro e w1 ⟨rfl, hb1⟩
    go_wp2
    go_ret2
    exact notePost_nil rfl rfl (bvia hB0 hb1)
  rw [hV] at hwh
  obtain ⟨hv, hsb, hpb⟩ := wholeB_iff.1 hV
  have hdi := dist_sites hsb
  have hstb : ∀ k, k < m → 0 ≤ (f k).st ∧ (f k).st ≤ 1000000 := fun k hk => by
    obtain ⟨hw, _⟩ := siteB_iff.1 ((sitesB_iff.1 hsb).2.2.1 k hk)
    simpa [within] using hw
  obtain ⟨Wd, Hd, rfl, rfl, p1, p2, u1, u2, hnn, hn4, hoo, hob, _, _⟩ := validM_sides hv
  simp only [Int.toNat_natCast] at *
  have hnd : ∀ k, k < m → 0 ≤ (f k).nd ∧ (f k).nd ≤ 7 := fun k hk => by
    obtain ⟨i, hi, e⟩ := hasB_iff.1 (sites_has hsb hk)
    rw [← e]; exact hob i (by omega)
  have hdu := fun nd W => node_due (Wd : Int) (Hd : Int) a ao n c no co nd 0 W
  have hnoW : no = Wd * Hd := by omega
  have hwf : ∀ nd st, 0 ≤ nd ∧ nd ≤ 7 → 0 ≤ st ∧ st ≤ 1000000 → ∀ x, x ∈ dueL Wd Hd o nd st no → wfN x ∧ 0 ≤ x.fr ∧ x.fr ≤ 7 := fun nd st h1 h2 x hx => by
    obtain ⟨a1, a2, a3, a4, a5, a6, a7⟩ := dueL_num x hx
    have hf := dueL_fro (P := fun x => 0 ≤ x ∧ x ≤ 7) (fun k hk => hob k (by omega)) (show no ≤ Wd * Hd by omega) x hx
    refine ⟨fun j hj => ?_, hf⟩
    apply WalkArith.wf_i64
    rcases (by omega : j = 0 ∨ j = 1 ∨ j = 2 ∨ j = 3 ∨ j = 4 ∨ j = 5) with rfl | rfl | rfl | rfl | rfl | rfl <;> simp only [N6.get] <;> omega
  have hbd := fun k j i hk hj => lost_bnd (W := Wd) (H := Hd) (o := o) (q := q) (p := p) (F := f) (k := k) (j := j) (i := i) hcB hU hk hj
  have hfull := lsK_len (W := Wd) (H := Hd) (o := o) (no := no) (q := q) (p := p) (F := f) (m := m) (far := farO f m) (B := B) m hcB
  have hfl : (lsK Wd Hd o no q p f m (farO f m) m).length ≤ 1000000 := by omega
  have hfar0 := farO_nonneg f m
  have hfar1 : farO f m ≤ 1000000 := farO_le (by omega) fun k hk => (hstb k hk).2
  have HBD := hid hbd; have HST := hid hstb; have HFL := hid hfl; have HNW := hid hnoW; have HWF := hid hwf; have HND := hid hnd
  clear hv hsb hpb hoo hob hnn hV HW hb hdi hbd hstb hfull hfl hcB hU hnoW hwf hnd
  have X0 := Bx.new w #[.int .i64 (Wd : Int), .int .i64 (Hd : Int), .slice a n c] 24
  have hB0 : Below w.heap.size w (w.alloc (.cells #[.int .i64 (Wd : Int), .int .i64 (Hd : Int), .slice a n c] 24)) := by (repeat' (first | with_reducible assumption | with_reducible exact Below.refl _ _ | with_reducible refine Below.drew ?_ | with_reducible refine below_drewN ?_ _ | with_reducible refine balloc ?_ _ | with_reducible refine bset ?_ ?_ _ | with_reducible refine Below.setCell ?_ ?_ _ | with_reducible refine Below.alloc ?_ ?_ _ | omega | (simp; done) | (simp; omega)))
  have hmm := @run_makeMap Tryz.prog
  go_enter Tryz.func18, Tryz.ntmps18
  go_wp2_with fail
  generalize (w.alloc (.cells #[.int .i64 (Wd : Int), .int .i64 (Hd : Int), .slice a n c] 24)) = W0 at X0 hB0 ⊢
  have z0 := X0.lt
  refine (hwh _ (H.below hB0) (HO.below hB0) (HS.below hB0) (HP.below hB0)).mono ?_
  rintro e w1 ⟨rfl, hb1⟩
  replace X0 := X0.below hb1
  have hB := bvia hB0 hb1
  clear hB0 hwh hb1
  have x0 := X0.at_ 0 rfl; have x1 := X0.at_ 1 rfl; have x2 := X0.at_ 2 rfl; have lx := X0.lt
  go_wp2_with fail
  have XC := Bx.new w1 #[.int .i64 (Wd : Int), .int .i64 (Hd : Int), .slice a n c, .slice ao no co] 67
  replace hB := balloc hB (.cells #[.int .i64 (Wd : Int), .int .i64 (Hd : Int), .slice a n c, .slice ao no co] 67)
  clear X0 x0 x1 x2 lx
  generalize hW1 : w1.alloc (.cells #[.int .i64 (Wd : Int), .int .i64 (Hd : Int), .slice a n c, .slice ao no co] 67) = W1 at *
  clear hW1
  refine (hCo _ (HP.below hB)).mono ?_
  rintro e w2 ⟨b, rfl, hM, hb2⟩
  replace XC := XC.below hb2
  replace hB := bvia hB hb2
  have hG := gom_made w2
  have hC3 := below_alloc w2 (.map #[] 0)
  clear hCo hb2
  go_upto_region 6 with (fail)
  clear hmm
  generalize hW3 : w2.alloc (.map #[] 0) = w3 at *
  clear hW3
  have hbz2 := hB.size
  have hbg := gom_lt hG
  go_wp2
  go_loopw [13, 39] (fun t i wr => ∃ k : Nat, k ≤ m ∧ i = .int .i64 k ∧ t = .int .i64 (farO f k) ∧ GoM wr w2.heap.size k (gonV f k) ∧ Below w2.heap.size w2 wr ∧ w2.heap.size < wr.heap.size) (fun _ i _ => m - (intOf i).toNat)
  case atStart => exact ⟨0, Nat.zero_le _, rfl, rfl, hG, hC3, hbg⟩
  case round =>
    clear hG hC3 hbg
    obtain ⟨k, hk, rfl, rfl, hG, hC, hbg⟩ := hrel
    have hB3 := bvia hB hC
    by_cases hlt : k < m
    · obtain ⟨b1, o1, rfl, hb1, c0, c1, c2, c3, hl⟩ := (HS.below hB3) k hlt
      have hf1 : farO f (k + 1) = max (farO f k) (f k).st := rfl
      have hg1 : gonV f (k + 1) = fun nd => if (f k).nd = nd then (f k).st else gonV f k nd := rfl
      have HF1 := hid hf1; have HG1 := hid hg1
      obtain ⟨s0, s1⟩ := HST.out k hlt
      obtain ⟨t0, t1⟩ := HND.out k hlt
      have hfa := farO_nonneg f k
      clear hf1 hg1 hl
      generalize farO f k = fa at *
      generalize f k = s at *
      have Xs := Bx.new wr #[.int .i64 s.nd, .int .i64 s.st, .slice s.ix s.ni s.ci, .slice s.cl s.nc s.cc] 30
      go_upto_region 10 with (fail)
      have hW : Below wr.heap.size wr (wr.alloc (.cells #[.int .i64 s.nd, .int .i64 s.st, .slice s.ix s.ni s.ci, .slice s.cl s.nc s.cc] 30)) := below_alloc _ _
      generalize hW5 : wr.alloc (.cells #[.int .i64 s.nd, .int .i64 s.st, .slice s.ix s.ni s.ci, .slice s.cl s.nc s.cc] 30) = w5 at *
      clear hW5
      have G5 := gom_below hG hW
      have hs5 := hW.size
      obtain ⟨w6, hrun, G6, ht⟩ := gom_store (i := s.nd) G5 (by simp [maxLen]; omega) (WalkArith.wf_i64 (by omega)) s.st (WalkArith.wf_i64 (by omega))
      have X6 := Xs.turned ht (by omega)
      have C6 := below_turned (bvia hC hW) ht (Nat.le_refl _) (by omega)
      have hz6 := gom_lt G6
      have x0 := Xs.at_ 0 rfl; have x1 := Xs.at_ 1 rfl; have lx := Xs.lt
      have y1 := X6.at_ 1 rfl; have ly := X6.lt
      clear hG hW G5 c0 c1 c2 c3 Xs
      go_wp2
      go_roundw
      case rel => exact ⟨k + 1, by omega, by go_num, by rw [HF1.out], by rw [HG1.out]; exact G6, C6, hz6⟩
      case measure => simp [intOf]; omega
    · obtain rfl : k = m := (by omega)
      have XC4 := XC.below hC
      have hM4 := pcm_below hM hC
      clear XC hM hC hB
      generalize hfa : farO f k = fa at *
      have HFA := hid hfa; clear hfa
      generalize hgm : w2.heap.size = bg at *
      clear hgm
      go_wp2
      obtain ⟨w4, rfl⟩ : ∃ w4 : World, w4 = wr := ⟨_, rfl⟩
      have hz4 := hB3.size
      have lc4 := XC4.lt
      have lb4 := pcm_lt hM4
      go_loopw [16, 55] (fun v i wr => ∃ j : Nat, j ≤ k ∧ i = .int .i64 j ∧ OwnN wr w4.heap.size v (lsK Wd Hd o no q p f k fa j) ∧ Below w4.heap.size w4 wr) (fun _ i _ => k - (intOf i).toNat)
      case atStart => exact ⟨0, Nat.zero_le _, rfl, ownN_nil _ _, Below.refl _ _⟩
      case round =>
        obtain ⟨wo, rfl⟩ : ∃ wo : World, wo = wr := ⟨_, rfl⟩
        obtain ⟨j, hj, rfl, hown, hC⟩ := hrel
        have hB2 := bvia hB3 hC
        by_cases hlt2 : j < k
        · obtain ⟨b1, o1, rfl, hb1, c0, c1, c2, c3, hl⟩ := (HS.below hB2) j hlt2
          obtain ⟨s0, s1⟩ := HST.out j hlt2
          have hnd := HND.out j hlt2
          have hbd := fun i r (hi : i < cntS fa (f j).st) => HBD.out j i r hlt2 hi
          have hk1 : lsK Wd Hd o no q p f k fa (j + 1) = lsK Wd Hd o no q p f k fa j ++ lsS Wd Hd o no q p f k (f j).nd (max 1 (f j).st) (cntS fa (f j).st) := rfl
          have HBD2 := hid hbd; have HK1 := hid hk1
          have hcn : (cntS fa (f j).st : Int) = max 0 (fa + 1 - max 1 (f j).st) := by unfold cntS; omega
          have HCN := hid hcn
          clear hbd hk1 hl hcn
          have XC5 := XC4.below hC
          have hdu2 := hdu (f j).nd
          have hwf := fun st h => HWF.out (f j).nd st hnd h
          have HWF2 := hid hwf; clear hwf hdu
          have hdl := dueL_length Wd Hd o (f j).nd 0 no
          have hits := fun bc bn bs W Zc Zn Zs S => due_iter Wd Hd a ao n c no co o (f j).nd 0 bc bn bs W ⟨p1, p2⟩ ⟨u1, u2⟩ HNW.out Zc Zn Zs S
          have hnone := fun h => lsS_none (W := Wd) (H := Hd) (o := o) (no := no) (q := q) (p := p) (F := f) (m := k) (nd := (f j).nd) (lo := max 1 (f j).st) h (cntS fa (f j).st)
          have HNO := hid hnone; clear hnone
          have hlT := fun sv r (hr : r < (dueL Wd Hd o (f j).nd 0 no).length) => lsT_succ (W := Wd) (H := Hd) (o := o) (nd := (f j).nd) (st := sv) (q := q) (p := p) (F := f) (m := k) (show r < (dueL Wd Hd o (f j).nd sv no).length by rw [dueL_at_len]; exact hr)
          have hDx := fun sv r (hr : r < (dueL Wd Hd o (f j).nd 0 no).length) => dueL_at_get (st := sv) hr
          have hDm := fun sv r (hr : r < (dueL Wd Hd o (f j).nd 0 no).length) => (show ((dueL Wd Hd o (f j).nd 0 no).getD r N6.zero).at sv ∈ dueL Wd Hd o (f j).nd sv no by
            rw [← dueL_at_get hr, List.getD_eq_getElem?_getD, List.getElem?_eq_getElem (by rw [dueL_at_len]; exact hr)]
            exact List.getElem_mem _)
          have hlA := fun sv => (show lsT Wd Hd o no q p f k (f j).nd sv (dueL Wd Hd o (f j).nd 0 no).length = lsN Wd Hd o no q p f k (f j).nd sv by rw [← dueL_at_len (st := sv)]; exact lsT_all)
          have HLT := hid hlT; have HDX := hid hDx; have HDM := hid hDm; have HLA := hid hlA
          clear hlT hDx hDm hlA
          have hsite : Below wo.heap.size wo (wo.alloc (.cells #[.int .i64 (f j).nd, .int .i64 (f j).st, .slice (f j).ix (f j).ni (f j).ci, .slice (f j).cl (f j).nc (f j).cc] 30)) := below_alloc _ _
          have Xs := Bx.new wo #[.int .i64 (f j).nd, .int .i64 (f j).st, .slice (f j).ix (f j).ni (f j).ci, .slice (f j).cl (f j).nc (f j).cc] 30
          generalize (f j).nd = nd at *
          generalize (f j).st = st at *
          generalize (f j).ix = sx at *
          generalize (f j).cl = sc at *
          generalize (f j).ni = sni at *
          generalize (f j).ci = sci at *
          generalize (f j).nc = snc at *
          generalize (f j).cc = scc at *
          generalize cntS fa st = cn at *
          generalize hKK : lsK Wd Hd o no q p f k fa j = LK at *
          have HKK := hid hKK; clear hKK
          have hD0 : dueL Wd Hd o nd 0 no = dueL Wd Hd o nd 0 no := rfl
          generalize dueL Wd Hd o nd 0 no = D at *
          clear hD0
          go_upto_region 17 with (fail)
          replace XC5 := XC5.below hsite
          replace hown := own_below hown hsite
          replace hC := bvia hC hsite
          replace hB2 := bvia hB3 hC
          clear c0 c1 c2 c3 hb1
          generalize wo.alloc (.cells #[.int .i64 nd, .int .i64 st, .slice sx sni sci, .slice sc snc scc] 30) = w5 at *
          have x0 := Xs.at_ 0 rfl; have lx := Xs.lt
          have z0 := XC5.at_ 0 rfl; have z1 := XC5.at_ 1 rfl; have z2 := XC5.at_ 2 rfl; have z3 := XC5.at_ 3 rfl; have lz := XC5.lt
          have hdu3 := hdu2 w5
          unfold cluV at hdu3
          go_wp2_with fail
          refine hdu3.mono ?_
          rintro e w6 ⟨bc, bn, bs, rfl, Zc, Zn, Zs, _, hb6⟩
          have hcl := notes_Collect _ _ _ w6 ent_due (hits bc bn bs w6 Zc Zn Zs ((HO.below hB2).below hb6)) (by have := HNW.out; omega)
          clear hdu3 hdu2 hits x0 lx z0 z1 z2 z3 lz
          go_wp2_with fail
          refine hcl.mono ?_
          rintro e w7 ⟨vn, rfl, ON, hb7⟩
          replace hb7 := bvia hb6 hb7
          have hdis := own_dis hown ON hb6.size
          obtain ⟨pn, cnn, rfl, _⟩ := listR_of_own ON
          have y1 := (Xs.below hb7).at_ 1 rfl; have ly := (Xs.below hb7).lt
          have hown7 := own_below hown hb7
          have hC7 := bvia hC hb7
          have ON7 : OwnN w7 w4.heap.size (.slice pn D.length cnn) D := own_mono ON (by have := hC.size; have := hb6.size; omega)
          clear hcl Zc Zn Zs hb6 hb7 Xs XC5 hC hown ON hB2
          by_cases hD : D = []
          · have hx := HNO.out hD
            have HX := hid hx; clear hx
            subst hD
            go_wp2
            go_roundw
            case rel => exact ⟨j + 1, by omega, by go_num, by rw [HK1.out, HX.out, List.append_nil]; exact hown7, hC7⟩
            case measure => simp [intOf]; omega
          · have hl0 : ((D.length : Int) == 0) = false := by
              have : D.length ≠ 0 := fun h => hD (List.length_eq_zero_iff.1 h)
              simpa using this
            clear hD
            go_wp2
            go_loopw [16, 20] (fun v s wr => ∃ i : Nat, s = .int .i64 (max 1 st + i) ∧ i ≤ cn ∧ OwnN wr w4.heap.size v (LK ++ lsS Wd Hd o no q p f k nd (max 1 st) i) ∧ OwnN wr w4.heap.size (.slice pn D.length cnn) D ∧ (∀ g, (Value.slice pn D.length cnn).ownBlock = some g → v.ownBlock ≠ some g) ∧ Below w4.heap.size w4 wr) (fun _ s _ => (fa + 1 - intOf s).toNat)
            case atStart => exact ⟨0, by simp, Nat.zero_le _, by simp only [lsS, List.append_nil]; exact hown7, ON7, hdis, hC7⟩
            case round =>
              obtain ⟨wp, rfl⟩ : ∃ wp : World, wp = wr := ⟨_, rfl⟩
              clear hown7 hC7 ON7 hdis y1 ly
              obtain ⟨i, rfl, hi2, hown, ON, hdis, hC⟩ := hrel
              have hcn := HCN.out
              have hsv0 : 0 ≤ max 1 st + i := by omega
              obtain ⟨sv, hsv⟩ : ∃ sv, sv = max 1 st + (i : Int) := ⟨_, rfl⟩
              have hS1 : lsS Wd Hd o no q p f k nd (max 1 st) (i + 1) = lsS Wd Hd o no q p f k nd (max 1 st) i ++ lsN Wd Hd o no q p f k nd sv := by rw [hsv]; rfl
              rw [← hsv]
              by_cases hle : sv ≤ fa
              · have hi3 : i < cn := by omega
                have hbd2 := fun r => HBD2.out i r hi3
                rw [← hsv] at hbd2
                have hwf := HWF2.out sv ⟨by omega, by omega⟩
                have hlT := HLT.out sv; have hDx := HDX.out sv; have hDm := HDM.out sv; have hlA := HLA.out sv
                have HSV2 := hid hsv; have HS1 := hid hS1
                have HLT2 := hid hlT; have HDX2 := hid hDx; have HDM2 := hid hDm; have HLA2 := hid hlA; have HWF3 := hid hwf
                have hsv1 : 1 ≤ sv := by omega
                clear hsv hS1 hcn hlT hDx hDm hlA hwf hsv0
                generalize hLL : LK ++ lsS Wd Hd o no q p f k nd (max 1 st) i = LL at *
                have HLL := hid hLL; clear hLL
                go_wp2
                go_loopw [16, 77] (fun v r wr => ∃ r' : Nat, r' ≤ D.length ∧ r = .int .i64 r' ∧ OwnN wr w4.heap.size v (LL ++ lsT Wd Hd o no q p f k nd sv r') ∧ OwnN wr w4.heap.size (.slice pn D.length cnn) D ∧ (∀ g, (Value.slice pn D.length cnn).ownBlock = some g → v.ownBlock ≠ some g) ∧ Below w4.heap.size w4 wr) (fun _ r _ => D.length - (intOf r).toNat)
                case atStart => exact ⟨0, Nat.zero_le _, rfl, by rw [lsT_zero, List.append_nil]; exact hown, ON, hdis, hC⟩
                case round =>
                  clear hown ON hdis hC
                  obtain ⟨r', hr, rfl, hown, ON, hdis, hC⟩ := hrel
                  have hB2 := bvia hB3 hC
                  have hsz := hC.size
                  by_cases hlt4 : r' < D.length
                  · obtain ⟨b2, o2, rfl, hb2, k0, k1, k2, k3, k4, k5⟩ := (own_listR ON).2.2.six hlt4
                    have hlt := HLT2.out r' hlt4
                    have hbl := hbd2 r'
                    have hwx := HWF3.out _ (HDM2.out r' hlt4)
                    rw [HDX2.out r' hlt4] at hlt
                    have HT := hid hlt
                    clear hlt
                    generalize hTT : lsT Wd Hd o no q p f k nd sv r' = TT at *
                    have HTT := hid hTT; clear hTT
                    rw [List.length_append] at hbl
                    obtain ⟨hwx, hf0, hf7⟩ := hwx
                    generalize D.getD r' N6.zero = y at *
                    have hlb : lsB q p f k sv (y.at sv) = (decide (sv ≤ gonV f k y.fr) && !metB p (y.at sv) q) := rfl
                    have HLB := hid hlb; clear hlb
                    have hf0' : 0 ≤ y.fr := hf0
                    have hf7' : y.fr ≤ 7 := hf7
                    have hof := node_of ⟨sv, y.fr, y.to, y.ce, y.di, y.co⟩
                    dsimp only at hof
                    go_wp2_with fail
                    have hW6 : Below wr.heap.size wr (wr.alloc (.cells #[.int .i64 sv, .int .i64 y.fr, .int .i64 y.to, .int .i64 y.ce, .int .i64 y.di, .int .i64 y.co] 78)) := by (repeat' (first | with_reducible assumption | with_reducible exact Below.refl _ _ | with_reducible refine Below.drew ?_ | with_reducible refine below_drewN ?_ _ | with_reducible refine balloc ?_ _ | with_reducible refine bset ?_ ?_ _ | with_reducible refine Below.setCell ?_ ?_ _ | with_reducible refine Below.alloc ?_ ?_ _ | omega | (simp; done) | (simp; omega)))
                    have X6 := Bx.new wr #[.int .i64 sv, .int .i64 y.fr, .int .i64 y.to, .int .i64 y.ce, .int .i64 y.di, .int .i64 y.co] 78
                    clear k0 k1 k2 k3 k4 k5
                    generalize wr.alloc (.cells #[.int .i64 sv, .int .i64 y.fr, .int .i64 y.to, .int .i64 y.ce, .int .i64 y.di, .int .i64 y.co] 78) = w6 at *
                    refine (hof _).mono ?_
                    rintro e w7 ⟨rfl, hb7⟩
                    have X7 := X6.below hb7
                    have hb7' := bvia hW6 hb7
                    have hC7 := bvia hC hb7'
                    have hlk := pcm_look (pcm_below hM4 hC7) hwx
                    have hgl := gom_look (gom_below hG hC7) (i := y.fr) (WalkArith.wf_i64 (by omega))
                    unfold plV N6.at at hlk
                    dsimp only at hlk
                    have x0 := X7.at_ 0 rfl; have x1 := X7.at_ 1 rfl; have x2 := X7.at_ 2 rfl; have x3 := X7.at_ 3 rfl; have x4 := X7.at_ 4 rfl; have x5 := X7.at_ 5 rfl; have lx := X7.lt
                    have hown7 := own_below hown hb7'
                    have ON7 := own_below ON hb7'
                    have hsz7 := hC7.size
                    have hlw := X7.lt
                    clear hof X6 hW6 hb7 hown
                    have hmb : metB p (y.at sv) q = metB p (⟨sv, y.fr, y.to, y.ce, y.di, y.co⟩ : N6) q := rfl
                    rw [hmb] at HLB
                    clear hmb
                    generalize metB p (⟨sv, y.fr, y.to, y.ce, y.di, y.co⟩ : N6) q = mt at *
                    generalize cntV p (⟨sv, y.fr, y.to, y.ce, y.di, y.co⟩ : N6) q = cv at *
                    generalize gonV f k y.fr = G at *
                    cases mt
                    · cases hg : decide (sv ≤ G)
                      · have hlF : lsB q p f k sv (y.at sv) = false := by rw [HLB.out, hg]; rfl
                        have HLF := hid hlF; clear hlF
                        go_wp2
                        go_roundw
                        case rel => exact ⟨r' + 1, by omega, by go_num, by rw [HT.out, HLF.out]; exact hown7, ON7, hdis, hC7⟩
                        case measure => simp [intOf]; omega
                      · have hlF : lsB q p f k sv (y.at sv) = true := by rw [HLB.out, hg]; rfl
                        have HLF := hid hlF; clear hlF
                        go_wp2_with (at_builtin; refine wpList_append_own_at _ rfl _ _ 31 rfl w4.heap.size 78 i0 _ 6 48 Tryz.underlying31 hi hz0 hz1 hz2 rfl (by decide) _ _ _ rfl (World.ownsRow.alloc hown7 _) ⟨w7.heap.size, 0, none⟩ 1 1 (N6.list (y.at sv)) rfl rfl (cells_new _ _ _) (n6_one _) (by (try simp [maxLen]); omega) (by (try simp); omega) (by (try simp); omega) ?_; intro v' w9 hown' hgrow _ hat)
                        go_roundw
                        case rel => exact ⟨r' + 1, by omega, by go_num, by rw [HT.out, HLF.out, if_pos rfl, ← List.append_assoc]; exact ownN_snoc hown', own_grown (World.ownsRow.alloc ON7 _) hgrow (fun g hg e => hdis g hg e.symm), own_dis_app ON7 hdis (by simp) hat, (balloc hC7 _).grown hgrow (by (try simp); omega) (own_base hown7)⟩
                        case measure => simp [intOf]; omega
                    · have hlF : lsB q p f k sv (y.at sv) = false := by rw [HLB.out]; simp
                      have HLF := hid hlF; clear hlF
                      go_wp2
                      go_roundw
                      case rel => exact ⟨r' + 1, by omega, by go_num, by rw [HT.out, HLF.out]; exact hown7, ON7, hdis, hC7⟩
                      case measure => simp [intOf]; omega
                  · obtain rfl : r' = D.length := (by omega)
                    go_wp2
                    go_roundw
                    case rel => exact ⟨i + 1, by rw [HSV2.out]; go_num, hi3, by rw [HS1.out, ← List.append_assoc, HLL.out, ← HLA2.out]; exact hown, ON, hdis, hC⟩
                    case measure => simp [intOf]; omega
              · have hi4 : i = cn := by omega
                subst hi4
                clear hcn hsv0 hS1
                go_wp2
                go_roundw
                case rel => exact ⟨j + 1, by omega, by go_num, by rw [HK1.out]; exact hown, hC⟩
                case measure => simp [intOf]; omega
        · obtain rfl : j = k := (by omega)
          have hfl := HFL.out
          obtain ⟨pa, ca, rfl, ⟨_, hca, SA⟩, hpn⟩ := listR_of_own2 hown
          have hso2 := node_Sorted pa _ ca _ wo hfl SA
          rw [lstN_of] at hso2
          generalize lsK Wd Hd o no q p f j fa j = L at *
          clear hpn hfl
          go_wp2_with fail
          refine hso2.mono ?_
          rintro e w9 ⟨v, rfl, O9, hb9⟩
          go_wp2
          go_ret2
          exact notePost_own O9 rfl rfl (bvia hB2 hb9)
end Go.Proofs.YtmmjaobpoiofdaaGreat
