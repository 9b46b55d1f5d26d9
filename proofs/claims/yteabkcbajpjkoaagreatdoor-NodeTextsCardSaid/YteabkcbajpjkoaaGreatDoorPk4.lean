/- Plain words: the text of notes. Walks: words, plain and Format, of the program. -/
import Derived.Test.YteabkcbajpjkoaaGreatDoorPk2
import Derived.Test.YteabkcbajpjkoaaGreatDoorShelf
import Derived.Lib.ItoaLen
import Derived.Lib.Join
import Derived.Lib.AppendIntMem
import Derived.OpenShut
import Derived.Test.YteabkcbajpjkoaaGreatDoorPk3
import Derived.Lib.SmallJoins
import Derived.Lib.AtoiAllMem
namespace Go.Proofs.YteabkcbajpjkoaaGreatDoor
open Go Go.RowKit
set_option linter.unusedVariables false
set_option linter.unusedSimpArgs false
theorem tab_below {w w' : World} (h : Lib.TabIs Tryz.prog w "internal/strconv.uint64pow10" .u64 Lib.pow10Tab) (hb : Below w.heap.size w w') : Lib.TabIs Tryz.prog w' "internal/strconv.uint64pow10" .u64 Lib.pow10Tab := Lib.tabBelow_of_tabIs h w' hb
theorem below_sgrow (w : World) (k : Nat) (os : Array Obj) : Below w.heap.size w (Sort.grow (w.drewN k) os) :=
  ⟨rfl, rfl, rfl, by simp [Sort.grow], fun b hb => by
    show (w.heap ++ os)[b]? = _
    rw [Array.getElem?_append_left hb]⟩
theorem itoa_calls (n : Int) (h0 : -9223372036854775808 ≤ n) (h1 : n ≤ 9223372036854775807) (w : World) (HT : Lib.TabIs Tryz.prog w "internal/strconv.uint64pow10" .u64 Lib.pow10Tab) :
    Calls Tryz.prog 30 #[.int .i64 n] w fun e w' => e = .returned (.string ⟨(Lib.itoa n).toArray⟩) ∧ Below w.heap.size w w' :=
  (Tryz.strconv_Itoa n h0 h1 w HT).mono fun e w' ⟨he, k, os, hw⟩ => ⟨he, by rw [hw]; exact below_sgrow w k os⟩
def itsN (x : N6) (k : Nat) : List (List UInt8) := (List.range k).map fun j => Lib.itoa (x.get j)
def wordsN (x : N6) : List UInt8 := Lib.join (itsN x 6) [32]
def plainN (x : N6) : Bool := decide (0 ≤ x.st) && decide (0 ≤ x.fr) && decide (0 ≤ x.to) && decide (0 ≤ x.ce) && decide (0 ≤ x.di) && decide (0 ≤ x.co)
theorem itsN_succ (x : N6) (k : Nat) : itsN x (k + 1) = itsN x k ++ [Lib.itoa (x.get k)] := by simp [itsN, List.range_succ]
theorem itsN_length (x : N6) (k : Nat) : (itsN x k).length = k := by simp [itsN]
theorem wf_range {n : Int} (h : (Lit.int .i64 n).wf = true) : -9223372036854775808 ≤ n ∧ n ≤ 9223372036854775807 := by
  exact bounds_i64 h
def minN (x : N6) : Int := [x.fr, x.to, x.ce, x.di, x.co].foldl (fun m y => if y < m then y else m) x.st
theorem minN_plain (x : N6) : decide (0 ≤ minN x) = plainN x := by
  simp only [minN, List.foldl, plainN]
  rw [Bool.eq_iff_iff]
  simp only [decide_eq_true_eq, Bool.and_eq_true]
  constructor
  · intro h
    repeat' split at h
    all_goals (refine ⟨⟨⟨⟨⟨?_, ?_⟩, ?_⟩, ?_⟩, ?_⟩, ?_⟩ <;> omega)
  · rintro ⟨⟨⟨⟨⟨h1, h2⟩, h3⟩, h4⟩, h5⟩, h6⟩
    repeat' split
    all_goals assumption
theorem run_min6 (ts : Array TypeId) (t : TypeId) (x : N6) (W : World) : (Builtin.min_ ts t #[.int .i64 x.st, .int .i64 x.fr, .int .i64 x.to, .int .i64 x.ce, .int .i64 x.di, .int .i64 x.co]).run Tryz.prog W = .ok (.int .i64 (minN x)) W := by
  simp [Builtin.min_, Builtin.min2, minN]
set_option maxRecDepth 100000 in
theorem node_plain (x : N6) (w : World) : Calls Tryz.prog 19 #[.agg #[.int .i64 x.st, .int .i64 x.fr, .int .i64 x.to, .int .i64 x.ce, .int .i64 x.di, .int .i64 x.co]] w fun e w' => e = .returned (.bool (plainN x)) ∧ Below w.heap.size w w' := by
  have hmin := fun ts t W => run_min6 ts t x W
  rw [← minN_plain]
  generalize minN x = M at *
  have X0 := Bx.new w #[.int .i64 x.st, .int .i64 x.fr, .int .i64 x.to, .int .i64 x.ce, .int .i64 x.di, .int .i64 x.co] 30
  have hB0 : Below w.heap.size w (w.alloc (.cells #[.int .i64 x.st, .int .i64 x.fr, .int .i64 x.to, .int .i64 x.ce, .int .i64 x.di, .int .i64 x.co] 30)) := by (repeat' (first | with_reducible assumption | with_reducible exact Below.refl _ _ | with_reducible refine Below.drew ?_ | with_reducible refine below_drewN ?_ _ | with_reducible refine balloc ?_ _ | with_reducible refine bset ?_ ?_ _ | with_reducible refine Below.setCell ?_ ?_ _ | with_reducible refine Below.alloc ?_ ?_ _ | omega | (simp; done) | (simp; omega)))
  go_enter Tryz.func19, Tryz.ntmps19
  go_wp2_with fail
  go_ret
  exact ⟨by simp, by (repeat' (first | with_reducible assumption | with_reducible exact Below.refl _ _ | with_reducible refine Below.drew ?_ | with_reducible refine below_drewN ?_ _ | with_reducible refine balloc ?_ _ | with_reducible refine bset ?_ ?_ _ | with_reducible refine Below.setCell ?_ ?_ _ | with_reducible refine Below.alloc ?_ ?_ _ | omega | (simp; done) | (simp; omega)))⟩
/-- an own row of texts, as a slice -/
theorem own_strs {w : World} {base : Nat} {v : Value} {xs : List (List UInt8)} (h : w.ownsRow base 9 1 v xs.length (xs.map vStr)) (h0 : 0 < xs.length) :
    ∃ g cap, v = .slice (some ⟨g, 0, none⟩) xs.length cap ∧ xs.length ≤ cap ∧ g < w.heap.size ∧ ∀ (j : Nat) x, (xs.map fun l => (⟨l.toArray⟩ : ByteArray))[j]? = some x → w.cell? ⟨g, 0 + j, none⟩ = some (.string x) := by
  rcases h.2 with ⟨rfl, h0'⟩ | ⟨g, cap, cur, rfl, hb, hh, hn, hm, hc, ht⟩
  · omega
  · refine ⟨g, cap, rfl, by omega, ?_, fun j x hx => ?_⟩
    · rcases Nat.lt_or_ge g w.heap.size with h' | h'
      · exact h'
      · rw [Array.getElem?_eq_none h'] at hh; cases hh
    · have hj : j < xs.length := by
        have := (List.getElem?_eq_some_iff.1 hx).1
        simpa using this
      rw [Nat.zero_add, cell_of_row w g j cur 9 (0, 0) hh]
      have h1 : (cur.toList.take (xs.length * 1))[j]? = (xs.map vStr)[j]? := by rw [ht]
      rw [List.getElem?_take, if_pos (by omega), List.getElem?_map, List.getElem?_eq_getElem hj] at h1
      rw [List.getElem?_map, List.getElem?_eq_getElem hj] at hx
      injection hx with hx
      subst hx
      show cur[j]? = _
      simpa [vStr] using h1
theorem itsN_bytes (x : N6) (k : Nat) : ((itsN x k).map fun l => (⟨l.toArray⟩ : ByteArray)).map (·.data.toList) = itsN x k := by simp [Function.comp_def]
theorem itsN_le {x : N6} (hx : wfN x) : ∀ l ∈ itsN x 6, l.length ≤ 21 := fun l hl => by
  obtain ⟨j, hj, rfl⟩ := List.mem_map.1 hl
  have := wf_range (hx j (List.mem_range.1 hj))
  exact Lib.itoa_length_le _ this.1 this.2
theorem wordsN_le {x : N6} (hx : wfN x) : (wordsN x).length ≤ 131 := by
  unfold wordsN
  have h := itsN_le hx
  have e : itsN x 6 = [Lib.itoa x.st, Lib.itoa x.fr, Lib.itoa x.to, Lib.itoa x.ce, Lib.itoa x.di, Lib.itoa x.co] := rfl
  rw [e] at h ⊢
  simp [Lib.join, List.intercalate] at h ⊢
  omega
set_option maxRecDepth 100000 in
set_option maxHeartbeats 4000000 in
theorem node_words (x : N6) (w : World) (hx : wfN x) (HT : Lib.TabIs Tryz.prog w "internal/strconv.uint64pow10" .u64 Lib.pow10Tab) : Calls Tryz.prog 15 #[.agg #[.int .i64 x.st, .int .i64 x.fr, .int .i64 x.to, .int .i64 x.ce, .int .i64 x.di, .int .i64 x.co]] w fun e w' => e = .returned (.string ⟨(wordsN x).toArray⟩) ∧ Below w.heap.size w w' := by
  obtain ⟨i0, hi, hz0, hz1, hz2⟩ := info_parts infoStr
  have hjl := fun g cap Y hc hg hcap => Tryz.strings_Join g 0 cap ((itsN x 6).map fun l => (⟨l.toArray⟩ : ByteArray)) ⟨#[32]⟩ Y hc hg (by simp [itsN]) hcap (by rw [itsN_bytes]; have := wordsN_le hx; unfold wordsN at this; exact Nat.le_trans this (by decide))
  rw [itsN_bytes, List.length_map, itsN_length, show (ByteArray.mk #[32]).data.toList = [32] from rfl] at hjl
  change ∀ g cap Y hc hg hcap, Calls _ _ _ _ fun e w' => e = .returned (.string ⟨(wordsN x).toArray⟩) ∧ _ at hjl
  have hit := fun k (hk : k < 6) Y HY => itoa_calls (x.get k) (wf_range (hx k hk)).1 (wf_range (hx k hk)).2 Y HY
  have hsn := fun k => itsN_succ x k
  have hln := fun k => itsN_length x k
  have h6 := fun (B : Nat) (Y : World) (v : Value) (h : Y.ownsRow B 9 1 v (itsN x 6).length ((itsN x 6).map vStr)) => own_strs h (by rw [itsN_length]; omega)
  rw [itsN_length] at h6
  have HSN := hid hsn; have HIT := hid hit; have HJL := hid hjl; have H6 := hid h6; have HLN := hid hln
  clear hsn hit hjl h6 hln
  have X0 := Bx.new w #[.int .i64 x.st, .int .i64 x.fr, .int .i64 x.to, .int .i64 x.ce, .int .i64 x.di, .int .i64 x.co] 30
  have hB0 : Below w.heap.size w (w.alloc (.cells #[.int .i64 x.st, .int .i64 x.fr, .int .i64 x.to, .int .i64 x.ce, .int .i64 x.di, .int .i64 x.co] 30)) := by (repeat' (first | with_reducible assumption | with_reducible exact Below.refl _ _ | with_reducible refine Below.drew ?_ | with_reducible refine below_drewN ?_ _ | with_reducible refine balloc ?_ _ | with_reducible refine bset ?_ ?_ _ | with_reducible refine Below.setCell ?_ ?_ _ | with_reducible refine Below.alloc ?_ ?_ _ | omega | (simp; done) | (simp; omega)))
  go_enter Tryz.func15, Tryz.ntmps15
  go_wp2_with fail
  have XI := Bx.new (w.alloc (.cells #[.int .i64 x.st, .int .i64 x.fr, .int .i64 x.to, .int .i64 x.ce, .int .i64 x.di, .int .i64 x.co] 30)) #[.int .i64 x.st, .int .i64 x.fr, .int .i64 x.to, .int .i64 x.ce, .int .i64 x.di, .int .i64 x.co] 3
  simp only [World.size_alloc] at XI
  have hB1 := balloc hB0 (.cells #[.int .i64 x.st, .int .i64 x.fr, .int .i64 x.to, .int .i64 x.ce, .int .i64 x.di, .int .i64 x.co] 3)
  generalize (w.alloc (.cells #[.int .i64 x.st, .int .i64 x.fr, .int .i64 x.to, .int .i64 x.ce, .int .i64 x.di, .int .i64 x.co] 30)).alloc (.cells #[.int .i64 x.st, .int .i64 x.fr, .int .i64 x.to, .int .i64 x.ce, .int .i64 x.di, .int .i64 x.co] 3) = W1 at XI hB1 ⊢
  have hcell : ∀ k, k < 6 → W1.cell? ⟨w.heap.size + 1, k, none⟩ = some (.int .i64 (x.get k)) := fun k hk => by
    rcases (by omega : k = 0 ∨ k = 1 ∨ k = 2 ∨ k = 3 ∨ k = 4 ∨ k = 5) with rfl | rfl | rfl | rfl | rfl | rfl
    · exact XI.at_ 0 rfl
    · exact XI.at_ 1 rfl
    · exact XI.at_ 2 rfl
    · exact XI.at_ 3 rfl
    · exact XI.at_ 4 rfl
    · exact XI.at_ 5 rfl
  have HT1 := tab_below HT hB1
  have HC := hid hcell
  have li := XI.lt
  clear hcell X0 hB0 XI
  go_loopw [3, 20] (fun v i wr => ∃ k : Nat, k ≤ 6 ∧ i = .int .i64 (k : Int) ∧ wr.ownsRow W1.heap.size 9 1 v (itsN x k).length ((itsN x k).map vStr) ∧ Below W1.heap.size W1 wr) (fun _ i _ => 6 - (intOf i).toNat)
  case atStart => exact ⟨0, Nat.zero_le _, rfl, World.ownsRow_nil .., Below.refl _ _⟩
  case round =>
    obtain ⟨k, hk, rfl, hown, hB⟩ := hrel
    have hsz := hB.size
    by_cases hlt : k < 6
    · have ck := (bcell hB _ _ li).trans (HC.out k hlt)
      go_wp2_with fail
      refine (HIT.out k hlt _ (tab_below HT1 hB)).mono ?_
      rintro e w2 ⟨rfl, hb2⟩
      replace hown := own_below hown hb2
      have hB2 := bvia hB hb2
      have hsz2 := hb2.size
      have hln := HLN.out k
      go_wp2_with (at_builtin; refine wpList_append_own _ rfl _ _ 41 rfl (W1.heap.size) 9 i0 (.string ⟨#[]⟩) 1 16 Tryz.underlying41 hi hz0 hz1 hz2 rfl (by decide) _ _ _ rfl ((hown).alloc _) ⟨w2.heap.size, 0, none⟩ 1 1 [.string ⟨((Lib.itoa (x.get k))).toArray⟩] rfl rfl (cell_one_new _ _ _) (by simp [Value.oneCell']) (by simp [maxLen]; omega) (by omega) (by simp; omega) ?_; intro v' w3 hown' hgrow _)
      go_roundw
      case rel => exact ⟨k + 1, by omega, by go_num, by rw [HSN.out]; exact owns_snoc hown', (hB2.alloc (by omega) _).grown hgrow (by simp; omega) (own_base hown)⟩
      case measure => simp [intOf]; omega
    · obtain rfl : k = 6 := (by omega)
      rw [HLN.out] at hown
      obtain ⟨g, cap, rfl, hcap, hg, hcs⟩ := H6.out _ _ _ hown
      go_wp2_with fail
      refine (HJL.out g cap _ hcs hg hcap).mono ?_
      rintro e w2 ⟨rfl, hb2⟩
      go_wp2_with fail
      go_ret
      exact ⟨rfl, bvia (hB1.trans (hB.mono hB1.size)) hb2⟩
theorem bldAt_below {T e : TypeId} {B b : Nat} {p : Value} {bs : List Value} {X Y : World} (h : Lib.BuilderAt T e B b p bs X) (hb : Below X.heap.size X Y) : Lib.BuilderAt T e B b p bs Y := by
  obtain ⟨h1, v, h2, h3, h4⟩ := h
  have hlt : b < X.heap.size := by
    rcases Nat.lt_or_ge b X.heap.size with h' | h'
    · exact h'
    · rw [Array.getElem?_eq_none h'] at h2; cases h2
  exact ⟨h1, v, (hb.block b hlt).trans h2, own_below h3 hb, h4⟩
theorem isBld_below {T e : TypeId} {B b : Nat} {bs : List Value} {X Y : World} (h : Lib.IsBuilder T e B b bs X) (hb : Below X.heap.size X Y) : Lib.IsBuilder T e B b bs Y := h.imp (bldAt_below · hb) (bldAt_below · hb)
theorem str_cells (l : List UInt8) : Lib.strCells ⟨l.toArray⟩ = Lib.byteCells l := by simp [Lib.strCells, Lib.byteCells]
theorem str_addN (x y : List UInt8) (h : x.length + y.length ≤ 1000000000) (W : World) : (Op.stringOp .add ⟨x.toArray⟩ ⟨y.toArray⟩).run Tryz.prog W = .ok (.string ⟨(x ++ y).toArray⟩) W := by
  rw [run_string_add_sum W _ _ (by simp [ByteArray.size]; omega), ByteArray.mk_append_mk]
/-- the text of the first k notes -/
def fmtF (p : Nat → N6) : Nat → List UInt8 | 0 => [] | k + 1 => fmtF p k ++ (wordsN (p k) ++ [10])
def allP (p : Nat → N6) (q : Nat) : Bool := (List.range q).all fun k => plainN (p k)
def fmtN (p : Nat → N6) (q : Nat) : List UInt8 := if q ≤ 100000 then (if allP p q then fmtF p q else []) else []
theorem fmtF_le {p : Nat → N6} : ∀ {q : Nat}, (∀ k, k < q → wfN (p k)) → (fmtF p q).length ≤ 132 * q
  | 0, _ => by simp [fmtF]
  | q + 1, h => by
    have h1 := fmtF_le (q := q) fun k hk => h k (by omega)
    have h2 := wordsN_le (h q (by omega))
    simp only [fmtF, List.length_append, List.length_singleton]
    omega
theorem allP_no {p : Nat → N6} {q k : Nat} (hk : k < q) (h : plainN (p k) = false) : allP p q = false := by
  cases e : allP p q
  · rfl
  · rw [List.all_eq_true.1 e k (List.mem_range.2 hk)] at h; cases h
set_option maxRecDepth 100000 in
set_option maxHeartbeats 4000000 in
theorem node_Format (a : Option Addr) (q c : Nat) (p : Nat → N6) (w : World) (SP : Sn w a q p) (hw : ∀ k, k < q → wfN (p k)) (HT : Lib.TabIs Tryz.prog w "internal/strconv.uint64pow10" .u64 Lib.pow10Tab) : Calls Tryz.prog 8 #[.slice a q c] w fun e w' => e = .returned (.string ⟨(fmtN p q).toArray⟩) ∧ Below w.heap.size w w' := by
  by_cases hq : 100000 < q
  · have hqi : (100000 : Int) < (q : Int) := by omega
    have e : fmtN p q = [] := if_neg (by omega)
    rw [e]
    go_enter Tryz.func8, Tryz.ntmps8
    go_wp2_with fail
    go_ret
    exact ⟨rfl, Below.refl _ _⟩
  have hqi : ¬ (100000 : Int) < (q : Int) := by omega
  have e : fmtN p q = if allP p q then fmtF p q else [] := if_pos (by omega)
  obtain ⟨R, hR⟩ : ∃ R, fmtN p q = R := ⟨_, rfl⟩
  rw [hR]
  rw [e] at hR
  have HR := hid hR
  clear e hR
  have HW := hid hw; clear hw
  go_enter Tryz.func8, Tryz.ntmps8
  go_wp2_with fail
  have hbld : Lib.IsBuilder 55 5 w.heap.size w.heap.size (Lib.byteCells (fmtF p 0)) (w.alloc (.cells #[.pointer none, .slice none 0 0] 55)) := Lib.fresh_isBuilder 55 5 w
  have hb2 := below_alloc w (.cells #[.pointer none, .slice none 0 0] 55)
  generalize w.alloc (.cells #[.pointer none, .slice none 0 0] 55) = w2 at *
  go_loopw [11] (fun s wr => ∃ i : Nat, i ≤ q ∧ s = .int .i64 (i : Int) ∧ (∀ j, j < i → plainN (p j) = true) ∧ Lib.IsBuilder 55 5 w.heap.size w.heap.size (Lib.byteCells (fmtF p i)) wr ∧ Below w.heap.size w wr) (fun s _ => q - (intOf s).toNat)
  case atStart => exact ⟨0, Nat.zero_le _, rfl, fun j hj => by omega, hbld, hb2⟩
  case round =>
    clear hbld hb2
    obtain ⟨i, hi, rfl, hpl, hbld, hb2⟩ := hrel
    have hsz := hb2.size
    have HPL := hid hpl; clear hpl
    by_cases hlt : i < q
    · obtain ⟨b, o, rfl, hbb, hc⟩ := (SP.below hb2) i hlt
      have c0 := hc 0 (by omega); have c1 := hc 1 (by omega); have c2 := hc 2 (by omega); have c3 := hc 3 (by omega); have c4 := hc 4 (by omega); have c5 := hc 5 (by omega)
      simp only [N6.get, Nat.add_zero] at c0 c1 c2 c3 c4 c5
      have hpn := fun Y => node_plain (p i) Y
      have hwo := fun Y HY => node_words (p i) Y (HW.out i hlt) HY
      have hl1 := wordsN_le (HW.out i hlt)
      have hl2 := fmtF_le (q := i) fun k hk => HW.out k (by omega)
      have had := fun W => str_addN (wordsN (p i)) [10] (by simp; omega) W
      have hns : fmtF p (i + 1) = fmtF p i ++ (wordsN (p i) ++ [10]) := rfl
      have HNS := hid hns
      have hpe : plainN (p i) = false → allP p q = false := fun h => allP_no hlt h
      have HPE := hid hpe
      have HPI := hid (show plainN (p i) = plainN (p i) from rfl)
      generalize hx : p i = x at c0 c1 c2 c3 c4 c5 hpn hwo hl1 had HNS HPE
      have HX := hid hx
      clear hx hc hns hpe HPI
      have B3 := hb2.alloc hsz (.cells #[.int .i64 x.st, .int .i64 x.fr, .int .i64 x.to, .int .i64 x.ce, .int .i64 x.di, .int .i64 x.co] 30)
      have bld3 := isBld_below hbld (below_alloc wr (.cells #[.int .i64 x.st, .int .i64 x.fr, .int .i64 x.to, .int .i64 x.ce, .int .i64 x.di, .int .i64 x.co] 30))
      have X3 := Bx.new wr #[.int .i64 x.st, .int .i64 x.fr, .int .i64 x.to, .int .i64 x.ce, .int .i64 x.di, .int .i64 x.co] 30
      cases hp : plainN x
      · rw [hp] at hpn
        have hpe := HPE.out hp
        have HE := hid hpe; clear hpe
        go_wp2_with fail
        refine (hpn _).mono ?_
        rintro e w4 ⟨rfl, hb4⟩
        go_wp2_with fail
        go_ret
        have hr := HR.out
        rw [HE.out] at hr
        subst hr
        exact ⟨rfl, bvia B3 hb4⟩
      · rw [hp] at hpn
        go_wp2_with fail
        refine (hpn _).mono ?_
        rintro e w4 ⟨rfl, hb4⟩
        have B4 := bvia B3 hb4
        have bld4 := isBld_below bld3 hb4
        have X4 := X3.below hb4
        have x0 := X4.at_ 0 rfl; have x1 := X4.at_ 1 rfl; have x2 := X4.at_ 2 rfl; have x3 := X4.at_ 3 rfl; have x4 := X4.at_ 4 rfl; have x5 := X4.at_ 5 rfl; have xz := X4.lt
        clear c0 c1 c2 c3 c4 c5 hpn B3 bld3 X3 hbld
        go_wp2_with fail
        refine (hwo _ (tab_below HT B4)).mono ?_
        rintro e w5 ⟨rfl, hb5⟩
        have B5 := bvia B4 hb5
        have bld5 := isBld_below bld4 hb5
        have hws := Tryz.Builder_WriteString w.heap.size w.heap.size (Lib.byteCells (fmtF p i)) ⟨(wordsN x ++ [10]).toArray⟩ w5 bld5 (by rw [Lib.byteCells_length, vStr_size, List.length_append]; simp; omega) B5.size
        rw [str_cells, ← Lib.byteCells_append, ← HNS.out] at hws
        clear x0 x1 x2 x3 x4 x5 xz
        go_wp2_with fail
        refine hws.mono ?_
        rintro e w6 ⟨rfl, bld6, hb6⟩
        go_wp2_with fail
        go_roundw
        case rel => exact ⟨i + 1, by omega, by go_num, (fun j hj => by
          rcases Nat.lt_succ_iff_lt_or_eq.1 hj with h | rfl
          · exact HPL.out j h
          · rw [HX.out]; exact hp), .inr bld6, B5.trans hb6⟩
        case measure => simp [intOf]; omega
    · obtain rfl : i = q := (by omega)
      have hs := Tryz.Builder_String_any w.heap.size w.heap.size (fmtF p i) wr hbld hb2.size
      have HE := hid (show allP p i = true from List.all_eq_true.2 fun k hk => HPL.out k (List.mem_range.1 hk))
      go_wp2_with fail
      refine hs.mono ?_
      rintro e w3 ⟨rfl, hb3⟩
      go_wp2_with fail
      go_ret
      have hr := HR.out
      rw [HE.out] at hr
      subst hr
      exact ⟨rfl, hb2.trans hb3⟩
end Go.Proofs.YteabkcbajpjkoaaGreatDoor
/- Walks: the reference's Words; the library's Cut at a mark of one byte. -/
namespace Go.Proofs.YteabkcbajpjkoaaGreatDoor
open Go Go.RowKit
set_option linter.unusedVariables false
theorem drop_next {l : List UInt8} {i : Nat} (hi : i < l.length) : l.drop i = l.getD i 0 :: l.drop (i + 1) := by
  rw [List.drop_eq_getElem_cons hi, List.getD_eq_getElem?_getD, List.getElem?_eq_getElem hi]; rfl
def WordsPost (l : List UInt8) (m : UInt8) (w : World) (e : Ending) (w' : World) : Prop :=
  ∃ a c, e = .returned (.slice a (wordsL m l).length c) ∧ Sst w' a (wordsL m l).length (fun k => (wordsL m l).getD k []) ∧ Below w.heap.size w w'
theorem words_length (m : UInt8) : ∀ l : List UInt8, (wordsL m l).length ≤ l.length + 1
  | [] => by simp [wordsL]
  | c :: t => by
    have ih := words_length m t
    simp only [wordsL]
    split
    · simp; omega
    · cases h : wordsL m t with
      | nil => simp [consW]
      | cons w ws => rw [h] at ih; simp only [consW, List.length_cons] at *; omega
set_option maxRecDepth 100000 in
set_option maxHeartbeats 4000000 in
theorem ref1_words (l : List UInt8) (m : UInt8) (w : World) (hl : l.length ≤ 1000000) :
    Calls Tryz.prog 16 #[.string ⟨l.toArray⟩, .int .u8 (m.toNat : Int)] w (WordsPost l m w) := by
  obtain ⟨i0, hi, hz0, hz1, hz2⟩ := info_parts infoStr
  have hwl := words_length m l
  go_enter Tryz.func16, Tryz.ntmps16
  go_wp2_with fail
  go_loopw [5, 6, 7] (fun v s6 s7 wr => ∃ (ws : List (List UInt8)) (p : List UInt8) (i : Nat), i ≤ l.length ∧ p.length ≤ i ∧ s7 = .int .i64 (i : Int) ∧ s6 = .int .i64 ((i - p.length : Nat) : Int) ∧ wr.ownsRow w.heap.size 9 1 v ws.length (ws.map vStr) ∧
    l.drop (i - p.length) = p ++ l.drop i ∧ (∀ c ∈ p, c ≠ m) ∧ wordsL m l = ws ++ wordsL m (p ++ l.drop i) ∧ Below w.heap.size w wr) (fun _ _ s7 _ => l.length - (intOf s7).toNat)
  case atStart => exact ⟨[], [], 0, Nat.zero_le _, Nat.zero_le _, rfl, rfl, World.ownsRow_nil .., rfl, by simp, by simp, Below.refl _ _⟩
  case round =>
    obtain ⟨ws, p, i, hil, hpi, rfl, rfl, hown, hdp, hnm, hws, hb⟩ := hrel
    have hsz := hb.size
    by_cases hlt : i < l.length
    · have hat := fun W => str_at l i hlt W
      have hdn := drop_next hlt
      have HDN := hid hdn; have HWS := hid hws; have HDP := hid hdp
      clear hdn hws hdp
      by_cases hc : l.getD i 0 = m
      · have hcut := fun W => str_cut l (i - p.length) i (by omega) (by omega) W
        have e : (l.drop (i - p.length)).take (i - (i - p.length)) = p := by rw [HDP.out, show i - (i - p.length) = p.length by omega, List.take_left]
        rw [e] at hcut
        rw [hc] at hat
        have hl2 : ws.length ≤ 1000001 := by
          have := congrArg List.length HWS.out
          rw [List.length_append] at this
          omega
        have i1 : (0 : Int) ≤ ((i - p.length : Nat) : Int) := by omega
        have i2 : ((i - p.length : Nat) : Int) ≤ (i : Int) := by omega
        have i3 : (i : Int) ≤ (l.length : Int) := by omega
        have i4 : (i : Int) < (l.length : Int) := by omega
        have hmm : ((m.toNat : Int) == (m.toNat : Int)) = true := by simp
        generalize i - p.length = f at *
        go_wp2_with (at_builtin; refine wpList_append_own _ rfl _ _ 41 rfl (w.heap.size) 9 i0 (.string ⟨#[]⟩) 1 16 Tryz.underlying41 hi hz0 hz1 hz2 rfl (by decide) _ _ _ rfl ((hown).alloc _) ⟨wr.heap.size, 0, none⟩ 1 1 [.string ⟨(p).toArray⟩] rfl rfl (cell_one_new _ _ _) (by simp [Value.oneCell']) (by simp [maxLen]; omega) (by omega) (by simp; omega) ?_; intro v' w1 hown' hgrow _)
        go_roundw
        case rel => exact ⟨ws ++ [p], [], i + 1, by omega, by simp, by go_num, by go_num, owns_snoc hown', rfl, by simp, (by
          rw [HWS.out, HDN.out, hc, words_mark hnm]; simp), (hb.alloc hsz _).grown hgrow (by simp; omega) (own_base hown)⟩
        case measure => simp [intOf]; omega
      · have hne : (((l.getD i 0).toNat : Int) == (m.toNat : Int)) = false := by
          rw [beq_eq_false_iff_ne]
          intro h
          exact hc (UInt8.toNat.inj (by omega))
        have i4 : (i : Int) < (l.length : Int) := by omega
        have HC := hid hc; clear hc
        generalize l.getD i 0 = x at *
        go_wp2_with fail
        go_roundw
        case rel => exact ⟨ws, p ++ [x], i + 1, by omega, (by rw [List.length_append]; show p.length + 1 ≤ i + 1; omega), by go_num, (by rw [List.length_append, show i + 1 - (p.length + [x].length) = i - p.length by (show i + 1 - (p.length + 1) = _; omega)]), hown, (by
          rw [List.length_append, show i + 1 - (p.length + [x].length) = i - p.length by (show i + 1 - (p.length + 1) = _; omega), HDP.out, HDN.out]; simp), (fun c hc => by
          rcases List.mem_append.1 hc with hc | hc
          · exact hnm c hc
          · rw [List.mem_singleton.1 hc]; exact HC.out), (by rw [HWS.out, HDN.out]; simp), hb⟩
        case measure => simp [intOf]; omega
    · obtain rfl : i = l.length := (by omega)
      have hfr := fun W => str_from l (l.length - p.length) (by omega) W
      have hd0 : l.drop l.length = [] := List.drop_length
      rw [hdp, hd0, List.append_nil] at hfr
      rw [hd0, List.append_nil, words_none hnm] at hws
      have hl2 : ws.length ≤ 1000001 := by
        have := congrArg List.length hws
        rw [List.length_append] at this
        omega
      have HWS := hid hws
      have i1 : (0 : Int) ≤ ((l.length - p.length : Nat) : Int) := by omega
      have i2 : ((l.length - p.length : Nat) : Int) ≤ (l.length : Int) := by omega
      clear hws hdp hd0
      generalize l.length - p.length = f at *
      go_wp2_with (at_builtin; refine wpList_append_own _ rfl _ _ 41 rfl (w.heap.size) 9 i0 (.string ⟨#[]⟩) 1 16 Tryz.underlying41 hi hz0 hz1 hz2 rfl (by decide) _ _ _ rfl ((hown).alloc _) ⟨wr.heap.size, 0, none⟩ 1 1 [.string ⟨(p).toArray⟩] rfl rfl (cell_one_new _ _ _) (by simp [Value.oneCell']) (by simp [maxLen]; omega) (by omega) (by simp; omega) ?_; intro v' w1 hown' hgrow _)
      go_ret
      have ho := owns_snoc hown'
      rw [← HWS.out] at ho
      obtain ⟨a, c, rfl, hs⟩ := sst_of_own ho
      exact ⟨a, c, rfl, hs, (hb.alloc hsz _).grown hgrow (by simp; omega) (own_base hown)⟩
theorem idx_none {m : UInt8} : ∀ {l : List UInt8}, (∀ c ∈ l, c ≠ m) → Lib.indexByte l m = -1
  | [], _ => rfl
  | c :: t, h => by
    have h1 : (c == m) = false := by rw [beq_eq_false_iff_ne]; exact h c (by simp)
    have ih := idx_none (m := m) (l := t) (fun x hx => h x (List.mem_cons_of_mem _ hx))
    simp [Lib.indexByte, h1, ih]
theorem idx_mark {m : UInt8} {t : List UInt8} : ∀ {p : List UInt8}, (∀ c ∈ p, c ≠ m) → Lib.indexByte (p ++ m :: t) m = (p.length : Int)
  | [], _ => by simp [Lib.indexByte]
  | c :: p, h => by
    have h1 : (c == m) = false := by rw [beq_eq_false_iff_ne]; exact h c (by simp)
    have ih := idx_mark (m := m) (t := t) (p := p) (fun x hx => h x (by simp [hx]))
    have h2 : ((p.length : Int) == -1) = false := by rw [beq_eq_false_iff_ne]; omega
    simp [Lib.indexByte, h1, ih, h2]
set_option maxRecDepth 100000 in
set_option maxHeartbeats 4000000 in
theorem stringslite_cut_no (l : List UInt8) (m : UInt8) (w : World) (h : ∀ c ∈ l, c ≠ m) :
    Calls Tryz.prog 26 #[.string ⟨l.toArray⟩, .string ⟨#[m]⟩] w fun e w' => e = .returned (.tuple #[.string ⟨l.toArray⟩, .string ⟨#[]⟩, .bool false]) ∧ Below w.heap.size w w' := by
  have hix := fun W => Tryz.stringslite_Index_one ⟨l.toArray⟩ m W
  rw [show (ByteArray.mk l.toArray).data.toList = l from rfl, idx_none h] at hix
  go_enter Tryz.func26, Tryz.ntmps26
  go_wp2_with fail
  refine (hix _).mono ?_
  rintro e w' ⟨rfl, rfl⟩
  go_wp2_with fail
  go_ret3
  exact ⟨rfl, Below.refl _ _⟩
set_option maxRecDepth 100000 in
set_option maxHeartbeats 4000000 in
theorem stringslite_cut_yes (p t : List UInt8) (m : UInt8) (w : World) (h : ∀ c ∈ p, c ≠ m) (hl : (p ++ m :: t).length ≤ 1000000000) :
    Calls Tryz.prog 26 #[.string ⟨(p ++ m :: t).toArray⟩, .string ⟨#[m]⟩] w fun e w' => e = .returned (.tuple #[.string ⟨p.toArray⟩, .string ⟨t.toArray⟩, .bool true]) ∧ Below w.heap.size w w' := by
  have hix := fun W => Tryz.stringslite_Index_one ⟨(p ++ m :: t).toArray⟩ m W
  rw [show (ByteArray.mk (p ++ m :: t).toArray).data.toList = p ++ m :: t from by simp, idx_mark h] at hix
  have hto := fun W => str_to (p ++ m :: t) p.length (by simp) W
  rw [List.take_left] at hto
  have hfr := fun W => str_from (p ++ m :: t) (p.length + 1) (by simp) W
  rw [show (p ++ m :: t).drop (p.length + 1) = t from by rw [← List.drop_drop, List.drop_left]; rfl, show (((p.length + 1 : Nat)) : Int) = (p.length : Int) + 1 from by omega] at hfr
  rw [List.length_append, List.length_cons] at hl
  have i1 : (0 : Int) ≤ (p.length : Int) := by omega
  have i2 : IntKind.i64.wrap ((p.length : Int) + 1) = (p.length : Int) + 1 := IntWalk.i64_in _ ⟨by omega, by omega⟩
  generalize hL : p ++ m :: t = L at *
  have i3 : (p.length : Int) ≤ (L.length : Int) := by rw [← hL]; simp; omega
  have i4 : (p.length : Int) + 1 ≤ (L.length : Int) := by rw [← hL]; simp; omega
  clear hL
  go_enter Tryz.func26, Tryz.ntmps26
  go_wp2_with fail
  refine (hix _).mono ?_
  rintro e w' ⟨rfl, rfl⟩
  go_upto_region 3 with (fail)
  go_region_held3 (fun Y => Below w'.heap.size w' Y) ((((repeat' (first | with_reducible assumption | with_reducible exact Below.refl _ _ | with_reducible refine Below.drew ?_ | with_reducible refine below_drewN ?_ _ | with_reducible refine balloc ?_ _ | with_reducible refine bset ?_ ?_ _ | with_reducible refine Below.setCell ?_ ?_ _ | with_reducible refine Below.alloc ?_ ?_ _ | omega | (simp; done) | (simp; omega)))))) ((fail))
  go_wp2_with fail
  go_ret3
  exact ⟨rfl, (Below.refl _ _).drew⟩
theorem strings_cut_no (l : List UInt8) (m : UInt8) (w : World) (h : ∀ c ∈ l, c ≠ m) :
    Calls Tryz.prog 11 #[.string ⟨l.toArray⟩, .string ⟨#[m]⟩] w fun e w' => e = .returned (.tuple #[.string ⟨l.toArray⟩, .string ⟨#[]⟩, .bool false]) ∧ Below w.heap.size w w' := by
  have hc := fun W => stringslite_cut_no l m W h
  go_enter Tryz.func11, Tryz.ntmps11
  go_wp2_with fail
  refine (hc _).mono ?_
  rintro e w' ⟨rfl, hb⟩
  go_wp2_with fail
  go_ret3
  exact ⟨rfl, hb⟩
theorem strings_cut_yes (p t : List UInt8) (m : UInt8) (w : World) (h : ∀ c ∈ p, c ≠ m) (hl : (p ++ m :: t).length ≤ 1000000000) :
    Calls Tryz.prog 11 #[.string ⟨(p ++ m :: t).toArray⟩, .string ⟨#[m]⟩] w fun e w' => e = .returned (.tuple #[.string ⟨p.toArray⟩, .string ⟨t.toArray⟩, .bool true]) ∧ Below w.heap.size w w' := by
  have hc := fun W => stringslite_cut_yes p t m W h hl
  generalize p ++ m :: t = L at *
  go_enter Tryz.func11, Tryz.ntmps11
  go_wp2_with fail
  refine (hc _).mono ?_
  rintro e w' ⟨rfl, hb⟩
  go_wp2_with fail
  go_ret3
  exact ⟨rfl, hb⟩
end Go.Proofs.YteabkcbajpjkoaaGreatDoor
/- Walks: Atoi and Split of the library, by the shelf; what they read of package variables. -/
namespace Go.Proofs.YteabkcbajpjkoaaGreatDoor
open Go Go.RowKit
set_option linter.unusedVariables false
def atoiV (l : List UInt8) : Int :=
  match Lib.atoiAll l with
  | .ok v => v
  | .range => Lib.atoiSat l
  | _ => 0
/-- what Atoi and Split read of the package variables -/
def EnvS (w : World) : Prop := (∃ tp p, w.var? Tryz.prog "strconv.ErrSyntax" = some #[.iface tp p]) ∧ (∃ tp p, w.var? Tryz.prog "strconv.ErrRange" = some #[.iface tp p]) ∧ ∃ m, w.cell? ⟨0, 0, none⟩ = some (.int .i64 m)
theorem var_belowS {P : Program} {w w' : World} {nm : String} {cs : Array Value} (h : w.var? P nm = some cs) (hb : Below w.heap.size w w') : w'.var? P nm = some cs := by
  unfold World.var? at *
  cases hg : P.globalNamed nm with
  | none => simp [hg] at h
  | some g =>
    simp only [hg, Option.bind_some] at h ⊢
    have hlt : g < w.heap.size := by
      rcases Nat.lt_or_ge g w.heap.size with h' | h'
      · exact h'
      · rw [Array.getElem?_eq_none h'] at h; cases h
    rw [hb.block g hlt]
    exact h
theorem cell_lt {w : World} {g i : Nat} {v : Value} (h : w.cell? ⟨g, i, none⟩ = some v) : g < w.heap.size := by
  rcases Nat.lt_or_ge g w.heap.size with h' | h'
  · exact h'
  · simp [World.cell?, Array.getElem?_eq_none h'] at h
theorem EnvS.below {w w' : World} (h : EnvS w) (hb : Below w.heap.size w w') : EnvS w' := by
  obtain ⟨⟨t1, p1, h1⟩, ⟨t2, p2, h2⟩, m, h3⟩ := h
  exact ⟨⟨t1, p1, var_belowS h1 hb⟩, ⟨t2, p2, var_belowS h2 hb⟩, m, (bcell hb _ _ (cell_lt h3)).trans h3⟩
theorem atoi_calls (x : List UInt8) (w : World) (hx : x.length ≤ 1000000) (HE : EnvS w) : Calls Tryz.prog 13 #[.string ⟨x.toArray⟩] w fun e w' => ∃ ev, e = .returned (.tuple #[.int .i64 (atoiV x), ev]) ∧ Below w.heap.size w w' := by
  obtain ⟨⟨t1, p1, h1⟩, ⟨t2, p2, h2⟩, m, h3⟩ := HE
  have hs := vStr_size x
  unfold atoiV
  cases ha : Lib.atoiAll x
  · rename_i v
    refine (Tryz.strconv_Atoi_ok ⟨x.toArray⟩ (by omega) v ha w).mono ?_
    rintro e w' ⟨rfl, rfl | ⟨t, rfl⟩⟩
    · exact ⟨_, rfl, Below.refl _ _⟩
    · exact ⟨_, rfl, Lib.bytesWorld_below _ _ _⟩
  · refine (Tryz.strconv_Atoi_syntax_var ⟨x.toArray⟩ (by omega) ha t1 p1 w h1).mono ?_
    rintro e w' ⟨N, rfl, _, _, hb⟩
    exact ⟨_, rfl, hb⟩
  · refine (Tryz.strconv_Atoi_range_var ⟨x.toArray⟩ (by omega) ha t2 p2 w h2).mono ?_
    rintro e w' ⟨N, rfl, _, _, hb⟩
    exact ⟨_, rfl, hb⟩
theorem words_le {m : UInt8} : ∀ {s : List UInt8} {x : List UInt8}, x ∈ wordsL m s → x.length ≤ s.length
  | [], x, h => by simp [wordsL] at h; subst h; simp
  | c :: t, x, h => by
    simp only [wordsL] at h
    split at h
    · rcases List.mem_cons.1 h with rfl | h
      · simp
      · have := words_le h; simp; omega
    · cases hw : wordsL m t with
      | nil => rw [hw] at h; simp [consW] at h; subst h; simp
      | cons y r =>
        rw [hw] at h
        simp only [consW] at h
        rcases List.mem_cons.1 h with rfl | h
        · have := words_le (m := m) (s := t) (x := y) (by rw [hw]; simp); simp; omega
        · have := words_le (m := m) (s := t) (x := x) (by rw [hw]; simp [h]); simp; omega
end Go.Proofs.YteabkcbajpjkoaaGreatDoor
