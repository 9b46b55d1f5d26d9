/- Plain words and laws: which nodes are stuck, which notes are lost; where some nodes are stuck, some notes are lost. No program in sight but for a map of ints. Walks: Stuck, of the program and of the reference. Walks: stepOf and Lost, of the reference. Walk: Lost, of the program. -/
import Derived.Test.YtpbobhobhbbimaaGreatDoorPk12
import Derived.Test.YtpbobhobhbbimaaGreatDoorPk7
import Derived.Test.YtpbobhobhbbimaaGreatDoorPk3
import Derived.Test.YtpbobhobhbbimaaGreatDoorPk8
import Derived.Test.YtpbobhobhbbimaaGreatDoorPk5
import Derived.Deep.Cut
import Derived.Test.YtpbobhobhbbimaaGreatDoorPk2
import Derived.Test.YtpbobhobhbbimaaGreatDoorPk10
import Derived.Test.YtpbobhobhbbimaaGreatDoorPk1
import Derived.Test.YtpbobhobhbbimaaGreatDoorPk11
import Derived.Maps.AppendAt
import Derived.Laws.Concat
import Derived.Shelf.Strings.Builder1
import Derived.Test.YtpbobhobhbbimaaGreatDoorProg
import Derived.Test.YtpbobhobhbbimaaGreatDoorShelf
import Derived.Lib.ItoaLen
import Derived.Lib.Join
import Derived.Lib.AppendIntMem
import Derived.OpenShut
import Derived.Test.YtpbobhobhbbimaaGreatDoorRows
import Derived.ProofKit
import Derived.ShutString
import Derived.ChangeOld
import Derived.Deep.Slices
namespace Go.Proofs.YtpbobhobhbbimaaGreatDoor
open Go Go.RowKit Go.Maps Go.ChangeMaps
set_option linter.unusedVariables false
section
variable (W H : Nat) (o : Nat → Int) (no q : Nat) (p : Nat → N6) (F : Nat → SiteR) (m : Nat)
end
/-- the same notes for another step -/
def N6.at (x : N6) (st : Int) : N6 := ⟨st, x.fr, x.to, x.ce, x.di, x.co⟩
/-! ### a map from nodes to steps -/
end Go.Proofs.YtpbobhobhbbimaaGreatDoor
/- Walks: Mass, of the program and of the reference. Plain: of a play at any point: its sites and its post are valid, nothing is lost, the mass is the grid's; what both Plays leave, under one name. -/
namespace Go.Proofs.YtpbobhobhbbimaaGreatDoor
open Go Go.RowKit
set_option linter.unusedVariables false
theorem ply_siteM {o : Nat → Int} {no : Nat} {st : Int → Int} {G : Nat → C4} {F : Nat → SiteR} (ho : ∀ k, k < no → 0 ≤ o k ∧ o k ≤ 7) (h : ∀ j, j < (nodeL o no 8).length → siteQ o no st G ((nodeL o no 8).getD j 0) (F j)) : siteM F (nodeL o no 8).length = massTo G no := by
  have h2 := split_siteM (o := o) (no := no) (g := G) (F := fun j => { F j with st := 0 }) 8 fun j hj => by
    obtain ⟨q1, q2, q3, q4, q5⟩ := h j hj
    exact ⟨q1, rfl, q3, q4, q5⟩
  rw [selS_all ho] at h2
  have h3 : ∀ k, siteM (fun j => { F j with st := 0 }) k = siteM F k := by
    intro k
    induction k with
    | zero => rfl
    | succ k ih => simp only [siteM, ih]
  rw [h3] at h2
  exact h2
section
variable {W H : Nat} {o : Nat → Int} {no rn : Nat} {ru : Nat → Int × Int} {g : Nat → C4} {n : Int} {X : Ply} {F : Nat → SiteR}
theorem ply_sites (hno : no = W * H) (hg : (∀ i, i < W * H → validC (g i) = true) ∧ massTo g (W * H) ≤ 1000000000) (hn : n ≤ 1000000) (ho : ∀ k, k < no → 0 ≤ o k ∧ o k ≤ 7) (I : PlyI W H o no rn ru g n X) (h : ∀ j, j < (nodeL o no 8).length → siteQ o no X.st X.G ((nodeL o no 8).getD j 0) (F j)) : sitesB o no (nodeL o no 8).length F = true := by
  have hp := ply_post hno hg hn I
  have hco : 0 ≤ coL X.P := by rw [coL_pF]; exact (coS_nonneg _ (post_fit hp)).1
  have hm := I.mass
  have hg2 := hg.2
  rw [← hno] at hg2
  refine sitesB_iff.2 ⟨rfl, fun k hk => (h k hk).1, fun k hk => ?_, ?_⟩
  · rw [siteQ_B (h k hk)]; exact ply_site hno hg hn I _
  · rw [ply_siteM ho h]; omega
end
/-- what both Plays leave, by one error -/
def uE (E : Int) (Z : Ply) : Int := if E = 0 then Z.er else E
def uM (E : Int) (o : Nat → Int) (no : Nat) (Z : Ply) : Nat := if uE E Z = 0 then (nodeL o no 8).length else 0
def uR (E : Int) (Z : Ply) : List N6 := if uE E Z = 0 then Z.P else []
def uC (E : Int) (Z : Ply) : Int := if uE E Z = 0 then (Z.cnt : Int) else 0
def PlayU (E : Int) (o : Nat → Int) (no : Nat) (Z : Ply) (w : World) (e : Ending) (w' : World) : Prop :=
  ∃ aS cS F aP cP, e = .returned (.tuple #[.slice aS (uM E o no Z) cS, .slice aP (uR E Z).length cP, .int .i64 (uC E Z), .int .i64 (uE E Z)]) ∧ Ss w' aS (uM E o no Z) F ∧ (∀ k, k < uM E o no Z → siteQ o no Z.st Z.G ((nodeL o no 8).getD k 0) (F k)) ∧ Sn w' aP (uR E Z).length (fun k => (uR E Z).getD k N6.zero) ∧ (uR E Z).length ≤ cP ∧ (aP = none → cP = 0) ∧ Below w.heap.size w w'
theorem playU {E : Int} {o : Nat → Int} {no : Nat} {Z : Ply} {w w' : World} {e : Ending} (h : PlayR E o no Z w e w') : PlayU E o no Z w e w' := by
  rcases h with ⟨rfl, h⟩ | ⟨hE, rfl, hb⟩
  · have e0 : uE 0 Z = Z.er := if_pos rfl
    rcases h with ⟨h0, vS, xs, vP, rfl, h1, h2, h3⟩ | ⟨h4, rfl, hb⟩
    · have e1 : uM 0 o no Z = (nodeL o no 8).length := if_pos (e0.trans h0)
      have e2 : uR 0 Z = Z.P := if_pos (e0.trans h0)
      have e3 : uC 0 Z = Z.cnt := if_pos (e0.trans h0)
      obtain ⟨aS, cS, rfl, hs⟩ := h1.ss
      obtain ⟨aP, cP, rfl, hl, hac⟩ := listR_of_own2 h2
      unfold PlayU
      rw [e0, e1, e2, e3, h0, ← h1.2.1]
      exact ⟨aS, cS, _, aP, cP, rfl, hs, fun k hk => (h1.2.2 k (by rw [← h1.2.1]; exact hk)).1, hl.2.2, hl.2.1, hac, h3⟩
    · have e1 : uM 0 o no Z = 0 := if_neg (by rw [e0, h4]; decide)
      have e2 : uR 0 Z = [] := if_neg (by rw [e0, h4]; decide)
      have e3 : uC 0 Z = 0 := if_neg (by rw [e0, h4]; decide)
      unfold PlayU
      rw [e0, e1, e2, e3, h4]
      exact ⟨none, 0, fun _ => SiteR.zero, none, 0, rfl, fun k hk => absurd hk (by omega), fun k hk => absurd hk (by omega), fun k hk => absurd hk (by simp), Nat.le_refl _, fun _ => rfl, hb⟩
  · have e0 : uE E Z = E := if_neg hE
    have e1 : uM E o no Z = 0 := if_neg (by rw [e0]; exact hE)
    have e2 : uR E Z = [] := if_neg (by rw [e0]; exact hE)
    have e3 : uC E Z = 0 := if_neg (by rw [e0]; exact hE)
    unfold PlayU
    rw [e0, e1, e2, e3]
    exact ⟨none, 0, fun _ => SiteR.zero, none, 0, rfl, fun k hk => absurd hk (by omega), fun k hk => absurd hk (by omega), fun k hk => absurd hk (by simp), Nat.le_refl _, fun _ => rfl, hb⟩
end Go.Proofs.YtpbobhobhbbimaaGreatDoor
/- Plain: two plays in which all nodes have come to N hold the same notes. -/
namespace Go.Proofs.YtpbobhobhbbimaaGreatDoor
open Go Go.RowKit
set_option linter.unusedVariables false
section
variable {W H : Nat} {o : Nat → Int} {no rn : Nat} {ru : Nat → Int × Int} {g : Nat → C4} {n : Int} {X Y : Ply}
theorem ply_sub {N : Int} (hno : no = W * H) (I : PlyI W H o no rn ru g n X) (J : PlyI W H o no rn ru g n Y) (hX : ∀ j, j < no → X.st (o j) = N) (hY : ∀ j, j < no → Y.st (o j) = N) {x : N6} (hx : x ∈ X.P) : x ∈ Y.P := by
  obtain ⟨t, i, d, q1, q2, q3, q4, q5, q6, rfl⟩ := I.note _ hx
  have hnb : nbT W H i d < no := by rw [hno]; exact nbT_lt (by omega) q2
  rw [hX i q1] at q5; rw [hX _ hnb] at q6
  exact J.has t i d q1 q2 q3 q4 (by rw [hY i q1]; exact q5) (by rw [hY _ hnb]; exact q6)
theorem ply_sorted {N : Int} (hno : no = W * H) (I : PlyI W H o no rn ru g n X) (J : PlyI W H o no rn ru g n Y) (hX : ∀ j, j < no → X.st (o j) = N) (hY : ∀ j, j < no → Y.st (o j) = N) : sortN X.P = sortN Y.P :=
  sortN_of ((List.perm_ext_iff_of_nodup I.dist J.dist).2 fun x => ⟨ply_sub hno I J hX hY, ply_sub hno J I hY hX⟩)
end
end Go.Proofs.YtpbobhobhbbimaaGreatDoor
/- Plain words: texts as lists of bytes, the words between marks; rows of texts of the call's own. -/
namespace Go.Proofs.YtpbobhobhbbimaaGreatDoor
open Go Go.RowKit
set_option linter.unusedVariables false
def vStr (l : List UInt8) : Value := .string ⟨l.toArray⟩
theorem vStr_size (l : List UInt8) : (ByteArray.mk l.toArray).size = l.length := by simp [ByteArray.size]
/-! ### words -/
/-! ### rows of texts -/
theorem infoStr : (Tryz.prog.info? 9).map (fun i => (i.zero, i.size, i.bytes)) = some (some (.string ⟨#[]⟩), 1, 16) := by kernel_rfl
/-- a slice of texts -/
def Sst (w : World) (a : Option Addr) (n : Nat) (f : Nat → List UInt8) : Prop :=
  ∀ k, k < n → ∃ b off, a = some ⟨b, off, none⟩ ∧ b < w.heap.size ∧ w.cell? ⟨b, off + k, none⟩ = some (.string ⟨(f k).toArray⟩)
theorem Sst.below {w w' : World} {a : Option Addr} {n : Nat} {f : Nat → List UInt8} (h : Sst w a n f) (hb : Below w.heap.size w w') : Sst w' a n f := fun k hkn => by
  obtain ⟨b, off, h1, h2, h3⟩ := h k hkn
  exact ⟨b, off, h1, by have := hb.size; omega, (bcell hb _ _ h2).trans h3⟩
theorem Sst.alloc {w : World} {a : Option Addr} {n : Nat} {f : Nat → List UInt8} (h : Sst w a n f) (o : Obj) : Sst (w.alloc o) a n f := h.below (below_alloc _ _)
theorem Sst.drew {w : World} {a : Option Addr} {n : Nat} {f : Nat → List UInt8} (h : Sst w a n f) : Sst w.drew a n f := h
theorem owns_snoc {w : World} {base : Nat} {v : Value} {xs : List (List UInt8)} {k : List UInt8} (h : w.ownsRow base 9 1 v (xs.length + 1) (xs.map vStr ++ [.string ⟨k.toArray⟩])) :
    w.ownsRow base 9 1 v (xs ++ [k]).length ((xs ++ [k]).map vStr) := by
  simpa [vStr] using h
end Go.Proofs.YtpbobhobhbbimaaGreatDoor
/- The library's writing of a string into a text that is being built, by the shelf's contract; its record is typed by hand (the shelf's command falls at it). -/
namespace Go.Proofs
open Go.Shelf
def Tryz.lays166_ren : Go.Shelf.Ren := ⟨fun | 166 => 31 | 240 => 59 | 276 => 81 | n => n, fun | 0 => 0 | 3 => 3 | 4 => 4 | 5 => 5 | 9 => 9 | 20 => 20 | 37 => 76 | 70 => 75 | 72 => 78 | 75 => 80 | 80 => 84 | 164 => 135 | n => n, fun | n => n⟩
theorem Tryz.lays166 : Go.Proofs.Lays.n166 Tryz.prog Tryz.lays166_ren := {
  mixed := by kernel_rfl
  f166 := Tryz.func31.trans (congrArg some (by kernel_rfl))
  f240 := Tryz.func59.trans (congrArg some (by kernel_rfl))
  f276 := Tryz.func81.trans (congrArg some (by kernel_rfl))
  t0 := Tryz.underlying0
  a0 := Tryz.isAgg0
  z0 := Tryz.sizeOf0
  v0 := Tryz.zeroValue0
  t3 := Tryz.underlying3
  a3 := Tryz.isAgg3
  z3 := Tryz.sizeOf3
  v3 := Tryz.zeroValue3
  t4 := Tryz.underlying4
  a4 := Tryz.isAgg4
  z4 := Tryz.sizeOf4
  v4 := Tryz.zeroValue4
  t9 := Tryz.underlying9
  a9 := Tryz.isAgg9
  z9 := Tryz.sizeOf9
  v9 := Tryz.zeroValue9
  t20 := Tryz.underlying20
  a20 := Tryz.isAgg20
  z20 := Tryz.sizeOf20
  v20 := Tryz.zeroValue20
  t37 := Tryz.underlying76
  a37 := Tryz.isAgg76
  z37 := Tryz.sizeOf76
  v37 := Tryz.zeroValue76
  t70 := Tryz.underlying75
  a70 := Tryz.isAgg75
  z70 := Tryz.sizeOf75
  v70 := Tryz.zeroValue75
  t72 := Tryz.underlying78
  a72 := Tryz.isAgg78
  z72 := Tryz.sizeOf78
  v72 := Tryz.zeroValue78
  t75 := Tryz.underlying80
  a75 := Tryz.isAgg80
  z75 := Tryz.sizeOf80
  v75 := Tryz.zeroValue80
  t164 := Tryz.underlying135
  a164 := Tryz.isAgg135
  z164 := Tryz.sizeOf135
  v164 := Tryz.zeroValue135 }
theorem Tryz.Builder_Extra_166 : Builder.Extra Tryz.prog Tryz.lays166_ren := {
  sizeBuilder := by kernel_rfl
  liesBuilder := by kernel_rfl
  t5 := Tryz.underlying5
  a5 := Tryz.isAgg5
  z5 := Tryz.sizeOf5
  v5 := Tryz.zeroValue5
  infoByte := by kernel_rfl
  cellsByte := by kernel_rfl
  sizeByte := by kernel_rfl
  neB5 := by decide }
open Go.RowKit in
theorem Tryz.Builder_WriteString (B b : Nat) (bs : List Value) (s : ByteArray) (w : World) (h : Lib.IsBuilder 78 5 B b bs w) (hlen : bs.length + s.size ≤ 140737488355328) (hBw : B ≤ w.heap.size) :
    Calls Tryz.prog 31 #[.pointer (some ⟨b, 0, none⟩), .string s] w fun e w' => e = .returned (.tuple #[.int .i64 s.size, .nilIface]) ∧ (Lib.BuilderAt 78 5 B b (.pointer (some ⟨b, 0, none⟩)) (bs ++ Lib.strCells s) w' ∧ Below B w w') :=
  Any.Builder_WriteString Tryz.lays166 Tryz.Builder_Extra_166 B b bs s w h hlen hBw
end Go.Proofs
/- Plain words: the text of notes. Walks: words, plain and Format, of the program. -/
namespace Go.Proofs.YtpbobhobhbbimaaGreatDoor
open Go Go.RowKit
set_option linter.unusedVariables false
set_option linter.unusedSimpArgs false
theorem tab_below {w w' : World} (h : Lib.TabIs Tryz.prog w "internal/strconv.uint64pow10" .u64 Lib.pow10Tab) (hb : Below w.heap.size w w') : Lib.TabIs Tryz.prog w' "internal/strconv.uint64pow10" .u64 Lib.pow10Tab := Lib.tabBelow_of_tabIs h w' hb
theorem below_sgrow (w : World) (k : Nat) (os : Array Obj) : Below w.heap.size w (Sort.grow (w.drewN k) os) :=
  ⟨rfl, rfl, rfl, by simp [Sort.grow], fun b hb => by
    show (w.heap ++ os)[b]? = _
    rw [Array.getElem?_append_left hb]⟩
theorem itoa_calls (n : Int) (h0 : -9223372036854775808 ≤ n) (h1 : n ≤ 9223372036854775807) (w : World) (HT : Lib.TabIs Tryz.prog w "internal/strconv.uint64pow10" .u64 Lib.pow10Tab) :
    Calls Tryz.prog 60 #[.int .i64 n] w fun e w' => e = .returned (.string ⟨(Lib.itoa n).toArray⟩) ∧ Below w.heap.size w w' :=
  (Tryz.strconv_Itoa n h0 h1 w HT).mono fun e w' ⟨he, k, os, hw⟩ => ⟨he, by rw [hw]; exact below_sgrow w k os⟩
def itsN (x : N6) (k : Nat) : List (List UInt8) := (List.range k).map fun j => Lib.itoa (x.get j)
def wordsN (x : N6) : List UInt8 := Lib.join (itsN x 6) [32]
def plainN (x : N6) : Bool := decide (0 ≤ x.st) && decide (0 ≤ x.fr) && decide (0 ≤ x.to) && decide (0 ≤ x.ce) && decide (0 ≤ x.di) && decide (0 ≤ x.co)
theorem itsN_succ (x : N6) (k : Nat) : itsN x (k + 1) = itsN x k ++ [Lib.itoa (x.get k)] := by simp [itsN, List.range_succ]
theorem itsN_length (x : N6) (k : Nat) : (itsN x k).length = k := by simp [itsN]
theorem wf_range {n : Int} (h : (Lit.int .i64 n).wf = true) : -9223372036854775808 ≤ n ∧ n ≤ 9223372036854775807 := by
  exact bounds_i64 h
def minN (x : N6) : Int := [x.fr, x.to, x.ce, x.di, x.co].foldl (fun m y => if y < m then y else m) x.st
theorem minN_plain (x : N6) : decide (0 ≤ minN x) = plainN x := by
  simp only [minN, List.foldl, plainN]
  rw [Bool.eq_iff_iff]
  simp only [decide_eq_true_eq, Bool.and_eq_true]
  constructor
  · intro h
    repeat' split at h
    all_goals (refine ⟨⟨⟨⟨⟨?_, ?_⟩, ?_⟩, ?_⟩, ?_⟩, ?_⟩ <;> omega)
  · rintro ⟨⟨⟨⟨⟨h1, h2⟩, h3⟩, h4⟩, h5⟩, h6⟩
    repeat' split
    all_goals assumption
theorem run_min6 (ts : Array TypeId) (t : TypeId) (x : N6) (W : World) : (Builtin.min_ ts t #[.int .i64 x.st, .int .i64 x.fr, .int .i64 x.to, .int .i64 x.ce, .int .i64 x.di, .int .i64 x.co]).run Tryz.prog W = .ok (.int .i64 (minN x)) W := by
  simp [Builtin.min_, Builtin.min2, minN]
set_option maxRecDepth 100000 in
theorem node_plain (x : N6) (w : World) : Calls Tryz.prog 30 #[.agg #[.int .i64 x.st, .int .i64 x.fr, .int .i64 x.to, .int .i64 x.ce, .int .i64 x.di, .int .i64 x.co]] w fun e w' => e = .returned (.bool (plainN x)) ∧ Below w.heap.size w w' := by
  have hmin := fun ts t W => run_min6 ts t x W
  rw [← minN_plain]
  generalize minN x = M at *
  have X0 := Bx.new w #[.int .i64 x.st, .int .i64 x.fr, .int .i64 x.to, .int .i64 x.ce, .int .i64 x.di, .int .i64 x.co] 70
  have hB0 : Below w.heap.size w (w.alloc (.cells #[.int .i64 x.st, .int .i64 x.fr, .int .i64 x.to, .int .i64 x.ce, .int .i64 x.di, .int .i64 x.co] 70)) := by (repeat' (first | with_reducible assumption | with_reducible exact Below.refl _ _ | with_reducible refine Below.drew ?_ | with_reducible refine below_drewN ?_ _ | with_reducible refine balloc ?_ _ | with_reducible refine bset ?_ ?_ _ | with_reducible refine Below.setCell ?_ ?_ _ | with_reducible refine Below.alloc ?_ ?_ _ | omega | (simp; done) | (simp; omega)))
  go_enter Tryz.func30, Tryz.ntmps30
  go_wp2_with fail
  go_ret
  exact ⟨by simp, by (repeat' (first | with_reducible assumption | with_reducible exact Below.refl _ _ | with_reducible refine Below.drew ?_ | with_reducible refine below_drewN ?_ _ | with_reducible refine balloc ?_ _ | with_reducible refine bset ?_ ?_ _ | with_reducible refine Below.setCell ?_ ?_ _ | with_reducible refine Below.alloc ?_ ?_ _ | omega | (simp; done) | (simp; omega)))⟩
/-- an own row of texts, as a slice -/
theorem own_strs {w : World} {base : Nat} {v : Value} {xs : List (List UInt8)} (h : w.ownsRow base 9 1 v xs.length (xs.map vStr)) (h0 : 0 < xs.length) :
    ∃ g cap, v = .slice (some ⟨g, 0, none⟩) xs.length cap ∧ xs.length ≤ cap ∧ g < w.heap.size ∧ ∀ (j : Nat) x, (xs.map fun l => (⟨l.toArray⟩ : ByteArray))[j]? = some x → w.cell? ⟨g, 0 + j, none⟩ = some (.string x) := by
  rcases h.2 with ⟨rfl, h0'⟩ | ⟨g, cap, cur, rfl, hb, hh, hn, hm, hc, ht⟩
  · omega
  · refine ⟨g, cap, rfl, by omega, ?_, fun j x hx => ?_⟩
    · rcases Nat.lt_or_ge g w.heap.size with h' | h'
      · exact h'
      · rw [Array.getElem?_eq_none h'] at hh; cases hh
    · have hj : j < xs.length := by
        have := (List.getElem?_eq_some_iff.1 hx).1
        simpa using this
      rw [Nat.zero_add, cell_of_row w g j cur 9 (0, 0) hh]
      have h1 : (cur.toList.take (xs.length * 1))[j]? = (xs.map vStr)[j]? := by rw [ht]
      rw [List.getElem?_take, if_pos (by omega), List.getElem?_map, List.getElem?_eq_getElem hj] at h1
      rw [List.getElem?_map, List.getElem?_eq_getElem hj] at hx
      injection hx with hx
      subst hx
      show cur[j]? = _
      simpa [vStr] using h1
theorem itsN_bytes (x : N6) (k : Nat) : ((itsN x k).map fun l => (⟨l.toArray⟩ : ByteArray)).map (·.data.toList) = itsN x k := by simp [Function.comp_def]
theorem itsN_le {x : N6} (hx : wfN x) : ∀ l ∈ itsN x 6, l.length ≤ 21 := fun l hl => by
  obtain ⟨j, hj, rfl⟩ := List.mem_map.1 hl
  have := wf_range (hx j (List.mem_range.1 hj))
  exact Lib.itoa_length_le _ this.1 this.2
theorem wordsN_le {x : N6} (hx : wfN x) : (wordsN x).length ≤ 131 := by
  unfold wordsN
  have h := itsN_le hx
  have e : itsN x 6 = [Lib.itoa x.st, Lib.itoa x.fr, Lib.itoa x.to, Lib.itoa x.ce, Lib.itoa x.di, Lib.itoa x.co] := rfl
  rw [e] at h ⊢
  simp [Lib.join, List.intercalate] at h ⊢
  omega
set_option maxRecDepth 100000 in
set_option maxHeartbeats 4000000 in
theorem node_words (x : N6) (w : World) (hx : wfN x) (HT : Lib.TabIs Tryz.prog w "internal/strconv.uint64pow10" .u64 Lib.pow10Tab) : Calls Tryz.prog 32 #[.agg #[.int .i64 x.st, .int .i64 x.fr, .int .i64 x.to, .int .i64 x.ce, .int .i64 x.di, .int .i64 x.co]] w fun e w' => e = .returned (.string ⟨(wordsN x).toArray⟩) ∧ Below w.heap.size w w' := by
  obtain ⟨i0, hi, hz0, hz1, hz2⟩ := info_parts infoStr
  have hjl := fun g cap Y hc hg hcap => Tryz.strings_Join g 0 cap ((itsN x 6).map fun l => (⟨l.toArray⟩ : ByteArray)) ⟨#[32]⟩ Y hc hg (by simp [itsN]) hcap (by rw [itsN_bytes]; have := wordsN_le hx; unfold wordsN at this; exact Nat.le_trans this (by decide))
  rw [itsN_bytes, List.length_map, itsN_length, show (ByteArray.mk #[32]).data.toList = [32] from rfl] at hjl
  change ∀ g cap Y hc hg hcap, Calls _ _ _ _ fun e w' => e = .returned (.string ⟨(wordsN x).toArray⟩) ∧ _ at hjl
  have hit := fun k (hk : k < 6) Y HY => itoa_calls (x.get k) (wf_range (hx k hk)).1 (wf_range (hx k hk)).2 Y HY
  have hsn := fun k => itsN_succ x k
  have hln := fun k => itsN_length x k
  have h6 := fun (B : Nat) (Y : World) (v : Value) (h : Y.ownsRow B 9 1 v (itsN x 6).length ((itsN x 6).map vStr)) => own_strs h (by rw [itsN_length]; omega)
  rw [itsN_length] at h6
  have HSN := hid hsn; have HIT := hid hit; have HJL := hid hjl; have H6 := hid h6; have HLN := hid hln
  clear hsn hit hjl h6 hln
  have X0 := Bx.new w #[.int .i64 x.st, .int .i64 x.fr, .int .i64 x.to, .int .i64 x.ce, .int .i64 x.di, .int .i64 x.co] 70
  have hB0 : Below w.heap.size w (w.alloc (.cells #[.int .i64 x.st, .int .i64 x.fr, .int .i64 x.to, .int .i64 x.ce, .int .i64 x.di, .int .i64 x.co] 70)) := by (repeat' (first | with_reducible assumption | with_reducible exact Below.refl _ _ | with_reducible refine Below.drew ?_ | with_reducible refine below_drewN ?_ _ | with_reducible refine balloc ?_ _ | with_reducible refine bset ?_ ?_ _ | with_reducible refine Below.setCell ?_ ?_ _ | with_reducible refine Below.alloc ?_ ?_ _ | omega | (simp; done) | (simp; omega)))
  go_enter Tryz.func32, Tryz.ntmps32
  go_wp2_with fail
  have XI := Bx.new (w.alloc (.cells #[.int .i64 x.st, .int .i64 x.fr, .int .i64 x.to, .int .i64 x.ce, .int .i64 x.di, .int .i64 x.co] 70)) #[.int .i64 x.st, .int .i64 x.fr, .int .i64 x.to, .int .i64 x.ce, .int .i64 x.di, .int .i64 x.co] 3
  simp only [World.size_alloc] at XI
  have hB1 := balloc hB0 (.cells #[.int .i64 x.st, .int .i64 x.fr, .int .i64 x.to, .int .i64 x.ce, .int .i64 x.di, .int .i64 x.co] 3)
  generalize (w.alloc (.cells #[.int .i64 x.st, .int .i64 x.fr, .int .i64 x.to, .int .i64 x.ce, .int .i64 x.di, .int .i64 x.co] 70)).alloc (.cells #[.int .i64 x.st, .int .i64 x.fr, .int .i64 x.to, .int .i64 x.ce, .int .i64 x.di, .int .i64 x.co] 3) = W1 at XI hB1 ⊢
  have hcell : ∀ k, k < 6 → W1.cell? ⟨w.heap.size + 1, k, none⟩ = some (.int .i64 (x.get k)) := fun k hk => by
    rcases (by omega : k = 0 ∨ k = 1 ∨ k = 2 ∨ k = 3 ∨ k = 4 ∨ k = 5) with rfl | rfl | rfl | rfl | rfl | rfl
    · exact XI.at_ 0 rfl
    · exact XI.at_ 1 rfl
    · exact XI.at_ 2 rfl
    · exact XI.at_ 3 rfl
    · exact XI.at_ 4 rfl
    · exact XI.at_ 5 rfl
  have HT1 := tab_below HT hB1
  have HC := hid hcell
  have li := XI.lt
  clear hcell X0 hB0 XI
  go_loopw [3, 20] (fun v i wr => ∃ k : Nat, k ≤ 6 ∧ i = .int .i64 (k : Int) ∧ wr.ownsRow W1.heap.size 9 1 v (itsN x k).length ((itsN x k).map vStr) ∧ Below W1.heap.size W1 wr) (fun _ i _ => 6 - (intOf i).toNat)
  case atStart => exact ⟨0, Nat.zero_le _, rfl, World.ownsRow_nil .., Below.refl _ _⟩
  case round =>
    obtain ⟨k, hk, rfl, hown, hB⟩ := hrel
    have hsz := hB.size
    by_cases hlt : k < 6
    · have ck := (bcell hB _ _ li).trans (HC.out k hlt)
      go_wp2_with fail
      refine (HIT.out k hlt _ (tab_below HT1 hB)).mono ?_
      rintro e w2 ⟨rfl, hb2⟩
      replace hown := own_below hown hb2
      have hB2 := bvia hB hb2
      have hsz2 := hb2.size
      have hln := HLN.out k
      go_wp2_with (at_builtin; refine wpList_append_own _ rfl _ _ 116 rfl (W1.heap.size) 9 i0 (.string ⟨#[]⟩) 1 16 Tryz.underlying116 hi hz0 hz1 hz2 rfl (by decide) _ _ _ rfl ((hown).alloc _) ⟨w2.heap.size, 0, none⟩ 1 1 [.string ⟨((Lib.itoa (x.get k))).toArray⟩] rfl rfl (cell_one_new _ _ _) (by simp [Value.oneCell']) (by simp [maxLen]; omega) (by omega) (by simp; omega) ?_; intro v' w3 hown' hgrow _)
      go_roundw
      case rel => exact ⟨k + 1, by omega, by go_num, by rw [HSN.out]; exact owns_snoc hown', (hB2.alloc (by omega) _).grown hgrow (by simp; omega) (own_base hown)⟩
      case measure => simp [intOf]; omega
    · obtain rfl : k = 6 := (by omega)
      rw [HLN.out] at hown
      obtain ⟨g, cap, rfl, hcap, hg, hcs⟩ := H6.out _ _ _ hown
      go_wp2_with fail
      refine (HJL.out g cap _ hcs hg hcap).mono ?_
      rintro e w2 ⟨rfl, hb2⟩
      go_wp2_with fail
      go_ret
      exact ⟨rfl, bvia (hB1.trans (hB.mono hB1.size)) hb2⟩
theorem bldAt_below {T e : TypeId} {B b : Nat} {p : Value} {bs : List Value} {X Y : World} (h : Lib.BuilderAt T e B b p bs X) (hb : Below X.heap.size X Y) : Lib.BuilderAt T e B b p bs Y := by
  obtain ⟨h1, v, h2, h3, h4⟩ := h
  have hlt : b < X.heap.size := by
    rcases Nat.lt_or_ge b X.heap.size with h' | h'
    · exact h'
    · rw [Array.getElem?_eq_none h'] at h2; cases h2
  exact ⟨h1, v, (hb.block b hlt).trans h2, own_below h3 hb, h4⟩
theorem isBld_below {T e : TypeId} {B b : Nat} {bs : List Value} {X Y : World} (h : Lib.IsBuilder T e B b bs X) (hb : Below X.heap.size X Y) : Lib.IsBuilder T e B b bs Y := h.imp (bldAt_below · hb) (bldAt_below · hb)
theorem str_cells (l : List UInt8) : Lib.strCells ⟨l.toArray⟩ = Lib.byteCells l := by simp [Lib.strCells, Lib.byteCells]
theorem str_addN (x y : List UInt8) (h : x.length + y.length ≤ 1000000000) (W : World) : (Op.stringOp .add ⟨x.toArray⟩ ⟨y.toArray⟩).run Tryz.prog W = .ok (.string ⟨(x ++ y).toArray⟩) W := by
  rw [run_string_add_sum W _ _ (by simp [ByteArray.size]; omega), ByteArray.mk_append_mk]
/-- the text of the first k notes -/
def fmtF (p : Nat → N6) : Nat → List UInt8 | 0 => [] | k + 1 => fmtF p k ++ (wordsN (p k) ++ [10])
def allP (p : Nat → N6) (q : Nat) : Bool := (List.range q).all fun k => plainN (p k)
def fmtN (p : Nat → N6) (q : Nat) : List UInt8 := if q ≤ 100000 then (if allP p q then fmtF p q else []) else []
theorem fmtF_le {p : Nat → N6} : ∀ {q : Nat}, (∀ k, k < q → wfN (p k)) → (fmtF p q).length ≤ 132 * q
  | 0, _ => by simp [fmtF]
  | q + 1, h => by
    have h1 := fmtF_le (q := q) fun k hk => h k (by omega)
    have h2 := wordsN_le (h q (by omega))
    simp only [fmtF, List.length_append, List.length_singleton]
    omega
theorem allP_no {p : Nat → N6} {q k : Nat} (hk : k < q) (h : plainN (p k) = false) : allP p q = false := by
  cases e : allP p q
  · rfl
  · rw [List.all_eq_true.1 e k (List.mem_range.2 hk)] at h; cases h
set_option maxRecDepth 100000 in
set_option maxHeartbeats 4000000 in
theorem node_Format (a : Option Addr) (q c : Nat) (p : Nat → N6) (w : World) (SP : Sn w a q p) (hw : ∀ k, k < q → wfN (p k)) (HT : Lib.TabIs Tryz.prog w "internal/strconv.uint64pow10" .u64 Lib.pow10Tab) : Calls Tryz.prog 9 #[.slice a q c] w fun e w' => e = .returned (.string ⟨(fmtN p q).toArray⟩) ∧ Below w.heap.size w w' := by
  by_cases hq : 100000 < q
  · have hqi : (100000 : Int) < (q : Int) := by omega
    have e : fmtN p q = [] := if_neg (by omega)
    rw [e]
    go_enter Tryz.func9, Tryz.ntmps9
    go_wp2_with fail
    go_ret
    exact ⟨rfl, Below.refl _ _⟩
  have hqi : ¬ (100000 : Int) < (q : Int) := by omega
  have e : fmtN p q = if allP p q then fmtF p q else [] := if_pos (by omega)
  obtain ⟨R, hR⟩ : ∃ R, fmtN p q = R := ⟨_, rfl⟩
  rw [hR]
  rw [e] at hR
  have HR := hid hR
  clear e hR
  have HW := hid hw; clear hw
  go_enter Tryz.func9, Tryz.ntmps9
  go_wp2_with fail
  have hbld : Lib.IsBuilder 78 5 w.heap.size w.heap.size (Lib.byteCells (fmtF p 0)) (w.alloc (.cells #[.pointer none, .slice none 0 0] 78)) := Lib.fresh_isBuilder 78 5 w
  have hb2 := below_alloc w (.cells #[.pointer none, .slice none 0 0] 78)
  generalize w.alloc (.cells #[.pointer none, .slice none 0 0] 78) = w2 at *
  go_loopw [11] (fun s wr => ∃ i : Nat, i ≤ q ∧ s = .int .i64 (i : Int) ∧ (∀ j, j < i → plainN (p j) = true) ∧ Lib.IsBuilder 78 5 w.heap.size w.heap.size (Lib.byteCells (fmtF p i)) wr ∧ Below w.heap.size w wr) (fun s _ => q - (intOf s).toNat)
  case atStart => exact ⟨0, Nat.zero_le _, rfl, fun j hj => by omega, hbld, hb2⟩
  case round =>
    clear hbld hb2
    obtain ⟨i, hi, rfl, hpl, hbld, hb2⟩ := hrel
    have hsz := hb2.size
    have HPL := hid hpl; clear hpl
    by_cases hlt : i < q
    · obtain ⟨b, o, rfl, hbb, hc⟩ := (SP.below hb2) i hlt
      have c0 := hc 0 (by omega); have c1 := hc 1 (by omega); have c2 := hc 2 (by omega); have c3 := hc 3 (by omega); have c4 := hc 4 (by omega); have c5 := hc 5 (by omega)
      simp only [N6.get, Nat.add_zero] at c0 c1 c2 c3 c4 c5
      have hpn := fun Y => node_plain (p i) Y
      have hwo := fun Y HY => node_words (p i) Y (HW.out i hlt) HY
      have hl1 := wordsN_le (HW.out i hlt)
      have hl2 := fmtF_le (q := i) fun k hk => HW.out k (by omega)
      have had := fun W => str_addN (wordsN (p i)) [10] (by simp; omega) W
      have hns : fmtF p (i + 1) = fmtF p i ++ (wordsN (p i) ++ [10]) := rfl
      have HNS := hid hns
      have hpe : plainN (p i) = false → allP p q = false := fun h => allP_no hlt h
      have HPE := hid hpe
      have HPI := hid (show plainN (p i) = plainN (p i) from rfl)
      generalize hx : p i = x at c0 c1 c2 c3 c4 c5 hpn hwo hl1 had HNS HPE
      have HX := hid hx
      clear hx hc hns hpe HPI
      have B3 := hb2.alloc hsz (.cells #[.int .i64 x.st, .int .i64 x.fr, .int .i64 x.to, .int .i64 x.ce, .int .i64 x.di, .int .i64 x.co] 70)
      have bld3 := isBld_below hbld (below_alloc wr (.cells #[.int .i64 x.st, .int .i64 x.fr, .int .i64 x.to, .int .i64 x.ce, .int .i64 x.di, .int .i64 x.co] 70))
      have X3 := Bx.new wr #[.int .i64 x.st, .int .i64 x.fr, .int .i64 x.to, .int .i64 x.ce, .int .i64 x.di, .int .i64 x.co] 70
      cases hp : plainN x
      · rw [hp] at hpn
        have hpe := HPE.out hp
        have HE := hid hpe; clear hpe
        go_wp2_with fail
        refine (hpn _).mono ?_
        rintro e w4 ⟨rfl, hb4⟩
        go_wp2_with fail
        go_ret
        have hr := HR.out
        rw [HE.out] at hr
        subst hr
        exact ⟨rfl, bvia B3 hb4⟩
      · rw [hp] at hpn
        go_wp2_with fail
        refine (hpn _).mono ?_
        rintro e w4 ⟨rfl, hb4⟩
        have B4 := bvia B3 hb4
        have bld4 := isBld_below bld3 hb4
        have X4 := X3.below hb4
        have x0 := X4.at_ 0 rfl; have x1 := X4.at_ 1 rfl; have x2 := X4.at_ 2 rfl; have x3 := X4.at_ 3 rfl; have x4 := X4.at_ 4 rfl; have x5 := X4.at_ 5 rfl; have xz := X4.lt
        clear c0 c1 c2 c3 c4 c5 hpn B3 bld3 X3 hbld
        go_wp2_with fail
        refine (hwo _ (tab_below HT B4)).mono ?_
        rintro e w5 ⟨rfl, hb5⟩
        have B5 := bvia B4 hb5
        have bld5 := isBld_below bld4 hb5
        have hws := Tryz.Builder_WriteString w.heap.size w.heap.size (Lib.byteCells (fmtF p i)) ⟨(wordsN x ++ [10]).toArray⟩ w5 bld5 (by rw [Lib.byteCells_length, vStr_size, List.length_append]; simp; omega) B5.size
        rw [str_cells, ← Lib.byteCells_append, ← HNS.out] at hws
        clear x0 x1 x2 x3 x4 x5 xz
        go_wp2_with fail
        refine hws.mono ?_
        rintro e w6 ⟨rfl, bld6, hb6⟩
        go_wp2_with fail
        go_roundw
        case rel => exact ⟨i + 1, by omega, by go_num, (fun j hj => by
          rcases Nat.lt_succ_iff_lt_or_eq.1 hj with h | rfl
          · exact HPL.out j h
          · rw [HX.out]; exact hp), .inr bld6, B5.trans hb6⟩
        case measure => simp [intOf]; omega
    · obtain rfl : i = q := (by omega)
      have hs := Tryz.Builder_String_any w.heap.size w.heap.size (fmtF p i) wr hbld hb2.size
      have HE := hid (show allP p i = true from List.all_eq_true.2 fun k hk => HPL.out k (List.mem_range.1 hk))
      go_wp2_with fail
      refine hs.mono ?_
      rintro e w3 ⟨rfl, hb3⟩
      go_wp2_with fail
      go_ret
      have hr := HR.out
      rw [HE.out] at hr
      subst hr
      exact ⟨rfl, hb2.trans hb3⟩
end Go.Proofs.YtpbobhobhbbimaaGreatDoor
/- How plain arguments read: ints and lists of ints. How the arguments of this seat's laws read: opened to cells. -/
namespace Go.Proofs.YtpbobhobhbbimaaGreatDoor
open Go.ChangeShapes Go.WideShapes Go.ChangeAt Go.RowKit Go.Deep
set_option linter.unusedVariables false
theorem Tryz.cells3 : Tryz.prog.cellsOf 3 = 1 := by kernel_rfl
theorem Tryz.cells25 : Tryz.prog.cellsOf 25 = 1 := by kernel_rfl
theorem list2 {α : Type} {l : List α} (h : l.length = 2) : ∃ a b, l = [a, b] := by
  match l, h with
  | [a, b], _ => exact ⟨a, b, rfl⟩
theorem list3 {α : Type} {l : List α} (h : l.length = 3) : ∃ a b c, l = [a, b, c] := by
  match l, h with
  | [a, b, c], _ => exact ⟨a, b, c, rfl⟩
theorem list4 {α : Type} {l : List α} (h : l.length = 4) : ∃ a b c d, l = [a, b, c, d] := by
  match l, h with
  | [a, b, c, d], _ => exact ⟨a, b, c, d, rfl⟩
section
variable {H : Type} {enc : TypeId × Value → H} {w : World} {spare : Nat → Bool} {held : Bool} {fuel : Nat} {cs : List Value} {x : DataW H × List MemPlace}
theorem lift_int (h : DataW.trod enc Tryz.prog w 0 spare held fuel 3 cs = some x) : ∃ n : Int, cs = [.int .i64 n] ∧ (Lit.int .i64 n).wf = true := by
  obtain ⟨n, h1, _, h3⟩ := DataW.trod_int Tryz.underlying3 h
  exact ⟨n, h1, h3⟩
theorem lift_ints (h : DataW.trod enc Tryz.prog w 0 spare held fuel 25 cs = some x) :
    ∃ (a : Option Addr) (n c : Nat) (f : Nat → Int), cs = [.slice a n c] ∧ n ≤ maxLen ∧ n ≤ c ∧ c ≤ maxLen ∧ Sl w a n f ∧ ∀ k, k < n → (Lit.int .i64 (f k)).wf = true := by
  rcases open_ints Tryz.underlying25 Tryz.underlying3 Tryz.cells3 h with ⟨hcs, _⟩ | ⟨a, len, cap, zs, hcs, _, hl, hm, hz, _, hcell, hwz⟩
  · exact ⟨none, 0, 0, fun _ => 0, hcs, by simp, by simp, by simp, fun k hk => by omega, fun k hk => by omega⟩
  · have hlen : len ≤ zs.length := by rw [hz]; split <;> omega
    refine ⟨some a, len, cap, fun i => zs.getD i 0, hcs, Nat.le_trans hl hm, hl, hm, fun k hk => ?_, fun k hk => ?_⟩
    · have hc := hcell k (by omega)
      have h0 := hcell 0 (by omega)
      obtain ⟨b, off, spot⟩ := a
      have hspot : spot = none := by simpa [Addr.add] using World.cell?_spot h0
      subst hspot
      refine ⟨b, off, rfl, ?_, ?_⟩
      · exact World.block_lt_of_cell? w _ h0
      · rw [← hc]; by_cases h : k = 0 <;> simp [Addr.add, h]
    · have : zs.getD k 0 = zs[k]'(by omega) := by rw [List.getD_eq_getElem?_getD, List.getElem?_eq_getElem (by omega)]; rfl
      show (Lit.int .i64 (zs.getD k 0)).wf = true
      rw [this]
      exact hwz _ (List.getElem_mem _)
theorem arr_of {cs : Array Value} {l : List Value} (h : (Value.agg cs).cells.toList = l) : cs = l.toArray := by subst h; rfl
theorem okWide_arr {P : Program} {r : Reach} {base : Nat} {t e : TypeId} {n : Nat} {v : Value} (ht : P.underlying t = some (.array n e)) (h : Value.okWide P w r base t v) : ∃ cs, v = .agg cs := by
  simp only [Value.okWide, ht] at h
  obtain ⟨cs, h1, _⟩ := h
  exact ⟨cs, h1⟩
end
theorem slice_of {a a' : Option Addr} {n n' c c' : Nat} (h : (Value.slice a n c).cells.toList = [.slice a' n' c']) : a = a' ∧ n = n' ∧ c = c' := by
  simpa [Value.cells] using h
theorem own : ownKnob Tryz.prog.godebug = none := by kernel_rfl
theorem laidOut : laidOutB Tryz.prog = true := by kernel_rfl
end Go.Proofs.YtpbobhobhbbimaaGreatDoor
namespace Go.Proofs.YtpbobhobhbbimaaGreatDoor
open Go.ChangeShapes Go.WideShapes Go.ChangeAt Go.RowKit Go.Deep
set_option linter.unusedVariables false
theorem Tryz.cells22 : Tryz.prog.cellsOf 22 = 1 := by kernel_rfl
theorem Tryz.cells49 : Tryz.prog.cellsOf 49 = 4 := by kernel_rfl
theorem Tryz.cells24 : Tryz.prog.cellsOf 24 = 3 := by kernel_rfl
section
variable {H : Type} {enc : TypeId × Value → H} {P : Program} {w : World} {spare : Nat → Bool} {held : Bool} {fuel : Nat} {cs : List Value} {x : DataW H × List MemPlace}
theorem trod_array4 {t e : TypeId} (ht : P.underlying t = some (.array 4 e)) (hce : P.cellsOf e = 1) (hct : P.cellsOf t = 4) (h : DataW.trod enc P w 0 spare held fuel t cs = some x) :
    ∃ (v0 v1 v2 v3 : Value) (y0 y1 y2 y3 : DataW H × List MemPlace) (m : Nat), cs = [v0, v1, v2, v3] ∧ DataW.trod enc P w 0 spare held m e [v0] = some y0 ∧ DataW.trod enc P w 0 spare held m e [v1] = some y1 ∧
      DataW.trod enc P w 0 spare held m e [v2] = some y2 ∧ DataW.trod enc P w 0 spare held m e [v3] = some y3 := by
  obtain ⟨xs, m, _, _, hlen, hxl, hat⟩ := DataW.trod_array ht h
  rw [hct] at hlen
  obtain ⟨v0, v1, v2, v3, rfl⟩ := list4 hlen
  obtain ⟨y0, y1, y2, y3, rfl⟩ := list4 hxl
  rw [hce] at hat
  exact ⟨v0, v1, v2, v3, y0, y1, y2, y3, m, rfl, hat 0 (by omega), hat 1 (by omega), hat 2 (by omega), hat 3 (by omega)⟩
/-- a struct of two fields, whatever their sizes -/
theorem trod_fields2 {t : TypeId} {f0 f1 : Field} {n c0 c1 : Nat} (ht : P.underlying t = some (.struct #[f0, f1])) (hn : P.cellsOf t = n) (h0 : P.cellsOf f0.type = c0) (h1 : P.cellsOf f1.type = c1) (h : DataW.trod enc P w 0 spare held fuel t cs = some x) :
    ∃ (y0 y1 : DataW H × List MemPlace) (m : Nat), cs.length = n ∧ DataW.trod enc P w 0 spare held m f0.type ((cs.drop f0.offset).take c0) = some y0 ∧
      DataW.trod enc P w 0 spare held m f1.type ((cs.drop f1.offset).take c1) = some y1 := by
  obtain ⟨xs, m, _, _, hlen, hxl, hat⟩ := DataW.trod_struct ht h
  obtain ⟨y0, y1, rfl⟩ := list2 (hxl.trans rfl)
  subst hn h0 h1
  exact ⟨y0, y1, m, hlen, hat 0 f0 rfl, hat 1 f1 rfl⟩
theorem trod_fields3 {t : TypeId} {f0 f1 f2 : Field} {n c0 c1 c2 : Nat} (ht : P.underlying t = some (.struct #[f0, f1, f2])) (hn : P.cellsOf t = n) (h0 : P.cellsOf f0.type = c0) (h1 : P.cellsOf f1.type = c1) (h2 : P.cellsOf f2.type = c2)
    (h : DataW.trod enc P w 0 spare held fuel t cs = some x) :
    ∃ (y0 y1 y2 : DataW H × List MemPlace) (m : Nat), cs.length = n ∧ DataW.trod enc P w 0 spare held m f0.type ((cs.drop f0.offset).take c0) = some y0 ∧
      DataW.trod enc P w 0 spare held m f1.type ((cs.drop f1.offset).take c1) = some y1 ∧ DataW.trod enc P w 0 spare held m f2.type ((cs.drop f2.offset).take c2) = some y2 := by
  obtain ⟨xs, m, _, _, hlen, hxl, hat⟩ := DataW.trod_struct ht h
  obtain ⟨y0, y1, y2, rfl⟩ := list3 (hxl.trans rfl)
  subst hn h0 h1 h2
  exact ⟨y0, y1, y2, m, hlen, hat 0 f0 rfl, hat 1 f1 rfl, hat 2 f2 rfl⟩
end
section
variable {H : Type} {enc : TypeId × Value → H} {w : World} {spare : Nat → Bool} {held : Bool} {fuel : Nat} {cs : List Value} {x : DataW H × List MemPlace}
theorem lift_cell (h : DataW.trod enc Tryz.prog w 0 spare held fuel 49 cs = some x) :
    ∃ c : C4, cs = [.int .i64 c.e, .int .i64 c.n, .int .i64 c.w, .int .i64 c.s] ∧ (∀ k, k < 4 → (Lit.int .i64 (c.get k)).wf = true) := by
  obtain ⟨v0, v1, v2, v3, y0, y1, y2, y3, m, rfl, h0, h1, h2, h3⟩ := trod_array4 Tryz.underlying49 Tryz.cells3 Tryz.cells49 h
  obtain ⟨n0, e0, f0⟩ := lift_int h0
  obtain ⟨n1, e1, f1⟩ := lift_int h1
  obtain ⟨n2, e2, f2⟩ := lift_int h2
  obtain ⟨n3, e3, f3⟩ := lift_int h3
  simp only [List.cons.injEq, and_true] at e0 e1 e2 e3
  subst e0 e1 e2 e3
  refine ⟨⟨n0, n1, n2, n3⟩, rfl, fun k hk => ?_⟩
  have : k = 0 ∨ k = 1 ∨ k = 2 ∨ k = 3 := by omega
  rcases this with rfl | rfl | rfl | rfl
  · exact f0
  · exact f1
  · exact f2
  · exact f3
theorem lift_cells (h : DataW.trod enc Tryz.prog w 0 spare held fuel 22 cs = some x) :
    ∃ (a : Option Addr) (n c : Nat) (g : Nat → C4), cs = [.slice a n c] ∧ n ≤ maxLen ∧ n ≤ c ∧ c ≤ maxLen ∧ Sc w a n g := by
  rcases open_slice Tryz.underlying22 h with ⟨hcs, _⟩ | ⟨a, len, cap, m, nf, D, Pl, hcs, _, hl, hm, hmm, _, hi⟩
  · exact ⟨none, 0, 0, fun _ => C4.zero, hcs, by simp, by simp, by simp, fun k hk => by omega⟩
  · have hlm : len ≤ m := by rw [hmm]; split <;> omega
    rw [Tryz.cells49] at hi
    have each : ∀ i, i < m → ∃ c : C4, a.spot = none ∧ a.block < w.heap.size ∧ w.cell? ⟨a.block, a.off + i * 4, none⟩ = some (.int .i64 c.e) ∧ w.cell? ⟨a.block, a.off + i * 4 + 1, none⟩ = some (.int .i64 c.n) ∧
        w.cell? ⟨a.block, a.off + i * 4 + 2, none⟩ = some (.int .i64 c.w) ∧ w.cell? ⟨a.block, a.off + i * 4 + 3, none⟩ = some (.int .i64 c.s) := by
      intro i him
      obtain ⟨cs', hc, ht⟩ := hi i him
      obtain ⟨c, rfl, _⟩ := lift_cell ht
      obtain ⟨_, hcl, hat⟩ := World.cells?_some hc
      obtain ⟨_, hc0, ht0⟩ := hi 0 (by omega)
      obtain ⟨c0, rfl, _⟩ := lift_cell ht0
      obtain ⟨_, _, hat0⟩ := World.cells?_some hc0
      have z0 := hat0 0 (by omega)
      rw [Nat.zero_mul] at z0
      have hspot : a.spot = none := by simpa [Addr.add] using World.cell?_spot z0
      have hblk : a.block < w.heap.size := by simpa [Addr.add] using World.block_lt_of_cell? w _ z0
      obtain ⟨b, off, spot⟩ := a
      simp only at hspot hblk
      subst hspot
      have add : ∀ off p : Nat, (Addr.add ⟨b, off, none⟩ p : Addr) = ⟨b, off + p, none⟩ := fun off p => by by_cases h : p = 0 <;> simp [Addr.add, h]
      have r0 := hat 0 (by omega)
      have r1 := hat 1 (by omega)
      have r2 := hat 2 (by omega)
      have r3 := hat 3 (by omega)
      simp only [add] at r0 r1 r2 r3
      refine ⟨c, rfl, hblk, ?_, ?_, ?_, ?_⟩
      · exact r0
      · exact r1
      · exact r2
      · exact r3
    refine ⟨some a, len, cap, fun i => if hi : i < m then (each i hi).choose else C4.zero, hcs, Nat.le_trans hl hm, hl, hm, fun k hk => ?_⟩
    have hkm : k < m := by omega
    obtain ⟨s1, s2, s3, s4, s5, s6⟩ := (each k hkm).choose_spec
    refine ⟨a.block, a.off, ?_, s2, ?_, ?_, ?_, ?_⟩
    · obtain ⟨b, off, spot⟩ := a
      simp only at s1
      rw [s1]
    · simp only [hkm, dite_true]; exact s3
    · simp only [hkm, dite_true]; exact s4
    · simp only [hkm, dite_true]; exact s5
    · simp only [hkm, dite_true]; exact s6
theorem lift_grid (h : DataW.trod enc Tryz.prog w 0 spare held fuel 24 cs = some x) :
    ∃ (wide high : Int) (a : Option Addr) (n c : Nat) (g : Nat → C4), cs = [.int .i64 wide, .int .i64 high, .slice a n c] ∧ (Lit.int .i64 wide).wf = true ∧ (Lit.int .i64 high).wf = true ∧ n ≤ maxLen ∧ n ≤ c ∧ c ≤ maxLen ∧ Sc w a n g := by
  obtain ⟨y0, y1, y2, m, hlen, h0, h1, h2⟩ := trod_fields3 Tryz.underlying24 Tryz.cells24 Tryz.cells3 Tryz.cells3 Tryz.cells22 h
  obtain ⟨v0, v1, v2, rfl⟩ := list3 hlen
  obtain ⟨wide, e0, f0⟩ := lift_int h0
  obtain ⟨high, e1, f1⟩ := lift_int h1
  obtain ⟨a, n, c, g, e2, b1, b2, b3, hs⟩ := lift_cells h2
  simp at e0 e1 e2
  subst e0 e1 e2
  exact ⟨wide, high, a, n, c, g, rfl, f0, f1, b1, b2, b3, hs⟩
end
end Go.Proofs.YtpbobhobhbbimaaGreatDoor
