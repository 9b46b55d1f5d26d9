/- Walks: lists of ints that are made by append: the reference's own; wall.Cells, ref.Cells. Walks: wall.Cells and the reference's. Walks: the reference's Bodies and wall.Bodies. -/
import Derived.Test.YtnnaegnkkpknpaaR3Valid
import Derived.Test.YtnnaegnkkpknpaaLists
import Derived.Laws.MakeOwn
import Derived.Maps.AppendAt
import Derived.Maps.OwnOps
import Derived.Maps.OwnSet
namespace Go.Proofs.Ytnnaegnkkpknpaa
open Go.RowKit
set_option linter.unusedVariables false
/-- the places below n at which B is the body -/
def ownL (B : Nat → Int) (body : Int) : Nat → List Int
  | 0 => []
  | k + 1 => if B k = body then ownL B body k ++ [(k : Int)] else ownL B body k
theorem ownL_length (B : Nat → Int) (body : Int) : ∀ n, (ownL B body n).length ≤ n
  | 0 => by simp [ownL]
  | k + 1 => by have := ownL_length B body k; simp only [ownL]; split <;> simp <;> omega
set_option maxHeartbeats 2000000 in
theorem ref3_own (ak ab : Option Addr) (nk nb ck cb : Nat) (B : Nat → Int) (body : Int) (w : World) (hnb : nb ≤ 100000000) (HB : Sl w ab nb B) :
    Calls Try.prog 75 #[.agg #[.slice ak nk ck, .slice ab nb cb], .int .i64 body] w
      fun e w' => ∃ v, e = .returned v ∧ w'.ownsRow w.heap.size 3 1 v (ownL B body nb).length ((ownL B body nb).map vInt) ∧ Below w.heap.size w w' := by
  obtain ⟨i0, hi, hz0, hz1, hz2⟩ := info_parts infoI
  have HB1 := HB.alloc (.cells #[.slice ak nk ck, .slice ab nb cb] 27)
  have X := Bx.new w #[.slice ak nk ck, .slice ab nb cb] 27
  go_enter Try.func75, Try.ntmps75
  go_wp2
  go_loopw [5, 6] (fun v i wr => ∃ k : Nat, k ≤ nb ∧ i = .int .i64 k ∧ wr.ownsRow (w.heap.size + 1) 3 1 v (ownL B body k).length ((ownL B body k).map vInt) ∧ Below (w.heap.size + 1) (w.alloc (.cells #[.slice ak nk ck, .slice ab nb cb] 27)) wr) (fun _ i _ => nb - (intOf i).toNat)
  case atStart => exact ⟨0, Nat.zero_le _, rfl, World.ownsRow_nil .., Below.refl _ _⟩
  case round =>
    obtain ⟨k, hk, rfl, hown, hb⟩ := hrel
    have X1 := X.below (by simpa using hb)
    have J := HB1.below (by simpa using hb)
    have x1 := X1.at_ 1 rfl
    have z := X1.lt
    by_cases hlt : k < nb
    · obtain ⟨b1, o1, rfl, _, c1⟩ := J k hlt
      have hbd := ownL_length B body k
      cases he : (B k == body)
      · have he' : ¬ B k = body := by simpa using he
        have HE := hid he'; clear he'
        go_wp2
        go_roundw
        case rel => exact ⟨k + 1, by omega, by go_num, by simp only [ownL, if_neg HE.out]; exact hown, hb⟩
        case measure => simp [intOf]; omega
      · have he' : B k = body := by simpa using he
        have HE := hid he'; clear he'
        go_wp2_with (at_builtin; refine wpList_append_own _ rfl _ _ 25 rfl (w.heap.size + 1) 3 i0 (.int .i64 0) 1 8 Try.underlying25 hi hz0 hz1 hz2 rfl (by decide) _ _ _ rfl (hown.alloc _) ⟨wr.heap.size, 0, none⟩ 1 1 [.int .i64 (k : Int)] rfl rfl (cell_one_new _ _ _) (by simp [Value.oneCell']) (by simp [maxLen]; omega) (by omega) (by simp; omega) ?_; intro v' w1 hown' hgrow _)
        go_roundw
        case rel => exact ⟨k + 1, by omega, by go_num, by simp only [ownL, if_pos HE.out]; exact own_snoc hown', (hb.alloc (by have := hb.size; simp at this; omega) _).grown hgrow (by have := hb.size; simp at this; simp; omega) (own_base hown)⟩
        case measure => simp [intOf]; omega
    · obtain rfl : k = nb := (by omega)
      go_wp2
      go_ret
      exact ⟨_, rfl, own_mono hown (by omega), (below_alloc w _).trans (hb.mono (by omega))⟩
end Go.Proofs.Ytnnaegnkkpknpaa
namespace Go.Proofs.Ytnnaegnkkpknpaa
open Go.RowKit
set_option linter.unusedVariables false
theorem ref3_isBody (n : Int) (w : World) : Calls Try.prog 74 #[.int .i64 n] w fun e w' => e = .returned (.bool (within n 1 9)) ∧ w = w' := by
  go_enter Try.func74, Try.ntmps74
  go_wp2_with (go_at_call 67; refine (ref3_within _ _ _ _).mono ?_; rintro e w' ⟨rfl, rfl⟩)
  go_ret
  exact ⟨rfl, rfl⟩
def cellsL (ok : Bool) (B : Nat → Int) (body : Int) (n : Nat) : List Int := if ok && within body 1 9 then ownL B body n else []
def cellsE (ok : Bool) (body : Int) : Int := if ok then (if within body 1 9 then 0 else 7) else 1
theorem cells_no {B : Nat → Int} {body : Int} {n : Nat} (h : within body 1 9 = false) : cellsL true B body n = [] ∧ cellsE true body = 7 := by simp [cellsL, cellsE, h]
theorem cells_yes {B : Nat → Int} {body : Int} {n : Nat} (h : within body 1 9 = true) : cellsL true B body n = ownL B body n ∧ cellsE true body = 0 := by simp [cellsL, cellsE, h]
set_option maxHeartbeats 2000000 in
theorem ref3_Cells (wide high body : Int) (a ak ab : Option Addr) (n nk nb c ck cb : Nat) (g : Nat → C4) (K B : Nat → Int) (w : World) (hn : n ≤ 100000000) (hnk : nk ≤ 100000000) (hnb : nb ≤ 100000000) (H : Sc w a n g) (HK : Sl w ak nk K) (HB : Sl w ab nb B) :
    Calls Try.prog 30 #[.agg #[.int .i64 wide, .int .i64 high, .slice a n c], .agg #[.slice ak nk ck, .slice ab nb cb], .int .i64 body] w
      (ListPost (cellsL (validW wide high n g nk nb K B) B body nb) (cellsE (validW wide high n g nk nb K B) body) w) := by
  have I := (H.alloc (.cells #[.int .i64 wide, .int .i64 high, .slice a n c] 24)).alloc (.cells #[.slice ak nk ck, .slice ab nb cb] 27)
  have IK := (HK.alloc (.cells #[.int .i64 wide, .int .i64 high, .slice a n c] 24)).alloc (.cells #[.slice ak nk ck, .slice ab nb cb] 27)
  have IB := (HB.alloc (.cells #[.int .i64 wide, .int .i64 high, .slice a n c] 24)).alloc (.cells #[.slice ak nk ck, .slice ab nb cb] 27)
  go_enter Try.func30, Try.ntmps30
  go_wp2_with fail
  refine (ref3_valid wide high _ _ _ _ _ _ _ _ _ g K B _ hn hnk hnb I IK IB).mono ?_
  rintro e w1 ⟨rfl, hb1⟩
  have hB1 : Below w.heap.size w w1 := bvia (by (repeat' (first | with_reducible assumption | with_reducible exact Below.refl _ _ | with_reducible refine Below.drew ?_ | with_reducible refine below_drewN ?_ _ | with_reducible refine balloc ?_ _ | with_reducible refine bset ?_ ?_ _ | with_reducible refine Below.setCell ?_ ?_ _ | with_reducible refine Below.alloc ?_ ?_ _ | omega | (simp; done) | (simp; omega)))) hb1
  have X1 := (Bx.new (w.alloc (.cells #[.int .i64 wide, .int .i64 high, .slice a n c] 24)) #[.slice ak nk ck, .slice ab nb cb] 27).below hb1
  simp only [World.size_alloc] at X1
  have x0 := X1.at_ 0 rfl; have x1 := X1.at_ 1 rfl
  have J1 := IB.below hb1
  cases hv : validW wide high n g nk nb K B
  · go_wp2_with fail
    go_ret2
    rw [hv]
    exact listPost_nil hB1
  · cases hw : within body 1 9
    · go_wp2_with (go_at_call 74; refine (ref3_isBody _ _).mono ?_; rintro e w' ⟨rfl, rfl⟩)
      go_ret2
      rw [hv, (cells_no (B := B) (n := nb) hw).1, (cells_no (B := B) (n := nb) hw).2]
      exact listPost_nil hB1
    · go_wp2_with (go_at_call 74; refine (ref3_isBody _ _).mono ?_; rintro e w' ⟨rfl, rfl⟩)
      refine (ref3_own _ _ _ _ _ _ B body _ hnb J1).mono ?_
      rintro e w2 ⟨v, rfl, hown, hb2⟩
      go_wp2_with fail
      go_ret2
      rw [hv, (cells_yes (B := B) (n := nb) hw).1, (cells_yes (B := B) (n := nb) hw).2]
      exact listPost_own hown (hB1.trans (hb2.mono hB1.size))
set_option maxHeartbeats 2000000 in
theorem wall_Cells (wide high body : Int) (a ak ab : Option Addr) (n nk nb c ck cb : Nat) (g : Nat → C4) (K B : Nat → Int) (w : World) (hn : n ≤ 100000000) (hnk : nk ≤ 100000000) (hnb : nb ≤ 100000000) (H : Sc w a n g) (HK : Sl w ak nk K) (HB : Sl w ab nb B) :
    Calls Try.prog 29 #[.agg #[.int .i64 wide, .int .i64 high, .slice a n c], .agg #[.slice ak nk ck, .slice ab nb cb], .int .i64 body] w
      (ListPost (cellsL (validW wide high n g nk nb K B) B body nb) (cellsE (validW wide high n g nk nb K B) body) w) := by
  obtain ⟨i0, hi, hz0, hz1, hz2⟩ := info_parts infoI
  have I := (H.alloc (.cells #[.int .i64 wide, .int .i64 high, .slice a n c] 24)).alloc (.cells #[.slice ak nk ck, .slice ab nb cb] 27)
  have IK := (HK.alloc (.cells #[.int .i64 wide, .int .i64 high, .slice a n c] 24)).alloc (.cells #[.slice ak nk ck, .slice ab nb cb] 27)
  have IB := (HB.alloc (.cells #[.int .i64 wide, .int .i64 high, .slice a n c] 24)).alloc (.cells #[.slice ak nk ck, .slice ab nb cb] 27)
  go_enter Try.func29, Try.ntmps29
  go_wp2_with fail
  refine (wall_valid wide high _ _ _ _ _ _ _ _ _ g K B _ hn hnk hnb I IK IB).mono ?_
  rintro e w1 ⟨rfl, hb1⟩
  have hB1 : Below w.heap.size w w1 := bvia (by (repeat' (first | with_reducible assumption | with_reducible exact Below.refl _ _ | with_reducible refine Below.drew ?_ | with_reducible refine below_drewN ?_ _ | with_reducible refine balloc ?_ _ | with_reducible refine bset ?_ ?_ _ | with_reducible refine Below.setCell ?_ ?_ _ | with_reducible refine Below.alloc ?_ ?_ _ | omega | (simp; done) | (simp; omega)))) hb1
  have X1 := (Bx.new (w.alloc (.cells #[.int .i64 wide, .int .i64 high, .slice a n c] 24)) #[.slice ak nk ck, .slice ab nb cb] 27).below hb1
  simp only [World.size_alloc] at X1
  have x1 := X1.at_ 1 rfl
  have J1 := IB.below hb1
  have hs1 := hB1.size
  clear hb1 I IK IB
  cases hv : validW wide high n g nk nb K B
  · go_wp2_with fail
    go_ret2
    rw [hv]
    exact listPost_nil hB1
  · cases hw : within body 1 9
    · go_wp2_with (go_at_call 66; refine (wall_within _ _ _ _).mono ?_; rintro e w' ⟨rfl, rfl⟩)
      go_ret2
      rw [hv, (cells_no (B := B) (n := nb) hw).1, (cells_no (B := B) (n := nb) hw).2]
      exact listPost_nil hB1
    · go_wp2_with (go_at_call 66; refine (wall_within _ _ _ _).mono ?_; rintro e w' ⟨rfl, rfl⟩)
      go_loopw [8, 23] (fun v i wr => ∃ k : Nat, k ≤ nb ∧ i = .int .i64 k ∧ wr.ownsRow w1.heap.size 3 1 v (ownL B body k).length ((ownL B body k).map vInt) ∧ Below w1.heap.size w1 wr) (fun _ i _ => nb - (intOf i).toNat)
      case atStart => exact ⟨0, Nat.zero_le _, rfl, World.ownsRow_nil .., Below.refl _ _⟩
      case round =>
        obtain ⟨k, hk, rfl, hown, hb⟩ := hrel
        have J := J1.below hb
        by_cases hlt : k < nb
        · obtain ⟨b1, o1, rfl, _, c1⟩ := J k hlt
          have hbd := ownL_length B body k
          cases he : (B k == body)
          · have he' : ¬ B k = body := by simpa using he
            have HE := hid he'; clear he'
            go_wp2
            go_roundw
            case rel => exact ⟨k + 1, by omega, by go_num, by simp only [ownL, if_neg HE.out]; exact hown, hb⟩
            case measure => simp [intOf]; omega
          · have he' : B k = body := by simpa using he
            have HE := hid he'; clear he'
            go_wp2_with (at_builtin; refine wpList_append_own _ rfl _ _ 25 rfl w1.heap.size 3 i0 (.int .i64 0) 1 8 Try.underlying25 hi hz0 hz1 hz2 rfl (by decide) _ _ _ rfl (hown.alloc _) ⟨wr.heap.size, 0, none⟩ 1 1 [.int .i64 (k : Int)] rfl rfl (cell_one_new _ _ _) (by simp [Value.oneCell']) (by simp [maxLen]; omega) (by omega) (by have := hb.size; simp; omega) ?_; intro v' w2 hown' hgrow _)
            go_roundw
            case rel => exact ⟨k + 1, by omega, by go_num, by simp only [ownL, if_pos HE.out]; exact own_snoc hown', (hb.alloc hb.size _).grown hgrow (by have := hb.size; simp; omega) (own_base hown)⟩
            case measure => simp [intOf]; omega
        · obtain rfl : k = nb := (by omega)
          go_wp2
          go_ret2
          rw [hv, (cells_yes (B := B) (n := k) hw).1, (cells_yes (B := B) (n := k) hw).2]
          exact listPost_own hown (hB1.trans (hb.mono hs1))
end Go.Proofs.Ytnnaegnkkpknpaa
namespace Go.Proofs.Ytnnaegnkkpknpaa
open Go.RowKit Go.Maps
set_option linter.unusedVariables false
/-- the bodies among 1 .. k -/
def bodTo (B : Nat → Int) (n : Nat) : Nat → List Int
  | 0 => []
  | k + 1 => if 0 < (ownL B ((k : Int) + 1) n).length then bodTo B n k ++ [(k : Int) + 1] else bodTo B n k
theorem bodTo_length (B : Nat → Int) (n : Nat) : ∀ k, (bodTo B n k).length ≤ k
  | 0 => by simp [bodTo]
  | k + 1 => by have := bodTo_length B n k; simp only [bodTo]; split <;> simp <;> omega
def bodL (ok : Bool) (B : Nat → Int) (n : Nat) : List Int := if ok then bodTo B n 9 else []
set_option maxRecDepth 100000 in
set_option maxHeartbeats 2000000 in
theorem ref3_Bodies (wide high : Int) (a ak ab : Option Addr) (n nk nb c ck cb : Nat) (g : Nat → C4) (K B : Nat → Int) (w : World) (hn : n ≤ 100000000) (hnk : nk ≤ 100000000) (hnb : nb ≤ 100000000) (H : Sc w a n g) (HK : Sl w ak nk K) (HB : Sl w ab nb B) :
    Calls Try.prog 27 #[.agg #[.int .i64 wide, .int .i64 high, .slice a n c], .agg #[.slice ak nk ck, .slice ab nb cb]] w
      (ListPost (bodL (validW wide high n g nk nb K B) B nb) (errR (validW wide high n g nk nb K B) 1) w) := by
  obtain ⟨i0, hi, hz0, hz1, hz2⟩ := info_parts infoI
  have I := (H.alloc (.cells #[.int .i64 wide, .int .i64 high, .slice a n c] 24)).alloc (.cells #[.slice ak nk ck, .slice ab nb cb] 27)
  have IK := (HK.alloc (.cells #[.int .i64 wide, .int .i64 high, .slice a n c] 24)).alloc (.cells #[.slice ak nk ck, .slice ab nb cb] 27)
  have IB := (HB.alloc (.cells #[.int .i64 wide, .int .i64 high, .slice a n c] 24)).alloc (.cells #[.slice ak nk ck, .slice ab nb cb] 27)
  go_enter Try.func27, Try.ntmps27
  go_wp2_with fail
  refine (ref3_valid wide high _ _ _ _ _ _ _ _ _ g K B _ hn hnk hnb I IK IB).mono ?_
  rintro e w1 ⟨rfl, hb1⟩
  have hB1 : Below w.heap.size w w1 := bvia (by (repeat' (first | with_reducible assumption | with_reducible exact Below.refl _ _ | with_reducible refine Below.drew ?_ | with_reducible refine below_drewN ?_ _ | with_reducible refine balloc ?_ _ | with_reducible refine bset ?_ ?_ _ | with_reducible refine Below.setCell ?_ ?_ _ | with_reducible refine Below.alloc ?_ ?_ _ | omega | (simp; done) | (simp; omega)))) hb1
  have X1 := (Bx.new (w.alloc (.cells #[.int .i64 wide, .int .i64 high, .slice a n c] 24)) #[.slice ak nk ck, .slice ab nb cb] 27).below hb1
  simp only [World.size_alloc] at X1
  have J1 := IB.below hb1
  have hs1 := hB1.size
  clear hb1 I IK IB
  cases hv : validW wide high n g nk nb K B
  · go_wp2_with fail
    go_ret2
    rw [hv]
    exact listPost_nil hB1
  · go_wp2_with fail
    go_loopw [6, 7] (fun v i wr => ∃ k : Nat, k ≤ 9 ∧ i = .int .i64 ((k : Int) + 1) ∧ wr.ownsRow w1.heap.size 3 1 v (bodTo B nb k).length ((bodTo B nb k).map vInt) ∧ Below w1.heap.size w1 wr) (fun _ i _ => 11 - (intOf i).toNat)
    case atStart => exact ⟨0, Nat.zero_le _, rfl, World.ownsRow_nil .., Below.refl _ _⟩
    case round =>
      obtain ⟨k, hk, rfl, hown, hb⟩ := hrel
      have J := J1.below hb
      have X := X1.below hb
      have x0 := X.at_ 0 rfl; have x1 := X.at_ 1 rfl
      by_cases hlt : k < 9
      · have hbd := bodTo_length B nb k
        go_wp2_with fail
        refine (ref3_own _ _ _ _ _ _ B ((k : Int) + 1) _ hnb J).mono ?_
        rintro e w2 ⟨v2, rfl, hown2, hb2⟩
        obtain ⟨a2, c2, rfl, _⟩ := sl_of_own hown2
        have hown3 := own_below hown hb2
        have hb3 := hb.trans (hb2.mono hb.size)
        have hlen := ownL_length B ((k : Int) + 1) nb
        by_cases hpos : 0 < (ownL B ((k : Int) + 1) nb).length
        · go_wp2_with (at_builtin; refine wpList_append_own _ rfl _ _ 25 rfl w1.heap.size 3 i0 (.int .i64 0) 1 8 Try.underlying25 hi hz0 hz1 hz2 rfl (by decide) _ _ _ rfl (hown3.alloc _) ⟨w2.heap.size, 0, none⟩ 1 1 [.int .i64 ((k : Int) + 1)] rfl rfl (cell_one_new _ _ _) (by simp [Value.oneCell']) (by simp [maxLen]; omega) (by omega) (by have := hb3.size; simp; omega) ?_; intro v' w4 hown' hgrow _)
          go_roundw
          case rel => exact ⟨k + 1, by omega, by go_num, by simp only [bodTo, if_pos hpos]; exact own_snoc hown', (hb3.alloc hb3.size _).grown hgrow (by have := hb3.size; simp; omega) (own_base hown3)⟩
          case measure => simp [intOf]; omega
        · go_wp2
          go_roundw
          case rel => exact ⟨k + 1, by omega, by go_num, by simp only [bodTo, if_neg hpos]; exact hown3, hb3⟩
          case measure => simp [intOf]; omega
      · obtain rfl : k = 9 := (by omega)
        go_wp2
        go_ret2
        rw [hv]
        exact listPost_own hown (hB1.trans (hb.mono hs1))
theorem zeroInt (w : World) : (zeroValue 3).run Try.prog w = .ok (.int .i64 0) w := by kernel_rfl
theorem keyedInt : Keyed Try.prog 3 := int_keyed Try.underlying3
/-- the map counts each number among the first k -/
def Counts (B : Nat → Int) (k : Nat) (D : DataW Unit) : Prop := ∀ x : Int, (Lit.int .i64 x).wf = true → D.atKey (.int .i64 x) (.lit (.int .i64 0)) = .lit (.int .i64 ((ownL B x k).length : Int))
theorem counts_zero (B : Nat → Int) : Counts B 0 (.map []) := fun x _ => by simp [ownL, DataW.atKey]
theorem lit_inj {a b : Int} (h : (DataW.lit (.int .i64 a) : DataW Unit) = .lit (.int .i64 b)) : a = b := by
  injection h with h
  injection h
theorem map_below {w w' : World} {b k : Nat} {D : DataW Unit} (h : w.ownsMap Try.prog 3 (plainElem Try.prog 3) b k D) (hb : Below w.heap.size w w') : w'.ownsMap Try.prog 3 (plainElem Try.prog 3) b k D := by
  obtain ⟨es, clock, h1, h2⟩ := h
  refine ⟨es, clock, ?_, h2⟩
  rw [hb.block b ?_]
  · exact h1
  · rcases Nat.lt_or_ge b w.heap.size with h' | h'
    · exact h'
    · rw [Array.getElem?_eq_none h'] at h1; cases h1
theorem counts_step {B : Nat → Int} {k : Nat} {D : DataW Unit} (hm : IsMap D) (h : Counts B k D) {c : Int} (hw : (Lit.int .i64 (B k)).wf = true) (hat : D.atKey (.int .i64 (B k)) (.lit (.int .i64 0)) = .lit (.int .i64 c)) :
    c = (ownL B (B k) k).length ∧ Counts B (k + 1) (D.put (.int .i64 (B k)) (.lit (.int .i64 (c + 1)))) := by
  have hc : c = (ownL B (B k) k).length := by
    have := hat.symm.trans (h (B k) hw)
    injection this with this
    injection this
  refine ⟨hc, fun x hx => ?_⟩
  by_cases e : x = B k
  · subst e
    rw [atKey_put_same hm (by trivial)]
    simp [ownL, hc]
  · rw [atKey_put_other (by intro h'; injection h' with _ h'; exact e h'), h x hx]
    rw [show ownL B x (k + 1) = ownL B x k from if_neg (fun h' => e h'.symm)]
set_option maxRecDepth 100000 in
set_option maxHeartbeats 2000000 in
theorem wall_Bodies (wide high : Int) (a ak ab : Option Addr) (n nk nb c ck cb : Nat) (g : Nat → C4) (K B : Nat → Int) (w : World) (hn : n ≤ 100000000) (hnk : nk ≤ 100000000) (hnb : nb ≤ 100000000) (H : Sc w a n g) (HK : Sl w ak nk K) (HB : Sl w ab nb B) :
    Calls Try.prog 26 #[.agg #[.int .i64 wide, .int .i64 high, .slice a n c], .agg #[.slice ak nk ck, .slice ab nb cb]] w
      (ListPost (bodL (validW wide high n g nk nb K B) B nb) (errR (validW wide high n g nk nb K B) 1) w) := by
  obtain ⟨i0, hi, hz0, hz1, hz2⟩ := info_parts infoI
  have hmm := @run_makeMap Try.prog
  have I := (H.alloc (.cells #[.int .i64 wide, .int .i64 high, .slice a n c] 24)).alloc (.cells #[.slice ak nk ck, .slice ab nb cb] 27)
  have IK := (HK.alloc (.cells #[.int .i64 wide, .int .i64 high, .slice a n c] 24)).alloc (.cells #[.slice ak nk ck, .slice ab nb cb] 27)
  have IB := (HB.alloc (.cells #[.int .i64 wide, .int .i64 high, .slice a n c] 24)).alloc (.cells #[.slice ak nk ck, .slice ab nb cb] 27)
  go_enter Try.func26, Try.ntmps26
  go_wp2_with fail
  refine (wall_valid wide high _ _ _ _ _ _ _ _ _ g K B _ hn hnk hnb I IK IB).mono ?_
  rintro e w1 ⟨rfl, hb1⟩
  have hB1 : Below w.heap.size w w1 := bvia (by (repeat' (first | with_reducible assumption | with_reducible exact Below.refl _ _ | with_reducible refine Below.drew ?_ | with_reducible refine below_drewN ?_ _ | with_reducible refine balloc ?_ _ | with_reducible refine bset ?_ ?_ _ | with_reducible refine Below.setCell ?_ ?_ _ | with_reducible refine Below.alloc ?_ ?_ _ | omega | (simp; done) | (simp; omega)))) hb1
  have X1 := (Bx.new (w.alloc (.cells #[.int .i64 wide, .int .i64 high, .slice a n c] 24)) #[.slice ak nk ck, .slice ab nb cb] 27).below hb1
  simp only [World.size_alloc] at X1
  have J1 := IB.below hb1
  have hs1 := hB1.size
  clear hb1 I IK IB
  cases hv : validW wide high n g nk nb K B
  · go_wp2_with fail
    go_ret2
    rw [hv]
    exact listPost_nil hB1
  · have HV := hid ((validW_iff _ _ _ _ _ _ _ _).1 hv)
    have X2 := X1.alloc (.map #[] 0)
    have x1 := X2.at_ 1 rfl
    go_wp2_with fail
    go_loopw [19] (fun i wr => ∃ k : Nat, k ≤ nb ∧ i = .int .i64 k ∧ Below w1.heap.size w1 wr ∧ ∃ D : DataW Unit, wr.ownsMap Try.prog 3 (plainElem Try.prog 3) w1.heap.size k D ∧ Counts B k D) (fun i _ => nb - (intOf i).toNat)
    case atStart => exact ⟨0, Nat.zero_le _, rfl, below_alloc _ _, _, World.ownsMap_made _ _ _ _, counts_zero B⟩
    case round =>
      obtain ⟨k, hk, rfl, hb, D, hown, hcnt⟩ := hrel
      have J := J1.below hb
      by_cases hlt : k < nb
      · obtain ⟨b1, o1, rfl, _, c1⟩ := J k hlt
        have hok := HV.out.2.2.2 k (by have := HV.out.2.2.1; omega)
        have hwf : (Lit.int .i64 (B k)).wf = true := WalkArith.wf_i64 (by omega)
        have hkey : keyOf Try.prog 3 (.int .i64 (B k)) = some (.int .i64 (B k)) := keyOf_int_mk Try.underlying3 hwf
        have hlen := ownL_length B (B k) k
        have HOK := hid hok
        clear hok
        go_wp2_with (first | (at_lookup; refine wpList_lookup_own_int _ rfl _ _ 99 rfl 3 3 .i64 keyedInt Try.underlying99 Try.underlying3 (zeroInt _) w1.heap.size k _ rfl hown _ _ rfl hkey ?_; intro cc hat hwc; obtain ⟨hcc, hcnt'⟩ := counts_step hown.isMap hcnt hwf hat; have hc1 : 0 ≤ cc := (by omega); have hc2 : cc ≤ k := (by omega); clear hcc hat hwc) | (at_mapUpdate; refine wpList_mapUpdate_own _ rfl _ _ _ 99 rfl 3 3 keyedInt Try.underlying99 _ w1.heap.size k _ rfl hown (by unfold maxLen; omega) _ _ _ rfl rfl hkey _ [] (plainElem_int Try.underlying3 (WalkArith.wf_i64 (by omega))) ?_; intro w2 hown1 hgrow1))
        go_roundw
        case rel => exact ⟨k + 1, by omega, by go_num, hb.grown hgrow1 (by have := hb.size; omega) (fun j hj => by cases hj; exact Nat.le_refl _), _, hown1, hcnt'⟩
        case measure => simp [intOf]; omega
      · obtain rfl : k = nb := (by omega)
        go_wp2
        clear X2 x1 J1
        obtain ⟨wo, rfl⟩ : ∃ wo : World, wo = wr := ⟨_, rfl⟩
        go_loopw [9, 10] (fun v i wr2 => ∃ j : Nat, j ≤ 9 ∧ i = .int .i64 ((j : Int) + 1) ∧ wr2.ownsRow wo.heap.size 3 1 v (bodTo B k j).length ((bodTo B k j).map vInt) ∧ Below wo.heap.size wo wr2) (fun _ i _ => 11 - (intOf i).toNat)
        case atStart => exact ⟨0, Nat.zero_le _, rfl, World.ownsRow_nil .., Below.refl _ _⟩
        case round =>
          obtain ⟨j, hj, rfl, hownj, hbj⟩ := hrel
          by_cases hlt2 : j < 9
          · have hbd := bodTo_length B k j
            have hwf : (Lit.int .i64 ((j : Int) + 1)).wf = true := WalkArith.wf_i64 (by omega)
            have hat0 := hid (hcnt _ hwf)
            clear hwf
            have hown2 : wr.ownsMap Try.prog 3 (plainElem Try.prog 3) w1.heap.size k D := map_below hown hbj
            clear hown
            have hlen := ownL_length B ((j : Int) + 1) k
            by_cases hpos : 0 < (ownL B ((j : Int) + 1) k).length
            · go_wp2_with (first | (at_lookup; refine wpList_lookup_own_int _ rfl _ _ 99 rfl 3 3 .i64 keyedInt Try.underlying99 Try.underlying3 (zeroInt _) w1.heap.size k _ rfl hown2 _ _ rfl (keyOf_int_mk Try.underlying3 (WalkArith.wf_i64 (by omega))) ?_; intro cc hat hwc; have hcc := lit_inj (hat.symm.trans hat0.out); have hc3 : 0 < cc := (by omega); clear hcc hat hwc) | (at_builtin; refine wpList_append_own _ rfl _ _ 25 rfl wo.heap.size 3 i0 (.int .i64 0) 1 8 Try.underlying25 hi hz0 hz1 hz2 rfl (by decide) _ _ _ rfl (hownj.alloc _) ⟨wr.heap.size, 0, none⟩ 1 1 [.int .i64 ((j : Int) + 1)] rfl rfl (cell_one_new _ _ _) (by simp [Value.oneCell']) (by simp [maxLen]; omega) (by omega) (by have := hbj.size; simp; omega) ?_; intro v' w4 hown' hgrow _))
              go_roundw
              case rel => exact ⟨j + 1, by omega, by go_num, by simp only [bodTo, if_pos hpos]; exact own_snoc hown', (hbj.alloc hbj.size _).grown hgrow (by have := hbj.size; simp; omega) (own_base hownj)⟩
              case measure => simp [intOf]; omega
            · go_wp2_with (at_lookup; refine wpList_lookup_own_int _ rfl _ _ 99 rfl 3 3 .i64 keyedInt Try.underlying99 Try.underlying3 (zeroInt _) w1.heap.size k _ rfl hown2 _ _ rfl (keyOf_int_mk Try.underlying3 (WalkArith.wf_i64 (by omega))) ?_; intro cc hat hwc; have hcc := lit_inj (hat.symm.trans hat0.out); have hc3 : cc ≤ 0 := (by omega); clear hcc hat hwc)
              go_roundw
              case rel => exact ⟨j + 1, by omega, by go_num, by simp only [bodTo, if_neg hpos]; exact hownj, hbj⟩
              case measure => simp [intOf]; omega
          · obtain rfl : j = 9 := (by omega)
            go_wp2
            go_ret2
            rw [hv]
            exact listPost_own hownj (hB1.trans ((hb.trans (hbj.mono hb.size)).mono hs1))
end Go.Proofs.Ytnnaegnkkpknpaa
