/- Walks: wall.Cells and the reference's. -/
import Derived.Test.YtnnaegnkkpknpaaOwn
namespace Go.Proofs.Ytnnaegnkkpknpaa
open Go.RowKit
set_option linter.unusedVariables false
theorem ref3_isBody (n : Int) (w : World) : Calls Try.prog 74 #[.int .i64 n] w fun e w' => e = .returned (.bool (within n 1 9)) ∧ w = w' := by
  go_enter Try.func74, Try.ntmps74
  go_wp2_with (go_at_call 67; refine (ref3_within _ _ _ _).mono ?_; rintro e w' ⟨rfl, rfl⟩)
  go_ret
  exact ⟨rfl, rfl⟩
def cellsL (ok : Bool) (B : Nat → Int) (body : Int) (n : Nat) : List Int := if ok && within body 1 9 then ownL B body n else []
def cellsE (ok : Bool) (body : Int) : Int := if ok then (if within body 1 9 then 0 else 7) else 1
theorem cells_no {B : Nat → Int} {body : Int} {n : Nat} (h : within body 1 9 = false) : cellsL true B body n = [] ∧ cellsE true body = 7 := by simp [cellsL, cellsE, h]
theorem cells_yes {B : Nat → Int} {body : Int} {n : Nat} (h : within body 1 9 = true) : cellsL true B body n = ownL B body n ∧ cellsE true body = 0 := by simp [cellsL, cellsE, h]
/-- a list of ints and an error -/
def ListPost (xs : List Int) (err : Int) (w : World) (e : Ending) (w' : World) : Prop :=
  ∃ a c, e = .returned (.tuple #[.slice a xs.length c, .int .i64 err]) ∧ Sl w' a xs.length (fun k => xs.getD k 0) ∧ Below w.heap.size w w'
theorem listPost_nil {w w' : World} {err : Int} (hb : Below w.heap.size w w') : ListPost [] err w (.returned (.tuple #[.slice none 0 0, .int .i64 err])) w' :=
  ⟨none, 0, rfl, fun k hk => absurd hk (by simp), hb⟩
theorem listPost_own {w w' : World} {base : Nat} {v : Value} {xs : List Int} {err : Int} (h : w'.ownsRow base 3 1 v xs.length (xs.map vInt)) (hb : Below w.heap.size w w') :
    ListPost xs err w (.returned (.tuple #[v, .int .i64 err])) w' := by
  obtain ⟨a, c, rfl, hs⟩ := sl_of_own h
  exact ⟨a, c, rfl, hs, hb⟩
set_option maxHeartbeats 2000000 in
theorem ref3_Cells (wide high body : Int) (a ak ab : Option Addr) (n nk nb c ck cb : Nat) (g : Nat → C4) (K B : Nat → Int) (w : World) (hn : n ≤ 100000000) (hnk : nk ≤ 100000000) (hnb : nb ≤ 100000000) (H : Sc w a n g) (HK : Sl w ak nk K) (HB : Sl w ab nb B) :
    Calls Try.prog 30 #[.agg #[.int .i64 wide, .int .i64 high, .slice a n c], .agg #[.slice ak nk ck, .slice ab nb cb], .int .i64 body] w
      (ListPost (cellsL (validW wide high n g nk nb K B) B body nb) (cellsE (validW wide high n g nk nb K B) body) w) := by
  have I := (H.alloc (.cells #[.int .i64 wide, .int .i64 high, .slice a n c] 24)).alloc (.cells #[.slice ak nk ck, .slice ab nb cb] 27)
  have IK := (HK.alloc (.cells #[.int .i64 wide, .int .i64 high, .slice a n c] 24)).alloc (.cells #[.slice ak nk ck, .slice ab nb cb] 27)
  have IB := (HB.alloc (.cells #[.int .i64 wide, .int .i64 high, .slice a n c] 24)).alloc (.cells #[.slice ak nk ck, .slice ab nb cb] 27)
  go_enter Try.func30, Try.ntmps30
  go_wp2_with fail
  refine (ref3_valid wide high _ _ _ _ _ _ _ _ _ g K B _ hn hnk hnb I IK IB).mono ?_
  rintro e w1 ⟨rfl, hb1⟩
  have hB1 : Below w.heap.size w w1 := bvia (by (repeat' (first | with_reducible assumption | with_reducible exact Below.refl _ _ | with_reducible refine Below.drew ?_ | with_reducible refine below_drewN ?_ _ | with_reducible refine balloc ?_ _ | with_reducible refine bset ?_ ?_ _ | omega | (simp; done) | (simp; omega)))) hb1
  have X1 := (Bx.new (w.alloc (.cells #[.int .i64 wide, .int .i64 high, .slice a n c] 24)) #[.slice ak nk ck, .slice ab nb cb] 27).below hb1
  simp only [World.size_alloc] at X1
  have x0 := X1.at_ 0 rfl; have x1 := X1.at_ 1 rfl
  have J1 := IB.below hb1
  cases hv : validW wide high n g nk nb K B
  · go_wp2_with fail
    go_ret2
    rw [hv]
    exact listPost_nil hB1
  · cases hw : within body 1 9
    · go_wp2_with (go_at_call 74; refine (ref3_isBody _ _).mono ?_; rintro e w' ⟨rfl, rfl⟩)
      go_ret2
      rw [hv, (cells_no (B := B) (n := nb) hw).1, (cells_no (B := B) (n := nb) hw).2]
      exact listPost_nil hB1
    · go_wp2_with (go_at_call 74; refine (ref3_isBody _ _).mono ?_; rintro e w' ⟨rfl, rfl⟩)
      refine (ref3_own _ _ _ _ _ _ B body _ hnb J1).mono ?_
      rintro e w2 ⟨v, rfl, hown, hb2⟩
      go_wp2_with fail
      go_ret2
      rw [hv, (cells_yes (B := B) (n := nb) hw).1, (cells_yes (B := B) (n := nb) hw).2]
      exact listPost_own hown (hB1.trans (hb2.mono hB1.size))
set_option maxHeartbeats 2000000 in
theorem wall_Cells (wide high body : Int) (a ak ab : Option Addr) (n nk nb c ck cb : Nat) (g : Nat → C4) (K B : Nat → Int) (w : World) (hn : n ≤ 100000000) (hnk : nk ≤ 100000000) (hnb : nb ≤ 100000000) (H : Sc w a n g) (HK : Sl w ak nk K) (HB : Sl w ab nb B) :
    Calls Try.prog 29 #[.agg #[.int .i64 wide, .int .i64 high, .slice a n c], .agg #[.slice ak nk ck, .slice ab nb cb], .int .i64 body] w
      (ListPost (cellsL (validW wide high n g nk nb K B) B body nb) (cellsE (validW wide high n g nk nb K B) body) w) := by
  obtain ⟨i0, hi, hz0, hz1, hz2⟩ := info_parts infoI
  have I := (H.alloc (.cells #[.int .i64 wide, .int .i64 high, .slice a n c] 24)).alloc (.cells #[.slice ak nk ck, .slice ab nb cb] 27)
  have IK := (HK.alloc (.cells #[.int .i64 wide, .int .i64 high, .slice a n c] 24)).alloc (.cells #[.slice ak nk ck, .slice ab nb cb] 27)
  have IB := (HB.alloc (.cells #[.int .i64 wide, .int .i64 high, .slice a n c] 24)).alloc (.cells #[.slice ak nk ck, .slice ab nb cb] 27)
  go_enter Try.func29, Try.ntmps29
  go_wp2_with fail
  refine (wall_valid wide high _ _ _ _ _ _ _ _ _ g K B _ hn hnk hnb I IK IB).mono ?_
  rintro e w1 ⟨rfl, hb1⟩
  have hB1 : Below w.heap.size w w1 := bvia (by (repeat' (first | with_reducible assumption | with_reducible exact Below.refl _ _ | with_reducible refine Below.drew ?_ | with_reducible refine below_drewN ?_ _ | with_reducible refine balloc ?_ _ | with_reducible refine bset ?_ ?_ _ | omega | (simp; done) | (simp; omega)))) hb1
  have X1 := (Bx.new (w.alloc (.cells #[.int .i64 wide, .int .i64 high, .slice a n c] 24)) #[.slice ak nk ck, .slice ab nb cb] 27).below hb1
  simp only [World.size_alloc] at X1
  have x1 := X1.at_ 1 rfl
  have J1 := IB.below hb1
  have hs1 := hB1.size
  clear hb1 I IK IB
  cases hv : validW wide high n g nk nb K B
  · go_wp2_with fail
    go_ret2
    rw [hv]
    exact listPost_nil hB1
  · cases hw : within body 1 9
    · go_wp2_with (go_at_call 66; refine (wall_within _ _ _ _).mono ?_; rintro e w' ⟨rfl, rfl⟩)
      go_ret2
      rw [hv, (cells_no (B := B) (n := nb) hw).1, (cells_no (B := B) (n := nb) hw).2]
      exact listPost_nil hB1
    · go_wp2_with (go_at_call 66; refine (wall_within _ _ _ _).mono ?_; rintro e w' ⟨rfl, rfl⟩)
      go_loopw [8, 23] (fun v i wr => ∃ k : Nat, k ≤ nb ∧ i = .int .i64 k ∧ wr.ownsRow w1.heap.size 3 1 v (ownL B body k).length ((ownL B body k).map vInt) ∧ Below w1.heap.size w1 wr) (fun _ i _ => nb - (intOf i).toNat)
      case atStart => exact ⟨0, Nat.zero_le _, rfl, World.ownsRow_nil .., Below.refl _ _⟩
      case round =>
        obtain ⟨k, hk, rfl, hown, hb⟩ := hrel
        have J := J1.below hb
        by_cases hlt : k < nb
        · obtain ⟨b1, o1, rfl, _, c1⟩ := J k hlt
          have hbd := ownL_length B body k
          cases he : (B k == body)
          · have he' : ¬ B k = body := by simpa using he
            have HE := hid he'; clear he'
            go_wp2
            go_roundw
            case rel => exact ⟨k + 1, by omega, by go_num, by simp only [ownL, if_neg HE.out]; exact hown, hb⟩
            case measure => simp [intOf]; omega
          · have he' : B k = body := by simpa using he
            have HE := hid he'; clear he'
            go_wp2_with (at_builtin; refine wpList_append_own _ rfl _ _ 25 rfl w1.heap.size 3 i0 (.int .i64 0) 1 8 Try.underlying25 hi hz0 hz1 hz2 rfl (by decide) _ _ _ rfl (hown.alloc _) ⟨wr.heap.size, 0, none⟩ 1 1 [.int .i64 (k : Int)] rfl rfl (cell_one_new _ _ _) (by simp [Value.oneCell']) (by simp [maxLen]; omega) (by omega) (by have := hb.size; simp; omega) ?_; intro v' w2 hown' hgrow _)
            go_roundw
            case rel => exact ⟨k + 1, by omega, by go_num, by simp only [ownL, if_pos HE.out]; exact own_snoc hown', (hb.alloc hb.size _).grown hgrow (by have := hb.size; simp; omega) (own_base hown)⟩
            case measure => simp [intOf]; omega
        · obtain rfl : k = nb := (by omega)
          go_wp2
          go_ret2
          rw [hv, (cells_yes (B := B) (n := k) hw).1, (cells_yes (B := B) (n := k) hw).2]
          exact listPost_own hown (hB1.trans (hb.mono hs1))
end Go.Proofs.Ytnnaegnkkpknpaa
