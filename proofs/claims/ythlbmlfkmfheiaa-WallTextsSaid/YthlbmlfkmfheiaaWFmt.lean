/- Plain words: the text of a wall. Walks: sign and Format of both sides. -/
import Derived.Test.YthlbmlfkmfheiaaWRead
import Derived.Test.YthlbmlfkmfheiaaBldW
import Derived.Test.YthlbmlfkmfheiaaShelf
import Derived.Laws.Concat
import Derived.Deep.Cut
namespace Go.Proofs.Ythlbmlfkmfheiaa
open Go Go.RowKit
set_option linter.unusedVariables false
/-- the sign of a kind and a body -/
def sgnN (K B : Int) : Nat := if K = 0 then 46 else if K = 1 then 96 + B.toNat else if K = 2 then 105 + B.toNat else 64 + B.toNat
theorem sgnN_lt {K B : Int} (h : B ≤ 9) : sgnN K B < 256 := by
  unfold sgnN
  repeat' split
  all_goals omega
def sgnB (K B : Int) : UInt8 := UInt8.ofNat (sgnN K B)
theorem byte_val {n : Nat} (h : n < 256) : (UInt8.ofNat n).toNat = n := by simp; omega
/-- the text of the first k cells -/
def fmtT (W : Nat) (K B : Nat → Int) : Nat → List UInt8
  | 0 => []
  | k + 1 => fmtT W K B k ++ (sgnB (K k) (B k) :: if (k + 1) % W = 0 then [10] else [])
theorem fmtT_length (W : Nat) (K B : Nat → Int) : ∀ k, (fmtT W K B k).length ≤ 2 * k
  | 0 => by simp [fmtT]
  | k + 1 => by have := fmtT_length W K B k; simp only [fmtT]; split <;> simp <;> omega
theorem fmtT_congr {W : Nat} {K K' B B' : Nat → Int} : ∀ n, (∀ k, k < n → K k = K' k ∧ B k = B' k) → fmtT W K B n = fmtT W K' B' n
  | 0, _ => rfl
  | n + 1, h => by
    obtain ⟨h1, h2⟩ := h n (by omega)
    simp only [fmtT, fmtT_congr n (fun k hk => h k (by omega)), h1, h2]
def sgnOk (K B : Int) : Prop := 0 ≤ K ∧ K ≤ 3 ∧ (K = 0 ↔ B = 0) ∧ 0 ≤ B ∧ B ≤ 9
set_option maxRecDepth 100000 in
theorem wall_sign (K B : Int) (w : World) (h : sgnOk K B) : Calls Try.prog 32 #[.int .i64 K, .int .i64 B] w fun e w' => e = .returned (.int .u8 (sgnN K B : Int)) ∧ w = w' := by
  have h0 := fun W => (signs_at W).1; have h1 := fun W => (signs_at W).2.1; have h2 := fun W => (signs_at W).2.2.1; have h3 := fun W => (signs_at W).2.2.2
  obtain ⟨k0, k1, k2, b0, b1⟩ := h
  rcases (by omega : K = 0 ∨ K = 1 ∨ K = 2 ∨ K = 3) with rfl | rfl | rfl | rfl
  · go_enter Try.func32, Try.ntmps32
    go_wp2_with fail
    go_ret
    exact ⟨rfl, rfl⟩
  all_goals
    have hb : 1 ≤ B := by omega
    clear k2
    have w1 : IntKind.u8.wrap (B - 1) = B - 1 := IntWalk.u8_in _ ⟨by omega, by omega⟩
    go_enter Try.func32, Try.ntmps32
    go_wp2_with fail
    go_ret
    refine ⟨ret_int ?_, rfl⟩
    simp [sgnN]
    omega
set_option maxRecDepth 100000 in
theorem ref3_sign (K B : Int) (w : World) (h : sgnOk K B) : Calls Try.prog 35 #[.int .i64 K, .int .i64 B] w fun e w' => e = .returned (.string ⟨#[sgnB K B]⟩) ∧ w = w' := by
  obtain ⟨k0, k1, k2, b0, b1⟩ := h
  rcases (by omega : K = 0 ∨ K = 1 ∨ K = 2 ∨ K = 3) with rfl | rfl | rfl | rfl
  · go_enter Try.func35, Try.ntmps35
    go_wp2_with fail
    go_ret
    exact ⟨rfl, rfl⟩
  all_goals
    rcases (by omega : B = 1 ∨ B = 2 ∨ B = 3 ∨ B = 4 ∨ B = 5 ∨ B = 6 ∨ B = 7 ∨ B = 8 ∨ B = 9) with rfl | rfl | rfl | rfl | rfl | rfl | rfl | rfl | rfl
    all_goals
      go_enter Try.func35, Try.ntmps35
      go_wp2_with fail
      go_ret
      refine ⟨?_, rfl⟩
      rfl
def fmtR (v : Bool) (W : Nat) (K B : Nat → Int) (n : Nat) : List UInt8 := if v then fmtT W K B n else []
theorem cells_snoc (l : List UInt8) {n : Nat} (h : n < 256) : Lib.byteCells l ++ [.int .u8 (n : Int)] = Lib.byteCells (l ++ [UInt8.ofNat n]) := by
  simp [Lib.byteCells]; omega
theorem next_row {W i : Nat} (hW : 0 < W) : ((i + 1) % W = 0) = (i % W = W - 1) := by
  apply propext
  have h := Nat.mod_lt i hW
  have e : (i + 1) % W = (i % W + 1) % W := by rw [Nat.add_mod, Nat.add_mod (i % W) 1, Nat.mod_mod]
  rw [e]
  by_cases h2 : i % W + 1 = W
  · rw [h2, Nat.mod_self]; constructor <;> intro _ <;> omega
  · rw [Nat.mod_eq_of_lt (by omega)]; constructor <;> intro _ <;> omega
set_option maxRecDepth 100000 in
set_option maxHeartbeats 4000000 in
theorem wall_Format (wide high : Int) (a ak ab : Option Addr) (n nk nb c ck cb : Nat) (g : Nat → C4) (K B : Nat → Int) (w : World) (hn : n ≤ 100000) (hnk : nk ≤ 100000) (hnb : nb ≤ 100000) (S : Sc w a n g) (SK : Sl w ak nk K) (SB : Sl w ab nb B) : Calls Try.prog 13 #[.agg #[.int .i64 wide, .int .i64 high, .slice a n c], .agg #[.slice ak nk ck, .slice ab nb cb]] w fun e w' => e = .returned (.string ⟨(fmtR (validW wide high n g nk nb K B) wide.toNat K B n).toArray⟩) ∧ Below w.heap.size w w' := by
  have hval := fun W' S' SK' SB' => wall_valid wide high a ak ab n nk nb c ck cb g K B W' (by omega) (by omega) (by omega) S' SK' SB'
  cases hv : validW wide high n g nk nb K B
  · rw [show fmtR false wide.toNat K B n = [] from rfl]
    rw [hv] at hval
    have X0 := (Bx.new w #[.int .i64 wide, .int .i64 high, .slice a n c] 24).alloc (.cells #[.slice ak nk ck, .slice ab nb cb] 27)
    have X1 := Bx.new (w.alloc (.cells #[.int .i64 wide, .int .i64 high, .slice a n c] 24)) #[.slice ak nk ck, .slice ab nb cb] 27
    simp only [World.size_alloc] at X1
    have hB0 : Below w.heap.size w ((w.alloc (.cells #[.int .i64 wide, .int .i64 high, .slice a n c] 24)).alloc (.cells #[.slice ak nk ck, .slice ab nb cb] 27)) := by (repeat' (first | with_reducible assumption | with_reducible exact Below.refl _ _ | with_reducible refine Below.drew ?_ | with_reducible refine below_drewN ?_ _ | with_reducible refine balloc ?_ _ | with_reducible refine bset ?_ ?_ _ | with_reducible refine Below.setCell ?_ ?_ _ | with_reducible refine Below.alloc ?_ ?_ _ | omega | (simp; done) | (simp; omega)))
    go_enter Try.func13, Try.ntmps13
    go_wp2_with fail
    generalize ((w.alloc (.cells #[.int .i64 wide, .int .i64 high, .slice a n c] 24)).alloc (.cells #[.slice ak nk ck, .slice ab nb cb] 27)) = W0 at X0 X1 hB0 ⊢
    have z0 := X0.lt
    have z1 := X1.lt
    refine (hval _ (S.below hB0) (SK.below hB0) (SB.below hB0)).mono ?_
    rintro e w1 ⟨rfl, hb1⟩
    go_wp2_with fail
    go_ret
    exact ⟨rfl, bvia hB0 hb1⟩
  rw [hv] at hval
  obtain ⟨vg, rfl, rfl, hKB⟩ := (validW_iff _ _ _ _ _ _ _ _).1 hv
  obtain ⟨g1, g2, g3, g4, g5, g6, g7, g8⟩ := (validG_iff _ _ _ _).1 vg
  obtain ⟨W, rfl⟩ : ∃ W : Nat, wide = W := ⟨wide.toNat, by omega⟩
  rw [show fmtR true (W : Int).toNat K B nb = fmtT W K B nb from by simp [fmtR]]
  have hnb4 : nb ≤ 1024 := by omega
  have hfl := fun k => fmtT_length W K B k
  have hfs := fun k => (show fmtT W K B (k + 1) = fmtT W K B k ++ (sgnB (K k) (B k) :: if (k + 1) % W = 0 then [10] else []) from rfl)
  have hf0 : fmtT W K B 0 = [] := rfl
  generalize fmtT W K B = F at *
  have HFL := hid hfl; have HFS := hid hfs; have HF0 := hid hf0; have HKB := hid hKB
  clear hv vg g3 g4 g5 g6 g7 g8 hfl hfs hf0 hKB hn hnk hnb
  have X0 := (Bx.new w #[.int .i64 (W : Int), .int .i64 high, .slice a nb c] 24).alloc (.cells #[.slice ak nb ck, .slice ab nb cb] 27)
  have X1 := Bx.new (w.alloc (.cells #[.int .i64 (W : Int), .int .i64 high, .slice a nb c] 24)) #[.slice ak nb ck, .slice ab nb cb] 27
  simp only [World.size_alloc] at X1
  have hB0 : Below w.heap.size w ((w.alloc (.cells #[.int .i64 (W : Int), .int .i64 high, .slice a nb c] 24)).alloc (.cells #[.slice ak nb ck, .slice ab nb cb] 27)) := by (repeat' (first | with_reducible assumption | with_reducible exact Below.refl _ _ | with_reducible refine Below.drew ?_ | with_reducible refine below_drewN ?_ _ | with_reducible refine balloc ?_ _ | with_reducible refine bset ?_ ?_ _ | with_reducible refine Below.setCell ?_ ?_ _ | with_reducible refine Below.alloc ?_ ?_ _ | omega | (simp; done) | (simp; omega)))
  go_enter Try.func13, Try.ntmps13
  go_wp2_with fail
  generalize ((w.alloc (.cells #[.int .i64 (W : Int), .int .i64 high, .slice a nb c] 24)).alloc (.cells #[.slice ak nb ck, .slice ab nb cb] 27)) = W0 at X0 X1 hB0 ⊢
  have z0 := X0.lt
  have z1 := X1.lt
  refine (hval _ (S.below hB0) (SK.below hB0) (SB.below hB0)).mono ?_
  rintro e w1 ⟨rfl, hb1⟩
  have hB := bvia hB0 hb1
  replace X0 := X0.below hb1
  replace X1 := X1.below hb1
  replace SK := SK.below hB
  replace SB := SB.below hB
  clear hB0 hb1 hval S
  have x0 := X0.at_ 0 rfl; have x1 := X1.at_ 0 rfl; have x2 := X1.at_ 1 rfl; have xz := X0.lt; have xy := X1.lt
  go_wp2_with fail
  clear x0 x1 x2
  have hbld : Lib.IsBuilder 76 5 w1.heap.size w1.heap.size (Lib.byteCells (F 0)) (w1.alloc (.cells #[.pointer none, .slice none 0 0] 76)) := by rw [HF0.out]; exact Lib.fresh_isBuilder 76 5 w1
  have hb2 := below_alloc w1 (.cells #[.pointer none, .slice none 0 0] 76)
  generalize w1.alloc (.cells #[.pointer none, .slice none 0 0] 76) = w2 at *
  go_loopw [15] (fun s wr => ∃ i : Nat, i ≤ nb ∧ s = .int .i64 (i : Int) ∧ Lib.IsBuilder 76 5 w1.heap.size w1.heap.size (Lib.byteCells (F i)) wr ∧ Below w1.heap.size w1 wr) (fun s _ => nb - (intOf s).toNat)
  case atStart => exact ⟨0, Nat.zero_le _, rfl, hbld, hb2⟩
  case round =>
    clear hbld hb2
    obtain ⟨i, hi, rfl, hbld, hb2⟩ := hrel
    by_cases hlt : i < nb
    · have x0 := (X0.below hb2).at_ 0 rfl; have x1 := (X1.below hb2).at_ 0 rfl; have x2 := (X1.below hb2).at_ 1 rfl
      obtain ⟨bk, ok, rfl, hbk, ck0⟩ := (SK.below hb2) i hlt
      obtain ⟨bb, ob, rfl, hbb, cb0⟩ := (SB.below hb2) i hlt
      have hsg := fun W' => wall_sign (K i) (B i) W' (HKB.out i hlt)
      have hs256 := sgnN_lt (K := K i) (B := B i) (HKB.out i hlt).2.2.2.2
      have hl2 := HFL.out i
      have hwb := Try.Builder_WriteByte w1.heap.size w1.heap.size (Lib.byteCells (F i)) (sgnN (K i) (B i) : Int) wr hbld (by rw [Lib.byteCells_length]; omega) hb2.size
      rw [cells_snoc _ hs256] at hwb
      have hst := HFS.out i
      have HST := hid hst
      have htm : ((i : Int) + 1).tmod (W : Int) = (((i + 1) % W : Nat) : Int) := by rw [Int.tmod_eq_emod_of_nonneg (by omega)]; simp
      have htm2 : ((i : Int) + 1) % (W : Int) = (((i + 1) % W : Nat) : Int) := by simp
      have hW0 : ¬ (W : Int) = 0 := by omega
      clear hst hbld
      go_wp2_with fail
      refine (hsg _).mono ?_
      rintro e w3 ⟨rfl, rfl⟩
      go_wp2_with fail
      refine hwb.mono ?_
      rintro e w3 ⟨rfl, hbld3, hb3⟩
      replace hb2 := hb2.trans hb3
      have x0' := (X0.below hb2).at_ 0 rfl
      have xs := hb2.size
      clear x0 x1 x2 ck0 cb0 hwb hsg
      by_cases hm : (i + 1) % W = 0
      · have HM := hid hm
        rw [hm] at htm htm2
        have hl3 := HFL.out (i + 1)
        rw [HST.out, if_pos hm] at hl3
        have hwb := Try.Builder_WriteByte w1.heap.size w1.heap.size (Lib.byteCells (F i ++ [UInt8.ofNat (sgnN (K i) (B i))])) 10 w3 (.inr hbld3) (by rw [Lib.byteCells_length, List.length_append]; simp; omega) xs
        go_wp2_with fail
        refine hwb.mono ?_
        rintro e w4 ⟨rfl, hbld4, hb4⟩
        go_wp2_with fail
        go_roundw
        case rel => exact ⟨i + 1, by omega, by go_num, (by
          rw [show (10 : Int) = ((10 : Nat) : Int) from rfl, cells_snoc _ (by decide)] at hbld4
          rw [HST.out, if_pos HM.out]
          have e : F i ++ sgnB (K i) (B i) :: [10] = F i ++ [UInt8.ofNat (sgnN (K i) (B i))] ++ [UInt8.ofNat 10] := by simp [sgnB]
          rw [e]; exact .inr hbld4), hb2.trans hb4⟩
        case measure => simp [intOf]; omega
      · have hmi : ¬ (((i + 1) % W : Nat) : Int) = 0 := by omega
        have HM := hid hm
        generalize (i + 1) % W = r at *
        go_wp2_with fail
        go_roundw
        case rel => exact ⟨i + 1, by omega, by go_num, (by rw [HST.out, if_neg HM.out]; exact .inr hbld3), hb2⟩
        case measure => simp [intOf]; omega
    · obtain rfl : i = nb := (by omega)
      have hs := Try.Builder_String_any w1.heap.size w1.heap.size (F i) wr hbld hb2.size
      go_wp2_with fail
      refine hs.mono ?_
      rintro e w3 ⟨rfl, hb3⟩
      go_wp2_with fail
      go_ret
      exact ⟨rfl, bvia hB (hb2.trans hb3)⟩
theorem str_add (x y : List UInt8) (h : x.length + y.length ≤ 1000000000) (W : World) : (Op.stringOp .add ⟨x.toArray⟩ ⟨y.toArray⟩).run Try.prog W = .ok (.string ⟨(x ++ y).toArray⟩) W := by
  rw [run_string_add_sum W _ _ (by simp [ByteArray.size]; omega), ByteArray.mk_append_mk]
set_option maxRecDepth 100000 in
set_option maxHeartbeats 4000000 in
theorem ref3_Format (wide high : Int) (a ak ab : Option Addr) (n nk nb c ck cb : Nat) (g : Nat → C4) (K B : Nat → Int) (w : World) (hn : n ≤ 100000) (hnk : nk ≤ 100000) (hnb : nb ≤ 100000) (S : Sc w a n g) (SK : Sl w ak nk K) (SB : Sl w ab nb B) : Calls Try.prog 14 #[.agg #[.int .i64 wide, .int .i64 high, .slice a n c], .agg #[.slice ak nk ck, .slice ab nb cb]] w fun e w' => e = .returned (.string ⟨(fmtR (validW wide high n g nk nb K B) wide.toNat K B n).toArray⟩) ∧ Below w.heap.size w w' := by
  have hval := fun W' S' SK' SB' => ref3_valid wide high a ak ab n nk nb c ck cb g K B W' (by omega) (by omega) (by omega) S' SK' SB'
  cases hv : validW wide high n g nk nb K B
  · rw [show fmtR false wide.toNat K B n = [] from rfl]
    rw [hv] at hval
    have X0 := (Bx.new w #[.int .i64 wide, .int .i64 high, .slice a n c] 24).alloc (.cells #[.slice ak nk ck, .slice ab nb cb] 27)
    have X1 := Bx.new (w.alloc (.cells #[.int .i64 wide, .int .i64 high, .slice a n c] 24)) #[.slice ak nk ck, .slice ab nb cb] 27
    simp only [World.size_alloc] at X1
    have hB0 : Below w.heap.size w ((w.alloc (.cells #[.int .i64 wide, .int .i64 high, .slice a n c] 24)).alloc (.cells #[.slice ak nk ck, .slice ab nb cb] 27)) := by (repeat' (first | with_reducible assumption | with_reducible exact Below.refl _ _ | with_reducible refine Below.drew ?_ | with_reducible refine below_drewN ?_ _ | with_reducible refine balloc ?_ _ | with_reducible refine bset ?_ ?_ _ | with_reducible refine Below.setCell ?_ ?_ _ | with_reducible refine Below.alloc ?_ ?_ _ | omega | (simp; done) | (simp; omega)))
    go_enter Try.func14, Try.ntmps14
    go_wp2_with fail
    generalize ((w.alloc (.cells #[.int .i64 wide, .int .i64 high, .slice a n c] 24)).alloc (.cells #[.slice ak nk ck, .slice ab nb cb] 27)) = W0 at X0 X1 hB0 ⊢
    have z0 := X0.lt
    have z1 := X1.lt
    refine (hval _ (S.below hB0) (SK.below hB0) (SB.below hB0)).mono ?_
    rintro e w1 ⟨rfl, hb1⟩
    go_wp2_with fail
    go_ret
    exact ⟨rfl, bvia hB0 hb1⟩
  rw [hv] at hval
  obtain ⟨vg, rfl, rfl, hKB⟩ := (validW_iff _ _ _ _ _ _ _ _).1 hv
  obtain ⟨g1, g2, g3, g4, g5, g6, g7, g8⟩ := (validG_iff _ _ _ _).1 vg
  obtain ⟨W, rfl⟩ : ∃ W : Nat, wide = W := ⟨wide.toNat, by omega⟩
  rw [show fmtR true (W : Int).toNat K B nb = fmtT W K B nb from by simp [fmtR]]
  have hnb4 : nb ≤ 1024 := by omega
  have hfl := fun k => fmtT_length W K B k
  have hfs := fun k => (show fmtT W K B (k + 1) = fmtT W K B k ++ (sgnB (K k) (B k) :: if (k + 1) % W = 0 then [10] else []) from rfl)
  have hf0 : fmtT W K B 0 = [] := rfl
  generalize fmtT W K B = F at *
  have HFL := hid hfl; have HFS := hid hfs; have HF0 := hid hf0; have HKB := hid hKB
  clear hv vg g3 g4 g5 g6 g7 g8 hfl hfs hf0 hKB hn hnk hnb
  have X0 := (Bx.new w #[.int .i64 (W : Int), .int .i64 high, .slice a nb c] 24).alloc (.cells #[.slice ak nb ck, .slice ab nb cb] 27)
  have X1 := Bx.new (w.alloc (.cells #[.int .i64 (W : Int), .int .i64 high, .slice a nb c] 24)) #[.slice ak nb ck, .slice ab nb cb] 27
  simp only [World.size_alloc] at X1
  have hB0 : Below w.heap.size w ((w.alloc (.cells #[.int .i64 (W : Int), .int .i64 high, .slice a nb c] 24)).alloc (.cells #[.slice ak nb ck, .slice ab nb cb] 27)) := by (repeat' (first | with_reducible assumption | with_reducible exact Below.refl _ _ | with_reducible refine Below.drew ?_ | with_reducible refine below_drewN ?_ _ | with_reducible refine balloc ?_ _ | with_reducible refine bset ?_ ?_ _ | with_reducible refine Below.setCell ?_ ?_ _ | with_reducible refine Below.alloc ?_ ?_ _ | omega | (simp; done) | (simp; omega)))
  go_enter Try.func14, Try.ntmps14
  go_wp2_with fail
  generalize ((w.alloc (.cells #[.int .i64 (W : Int), .int .i64 high, .slice a nb c] 24)).alloc (.cells #[.slice ak nb ck, .slice ab nb cb] 27)) = W0 at X0 X1 hB0 ⊢
  have z0 := X0.lt
  have z1 := X1.lt
  refine (hval _ (S.below hB0) (SK.below hB0) (SB.below hB0)).mono ?_
  rintro e w1 ⟨rfl, hb1⟩
  have hB := bvia hB0 hb1
  replace X0 := X0.below hb1
  replace X1 := X1.below hb1
  replace SK := SK.below hB
  replace SB := SB.below hB
  clear hB0 hb1 hval S
  have x0 := X0.at_ 0 rfl; have x1 := X1.at_ 0 rfl; have x2 := X1.at_ 1 rfl; have xz := X0.lt; have xy := X1.lt
  go_wp2_with fail
  clear x0 x1 x2
  go_loopw [5, 6] (fun s5 s wr => ∃ i : Nat, i ≤ nb ∧ s = .int .i64 (i : Int) ∧ s5 = .string ⟨(F i).toArray⟩ ∧ Below w1.heap.size w1 wr) (fun _ s _ => nb - (intOf s).toNat)
  case atStart => exact ⟨0, Nat.zero_le _, rfl, by rw [HF0.out], Below.refl _ _⟩
  case round =>
    obtain ⟨i, hi, rfl, rfl, hb2⟩ := hrel
    obtain ⟨wo, rfl⟩ : ∃ wo : World, wo = wr := ⟨_, rfl⟩
    have x00 := (X0.below hb2).lt; have x01 := (X1.below hb2).lt
    have r0 : ∀ Y, Below wo.heap.size wo Y → Y.cell? ⟨w.heap.size, 0, none⟩ = some (.int .i64 (W : Int)) := fun Y h => ((X0.below hb2).below h).at_ 0 rfl
    have r1 : ∀ Y, Below wo.heap.size wo Y → Y.cell? ⟨w.heap.size + 1, 0, none⟩ = some (.slice ak nb ck) := fun Y h => ((X1.below hb2).below h).at_ 0 rfl
    have r2 : ∀ Y, Below wo.heap.size wo Y → Y.cell? ⟨w.heap.size + 1, 1, none⟩ = some (.slice ab nb cb) := fun Y h => ((X1.below hb2).below h).at_ 1 rfl
    have x1 := (X1.below hb2).at_ 0 rfl
    by_cases hlt : i < nb
    · obtain ⟨bk, ok, rfl, hbk, ck0⟩ := (SK.below hb2) i hlt
      obtain ⟨bb, ob, rfl, hbb, cb0⟩ := (SB.below hb2) i hlt
      have q1 : ∀ Y, Below wo.heap.size wo Y → Y.cell? ⟨bk, ok + i, none⟩ = some (.int .i64 (K i)) := fun Y h => (bcell h _ _ hbk).trans ck0
      have q2 : ∀ Y, Below wo.heap.size wo Y → Y.cell? ⟨bb, ob + i, none⟩ = some (.int .i64 (B i)) := fun Y h => (bcell h _ _ hbb).trans cb0
      have hsg := fun W' => ref3_sign (K i) (B i) W' (HKB.out i hlt)
      have hl2 := HFL.out i
      have had1 := fun W' => str_add (F i) [sgnB (K i) (B i)] (by simp; omega) W'
      have had2 := fun W' => str_add (F i ++ [sgnB (K i) (B i)]) [10] (by simp; omega) W'
      have hst := HFS.out i
      have HST := hid hst
      have htm : ((i : Int)).tmod (W : Int) = ((i % W : Nat) : Int) := by rw [Int.tmod_eq_emod_of_nonneg (by omega)]; simp
      have htm2 : ((i : Int)) % (W : Int) = ((i % W : Nat) : Int) := by simp
      have hW0 : ¬ (W : Int) = 0 := by omega
      have hW1 : ¬ W = 0 := by omega
      have hww : IntKind.i64.wrap ((W : Int) - 1) = (W : Int) - 1 := IntWalk.i64_in _ ⟨by omega, by omega⟩
      have hnr := next_row (W := W) (i := i) (by omega)
      have HNR := hid hnr
      have i1 : (0 : Int) ≤ (i : Int) := by omega
      have i2 : (i : Int) < (nb : Int) := by omega
      clear hst hnr
      generalize sgnB (K i) (B i) = sg at *
      generalize F i = Fi at *
      go_upto_region 7 with (fail)
      clear ck0 cb0
      go_region_held3 (fun Y => Below wo.heap.size wo Y) ((((repeat' (first | with_reducible assumption | with_reducible exact Below.refl _ _ | with_reducible refine Below.drew ?_ | with_reducible refine below_drewN ?_ _ | with_reducible refine balloc ?_ _ | with_reducible refine bset ?_ ?_ _ | with_reducible refine Below.setCell ?_ ?_ _ | with_reducible refine Below.alloc ?_ ?_ _ | omega | (simp; done) | (simp; omega)))))) ((go_at_call 35; refine (hsg _).mono ?_; rintro e w' ⟨rfl, rfl⟩))
      go_upto_region 8 with (fail)
      by_cases hm : i % W = W - 1
      · rw [← HNR.out] at hm
        have hm1 := HNR.out.mp hm
        rw [if_pos hm] at HST
        have hmc : (((i % W : Nat) : Int) == (W : Int) - 1) = true := by rw [beq_iff_eq]; omega
        have hrW : i % W < W := Nat.mod_lt _ (by omega)
        clear hm hm1
        generalize i % W = r at *
        have hwr : IntKind.i64.wrap (r : Int) = (r : Int) := IntWalk.i64_in _ ⟨by omega, by omega⟩
        have hwr2 : wrap64 (r : Int) = (r : Int) := IntWalk.wrap64_in _ ⟨by omega, by omega⟩
        go_region_held3 (fun Y => Below wo.heap.size wo Y) ((((repeat' (first | with_reducible assumption | with_reducible exact Below.refl _ _ | with_reducible refine Below.drew ?_ | with_reducible refine below_drewN ?_ _ | with_reducible refine balloc ?_ _ | with_reducible refine bset ?_ ?_ _ | with_reducible refine Below.setCell ?_ ?_ _ | with_reducible refine Below.alloc ?_ ?_ _ | omega | (simp; done) | (simp; omega)))))) ((fail))
        go_wp2_with fail
        go_roundw
        case rel => exact ⟨i + 1, by omega, by go_num, (by rw [HST.out]), hb2.drew.drew⟩
        case measure => simp [intOf]; omega
      · have hmc : (((i % W : Nat) : Int) == (W : Int) - 1) = false := by rw [beq_eq_false_iff_ne]; omega
        rw [← HNR.out] at hm
        rw [if_neg hm] at HST
        have hrW : i % W < W := Nat.mod_lt _ (by omega)
        clear hm
        generalize i % W = r at *
        have hwr : IntKind.i64.wrap (r : Int) = (r : Int) := IntWalk.i64_in _ ⟨by omega, by omega⟩
        have hwr2 : wrap64 (r : Int) = (r : Int) := IntWalk.wrap64_in _ ⟨by omega, by omega⟩
        go_region_held3 (fun Y => Below wo.heap.size wo Y) ((((repeat' (first | with_reducible assumption | with_reducible exact Below.refl _ _ | with_reducible refine Below.drew ?_ | with_reducible refine below_drewN ?_ _ | with_reducible refine balloc ?_ _ | with_reducible refine bset ?_ ?_ _ | with_reducible refine Below.setCell ?_ ?_ _ | with_reducible refine Below.alloc ?_ ?_ _ | omega | (simp; done) | (simp; omega)))))) ((fail))
        go_wp2_with fail
        go_roundw
        case rel => exact ⟨i + 1, by omega, by go_num, (by rw [HST.out]), hb2.drew.drew⟩
        case measure => simp [intOf]; omega
    · obtain rfl : i = nb := (by omega)
      go_wp2_with fail
      go_ret
      exact ⟨rfl, bvia hB hb2⟩
end Go.Proofs.Ythlbmlfkmfheiaa
