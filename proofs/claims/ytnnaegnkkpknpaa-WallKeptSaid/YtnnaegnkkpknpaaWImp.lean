/- Walks: slices.Index, slices.Contains; wall.bodied, wall.Impulse. -/
import Derived.Test.YtnnaegnkkpknpaaTImp
namespace Go.Proofs.Ytnnaegnkkpknpaa
open Go.RowKit
set_option linter.unusedVariables false
/-- has the row this value -/
def hasL (f : Nat → Int) (v : Int) (n : Nat) : Bool := decide (∃ k, k < n ∧ f k = v)
theorem hasL_iff {f : Nat → Int} {v : Int} {n : Nat} : hasL f v n = true ↔ ∃ k, k < n ∧ f k = v := by simp [hasL]
theorem hasL_no {f : Nat → Int} {v : Int} {n : Nat} : hasL f v n = false ↔ ∀ k, k < n → f k ≠ v := by simp [hasL]
theorem hasL_own (f : Nat → Int) (v : Int) : ∀ n, hasL f v n = decide (0 < (ownL f v n).length)
  | 0 => by simp [hasL, ownL]
  | k + 1 => by
    have ih := hasL_own f v k
    by_cases h : f k = v
    · rw [show hasL f v (k + 1) = true from hasL_iff.2 ⟨k, by omega, h⟩]
      simp [ownL, h]
    · rw [show hasL f v (k + 1) = hasL f v k from by
        rw [Bool.eq_iff_iff, hasL_iff, hasL_iff]
        constructor
        · rintro ⟨j, hj, e⟩
          refine ⟨j, ?_, e⟩
          rcases Nat.lt_succ_iff_lt_or_eq.1 hj with h' | rfl
          · exact h'
          · exact absurd e h
        · rintro ⟨j, hj, e⟩
          exact ⟨j, by omega, e⟩, ih]
      simp [ownL, h]
def IndexPost (f : Nat → Int) (v : Int) (n : Nat) (w : World) (e : Ending) (w' : World) : Prop :=
  ∃ r : Int, e = .returned (.int .i64 r) ∧ -1 ≤ r ∧ r ≤ n ∧ decide (0 ≤ r) = hasL f v n ∧ Below w.heap.size w w'
set_option maxRecDepth 100000 in
set_option maxHeartbeats 1000000 in
theorem slices_index (a : Option Addr) (n cap : Nat) (v : Int) (f : Nat → Int) (w : World) (hn : n ≤ 100000000) (H : Sl w a n f) :
    Calls Try.prog 165 #[.slice a n cap, .int .i64 v] w (IndexPost f v n w) := by
  go_enter Try.func165, Try.ntmps165
  go_wp2
  go_loopw [8] (fun i wr => ∃ k : Nat, k ≤ n ∧ i = .int .i64 k ∧ (∀ j, j < k → f j ≠ v) ∧ Below w.heap.size w wr) (fun i _ => n - (intOf i).toNat)
  case atStart => exact ⟨0, Nat.zero_le _, rfl, fun j hj => by omega, by (repeat' (first | with_reducible assumption | with_reducible exact Below.refl _ _ | with_reducible refine Below.drew ?_ | with_reducible refine below_drewN ?_ _ | with_reducible refine balloc ?_ _ | with_reducible refine bset ?_ ?_ _ | with_reducible refine Below.setCell ?_ ?_ _ | with_reducible refine Below.alloc ?_ ?_ _ | omega | (simp; done) | (simp; omega)))⟩
  case round =>
    obtain ⟨k, hk, rfl, hok, hB⟩ := hrel
    have HOK := hid hok; clear hok
    by_cases hlt : k < n
    · obtain ⟨b1, o1, rfl, _, c1⟩ := (H.below hB) k hlt
      cases he : (v == f k)
      · have he' : ¬ v = f k := by simpa using he
        have HE := hid he'; clear he'
        go_wp2
        go_roundw
        case rel => exact ⟨k + 1, by omega, by go_num, fun j hj => by
            rcases Nat.lt_succ_iff_lt_or_eq.1 hj with h' | rfl
            · exact HOK.out j h'
            · exact fun e => HE.out e.symm, by (repeat' (first | with_reducible assumption | with_reducible exact Below.refl _ _ | with_reducible refine Below.drew ?_ | with_reducible refine below_drewN ?_ _ | with_reducible refine balloc ?_ _ | with_reducible refine bset ?_ ?_ _ | with_reducible refine Below.setCell ?_ ?_ _ | with_reducible refine Below.alloc ?_ ?_ _ | omega | (simp; done) | (simp; omega)))⟩
        case measure => simp [intOf]; omega
      · have he' : v = f k := by simpa using he
        have HE := hid he'; clear he'
        go_wp2
        go_ret
        exact ⟨k, rfl, by omega, by omega, by rw [show hasL f v n = true from hasL_iff.2 ⟨k, hlt, HE.out.symm⟩]; simp, hB⟩
    · obtain rfl : k = n := (by omega)
      go_wp2
      go_ret
      exact ⟨-1, rfl, by omega, by omega, by rw [hasL_no.2 HOK.out]; rfl, hB⟩
set_option maxRecDepth 100000 in
theorem slices_contains (a : Option Addr) (n cap : Nat) (v : Int) (f : Nat → Int) (w : World) (hn : n ≤ 100000000) (H : Sl w a n f) :
    Calls Try.prog 133 #[.slice a n cap, .int .i64 v] w fun e w' => e = .returned (.bool (hasL f v n)) ∧ Below w.heap.size w w' := by
  go_enter Try.func133, Try.ntmps133
  go_wp2_with fail
  refine (slices_index _ _ _ v f _ hn H).mono ?_
  rintro e w1 ⟨r, rfl, r0, r1, hr, hb1⟩
  cases hq : decide (0 ≤ r)
  · go_wp2
    go_ret
    exact ⟨by rw [← hr, hq]; rfl, hb1⟩
  · go_wp2
    go_ret
    exact ⟨by rw [← hr, hq]; rfl, hb1⟩
/-- the error of a wrong body: 7 if it is none, 8 if the wall has it not -/
def bodE (B : Nat → Int) (body : Int) (n : Nat) : Int := if within body 1 9 then (if hasL B body n then 0 else 8) else 7
set_option maxRecDepth 100000 in
set_option maxHeartbeats 1000000 in
theorem wall_bodied (ak ab : Option Addr) (nk nb ck cb : Nat) (B : Nat → Int) (body : Int) (w : World) (hnb : nb ≤ 100000000) (HB : Sl w ab nb B) :
    Calls Try.prog 72 #[.agg #[.slice ak nk ck, .slice ab nb cb], .int .i64 body] w
      fun e w' => e = .returned (.int .i64 (bodE B body nb)) ∧ Below w.heap.size w w' := by
  have HB1 := HB.alloc (.cells #[.slice ak nk ck, .slice ab nb cb] 27)
  go_enter Try.func72, Try.ntmps72
  cases hw : within body 1 9
  · go_wp2_with (go_at_call 66; refine (wall_within _ _ _ _).mono ?_; rintro e w' ⟨rfl, rfl⟩)
    go_ret
    exact ⟨by simp [bodE, hw], by (repeat' (first | with_reducible assumption | with_reducible exact Below.refl _ _ | with_reducible refine Below.drew ?_ | with_reducible refine below_drewN ?_ _ | with_reducible refine balloc ?_ _ | with_reducible refine bset ?_ ?_ _ | with_reducible refine Below.setCell ?_ ?_ _ | with_reducible refine Below.alloc ?_ ?_ _ | omega | (simp; done) | (simp; omega)))⟩
  · go_wp2_with (go_at_call 66; refine (wall_within _ _ _ _).mono ?_; rintro e w' ⟨rfl, rfl⟩)
    refine (slices_contains _ _ _ body B _ hnb HB1).mono ?_
    rintro e w1 ⟨rfl, hb1⟩
    have hB1 : Below w.heap.size w w1 := bvia (by (repeat' (first | with_reducible assumption | with_reducible exact Below.refl _ _ | with_reducible refine Below.drew ?_ | with_reducible refine below_drewN ?_ _ | with_reducible refine balloc ?_ _ | with_reducible refine bset ?_ ?_ _ | with_reducible refine Below.setCell ?_ ?_ _ | with_reducible refine Below.alloc ?_ ?_ _ | omega | (simp; done) | (simp; omega)))) hb1
    cases hh : hasL B body nb
    · go_wp2_with fail
      go_ret
      exact ⟨by simp [bodE, hw, hh], hB1⟩
    · go_wp2_with fail
      go_ret
      exact ⟨by simp [bodE, hw, hh], hB1⟩
def impErr (ok : Bool) (B : Nat → Int) (body : Int) (n : Nat) : Int := if ok then bodE B body n else 1
def impVal (ok : Bool) (g : Nat → C4) (K B : Nat → Int) (body : Int) (n : Nat) : Value :=
  if impErr ok B body n = 0 then .agg #[.int .i64 (impE g K B body n), .int .i64 (impN g K B body n)] else .agg #[.int .i64 0, .int .i64 0]
theorem bodE_cases (B : Nat → Int) (body : Int) (n : Nat) : bodE B body n = 0 ∨ bodE B body n = 7 ∨ bodE B body n = 8 := by
  unfold bodE; split <;> (try split) <;> simp
set_option maxRecDepth 100000 in
set_option maxHeartbeats 2000000 in
theorem wall_Impulse (wide high body : Int) (a ak ab : Option Addr) (n nk nb c ck cb : Nat) (g : Nat → C4) (K B : Nat → Int) (w : World) (hn : n ≤ 1000000) (hnk : nk ≤ 1000000) (hnb : nb ≤ 1000000) (H : Sc w a n g) (HK : Sl w ak nk K) (HB : Sl w ab nb B) :
    Calls Try.prog 24 #[.agg #[.int .i64 wide, .int .i64 high, .slice a n c], .agg #[.slice ak nk ck, .slice ab nb cb], .int .i64 body] w
      fun e w' => e = .returned (.tuple #[impVal (validW wide high n g nk nb K B) g K B body nb, .int .i64 (impErr (validW wide high n g nk nb K B) B body nb)]) ∧ Below w.heap.size w w' := by
  have I := ((H.alloc (.cells #[.int .i64 wide, .int .i64 high, .slice a n c] 24)).alloc (.cells #[.slice ak nk ck, .slice ab nb cb] 27)).alloc (.cells #[.int .i64 0, .int .i64 0] 43)
  have IK := ((HK.alloc (.cells #[.int .i64 wide, .int .i64 high, .slice a n c] 24)).alloc (.cells #[.slice ak nk ck, .slice ab nb cb] 27)).alloc (.cells #[.int .i64 0, .int .i64 0] 43)
  have IB := ((HB.alloc (.cells #[.int .i64 wide, .int .i64 high, .slice a n c] 24)).alloc (.cells #[.slice ak nk ck, .slice ab nb cb] 27)).alloc (.cells #[.int .i64 0, .int .i64 0] 43)
  go_enter Try.func24, Try.ntmps24
  go_wp2_with fail
  refine (wall_valid wide high _ _ _ _ _ _ _ _ _ g K B _ (by omega) (by omega) (by omega) I IK IB).mono ?_
  rintro e w1 ⟨rfl, hb1⟩
  have hB1 : Below w.heap.size w w1 := bvia (by (repeat' (first | with_reducible assumption | with_reducible exact Below.refl _ _ | with_reducible refine Below.drew ?_ | with_reducible refine below_drewN ?_ _ | with_reducible refine balloc ?_ _ | with_reducible refine bset ?_ ?_ _ | with_reducible refine Below.setCell ?_ ?_ _ | with_reducible refine Below.alloc ?_ ?_ _ | omega | (simp; done) | (simp; omega)))) hb1
  have X0 := (((Bx.new w #[.int .i64 wide, .int .i64 high, .slice a n c] 24).alloc (.cells #[.slice ak nk ck, .slice ab nb cb] 27)).alloc (.cells #[.int .i64 0, .int .i64 0] 43)).below hb1
  have X1 := ((Bx.new (w.alloc (.cells #[.int .i64 wide, .int .i64 high, .slice a n c] 24)) #[.slice ak nk ck, .slice ab nb cb] 27).alloc (.cells #[.int .i64 0, .int .i64 0] 43)).below hb1
  have X2 := (Bx.new ((w.alloc (.cells #[.int .i64 wide, .int .i64 high, .slice a n c] 24)).alloc (.cells #[.slice ak nk ck, .slice ab nb cb] 27)) #[.int .i64 0, .int .i64 0] 43).below hb1
  simp only [World.size_alloc] at X1 X2
  have x00 := X0.at_ 0 rfl; have x01 := X0.at_ 1 rfl; have x02 := X0.at_ 2 rfl
  have x10 := X1.at_ 0 rfl; have x11 := X1.at_ 1 rfl
  have x20 := X2.at_ 0 rfl; have x21 := X2.at_ 1 rfl
  have f2 := X2.free
  have l2 := X2.lt
  cases hv : validW wide high n g nk nb K B
  · go_wp2_with fail
    refine bodyPost_ret (v := .tuple #[.agg #[.int .i64 0, .int .i64 0], .int .i64 1]) (by simp [results, Try.results24, go_sem, x20, x21]) rfl ⟨by simp [impVal, impErr, hv], by (repeat' (first | with_reducible assumption | with_reducible exact Below.refl _ _ | with_reducible refine Below.drew ?_ | with_reducible refine below_drewN ?_ _ | with_reducible refine balloc ?_ _ | with_reducible refine bset ?_ ?_ _ | with_reducible refine Below.setCell ?_ ?_ _ | with_reducible refine Below.alloc ?_ ?_ _ | omega | (simp; done) | (simp; omega)))⟩
  · obtain ⟨hG, rfl, rfl, hK⟩ := (validW_iff ..).1 hv
    obtain ⟨_, _, _, _, _, _, hC, _⟩ := (validG_iff ..).1 hG
    go_wp2_with fail
    refine (wall_bodied _ _ _ _ _ _ B body _ (by omega) (IB.below hb1)).mono ?_
    rintro e w2 ⟨rfl, hb2⟩
    have hB2 : Below w.heap.size w w2 := hB1.trans (hb2.mono hB1.size)
    have Y0 := X0.below hb2; have Y1 := X1.below hb2; have Y2 := X2.below hb2
    have y00 := Y0.at_ 0 rfl; have y01 := Y0.at_ 1 rfl; have y02 := Y0.at_ 2 rfl
    have y10 := Y1.at_ 0 rfl; have y11 := Y1.at_ 1 rfl
    have y20 := Y2.at_ 0 rfl; have y21 := Y2.at_ 1 rfl
    have g2 := Y2.free
    have m2 := Y2.lt
    rcases bodE_cases B body nb with q | q | q
    · rw [q]
      go_wp2_with fail
      refine (tunnel_impulse _ wide high body _ _ _ _ _ _ _ _ g K B _ hn (Bx.new w2 _ _) (((I.below hb1).below hb2).alloc _) (((IK.below hb1).below hb2).alloc _) (((IB.below hb1).below hb2).alloc _) hC (fun k hk => ⟨(hK k hk).1, (hK k hk).2.1⟩)).mono ?_
      rintro e w3 ⟨rfl, hb3⟩
      have hB3 : Below w.heap.size w w3 := bvia (by (repeat' (first | with_reducible assumption | with_reducible exact Below.refl _ _ | with_reducible refine Below.drew ?_ | with_reducible refine below_drewN ?_ _ | with_reducible refine balloc ?_ _ | with_reducible refine bset ?_ ?_ _ | with_reducible refine Below.setCell ?_ ?_ _ | with_reducible refine Below.alloc ?_ ?_ _ | omega | (simp; done) | (simp; omega)))) hb3
      have Z2 := (Y2.alloc (.cells #[.int .i64 wide, .int .i64 high, .slice a nb c, .slice ak nb ck, .slice ab nb cb, .slice none 0 0] 94)).below hb3
      have z20 := Z2.at_ 0 rfl; have z21 := Z2.at_ 1 rfl
      have z2 := Z2.free
      have k2 := Z2.lt
      go_wp2_with fail
      refine bodyPost_ret (v := .tuple #[.agg #[.int .i64 (impE g K B body nb), .int .i64 (impN g K B body nb)], .int .i64 0]) (by simp [results, Try.results24, go_sem, z20, z21]) rfl ⟨by simp [impVal, impErr, hv, q], by (repeat' (first | with_reducible assumption | with_reducible exact Below.refl _ _ | with_reducible refine Below.drew ?_ | with_reducible refine below_drewN ?_ _ | with_reducible refine balloc ?_ _ | with_reducible refine bset ?_ ?_ _ | with_reducible refine Below.setCell ?_ ?_ _ | with_reducible refine Below.alloc ?_ ?_ _ | omega | (simp; done) | (simp; omega)))⟩
    · rw [q]
      go_wp2_with fail
      refine bodyPost_ret (v := .tuple #[.agg #[.int .i64 0, .int .i64 0], .int .i64 7]) (by simp [results, Try.results24, go_sem, y20, y21]) rfl ⟨by simp [impVal, impErr, hv, q], by (repeat' (first | with_reducible assumption | with_reducible exact Below.refl _ _ | with_reducible refine Below.drew ?_ | with_reducible refine below_drewN ?_ _ | with_reducible refine balloc ?_ _ | with_reducible refine bset ?_ ?_ _ | with_reducible refine Below.setCell ?_ ?_ _ | with_reducible refine Below.alloc ?_ ?_ _ | omega | (simp; done) | (simp; omega)))⟩
    · rw [q]
      go_wp2_with fail
      refine bodyPost_ret (v := .tuple #[.agg #[.int .i64 0, .int .i64 0], .int .i64 8]) (by simp [results, Try.results24, go_sem, y20, y21]) rfl ⟨by simp [impVal, impErr, hv, q], by (repeat' (first | with_reducible assumption | with_reducible exact Below.refl _ _ | with_reducible refine Below.drew ?_ | with_reducible refine below_drewN ?_ _ | with_reducible refine balloc ?_ _ | with_reducible refine bset ?_ ?_ _ | with_reducible refine Below.setCell ?_ ?_ _ | with_reducible refine Below.alloc ?_ ?_ _ | omega | (simp; done) | (simp; omega)))⟩
end Go.Proofs.Ytnnaegnkkpknpaa
