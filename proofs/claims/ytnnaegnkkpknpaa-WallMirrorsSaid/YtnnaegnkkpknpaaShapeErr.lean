/- Walks: the reference's shapeError. -/
import Derived.Test.YtnnaegnkkpknpaaReady
import Derived.Test.YtnnaegnkkpknpaaBodies
import Derived.Deep.CutRange
namespace Go.Proofs.Ytnnaegnkkpknpaa
open Go.RowKit
set_option linter.unusedVariables false
set_option maxRecDepth 100000 in
set_option maxHeartbeats 2000000 in
theorem ref3_shapeError (wide high body : Int) (ok : Bool) (a ak ab ap : Option Addr) (n nk nb m c ck cb cp : Nat) (g : Nat → C4) (K B : Nat → Int) (p : Nat → Int × Int) (w : World) (hn : n ≤ 100000000) (hnk : nk ≤ 100000000) (hnb : nb ≤ 100000000) (hm : m ≤ 100) (H : Sc w a n g) (HK : Sl w ak nk K) (HB : Sl w ab nb B) (HP : Sp w ap m p) :
    Calls Try.prog 83 #[.agg #[.int .i64 wide, .int .i64 high, .slice a n c], .agg #[.slice ak nk ck, .slice ab nb cb], .slice ap m cp, .int .i64 body, .bool ok] w
      fun e w' => e = .returned (.int .i64 (readyE (validW wide high n g nk nb K B) (allOn wide high p ok m) body)) ∧ Below w.heap.size w w' := by
  have I := (H.alloc (.cells #[.int .i64 wide, .int .i64 high, .slice a n c] 24)).alloc (.cells #[.slice ak nk ck, .slice ab nb cb] 27)
  have IK := (HK.alloc (.cells #[.int .i64 wide, .int .i64 high, .slice a n c] 24)).alloc (.cells #[.slice ak nk ck, .slice ab nb cb] 27)
  have IB := (HB.alloc (.cells #[.int .i64 wide, .int .i64 high, .slice a n c] 24)).alloc (.cells #[.slice ak nk ck, .slice ab nb cb] 27)
  have IP := (HP.alloc (.cells #[.int .i64 wide, .int .i64 high, .slice a n c] 24)).alloc (.cells #[.slice ak nk ck, .slice ab nb cb] 27)
  go_enter Try.func83, Try.ntmps83
  go_wp2_with fail
  refine (ref3_valid wide high _ _ _ _ _ _ _ _ _ g K B _ hn hnk hnb I IK IB).mono ?_
  rintro e w1 ⟨rfl, hb1⟩
  have hB1 : Below w.heap.size w w1 := bvia (by (repeat' (first | with_reducible assumption | with_reducible exact Below.refl _ _ | with_reducible refine Below.drew ?_ | with_reducible refine below_drewN ?_ _ | with_reducible refine balloc ?_ _ | with_reducible refine bset ?_ ?_ _ | with_reducible refine Below.setCell ?_ ?_ _ | with_reducible refine Below.alloc ?_ ?_ _ | omega | (simp; done) | (simp; omega)))) hb1
  have X0 := ((Bx.new w #[.int .i64 wide, .int .i64 high, .slice a n c] 24).alloc (.cells #[.slice ak nk ck, .slice ab nb cb] 27)).below hb1
  have JP := IP.below hb1
  clear I IK IB IP hb1
  cases hv : validW wide high n g nk nb K B
  · go_wp2_with fail
    go_ret
    exact ⟨by simp [readyE, hv], hB1⟩
  · obtain ⟨hG, rfl, rfl, _⟩ := (validW_iff ..).1 hv
    obtain ⟨v1, v2, v3, v4, _, _, _, _⟩ := (validG_iff ..).1 hG
    clear hG
    go_wp2_with fail
    go_loopw [4, 11] (fun o i wr => ∃ k : Nat, k ≤ m ∧ i = .int .i64 k ∧ o = .bool (allOn wide high p ok k) ∧ Below w1.heap.size w1 wr) (fun _ i _ => m - (intOf i).toNat)
    case atStart => exact ⟨0, Nat.zero_le _, rfl, rfl, Below.refl _ _⟩
    case round =>
      obtain ⟨k, hk, rfl, rfl, hb⟩ := hrel
      have Y0 := X0.below hb
      have y0 := Y0.at_ 0 rfl; have y1 := Y0.at_ 1 rfl; have y2 := Y0.at_ 2 rfl; have z := Y0.lt
      by_cases hlt : k < m
      · obtain ⟨b1, o1, rfl, z1, c0, c1⟩ := (JP.below hb) k hlt
        have r0 : ∀ W, Below wr.heap.size wr W → W.cell? ⟨w.heap.size, 0, none⟩ = some (.int .i64 wide) := fun W h => (bcell h _ _ z).trans y0
        have r1 : ∀ W, Below wr.heap.size wr W → W.cell? ⟨w.heap.size, 1, none⟩ = some (.int .i64 high) := fun W h => (bcell h _ _ z).trans y1
        have r2 : ∀ W, Below wr.heap.size wr W → W.cell? ⟨w.heap.size, 2, none⟩ = some (.slice a nb c) := fun W h => (bcell h _ _ z).trans y2
        have r3 : ∀ W, Below wr.heap.size wr W → W.cell? ⟨b1, o1 + k * 2, none⟩ = some (.int .i64 (p k).1) := fun W h => (bcell h _ _ z1).trans c0
        have r4 : ∀ W, Below wr.heap.size wr W → W.cell? ⟨b1, o1 + k * 2 + 1, none⟩ = some (.int .i64 (p k).2) := fun W h => (bcell h _ _ z1).trans c1
        cases ha : allOn wide high p ok k
        · go_wp2_with fail
          go_quiet (fail)
          all_goals
            go_wp2_with fail
            go_roundw
            case rel => exact ⟨k + 1, by omega, by go_num, by simp [allOn, ha], by (repeat' (first | with_reducible assumption | with_reducible exact Below.refl _ _ | with_reducible refine Below.drew ?_ | with_reducible refine below_drewN ?_ _ | with_reducible refine balloc ?_ _ | with_reducible refine bset ?_ ?_ _ | with_reducible refine Below.setCell ?_ ?_ _ | with_reducible refine Below.alloc ?_ ?_ _ | omega | (simp; done) | (simp; omega)))⟩
            case measure => simp [intOf]; omega
        · go_upto_region 6 with (fail)
          go_region_held3 (fun W => Below wr.heap.size wr W) ((repeat' (first | with_reducible assumption | with_reducible exact Below.refl _ _ | with_reducible refine Below.drew ?_ | with_reducible refine below_drewN ?_ _ | with_reducible refine balloc ?_ _ | with_reducible refine bset ?_ ?_ _ | with_reducible refine Below.setCell ?_ ?_ _ | with_reducible refine Below.alloc ?_ ?_ _ | omega | (simp; done) | (simp; omega))))
            (((go_at_call 88; refine (ref2_On wide high (p k).1 (p k).2 _ _ _ _ ⟨v1, v2⟩ ⟨v3, v4⟩).mono ?_; rintro e w2 ⟨rfl, hb2⟩; have hB2 : Below wr.heap.size wr w2 := Below.trans (by with_reducible assumption) (hb2.mono (Below.size (by with_reducible assumption))))))
          all_goals
            go_wp2_with fail
            go_roundw
            case rel => exact ⟨k + 1, by omega, by go_num, by simp [allOn, ha], hb.trans (hB2.mono hb.size)⟩
            case measure => simp [intOf]; omega
      · obtain rfl : k = m := (by omega)
        have hB : Below w.heap.size w wr := hB1.trans (hb.mono hB1.size)
        cases ha : allOn wide high p ok k
        · go_wp2_with fail
          go_ret
          exact ⟨by simp [readyE, hv, ha], hB⟩
        · cases hw : within body 1 9
          · go_wp2_with (go_at_call 74; refine (ref3_isBody _ _).mono ?_; rintro e w' ⟨rfl, rfl⟩)
            go_ret
            exact ⟨by simp [readyE, hv, ha, hw], hB⟩
          · go_wp2_with (go_at_call 74; refine (ref3_isBody _ _).mono ?_; rintro e w' ⟨rfl, rfl⟩)
            go_ret
            exact ⟨by simp [readyE, hv, ha, hw], hB⟩
end Go.Proofs.Ytnnaegnkkpknpaa
