/- Walks: wall.ready. -/
import Derived.Test.YtnnaegnkkpknpaaOn
namespace Go.Proofs.Ytnnaegnkkpknpaa
open Go.RowKit
set_option linter.unusedVariables false
/-- a slice of points -/
def Sp (w : World) (a : Option Addr) (n : Nat) (p : Nat → Int × Int) : Prop :=
  ∀ k, k < n → ∃ b o, a = some ⟨b, o, none⟩ ∧ b < w.heap.size ∧ w.cell? ⟨b, o + k * 2, none⟩ = some (.int .i64 (p k).1) ∧ w.cell? ⟨b, o + k * 2 + 1, none⟩ = some (.int .i64 (p k).2)
theorem Sp.below {w w' : World} {a : Option Addr} {n : Nat} {p : Nat → Int × Int} (h : Sp w a n p) (hb : Below w.heap.size w w') : Sp w' a n p := fun k hk => by
  obtain ⟨b, o, e, hlt, c0, c1⟩ := h k hk
  exact ⟨b, o, e, by have := hb.size; omega, (bcell hb _ _ hlt).trans c0, (bcell hb _ _ hlt).trans c1⟩
theorem Sp.alloc {w : World} {a : Option Addr} {n : Nat} {p : Nat → Int × Int} (h : Sp w a n p) (o : Obj) : Sp (w.alloc o) a n p := h.below ((Below.refl _ w).alloc (Nat.le_refl _) o)
def allOn (wide high : Int) (p : Nat → Int × Int) (ok : Bool) : Nat → Bool | 0 => ok | k + 1 => allOn wide high p ok k && onB wide high (p k).1 (p k).2
def readyE (v ok : Bool) (body : Int) : Int := if v then (if ok && within body 1 9 then 0 else 7) else 1
set_option maxRecDepth 100000 in
set_option maxHeartbeats 2000000 in
theorem wall_ready (wide high body : Int) (ok : Bool) (a ak ab ap : Option Addr) (n nk nb m c ck cb cp : Nat) (g : Nat → C4) (K B : Nat → Int) (p : Nat → Int × Int) (w : World) (hn : n ≤ 100000000) (hnk : nk ≤ 100000000) (hnb : nb ≤ 100000000) (hm : m ≤ 100) (H : Sc w a n g) (HK : Sl w ak nk K) (HB : Sl w ab nb B) (HP : Sp w ap m p) :
    Calls Try.prog 77 #[.agg #[.int .i64 wide, .int .i64 high, .slice a n c], .agg #[.slice ak nk ck, .slice ab nb cb], .int .i64 body, .bool ok, .slice ap m cp] w
      fun e w' => e = .returned (.int .i64 (readyE (validW wide high n g nk nb K B) (allOn wide high p ok m) body)) ∧ Below w.heap.size w w' := by
  have I := (H.alloc (.cells #[.int .i64 wide, .int .i64 high, .slice a n c] 24)).alloc (.cells #[.slice ak nk ck, .slice ab nb cb] 27)
  have IK := (HK.alloc (.cells #[.int .i64 wide, .int .i64 high, .slice a n c] 24)).alloc (.cells #[.slice ak nk ck, .slice ab nb cb] 27)
  have IB := (HB.alloc (.cells #[.int .i64 wide, .int .i64 high, .slice a n c] 24)).alloc (.cells #[.slice ak nk ck, .slice ab nb cb] 27)
  have IP := (HP.alloc (.cells #[.int .i64 wide, .int .i64 high, .slice a n c] 24)).alloc (.cells #[.slice ak nk ck, .slice ab nb cb] 27)
  go_enter Try.func77, Try.ntmps77
  go_wp2_with fail
  refine (wall_valid wide high _ _ _ _ _ _ _ _ _ g K B _ hn hnk hnb I IK IB).mono ?_
  rintro e w1 ⟨rfl, hb1⟩
  have hB1 : Below w.heap.size w w1 := bvia (by (repeat' (first | with_reducible assumption | with_reducible exact Below.refl _ _ | with_reducible refine Below.drew ?_ | with_reducible refine below_drewN ?_ _ | with_reducible refine balloc ?_ _ | with_reducible refine bset ?_ ?_ _ | with_reducible refine Below.setCell ?_ ?_ _ | with_reducible refine Below.alloc ?_ ?_ _ | omega | (simp; done) | (simp; omega)))) hb1
  have X0 := ((Bx.new w #[.int .i64 wide, .int .i64 high, .slice a n c] 24).alloc (.cells #[.slice ak nk ck, .slice ab nb cb] 27)).below hb1
  have JP := IP.below hb1
  clear I IK IB IP hb1
  cases hv : validW wide high n g nk nb K B
  · go_wp2_with fail
    go_ret
    exact ⟨by simp [readyE, hv], hB1⟩
  · obtain ⟨hG, rfl, rfl, _⟩ := (validW_iff ..).1 hv
    obtain ⟨v1, v2, v3, v4, _, _, _, _⟩ := (validG_iff ..).1 hG
    clear hG
    go_wp2_with fail
    go_loopw [3, 19] (fun o i wr => ∃ k : Nat, k ≤ m ∧ i = .int .i64 k ∧ o = .bool (allOn wide high p ok k) ∧ Below w1.heap.size w1 wr) (fun _ i _ => m - (intOf i).toNat)
    case atStart => exact ⟨0, Nat.zero_le _, rfl, rfl, Below.refl _ _⟩
    case round =>
      obtain ⟨k, hk, rfl, rfl, hb⟩ := hrel
      have Y0 := X0.below hb
      have y0 := Y0.at_ 0 rfl; have y1 := Y0.at_ 1 rfl; have y2 := Y0.at_ 2 rfl; have z := Y0.lt
      by_cases hlt : k < m
      · obtain ⟨b1, o1, rfl, z1, c0, c1⟩ := (JP.below hb) k hlt
        cases ha : allOn wide high p ok k
        · go_wp2_with fail
          go_roundw
          case rel => exact ⟨k + 1, by omega, by go_num, by simp [allOn, ha], by (repeat' (first | with_reducible assumption | with_reducible exact Below.refl _ _ | with_reducible refine Below.drew ?_ | with_reducible refine below_drewN ?_ _ | with_reducible refine balloc ?_ _ | with_reducible refine bset ?_ ?_ _ | with_reducible refine Below.setCell ?_ ?_ _ | with_reducible refine Below.alloc ?_ ?_ _ | omega | (simp; done) | (simp; omega)))⟩
          case measure => simp [intOf]; omega
        · go_wp2_with fail
          refine (wall_on wide high (p k).1 (p k).2 _ _ _ _ ⟨v1, v2⟩ ⟨v3, v4⟩).mono ?_
          rintro e w2 ⟨rfl, hb2⟩
          have hB2 : Below w1.heap.size w1 w2 := bvia (by (repeat' (first | with_reducible assumption | with_reducible exact Below.refl _ _ | with_reducible refine Below.drew ?_ | with_reducible refine below_drewN ?_ _ | with_reducible refine balloc ?_ _ | with_reducible refine bset ?_ ?_ _ | with_reducible refine Below.setCell ?_ ?_ _ | with_reducible refine Below.alloc ?_ ?_ _ | omega | (simp; done) | (simp; omega)))) hb2
          go_wp2_with fail
          go_roundw
          case rel => exact ⟨k + 1, by omega, by go_num, by simp [allOn, ha], hB2⟩
          case measure => simp [intOf]; omega
      · obtain rfl : k = m := (by omega)
        have hB : Below w.heap.size w wr := hB1.trans (hb.mono hB1.size)
        cases ha : allOn wide high p ok k
        · go_wp2_with fail
          go_ret
          exact ⟨by simp [readyE, hv, ha], hB⟩
        · cases hw : within body 1 9
          · go_wp2_with (go_at_call 66; refine (wall_within _ _ _ _).mono ?_; rintro e w' ⟨rfl, rfl⟩)
            go_ret
            exact ⟨by simp [readyE, hv, ha, hw], hB⟩
          · go_wp2_with (go_at_call 66; refine (wall_within _ _ _ _).mono ?_; rintro e w' ⟨rfl, rfl⟩)
            go_ret
            exact ⟨by simp [readyE, hv, ha, hw], hB⟩
end Go.Proofs.Ytnnaegnkkpknpaa
