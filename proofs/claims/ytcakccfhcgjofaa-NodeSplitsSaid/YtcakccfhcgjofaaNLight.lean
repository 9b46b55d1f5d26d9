/- Walk: is a land small? Walk: is a state light enough to ask of it? -/
import Derived.Test.YtcakccfhcgjofaaBase
import Derived.Test.YtcakccfhcgjofaaNSites
import Derived.Test.YtcakccfhcgjofaaNNotes
namespace Go.Proofs.Ytcakccfhcgjofaa
open Go Go.RowKit
set_option linter.unusedVariables false
def smallL (n no : Nat) (k : Int) : Bool := decide ((n : Int) ≤ k) && decide ((no : Int) ≤ k)
theorem smallL_iff {n no : Nat} {k : Int} : smallL n no k = true ↔ ((n : Int) ≤ k ∧ (no : Int) ≤ k) := by simp [smallL]
theorem law5_Small (wide high k : Int) (a ao : Option Addr) (n no c co : Nat) (w : World) :
    Calls Try.prog 15 #[.agg #[.int .i64 wide, .int .i64 high, .slice a n c, .slice ao no co], .int .i64 k] w fun e w' => e = .returned (.bool (smallL n no k)) ∧ Below w.heap.size w w' := by
  cases h1 : decide ((n : Int) ≤ k)
  all_goals
    go_enter Try.func15, Try.ntmps15
    go_wp2
    go_ret
    exact ⟨by simp [smallL, h1], by (repeat' (first | with_reducible assumption | with_reducible exact Below.refl _ _ | with_reducible refine Below.drew ?_ | with_reducible refine below_drewN ?_ _ | with_reducible refine balloc ?_ _ | with_reducible refine bset ?_ ?_ _ | with_reducible refine Below.setCell ?_ ?_ _ | with_reducible refine Below.alloc ?_ ?_ _ | omega | (simp; done) | (simp; omega)))⟩
end Go.Proofs.Ytcakccfhcgjofaa
namespace Go.Proofs.Ytcakccfhcgjofaa
open Go Go.RowKit
set_option linter.unusedVariables false
def lightR (m q : Nat) (f : Nat → SiteR) : Prop := m ≤ 12 ∧ q ≤ 400 ∧ ∀ k, k < m → (f k).ni ≤ 300 ∧ (f k).nc ≤ 300
set_option maxRecDepth 100000 in
set_option maxHeartbeats 4000000 in
theorem law5_Light (al ap : Option Addr) (m q cl cp : Nat) (f : Nat → SiteR) (w : World) (hm : m ≤ maxLen) (hq : q ≤ maxLen) (hn : ∀ k, k < m → (f k).ni ≤ maxLen ∧ (f k).nc ≤ maxLen) (HS : Ss w al m f) :
    Calls Try.prog 21 #[.agg #[.slice al m cl, .slice ap q cp]] w fun e w' => (∃ b : Bool, e = .returned (.bool b) ∧ (b = true → lightR m q f)) ∧ Below w.heap.size w w' := by
  unfold maxLen at hm hq hn
  have I := HS.alloc (.cells #[.slice al m cl, .slice ap q cp] 45)
  have X := Bx.new w #[.slice al m cl, .slice ap q cp] 45
  have hB0 := below_alloc w (.cells #[.slice al m cl, .slice ap q cp] 45)
  cases h1 : decide ((12 : Int) < m)
  rotate_left
  · go_enter Try.func21, Try.ntmps21
    go_wp2
    go_ret
    exact ⟨⟨_, rfl, fun h => by cases h⟩, by (repeat' (first | with_reducible assumption | with_reducible exact Below.refl _ _ | with_reducible refine Below.drew ?_ | with_reducible refine below_drewN ?_ _ | with_reducible refine balloc ?_ _ | with_reducible refine bset ?_ ?_ _ | with_reducible refine Below.setCell ?_ ?_ _ | with_reducible refine Below.alloc ?_ ?_ _ | omega | (simp; done) | (simp; omega)))⟩
  cases h2 : decide ((400 : Int) < q)
  rotate_left
  · go_enter Try.func21, Try.ntmps21
    go_wp2
    go_ret
    exact ⟨⟨_, rfl, fun h => by cases h⟩, by (repeat' (first | with_reducible assumption | with_reducible exact Below.refl _ _ | with_reducible refine Below.drew ?_ | with_reducible refine below_drewN ?_ _ | with_reducible refine balloc ?_ _ | with_reducible refine bset ?_ ?_ _ | with_reducible refine Below.setCell ?_ ?_ _ | with_reducible refine Below.alloc ?_ ?_ _ | omega | (simp; done) | (simp; omega)))⟩
  have k1 : m ≤ 12 := by have := of_decide_eq_false h1; omega
  have k2 : q ≤ 400 := by have := of_decide_eq_false h2; omega
  have HK2 := hid k2; clear k2
  go_enter Try.func21, Try.ntmps21
  go_wp2
  clear h1 h2
  go_loopw [3, 4, 5] (fun x y i wr => ∃ k : Nat, k ≤ m ∧ i = .int .i64 k ∧ (∃ x' : Int, x = .int .i64 x') ∧ (∃ y' : Int, y = .int .i64 y') ∧ (∀ j, j < k → (f j).ni ≤ 300 ∧ (f j).nc ≤ 300) ∧ Bx wr w.heap.size #[.slice al m cl, .slice ap q cp] ∧ Below w.heap.size w wr ∧ Ss wr al m f) (fun _ _ i _ => m - (intOf i).toNat)
  case atStart => exact ⟨0, Nat.zero_le _, rfl, ⟨_, rfl⟩, ⟨_, rfl⟩, fun j hj => by omega, X, hB0, I⟩
  case round =>
    obtain ⟨k, hk, rfl, ⟨x', rfl⟩, ⟨y', rfl⟩, hok, hX, hB, hS⟩ := hrel
    have HOK := hid hok; clear hok
    by_cases hlt : k < m
    · obtain ⟨b1, o1, rfl, hb1, c0, c1, c2, c3, c4⟩ := hS k hlt
      have hnk := hn k hlt
      have x0 := hX.at_ 0 rfl; have x1 := hX.at_ 1 rfl; have lx := hX.lt
      cases h1 : decide ((300 : Int) < (f k).ni)
      rotate_left
      · go_wp2
        go_ret
        exact ⟨⟨_, rfl, fun h => by cases h⟩, by (repeat' (first | with_reducible assumption | with_reducible exact Below.refl _ _ | with_reducible refine Below.drew ?_ | with_reducible refine below_drewN ?_ _ | with_reducible refine balloc ?_ _ | with_reducible refine bset ?_ ?_ _ | with_reducible refine Below.setCell ?_ ?_ _ | with_reducible refine Below.alloc ?_ ?_ _ | omega | (simp; done) | (simp; omega)))⟩
      cases h2 : decide ((300 : Int) < (f k).nc)
      rotate_left
      · go_wp2
        go_ret
        exact ⟨⟨_, rfl, fun h => by cases h⟩, by (repeat' (first | with_reducible assumption | with_reducible exact Below.refl _ _ | with_reducible refine Below.drew ?_ | with_reducible refine below_drewN ?_ _ | with_reducible refine balloc ?_ _ | with_reducible refine bset ?_ ?_ _ | with_reducible refine Below.setCell ?_ ?_ _ | with_reducible refine Below.alloc ?_ ?_ _ | omega | (simp; done) | (simp; omega)))⟩
      have k1 : (f k).ni ≤ 300 := by have := of_decide_eq_false h1; omega
      have k2 : (f k).nc ≤ 300 := by have := of_decide_eq_false h2; omega
      have HK := hid (And.intro k1 k2)
      clear k1 k2
      go_wp2_with fail
      go_quiet (fail)
      go_wp2
      go_roundw
      case rel => exact ⟨k + 1, by omega, by go_num, ⟨_, rfl⟩, ⟨_, rfl⟩, fun j hj => by
          rcases Nat.lt_succ_iff_lt_or_eq.1 hj with h' | rfl
          · exact HOK.out j h'
          · exact HK.out, hX.below (by (repeat' (first | with_reducible assumption | with_reducible exact Below.refl _ _ | with_reducible refine Below.drew ?_ | with_reducible refine below_drewN ?_ _ | with_reducible refine balloc ?_ _ | with_reducible refine bset ?_ ?_ _ | with_reducible refine Below.setCell ?_ ?_ _ | with_reducible refine Below.alloc ?_ ?_ _ | omega | (simp; done) | (simp; omega)))), by (repeat' (first | with_reducible assumption | with_reducible exact Below.refl _ _ | with_reducible refine Below.drew ?_ | with_reducible refine below_drewN ?_ _ | with_reducible refine balloc ?_ _ | with_reducible refine bset ?_ ?_ _ | with_reducible refine Below.setCell ?_ ?_ _ | with_reducible refine Below.alloc ?_ ?_ _ | omega | (simp; done) | (simp; omega))), hS.below (by (repeat' (first | with_reducible assumption | with_reducible exact Below.refl _ _ | with_reducible refine Below.drew ?_ | with_reducible refine below_drewN ?_ _ | with_reducible refine balloc ?_ _ | with_reducible refine bset ?_ ?_ _ | with_reducible refine Below.setCell ?_ ?_ _ | with_reducible refine Below.alloc ?_ ?_ _ | omega | (simp; done) | (simp; omega))))⟩
      case measure => simp [intOf]; omega
    · obtain rfl : k = m := (by omega)
      have x0 := hX.at_ 0 rfl; have x1 := hX.at_ 1 rfl; have lx := hX.lt
      cases hy : decide ((0 : Int) ≤ y')
      all_goals
        go_wp2
        go_ret
        exact ⟨⟨_, rfl, fun _ => ⟨k1, HK2.out, HOK.out⟩⟩, by (repeat' (first | with_reducible assumption | with_reducible exact Below.refl _ _ | with_reducible refine Below.drew ?_ | with_reducible refine below_drewN ?_ _ | with_reducible refine balloc ?_ _ | with_reducible refine bset ?_ ?_ _ | with_reducible refine Below.setCell ?_ ?_ _ | with_reducible refine Below.alloc ?_ ?_ _ | omega | (simp; done) | (simp; omega)))⟩
end Go.Proofs.Ytcakccfhcgjofaa
