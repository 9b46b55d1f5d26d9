/- Walks of the share layer: SameInts, SamePairs, many, awake. -/
import Derived.Test.YtgpcmkoimgnlbaaSProof
import Derived.Test.YtgpcmkoimgnlbaaSWalk7
namespace Go.Proofs.Ytgpcmkoimgnlbaa
open Go Go.RowKit
set_option linter.unusedVariables false
def sameL (n : Nat) (f : Nat → Int) (m : Nat) (g : Nat → Int) : Bool := decide (n = m ∧ ∀ k, k < n → f k = g k)
theorem sameL_iff {n : Nat} {f : Nat → Int} {m : Nat} {g : Nat → Int} : sameL n f m g = true ↔ (n = m ∧ ∀ k, k < n → f k = g k) := by simp [sameL]
theorem sameL_no {n : Nat} {f : Nat → Int} {m : Nat} {g : Nat → Int} : sameL n f m g = false ↔ ¬ (n = m ∧ ∀ k, k < n → f k = g k) := by rw [← sameL_iff]; simp
set_option maxHeartbeats 1000000 in
theorem ref6_sameInts (a b : Option Addr) (n m cap cap' : Nat) (f g : Nat → Int) (w : World) (hn : n ≤ 100000000) (hm : m ≤ 100000000) (H : Sl w a n f) (H' : Sl w b m g) :
    Calls Try.prog 14 #[.slice a n cap, .slice b m cap'] w fun e w' => e = .returned (.bool (sameL n f m g)) ∧ Below w.heap.size w w' := by
  cases hne : ((n : Int) != m)
  · have hnm : n = m := by simp at hne; omega
    subst hnm
    go_enter Try.func14, Try.ntmps14
    go_wp2
    go_loopw [5] (fun i wr => ∃ k : Nat, k ≤ n ∧ i = .int .i64 k ∧ (∀ j, j < k → f j = g j) ∧ Below w.heap.size w wr) (fun i _ => n - (intOf i).toNat)
    case atStart => exact ⟨0, Nat.zero_le _, rfl, fun j hj => by omega, by (repeat' (first | with_reducible assumption | with_reducible exact Below.refl _ _ | with_reducible refine Below.drew ?_ | with_reducible refine below_drewN ?_ _ | with_reducible refine balloc ?_ _ | with_reducible refine bset ?_ ?_ _ | with_reducible refine Below.setCell ?_ ?_ _ | with_reducible refine Below.alloc ?_ ?_ _ | omega | (simp; done) | (simp; omega)))⟩
    case round =>
      obtain ⟨k, hk, rfl, hok, hB⟩ := hrel
      have HOK := hid hok; clear hok
      by_cases hlt : k < n
      · obtain ⟨b1, o1, rfl, _, c1⟩ := (H.below hB) k hlt
        obtain ⟨b2, o2, rfl, _, c2⟩ := (H'.below hB) k hlt
        cases he : (f k != g k)
        · have he' : f k = g k := by simpa using he
          have HE := hid he'; clear he'
          go_wp2
          go_quiet (fail)
          go_wp2
          go_roundw
          case rel => exact ⟨k + 1, by omega, by go_num, fun j hj => by
              rcases Nat.lt_succ_iff_lt_or_eq.1 hj with h' | rfl
              · exact HOK.out j h'
              · exact HE.out, by (repeat' (first | with_reducible assumption | with_reducible exact Below.refl _ _ | with_reducible refine Below.drew ?_ | with_reducible refine below_drewN ?_ _ | with_reducible refine balloc ?_ _ | with_reducible refine bset ?_ ?_ _ | with_reducible refine Below.setCell ?_ ?_ _ | with_reducible refine Below.alloc ?_ ?_ _ | omega | (simp; done) | (simp; omega)))⟩
          case measure => simp [intOf]; omega
        · have he' : ¬ f k = g k := by simpa using he
          go_wp2
          go_quiet (fail)
          go_wp2
          go_ret
          exact ⟨ret_bool (sameL_no.2 (fun h => he' (h.2 k hlt))).symm, by (repeat' (first | with_reducible assumption | with_reducible exact Below.refl _ _ | with_reducible refine Below.drew ?_ | with_reducible refine below_drewN ?_ _ | with_reducible refine balloc ?_ _ | with_reducible refine bset ?_ ?_ _ | with_reducible refine Below.setCell ?_ ?_ _ | with_reducible refine Below.alloc ?_ ?_ _ | omega | (simp; done) | (simp; omega)))⟩
      · go_wp2
        go_ret
        obtain rfl : k = n := (by omega)
        exact ⟨ret_bool (sameL_iff.2 ⟨rfl, HOK.out⟩).symm, hB⟩
  · have hnm : ¬ n = m := by simp at hne; omega
    go_enter Try.func14, Try.ntmps14
    go_wp2
    go_ret
    exact ⟨ret_bool (sameL_no.2 (fun h => hnm h.1)).symm, by (repeat' (first | with_reducible assumption | with_reducible exact Below.refl _ _ | with_reducible refine Below.drew ?_ | with_reducible refine below_drewN ?_ _ | with_reducible refine balloc ?_ _ | with_reducible refine bset ?_ ?_ _ | with_reducible refine Below.setCell ?_ ?_ _ | with_reducible refine Below.alloc ?_ ?_ _ | omega | (simp; done) | (simp; omega)))⟩
theorem sameL_self (n : Nat) (f : Nat → Int) : sameL n f n f = true := sameL_iff.2 ⟨rfl, fun _ _ => rfl⟩
set_option maxRecDepth 100000 in
set_option maxHeartbeats 1000000 in
theorem ref9_samePairs (a b : Option Addr) (n cap cap' : Nat) (p q : Nat → Int × Int) (w : World) (hn : n ≤ 100000000) (H : Sq w a n p) (H' : Sq w b n q) (hpq : ∀ k, k < n → p k = q k) :
    Calls Try.prog 28 #[.slice a n cap, .slice b n cap'] w fun e w' => e = .returned (.bool true) ∧ Below w.heap.size w w' := by
  have HPQ := hid hpq; clear hpq
  go_enter Try.func28, Try.ntmps28
  go_wp2
  go_loopw [5] (fun i wr => ∃ k : Nat, k ≤ n ∧ i = .int .i64 k ∧ Below w.heap.size w wr) (fun i _ => n - (intOf i).toNat)
  case atStart => exact ⟨0, Nat.zero_le _, rfl, by (repeat' (first | with_reducible assumption | with_reducible exact Below.refl _ _ | with_reducible refine Below.drew ?_ | with_reducible refine below_drewN ?_ _ | with_reducible refine balloc ?_ _ | with_reducible refine bset ?_ ?_ _ | with_reducible refine Below.setCell ?_ ?_ _ | with_reducible refine Below.alloc ?_ ?_ _ | omega | (simp; done) | (simp; omega)))⟩
  case round =>
    obtain ⟨k, hk, rfl, hB⟩ := hrel
    by_cases hlt : k < n
    · obtain ⟨b1, o1, rfl, l1, c1, c1'⟩ := (H.below hB) k hlt
      obtain ⟨b2, o2, rfl, l2, c2, c2'⟩ := (H'.below hB) k hlt
      have he := HPQ.out k hlt
      rw [← he] at c2 c2'
      obtain ⟨x, hx⟩ : ∃ x, (p k).1 = x := ⟨_, rfl⟩
      obtain ⟨y, hy⟩ : ∃ y, (p k).2 = y := ⟨_, rfl⟩
      rw [hx] at c1 c2
      rw [hy] at c1' c2'
      have hne := neq_pair x y x y
      simp only [beq_self_eq_true, Bool.and_self, Bool.not_true] at hne
      clear he hx hy
      go_wp2
      go_quiet (fail)
      go_wp2
      go_roundw
      case rel => exact ⟨k + 1, by omega, by go_num, by (repeat' (first | with_reducible assumption | with_reducible exact Below.refl _ _ | with_reducible refine Below.drew ?_ | with_reducible refine below_drewN ?_ _ | with_reducible refine balloc ?_ _ | with_reducible refine bset ?_ ?_ _ | with_reducible refine Below.setCell ?_ ?_ _ | with_reducible refine Below.alloc ?_ ?_ _ | omega | (simp; done) | (simp; omega)))⟩
      case measure => simp [intOf]; omega
    · go_wp2
      go_ret
      exact ⟨rfl, hB⟩
/-- more loads than are looked at -/
def manyB (n : Nat) : Bool := (decide (24 < n) && decide (n ≤ 64)) || decide (80 < n)
set_option maxRecDepth 100000 in
theorem law9_many (a : Option Addr) (n cap : Nat) (w : World) (hn : n ≤ maxLen) : Calls Try.prog 9 #[.slice a n cap] w fun e w' => e = .returned (.bool (manyB n)) ∧ w = w' := by
  unfold maxLen at hn
  by_cases h1 : 24 < n
  · by_cases h2 : n ≤ 64
    · go_enter Try.func9, Try.ntmps9
      go_wp2
      go_ret
      exact ⟨ret_bool (by (try rw [Bool.eq_iff_iff]); simp [manyB]; omega), rfl⟩
    · by_cases h3 : 80 < n
      · go_enter Try.func9, Try.ntmps9
        go_wp2
        go_ret
        exact ⟨ret_bool (by (try rw [Bool.eq_iff_iff]); simp [manyB]; omega), rfl⟩
      · go_enter Try.func9, Try.ntmps9
        go_wp2
        go_ret
        exact ⟨ret_bool (by (try rw [Bool.eq_iff_iff]); simp [manyB]; omega), rfl⟩
  · go_enter Try.func9, Try.ntmps9
    go_wp2
    go_ret
    exact ⟨ret_bool (by (try rw [Bool.eq_iff_iff]); simp [manyB]; omega), rfl⟩
def exF : Nat → Int := fun k => [3, 1, 4, 1, 5].getD k 0
theorem ex_least : leaR exF 5 2 = 8 := by decide +kernel
theorem ex_askE : askE (vL 5 exF) (within 2 1 16) = 0 := by decide +kernel
theorem ex_askE3 : askE (vL 5 exF) (within 3 1 16) = 0 := by decide +kernel
theorem ex_best2 : besL exF 5 2 = [3] := by decide +kernel
theorem ex_best3 : besL exF 5 3 = [2, 4] := by decide +kernel
theorem ex_proof : prL exF 5 2 = [(0, 2), (2, 4)] := by decide +kernel
theorem ex_proofE : prE exF 5 2 = 0 := by decide +kernel
theorem ex_sl (w : World) : Sl (w.alloc (.cells #[.int .i64 3, .int .i64 1, .int .i64 4, .int .i64 1, .int .i64 5] 3)) (some ⟨w.heap.size, 0, none⟩) 5 exF := fun k hk => by
  have X := Bx.new w #[.int .i64 3, .int .i64 1, .int .i64 4, .int .i64 1, .int .i64 5] 3
  refine ⟨_, 0, rfl, X.lt, ?_⟩
  rcases (by omega : k = 0 ∨ k = 1 ∨ k = 2 ∨ k = 3 ∨ k = 4) with rfl | rfl | rfl | rfl | rfl
  · exact X.at_ 0 rfl
  · exact X.at_ 1 rfl
  · exact X.at_ 2 rfl
  · exact X.at_ 3 rfl
  · exact X.at_ 4 rfl
theorem sl_one (w : World) (x : Int) : Sl (w.alloc (.cells #[.int .i64 x] 3)) (some ⟨w.heap.size, 0, none⟩) 1 (fun k => [x].getD k 0) := fun k hk => by
  obtain rfl : k = 0 := by omega
  have X := Bx.new w #[.int .i64 x] 3
  exact ⟨_, 0, rfl, X.lt, X.at_ 0 rfl⟩
theorem sl_two (w : World) (x y : Int) : Sl (w.alloc (.cells #[.int .i64 x, .int .i64 y] 3)) (some ⟨w.heap.size, 0, none⟩) 2 (fun k => [x, y].getD k 0) := fun k hk => by
  have X := Bx.new w #[.int .i64 x, .int .i64 y] 3
  refine ⟨_, 0, rfl, X.lt, ?_⟩
  rcases (by omega : k = 0 ∨ k = 1) with rfl | rfl
  · exact X.at_ 0 rfl
  · exact X.at_ 1 rfl
theorem sq_two (w : World) (x y u v : Int) : Sq (w.alloc (.cells #[.int .i64 x, .int .i64 y, .int .i64 u, .int .i64 v] 46)) (some ⟨w.heap.size, 0, none⟩) 2 (fun k => [(x, y), (u, v)].getD k (0, 0)) := fun k hk => by
  have X := Bx.new w #[.int .i64 x, .int .i64 y, .int .i64 u, .int .i64 v] 46
  rcases (by omega : k = 0 ∨ k = 1) with rfl | rfl
  · exact ⟨_, 0, rfl, X.lt, X.at_ 0 rfl, X.at_ 1 rfl⟩
  · exact ⟨_, 0, rfl, X.lt, X.at_ 2 rfl, X.at_ 3 rfl⟩
set_option maxRecDepth 100000 in
set_option maxHeartbeats 4000000 in
theorem awake9 (w : World) : Calls Try.prog 8 #[] w fun e w' => e = .returned (.bool true) ∧ Below w.heap.size w w' := by
  have H := ex_sl w
  have hB : Below w.heap.size w (w.alloc (.cells #[.int .i64 3, .int .i64 1, .int .i64 4, .int .i64 1, .int .i64 5] 3)) := below_alloc _ _
  go_enter Try.func8, Try.ntmps8
  go_wp2_with fail
  generalize w.alloc (.cells #[.int .i64 3, .int .i64 1, .int .i64 4, .int .i64 1, .int .i64 5] 3) = w0 at H hB ⊢
  have hca : 5 ≤ maxLen := by simp [maxLen]
  refine (share_Least _ 5 5 2 exF _ (by omega) H).mono ?_
  rw [ex_least, ex_askE]
  rintro e w1 ⟨rfl, hb1⟩
  replace H := H.below hb1
  replace hB := bvia hB hb1
  clear hb1
  go_wp2_with fail
  refine (share_Best _ 5 5 2 exF _ (by omega) (by omega) hca H).mono ?_
  rw [ex_best2, ex_askE]
  rintro e w2 ⟨a2, c2, rfl, S2, hb2⟩
  replace H := H.below hb2
  replace hB := bvia hB hb2
  clear hb2
  go_wp2_with fail
  refine (share_Proof _ 5 5 2 exF _ (by omega) H).mono ?_
  rw [ex_proof, ex_proofE]
  rintro e w3 ⟨a3, c3, rfl, Q3, hb3⟩
  replace H := H.below hb3
  replace S2 := S2.below hb3
  replace hB := bvia hB hb3
  clear hb3
  go_wp2_with fail
  refine (share_Best _ 5 5 3 exF _ (by omega) (by omega) hca H).mono ?_
  rw [ex_best3, ex_askE3]
  rintro e w4 ⟨a4, c4, rfl, S4, hb4⟩
  replace H := H.below hb4
  replace S2 := S2.below hb4
  replace Q3 := Q3.below hb4
  replace hB := bvia hB hb4
  clear hb4
  simp only [List.length_cons, List.length_nil, Nat.zero_add] at S2 Q3 S4 ⊢
  go_wp2_with fail
  refine (ref6_sameInts _ _ 1 1 _ _ _ _ _ (by omega) (by omega) (S2.alloc _) (sl_one _ 3)).mono ?_
  rintro e w5 ⟨rfl, hb5⟩
  rw [sameL_self]
  replace S4 := (S4.alloc (.cells #[.int .i64 3] 3)).below hb5
  replace Q3 := (Q3.alloc (.cells #[.int .i64 3] 3)).below hb5
  replace hB := bvia (balloc hB (.cells #[.int .i64 3] 3)) hb5
  clear S2 H hb5
  go_wp2_with fail
  refine (ref6_sameInts _ _ 2 2 _ _ _ _ _ (by omega) (by omega) (S4.alloc _) (sl_two _ 2 4)).mono ?_
  rintro e w6 ⟨rfl, hb6⟩
  rw [sameL_self]
  replace Q3 := (Q3.alloc (.cells #[.int .i64 2, .int .i64 4] 3)).below hb6
  replace hB := bvia (balloc hB (.cells #[.int .i64 2, .int .i64 4] 3)) hb6
  clear S4 hb6
  go_wp2_with fail
  refine (ref9_samePairs _ _ 2 _ _ _ _ _ (by omega) (Q3.alloc _) (sq_two _ 0 2 2 4) (fun _ _ => rfl)).mono ?_
  rintro e w7 ⟨rfl, hb7⟩
  go_wp2_with fail
  go_ret
  exact ⟨rfl, bvia (balloc hB _) hb7⟩
end Go.Proofs.Ytgpcmkoimgnlbaa
