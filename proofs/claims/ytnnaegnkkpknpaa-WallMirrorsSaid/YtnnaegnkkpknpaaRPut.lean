/- Plain words: a shape put into a wall; walk: the reference's put. -/
import Derived.Test.YtnnaegnkkpknpaaClo
namespace Go.Proofs.Ytnnaegnkkpknpaa
open Go.RowKit
attribute [local go_sem ↓] Go.wp_at_zero Go.wp_at_succ
set_option linter.unusedVariables false
/-- some place of the shape belongs to another body -/
def putBad (s B : Nat → Int) (body : Int) (n : Nat) : Bool := decide (∃ i, i < n ∧ s i ≠ 0 ∧ B i ≠ 0 ∧ B i ≠ body)
theorem putBad_yes {s B : Nat → Int} {body : Int} {n i : Nat} (hi : i < n) (h : s i ≠ 0) (h1 : B i ≠ 0) (h2 : B i ≠ body) : putBad s B body n = true := by
  simp only [putBad, decide_eq_true_eq]; exact ⟨i, hi, h, h1, h2⟩
theorem putBad_no {s B : Nat → Int} {body : Int} {n : Nat} (h : ∀ i, i < n → ¬ (s i ≠ 0 ∧ B i ≠ 0 ∧ B i ≠ body)) : putBad s B body n = false := by
  simp only [putBad, decide_eq_false_iff_not]; rintro ⟨i, hi, h'⟩; exact h i hi h'
/-- the first k places put in -/
def putTo (s f : Nat → Int) (v : Nat → Int) (k : Nat) : Nat → Int := fun j => if j < k ∧ s j ≠ 0 then v j else f j
theorem putTo_zero (s f v : Nat → Int) : putTo s f v 0 = f := by funext j; simp [putTo]
theorem putTo_at (s f v : Nat → Int) (k : Nat) : putTo s f v k k = f k := by simp [putTo]
theorem putTo_skip {s f v : Nat → Int} {k : Nat} (h : s k = 0) : putTo s f v (k + 1) = putTo s f v k := by
  funext j; unfold putTo
  by_cases e : j = k
  · subst e; simp [h]
  · simp only [show (j < k + 1) = (j < k) from propext ⟨by omega, by omega⟩]
theorem putTo_set {s f v : Nat → Int} {k : Nat} (h : s k ≠ 0) : putTo s f v (k + 1) = upd (putTo s f v k) k (v k) := by
  funext j; unfold upd putTo
  by_cases e : j = k
  · subst e; simp [h]
  · simp only [if_neg e, show (j < k + 1) = (j < k) from propext ⟨by omega, by omega⟩]
/-- a wall and an error -/
def WallPost (err : Int) (m : Nat) (K B : Nat → Int) (w : World) (e : Ending) (w' : World) : Prop :=
  ∃ a a' c c', e = .returned (.tuple #[.agg #[.slice a m c, .slice a' m c'], .int .i64 err]) ∧ Sl w' a m K ∧ Sl w' a' m B ∧ Below w.heap.size w w'
theorem wallPost_none {err : Int} {K B : Nat → Int} {w w' : World} (hb : Below w.heap.size w w') : WallPost err 0 K B w (.returned (.tuple #[.agg #[.slice none 0 0, .slice none 0 0], .int .i64 err])) w' :=
  ⟨none, none, 0, 0, rfl, fun k hk => by omega, fun k hk => by omega, hb⟩
def putErr (s B : Nat → Int) (body : Int) (n : Nat) : Int := if putBad s B body n then 11 else 0
def putLen (s B : Nat → Int) (body : Int) (n : Nat) : Nat := if putBad s B body n then 0 else n
set_option maxRecDepth 100000 in
set_option maxHeartbeats 4000000 in
theorem ref3_put (body : Int) (ak ab ash : Option Addr) (n ck cb cs : Nat) (K B s : Nat → Int) (w : World) (hn : n ≤ 100000) (h0 : 0 < n) (HK : Sl w ak n K) (HB : Sl w ab n B) (HS : Sl w ash n s) :
    Calls Try.prog 85 #[.agg #[.slice ak n ck, .slice ab n cb], .slice ash n cs, .int .i64 body] w
      (WallPost (putErr s B body n) (putLen s B body n) (putTo s K s n) (putTo s B (fun _ => body) n) w) := by
  have X0 := (Bx.new w #[.slice ak n ck, .slice ab n cb] 27).alloc (.cells #[.slice none 0 0, .slice none 0 0] 27)
  have X1 := Bx.new (w.alloc (.cells #[.slice ak n ck, .slice ab n cb] 27)) #[.slice none 0 0, .slice none 0 0] 27
  have hB0 : Below w.heap.size w ((w.alloc (.cells #[.slice ak n ck, .slice ab n cb] 27)).alloc (.cells #[.slice none 0 0, .slice none 0 0] 27)) := by (repeat' (first | with_reducible assumption | with_reducible exact Below.refl _ _ | with_reducible refine Below.drew ?_ | with_reducible refine below_drewN ?_ _ | with_reducible refine balloc ?_ _ | with_reducible refine bset ?_ ?_ _ | with_reducible refine Below.setCell ?_ ?_ _ | with_reducible refine Below.alloc ?_ ?_ _ | omega | (simp; done) | (simp; omega)))
  rw [World.size_alloc] at X1
  go_enter Try.func85, Try.ntmps85
  go_wp2_with fail
  refine (ref3_Copy ak ab n ck cb K B _ hn h0 (HK.below hB0) (HB.below hB0)).mono ?_
  rintro e w1 ⟨gk, ck', gb, cb', rfl, hgk, hgb, hne, RK, RB, hb1⟩
  simp at hgk hgb
  have Y0 := X0.below hb1
  have Y1 := X1.below hb1
  have y0 := Y0.at_ 0 rfl; have y1 := Y0.at_ 1 rfl; have z0 := Y0.lt; have yf := Y0.free
  have hB1 : Below w.heap.size w w1 := bvia hB0 hb1
  have Z0 : Bx ((w1.setCell ⟨w.heap.size, 0, none⟩ (.slice (some ⟨gk, 0, none⟩) n ck')).setCell ⟨w.heap.size, 1, none⟩ (.slice (some ⟨gb, 0, none⟩) n cb')) w.heap.size #[.slice (some ⟨gk, 0, none⟩) n ck', .slice (some ⟨gb, 0, none⟩) n cb'] := Y0.two
  have Z1 := (Y1.far (p := ⟨w.heap.size, 0, none⟩) (by simp) (.slice (some ⟨gk, 0, none⟩) n ck')).far (p := ⟨w.heap.size, 1, none⟩) (by simp) (.slice (some ⟨gb, 0, none⟩) n cb')
  have ZK := (RK.far (p := ⟨w.heap.size, 0, none⟩) (by simp; omega) (.slice (some ⟨gk, 0, none⟩) n ck')).far (p := ⟨w.heap.size, 1, none⟩) (by simp; omega) (.slice (some ⟨gb, 0, none⟩) n cb')
  have ZB := (RB.far (p := ⟨w.heap.size, 0, none⟩) (by simp; omega) (.slice (some ⟨gk, 0, none⟩) n ck')).far (p := ⟨w.heap.size, 1, none⟩) (by simp; omega) (.slice (some ⟨gb, 0, none⟩) n cb')
  have hB2 : Below w.heap.size w ((w1.setCell ⟨w.heap.size, 0, none⟩ (.slice (some ⟨gk, 0, none⟩) n ck')).setCell ⟨w.heap.size, 1, none⟩ (.slice (some ⟨gb, 0, none⟩) n cb')) := by (repeat' (first | with_reducible assumption | with_reducible exact Below.refl _ _ | with_reducible refine Below.drew ?_ | with_reducible refine below_drewN ?_ _ | with_reducible refine balloc ?_ _ | with_reducible refine bset ?_ ?_ _ | with_reducible refine Below.setCell ?_ ?_ _ | with_reducible refine Below.alloc ?_ ?_ _ | omega | (simp; done) | (simp; omega)))
  clear RK RB hb1 Y1 X0 X1
  go_wp2_with fail
  go_loopw [8] (fun i wr => ∃ k : Nat, k ≤ n ∧ i = .int .i64 k ∧ Bx wr w.heap.size #[.slice (some ⟨gk, 0, none⟩) n ck', .slice (some ⟨gb, 0, none⟩) n cb'] ∧ Bx wr (w.heap.size + 1) #[.slice none 0 0, .slice none 0 0] ∧ Ro wr gk n (putTo s K s k) ∧ Ro wr gb n (putTo s B (fun _ => body) k) ∧ (∀ j, j < k → ¬ (s j ≠ 0 ∧ B j ≠ 0 ∧ B j ≠ body)) ∧ Below w.heap.size w wr) (fun i _ => n - (intOf i).toNat)
  case atStart => exact ⟨0, Nat.zero_le _, rfl, Z0, Z1, by rw [putTo_zero]; exact ZK, by rw [putTo_zero]; exact ZB, fun j hj => by omega, hB2⟩
  case round =>
    clear Z0 Z1 ZK ZB hB2 y0 y1 yf z0 Y0
    obtain ⟨k, hk, rfl, U0, U1, UK, UB, hok, hB⟩ := hrel
    have HOK := hid hok; clear hok
    have x0 := U0.at_ 0 rfl; have x1 := U0.at_ 1 rfl; have u0 := U1.at_ 0 rfl; have u1 := U1.at_ 1 rfl; have uf := U1.free; have l0 := U0.lt; have l1 := U1.lt
    by_cases hlt : k < n
    · obtain ⟨bs, os, rfl, hbs, c0⟩ := (HS.below hB) k hlt
      have hbs' : bs < w.heap.size := by
        obtain ⟨b', o', e, h, _⟩ := HS k hlt
        injection e with e; injection e with e1 _ _; omega
      have fk := UK.free; have fb := UB.free
      have ck0 := UB.cells k hlt
      rw [putTo_at] at ck0
      have kk0 := UK.cells k hlt
      rw [putTo_at] at kk0
      cases hs : (s k == 0)
      · have hs' : ¬ s k = 0 := by simpa using hs
        have HSK := hid hs'; clear hs'
        cases h1 : (B k != 0)
        · go_upto_region 8 with (fail)
          have hnb : ¬ (B k ≠ 0 ∧ B k ≠ body) := by simp at h1; exact fun h => h.1 h1
          have HNB := hid hnb; clear hnb
          have r0 : ∀ W, Below (w.heap.size + 1 + 1) wr W → W.cell? ⟨w.heap.size, 0, none⟩ = some (.slice (some ⟨gk, 0, none⟩) n ck') := fun W h => (bcell h _ _ (by omega)).trans x0
          have r1 : ∀ W, Below (w.heap.size + 1 + 1) wr W → W.cell? ⟨w.heap.size, 1, none⟩ = some (.slice (some ⟨gb, 0, none⟩) n cb') := fun W h => (bcell h _ _ (by omega)).trans x1
          have r2 : ∀ W, Below (w.heap.size + 1 + 1) wr W → W.cell? ⟨bs, os + k, none⟩ = some (.int .i64 (s k)) := fun W h => (bcell h _ _ (by omega)).trans c0
          clear x0 x1 c0
          go_region_held3 (fun W => Below (w.heap.size + 1 + 1) wr W) ((repeat' (first | with_reducible assumption | with_reducible exact Below.refl _ _ | with_reducible refine Below.drew ?_ | with_reducible refine below_drewN ?_ _ | with_reducible refine balloc ?_ _ | with_reducible refine bset ?_ ?_ _ | with_reducible refine Below.setCell ?_ ?_ _ | with_reducible refine Below.alloc ?_ ?_ _ | omega | (simp; done) | (simp; omega)))) (fail)
          all_goals
            go_wp2_with fail
            go_roundw
            case rel => exact ⟨k + 1, by omega, by go_num, ((U0.far (by simp; omega) _).far (by simp; omega) _).drew, ((U1.far (by simp; omega) _).far (by simp; omega) _).drew, by rw [putTo_set HSK.out]; exact ((UK.set_ k (s k)).far (by simp; omega) _).drew, by rw [putTo_set HSK.out]; exact ((UB.far (by simp; omega) _).set_ k body).drew, fun j hj => by
              rcases Nat.lt_succ_iff_lt_or_eq.1 hj with h' | rfl
              · exact HOK.out j h'
              · exact fun h => HNB.out h.2, by (repeat' (first | with_reducible assumption | with_reducible exact Below.refl _ _ | with_reducible refine Below.drew ?_ | with_reducible refine below_drewN ?_ _ | with_reducible refine balloc ?_ _ | with_reducible refine bset ?_ ?_ _ | with_reducible refine Below.setCell ?_ ?_ _ | with_reducible refine Below.alloc ?_ ?_ _ | omega | (simp; done) | (simp; omega)))⟩
            case measure => simp [intOf]; omega
        · cases h2 : (B k != body)
          · go_upto_region 8 with (fail)
            have hnb : ¬ (B k ≠ 0 ∧ B k ≠ body) := by simp at h2; exact fun h => h.2 h2
            have HNB := hid hnb; clear hnb
            have r0 : ∀ W, Below (w.heap.size + 1 + 1) wr W → W.cell? ⟨w.heap.size, 0, none⟩ = some (.slice (some ⟨gk, 0, none⟩) n ck') := fun W h => (bcell h _ _ (by omega)).trans x0
            have r1 : ∀ W, Below (w.heap.size + 1 + 1) wr W → W.cell? ⟨w.heap.size, 1, none⟩ = some (.slice (some ⟨gb, 0, none⟩) n cb') := fun W h => (bcell h _ _ (by omega)).trans x1
            have r2 : ∀ W, Below (w.heap.size + 1 + 1) wr W → W.cell? ⟨bs, os + k, none⟩ = some (.int .i64 (s k)) := fun W h => (bcell h _ _ (by omega)).trans c0
            clear x0 x1 c0
            go_region_held3 (fun W => Below (w.heap.size + 1 + 1) wr W) ((repeat' (first | with_reducible assumption | with_reducible exact Below.refl _ _ | with_reducible refine Below.drew ?_ | with_reducible refine below_drewN ?_ _ | with_reducible refine balloc ?_ _ | with_reducible refine bset ?_ ?_ _ | with_reducible refine Below.setCell ?_ ?_ _ | with_reducible refine Below.alloc ?_ ?_ _ | omega | (simp; done) | (simp; omega)))) (fail)
            all_goals
              go_wp2_with fail
              go_roundw
              case rel => exact ⟨k + 1, by omega, by go_num, ((U0.far (by simp; omega) _).far (by simp; omega) _).drew, ((U1.far (by simp; omega) _).far (by simp; omega) _).drew, by rw [putTo_set HSK.out]; exact ((UK.set_ k (s k)).far (by simp; omega) _).drew, by rw [putTo_set HSK.out]; exact ((UB.far (by simp; omega) _).set_ k body).drew, fun j hj => by
                rcases Nat.lt_succ_iff_lt_or_eq.1 hj with h' | rfl
                · exact HOK.out j h'
                · exact fun h => HNB.out h.2, by (repeat' (first | with_reducible assumption | with_reducible exact Below.refl _ _ | with_reducible refine Below.drew ?_ | with_reducible refine below_drewN ?_ _ | with_reducible refine balloc ?_ _ | with_reducible refine bset ?_ ?_ _ | with_reducible refine Below.setCell ?_ ?_ _ | with_reducible refine Below.alloc ?_ ?_ _ | omega | (simp; done) | (simp; omega)))⟩
              case measure => simp [intOf]; omega
          · have hbad : putBad s B body n = true := putBad_yes hlt HSK.out (by simpa using h1) (by simpa using h2)
            have e1 : putErr s B body n = 11 := by simp [putErr, hbad]
            have e2 : putLen s B body n = 0 := by simp [putLen, hbad]
            have HE := hid e1; have HL := hid e2; clear e1 e2 hbad
            go_wp2_with fail
            refine bodyPost_ret (v := .tuple #[.agg #[.slice none 0 0, .slice none 0 0], .int .i64 11]) (by simp [results, Try.results85, go_sem, u0, u1]) rfl ?_
            rw [HE.out, HL.out]
            exact wallPost_none (by (repeat' (first | with_reducible assumption | with_reducible exact Below.refl _ _ | with_reducible refine Below.drew ?_ | with_reducible refine below_drewN ?_ _ | with_reducible refine balloc ?_ _ | with_reducible refine bset ?_ ?_ _ | with_reducible refine Below.setCell ?_ ?_ _ | with_reducible refine Below.alloc ?_ ?_ _ | omega | (simp; done) | (simp; omega))))
      · have hs' : s k = 0 := by simpa using hs
        have HSK := hid hs'; clear hs'
        go_wp2_with fail
        go_roundw
        case rel => exact ⟨k + 1, by omega, by go_num, U0, U1, by rw [putTo_skip HSK.out]; exact UK, by rw [putTo_skip HSK.out]; exact UB, fun j hj => by
            rcases Nat.lt_succ_iff_lt_or_eq.1 hj with h' | rfl
            · exact HOK.out j h'
            · exact fun h => h.1 HSK.out, hB⟩
        case measure => simp [intOf]; omega
    · obtain rfl : k = n := (by omega)
      have hno := putBad_no HOK.out
      have e1 : putErr s B body k = 0 := by simp [putErr, hno]
      have e2 : putLen s B body k = k := by simp [putLen, hno]
      have HE := hid e1; have HL := hid e2; clear e1 e2 hno
      go_wp2_with fail
      refine bodyPost_ret (v := .tuple #[.agg #[.slice (some ⟨gk, 0, none⟩) k ck', .slice (some ⟨gb, 0, none⟩) k cb'], .int .i64 0]) (by simp [results, Try.results85, go_sem, u0, u1]) rfl ?_
      rw [HE.out, HL.out]
      have SK := (UK.far (p := ⟨w.heap.size + 1, 0, none⟩) (by simp; omega) (.slice (some ⟨gk, 0, none⟩) k ck')).far (p := ⟨w.heap.size + 1, 1, none⟩) (by simp; omega) (.slice (some ⟨gb, 0, none⟩) k cb')
      have SB := (UB.far (p := ⟨w.heap.size + 1, 0, none⟩) (by simp; omega) (.slice (some ⟨gk, 0, none⟩) k ck')).far (p := ⟨w.heap.size + 1, 1, none⟩) (by simp; omega) (.slice (some ⟨gb, 0, none⟩) k cb')
      exact ⟨_, _, _, _, rfl, SK.sl, SB.sl, by (repeat' (first | with_reducible assumption | with_reducible exact Below.refl _ _ | with_reducible refine Below.drew ?_ | with_reducible refine below_drewN ?_ _ | with_reducible refine balloc ?_ _ | with_reducible refine bset ?_ ?_ _ | with_reducible refine Below.setCell ?_ ?_ _ | with_reducible refine Below.alloc ?_ ?_ _ | omega | (simp; done) | (simp; omega)))⟩
end Go.Proofs.Ytnnaegnkkpknpaa
