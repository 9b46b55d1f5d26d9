/- Walks: wall.Removed. -/
import Derived.Test.YtnnaegnkkpknpaaMirW
import Derived.Test.YtnnaegnkkpknpaaWImp
namespace Go.Proofs.Ytnnaegnkkpknpaa
open Go Go.RowKit
attribute [local go_sem ↓] Go.wp_at_zero Go.wp_at_succ
set_option linter.unusedVariables false
def remE (v : Bool) (e : Int) : Int := if v then e else 1
def remL (v : Bool) (e : Int) (n : Nat) : Nat := if v && decide (e = 0) then n else 0
def remF (B : Nat → Int) (body : Int) (f : Nat → Int) : Nat → Int := fun j => if B j = body then 0 else f j
def remTo (B : Nat → Int) (body : Int) (f : Nat → Int) (k : Nat) : Nat → Int := fun j => if j < k ∧ B j = body then 0 else f j
theorem remTo_set {B : Nat → Int} {body : Int} {f : Nat → Int} {k : Nat} (h : B k = body) : upd (remTo B body f k) k 0 = remTo B body f (k + 1) := by
  funext j; unfold upd remTo
  by_cases e : j = k
  · subst e; rw [if_pos rfl, if_pos ⟨by omega, h⟩]
  · rw [if_neg e]
    simp only [show (j < k + 1) = (j < k) from propext ⟨by omega, by omega⟩]
theorem remTo_skip {B : Nat → Int} {body : Int} {f : Nat → Int} {k : Nat} (h : B k ≠ body) : remTo B body f (k + 1) = remTo B body f k := by
  funext j; unfold remTo
  by_cases e : j = k
  · subst e; rw [if_neg (fun h' => h h'.2), if_neg (fun h' => h h'.2)]
  · simp only [show (j < k + 1) = (j < k) from propext ⟨by omega, by omega⟩]
theorem remTo_zero (B : Nat → Int) (body : Int) (f : Nat → Int) : remTo B body f 0 = f := by funext j; simp [remTo]
theorem remTo_end {B : Nat → Int} {body : Int} {f : Nat → Int} {n j : Nat} (h : j < n) : remTo B body f n j = remF B body f j := by simp [remTo, remF, h]
set_option maxRecDepth 100000 in
set_option maxHeartbeats 8000000 in
theorem wall_Removed (wide high body : Int) (a ak ab : Option Addr) (n nk nb c ck cb : Nat) (g : Nat → C4) (K B : Nat → Int) (w : World) (hn : n ≤ 100000) (hnk : nk ≤ 100000) (hnb : nb ≤ 100000) (H : Sc w a n g) (HK : Sl w ak nk K) (HB : Sl w ab nb B) :
    Calls Try.prog 39 #[.agg #[.int .i64 wide, .int .i64 high, .slice a n c], .agg #[.slice ak nk ck, .slice ab nb cb], .int .i64 body] w
      (WallPost (remE (validW wide high n g nk nb K B) (bodE B body nb)) (remL (validW wide high n g nk nb K B) (bodE B body nb) n) (remF B body K) (remF B body B) w) := by
  have X0 := ((Bx.new w #[.int .i64 wide, .int .i64 high, .slice a n c] 24).alloc (.cells #[.slice ak nk ck, .slice ab nb cb] 27)).alloc (.cells #[.slice none 0 0, .slice none 0 0] 27)
  have X1 := (Bx.new (w.alloc (.cells #[.int .i64 wide, .int .i64 high, .slice a n c] 24)) #[.slice ak nk ck, .slice ab nb cb] 27).alloc (.cells #[.slice none 0 0, .slice none 0 0] 27)
  have X2 := Bx.new ((w.alloc (.cells #[.int .i64 wide, .int .i64 high, .slice a n c] 24)).alloc (.cells #[.slice ak nk ck, .slice ab nb cb] 27)) #[.slice none 0 0, .slice none 0 0] 27
  simp only [World.size_alloc] at X1 X2
  have hB0 : Below w.heap.size w (((w.alloc (.cells #[.int .i64 wide, .int .i64 high, .slice a n c] 24)).alloc (.cells #[.slice ak nk ck, .slice ab nb cb] 27)).alloc (.cells #[.slice none 0 0, .slice none 0 0] 27)) := by (repeat' (first | with_reducible assumption | with_reducible exact Below.refl _ _ | with_reducible refine Below.drew ?_ | with_reducible refine below_drewN ?_ _ | with_reducible refine balloc ?_ _ | with_reducible refine bset ?_ ?_ _ | with_reducible refine Below.setCell ?_ ?_ _ | with_reducible refine Below.alloc ?_ ?_ _ | omega | (simp; done) | (simp; omega)))
  go_enter Try.func39, Try.ntmps39
  go_wp2_with fail
  generalize (((w.alloc (.cells #[.int .i64 wide, .int .i64 high, .slice a n c] 24)).alloc (.cells #[.slice ak nk ck, .slice ab nb cb] 27)).alloc (.cells #[.slice none 0 0, .slice none 0 0] 27)) = W0 at X0 X1 X2 hB0 ⊢
  have z0 := X0.lt
  have z1 := X1.lt
  have z2 := X2.lt
  refine (wall_valid wide high a ak ab n nk nb c ck cb g K B _ (by omega) (by omega) (by omega) (H.below hB0) (HK.below hB0) (HB.below hB0)).mono ?_
  rintro e w1 ⟨rfl, hb1⟩
  have Y0 := X0.below hb1; have Y1 := X1.below hb1; have Y2 := X2.below hb1
  have hB1 : Below w.heap.size w w1 := bvia hB0 hb1
  clear X0 X1 X2 z0 z1 z2 hB0 hb1
  have y20 := Y2.at_ 0 rfl; have y21 := Y2.at_ 1 rfl; have y2f := Y2.free; have l2 := Y2.lt
  generalize hbe : bodE B body nb = be
  have HBE := hid hbe; clear hbe
  cases hv : validW wide high n g nk nb K B
  · go_wp2_with fail
    refine bodyPost_ret (v := .tuple #[.agg #[.slice none 0 0, .slice none 0 0], .int .i64 1]) (by simp [results, Try.results39, go_sem, y20, y21]) rfl ?_
    rw [hv]
    exact wallPost_none (err := 1) (by (repeat' (first | with_reducible assumption | with_reducible exact Below.refl _ _ | with_reducible refine Below.drew ?_ | with_reducible refine below_drewN ?_ _ | with_reducible refine balloc ?_ _ | with_reducible refine bset ?_ ?_ _ | with_reducible refine Below.setCell ?_ ?_ _ | with_reducible refine Below.alloc ?_ ?_ _ | omega | (simp; done) | (simp; omega))))
  · obtain ⟨hG, rfl, rfl, hall⟩ := (validW_iff ..).1 hv
    obtain ⟨v1, v2, v3, v4, v5, v6, _, _⟩ := (validG_iff ..).1 hG
    have h0 : 0 < nb := by
      have : 1 * 1 ≤ wide * high := Int.mul_le_mul v1 v3 (by omega) (by omega)
      omega
    have HV := hid hv
    clear hv hG v5 v6 hall y20 y21 y2f
    have y10 := Y1.at_ 0 rfl; have y11 := Y1.at_ 1 rfl; have l1 := Y1.lt
    go_wp2_with fail
    refine (wall_bodied ak ab nb nb ck cb B body _ (by omega) (HB.below hB1)).mono ?_
    rintro e w1' ⟨rfl, hb1⟩
    rw [HBE.out]
    have hB1' : Below w.heap.size w w1' := bvia hB1 hb1
    have Z0 := Y0.below hb1; have Z1 := Y1.below hb1; have Z2 := Y2.below hb1
    have y20 := Z2.at_ 0 rfl; have y21 := Z2.at_ 1 rfl; have y2f := Z2.free; have l2' := Z2.lt; have l1' := Z1.lt
    have y10' := Z1.at_ 0 rfl; have y11' := Z1.at_ 1 rfl
    clear y10 y11 Y0 Y1 Y2 hb1
    cases hbz : (be != 0)
    · obtain rfl : be = 0 := by simpa using hbz
      clear hbz y20 y21 y2f
      go_wp2_with fail
      refine (wall_clone ak ab nb ck cb K B _ hn h0 (HK.below hB1') (HB.below hB1')).mono ?_
      rintro e w2 ⟨gk, ck', gb, cb', rfl, hgk, hgb, hne, RK, RB, hb2⟩
      have U0 := (Z1.below hb2).alloc (.cells #[.slice (some ⟨gk, 0, none⟩) nb ck', .slice (some ⟨gb, 0, none⟩) nb cb'] 27)
      have U2 := (Z2.below hb2).alloc (.cells #[.slice (some ⟨gk, 0, none⟩) nb ck', .slice (some ⟨gb, 0, none⟩) nb cb'] 27)
      have UC := Bx.new w2 #[.slice (some ⟨gk, 0, none⟩) nb ck', .slice (some ⟨gb, 0, none⟩) nb cb'] 27
      have VK := RK.alloc (.cells #[.slice (some ⟨gk, 0, none⟩) nb ck', .slice (some ⟨gb, 0, none⟩) nb cb'] 27)
      have VB := RB.alloc (.cells #[.slice (some ⟨gk, 0, none⟩) nb ck', .slice (some ⟨gb, 0, none⟩) nb cb'] 27)
      have hB2 := balloc (bvia hB1' hb2) (.cells #[.slice (some ⟨gk, 0, none⟩) nb ck', .slice (some ⟨gb, 0, none⟩) nb cb'] 27)
      have lk := RK.lt; have lb := RB.lt; have hs12 := hb2.size
      have hl2 : w.heap.size + 1 + 1 < w1'.heap.size := l2'
      clear Z0 Z1 Z2 RK RB hb2 y10' y11'
      have xu11 := U0.at_ 1 rfl
      go_wp2_with fail
      go_loopw [29] (fun i wr => ∃ k : Nat, k ≤ nb ∧ i = .int .i64 k ∧ Bx wr (w.heap.size + 1 + 1) #[.slice none 0 0, .slice none 0 0] ∧ Bx wr w2.heap.size #[.slice (some ⟨gk, 0, none⟩) nb ck', .slice (some ⟨gb, 0, none⟩) nb cb'] ∧ Ro wr gk nb (remTo B body K k) ∧ Ro wr gb nb (remTo B body B k) ∧ Below w.heap.size w wr) (fun i _ => nb - (intOf i).toNat)
      case atStart => exact ⟨0, Nat.zero_le _, rfl, U2, UC, by rw [remTo_zero]; exact VK, by rw [remTo_zero]; exact VB, hB2⟩
      case round =>
        clear U0 U2 UC VK VB hB2 xu11 l1 l2 l1' l2'
        obtain ⟨k, hk, rfl, U2, UC, UK, UB, hB⟩ := hrel
        have l2 := U2.lt; have lc := UC.lt
        by_cases hlt : k < nb
        · obtain ⟨bb, ob, rfl, hbb, d0⟩ := (HB.below hB) k hlt
          have fk := UK.free; have fb := UB.free
          have jk := UK.cells k hlt; have jb := UB.cells k hlt
          cases hx : (B k == body)
          · have hne' : B k ≠ body := by simpa using hx
            have HN := hid hne'; clear hne'
            go_wp2_with fail
            go_roundw
            case rel => exact ⟨k + 1, by omega, by go_num, U2, UC, by rw [remTo_skip HN.out]; exact UK, by rw [remTo_skip HN.out]; exact UB, hB⟩
            case measure => simp [intOf]; omega
          · have he' : B k = body := by simpa using hx
            have HN := hid he'; clear he'
            go_upto_region 11 with (fail)
            have hgw : w2.heap.size ≠ gk ∧ w2.heap.size ≠ gb ∧ w.heap.size + 1 + 1 ≠ gk ∧ w.heap.size + 1 + 1 ≠ gb := ⟨by omega, by omega, by omega, by omega⟩
            obtain ⟨n1, n2, n9, n10⟩ := hgw
            have r0 : ∀ W, But (fun b => b = gk ∨ b = gb) wr W → W.cell? ⟨w2.heap.size, 0, none⟩ = some (.slice (some ⟨gk, 0, none⟩) nb ck') := fun W h => (UC.but h (fun e => e.elim n1 n2)).at_ 0 rfl
            have r1 : ∀ W, But (fun b => b = gk ∨ b = gb) wr W → W.cell? ⟨w2.heap.size, 1, none⟩ = some (.slice (some ⟨gb, 0, none⟩) nb cb') := fun W h => (UC.but h (fun e => e.elim n1 n2)).at_ 1 rfl
            clear d0
            go_region_held3 (fun W => But (fun b => b = gk ∨ b = gb) wr W) ((repeat' (first | with_reducible assumption | with_reducible exact But.refl _ _ | with_reducible refine But.drew ?_ | with_reducible refine But.drewN ?_ _ | refine But.set_ ?_ (Or.inl rfl) _ | refine But.set_ ?_ (Or.inr rfl) _))) (fail)
            all_goals
              go_wp2_with fail
              go_roundw
              case rel =>
                first
                  | exact ⟨k + 1, by omega, by go_num, ((U2.drewN _).far (Ne.symm n9) _).far (Ne.symm n10) _, ((UC.drewN _).far (Ne.symm n1) _).far (Ne.symm n2) _, by rw [← remTo_set HN.out]; exact (((UK.drewN _).set_ k 0).far (Ne.symm hne) _), by rw [← remTo_set HN.out]; exact (((UB.drewN _).far hne _).set_ k 0), by (repeat' (first | with_reducible assumption | with_reducible exact Below.refl _ _ | with_reducible refine Below.drew ?_ | with_reducible refine below_drewN ?_ _ | with_reducible refine balloc ?_ _ | with_reducible refine bset ?_ ?_ _ | with_reducible refine Below.setCell ?_ ?_ _ | with_reducible refine Below.alloc ?_ ?_ _ | omega | (simp; done) | (simp; omega)))⟩
                  | exact ⟨k + 1, by omega, by go_num, ((U2.far (Ne.symm n9) _).far (Ne.symm n10) _).drew, ((UC.far (Ne.symm n1) _).far (Ne.symm n2) _).drew, by rw [← remTo_set HN.out]; exact ((UK.set_ k 0).far (Ne.symm hne) _).drew, by rw [← remTo_set HN.out]; exact ((UB.far hne _).set_ k 0).drew, by (repeat' (first | with_reducible assumption | with_reducible exact Below.refl _ _ | with_reducible refine Below.drew ?_ | with_reducible refine below_drewN ?_ _ | with_reducible refine balloc ?_ _ | with_reducible refine bset ?_ ?_ _ | with_reducible refine Below.setCell ?_ ?_ _ | with_reducible refine Below.alloc ?_ ?_ _ | omega | (simp; done) | (simp; omega)))⟩
              case measure => simp [intOf]; omega
        · obtain rfl : k = nb := (by omega)
          have uc0 := UC.at_ 0 rfl; have uc1 := UC.at_ 1 rfl; have u20 := U2.at_ 0 rfl; have u21 := U2.at_ 1 rfl; have u2f := U2.free
          go_wp2_with fail
          refine bodyPost_ret (v := .tuple #[.agg #[.slice (some ⟨gk, 0, none⟩) k ck', .slice (some ⟨gb, 0, none⟩) k cb'], .int .i64 0]) (by simp [results, Try.results39, go_sem, u20, u21]) rfl ?_
          have SK := ((UK.congr (fun j hj => remTo_end hj)).far (p := ⟨w.heap.size + 1 + 1, 0, none⟩) (by simp; omega) (.slice (some ⟨gk, 0, none⟩) k ck')).far (p := ⟨w.heap.size + 1 + 1, 1, none⟩) (by simp; omega) (.slice (some ⟨gb, 0, none⟩) k cb')
          have SB := ((UB.congr (fun j hj => remTo_end hj)).far (p := ⟨w.heap.size + 1 + 1, 0, none⟩) (by simp; omega) (.slice (some ⟨gk, 0, none⟩) k ck')).far (p := ⟨w.heap.size + 1 + 1, 1, none⟩) (by simp; omega) (.slice (some ⟨gb, 0, none⟩) k cb')
          rw [HV.out, HBE.out]
          exact ⟨_, _, _, _, rfl, SK.sl, SB.sl, by (repeat' (first | with_reducible assumption | with_reducible exact Below.refl _ _ | with_reducible refine Below.drew ?_ | with_reducible refine below_drewN ?_ _ | with_reducible refine balloc ?_ _ | with_reducible refine bset ?_ ?_ _ | with_reducible refine Below.setCell ?_ ?_ _ | with_reducible refine Below.alloc ?_ ?_ _ | omega | (simp; done) | (simp; omega)))⟩
    · go_wp2_with fail
      refine bodyPost_ret (v := .tuple #[.agg #[.slice none 0 0, .slice none 0 0], .int .i64 be]) (by simp [results, Try.results39, go_sem, y20, y21]) rfl ?_
      rw [HV.out, HBE.out]
      have hz : be ≠ 0 := by simpa using hbz
      have hL : remL true be nb = 0 := by simp [remL, hz]
      rw [hL]
      exact wallPost_none (err := be) (by (repeat' (first | with_reducible assumption | with_reducible exact Below.refl _ _ | with_reducible refine Below.drew ?_ | with_reducible refine below_drewN ?_ _ | with_reducible refine balloc ?_ _ | with_reducible refine bset ?_ ?_ _ | with_reducible refine Below.setCell ?_ ?_ _ | with_reducible refine Below.alloc ?_ ?_ _ | omega | (simp; done) | (simp; omega))))
end Go.Proofs.Ytnnaegnkkpknpaa
