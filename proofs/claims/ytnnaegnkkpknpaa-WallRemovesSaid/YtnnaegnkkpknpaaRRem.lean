/- Walks: the reference's Removed. -/
import Derived.Test.YtnnaegnkkpknpaaWRem
import Derived.Test.YtnnaegnkkpknpaaRImp
namespace Go.Proofs.Ytnnaegnkkpknpaa
open Go Go.RowKit
attribute [local go_sem ↓] Go.wp_at_zero Go.wp_at_succ
set_option linter.unusedVariables false
/-- without the first k places of a list -/
def remU (L : List Int) (f : Nat → Int) (k : Nat) : Nat → Int := fun j => if (j : Int) ∈ L.take k then 0 else f j
theorem remU_zero (L : List Int) (f : Nat → Int) : remU L f 0 = f := by funext j; simp [remU]
theorem remU_set {L : List Int} {f : Nat → Int} {k m : Nat} (hk : k < L.length) (hm : L.getD k 0 = (m : Int)) : upd (remU L f k) m 0 = remU L f (k + 1) := by
  have hg : L[k] = (m : Int) := by rw [← hm, List.getD_eq_getElem?_getD, List.getElem?_eq_getElem hk]; rfl
  have ht : L.take (k + 1) = L.take k ++ [(m : Int)] := by rw [List.take_succ_eq_append_getElem hk, hg]
  funext j; unfold upd remU
  rw [ht]
  by_cases e : j = m
  · subst e; simp
  · have : ¬ (j : Int) = (m : Int) := by omega
    simp [e, this]
theorem mem_ownL (B : Nat → Int) (body : Int) (j : Nat) : ∀ n, (j : Int) ∈ ownL B body n ↔ j < n ∧ B j = body
  | 0 => by simp [ownL]
  | n + 1 => by
    have ih := mem_ownL B body j n
    simp only [ownL]
    split
    · rename_i h
      rw [List.mem_append, ih, List.mem_singleton]
      constructor
      · rintro (⟨h1, h2⟩ | h1)
        · exact ⟨by omega, h2⟩
        · obtain rfl : j = n := by omega
          exact ⟨by omega, h⟩
      · rintro ⟨h1, h2⟩
        by_cases e : j = n
        · exact .inr (by omega)
        · exact .inl ⟨by omega, h2⟩
    · rename_i h
      rw [ih]
      constructor
      · rintro ⟨h1, h2⟩; exact ⟨by omega, h2⟩
      · rintro ⟨h1, h2⟩
        by_cases e : j = n
        · subst e; exact absurd h2 h
        · exact ⟨by omega, h2⟩
theorem remU_end {B f : Nat → Int} {body : Int} {n j : Nat} (hj : j < n) : remU (ownL B body n) f (ownL B body n).length j = remF B body f j := by
  unfold remU remF
  rw [List.take_length]
  by_cases h : B j = body
  · rw [if_pos ((mem_ownL B body j n).2 ⟨hj, h⟩), if_pos h]
  · rw [if_neg (fun h' => h ((mem_ownL B body j n).1 h').2), if_neg h]
set_option maxRecDepth 100000 in
set_option maxHeartbeats 8000000 in
theorem ref3_Removed (wide high body : Int) (a ak ab : Option Addr) (n nk nb c ck cb : Nat) (g : Nat → C4) (K B : Nat → Int) (w : World) (hn : n ≤ 100000) (hnk : nk ≤ 100000) (hnb : nb ≤ 100000) (H : Sc w a n g) (HK : Sl w ak nk K) (HB : Sl w ab nb B) :
    Calls Try.prog 40 #[.agg #[.int .i64 wide, .int .i64 high, .slice a n c], .agg #[.slice ak nk ck, .slice ab nb cb], .int .i64 body] w
      (WallPost (remE (validW wide high n g nk nb K B) (bodE B body nb)) (remL (validW wide high n g nk nb K B) (bodE B body nb) n) (remF B body K) (remF B body B) w) := by
  have X0 := ((Bx.new w #[.int .i64 wide, .int .i64 high, .slice a n c] 24).alloc (.cells #[.slice ak nk ck, .slice ab nb cb] 27)).alloc (.cells #[.slice none 0 0, .slice none 0 0] 27)
  have X1 := (Bx.new (w.alloc (.cells #[.int .i64 wide, .int .i64 high, .slice a n c] 24)) #[.slice ak nk ck, .slice ab nb cb] 27).alloc (.cells #[.slice none 0 0, .slice none 0 0] 27)
  have X2 := Bx.new ((w.alloc (.cells #[.int .i64 wide, .int .i64 high, .slice a n c] 24)).alloc (.cells #[.slice ak nk ck, .slice ab nb cb] 27)) #[.slice none 0 0, .slice none 0 0] 27
  simp only [World.size_alloc] at X1 X2
  have hB0 : Below w.heap.size w (((w.alloc (.cells #[.int .i64 wide, .int .i64 high, .slice a n c] 24)).alloc (.cells #[.slice ak nk ck, .slice ab nb cb] 27)).alloc (.cells #[.slice none 0 0, .slice none 0 0] 27)) := by (repeat' (first | with_reducible assumption | with_reducible exact Below.refl _ _ | with_reducible refine Below.drew ?_ | with_reducible refine below_drewN ?_ _ | with_reducible refine balloc ?_ _ | with_reducible refine bset ?_ ?_ _ | with_reducible refine Below.setCell ?_ ?_ _ | with_reducible refine Below.alloc ?_ ?_ _ | omega | (simp; done) | (simp; omega)))
  go_enter Try.func40, Try.ntmps40
  go_wp2_with fail
  generalize (((w.alloc (.cells #[.int .i64 wide, .int .i64 high, .slice a n c] 24)).alloc (.cells #[.slice ak nk ck, .slice ab nb cb] 27)).alloc (.cells #[.slice none 0 0, .slice none 0 0] 27)) = W0 at X0 X1 X2 hB0 ⊢
  have z0 := X0.lt
  have z1 := X1.lt
  have z2 := X2.lt
  refine (ref3_valid wide high a ak ab n nk nb c ck cb g K B _ (by omega) (by omega) (by omega) (H.below hB0) (HK.below hB0) (HB.below hB0)).mono ?_
  rintro e w1 ⟨rfl, hb1⟩
  have Y1 := X1.below hb1; have Y2 := X2.below hb1
  have hB1 : Below w.heap.size w w1 := bvia hB0 hb1
  clear X0 X1 X2 z0 z1 z2 hB0 hb1
  have y20 := Y2.at_ 0 rfl; have y21 := Y2.at_ 1 rfl; have y2f := Y2.free; have l2 := Y2.lt
  cases hv : validW wide high n g nk nb K B
  · go_wp2_with fail
    refine bodyPost_ret (v := .tuple #[.agg #[.slice none 0 0, .slice none 0 0], .int .i64 1]) (by simp [results, Try.results40, go_sem, y20, y21]) rfl ?_
    rw [hv]
    exact wallPost_none (err := 1) (by (repeat' (first | with_reducible assumption | with_reducible exact Below.refl _ _ | with_reducible refine Below.drew ?_ | with_reducible refine below_drewN ?_ _ | with_reducible refine balloc ?_ _ | with_reducible refine bset ?_ ?_ _ | with_reducible refine Below.setCell ?_ ?_ _ | with_reducible refine Below.alloc ?_ ?_ _ | omega | (simp; done) | (simp; omega))))
  · obtain ⟨hG, rfl, rfl, -⟩ := (validW_iff ..).1 hv
    obtain ⟨v1, v2, v3, v4, -, v6, -, -⟩ := (validG_iff ..).1 hG
    have h0 : 0 < nb := by
      have : 1 * 1 ≤ wide * high := Int.mul_le_mul v1 v3 (by omega) (by omega)
      omega
    have HV := hid hv
    clear hv hG v6
    have y10 := Y1.at_ 0 rfl; have y11 := Y1.at_ 1 rfl; have l1 := Y1.lt
    go_wp2_with fail
    refine (ref3_isBody body _).mono ?_
    rintro e w' ⟨rfl, rfl⟩
    cases hin : within body 1 9
    · have hE : bodE B body nb = 7 := by simp [bodE, hin]
      have HE := hid hE; clear hE
      go_wp2_with fail
      refine bodyPost_ret (v := .tuple #[.agg #[.slice none 0 0, .slice none 0 0], .int .i64 7]) (by simp [results, Try.results40, go_sem, y20, y21]) rfl ?_
      rw [HV.out, HE.out]
      exact wallPost_none (err := 7) (by (repeat' (first | with_reducible assumption | with_reducible exact Below.refl _ _ | with_reducible refine Below.drew ?_ | with_reducible refine below_drewN ?_ _ | with_reducible refine balloc ?_ _ | with_reducible refine bset ?_ ?_ _ | with_reducible refine Below.setCell ?_ ?_ _ | with_reducible refine Below.alloc ?_ ?_ _ | omega | (simp; done) | (simp; omega))))
    · go_wp2_with fail
      refine (ref3_own ak ab nb nb ck cb B body _ (by omega) (HB.below hB1)).mono ?_
      rintro e w2 ⟨v, rfl, ho, hb2⟩
      obtain ⟨al, cl, rfl, SL⟩ := sl_of_own ho
      have hll := ownL_length B body nb
      have hat := ownL_at B body nb
      have Z1 := Y1.below hb2; have Z2 := Y2.below hb2
      have hB2 : Below w.heap.size w w2 := bvia hB1 hb2
      clear ho y10 y11 y20 y21 y2f
      have y20 := Z2.at_ 0 rfl; have y21 := Z2.at_ 1 rfl; have y2f := Z2.free; have l2' := Z2.lt; have l1' := Z1.lt
      have y10 := Z1.at_ 0 rfl; have y11 := Z1.at_ 1 rfl
      clear Y1 Y2 hb2
      by_cases hz : (ownL B body nb).length = 0
      · have hE : bodE B body nb = 8 := by simp [bodE, hin, hasL_own, hz]
        have HE := hid hE; clear hE
        go_wp2_with fail
        refine bodyPost_ret (v := .tuple #[.agg #[.slice none 0 0, .slice none 0 0], .int .i64 8]) (by simp [results, Try.results40, go_sem, y20, y21]) rfl ?_
        rw [HV.out, HE.out]
        exact wallPost_none (err := 8) (by (repeat' (first | with_reducible assumption | with_reducible exact Below.refl _ _ | with_reducible refine Below.drew ?_ | with_reducible refine below_drewN ?_ _ | with_reducible refine balloc ?_ _ | with_reducible refine bset ?_ ?_ _ | with_reducible refine Below.setCell ?_ ?_ _ | with_reducible refine Below.alloc ?_ ?_ _ | omega | (simp; done) | (simp; omega))))
      · have hh : hasL B body nb = true := by rw [hasL_own]; exact decide_eq_true (by omega)
        have hE : bodE B body nb = 0 := by simp [bodE, hin, hh]
        have HE := hid hE; clear hE
        go_wp2_with fail
        refine (ref3_Copy ak ab nb ck cb K B _ hn h0 (HK.below hB2) (HB.below hB2)).mono ?_
        rintro e w3 ⟨gk, ck', gb, cb', rfl, hgk, hgb, hne, RK, RB, hb3⟩
        have V1 := Z1.below hb3; have V2 := Z2.below hb3; have SL3 := SL.below hb3
        have hB3 := bvia hB2 hb3
        have hs23 := hb3.size; have lk := RK.lt; have lb := RB.lt
        clear y10 y11 y20 y21 y2f Z1 Z2 hh
        have y10 := V1.at_ 0 rfl; have y11 := V1.at_ 1 rfl; have y1f := V1.free; have l1 := V1.lt
        have U1 := V1.two (y0 := .slice (some ⟨gk, 0, none⟩) nb ck') (y1 := .slice (some ⟨gb, 0, none⟩) nb cb')
        have U2 := (V2.far (p := ⟨w.heap.size + 1, 0, none⟩) (by simp) (.slice (some ⟨gk, 0, none⟩) nb ck')).far (p := ⟨w.heap.size + 1, 1, none⟩) (by simp) (.slice (some ⟨gb, 0, none⟩) nb cb')
        have UK := (RK.far (p := ⟨w.heap.size + 1, 0, none⟩) (by simp; omega) (.slice (some ⟨gk, 0, none⟩) nb ck')).far (p := ⟨w.heap.size + 1, 1, none⟩) (by simp; omega) (.slice (some ⟨gb, 0, none⟩) nb cb')
        have UB := (RB.far (p := ⟨w.heap.size + 1, 0, none⟩) (by simp; omega) (.slice (some ⟨gk, 0, none⟩) nb ck')).far (p := ⟨w.heap.size + 1, 1, none⟩) (by simp; omega) (.slice (some ⟨gb, 0, none⟩) nb cb')
        have UL := SL3.set2 V1 (.slice (some ⟨gk, 0, none⟩) nb ck') (.slice (some ⟨gb, 0, none⟩) nb cb')
        have hB4 : Below w.heap.size w ((w3.setCell ⟨w.heap.size + 1, 0, none⟩ (.slice (some ⟨gk, 0, none⟩) nb ck')).setCell ⟨w.heap.size + 1, 1, none⟩ (.slice (some ⟨gb, 0, none⟩) nb cb')) := by (repeat' (first | with_reducible assumption | with_reducible exact Below.refl _ _ | with_reducible refine Below.drew ?_ | with_reducible refine below_drewN ?_ _ | with_reducible refine balloc ?_ _ | with_reducible refine bset ?_ ?_ _ | with_reducible refine Below.setCell ?_ ?_ _ | with_reducible refine Below.alloc ?_ ?_ _ | omega | (simp; done) | (simp; omega)))
        have xg1 : w2.heap.size ≤ gk := hgk
        have xg2 : w2.heap.size ≤ gb := hgb
        have HL := hid hat
        clear hat
        go_upto_region 9 with (fail)
        generalize (w3.setCell ⟨w.heap.size + 1, 0, none⟩ (.slice (some ⟨gk, 0, none⟩) nb ck')).setCell ⟨w.heap.size + 1, 1, none⟩ (.slice (some ⟨gb, 0, none⟩) nb cb') = w4 at U1 U2 UK UB UL hB4 ⊢
        clear y10 y11 y1f V1 V2 RK RB SL3 hb3
        have hgw : w.heap.size + 1 ≠ gk ∧ w.heap.size + 1 ≠ gb ∧ w.heap.size + 1 + 1 ≠ gk ∧ w.heap.size + 1 + 1 ≠ gb := ⟨by omega, by omega, by omega, by omega⟩
        obtain ⟨n3, n4, n9, n10⟩ := hgw
        go_wp2_with fail
        generalize hLL : ownL B body nb = L at SL UL HL hll hz ⊢
        go_loopw [9] (fun i wr => ∃ k : Nat, k ≤ L.length ∧ i = .int .i64 k ∧ But (fun b => b = gk ∨ b = gb) w4 wr ∧ Ro wr gk nb (remU L K k) ∧ Ro wr gb nb (remU L B k) ∧ Below w.heap.size w wr) (fun i _ => L.length - (intOf i).toNat)
        case atStart => exact ⟨0, Nat.zero_le _, rfl, But.refl _ _, by rw [remU_zero]; exact UK, by rw [remU_zero]; exact UB, hB4⟩
        case round =>
          clear UK UB hB4
          obtain ⟨k, hk, rfl, hbut, UK, UB, hB⟩ := hrel
          have T1 := U1.but hbut (fun e => e.elim n3 n4); have T2 := U2.but hbut (fun e => e.elim n9 n10)
          have l1' := T1.lt; have l2' := T2.lt
          by_cases hlt : k < L.length
          · obtain ⟨bl, ol, rfl, hbl, c0⟩ := UL k hlt
            have hbl' : bl < w2.heap.size := by
              obtain ⟨b', o', e, h, _⟩ := SL k hlt
              injection e with e; injection e with e1 _ _; omega
            obtain ⟨m, hm, hLm⟩ := HL.out k hlt
            have c1 : w4.cell? ⟨bl, ol + k, none⟩ = some (.int .i64 (L.getD k 0)) := c0
            rw [hLm] at c1
            have HLM := hid hLm; clear hLm
            have m1 : bl ≠ gk := by omega
            have m2 : bl ≠ gb := by omega
            have hblw : bl < wr.heap.size := by have := hbut.size; omega
            have r0 : ∀ W, But (fun b => b = gk ∨ b = gb) wr W → W.cell? ⟨w.heap.size + 1, 0, none⟩ = some (.slice (some ⟨gk, 0, none⟩) nb ck') := fun W h => (T1.but h (fun e => e.elim n3 n4)).at_ 0 rfl
            have r1 : ∀ W, But (fun b => b = gk ∨ b = gb) wr W → W.cell? ⟨w.heap.size + 1, 1, none⟩ = some (.slice (some ⟨gb, 0, none⟩) nb cb') := fun W h => (T1.but h (fun e => e.elim n3 n4)).at_ 1 rfl
            have r2 : ∀ W, But (fun b => b = gk ∨ b = gb) wr W → W.cell? ⟨bl, ol + k, none⟩ = some (.int .i64 m) := fun W h => (World.cell?_of_block (h.block bl hblw (fun e => e.elim m1 m2))).trans ((World.cell?_of_block (hbut.block bl hbl (fun e => e.elim m1 m2))).trans c1)
            have fk := UK.free; have fb := UB.free
            have jk := UK.cells m hm; have jb := UB.cells m hm
            clear c0 c1
            go_upto_region 12 with (fail)
            go_region_held3 (fun W => But (fun b => b = gk ∨ b = gb) wr W) ((repeat' (first | with_reducible assumption | with_reducible exact But.refl _ _ | with_reducible refine But.drew ?_ | with_reducible refine But.drewN ?_ _ | refine But.set_ ?_ (Or.inl rfl) _ | refine But.set_ ?_ (Or.inr rfl) _))) (fail)
            all_goals
              go_wp2_with fail
              go_roundw
              case rel =>
                refine ⟨k + 1, by omega, by go_num, hbut.trans ?_, ?_, ?_, by (repeat' (first | with_reducible assumption | with_reducible exact Below.refl _ _ | with_reducible refine Below.drew ?_ | with_reducible refine below_drewN ?_ _ | with_reducible refine balloc ?_ _ | with_reducible refine bset ?_ ?_ _ | with_reducible refine Below.setCell ?_ ?_ _ | with_reducible refine Below.alloc ?_ ?_ _ | omega | (simp; done) | (simp; omega)))⟩
                · (repeat' (first | with_reducible assumption | with_reducible exact But.refl _ _ | with_reducible refine But.drew ?_ | with_reducible refine But.drewN ?_ _ | refine But.set_ ?_ (Or.inl rfl) _ | refine But.set_ ?_ (Or.inr rfl) _))
                · rw [← remU_set hlt HLM.out]
                  first
                    | exact (((UK.drewN _).set_ m 0).far (Ne.symm hne) _)
                    | exact ((UK.set_ m 0).far (Ne.symm hne) _).drew
                · rw [← remU_set hlt HLM.out]
                  first
                    | exact (((UB.drewN _).far hne _).set_ m 0)
                    | exact ((UB.far hne _).set_ m 0).drew
              case measure => simp [intOf]; omega
          · have hkl : k = L.length := by omega
            have uc0 := T1.at_ 0 rfl; have uc1 := T1.at_ 1 rfl; have u20 := T2.at_ 0 rfl; have u21 := T2.at_ 1 rfl; have u2f := T2.free
            have hfin : ∀ f : Nat → Int, ∀ j, j < nb → remU L f k j = remF B body f j := fun f j hj => by rw [hkl, ← hLL]; exact remU_end hj
            have HF := hid hfin; clear hfin
            go_wp2_with fail
            refine bodyPost_ret (v := .tuple #[.agg #[.slice (some ⟨gk, 0, none⟩) nb ck', .slice (some ⟨gb, 0, none⟩) nb cb'], .int .i64 0]) (by simp [results, Try.results40, go_sem, u20, u21]) rfl ?_
            have SK := ((UK.congr (HF.out K)).far (p := ⟨w.heap.size + 1 + 1, 0, none⟩) (by simp; omega) (.slice (some ⟨gk, 0, none⟩) nb ck')).far (p := ⟨w.heap.size + 1 + 1, 1, none⟩) (by simp; omega) (.slice (some ⟨gb, 0, none⟩) nb cb')
            have SB := ((UB.congr (HF.out B)).far (p := ⟨w.heap.size + 1 + 1, 0, none⟩) (by simp; omega) (.slice (some ⟨gk, 0, none⟩) nb ck')).far (p := ⟨w.heap.size + 1 + 1, 1, none⟩) (by simp; omega) (.slice (some ⟨gb, 0, none⟩) nb cb')
            rw [HV.out, HE.out]
            exact ⟨_, _, _, _, rfl, SK.sl, SB.sl, by (repeat' (first | with_reducible assumption | with_reducible exact Below.refl _ _ | with_reducible refine Below.drew ?_ | with_reducible refine below_drewN ?_ _ | with_reducible refine balloc ?_ _ | with_reducible refine bset ?_ ?_ _ | with_reducible refine Below.setCell ?_ ?_ _ | with_reducible refine Below.alloc ?_ ?_ _ | omega | (simp; done) | (simp; omega)))⟩
end Go.Proofs.Ytnnaegnkkpknpaa
