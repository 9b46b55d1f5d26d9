/- Walks: wall.Closed. -/
import Derived.Test.YthlbmlfkmfheiaaMeet
import Derived.Test.YthlbmlfkmfheiaaWPut
namespace Go.Proofs.Ythlbmlfkmfheiaa
open Go Go.RowKit Go.Maps
attribute [local go_sem ↓] Go.wp_at_zero Go.wp_at_succ
set_option linter.unusedVariables false
def ind (S : Nat → Bool) : Nat → Int := fun j => if S j then 1 else 0
theorem ind_yes {S : Nat → Bool} {k : Nat} (h : S k = true) : ind S k = 1 := by simp [ind, h]
theorem ind_no {S : Nat → Bool} {k : Nat} (h : S k = false) : ¬ ind S k = 1 := by simp [ind, h]
def clE (v : Bool) (wide high : Int) (p : Int × Int) (K : Nat → Int) : Int := if v then (if onB wide high p.1 p.2 then (if K (p.1 + wide * p.2).toNat = 0 then 0 else 11) else 7) else 1
def ClPost (er : Int) (R : Nat → Prop) (n : Nat) (w : World) (e : Ending) (w' : World) : Prop :=
  (er ≠ 0 → ListPost [] er w e w') ∧ (er = 0 → ∃ S : Nat → Bool, (∀ j, S j = true ↔ R j) ∧ ListPost (ownL (ind S) 1 n) 0 w e w')
theorem clPost_err {er : Int} {R : Nat → Prop} {n : Nat} {w w' : World} (h : er ≠ 0) (hb : Below w.heap.size w w') : ClPost er R n w (.returned (.tuple #[.slice none 0 0, .int .i64 er])) w' :=
  ⟨fun _ => listPost_nil hb, fun h' => absurd h' h⟩
theorem on_ints {wide high x y : Int} (h : onB wide high x y = true) : 0 ≤ x ∧ x ≤ wide - 1 ∧ 0 ≤ y ∧ y ≤ high - 1 := by
  simp only [onB, Bool.and_eq_true, within_iff] at h
  omega
theorem plc_on {Wd Hd : Nat} {x y : Int} (h1 : 1 ≤ Wd ∧ Wd ≤ 64) (h2 : 1 ≤ Hd ∧ Hd ≤ 64) (h : onB Wd Hd x y = true) :
    ∃ i : Nat, x + (Wd : Int) * y = (i : Int) ∧ i < Wd * Hd ∧ Plc Wd Hd x y i := by
  obtain ⟨a, b, c, d⟩ := on_ints h
  have m0 : 0 ≤ (Wd : Int) * y := Int.mul_nonneg (by omega) c
  have m1 : (Wd : Int) * y ≤ (Wd : Int) * ((Hd : Int) - 1) := Int.mul_le_mul_of_nonneg_left d (by omega)
  rw [Int.mul_sub, Int.mul_one] at m1
  have hc : ((Wd * Hd : Nat) : Int) = (Wd : Int) * (Hd : Int) := by simp
  refine ⟨(x + (Wd : Int) * y).toNat, by omega, by omega, ⟨by omega, by omega, by omega, by omega, ?_⟩⟩
  rw [Int.add_emod_right, Int.add_emod_right, Int.emod_eq_of_lt a (by omega), Int.emod_eq_of_lt c (by omega)]
  omega
set_option maxRecDepth 100000 in
set_option maxHeartbeats 8000000 in
theorem wall_Closed (wide high : Int) (p : Int × Int) (a ak ab : Option Addr) (n nk nb c ck cb : Nat) (g : Nat → C4) (K B : Nat → Int) (w : World) (hn : n ≤ 100000) (hnk : nk ≤ 100000) (hnb : nb ≤ 100000) (H : Sc w a n g) (HK : Sl w ak nk K) (HB : Sl w ab nb B) :
    Calls Try.prog 7 #[.agg #[.int .i64 wide, .int .i64 high, .slice a n c], .agg #[.slice ak nk ck, .slice ab nb cb], .agg #[.int .i64 p.1, .int .i64 p.2]] w
      (ClPost (clE (validW wide high n g nk nb K B) wide high p K) (Rch K wide.toNat high.toNat (p.1 + wide * p.2).toNat) n w) := by
  obtain ⟨i0, hi, hz0, hz1, hz2⟩ := info_parts infoI
  have hmm := @run_makeMap Try.prog
  have X0 := ((Bx.new w #[.int .i64 wide, .int .i64 high, .slice a n c] 24).alloc (.cells #[.slice ak nk ck, .slice ab nb cb] 27)).alloc (.cells #[.int .i64 p.1, .int .i64 p.2] 31)
  have X1 := (Bx.new (w.alloc (.cells #[.int .i64 wide, .int .i64 high, .slice a n c] 24)) #[.slice ak nk ck, .slice ab nb cb] 27).alloc (.cells #[.int .i64 p.1, .int .i64 p.2] 31)
  have X2 := Bx.new ((w.alloc (.cells #[.int .i64 wide, .int .i64 high, .slice a n c] 24)).alloc (.cells #[.slice ak nk ck, .slice ab nb cb] 27)) #[.int .i64 p.1, .int .i64 p.2] 31
  simp only [World.size_alloc] at X1 X2
  have hB0 : Below w.heap.size w (((w.alloc (.cells #[.int .i64 wide, .int .i64 high, .slice a n c] 24)).alloc (.cells #[.slice ak nk ck, .slice ab nb cb] 27)).alloc (.cells #[.int .i64 p.1, .int .i64 p.2] 31)) := by (repeat' (first | with_reducible assumption | with_reducible exact Below.refl _ _ | with_reducible refine Below.drew ?_ | with_reducible refine below_drewN ?_ _ | with_reducible refine balloc ?_ _ | with_reducible refine bset ?_ ?_ _ | with_reducible refine Below.setCell ?_ ?_ _ | with_reducible refine Below.alloc ?_ ?_ _ | omega | (simp; done) | (simp; omega)))
  go_enter Try.func7, Try.ntmps7
  go_wp2_with fail
  generalize (((w.alloc (.cells #[.int .i64 wide, .int .i64 high, .slice a n c] 24)).alloc (.cells #[.slice ak nk ck, .slice ab nb cb] 27)).alloc (.cells #[.int .i64 p.1, .int .i64 p.2] 31)) = W0 at X0 X1 X2 hB0 ⊢
  have z0 := X0.lt
  have z1 := X1.lt
  have z2 := X2.lt
  have hB := hB0
  clear hB0
  replace H := H.below hB; replace HK := HK.below hB; replace HB := HB.below hB
  refine (wall_valid wide high a ak ab n nk nb c ck cb g K B _ (by omega) (by omega) (by omega) H HK HB).mono ?_
  rintro e w1 ⟨rfl, hb1⟩
  replace X0 := X0.below hb1
  replace X1 := X1.below hb1
  replace X2 := X2.below hb1
  replace H := H.below hb1
  replace HK := HK.below hb1
  replace HB := HB.below hb1
  replace hB := bvia hB hb1
  clear hb1
  cases hv : validW wide high n g nk nb K B
  · go_wp2_with fail
    go_ret2
    rw [hv]
    exact clPost_err (er := 1) (by simp) hB
  · obtain ⟨hG, rfl, rfl, hall⟩ := (validW_iff ..).1 hv
    obtain ⟨v1, v2, v3, v4, v5, v6, _, _⟩ := (validG_iff ..).1 hG
    obtain ⟨Wd, rfl⟩ : ∃ Wd : Nat, wide = (Wd : Int) := ⟨wide.toNat, by omega⟩
    obtain ⟨Hd, rfl⟩ : ∃ Hd : Nat, high = (Hd : Int) := ⟨high.toNat, by omega⟩
    have hnn : nb = Wd * Hd := by
      have hc : ((Wd * Hd : Nat) : Int) = (Wd : Int) * (Hd : Int) := by simp
      omega
    have HNN := hid hnn
    have HV := hid hv
    clear hnn hv hG v5 v6 hall z0 z1 z2
    have X0_0 := X0.at_ 0 rfl
    have X0_1 := X0.at_ 1 rfl
    have X0_2 := X0.at_ 2 rfl
    have X2_0 := X2.at_ 0 rfl
    have X2_1 := X2.at_ 1 rfl
    have X0z := X0.lt
    have X1z := X1.lt
    have X2z := X2.lt
    go_wp2_with fail
    refine (wall_on (Wd : Int) (Hd : Int) p.1 p.2 a nb c _ (by omega) (by omega)).mono ?_
    rintro e w2 ⟨rfl, hb2⟩
    clear X0_0 X0_1 X0_2 X2_0 X2_1 X0z X1z X2z
    replace X0 := X0.below hb2
    replace X1 := X1.below hb2
    replace X2 := X2.below hb2
    replace H := H.below hb2
    replace HK := HK.below hb2
    replace HB := HB.below hb2
    replace hB := bvia hB hb2
    clear hb2
    have X0_0 := X0.at_ 0 rfl
    have X0_1 := X0.at_ 1 rfl
    have X0_2 := X0.at_ 2 rfl
    have X2_0 := X2.at_ 0 rfl
    have X2_1 := X2.at_ 1 rfl
    have X0z := X0.lt
    have X1z := X1.lt
    have X2z := X2.lt
    cases hon : onB Wd Hd p.1 p.2
    · have hE : clE true Wd Hd p K = 7 := by simp [clE, hon]
      have HE := hid hE; clear hE
      go_wp2_with fail
      go_ret2
      rw [HV.out, HE.out]
      exact clPost_err (by simp) hB
    · obtain ⟨i, hpi, hin, hP⟩ := plc_on ⟨by omega, by omega⟩ ⟨by omega, by omega⟩ hon
      obtain ⟨q0, q1, q2, q3⟩ := on_ints hon
      have hidx : ∀ W, Calls Try.prog 18 #[.agg #[.int .i64 (Wd : Int), .int .i64 (Hd : Int), .slice a nb c], .agg #[.int .i64 p.1, .int .i64 p.2]] W fun e w' => e = .returned (.int .i64 (i : Int)) ∧ Below W.heap.size W w' := fun W => by
        have h := wall_index (Wd : Int) (Hd : Int) p.1 p.2 a nb c W (by omega) (by omega) (by omega)
        rw [hpi] at h
        exact h
      have hE : clE true Wd Hd p K = if K i = 0 then 0 else 11 := by simp [clE, hon, hpi]
      have HE := hid hE
      have hinb : i < nb := by rw [HNN.out]; exact hin
      have HPI := hid hpi
      clear hE hpi hin
      obtain ⟨bk, ok, rfl, hbk, c1⟩ := HK i hinb
      clear X0_0 X0_1 X0_2 X2_0 X2_1 X0z X1z X2z
      have r0 : ∀ W, Below w2.heap.size w2 W → W.cell? ⟨w.heap.size, 0, none⟩ = some (.int .i64 (Wd : Int)) := fun W h => (X0.below h).at_ 0 rfl
      have r1 : ∀ W, Below w2.heap.size w2 W → W.cell? ⟨w.heap.size, 1, none⟩ = some (.int .i64 (Hd : Int)) := fun W h => (X0.below h).at_ 1 rfl
      have r2 : ∀ W, Below w2.heap.size w2 W → W.cell? ⟨w.heap.size, 2, none⟩ = some (.slice a nb c) := fun W h => (X0.below h).at_ 2 rfl
      have r3 : ∀ W, Below w2.heap.size w2 W → W.cell? ⟨w.heap.size + 1, 0, none⟩ = some (.slice (some ⟨bk, ok, none⟩) nb ck) := fun W h => (X1.below h).at_ 0 rfl
      have r4 : ∀ W, Below w2.heap.size w2 W → W.cell? ⟨w.heap.size + 1 + 1, 0, none⟩ = some (.int .i64 p.1) := fun W h => (X2.below h).at_ 0 rfl
      have r5 : ∀ W, Below w2.heap.size w2 W → W.cell? ⟨w.heap.size + 1 + 1, 1, none⟩ = some (.int .i64 p.2) := fun W h => (X2.below h).at_ 1 rfl
      have r6 : ∀ W, Below w2.heap.size w2 W → W.cell? ⟨bk, ok + i, none⟩ = some (.int .i64 (K i)) := fun W h => (bcell h _ _ hbk).trans c1
      clear c1
      go_upto_region 5 with (fail)
      go_region_held3 (fun W => Below w2.heap.size w2 W) ((repeat' (first | with_reducible assumption | with_reducible exact Below.refl _ _ | with_reducible refine Below.drew ?_ | with_reducible refine below_drewN ?_ _ | with_reducible refine balloc ?_ _ | with_reducible refine bset ?_ ?_ _ | with_reducible refine Below.setCell ?_ ?_ _ | with_reducible refine Below.alloc ?_ ?_ _ | omega | (simp; done) | (simp; omega))))
        ((first
          | (go_at_call 18; refine (hidx _).mono ?_; rintro e w3 ⟨rfl, hb3⟩; have hB3 : Below w2.heap.size w2 w3 := bvia (by (repeat' (first | with_reducible assumption | with_reducible exact Below.refl _ _ | with_reducible refine Below.drew ?_ | with_reducible refine below_drewN ?_ _ | with_reducible refine balloc ?_ _ | with_reducible refine bset ?_ ?_ _ | with_reducible refine Below.setCell ?_ ?_ _ | with_reducible refine Below.alloc ?_ ?_ _ | omega | (simp; done) | (simp; omega)))) hb3)
          | fail))
      all_goals
        clear r0 r1 r2 r3 r4 r5 r6 hidx hb3
        replace X0 := X0.below hB3
        replace X1 := X1.below hB3
        replace X2 := X2.below hB3
        replace H := H.below hB3
        replace HK := HK.below hB3
        replace HB := HB.below hB3
        replace hB := bvia hB hB3
        clear hB3
        cases hkk : (K i != 0)
        · have hk0 : K i = 0 := by simpa using hkk
          have HK0 := hid hk0
          have hE0 : clE true Wd Hd p K = 0 := by rw [HE.out, if_pos hk0]
          have HE0 := hid hE0
          clear hE0 hk0 HE
          have X2_0 := X2.at_ 0 rfl
          have X2_1 := X2.at_ 1 rfl
          have X0z := X0.lt
          have X1z := X1.lt
          have X2z := X2.lt
          go_wp2_with fail
          clear X2_0 X2_1 X0z X1z X2z
          have hw3 : Below w3.heap.size w3 (((w3.alloc (.map #[] 0)).alloc (.cells #[.map (some w3.heap.size)] 55)).alloc (.cells #[.func (.func 19) #[] #[.pointer (some ⟨w.heap.size, 0, none⟩), .pointer (some ⟨w.heap.size + 1, 0, none⟩), .pointer (some ⟨w3.heap.size + 1, 0, none⟩), .pointer (some ⟨w3.heap.size + 1 + 1, 0, none⟩)]] 56)) := by (repeat' (first | with_reducible assumption | with_reducible exact Below.refl _ _ | with_reducible refine Below.drew ?_ | with_reducible refine below_drewN ?_ _ | with_reducible refine balloc ?_ _ | with_reducible refine bset ?_ ?_ _ | with_reducible refine Below.setCell ?_ ?_ _ | with_reducible refine Below.alloc ?_ ?_ _ | omega | (simp; done) | (simp; omega)))
          have MM := met_below (met_below (met_made w3) (below_alloc _ (.cells #[.map (some w3.heap.size)] 55))) (below_alloc _ (.cells #[.func (.func 19) #[] #[.pointer (some ⟨w.heap.size, 0, none⟩), .pointer (some ⟨w.heap.size + 1, 0, none⟩), .pointer (some ⟨w3.heap.size + 1, 0, none⟩), .pointer (some ⟨w3.heap.size + 1 + 1, 0, none⟩)]] 56))
          have XM := (Bx.new (w3.alloc (.map #[] 0)) #[.map (some w3.heap.size)] 55).alloc (.cells #[.func (.func 19) #[] #[.pointer (some ⟨w.heap.size, 0, none⟩), .pointer (some ⟨w.heap.size + 1, 0, none⟩), .pointer (some ⟨w3.heap.size + 1, 0, none⟩), .pointer (some ⟨w3.heap.size + 1 + 1, 0, none⟩)]] 56)
          have XF := Bx.new ((w3.alloc (.map #[] 0)).alloc (.cells #[.map (some w3.heap.size)] 55)) #[.func (.func 19) #[] #[.pointer (some ⟨w.heap.size, 0, none⟩), .pointer (some ⟨w.heap.size + 1, 0, none⟩), .pointer (some ⟨w3.heap.size + 1, 0, none⟩), .pointer (some ⟨w3.heap.size + 1 + 1, 0, none⟩)]] 56
          simp only [World.size_alloc] at XM XF
          generalize (((w3.alloc (.map #[] 0)).alloc (.cells #[.map (some w3.heap.size)] 55)).alloc (.cells #[.func (.func 19) #[] #[.pointer (some ⟨w.heap.size, 0, none⟩), .pointer (some ⟨w.heap.size + 1, 0, none⟩), .pointer (some ⟨w3.heap.size + 1, 0, none⟩), .pointer (some ⟨w3.heap.size + 1 + 1, 0, none⟩)]] 56)) = w4 at hw3 MM XM XF ⊢
          have hc0 := cntO_le K (fun _ => false) nb
          refine (meet_any Wd Hd nb c nb ck cb a (some ⟨bk, ok, none⟩) ab K (w.heap.size) (w.heap.size + 1) (w3.heap.size + 1) (w3.heap.size + 1 + 1) w3.heap.size w3 (by omega) (by omega) HNN.out (by omega) X0 X1 HK (Nat.le_refl _) (by omega) (by omega) _ p.1 p.2 i 0 (fun _ => false) w4 rfl hP hw3 XM XF MM (by omega)).mono ?_
          rintro e w5 ⟨M5, k5, rfl, bt5, MM5, to5, hk5⟩
          have hw5 : Below w3.heap.size w3 w5 := hw3.trans ⟨bt5.os, bt5.tape, bt5.output, bt5.size, fun c hc => bt5.block c (by have := hw3.size; omega) (by omega)⟩
          replace XM := XM.but bt5 (by omega)
          have hS : ∀ j, M5 j = true ↔ Rch K Wd Hd i j := fun j => by
            constructor
            · intro h
              rcases to5.from_ j h with h' | h'
              · cases h'
              · exact h'.2
            · intro h
              exact h.of_closed (to5.here HK0.out) fun j d h1 h2 h3 => to5.shut j d h1 rfl h2 h3
          have HS := hid hS
          clear hS to5 hk5 hc0 XF MM hP bt5 hw3 hkk
          replace X0 := X0.below hw5
          replace X1 := X1.below hw5
          replace X2 := X2.below hw5
          replace H := H.below hw5
          replace HK := HK.below hw5
          replace HB := HB.below hw5
          replace hB := bvia hB hw5
          clear hw5
          have X0_2 := X0.at_ 2 rfl
          have X0z := X0.lt
          have XM_0 := XM.at_ 0 rfl
          have XMz := XM.lt
          go_wp2_with fail
          go_loopw [10, 42] (fun v i wr => ∃ k : Nat, k ≤ nb ∧ i = .int .i64 k ∧ wr.ownsRow w5.heap.size 3 1 v (ownL (ind M5) 1 k).length ((ownL (ind M5) 1 k).map vInt) ∧ Below w5.heap.size w5 wr) (fun _ i _ => nb - (intOf i).toNat)
          case atStart => exact ⟨0, Nat.zero_le _, rfl, World.ownsRow_nil .., Below.refl _ _⟩
          case round =>
            clear X0_2 X0z XM_0 XMz
            obtain ⟨k, hk, rfl, hown, hb⟩ := hrel
            have xm0 := (XM.below hb).at_ 0 rfl
            have Mk := met_below MM5 hb
            have hzb := hb.size
            by_cases hlt : k < nb
            · have hbd := ownL_length (ind M5) 1 k
              have hk6 : k < 1000000 := by omega
              cases hMk : M5 k
              · have HMk := hid hMk; clear hMk
                go_wp2_with (at_lookup; refine wpList_lookup_met _ (by rfl) _ _ rfl w3.heap.size k5 M5 rfl Mk k hk6 rfl false HMk.out ?_)
                go_roundw
                case rel => exact ⟨k + 1, by omega, by go_num, by simp only [ownL, if_neg (ind_no HMk.out)]; exact hown, hb⟩
                case measure => simp [intOf]; omega
              · have HMk := hid hMk; clear hMk
                go_wp2_with (first | (at_lookup; refine wpList_lookup_met _ (by rfl) _ _ rfl w3.heap.size k5 M5 rfl Mk k hk6 rfl true HMk.out ?_) | (at_builtin; refine wpList_append_own _ rfl _ _ 25 rfl w5.heap.size 3 i0 (.int .i64 0) 1 8 Try.underlying25 hi hz0 hz1 hz2 rfl (by decide) _ _ _ rfl (hown.alloc _) ⟨wr.heap.size, 0, none⟩ 1 1 [.int .i64 (k : Int)] rfl rfl (cell_one_new _ _ _) (by simp [Value.oneCell']) (by simp [maxLen]; omega) (by omega) (by simp; omega) ?_; intro v' w6 hown' hgrow _))
                go_roundw
                case rel => exact ⟨k + 1, by omega, by go_num, by simp only [ownL, if_pos (ind_yes HMk.out)]; exact own_snoc hown', (hb.alloc hb.size _).grown hgrow (by simp; omega) (own_base hown)⟩
                case measure => simp [intOf]; omega
            · obtain rfl : k = nb := (by omega)
              go_wp2_with fail
              go_ret2
              rw [HV.out, HE0.out, HPI.out]
              simp only [Int.toNat_natCast]
              exact ⟨fun h => absurd rfl h, fun _ => ⟨M5, HS.out, listPost_own hown (bvia hB hb)⟩⟩
        · have hk0 : K i ≠ 0 := by simpa using hkk
          have hE1 : clE true Wd Hd p K = 11 := by rw [HE.out, if_neg hk0]
          have HE1 := hid hE1
          clear hE1 hk0
          go_wp2_with fail
          go_ret2
          rw [HV.out, HE1.out]
          exact clPost_err (by simp) hB
end Go.Proofs.Ythlbmlfkmfheiaa
