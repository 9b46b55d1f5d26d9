/- Walks: the first error of a run, of the program and of the reference. -/
import Derived.Test.YthlbmlfkmfheiaaR3Valid
import Derived.Test.YthlbmlfkmfheiaaCellStep
namespace Go.Proofs.Ythlbmlfkmfheiaa
open Go Go.RowKit
set_option linter.unusedVariables false
/-- a run of m steps from t on is one -/
def timesB (t m : Int) : Bool := within t 0 1000000 && within m 0 1000 && (decide (m = 0) || decide (t + m - 1 ≤ 1000000))
theorem timesB_iff (t m : Int) : timesB t m = true ↔ (0 ≤ t ∧ t ≤ 1000000 ∧ 0 ≤ m ∧ m ≤ 1000 ∧ (m = 0 ∨ t + m - 1 ≤ 1000000)) := by
  simp only [timesB, Bool.and_eq_true, Bool.or_eq_true, within_iff, decide_eq_true_eq]
  constructor
  · rintro ⟨⟨⟨a, b⟩, c, d⟩, e⟩; exact ⟨a, b, c, d, e⟩
  · rintro ⟨a, b, c, d, e⟩; exact ⟨⟨⟨a, b⟩, c, d⟩, e⟩
def rnE (v r t : Bool) : Int := if v && r then (if t then 0 else 7) else 1
theorem timesB_no1 {t m : Int} (h : within t 0 1000000 = false) : timesB t m = false := by simp [timesB, h]
theorem timesB_no2 {t m : Int} (h : within m 0 1000 = false) : timesB t m = false := by simp [timesB, h]
set_option maxRecDepth 100000 in
set_option maxHeartbeats 2000000 in
theorem wall_asked (wide high : Int) (a ak ab ar : Option Addr) (n nk nb nr c ck cb cr : Nat) (g : Nat → C4) (K B : Nat → Int) (r : Nat → Int × Int) (t m : Int) (w : World) (hn : n ≤ 100000000) (hnk : nk ≤ 100000000) (hnb : nb ≤ 100000000) (hnr : nr ≤ 100000000) (H : Sc w a n g) (HK : Sl w ak nk K) (HB : Sl w ab nb B) (HR : Sr w ar nr r) :
    Calls Try.prog 20 #[.agg #[.int .i64 wide, .int .i64 high, .slice a n c], .agg #[.slice ak nk ck, .slice ab nb cb], .slice ar nr cr, .int .i64 t, .int .i64 m] w fun e w' => e = .returned (.int .i64 (rnE (validW wide high n g nk nb K B) (rulesB nr r) (timesB t m))) ∧ Below w.heap.size w w' := by
  have hvl := fun W H HK HB => wall_valid wide high a ak ab n nk nb c ck cb g K B W hn hnk hnb H HK HB
  have hrl := fun W HR => cell_validRules ar nr cr r W hnr HR
  have X0 := (Bx.new w #[.int .i64 wide, .int .i64 high, .slice a n c] 24).alloc (.cells #[.slice ak nk ck, .slice ab nb cb] 27)
  have X1 := Bx.new (w.alloc (.cells #[.int .i64 wide, .int .i64 high, .slice a n c] 24)) #[.slice ak nk ck, .slice ab nb cb] 27
  simp only [World.size_alloc] at X1
  have hB0 : Below w.heap.size w ((w.alloc (.cells #[.int .i64 wide, .int .i64 high, .slice a n c] 24)).alloc (.cells #[.slice ak nk ck, .slice ab nb cb] 27)) := by (repeat' (first | with_reducible assumption | with_reducible exact Below.refl _ _ | with_reducible refine Below.drew ?_ | with_reducible refine below_drewN ?_ _ | with_reducible refine balloc ?_ _ | with_reducible refine bset ?_ ?_ _ | with_reducible refine Below.setCell ?_ ?_ _ | with_reducible refine Below.alloc ?_ ?_ _ | omega | (simp; done) | (simp; omega)))
  have hw1 := fun W => wall_within t 0 1000000 W
  have hw2 := fun W => wall_within m 0 1000 W
  generalize validW wide high n g nk nb K B = v at *
  generalize rulesB nr r = u at *
  cases v
  · skip
    go_enter Try.func20, Try.ntmps20
    go_wp2_with fail
    generalize ((w.alloc (.cells #[.int .i64 wide, .int .i64 high, .slice a n c] 24)).alloc (.cells #[.slice ak nk ck, .slice ab nb cb] 27)) = W0 at X0 X1 hB0 ⊢
    have z0 := X0.lt
    have z1 := X1.lt
    have G0 := H.below hB0; have GK0 := HK.below hB0; have GB0 := HB.below hB0; have GR0 := HR.below hB0
    refine (hvl _ G0 GK0 GB0).mono ?_
    rintro e w1 ⟨rfl, hb1⟩
    have hB := hB0
    clear hB0
    replace hB := bvia hB hb1
    replace GR0 := GR0.below hb1
    go_wp2_with fail
    go_ret
    exact ⟨rfl, hB⟩
  · cases u
    · skip
      go_enter Try.func20, Try.ntmps20
      go_wp2_with fail
      generalize ((w.alloc (.cells #[.int .i64 wide, .int .i64 high, .slice a n c] 24)).alloc (.cells #[.slice ak nk ck, .slice ab nb cb] 27)) = W0 at X0 X1 hB0 ⊢
      have z0 := X0.lt
      have z1 := X1.lt
      have G0 := H.below hB0; have GK0 := HK.below hB0; have GB0 := HB.below hB0; have GR0 := HR.below hB0
      refine (hvl _ G0 GK0 GB0).mono ?_
      rintro e w1 ⟨rfl, hb1⟩
      have hB := hB0
      clear hB0
      replace hB := bvia hB hb1
      replace GR0 := GR0.below hb1
      go_wp2_with fail
      refine (hrl _ GR0).mono ?_
      rintro e w2 ⟨rfl, hb2⟩
      replace hB := bvia hB hb2
      go_wp2_with fail
      go_ret
      exact ⟨rfl, hB⟩
    · cases h1 : within t 0 1000000
      · rw [timesB_no1 h1]
        rw [h1] at hw1
        clear h1
        go_enter Try.func20, Try.ntmps20
        go_wp2_with fail
        generalize ((w.alloc (.cells #[.int .i64 wide, .int .i64 high, .slice a n c] 24)).alloc (.cells #[.slice ak nk ck, .slice ab nb cb] 27)) = W0 at X0 X1 hB0 ⊢
        have z0 := X0.lt
        have z1 := X1.lt
        have G0 := H.below hB0; have GK0 := HK.below hB0; have GB0 := HB.below hB0; have GR0 := HR.below hB0
        refine (hvl _ G0 GK0 GB0).mono ?_
        rintro e w1 ⟨rfl, hb1⟩
        have hB := hB0
        clear hB0
        replace hB := bvia hB hb1
        replace GR0 := GR0.below hb1
        go_wp2_with fail
        refine (hrl _ GR0).mono ?_
        rintro e w2 ⟨rfl, hb2⟩
        replace hB := bvia hB hb2
        go_wp2_with fail
        refine (hw1 _).mono ?_
        rintro e w' ⟨rfl, rfl⟩
        go_wp2_with fail
        go_ret
        exact ⟨rfl, hB⟩
      · obtain ⟨t0, t1⟩ := (within_iff _ _ _).1 h1
        rw [h1] at hw1
        cases h2 : within m 0 1000
        · rw [timesB_no2 h2]
          rw [h2] at hw2
          clear h1 h2
          go_enter Try.func20, Try.ntmps20
          go_wp2_with fail
          generalize ((w.alloc (.cells #[.int .i64 wide, .int .i64 high, .slice a n c] 24)).alloc (.cells #[.slice ak nk ck, .slice ab nb cb] 27)) = W0 at X0 X1 hB0 ⊢
          have z0 := X0.lt
          have z1 := X1.lt
          have G0 := H.below hB0; have GK0 := HK.below hB0; have GB0 := HB.below hB0; have GR0 := HR.below hB0
          refine (hvl _ G0 GK0 GB0).mono ?_
          rintro e w1 ⟨rfl, hb1⟩
          have hB := hB0
          clear hB0
          replace hB := bvia hB hb1
          replace GR0 := GR0.below hb1
          go_wp2_with fail
          refine (hrl _ GR0).mono ?_
          rintro e w2 ⟨rfl, hb2⟩
          replace hB := bvia hB hb2
          go_wp2_with fail
          refine (hw1 _).mono ?_
          rintro e w' ⟨rfl, rfl⟩
          go_wp2_with fail
          refine (hw2 _).mono ?_
          rintro e w' ⟨rfl, rfl⟩
          go_wp2_with fail
          go_ret
          exact ⟨rfl, hB⟩
        · obtain ⟨m0, m1⟩ := (within_iff _ _ _).1 h2
          rw [h2] at hw2
          by_cases hm : m = 0
          · subst hm
            have e : timesB t 0 = true := (timesB_iff _ _).2 ⟨t0, t1, by omega, by omega, .inl rfl⟩
            rw [e]
            clear e h1 h2
            go_enter Try.func20, Try.ntmps20
            go_wp2_with fail
            generalize ((w.alloc (.cells #[.int .i64 wide, .int .i64 high, .slice a n c] 24)).alloc (.cells #[.slice ak nk ck, .slice ab nb cb] 27)) = W0 at X0 X1 hB0 ⊢
            have z0 := X0.lt
            have z1 := X1.lt
            have G0 := H.below hB0; have GK0 := HK.below hB0; have GB0 := HB.below hB0; have GR0 := HR.below hB0
            refine (hvl _ G0 GK0 GB0).mono ?_
            rintro e w1 ⟨rfl, hb1⟩
            have hB := hB0
            clear hB0
            replace hB := bvia hB hb1
            replace GR0 := GR0.below hb1
            go_wp2_with fail
            refine (hrl _ GR0).mono ?_
            rintro e w2 ⟨rfl, hb2⟩
            replace hB := bvia hB hb2
            go_wp2_with fail
            refine (hw1 _).mono ?_
            rintro e w' ⟨rfl, rfl⟩
            go_wp2_with fail
            refine (hw2 _).mono ?_
            rintro e w' ⟨rfl, rfl⟩
            go_wp2_with fail
            go_ret
            exact ⟨rfl, hB⟩
          · by_cases hs : t + m - 1 ≤ 1000000
            · have e : timesB t m = true := (timesB_iff _ _).2 ⟨t0, t1, m0, m1, .inr hs⟩
              rw [e]
              clear e h1 h2
              have hm0 : 0 < m := by omega
              clear hm
              go_enter Try.func20, Try.ntmps20
              go_wp2_with fail
              generalize ((w.alloc (.cells #[.int .i64 wide, .int .i64 high, .slice a n c] 24)).alloc (.cells #[.slice ak nk ck, .slice ab nb cb] 27)) = W0 at X0 X1 hB0 ⊢
              have z0 := X0.lt
              have z1 := X1.lt
              have G0 := H.below hB0; have GK0 := HK.below hB0; have GB0 := HB.below hB0; have GR0 := HR.below hB0
              refine (hvl _ G0 GK0 GB0).mono ?_
              rintro e w1 ⟨rfl, hb1⟩
              have hB := hB0
              clear hB0
              replace hB := bvia hB hb1
              replace GR0 := GR0.below hb1
              go_wp2_with fail
              refine (hrl _ GR0).mono ?_
              rintro e w2 ⟨rfl, hb2⟩
              replace hB := bvia hB hb2
              go_wp2_with fail
              refine (hw1 _).mono ?_
              rintro e w' ⟨rfl, rfl⟩
              go_wp2_with fail
              refine (hw2 _).mono ?_
              rintro e w' ⟨rfl, rfl⟩
              go_wp2_with fail
              go_ret
              exact ⟨rfl, hB⟩
            · have e : timesB t m = false := by
                cases hh : timesB t m
                · rfl
                · have := (timesB_iff _ _).1 hh; omega
              rw [e]
              clear e h1 h2
              have hm0 : 0 < m := by omega
              clear hm
              go_enter Try.func20, Try.ntmps20
              go_wp2_with fail
              generalize ((w.alloc (.cells #[.int .i64 wide, .int .i64 high, .slice a n c] 24)).alloc (.cells #[.slice ak nk ck, .slice ab nb cb] 27)) = W0 at X0 X1 hB0 ⊢
              have z0 := X0.lt
              have z1 := X1.lt
              have G0 := H.below hB0; have GK0 := HK.below hB0; have GB0 := HB.below hB0; have GR0 := HR.below hB0
              refine (hvl _ G0 GK0 GB0).mono ?_
              rintro e w1 ⟨rfl, hb1⟩
              have hB := hB0
              clear hB0
              replace hB := bvia hB hb1
              replace GR0 := GR0.below hb1
              go_wp2_with fail
              refine (hrl _ GR0).mono ?_
              rintro e w2 ⟨rfl, hb2⟩
              replace hB := bvia hB hb2
              go_wp2_with fail
              refine (hw1 _).mono ?_
              rintro e w' ⟨rfl, rfl⟩
              go_wp2_with fail
              refine (hw2 _).mono ?_
              rintro e w' ⟨rfl, rfl⟩
              go_wp2_with fail
              go_ret
              exact ⟨rfl, hB⟩
end Go.Proofs.Ythlbmlfkmfheiaa
