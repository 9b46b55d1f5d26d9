/- The walk of the law ShareMaps. -/
import Derived.Test.YteabkcbajpjkoaaGreatPk21
import Derived.Test.YteabkcbajpjkoaaGreatPk25
import Derived.Test.YteabkcbajpjkoaaGreatPk14
import Derived.Test.YteabkcbajpjkoaaGreatPk5
import Derived.Test.YteabkcbajpjkoaaGreatPk6
import Derived.Test.YteabkcbajpjkoaaGreatPk17
namespace Go.Proofs.YteabkcbajpjkoaaGreat
open Go Go.RowKit
set_option linter.unusedVariables false
set_option linter.unusedSimpArgs false
theorem loa_list {v : Bool} {W : Nat} {f : Nat → Int} {w w' : World} {e : Ending} (h : LoaPost v W f w e w') : ListPost (lodL v W f) (errR v 1) w e w' := by
  rcases h with ⟨rfl, rfl, hb⟩ | ⟨rfl, b, rfl, R, _, hb⟩
  · exact listPost_nil hb
  · have hl : (lodL true W f).length = W := by simp [lodL]
    refine ⟨some ⟨b, 0, none⟩, W, by rw [hl]; rfl, ?_, hb⟩
    rw [hl]
    intro k hk
    obtain ⟨b', o', e1, e2, e3⟩ := R.sl k hk
    exact ⟨b', o', e1, e2, by rw [e3]; simp [lodL, List.getD_eq_getElem?_getD, hk]⟩
theorem times_zero (N : Int) : timesB 0 N = within N 0 1000 := by
  cases h : within N 0 1000
  · cases h2 : timesB 0 N
    · rfl
    · have := (timesB_iff _ _).1 h2
      rw [(within_iff _ _ _).2 ⟨this.2.2.1, this.2.2.2.1⟩] at h
      cases h
  · have := (within_iff _ _ _).1 h
    exact (timesB_iff _ _).2 ⟨by omega, by omega, by omega, by omega, by omega⟩
set_option maxRecDepth 100000 in
set_option maxHeartbeats 8000000 in
theorem walk_maps (wide high : Int) (a ac rl : Option Addr) (n m rn c cc rc : Nat) (g : Nat → C4) (cu : Nat → Int) (ru : Nat → Int × Int) (note N : Int) (w : World) (hn : n ≤ maxLen) (hm : m ≤ maxLen) (hrn : rn ≤ maxLen) (S : Sc w a n g) (HC : Sl w ac m cu) (HR : Sr w rl rn ru) :
    Calls Tryz.prog 3 #[.agg #[.int .i64 wide, .int .i64 high, .slice a n c], .slice ac m cc, .int .i64 note, .slice rl rn rc, .int .i64 N] w fun e w' => e = .returned (.bool true) ∧ Below w.heap.size w w' := by
  unfold maxLen at hn hm hrn
  have X0 := Bx.new w #[.int .i64 wide, .int .i64 high, .slice a n c] 24
  have hB0 : Below w.heap.size w (w.alloc (.cells #[.int .i64 wide, .int .i64 high, .slice a n c] 24)) := by (repeat' (first | with_reducible assumption | with_reducible exact Below.refl _ _ | with_reducible refine Below.drew ?_ | with_reducible refine below_drewN ?_ _ | with_reducible refine balloc ?_ _ | with_reducible refine bset ?_ ?_ _ | with_reducible refine Below.setCell ?_ ?_ _ | with_reducible refine Below.alloc ?_ ?_ _ | omega | (simp; done) | (simp; omega)))
  by_cases h40 : 40 < n ∧ n ≤ 1024
  · have q1 : (40 : Int) < (n : Int) := by omega
    have q2 : (n : Int) ≤ 1024 := by omega
    have q3 : n ≤ 1024 := by omega
    have q4 : 40 < n := by omega
    clear h40
    go_enter Tryz.func3, Tryz.ntmps3
    go_wp2_with fail
    generalize (w.alloc (.cells #[.int .i64 wide, .int .i64 high, .slice a n c] 24)) = W0 at X0 hB0 ⊢
    have z0 := X0.lt
    refine (awake9 _).mono ?_
    rintro e w1 ⟨rfl, hb1⟩
    replace X0 := X0.below hb1
    have x2 := X0.at_ 2 rfl; have lx := X0.lt
    go_wp2_with fail
    go_ret
    exact ⟨rfl, bvia hB0 hb1⟩
  by_cases h11 : 1100 < n
  · have q1 : (40 : Int) < (n : Int) := by omega
    have q2 : ¬ (n : Int) ≤ 1024 := by omega
    have q3 : ¬ n ≤ 1024 := by omega
    have q4 : (1100 : Int) < (n : Int) := by omega
    clear h40
    go_enter Tryz.func3, Tryz.ntmps3
    go_wp2_with fail
    generalize (w.alloc (.cells #[.int .i64 wide, .int .i64 high, .slice a n c] 24)) = W0 at X0 hB0 ⊢
    have z0 := X0.lt
    refine (awake9 _).mono ?_
    rintro e w1 ⟨rfl, hb1⟩
    replace X0 := X0.below hb1
    have x2 := X0.at_ 2 rfl; have lx := X0.lt
    go_wp2_with fail
    go_ret
    exact ⟨rfl, bvia hB0 hb1⟩
  have p11 : ¬ (1100 : Int) < (n : Int) := by omega
  by_cases h30 : 30 < m
  · have q3 : (30 : Int) < (m : Int) := by omega
    rcases (by omega : n ≤ 40 ∨ 1024 < n) with h | h
    · have q1 : ¬ (40 : Int) < (n : Int) := by omega
      clear h40
      go_enter Tryz.func3, Tryz.ntmps3
      go_wp2_with fail
      generalize (w.alloc (.cells #[.int .i64 wide, .int .i64 high, .slice a n c] 24)) = W0 at X0 hB0 ⊢
      have z0 := X0.lt
      refine (awake9 _).mono ?_
      rintro e w1 ⟨rfl, hb1⟩
      replace X0 := X0.below hb1
      have x2 := X0.at_ 2 rfl; have lx := X0.lt
      go_wp2_with fail
      go_ret
      exact ⟨rfl, bvia hB0 hb1⟩
    · have q1 : (40 : Int) < (n : Int) := by omega
      have q2 : ¬ (n : Int) ≤ 1024 := by omega
      clear h40
      go_enter Tryz.func3, Tryz.ntmps3
      go_wp2_with fail
      generalize (w.alloc (.cells #[.int .i64 wide, .int .i64 high, .slice a n c] 24)) = W0 at X0 hB0 ⊢
      have z0 := X0.lt
      refine (awake9 _).mono ?_
      rintro e w1 ⟨rfl, hb1⟩
      replace X0 := X0.below hb1
      have x2 := X0.at_ 2 rfl; have lx := X0.lt
      go_wp2_with fail
      go_ret
      exact ⟨rfl, bvia hB0 hb1⟩
  have p30 : ¬ (30 : Int) < (m : Int) := by omega
  by_cases h20 : 20 < rn
  · have q3 : (20 : Int) < (rn : Int) := by omega
    rcases (by omega : n ≤ 40 ∨ 1024 < n) with h | h
    · have q1 : ¬ (40 : Int) < (n : Int) := by omega
      clear h40
      go_enter Tryz.func3, Tryz.ntmps3
      go_wp2_with fail
      generalize (w.alloc (.cells #[.int .i64 wide, .int .i64 high, .slice a n c] 24)) = W0 at X0 hB0 ⊢
      have z0 := X0.lt
      refine (awake9 _).mono ?_
      rintro e w1 ⟨rfl, hb1⟩
      replace X0 := X0.below hb1
      have x2 := X0.at_ 2 rfl; have lx := X0.lt
      go_wp2_with fail
      go_ret
      exact ⟨rfl, bvia hB0 hb1⟩
    · have q1 : (40 : Int) < (n : Int) := by omega
      have q2 : ¬ (n : Int) ≤ 1024 := by omega
      clear h40
      go_enter Tryz.func3, Tryz.ntmps3
      go_wp2_with fail
      generalize (w.alloc (.cells #[.int .i64 wide, .int .i64 high, .slice a n c] 24)) = W0 at X0 hB0 ⊢
      have z0 := X0.lt
      refine (awake9 _).mono ?_
      rintro e w1 ⟨rfl, hb1⟩
      replace X0 := X0.below hb1
      have x2 := X0.at_ 2 rfl; have lx := X0.lt
      go_wp2_with fail
      go_ret
      exact ⟨rfl, bvia hB0 hb1⟩
  have p20 : ¬ (20 : Int) < (rn : Int) := by omega
  by_cases hN6 : 6 < N ∧ N ≤ 1000
  · obtain ⟨q3, q4⟩ := hN6
    rcases (by omega : n ≤ 40 ∨ 1024 < n) with h | h
    · have q1 : ¬ (40 : Int) < (n : Int) := by omega
      clear h40
      go_enter Tryz.func3, Tryz.ntmps3
      go_wp2_with fail
      generalize (w.alloc (.cells #[.int .i64 wide, .int .i64 high, .slice a n c] 24)) = W0 at X0 hB0 ⊢
      have z0 := X0.lt
      refine (awake9 _).mono ?_
      rintro e w1 ⟨rfl, hb1⟩
      replace X0 := X0.below hb1
      have x2 := X0.at_ 2 rfl; have lx := X0.lt
      go_wp2_with fail
      go_ret
      exact ⟨rfl, bvia hB0 hb1⟩
    · have q1 : (40 : Int) < (n : Int) := by omega
      have q2 : ¬ (n : Int) ≤ 1024 := by omega
      clear h40
      go_enter Tryz.func3, Tryz.ntmps3
      go_wp2_with fail
      generalize (w.alloc (.cells #[.int .i64 wide, .int .i64 high, .slice a n c] 24)) = W0 at X0 hB0 ⊢
      have z0 := X0.lt
      refine (awake9 _).mono ?_
      rintro e w1 ⟨rfl, hb1⟩
      replace X0 := X0.below hb1
      have x2 := X0.at_ 2 rfl; have lx := X0.lt
      go_wp2_with fail
      go_ret
      exact ⟨rfl, bvia hB0 hb1⟩
  have hL := fun Y S' => (share_Loads wide high a n c g Y (by omega) S').mono (fun _ _ => loa_list)
  have hL9 := fun Y S' => ref9_Loads wide high a n c g Y (by omega) S'
  have hM := fun Y S' SC => share_Map wide high a ac n c m cc g cu Y (by omega) (by omega) S' SC
  have hM9 := fun Y S' SC => ref9_Map wide high a ac n c m cc g cu Y (by omega) (by omega) S' SC
  have hK := fun Y S' SC => share_Cost wide high a ac n c m cc g cu note Y (by omega) (by omega) S' SC
  have hK9 := fun Y S' SC => ref9_Cost wide high a ac n c m cc g cu note Y (by omega) (by omega) S' SC
  unfold CosPost at hK hK9
  have HL1 : (lodL (validG wide high n g) wide.toNat (colTo wide.toNat g n)).length ≤ 100000000 := by
    unfold lodL
    cases hv : validG wide high n g
    · simp
    · have := (validG_iff _ _ _ _).1 hv
      simp
      omega
  have HL2 : (mapR (validG wide high n g) (vK wide.toNat m cu) wide.toNat m cu n).length ≤ 100000000 := by
    unfold mapR
    split
    · rw [mapS_length]; omega
    · simp
  generalize cosE (validG wide high n g) (vK wide.toNat m cu) (within note 0 1000000000) m = E3 at *
  generalize cosR wide high n g m cu note = R3 at *
  generalize lodL (validG wide high n g) wide.toNat (colTo wide.toNat g n) = L1 at *
  generalize errR (validG wide high n g) 1 = E1 at *
  by_cases hE : mapE (validG wide high n g) (vK wide.toNat m cu) m = 0
  rotate_left
  · generalize mapR (validG wide high n g) (vK wide.toNat m cu) wide.toNat m cu n = L2 at *
    generalize mapE (validG wide high n g) (vK wide.toNat m cu) m = E2 at *
    have hE2 : (E2 != 0) = true := by simpa using hE
    clear hE
    rcases (by omega : (n ≤ 40 ∨ 1024 < n) ∧ (N ≤ 6 ∨ 1000 < N)) with ⟨h | h, h2 | h2⟩
    · have q1 : ¬ (40 : Int) < (n : Int) := by omega
      have q3 : ¬ 6 < N := by omega
      clear h40 hN6
      go_enter Tryz.func3, Tryz.ntmps3
      go_wp2_with fail
      generalize (w.alloc (.cells #[.int .i64 wide, .int .i64 high, .slice a n c] 24)) = W0 at X0 hB0 ⊢
      have z0 := X0.lt
      have hB := hB0
      refine (awake9 _).mono ?_
      rintro e w1 ⟨rfl, hb1⟩
      replace S := S.below hB0; replace HC := HC.below hB0; replace HR := HR.below hB0
      clear hB0
      replace X0 := X0.below hb1
      replace S := S.below hb1
      replace HC := HC.below hb1
      replace HR := HR.below hb1
      replace hB := bvia hB hb1
      clear hb1
      have x0 := X0.at_ 0 rfl; have x1 := X0.at_ 1 rfl; have x2 := X0.at_ 2 rfl; have lx := X0.lt
      go_wp2_with fail
      refine (hL _ S).mono ?_
      rintro e w2 ⟨b1, d1, rfl, S1, hb2⟩
      clear x0 x1 x2 lx
      replace X0 := X0.below hb2
      replace S := S.below hb2
      replace HC := HC.below hb2
      replace HR := HR.below hb2
      replace hB := bvia hB hb2
      clear hb2
      have x0 := X0.at_ 0 rfl; have x1 := X0.at_ 1 rfl; have x2 := X0.at_ 2 rfl; have lx := X0.lt
      go_wp2_with fail
      refine (hL9 _ S).mono ?_
      rintro e w3 ⟨b2, d2, rfl, S2, hb3⟩
      clear x0 x1 x2 lx
      replace X0 := X0.below hb3
      replace S := S.below hb3
      replace HC := HC.below hb3
      replace HR := HR.below hb3
      replace S1 := S1.below hb3
      replace hB := bvia hB hb3
      clear hb3
      go_wp2_with fail
      refine (ref6_sameInts _ _ _ _ _ _ _ _ _ HL1 HL1 S1 S2).mono ?_
      rintro e w4 ⟨rfl, hb4⟩
      rw [sameL_self]
      clear S1 S2
      replace X0 := X0.below hb4
      replace S := S.below hb4
      replace HC := HC.below hb4
      replace HR := HR.below hb4
      replace hB := bvia hB hb4
      clear hb4
      have x0 := X0.at_ 0 rfl; have x1 := X0.at_ 1 rfl; have x2 := X0.at_ 2 rfl; have lx := X0.lt
      go_wp2_with fail
      refine (hM _ S HC).mono ?_
      rintro e w5 ⟨b3, d3, rfl, S3, hb5⟩
      clear x0 x1 x2 lx
      replace X0 := X0.below hb5
      replace S := S.below hb5
      replace HC := HC.below hb5
      replace HR := HR.below hb5
      replace hB := bvia hB hb5
      clear hb5
      have x0 := X0.at_ 0 rfl; have x1 := X0.at_ 1 rfl; have x2 := X0.at_ 2 rfl; have lx := X0.lt
      go_wp2_with fail
      refine (hM9 _ S HC).mono ?_
      rintro e w6 ⟨b4, d4, rfl, S4, hb6⟩
      clear x0 x1 x2 lx
      replace X0 := X0.below hb6
      replace S := S.below hb6
      replace HC := HC.below hb6
      replace HR := HR.below hb6
      replace S3 := S3.below hb6
      replace hB := bvia hB hb6
      clear hb6
      go_wp2_with fail
      refine (ref6_sameInts _ _ _ _ _ _ _ _ _ HL2 HL2 S3 S4).mono ?_
      rintro e w7 ⟨rfl, hb7⟩
      rw [sameL_self]
      clear S4
      replace X0 := X0.below hb7
      replace S := S.below hb7
      replace HC := HC.below hb7
      replace HR := HR.below hb7
      replace S3 := S3.below hb7
      replace hB := bvia hB hb7
      clear hb7
      have x0 := X0.at_ 0 rfl; have x1 := X0.at_ 1 rfl; have x2 := X0.at_ 2 rfl; have lx := X0.lt
      go_wp2_with fail
      refine (hK _ S HC).mono ?_
      rintro e w8 ⟨rfl, hb8⟩
      clear x0 x1 x2 lx
      replace X0 := X0.below hb8
      replace S := S.below hb8
      replace HC := HC.below hb8
      replace HR := HR.below hb8
      replace S3 := S3.below hb8
      replace hB := bvia hB hb8
      clear hb8
      have x0 := X0.at_ 0 rfl; have x1 := X0.at_ 1 rfl; have x2 := X0.at_ 2 rfl; have lx := X0.lt
      go_wp2_with fail
      refine (hK9 _ S HC).mono ?_
      rintro e w9 ⟨rfl, hb9⟩
      clear x0 x1 x2 lx
      replace X0 := X0.below hb9
      replace S := S.below hb9
      replace HC := HC.below hb9
      replace HR := HR.below hb9
      replace S3 := S3.below hb9
      replace hB := bvia hB hb9
      clear hb9
      go_wp2_with fail
      go_ret
      exact ⟨rfl, hB⟩
    · have q1 : ¬ (40 : Int) < (n : Int) := by omega
      have q3 : 6 < N := by omega
      have q4 : ¬ N ≤ 1000 := by omega
      clear h40 hN6
      go_enter Tryz.func3, Tryz.ntmps3
      go_wp2_with fail
      generalize (w.alloc (.cells #[.int .i64 wide, .int .i64 high, .slice a n c] 24)) = W0 at X0 hB0 ⊢
      have z0 := X0.lt
      have hB := hB0
      refine (awake9 _).mono ?_
      rintro e w1 ⟨rfl, hb1⟩
      replace S := S.below hB0; replace HC := HC.below hB0; replace HR := HR.below hB0
      clear hB0
      replace X0 := X0.below hb1
      replace S := S.below hb1
      replace HC := HC.below hb1
      replace HR := HR.below hb1
      replace hB := bvia hB hb1
      clear hb1
      have x0 := X0.at_ 0 rfl; have x1 := X0.at_ 1 rfl; have x2 := X0.at_ 2 rfl; have lx := X0.lt
      go_wp2_with fail
      refine (hL _ S).mono ?_
      rintro e w2 ⟨b1, d1, rfl, S1, hb2⟩
      clear x0 x1 x2 lx
      replace X0 := X0.below hb2
      replace S := S.below hb2
      replace HC := HC.below hb2
      replace HR := HR.below hb2
      replace hB := bvia hB hb2
      clear hb2
      have x0 := X0.at_ 0 rfl; have x1 := X0.at_ 1 rfl; have x2 := X0.at_ 2 rfl; have lx := X0.lt
      go_wp2_with fail
      refine (hL9 _ S).mono ?_
      rintro e w3 ⟨b2, d2, rfl, S2, hb3⟩
      clear x0 x1 x2 lx
      replace X0 := X0.below hb3
      replace S := S.below hb3
      replace HC := HC.below hb3
      replace HR := HR.below hb3
      replace S1 := S1.below hb3
      replace hB := bvia hB hb3
      clear hb3
      go_wp2_with fail
      refine (ref6_sameInts _ _ _ _ _ _ _ _ _ HL1 HL1 S1 S2).mono ?_
      rintro e w4 ⟨rfl, hb4⟩
      rw [sameL_self]
      clear S1 S2
      replace X0 := X0.below hb4
      replace S := S.below hb4
      replace HC := HC.below hb4
      replace HR := HR.below hb4
      replace hB := bvia hB hb4
      clear hb4
      have x0 := X0.at_ 0 rfl; have x1 := X0.at_ 1 rfl; have x2 := X0.at_ 2 rfl; have lx := X0.lt
      go_wp2_with fail
      refine (hM _ S HC).mono ?_
      rintro e w5 ⟨b3, d3, rfl, S3, hb5⟩
      clear x0 x1 x2 lx
      replace X0 := X0.below hb5
      replace S := S.below hb5
      replace HC := HC.below hb5
      replace HR := HR.below hb5
      replace hB := bvia hB hb5
      clear hb5
      have x0 := X0.at_ 0 rfl; have x1 := X0.at_ 1 rfl; have x2 := X0.at_ 2 rfl; have lx := X0.lt
      go_wp2_with fail
      refine (hM9 _ S HC).mono ?_
      rintro e w6 ⟨b4, d4, rfl, S4, hb6⟩
      clear x0 x1 x2 lx
      replace X0 := X0.below hb6
      replace S := S.below hb6
      replace HC := HC.below hb6
      replace HR := HR.below hb6
      replace S3 := S3.below hb6
      replace hB := bvia hB hb6
      clear hb6
      go_wp2_with fail
      refine (ref6_sameInts _ _ _ _ _ _ _ _ _ HL2 HL2 S3 S4).mono ?_
      rintro e w7 ⟨rfl, hb7⟩
      rw [sameL_self]
      clear S4
      replace X0 := X0.below hb7
      replace S := S.below hb7
      replace HC := HC.below hb7
      replace HR := HR.below hb7
      replace S3 := S3.below hb7
      replace hB := bvia hB hb7
      clear hb7
      have x0 := X0.at_ 0 rfl; have x1 := X0.at_ 1 rfl; have x2 := X0.at_ 2 rfl; have lx := X0.lt
      go_wp2_with fail
      refine (hK _ S HC).mono ?_
      rintro e w8 ⟨rfl, hb8⟩
      clear x0 x1 x2 lx
      replace X0 := X0.below hb8
      replace S := S.below hb8
      replace HC := HC.below hb8
      replace HR := HR.below hb8
      replace S3 := S3.below hb8
      replace hB := bvia hB hb8
      clear hb8
      have x0 := X0.at_ 0 rfl; have x1 := X0.at_ 1 rfl; have x2 := X0.at_ 2 rfl; have lx := X0.lt
      go_wp2_with fail
      refine (hK9 _ S HC).mono ?_
      rintro e w9 ⟨rfl, hb9⟩
      clear x0 x1 x2 lx
      replace X0 := X0.below hb9
      replace S := S.below hb9
      replace HC := HC.below hb9
      replace HR := HR.below hb9
      replace S3 := S3.below hb9
      replace hB := bvia hB hb9
      clear hb9
      go_wp2_with fail
      go_ret
      exact ⟨rfl, hB⟩
    · have q1 : (40 : Int) < (n : Int) := by omega
      have q2 : ¬ (n : Int) ≤ 1024 := by omega
      have q3 : ¬ 6 < N := by omega
      clear h40 hN6
      go_enter Tryz.func3, Tryz.ntmps3
      go_wp2_with fail
      generalize (w.alloc (.cells #[.int .i64 wide, .int .i64 high, .slice a n c] 24)) = W0 at X0 hB0 ⊢
      have z0 := X0.lt
      have hB := hB0
      refine (awake9 _).mono ?_
      rintro e w1 ⟨rfl, hb1⟩
      replace S := S.below hB0; replace HC := HC.below hB0; replace HR := HR.below hB0
      clear hB0
      replace X0 := X0.below hb1
      replace S := S.below hb1
      replace HC := HC.below hb1
      replace HR := HR.below hb1
      replace hB := bvia hB hb1
      clear hb1
      have x0 := X0.at_ 0 rfl; have x1 := X0.at_ 1 rfl; have x2 := X0.at_ 2 rfl; have lx := X0.lt
      go_wp2_with fail
      refine (hL _ S).mono ?_
      rintro e w2 ⟨b1, d1, rfl, S1, hb2⟩
      clear x0 x1 x2 lx
      replace X0 := X0.below hb2
      replace S := S.below hb2
      replace HC := HC.below hb2
      replace HR := HR.below hb2
      replace hB := bvia hB hb2
      clear hb2
      have x0 := X0.at_ 0 rfl; have x1 := X0.at_ 1 rfl; have x2 := X0.at_ 2 rfl; have lx := X0.lt
      go_wp2_with fail
      refine (hL9 _ S).mono ?_
      rintro e w3 ⟨b2, d2, rfl, S2, hb3⟩
      clear x0 x1 x2 lx
      replace X0 := X0.below hb3
      replace S := S.below hb3
      replace HC := HC.below hb3
      replace HR := HR.below hb3
      replace S1 := S1.below hb3
      replace hB := bvia hB hb3
      clear hb3
      go_wp2_with fail
      refine (ref6_sameInts _ _ _ _ _ _ _ _ _ HL1 HL1 S1 S2).mono ?_
      rintro e w4 ⟨rfl, hb4⟩
      rw [sameL_self]
      clear S1 S2
      replace X0 := X0.below hb4
      replace S := S.below hb4
      replace HC := HC.below hb4
      replace HR := HR.below hb4
      replace hB := bvia hB hb4
      clear hb4
      have x0 := X0.at_ 0 rfl; have x1 := X0.at_ 1 rfl; have x2 := X0.at_ 2 rfl; have lx := X0.lt
      go_wp2_with fail
      refine (hM _ S HC).mono ?_
      rintro e w5 ⟨b3, d3, rfl, S3, hb5⟩
      clear x0 x1 x2 lx
      replace X0 := X0.below hb5
      replace S := S.below hb5
      replace HC := HC.below hb5
      replace HR := HR.below hb5
      replace hB := bvia hB hb5
      clear hb5
      have x0 := X0.at_ 0 rfl; have x1 := X0.at_ 1 rfl; have x2 := X0.at_ 2 rfl; have lx := X0.lt
      go_wp2_with fail
      refine (hM9 _ S HC).mono ?_
      rintro e w6 ⟨b4, d4, rfl, S4, hb6⟩
      clear x0 x1 x2 lx
      replace X0 := X0.below hb6
      replace S := S.below hb6
      replace HC := HC.below hb6
      replace HR := HR.below hb6
      replace S3 := S3.below hb6
      replace hB := bvia hB hb6
      clear hb6
      go_wp2_with fail
      refine (ref6_sameInts _ _ _ _ _ _ _ _ _ HL2 HL2 S3 S4).mono ?_
      rintro e w7 ⟨rfl, hb7⟩
      rw [sameL_self]
      clear S4
      replace X0 := X0.below hb7
      replace S := S.below hb7
      replace HC := HC.below hb7
      replace HR := HR.below hb7
      replace S3 := S3.below hb7
      replace hB := bvia hB hb7
      clear hb7
      have x0 := X0.at_ 0 rfl; have x1 := X0.at_ 1 rfl; have x2 := X0.at_ 2 rfl; have lx := X0.lt
      go_wp2_with fail
      refine (hK _ S HC).mono ?_
      rintro e w8 ⟨rfl, hb8⟩
      clear x0 x1 x2 lx
      replace X0 := X0.below hb8
      replace S := S.below hb8
      replace HC := HC.below hb8
      replace HR := HR.below hb8
      replace S3 := S3.below hb8
      replace hB := bvia hB hb8
      clear hb8
      have x0 := X0.at_ 0 rfl; have x1 := X0.at_ 1 rfl; have x2 := X0.at_ 2 rfl; have lx := X0.lt
      go_wp2_with fail
      refine (hK9 _ S HC).mono ?_
      rintro e w9 ⟨rfl, hb9⟩
      clear x0 x1 x2 lx
      replace X0 := X0.below hb9
      replace S := S.below hb9
      replace HC := HC.below hb9
      replace HR := HR.below hb9
      replace S3 := S3.below hb9
      replace hB := bvia hB hb9
      clear hb9
      go_wp2_with fail
      go_ret
      exact ⟨rfl, hB⟩
    · have q1 : (40 : Int) < (n : Int) := by omega
      have q2 : ¬ (n : Int) ≤ 1024 := by omega
      have q3 : 6 < N := by omega
      have q4 : ¬ N ≤ 1000 := by omega
      clear h40 hN6
      go_enter Tryz.func3, Tryz.ntmps3
      go_wp2_with fail
      generalize (w.alloc (.cells #[.int .i64 wide, .int .i64 high, .slice a n c] 24)) = W0 at X0 hB0 ⊢
      have z0 := X0.lt
      have hB := hB0
      refine (awake9 _).mono ?_
      rintro e w1 ⟨rfl, hb1⟩
      replace S := S.below hB0; replace HC := HC.below hB0; replace HR := HR.below hB0
      clear hB0
      replace X0 := X0.below hb1
      replace S := S.below hb1
      replace HC := HC.below hb1
      replace HR := HR.below hb1
      replace hB := bvia hB hb1
      clear hb1
      have x0 := X0.at_ 0 rfl; have x1 := X0.at_ 1 rfl; have x2 := X0.at_ 2 rfl; have lx := X0.lt
      go_wp2_with fail
      refine (hL _ S).mono ?_
      rintro e w2 ⟨b1, d1, rfl, S1, hb2⟩
      clear x0 x1 x2 lx
      replace X0 := X0.below hb2
      replace S := S.below hb2
      replace HC := HC.below hb2
      replace HR := HR.below hb2
      replace hB := bvia hB hb2
      clear hb2
      have x0 := X0.at_ 0 rfl; have x1 := X0.at_ 1 rfl; have x2 := X0.at_ 2 rfl; have lx := X0.lt
      go_wp2_with fail
      refine (hL9 _ S).mono ?_
      rintro e w3 ⟨b2, d2, rfl, S2, hb3⟩
      clear x0 x1 x2 lx
      replace X0 := X0.below hb3
      replace S := S.below hb3
      replace HC := HC.below hb3
      replace HR := HR.below hb3
      replace S1 := S1.below hb3
      replace hB := bvia hB hb3
      clear hb3
      go_wp2_with fail
      refine (ref6_sameInts _ _ _ _ _ _ _ _ _ HL1 HL1 S1 S2).mono ?_
      rintro e w4 ⟨rfl, hb4⟩
      rw [sameL_self]
      clear S1 S2
      replace X0 := X0.below hb4
      replace S := S.below hb4
      replace HC := HC.below hb4
      replace HR := HR.below hb4
      replace hB := bvia hB hb4
      clear hb4
      have x0 := X0.at_ 0 rfl; have x1 := X0.at_ 1 rfl; have x2 := X0.at_ 2 rfl; have lx := X0.lt
      go_wp2_with fail
      refine (hM _ S HC).mono ?_
      rintro e w5 ⟨b3, d3, rfl, S3, hb5⟩
      clear x0 x1 x2 lx
      replace X0 := X0.below hb5
      replace S := S.below hb5
      replace HC := HC.below hb5
      replace HR := HR.below hb5
      replace hB := bvia hB hb5
      clear hb5
      have x0 := X0.at_ 0 rfl; have x1 := X0.at_ 1 rfl; have x2 := X0.at_ 2 rfl; have lx := X0.lt
      go_wp2_with fail
      refine (hM9 _ S HC).mono ?_
      rintro e w6 ⟨b4, d4, rfl, S4, hb6⟩
      clear x0 x1 x2 lx
      replace X0 := X0.below hb6
      replace S := S.below hb6
      replace HC := HC.below hb6
      replace HR := HR.below hb6
      replace S3 := S3.below hb6
      replace hB := bvia hB hb6
      clear hb6
      go_wp2_with fail
      refine (ref6_sameInts _ _ _ _ _ _ _ _ _ HL2 HL2 S3 S4).mono ?_
      rintro e w7 ⟨rfl, hb7⟩
      rw [sameL_self]
      clear S4
      replace X0 := X0.below hb7
      replace S := S.below hb7
      replace HC := HC.below hb7
      replace HR := HR.below hb7
      replace S3 := S3.below hb7
      replace hB := bvia hB hb7
      clear hb7
      have x0 := X0.at_ 0 rfl; have x1 := X0.at_ 1 rfl; have x2 := X0.at_ 2 rfl; have lx := X0.lt
      go_wp2_with fail
      refine (hK _ S HC).mono ?_
      rintro e w8 ⟨rfl, hb8⟩
      clear x0 x1 x2 lx
      replace X0 := X0.below hb8
      replace S := S.below hb8
      replace HC := HC.below hb8
      replace HR := HR.below hb8
      replace S3 := S3.below hb8
      replace hB := bvia hB hb8
      clear hb8
      have x0 := X0.at_ 0 rfl; have x1 := X0.at_ 1 rfl; have x2 := X0.at_ 2 rfl; have lx := X0.lt
      go_wp2_with fail
      refine (hK9 _ S HC).mono ?_
      rintro e w9 ⟨rfl, hb9⟩
      clear x0 x1 x2 lx
      replace X0 := X0.below hb9
      replace S := S.below hb9
      replace HC := HC.below hb9
      replace HR := HR.below hb9
      replace S3 := S3.below hb9
      replace hB := bvia hB hb9
      clear hb9
      go_wp2_with fail
      go_ret
      exact ⟨rfl, hB⟩
  have hcond : validG wide high n g = true ∧ m < 8 := by
    cases hv : validG wide high n g
    · rw [hv] at hE; simp [mapE] at hE
    · refine ⟨rfl, ?_⟩
      rw [hv] at hE
      unfold mapE at hE
      split at hE
      · split at hE
        · split at hE
          · assumption
          · omega
        · omega
      · omega
  obtain ⟨hv, hm8⟩ := hcond
  obtain ⟨a1, a2, a3, a4, a5, a6, a7, a8⟩ := (validG_iff _ _ _ _).1 hv
  obtain ⟨W, rfl⟩ : ∃ W : Nat, wide = W := ⟨wide.toNat, by omega⟩
  obtain ⟨H, rfl⟩ : ∃ H : Nat, high = H := ⟨high.toNat, by omega⟩
  have hn40 : n ≤ 40 := by omega
  have q1 : ¬ (40 : Int) < (n : Int) := by omega
  simp only [Int.toNat_natCast] at *
  have hmr : mapR (validG (W : Int) (H : Int) n g) (vK W m cu) W m cu n = mapS W m cu n := by unfold mapR; rw [if_pos hE]
  have hvM := map_valid (W := W) (H := H) (n := n) (m := m) (g := g) (cu := cu) hv hm8
  have hml := mapS_length W m cu n
  rw [hmr, hE] at hM hM9
  rw [hmr] at HL2
  have hfew : within N 0 1000 = true → 4 * n * (N.toNat * 8) ≤ 100000 := fun h => by
    have h1 := (within_iff _ _ _).1 h
    have : 4 * n * (N.toNat * 8) ≤ 4 * 40 * (6 * 8) := Nat.mul_le_mul (by omega) (by omega)
    omega
  have hnR := fun ao co Y S' SO SR => node_Run (W : Int) (H : Int) a ao rl n n rn c co rc g (fun i => (mapS W m cu n).getD i 0) ru N Y (by omega) (by omega) (by omega) hfew S' SO SR
  have hgR := fun Y S' SR => grid_Run (W : Int) (H : Int) a rl n rn c rc g ru 0 N Y (by omega) (by omega) S' SR
  rw [hvM] at hnR
  rw [hv, times_zero, show (0 : Int).toNat = 0 from rfl] at hgR
  rw [show rnE true (rulesB rn ru) (within N 0 1000) = runE true (rulesB rn ru) (within N 0 1000) from rfl] at hgR
  simp only [Int.toNat_natCast] at hnR hgR
  rw [← gT_run] at hgR
  generalize gT W H rn ru g N.toNat = G at *
  generalize runE true (rulesB rn ru) (within N 0 1000) = E4 at *
  have hnE : erN E4 n ≤ 100000000 := by unfold erN; split <;> omega
  generalize erN E4 n = n4 at *
  generalize erZ E4 (W : Int) = W4 at *
  generalize erZ E4 (H : Int) = H4 at *
  have hSG := fun a' b' ca cb Y S1 S2 => ref6_SameGrid W4 H4 a' b' n4 ca cb G G Y hnE S1 S2 (fun _ _ => rfl)
  generalize mapS W m cu n = L2 at *
  clear a1 a2 a3 a4 a5 a6 a7 a8 hv hE hvM hmr hfew hm8 hnE h40 h11 h30 h20 X0 hB0
  have X0 := Bx.new w #[.int .i64 (W : Int), .int .i64 (H : Int), .slice a n c] 24
  have hB0 : Below w.heap.size w (w.alloc (.cells #[.int .i64 (W : Int), .int .i64 (H : Int), .slice a n c] 24)) := by (repeat' (first | with_reducible assumption | with_reducible exact Below.refl _ _ | with_reducible refine Below.drew ?_ | with_reducible refine below_drewN ?_ _ | with_reducible refine balloc ?_ _ | with_reducible refine bset ?_ ?_ _ | with_reducible refine Below.setCell ?_ ?_ _ | with_reducible refine Below.alloc ?_ ?_ _ | omega | (simp; done) | (simp; omega)))
  have HML := hid hml; clear hml
  rcases (by omega : N ≤ 6 ∨ 1000 < N) with h2 | h2
  · have q3 : ¬ 6 < N := by omega
    clear hN6
    go_enter Tryz.func3, Tryz.ntmps3
    go_wp2_with fail
    generalize (w.alloc (.cells #[.int .i64 (W : Int), .int .i64 (H : Int), .slice a n c] 24)) = W0 at X0 hB0 ⊢
    have z0 := X0.lt
    have hB := hB0
    refine (awake9 _).mono ?_
    rintro e w1 ⟨rfl, hb1⟩
    replace S := S.below hB0; replace HC := HC.below hB0; replace HR := HR.below hB0
    clear hB0
    replace X0 := X0.below hb1
    replace S := S.below hb1
    replace HC := HC.below hb1
    replace HR := HR.below hb1
    replace hB := bvia hB hb1
    clear hb1
    have x0 := X0.at_ 0 rfl; have x1 := X0.at_ 1 rfl; have x2 := X0.at_ 2 rfl; have lx := X0.lt
    go_wp2_with fail
    refine (hL _ S).mono ?_
    rintro e w2 ⟨b1, d1, rfl, S1, hb2⟩
    clear x0 x1 x2 lx
    replace X0 := X0.below hb2
    replace S := S.below hb2
    replace HC := HC.below hb2
    replace HR := HR.below hb2
    replace hB := bvia hB hb2
    clear hb2
    have x0 := X0.at_ 0 rfl; have x1 := X0.at_ 1 rfl; have x2 := X0.at_ 2 rfl; have lx := X0.lt
    go_wp2_with fail
    refine (hL9 _ S).mono ?_
    rintro e w3 ⟨b2, d2, rfl, S2, hb3⟩
    clear x0 x1 x2 lx
    replace X0 := X0.below hb3
    replace S := S.below hb3
    replace HC := HC.below hb3
    replace HR := HR.below hb3
    replace S1 := S1.below hb3
    replace hB := bvia hB hb3
    clear hb3
    go_wp2_with fail
    refine (ref6_sameInts _ _ _ _ _ _ _ _ _ HL1 HL1 S1 S2).mono ?_
    rintro e w4 ⟨rfl, hb4⟩
    rw [sameL_self]
    clear S1 S2
    replace X0 := X0.below hb4
    replace S := S.below hb4
    replace HC := HC.below hb4
    replace HR := HR.below hb4
    replace hB := bvia hB hb4
    clear hb4
    have x0 := X0.at_ 0 rfl; have x1 := X0.at_ 1 rfl; have x2 := X0.at_ 2 rfl; have lx := X0.lt
    go_wp2_with fail
    refine (hM _ S HC).mono ?_
    rintro e w5 ⟨b3, d3, rfl, S3, hb5⟩
    clear x0 x1 x2 lx
    replace X0 := X0.below hb5
    replace S := S.below hb5
    replace HC := HC.below hb5
    replace HR := HR.below hb5
    replace hB := bvia hB hb5
    clear hb5
    have x0 := X0.at_ 0 rfl; have x1 := X0.at_ 1 rfl; have x2 := X0.at_ 2 rfl; have lx := X0.lt
    go_wp2_with fail
    refine (hM9 _ S HC).mono ?_
    rintro e w6 ⟨b4, d4, rfl, S4, hb6⟩
    clear x0 x1 x2 lx
    replace X0 := X0.below hb6
    replace S := S.below hb6
    replace HC := HC.below hb6
    replace HR := HR.below hb6
    replace S3 := S3.below hb6
    replace hB := bvia hB hb6
    clear hb6
    go_wp2_with fail
    refine (ref6_sameInts _ _ _ _ _ _ _ _ _ HL2 HL2 S3 S4).mono ?_
    rintro e w7 ⟨rfl, hb7⟩
    rw [sameL_self]
    clear S4
    replace X0 := X0.below hb7
    replace S := S.below hb7
    replace HC := HC.below hb7
    replace HR := HR.below hb7
    replace S3 := S3.below hb7
    replace hB := bvia hB hb7
    clear hb7
    have x0 := X0.at_ 0 rfl; have x1 := X0.at_ 1 rfl; have x2 := X0.at_ 2 rfl; have lx := X0.lt
    go_wp2_with fail
    refine (hK _ S HC).mono ?_
    rintro e w8 ⟨rfl, hb8⟩
    clear x0 x1 x2 lx
    replace X0 := X0.below hb8
    replace S := S.below hb8
    replace HC := HC.below hb8
    replace HR := HR.below hb8
    replace S3 := S3.below hb8
    replace hB := bvia hB hb8
    clear hb8
    have x0 := X0.at_ 0 rfl; have x1 := X0.at_ 1 rfl; have x2 := X0.at_ 2 rfl; have lx := X0.lt
    go_wp2_with fail
    refine (hK9 _ S HC).mono ?_
    rintro e w9 ⟨rfl, hb9⟩
    clear x0 x1 x2 lx
    replace X0 := X0.below hb9
    replace S := S.below hb9
    replace HC := HC.below hb9
    replace HR := HR.below hb9
    replace S3 := S3.below hb9
    replace hB := bvia hB hb9
    clear hb9
    have x0 := X0.at_ 0 rfl; have x1 := X0.at_ 1 rfl; have x2 := X0.at_ 2 rfl; have lx := X0.lt
    have hml2 := HML.out
    rw [hml2] at S3 ⊢
    clear hml2
    go_wp2_with fail
    refine (hnR b3 d3 _ S S3 HR).mono ?_
    rintro e w11 ⟨a11, c11, rfl, S11, _, hb11⟩
    have hB11 := balloc (bvia hB hb11) (.cells #[.int .i64 W4, .int .i64 H4, .slice a11 n4 c11] 24)
    replace X0 := (X0.below hb11).alloc (.cells #[.int .i64 W4, .int .i64 H4, .slice a11 n4 c11] 24)
    replace S := (S.below hb11).alloc (.cells #[.int .i64 W4, .int .i64 H4, .slice a11 n4 c11] 24)
    replace HR := (HR.below hb11).alloc (.cells #[.int .i64 W4, .int .i64 H4, .slice a11 n4 c11] 24)
    have S12 := S11.alloc (.cells #[.int .i64 W4, .int .i64 H4, .slice a11 n4 c11] 24)
    have XA := Bx.new w11 #[.int .i64 W4, .int .i64 H4, .slice a11 n4 c11] 24
    clear x0 x1 x2 lx hb11 hB S11 hnR S3
    have x0 := X0.at_ 0 rfl; have x1 := X0.at_ 1 rfl; have x2 := X0.at_ 2 rfl; have lx := X0.lt
    go_wp2_with fail
    refine (hgR _ S HR).mono ?_
    rintro e w13 ⟨a13, c13, rfl, S13, _, hb13⟩
    have hB13 := balloc (bvia hB11 hb13) (.cells #[.int .i64 W4, .int .i64 H4, .slice a13 n4 c13] 24)
    replace XA := (XA.below hb13).alloc (.cells #[.int .i64 W4, .int .i64 H4, .slice a13 n4 c13] 24)
    replace S12 := (S12.below hb13).alloc (.cells #[.int .i64 W4, .int .i64 H4, .slice a13 n4 c13] 24)
    have S14 := S13.alloc (.cells #[.int .i64 W4, .int .i64 H4, .slice a13 n4 c13] 24)
    have XB := Bx.new w13 #[.int .i64 W4, .int .i64 H4, .slice a13 n4 c13] 24
    clear x0 x1 x2 lx hb13 hB11 S13 hgR X0
    have u0 := XA.at_ 0 rfl; have u1 := XA.at_ 1 rfl; have u2 := XA.at_ 2 rfl; have lu := XA.lt
    have v0 := XB.at_ 0 rfl; have v1 := XB.at_ 1 rfl; have v2 := XB.at_ 2 rfl; have lv := XB.lt
    go_wp2_with fail
    refine (hSG a11 a13 c11 c13 _ S12 S14).mono ?_
    rintro e w15 ⟨rfl, hb15⟩
    go_wp2_with fail
    go_ret
    exact ⟨rfl, bvia hB13 hb15⟩
  · have q3 : 6 < N := by omega
    have q4 : ¬ N ≤ 1000 := by omega
    clear hN6
    go_enter Tryz.func3, Tryz.ntmps3
    go_wp2_with fail
    generalize (w.alloc (.cells #[.int .i64 (W : Int), .int .i64 (H : Int), .slice a n c] 24)) = W0 at X0 hB0 ⊢
    have z0 := X0.lt
    have hB := hB0
    refine (awake9 _).mono ?_
    rintro e w1 ⟨rfl, hb1⟩
    replace S := S.below hB0; replace HC := HC.below hB0; replace HR := HR.below hB0
    clear hB0
    replace X0 := X0.below hb1
    replace S := S.below hb1
    replace HC := HC.below hb1
    replace HR := HR.below hb1
    replace hB := bvia hB hb1
    clear hb1
    have x0 := X0.at_ 0 rfl; have x1 := X0.at_ 1 rfl; have x2 := X0.at_ 2 rfl; have lx := X0.lt
    go_wp2_with fail
    refine (hL _ S).mono ?_
    rintro e w2 ⟨b1, d1, rfl, S1, hb2⟩
    clear x0 x1 x2 lx
    replace X0 := X0.below hb2
    replace S := S.below hb2
    replace HC := HC.below hb2
    replace HR := HR.below hb2
    replace hB := bvia hB hb2
    clear hb2
    have x0 := X0.at_ 0 rfl; have x1 := X0.at_ 1 rfl; have x2 := X0.at_ 2 rfl; have lx := X0.lt
    go_wp2_with fail
    refine (hL9 _ S).mono ?_
    rintro e w3 ⟨b2, d2, rfl, S2, hb3⟩
    clear x0 x1 x2 lx
    replace X0 := X0.below hb3
    replace S := S.below hb3
    replace HC := HC.below hb3
    replace HR := HR.below hb3
    replace S1 := S1.below hb3
    replace hB := bvia hB hb3
    clear hb3
    go_wp2_with fail
    refine (ref6_sameInts _ _ _ _ _ _ _ _ _ HL1 HL1 S1 S2).mono ?_
    rintro e w4 ⟨rfl, hb4⟩
    rw [sameL_self]
    clear S1 S2
    replace X0 := X0.below hb4
    replace S := S.below hb4
    replace HC := HC.below hb4
    replace HR := HR.below hb4
    replace hB := bvia hB hb4
    clear hb4
    have x0 := X0.at_ 0 rfl; have x1 := X0.at_ 1 rfl; have x2 := X0.at_ 2 rfl; have lx := X0.lt
    go_wp2_with fail
    refine (hM _ S HC).mono ?_
    rintro e w5 ⟨b3, d3, rfl, S3, hb5⟩
    clear x0 x1 x2 lx
    replace X0 := X0.below hb5
    replace S := S.below hb5
    replace HC := HC.below hb5
    replace HR := HR.below hb5
    replace hB := bvia hB hb5
    clear hb5
    have x0 := X0.at_ 0 rfl; have x1 := X0.at_ 1 rfl; have x2 := X0.at_ 2 rfl; have lx := X0.lt
    go_wp2_with fail
    refine (hM9 _ S HC).mono ?_
    rintro e w6 ⟨b4, d4, rfl, S4, hb6⟩
    clear x0 x1 x2 lx
    replace X0 := X0.below hb6
    replace S := S.below hb6
    replace HC := HC.below hb6
    replace HR := HR.below hb6
    replace S3 := S3.below hb6
    replace hB := bvia hB hb6
    clear hb6
    go_wp2_with fail
    refine (ref6_sameInts _ _ _ _ _ _ _ _ _ HL2 HL2 S3 S4).mono ?_
    rintro e w7 ⟨rfl, hb7⟩
    rw [sameL_self]
    clear S4
    replace X0 := X0.below hb7
    replace S := S.below hb7
    replace HC := HC.below hb7
    replace HR := HR.below hb7
    replace S3 := S3.below hb7
    replace hB := bvia hB hb7
    clear hb7
    have x0 := X0.at_ 0 rfl; have x1 := X0.at_ 1 rfl; have x2 := X0.at_ 2 rfl; have lx := X0.lt
    go_wp2_with fail
    refine (hK _ S HC).mono ?_
    rintro e w8 ⟨rfl, hb8⟩
    clear x0 x1 x2 lx
    replace X0 := X0.below hb8
    replace S := S.below hb8
    replace HC := HC.below hb8
    replace HR := HR.below hb8
    replace S3 := S3.below hb8
    replace hB := bvia hB hb8
    clear hb8
    have x0 := X0.at_ 0 rfl; have x1 := X0.at_ 1 rfl; have x2 := X0.at_ 2 rfl; have lx := X0.lt
    go_wp2_with fail
    refine (hK9 _ S HC).mono ?_
    rintro e w9 ⟨rfl, hb9⟩
    clear x0 x1 x2 lx
    replace X0 := X0.below hb9
    replace S := S.below hb9
    replace HC := HC.below hb9
    replace HR := HR.below hb9
    replace S3 := S3.below hb9
    replace hB := bvia hB hb9
    clear hb9
    have x0 := X0.at_ 0 rfl; have x1 := X0.at_ 1 rfl; have x2 := X0.at_ 2 rfl; have lx := X0.lt
    have hml2 := HML.out
    rw [hml2] at S3 ⊢
    clear hml2
    go_wp2_with fail
    refine (hnR b3 d3 _ S S3 HR).mono ?_
    rintro e w11 ⟨a11, c11, rfl, S11, _, hb11⟩
    have hB11 := balloc (bvia hB hb11) (.cells #[.int .i64 W4, .int .i64 H4, .slice a11 n4 c11] 24)
    replace X0 := (X0.below hb11).alloc (.cells #[.int .i64 W4, .int .i64 H4, .slice a11 n4 c11] 24)
    replace S := (S.below hb11).alloc (.cells #[.int .i64 W4, .int .i64 H4, .slice a11 n4 c11] 24)
    replace HR := (HR.below hb11).alloc (.cells #[.int .i64 W4, .int .i64 H4, .slice a11 n4 c11] 24)
    have S12 := S11.alloc (.cells #[.int .i64 W4, .int .i64 H4, .slice a11 n4 c11] 24)
    have XA := Bx.new w11 #[.int .i64 W4, .int .i64 H4, .slice a11 n4 c11] 24
    clear x0 x1 x2 lx hb11 hB S11 hnR S3
    have x0 := X0.at_ 0 rfl; have x1 := X0.at_ 1 rfl; have x2 := X0.at_ 2 rfl; have lx := X0.lt
    go_wp2_with fail
    refine (hgR _ S HR).mono ?_
    rintro e w13 ⟨a13, c13, rfl, S13, _, hb13⟩
    have hB13 := balloc (bvia hB11 hb13) (.cells #[.int .i64 W4, .int .i64 H4, .slice a13 n4 c13] 24)
    replace XA := (XA.below hb13).alloc (.cells #[.int .i64 W4, .int .i64 H4, .slice a13 n4 c13] 24)
    replace S12 := (S12.below hb13).alloc (.cells #[.int .i64 W4, .int .i64 H4, .slice a13 n4 c13] 24)
    have S14 := S13.alloc (.cells #[.int .i64 W4, .int .i64 H4, .slice a13 n4 c13] 24)
    have XB := Bx.new w13 #[.int .i64 W4, .int .i64 H4, .slice a13 n4 c13] 24
    clear x0 x1 x2 lx hb13 hB11 S13 hgR X0
    have u0 := XA.at_ 0 rfl; have u1 := XA.at_ 1 rfl; have u2 := XA.at_ 2 rfl; have lu := XA.lt
    have v0 := XB.at_ 0 rfl; have v1 := XB.at_ 1 rfl; have v2 := XB.at_ 2 rfl; have lv := XB.lt
    go_wp2_with fail
    refine (hSG a11 a13 c11 c13 _ S12 S14).mono ?_
    rintro e w15 ⟨rfl, hb15⟩
    go_wp2_with fail
    go_ret
    exact ⟨rfl, bvia hB13 hb15⟩
end Go.Proofs.YteabkcbajpjkoaaGreat
/- What a land reads as, as words on a world. What a state of sites and a post reads as, as words on a world. How a slice of rules reads: opened to cells. Lifting: a turn (a site and a post). Lifting: what an argument of the type Order is in the model. -/
namespace Go.Proofs.YteabkcbajpjkoaaGreat
open Go Go.RowKit Go.ChangeShapes Go.WideShapes
set_option linter.unusedVariables false
section
variable {H : Type} {enc : TypeId × Value → H} {w : World} {spare : Nat → Bool} {held : Bool} {fuel : Nat} {cs : List Value} {x : DataW H × List MemPlace}
end
end Go.Proofs.YteabkcbajpjkoaaGreat
namespace Go.Proofs.YteabkcbajpjkoaaGreat
open Go Go.RowKit Go.ChangeShapes Go.WideShapes Go.ChangeAt Go.Deep
set_option linter.unusedVariables false
section
variable {H : Type} {enc : TypeId × Value → H} {P : Program} {w : World} {spare : Nat → Bool} {held : Bool} {fuel : Nat} {cs : List Value} {x : DataW H × List MemPlace}
end
section
variable {H : Type} {enc : TypeId × Value → H} {w : World} {spare : Nat → Bool} {held : Bool} {fuel : Nat} {cs : List Value} {x : DataW H × List MemPlace}
end
end Go.Proofs.YteabkcbajpjkoaaGreat
namespace Go.Proofs.YteabkcbajpjkoaaGreat
open Go.ChangeShapes Go.WideShapes Go.ChangeAt Go.RowKit Go.Deep
set_option linter.unusedVariables false
theorem Tryz.cells91 : Tryz.prog.cellsOf 91 = 2 := by kernel_rfl
section
variable {H : Type} {enc : TypeId × Value → H} {w : World} {spare : Nat → Bool} {held : Bool} {fuel : Nat} {cs : List Value} {x : DataW H × List MemPlace}
theorem lift_rule2 (h : DataW.trod enc Tryz.prog w 0 spare held fuel 91 cs = some x) : ∃ p : Int × Int, cs = [.int .i64 p.1, .int .i64 p.2] := by
  obtain ⟨y0, y1, m, hlen, h0, h1⟩ := trod_fields2 Tryz.underlying91 Tryz.cells91 Tryz.cells3 Tryz.cells3 h
  obtain ⟨v0, v1, rfl⟩ := list2 hlen
  obtain ⟨n0, e0, _⟩ := lift_int h0
  obtain ⟨n1, e1, _⟩ := lift_int h1
  have e0' : v0 = .int .i64 n0 := by simpa using e0
  have e1' : v1 = .int .i64 n1 := by simpa using e1
  subst e0' e1'
  exact ⟨(n0, n1), rfl⟩
theorem lift_rules (h : DataW.trod enc Tryz.prog w 0 spare held fuel 26 cs = some x) :
    ∃ (a : Option Addr) (n c : Nat) (p : Nat → Int × Int), cs = [.slice a n c] ∧ n ≤ maxLen ∧ n ≤ c ∧ c ≤ maxLen ∧ Sr w a n p := by
  rcases open_slice Tryz.underlying26 h with ⟨hcs, _⟩ | ⟨a, len, cap, m, nf, D, Pl, hcs, _, hl, hm, hmm, _, hi⟩
  · exact ⟨none, 0, 0, fun _ => (0, 0), hcs, by simp, by simp, by simp, fun k hk => by omega⟩
  · have hlm : len ≤ m := by rw [hmm]; split <;> omega
    rw [Tryz.cells91] at hi
    have each : ∀ i, i < m → ∃ p : Int × Int, a.spot = none ∧ a.block < w.heap.size ∧ w.cell? ⟨a.block, a.off + i * 2, none⟩ = some (.int .i64 p.1) ∧ w.cell? ⟨a.block, a.off + i * 2 + 1, none⟩ = some (.int .i64 p.2) := by
      intro i him
      obtain ⟨cs', hc, ht⟩ := hi i him
      obtain ⟨c, rfl⟩ := lift_rule2 ht
      obtain ⟨_, hcl, hat⟩ := World.cells?_some hc
      obtain ⟨_, hc0, ht0⟩ := hi 0 (by omega)
      obtain ⟨c0, rfl⟩ := lift_rule2 ht0
      obtain ⟨_, _, hat0⟩ := World.cells?_some hc0
      have z0 := hat0 0 (by omega)
      rw [Nat.zero_mul] at z0
      have hspot : a.spot = none := by simpa [Addr.add] using World.cell?_spot z0
      have hblk : a.block < w.heap.size := by simpa [Addr.add] using World.block_lt_of_cell? w _ z0
      obtain ⟨b, off, spot⟩ := a
      simp only at hspot hblk
      subst hspot
      have add : ∀ off p : Nat, (Addr.add ⟨b, off, none⟩ p : Addr) = ⟨b, off + p, none⟩ := fun off p => by by_cases h : p = 0 <;> simp [Addr.add, h]
      have r0 := hat 0 (by omega)
      have r1 := hat 1 (by omega)
      simp only [add] at r0 r1
      exact ⟨c, rfl, hblk, r0, r1⟩
    refine ⟨some a, len, cap, fun i => if hi : i < m then (each i hi).choose else (0, 0), hcs, Nat.le_trans hl hm, hl, hm, fun k hk => ?_⟩
    have hkm : k < m := by omega
    obtain ⟨s1, s2, s3, s4⟩ := (each k hkm).choose_spec
    refine ⟨a.block, a.off, ?_, s2, ?_, ?_⟩
    · obtain ⟨b, off, spot⟩ := a
      simp only at s1
      rw [s1]
    · simp only [hkm, dite_true]; exact s3
    · simp only [hkm, dite_true]; exact s4
end
end Go.Proofs.YteabkcbajpjkoaaGreat
namespace Go.Proofs.YteabkcbajpjkoaaGreat
open Go Go.RowKit Go.ChangeShapes Go.WideShapes
set_option linter.unusedVariables false
section
variable {H : Type} {enc : TypeId × Value → H} {w : World} {spare : Nat → Bool} {held : Bool} {fuel : Nat} {cs : List Value} {x : DataW H × List MemPlace}
end
end Go.Proofs.YteabkcbajpjkoaaGreat
namespace Go.Proofs.YteabkcbajpjkoaaGreat
open Go Go.RowKit Go.ChangeShapes Go.WideShapes
set_option linter.unusedVariables false
section
variable {H : Type} {enc : TypeId × Value → H} {w : World} {spare : Nat → Bool} {held : Bool} {fuel : Nat} {cs : List Value} {x : DataW H × List MemPlace}
end
end Go.Proofs.YteabkcbajpjkoaaGreat
