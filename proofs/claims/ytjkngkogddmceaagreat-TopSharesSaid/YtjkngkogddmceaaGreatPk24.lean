/- Walks: SameGrid of the reference, the example of chapter 9; the walk of the law TopShares. -/
import Derived.Test.YtjkngkogddmceaaGreatPk19
import Derived.Test.YtjkngkogddmceaaGreatPk23
import Derived.Test.YtjkngkogddmceaaGreatPk13
import Derived.Test.YtjkngkogddmceaaGreatPk5
import Derived.Test.YtjkngkogddmceaaGreatPk16
namespace Go.Proofs.YtjkngkogddmceaaGreat
open Go Go.RowKit
attribute [local go_sem] Oper.semAt_some
set_option linter.unusedVariables false
set_option linter.unusedSimpArgs false
set_option maxRecDepth 100000 in
set_option maxHeartbeats 1000000 in
theorem ref6_SameGrid (W H : Int) (a b : Option Addr) (n ca cb : Nat) (g h : Nat → C4) (w : World) (hn : n ≤ 100000000) (S : Sc w a n g) (S' : Sc w b n h) (he : ∀ k, k < n → g k = h k) :
    Calls Tryz.prog 17 #[.agg #[.int .i64 W, .int .i64 H, .slice a n ca], .agg #[.int .i64 W, .int .i64 H, .slice b n cb]] w fun e w' => e = .returned (.bool true) ∧ Below w.heap.size w w' := by
  have HE := hid he
  clear he
  have X0 := (Bx.new w #[.int .i64 W, .int .i64 H, .slice a n ca] 24).alloc (.cells #[.int .i64 W, .int .i64 H, .slice b n cb] 24)
  have X1 := Bx.new (w.alloc (.cells #[.int .i64 W, .int .i64 H, .slice a n ca] 24)) #[.int .i64 W, .int .i64 H, .slice b n cb] 24
  simp only [World.size_alloc] at X1
  have hB0 : Below w.heap.size w ((w.alloc (.cells #[.int .i64 W, .int .i64 H, .slice a n ca] 24)).alloc (.cells #[.int .i64 W, .int .i64 H, .slice b n cb] 24)) := by (repeat' (first | with_reducible assumption | with_reducible exact Below.refl _ _ | with_reducible refine Below.drew ?_ | with_reducible refine below_drewN ?_ _ | with_reducible refine balloc ?_ _ | with_reducible refine bset ?_ ?_ _ | with_reducible refine Below.setCell ?_ ?_ _ | with_reducible refine Below.alloc ?_ ?_ _ | omega | (simp; done) | (simp; omega)))
  go_enter Tryz.func17, Tryz.ntmps17
  go_wp2_with fail
  generalize ((w.alloc (.cells #[.int .i64 W, .int .i64 H, .slice a n ca] 24)).alloc (.cells #[.int .i64 W, .int .i64 H, .slice b n cb] 24)) = W0 at X0 X1 hB0 ⊢
  have z0 := X0.lt
  have z1 := X1.lt
  have hsz := hB0.size
  go_loopw [5] (fun i wr => ∃ k : Nat, k ≤ n ∧ i = .int .i64 k ∧ Below W0.heap.size W0 wr) (fun i _ => n - (intOf i).toNat)
  case atStart => exact ⟨0, Nat.zero_le _, rfl, Below.refl _ _⟩
  case round =>
    obtain ⟨k, hk, rfl, hB⟩ := hrel
    have Y0 := X0.below hB; have Y1 := X1.below hB
    have y2 := Y0.at_ 2 rfl; have z2 := Y1.at_ 2 rfl; have ly := Y0.lt; have lz := Y1.lt
    have hBw := bvia hB0 hB
    by_cases hlt : k < n
    · obtain ⟨b1, o1, rfl, _, c0, c1, c2, c3⟩ := (S.below hBw) k hlt
      obtain ⟨b2, o2, rfl, _, d0, d1, d2, d3⟩ := (S'.below hBw) k hlt
      rw [← HE.out k hlt] at d0 d1 d2 d3
      have hne := neq_cell (g k).e (g k).n (g k).w (g k).s (g k).e (g k).n (g k).w (g k).s
      simp only [beq_self_eq_true, Bool.and_self, Bool.not_true] at hne
      go_wp2_with fail
      go_quiet (fail)
      go_wp2_with fail
      go_roundw
      case rel => exact ⟨k + 1, by omega, by go_num, by (repeat' (first | with_reducible assumption | with_reducible exact Below.refl _ _ | with_reducible refine Below.drew ?_ | with_reducible refine below_drewN ?_ _ | with_reducible refine balloc ?_ _ | with_reducible refine bset ?_ ?_ _ | with_reducible refine Below.setCell ?_ ?_ _ | with_reducible refine Below.alloc ?_ ?_ _ | omega | (simp; done) | (simp; omega)))⟩
      case measure => simp [intOf]; omega
    · go_wp2_with fail
      go_ret
      exact ⟨rfl, hBw⟩
def ex23 : Nat → Int := fun k => [2, 3].getD k 0
theorem ex23_least : leaR ex23 2 1 = 5 := by decide +kernel
theorem ex23_ask : askS (vL 2 ex23) (within 1 1 16) = 0 := by decide +kernel
theorem awake9T (w : World) : Calls Tryz.prog 7 #[] w fun e w' => e = .returned (.bool true) ∧ Below w.heap.size w w' := by
  have hS := sl_two w 2 3
  have hB := below_alloc w (.cells #[.int .i64 2, .int .i64 3] 3)
  have hl := share_Least (some ⟨w.heap.size, 0, none⟩) 2 2 1 ex23 (w.alloc (.cells #[.int .i64 2, .int .i64 3] 3)) (by omega) hS
  rw [ex23_least, ex23_ask] at hl
  go_enter Tryz.func7, Tryz.ntmps7
  go_wp2_with fail
  refine hl.mono ?_
  rintro e w1 ⟨rfl, hb1⟩
  go_wp2_with fail
  go_ret
  exact ⟨rfl, bvia hB hb1⟩
theorem lea_nn {f : Nat → Int} {n : Nat} {k : Int} (h : vL n f = true) (hk : within k 1 16 = true) : 0 ≤ leaR f n k := by
  have h2 := (within_iff _ _ _).1 hk
  have e : leaR f n k = leastL f n k.toNat := by simp [leaR, h, hk]
  rw [e]
  exact leastL_nonneg (validL_nonneg ((vL_iff _ _).1 h)) (by omega)
set_option maxRecDepth 100000 in
set_option maxHeartbeats 8000000 in
theorem walk_topShares (wide high : Int) (a rl : Option Addr) (n rn c rc : Nat) (g : Nat → C4) (ru : Nat → Int × Int) (k N : Int) (w : World) (hn : n ≤ maxLen) (hrn : rn ≤ maxLen) (S : Sc w a n g) (HR : Sr w rl rn ru) :
    Calls Tryz.prog 3 #[.agg #[.int .i64 wide, .int .i64 high, .slice a n c], .slice rl rn rc, .int .i64 k, .int .i64 N] w fun e w' => e = .returned (.bool true) ∧ Below w.heap.size w w' := by
  have X0 := Bx.new w #[.int .i64 wide, .int .i64 high, .slice a n c] 24
  have hB0 : Below w.heap.size w (w.alloc (.cells #[.int .i64 wide, .int .i64 high, .slice a n c] 24)) := by (repeat' (first | with_reducible assumption | with_reducible exact Below.refl _ _ | with_reducible refine Below.drew ?_ | with_reducible refine below_drewN ?_ _ | with_reducible refine balloc ?_ _ | with_reducible refine bset ?_ ?_ _ | with_reducible refine Below.setCell ?_ ?_ _ | with_reducible refine Below.alloc ?_ ?_ _ | omega | (simp; done) | (simp; omega)))
  by_cases h40 : 40 < n
  · have q1 : (40 : Int) < (n : Int) := by omega
    go_enter Tryz.func3, Tryz.ntmps3
    go_wp2_with fail
    generalize (w.alloc (.cells #[.int .i64 wide, .int .i64 high, .slice a n c] 24)) = W0 at X0 hB0 ⊢
    have z0 := X0.lt
    refine (awake9T _).mono ?_
    rintro e w1 ⟨rfl, hb1⟩
    go_wp2
    go_ret
    exact ⟨rfl, bvia hB0 hb1⟩
  have q1 : ¬ (40 : Int) < (n : Int) := by omega
  by_cases h8 : 8 < rn
  · have q2 : (8 : Int) < (rn : Int) := by omega
    go_enter Tryz.func3, Tryz.ntmps3
    go_wp2_with fail
    generalize (w.alloc (.cells #[.int .i64 wide, .int .i64 high, .slice a n c] 24)) = W0 at X0 hB0 ⊢
    have z0 := X0.lt
    refine (awake9T _).mono ?_
    rintro e w1 ⟨rfl, hb1⟩
    go_wp2
    go_ret
    exact ⟨rfl, bvia hB0 hb1⟩
  have q2 : ¬ (8 : Int) < (rn : Int) := by omega
  have hru := fun Y SR => ref1_validRules rl rn rc ru Y (by omega) SR
  have hvl := fun Y S' => ref2_valid wide high a n c g Y (by omega) S'
  cases hr : rulesB rn ru
  · rw [hr] at hru
    go_enter Tryz.func3, Tryz.ntmps3
    go_wp2_with fail
    generalize (w.alloc (.cells #[.int .i64 wide, .int .i64 high, .slice a n c] 24)) = W0 at X0 hB0 ⊢
    have z0 := X0.lt
    refine (hru _ (HR.below hB0)).mono ?_
    rintro e w1 ⟨rfl, hb1⟩
    have hB1 := bvia hB0 hb1
    replace X0 := X0.below hb1
    have x0 := X0.at_ 0 rfl; have x1 := X0.at_ 1 rfl; have x2 := X0.at_ 2 rfl; have lx := X0.lt
    go_wp2_with fail
    refine (awake9T _).mono ?_
    rintro e w3 ⟨rfl, hb3⟩
    go_wp2
    go_ret
    exact ⟨rfl, bvia hB1 hb3⟩
  rw [hr] at hru
  cases hv : validG wide high n g
  · rw [hv] at hvl
    go_enter Tryz.func3, Tryz.ntmps3
    go_wp2_with fail
    generalize (w.alloc (.cells #[.int .i64 wide, .int .i64 high, .slice a n c] 24)) = W0 at X0 hB0 ⊢
    have z0 := X0.lt
    refine (hru _ (HR.below hB0)).mono ?_
    rintro e w1 ⟨rfl, hb1⟩
    have hB1 := bvia hB0 hb1
    replace X0 := X0.below hb1
    have x0 := X0.at_ 0 rfl; have x1 := X0.at_ 1 rfl; have x2 := X0.at_ 2 rfl; have lx := X0.lt
    go_wp2_with fail
    refine (hvl _ (S.below hB1)).mono ?_
    rintro e w2 ⟨rfl, hb2⟩
    have hB2 := bvia hB1 hb2
    replace X0 := X0.below hb2
    clear x0 x1 x2 lx
    go_wp2_with fail
    refine (awake9T _).mono ?_
    rintro e w3 ⟨rfl, hb3⟩
    go_wp2
    go_ret
    exact ⟨rfl, bvia hB2 hb3⟩
  rw [hv] at hvl
  by_cases hk1 : k < 1
  · skip
    go_enter Tryz.func3, Tryz.ntmps3
    go_wp2_with fail
    generalize (w.alloc (.cells #[.int .i64 wide, .int .i64 high, .slice a n c] 24)) = W0 at X0 hB0 ⊢
    have z0 := X0.lt
    refine (hru _ (HR.below hB0)).mono ?_
    rintro e w1 ⟨rfl, hb1⟩
    have hB1 := bvia hB0 hb1
    replace X0 := X0.below hb1
    have x0 := X0.at_ 0 rfl; have x1 := X0.at_ 1 rfl; have x2 := X0.at_ 2 rfl; have lx := X0.lt
    go_wp2_with fail
    refine (hvl _ (S.below hB1)).mono ?_
    rintro e w2 ⟨rfl, hb2⟩
    have hB2 := bvia hB1 hb2
    replace X0 := X0.below hb2
    clear x0 x1 x2 lx
    go_wp2_with fail
    refine (awake9T _).mono ?_
    rintro e w3 ⟨rfl, hb3⟩
    go_wp2
    go_ret
    exact ⟨rfl, bvia hB2 hb3⟩
  by_cases hk8 : 8 < k
  · skip
    go_enter Tryz.func3, Tryz.ntmps3
    go_wp2_with fail
    generalize (w.alloc (.cells #[.int .i64 wide, .int .i64 high, .slice a n c] 24)) = W0 at X0 hB0 ⊢
    have z0 := X0.lt
    refine (hru _ (HR.below hB0)).mono ?_
    rintro e w1 ⟨rfl, hb1⟩
    have hB1 := bvia hB0 hb1
    replace X0 := X0.below hb1
    have x0 := X0.at_ 0 rfl; have x1 := X0.at_ 1 rfl; have x2 := X0.at_ 2 rfl; have lx := X0.lt
    go_wp2_with fail
    refine (hvl _ (S.below hB1)).mono ?_
    rintro e w2 ⟨rfl, hb2⟩
    have hB2 := bvia hB1 hb2
    replace X0 := X0.below hb2
    clear x0 x1 x2 lx
    go_wp2_with fail
    refine (awake9T _).mono ?_
    rintro e w3 ⟨rfl, hb3⟩
    go_wp2
    go_ret
    exact ⟨rfl, bvia hB2 hb3⟩
  by_cases hN0 : N < 0
  · skip
    go_enter Tryz.func3, Tryz.ntmps3
    go_wp2_with fail
    generalize (w.alloc (.cells #[.int .i64 wide, .int .i64 high, .slice a n c] 24)) = W0 at X0 hB0 ⊢
    have z0 := X0.lt
    refine (hru _ (HR.below hB0)).mono ?_
    rintro e w1 ⟨rfl, hb1⟩
    have hB1 := bvia hB0 hb1
    replace X0 := X0.below hb1
    have x0 := X0.at_ 0 rfl; have x1 := X0.at_ 1 rfl; have x2 := X0.at_ 2 rfl; have lx := X0.lt
    go_wp2_with fail
    refine (hvl _ (S.below hB1)).mono ?_
    rintro e w2 ⟨rfl, hb2⟩
    have hB2 := bvia hB1 hb2
    replace X0 := X0.below hb2
    clear x0 x1 x2 lx
    go_wp2_with fail
    refine (awake9T _).mono ?_
    rintro e w3 ⟨rfl, hb3⟩
    go_wp2
    go_ret
    exact ⟨rfl, bvia hB2 hb3⟩
  by_cases hN5 : 5 < N
  · skip
    go_enter Tryz.func3, Tryz.ntmps3
    go_wp2_with fail
    generalize (w.alloc (.cells #[.int .i64 wide, .int .i64 high, .slice a n c] 24)) = W0 at X0 hB0 ⊢
    have z0 := X0.lt
    refine (hru _ (HR.below hB0)).mono ?_
    rintro e w1 ⟨rfl, hb1⟩
    have hB1 := bvia hB0 hb1
    replace X0 := X0.below hb1
    have x0 := X0.at_ 0 rfl; have x1 := X0.at_ 1 rfl; have x2 := X0.at_ 2 rfl; have lx := X0.lt
    go_wp2_with fail
    refine (hvl _ (S.below hB1)).mono ?_
    rintro e w2 ⟨rfl, hb2⟩
    have hB2 := bvia hB1 hb2
    replace X0 := X0.below hb2
    clear x0 x1 x2 lx
    go_wp2_with fail
    refine (awake9T _).mono ?_
    rintro e w3 ⟨rfl, hb3⟩
    go_wp2
    go_ret
    exact ⟨rfl, bvia hB2 hb3⟩
  obtain ⟨a1, a2, a3, a4, a5, a6, a7, a8⟩ := (validG_iff _ _ _ _).1 hv
  obtain ⟨W, rfl⟩ : ∃ W : Nat, wide = W := ⟨wide.toNat, by omega⟩
  obtain ⟨H, rfl⟩ : ∃ H : Nat, high = H := ⟨high.toNat, by omega⟩
  have hnn : n = W * H := by exact_mod_cast a6
  have hLo := fun a' c' g' Y S' => share_Loads (W : Int) (H : Int) a' n c' g' Y (by omega) S'
  have hLo1 := fun Y S' => hLo a c g Y S'
  rw [hv] at hLo1
  simp only [Int.toNat_natCast] at hLo hLo1
  have hvL : vL W (colTo W g n) = true := load_valid hv
  have hwk : within k 1 16 = true := (within_iff _ _ _).2 ⟨by omega, by omega⟩
  have hask : askS (vL W (colTo W g n)) (within k 1 16) = 0 := by rw [hvL, hwk]; rfl
  obtain ⟨b1, b2, b3⟩ := lea_best hask
  obtain ⟨v1, v2⟩ := ev_cuts hvL hwk
  have hle := lea_cuts hask (c := fun i => (evL (colTo W g n) W k).getD i 0) (m := (evL (colTo W g n) W k).length) (by rw [hvL, v1]; rfl) v2
  have hnn0 := lea_nn hvL hwk
  have hpr : leaR (colTo W g n) W k = 0 → prE (colTo W g n) W k = 8 := fun h => by
    have e : leaR (colTo W g n) W k = leastL (colTo W g n) W k.toNat := by simp [leaR, hvL, hwk]
    unfold prE
    rw [hvL, hwk, ← e, h]
    rfl
  have hpz : leaR (colTo W g n) W k ≠ 0 → prE (colTo W g n) W k = 0 := fun h => by
    have e : leaR (colTo W g n) W k = leastL (colTo W g n) W k.toNat := by simp [leaR, hvL, hwk]
    unfold prE
    rw [hvL, hwk, ← e]
    simp [h]
  have hpv := fun h => pv_proof (f := colTo W g n) (n := W) (k := k) (hpz h)
  have hlb := leaR_bd (colTo W g n) W k
  have hgk := gT_ok (rn := rn) (ru := ru) (W := W) (H := H) (g := g) ⟨by rw [← hnn]; exact a7, by rw [← hnn]; exact a8⟩ N.toNat
  have hvk := (vK_iff _ _ _).1 (askS_zero b1).2
  have hBe := fun b Y R => share_Best (some ⟨b, 0, none⟩) W W k (colTo W g n) Y (by omega) (Nat.le_refl _) (by simp [maxLen]; omega) R
  have hEv := fun b Y R => share_Even (some ⟨b, 0, none⟩) W W k (colTo W g n) Y (by omega) R
  have hP1 := fun b ac cc Y R RC => share_Peak (some ⟨b, 0, none⟩) ac W (besL (colTo W g n) W k).length W cc (colTo W g n) (fun i => (besL (colTo W g n) W k).getD i 0) Y (by omega) (by omega) (Nat.le_refl _) (by simp [maxLen]; omega) R RC
  have hP2 := fun b ac cc Y R RC => share_Peak (some ⟨b, 0, none⟩) ac W (evL (colTo W g n) W k).length W cc (colTo W g n) (fun i => (evL (colTo W g n) W k).getD i 0) Y (by omega) (by omega) (Nat.le_refl _) (by simp [maxLen]; omega) R RC
  rw [hask] at hBe hEv
  rw [b1, b2] at hP1
  rw [show askS (vL W (colTo W g n)) (vK W (evL (colTo W g n) W k).length fun i => (evL (colTo W g n) W k).getD i 0) = 0 from by rw [hvL, v1]; rfl] at hP2
  have hPr := fun b Y R => share_Proof (some ⟨b, 0, none⟩) W W k (colTo W g n) Y (by omega) R
  have hPv := fun b ap cp Y R RP => share_Proves (some ⟨b, 0, none⟩) ap W W (prL (colTo W g n) W k).length cp k (leaR (colTo W g n) W k - 1) (colTo W g n) (fun i => (prL (colTo W g n) W k).getD i (0, 0)) Y (by omega) (by have := prL_length (colTo W g n) W k; omega) (Nat.le_refl _) (by simp [maxLen]; omega) R RP
  have hMp := fun ac cc Y S' RC => share_Map (W : Int) (H : Int) a ac n c (besL (colTo W g n) W k).length cc g (fun i => (besL (colTo W g n) W k).getD i 0) Y (by omega) (by omega) S' RC
  simp only [Int.toNat_natCast] at hMp
  rw [hv, (askS_zero b1).2, show mapE true true (besL (colTo W g n) W k).length = 0 from by simp [mapE]; omega] at hMp
  have hmr : mapR true true W (besL (colTo W g n) W k).length (fun i => (besL (colTo W g n) W k).getD i 0) n = mapS W (besL (colTo W g n) W k).length (fun i => (besL (colTo W g n) W k).getD i 0) n := by
    unfold mapR
    rw [show mapE true true (besL (colTo W g n) W k).length = 0 from by simp [mapE]; omega]
    rfl
  rw [hmr] at hMp
  have hvM : validM (W : Int) (H : Int) n g n (fun i => (mapS W (besL (colTo W g n) W k).length (fun i => (besL (colTo W g n) W k).getD i 0) n).getD i 0) = true := (validM_iff _ _ _ _ _ _).2 ⟨hv, rfl, fun i hi => by
    rw [mapS_get _ _ _ hi]
    have := nodeOf_le (besL (colTo W g n) W k).length (fun i => (besL (colTo W g n) W k).getD i 0) (i % W)
    omega⟩
  have hnR := fun ao co Y S' SO SR => node_Run (W : Int) (H : Int) a ao rl n n rn c co rc g (fun i => (mapS W (besL (colTo W g n) W k).length (fun i => (besL (colTo W g n) W k).getD i 0) n).getD i 0) ru N Y (by omega) (by omega) (by omega) (fun _ => by
    have h1 : 4 * n * (N.toNat * 8) ≤ 4 * 40 * (5 * 8) := Nat.mul_le_mul (by omega) (by omega)
    omega) S' SO SR
  have hwN : within N 0 1000 = true := (within_iff _ _ _).2 ⟨by omega, by omega⟩
  rw [hvM, hr, hwN, show runE true true true = 0 from rfl] at hnR
  have htm : timesB 0 N = true := (timesB_iff _ _).2 ⟨by omega, by omega, by omega, by omega, by omega⟩
  have hgR := fun Y S' SR => grid_Run (W : Int) (H : Int) a rl n rn c rc g ru 0 N Y (by omega) (by omega) S' SR
  rw [hv, hr, htm, show rnE true true true = 0 from rfl, show (0 : Int).toNat = 0 from rfl] at hgR
  simp only [Int.toNat_natCast] at hnR hgR
  rw [← gT_run] at hgR
  have e1 : ∀ x : Int, erZ 0 x = x := fun _ => rfl
  have e2 : ∀ x : Nat, erN 0 x = x := fun _ => rfl
  simp only [e1, e2] at hnR hgR
  have hv2 : validG (W : Int) (H : Int) n (gT W H rn ru g N.toNat) = true := by
    rw [hnn]
    exact validG_of ⟨by omega, by omega⟩ ⟨by omega, by omega⟩ (by rw [← hnn]; omega) ⟨hgk.1, by rw [hgk.2, ← hnn]; exact a8⟩
  have hLo2 := fun a' c' Y S' => hLo a' c' (gT W H rn ru g N.toNat) Y S'
  rw [hv2] at hLo2
  have hsum : sumTo (colTo W (gT W H rn ru g N.toNat) n) W = sumTo (colTo W g n) W := by
    rw [colTo_sum (by omega), colTo_sum (by omega), hnn, hgk.2]
  have hsb1 : ∀ j, j ≤ W → 0 ≤ sumTo (colTo W g n) j ∧ sumTo (colTo W g n) j ≤ 64000000000 := fun j hj => by
    have := sumTo_most (f := colTo W g n) (n := W) ((vL_iff _ _).1 hvL).2.2 j hj
    omega
  have hsb2 : ∀ j, j ≤ W → 0 ≤ sumTo (colTo W (gT W H rn ru g N.toNat) n) j ∧ sumTo (colTo W (gT W H rn ru g N.toNat) n) j ≤ 64000000000 := fun j hj => by
    have := sumTo_most (f := colTo W (gT W H rn ru g N.toNat) n) (n := W) ((vL_iff _ _).1 (load_valid hv2)).2.2 j hj
    omega
  have hSG := fun a' b' ca cb Y S1 S2 => ref6_SameGrid (W : Int) (H : Int) a' b' n ca cb (gT W H rn ru g N.toNat) (gT W H rn ru g N.toNat) Y (by omega) S1 S2 (fun _ _ => rfl)
  have hW64 : W ≤ 64 := by omega
  clear X0 hB0
  have X0 := Bx.new w #[.int .i64 (W : Int), .int .i64 (H : Int), .slice a n c] 24
  have hB0 : Below w.heap.size w (w.alloc (.cells #[.int .i64 (W : Int), .int .i64 (H : Int), .slice a n c] 24)) := by (repeat' (first | with_reducible assumption | with_reducible exact Below.refl _ _ | with_reducible refine Below.drew ?_ | with_reducible refine below_drewN ?_ _ | with_reducible refine balloc ?_ _ | with_reducible refine bset ?_ ?_ _ | with_reducible refine Below.setCell ?_ ?_ _ | with_reducible refine Below.alloc ?_ ?_ _ | omega | (simp; done) | (simp; omega)))
  generalize gT W H rn ru g N.toNat = G at *
  generalize colTo W G n = f2 at *
  have hml := mapS_length W (besL (colTo W g n) W k).length (fun i => (besL (colTo W g n) W k).getD i 0) n
  generalize mapS W (besL (colTo W g n) W k).length (fun i => (besL (colTo W g n) W k).getD i 0) n = M at *
  have HHI := hid hle; have HNN := hid hnn0; have HPR := hid hpr; have HPZ := hid hpz; have HPW := hid hpv; have HLB := hid hlb
  generalize hbl : besL (colTo W g n) W k = Be at *
  generalize hel : evL (colTo W g n) W k = Ev at *
  generalize hpl : prL (colTo W g n) W k = Pr at *
  generalize prE (colTo W g n) W k = eP at *
  generalize leaR (colTo W g n) W k = lea at *
  generalize pkR (colTo W g n) W Ev.length (fun i => Ev.getD i 0) = pk at *
  generalize hf1 : colTo W g n = f1 at *
  have HSM := hid hsum; have HS1 := hid hsb1; have HS2 := hid hsb2
  clear hf1 hbl hel hpl hsum hsb1 hsb2 hgk hv2 e1 e2 htm hwN hvM hmr hvk hask hwk hvL a3 a4 a5 a6 a7 a8 hnn hle hnn0 hpr hpz hpv hlb b1 b2 v1 v2 b3 hLo
  go_enter Tryz.func3, Tryz.ntmps3
  go_wp2_with fail
  generalize (w.alloc (.cells #[.int .i64 (W : Int), .int .i64 (H : Int), .slice a n c] 24)) = W0 at X0 hB0 ⊢
  have z0 := X0.lt
  refine (hru _ (HR.below hB0)).mono ?_
  rintro e w1 ⟨rfl, hb1⟩
  have hB1 := bvia hB0 hb1
  replace X0 := X0.below hb1
  have x0 := X0.at_ 0 rfl; have x1 := X0.at_ 1 rfl; have x2 := X0.at_ 2 rfl; have lx := X0.lt
  go_wp2_with fail
  refine (hvl _ (S.below hB1)).mono ?_
  rintro e w2 ⟨rfl, hb2⟩
  have hB2 := bvia hB1 hb2
  replace X0 := X0.below hb2
  clear x0 x1 x2 lx hru hvl hb1 hb2 hB0 hB1
  have x0 := X0.at_ 0 rfl; have x1 := X0.at_ 1 rfl; have x2 := X0.at_ 2 rfl; have lx := X0.lt
  go_wp2_with fail
  refine (hLo1 _ (S.below hB2)).mono ?_
  rintro e w3 (⟨h, _⟩ | ⟨_, b, rfl, R, hbw, hb3⟩)
  · exact absurd h (by decide)
  have hB3 := bvia hB2 hb3
  replace X0 := X0.below hb3
  clear x0 x1 x2 lx hLo1 hb3 hB2
  go_wp2_with fail
  refine (hBe b _ R.sl).mono ?_
  rintro e w4 ⟨a4, c4, rfl, S4, hb4⟩
  have hB4 := bvia hB3 hb4
  replace X0 := X0.below hb4; replace R := R.below hb4
  clear hBe hb4 hB3
  go_wp2_with fail
  refine (hEv b _ R.sl).mono ?_
  rintro e w5 ⟨a5, c5, rfl, S5, hb5⟩
  have hB5 := bvia hB4 hb5
  replace X0 := X0.below hb5; replace R := R.below hb5; replace S4 := S4.below hb5
  clear hEv hb5 hB4
  go_wp2_with fail
  refine (hP1 b a4 c4 _ R.sl S4).mono ?_
  rintro e w6 ⟨rfl, hb6⟩
  have hB6 := bvia hB5 hb6
  replace X0 := X0.below hb6; replace R := R.below hb6; replace S4 := S4.below hb6; replace S5 := S5.below hb6
  clear hP1 hb6 hB5
  go_wp2_with fail
  refine (hP2 b a5 c5 _ R.sl S5).mono ?_
  rintro e w7 ⟨rfl, hb7⟩
  have hB7 := bvia hB6 hb7
  replace X0 := X0.below hb7; replace R := R.below hb7; replace S4 := S4.below hb7
  clear hP2 hb7 hB6 S5
  have hle := HHI.out
  have hnlt : ¬ pk < lea := by omega
  have hnn0 := HNN.out
  have hlb := HLB.out
  go_wp2_with fail
  refine (hPr b _ R.sl).mono ?_
  rintro e w8 ⟨a8, c8, rfl, S8, hb8⟩
  have hB8 := bvia hB7 hb8
  replace X0 := X0.below hb8; replace R := R.below hb8; replace S4 := S4.below hb8
  clear hPr hb8 hB7 hle hnlt
  have hPv2 := fun Y R S => hPv b a8 c8 Y R S
  clear hPv
  have HSPLIT : lea = 0 ∨ 0 < lea := by omega
  rcases HSPLIT with hz | hz
  · subst hz
    have hep := HPR.out rfl
    subst hep
    have hB9 := hB8
    clear hB8 S8 hPv2 HPR HPZ HPW HHI HNN HLB hnn0 hlb
    have x0 := X0.at_ 0 rfl; have x1 := X0.at_ 1 rfl; have x2 := X0.at_ 2 rfl; have lx := X0.lt
    go_wp2_with fail
    refine (hMp a4 c4 _ (S.below hB9) S4).mono ?_
    rintro e w10 ⟨a10, c10, rfl, S10, hb10⟩
    have hB10 := bvia hB9 hb10
    replace X0 := X0.below hb10; replace R := R.below hb10
    clear x0 x1 x2 lx hb10 hB9 S4 hMp
    have x0 := X0.at_ 0 rfl; have x1 := X0.at_ 1 rfl; have x2 := X0.at_ 2 rfl; have lx := X0.lt
    rw [hml] at S10
    go_wp2_with fail
    refine (hnR a10 c10 _ (S.below hB10) S10 (HR.below hB10)).mono ?_
    rintro e w11 ⟨a11, c11, rfl, S11, _, hb11⟩
    have hB11 := balloc (bvia hB10 hb11) (.cells #[.int .i64 (W : Int), .int .i64 (H : Int), .slice a11 n c11] 24)
    replace X0 := (X0.below hb11).alloc (.cells #[.int .i64 (W : Int), .int .i64 (H : Int), .slice a11 n c11] 24); replace R := (R.below hb11).alloc (.cells #[.int .i64 (W : Int), .int .i64 (H : Int), .slice a11 n c11] 24)
    have S12 := S11.alloc (.cells #[.int .i64 (W : Int), .int .i64 (H : Int), .slice a11 n c11] 24)
    have XA := Bx.new w11 #[.int .i64 (W : Int), .int .i64 (H : Int), .slice a11 n c11] 24
    clear x0 x1 x2 lx hb11 hB10 S10 S11 hnR
    have x0 := X0.at_ 0 rfl; have x1 := X0.at_ 1 rfl; have x2 := X0.at_ 2 rfl; have lx := X0.lt
    go_wp2_with fail
    refine (hgR _ (S.below hB11) (HR.below hB11)).mono ?_
    rintro e w13 ⟨a13, c13, rfl, S13, _, hb13⟩
    have hB13 := balloc (bvia hB11 hb13) (.cells #[.int .i64 (W : Int), .int .i64 (H : Int), .slice a13 n c13] 24)
    replace XA := (XA.below hb13).alloc (.cells #[.int .i64 (W : Int), .int .i64 (H : Int), .slice a13 n c13] 24); replace R := (R.below hb13).alloc (.cells #[.int .i64 (W : Int), .int .i64 (H : Int), .slice a13 n c13] 24)
    replace S12 := (S12.below hb13).alloc (.cells #[.int .i64 (W : Int), .int .i64 (H : Int), .slice a13 n c13] 24)
    have S14 := S13.alloc (.cells #[.int .i64 (W : Int), .int .i64 (H : Int), .slice a13 n c13] 24)
    have XB := Bx.new w13 #[.int .i64 (W : Int), .int .i64 (H : Int), .slice a13 n c13] 24
    clear x0 x1 x2 lx hb13 hB11 S13 hgR X0
    have u0 := XA.at_ 0 rfl; have u1 := XA.at_ 1 rfl; have u2 := XA.at_ 2 rfl; have lu := XA.lt
    have v0 := XB.at_ 0 rfl; have v1 := XB.at_ 1 rfl; have v2 := XB.at_ 2 rfl; have lv := XB.lt
    go_wp2_with fail
    refine (hSG a11 a13 c11 c13 _ S12 S14).mono ?_
    rintro e w15 ⟨rfl, hb15⟩
    have hB15 := bvia hB13 hb15
    replace XA := XA.below hb15; replace R := R.below hb15; replace S12 := S12.below hb15
    clear u0 u1 u2 lu v0 v1 v2 lv XB hb15 hB13 S14 hSG
    have u0 := XA.at_ 0 rfl; have u1 := XA.at_ 1 rfl; have u2 := XA.at_ 2 rfl; have lu := XA.lt
    go_wp2_with fail
    refine (hLo2 a11 c11 _ S12).mono ?_
    rintro e w16 (⟨h, _⟩ | ⟨_, b2, rfl, R2, hb2w, hb16⟩)
    · exact absurd h (by decide)
    have hB16 := bvia hB15 hb16
    replace R := R.below hb16
    clear u0 u1 u2 lu XA hb16 hB15 S12 hLo2
    go_wp2_with fail
    go_loopw [22, 23] (fun s i wr => ∃ j : Nat, j ≤ W ∧ i = .int .i64 (j : Int) ∧ s = .int .i64 (sumTo f2 j) ∧ Below w16.heap.size w16 wr) (fun _ i _ => W - (intOf i).toNat)
    case atStart => exact ⟨0, Nat.zero_le _, rfl, rfl, Below.refl _ _⟩
    case round =>
      obtain ⟨wo, rfl⟩ : ∃ wo : World, wo = wr := ⟨_, rfl⟩
      obtain ⟨j, hj, rfl, rfl, hB⟩ := hrel
      have h1 := HS2.out j hj
      by_cases hlt : j < W
      · have h2 := HS2.out (j + 1) (by omega)
        have hsu : sumTo f2 (j + 1) = sumTo f2 j + f2 j := rfl
        have hr0 := (R2.below hB).cells j hlt; have hrl := (R2.below hB).lt
        have HSU := hid hsu
        rw [hsu] at h2
        clear hsu
        generalize sumTo f2 j = s1 at *
        generalize f2 j = s2 at *
        go_wp2_with fail
        go_roundw
        case rel => exact ⟨j + 1, by omega, by go_num, by rw [HSU.out], hB⟩
        case measure => simp [intOf]; omega
      · obtain rfl : j = W := (by omega)
        have hR3 := R.below hB
        have hB17 := bvia hB16 hB
        have HSM2 := HSM
        generalize hsw : sumTo f2 j = sw at *
        clear R2 R hsw
        go_wp2_with fail
        go_loopw [22, 24] (fun s i wr => ∃ q : Nat, q ≤ j ∧ i = .int .i64 (q : Int) ∧ s = .int .i64 (sw - sumTo f1 q) ∧ Below wo.heap.size wo wr) (fun _ i _ => j - (intOf i).toNat)
        case atStart => exact ⟨0, Nat.zero_le _, rfl, by simp [sumTo], Below.refl _ _⟩
        case round =>
          obtain ⟨q, hq, rfl, rfl, hB2⟩ := hrel
          have h3 := HS1.out q hq
          by_cases hlt2 : q < j
          · have h4 := HS1.out (q + 1) (by omega)
            have hsu : sumTo f1 (q + 1) = sumTo f1 q + f1 q := rfl
            have hr0 := (hR3.below hB2).cells q hlt2; have hrl := (hR3.below hB2).lt
            have HSU := hid hsu
            rw [hsu] at h4
            clear hsu
            generalize sumTo f1 q = s1 at *
            generalize f1 q = s2 at *
            go_wp2_with fail
            go_roundw
            case rel => exact ⟨q + 1, by omega, by go_num, by rw [HSU.out]; congr 1; omega, hB2⟩
            case measure => simp [intOf]; omega
          · obtain rfl : q = j := (by omega)
            have hsm := HSM2.out
            rw [← hsm]
            go_wp2_with fail
            refine (awake9T _).mono ?_
            rintro e w18 ⟨rfl, hb18⟩
            go_wp2_with fail
            go_ret
            exact ⟨rfl, bvia (bvia hB17 hB2) hb18⟩
  · have hzn : lea ≠ 0 := by omega
    have hep := HPZ.out hzn
    subst hep
    have hpw := HPW.out hzn
    rw [hpw] at hPv2
    have hwr : wrap64 (lea - 1) = lea - 1 := by unfold wrap64; omega
    clear HPR HPZ HPW HHI HNN HLB hnn0 hpw
    go_wp2_with fail
    refine (hPv2 _ R.sl S8).mono ?_
    rintro e w9 ⟨rfl, hb9⟩
    have hB9 := bvia hB8 hb9
    replace X0 := X0.below hb9; replace R := R.below hb9; replace S4 := S4.below hb9
    clear hb9 hB8 S8 hPv2 hlb hzn hwr
    have x0 := X0.at_ 0 rfl; have x1 := X0.at_ 1 rfl; have x2 := X0.at_ 2 rfl; have lx := X0.lt
    go_wp2_with fail
    refine (hMp a4 c4 _ (S.below hB9) S4).mono ?_
    rintro e w10 ⟨a10, c10, rfl, S10, hb10⟩
    have hB10 := bvia hB9 hb10
    replace X0 := X0.below hb10; replace R := R.below hb10
    clear x0 x1 x2 lx hb10 hB9 S4 hMp
    have x0 := X0.at_ 0 rfl; have x1 := X0.at_ 1 rfl; have x2 := X0.at_ 2 rfl; have lx := X0.lt
    rw [hml] at S10
    go_wp2_with fail
    refine (hnR a10 c10 _ (S.below hB10) S10 (HR.below hB10)).mono ?_
    rintro e w11 ⟨a11, c11, rfl, S11, _, hb11⟩
    have hB11 := balloc (bvia hB10 hb11) (.cells #[.int .i64 (W : Int), .int .i64 (H : Int), .slice a11 n c11] 24)
    replace X0 := (X0.below hb11).alloc (.cells #[.int .i64 (W : Int), .int .i64 (H : Int), .slice a11 n c11] 24); replace R := (R.below hb11).alloc (.cells #[.int .i64 (W : Int), .int .i64 (H : Int), .slice a11 n c11] 24)
    have S12 := S11.alloc (.cells #[.int .i64 (W : Int), .int .i64 (H : Int), .slice a11 n c11] 24)
    have XA := Bx.new w11 #[.int .i64 (W : Int), .int .i64 (H : Int), .slice a11 n c11] 24
    clear x0 x1 x2 lx hb11 hB10 S10 S11 hnR
    have x0 := X0.at_ 0 rfl; have x1 := X0.at_ 1 rfl; have x2 := X0.at_ 2 rfl; have lx := X0.lt
    go_wp2_with fail
    refine (hgR _ (S.below hB11) (HR.below hB11)).mono ?_
    rintro e w13 ⟨a13, c13, rfl, S13, _, hb13⟩
    have hB13 := balloc (bvia hB11 hb13) (.cells #[.int .i64 (W : Int), .int .i64 (H : Int), .slice a13 n c13] 24)
    replace XA := (XA.below hb13).alloc (.cells #[.int .i64 (W : Int), .int .i64 (H : Int), .slice a13 n c13] 24); replace R := (R.below hb13).alloc (.cells #[.int .i64 (W : Int), .int .i64 (H : Int), .slice a13 n c13] 24)
    replace S12 := (S12.below hb13).alloc (.cells #[.int .i64 (W : Int), .int .i64 (H : Int), .slice a13 n c13] 24)
    have S14 := S13.alloc (.cells #[.int .i64 (W : Int), .int .i64 (H : Int), .slice a13 n c13] 24)
    have XB := Bx.new w13 #[.int .i64 (W : Int), .int .i64 (H : Int), .slice a13 n c13] 24
    clear x0 x1 x2 lx hb13 hB11 S13 hgR X0
    have u0 := XA.at_ 0 rfl; have u1 := XA.at_ 1 rfl; have u2 := XA.at_ 2 rfl; have lu := XA.lt
    have v0 := XB.at_ 0 rfl; have v1 := XB.at_ 1 rfl; have v2 := XB.at_ 2 rfl; have lv := XB.lt
    go_wp2_with fail
    refine (hSG a11 a13 c11 c13 _ S12 S14).mono ?_
    rintro e w15 ⟨rfl, hb15⟩
    have hB15 := bvia hB13 hb15
    replace XA := XA.below hb15; replace R := R.below hb15; replace S12 := S12.below hb15
    clear u0 u1 u2 lu v0 v1 v2 lv XB hb15 hB13 S14 hSG
    have u0 := XA.at_ 0 rfl; have u1 := XA.at_ 1 rfl; have u2 := XA.at_ 2 rfl; have lu := XA.lt
    go_wp2_with fail
    refine (hLo2 a11 c11 _ S12).mono ?_
    rintro e w16 (⟨h, _⟩ | ⟨_, b2, rfl, R2, hb2w, hb16⟩)
    · exact absurd h (by decide)
    have hB16 := bvia hB15 hb16
    replace R := R.below hb16
    clear u0 u1 u2 lu XA hb16 hB15 S12 hLo2
    go_wp2_with fail
    go_loopw [22, 23] (fun s i wr => ∃ j : Nat, j ≤ W ∧ i = .int .i64 (j : Int) ∧ s = .int .i64 (sumTo f2 j) ∧ Below w16.heap.size w16 wr) (fun _ i _ => W - (intOf i).toNat)
    case atStart => exact ⟨0, Nat.zero_le _, rfl, rfl, Below.refl _ _⟩
    case round =>
      obtain ⟨wo, rfl⟩ : ∃ wo : World, wo = wr := ⟨_, rfl⟩
      obtain ⟨j, hj, rfl, rfl, hB⟩ := hrel
      have h1 := HS2.out j hj
      by_cases hlt : j < W
      · have h2 := HS2.out (j + 1) (by omega)
        have hsu : sumTo f2 (j + 1) = sumTo f2 j + f2 j := rfl
        have hr0 := (R2.below hB).cells j hlt; have hrl := (R2.below hB).lt
        have HSU := hid hsu
        rw [hsu] at h2
        clear hsu
        generalize sumTo f2 j = s1 at *
        generalize f2 j = s2 at *
        go_wp2_with fail
        go_roundw
        case rel => exact ⟨j + 1, by omega, by go_num, by rw [HSU.out], hB⟩
        case measure => simp [intOf]; omega
      · obtain rfl : j = W := (by omega)
        have hR3 := R.below hB
        have hB17 := bvia hB16 hB
        have HSM2 := HSM
        generalize hsw : sumTo f2 j = sw at *
        clear R2 R hsw
        go_wp2_with fail
        go_loopw [22, 24] (fun s i wr => ∃ q : Nat, q ≤ j ∧ i = .int .i64 (q : Int) ∧ s = .int .i64 (sw - sumTo f1 q) ∧ Below wo.heap.size wo wr) (fun _ i _ => j - (intOf i).toNat)
        case atStart => exact ⟨0, Nat.zero_le _, rfl, by simp [sumTo], Below.refl _ _⟩
        case round =>
          obtain ⟨q, hq, rfl, rfl, hB2⟩ := hrel
          have h3 := HS1.out q hq
          by_cases hlt2 : q < j
          · have h4 := HS1.out (q + 1) (by omega)
            have hsu : sumTo f1 (q + 1) = sumTo f1 q + f1 q := rfl
            have hr0 := (hR3.below hB2).cells q hlt2; have hrl := (hR3.below hB2).lt
            have HSU := hid hsu
            rw [hsu] at h4
            clear hsu
            generalize sumTo f1 q = s1 at *
            generalize f1 q = s2 at *
            go_wp2_with fail
            go_roundw
            case rel => exact ⟨q + 1, by omega, by go_num, by rw [HSU.out]; congr 1; omega, hB2⟩
            case measure => simp [intOf]; omega
          · obtain rfl : q = j := (by omega)
            have hsm := HSM2.out
            rw [← hsm]
            go_wp2_with fail
            refine (awake9T _).mono ?_
            rintro e w18 ⟨rfl, hb18⟩
            go_wp2_with fail
            go_ret
            exact ⟨rfl, bvia (bvia hB17 hB2) hb18⟩
end Go.Proofs.YtjkngkogddmceaaGreat
/- What a land reads as, as words on a world. What a state of sites and a post reads as, as words on a world. How a slice of rules reads: opened to cells. Lifting: a turn (a site and a post). Lifting: what an argument of the type Order is in the model. -/
namespace Go.Proofs.YtjkngkogddmceaaGreat
open Go Go.RowKit Go.ChangeShapes Go.WideShapes
set_option linter.unusedVariables false
section
variable {H : Type} {enc : TypeId × Value → H} {w : World} {spare : Nat → Bool} {held : Bool} {fuel : Nat} {cs : List Value} {x : DataW H × List MemPlace}
end
end Go.Proofs.YtjkngkogddmceaaGreat
namespace Go.Proofs.YtjkngkogddmceaaGreat
open Go Go.RowKit Go.ChangeShapes Go.WideShapes Go.ChangeAt Go.Deep
set_option linter.unusedVariables false
section
variable {H : Type} {enc : TypeId × Value → H} {P : Program} {w : World} {spare : Nat → Bool} {held : Bool} {fuel : Nat} {cs : List Value} {x : DataW H × List MemPlace}
end
section
variable {H : Type} {enc : TypeId × Value → H} {w : World} {spare : Nat → Bool} {held : Bool} {fuel : Nat} {cs : List Value} {x : DataW H × List MemPlace}
end
end Go.Proofs.YtjkngkogddmceaaGreat
namespace Go.Proofs.YtjkngkogddmceaaGreat
open Go.ChangeShapes Go.WideShapes Go.ChangeAt Go.RowKit Go.Deep
set_option linter.unusedVariables false
theorem Tryz.cells51 : Tryz.prog.cellsOf 51 = 2 := by kernel_rfl
section
variable {H : Type} {enc : TypeId × Value → H} {w : World} {spare : Nat → Bool} {held : Bool} {fuel : Nat} {cs : List Value} {x : DataW H × List MemPlace}
theorem lift_rule2 (h : DataW.trod enc Tryz.prog w 0 spare held fuel 51 cs = some x) : ∃ p : Int × Int, cs = [.int .i64 p.1, .int .i64 p.2] := by
  obtain ⟨y0, y1, m, hlen, h0, h1⟩ := trod_fields2 Tryz.underlying51 Tryz.cells51 Tryz.cells3 Tryz.cells3 h
  obtain ⟨v0, v1, rfl⟩ := list2 hlen
  obtain ⟨n0, e0, _⟩ := lift_int h0
  obtain ⟨n1, e1, _⟩ := lift_int h1
  have e0' : v0 = .int .i64 n0 := by simpa using e0
  have e1' : v1 = .int .i64 n1 := by simpa using e1
  subst e0' e1'
  exact ⟨(n0, n1), rfl⟩
theorem lift_rules (h : DataW.trod enc Tryz.prog w 0 spare held fuel 25 cs = some x) :
    ∃ (a : Option Addr) (n c : Nat) (p : Nat → Int × Int), cs = [.slice a n c] ∧ n ≤ maxLen ∧ n ≤ c ∧ c ≤ maxLen ∧ Sr w a n p := by
  rcases open_slice Tryz.underlying25 h with ⟨hcs, _⟩ | ⟨a, len, cap, m, nf, D, Pl, hcs, _, hl, hm, hmm, _, hi⟩
  · exact ⟨none, 0, 0, fun _ => (0, 0), hcs, by simp, by simp, by simp, fun k hk => by omega⟩
  · have hlm : len ≤ m := by rw [hmm]; split <;> omega
    rw [Tryz.cells51] at hi
    have each : ∀ i, i < m → ∃ p : Int × Int, a.spot = none ∧ a.block < w.heap.size ∧ w.cell? ⟨a.block, a.off + i * 2, none⟩ = some (.int .i64 p.1) ∧ w.cell? ⟨a.block, a.off + i * 2 + 1, none⟩ = some (.int .i64 p.2) := by
      intro i him
      obtain ⟨cs', hc, ht⟩ := hi i him
      obtain ⟨c, rfl⟩ := lift_rule2 ht
      obtain ⟨_, hcl, hat⟩ := World.cells?_some hc
      obtain ⟨_, hc0, ht0⟩ := hi 0 (by omega)
      obtain ⟨c0, rfl⟩ := lift_rule2 ht0
      obtain ⟨_, _, hat0⟩ := World.cells?_some hc0
      have z0 := hat0 0 (by omega)
      rw [Nat.zero_mul] at z0
      have hspot : a.spot = none := by simpa [Addr.add] using World.cell?_spot z0
      have hblk : a.block < w.heap.size := by simpa [Addr.add] using World.block_lt_of_cell? w _ z0
      obtain ⟨b, off, spot⟩ := a
      simp only at hspot hblk
      subst hspot
      have add : ∀ off p : Nat, (Addr.add ⟨b, off, none⟩ p : Addr) = ⟨b, off + p, none⟩ := fun off p => by by_cases h : p = 0 <;> simp [Addr.add, h]
      have r0 := hat 0 (by omega)
      have r1 := hat 1 (by omega)
      simp only [add] at r0 r1
      exact ⟨c, rfl, hblk, r0, r1⟩
    refine ⟨some a, len, cap, fun i => if hi : i < m then (each i hi).choose else (0, 0), hcs, Nat.le_trans hl hm, hl, hm, fun k hk => ?_⟩
    have hkm : k < m := by omega
    obtain ⟨s1, s2, s3, s4⟩ := (each k hkm).choose_spec
    refine ⟨a.block, a.off, ?_, s2, ?_, ?_⟩
    · obtain ⟨b, off, spot⟩ := a
      simp only at s1
      rw [s1]
    · simp only [hkm, dite_true]; exact s3
    · simp only [hkm, dite_true]; exact s4
end
end Go.Proofs.YtjkngkogddmceaaGreat
namespace Go.Proofs.YtjkngkogddmceaaGreat
open Go Go.RowKit Go.ChangeShapes Go.WideShapes
set_option linter.unusedVariables false
section
variable {H : Type} {enc : TypeId × Value → H} {w : World} {spare : Nat → Bool} {held : Bool} {fuel : Nat} {cs : List Value} {x : DataW H × List MemPlace}
end
end Go.Proofs.YtjkngkogddmceaaGreat
namespace Go.Proofs.YtjkngkogddmceaaGreat
open Go Go.RowKit Go.ChangeShapes Go.WideShapes
set_option linter.unusedVariables false
section
variable {H : Type} {enc : TypeId × Value → H} {w : World} {spare : Nat → Bool} {held : Bool} {fuel : Nat} {cs : List Value} {x : DataW H × List MemPlace}
end
end Go.Proofs.YtjkngkogddmceaaGreat
