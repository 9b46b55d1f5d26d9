/- Walks: Loads of the reference (Profile, Table); Cost of both. -/
import Derived.Test.YteabkcbajpjkoaaGreatPk20
import Derived.Test.YteabkcbajpjkoaaGreatPk6
namespace Go.Proofs.YteabkcbajpjkoaaGreat
open Go Go.RowKit
set_option linter.unusedVariables false
set_option linter.unusedSimpArgs false
def cosE (v k t : Bool) (m : Nat) : Int := if v then (if k && t then (if m < 8 then 0 else 4) else 7) else 1
def cosR (wide high : Int) (n : Nat) (g : Nat → C4) (m : Nat) (cu : Nat → Int) (note : Int) : Int :=
  if cosE (validG wide high n g) (vK wide.toNat m cu) (within note 0 1000000000) m = 0 then
    peakL (colTo wide.toNat g n) wide.toNat m cu + note * trafN wide high n g n (fun i => (mapS wide.toNat m cu n).getD i 0) else 0
theorem map_valid {W H n m : Nat} {g : Nat → C4} {cu : Nat → Int} (hv : validG (W : Int) (H : Int) n g = true) (hm : m < 8) : validM (W : Int) (H : Int) n g n (fun i => (mapS W m cu n).getD i 0) = true :=
  (validM_iff _ _ _ _ _ _).2 ⟨hv, rfl, fun i hi => by
    rw [mapS_get _ _ _ hi]
    have := nodeOf_le m cu (i % W)
    omega⟩
theorem traf_bd {W H n : Nat} {g : Nat → C4} {o : Nat → Int} (h4 : n ≤ 4096) : 0 ≤ trafN (W : Int) (H : Int) n g n o ∧ trafN (W : Int) (H : Int) n g n o ≤ 131072 := by
  unfold trafN
  split
  · have h1 := trafL_le W H o n (nodeL o n 8)
    have h2 := nodeL_length o n 8
    have h3 : (nodeL o n 8).length * (4 * n) ≤ 8 * (4 * n) := Nat.mul_le_mul_right _ h2
    simp only [Int.toNat_natCast]
    omega
  · omega
theorem peak_bd {W H n m : Nat} {g : Nat → C4} {cu : Nat → Int} (hv : validG (W : Int) (H : Int) n g = true) (hk : vK W m cu = true) : (0 ≤ peakL (colTo W g n) W m cu ∧ peakL (colTo W g n) W m cu ≤ 64000000000) ∧ (∀ k, k < m + 1 → 0 ≤ wt (colTo W g n) W m cu k ∧ wt (colTo W g n) W m cu k ≤ 64000000000) := by
  have hV := (vL_iff _ _).1 (load_valid hv)
  have hK := (vK_iff _ _ _).1 hk
  have hb : ∀ k, k < m + 1 → 0 ≤ wt (colTo W g n) W m cu k ∧ wt (colTo W g n) W m cu k ≤ 64000000000 := fun k _ => by
    have h1 := wt_nonneg (okF_pos hV.2.2) hK k
    have h2 := wt_le (okF_pos hV.2.2) hK k
    have h3 := (sumTo_most hV.2.2 W (Nat.le_refl _)).2
    have := hV.2.1
    omega
  refine ⟨⟨?_, mxTo_le2 (by omega) (fun k hk => (hb k hk).2) _ (Nat.le_refl _)⟩, hb⟩
  exact mxTo_nonneg _ _
set_option maxRecDepth 100000 in
theorem ref8_within (n lo hi : Int) (w : World) : Calls Tryz.prog 85 #[.int .i64 n, .int .i64 lo, .int .i64 hi] w fun e w' => e = .returned (.bool (within n lo hi)) ∧ w = w' := by
  cases h1 : decide (lo ≤ n)
  all_goals
    go_enter Tryz.func85, Tryz.ntmps85
    go_wp2
    go_ret
    exact ⟨by simp [within, h1], rfl⟩
set_option maxRecDepth 100000 in
theorem ref8_axial (wide high : Int) (a : Option Addr) (n c : Nat) (g : Nat → C4) (w : World) (hn : n ≤ 100000000) (S : Sc w a n g) :
    Calls Tryz.prog 50 #[.agg #[.int .i64 wide, .int .i64 high, .slice a n c], .int .i64 0] w fun e w' => e = .returned (.int .i64 (errR (validG wide high n g) 1)) ∧ Below w.heap.size w w' := by
  have hvl := fun Y S' => ref2_valid wide high a n c g Y hn S'
  have X0 := Bx.new w #[.int .i64 wide, .int .i64 high, .slice a n c] 24
  have hB0 : Below w.heap.size w (w.alloc (.cells #[.int .i64 wide, .int .i64 high, .slice a n c] 24)) := by (repeat' (first | with_reducible assumption | with_reducible exact Below.refl _ _ | with_reducible refine Below.drew ?_ | with_reducible refine below_drewN ?_ _ | with_reducible refine balloc ?_ _ | with_reducible refine bset ?_ ?_ _ | with_reducible refine Below.setCell ?_ ?_ _ | with_reducible refine Below.alloc ?_ ?_ _ | omega | (simp; done) | (simp; omega)))
  cases hv : validG wide high n g
  · rw [hv] at hvl
    go_enter Tryz.func50, Tryz.ntmps50
    go_wp2_with fail
    generalize (w.alloc (.cells #[.int .i64 wide, .int .i64 high, .slice a n c] 24)) = W0 at X0 hB0 ⊢
    have z0 := X0.lt
    refine (hvl _ (S.below hB0)).mono ?_
    rintro e w1 ⟨rfl, hb1⟩
    go_wp2_with fail
    go_ret
    exact ⟨rfl, bvia hB0 hb1⟩
  · rw [hv] at hvl
    have hw := fun Y => ref8_within 0 0 1 Y
    rw [show within 0 0 1 = true from rfl] at hw
    go_enter Tryz.func50, Tryz.ntmps50
    go_wp2_with fail
    generalize (w.alloc (.cells #[.int .i64 wide, .int .i64 high, .slice a n c] 24)) = W0 at X0 hB0 ⊢
    have z0 := X0.lt
    refine (hvl _ (S.below hB0)).mono ?_
    rintro e w1 ⟨rfl, hb1⟩
    go_wp2_with fail
    refine (hw _).mono ?_
    rintro e w2 ⟨rfl, rfl⟩
    go_wp2_with fail
    go_ret
    exact ⟨rfl, bvia hB0 hb1⟩
set_option maxRecDepth 100000 in
theorem ref8_sided (W H : Nat) (a : Option Addr) (n c : Nat) (g : Nat → C4) (w : World) (hn : n ≤ 100000000) (hv : validG (W : Int) (H : Int) n g = true) (S : Sc w a n g) :
    Calls Tryz.prog 86 #[.agg #[.int .i64 (W : Int), .int .i64 (H : Int), .slice a n c], .int .i64 1, .int .i64 (H : Int)] w fun e w' => e = .returned (.int .i64 0) ∧ Below w.heap.size w w' := by
  have hvl := fun Y S' => ref2_valid (W : Int) (H : Int) a n c g Y hn S'
  obtain ⟨a1, a2, a3, a4, a5, a6, a7, a8⟩ := (validG_iff _ _ _ _).1 hv
  have X0 := Bx.new w #[.int .i64 (W : Int), .int .i64 (H : Int), .slice a n c] 24
  have hB0 : Below w.heap.size w (w.alloc (.cells #[.int .i64 (W : Int), .int .i64 (H : Int), .slice a n c] 24)) := by (repeat' (first | with_reducible assumption | with_reducible exact Below.refl _ _ | with_reducible refine Below.drew ?_ | with_reducible refine below_drewN ?_ _ | with_reducible refine balloc ?_ _ | with_reducible refine bset ?_ ?_ _ | with_reducible refine Below.setCell ?_ ?_ _ | with_reducible refine Below.alloc ?_ ?_ _ | omega | (simp; done) | (simp; omega)))
  rw [hv] at hvl
  have hw1 := fun Y => ref8_within 1 1 (W : Int) Y
  have hw2 := fun Y => ref8_within (H : Int) 1 (H : Int) Y
  rw [show within 1 1 (W : Int) = true from (within_iff _ _ _).2 ⟨by omega, by omega⟩] at hw1
  rw [show within (H : Int) 1 (H : Int) = true from (within_iff _ _ _).2 ⟨by omega, by omega⟩] at hw2
  clear a1 a2 a3 a4 a5 a6 a7 a8 hv
  go_enter Tryz.func86, Tryz.ntmps86
  go_wp2_with fail
  generalize (w.alloc (.cells #[.int .i64 (W : Int), .int .i64 (H : Int), .slice a n c] 24)) = W0 at X0 hB0 ⊢
  have z0 := X0.lt
  refine (hvl _ (S.below hB0)).mono ?_
  rintro e w1 ⟨rfl, hb1⟩
  have hB1 := bvia hB0 hb1
  replace X0 := X0.below hb1
  have x0 := X0.at_ 0 rfl; have x1 := X0.at_ 1 rfl; have lx := X0.lt
  go_wp2_with fail
  refine (hw1 _).mono ?_
  rintro e w2 ⟨rfl, rfl⟩
  go_wp2_with fail
  refine (hw2 _).mono ?_
  rintro e w2 ⟨rfl, rfl⟩
  go_wp2_with fail
  go_ret
  exact ⟨rfl, hB1⟩
set_option maxRecDepth 100000 in
theorem ref8_corner (x H : Nat) (w : World) (hx : x ≤ 64) (hH : H ≤ 4096) :
    Calls Tryz.prog 87 #[.int .i64 (x : Int), .int .i64 0, .int .i64 1, .int .i64 (H : Int)] w fun e w' => e = .returned (.tuple #[.agg #[.int .i64 (x : Int), .int .i64 0], .agg #[.int .i64 (x : Int), .int .i64 ((H : Int) - 1)]]) ∧ Below w.heap.size w w' := by
  have e1 : (x : Int) + 1 - 1 = (x : Int) := by omega
  have e2 : wrap64 (((x : Int) + 1) - 1) = (x : Int) := by rw [e1]; exact IntWalk.wrap64_in _ ⟨by omega, by omega⟩
  have e3 : IntKind.i64.wrap (((x : Int) + 1) - 1) = (x : Int) := by rw [e1]; exact IntWalk.i64_in _ ⟨by omega, by omega⟩
  go_enter Tryz.func87, Tryz.ntmps87
  go_wp2_with fail
  refine bodyPost_ret (v := .tuple #[.agg #[.int .i64 (x : Int), .int .i64 0], .agg #[.int .i64 (x : Int), .int .i64 ((H : Int) - 1)]]) (by simp [results, Tryz.results87, go_sem, e1]) rfl ⟨rfl, by (repeat' (first | with_reducible assumption | with_reducible exact Below.refl _ _ | with_reducible refine Below.drew ?_ | with_reducible refine below_drewN ?_ _ | with_reducible refine balloc ?_ _ | with_reducible refine bset ?_ ?_ _ | with_reducible refine Below.setCell ?_ ?_ _ | with_reducible refine Below.alloc ?_ ?_ _ | omega | (simp; done) | (simp; omega)))⟩
def lodL (v : Bool) (W : Nat) (f : Nat → Int) : List Int := if v then (List.range W).map f else []
theorem range_snoc (f : Nat → Int) (k : Nat) : (List.range (k + 1)).map f = (List.range k).map f ++ [f k] := by simp [List.range_succ]
set_option maxRecDepth 100000 in
set_option maxHeartbeats 4000000 in
theorem ref8_Table (W H : Nat) (a : Option Addr) (n c : Nat) (g : Nat → C4) (w : World) (hn : n ≤ 100000000) (hv : validG (W : Int) (H : Int) n g = true) (S : Sc w a n g) :
    Calls Tryz.prog 51 #[.agg #[.int .i64 (W : Int), .int .i64 (H : Int), .slice a n c], .int .i64 1, .int .i64 (H : Int)] w (ListPost ((List.range W).map (colTo W g n)) 0 w) := by
  obtain ⟨i0, hi, hz0, hz1, hz2⟩ := info_parts infoI
  have hsd := fun Y S' => ref8_sided W H a n c g Y hn hv S'
  obtain ⟨a1, a2, a3, a4, a5, a6, a7, a8⟩ := (validG_iff _ _ _ _).1 hv
  have hnn : n = W * H := by exact_mod_cast a6
  have hW64 : W ≤ 64 := by omega
  have hH64 : H ≤ 4096 := by omega
  have hcor := fun x Y (hx : x < W) => ref8_corner x H Y (by omega) hH64
  have hcel := fun x Y (hx : x < W) S' => ref8_cells W H x n c a g Y hW64 hH64 hnn hx S'
  have hcm : ∀ x, x < W → massTo (fun k => g (x + W * k)) H = colTo W g n x := fun x hx => by rw [hnn]; exact col_mass hx g H
  have hvk : ∀ x, x < W → ∀ k, k < H → validC (g (x + W * k)) = true := fun x hx k hk => a7 _ (by
    have : W * (k + 1) ≤ W * H := Nat.mul_le_mul_left _ (by omega)
    rw [Nat.mul_succ] at this
    omega)
  have hcb := fun x => colTo_bd (W := W) a7 x
  have hsum := fun x Y v cc (hx : x < W) S' => ref8_sums v H cc (fun k => g (x + W * k)) Y (by omega) S' (hvk x hx) (by rw [hcm x hx]; have := hcb x; omega)
  have HSU : ∀ x Y v cc, x < W → Sc Y v H (fun k => g (x + W * k)) → Calls Tryz.prog 88 #[.slice v H cc] Y fun e w' => (∃ p q : Int, e = .returned (.tuple #[.int .i64 (colTo W g n x), .int .i64 p, .int .i64 q])) ∧ Below Y.heap.size Y w' := fun x Y v cc hx S' => by
    have := hsum x Y v cc hx S'
    rw [hcm x hx] at this
    exact this
  have H1 := hid hcor; have H2 := hid hcel; have H3 := hid HSU
  have hH0 : ¬ (H : Int) = 0 := by omega
  have hH1 : ¬ H = 0 := by omega
  have hm1 : Int.tmod (W : Int) 1 = 0 := by simp
  have hm2 : Int.tmod (H : Int) (H : Int) = 0 := by simp
  have X0 := Bx.new w #[.int .i64 (W : Int), .int .i64 (H : Int), .slice a n c] 24
  have hB0 : Below w.heap.size w (w.alloc (.cells #[.int .i64 (W : Int), .int .i64 (H : Int), .slice a n c] 24)) := by (repeat' (first | with_reducible assumption | with_reducible exact Below.refl _ _ | with_reducible refine Below.drew ?_ | with_reducible refine below_drewN ?_ _ | with_reducible refine balloc ?_ _ | with_reducible refine bset ?_ ?_ _ | with_reducible refine Below.setCell ?_ ?_ _ | with_reducible refine Below.alloc ?_ ?_ _ | omega | (simp; done) | (simp; omega)))
  have hr0 : (List.range 0).map (colTo W g n) = [] := rfl
  have hrs := fun k => range_snoc (colTo W g n) k
  have hrl := fun k : Nat => show ((List.range k).map (colTo W g n)).length = k by simp
  generalize (colTo W g n) = f at *
  obtain ⟨L, hL⟩ : ∃ L : Nat → List Int, L = fun k => (List.range k).map f := ⟨_, rfl⟩
  have hL' : ∀ k, (List.range k).map f = L k := fun k => by rw [hL]
  simp only [hL'] at hr0 hrs hrl ⊢
  have HR0 := hid hr0; have HRS := hid hrs; have HRL := hid hrl
  clear hL' hL hr0 hrs hrl hcm hvk hcb hsum hcor hcel HSU a1 a2 a3 a4 a5 a6 a7 a8 hnn hv
  go_enter Tryz.func51, Tryz.ntmps51
  go_wp2_with fail
  generalize (w.alloc (.cells #[.int .i64 (W : Int), .int .i64 (H : Int), .slice a n c] 24)) = W0 at X0 hB0 ⊢
  have z0 := X0.lt
  refine (hsd _ (S.below hB0)).mono ?_
  rintro e w1 ⟨rfl, hb1⟩
  have hB1 := bvia hB0 hb1
  replace X0 := X0.below hb1
  have x0 := X0.at_ 0 rfl; have x1 := X0.at_ 1 rfl; have lx := X0.lt
  clear hsd hb1 hB0
  go_wp2_with fail
  clear x0 x1 lx
  have hs1 := hB1.size
  go_loopw [9, 10] (fun v y wr => ∃ k : Nat, k ≤ 1 ∧ y = .int .i64 (if k = 0 then 0 else (H : Int)) ∧ wr.ownsRow w1.heap.size 3 1 v (L (if k = 0 then 0 else W)).length ((L (if k = 0 then 0 else W)).map vInt) ∧ Below w1.heap.size w1 wr) (fun _ y _ => H - (intOf y).toNat)
  case atStart => exact ⟨0, Nat.zero_le _, rfl, by rw [if_pos rfl, HR0.out]; exact World.ownsRow_nil .., Below.refl _ _⟩
  case round =>
    obtain ⟨wo, rfl⟩ : ∃ wo : World, wo = wr := ⟨_, rfl⟩
    obtain ⟨k, hk, rfl, hown, hB⟩ := hrel
    have XW := X0.below hB
    have x1 := XW.at_ 1 rfl; have lx := XW.lt
    by_cases hk0 : k = 0
    · subst hk0
      rw [if_pos rfl] at hown ⊢
      have h0H : (0 : Int) < (H : Int) := by omega
      have h0n : 0 < H := by omega
      go_wp2_with fail
      clear x1 lx XW
      go_loopw [9, 11] (fun v q wr => ∃ x : Nat, x ≤ W ∧ q = .int .i64 (x : Int) ∧ wr.ownsRow w1.heap.size 3 1 v (L x).length ((L x).map vInt) ∧ Below w1.heap.size w1 wr) (fun _ q _ => W - (intOf q).toNat)
      case atStart => exact ⟨0, Nat.zero_le _, rfl, hown, hB⟩
      case round =>
        clear hown hB
        obtain ⟨x, hx, rfl, hown, hB⟩ := hrel
        have XW := X0.below hB
        have x0 := XW.at_ 0 rfl; have x1 := XW.at_ 1 rfl; have x2 := XW.at_ 2 rfl; have lx := XW.lt
        by_cases hlt : x < W
        · have hrl := HRL.out x
          go_wp2_with fail
          refine (H1.out x _ hlt).mono ?_
          rintro e w2 ⟨rfl, hb2⟩
          have hB2 := balloc (balloc (bvia (bvia hB1 hB) hb2) (.cells #[.int .i64 (x : Int), .int .i64 0] 120)) (.cells #[.int .i64 (x : Int), .int .i64 ((H : Int) - 1)] 120)
          have hB3 := balloc (balloc (bvia hB hb2) (.cells #[.int .i64 (x : Int), .int .i64 0] 120)) (.cells #[.int .i64 (x : Int), .int .i64 ((H : Int) - 1)] 120)
          have XW2 := ((XW.below hb2).alloc (.cells #[.int .i64 (x : Int), .int .i64 0] 120)).alloc (.cells #[.int .i64 (x : Int), .int .i64 ((H : Int) - 1)] 120)
          have own2 := own_below (own_below hown hb2) (balloc (balloc (Below.refl _ w2) (.cells #[.int .i64 (x : Int), .int .i64 0] 120)) (.cells #[.int .i64 (x : Int), .int .i64 ((H : Int) - 1)] 120))
          clear x0 x1 x2 lx XW
          have x0 := XW2.at_ 0 rfl; have x1 := XW2.at_ 1 rfl; have x2 := XW2.at_ 2 rfl; have lx := XW2.lt
          go_wp2_with fail
          refine (H2.out x _ hlt (S.below hB2)).mono ?_
          rintro e w3 ⟨v, rfl, hownc, hb3⟩
          obtain ⟨ac, cc, rfl, SC⟩ := sc_of_own8 hownc
          have hB4 := bvia hB3 hb3
          have own4 := own_below own2 hb3
          have XW4 := XW2.below hb3
          clear x0 x1 x2 lx XW2 own2 hB2 hB3 hb2 hown
          go_wp2_with fail
          refine (H3.out x _ ac cc hlt SC).mono ?_
          rintro e w5 ⟨⟨p, q, rfl⟩, hb5⟩
          have hB5 := bvia hB4 hb5
          have own5 := own_below own4 hb5
          have XW5 := XW4.below hb5
          have hs5 := hB5.size
          have x0 := XW5.at_ 0 rfl; have x1 := XW5.at_ 1 rfl; have lx := XW5.lt
          clear own4 XW4 hB4 hb3 hb5 hownc SC
          have hrs := HRS.out x
          have HS := hid hrs; clear hrs
          go_wp2_with (at_builtin; refine wpList_append_own _ rfl _ _ 25 rfl (w1.heap.size) 3 i0 (.int .i64 0) 1 8 Tryz.underlying25 hi hz0 hz1 hz2 rfl (by decide) _ _ _ rfl ((own5).alloc _) ⟨w5.heap.size, 0, none⟩ 1 1 [.int .i64 (f x)] rfl rfl (cell_one_new _ _ _) (by simp [Value.oneCell']) (by simp [maxLen]; omega) (by omega) (by simp; omega) ?_; intro v' w6 hown' hgrow _)
          go_roundw
          case rel => exact ⟨x + 1, by omega, by go_num, by rw [HS.out]; exact own_snoc hown', (balloc hB5 _).grown hgrow (by (try simp); omega) (own_base own5)⟩
          case measure => simp [intOf]; omega
        · obtain rfl : x = W := by omega
          go_wp2_with fail
          go_roundw
          case rel => exact ⟨1, by omega, by first | rfl | (rw [if_neg (by omega)]; go_num), by rw [if_neg (by omega)]; exact hown, hB⟩
          case measure => simp [intOf]; omega
    · obtain rfl : k = 1 := by omega
      rw [if_neg (by omega)] at hown ⊢
      go_wp2_with fail
      go_ret2
      exact listPost_own hown (bvia hB1 hB)
set_option maxRecDepth 100000 in
set_option maxHeartbeats 1000000 in
theorem ref9_Loads (wide high : Int) (a : Option Addr) (n c : Nat) (g : Nat → C4) (w : World) (hn : n ≤ 100000000) (S : Sc w a n g) :
    Calls Tryz.prog 6 #[.agg #[.int .i64 wide, .int .i64 high, .slice a n c]] w (ListPost (lodL (validG wide high n g) wide.toNat (colTo wide.toNat g n)) (errR (validG wide high n g) 1) w) := by
  have hP : ∀ Y, Sc Y a n g → Calls Tryz.prog 20 #[.agg #[.int .i64 wide, .int .i64 high, .slice a n c], .int .i64 0] Y (ListPost (lodL (validG wide high n g) wide.toNat (colTo wide.toNat g n)) (errR (validG wide high n g) 1) Y) := fun w S => by
    have hax := fun Y S' => ref8_axial wide high a n c g Y hn S'
    cases hv : validG wide high n g
    · rw [hv] at hax
      have X0 := Bx.new w #[.int .i64 wide, .int .i64 high, .slice a n c] 24
      have hB0 : Below w.heap.size w (w.alloc (.cells #[.int .i64 wide, .int .i64 high, .slice a n c] 24)) := by (repeat' (first | with_reducible assumption | with_reducible exact Below.refl _ _ | with_reducible refine Below.drew ?_ | with_reducible refine below_drewN ?_ _ | with_reducible refine balloc ?_ _ | with_reducible refine bset ?_ ?_ _ | with_reducible refine Below.setCell ?_ ?_ _ | with_reducible refine Below.alloc ?_ ?_ _ | omega | (simp; done) | (simp; omega)))
      go_enter Tryz.func20, Tryz.ntmps20
      go_wp2_with fail
      generalize (w.alloc (.cells #[.int .i64 wide, .int .i64 high, .slice a n c] 24)) = W0 at X0 hB0 ⊢
      have z0 := X0.lt
      refine (hax _ (S.below hB0)).mono ?_
      rintro e w1 ⟨rfl, hb1⟩
      go_wp2_with fail
      go_ret2
      exact listPost_nil (bvia hB0 hb1)
    · obtain ⟨a1, a2, a3, a4, a5, a6, a7, a8⟩ := (validG_iff _ _ _ _).1 hv
      obtain ⟨W, rfl⟩ : ∃ W : Nat, wide = W := ⟨wide.toNat, by omega⟩
      obtain ⟨H, rfl⟩ : ∃ H : Nat, high = H := ⟨high.toNat, by omega⟩
      rw [hv] at hax
      simp only [Int.toNat_natCast]
      have htb := fun Y S' => ref8_Table W H a n c g Y hn hv S'
      clear a1 a2 a3 a4 a5 a6 a7 a8 hv
      have hlo : lodL true W (colTo W g n) = (List.range W).map (colTo W g n) := rfl
      rw [hlo]
      clear hlo
      generalize (List.range W).map (colTo W g n) = L at *
      have X0 := Bx.new w #[.int .i64 (W : Int), .int .i64 (H : Int), .slice a n c] 24
      have hB0 : Below w.heap.size w (w.alloc (.cells #[.int .i64 (W : Int), .int .i64 (H : Int), .slice a n c] 24)) := by (repeat' (first | with_reducible assumption | with_reducible exact Below.refl _ _ | with_reducible refine Below.drew ?_ | with_reducible refine below_drewN ?_ _ | with_reducible refine balloc ?_ _ | with_reducible refine bset ?_ ?_ _ | with_reducible refine Below.setCell ?_ ?_ _ | with_reducible refine Below.alloc ?_ ?_ _ | omega | (simp; done) | (simp; omega)))
      go_enter Tryz.func20, Tryz.ntmps20
      go_wp2_with fail
      generalize (w.alloc (.cells #[.int .i64 (W : Int), .int .i64 (H : Int), .slice a n c] 24)) = W0 at X0 hB0 ⊢
      have z0 := X0.lt
      refine (hax _ (S.below hB0)).mono ?_
      rintro e w1 ⟨rfl, hb1⟩
      have hB1 := bvia hB0 hb1
      replace X0 := X0.below hb1
      have x0 := X0.at_ 0 rfl; have x1 := X0.at_ 1 rfl; have x2 := X0.at_ 2 rfl; have lx := X0.lt
      go_wp2_with fail
      refine (htb _ (S.below hB1)).mono ?_
      rintro e w2 ⟨a2, c2, rfl, S2, hb2⟩
      go_wp2_with fail
      go_ret2
      exact ⟨a2, c2, rfl, S2, bvia hB1 hb2⟩
  generalize lodL (validG wide high n g) wide.toNat (colTo wide.toNat g n) = L at *
  generalize errR (validG wide high n g) 1 = er at *
  have X0 := Bx.new w #[.int .i64 wide, .int .i64 high, .slice a n c] 24
  have hB0 : Below w.heap.size w (w.alloc (.cells #[.int .i64 wide, .int .i64 high, .slice a n c] 24)) := by (repeat' (first | with_reducible assumption | with_reducible exact Below.refl _ _ | with_reducible refine Below.drew ?_ | with_reducible refine below_drewN ?_ _ | with_reducible refine balloc ?_ _ | with_reducible refine bset ?_ ?_ _ | with_reducible refine Below.setCell ?_ ?_ _ | with_reducible refine Below.alloc ?_ ?_ _ | omega | (simp; done) | (simp; omega)))
  go_enter Tryz.func6, Tryz.ntmps6
  go_wp2_with fail
  generalize (w.alloc (.cells #[.int .i64 wide, .int .i64 high, .slice a n c] 24)) = W0 at X0 hB0 ⊢
  have z0 := X0.lt
  refine (hP _ (S.below hB0)).mono ?_
  rintro e w1 ⟨a1, c1, rfl, S1, hb1⟩
  go_wp2_with fail
  go_ret2
  exact ⟨a1, c1, rfl, S1, bvia hB0 hb1⟩
end Go.Proofs.YteabkcbajpjkoaaGreat
/- Walks: Cost of both. -/
namespace Go.Proofs.YteabkcbajpjkoaaGreat
open Go Go.RowKit
set_option linter.unusedVariables false
set_option linter.unusedSimpArgs false
def CosPost (wide high : Int) (n : Nat) (g : Nat → C4) (m : Nat) (cu : Nat → Int) (note : Int) (w : World) (e : Ending) (w' : World) : Prop :=
  e = .returned (.tuple #[.int .i64 (cosR wide high n g m cu note), .int .i64 (cosE (validG wide high n g) (vK wide.toNat m cu) (within note 0 1000000000) m)]) ∧ Below w.heap.size w w'
theorem cos_fail {wide high note er : Int} {n m : Nat} {g : Nat → C4} {cu : Nat → Int} {w w' : World} (h : cosE (validG wide high n g) (vK wide.toNat m cu) (within note 0 1000000000) m = er) (hne : er ≠ 0) (hb : Below w.heap.size w w') :
    CosPost wide high n g m cu note w (.returned (.tuple #[.int .i64 0, .int .i64 er])) w' := by
  refine ⟨?_, hb⟩
  unfold cosR
  rw [h, if_neg hne]
set_option maxRecDepth 100000 in
set_option maxHeartbeats 4000000 in
theorem share_Cost (wide high : Int) (a ac : Option Addr) (n c m cc : Nat) (g : Nat → C4) (cu : Nat → Int) (note : Int) (w : World) (hn : n ≤ 100000000) (hm : m ≤ 100000000) (S : Sc w a n g) (HC : Sl w ac m cu) :
    Calls Tryz.prog 10 #[.agg #[.int .i64 wide, .int .i64 high, .slice a n c], .slice ac m cc, .int .i64 note] w (CosPost wide high n g m cu note w) := by
  have hlo := fun Y S' => share_Loads wide high a n c g Y hn S'
  have X0 := Bx.new w #[.int .i64 wide, .int .i64 high, .slice a n c] 24
  have hB0 : Below w.heap.size w (w.alloc (.cells #[.int .i64 wide, .int .i64 high, .slice a n c] 24)) := by (repeat' (first | with_reducible assumption | with_reducible exact Below.refl _ _ | with_reducible refine Below.drew ?_ | with_reducible refine below_drewN ?_ _ | with_reducible refine balloc ?_ _ | with_reducible refine bset ?_ ?_ _ | with_reducible refine Below.setCell ?_ ?_ _ | with_reducible refine Below.alloc ?_ ?_ _ | omega | (simp; done) | (simp; omega)))
  cases hv : validG wide high n g
  · rw [hv] at hlo
    have hF := fun w' hb => cos_fail (w := w) (w' := w') (n := n) (m := m) (g := g) (cu := cu) (wide := wide) (high := high) (note := note) (er := 1) (by rw [hv]; rfl) (by decide) hb
    have HF := hid hF; clear hF
    go_enter Tryz.func10, Tryz.ntmps10
    go_wp2_with fail
    generalize (w.alloc (.cells #[.int .i64 wide, .int .i64 high, .slice a n c] 24)) = W0 at X0 hB0 ⊢
    have z0 := X0.lt
    refine (hlo _ (S.below hB0)).mono ?_
    rintro e w1 (⟨_, rfl, hb1⟩ | ⟨h, _⟩)
    · go_wp2_with fail
      go_ret2
      exact HF.out _ (bvia hB0 hb1)
    · exact absurd h (by decide)
  obtain ⟨a1, a2, a3, a4, a5, a6, a7, a8⟩ := (validG_iff _ _ _ _).1 hv
  obtain ⟨W, rfl⟩ : ∃ W : Nat, wide = W := ⟨wide.toNat, by omega⟩
  obtain ⟨H, rfl⟩ : ∃ H : Nat, high = H := ⟨high.toNat, by omega⟩
  clear X0 hB0
  have X0 := Bx.new w #[.int .i64 (W : Int), .int .i64 (H : Int), .slice a n c] 24
  have hB0 : Below w.heap.size w (w.alloc (.cells #[.int .i64 (W : Int), .int .i64 (H : Int), .slice a n c] 24)) := by (repeat' (first | with_reducible assumption | with_reducible exact Below.refl _ _ | with_reducible refine Below.drew ?_ | with_reducible refine below_drewN ?_ _ | with_reducible refine balloc ?_ _ | with_reducible refine bset ?_ ?_ _ | with_reducible refine Below.setCell ?_ ?_ _ | with_reducible refine Below.alloc ?_ ?_ _ | omega | (simp; done) | (simp; omega)))
  rw [hv] at hlo
  simp only [Int.toNat_natCast] at hlo
  have hvc := fun Y SC => share_validCuts ac m cc W cu Y hm (by omega) SC
  have hwi := fun Y => share_within note 0 1000000000 Y
  cases hk : vK W m cu
  · rw [hk] at hvc
    have hF := fun w' hb => cos_fail (w := w) (w' := w') (n := n) (m := m) (g := g) (cu := cu) (wide := (W : Int)) (high := (H : Int)) (note := note) (er := 7) (by rw [hv, Int.toNat_natCast, hk]; rfl) (by decide) hb
    have HF := hid hF; clear hF
    clear a1 a2 a3 a4 a5 a6 a7 a8 hv hk
    go_enter Tryz.func10, Tryz.ntmps10
    go_wp2_with fail
    generalize (w.alloc (.cells #[.int .i64 (W : Int), .int .i64 (H : Int), .slice a n c] 24)) = W0 at X0 hB0 ⊢
    have z0 := X0.lt
    refine (hlo _ (S.below hB0)).mono ?_
    rintro e w1 (⟨h, _⟩ | ⟨_, b, rfl, R, hbw, hb1⟩)
    · exact absurd h (by decide)
    have hB1 := bvia hB0 hb1
    replace X0 := X0.below hb1
    have x0 := X0.at_ 0 rfl; have lx := X0.lt
    go_wp2_with fail
    refine (hvc _ (HC.below hB1)).mono ?_
    rintro e w2 ⟨rfl, rfl⟩
    go_wp2_with fail
    go_ret2
    exact HF.out _ hB1
  cases hw : within note 0 1000000000
  · rw [hk] at hvc
    rw [hw] at hwi
    have hF := fun w' hb => cos_fail (w := w) (w' := w') (n := n) (m := m) (g := g) (cu := cu) (wide := (W : Int)) (high := (H : Int)) (note := note) (er := 7) (by rw [hv, hw, Int.toNat_natCast, hk]; rfl) (by decide) hb
    have HF := hid hF; clear hF
    clear a1 a2 a3 a4 a5 a6 a7 a8 hv hk hw
    go_enter Tryz.func10, Tryz.ntmps10
    go_wp2_with fail
    generalize (w.alloc (.cells #[.int .i64 (W : Int), .int .i64 (H : Int), .slice a n c] 24)) = W0 at X0 hB0 ⊢
    have z0 := X0.lt
    refine (hlo _ (S.below hB0)).mono ?_
    rintro e w1 (⟨h, _⟩ | ⟨_, b, rfl, R, hbw, hb1⟩)
    · exact absurd h (by decide)
    have hB1 := bvia hB0 hb1
    replace X0 := X0.below hb1
    have x0 := X0.at_ 0 rfl; have lx := X0.lt
    go_wp2_with fail
    refine (hvc _ (HC.below hB1)).mono ?_
    rintro e w2 ⟨rfl, rfl⟩
    go_wp2_with fail
    refine (hwi _).mono ?_
    rintro e w2 ⟨rfl, rfl⟩
    go_wp2_with fail
    go_ret2
    exact HF.out _ hB1
  rw [hk] at hvc
  rw [hw] at hwi
  have hMp := fun Y S' SC => share_Map (W : Int) (H : Int) a ac n c m cc g cu Y hn hm S' SC
  simp only [Int.toNat_natCast] at hMp
  rw [hv, hk] at hMp
  by_cases h8 : 8 ≤ m
  · have hE : mapE true true m = 4 := by simp [mapE]; omega
    rw [hE] at hMp
    have hF := fun w' hb => cos_fail (w := w) (w' := w') (n := n) (m := m) (g := g) (cu := cu) (wide := (W : Int)) (high := (H : Int)) (note := note) (er := 4) (by rw [hv, hw, Int.toNat_natCast, hk]; simp [cosE]; omega) (by decide) hb
    have HF := hid hF; clear hF
    generalize mapR true true W m cu n = L at *
    clear a1 a2 a3 a4 a5 a6 a7 a8 hv hk hw hE
    go_enter Tryz.func10, Tryz.ntmps10
    go_wp2_with fail
    generalize (w.alloc (.cells #[.int .i64 (W : Int), .int .i64 (H : Int), .slice a n c] 24)) = W0 at X0 hB0 ⊢
    have z0 := X0.lt
    refine (hlo _ (S.below hB0)).mono ?_
    rintro e w1 (⟨h, _⟩ | ⟨_, b, rfl, R, hbw, hb1⟩)
    · exact absurd h (by decide)
    have hB1 := bvia hB0 hb1
    replace X0 := X0.below hb1
    have x0 := X0.at_ 0 rfl; have x1 := X0.at_ 1 rfl; have x2 := X0.at_ 2 rfl; have lx := X0.lt
    go_wp2_with fail
    refine (hvc _ (HC.below hB1)).mono ?_
    rintro e w2 ⟨rfl, rfl⟩
    go_wp2_with fail
    refine (hwi _).mono ?_
    rintro e w2 ⟨rfl, rfl⟩
    go_wp2_with fail
    refine (hMp _ (S.below hB1) (HC.below hB1)).mono ?_
    rintro e w3 ⟨am, cm, rfl, SM, hb3⟩
    go_wp2_with fail
    go_ret2
    exact HF.out _ (bvia hB1 hb3)
  have hE : mapE true true m = 0 := by simp [mapE]; omega
  have hR : mapR true true W m cu n = mapS W m cu n := by unfold mapR; rw [hE]; rfl
  rw [hE, hR] at hMp
  have hml := mapS_length W m cu n
  have hvM := map_valid (W := W) (H := H) (n := n) (m := m) (g := g) (cu := cu) hv (by omega)
  have hTr := fun ao co Y S' SO => node_Traffic (W : Int) (H : Int) a ao n n c co g (fun i => (mapS W m cu n).getD i 0) Y hn hn S' SO
  rw [hvM, show errR true 1 = 0 from rfl] at hTr
  have htb := traf_bd (W := W) (H := H) (n := n) (g := g) (o := fun i => (mapS W m cu n).getD i 0) (by omega)
  obtain ⟨hpb, hwb⟩ := peak_bd hv hk
  have hV := (vL_iff _ _).1 (load_valid hv)
  have hK := (vK_iff _ _ _).1 hk
  have hwt := fun b Y R SC => share_weights b 0 W W m cc ac (colTo W g n) cu Y hV.2.1 hV.2.2 (Nat.le_refl _) (by simp [maxLen]; omega) hK R SC
  have hll := wtL_length (colTo W g n) W m cu (m + 1)
  have hmx : mxTo (fun k => (wtL (colTo W g n) W m cu (m + 1)).getD k 0) (wtL (colTo W g n) W m cu (m + 1)).length = peakL (colTo W g n) W m cu := by
    rw [hll]; exact mxTo_congr _ fun i hi => wtL_get _ W m cu _ hi
  have hbd : ∀ k, k < (wtL (colTo W g n) W m cu (m + 1)).length → 0 ≤ (wtL (colTo W g n) W m cu (m + 1)).getD k 0 ∧ (wtL (colTo W g n) W m cu (m + 1)).getD k 0 ≤ 64000000000 := fun k hk => by
    rw [hll] at hk
    rw [wtL_get _ W m cu _ hk]
    exact hwb k hk
  have hF : ∀ w', Below w.heap.size w w' → CosPost (W : Int) (H : Int) n g m cu note w (.returned (.tuple #[.int .i64 (peakL (colTo W g n) W m cu + note * trafN (W : Int) (H : Int) n g n (fun i => (mapS W m cu n).getD i 0)), .int .i64 0])) w' := fun w' hb => by
    have he : cosE (validG (W : Int) (H : Int) n g) (vK (W : Int).toNat m cu) (within note 0 1000000000) m = 0 := by rw [hv, hw, Int.toNat_natCast, hk]; simp [cosE]; omega
    refine ⟨?_, hb⟩
    unfold cosR
    rw [he, if_pos rfl]
    simp only [Int.toNat_natCast]
  have HF := hid hF; clear hF
  have hl17 : (wtL (colTo W g n) W m cu (m + 1)).length ≤ 100000 ∧ 0 < (wtL (colTo W g n) W m cu (m + 1)).length := by rw [hll]; have := hK.1; omega
  have hnt := (within_iff _ _ _).1 hw
  generalize wtL (colTo W g n) W m cu (m + 1) = L at *
  generalize peakL (colTo W g n) W m cu = pk at *
  generalize trafN (W : Int) (H : Int) n g n (fun i => (mapS W m cu n).getD i 0) = T at *
  generalize mapS W m cu n = M at *
  obtain ⟨l1, l0⟩ := hl17
  obtain ⟨p0, p1⟩ := hpb
  obtain ⟨t0, t1⟩ := htb
  obtain ⟨n0, n1⟩ := hnt
  have hP0 : 0 ≤ note * T := Int.mul_nonneg n0 t0
  have hP1 : note * T ≤ 1000000000 * 131072 := Int.mul_le_mul n1 t1 t0 (by omega)
  obtain ⟨P, hP⟩ : ∃ P, note * T = P := ⟨_, rfl⟩
  rw [hP] at HF hP0 hP1
  have hq1 : IntKind.i64.wrap (note * T) = P := by rw [hP]; exact IntWalk.i64_in _ ⟨by omega, by omega⟩
  have hq2 : wrap64 (note * T) = P := by rw [hP]; exact IntWalk.wrap64_in _ ⟨by omega, by omega⟩
  have hq3 : IntKind.i64.wrap (pk + P) = pk + P := IntWalk.i64_in _ ⟨by omega, by omega⟩
  have hq4 : wrap64 (pk + P) = pk + P := IntWalk.wrap64_in _ ⟨by omega, by omega⟩
  have HMX := hid hmx; have HBD := hid hbd; have HML := hid hml
  clear hP hmx hbd hll hK hV hwb hvM hR hE h8 hml hw hk hv a1 a2 a3 a4 a5 a6 a7 a8 hP0 hP1 n0 n1 t0 t1
  go_enter Tryz.func10, Tryz.ntmps10
  go_wp2_with fail
  generalize (w.alloc (.cells #[.int .i64 (W : Int), .int .i64 (H : Int), .slice a n c] 24)) = W0 at X0 hB0 ⊢
  have z0 := X0.lt
  refine (hlo _ (S.below hB0)).mono ?_
  rintro e w1 (⟨h, _⟩ | ⟨_, b, rfl, R, hbw, hb1⟩)
  · exact absurd h (by decide)
  have hB1 := bvia hB0 hb1
  replace X0 := X0.below hb1
  have x0 := X0.at_ 0 rfl; have x1 := X0.at_ 1 rfl; have x2 := X0.at_ 2 rfl; have lx := X0.lt
  go_wp2_with fail
  refine (hvc _ (HC.below hB1)).mono ?_
  rintro e w2 ⟨rfl, rfl⟩
  go_wp2_with fail
  refine (hwi _).mono ?_
  rintro e w2 ⟨rfl, rfl⟩
  go_wp2_with fail
  refine (hMp _ (S.below hB1) (HC.below hB1)).mono ?_
  rintro e w3 ⟨am, cm, rfl, SM, hb3⟩
  have hB3 := bvia hB1 hb3
  replace X0 := X0.below hb3; replace R := R.below hb3
  clear x0 x1 x2 lx hb1 hb3 hB1
  have x0 := X0.at_ 0 rfl; have x1 := X0.at_ 1 rfl; have x2 := X0.at_ 2 rfl; have lx := X0.lt
  rw [HML.out] at SM
  have hml2 := HML.out
  rw [hml2]
  clear hml2
  go_wp2_with fail
  refine (hTr am cm _ (S.below hB3) SM).mono ?_
  rintro e w4 ⟨rfl, hb4⟩
  have hB4 := bvia hB3 hb4
  replace R := R.below hb4
  clear x0 x1 x2 lx X0 hb4 hB3 SM
  go_wp2_with fail
  refine (hwt b _ R.sl (HC.below hB4)).mono ?_
  rintro e w5 ⟨v, rfl, hown, hb5⟩
  obtain ⟨a5, c5, rfl, S5⟩ := sl_of_own hown
  have hB5 := bvia hB4 hb5
  go_wp2_with fail
  refine (slices_max a5 L.length c5 _ _ l1 l0 HBD.out S5).mono ?_
  rintro e w6 ⟨rfl, rfl⟩
  have e3 := HMX.out
  simp only [List.getD_eq_getElem?_getD] at e3 ⊢
  rw [e3]
  clear e3
  go_wp2_with fail
  go_ret2
  exact HF.out _ hB5
set_option maxRecDepth 100000 in
set_option maxHeartbeats 4000000 in
theorem ref9_Cost (wide high : Int) (a ac : Option Addr) (n c m cc : Nat) (g : Nat → C4) (cu : Nat → Int) (note : Int) (w : World) (hn : n ≤ 100000000) (hm : m ≤ 100000000) (S : Sc w a n g) (HC : Sl w ac m cu) :
    Calls Tryz.prog 11 #[.agg #[.int .i64 wide, .int .i64 high, .slice a n c], .slice ac m cc, .int .i64 note] w (CosPost wide high n g m cu note w) := by
  have hvl := fun Y S' => ref2_valid wide high a n c g Y hn S'
  have hlo := fun Y S' => ref9_Loads wide high a n c g Y hn S'
  have X0 := Bx.new w #[.int .i64 wide, .int .i64 high, .slice a n c] 24
  have hB0 : Below w.heap.size w (w.alloc (.cells #[.int .i64 wide, .int .i64 high, .slice a n c] 24)) := by (repeat' (first | with_reducible assumption | with_reducible exact Below.refl _ _ | with_reducible refine Below.drew ?_ | with_reducible refine below_drewN ?_ _ | with_reducible refine balloc ?_ _ | with_reducible refine bset ?_ ?_ _ | with_reducible refine Below.setCell ?_ ?_ _ | with_reducible refine Below.alloc ?_ ?_ _ | omega | (simp; done) | (simp; omega)))
  cases hv : validG wide high n g
  · rw [hv] at hvl
    have hF := fun w' hb => cos_fail (w := w) (w' := w') (n := n) (m := m) (g := g) (cu := cu) (wide := wide) (high := high) (note := note) (er := 1) (by rw [hv]; rfl) (by decide) hb
    have HF := hid hF; clear hF
    go_enter Tryz.func11, Tryz.ntmps11
    go_wp2_with fail
    generalize (w.alloc (.cells #[.int .i64 wide, .int .i64 high, .slice a n c] 24)) = W0 at X0 hB0 ⊢
    have z0 := X0.lt
    refine (hvl _ (S.below hB0)).mono ?_
    rintro e w1 ⟨rfl, hb1⟩
    go_wp2_with fail
    go_ret2
    exact HF.out _ (bvia hB0 hb1)
  obtain ⟨a1, a2, a3, a4, a5, a6, a7, a8⟩ := (validG_iff _ _ _ _).1 hv
  obtain ⟨W, rfl⟩ : ∃ W : Nat, wide = W := ⟨wide.toNat, by omega⟩
  obtain ⟨H, rfl⟩ : ∃ H : Nat, high = H := ⟨high.toNat, by omega⟩
  clear X0 hB0
  have X0 := Bx.new w #[.int .i64 (W : Int), .int .i64 (H : Int), .slice a n c] 24
  have hB0 : Below w.heap.size w (w.alloc (.cells #[.int .i64 (W : Int), .int .i64 (H : Int), .slice a n c] 24)) := by (repeat' (first | with_reducible assumption | with_reducible exact Below.refl _ _ | with_reducible refine Below.drew ?_ | with_reducible refine below_drewN ?_ _ | with_reducible refine balloc ?_ _ | with_reducible refine bset ?_ ?_ _ | with_reducible refine Below.setCell ?_ ?_ _ | with_reducible refine Below.alloc ?_ ?_ _ | omega | (simp; done) | (simp; omega)))
  rw [hv] at hvl hlo
  simp only [Int.toNat_natCast] at hlo
  have hvc := fun Y SC => ref9_shared ac m cc W cu Y hm (by omega) SC
  have hwi := fun Y => ref9_within note 0 1000000000 Y
  cases hk : vK W m cu
  · rw [hk] at hvc
    have hF := fun w' hb => cos_fail (w := w) (w' := w') (n := n) (m := m) (g := g) (cu := cu) (wide := (W : Int)) (high := (H : Int)) (note := note) (er := 7) (by rw [hv, Int.toNat_natCast, hk]; rfl) (by decide) hb
    have HF := hid hF; clear hF
    clear a1 a2 a3 a4 a5 a6 a7 a8 hv hk hlo
    go_enter Tryz.func11, Tryz.ntmps11
    go_wp2_with fail
    generalize (w.alloc (.cells #[.int .i64 (W : Int), .int .i64 (H : Int), .slice a n c] 24)) = W0 at X0 hB0 ⊢
    have z0 := X0.lt
    refine (hvl _ (S.below hB0)).mono ?_
    rintro e w1 ⟨rfl, hb1⟩
    have hB1 := bvia hB0 hb1
    replace X0 := X0.below hb1
    have x0 := X0.at_ 0 rfl; have lx := X0.lt
    go_wp2_with fail
    refine (hvc _ (HC.below hB1)).mono ?_
    rintro e w2 ⟨rfl, hb2⟩
    go_wp2_with fail
    go_ret2
    exact HF.out _ (bvia hB1 hb2)
  cases hw : within note 0 1000000000
  · rw [hk] at hvc
    rw [hw] at hwi
    have hF := fun w' hb => cos_fail (w := w) (w' := w') (n := n) (m := m) (g := g) (cu := cu) (wide := (W : Int)) (high := (H : Int)) (note := note) (er := 7) (by rw [hv, hw, Int.toNat_natCast, hk]; rfl) (by decide) hb
    have HF := hid hF; clear hF
    clear a1 a2 a3 a4 a5 a6 a7 a8 hv hk hw hlo
    go_enter Tryz.func11, Tryz.ntmps11
    go_wp2_with fail
    generalize (w.alloc (.cells #[.int .i64 (W : Int), .int .i64 (H : Int), .slice a n c] 24)) = W0 at X0 hB0 ⊢
    have z0 := X0.lt
    refine (hvl _ (S.below hB0)).mono ?_
    rintro e w1 ⟨rfl, hb1⟩
    have hB1 := bvia hB0 hb1
    replace X0 := X0.below hb1
    have x0 := X0.at_ 0 rfl; have lx := X0.lt
    go_wp2_with fail
    refine (hvc _ (HC.below hB1)).mono ?_
    rintro e w2 ⟨rfl, hb2⟩
    have hB2 := bvia hB1 hb2
    go_wp2_with fail
    refine (hwi _).mono ?_
    rintro e w3 ⟨rfl, rfl⟩
    go_wp2_with fail
    go_ret2
    exact HF.out _ hB2
  rw [hk] at hvc
  rw [hw] at hwi
  have hMp := fun Y S' SC => ref9_Map (W : Int) (H : Int) a ac n c m cc g cu Y hn hm S' SC
  simp only [Int.toNat_natCast] at hMp
  rw [hv, hk] at hMp
  by_cases h8 : 8 ≤ m
  · have hE : mapE true true m = 4 := by simp [mapE]; omega
    rw [hE] at hMp
    have hF := fun w' hb => cos_fail (w := w) (w' := w') (n := n) (m := m) (g := g) (cu := cu) (wide := (W : Int)) (high := (H : Int)) (note := note) (er := 4) (by rw [hv, hw, Int.toNat_natCast, hk]; simp [cosE]; omega) (by decide) hb
    have HF := hid hF; clear hF
    generalize mapR true true W m cu n = L at *
    clear a1 a2 a3 a4 a5 a6 a7 a8 hv hk hw hE hlo
    go_enter Tryz.func11, Tryz.ntmps11
    go_wp2_with fail
    generalize (w.alloc (.cells #[.int .i64 (W : Int), .int .i64 (H : Int), .slice a n c] 24)) = W0 at X0 hB0 ⊢
    have z0 := X0.lt
    refine (hvl _ (S.below hB0)).mono ?_
    rintro e w1 ⟨rfl, hb1⟩
    have hB1 := bvia hB0 hb1
    replace X0 := X0.below hb1
    have x0 := X0.at_ 0 rfl; have lx := X0.lt
    go_wp2_with fail
    refine (hvc _ (HC.below hB1)).mono ?_
    rintro e w2 ⟨rfl, hb2⟩
    have hB2 := bvia hB1 hb2
    replace X0 := X0.below hb2
    clear x0 lx
    have x0 := X0.at_ 0 rfl; have x1 := X0.at_ 1 rfl; have x2 := X0.at_ 2 rfl; have lx := X0.lt
    go_wp2_with fail
    refine (hwi _).mono ?_
    rintro e w3 ⟨rfl, rfl⟩
    go_wp2_with fail
    refine (hMp _ (S.below hB2) (HC.below hB2)).mono ?_
    rintro e w3 ⟨am, cm, rfl, SM, hb3⟩
    go_wp2_with fail
    go_ret2
    exact HF.out _ (bvia hB2 hb3)
  have hE : mapE true true m = 0 := by simp [mapE]; omega
  have hR : mapR true true W m cu n = mapS W m cu n := by unfold mapR; rw [hE]; rfl
  rw [hE, hR] at hMp
  have hml := mapS_length W m cu n
  have hvM := map_valid (W := W) (H := H) (n := n) (m := m) (g := g) (cu := cu) hv (by omega)
  have hTr := fun ao co Y S' SO => ref5_Traffic (W : Int) (H : Int) a ao n n c co g (fun i => (mapS W m cu n).getD i 0) Y hn hn S' SO
  rw [hvM, show errR true 1 = 0 from rfl] at hTr
  have htb := traf_bd (W := W) (H := H) (n := n) (g := g) (o := fun i => (mapS W m cu n).getD i 0) (by omega)
  obtain ⟨hpb, hwb⟩ := peak_bd hv hk
  have hV := (vL_iff _ _).1 (load_valid hv)
  have hK := (vK_iff _ _ _).1 hk
  have hlo1 : lodL true W (colTo W g n) = (List.range W).map (colTo W g n) := rfl
  have hlg : ∀ k, k < W → ((List.range W).map (colTo W g n)).getD k 0 = colTo W g n k := fun k hk => by simp [List.getD_eq_getElem?_getD, hk]
  have hll : ((List.range W).map (colTo W g n)).length = W := by simp
  rw [hlo1, show errR true 1 = 0 from rfl] at hlo
  have hwt := fun ax cx Y R SC => ref9_weights ax ac W m cx cc (colTo W g n) cu Y (⟨hV.1, hV.2.1, hV.2.2⟩ : validL W (colTo W g n)) hK R SC
  have hgr := fun b Y R => ref9_greatest (some ⟨b, 0, none⟩) (m + 1) (m + 1) (wt (colTo W g n) W m cu) Y (by have := hK.1; omega) R
  rw [show mxTo (wt (colTo W g n) W m cu) (m + 1) = peakL (colTo W g n) W m cu from rfl] at hgr
  have hF : ∀ w', Below w.heap.size w w' → CosPost (W : Int) (H : Int) n g m cu note w (.returned (.tuple #[.int .i64 (peakL (colTo W g n) W m cu + note * trafN (W : Int) (H : Int) n g n (fun i => (mapS W m cu n).getD i 0)), .int .i64 0])) w' := fun w' hb => by
    have he : cosE (validG (W : Int) (H : Int) n g) (vK (W : Int).toNat m cu) (within note 0 1000000000) m = 0 := by rw [hv, hw, Int.toNat_natCast, hk]; simp [cosE]; omega
    refine ⟨?_, hb⟩
    unfold cosR
    rw [he, if_pos rfl]
    simp only [Int.toNat_natCast]
  have HF := hid hF; clear hF
  have hnt := (within_iff _ _ _).1 hw
  generalize peakL (colTo W g n) W m cu = pk at *
  generalize trafN (W : Int) (H : Int) n g n (fun i => (mapS W m cu n).getD i 0) = T at *
  generalize mapS W m cu n = M at *
  generalize (List.range W).map (colTo W g n) = L at *
  generalize wt (colTo W g n) W m cu = F at *
  obtain ⟨p0, p1⟩ := hpb
  obtain ⟨t0, t1⟩ := htb
  obtain ⟨n0, n1⟩ := hnt
  have hP0 : 0 ≤ note * T := Int.mul_nonneg n0 t0
  have hP1 : note * T ≤ 1000000000 * 131072 := Int.mul_le_mul n1 t1 t0 (by omega)
  obtain ⟨P, hP⟩ : ∃ P, note * T = P := ⟨_, rfl⟩
  rw [hP] at HF hP0 hP1
  have hq1 : IntKind.i64.wrap (note * T) = P := by rw [hP]; exact IntWalk.i64_in _ ⟨by omega, by omega⟩
  have hq2 : wrap64 (note * T) = P := by rw [hP]; exact IntWalk.wrap64_in _ ⟨by omega, by omega⟩
  have hq3 : IntKind.i64.wrap (pk + P) = pk + P := IntWalk.i64_in _ ⟨by omega, by omega⟩
  have hq4 : wrap64 (pk + P) = pk + P := IntWalk.wrap64_in _ ⟨by omega, by omega⟩
  have HML := hid hml; have HLG := hid hlg; have HLL := hid hll
  clear hP hlg hll hlo1 hK hV hwb hvM hR hE h8 hml hw hk hv a1 a2 a3 a4 a5 a6 a7 a8 hP0 hP1 n0 n1 t0 t1
  go_enter Tryz.func11, Tryz.ntmps11
  go_wp2_with fail
  generalize (w.alloc (.cells #[.int .i64 (W : Int), .int .i64 (H : Int), .slice a n c] 24)) = W0 at X0 hB0 ⊢
  have z0 := X0.lt
  refine (hvl _ (S.below hB0)).mono ?_
  rintro e w1 ⟨rfl, hb1⟩
  have hB1 := bvia hB0 hb1
  replace X0 := X0.below hb1
  have x0 := X0.at_ 0 rfl; have lx := X0.lt
  go_wp2_with fail
  refine (hvc _ (HC.below hB1)).mono ?_
  rintro e w2 ⟨rfl, hb2⟩
  have hB2 := bvia hB1 hb2
  replace X0 := X0.below hb2
  clear x0 lx
  have x0 := X0.at_ 0 rfl; have x1 := X0.at_ 1 rfl; have x2 := X0.at_ 2 rfl; have lx := X0.lt
  go_wp2_with fail
  refine (hwi _).mono ?_
  rintro e w3 ⟨rfl, rfl⟩
  go_wp2_with fail
  refine (hMp _ (S.below hB2) (HC.below hB2)).mono ?_
  rintro e w3 ⟨am, cm, rfl, SM, hb3⟩
  have hB3 := bvia hB2 hb3
  replace X0 := X0.below hb3
  clear x0 x1 x2 lx hb1 hb2 hb3 hB1 hB2
  have x0 := X0.at_ 0 rfl; have x1 := X0.at_ 1 rfl; have x2 := X0.at_ 2 rfl; have lx := X0.lt
  rw [HML.out] at SM
  have hml2 := HML.out
  rw [hml2]
  clear hml2
  go_wp2_with fail
  refine (hlo _ (S.below hB3)).mono ?_
  rintro e w4 ⟨al, cl, rfl, SL, hb4⟩
  have hll2 := HLL.out
  rw [hll2] at SL ⊢
  clear hll2
  have hB4 := bvia hB3 hb4
  replace X0 := X0.below hb4; replace SM := SM.below hb4
  clear x0 x1 x2 lx hb4 hB3
  have x0 := X0.at_ 0 rfl; have x1 := X0.at_ 1 rfl; have x2 := X0.at_ 2 rfl; have lx := X0.lt
  replace SL : Sl w4 al W (colTo W g n) := fun k hk => by
    obtain ⟨b, o, e1, e2, e3⟩ := SL k hk
    exact ⟨b, o, e1, e2, by rw [e3]; dsimp only; rw [HLG.out k hk]⟩
  go_wp2_with fail
  refine (hTr am cm _ (S.below hB4) SM).mono ?_
  rintro e w5 ⟨rfl, hb5⟩
  have hB5 := bvia hB4 hb5
  replace SL := SL.below hb5
  clear x0 x1 x2 lx X0 hb5 hB4 SM
  go_wp2_with fail
  refine (hwt al cl _ SL (HC.below hB5)).mono ?_
  rintro e w6 ⟨b, rfl, hbb, R, hb6⟩
  have hB6 := bvia hB5 hb6
  go_wp2_with fail
  refine (hgr b _ R.sl).mono ?_
  rintro e w7 ⟨rfl, rfl⟩
  go_wp2_with fail
  go_ret2
  exact HF.out _ hB6
end Go.Proofs.YteabkcbajpjkoaaGreat
