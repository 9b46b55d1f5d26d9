/- Walks: Loads and Map, of the program; SameGrid of the reference. -/
import Derived.Test.YtjkngkogddmceaaGreatPk15
import Derived.Test.YtjkngkogddmceaaGreatPk16
import Derived.Test.YtjkngkogddmceaaGreatPk18
import Derived.Test.YtjkngkogddmceaaGreatPk4
namespace Go.Proofs.YtjkngkogddmceaaGreat
open Go Go.RowKit
attribute [local go_sem] Oper.semAt_some
set_option linter.unusedVariables false
set_option linter.unusedSimpArgs false
def LoaPost (v : Bool) (W : Nat) (f : Nat → Int) (w : World) (e : Ending) (w' : World) : Prop :=
  (v = false ∧ e = .returned (.tuple #[.slice none 0 0, .int .i64 1]) ∧ Below w.heap.size w w') ∨
  (v = true ∧ ∃ b, e = .returned (.tuple #[.slice (some ⟨b, 0, none⟩) W W, .int .i64 0]) ∧ Ro w' b W f ∧ w.heap.size ≤ b ∧ Below w.heap.size w w')
/-- in the midst of cell k -/
def colD (W : Nat) (g : Nat → C4) (k d j : Nat) : Int := colTo W g k j + if j = k % W then sumTo (g k).get d else 0
theorem colD_zero (W : Nat) (g : Nat → C4) (k : Nat) : colD W g k 0 = colTo W g k := by
  funext j; simp [colD, sumTo]
theorem colD_four (W : Nat) (g : Nat → C4) (k : Nat) : colD W g k 4 = colTo W g (k + 1) := by
  funext j
  simp only [colD, colTo, sumTo4, C4.mass]
theorem colD_succ (W : Nat) (g : Nat → C4) (k d : Nat) : upd (colD W g k d) (k % W) (colD W g k d (k % W) + (g k).get d) = colD W g k (d + 1) := by
  funext j
  by_cases e : j = k % W
  · subst e; simp [upd, colD, sumTo]; omega
  · simp [upd, colD, e]
theorem get_nn {c : C4} (h : validC c = true) (d : Nat) (hd : d < 4) : 0 ≤ c.get d ∧ c.get d ≤ 1000000000 := by
  have := (validC_iff _).1 h
  rcases (by omega : d = 0 ∨ d = 1 ∨ d = 2 ∨ d = 3) with rfl | rfl | rfl | rfl <;> simp only [C4.get] <;> omega
theorem sum4_bd {c : C4} (h : validC c = true) (d : Nat) (hd : d ≤ 4) : 0 ≤ sumTo c.get d ∧ sumTo c.get d ≤ 1000000000 := by
  have := (validC_iff _).1 h
  rcases (by omega : d = 0 ∨ d = 1 ∨ d = 2 ∨ d = 3 ∨ d = 4) with rfl | rfl | rfl | rfl | rfl <;> simp only [sumTo, C4.get] <;> omega
set_option maxRecDepth 100000 in
set_option maxHeartbeats 4000000 in
theorem share_Loads (wide high : Int) (a : Option Addr) (n c : Nat) (g : Nat → C4) (w : World) (hn : n ≤ 100000000) (S : Sc w a n g) :
    Calls Tryz.prog 8 #[.agg #[.int .i64 wide, .int .i64 high, .slice a n c]] w (LoaPost (validG wide high n g) wide.toNat (colTo wide.toNat g n) w) := by
  have hvl := fun Y S' => grid_valid wide high a n c g Y hn S'
  have X0 := Bx.new w #[.int .i64 wide, .int .i64 high, .slice a n c] 24
  have hB0 : Below w.heap.size w (w.alloc (.cells #[.int .i64 wide, .int .i64 high, .slice a n c] 24)) := by (repeat' (first | with_reducible assumption | with_reducible exact Below.refl _ _ | with_reducible refine Below.drew ?_ | with_reducible refine below_drewN ?_ _ | with_reducible refine balloc ?_ _ | with_reducible refine bset ?_ ?_ _ | with_reducible refine Below.setCell ?_ ?_ _ | with_reducible refine Below.alloc ?_ ?_ _ | omega | (simp; done) | (simp; omega)))
  cases hv : validG wide high n g
  · rw [hv] at hvl
    go_enter Tryz.func8, Tryz.ntmps8
    go_wp2_with fail
    generalize (w.alloc (.cells #[.int .i64 wide, .int .i64 high, .slice a n c] 24)) = W0 at X0 hB0 ⊢
    have z0 := X0.lt
    refine (hvl _ (S.below hB0)).mono ?_
    rintro e w1 ⟨rfl, hb1⟩
    go_wp2_with fail
    go_ret2
    exact .inl ⟨rfl, rfl, bvia hB0 hb1⟩
  rw [hv] at hvl
  obtain ⟨a1, a2, a3, a4, a5, a6, a7, a8⟩ := (validG_iff _ _ _ _).1 hv
  obtain ⟨W, rfl⟩ : ∃ W : Nat, wide = W := ⟨wide.toNat, by omega⟩
  simp only [Int.toNat_natCast]
  clear X0 hB0
  have X0 := Bx.new w #[.int .i64 (W : Int), .int .i64 high, .slice a n c] 24
  have hB0 : Below w.heap.size w (w.alloc (.cells #[.int .i64 (W : Int), .int .i64 high, .slice a n c] 24)) := by (repeat' (first | with_reducible assumption | with_reducible exact Below.refl _ _ | with_reducible refine Below.drew ?_ | with_reducible refine below_drewN ?_ _ | with_reducible refine balloc ?_ _ | with_reducible refine bset ?_ ?_ _ | with_reducible refine Below.setCell ?_ ?_ _ | with_reducible refine Below.alloc ?_ ?_ _ | omega | (simp; done) | (simp; omega)))
  have hW0 : 0 < W := by omega
  have hbd := fun k (hk : k ≤ n) j => colTo_bd (W := W) (n := k) (g := g) (fun i hi => a7 i (by omega)) j
  have hmas : ∀ k, k < n → massTo g k + (g k).mass ≤ 1000000000 := fun k hk => by
    have h1 := massTo_mono g (k := k + 1) (n := n) (by omega) a7
    simp only [massTo] at h1
    omega
  have HBD := hid hbd; have HMS := hid hmas; have HA := hid a7
  have hn4 : n ≤ 4096 := by omega
  have hmk := fun Y => mk_ints W (W : Int) rfl (by omega) Y
  clear hbd hmas a3 a4 a5 a6 a7 a8 hv
  go_enter Tryz.func8, Tryz.ntmps8
  go_wp2_with fail
  generalize (w.alloc (.cells #[.int .i64 (W : Int), .int .i64 high, .slice a n c] 24)) = W0 at X0 hB0 ⊢
  have z0 := X0.lt
  refine (hvl _ (S.below hB0)).mono ?_
  rintro e w1 ⟨rfl, hb1⟩
  have hB1 := bvia hB0 hb1
  replace X0 := X0.below hb1
  have hs1 := hB1.size
  have x0 := X0.at_ 0 rfl; have x2 := X0.at_ 2 rfl; have lx := X0.lt
  clear hvl hB0 hb1
  go_wp2_with fail
  have R1 := ro_made w1 W
  have hB2 := balloc hB1 (.cells (zcells W) 3)
  have X2 := X0.alloc (.cells (zcells W) 3)
  have hs2 : w1.heap.size < (w1.alloc (.cells (zcells W) 3)).heap.size := by simp
  have S2 := S.below hB2
  have hlw := lx
  clear hmk x0 x2 lx X0 hB1
  generalize w1.alloc (.cells (zcells W) 3) = W1 at *
  obtain ⟨b, hb⟩ : ∃ b, b = w1.heap.size := ⟨_, rfl⟩
  rw [← hb] at R1 hs2 ⊢
  have hbw : w.heap.size < b := by rw [hb]; exact hlw
  clear hlw
  clear hb hs1
  go_loopw [18] (fun s wr => ∃ k : Nat, k ≤ n ∧ s = .int .i64 (k : Int) ∧ Ro wr b W (colTo W g k) ∧ But (fun q => q = b) W1 wr) (fun s _ => n - (intOf s).toNat)
  case atStart => exact ⟨0, Nat.zero_le _, rfl, R1, But.refl _ _⟩
  case round =>
    clear R1
    obtain ⟨k, hk, rfl, R, hU⟩ := hrel
    obtain ⟨wo, rfl⟩ : ∃ wo : World, wo = wr := ⟨_, rfl⟩
    have hsz := hU.size
    have XW := X2.but hU (by omega)
    have x0 := XW.at_ 0 rfl; have x2 := XW.at_ 2 rfl; have lx := XW.lt
    by_cases hlt : k < n
    · obtain ⟨bc, oc, rfl, hbc, c0, c1, c2, c3⟩ := S2 k hlt
      obtain ⟨bc', oc', e1, hbc', d0, d1, d2, d3⟩ := S k hlt
      injection e1 with e1; injection e1 with e1 e2 _
      subst e1
      subst e2
      have hne : ¬ bc = b := by omega
      rw [← World.cell?_of_block (hU.block bc hbc hne)] at c0 c1 c2 c3
      have HIX := hid (fun d hd Y => idx_cell (g k) d hd Y)
      have hva := HA.out k hlt
      have hbk := HBD.out k hk (k % W)
      have hmk := HMS.out k hlt
      have hgn := fun d hd => get_nn hva d hd
      have hsd := fun d hd => sum4_bd hva d hd
      have hcz := colD_zero W g k; have hcf := colD_four W g k; have hcs := fun d => colD_succ W g k d
      have hcv : ∀ d, colD W g k d (k % W) = colTo W g k (k % W) + sumTo (g k).get d := fun d => by simp [colD]
      have hmm : (g k).mass = sumTo (g k).get 4 := by rw [sumTo4]; rfl
      have hm2 : ∀ d, d ≤ 4 → sumTo (g k).get d ≤ (g k).mass := fun d hd => by
        have := (validC_iff _).1 hva
        rcases (by omega : d = 0 ∨ d = 1 ∨ d = 2 ∨ d = 3 ∨ d = 4) with rfl | rfl | rfl | rfl | rfl <;> simp only [sumTo, C4.get, C4.mass] <;> omega
      have HVB := hid (show ∀ d, d ≤ 4 → 0 ≤ colD W g k d (k % W) ∧ colD W g k d (k % W) ≤ 1000000000 from fun d hd => by rw [hcv]; have := hsd d hd; have := hm2 d hd; have := (massTo_nonneg g k fun i hi => HA.out i (by omega)); omega)
      have HCS := hid hcs; have HGN := hid hgn
      rw [← hcz] at R
      have HCF := hid hcf
      clear hcz hcf hcs hgn hsd hcv hmm hm2 hva hbk hmk d0 d1 d2 d3 hbc'
      have htm : ((k : Int)).tmod (W : Int) = ((k % W : Nat) : Int) := by rw [Int.tmod_eq_emod_of_nonneg (by omega)]; simp
      have htm2 : ((k : Int)) % (W : Int) = ((k % W : Nat) : Int) := by simp
      have hWi : ¬ (W : Int) = 0 := by omega
      have hlm : k % W < W := Nat.mod_lt _ hW0
      generalize colD W g k = F at *
      generalize k % W = m at *
      generalize g k = cc at *
      go_wp2_with fail
      have R2 := R.alloc (.cells #[.int .i64 cc.e, .int .i64 cc.n, .int .i64 cc.w, .int .i64 cc.s] 55)
      have hU2 := hU.alloc (.cells #[.int .i64 cc.e, .int .i64 cc.n, .int .i64 cc.w, .int .i64 cc.s] 55)
      clear R x0 x2 lx XW hU c0 c1 c2 c3 hsz
      generalize wo.alloc (.cells #[.int .i64 cc.e, .int .i64 cc.n, .int .i64 cc.w, .int .i64 cc.s] 55) = w5 at *
      go_loopw [24] (fun s wr => ∃ d : Nat, d ≤ 4 ∧ s = .int .i64 (d : Int) ∧ Ro wr b W (F d) ∧ But (fun q => q = b) W1 wr) (fun s _ => 4 - (intOf s).toNat)
      case atStart => exact ⟨0, Nat.zero_le _, rfl, R2, hU2⟩
      case round =>
        clear R2 hU2
        obtain ⟨d, hd, rfl, R, hU⟩ := hrel
        have XW := X2.but hU (by omega)
        have x0 := XW.at_ 0 rfl; have lx := XW.lt
        by_cases hd4 : d < 4
        · have hi := HIX.out d hd4
          have v1 := HVB.out d hd
          have v2 := HGN.out d hd4
          have r0 := R.cells m hlm
          have rf := R.free; have rl := R.lt
          have hcs := HCS.out d
          have HC2 := hid hcs
          have R3 := R.set_ m (F d m + cc.get d)
          rw [hcs] at R3
          have hU3 := But.set_ hU (p := ⟨b, m, none⟩) rfl (.int .i64 (F d m + cc.get d))
          clear hcs
          generalize hfm : F d m = x at *
          generalize hgd : cc.get d = y at *
          have HF := hid hfm; have HG := hid hgd
          clear hfm hgd
          go_wp2_with fail
          go_roundw
          case rel => exact ⟨d + 1, by omega, by go_num, R3, hU3⟩
          case measure => simp [intOf]; omega
        · obtain rfl : d = 4 := (by omega)
          rw [HCF.out] at R
          go_wp2_with fail
          go_roundw
          case rel => exact ⟨k + 1, by omega, by go_num, R, hU⟩
          case measure => simp [intOf]; omega
    · obtain rfl : k = n := (by omega)
      go_wp2_with fail
      go_ret2
      exact .inr ⟨rfl, b, rfl, R, by omega, hB2.trans ⟨hU.os, hU.tape, hU.output, hU.size, fun q hq => hU.block q (by have := hB2.size; omega) (by omega)⟩⟩
def mapE (v k : Bool) (m : Nat) : Int := if v then (if k then (if m < 8 then 0 else 4) else 7) else 1
def mapR (v k : Bool) (W m : Nat) (c : Nat → Int) (n : Nat) : List Int := if mapE v k m = 0 then mapS W m c n else []
theorem one_intsM (l : List Int) : ∀ u ∈ l.map vInt, u.oneCell' = true := by
  intro u hu
  obtain ⟨x, _, rfl⟩ := List.mem_map.1 hu
  rfl
theorem ints_row {w : World} {b : Nat} {xs : List Int} (h : Sl w (some ⟨b, 0, none⟩) xs.length (fun k => xs.getD k 0)) : ∀ j u, (xs.map vInt)[j]? = some u → w.cell? ((⟨b, 0, none⟩ : Addr).add j) = some u := fun j u hu => by
  have hj : j < xs.length := by
    have := (List.getElem?_eq_some_iff.1 hu).1
    simpa using this
  obtain ⟨b', o', e, _, hc⟩ := h j hj
  injection e with e; injection e with e1 e2 _
  subst e1
  subst e2
  rw [addrAdd, hc]
  rw [List.getElem?_map, List.getElem?_eq_getElem hj] at hu
  injection hu with hu
  rw [← hu]
  simp [vInt, List.getD_eq_getElem?_getD, hj]
set_option maxRecDepth 100000 in
set_option maxHeartbeats 4000000 in
theorem share_Map (wide high : Int) (a ac : Option Addr) (n c m cc : Nat) (g : Nat → C4) (cu : Nat → Int) (w : World) (hn : n ≤ 100000000) (hm : m ≤ 100000000) (S : Sc w a n g) (HC : Sl w ac m cu) :
    Calls Tryz.prog 14 #[.agg #[.int .i64 wide, .int .i64 high, .slice a n c], .slice ac m cc] w (ListPost (mapR (validG wide high n g) (vK wide.toNat m cu) wide.toNat m cu n) (mapE (validG wide high n g) (vK wide.toNat m cu) m) w) := by
  have hvl := fun Y S' => grid_valid wide high a n c g Y hn S'
  cases hv : validG wide high n g
  · rw [hv] at hvl
    have X0 := Bx.new w #[.int .i64 wide, .int .i64 high, .slice a n c] 24
    have hB0 : Below w.heap.size w (w.alloc (.cells #[.int .i64 wide, .int .i64 high, .slice a n c] 24)) := by (repeat' (first | with_reducible assumption | with_reducible exact Below.refl _ _ | with_reducible refine Below.drew ?_ | with_reducible refine below_drewN ?_ _ | with_reducible refine balloc ?_ _ | with_reducible refine bset ?_ ?_ _ | with_reducible refine Below.setCell ?_ ?_ _ | with_reducible refine Below.alloc ?_ ?_ _ | omega | (simp; done) | (simp; omega)))
    go_enter Tryz.func14, Tryz.ntmps14
    go_wp2_with fail
    generalize (w.alloc (.cells #[.int .i64 wide, .int .i64 high, .slice a n c] 24)) = W0 at X0 hB0 ⊢
    have z0 := X0.lt
    refine (hvl _ (S.below hB0)).mono ?_
    rintro e w1 ⟨rfl, hb1⟩
    go_wp2_with fail
    go_ret2
    exact listPost_nil (bvia hB0 hb1)
  rw [hv] at hvl
  obtain ⟨a1, a2, a3, a4, a5, a6, a7, a8⟩ := (validG_iff _ _ _ _).1 hv
  obtain ⟨W, rfl⟩ : ∃ W : Nat, wide = W := ⟨wide.toNat, by omega⟩
  obtain ⟨H, rfl⟩ : ∃ H : Nat, high = H := ⟨high.toNat, by omega⟩
  have hnn : n = H * W := by
    have : (n : Int) = ((H * W : Nat) : Int) := by rw [a6, Int.mul_comm]; simp
    exact_mod_cast this
  simp only [Int.toNat_natCast]
  have hvc := fun Y SC => share_validCuts ac m cc W cu Y hm (by omega) SC
  have X0 := Bx.new w #[.int .i64 (W : Int), .int .i64 (H : Int), .slice a n c] 24
  have hB0 : Below w.heap.size w (w.alloc (.cells #[.int .i64 (W : Int), .int .i64 (H : Int), .slice a n c] 24)) := by (repeat' (first | with_reducible assumption | with_reducible exact Below.refl _ _ | with_reducible refine Below.drew ?_ | with_reducible refine below_drewN ?_ _ | with_reducible refine balloc ?_ _ | with_reducible refine bset ?_ ?_ _ | with_reducible refine Below.setCell ?_ ?_ _ | with_reducible refine Below.alloc ?_ ?_ _ | omega | (simp; done) | (simp; omega)))
  cases hk : vK W m cu
  · rw [hk] at hvc
    clear hnn
    go_enter Tryz.func14, Tryz.ntmps14
    go_wp2_with fail
    generalize (w.alloc (.cells #[.int .i64 (W : Int), .int .i64 (H : Int), .slice a n c] 24)) = W0 at X0 hB0 ⊢
    have z0 := X0.lt
    refine (hvl _ (S.below hB0)).mono ?_
    rintro e w1 ⟨rfl, hb1⟩
    have hB1 := bvia hB0 hb1
    replace X0 := X0.below hb1
    have x0 := X0.at_ 0 rfl; have lx := X0.lt
    go_wp2_with fail
    refine (hvc _ (HC.below hB1)).mono ?_
    rintro e w2 ⟨rfl, rfl⟩
    go_wp2_with fail
    go_ret2
    exact listPost_nil hB1
  rw [hk] at hvc
  have hK := (vK_iff _ _ _).1 hk
  by_cases h8 : 8 ≤ m
  · have h8i : (8 : Int) ≤ (m : Int) := by omega
    have hE : mapE true true m = 4 := by simp [mapE]; omega
    have hR : mapR true true W m cu n = [] := by unfold mapR; rw [hE]; rfl
    rw [hE, hR]
    clear hE hR hnn
    go_enter Tryz.func14, Tryz.ntmps14
    go_wp2_with fail
    generalize (w.alloc (.cells #[.int .i64 (W : Int), .int .i64 (H : Int), .slice a n c] 24)) = W0 at X0 hB0 ⊢
    have z0 := X0.lt
    refine (hvl _ (S.below hB0)).mono ?_
    rintro e w1 ⟨rfl, hb1⟩
    have hB1 := bvia hB0 hb1
    replace X0 := X0.below hb1
    have x0 := X0.at_ 0 rfl; have lx := X0.lt
    go_wp2_with fail
    refine (hvc _ (HC.below hB1)).mono ?_
    rintro e w2 ⟨rfl, rfl⟩
    go_wp2_with fail
    go_ret2
    exact listPost_nil hB1
  have h8i : ¬ (8 : Int) ≤ (m : Int) := by omega
  have hE : mapE true true m = 0 := by simp [mapE]; omega
  have hR : mapR true true W m cu n = mapS W m cu (H * W) := by unfold mapR; rw [hE, hnn]; rfl
  rw [hE, hR]
  have hn4 : H * W ≤ 4096 := by omega
  have how := fun Y SC => share_owners W m cc ac cu Y (by omega) hK SC
  obtain ⟨i0, hi, hz0, hz1, hz2⟩ := info_parts infoI
  have hrow := fun k => mapS_row W m cu k
  have hnl : nodL m cu W = (List.range W).map fun x => (nodeOf m cu x : Int) := rfl
  have hcl := nodL_length m cu W
  have hln := fun k => mapS_length W m cu k
  have hM0 : mapS W m cu 0 = [] := rfl
  rw [← hnl] at hrow
  have hkw : ∀ k, k < H → k * W + W ≤ 4096 := fun k hk => by
    have : (k + 1) * W ≤ H * W := Nat.mul_le_mul_right _ (by omega)
    rw [Nat.succ_mul] at this
    omega
  generalize nodL m cu W = C at *
  generalize mapS W m cu = M at *
  have HRW := hid hrow; have HLN := hid hln; have HKW := hid hkw; have HM0 := hid hM0; have HCL := hid hcl
  clear hnl hrow hln hkw hM0 hE hR hnn hK hk a5 a6 a7 a8 hv hn4
  go_enter Tryz.func14, Tryz.ntmps14
  go_wp2_with fail
  generalize (w.alloc (.cells #[.int .i64 (W : Int), .int .i64 (H : Int), .slice a n c] 24)) = W0 at X0 hB0 ⊢
  have z0 := X0.lt
  refine (hvl _ (S.below hB0)).mono ?_
  rintro e w1 ⟨rfl, hb1⟩
  have hB1 := bvia hB0 hb1
  replace X0 := X0.below hb1
  have x0 := X0.at_ 0 rfl; have lx := X0.lt
  go_wp2_with fail
  refine (hvc _ (HC.below hB1)).mono ?_
  rintro e w2 ⟨rfl, rfl⟩
  go_wp2_with fail
  refine (how _ (HC.below hB1)).mono ?_
  rintro e w3 ⟨v, rfl, hown, hb3⟩
  obtain ⟨a3, c3, rfl, hsl⟩ := sl_of_own hown
  obtain ⟨b3, ha3⟩ : ∃ b3, a3 = some ⟨b3, 0, none⟩ := by
    rcases hown.2 with ⟨e1, h0⟩ | ⟨g', cap, cur, e1, _⟩
    · rw [hcl] at h0; omega
    · injection e1 with e1 _ _; exact ⟨g', e1⟩
  subst ha3
  have hB3 := bvia hB1 hb3
  replace X0 := X0.below hb3
  have x1 := X0.at_ 1 rfl; have lx3 := X0.lt
  clear x0 lx hvl hvc how hb1 hb3 hB0 hown
  have hs3 := hB3.size
  go_wp2_with fail
  clear x1
  rw [hcl] at hsl
  go_loopw [7, 25] (fun v s wr => ∃ k : Nat, k ≤ H ∧ s = .int .i64 (k : Int) ∧ wr.ownsRow w3.heap.size 3 1 v (M (k * W)).length ((M (k * W)).map vInt) ∧ Below w3.heap.size w3 wr) (fun _ s _ => H - (intOf s).toNat)
  case atStart => exact ⟨0, Nat.zero_le _, rfl, by rw [Nat.zero_mul, HM0.out]; exact World.ownsRow_nil .., Below.refl _ _⟩
  case round =>
    obtain ⟨k, hk, rfl, hown, hB⟩ := hrel
    by_cases hlt : k < H
    · have hkw := HKW.out k hlt
      have hl := HLN.out (k * W)
      have hsr := ints_row (xs := C) (by rw [HCL.out]; exact hsl.below hB)
      have hone := one_intsM C
      have HSR := hid hsr; clear hsr
      have hsz := hB.size
      go_wp2_with (at_builtin; refine wpList_append_own _ rfl _ _ 29 rfl w3.heap.size 3 i0 (.int .i64 0) 1 8 Tryz.underlying29 hi hz0 hz1 hz2 rfl (by decide) _ _ _ rfl hown ⟨b3, 0, none⟩ W c3 (C.map vInt) rfl (by rw [List.length_map, HCL.out, Nat.mul_one]) HSR.out hone (by simp [maxLen]; omega) (by omega) hB.size ?_; intro v' w5 hown' hgrow _)
      go_roundw
      case rel => exact ⟨k + 1, by omega, by go_num, by rw [Nat.succ_mul, HRW.out, List.length_append, HCL.out, List.map_append]; exact hown', hB.grown hgrow hB.size (own_base hown)⟩
      case measure => simp [intOf]; omega
    · obtain rfl : k = H := (by omega)
      go_wp2_with fail
      go_ret2
      exact listPost_own hown (hB3.trans (hB.mono hs3))
end Go.Proofs.YtjkngkogddmceaaGreat
/- Walks of the share layer: Even of the program and of the reference. -/
namespace Go.Proofs.YtjkngkogddmceaaGreat
open Go Go.RowKit
set_option linter.unusedVariables false
def evP (n k i : Nat) : List Int := (List.range i).map (fun j => (evA n k (j + 1) : Int))
theorem evP_succ (n k i : Nat) : evP n k (i + 1) = evP n k i ++ [(evA n k (i + 1) : Int)] := by simp [evP, List.range_succ]
theorem evP_len (n k i : Nat) : (evP n k i).length = i := by simp [evP]
theorem evL_no {f : Nat → Int} {n : Nat} {k : Int} (h : (vL n f && within k 1 16) = false) : evL f n k = [] := by
  unfold evL; rw [h]; rfl
theorem evL_yes {f : Nat → Int} {n : Nat} {k : Nat} (h : vL n f = true) (h2 : within (k : Int) 1 16 = true) : evL f n (k : Int) = evP n k (k - 1) := by
  unfold evL; rw [h, h2]; rfl
set_option maxRecDepth 100000 in
set_option maxHeartbeats 4000000 in
theorem share_Even (a : Option Addr) (n ca : Nat) (k : Int) (f : Nat → Int) (w : World) (hn : n ≤ 100000000) (H : Sl w a n f) :
    Calls Tryz.prog 10 #[.slice a n ca, .int .i64 k] w (ListPost (evL f n k) (askS (vL n f) (within k 1 16)) w) := by
  have hask := fun W H => share_among a n ca k f W hn H
  cases hv : vL n f
  · rw [evL_no (by rw [hv]; rfl)]
    rw [hv] at hask
    have e0 : ∀ x, askS false x = 1 := fun _ => rfl
    rw [e0] at hask ⊢
    go_enter Tryz.func10, Tryz.ntmps10
    go_wp2_with fail
    refine (hask _ H).mono ?_
    rintro e w' ⟨rfl, rfl⟩
    go_wp2_with fail
    go_ret2
    exact listPost_nil (Below.refl _ _)
  cases hk : within k 1 16
  · rw [evL_no (by rw [hv, hk]; rfl)]
    rw [hv, hk, show askS true false = 7 from rfl] at hask
    rw [show askS true false = 7 from rfl]
    go_enter Tryz.func10, Tryz.ntmps10
    go_wp2_with fail
    refine (hask _ H).mono ?_
    rintro e w' ⟨rfl, rfl⟩
    go_wp2_with fail
    go_ret2
    exact listPost_nil (Below.refl _ _)
  rw [hv, hk, show askS true true = 0 from rfl] at hask
  rw [show askS true true = 0 from rfl]
  obtain ⟨k0, k1⟩ := (within_iff _ _ _).1 hk
  obtain ⟨k, rfl⟩ : ∃ j : Nat, k = (j : Int) := ⟨k.toNat, by omega⟩
  rw [evL_yes hv hk]
  obtain ⟨n0, n1, _⟩ := (vL_iff _ _).1 hv
  have hdv : ((n : Int)).tdiv (k : Int) = ((n / k : Nat) : Int) := by rw [Int.tdiv_eq_ediv_of_nonneg (by omega)]; simp
  have hdm : ((n : Int)).tmod (k : Int) = ((n % k : Nat) : Int) := by rw [Int.tmod_eq_emod_of_nonneg (by omega)]; simp
  have hdv2 : ((n : Int)) / (k : Int) = ((n / k : Nat) : Int) := by simp
  have hdm2 : ((n : Int)) % (k : Int) = ((n % k : Nat) : Int) := by simp
  have hq : n / k ≤ n := Nat.div_le_self _ _
  have hst := fun i => (show evA n k (i + 1) = evA n k i + n / k + (if i < n % k then 1 else 0) from rfl)
  have hle := fun i (h : i ≤ k) => evA_le (n := n) (by omega : 0 < k) i h
  have hsu := fun i => evP_succ n k i
  have hln := fun i => evP_len n k i
  have h00 : evA n k 0 = 0 := rfl
  have hp0 : evP n k 0 = [] := rfl
  have hkz : ¬ (k : Int) = 0 := by omega
  clear hv hk
  generalize evP n k = P at *
  generalize evA n k = E at *
  generalize n / k = q at *
  generalize n % k = r at *
  have HST := hid hst; have HLE := hid hle; have HSU := hid hsu; have HLN := hid hln; have H00 := hid h00; have HP0 := hid hp0
  clear hst hle hsu hln h00 hp0
  obtain ⟨i0, hi, hz0, hz1, hz2⟩ := info_parts infoI
  go_enter Tryz.func10, Tryz.ntmps10
  go_wp2_with fail
  refine (hask _ H).mono ?_
  rintro e w' ⟨rfl, rfl⟩
  go_wp2_with fail
  go_loopw [7, 8, 18] (fun v s8 s18 wr => ∃ i : Nat, i ≤ k - 1 ∧ s18 = .int .i64 i ∧ s8 = .int .i64 (E i : Int) ∧ wr.ownsRow w.heap.size 3 1 v (P i).length ((P i).map vInt) ∧ Below w.heap.size w wr) (fun _ _ s18 _ => k - (intOf s18).toNat)
  case atStart => exact ⟨0, Nat.zero_le _, rfl, by rw [H00.out]; rfl, by rw [HP0.out]; exact World.ownsRow_nil .., Below.refl _ _⟩
  case round =>
    obtain ⟨i, hik, rfl, rfl, hown, hb⟩ := hrel
    have hEl := HLE.out i (by omega)
    have h1 : i * n ≤ 16 * 64 := Nat.mul_le_mul (by omega) (by omega)
    have hS := HST.out i
    have hEl1 := HLE.out
    by_cases hlt : i < k - 1
    · have hli : (i : Int) < (k : Int) - 1 := by omega
      have hlen := HLN.out i
      have hsz := hb.size
      have HSS := hid (HSU.out i)
      rw [hlen] at hown
      by_cases hir : i < r
      · rw [if_pos hir] at hS
        have HS := hid hS
        clear hS hEl1 hlen
        generalize E i = ei at *
        have hnx : (((ei + q + 1 : Nat)) : Int) = (ei : Int) + (q : Int) + 1 := by simp
        have HNX := hid hnx; clear hnx
        go_wp2_with (at_builtin; refine wpList_append_own _ rfl _ _ 29 rfl (w.heap.size) 3 i0 (.int .i64 0) 1 8 Tryz.underlying29 hi hz0 hz1 hz2 rfl (by decide) _ _ _ rfl ((hown).alloc _) ⟨wr.heap.size, 0, none⟩ 1 1 [.int .i64 ((ei : Int) + (q : Int) + 1)] rfl rfl (cell_one_new _ _ _) (by simp [Value.oneCell']) (by simp [maxLen]; omega) (by omega) (by simp; omega) ?_; intro v' w1 hown' hgrow _)
        go_roundw
        case rel => exact ⟨i + 1, by omega, by go_num, by rw [HS.out, HNX.out], by rw [HSS.out, HS.out, HNX.out]; exact own_snoc (by rw [HLN.out]; exact hown'), (hb.alloc hsz _).grown hgrow (by simp; omega) (own_base hown)⟩
        case measure => simp [intOf]; omega
      · rw [if_neg hir, show E i + q + 0 = E i + q from rfl] at hS
        have HS := hid hS
        clear hS hEl1 hlen
        generalize E i = ei at *
        have hnx : (((ei + q : Nat)) : Int) = (ei : Int) + (q : Int) := by simp
        have HNX := hid hnx; clear hnx
        go_wp2_with (at_builtin; refine wpList_append_own _ rfl _ _ 29 rfl (w.heap.size) 3 i0 (.int .i64 0) 1 8 Tryz.underlying29 hi hz0 hz1 hz2 rfl (by decide) _ _ _ rfl ((hown).alloc _) ⟨wr.heap.size, 0, none⟩ 1 1 [.int .i64 ((ei : Int) + (q : Int))] rfl rfl (cell_one_new _ _ _) (by simp [Value.oneCell']) (by simp [maxLen]; omega) (by omega) (by simp; omega) ?_; intro v' w1 hown' hgrow _)
        go_roundw
        case rel => exact ⟨i + 1, by omega, by go_num, by rw [HS.out, HNX.out], by rw [HSS.out, HS.out, HNX.out]; exact own_snoc (by rw [HLN.out]; exact hown'), (hb.alloc hsz _).grown hgrow (by simp; omega) (own_base hown)⟩
        case measure => simp [intOf]; omega
    · obtain rfl : i = k - 1 := (by omega)
      have hkc : (((k - 1 : Nat)) : Int) = (k : Int) - 1 := by omega
      clear hS hEl1
      rw [hkc]
      go_wp2_with fail
      go_ret2
      exact listPost_own hown hb
end Go.Proofs.YtjkngkogddmceaaGreat
/- Walks of the share layer: Proves of the reference. -/
namespace Go.Proofs.YtjkngkogddmceaaGreat
open Go Go.RowKit
set_option linter.unusedVariables false
noncomputable def pvB (f : Nat → Int) (n : Nat) (k b : Int) (m : Nat) (p : Nat → Int × Int) : Bool := @decide (provesP f n k b m p) (Classical.propDecidable _)
theorem pvB_iff (f : Nat → Int) (n : Nat) (k b : Int) (m : Nat) (p : Nat → Int × Int) : pvB f n k b m p = true ↔ provesP f n k b m p := by simp [pvB]
theorem pv_no {f : Nat → Int} {n m i : Nat} {k b : Int} {p : Nat → Int × Int} {V : Bool} (hV : V = true ↔ provesP f n k b m p) (hi : i < m) (h : ¬ okP f n b m p i) : V = false := by
  cases V
  · rfl
  · exact absurd ((hV.1 rfl).2.2.2.2.1 i hi) h
theorem pv_bad {f : Nat → Int} {n m : Nat} {k b : Int} {p : Nat → Int × Int} {V : Bool} (hV : V = true ↔ provesP f n k b m p) (h : ¬ (askS (vL n f) (within k 1 16) = 0 ∧ 0 ≤ b)) : V = false := by
  cases V
  · rfl
  · obtain ⟨h1, h2, h3, h4, _⟩ := hV.1 rfl
    refine absurd ⟨?_, h4⟩ h
    rw [(vL_iff _ _).2 h1, (within_iff _ _ _).2 ⟨h2, h3⟩]; rfl
theorem pv_end {f : Nat → Int} {n m : Nat} {k b : Int} {p : Nat → Int × Int} {V : Bool} (hV : V = true ↔ provesP f n k b m p) (h : askS (vL n f) (within k 1 16) = 0) (hb : 0 ≤ b) (ho : ∀ i, i < m → okP f n b m p i) :
    V = true ↔ ((m = 1 ∧ (p 0).1 = (p 0).2) ∨ (m : Int) = k) := by
  have hh : vL n f = true ∧ within k 1 16 = true := by
    unfold askS at h
    cases h1 : vL n f <;> cases h2 : within k 1 16 <;> simp [h1, h2] at h ⊢
  have h1 := (vL_iff _ _).1 hh.1
  have h2 := (within_iff _ _ _).1 hh.2
  rw [hV]
  exact ⟨fun h => h.2.2.2.2.2, fun h => ⟨h1, h2.1, h2.2, hb, ho, h⟩⟩
theorem bool_of_iff {V c : Bool} (h : V = true ↔ c = true) : V = c := Bool.eq_iff_iff.2 h
end Go.Proofs.YtjkngkogddmceaaGreat
/- Walks of the share layer: Proves of the program. -/
namespace Go.Proofs.YtjkngkogddmceaaGreat
open Go Go.RowKit
set_option linter.unusedVariables false
set_option maxRecDepth 100000 in
set_option maxHeartbeats 8000000 in
theorem share_Proves (a ap : Option Addr) (n ca m cp : Nat) (k b : Int) (f : Nat → Int) (p : Nat → Int × Int) (w : World) (hn : n ≤ 100000000) (hm : m ≤ 100000000) (hca : n ≤ ca) (hca2 : ca ≤ maxLen) (H : Sl w a n f) (HP : Sq w ap m p) :
    Calls Tryz.prog 13 #[.slice a n ca, .int .i64 k, .int .i64 b, .slice ap m cp] w fun e w' => e = .returned (.bool (pvB f n k b m p)) ∧ Below w.heap.size w w' := by
  have hV := pvB_iff f n k b m p
  generalize pvB f n k b m p = V at *
  have HV := hid hV; clear hV
  have hask := fun W H => share_among a n ca k f W hn H
  have hbad := fun h => pv_bad HV.out h
  have hend := fun h hb ho => pv_end HV.out h hb ho
  have hvv := fun h : askS (vL n f) (within k 1 16) = 0 => show validL n f from by
    unfold askS at h
    cases h1 : vL n f
    · rw [h1] at h; simp at h
    · exact (vL_iff _ _).1 h1
  generalize askS (vL n f) (within k 1 16) = E at *
  have HB := hid hbad; have HE := hid hend; have HVV := hid hvv
  clear hbad hend hvv
  by_cases hE : E = 0
  rotate_left
  · have hf9 := hid (HB.out (fun h => hE h.1))
    have hEb : (E != 0) = true := by simpa using hE
    clear hE
    go_enter Tryz.func13, Tryz.ntmps13
    go_wp2_with fail
    refine (hask _ H).mono ?_
    rintro e w' ⟨rfl, rfl⟩
    go_wp2_with fail
    go_ret
    exact ⟨ret_bool hf9.out.symm, Below.refl _ _⟩
  subst hE
  by_cases hb0 : b < 0
  · have hf9 := hid (HB.out (fun h => by omega))
    go_enter Tryz.func13, Tryz.ntmps13
    go_wp2_with fail
    refine (hask _ H).mono ?_
    rintro e w' ⟨rfl, rfl⟩
    go_wp2_with fail
    go_ret
    exact ⟨ret_bool hf9.out.symm, Below.refl _ _⟩
  obtain ⟨v1, v2, hf⟩ := HVV.out rfl
  have HF := hid hf
  clear hf HB
  go_enter Tryz.func13, Tryz.ntmps13
  go_wp2_with fail
  refine (hask _ H).mono ?_
  rintro e w' ⟨rfl, rfl⟩
  go_wp2_with fail
  unfold maxLen at hca2
  go_loopw [9, 10, 21] (fun _ _ i wr => ∃ t : Nat, t ≤ m ∧ i = .int .i64 t ∧ (∀ j, j < t → okP f n b m p j ∧ (p j).1 ≠ (p j).2) ∧ Below w.heap.size w wr) (fun _ _ i _ => m - (intOf i).toNat)
  case atStart => exact ⟨0, Nat.zero_le _, rfl, fun j hj => by omega, Below.refl _ _⟩
  case round =>
    obtain ⟨t, ht, rfl, hok, hB⟩ := hrel
    have HOK := hid hok; clear hok
    by_cases hlt : t < m
    · obtain ⟨bp, op, rfl, hbp, c0, c1⟩ := (HP.below hB) t hlt
      have hP0 : okP f n b m p t ↔ (0 ≤ (p t).1 ∧ (p t).1 ≤ (p t).2 ∧ (p t).2 < n ∧ b < sg f (p t).1.toNat ((p t).2.toNat + 1) ∧ (0 < t → (p (t - 1)).2 ≤ (p t).1) ∧ ((p t).1 = (p t).2 → m ≤ 1)) := Iff.rfl
      obtain ⟨x, hx⟩ : ∃ x, (p t).1 = x := ⟨_, rfl⟩
      obtain ⟨y, hy⟩ : ∃ y, (p t).2 = y := ⟨_, rfl⟩
      rw [hx] at c0
      rw [hy] at c1
      rw [hx, hy] at hP0
      have HP0 := hid hP0; have HX := hid hx; have HY := hid hy
      clear hP0 hx hy
      go_upto_region 6 with (fail)
      have U := Bx.new wr #[.int .i64 x, .int .i64 y] 64
      have hBd : Below w.heap.size w (wr.alloc (.cells #[.int .i64 x, .int .i64 y] 64)) := balloc hB _
      have Hd := H.below hBd
      have HPd := HP.below hBd
      generalize hwd : wr.alloc (.cells #[.int .i64 x, .int .i64 y] 64) = wd at *
      have u0 := U.at_ 0 rfl; have u1 := U.at_ 1 rfl
      cases hw : within x 0 y
      · have hw2 := (within_no _ _ _).1 hw
        have hf9 := hid (pv_no HV.out hlt (fun h => by have := (HP0.out.1 h).1; have := (HP0.out.1 h).2.1; omega))
        go_wp2_with fail
        refine (share_within _ _ _ _).mono ?_
        rintro e w' ⟨rfl, rfl⟩
        rw [hw]
        go_wp2_with fail
        go_ret
        exact ⟨ret_bool hf9.out.symm, hBd⟩
      · have hw2 := (within_iff _ _ _).1 hw
        go_wp2_with fail
        refine (share_within _ _ _ _).mono ?_
        rintro e w' ⟨rfl, rfl⟩
        rw [hw]
        by_cases hyn : (n : Int) ≤ y
        · have hf9 := hid (pv_no HV.out hlt (fun h => by have := (HP0.out.1 h).2.2.1; omega))
          go_wp2_with fail
          go_ret
          exact ⟨ret_bool hf9.out.symm, hBd⟩
        · obtain ⟨xn, rfl⟩ : ∃ xn : Nat, x = (xn : Int) := ⟨x.toNat, by omega⟩
          obtain ⟨yn, rfl⟩ : ∃ yn : Nat, y = (yn : Int) := ⟨y.toNat, by omega⟩
          have q1 : (0 : Int) ≤ (xn : Int) := by omega
          have q2 : (xn : Int) ≤ (yn : Int) + 1 := by omega
          have q3 : (yn : Int) + 1 ≤ (ca : Int) := by omega
          have q4 : ¬ ca = xn := by omega
          obtain ⟨b0, o0, rfl, hb00, _⟩ := Hd 0 (by omega)
          have hsl : Sl wd (some ⟨b0, o0 + xn, none⟩) (yn + 1 - xn) (fun i => f (xn + i)) := fun j hj => (Hd.sub (x := xn) (by omega)) j (by omega)
          have hsm : sumTo (fun i => f (xn + i)) (yn + 1 - xn) = sg f xn (yn + 1) := by
            rw [sumTo_shift, show xn + (yn + 1 - xn) = yn + 1 from by omega]; rfl
          have hsum := share_sum (some ⟨b0, o0 + xn, none⟩) (yn + 1 - xn) (ca - xn) (fun i => f (xn + i)) wd (by omega) (fun i hi => HF.out _ (by omega)) hsl
          rw [hsm] at hsum
          have hP1 := HP0.out
          rw [Int.toNat_natCast, Int.toNat_natCast] at hP1
          clear HP0 hsm hsl
          go_wp2_with fail
          refine hsum.mono ?_
          rintro e w' ⟨rfl, rfl⟩
          clear hsum
          generalize sg f xn (yn + 1) = S at *
          have HP0 := hid hP1; clear hP1
          by_cases hS : S ≤ b
          · skip
            have hf9 := hid (pv_no HV.out hlt (fun h => by have := (HP0.out.1 h).2.2.2.1; omega))
            go_wp2_with fail
            go_ret
            exact ⟨ret_bool hf9.out.symm, hBd⟩
          by_cases he : xn = yn
          · subst he
            have hVm : V = ((m : Int) == 1) := bool_of_iff (by
              rw [HV.out]
              simp only [beq_iff_eq]
              constructor
              · intro h
                have := ((HP0.out.1 (h.2.2.2.2.1 t hlt)).2.2.2.2.2 rfl)
                omega
              · intro h
                obtain rfl : m = 1 := by omega
                obtain rfl : t = 0 := by omega
                have hfin := HE.out (by first | trivial | rfl) (by omega) (fun i hi => by
                  obtain rfl : i = 0 := by omega
                  exact HP0.out.2 ⟨by omega, by omega, by omega, by omega, fun h => by omega, fun _ => Nat.le_refl _⟩)
                exact HV.out.1 (hfin.2 (.inl ⟨rfl, by rw [HX.out, HY.out]⟩)))
            have HVM := hid hVm; clear hVm
            go_wp2_with fail
            go_ret
            exact ⟨ret_bool HVM.out.symm, hBd⟩
          · have heb : ((xn : Int) == (yn : Int)) = false := by simp; omega
            rcases Nat.eq_zero_or_pos t with h0 | h0
            · subst h0
              go_wp2_with fail
              go_quiet (fail)
              rename_i nq
              have hBq : Below w.heap.size w (wd.drewN nq) := below_drewN hBd nq
              go_wp2_with fail
              go_roundw
              case rel => exact ⟨0 + 1, by omega, by go_num, fun j hj => by
                rcases Nat.lt_succ_iff_lt_or_eq.1 hj with h | rfl
                · exact HOK.out j h
                · exact ⟨HP0.out.2 ⟨by omega, by omega, by omega, by omega, fun h => absurd h (Nat.lt_irrefl _), fun h => by omega⟩, by rw [HX.out, HY.out]; omega⟩, hBq⟩
              case measure => simp [intOf] <;> omega
            · obtain ⟨bq, oq, e3, hbq, d0, d1⟩ := HPd (t - 1) (by omega)
              injection e3 with e3; injection e3 with e31 e32 _
              subst e31 e32
              obtain ⟨z, hz⟩ : ∃ z, (p (t - 1)).2 = z := ⟨_, rfl⟩
              rw [hz] at d1
              have hP1 := HP0.out
              rw [hz] at hP1
              clear HP0 d0 hz
              have HP0 := hid hP1; clear hP1
              by_cases hxz : (xn : Int) < z
              · have hf9 := hid (pv_no HV.out hlt (fun h => by have := (HP0.out.1 h).2.2.2.2.1 h0; omega))
                go_wp2_with fail
                go_quiet (fail)
                rename_i nq
                go_wp2_with fail
                go_ret
                exact ⟨ret_bool hf9.out.symm, below_drewN hBd nq⟩
              · skip
                go_wp2_with fail
                go_quiet (fail)
                rename_i nq
                have hBq : Below w.heap.size w (wd.drewN nq) := below_drewN hBd nq
                go_wp2_with fail
                go_roundw
                case rel => exact ⟨t + 1, by omega, by go_num, fun j hj => by
                  rcases Nat.lt_succ_iff_lt_or_eq.1 hj with h | rfl
                  · exact HOK.out j h
                  · exact ⟨HP0.out.2 ⟨by omega, by omega, by omega, by omega, fun _ => by omega, fun h => by omega⟩, by rw [HX.out, HY.out]; omega⟩, hBq⟩
                case measure => simp [intOf] <;> omega
    · obtain rfl : t = m := (by omega)
      have hfin := HE.out (by first | trivial | rfl) (by omega) (fun i hi => (HOK.out i hi).1)
      have hv : V = ((t : Int) == k) := bool_of_iff (by
        rw [hfin]
        simp only [beq_iff_eq]
        exact ⟨fun h => h.elim (fun h => absurd h.2 (HOK.out 0 (by omega)).2) id, .inr⟩)
      have HVT := hid hv; clear hv hfin
      go_wp2_with fail
      go_ret
      exact ⟨ret_bool HVT.out.symm, hB⟩
end Go.Proofs.YtjkngkogddmceaaGreat
/- The walk of the law ShareProves (draft: the plain part). -/
namespace Go.Proofs.YtjkngkogddmceaaGreat
open Go Go.RowKit
set_option linter.unusedVariables false
theorem prE_zero {f : Nat → Int} {n : Nat} {k : Int} (h : prE f n k = 0) : vL n f = true ∧ within k 1 16 = true ∧ leastL f n k.toNat ≠ 0 := by
  unfold prE at h
  cases h1 : vL n f
  · simp [h1] at h
  · cases h2 : within k 1 16
    · simp [h1, h2] at h
    · refine ⟨rfl, rfl, fun h3 => ?_⟩
      simp [h1, h2, h3] at h
theorem pv_proof {f : Nat → Int} {n : Nat} {k : Int} (h : prE f n k = 0) : pvB f n k (leaR f n k - 1) (prL f n k).length (fun i => (prL f n k).getD i (0, 0)) = true := by
  obtain ⟨h1, h2, h3⟩ := prE_zero h
  have hk := (within_iff _ _ _).1 h2
  have hV := (vL_iff _ _).1 h1
  obtain ⟨m, rfl⟩ : ∃ m : Nat, k = (m : Int) := ⟨k.toNat, by omega⟩
  rw [Int.toNat_natCast] at h3
  have hp := proof_proves hV (show 0 < m by omega) (by omega) h3
  have e1 : leaR f n m = leastL f n m := by simp [leaR, h1, h2]
  have e2 : prL f n m = (List.range (proofN f n m)).map (proofF f n m) := by simp [prL, h1, h2]
  rw [pvB_iff, e1, e2]
  have hlen : ((List.range (proofN f n m)).map (proofF f n m)).length = proofN f n m := by simp
  rw [hlen]
  have hget : ∀ i, i < proofN f n m → ((List.range (proofN f n m)).map (proofF f n m)).getD i (0, 0) = proofF f n m i := fun i hi => by
    simp [List.getD_eq_getElem?_getD, hi]
  obtain ⟨p1, p2, p3, p4, p5, p6⟩ := hp
  refine ⟨p1, p2, p3, p4, fun i hi => ?_, ?_⟩
  · have := p5 i hi
    unfold okP at this ⊢
    dsimp only
    rw [hget i hi]
    refine ⟨this.1, this.2.1, this.2.2.1, this.2.2.2.1, fun h0 => ?_, this.2.2.2.2.2⟩
    rw [hget (i - 1) (by omega)]
    exact this.2.2.2.2.1 h0
  · rcases p6 with ⟨q1, q2⟩ | q
    · left; exact ⟨q1, by dsimp only; rw [hget 0 (by omega)]; exact q2⟩
    · right; exact q
theorem leaR_bd (f : Nat → Int) (n : Nat) (k : Int) : -1 ≤ leaR f n k - 1 ∧ leaR f n k - 1 ≤ 64000000000 := by
  unfold leaR
  split
  · rename_i h
    rw [Bool.and_eq_true] at h
    have hV := (vL_iff _ _).1 h.1
    have hk := (within_iff _ _ _).1 h.2
    have h1 := leastL_nonneg (validL_nonneg hV) (show 0 < k.toNat by omega)
    have h2 := leastL_le (validL_nonneg hV) (show 0 < k.toNat by omega)
    have h3 := (sumTo_most hV.2.2 n (Nat.le_refl _)).2
    have := hV.2.1
    omega
  · omega
theorem prL_length (f : Nat → Int) (n : Nat) (k : Int) : (prL f n k).length ≤ 16 := by
  unfold prL
  split
  · rename_i h
    rw [Bool.and_eq_true] at h
    have hk := (within_iff _ _ _).1 h.2
    rw [List.length_map, List.length_range]
    unfold proofN
    split
    · omega
    · split <;> omega
  · simp
end Go.Proofs.YtjkngkogddmceaaGreat
