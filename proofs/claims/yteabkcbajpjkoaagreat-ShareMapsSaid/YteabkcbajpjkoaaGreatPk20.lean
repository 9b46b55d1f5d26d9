/- Walks: Loads and Map, of the program; SameGrid of the reference. -/
import Derived.Test.YteabkcbajpjkoaaGreatPk17
import Derived.Test.YteabkcbajpjkoaaGreatPk19
import Derived.Test.YteabkcbajpjkoaaGreatPk4
import Derived.Test.YteabkcbajpjkoaaGreatPk16
import Derived.Deep.RegionHeld3
namespace Go.Proofs.YteabkcbajpjkoaaGreat
open Go Go.RowKit
attribute [local go_sem] Oper.semAt_some
set_option linter.unusedVariables false
set_option linter.unusedSimpArgs false
def LoaPost (v : Bool) (W : Nat) (f : Nat → Int) (w : World) (e : Ending) (w' : World) : Prop :=
  (v = false ∧ e = .returned (.tuple #[.slice none 0 0, .int .i64 1]) ∧ Below w.heap.size w w') ∨
  (v = true ∧ ∃ b, e = .returned (.tuple #[.slice (some ⟨b, 0, none⟩) W W, .int .i64 0]) ∧ Ro w' b W f ∧ w.heap.size ≤ b ∧ Below w.heap.size w w')
/-- in the midst of cell k -/
def colD (W : Nat) (g : Nat → C4) (k d j : Nat) : Int := colTo W g k j + if j = k % W then sumTo (g k).get d else 0
theorem colD_zero (W : Nat) (g : Nat → C4) (k : Nat) : colD W g k 0 = colTo W g k := by
  funext j; simp [colD, sumTo]
theorem colD_four (W : Nat) (g : Nat → C4) (k : Nat) : colD W g k 4 = colTo W g (k + 1) := by
  funext j
  simp only [colD, colTo, sumTo4, C4.mass]
theorem colD_succ (W : Nat) (g : Nat → C4) (k d : Nat) : upd (colD W g k d) (k % W) (colD W g k d (k % W) + (g k).get d) = colD W g k (d + 1) := by
  funext j
  by_cases e : j = k % W
  · subst e; simp [upd, colD, sumTo]; omega
  · simp [upd, colD, e]
theorem get_nn {c : C4} (h : validC c = true) (d : Nat) (hd : d < 4) : 0 ≤ c.get d ∧ c.get d ≤ 1000000000 := by
  have := (validC_iff _).1 h
  rcases (by omega : d = 0 ∨ d = 1 ∨ d = 2 ∨ d = 3) with rfl | rfl | rfl | rfl <;> simp only [C4.get] <;> omega
theorem sum4_bd {c : C4} (h : validC c = true) (d : Nat) (hd : d ≤ 4) : 0 ≤ sumTo c.get d ∧ sumTo c.get d ≤ 1000000000 := by
  have := (validC_iff _).1 h
  rcases (by omega : d = 0 ∨ d = 1 ∨ d = 2 ∨ d = 3 ∨ d = 4) with rfl | rfl | rfl | rfl | rfl <;> simp only [sumTo, C4.get] <;> omega
set_option maxRecDepth 100000 in
set_option maxHeartbeats 4000000 in
theorem share_Loads (wide high : Int) (a : Option Addr) (n c : Nat) (g : Nat → C4) (w : World) (hn : n ≤ 100000000) (S : Sc w a n g) :
    Calls Tryz.prog 5 #[.agg #[.int .i64 wide, .int .i64 high, .slice a n c]] w (LoaPost (validG wide high n g) wide.toNat (colTo wide.toNat g n) w) := by
  have hvl := fun Y S' => grid_valid wide high a n c g Y hn S'
  have X0 := Bx.new w #[.int .i64 wide, .int .i64 high, .slice a n c] 24
  have hB0 : Below w.heap.size w (w.alloc (.cells #[.int .i64 wide, .int .i64 high, .slice a n c] 24)) := by (repeat' (first | with_reducible assumption | with_reducible exact Below.refl _ _ | with_reducible refine Below.drew ?_ | with_reducible refine below_drewN ?_ _ | with_reducible refine balloc ?_ _ | with_reducible refine bset ?_ ?_ _ | with_reducible refine Below.setCell ?_ ?_ _ | with_reducible refine Below.alloc ?_ ?_ _ | omega | (simp; done) | (simp; omega)))
  cases hv : validG wide high n g
  · rw [hv] at hvl
    go_enter Tryz.func5, Tryz.ntmps5
    go_wp2_with fail
    generalize (w.alloc (.cells #[.int .i64 wide, .int .i64 high, .slice a n c] 24)) = W0 at X0 hB0 ⊢
    have z0 := X0.lt
    refine (hvl _ (S.below hB0)).mono ?_
    rintro e w1 ⟨rfl, hb1⟩
    go_wp2_with fail
    go_ret2
    exact .inl ⟨rfl, rfl, bvia hB0 hb1⟩
  rw [hv] at hvl
  obtain ⟨a1, a2, a3, a4, a5, a6, a7, a8⟩ := (validG_iff _ _ _ _).1 hv
  obtain ⟨W, rfl⟩ : ∃ W : Nat, wide = W := ⟨wide.toNat, by omega⟩
  simp only [Int.toNat_natCast]
  clear X0 hB0
  have X0 := Bx.new w #[.int .i64 (W : Int), .int .i64 high, .slice a n c] 24
  have hB0 : Below w.heap.size w (w.alloc (.cells #[.int .i64 (W : Int), .int .i64 high, .slice a n c] 24)) := by (repeat' (first | with_reducible assumption | with_reducible exact Below.refl _ _ | with_reducible refine Below.drew ?_ | with_reducible refine below_drewN ?_ _ | with_reducible refine balloc ?_ _ | with_reducible refine bset ?_ ?_ _ | with_reducible refine Below.setCell ?_ ?_ _ | with_reducible refine Below.alloc ?_ ?_ _ | omega | (simp; done) | (simp; omega)))
  have hW0 : 0 < W := by omega
  have hbd := fun k (hk : k ≤ n) j => colTo_bd (W := W) (n := k) (g := g) (fun i hi => a7 i (by omega)) j
  have hmas : ∀ k, k < n → massTo g k + (g k).mass ≤ 1000000000 := fun k hk => by
    have h1 := massTo_mono g (k := k + 1) (n := n) (by omega) a7
    simp only [massTo] at h1
    omega
  have HBD := hid hbd; have HMS := hid hmas; have HA := hid a7
  have hn4 : n ≤ 4096 := by omega
  have hmk := fun Y => mk_ints W (W : Int) rfl (by omega) Y
  clear hbd hmas a3 a4 a5 a6 a7 a8 hv
  go_enter Tryz.func5, Tryz.ntmps5
  go_wp2_with fail
  generalize (w.alloc (.cells #[.int .i64 (W : Int), .int .i64 high, .slice a n c] 24)) = W0 at X0 hB0 ⊢
  have z0 := X0.lt
  refine (hvl _ (S.below hB0)).mono ?_
  rintro e w1 ⟨rfl, hb1⟩
  have hB1 := bvia hB0 hb1
  replace X0 := X0.below hb1
  have hs1 := hB1.size
  have x0 := X0.at_ 0 rfl; have x2 := X0.at_ 2 rfl; have lx := X0.lt
  clear hvl hB0 hb1
  go_wp2_with fail
  have R1 := ro_made w1 W
  have hB2 := balloc hB1 (.cells (zcells W) 3)
  have X2 := X0.alloc (.cells (zcells W) 3)
  have hs2 : w1.heap.size < (w1.alloc (.cells (zcells W) 3)).heap.size := by simp
  have S2 := S.below hB2
  have hlw := lx
  clear hmk x0 x2 lx X0 hB1
  generalize w1.alloc (.cells (zcells W) 3) = W1 at *
  obtain ⟨b, hb⟩ : ∃ b, b = w1.heap.size := ⟨_, rfl⟩
  rw [← hb] at R1 hs2 ⊢
  have hbw : w.heap.size < b := by rw [hb]; exact hlw
  clear hlw
  clear hb hs1
  go_loopw [18] (fun s wr => ∃ k : Nat, k ≤ n ∧ s = .int .i64 (k : Int) ∧ Ro wr b W (colTo W g k) ∧ But (fun q => q = b) W1 wr) (fun s _ => n - (intOf s).toNat)
  case atStart => exact ⟨0, Nat.zero_le _, rfl, R1, But.refl _ _⟩
  case round =>
    clear R1
    obtain ⟨k, hk, rfl, R, hU⟩ := hrel
    obtain ⟨wo, rfl⟩ : ∃ wo : World, wo = wr := ⟨_, rfl⟩
    have hsz := hU.size
    have XW := X2.but hU (by omega)
    have x0 := XW.at_ 0 rfl; have x2 := XW.at_ 2 rfl; have lx := XW.lt
    by_cases hlt : k < n
    · obtain ⟨bc, oc, rfl, hbc, c0, c1, c2, c3⟩ := S2 k hlt
      obtain ⟨bc', oc', e1, hbc', d0, d1, d2, d3⟩ := S k hlt
      injection e1 with e1; injection e1 with e1 e2 _
      subst e1
      subst e2
      have hne : ¬ bc = b := by omega
      rw [← World.cell?_of_block (hU.block bc hbc hne)] at c0 c1 c2 c3
      have HIX := hid (fun d hd Y => idx_cell (g k) d hd Y)
      have hva := HA.out k hlt
      have hbk := HBD.out k hk (k % W)
      have hmk := HMS.out k hlt
      have hgn := fun d hd => get_nn hva d hd
      have hsd := fun d hd => sum4_bd hva d hd
      have hcz := colD_zero W g k; have hcf := colD_four W g k; have hcs := fun d => colD_succ W g k d
      have hcv : ∀ d, colD W g k d (k % W) = colTo W g k (k % W) + sumTo (g k).get d := fun d => by simp [colD]
      have hmm : (g k).mass = sumTo (g k).get 4 := by rw [sumTo4]; rfl
      have hm2 : ∀ d, d ≤ 4 → sumTo (g k).get d ≤ (g k).mass := fun d hd => by
        have := (validC_iff _).1 hva
        rcases (by omega : d = 0 ∨ d = 1 ∨ d = 2 ∨ d = 3 ∨ d = 4) with rfl | rfl | rfl | rfl | rfl <;> simp only [sumTo, C4.get, C4.mass] <;> omega
      have HVB := hid (show ∀ d, d ≤ 4 → 0 ≤ colD W g k d (k % W) ∧ colD W g k d (k % W) ≤ 1000000000 from fun d hd => by rw [hcv]; have := hsd d hd; have := hm2 d hd; have := (massTo_nonneg g k fun i hi => HA.out i (by omega)); omega)
      have HCS := hid hcs; have HGN := hid hgn
      rw [← hcz] at R
      have HCF := hid hcf
      clear hcz hcf hcs hgn hsd hcv hmm hm2 hva hbk hmk d0 d1 d2 d3 hbc'
      have htm : ((k : Int)).tmod (W : Int) = ((k % W : Nat) : Int) := by rw [Int.tmod_eq_emod_of_nonneg (by omega)]; simp
      have htm2 : ((k : Int)) % (W : Int) = ((k % W : Nat) : Int) := by simp
      have hWi : ¬ (W : Int) = 0 := by omega
      have hlm : k % W < W := Nat.mod_lt _ hW0
      generalize colD W g k = F at *
      generalize k % W = m at *
      generalize g k = cc at *
      go_wp2_with fail
      have R2 := R.alloc (.cells #[.int .i64 cc.e, .int .i64 cc.n, .int .i64 cc.w, .int .i64 cc.s] 49)
      have hU2 := hU.alloc (.cells #[.int .i64 cc.e, .int .i64 cc.n, .int .i64 cc.w, .int .i64 cc.s] 49)
      clear R x0 x2 lx XW hU c0 c1 c2 c3 hsz
      generalize wo.alloc (.cells #[.int .i64 cc.e, .int .i64 cc.n, .int .i64 cc.w, .int .i64 cc.s] 49) = w5 at *
      go_loopw [24] (fun s wr => ∃ d : Nat, d ≤ 4 ∧ s = .int .i64 (d : Int) ∧ Ro wr b W (F d) ∧ But (fun q => q = b) W1 wr) (fun s _ => 4 - (intOf s).toNat)
      case atStart => exact ⟨0, Nat.zero_le _, rfl, R2, hU2⟩
      case round =>
        clear R2 hU2
        obtain ⟨d, hd, rfl, R, hU⟩ := hrel
        have XW := X2.but hU (by omega)
        have x0 := XW.at_ 0 rfl; have lx := XW.lt
        by_cases hd4 : d < 4
        · have hi := HIX.out d hd4
          have v1 := HVB.out d hd
          have v2 := HGN.out d hd4
          have r0 := R.cells m hlm
          have rf := R.free; have rl := R.lt
          have hcs := HCS.out d
          have HC2 := hid hcs
          have R3 := R.set_ m (F d m + cc.get d)
          rw [hcs] at R3
          have hU3 := But.set_ hU (p := ⟨b, m, none⟩) rfl (.int .i64 (F d m + cc.get d))
          clear hcs
          generalize hfm : F d m = x at *
          generalize hgd : cc.get d = y at *
          have HF := hid hfm; have HG := hid hgd
          clear hfm hgd
          go_wp2_with fail
          go_roundw
          case rel => exact ⟨d + 1, by omega, by go_num, R3, hU3⟩
          case measure => simp [intOf]; omega
        · obtain rfl : d = 4 := (by omega)
          rw [HCF.out] at R
          go_wp2_with fail
          go_roundw
          case rel => exact ⟨k + 1, by omega, by go_num, R, hU⟩
          case measure => simp [intOf]; omega
    · obtain rfl : k = n := (by omega)
      go_wp2_with fail
      go_ret2
      exact .inr ⟨rfl, b, rfl, R, by omega, hB2.trans ⟨hU.os, hU.tape, hU.output, hU.size, fun q hq => hU.block q (by have := hB2.size; omega) (by omega)⟩⟩
def mapE (v k : Bool) (m : Nat) : Int := if v then (if k then (if m < 8 then 0 else 4) else 7) else 1
def mapR (v k : Bool) (W m : Nat) (c : Nat → Int) (n : Nat) : List Int := if mapE v k m = 0 then mapS W m c n else []
theorem one_intsM (l : List Int) : ∀ u ∈ l.map vInt, u.oneCell' = true := by
  intro u hu
  obtain ⟨x, _, rfl⟩ := List.mem_map.1 hu
  rfl
theorem ints_row {w : World} {b : Nat} {xs : List Int} (h : Sl w (some ⟨b, 0, none⟩) xs.length (fun k => xs.getD k 0)) : ∀ j u, (xs.map vInt)[j]? = some u → w.cell? ((⟨b, 0, none⟩ : Addr).add j) = some u := fun j u hu => by
  have hj : j < xs.length := by
    have := (List.getElem?_eq_some_iff.1 hu).1
    simpa using this
  obtain ⟨b', o', e, _, hc⟩ := h j hj
  injection e with e; injection e with e1 e2 _
  subst e1
  subst e2
  rw [addrAdd, hc]
  rw [List.getElem?_map, List.getElem?_eq_getElem hj] at hu
  injection hu with hu
  rw [← hu]
  simp [vInt, List.getD_eq_getElem?_getD, hj]
set_option maxRecDepth 100000 in
set_option maxHeartbeats 4000000 in
theorem share_Map (wide high : Int) (a ac : Option Addr) (n c m cc : Nat) (g : Nat → C4) (cu : Nat → Int) (w : World) (hn : n ≤ 100000000) (hm : m ≤ 100000000) (S : Sc w a n g) (HC : Sl w ac m cu) :
    Calls Tryz.prog 8 #[.agg #[.int .i64 wide, .int .i64 high, .slice a n c], .slice ac m cc] w (ListPost (mapR (validG wide high n g) (vK wide.toNat m cu) wide.toNat m cu n) (mapE (validG wide high n g) (vK wide.toNat m cu) m) w) := by
  have hvl := fun Y S' => grid_valid wide high a n c g Y hn S'
  cases hv : validG wide high n g
  · rw [hv] at hvl
    have X0 := Bx.new w #[.int .i64 wide, .int .i64 high, .slice a n c] 24
    have hB0 : Below w.heap.size w (w.alloc (.cells #[.int .i64 wide, .int .i64 high, .slice a n c] 24)) := by (repeat' (first | with_reducible assumption | with_reducible exact Below.refl _ _ | with_reducible refine Below.drew ?_ | with_reducible refine below_drewN ?_ _ | with_reducible refine balloc ?_ _ | with_reducible refine bset ?_ ?_ _ | with_reducible refine Below.setCell ?_ ?_ _ | with_reducible refine Below.alloc ?_ ?_ _ | omega | (simp; done) | (simp; omega)))
    go_enter Tryz.func8, Tryz.ntmps8
    go_wp2_with fail
    generalize (w.alloc (.cells #[.int .i64 wide, .int .i64 high, .slice a n c] 24)) = W0 at X0 hB0 ⊢
    have z0 := X0.lt
    refine (hvl _ (S.below hB0)).mono ?_
    rintro e w1 ⟨rfl, hb1⟩
    go_wp2_with fail
    go_ret2
    exact listPost_nil (bvia hB0 hb1)
  rw [hv] at hvl
  obtain ⟨a1, a2, a3, a4, a5, a6, a7, a8⟩ := (validG_iff _ _ _ _).1 hv
  obtain ⟨W, rfl⟩ : ∃ W : Nat, wide = W := ⟨wide.toNat, by omega⟩
  obtain ⟨H, rfl⟩ : ∃ H : Nat, high = H := ⟨high.toNat, by omega⟩
  have hnn : n = H * W := by
    have : (n : Int) = ((H * W : Nat) : Int) := by rw [a6, Int.mul_comm]; simp
    exact_mod_cast this
  simp only [Int.toNat_natCast]
  have hvc := fun Y SC => share_validCuts ac m cc W cu Y hm (by omega) SC
  have X0 := Bx.new w #[.int .i64 (W : Int), .int .i64 (H : Int), .slice a n c] 24
  have hB0 : Below w.heap.size w (w.alloc (.cells #[.int .i64 (W : Int), .int .i64 (H : Int), .slice a n c] 24)) := by (repeat' (first | with_reducible assumption | with_reducible exact Below.refl _ _ | with_reducible refine Below.drew ?_ | with_reducible refine below_drewN ?_ _ | with_reducible refine balloc ?_ _ | with_reducible refine bset ?_ ?_ _ | with_reducible refine Below.setCell ?_ ?_ _ | with_reducible refine Below.alloc ?_ ?_ _ | omega | (simp; done) | (simp; omega)))
  cases hk : vK W m cu
  · rw [hk] at hvc
    clear hnn
    go_enter Tryz.func8, Tryz.ntmps8
    go_wp2_with fail
    generalize (w.alloc (.cells #[.int .i64 (W : Int), .int .i64 (H : Int), .slice a n c] 24)) = W0 at X0 hB0 ⊢
    have z0 := X0.lt
    refine (hvl _ (S.below hB0)).mono ?_
    rintro e w1 ⟨rfl, hb1⟩
    have hB1 := bvia hB0 hb1
    replace X0 := X0.below hb1
    have x0 := X0.at_ 0 rfl; have lx := X0.lt
    go_wp2_with fail
    refine (hvc _ (HC.below hB1)).mono ?_
    rintro e w2 ⟨rfl, rfl⟩
    go_wp2_with fail
    go_ret2
    exact listPost_nil hB1
  rw [hk] at hvc
  have hK := (vK_iff _ _ _).1 hk
  by_cases h8 : 8 ≤ m
  · have h8i : (8 : Int) ≤ (m : Int) := by omega
    have hE : mapE true true m = 4 := by simp [mapE]; omega
    have hR : mapR true true W m cu n = [] := by unfold mapR; rw [hE]; rfl
    rw [hE, hR]
    clear hE hR hnn
    go_enter Tryz.func8, Tryz.ntmps8
    go_wp2_with fail
    generalize (w.alloc (.cells #[.int .i64 (W : Int), .int .i64 (H : Int), .slice a n c] 24)) = W0 at X0 hB0 ⊢
    have z0 := X0.lt
    refine (hvl _ (S.below hB0)).mono ?_
    rintro e w1 ⟨rfl, hb1⟩
    have hB1 := bvia hB0 hb1
    replace X0 := X0.below hb1
    have x0 := X0.at_ 0 rfl; have lx := X0.lt
    go_wp2_with fail
    refine (hvc _ (HC.below hB1)).mono ?_
    rintro e w2 ⟨rfl, rfl⟩
    go_wp2_with fail
    go_ret2
    exact listPost_nil hB1
  have h8i : ¬ (8 : Int) ≤ (m : Int) := by omega
  have hE : mapE true true m = 0 := by simp [mapE]; omega
  have hR : mapR true true W m cu n = mapS W m cu (H * W) := by unfold mapR; rw [hE, hnn]; rfl
  rw [hE, hR]
  have hn4 : H * W ≤ 4096 := by omega
  have how := fun Y SC => share_owners W m cc ac cu Y (by omega) hK SC
  obtain ⟨i0, hi, hz0, hz1, hz2⟩ := info_parts infoI
  have hrow := fun k => mapS_row W m cu k
  have hnl : nodL m cu W = (List.range W).map fun x => (nodeOf m cu x : Int) := rfl
  have hcl := nodL_length m cu W
  have hln := fun k => mapS_length W m cu k
  have hM0 : mapS W m cu 0 = [] := rfl
  rw [← hnl] at hrow
  have hkw : ∀ k, k < H → k * W + W ≤ 4096 := fun k hk => by
    have : (k + 1) * W ≤ H * W := Nat.mul_le_mul_right _ (by omega)
    rw [Nat.succ_mul] at this
    omega
  generalize nodL m cu W = C at *
  generalize mapS W m cu = M at *
  have HRW := hid hrow; have HLN := hid hln; have HKW := hid hkw; have HM0 := hid hM0; have HCL := hid hcl
  clear hnl hrow hln hkw hM0 hE hR hnn hK hk a5 a6 a7 a8 hv hn4
  go_enter Tryz.func8, Tryz.ntmps8
  go_wp2_with fail
  generalize (w.alloc (.cells #[.int .i64 (W : Int), .int .i64 (H : Int), .slice a n c] 24)) = W0 at X0 hB0 ⊢
  have z0 := X0.lt
  refine (hvl _ (S.below hB0)).mono ?_
  rintro e w1 ⟨rfl, hb1⟩
  have hB1 := bvia hB0 hb1
  replace X0 := X0.below hb1
  have x0 := X0.at_ 0 rfl; have lx := X0.lt
  go_wp2_with fail
  refine (hvc _ (HC.below hB1)).mono ?_
  rintro e w2 ⟨rfl, rfl⟩
  go_wp2_with fail
  refine (how _ (HC.below hB1)).mono ?_
  rintro e w3 ⟨v, rfl, hown, hb3⟩
  obtain ⟨a3, c3, rfl, hsl⟩ := sl_of_own hown
  obtain ⟨b3, ha3⟩ : ∃ b3, a3 = some ⟨b3, 0, none⟩ := by
    rcases hown.2 with ⟨e1, h0⟩ | ⟨g', cap, cur, e1, _⟩
    · rw [hcl] at h0; omega
    · injection e1 with e1 _ _; exact ⟨g', e1⟩
  subst ha3
  have hB3 := bvia hB1 hb3
  replace X0 := X0.below hb3
  have x1 := X0.at_ 1 rfl; have lx3 := X0.lt
  clear x0 lx hvl hvc how hb1 hb3 hB0 hown
  have hs3 := hB3.size
  go_wp2_with fail
  clear x1
  rw [hcl] at hsl
  go_loopw [7, 25] (fun v s wr => ∃ k : Nat, k ≤ H ∧ s = .int .i64 (k : Int) ∧ wr.ownsRow w3.heap.size 3 1 v (M (k * W)).length ((M (k * W)).map vInt) ∧ Below w3.heap.size w3 wr) (fun _ s _ => H - (intOf s).toNat)
  case atStart => exact ⟨0, Nat.zero_le _, rfl, by rw [Nat.zero_mul, HM0.out]; exact World.ownsRow_nil .., Below.refl _ _⟩
  case round =>
    obtain ⟨k, hk, rfl, hown, hB⟩ := hrel
    by_cases hlt : k < H
    · have hkw := HKW.out k hlt
      have hl := HLN.out (k * W)
      have hsr := ints_row (xs := C) (by rw [HCL.out]; exact hsl.below hB)
      have hone := one_intsM C
      have HSR := hid hsr; clear hsr
      have hsz := hB.size
      go_wp2_with (at_builtin; refine wpList_append_own _ rfl _ _ 25 rfl w3.heap.size 3 i0 (.int .i64 0) 1 8 Tryz.underlying25 hi hz0 hz1 hz2 rfl (by decide) _ _ _ rfl hown ⟨b3, 0, none⟩ W c3 (C.map vInt) rfl (by rw [List.length_map, HCL.out, Nat.mul_one]) HSR.out hone (by simp [maxLen]; omega) (by omega) hB.size ?_; intro v' w5 hown' hgrow _)
      go_roundw
      case rel => exact ⟨k + 1, by omega, by go_num, by rw [Nat.succ_mul, HRW.out, List.length_append, HCL.out, List.map_append]; exact hown', hB.grown hgrow hB.size (own_base hown)⟩
      case measure => simp [intOf]; omega
    · obtain rfl : k = H := (by omega)
      go_wp2_with fail
      go_ret2
      exact listPost_own hown (hB3.trans (hB.mono hs3))
end Go.Proofs.YteabkcbajpjkoaaGreat
/- Walks of the share layer: Map of the reference. -/
namespace Go.Proofs.YteabkcbajpjkoaaGreat
open Go Go.RowKit
set_option linter.unusedVariables false
theorem node_uniq {m x j : Nat} {c : Nat → Int} (h : IsNode m c x j) : j = nodeOf m c x := by
  have k := nodeOf_is m c x
  generalize nodeOf m c x = i at k
  obtain ⟨h1, h2, h3⟩ := h
  obtain ⟨k1, k2, k3⟩ := k
  rcases Nat.lt_trichotomy i j with h | h | h
  · have := h2 i h; have := k3 (by omega); omega
  · exact h.symm
  · have := k2 j h; have := h3 (by omega); omega
theorem mapS_succ (W m : Nat) (c : Nat → Int) (k : Nat) : mapS W m c (k + 1) = mapS W m c k ++ [(nodeOf m c (k % W) : Int)] := by simp [mapS, List.range_succ]
set_option maxRecDepth 100000 in
set_option maxHeartbeats 4000000 in
theorem ref9_Map (wide high : Int) (a ac : Option Addr) (n c m cc : Nat) (g : Nat → C4) (cu : Nat → Int) (w : World) (hn : n ≤ 100000000) (hm : m ≤ 100000000) (S : Sc w a n g) (HC : Sl w ac m cu) :
    Calls Tryz.prog 9 #[.agg #[.int .i64 wide, .int .i64 high, .slice a n c], .slice ac m cc] w (ListPost (mapR (validG wide high n g) (vK wide.toNat m cu) wide.toNat m cu n) (mapE (validG wide high n g) (vK wide.toNat m cu) m) w) := by
  have hvl := fun Y S' => ref2_valid wide high a n c g Y hn S'
  cases hv : validG wide high n g
  · rw [hv] at hvl
    have X0 := Bx.new w #[.int .i64 wide, .int .i64 high, .slice a n c] 24
    have hB0 : Below w.heap.size w (w.alloc (.cells #[.int .i64 wide, .int .i64 high, .slice a n c] 24)) := by (repeat' (first | with_reducible assumption | with_reducible exact Below.refl _ _ | with_reducible refine Below.drew ?_ | with_reducible refine below_drewN ?_ _ | with_reducible refine balloc ?_ _ | with_reducible refine bset ?_ ?_ _ | with_reducible refine Below.setCell ?_ ?_ _ | with_reducible refine Below.alloc ?_ ?_ _ | omega | (simp; done) | (simp; omega)))
    go_enter Tryz.func9, Tryz.ntmps9
    go_wp2_with fail
    generalize (w.alloc (.cells #[.int .i64 wide, .int .i64 high, .slice a n c] 24)) = W0 at X0 hB0 ⊢
    have z0 := X0.lt
    refine (hvl _ (S.below hB0)).mono ?_
    rintro e w1 ⟨rfl, hb1⟩
    go_wp2_with fail
    go_ret2
    exact listPost_nil (bvia hB0 hb1)
  rw [hv] at hvl
  obtain ⟨a1, a2, a3, a4, a5, a6, a7, a8⟩ := (validG_iff _ _ _ _).1 hv
  obtain ⟨W, rfl⟩ : ∃ W : Nat, wide = W := ⟨wide.toNat, by omega⟩
  obtain ⟨H, rfl⟩ : ∃ H : Nat, high = H := ⟨high.toNat, by omega⟩
  have hnn : n = H * W := by
    have : (n : Int) = ((H * W : Nat) : Int) := by rw [a6, Int.mul_comm]; simp
    exact_mod_cast this
  simp only [Int.toNat_natCast]
  have hvc := fun Y SC => ref9_shared ac m cc W cu Y hm (by omega) SC
  have X0 := Bx.new w #[.int .i64 (W : Int), .int .i64 (H : Int), .slice a n c] 24
  have hB0 : Below w.heap.size w (w.alloc (.cells #[.int .i64 (W : Int), .int .i64 (H : Int), .slice a n c] 24)) := by (repeat' (first | with_reducible assumption | with_reducible exact Below.refl _ _ | with_reducible refine Below.drew ?_ | with_reducible refine below_drewN ?_ _ | with_reducible refine balloc ?_ _ | with_reducible refine bset ?_ ?_ _ | with_reducible refine Below.setCell ?_ ?_ _ | with_reducible refine Below.alloc ?_ ?_ _ | omega | (simp; done) | (simp; omega)))
  cases hk : vK W m cu
  · rw [hk] at hvc
    clear hnn
    go_enter Tryz.func9, Tryz.ntmps9
    go_wp2_with fail
    generalize (w.alloc (.cells #[.int .i64 (W : Int), .int .i64 (H : Int), .slice a n c] 24)) = W0 at X0 hB0 ⊢
    have z0 := X0.lt
    refine (hvl _ (S.below hB0)).mono ?_
    rintro e w1 ⟨rfl, hb1⟩
    have hB1 := bvia hB0 hb1
    replace X0 := X0.below hb1
    have x0 := X0.at_ 0 rfl; have lx := X0.lt
    go_wp2_with fail
    refine (hvc _ (HC.below hB1)).mono ?_
    rintro e w2 ⟨rfl, hb2⟩
    go_wp2_with fail
    go_ret2
    exact listPost_nil (bvia hB1 hb2)
  rw [hk] at hvc
  have hK := (vK_iff _ _ _).1 hk
  by_cases h8 : 8 ≤ m
  · have h8i : (8 : Int) ≤ (m : Int) := by omega
    have hE : mapE true true m = 4 := by simp [mapE]; omega
    have hR : mapR true true W m cu n = [] := by unfold mapR; rw [hE]; rfl
    rw [hE, hR]
    clear hE hR hnn
    go_enter Tryz.func9, Tryz.ntmps9
    go_wp2_with fail
    generalize (w.alloc (.cells #[.int .i64 (W : Int), .int .i64 (H : Int), .slice a n c] 24)) = W0 at X0 hB0 ⊢
    have z0 := X0.lt
    refine (hvl _ (S.below hB0)).mono ?_
    rintro e w1 ⟨rfl, hb1⟩
    have hB1 := bvia hB0 hb1
    replace X0 := X0.below hb1
    have x0 := X0.at_ 0 rfl; have lx := X0.lt
    go_wp2_with fail
    refine (hvc _ (HC.below hB1)).mono ?_
    rintro e w2 ⟨rfl, hb2⟩
    go_wp2_with fail
    go_ret2
    exact listPost_nil (bvia hB1 hb2)
  have h8i : ¬ (8 : Int) ≤ (m : Int) := by omega
  have hE : mapE true true m = 0 := by simp [mapE]; omega
  have hR : mapR true true W m cu n = mapS W m cu (H * W) := by unfold mapR; rw [hE, hnn]; rfl
  rw [hE, hR]
  have hn4 : H * W ≤ 4096 := by omega
  obtain ⟨i0, hi, hz0, hz1, hz2⟩ := info_parts infoI
  have hW0 : 0 < W := by omega
  obtain ⟨N, hN⟩ : ∃ N, H * W = N := ⟨_, rfl⟩
  rw [hN] at hn4 ⊢
  rw [hN] at hnn
  subst hnn
  have hsn := fun k => mapS_succ W m cu k
  have hln := fun k => mapS_length W m cu k
  have HSN := hid hsn; have HLN := hid hln; have HKK := hid hK
  clear hsn hln hE hR hN hK hv hk a1 a2 a3 a4 a5 a6 a7 a8
  go_enter Tryz.func9, Tryz.ntmps9
  go_wp2_with fail
  generalize (w.alloc (.cells #[.int .i64 (W : Int), .int .i64 (H : Int), .slice a n c] 24)) = W0 at X0 hB0 ⊢
  have z0 := X0.lt
  refine (hvl _ (S.below hB0)).mono ?_
  rintro e w1 ⟨rfl, hb1⟩
  have hB1 := bvia hB0 hb1
  replace X0 := X0.below hb1
  have x0 := X0.at_ 0 rfl; have x2 := X0.at_ 2 rfl; have lx := X0.lt
  go_wp2_with fail
  refine (hvc _ (HC.below hB1)).mono ?_
  rintro e w2 ⟨rfl, hb2⟩
  have hB2 := bvia hB1 hb2
  replace X0 := X0.below hb2
  clear x0 x2 lx
  have x0 := X0.at_ 0 rfl; have x2 := X0.at_ 2 rfl; have lx := X0.lt
  have HC2 := HC.below hB2
  go_wp2_with fail
  have hs2 := hB2.size
  go_loopw [6, 7] (fun v i wr => ∃ k : Nat, k ≤ n ∧ i = .int .i64 (k : Int) ∧ wr.ownsRow w2.heap.size 3 1 v (mapS W m cu k).length ((mapS W m cu k).map vInt) ∧ Below w2.heap.size w2 wr) (fun _ i _ => n - (intOf i).toNat)
  case atStart => exact ⟨0, Nat.zero_le _, rfl, World.ownsRow_nil .., Below.refl _ _⟩
  case round =>
    obtain ⟨k, hk, rfl, hown, hB⟩ := hrel
    have hsz := hB.size
    have y0 := (bcell hB _ _ lx).trans x0; have y2 := (bcell hB _ _ lx).trans x2
    have hln := HLN.out k
    by_cases hlt : k < n
    · have hki : (k : Int) < (n : Int) := by omega
      have hm1 : Int.tmod (k : Int) (W : Int) = ((k % W : Nat) : Int) := by rw [Int.tmod_eq_emod_of_nonneg (by omega)]; rfl
      have hWz : ¬ W = 0 := by omega
      have hmod : k % W ≤ k := Nat.mod_le _ _
      have hsn := hid (HSN.out k)
      have hnd := ref9_node ac m cc W (k % W) cu wr (by omega) (HC2.below hB) (by omega) HKK.out
      have hmw : IntKind.i64.wrap ((k % W : Nat) : Int) = ((k % W : Nat) : Int) := IntWalk.i64_in _ ⟨by omega, by omega⟩
      have hmw2 : wrap64 ((k % W : Nat) : Int) = ((k % W : Nat) : Int) := IntWalk.wrap64_in _ ⟨by omega, by omega⟩
      obtain ⟨r, hr⟩ : ∃ r, k % W = r := ⟨_, rfl⟩
      rw [hr] at hm1 hnd hmw hmw2
      have HR := hid hr
      clear hr hmod
      go_wp2_with fail
      refine hnd.mono ?_
      rintro e w3 ⟨⟨j, hj, rfl⟩, rfl⟩
      have HJ := hid (node_uniq hj)
      clear hnd hj
      go_wp2_with (at_builtin; refine wpList_append_own _ rfl _ _ 25 rfl (w2.heap.size) 3 i0 (.int .i64 0) 1 8 Tryz.underlying25 hi hz0 hz1 hz2 rfl (by decide) _ _ _ rfl ((hown).alloc _) ⟨wr.heap.size, 0, none⟩ 1 1 [.int .i64 (j : Int)] rfl rfl (cell_one_new _ _ _) (by simp [Value.oneCell']) (by simp [maxLen]; omega) (by omega) (by simp; omega) ?_; intro v' w4 hown' hgrow _)
      go_roundw
      case rel => exact ⟨k + 1, by omega, by go_num, (by rw [hsn.out, HR.out, ← HJ.out]; exact own_snoc hown'), (hB.alloc (by omega) _).grown hgrow (by simp; omega) (own_base hown)⟩
      case measure => simp [intOf]; omega
    · obtain rfl : k = n := (by omega)
      go_wp2_with fail
      go_ret2
      exact listPost_own hown (bvia hB2 hB)
end Go.Proofs.YteabkcbajpjkoaaGreat
/- Walks of the reference's measures: CellMass, sums, cells of a column, corner, sided, axial. -/
namespace Go.Proofs.YteabkcbajpjkoaaGreat
open Go Go.RowKit
set_option linter.unusedVariables false
set_option maxRecDepth 100000 in
theorem ref6_CellMass (c : C4) (w : World) (hv : validC c = true) : Calls Tryz.prog 114 #[.agg #[.int .i64 c.e, .int .i64 c.n, .int .i64 c.w, .int .i64 c.s]] w fun e w' => e = .returned (.int .i64 c.mass) ∧ Below w.heap.size w w' := by
  obtain ⟨h1, h2, h3, h4, h5⟩ := (validC_iff _).1 hv
  clear hv
  obtain ⟨e, n, v, s⟩ := c
  dsimp only at *
  have hm : C4.mass ⟨e, n, v, s⟩ = e + n + v + s := rfl
  rw [hm]
  have X0 := Bx.new w #[.int .i64 e, .int .i64 n, .int .i64 v, .int .i64 s] 49
  have hB0 : Below w.heap.size w (w.alloc (.cells #[.int .i64 e, .int .i64 n, .int .i64 v, .int .i64 s] 49)) := by (repeat' (first | with_reducible assumption | with_reducible exact Below.refl _ _ | with_reducible refine Below.drew ?_ | with_reducible refine below_drewN ?_ _ | with_reducible refine balloc ?_ _ | with_reducible refine bset ?_ ?_ _ | with_reducible refine Below.setCell ?_ ?_ _ | with_reducible refine Below.alloc ?_ ?_ _ | omega | (simp; done) | (simp; omega)))
  go_enter Tryz.func114, Tryz.ntmps114
  go_wp2_with fail
  go_ret
  exact ⟨by simp, by (repeat' (first | with_reducible assumption | with_reducible exact Below.refl _ _ | with_reducible refine Below.drew ?_ | with_reducible refine below_drewN ?_ _ | with_reducible refine balloc ?_ _ | with_reducible refine bset ?_ ?_ _ | with_reducible refine Below.setCell ?_ ?_ _ | with_reducible refine Below.alloc ?_ ?_ _ | omega | (simp; done) | (simp; omega)))⟩
theorem wr_small (x : Int) (h : -10000000000 ≤ x ∧ x ≤ 10000000000) : IntKind.i64.wrap x = x ∧ wrap64 x = x := ⟨IntWalk.i64_in _ ⟨by omega, by omega⟩, IntWalk.wrap64_in _ ⟨by omega, by omega⟩⟩
set_option maxRecDepth 100000 in
set_option maxHeartbeats 4000000 in
theorem ref8_sums (a : Option Addr) (n cap : Nat) (g : Nat → C4) (w : World) (hn : n ≤ 100000) (S : Sc w a n g) (hv : ∀ k, k < n → validC (g k) = true) (hm : massTo g n ≤ 1000000000) :
    Calls Tryz.prog 88 #[.slice a n cap] w fun e w' => (∃ x y : Int, e = .returned (.tuple #[.int .i64 (massTo g n), .int .i64 x, .int .i64 y])) ∧ Below w.heap.size w w' := by
  have hmk := fun k (hk : k ≤ n) => massTo_mono g hk hv
  have HMK := hid hmk; have HV := hid hv; have HM := hid hm
  clear hmk hv hm
  go_enter Tryz.func88, Tryz.ntmps88
  go_wp2_with fail
  go_loopw [2, 3, 4, 5] (fun m x y i wr => ∃ (k : Nat) (E N : Int), k ≤ n ∧ i = .int .i64 (k : Int) ∧ m = .int .i64 (massTo g k) ∧ x = .int .i64 E ∧ y = .int .i64 N ∧ -massTo g k ≤ E ∧ E ≤ massTo g k ∧ -massTo g k ≤ N ∧ N ≤ massTo g k ∧ Below w.heap.size w wr) (fun _ _ _ i _ => n - (intOf i).toNat)
  case atStart => exact ⟨0, 0, 0, Nat.zero_le _, rfl, rfl, rfl, rfl, by simp [massTo], by simp [massTo], by simp [massTo], by simp [massTo], Below.refl _ _⟩
  case round =>
    obtain ⟨k, E, N, hk, rfl, rfl, rfl, rfl, b1, b2, b3, b4, hb⟩ := hrel
    by_cases hlt : k < n
    · have hki : (k : Int) < (n : Int) := by omega
      obtain ⟨b, off, rfl, hbl, c0, c1, c2, c3⟩ := S k hlt
      have hvc := HV.out k hlt
      obtain ⟨v1, v2, v3, v4, v5⟩ := (validC_iff _).1 hvc
      have m1 := HMK.out (k + 1) (by omega)
      have m2 := HM.out
      have m3 : massTo g (k + 1) = massTo g k + (g k).mass := rfl
      have m4 : (g k).mass = (g k).e + (g k).n + (g k).w + (g k).s := rfl
      have hcm := fun W => ref6_CellMass (g k) W hvc
      have M3 := hid m3
      rw [m3] at m1
      obtain ⟨⟨ce, cn, cw, cs⟩, hg⟩ : ∃ c, g k = c := ⟨_, rfl⟩
      rw [hg] at c0 c1 c2 c3 v1 v2 v3 v4 v5 m1 m4 hcm M3
      dsimp only at c0 c1 c2 c3 v1 v2 v3 v4 v5 m4 hcm
      obtain ⟨mk, hmk⟩ : ∃ mk, C4.mass ⟨ce, cn, cw, cs⟩ = mk := ⟨_, rfl⟩
      rw [hmk] at m1 m4 hcm M3
      obtain ⟨mt, hmt⟩ : ∃ mt, massTo g k = mt := ⟨_, rfl⟩
      rw [hmt] at b1 b2 b3 b4 m1 M3 ⊢
      have hsum := wr_small (mt + mk) (by omega)
      clear hvc hg hmk hmt m3
      obtain ⟨q1, q2⟩ := hsum
      have r1 := wr_small (ce - cw) (by omega)
      have r2 := wr_small (cn - cs) (by omega)
      have r3 := wr_small (E + (ce - cw)) (by omega)
      have r4 := wr_small (N + (cn - cs)) (by omega)
      have B3 := hid (show -(mt + mk) ≤ E + (ce - cw) ∧ E + (ce - cw) ≤ mt + mk by omega)
      have B4 := hid (show -(mt + mk) ≤ N + (cn - cs) ∧ N + (cn - cs) ≤ mt + mk by omega)
      obtain ⟨r11, r12⟩ := r1
      obtain ⟨r21, r22⟩ := r2
      obtain ⟨r31, r32⟩ := r3
      obtain ⟨r41, r42⟩ := r4
      clear v1 v2 v3 v4 v5 m1 m2 m4 b1 b2 b3 b4
      have d0 := (bcell hb _ _ hbl).trans c0; have d1 := (bcell hb _ _ hbl).trans c1; have d2 := (bcell hb _ _ hbl).trans c2; have d3 := (bcell hb _ _ hbl).trans c3
      go_wp2_with (go_at_call 114; refine (hcm _).mono ?_; rintro e w2 ⟨rfl, hb2⟩)
      have hB2 := bvia hb hb2
      have f0 : ∀ W, Below w.heap.size w W → W.cell? ⟨b, off + k * 4, none⟩ = some (.int .i64 ce) := fun W h => (bcell h _ _ hbl).trans c0
      have f1 : ∀ W, Below w.heap.size w W → W.cell? ⟨b, off + k * 4 + 1, none⟩ = some (.int .i64 cn) := fun W h => (bcell h _ _ hbl).trans c1
      have f2 : ∀ W, Below w.heap.size w W → W.cell? ⟨b, off + k * 4 + 2, none⟩ = some (.int .i64 cw) := fun W h => (bcell h _ _ hbl).trans c2
      have f3 : ∀ W, Below w.heap.size w W → W.cell? ⟨b, off + k * 4 + 3, none⟩ = some (.int .i64 cs) := fun W h => (bcell h _ _ hbl).trans c3
      clear c0 c1 c2 c3 d0 d1 d2 d3
      go_region_held3 (fun W => Below w.heap.size w W) ((repeat' (first | with_reducible assumption | with_reducible exact Below.refl _ _ | with_reducible refine Below.drew ?_ | with_reducible refine below_drewN ?_ _ | with_reducible refine balloc ?_ _ | with_reducible refine bset ?_ ?_ _ | with_reducible refine Below.setCell ?_ ?_ _ | with_reducible refine Below.alloc ?_ ?_ _ | omega | (simp; done) | (simp; omega)))) (fail)
      go_wp2_with fail
      go_region_held3 (fun W => Below w.heap.size w W) ((repeat' (first | with_reducible assumption | with_reducible exact Below.refl _ _ | with_reducible refine Below.drew ?_ | with_reducible refine below_drewN ?_ _ | with_reducible refine balloc ?_ _ | with_reducible refine bset ?_ ?_ _ | with_reducible refine Below.setCell ?_ ?_ _ | with_reducible refine Below.alloc ?_ ?_ _ | omega | (simp; done) | (simp; omega)))) (fail)
      go_wp2_with fail
      go_roundw
      case rel => exact ⟨k + 1, E + (ce - cw), N + (cn - cs), by omega, by go_num, by rw [M3.out], rfl, rfl, by rw [M3.out]; exact B3.out.1, by rw [M3.out]; exact B3.out.2, by rw [M3.out]; exact B4.out.1, by rw [M3.out]; exact B4.out.2, by with_reducible assumption⟩
      case measure => simp [intOf]; omega
    · obtain rfl : k = n := (by omega)
      go_wp2_with fail
      go_ret3
      exact ⟨⟨E, N, rfl⟩, hb⟩
end Go.Proofs.YteabkcbajpjkoaaGreat
/- Walks of the reference's measures: the cells of a column, corner, sided, axial, Table, Profile, Loads. -/
namespace Go.Proofs.YteabkcbajpjkoaaGreat
open Go Go.RowKit
set_option linter.unusedVariables false
set_option linter.unusedSimpArgs false
theorem colTo_part {W x : Nat} (hx : x < W) (g : Nat → C4) (h : Nat) : ∀ j, j ≤ W → colTo W g (W * h + j) x = colTo W g (W * h) x + if x < j then (g (x + W * h)).mass else 0
  | 0, _ => by simp
  | j + 1, hj => by
    have ih := colTo_part hx g h j (by omega)
    have e : (W * h + j) % W = j := by rw [Nat.mul_add_mod]; exact Nat.mod_eq_of_lt (by omega)
    rw [← Nat.add_assoc]
    simp only [colTo]
    rw [ih, e]
    by_cases hxj : x = j
    · subst hxj
      rw [if_neg (by omega), if_pos rfl, if_pos (by omega), Nat.add_comm x (W * h)]
      omega
    · rw [if_neg hxj]
      by_cases h2 : x < j
      · rw [if_pos h2, if_pos (by omega)]; omega
      · rw [if_neg h2, if_neg (by omega)]; omega
theorem col_mass {W x : Nat} (hx : x < W) (g : Nat → C4) : ∀ h, massTo (fun k => g (x + W * k)) h = colTo W g (W * h) x
  | 0 => by simp [massTo, colTo]
  | h + 1 => by
    have := colTo_part hx g h W (Nat.le_refl _)
    rw [if_pos hx] at this
    rw [Nat.mul_succ, this, ← col_mass hx g h]
    rfl
theorem cells_new8 (w : World) (cs : List Value) (t : TypeId) : ∀ j u, cs[j]? = some u → (w.alloc (.cells cs.toArray t)).cell? ((⟨w.heap.size, 0, none⟩ : Addr).add j) = some u := fun j u h => by
  rw [show (⟨w.heap.size, 0, none⟩ : Addr).add j = ⟨w.heap.size, j, none⟩ by unfold Addr.add; split <;> simp_all]
  exact cell_new w _ t j u (by simpa using h)
theorem rowC_more8 (C : Nat → C4) (j : Nat) : rowC C (j + 1) = rowC C j ++ [.int .i64 (C j).e, .int .i64 (C j).n, .int .i64 (C j).w, .int .i64 (C j).s] := by
  unfold rowC
  rw [show (j + 1) * 4 = j * 4 + 1 + 1 + 1 + 1 by omega]
  simp only [List.range_succ, List.map_append, List.map_cons, List.map_nil, List.append_assoc, List.cons_append, List.nil_append]
  rw [flatC_at0, flatC_at1, show j * 4 + 1 + 1 = j * 4 + 2 by omega, flatC_at2, show j * 4 + 2 + 1 = j * 4 + 3 by omega, flatC_at3]
theorem sc_of_own8 {W : World} {base n : Nat} {v : Value} {f : Nat → C4} (h : W.ownsRow base 49 4 v n (rowC f n)) : ∃ a c, v = .slice a n c ∧ Sc W a n f := by
  rcases h.2 with ⟨rfl, h0⟩ | ⟨g, cap, cur, rfl, hb, hh, hn, hm, hc, ht⟩
  · exact ⟨none, 0, by rw [h0], fun k hk => by omega⟩
  · by_cases h0 : 0 < n
    · obtain ⟨_, hr⟩ := roC_of_own h h0
      exact ⟨_, _, rfl, hr.sc⟩
    · exact ⟨_, _, rfl, fun k hk => by omega⟩
set_option maxRecDepth 100000 in
set_option maxHeartbeats 4000000 in
theorem ref8_cells (W H x n c : Nat) (a : Option Addr) (g : Nat → C4) (w : World) (hW : W ≤ 64) (hH : H ≤ 4096) (hn : n = W * H) (hx : x < W) (S : Sc w a n g) :
    Calls Tryz.prog 89 #[.agg #[.int .i64 (W : Int), .int .i64 (H : Int), .slice a n c], .agg #[.int .i64 (x : Int), .int .i64 0], .agg #[.int .i64 (x : Int), .int .i64 ((H : Int) - 1)]] w
    fun e w' => ∃ v, e = .returned v ∧ w'.ownsRow w.heap.size 49 4 v H (rowC (fun k => g (x + W * k)) H) ∧ Below w.heap.size w w' := by
  obtain ⟨i0, hi, hz0, hz1, hz2⟩ := info_parts infoC
  have hidx : ∀ k, k < H → x + W * k < n := fun k hk => by
    have : W * (k + 1) ≤ W * H := Nat.mul_le_mul_left _ (by omega)
    rw [Nat.mul_succ] at this
    omega
  have hmul : ∀ k, k < H → W * k ≤ 262144 := fun k hk => by
    have : W * k ≤ 64 * 4096 := Nat.mul_le_mul hW (by omega)
    omega
  have HIX := hid hidx; have HMU := hid hmul
  clear hidx hmul
  have HNN := hid hn; clear hn
  have X0 := ((Bx.new w #[.int .i64 (W : Int), .int .i64 (H : Int), .slice a n c] 24).alloc (.cells #[.int .i64 (x : Int), .int .i64 0] 120)).alloc (.cells #[.int .i64 (x : Int), .int .i64 ((H : Int) - 1)] 120)
  have X1 := (Bx.new (w.alloc (.cells #[.int .i64 (W : Int), .int .i64 (H : Int), .slice a n c] 24)) #[.int .i64 (x : Int), .int .i64 0] 120).alloc (.cells #[.int .i64 (x : Int), .int .i64 ((H : Int) - 1)] 120)
  have X2 := Bx.new ((w.alloc (.cells #[.int .i64 (W : Int), .int .i64 (H : Int), .slice a n c] 24)).alloc (.cells #[.int .i64 (x : Int), .int .i64 0] 120)) #[.int .i64 (x : Int), .int .i64 ((H : Int) - 1)] 120
  simp only [World.size_alloc] at X1 X2
  have hB0 : Below w.heap.size w (((w.alloc (.cells #[.int .i64 (W : Int), .int .i64 (H : Int), .slice a n c] 24)).alloc (.cells #[.int .i64 (x : Int), .int .i64 0] 120)).alloc (.cells #[.int .i64 (x : Int), .int .i64 ((H : Int) - 1)] 120)) := by (repeat' (first | with_reducible assumption | with_reducible exact Below.refl _ _ | with_reducible refine Below.drew ?_ | with_reducible refine below_drewN ?_ _ | with_reducible refine balloc ?_ _ | with_reducible refine bset ?_ ?_ _ | with_reducible refine Below.setCell ?_ ?_ _ | with_reducible refine Below.alloc ?_ ?_ _ | omega | (simp; done) | (simp; omega)))
  go_enter Tryz.func89, Tryz.ntmps89
  go_wp2_with fail
  generalize (((w.alloc (.cells #[.int .i64 (W : Int), .int .i64 (H : Int), .slice a n c] 24)).alloc (.cells #[.int .i64 (x : Int), .int .i64 0] 120)).alloc (.cells #[.int .i64 (x : Int), .int .i64 ((H : Int) - 1)] 120)) = W0 at X0 X1 X2 hB0 ⊢
  have z0 := X0.lt
  have z1 := X1.lt
  have z2 := X2.lt
  have hs0 := hB0.size
  go_loopw [7, 8, 9] (fun v y q wr => ∃ k : Nat, k ≤ H ∧ y = .int .i64 (k : Int) ∧ wr.ownsRow W0.heap.size 49 4 v k (rowC (fun k => g (x + W * k)) k) ∧ Below W0.heap.size W0 wr) (fun _ y _ _ => H - (intOf y).toNat)
  case atStart => exact ⟨0, Nat.zero_le _, rfl, World.ownsRow_nil .., Below.refl _ _⟩
  case round =>
    obtain ⟨wo, rfl⟩ : ∃ wo : World, wo = wr := ⟨_, rfl⟩
    obtain ⟨k, hk, rfl, hown, hB⟩ := hrel
    have hsz := hB.size
    have y2 := (bcell hB _ _ z2).trans (X2.at_ 1 rfl)
    by_cases hlt : k < H
    · have hle : decide ((k : Int) ≤ (H : Int) - 1) = true := by simp; omega
      have hle2 : (k : Int) ≤ (H : Int) - 1 := by omega
      have y1 := (bcell hB _ _ z1).trans (X1.at_ 0 rfl)
      go_wp2_with fail
      clear y1 y2 hle hle2
      go_loopw [7, 9] (fun v q wr => ∃ j : Nat, j ≤ 1 ∧ q = .int .i64 ((x + j : Nat) : Int) ∧ wr.ownsRow W0.heap.size 49 4 v (k + j) (rowC (fun k => g (x + W * k)) (k + j)) ∧ Below W0.heap.size W0 wr) (fun _ q _ => x + 1 - (intOf q).toNat)
      case atStart => exact ⟨0, Nat.zero_le _, rfl, hown, hB⟩
      case round =>
        clear hown hB hsz
        obtain ⟨j, hj, rfl, hown, hB⟩ := hrel
        have hsz := hB.size
        have y3 := (bcell hB _ _ z2).trans (X2.at_ 0 rfl)
        have hBw := bvia hB0 hB
        by_cases hj0 : j = 0
        · subst hj0
          simp only [Nat.add_zero] at hown ⊢
          have hmu := HMU.out k hlt
          have hlx := HIX.out k hlt
          obtain ⟨b, off, rfl, hbl, c0, c1, c2, c3⟩ := (S.below hBw) (x + W * k) hlx
          have y0 := (bcell hB _ _ z0).trans (X0.at_ 0 rfl)
          have y02 := (bcell hB _ _ z0).trans (X0.at_ 2 rfl)
          have hm1 : IntKind.i64.wrap ((W : Int) * (k : Int)) = ((W * k : Nat) : Int) := by rw [← Int.natCast_mul]; exact IntWalk.i64_in _ ⟨by omega, by omega⟩
          have hm2 : wrap64 ((W : Int) * (k : Int)) = ((W * k : Nat) : Int) := by rw [← Int.natCast_mul]; exact IntWalk.wrap64_in _ ⟨by omega, by omega⟩
          have hrm := rowC_more8 (fun k => g (x + W * k)) k
          have HRM := hid hrm; clear hrm
          obtain ⟨P, hP⟩ : ∃ P, W * k = P := ⟨_, rfl⟩
          rw [hP] at hmu hlx c0 c1 c2 c3 hm1 hm2 HRM
          have HP := hid hP; clear hP
          obtain ⟨cc, hcc⟩ : ∃ cc, g (x + P) = cc := ⟨_, rfl⟩
          rw [hcc] at c0 c1 c2 c3 HRM
          have HCC := hid hcc; clear hcc
          go_wp2_with (at_builtin; refine wpList_append_own_at _ rfl _ _ 22 rfl W0.heap.size 49 i0 _ 4 32 Tryz.underlying22 hi hz0 hz1 hz2 rfl (by decide) _ _ _ rfl (World.ownsRow.alloc hown _) ⟨wr.heap.size, 0, none⟩ 1 1 [.int .i64 cc.e, .int .i64 cc.n, .int .i64 cc.w, .int .i64 cc.s] rfl rfl (cells_new8 _ _ _) (by simp [Value.oneCell']) (by simp [maxLen]; omega) (by omega) (by simp; omega) ?_; intro v' w9 hown' hgrow _ hat)
          go_roundw
          case rel => exact ⟨1, by omega, by go_num, by rw [HRM.out]; exact hown', (balloc hB _).grown hgrow (by (try simp); omega) (own_base hown)⟩
          case measure => first | (simp [intOf]; done) | (simp [intOf]; omega)
        · obtain rfl : j = 1 := by omega
          go_wp2_with fail
          go_roundw
          case rel => exact ⟨k + 1, by omega, by go_num, hown, hB⟩
          case measure => first | (simp [intOf]; done) | (simp [intOf]; omega)
    · obtain rfl : k = H := by omega
      have hle : decide ((k : Int) ≤ (k : Int) - 1) = false := by simp; omega
      go_wp2_with fail
      go_ret
      exact ⟨_, rfl, own_mono hown hs0, bvia hB0 hB⟩
end Go.Proofs.YteabkcbajpjkoaaGreat
