/- Walks of the share layer: node, weights, greatest, Weights and Peak of the reference. -/
import Derived.Test.YtgpcmkoimgnlbaaSWalk7
import Derived.Test.YtgpcmkoimgnlbaaSTable
import Derived.Deep.RegionHeld3
namespace Go.Proofs.Ytgpcmkoimgnlbaa
open Go Go.RowKit
set_option linter.unusedVariables false
theorem ref9_node (a : Option Addr) (m ca n x : Nat) (c : Nat → Int) (w : World) (hm : m ≤ 100000) (H : Sl w a m c) (hx : x ≤ 100000) (hK : validK n m c) :
    Calls Try.prog 67 #[.slice a m ca, .int .i64 (x : Int)] w fun e w' => (∃ j : Nat, IsNode m c x j ∧ e = .returned (.int .i64 (j : Int))) ∧ w = w' := by
  have HK := hid hK; clear hK
  go_enter Try.func67, Try.ntmps67
  go_wp2
  go_loop [5] (fun i => ∃ j : Nat, j ≤ m ∧ i = .int .i64 (j : Int) ∧ ∀ i, i < j → c i ≤ x) (fun i => m - (intOf i).toNat)
  case atStart => exact ⟨0, Nat.zero_le _, rfl, fun i hi => by omega⟩
  case round =>
    obtain ⟨j, hj, rfl, hle⟩ := hrel
    have HLE := hid hle; clear hle
    by_cases hlt : j < m
    · obtain ⟨b, off, rfl, hb, hc⟩ := H j hlt
      by_cases hcx : c j ≤ x
      · go_wp2
        go_round
        case rel => exact ⟨j + 1, by omega, by go_num, fun i hi => by
          rcases Nat.lt_succ_iff_lt_or_eq.1 hi with h | rfl
          · exact HLE.out i h
          · exact hcx⟩
        case measure => simp [intOf] <;> omega
      · go_wp2
        go_ret
        exact ⟨⟨j, ⟨by omega, HLE.out, fun _ => by omega⟩, rfl⟩, rfl⟩
    · obtain rfl : j = m := (by omega)
      go_wp2
      go_ret
      exact ⟨⟨j, ⟨by omega, HLE.out, fun h => by omega⟩, rfl⟩, rfl⟩
theorem isNode_ex (m : Nat) (c : Nat → Int) (x : Nat) : ∃ j, IsNode m c x j := by
  obtain ⟨a1, a2, a3, a4⟩ := firstN_spec (P := fun j => decide ((x : Int) < c j)) m 0
  refine ⟨firstN (fun j => decide ((x : Int) < c j)) m 0, by omega, fun i hi => ?_, fun h => ?_⟩
  · have := a3 i (Nat.zero_le _) hi
    have := of_decide_eq_false this
    omega
  · exact of_decide_eq_true (a4 (by omega))
theorem isNode_uniq {m : Nat} {c : Nat → Int} {x i j : Nat} (h : IsNode m c x i) (h' : IsNode m c x j) : i = j := by
  obtain ⟨a1, a2, a3⟩ := h
  obtain ⟨b1, b2, b3⟩ := h'
  rcases Nat.lt_trichotomy i j with h | h | h
  · have := b2 i h; have := a3 (by omega); omega
  · exact h
  · have := a2 j h; have := b3 (by omega); omega
theorem ref9_greatest (a : Option Addr) (n ca : Nat) (f : Nat → Int) (w : World) (hn : n ≤ 100000) (H : Sl w a n f) :
    Calls Try.prog 56 #[.slice a n ca] w fun e w' => e = .returned (.int .i64 (mxTo f n)) ∧ w = w' := by
  go_enter Try.func56, Try.ntmps56
  go_wp2
  go_loop [3, 4] (fun s i => ∃ j : Nat, j ≤ n ∧ i = .int .i64 (j : Int) ∧ s = .int .i64 (mxTo f j)) (fun _ i => n - (intOf i).toNat)
  case atStart => exact ⟨0, Nat.zero_le _, rfl, rfl⟩
  case round =>
    obtain ⟨j, hj, rfl, rfl⟩ := hrel
    by_cases hlt : j < n
    · obtain ⟨b, off, rfl, hb, hc⟩ := H j hlt
      have hs : mxTo f (j + 1) = if mxTo f j < f j then f j else mxTo f j := rfl
      generalize mxTo f j = S at *
      by_cases hcx : S < f j
      · rw [if_pos hcx] at hs
        have HS := hid hs; clear hs
        go_wp2
        go_round
        case rel => exact ⟨j + 1, by omega, by go_num, by rw [HS.out]⟩
        case measure => simp [intOf] <;> omega
      · rw [if_neg hcx] at hs
        have HS := hid hs; clear hs
        go_wp2
        go_round
        case rel => exact ⟨j + 1, by omega, by go_num, by rw [HS.out]⟩
        case measure => simp [intOf] <;> omega
    · obtain rfl : j = n := (by omega)
      go_wp2
      go_ret
      exact ⟨rfl, rfl⟩
set_option maxRecDepth 100000 in
set_option maxHeartbeats 4000000 in
theorem ref9_weights (a ac : Option Addr) (n m ca cc : Nat) (f c : Nat → Int) (w : World) (hV : validL n f) (hK : validK n m c) (H : Sl w a n f) (HC : Sl w ac m c) :
    Calls Try.prog 53 #[.slice a n ca, .slice ac m cc] w fun e w' => ∃ g, e = .returned (.slice (some ⟨g, 0, none⟩) (m + 1) (m + 1)) ∧ w.heap.size ≤ g ∧ Ro w' g (m + 1) (wt f n m c) ∧ Below w.heap.size w w' := by
  obtain ⟨i0, hi, hz0, hz1, hz2⟩ := info_parts infoI
  have hm16 := hK.1
  have v2 := hV.2.1
  have HV := hid hV; have HK := hid hK; clear hV hK
  have hmk := mk_ints (m + 1) ((m : Int) + 1) (by omega) (by omega) w
  have hro := ro_made w (m + 1)
  have hbr : Below w.heap.size w (w.alloc (.cells (zcells (m + 1)) 3)) := below_alloc _ _
  generalize hW0 : w.alloc (.cells (zcells (m + 1)) 3) = W0 at *
  have HW0 := hid hW0; clear hW0
  generalize hr : w.heap.size = r at *
  have HR := hid hr; clear hr
  go_enter Try.func53, Try.ntmps53
  go_wp2
  go_loopw [6] (fun i wr => ∃ x : Nat, x ≤ n ∧ i = .int .i64 x ∧ Ro wr r (m + 1) (fun j => wtTo f n m c x j) ∧ Below r w wr) (fun i _ => n - (intOf i).toNat)
  case atStart => exact ⟨0, Nat.zero_le _, rfl, by simp only [wtTo_zero]; exact hro, hbr⟩
  case round =>
    obtain ⟨x, hx, rfl, hrx, hb⟩ := hrel
    have hb' : Below w.heap.size w wr := by rw [HR.out]; exact hb
    by_cases hlt : x < n
    · obtain ⟨b, off, rfl, hbl, hcf⟩ := H x hlt
      rw [HR.out] at hbl
      obtain ⟨j, hjn⟩ := isNode_ex m c x
      have hjm := hjn.1
      have hlr := hrx.lt
      have hBW : ∀ W, But (fun b => b = r) wr W → Below r w W := fun W h => hb.trans ⟨h.os, h.tape, h.output, h.size, fun q hq => h.block q (by omega) (by omega)⟩
      have hnode : ∀ W, But (fun b => b = r) wr W → Calls Try.prog 67 #[.slice ac m cc, .int .i64 (x : Int)] W fun e w' => e = .returned (.int .i64 (j : Int)) ∧ W = w' := fun W hW =>
        (ref9_node ac m cc n x c W (by omega) (HC.below (by rw [HR.out]; exact hBW W hW)) (by omega) HK.out).mono fun e w' h => by
          obtain ⟨⟨j', h1, h2⟩, h3⟩ := h
          obtain rfl := isNode_uniq hjn h1
          exact ⟨h2, h3⟩
      have r1 : ∀ W, But (fun b => b = r) wr W → W.cell? ⟨b, off + x, none⟩ = some (.int .i64 (f x)) := fun W h => (bcell (hBW W h) _ _ hbl).trans hcf
      have hset := hrx.set_ j (wtTo f n m c x j + f x)
      have hset' := hset.congr (g := fun i => wtTo f n m c (x + 1) i) (fun i hi => by
        rw [wtTo_node HK.out hlt hjn i]; rfl)
      have row := hrx.at_ j (by omega)
      have fr := hrx.free
      have hfx := HV.out.2.2 x hlt
      have hw0 : 0 ≤ wtTo f n m c x j ∧ wtTo f n m c x j ≤ 64000000000 := sg_most v2 HV.out.2.2 (by have := bd_step HK.out j; omega) (by have := bd_le HK.out (j + 1); omega)
      have HS := hid hset'; have HJ := hid hjn
      clear hset hset' hjn
      generalize wtTo f n m c x j = S at *
      go_upto_region 5 with (fail)
      have hcr := r1 _ (But.refl _ _)
      have q0 : (0 : Int) ≤ (j : Int) := by omega
      have q1 : (j : Int) < (m : Int) + 1 := by omega
      refine wp_region_still_tail 12 (by kernel_rfl) (by kernel_rfl) ?_
      simp only [List.take_succ_cons, List.take_zero, List.drop_succ_cons, List.drop_zero]
      change wpStill _ _ wr.drew _ _ _
      repeat still_step
      refine wpStill_step (fun K hK => ?_)
      go_simp
      refine ⟨.int .i64 (j : Int), ?_, hK _ ?_⟩
      · exact (hnode _ (But.refl _ _).drew).mono fun e w' h => ⟨h.1, h.2.symm⟩
      clear hK K
      repeat still_step
      refine wpStill_nil ?_
      change wpList _ _ _ _ _ wr.drew
      go_wp2
      go_roundw
      case rel => exact ⟨x + 1, by omega, by go_num, HS.out.drew, (hb.setCell (Nat.le_refl _) _).drew⟩
      case measure => simp [intOf] <;> omega
    · obtain rfl : x = n := (by omega)
      have hfin := hrx.congr (fun j hj => wtTo_end HK.out j)
      have HF := hid hfin; clear hfin hrx
      go_wp2
      go_ret
      exact ⟨r, rfl, Nat.le_refl _, HF.out, hb⟩
/-- a row of its own that may be written, or none, and an error -/
def RowPost (L : List Int) (err : Int) (w : World) (e : Ending) (w' : World) : Prop :=
  ∃ v, e = .returned (.tuple #[v, .int .i64 err]) ∧ ((L = [] ∧ v = .slice none 0 0) ∨ ∃ g, v = .slice (some ⟨g, 0, none⟩) L.length L.length ∧ w.heap.size ≤ g ∧ Ro w' g L.length (fun k => L.getD k 0)) ∧ Below w.heap.size w w'
theorem RowPost.list {L : List Int} {err : Int} {w : World} {e : Ending} {w' : World} (h : RowPost L err w e w') : ListPost L err w e w' := by
  obtain ⟨v, rfl, h, hb⟩ := h
  rcases h with ⟨rfl, rfl⟩ | ⟨g, rfl, hg, hr⟩
  · exact listPost_nil hb
  · exact ⟨_, _, rfl, hr.sl, hb⟩
theorem rowPost_nil {w w' : World} {err : Int} (hb : Below w.heap.size w w') : RowPost [] err w (.returned (.tuple #[.slice none 0 0, .int .i64 err])) w' := ⟨_, rfl, .inl ⟨rfl, rfl⟩, hb⟩
theorem ask_bad {f c : Nat → Int} {n m : Nat} (hv : ¬ (vL n f && vK n m c) = true) : askE (vL n f) (vK n m c) ≠ 0 := by
  intro h
  unfold askE at h
  split at h
  · rename_i h1
    split at h
    · rename_i h2; exact hv (by rw [h1, h2]; rfl)
    · cases h
  · cases h
set_option maxRecDepth 100000 in
set_option maxHeartbeats 1000000 in
theorem ref9_Weights (a ac : Option Addr) (n m ca cc : Nat) (f c : Nat → Int) (w : World) (hn : n ≤ 100000000) (hm : m ≤ 100000000) (H : Sl w a n f) (HC : Sl w ac m c) :
    Calls Try.prog 19 #[.slice a n ca, .slice ac m cc] w (RowPost (wtR f n m c) (askE (vL n f) (vK n m c)) w) := by
  by_cases hv : (vL n f && vK n m c) = true
  · have hE := hid (show wtR f n m c = wtL f n m c (m + 1) by rw [wtR, if_pos hv])
    rw [Bool.and_eq_true] at hv
    obtain ⟨hv1, hv2⟩ := hv
    have hask := fun W H HC => ref9_asked a ac n m ca cc f c W hn hm H HC
    rw [hv1, hv2] at hask ⊢
    have hw := fun W H HC => ref9_weights a ac n m ca cc f c W ((vL_iff _ _).1 hv1) ((vK_iff _ _ _).1 hv2) H HC
    go_enter Try.func19, Try.ntmps19
    go_wp2_with fail
    refine (hask _ H HC).mono ?_
    rintro e w1 ⟨rfl, hb1⟩
    go_wp2_with fail
    refine (hw _ (H.below hb1) (HC.below hb1)).mono ?_
    rintro e w2 ⟨g, rfl, hg, hr, hb2⟩
    go_wp2_with fail
    go_ret2
    rw [hE.out]
    have hll := wtL_length f n m c (m + 1)
    exact ⟨_, rfl, .inr ⟨g, by rw [hll]; rfl, by have := hb1.size; omega, by rw [hll]; exact hr.congr (fun k hk => (wtL_get f n m c _ hk).symm)⟩, bvia hb1 hb2⟩
  · have hE := hid (show wtR f n m c = [] by rw [wtR, if_neg hv])
    have hne := ask_bad hv
    have hask := fun W H HC => ref9_asked a ac n m ca cc f c W hn hm H HC
    generalize askE (vL n f) (vK n m c) = er at *
    have hb : (er != 0) = true := by simpa using hne
    clear hne
    go_enter Try.func19, Try.ntmps19
    go_wp2_with fail
    refine (hask _ H HC).mono ?_
    rintro e w1 ⟨rfl, hb1⟩
    go_wp2_with fail
    go_ret2
    rw [hE.out]
    exact rowPost_nil hb1
theorem wtR_length (f : Nat → Int) (n m : Nat) (c : Nat → Int) : (wtR f n m c).length ≤ 16 := by
  unfold wtR
  split
  · rename_i h
    rw [Bool.and_eq_true] at h
    have := ((vK_iff _ _ _).1 h.2).1
    rw [wtL_length]; omega
  · simp
theorem wtR_peak (f : Nat → Int) (n m : Nat) (c : Nat → Int) : mxTo (fun k => (wtR f n m c).getD k 0) (wtR f n m c).length = pkR f n m c := by
  unfold wtR pkR
  split
  · rw [wtL_length]
    exact mxTo_congr _ fun i hi => wtL_get f n m c _ hi
  · rfl
set_option maxRecDepth 100000 in
set_option maxHeartbeats 1000000 in
theorem ref9_Peak (a ac : Option Addr) (n m ca cc : Nat) (f c : Nat → Int) (w : World) (hn : n ≤ 100000000) (hm : m ≤ 100000000) (H : Sl w a n f) (HC : Sl w ac m c) :
    Calls Try.prog 22 #[.slice a n ca, .slice ac m cc] w fun e w' => e = .returned (.tuple #[.int .i64 (pkR f n m c), .int .i64 (askE (vL n f) (vK n m c))]) ∧ Below w.heap.size w w' := by
  have hw := fun W H HC => (ref9_Weights a ac n m ca cc f c W hn hm H HC).mono fun e w' h => h.list
  have hl := wtR_length f n m c
  have hp := hid (wtR_peak f n m c)
  generalize wtR f n m c = L at *
  generalize askE (vL n f) (vK n m c) = er at *
  go_enter Try.func22, Try.ntmps22
  go_wp2_with fail
  refine (hw _ H HC).mono ?_
  rintro e w1 ⟨a1, c1, rfl, S1, hb1⟩
  go_wp2_with fail
  refine (ref9_greatest a1 L.length c1 _ _ (by omega) S1).mono ?_
  rintro e w2 ⟨rfl, rfl⟩
  go_wp2_with fail
  go_ret2
  have e3 := hp.out
  simp only [List.getD_eq_getElem?_getD] at e3
  rw [← e3]
  exact ⟨rfl, hb1⟩
end Go.Proofs.Ytgpcmkoimgnlbaa
