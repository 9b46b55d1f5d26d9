/- Walks of the share layer: the reference's table of least peaks. -/
import Derived.Test.YtgpcmkoimgnlbaaSWalk3
import Derived.Deep.AppendLies
import Derived.Test.YtgpcmkoimgnlbaaRo
namespace Go.Proofs.Ytgpcmkoimgnlbaa
open Go Go.RowKit
set_option linter.unusedVariables false
theorem infoS : (Try.prog.info? 22).map (fun i => (i.zero, i.size, i.bytes)) = some (some (.slice none 0 0), 1, 24) := by kernel_rfl
def rowV (n : Nat) (g : Nat) : Value := .slice (some ⟨g, 0, none⟩) n n
/-- a list of k rows of n ints, made by append -/
def TB (F : Nat → Nat → Int) (n : Nat) (W : World) (base : Nat) (v : Value) (k : Nat) : Prop :=
  ∃ gs : List Nat, gs.length = k ∧ W.ownsRow base 22 1 v k (gs.map (rowV n)) ∧ ∀ j, j < k → Ro W (gs.getD j 0) n (F j) ∧ base ≤ gs.getD j 0 ∧ v.ownBlock ≠ some (gs.getD j 0)
theorem TB.below {F : Nat → Nat → Int} {n : Nat} {W W' : World} {base : Nat} {v : Value} {k : Nat} (h : TB F n W base v k) (hb : Below W.heap.size W W') : TB F n W' base v k := by
  obtain ⟨gs, h1, h2, h3⟩ := h
  exact ⟨gs, h1, own_below h2 hb, fun j hj => ⟨(h3 j hj).1.below hb, (h3 j hj).2⟩⟩
theorem TB.nil (F : Nat → Nat → Int) (n : Nat) (W : World) (base : Nat) : TB F n W base (.slice none 0 0) 0 :=
  ⟨[], rfl, World.ownsRow_nil .., fun j hj => by omega⟩
theorem TB.look {F : Nat → Nat → Int} {n : Nat} {W : World} {base : Nat} {v : Value} {k : Nat} (h : TB F n W base v k) (j : Nat) (hj : j < k) :
    ∃ gv cap g, v = .slice (some ⟨gv, 0, none⟩) k cap ∧ gv < W.heap.size ∧ W.cell? ⟨gv, j, none⟩ = some (.slice (some ⟨g, 0, none⟩) n n) ∧ Ro W g n (F j) := by
  obtain ⟨gs, h1, h2, h3⟩ := h
  obtain ⟨gv, cap, hv, hb, hlt⟩ := h2.form (by omega)
  refine ⟨gv, cap, gs.getD j 0, hv, hlt, ?_, (h3 j hj).1⟩
  subst hv
  rw [h2.cellAt j (by omega)]
  rw [List.getElem?_map, List.getElem?_eq_getElem (by omega)]
  simp [rowV, List.getD_eq_getElem?_getD, List.getElem?_eq_getElem (show j < gs.length by omega)]
theorem TB.own {F : Nat → Nat → Int} {n : Nat} {W : World} {base : Nat} {v : Value} {k : Nat} (h : TB F n W base v k) : ∀ g, v.ownBlock = some g → g < W.heap.size := by
  obtain ⟨gs, h1, h2, h3⟩ := h
  exact own_lt h2
theorem TB.push {F : Nat → Nat → Int} {n : Nat} {W W' : World} {base : Nat} {v v' : Value} {k g : Nat} {gs : List Nat} (h1 : gs.length = k)
    (h3 : ∀ j, j < k → Ro W (gs.getD j 0) n (F j) ∧ base ≤ gs.getD j 0 ∧ v.ownBlock ≠ some (gs.getD j 0)) (hr : Ro W g n (F k)) (hg : base ≤ g) (hne : v.ownBlock ≠ some g)
    (hown : W'.ownsRow base 22 1 v' (k + 1) (gs.map (rowV n) ++ [rowV n g])) (hgr : W.grownBy W' v.ownBlock) (hat : v'.ownBlock = v.ownBlock ∨ v'.ownBlock = some W.heap.size) : TB F n W' base v' (k + 1) := by
  have keep : ∀ {b : Nat} {f : Nat → Int}, Ro W b n f → v.ownBlock ≠ some b → Ro W' b n f := fun {b} {f} hro hn => by
    have e := hgr.block b hro.lt (fun e => hn e.symm)
    exact ⟨by have := hgr.size; have := hro.lt; omega, fun k hk => (World.cell?_of_block e).trans (hro.2 k hk), fun i => (World.frozen?_of_block e).trans (hro.3 i)⟩
  have keep2 : ∀ {b : Nat}, b < W.heap.size → v.ownBlock ≠ some b → v'.ownBlock ≠ some b := fun {b} hb hn => by
    rcases hat with e | e
    · rw [e]; exact hn
    · rw [e]; intro e'; injection e' with e'; omega
  refine ⟨gs ++ [g], by simp [h1], ?_, fun j hj => ?_⟩
  · rw [List.map_append]; exact hown
  · rcases Nat.lt_succ_iff_lt_or_eq.1 hj with h' | rfl
    · have e : (gs ++ [g]).getD j 0 = gs.getD j 0 := by
        simp [List.getD_eq_getElem?_getD, List.getElem?_append_left (show j < gs.length by omega)]
      rw [e]
      exact ⟨keep (h3 j h').1 (h3 j h').2.2, (h3 j h').2.1, keep2 (h3 j h').1.lt (h3 j h').2.2⟩
    · have e : (gs ++ [g]).getD j 0 = g := by
        simp [List.getD_eq_getElem?_getD, ← h1]
      rw [e]
      exact ⟨keep hr hne, hg, keep2 hr.lt hne⟩
theorem best_step (f rest : Nat → Int) (x c : Nat) (h : x ≤ c) : bestTo f rest x (c + 1 - x) = if rest c < 0 then bestTo f rest x (c - x) else
    (let p := if sg f x c < rest c then rest c else sg f x c
    if bestTo f rest x (c - x) < 0 ∨ p < bestTo f rest x (c - x) then p else bestTo f rest x (c - x)) := by
  rw [show c + 1 - x = (c - x) + 1 from by omega]
  have e : x + (c - x) = c := by omega
  simp only [bestTo, e]
theorem upd_at (F : Nat → Int) (x : Nat) (v : Int) : upd F x v x = v := by simp [upd]
theorem Ro.at_ {W : World} {b n : Nat} {f : Nat → Int} (h : Ro W b n f) (k : Nat) (hk : k < n) : W.cell? ⟨b, k, none⟩ = some (.int .i64 (f k)) := h.2 k hk
/-- the bounds of a total -/
theorem sg_most {f : Nat → Int} {n : Nat} (hn : n ≤ 64) (hf : ∀ k, k < n → 0 ≤ f k ∧ f k ≤ 1000000000) {x y : Nat} (hxy : x ≤ y) (hy : y ≤ n) : 0 ≤ sg f x y ∧ sg f x y ≤ 64000000000 := by
  have h1 := sg_nonneg (fun k hk => (hf k hk).1) hxy hy
  have h2 := (sumTo_most hf x (by omega)).1
  have h3 := (sumTo_most hf y hy).2
  refine ⟨h1, ?_⟩
  simp only [sg]; omega
set_option maxRecDepth 100000 in
set_option maxHeartbeats 4000000 in
theorem ref9_table (a : Option Addr) (n ca K : Nat) (f : Nat → Int) (w : World) (hv : validL n f) (hK : K ≤ 16) (H : Sl w a n f) :
    Calls Try.prog 70 #[.slice a n ca, .int .i64 (K : Int)] w fun e w' => ∃ v, e = .returned v ∧ TB (tbl f n) (n + 1) w' w.heap.size v (K + 1) ∧ Below w.heap.size w w' := by
  obtain ⟨j0, hj, hy0, hy1, hy2⟩ := info_parts infoS
  obtain ⟨i0, hi, hz0, hz1, hz2⟩ := info_parts infoI
  obtain ⟨v1, v2, hf⟩ := hv
  have HF := hid hf; clear hf
  go_enter Try.func70, Try.ntmps70
  go_wp2
  go_loopw [5, 6] (fun v i wr => ∃ k : Nat, k ≤ K + 1 ∧ i = .int .i64 k ∧ TB (tbl f n) (n + 1) wr w.heap.size v k ∧ Below w.heap.size w wr) (fun _ i _ => K + 1 - (intOf i).toNat)
  case atStart => exact ⟨0, Nat.zero_le _, rfl, TB.nil .., Below.refl _ _⟩
  case round =>
    obtain ⟨k, hk, rfl, hT, hb⟩ := hrel
    obtain ⟨wo, rfl⟩ : ∃ wo : World, wo = wr := ⟨_, rfl⟩
    have HT := hid hT
    by_cases hlt : k < K + 1
    · have hmk := mk_ints (n + 1) ((n : Int) + 1) (by omega) (by omega) wo
      have hro := ro_made wo (n + 1)
      have hbr : Below wo.heap.size wo (wo.alloc (.cells (zcells (n + 1)) 3)) := below_alloc _ _
      generalize hW0 : wo.alloc (.cells (zcells (n + 1)) 3) = W0 at *
      have HW0 := hid hW0; clear hW0
      generalize hr : wo.heap.size = r at *
      have HR := hid hr; clear hr
      go_wp2
      rcases Nat.eq_zero_or_pos k with hk0 | hk0
      · subst hk0
        go_loopw [8] (fun i wq => ∃ x : Nat, x ≤ n + 1 ∧ i = .int .i64 x ∧ Ro wq r (n + 1) (rowTo (tbl f n 0) x) ∧ Below r wo wq) (fun i _ => n + 1 - (intOf i).toNat)
        case atStart => exact ⟨0, Nat.zero_le _, rfl, by rw [rowTo_zero]; exact hro, hbr⟩
        case round =>
          obtain ⟨x, hx, rfl, hrx, hbq⟩ := hrel
          by_cases hxn : x < n + 1
          · have c0 := hrx.at_ x hxn
            have fr := hrx.free
            by_cases hxe : x = n
            · subst hxe
              have hF0 : tbl f x 0 x = 0 := by simp [tbl]
              have h9 := (hrx.set_ x (-1)).set_ x 0
              rw [upd_upd, ← hF0, ← rowTo_succ, hF0] at h9
              have H9 := hid h9; clear h9 hrx hF0
              go_wp2
              go_roundw
              case rel => exact ⟨x + 1, Nat.le_refl _, by go_num, H9.out, (hbq.setCell (Nat.le_refl _) _).setCell (Nat.le_refl _) _⟩
              case measure => simp [intOf] <;> omega
            · have hF0 : tbl f n 0 x = -1 := by simp [tbl, hxe]
              have h9 := hrx.set_ x (-1)
              rw [← hF0, ← rowTo_succ, hF0] at h9
              have H9 := hid h9; clear h9 hrx hF0
              have hxb : ((x : Int) == (n : Int)) = false := by simp; omega
              go_wp2
              go_roundw
              case rel => exact ⟨x + 1, by omega, by go_num, H9.out, hbq.setCell (Nat.le_refl _) _⟩
              case measure => simp [intOf]; omega
          · obtain rfl : x = n + 1 := (by omega)
            have hbq' : Below wo.heap.size wo wr := by rw [HR.out]; exact hbq
            have hbw := bvia hb hbq'
            have hzz := hbw.size
            obtain ⟨gs, g1, hrow, g3⟩ := HT.out.below hbq'
            have hrk : Ro wr r (n + 1) (tbl f n 0) := hrx.congr (fun j hj => by simp [rowTo, hj])
            have hlt2 := HT.out.own
            have G3 := hid g3; have HO := hid hlt2
            clear g3 hlt2 hrx
            go_wp2_with (at_builtin; refine wpList_append_own_at _ rfl _ _ 67 rfl (w.heap.size) 22 j0 (.slice none 0 0) 1 24 Try.underlying67 hj hy0 hy1 hy2 rfl (by decide) _ _ _ rfl (own_below hrow (below_alloc _ _)) ⟨wr.heap.size, 0, none⟩ 1 1 [.slice (some ⟨r, 0, none⟩) (n + 1) (n + 1)] rfl rfl (cell_one_new _ _ _) (by simp [Value.oneCell']) (by simp [maxLen] <;> omega) (by omega) (by simp; omega) ?_; intro v' w2 hown' hgrow _ hat)
            go_roundw
            case rel => exact ⟨0 + 1, by omega, by go_num, TB.push g1 (fun j hj => ⟨(G3.out j hj).1.alloc _, (G3.out j hj).2⟩) (hrk.alloc _) (by have := hb.size; have := HR.out; omega) (fun e => by have := HO.out _ e; have := HR.out; omega) hown' hgrow hat, ((hbw.alloc hbw.size _).grown hgrow (by have := hbw.size; simp; omega) (own_base hrow))⟩
            case measure => simp [intOf] <;> omega
      · skip
        obtain ⟨m, hm⟩ : ∃ m, k = m + 1 := ⟨k - 1, by omega⟩
        have hkz : ((k : Int) == 0) = false := by simp; omega
        obtain ⟨gv, cap, g, hvv, hgv, hcv, hRg⟩ := hT.look m (by omega)
        subst hvv
        have HKM := hid hm; clear hm
        go_loopw [8] (fun i wq => ∃ x : Nat, x ≤ n + 1 ∧ i = .int .i64 x ∧ Ro wq r (n + 1) (rowTo (tbl f n k) x) ∧ Below r wo wq) (fun i _ => n + 1 - (intOf i).toNat)
        case atStart => exact ⟨0, Nat.zero_le _, rfl, by rw [rowTo_zero]; exact hro, hbr⟩
        case round =>
          obtain ⟨x, hx, rfl, hrx, hbq⟩ := hrel
          by_cases hxn : x < n + 1
          · have c0 := hrx.at_ x hxn
            have fr := hrx.free
            have h9 := hrx.set_ x (-1)
            have H9 := hid h9; clear h9
            go_wp2
            have hbs := hbq.setCell (p := ⟨r, x, none⟩) (Nat.le_refl _) (.int .i64 (-1))
            clear c0 fr
            go_loopw [9, 10] (fun s i wq => ∃ c : Nat, x ≤ c ∧ c ≤ n + 1 ∧ i = .int .i64 c ∧ s = .int .i64 (sg f x (x + (c - x - 1))) ∧ Ro wq r (n + 1) (upd (rowTo (tbl f n k) x) x (bestTo f (tbl f n m) x (c - x))) ∧ Below r wo wq) (fun _ i _ => n + 1 - (intOf i).toNat)
            case atStart => exact ⟨x, Nat.le_refl _, by omega, rfl, by simp [sg_self], by rw [Nat.sub_self]; exact H9.out, hbs⟩
            case round =>
              clear hbs H9 hrx hbq
              obtain ⟨c, hxc, hcn, rfl, rfl, hrc, hbq⟩ := hrel
              by_cases hcl : c < n + 1
              · have hst := best_step f (tbl f n m) x c hxc
                have hbq' : Below wo.heap.size wo wr := by rw [HR.out]; exact hbq
                have tg : wr.cell? ⟨gv, k - 1, none⟩ = some (.slice (some ⟨g, 0, none⟩) (n + 1) (n + 1)) := by rw [show k - 1 = m from by have := HKM.out; omega]; exact (bcell hbq' _ _ hgv).trans hcv
                have tr := (hRg.below hbq').at_ c hcl
                have row := hrc.at_ x hxn
                rw [upd_at] at row
                have fr := hrc.free
                have hset := fun v => hrc.set_ x v
                simp only [upd_upd] at hset
                have s1 := sg_most v2 HF.out (show x ≤ x + (c - x - 1) by omega) (by omega)
                have s2 := sg_most v2 HF.out hxc (show c ≤ n by omega)
                have HL := H.below (bvia hb hbq')
                have hadd : x < c → sg f x (x + (c - x - 1)) + f (c - 1) = sg f x c := fun h => by
                  have e1 : x + (c - x - 1) = c - 1 := by omega
                  have e2 : c = c - 1 + 1 := by omega
                  rw [e1]
                  conv => rhs; rw [e2, sg_succ]
                have hadd2 : ¬ x < c → sg f x (x + (c - x - 1)) = sg f x c := fun h => by
                  have e1 : x + (c - x - 1) = c := by omega
                  rw [e1]
                have HRC := hid hrc; clear hrc
                generalize tbl f n m c = R at *
                generalize bestTo f (tbl f n m) x (c - x) = Bv at *
                generalize sg f x (x + (c - x - 1)) = S0 at *
                generalize hS : sg f x c = S at *
                have HS := hid hS; clear hS
                have HST := hid hst; clear hst
                have HSE := hid hset; clear hset
                by_cases hcx : x < c
                · have e := hadd hcx
                  clear hadd hadd2
                  obtain ⟨b, off, rfl, hbl, hcf⟩ := HL (c - 1) (by omega)
                  have f0 := HF.out (c - 1) (by omega)
                  generalize f (c - 1) = y at *
                  subst e
                  by_cases hR0 : R < 0
                  · have hz := HST.out
                    rw [if_pos hR0] at hz
                    have HZ := hid hz; clear hz
                    go_wp2
                    go_roundw
                    case rel => exact ⟨c + 1, by omega, by omega, by go_num, by rw [show x + (c + 1 - x - 1) = c from by omega, HS.out], by rw [HZ.out]; exact HRC.out, hbq⟩
                    case measure => simp [intOf] <;> omega
                  · by_cases hSR : S0 + y < R
                    · by_cases hB : Bv < 0
                      · skip
                        have hz := HST.out
                        rw [if_neg hR0] at hz
                        simp only [if_pos hSR] at hz
                        rw [if_pos (.inl hB)] at hz
                        have HZ := hid hz; clear hz
                        have hse := hid (HSE.out (R))
                        go_wp2
                        go_roundw
                        case rel => exact ⟨c + 1, by omega, by omega, by go_num, by rw [show x + (c + 1 - x - 1) = c from by omega, HS.out], by rw [HZ.out]; exact hse.out, hbq.setCell (Nat.le_refl _) _⟩
                        case measure => simp [intOf] <;> omega
                      · by_cases hP : R < Bv
                        · skip
                          have hz := HST.out
                          rw [if_neg hR0] at hz
                          simp only [if_pos hSR] at hz
                          rw [if_pos (.inr hP)] at hz
                          have HZ := hid hz; clear hz
                          have hse := hid (HSE.out (R))
                          go_wp2
                          go_roundw
                          case rel => exact ⟨c + 1, by omega, by omega, by go_num, by rw [show x + (c + 1 - x - 1) = c from by omega, HS.out], by rw [HZ.out]; exact hse.out, hbq.setCell (Nat.le_refl _) _⟩
                          case measure => simp [intOf] <;> omega
                        · have hz := HST.out
                          rw [if_neg hR0] at hz
                          simp only [if_pos hSR] at hz
                          rw [if_neg (by omega)] at hz
                          have HZ := hid hz; clear hz
                          go_wp2
                          go_roundw
                          case rel => exact ⟨c + 1, by omega, by omega, by go_num, by rw [show x + (c + 1 - x - 1) = c from by omega, HS.out], by rw [HZ.out]; exact HRC.out, hbq⟩
                          case measure => simp [intOf] <;> omega
                    · by_cases hB : Bv < 0
                      · have hz := HST.out
                        rw [if_neg hR0] at hz
                        simp only [if_neg hSR] at hz
                        rw [if_pos (.inl hB)] at hz
                        have HZ := hid hz; clear hz
                        have hse := hid (HSE.out (S0 + y))
                        go_wp2
                        go_roundw
                        case rel => exact ⟨c + 1, by omega, by omega, by go_num, by rw [show x + (c + 1 - x - 1) = c from by omega, HS.out], by rw [HZ.out]; exact hse.out, hbq.setCell (Nat.le_refl _) _⟩
                        case measure => simp [intOf] <;> omega
                      · by_cases hP : S0 + y < Bv
                        · have hz := HST.out
                          rw [if_neg hR0] at hz
                          simp only [if_neg hSR] at hz
                          rw [if_pos (.inr hP)] at hz
                          have HZ := hid hz; clear hz
                          have hse := hid (HSE.out (S0 + y))
                          go_wp2
                          go_roundw
                          case rel => exact ⟨c + 1, by omega, by omega, by go_num, by rw [show x + (c + 1 - x - 1) = c from by omega, HS.out], by rw [HZ.out]; exact hse.out, hbq.setCell (Nat.le_refl _) _⟩
                          case measure => simp [intOf] <;> omega
                        · have hz := HST.out
                          rw [if_neg hR0] at hz
                          simp only [if_neg hSR] at hz
                          rw [if_neg (by omega)] at hz
                          have HZ := hid hz; clear hz
                          go_wp2
                          go_roundw
                          case rel => exact ⟨c + 1, by omega, by omega, by go_num, by rw [show x + (c + 1 - x - 1) = c from by omega, HS.out], by rw [HZ.out]; exact HRC.out, hbq⟩
                          case measure => simp [intOf] <;> omega
                · have e := hadd2 hcx
                  clear hadd hadd2
                  subst e
                  by_cases hR0 : R < 0
                  · have hz := HST.out
                    rw [if_pos hR0] at hz
                    have HZ := hid hz; clear hz
                    go_wp2
                    go_roundw
                    case rel => exact ⟨c + 1, by omega, by omega, by go_num, by rw [show x + (c + 1 - x - 1) = c from by omega, HS.out], by rw [HZ.out]; exact HRC.out, hbq⟩
                    case measure => simp [intOf] <;> omega
                  · by_cases hSR : S0 < R
                    · by_cases hB : Bv < 0
                      · skip
                        have hz := HST.out
                        rw [if_neg hR0] at hz
                        simp only [if_pos hSR] at hz
                        rw [if_pos (.inl hB)] at hz
                        have HZ := hid hz; clear hz
                        have hse := hid (HSE.out (R))
                        go_wp2
                        go_roundw
                        case rel => exact ⟨c + 1, by omega, by omega, by go_num, by rw [show x + (c + 1 - x - 1) = c from by omega, HS.out], by rw [HZ.out]; exact hse.out, hbq.setCell (Nat.le_refl _) _⟩
                        case measure => simp [intOf] <;> omega
                      · by_cases hP : R < Bv
                        · skip
                          have hz := HST.out
                          rw [if_neg hR0] at hz
                          simp only [if_pos hSR] at hz
                          rw [if_pos (.inr hP)] at hz
                          have HZ := hid hz; clear hz
                          have hse := hid (HSE.out (R))
                          go_wp2
                          go_roundw
                          case rel => exact ⟨c + 1, by omega, by omega, by go_num, by rw [show x + (c + 1 - x - 1) = c from by omega, HS.out], by rw [HZ.out]; exact hse.out, hbq.setCell (Nat.le_refl _) _⟩
                          case measure => simp [intOf] <;> omega
                        · have hz := HST.out
                          rw [if_neg hR0] at hz
                          simp only [if_pos hSR] at hz
                          rw [if_neg (by omega)] at hz
                          have HZ := hid hz; clear hz
                          go_wp2
                          go_roundw
                          case rel => exact ⟨c + 1, by omega, by omega, by go_num, by rw [show x + (c + 1 - x - 1) = c from by omega, HS.out], by rw [HZ.out]; exact HRC.out, hbq⟩
                          case measure => simp [intOf] <;> omega
                    · by_cases hB : Bv < 0
                      · have hz := HST.out
                        rw [if_neg hR0] at hz
                        simp only [if_neg hSR] at hz
                        rw [if_pos (.inl hB)] at hz
                        have HZ := hid hz; clear hz
                        have hse := hid (HSE.out (S0))
                        go_wp2
                        go_roundw
                        case rel => exact ⟨c + 1, by omega, by omega, by go_num, by rw [show x + (c + 1 - x - 1) = c from by omega, HS.out], by rw [HZ.out]; exact hse.out, hbq.setCell (Nat.le_refl _) _⟩
                        case measure => simp [intOf] <;> omega
                      · by_cases hP : S0 < Bv
                        · have hz := HST.out
                          rw [if_neg hR0] at hz
                          simp only [if_neg hSR] at hz
                          rw [if_pos (.inr hP)] at hz
                          have HZ := hid hz; clear hz
                          have hse := hid (HSE.out (S0))
                          go_wp2
                          go_roundw
                          case rel => exact ⟨c + 1, by omega, by omega, by go_num, by rw [show x + (c + 1 - x - 1) = c from by omega, HS.out], by rw [HZ.out]; exact hse.out, hbq.setCell (Nat.le_refl _) _⟩
                          case measure => simp [intOf] <;> omega
                        · have hz := HST.out
                          rw [if_neg hR0] at hz
                          simp only [if_neg hSR] at hz
                          rw [if_neg (by omega)] at hz
                          have HZ := hid hz; clear hz
                          go_wp2
                          go_roundw
                          case rel => exact ⟨c + 1, by omega, by omega, by go_num, by rw [show x + (c + 1 - x - 1) = c from by omega, HS.out], by rw [HZ.out]; exact HRC.out, hbq⟩
                          case measure => simp [intOf] <;> omega
              · obtain rfl : c = n + 1 := (by omega)
                have hFx : tbl f n k x = bestTo f (tbl f n m) x (n + 1 - x) := by rw [HKM.out]; rfl
                rw [← hFx, ← rowTo_succ] at hrc
                go_wp2
                go_roundw
                case rel => exact ⟨x + 1, by omega, by go_num, hrc, hbq⟩
                case measure => simp [intOf] <;> omega
          · obtain rfl : x = n + 1 := (by omega)
            have hbq' : Below wo.heap.size wo wr := by rw [HR.out]; exact hbq
            have hbw := bvia hb hbq'
            have hzz := hbw.size
            obtain ⟨gs, g1, hrow, g3⟩ := HT.out.below hbq'
            have hrk : Ro wr r (n + 1) (tbl f n k) := hrx.congr (fun j hj => by simp [rowTo, hj])
            have hlt2 := HT.out.own
            have G3 := hid g3; have HO := hid hlt2
            clear g3 hlt2 hrx
            go_wp2_with (at_builtin; refine wpList_append_own_at _ rfl _ _ 67 rfl (w.heap.size) 22 j0 (.slice none 0 0) 1 24 Try.underlying67 hj hy0 hy1 hy2 rfl (by decide) _ _ _ rfl (own_below hrow (below_alloc _ _)) ⟨wr.heap.size, 0, none⟩ 1 1 [.slice (some ⟨r, 0, none⟩) (n + 1) (n + 1)] rfl rfl (cell_one_new _ _ _) (by simp [Value.oneCell']) (by simp [maxLen] <;> omega) (by omega) (by simp; omega) ?_; intro v' w2 hown' hgrow _ hat)
            go_roundw
            case rel => exact ⟨k + 1, by omega, by go_num, TB.push g1 (fun j hj => ⟨(G3.out j hj).1.alloc _, (G3.out j hj).2⟩) (hrk.alloc _) (by have := hb.size; have := HR.out; omega) (fun e => by have := HO.out _ e; have := HR.out; omega) hown' hgrow hat, ((hbw.alloc hbw.size _).grown hgrow (by have := hbw.size; simp; omega) (own_base hrow))⟩
            case measure => simp [intOf] <;> omega
    · obtain rfl : k = K + 1 := (by omega)
      go_wp2
      go_ret
      exact ⟨_, rfl, HT.out, hb⟩
end Go.Proofs.Ytgpcmkoimgnlbaa
