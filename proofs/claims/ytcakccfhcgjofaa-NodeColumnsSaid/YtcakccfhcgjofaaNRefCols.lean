/- Walk: the map of columns, of the reference. -/
import Derived.Test.YtcakccfhcgjofaaNCols
namespace Go.Proofs.Ytcakccfhcgjofaa
open Go Go.RowKit
set_option linter.unusedVariables false
theorem ref5_within_b {n lo hi : Int} {b : Bool} (h : within n lo hi = b) (w : World) : Calls Try.prog 44 #[.int .i64 n, .int .i64 lo, .int .i64 hi] w fun e w' => e = .returned (.bool b) ∧ w = w' := h ▸ ref5_within n lo hi w
set_option maxRecDepth 100000 in
set_option maxHeartbeats 4000000 in
theorem ref5_Columns (wide high : Int) (a ac : Option Addr) (n m c cc : Nat) (g : Nat → C4) (f : Nat → Int) (w : World) (hn : n ≤ 100000000) (hm : m ≤ 100000000) (H : Sc w a n g) (HC : Sl w ac m f) :
    Calls Try.prog 12 #[.agg #[.int .i64 wide, .int .i64 high, .slice a n c], .slice ac m cc] w (ListPost (colsL wide high n g m f) (colsE wide high n g m f) w) := by
  obtain ⟨i0, hi, hz0, hz1, hz2⟩ := info_parts infoI
  have I := H.alloc (.cells #[.int .i64 wide, .int .i64 high, .slice a n c] 24)
  have X := Bx.new w #[.int .i64 wide, .int .i64 high, .slice a n c] 24
  cases hv : validG wide high n g
  · have HV := hid hv
    go_enter Try.func12, Try.ntmps12
    go_wp2_with (go_at_call 43; refine (ref2_valid wide high _ n _ g _ hn I).mono ?_; rintro e w1 ⟨rfl, hb1⟩; rw [hv])
    go_ret2
    exact listPost_nil' (by simp [colsL, HV.out]) (by simp [colsE, HV.out]) (bvia (by (repeat' (first | with_reducible assumption | with_reducible exact Below.refl _ _ | with_reducible refine Below.drew ?_ | with_reducible refine below_drewN ?_ _ | with_reducible refine balloc ?_ _ | with_reducible refine bset ?_ ?_ _ | with_reducible refine Below.setCell ?_ ?_ _ | with_reducible refine Below.alloc ?_ ?_ _ | omega | (simp; done) | (simp; omega)))) hb1)
  · have HV := hid hv
    obtain ⟨Wd, rfl, p1, p2, hn4, hn1⟩ := validG_sides' hv
    by_cases h7 : m ≤ 7
    rotate_left
    · go_enter Try.func12, Try.ntmps12
      go_wp2_with (go_at_call 43; refine (ref2_valid _ high _ n _ g _ hn I).mono ?_; rintro e w1 ⟨rfl, hb1⟩; rw [hv])
      go_ret2
      have hB1 : Below w.heap.size w w1 := bvia (by (repeat' (first | with_reducible assumption | with_reducible exact Below.refl _ _ | with_reducible refine Below.drew ?_ | with_reducible refine below_drewN ?_ _ | with_reducible refine balloc ?_ _ | with_reducible refine bset ?_ ?_ _ | with_reducible refine Below.setCell ?_ ?_ _ | with_reducible refine Below.alloc ?_ ?_ _ | omega | (simp; done) | (simp; omega)))) hb1
      have hno : cutsB (Wd : Int) m f = false := cutsB_no' (fun h => h7 h.1)
      refine listPost_nil' ?_ ?_ ?_
      · simp [colsL, HV.out, hno]
      · simp [colsE, HV.out, hno]
      · exact hB1
    go_enter Try.func12, Try.ntmps12
    go_wp2_with fail
    refine (ref2_valid _ high _ n _ g _ hn I).mono ?_
    rintro e w1 ⟨rfl, hb1⟩
    rw [hv]
    clear hv
    have hB1 : Below w.heap.size w w1 := bvia (by (repeat' (first | with_reducible assumption | with_reducible exact Below.refl _ _ | with_reducible refine Below.drew ?_ | with_reducible refine below_drewN ?_ _ | with_reducible refine balloc ?_ _ | with_reducible refine bset ?_ ?_ _ | with_reducible refine Below.setCell ?_ ?_ _ | with_reducible refine Below.alloc ?_ ?_ _ | omega | (simp; done) | (simp; omega)))) hb1
    have X1 := X.below hb1
    clear hb1 I X
    go_wp2_with fail
    go_loopw [6] (fun i wr => ∃ k : Nat, k ≤ m ∧ i = .int .i64 k ∧ (∀ j, j < k → cutOk Wd f j) ∧ Below w.heap.size w wr ∧ Bx wr w.heap.size #[.int .i64 Wd, .int .i64 high, .slice a n c]) (fun i _ => m - (intOf i).toNat)
    case atStart => exact ⟨0, Nat.zero_le _, rfl, fun j hj => by omega, hB1, X1⟩
    case round =>
      clear hB1 X1
      obtain ⟨k, hk, rfl, hok, hB1, X1⟩ := hrel
      have HOK := hid hok; clear hok
      have J := HC.below hB1
      have x0 := X1.at_ 0 rfl; have x1 := X1.at_ 1 rfl; have x2 := X1.at_ 2 rfl; have lx := X1.lt
      by_cases hlt : k < m
      · obtain ⟨b1, o1, rfl, hb1, c1⟩ := J k hlt
        have hwr : IntKind.i64.wrap ((Wd : Int) - 1) = (Wd : Int) - 1 := IntWalk.i64_in _ (by omega)
        cases hw : within (f k) 1 ((Wd : Int) - 1)
        · go_wp2
          go_quiet ((go_at_call 44; exact quiet_left (ref5_within_b hw _)))
          go_wp2
          go_ret2
          have hno : cutsB (Wd : Int) m f = false := cutsB_no' (fun h => by have := h.2 k hlt; rw [within_no] at hw; exact hw ⟨this.1, this.2.1⟩)
          refine listPost_nil' ?_ ?_ ?_
          · simp [colsL, HV.out, hno]
          · simp [colsE, HV.out, hno]
          · (repeat' (first | with_reducible assumption | with_reducible exact Below.refl _ _ | with_reducible refine Below.drew ?_ | with_reducible refine below_drewN ?_ _ | with_reducible refine balloc ?_ _ | with_reducible refine bset ?_ ?_ _ | with_reducible refine Below.setCell ?_ ?_ _ | with_reducible refine Below.alloc ?_ ?_ _ | omega | (simp; done) | (simp; omega)))
        · obtain ⟨q1, q2⟩ := (within_iff _ _ _).1 hw
          by_cases hk0 : k = 0
          · subst hk0
            rw [Nat.add_zero] at c1
            go_wp2
            go_quiet ((go_at_call 44; exact quiet_left (ref5_within_b hw _)))
            go_wp2
            go_roundw
            case rel => exact ⟨0 + 1, by omega, by go_num, fun j hj => by
              obtain rfl : j = 0 := by omega
              exact ⟨q1, q2, fun h => by omega⟩, by (repeat' (first | with_reducible assumption | with_reducible exact Below.refl _ _ | with_reducible refine Below.drew ?_ | with_reducible refine below_drewN ?_ _ | with_reducible refine balloc ?_ _ | with_reducible refine bset ?_ ?_ _ | with_reducible refine Below.setCell ?_ ?_ _ | with_reducible refine Below.alloc ?_ ?_ _ | omega | (simp; done) | (simp; omega))), X1.drewN _⟩
            case measure => simp [intOf]; omega
          · have hkp : 0 < k := by omega
            have hkp' : decide (0 < (k : Int)) = true := by simp; omega
            have hwk : IntKind.i64.wrap ((k : Int) - 1) = (k : Int) - 1 := IntWalk.i64_in _ (by omega)
            have hnat : ((k : Int) - 1).toNat = k - 1 := by omega
            have hk10 : 0 ≤ (k : Int) - 1 := by omega
            have hk11 : (k : Int) - 1 < m := by omega
            obtain ⟨b2, o2, e2, _, c2⟩ := J (k - 1) (by omega)
            injection e2 with e2; injection e2 with e2 e3 _
            subst e2 e3
            cases hle : decide (f k ≤ f (k - 1))
            · have hnle : f (k - 1) < f k := by simpa using hle
              have HNL := hid hnle; clear hnle
              go_wp2
              go_quiet ((go_at_call 44; exact quiet_left (ref5_within_b hw _)))
              clear hwk hnat hwr
              go_wp2
              go_roundw
              case rel => exact ⟨k + 1, by omega, by go_num, fun j hj => by
                rcases Nat.lt_succ_iff_lt_or_eq.1 hj with h' | rfl
                · exact HOK.out j h'
                · exact ⟨q1, q2, fun _ => HNL.out⟩, by (repeat' (first | with_reducible assumption | with_reducible exact Below.refl _ _ | with_reducible refine Below.drew ?_ | with_reducible refine below_drewN ?_ _ | with_reducible refine balloc ?_ _ | with_reducible refine bset ?_ ?_ _ | with_reducible refine Below.setCell ?_ ?_ _ | with_reducible refine Below.alloc ?_ ?_ _ | omega | (simp; done) | (simp; omega))), X1.drewN _⟩
              case measure => simp [intOf]; omega
            · have hnle : ¬ f (k - 1) < f k := by simp at hle; omega
              have HNL := hid hnle; clear hnle
              go_wp2
              go_quiet ((go_at_call 44; exact quiet_left (ref5_within_b hw _)))
              clear hwk hnat hwr
              go_wp2
              go_ret2
              have hno : cutsB (Wd : Int) m f = false := cutsB_no' (fun h => by have h1 := HNL.out; have h2 := (h.2 k hlt).2.2 hkp; omega)
              refine listPost_nil' ?_ ?_ ?_
              · simp [colsL, HV.out, hno]
              · simp [colsE, HV.out, hno]
              · (repeat' (first | with_reducible assumption | with_reducible exact Below.refl _ _ | with_reducible refine Below.drew ?_ | with_reducible refine below_drewN ?_ _ | with_reducible refine balloc ?_ _ | with_reducible refine bset ?_ ?_ _ | with_reducible refine Below.setCell ?_ ?_ _ | with_reducible refine Below.alloc ?_ ?_ _ | omega | (simp; done) | (simp; omega)))
      · obtain rfl : k = m := (by omega)
        clear hlt
        have hcu : cutsB Wd k f = true := (cutsB_iff _ _ _).2 ⟨h7, HOK.out⟩
        have HCU := hid hcu; clear hcu
        go_wp2_with fail
        go_loopw [7, 8] (fun v i wr => ∃ i' : Nat, i' ≤ n ∧ i = .int .i64 i' ∧ wr.ownsRow (w.heap.size + 1) 3 1 v (colL Wd f k i').length ((colL Wd f k i').map vInt) ∧ Below w.heap.size w wr ∧ Bx wr w.heap.size #[.int .i64 Wd, .int .i64 high, .slice a n c]) (fun _ i _ => n - (intOf i).toNat)
        case atStart => exact ⟨0, Nat.zero_le _, rfl, World.ownsRow_nil .., hB1, X1⟩
        case round =>
          obtain ⟨m', hm'⟩ : ∃ m', m' = k := ⟨_, rfl⟩
          subst hm'
          clear X1 hB1 x0 x1 x2 lx J
          obtain ⟨k, hk', rfl, hown, hB, X1⟩ := hrel
          have lx := X1.lt
          have x2 := X1.at_ 2 rfl
          by_cases hlt : k < n
          · have hcl := colL_length Wd f m' k
            have hcs : colL Wd f m' (k + 1) = colL Wd f m' k ++ [(colC Wd f k m' : Int)] := rfl
            have HCS := hid hcs; clear hcs
            have hw0 : ¬ (Wd : Int) = 0 := by omega
            go_wp2_with fail
            clear x2
            go_loopw [9, 10] (fun t ji wr => ∃ j : Nat, j ≤ m' ∧ ji = .int .i64 j ∧ t = .int .i64 (colC Wd f k j : Nat) ∧ wr.ownsRow (w.heap.size + 1) 3 1 u7 (colL Wd f m' k).length ((colL Wd f m' k).map vInt) ∧ Below w.heap.size w wr ∧ Bx wr w.heap.size #[.int .i64 Wd, .int .i64 high, .slice a n c]) (fun _ ji _ => m' - (intOf ji).toNat)
            case atStart => exact ⟨0, Nat.zero_le _, rfl, rfl, hown, hB, X1⟩
            case round =>
              clear hown hB X1
              obtain ⟨j, hj, rfl, rfl, hown, hB, X1⟩ := hrel
              have J := HC.below hB
              have x0 := X1.at_ 0 rfl
              have lx := X1.lt
              have hcb := colC_le Wd f k j
              by_cases hjl : j < m'
              · obtain ⟨b3, o3, rfl, hb3, c3⟩ := J j hjl
                have htm : (k : Int).tmod (Wd : Int) = (k : Int) % (Wd : Int) := Int.tmod_eq_emod_of_nonneg (by omega)
                cases hge : decide (f j ≤ (k : Int) % (Wd : Int))
                · have hcs : colC Wd f k (j + 1) = colC Wd f k j := by simp only [colC]; rw [if_neg (by simpa using hge)]; rfl
                  have HCS := hid hcs; clear hcs
                  go_wp2
                  go_quiet (fail)
                  go_wp2
                  go_roundw
                  case rel => exact ⟨j + 1, by omega, by go_num, by rw [HCS.out], hown, by (repeat' (first | with_reducible assumption | with_reducible exact Below.refl _ _ | with_reducible refine Below.drew ?_ | with_reducible refine below_drewN ?_ _ | with_reducible refine balloc ?_ _ | with_reducible refine bset ?_ ?_ _ | with_reducible refine Below.setCell ?_ ?_ _ | with_reducible refine Below.alloc ?_ ?_ _ | omega | (simp; done) | (simp; omega))), X1.drewN _⟩
                  case measure => simp [intOf]; omega
                · have hcs : colC Wd f k (j + 1) = colC Wd f k j + 1 := by simp only [colC]; rw [if_pos (by simpa using hge)]
                  have HCS := hid hcs; clear hcs
                  go_wp2
                  go_quiet (fail)
                  go_wp2
                  go_roundw
                  case rel => exact ⟨j + 1, by omega, by go_num, by rw [HCS.out]; go_num, hown, by (repeat' (first | with_reducible assumption | with_reducible exact Below.refl _ _ | with_reducible refine Below.drew ?_ | with_reducible refine below_drewN ?_ _ | with_reducible refine balloc ?_ _ | with_reducible refine bset ?_ ?_ _ | with_reducible refine Below.setCell ?_ ?_ _ | with_reducible refine Below.alloc ?_ ?_ _ | omega | (simp; done) | (simp; omega))), X1.drewN _⟩
                  case measure => simp [intOf]; omega
              · obtain rfl : j = m' := (by omega)
                go_wp2_with (at_builtin; refine wpList_append_own _ rfl _ _ 25 rfl (w.heap.size + 1) 3 i0 (.int .i64 0) 1 8 Try.underlying25 hi hz0 hz1 hz2 rfl (by decide) _ _ _ rfl (hown.alloc _) ⟨wr.heap.size, 0, none⟩ 1 1 [.int .i64 (colC Wd f k j : Nat)] rfl rfl (cell_one_new _ _ _) (by simp [Value.oneCell']) (by simp [maxLen]; omega) (by omega) (by simp; omega) ?_; intro v' w1 hown' hgrow _)
                go_roundw
                case rel => exact ⟨k + 1, by omega, by go_num, by rw [HCS.out]; exact own_snoc hown', (hB.alloc hB.size _).grown hgrow (by have := hB.size; simp; omega) (fun g hg => by have := own_base hown g hg; omega), (X1.alloc _).grown hgrow (fun e => by have := own_base hown _ e.symm; omega)⟩
                case measure => simp [intOf]; omega
          · obtain rfl : k = n := (by omega)
            go_wp2
            go_ret2
            have e1 : colsL Wd high k g m' f = colL Wd f m' k := by simp [colsL, HV.out, HCU.out]
            have e2 : colsE Wd high k g m' f = 0 := by simp [colsE, HV.out, HCU.out]
            rw [e1, e2]
            exact listPost_own hown hB
end Go.Proofs.Ytcakccfhcgjofaa
