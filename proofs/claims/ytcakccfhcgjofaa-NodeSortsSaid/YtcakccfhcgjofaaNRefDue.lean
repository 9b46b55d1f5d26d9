/- Walk: the notes that are due, of the reference. -/
import Derived.Test.YtcakccfhcgjofaaNNotes
import Derived.Test.YtcakccfhcgjofaaNOwn
namespace Go.Proofs.Ytcakccfhcgjofaa
open Go Go.RowKit
set_option linter.unusedVariables false
set_option maxRecDepth 100000 in
set_option maxHeartbeats 4000000 in
theorem ref5_due (Wd Hd : Nat) (a ao : Option Addr) (n c no co : Nat) (o : Nat → Int) (nd st : Int) (w : World) (h1 : 1 ≤ Wd ∧ Wd ≤ 64) (h2 : 1 ≤ Hd ∧ Hd ≤ 64) (hno : no = Wd * Hd) (HO : Sl w ao no o) :
    Calls Try.prog 51 #[.agg #[.int .i64 (Wd : Int), .int .i64 (Hd : Int), .slice a n c], .slice ao no co, .int .i64 nd, .int .i64 st] w
      fun e w' => ∃ v, e = .returned v ∧ OwnN w' w.heap.size v (dueL Wd Hd o nd st no) ∧ Below w.heap.size w w' := by
  obtain ⟨i0, hi, hz0, hz1, hz2⟩ := info_parts infoN
  have hno4 : no ≤ 4096 := by
    have : Wd * Hd ≤ 64 * 64 := Nat.mul_le_mul h1.2 h2.2
    omega
  have HNO := hid hno; clear hno
  have HO1 := HO.alloc (.cells #[.int .i64 (Wd : Int), .int .i64 (Hd : Int), .slice a n c] 24)
  have X := Bx.new w #[.int .i64 (Wd : Int), .int .i64 (Hd : Int), .slice a n c] 24
  go_enter Try.func51, Try.ntmps51
  go_wp2
  go_loopw [9, 10] (fun v i wr => ∃ k : Nat, k ≤ no ∧ i = .int .i64 k ∧ OwnN wr (w.heap.size + 1) v (dueL Wd Hd o nd st k) ∧ Below (w.heap.size + 1) (w.alloc (.cells #[.int .i64 (Wd : Int), .int .i64 (Hd : Int), .slice a n c] 24)) wr) (fun _ i _ => no - (intOf i).toNat)
  case atStart => exact ⟨0, Nat.zero_le _, rfl, ownN_nil _ _, Below.refl _ _⟩
  case round =>
    obtain ⟨wo, rfl⟩ : ∃ wo : World, wo = wr := ⟨_, rfl⟩
    obtain ⟨k, hk, rfl, hown, hb⟩ := hrel
    have J := HO1.below (by simpa using hb)
    have hbs := hb.size
    rw [World.size_alloc] at hbs
    by_cases hlt : k < no
    · obtain ⟨b1, o1, rfl, hb1, c1⟩ := J k hlt
      cases he : (o k != nd)
      · have he' : o k = nd := by simpa using he
        have hT : dueL Wd Hd o nd st (k + 1) = dueL Wd Hd o nd st k ++ dueC Wd Hd o nd st k 4 := by simp only [dueL, if_pos he']
        have HT := hid hT
        clear he' hT
        have hdl := dueL_length Wd Hd o nd st k
        go_wp2
        clear c1 J hb1
        go_loopw [9, 11] (fun v di wr => ∃ d : Nat, d ≤ 4 ∧ di = .int .i64 d ∧ OwnN wr (w.heap.size + 1) v (dueL Wd Hd o nd st k ++ dueC Wd Hd o nd st k d) ∧ Below (w.heap.size + 1) (w.alloc (.cells #[.int .i64 (Wd : Int), .int .i64 (Hd : Int), .slice a n c] 24)) wr) (fun _ di _ => 4 - (intOf di).toNat)
        case atStart => exact ⟨0, Nat.zero_le _, rfl, by simpa [dueC] using hown, hb⟩
        case round =>
          clear hown hb hbs
          obtain ⟨d, hd, rfl, hown, hb⟩ := hrel
          have hbs := hb.size
          rw [World.size_alloc] at hbs
          by_cases hd4 : d < 4
          · have hnb := nbT_lt (W := Wd) (H := Hd) (i := k) (by rw [← HNO.out]; exact hlt) hd4
            rw [← HNO.out] at hnb
            have hcf := ref2_From Wd Hd k d wr h1 h2 (by rw [← HNO.out]; exact hlt) hd4
            have hCs : dueC Wd Hd o nd st k (d + 1) = if o (nbT Wd Hd k d) = nd then dueC Wd Hd o nd st k d else dueC Wd Hd o nd st k d ++ [⟨st, o (nbT Wd Hd k d), nd, k, d, 0⟩] := rfl
            have HCS := hid hCs; clear hCs
            have hcl := dueC_length Wd Hd o nd st k d
            have Xw := X.below (by simpa using hb)
            have x0 := Xw.at_ 0 rfl; have x1 := Xw.at_ 1 rfl; have lx := Xw.lt
            generalize nbT Wd Hd k d = m at *
            obtain ⟨b2, o2, e2, hb2, co0⟩ := (HO1.below (w' := wr) (by simpa using hb)) m hnb
            injection e2 with e2; injection e2 with e2 e3 _
            subst e2 e3
            go_wp2_with fail
            refine hcf.mono ?_
            rintro e w8 ⟨rfl, hb8⟩
            have co8 := (bcell hb8 _ _ hb2).trans co0
            have hb9 : Below (w.heap.size + 1) (w.alloc (.cells #[.int .i64 (Wd : Int), .int .i64 (Hd : Int), .slice a n c] 24)) w8 := hb.trans (hb8.mono hbs)
            have hown8 : w8.ownsRow (w.heap.size + 1) 41 6 _ _ _ := own_below hown hb8
            have hs8 := hb8.size
            have lb8 : b1 < w8.heap.size := by omega
            clear hcf x0 x1 co0
            obtain ⟨om, hom⟩ : ∃ x, x = o m := ⟨_, rfl⟩
            rw [← hom] at co8
            have HOM := hid hom; clear hom
            cases hq : (om != nd)
            · have hq' : om = nd := by simpa using hq
              have HQ := hid hq'; clear hq'
              go_wp2_with fail
              go_roundw
              case rel => exact ⟨d + 1, by omega, by go_num, by rw [HCS.out, ← HOM.out, if_pos HQ.out]; exact hown8, hb9⟩
              case measure => simp [intOf]; omega
            · have hq' : ¬ om = nd := by simpa using hq
              have HQ := hid hq'; clear hq'
              go_wp2_with (at_builtin; refine wpList_append_own _ rfl _ _ 35 rfl (w.heap.size + 1) 41 i0 _ 6 48 Try.underlying35 hi hz0 hz1 hz2 rfl (by decide) _ _ _ rfl (hown8.alloc _) ⟨w8.heap.size, 0, none⟩ 1 1 (N6.list ⟨st, om, nd, k, d, 0⟩) rfl rfl (cells_new _ _ _) (n6_one _) (by simp [maxLen]; omega) (by simp; omega) (by simp; omega) ?_; intro v' w9 hown' hgrow _)
              go_roundw
              case rel => exact ⟨d + 1, by omega, by go_num, by rw [HCS.out, ← HOM.out, if_neg HQ.out, ← List.append_assoc]; exact ownN_snoc hown', (hb9.alloc (by omega) _).grown hgrow (by simp; omega) (own_base hown8)⟩
              case measure => simp [intOf]; omega
          · obtain rfl : d = 4 := (by omega)
            go_wp2
            go_roundw
            case rel => exact ⟨k + 1, by omega, by go_num, by rw [HT.out]; exact hown, hb⟩
            case measure => simp [intOf]; omega
      · have he' : ¬ o k = nd := by simpa using he
        have hT : dueL Wd Hd o nd st (k + 1) = dueL Wd Hd o nd st k := by simp only [dueL, if_neg he']
        have HT := hid hT
        clear he' hT
        go_wp2
        go_roundw
        case rel => exact ⟨k + 1, by omega, by go_num, by rw [HT.out]; exact hown, hb⟩
        case measure => simp [intOf]; omega
    · obtain rfl : k = no := (by omega)
      go_wp2
      go_ret
      exact ⟨_, rfl, own_mono hown (by omega), (below_alloc w _).trans (hb.mono (by omega))⟩
end Go.Proofs.Ytcakccfhcgjofaa
