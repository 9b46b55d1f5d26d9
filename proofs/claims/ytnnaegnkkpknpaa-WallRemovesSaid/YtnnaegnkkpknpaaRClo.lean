/- Walks: the reference's Closed. -/
import Derived.Test.YtnnaegnkkpknpaaWClo
import Derived.Deep.LoopGhost
namespace Go.Proofs.Ytnnaegnkkpknpaa
open Go Go.RowKit Go.Maps
attribute [local go_sem ↓] Go.wp_at_zero Go.wp_at_succ
set_option linter.unusedVariables false
/-- place j is in S if it is open and its neighbour is -/
def Sh (K : Nat → Int) (W H : Nat) (S : Nat → Bool) (j e : Nat) : Prop := K j = 0 → S (nbT W H j e) = true → S j = true
structure ClI (K : Nat → Int) (W H p n : Nat) (S0 : Nat → Bool) (k d : Nat) (S : Nat → Bool) (gb : Bool) : Prop where
  at_ : S p = true
  rch : ∀ j, S j = true → Rch K W H p j
  still : gb = false → S = S0 ∧ (∀ j e, j < k → e < 4 → Sh K W H S0 j e) ∧ ∀ e, e < d → Sh K W H S0 k e
  less : gb = true → cntO (fun _ => 0) S n < cntO (fun _ => 0) S0 n
theorem ClI.put {K : Nat → Int} {W H p n k d : Nat} {S0 S : Nat → Bool} {gb : Bool} (h : ClI K W H p n S0 k d S gb) (hk : K k = 0) (hs : S k = false) (hn : S (nbT W H k d) = true) (hd : d < 4) (hkn : k < n) (hW : n = W * H) : ClI K W H p n S0 k (d + 1) (putM S k) true := by
  have hc := cntO_put (K := fun _ => 0) rfl hs n hkn
  refine ⟨?_, fun j hj => ?_, fun h' => (by cases h'), fun _ => ?_⟩
  · unfold putM; split
    · rfl
    · exact h.at_
  · unfold putM at hj
    split at hj
    · rename_i e; subst e
      obtain ⟨d', hd', e⟩ := nbT_back (hW ▸ hkn) hd
      have h2 := (h.rch _ hn).step hd' (by rw [e]; exact hk)
      rwa [e] at h2
    · exact h.rch j hj
  · cases hg : gb
    · obtain ⟨rfl, _, _⟩ := h.still hg; omega
    · have := h.less hg; omega
theorem ClI.skip {K : Nat → Int} {W H p n k d : Nat} {S0 S : Nat → Bool} {gb : Bool} (h : ClI K W H p n S0 k d S gb) (hs : Sh K W H S k d) : ClI K W H p n S0 k (d + 1) S gb :=
  ⟨h.at_, h.rch, fun hg => by
    obtain ⟨e1, e2, e3⟩ := h.still hg
    refine ⟨e1, e2, fun e he => ?_⟩
    rcases Nat.lt_succ_iff_lt_or_eq.1 he with h' | rfl
    · exact e3 e h'
    · rw [← e1]; exact hs, h.less⟩
theorem ClI.next {K : Nat → Int} {W H p n k : Nat} {S0 S : Nat → Bool} {gb : Bool} (h : ClI K W H p n S0 k 4 S gb) : ClI K W H p n S0 (k + 1) 0 S gb :=
  ⟨h.at_, h.rch, fun hg => by
    obtain ⟨e1, e2, e3⟩ := h.still hg
    refine ⟨e1, fun j e hj he => ?_, fun e he => by omega⟩
    rcases Nat.lt_succ_iff_lt_or_eq.1 hj with h' | rfl
    · exact e2 j e h' he
    · exact e3 e he, h.less⟩
/-- between two rounds of the outer loop -/
structure ClO (K : Nat → Int) (W H p n m : Nat) (S : Nat → Bool) (gb : Bool) : Prop where
  at_ : S p = true
  rch : ∀ j, S j = true → Rch K W H p j
  cnt : cntO (fun _ => 0) S n + (if gb then 1 else 0) ≤ m
  shut : gb = false → ∀ j e, j < n → e < 4 → Sh K W H S j e
theorem ClO.begin {K : Nat → Int} {W H p n m : Nat} {S : Nat → Bool} {gb : Bool} (h : ClO K W H p n m S gb) : ClI K W H p n S 0 0 S false :=
  ⟨h.at_, h.rch, fun _ => ⟨rfl, fun j e hj => by omega, fun e he => by omega⟩, fun h' => (by cases h')⟩
theorem ClI.done {K : Nat → Int} {W H p n m : Nat} {S0 S : Nat → Bool} {gb : Bool} (h : ClI K W H p n S0 n 0 S gb) (h0 : ClO K W H p n m S0 true) : 0 < m ∧ ClO K W H p n (m - 1) S gb := by
  have h1 := h0.cnt
  simp only [if_true] at h1
  refine ⟨by omega, h.at_, h.rch, ?_, fun hg => ?_⟩
  · cases hg : gb
    · obtain ⟨rfl, _⟩ := h.still hg; simp; omega
    · have := h.less hg; simp; omega
  · obtain ⟨rfl, h2, _⟩ := h.still hg; exact h2
theorem ClO.all {K : Nat → Int} {W H p n m : Nat} {S : Nat → Bool} (h : ClO K W H p n m S false) (hp : p < n) (hW : n = W * H) : ∀ j, S j = true ↔ Rch K W H p j := fun j => by
  refine ⟨h.rch j, fun hr => hr.of_closed h.at_ fun i d hi hd hk => ?_⟩
  have hin : i < W * H := (h.rch i hi).lt (hW ▸ hp)
  have hm := nbT_lt hin hd
  obtain ⟨d', hd', e⟩ := nbT_back hin hd
  exact h.shut rfl _ d' (hW ▸ hm) hd' hk (by rw [e]; exact hi)
set_option maxRecDepth 100000 in
set_option maxHeartbeats 8000000 in
theorem ref3_Closed (wide high : Int) (p : Int × Int) (a ak ab : Option Addr) (n nk nb c ck cb : Nat) (g : Nat → C4) (K B : Nat → Int) (w : World) (hn : n ≤ 100000) (hnk : nk ≤ 100000) (hnb : nb ≤ 100000) (H : Sc w a n g) (HK : Sl w ak nk K) (HB : Sl w ab nb B) :
    Calls Try.prog 44 #[.agg #[.int .i64 wide, .int .i64 high, .slice a n c], .agg #[.slice ak nk ck, .slice ab nb cb], .agg #[.int .i64 p.1, .int .i64 p.2]] w
      (ClPost (clE (validW wide high n g nk nb K B) wide high p K) (Rch K wide.toNat high.toNat (p.1 + wide * p.2).toNat) n w) := by
  obtain ⟨i0, hi, hz0, hz1, hz2⟩ := info_parts infoI
  have X0 := ((Bx.new w #[.int .i64 wide, .int .i64 high, .slice a n c] 24).alloc (.cells #[.slice ak nk ck, .slice ab nb cb] 27)).alloc (.cells #[.int .i64 p.1, .int .i64 p.2] 51)
  have X1 := (Bx.new (w.alloc (.cells #[.int .i64 wide, .int .i64 high, .slice a n c] 24)) #[.slice ak nk ck, .slice ab nb cb] 27).alloc (.cells #[.int .i64 p.1, .int .i64 p.2] 51)
  have X2 := Bx.new ((w.alloc (.cells #[.int .i64 wide, .int .i64 high, .slice a n c] 24)).alloc (.cells #[.slice ak nk ck, .slice ab nb cb] 27)) #[.int .i64 p.1, .int .i64 p.2] 51
  simp only [World.size_alloc] at X1 X2
  have hB0 : Below w.heap.size w (((w.alloc (.cells #[.int .i64 wide, .int .i64 high, .slice a n c] 24)).alloc (.cells #[.slice ak nk ck, .slice ab nb cb] 27)).alloc (.cells #[.int .i64 p.1, .int .i64 p.2] 51)) := by (repeat' (first | with_reducible assumption | with_reducible exact Below.refl _ _ | with_reducible refine Below.drew ?_ | with_reducible refine below_drewN ?_ _ | with_reducible refine balloc ?_ _ | with_reducible refine bset ?_ ?_ _ | with_reducible refine Below.setCell ?_ ?_ _ | with_reducible refine Below.alloc ?_ ?_ _ | omega | (simp; done) | (simp; omega)))
  go_enter Try.func44, Try.ntmps44
  go_wp2_with fail
  generalize (((w.alloc (.cells #[.int .i64 wide, .int .i64 high, .slice a n c] 24)).alloc (.cells #[.slice ak nk ck, .slice ab nb cb] 27)).alloc (.cells #[.int .i64 p.1, .int .i64 p.2] 51)) = W0 at X0 X1 X2 hB0 ⊢
  have z0 := X0.lt
  have z1 := X1.lt
  have z2 := X2.lt
  have hB := hB0
  clear hB0
  replace H := H.below hB; replace HK := HK.below hB; replace HB := HB.below hB
  refine (ref3_valid wide high a ak ab n nk nb c ck cb g K B _ (by omega) (by omega) (by omega) H HK HB).mono ?_
  rintro e w1 ⟨rfl, hb1⟩
  replace X0 := X0.below hb1
  replace X1 := X1.below hb1
  replace X2 := X2.below hb1
  replace H := H.below hb1
  replace HK := HK.below hb1
  replace HB := HB.below hb1
  replace hB := bvia hB hb1
  clear hb1
  cases hv : validW wide high n g nk nb K B
  · go_wp2_with fail
    go_ret2
    rw [hv]
    exact clPost_err (er := 1) (by simp) hB
  · obtain ⟨hG, rfl, rfl, hall⟩ := (validW_iff ..).1 hv
    obtain ⟨v1, v2, v3, v4, v5, v6, _, _⟩ := (validG_iff ..).1 hG
    obtain ⟨Wd, rfl⟩ : ∃ Wd : Nat, wide = (Wd : Int) := ⟨wide.toNat, by omega⟩
    obtain ⟨Hd, rfl⟩ : ∃ Hd : Nat, high = (Hd : Int) := ⟨high.toNat, by omega⟩
    have hnn : nb = Wd * Hd := by
      have hc : ((Wd * Hd : Nat) : Int) = (Wd : Int) * (Hd : Int) := by simp
      omega
    have HNN := hid hnn
    have HV := hid hv
    clear hnn hv hG v5 v6 hall z0 z1 z2
    have X0_0 := X0.at_ 0 rfl
    have X0_1 := X0.at_ 1 rfl
    have X0_2 := X0.at_ 2 rfl
    have X2_0 := X2.at_ 0 rfl
    have X2_1 := X2.at_ 1 rfl
    have X0z := X0.lt
    have X1z := X1.lt
    have X2z := X2.lt
    go_wp2_with fail
    refine (ref2_On (Wd : Int) (Hd : Int) p.1 p.2 a nb c _ (by omega) (by omega)).mono ?_
    rintro e w2 ⟨rfl, hb2⟩
    clear X0_0 X0_1 X0_2 X2_0 X2_1 X0z X1z X2z
    replace X0 := X0.below hb2
    replace X1 := X1.below hb2
    replace X2 := X2.below hb2
    replace H := H.below hb2
    replace HK := HK.below hb2
    replace HB := HB.below hb2
    replace hB := bvia hB hb2
    clear hb2
    have X0_0 := X0.at_ 0 rfl
    have X0_1 := X0.at_ 1 rfl
    have X0_2 := X0.at_ 2 rfl
    have X2_0 := X2.at_ 0 rfl
    have X2_1 := X2.at_ 1 rfl
    have X0z := X0.lt
    have X1z := X1.lt
    have X2z := X2.lt
    cases hon : onB Wd Hd p.1 p.2
    · have hE : clE true Wd Hd p K = 7 := by simp [clE, hon]
      have HE := hid hE; clear hE
      go_wp2_with fail
      go_ret2
      rw [HV.out, HE.out]
      exact clPost_err (by simp) hB
    · obtain ⟨i, hpi, hin, hP⟩ := plc_on ⟨by omega, by omega⟩ ⟨by omega, by omega⟩ hon
      obtain ⟨q0, q1, q2, q3⟩ := on_ints hon
      have hE : clE true Wd Hd p K = if K i = 0 then 0 else 11 := by simp [clE, hon, hpi]
      have HE := hid hE
      have hinb : i < nb := by rw [HNN.out]; exact hin
      have HPI := hid hpi
      clear hE hin hP
      obtain ⟨bk, ok, rfl, hbk, c1⟩ := HK i hinb
      have m0 : 0 ≤ (Wd : Int) * p.2 := Int.mul_nonneg (by omega) (by omega)
      generalize hq : (Wd : Int) * p.2 = q at hpi m0
      have wq : wrap64 ((Wd : Int) * p.2) = q := by rw [hq]; unfold wrap64; omega
      have wq2 : wrap64 (p.1 + q) = (i : Int) := by rw [hpi]; unfold wrap64; omega
      have X1_0 := X1.at_ 0 rfl
      cases hkk : (K i != 0)
      · have hk0 : K i = 0 := by simpa using hkk
        have HK0 := hid hk0
        have hE0 : clE true Wd Hd p K = 0 := by rw [HE.out, if_pos hk0]
        have HE0 := hid hE0
        clear hE0 hk0 HE
        have hmk := mk_bools nb (by omega)
        have R0 := (rb_frow w2 nb).set_ i
        have hB3 : Below w2.heap.size w2 ((w2.alloc (.cells (frow nb) 4)).setCell ⟨w2.heap.size, i, none⟩ (.bool true)) := by (repeat' (first | with_reducible assumption | with_reducible exact Below.refl _ _ | with_reducible refine Below.drew ?_ | with_reducible refine below_drewN ?_ _ | with_reducible refine balloc ?_ _ | with_reducible refine bset ?_ ?_ _ | with_reducible refine Below.setCell ?_ ?_ _ | with_reducible refine Below.alloc ?_ ?_ _ | omega | (simp; done) | (simp; omega)))
        rw [World.setCell_alloc_at _ _ _ _ _ rfl] at R0 hB3
        have jc := (rb_frow w2 nb).cells i hinb; have jf := (rb_frow w2 nb).free
        go_upto_region 5 with (fail)
        go_wp2_with fail
        generalize w2.alloc (.cells ((frow nb).setIfInBounds i (.bool true)) 4) = w3 at R0 hB3 ⊢
        clear hmk jc jf hkk wq wq2 m0 hq hpi c1
        clear X0_0 X0_1 X0_2 X2_0 X2_1 X0z X1z X2z X1_0
        have HP : ∀ j, putM (fun _ => false) i j = true → Rch K Wd Hd i j := fun j h => by
          unfold putM at h
          split at h
          · rename_i e; subst e; exact Rch.here _ _ _ _
          · cases h
        have O0 : ClO K Wd Hd i nb (nb + 1) (putM (fun _ => false) i) true :=
          ⟨by simp [putM], HP, by have := cntO_le (fun _ => 0) (putM (fun _ => false) i) nb; simp only [if_true]; omega, fun h => (by cases h)⟩
        clear HP
        go_loopg [9] (nb + 1) (fun m s9 wr => ∃ S gb, s9 = .bool gb ∧ Rb wr w2.heap.size nb S ∧ ClO K Wd Hd i nb m S gb ∧ Below w2.heap.size w2 wr)
        case atStart => exact ⟨_, true, rfl, R0, O0, hB3⟩
        case round =>
          clear R0 O0 hB3
          obtain ⟨S, gb, rfl, R, O, hb⟩ := hrel
          have U0 := X0.below hb; have U1 := X1.below hb
          cases gb
          · have HS := hid (O.all hinb HNN.out)
            clear O
            go_wp2_with fail
            obtain ⟨wo, rfl⟩ : ∃ wo : World, wo = wr := ⟨_, rfl⟩
            have lR := R.lt
            go_loopw [12, 13] (fun v i wr2 => ∃ k : Nat, k ≤ nb ∧ i = .int .i64 k ∧ wr2.ownsRow wo.heap.size 3 1 v (ownL (ind S) 1 k).length ((ownL (ind S) 1 k).map vInt) ∧ Below wo.heap.size wo wr2) (fun _ i _ => nb - (intOf i).toNat)
            case atStart => exact ⟨0, Nat.zero_le _, rfl, World.ownsRow_nil .., Below.refl _ _⟩
            case round =>
              obtain ⟨k, hk, rfl, hown, hbj⟩ := hrel
              have Rk := R.below hbj
              have hzb := hbj.size
              by_cases hlt : k < nb
              · have hbd := ownL_length (ind S) 1 k
                have jc := Rk.cells k hlt
                cases hSk : S k
                · rw [hSk] at jc
                  have HSk := hid hSk; clear hSk
                  go_wp2_with fail
                  go_roundw
                  case rel => exact ⟨k + 1, by omega, by go_num, by simp only [ownL, if_neg (ind_no HSk.out)]; exact hown, hbj⟩
                  case measure => simp [intOf]; omega
                · rw [hSk] at jc
                  have HSk := hid hSk; clear hSk
                  go_wp2_with (at_builtin; refine wpList_append_own _ rfl _ _ 25 rfl wo.heap.size 3 i0 (.int .i64 0) 1 8 Try.underlying25 hi hz0 hz1 hz2 rfl (by decide) _ _ _ rfl (hown.alloc _) ⟨wr.heap.size, 0, none⟩ 1 1 [.int .i64 (k : Int)] rfl rfl (cell_one_new _ _ _) (by simp [Value.oneCell']) (by simp [maxLen]; omega) (by omega) (by simp; omega) ?_; intro v' w6 hown' hgrow _)
                  go_roundw
                  case rel => exact ⟨k + 1, by omega, by go_num, by simp only [ownL, if_pos (ind_yes HSk.out)]; exact own_snoc hown', (hbj.alloc hbj.size _).grown hgrow (by simp; omega) (own_base hown)⟩
                  case measure => simp [intOf]; omega
              · obtain rfl : k = nb := (by omega)
                go_wp2_with fail
                go_ret2
                rw [HV.out, HE0.out, HPI.out]
                simp only [Int.toNat_natCast]
                exact ⟨fun h => absurd rfl h, fun _ => ⟨S, HS.out, listPost_own hown (bvia (bvia hB (hb.trans (Below.refl _ _))) hbj)⟩⟩
          · have hO := O.begin
            have HO := hid O
            clear O
            go_wp2_with fail
            obtain ⟨wo, rfl⟩ : ∃ wo : World, wo = wr := ⟨_, rfl⟩
            go_loopw [9, 10] (fun s9 s10 wr2 => ∃ (k : Nat) (S2 : Nat → Bool) (gb : Bool), k ≤ nb ∧ s10 = .int .i64 k ∧ s9 = .bool gb ∧ Rb wr2 w2.heap.size nb S2 ∧ ClI K Wd Hd i nb S k 0 S2 gb ∧ Below w2.heap.size w2 wr2) (fun _ s10 _ => nb - (intOf s10).toNat)
            case atStart => exact ⟨0, S, false, Nat.zero_le _, rfl, rfl, R, hO, hb⟩
            case round =>
              clear R hO hb U0 U1
              obtain ⟨k, S2, gb, hk, rfl, rfl, R, hI, hb⟩ := hrel
              by_cases hlt : k < nb
              · have HI := hid hI
                clear hI
                go_wp2_with fail
                obtain ⟨wo2, rfl⟩ : ∃ wo2 : World, wo2 = wr := ⟨_, rfl⟩
                go_loopw [9, 11] (fun s9 s11 wr3 => ∃ (d : Nat) (S2 : Nat → Bool) (gb : Bool), d ≤ 4 ∧ s11 = .int .i64 d ∧ s9 = .bool gb ∧ Rb wr3 w2.heap.size nb S2 ∧ ClI K Wd Hd i nb S k d S2 gb ∧ Below w2.heap.size w2 wr3) (fun _ s11 _ => 4 - (intOf s11).toNat)
                case atStart => exact ⟨0, S2, gb, by omega, rfl, rfl, R, HI.out, hb⟩
                case round =>
                  clear R HI hb
                  obtain ⟨d, S3, gb3, hd, rfl, rfl, R, hI, hb⟩ := hrel
                  have HI := hid hI
                  clear hI
                  by_cases hd4 : d < 4
                  · have U0 := X0.below hb; have U1 := X1.below hb
                    have u00 := U0.at_ 0 rfl; have u01 := U0.at_ 1 rfl; have u10 := U1.at_ 0 rfl
                    have l0 := U0.lt; have l1 := U1.lt; have lR := R.lt
                    obtain ⟨bk', ok', eq', hbk', ck0⟩ := (HK.below hb) k hlt
                    injection eq' with eq'; injection eq' with eq1 eq2 _
                    subst eq1 eq2
                    have jc := R.cells k hlt
                    cases hS3 : S3 k
                    · rw [hS3] at jc
                      have HS3 := hid hS3; clear hS3
                      cases hKk : (K k == 0)
                      · have hk1 : K k ≠ 0 := by simpa using hKk
                        have HK1 := hid hk1; clear hk1
                        go_wp2_with fail
                        go_roundw
                        case rel => exact ⟨d + 1, S3, gb3, by omega, by go_num, rfl, R, HI.out.skip (fun h _ => absurd h HK1.out), hb⟩
                        case measure => simp [intOf]; omega
                      · have hk1 : K k = 0 := by simpa using hKk
                        rw [hk1] at ck0
                        have HK1 := hid hk1; clear hk1 hKk
                        have hfrom := fun W => ref2_From Wd Hd k d W (by omega) (by omega) (by have := HNN.out; omega) hd4
                        have hJl := nbT_lt (W := Wd) (H := Hd) (i := k) (d := d) (by have := HNN.out; omega) hd4
                        rw [← HNN.out] at hJl
                        obtain ⟨J, hJ⟩ : ∃ J, nbT Wd Hd k d = J := ⟨_, rfl⟩
                        simp only [hJ] at hfrom hJl
                        have HJ := hid hJ; clear hJ
                        have jf := R.free
                        cases hSJ : S3 J
                        · have HSJ := hid hSJ; clear hSJ
                          go_wp2_with (go_at_call 98; refine (hfrom _).mono ?_; rintro e w9 ⟨rfl, hb9⟩; have jJ := (R.below hb9).cells J hJl; rw [HSJ.out] at jJ)
                          go_roundw
                          case rel => exact ⟨d + 1, S3, gb3, by omega, by go_num, rfl, R.below hb9, HI.out.skip (fun _ h => by rw [HJ.out, HSJ.out] at h; cases h), hb.trans (hb9.mono hb.size)⟩
                          case measure => simp [intOf]; omega
                        · have HSJ := hid hSJ; clear hSJ
                          go_wp2_with (go_at_call 98; refine (hfrom _).mono ?_; rintro e w9 ⟨rfl, hb9⟩; have jJ := (R.below hb9).cells J hJl; rw [HSJ.out] at jJ; have jk := (R.below hb9).cells k hlt; have jf9 := (R.below hb9).free; have l9 := (R.below hb9).lt)
                          go_roundw
                          case rel => exact ⟨d + 1, putM S3 k, true, by omega, by go_num, rfl, (R.below hb9).set_ k, HI.out.put HK1.out HS3.out (by rw [HJ.out]; exact HSJ.out) hd4 hlt HNN.out, (hb.trans (hb9.mono hb.size)).setCell (Nat.le_refl _) _⟩
                          case measure => simp [intOf]; omega
                    · rw [hS3] at jc
                      have HS3 := hid hS3; clear hS3
                      go_wp2_with fail
                      go_roundw
                      case rel => exact ⟨d + 1, S3, gb3, by omega, by go_num, rfl, R, HI.out.skip (fun _ _ => HS3.out), hb⟩
                      case measure => simp [intOf]; omega
                  · obtain rfl : d = 4 := (by omega)
                    go_wp2_with fail
                    go_roundw
                    case rel => exact ⟨k + 1, S3, gb3, by omega, by go_num, rfl, R, HI.out.next, hb⟩
                    case measure => simp [intOf]; omega
              · obtain rfl : k = nb := (by omega)
                obtain ⟨h0, hD⟩ := hI.done HO.out
                have HD := hid hD
                clear hI hD
                go_wp2_with fail
                go_roundg (gk - 1)
                case measure => omega
                case rel => exact ⟨S2, gb, rfl, R, HD.out, hb⟩
      · have hk0 : K i ≠ 0 := by simpa using hkk
        have hE1 : clE true Wd Hd p K = 11 := by rw [HE.out, if_neg hk0]
        have HE1 := hid hE1
        clear hE1 hk0
        go_upto_region 5 with (fail)
        go_wp2_with fail
        go_ret2
        rw [HV.out, HE1.out]
        exact clPost_err (by simp) hB
end Go.Proofs.Ytnnaegnkkpknpaa
