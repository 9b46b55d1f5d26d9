/- Walks: the reference's Slope. -/
import Derived.Test.YtnnaegnkkpknpaaRBox
namespace Go.Proofs.Ytnnaegnkkpknpaa
open Go.RowKit
attribute [local go_sem ↓] Go.wp_at_zero Go.wp_at_succ
set_option linter.unusedVariables false
def slY (p : Int × Int) (up : Bool) (k : Nat) : Int := if up then p.2 + k else p.2 - k
def slKind (up : Bool) : Int := if up then 2 else 3
/-- the slope's first k places -/
def slTo (wide high : Int) (p : Int × Int) (up : Bool) : Nat → Nat → Int
  | 0 => fun _ => 0
  | k + 1 => if onB wide high (p.1 + k) (slY p up k) then upd (slTo wide high p up k) (p.1 + k + wide * slY p up k).toNat (slKind up) else slTo wide high p up k
def slS (wide high : Int) (p : Int × Int) (m : Int) (up : Bool) : Nat → Int := slTo wide high p up m.toNat
theorem onB_iff {wide high x y : Int} : onB wide high x y = true ↔ (0 ≤ x ∧ x ≤ wide - 1) ∧ 0 ≤ y ∧ y ≤ high - 1 := by
  simp [onB, within]
theorem allOn_one {wide high : Int} {p q : Int × Int} {ok : Bool} (h : allOn wide high (pts2 p q) ok 1 = true) : ok = true ∧ 0 ≤ p.1 ∧ p.1 ≤ wide - 1 ∧ 0 ≤ p.2 ∧ p.2 ≤ high - 1 := by
  simp only [allOn, Bool.and_eq_true, pts2, onB_iff] at h
  exact ⟨h.1, by omega, by omega, by omega, by omega⟩
/-- the index of a place on the grid -/
theorem idx_lt {wide high x y : Int} {n : Nat} (v1 : 1 ≤ wide) (hn : (n : Int) = wide * high) (hx : 0 ≤ x) (hx' : x ≤ wide - 1) (hy : 0 ≤ y) (hy' : y ≤ high - 1) : ∃ J : Nat, x + wide * y = J ∧ J < n ∧ 0 ≤ wide * y ∧ wide * y ≤ n := by
  have a : 0 ≤ wide * y := Int.mul_nonneg (by omega) hy
  have b : wide * y ≤ wide * (high - 1) := Int.mul_le_mul_of_nonneg_left hy' (by omega)
  rw [Int.mul_sub, Int.mul_one] at b
  exact ⟨(x + wide * y).toNat, by omega, by omega, a, by omega⟩
set_option maxRecDepth 100000 in
set_option maxHeartbeats 8000000 in
theorem ref3_Slope (wide high m body : Int) (up : Bool) (p : Int × Int) (a ak ab : Option Addr) (n nk nb c ck cb : Nat) (g : Nat → C4) (K B : Nat → Int) (w : World) (hn : n ≤ 100000) (hnk : nk ≤ 100000) (hnb : nb ≤ 100000) (H : Sc w a n g) (HK : Sl w ak nk K) (HB : Sl w ab nb B) :
    Calls Try.prog 34 #[.agg #[.int .i64 wide, .int .i64 high, .slice a n c], .agg #[.slice ak nk ck, .slice ab nb cb], .agg #[.int .i64 p.1, .int .i64 p.2], .int .i64 m, .bool up, .int .i64 body] w
      (ShapePost (readyE (validW wide high n g nk nb K B) (allOn wide high (pts2 p p) (within m 1 64) 1) body) (slS wide high p m up) body n K B w) := by
  have X0 := (((Bx.new w #[.int .i64 wide, .int .i64 high, .slice a n c] 24).alloc (.cells #[.slice ak nk ck, .slice ab nb cb] 27)).alloc (.cells #[.int .i64 p.1, .int .i64 p.2] 51)).alloc (.cells #[.slice none 0 0, .slice none 0 0] 27)
  have X1 := ((Bx.new (w.alloc (.cells #[.int .i64 wide, .int .i64 high, .slice a n c] 24)) #[.slice ak nk ck, .slice ab nb cb] 27).alloc (.cells #[.int .i64 p.1, .int .i64 p.2] 51)).alloc (.cells #[.slice none 0 0, .slice none 0 0] 27)
  have X2 := (Bx.new ((w.alloc (.cells #[.int .i64 wide, .int .i64 high, .slice a n c] 24)).alloc (.cells #[.slice ak nk ck, .slice ab nb cb] 27)) #[.int .i64 p.1, .int .i64 p.2] 51).alloc (.cells #[.slice none 0 0, .slice none 0 0] 27)
  have X3 := Bx.new (((w.alloc (.cells #[.int .i64 wide, .int .i64 high, .slice a n c] 24)).alloc (.cells #[.slice ak nk ck, .slice ab nb cb] 27)).alloc (.cells #[.int .i64 p.1, .int .i64 p.2] 51)) #[.slice none 0 0, .slice none 0 0] 27
  simp only [World.size_alloc] at X1 X2 X3
  have hB0 : Below w.heap.size w ((((w.alloc (.cells #[.int .i64 wide, .int .i64 high, .slice a n c] 24)).alloc (.cells #[.slice ak nk ck, .slice ab nb cb] 27)).alloc (.cells #[.int .i64 p.1, .int .i64 p.2] 51)).alloc (.cells #[.slice none 0 0, .slice none 0 0] 27)) := by (repeat' (first | with_reducible assumption | with_reducible exact Below.refl _ _ | with_reducible refine Below.drew ?_ | with_reducible refine below_drewN ?_ _ | with_reducible refine balloc ?_ _ | with_reducible refine bset ?_ ?_ _ | with_reducible refine Below.setCell ?_ ?_ _ | with_reducible refine Below.alloc ?_ ?_ _ | omega | (simp; done) | (simp; omega)))
  go_enter Try.func34, Try.ntmps34
  go_upto_region 1 with (fail)
  generalize ((((w.alloc (.cells #[.int .i64 wide, .int .i64 high, .slice a n c] 24)).alloc (.cells #[.slice ak nk ck, .slice ab nb cb] 27)).alloc (.cells #[.int .i64 p.1, .int .i64 p.2] 51)).alloc (.cells #[.slice none 0 0, .slice none 0 0] 27)) = W0 at X0 X1 X2 X3 hB0 ⊢
  have z0 := X0.lt
  have z1 := X1.lt
  have z2 := X2.lt
  have z3 := X3.lt
  have I := H.below hB0; have IK := HK.below hB0; have IB := HB.below hB0
  go_cut [14] from 20 to 27 (fun s14 W => s14 = .int .i64 (readyE (validW wide high n g nk nb K B) (allOn wide high (pts2 p p) (within m 1 64) 1) body) ∧ Below W0.heap.size W0 W)
  case first =>
    have r0 : ∀ W, Below W0.heap.size W0 W → W.cell? ⟨w.heap.size, 0, none⟩ = some (.int .i64 wide) := fun W h => (X0.below h).at_ 0 rfl
    have r1 : ∀ W, Below W0.heap.size W0 W → W.cell? ⟨w.heap.size, 1, none⟩ = some (.int .i64 high) := fun W h => (X0.below h).at_ 1 rfl
    have r2 : ∀ W, Below W0.heap.size W0 W → W.cell? ⟨w.heap.size, 2, none⟩ = some (.slice a n c) := fun W h => (X0.below h).at_ 2 rfl
    have r3 : ∀ W, Below W0.heap.size W0 W → W.cell? ⟨w.heap.size + 1, 0, none⟩ = some (.slice ak nk ck) := fun W h => (X1.below h).at_ 0 rfl
    have r4 : ∀ W, Below W0.heap.size W0 W → W.cell? ⟨w.heap.size + 1, 1, none⟩ = some (.slice ab nb cb) := fun W h => (X1.below h).at_ 1 rfl
    have r5 : ∀ W, Below W0.heap.size W0 W → W.cell? ⟨w.heap.size + 1 + 1, 0, none⟩ = some (.int .i64 p.1) := fun W h => (X2.below h).at_ 0 rfl
    have r6 : ∀ W, Below W0.heap.size W0 W → W.cell? ⟨w.heap.size + 1 + 1, 1, none⟩ = some (.int .i64 p.2) := fun W h => (X2.below h).at_ 1 rfl
    clear X0 X1 X2 X3
    go_region_held3 (fun W => Below W0.heap.size W0 W) ((repeat' (first | with_reducible assumption | with_reducible exact Below.refl _ _ | with_reducible refine Below.drew ?_ | with_reducible refine below_drewN ?_ _ | with_reducible refine balloc ?_ _ | with_reducible refine bset ?_ ?_ _ | with_reducible refine Below.setCell ?_ ?_ _ | with_reducible refine Below.alloc ?_ ?_ _ | omega | (simp; done) | (simp; omega))))
      ((first
        | (go_at_call 67; refine (ref3_within _ _ _ _).mono ?_; rintro e w' ⟨rfl, rfl⟩)
        | (go_at_call 83; refine (ref3_shapeError wide high body _ a ak ab _ n nk nb 1 _ _ _ _ g K B (pts2 p p) _ (by omega) (by omega) (by omega) (by omega) (I.below (by (repeat' (first | with_reducible assumption | with_reducible exact Below.refl _ _ | with_reducible refine Below.drew ?_ | with_reducible refine below_drewN ?_ _ | with_reducible refine balloc ?_ _ | with_reducible refine bset ?_ ?_ _ | with_reducible refine Below.setCell ?_ ?_ _ | with_reducible refine Below.alloc ?_ ?_ _ | omega | (simp; done) | (simp; omega))))) (IK.below (by (repeat' (first | with_reducible assumption | with_reducible exact Below.refl _ _ | with_reducible refine Below.drew ?_ | with_reducible refine below_drewN ?_ _ | with_reducible refine balloc ?_ _ | with_reducible refine bset ?_ ?_ _ | with_reducible refine Below.setCell ?_ ?_ _ | with_reducible refine Below.alloc ?_ ?_ _ | omega | (simp; done) | (simp; omega))))) (IB.below (by (repeat' (first | with_reducible assumption | with_reducible exact Below.refl _ _ | with_reducible refine Below.drew ?_ | with_reducible refine below_drewN ?_ _ | with_reducible refine balloc ?_ _ | with_reducible refine bset ?_ ?_ _ | with_reducible refine Below.setCell ?_ ?_ _ | with_reducible refine Below.alloc ?_ ?_ _ | omega | (simp; done) | (simp; omega))))) (sp_of_bx1 (by (repeat' (first | with_reducible assumption | (with_reducible refine Bx.newE ?_ _ _; (simp; done)) | with_reducible refine Bx.alloc ?_ _ | with_reducible refine Bx.drew ?_ | with_reducible refine Bx.drewN ?_ _ | with_reducible refine Bx.four ?_ | (with_reducible refine Bx.far2 ?_ ?_ _; (dsimp only; omega))))))).mono ?_; rintro e w1 ⟨rfl, hb1⟩; have hB1 : Below W0.heap.size W0 w1 := bvia (by (repeat' (first | with_reducible assumption | with_reducible exact Below.refl _ _ | with_reducible refine Below.drew ?_ | with_reducible refine below_drewN ?_ _ | with_reducible refine balloc ?_ _ | with_reducible refine bset ?_ ?_ _ | with_reducible refine Below.setCell ?_ ?_ _ | with_reducible refine Below.alloc ?_ ?_ _ | omega | (simp; done) | (simp; omega)))) hb1)
        | fail))
    all_goals
      go_wp2_with fail
      go_meet
      exact ⟨rfl, by with_reducible assumption⟩
  case rest =>
    obtain ⟨rfl, hBc⟩ := hcut
    have Y0 := X0.below hBc; have Y1 := X1.below hBc; have Y2 := X2.below hBc; have Y4 := X3.below hBc
    have hB1 : Below w.heap.size w wc := bvia hB0 hBc
    have JK := IK.below hBc; have JB := IB.below hBc
    clear X0 X1 X2 X3 I IK IB
    generalize hE : readyE (validW wide high n g nk nb K B) (allOn wide high (pts2 p p) (within m 1 64) 1) body = er
    have y40 := Y4.at_ 0 rfl; have y41 := Y4.at_ 1 rfl; have y4f := Y4.free; have l4 := Y4.lt
    cases hne : (er != 0)
    · obtain rfl : er = 0 := by simpa using hne
      obtain ⟨hV, hO, hW⟩ := readyE_zero hE
      obtain ⟨hG, rfl, rfl, _⟩ := (validW_iff ..).1 hV
      obtain ⟨v1, v2, v3, v4, v5, v6, _, _⟩ := (validG_iff ..).1 hG
      have h0 : 0 < nb := by
        have : 1 * 1 ≤ wide * high := Int.mul_le_mul v1 v3 (by omega) (by omega)
        omega
      have HV6 := hid v6
      obtain ⟨hm, o1, o2, o3, o4⟩ := allOn_one hO
      obtain ⟨m1, m2⟩ := (within_iff _ _ _).1 hm
      clear hm
      have HE := hid hE
      clear hE hV hO hG v5 v6 hne
      have y0 := Y0.at_ 2 rfl; have l0 := Y0.lt
      have hmk := mk_shape nb (by omega)
      cases up
      · go_wp2_with fail
        go_loopw [18] (fun i wr => ∃ k : Nat, (k : Int) ≤ m ∧ i = .int .i64 k ∧ Ro wr wc.heap.size nb (slTo wide high p false k) ∧ Below wc.heap.size wc wr) (fun i _ => m.toNat - (intOf i).toNat)
        case atStart => exact ⟨0, by omega, rfl, ro_zrow wc nb, below_alloc _ _⟩
        case round =>
          obtain ⟨k, hk, rfl, R, hB⟩ := hrel
          clear hmk y0
          by_cases hlt : (k : Int) < m
          · have U0 := Y0.below hB; have U2 := Y2.below hB
            have u0 := U0.at_ 0 rfl; have u1 := U0.at_ 1 rfl; have u2 := U0.at_ 2 rfl; have p0 := U2.at_ 0 rfl; have p1 := U2.at_ 1 rfl
            have lu := U0.lt; have lp := U2.lt
            go_wp2_with fail
            refine (ref2_On wide high (p.1 + k) (p.2 - k) _ _ _ _ ⟨v1, v2⟩ ⟨v3, v4⟩).mono ?_
            rintro e w2 ⟨rfl, hb2⟩
            have hB2 : Below wc.heap.size wc w2 := bvia (by (repeat' (first | with_reducible assumption | with_reducible exact Below.refl _ _ | with_reducible refine Below.drew ?_ | with_reducible refine below_drewN ?_ _ | with_reducible refine balloc ?_ _ | with_reducible refine bset ?_ ?_ _ | with_reducible refine Below.setCell ?_ ?_ _ | with_reducible refine Below.alloc ?_ ?_ _ | omega | (simp; done) | (simp; omega)))) hb2
            have R2 := (R.alloc (.cells #[.int .i64 (p.1 + k), .int .i64 (p.2 - k)] 51)).below hb2
            have C2 := (Bx.new wr #[.int .i64 (p.1 + k), .int .i64 (p.2 - k)] 51).below hb2
            have U5 := (U0.alloc (.cells #[.int .i64 (p.1 + k), .int .i64 (p.2 - k)] 51)).below hb2
            clear u0 u1 u2 p0 p1
            have g0 := U5.at_ 0 rfl; have c0 := C2.at_ 0 rfl; have c1 := C2.at_ 1 rfl
            cases hon : onB wide high (p.1 + k) (p.2 - k)
            · have hs : slTo wide high p false (k + 1) = slTo wide high p false k := by simp [slTo, slY, hon]
              have HS := hid hs; clear hs
              go_wp2_with fail
              go_roundw
              case rel => exact ⟨k + 1, by omega, by go_num, by rw [HS.out]; exact R2, by (repeat' (first | with_reducible assumption | with_reducible exact Below.refl _ _ | with_reducible refine Below.drew ?_ | with_reducible refine below_drewN ?_ _ | with_reducible refine balloc ?_ _ | with_reducible refine bset ?_ ?_ _ | with_reducible refine Below.setCell ?_ ?_ _ | with_reducible refine Below.alloc ?_ ?_ _ | omega | (simp; done) | (simp; omega)))⟩
              case measure => simp [intOf]; omega
            · obtain ⟨⟨x0, x1⟩, y0, y1⟩ := onB_iff.1 hon
              obtain ⟨J, hJ, hJn, q0, q1⟩ := idx_lt v1 HV6.out x0 x1 y0 y1
              have hs : slTo wide high p false (k + 1) = upd (slTo wide high p false k) J 3 := by simp [slTo, slY, hon, hJ, slKind]
              have HS := hid hs; clear hs
              have HON := hid hon; clear hon
              have ck := R2.cells J hJn; have fk := R2.free
              generalize hQ : wide * (p.2 - k) = Q at hJ q0 q1
              have e1 : wrap64 (wide * (p.2 - k)) = Q := by rw [hQ]; unfold wrap64; omega
              clear hQ
              go_wp2_with fail
              go_roundw
              case rel => exact ⟨k + 1, by omega, by go_num, by rw [HS.out]; exact R2.set_ J 3, by (repeat' (first | with_reducible assumption | with_reducible exact Below.refl _ _ | with_reducible refine Below.drew ?_ | with_reducible refine below_drewN ?_ _ | with_reducible refine balloc ?_ _ | with_reducible refine bset ?_ ?_ _ | with_reducible refine Below.setCell ?_ ?_ _ | with_reducible refine Below.alloc ?_ ?_ _ | omega | (simp; done) | (simp; omega)))⟩
              case measure => simp [intOf]; omega
          · obtain ⟨k', hk'⟩ : ∃ k' : Nat, m = k' := ⟨m.toNat, by omega⟩
            obtain rfl : k = k' := by omega
            have U1 := Y1.below hB; have U4 := Y4.below hB
            have u0 := U1.at_ 0 rfl; have u1 := U1.at_ 1 rfl
            have hBw : Below w.heap.size w wr := bvia hB1 hB
            have hsl : slS wide high p m false = slTo wide high p false k := by rw [slS, hk']; rfl
            have HSL := hid hsl; clear hsl
            have HK' := hid hk'; clear hk'
            have RS : Sl wr (some ⟨wc.heap.size, 0, none⟩) nb (slS wide high p m false) := by rw [HSL.out]; exact R.sl
            go_wp2_with fail
            refine (ref3_put body ak ab _ nb _ _ _ K B (slS wide high p m false) _ (by omega) h0 (JK.below hB) (JB.below hB) RS).mono ?_
            rintro e w3 ⟨a1, a2, c1, c2, rfl, S1, S2, hb3⟩
            have V4 := U4.below hb3
            have y0 := V4.at_ 0 rfl; have y1 := V4.at_ 1 rfl; have yf := V4.free; have l4 := V4.lt
            have hBw3 : Below w.heap.size w w3 := bvia hBw hb3
            generalize hpl : putLen (slS wide high p m false) B body nb = pl at S1 S2 ⊢
            have HPL := hid hpl; clear hpl
            go_wp2_with fail
            refine bodyPost_ret (v := .tuple #[.agg #[.slice a1 pl c1, .slice a2 pl c2], .int .i64 (putErr (slS wide high p m false) B body nb)]) (by simp [results, Try.results34, go_sem, y0, y1]) rfl ?_
            rw [HE.out]
            exact ⟨fun _ => ⟨a1, a2, c1, c2, by rw [HPL.out], by rw [HPL.out]; exact S1.set2 V4 _ _, by rw [HPL.out]; exact S2.set2 V4 _ _, by (repeat' (first | with_reducible assumption | with_reducible exact Below.refl _ _ | with_reducible refine Below.drew ?_ | with_reducible refine below_drewN ?_ _ | with_reducible refine balloc ?_ _ | with_reducible refine bset ?_ ?_ _ | with_reducible refine Below.setCell ?_ ?_ _ | with_reducible refine Below.alloc ?_ ?_ _ | omega | (simp; done) | (simp; omega)))⟩, fun h => absurd rfl h⟩
      · go_wp2_with fail
        go_loopw [18] (fun i wr => ∃ k : Nat, (k : Int) ≤ m ∧ i = .int .i64 k ∧ Ro wr wc.heap.size nb (slTo wide high p true k) ∧ Below wc.heap.size wc wr) (fun i _ => m.toNat - (intOf i).toNat)
        case atStart => exact ⟨0, by omega, rfl, ro_zrow wc nb, below_alloc _ _⟩
        case round =>
          obtain ⟨k, hk, rfl, R, hB⟩ := hrel
          clear hmk y0
          by_cases hlt : (k : Int) < m
          · have U0 := Y0.below hB; have U2 := Y2.below hB
            have u0 := U0.at_ 0 rfl; have u1 := U0.at_ 1 rfl; have u2 := U0.at_ 2 rfl; have p0 := U2.at_ 0 rfl; have p1 := U2.at_ 1 rfl
            have lu := U0.lt; have lp := U2.lt
            go_wp2_with fail
            refine (ref2_On wide high (p.1 + k) (p.2 + k) _ _ _ _ ⟨v1, v2⟩ ⟨v3, v4⟩).mono ?_
            rintro e w2 ⟨rfl, hb2⟩
            have hB2 : Below wc.heap.size wc w2 := bvia (by (repeat' (first | with_reducible assumption | with_reducible exact Below.refl _ _ | with_reducible refine Below.drew ?_ | with_reducible refine below_drewN ?_ _ | with_reducible refine balloc ?_ _ | with_reducible refine bset ?_ ?_ _ | with_reducible refine Below.setCell ?_ ?_ _ | with_reducible refine Below.alloc ?_ ?_ _ | omega | (simp; done) | (simp; omega)))) hb2
            have R2 := (R.alloc (.cells #[.int .i64 (p.1 + k), .int .i64 (p.2 + k)] 51)).below hb2
            have C2 := (Bx.new wr #[.int .i64 (p.1 + k), .int .i64 (p.2 + k)] 51).below hb2
            have U5 := (U0.alloc (.cells #[.int .i64 (p.1 + k), .int .i64 (p.2 + k)] 51)).below hb2
            clear u0 u1 u2 p0 p1
            have g0 := U5.at_ 0 rfl; have c0 := C2.at_ 0 rfl; have c1 := C2.at_ 1 rfl
            cases hon : onB wide high (p.1 + k) (p.2 + k)
            · have hs : slTo wide high p true (k + 1) = slTo wide high p true k := by simp [slTo, slY, hon]
              have HS := hid hs; clear hs
              go_wp2_with fail
              go_roundw
              case rel => exact ⟨k + 1, by omega, by go_num, by rw [HS.out]; exact R2, by (repeat' (first | with_reducible assumption | with_reducible exact Below.refl _ _ | with_reducible refine Below.drew ?_ | with_reducible refine below_drewN ?_ _ | with_reducible refine balloc ?_ _ | with_reducible refine bset ?_ ?_ _ | with_reducible refine Below.setCell ?_ ?_ _ | with_reducible refine Below.alloc ?_ ?_ _ | omega | (simp; done) | (simp; omega)))⟩
              case measure => simp [intOf]; omega
            · obtain ⟨⟨x0, x1⟩, y0, y1⟩ := onB_iff.1 hon
              obtain ⟨J, hJ, hJn, q0, q1⟩ := idx_lt v1 HV6.out x0 x1 y0 y1
              have hs : slTo wide high p true (k + 1) = upd (slTo wide high p true k) J 2 := by simp [slTo, slY, hon, hJ, slKind]
              have HS := hid hs; clear hs
              have HON := hid hon; clear hon
              have ck := R2.cells J hJn; have fk := R2.free
              generalize hQ : wide * (p.2 + k) = Q at hJ q0 q1
              have e1 : wrap64 (wide * (p.2 + k)) = Q := by rw [hQ]; unfold wrap64; omega
              clear hQ
              go_wp2_with fail
              go_roundw
              case rel => exact ⟨k + 1, by omega, by go_num, by rw [HS.out]; exact R2.set_ J 2, by (repeat' (first | with_reducible assumption | with_reducible exact Below.refl _ _ | with_reducible refine Below.drew ?_ | with_reducible refine below_drewN ?_ _ | with_reducible refine balloc ?_ _ | with_reducible refine bset ?_ ?_ _ | with_reducible refine Below.setCell ?_ ?_ _ | with_reducible refine Below.alloc ?_ ?_ _ | omega | (simp; done) | (simp; omega)))⟩
              case measure => simp [intOf]; omega
          · obtain ⟨k', hk'⟩ : ∃ k' : Nat, m = k' := ⟨m.toNat, by omega⟩
            obtain rfl : k = k' := by omega
            have U1 := Y1.below hB; have U4 := Y4.below hB
            have u0 := U1.at_ 0 rfl; have u1 := U1.at_ 1 rfl
            have hBw : Below w.heap.size w wr := bvia hB1 hB
            have hsl : slS wide high p m true = slTo wide high p true k := by rw [slS, hk']; rfl
            have HSL := hid hsl; clear hsl
            have HK' := hid hk'; clear hk'
            have RS : Sl wr (some ⟨wc.heap.size, 0, none⟩) nb (slS wide high p m true) := by rw [HSL.out]; exact R.sl
            go_wp2_with fail
            refine (ref3_put body ak ab _ nb _ _ _ K B (slS wide high p m true) _ (by omega) h0 (JK.below hB) (JB.below hB) RS).mono ?_
            rintro e w3 ⟨a1, a2, c1, c2, rfl, S1, S2, hb3⟩
            have V4 := U4.below hb3
            have y0 := V4.at_ 0 rfl; have y1 := V4.at_ 1 rfl; have yf := V4.free; have l4 := V4.lt
            have hBw3 : Below w.heap.size w w3 := bvia hBw hb3
            generalize hpl : putLen (slS wide high p m true) B body nb = pl at S1 S2 ⊢
            have HPL := hid hpl; clear hpl
            go_wp2_with fail
            refine bodyPost_ret (v := .tuple #[.agg #[.slice a1 pl c1, .slice a2 pl c2], .int .i64 (putErr (slS wide high p m true) B body nb)]) (by simp [results, Try.results34, go_sem, y0, y1]) rfl ?_
            rw [HE.out]
            exact ⟨fun _ => ⟨a1, a2, c1, c2, by rw [HPL.out], by rw [HPL.out]; exact S1.set2 V4 _ _, by rw [HPL.out]; exact S2.set2 V4 _ _, by (repeat' (first | with_reducible assumption | with_reducible exact Below.refl _ _ | with_reducible refine Below.drew ?_ | with_reducible refine below_drewN ?_ _ | with_reducible refine balloc ?_ _ | with_reducible refine bset ?_ ?_ _ | with_reducible refine Below.setCell ?_ ?_ _ | with_reducible refine Below.alloc ?_ ?_ _ | omega | (simp; done) | (simp; omega)))⟩, fun h => absurd rfl h⟩
    · have her : er ≠ 0 := by simpa using hne
      have HE := hid hE; clear hE
      go_wp2_with fail
      refine bodyPost_ret (v := .tuple #[.agg #[.slice none 0 0, .slice none 0 0], .int .i64 er]) (by simp [results, Try.results34, go_sem, y40, y41]) rfl (by rw [HE.out]; exact shapePost_err her (by (repeat' (first | with_reducible assumption | with_reducible exact Below.refl _ _ | with_reducible refine Below.drew ?_ | with_reducible refine below_drewN ?_ _ | with_reducible refine balloc ?_ _ | with_reducible refine bset ?_ ?_ _ | with_reducible refine Below.setCell ?_ ?_ _ | with_reducible refine Below.alloc ?_ ?_ _ | omega | (simp; done) | (simp; omega)))))
end Go.Proofs.Ytnnaegnkkpknpaa
