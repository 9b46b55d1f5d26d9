/- Plain words: what both Acts give, under one name; two sites that were made so are equal. The walk of the law NodeActs. -/
import Derived.Test.YtmmjaobpoiofdaaGreatNActF
import Derived.Test.YtmmjaobpoiofdaaGreatNRefInv
import Derived.Test.YtmmjaobpoiofdaaGreatNRefActF
import Derived.Test.YtmmjaobpoiofdaaGreatNLight
import Derived.Test.YtmmjaobpoiofdaaGreatNAwake
import Derived.Test.YtmmjaobpoiofdaaGreatNMassW
import Derived.Test.YtmmjaobpoiofdaaGreatNSplitW
namespace Go.Proofs.YtmmjaobpoiofdaaGreat
open Go Go.RowKit
set_option linter.unusedVariables false
section
variable (E : Int) (W H : Nat) (o : Nat → Int) (ru : Int × Int) (no : Nat) (s : SiteR) (p : Nat → N6) (q : Nat)
def oE : Int := if E = 0 then actE W H o ru s p q else E
def oNd : Int := if oE E W H o ru s p q = 0 then s.nd else 0
def oSt : Int := if oE E W H o ru s p q = 0 then s.st + 1 else 0
def oL : List Int := if oE E W H o ru s p q = 0 then ownL o s.nd no else []
def oC : Nat → C4 := if oE E W H o ru s p q = 0 then actC W H o ru s p q else fun _ => C4.zero
def oR : List N6 := if oE E W H o ru s p q = 0 then sortN (actN W H o ru s p q) else []
end
theorem oE_zero {E : Int} {W H : Nat} {o : Nat → Int} {ru : Int × Int} {s : SiteR} {p : Nat → N6} {q : Nat} (h : oE E W H o ru s p q = 0) : E = 0 ∧ actE W H o ru s p q = 0 := by
  unfold oE at h
  split at h
  · rename_i h0; exact ⟨h0, h⟩
  · rename_i h0; exact absurd h h0
theorem actA_zero {v rl q h b r t : Bool} (e : actA v rl q h b r t = 0) : v = true ∧ rl = true ∧ q = true ∧ h = true ∧ b = true ∧ r = true ∧ t = false := by
  cases v <;> cases rl <;> cases q <;> cases h <;> cases b <;> cases r <;> cases t <;> simp [actA] at e ⊢
theorem cellsI_len (C : Nat → C4) : ∀ n, (cellsI C n).length = 4 * n
  | 0 => rfl
  | n + 1 => by
    simp only [cellsI]
    rw [List.length_append, cellsI_len C n]
    simp [cL]; omega
theorem postI_len (p : Nat → N6) : ∀ q, (postI p q).length = q
  | 0 => rfl
  | q + 1 => by
    simp only [postI]
    rw [List.length_append, postI_len p q]; rfl
theorem allI_len (s : SiteR) (p : Nat → N6) (q : Nat) : (allI (fun _ => s) 1 p q).length = 4 * s.nc + q := by
  unfold allI
  rw [List.length_append, postI_len]
  simp only [siteI, List.nil_append]
  rw [cellsI_len]
theorem actO_post {E : Int} {W H : Nat} {o : Nat → Int} {ru : Int × Int} {no : Nat} {s : SiteR} {p : Nat → N6} {q : Nat} {w w' : World} {e : Ending} (h : ActO E W H o ru no s p q w e w') :
    ActPost (oE E W H o ru s p q) (oNd E W H o ru s p q) (oSt E W H o ru s p q) (oL E W H o ru no s p q) (oC E W H o ru s p q) (oR E W H o ru s p q) w e w' := by
  unfold ActO at h
  by_cases hE : E = 0
  · rw [if_pos hE] at h
    unfold ActS at h
    have h1 : oE E W H o ru s p q = actE W H o ru s p q := if_pos hE
    by_cases h2 : actE W H o ru s p q = 0
    · rw [if_pos h2] at h
      unfold oNd oSt oL oC oR
      rw [h1, h2]
      simp only [if_true]
      exact h
    · rw [if_neg h2] at h
      have h3 : actE W H o ru s p q = 4 := by
        unfold actE at h2 ⊢
        split
        · rfl
        · rename_i h4; rw [if_neg h4] at h2; exact absurd rfl h2
      unfold oNd oSt oL oC oR
      rw [h1, h3]
      simp only [show ¬ ((4 : Int) = 0) by decide, if_false]
      exact h
  · rw [if_neg hE] at h
    have h1 : oE E W H o ru s p q = E := if_neg hE
    unfold oNd oSt oL oC oR
    rw [h1]
    simp only [hE, if_false]
    exact h
end Go.Proofs.YtmmjaobpoiofdaaGreat
namespace Go.Proofs.YtmmjaobpoiofdaaGreat
open Go Go.RowKit
set_option linter.unusedVariables false
set_option linter.unusedSimpArgs false
set_option maxRecDepth 100000 in
set_option maxHeartbeats 4000000 in
theorem walk_acts (wide high : Int) (a ao rl ap : Option Addr) (n no q c co rn rc cp : Nat) (g : Nat → C4) (o : Nat → Int) (ru : Nat → Int × Int) (s : SiteR) (p : Nat → N6) (w : World) (hn : n ≤ maxLen) (hno : no ≤ maxLen) (hq : q ≤ maxLen) (hrm : rn ≤ maxLen) (hni : s.ni ≤ maxLen) (hnc : s.nc ≤ maxLen) (H : Sc w a n g) (HO : Sl w ao no o) (HS : s.lies w) (HP : Sn w ap q p) (HW : ∀ k, k < q → wfN (p k)) (HR : Sr w rl rn ru) :
    Calls Tryz.prog 3 #[.agg #[.int .i64 wide, .int .i64 high, .slice a n c, .slice ao no co], .slice rl rn rc, .agg #[.int .i64 s.nd, .int .i64 s.st, .slice s.ix s.ni s.ci, .slice s.cl s.nc s.cc, .slice ap q cp]] w fun e w' => e = .returned (.bool true) ∧ Below w.heap.size w w' := by
  have hsm := fun W => law5_Small wide high 300 a ao n no c co W
  have hlt := fun al cl W S => law5_Light al ap 1 q cl cp (fun _ => s) W (by simp [maxLen]) hq (fun k hk => ⟨hni, hnc⟩) S
  unfold maxLen at hn hno hq hni hnc hrm
  have hliB := fun W hb => HS.below (w' := W) hb
  have X0 := (Bx.new w #[.int .i64 wide, .int .i64 high, .slice a n c, .slice ao no co] 27).alloc (.cells #[.int .i64 s.nd, .int .i64 s.st, .slice s.ix s.ni s.ci, .slice s.cl s.nc s.cc, .slice ap q cp] 33)
  have X1 := Bx.new (w.alloc (.cells #[.int .i64 wide, .int .i64 high, .slice a n c, .slice ao no co] 27)) #[.int .i64 s.nd, .int .i64 s.st, .slice s.ix s.ni s.ci, .slice s.cl s.nc s.cc, .slice ap q cp] 33
  simp only [World.size_alloc] at X1
  have hB0 : Below w.heap.size w ((w.alloc (.cells #[.int .i64 wide, .int .i64 high, .slice a n c, .slice ao no co] 27)).alloc (.cells #[.int .i64 s.nd, .int .i64 s.st, .slice s.ix s.ni s.ci, .slice s.cl s.nc s.cc, .slice ap q cp] 33)) := by (repeat' (first | with_reducible assumption | with_reducible exact Below.refl _ _ | with_reducible refine Below.drew ?_ | with_reducible refine below_drewN ?_ _ | with_reducible refine balloc ?_ _ | with_reducible refine bset ?_ ?_ _ | with_reducible refine Below.setCell ?_ ?_ _ | with_reducible refine Below.alloc ?_ ?_ _ | omega | (simp; done) | (simp; omega)))
  cases hs : smallL n no 300
  · rw [hs] at hsm
    clear hlt
    go_enter Tryz.func3, Tryz.ntmps3
    go_wp2_with fail
    generalize ((w.alloc (.cells #[.int .i64 wide, .int .i64 high, .slice a n c, .slice ao no co] 27)).alloc (.cells #[.int .i64 s.nd, .int .i64 s.st, .slice s.ix s.ni s.ci, .slice s.cl s.nc s.cc, .slice ap q cp] 33)) = W0 at X0 X1 hB0 ⊢
    have z0 := X0.lt
    have z1 := X1.lt
    refine (hsm _).mono ?_
    rintro e w1 ⟨rfl, hb1⟩
    go_wp2_with fail
    refine (awake_node _).mono ?_
    rintro e w2 ⟨rfl, hb2⟩
    go_wp2
    go_ret
    exact ⟨rfl, bvia (bvia hB0 hb1) hb2⟩
  obtain ⟨t1, t2⟩ := smallL_iff.1 hs
  rw [hs] at hsm
  clear hs
  go_enter Tryz.func3, Tryz.ntmps3
  go_wp2_with fail
  generalize ((w.alloc (.cells #[.int .i64 wide, .int .i64 high, .slice a n c, .slice ao no co] 27)).alloc (.cells #[.int .i64 s.nd, .int .i64 s.st, .slice s.ix s.ni s.ci, .slice s.cl s.nc s.cc, .slice ap q cp] 33)) = W0 at X0 X1 hB0 ⊢
  have z0 := X0.lt
  have z1 := X1.lt
  refine (hsm _).mono ?_
  rintro e w1 ⟨rfl, hb1⟩
  have X01 := X0.below hb1; have X11 := X1.below hb1
  have B1 := bvia hB0 hb1
  clear hsm hb1 X0 X1 hB0
  have y0 := X11.at_ 0 rfl; have y1 := X11.at_ 1 rfl; have y2 := X11.at_ 2 rfl; have y3 := X11.at_ 3 rfl; have y4 := X11.at_ 4 rfl; have ly := X11.lt
  have X02 := X01.alloc (.cells #[.int .i64 s.nd, .int .i64 s.st, .slice s.ix s.ni s.ci, .slice s.cl s.nc s.cc] 30)
  have X12 := X11.alloc (.cells #[.int .i64 s.nd, .int .i64 s.st, .slice s.ix s.ni s.ci, .slice s.cl s.nc s.cc] 30)
  have B2 := balloc B1 (.cells #[.int .i64 s.nd, .int .i64 s.st, .slice s.ix s.ni s.ci, .slice s.cl s.nc s.cc] 30)
  have XS := Bx.new w1 #[.int .i64 s.nd, .int .i64 s.st, .slice s.ix s.ni s.ci, .slice s.cl s.nc s.cc] 30
  have S2 : Ss (w1.alloc (.cells #[.int .i64 s.nd, .int .i64 s.st, .slice s.ix s.ni s.ci, .slice s.cl s.nc s.cc] 30)) (some ⟨w1.heap.size, 0, none⟩) 1 (fun _ => s) := fun k hk => by
    obtain rfl : k = 0 := by omega
    exact ⟨w1.heap.size, 0, rfl, XS.lt, XS.at_ 0 rfl, XS.at_ 1 rfl, XS.at_ 2 rfl, XS.at_ 3 rfl, hliB _ B2⟩
  go_wp2_with fail
  refine (hlt _ _ _ S2).mono ?_
  rintro e W3 ⟨⟨b, rfl, hb⟩, hb3⟩
  cases b
  · go_wp2_with fail
    refine (awake_node _).mono ?_
    rintro e w4 ⟨rfl, hb4⟩
    go_wp2
    go_ret
    exact ⟨rfl, bvia (bvia B2 hb3) hb4⟩
  have X03 := X02.below hb3; have X13 := X12.below hb3
  have B3 := bvia B2 hb3
  clear hlt hb3 X01 X11 X02 X12 XS S2 B1 B2 y0 y1 y2 y3 y4 ly
  obtain ⟨_, m2, m3⟩ := hb rfl
  obtain ⟨m4, m5⟩ := m3 0 (by omega)
  dsimp only at m4 m5
  clear hb m3
  by_cases hr : 20 < rn
  · have hri : (20 : Int) < (rn : Int) := by omega
    go_wp2_with fail
    refine (awake_node _).mono ?_
    rintro e w4 ⟨rfl, hb4⟩
    go_wp2
    go_ret
    exact ⟨rfl, bvia B3 hb4⟩
  have hP := fun W S SO SP SS SR => node_Act wide high a ao rl ap n no q c co rn rc cp g o ru p s W (by omega) (by omega) (by omega) (by omega) (by omega) (by omega) S SO SP HW SS SR
  have hR := fun W S SO SP SS SR => ref5_Act wide high a ao rl ap n no q c co rn rc cp g o ru p s W (by omega) (by omega) (by omega) (by omega) (by omega) (by omega) S SO SP HW SS SR
  obtain ⟨E, hE⟩ : ∃ E, actA (validM wide high n g no o) (rulesB rn ru) (postB wide.toNat high.toNat o no q p) (hasB o no s.nd) (siteB o no s) (readyB wide.toNat high.toNat o no q p s.nd s.st) (s.st == 1000000) = E := ⟨_, rfl⟩
  rw [hE] at hP hR
  have hP' := fun W S SO SP SS SR => (hP W S SO SP SS SR).mono fun e w' h => actO_post h
  have hR' := fun W S SO SP SS SR => (hR W S SO SP SS SR).mono fun e w' h => actO_post h
  clear hP hR
  generalize hE1 : oE E wide.toNat high.toNat o (ru (s.st.toNat % rn)) s p q = E1 at *
  generalize hN1 : oNd E wide.toNat high.toNat o (ru (s.st.toNat % rn)) s p q = N1 at *
  generalize hT1 : oSt E wide.toNat high.toNat o (ru (s.st.toNat % rn)) s p q = T1 at *
  generalize hL1 : oL E wide.toNat high.toNat o (ru (s.st.toNat % rn)) no s p q = L1 at *
  generalize hC1 : oC E wide.toNat high.toNat o (ru (s.st.toNat % rn)) s p q = C1 at *
  generalize hR1 : oR E wide.toNat high.toNat o (ru (s.st.toNat % rn)) s p q = R1 at *
  have HE := hid hE; have HE1 := hid hE1; have HN1 := hid hN1; have HT1 := hid hT1; have HL1 := hid hL1; have HC1 := hid hC1; have HR1 := hid hR1
  clear hE hE1 hN1 hT1 hL1 hC1 hR1
  have hL9 : L1.length ≤ 100000 := by
    rw [← HL1.out]
    unfold oL
    split
    · exact Nat.le_trans (ownL_length _ _ _) (by omega)
    · simp
  have hR9 : R1.length ≤ 100000000 := by
    rw [← HR1.out]
    unfold oR
    split
    · rename_i h0
      rw [sortN_length]
      have h1 := (oE_zero h0).2
      unfold actE at h1
      split at h1
      · cases h1
      · omega
    · simp
  have hR8 : R1.length ≤ 1000000 := by
    rw [← HR1.out]
    unfold oR
    split
    · rename_i h0
      rw [sortN_length]
      have h1 := (oE_zero h0).2
      unfold actE at h1
      split at h1
      · cases h1
      · omega
    · simp
  have HL1L := hid hL9; have HR1L := hid hR9; have HRR := hid hR8
  clear hL9 hR9 hR8
  unfold SiteR.cells at hP' hR'
  have y0 := X03.at_ 0 rfl; have y1 := X03.at_ 1 rfl; have y2 := X03.at_ 2 rfl; have y3 := X03.at_ 3 rfl; have ly := X03.lt
  have x0 := X13.at_ 0 rfl; have x1 := X13.at_ 1 rfl; have x2 := X13.at_ 2 rfl; have x3 := X13.at_ 3 rfl; have x4 := X13.at_ 4 rfl; have lx := X13.lt
  go_wp2_with fail
  refine (hP' _ (H.below B3) (HO.below B3) (HP.below B3) (HS.below B3) (HR.below B3)).mono ?_
  rintro e w4 ⟨⟨und, ust, uix, uni, uci, ucl, unc, ucc, uI, uC⟩, vp, rfl, hu, hu1, hu2, hu3, hu4, hu5, hu6, hu7, hu8, hou, hb4⟩
  unfold SiteR.cells
  dsimp only at hu hu1 hu2 hu3 hu4 hu5 hu6 hu7 hu8 ⊢
  obtain rfl := hu2
  obtain rfl := hu3
  subst hu4 hu5
  have X04 := X03.below hb4; have X14 := X13.below hb4
  have B4 := bvia B3 hb4
  clear hP' hb4 X03 X13 B3 y0 y1 y2 y3 ly x0 x1 x2 x3 x4 lx
  have y0 := X04.at_ 0 rfl; have y1 := X04.at_ 1 rfl; have y2 := X04.at_ 2 rfl; have y3 := X04.at_ 3 rfl; have ly := X04.lt
  have x0 := X14.at_ 0 rfl; have x1 := X14.at_ 1 rfl; have x2 := X14.at_ 2 rfl; have x3 := X14.at_ 3 rfl; have x4 := X14.at_ 4 rfl; have lx := X14.lt
  obtain ⟨pa, pc, rfl, SP⟩ := sn_of_own hou
  have XU := Bx.new w4 #[.int .i64 und, .int .i64 ust, .slice uix L1.length uci, .slice ucl L1.length ucc] 30
  have hb45 : Below w4.heap.size w4 (w4.alloc (.cells #[.int .i64 und, .int .i64 ust, .slice uix L1.length uci, .slice ucl L1.length ucc] 30)) := below_alloc _ _
  have B5 := bvia B4 hb45
  go_wp2_with fail
  refine (hR' _ (H.below B5) (HO.below B5) (HP.below B5) (HS.below B5) (HR.below B5)).mono ?_
  rintro e w6 ⟨⟨vnd, vst, vix, vni, vci, vcl, vnc, vcc, vI, vC⟩, vq, rfl, hv, hv1, hv2, hv3, hv4, hv5, hv6, hv7, hv8, hov, hb6⟩
  unfold SiteR.cells
  dsimp only at hv hv1 hv2 hv3 hv4 hv5 hv6 hv7 hv8 ⊢
  obtain rfl := hv2
  obtain rfl := hv3
  subst hv4 hv5
  obtain ⟨qa, qc, rfl, SQ⟩ := sn_of_own hov
  have hb46 := bvia hb45 hb6
  have X06 := X04.below hb46; have X16 := X14.below hb46; have XU6 := XU.below hb6
  have B6 := bvia B5 hb6
  have hu6' := hu.below hb46
  have SP6 := SP.below hb46
  have hss := fun W S1 S2 => ref5_SameSite ⟨vnd, vst, uix, L1.length, uci, ucl, L1.length, ucc, uI, uC⟩ ⟨vnd, vst, vix, L1.length, vci, vcl, L1.length, vcc, vI, vC⟩ W ⟨rfl, rfl, rfl, rfl, fun k hk => (hu6 k hk).trans (hv6 k hk).symm, fun k hk => (hu7 k hk).trans (hv7 k hk).symm⟩ HL1L.out HL1L.out S1 S2
  have hsn := fun W S1 S2 => ref5_SameNotes pa qa R1.length R1.length pc qc (fun k => R1.getD k N6.zero) (fun k => R1.getD k N6.zero) W HR1L.out HR1L.out S1 S2
  rw [sameN_self] at hsn
  have XV := Bx.new w6 #[.int .i64 vnd, .int .i64 vst, .slice vix L1.length vci, .slice vcl L1.length vcc] 30
  have hb67 : Below w6.heap.size w6 (w6.alloc (.cells #[.int .i64 vnd, .int .i64 vst, .slice vix L1.length vci, .slice vcl L1.length vcc] 30)) := below_alloc _ _
  replace X06 := X06.below hb67; replace X16 := X16.below hb67; replace XU6 := XU6.below hb67
  have B7 := bvia B6 hb67
  have hu7' := hu6'.below hb67; have SP7 := SP6.below hb67; have hv7' := hv.below hb67; have SQ7 := SQ.below hb67
  (try clear hu6'; try clear SP6; try clear hu; try clear hv; try clear SP; try clear SQ; try clear B6; try clear X04; try clear X14; try clear y0; try clear y1; try clear y2; try clear y3; try clear ly; try clear x0; try clear x1; try clear x2; try clear x3; try clear x4; try clear lx; try clear XU; try clear hb45; try clear B5; try clear hb46; try clear B4; try clear hov; try clear hb6)
  have u0 := XU6.at_ 0 rfl; have u1 := XU6.at_ 1 rfl; have u2 := XU6.at_ 2 rfl; have u3 := XU6.at_ 3 rfl; have lu := XU6.lt
  have v0 := XV.at_ 0 rfl; have v1 := XV.at_ 1 rfl; have v2 := XV.at_ 2 rfl; have v3 := XV.at_ 3 rfl; have lv := XV.lt
  go_wp2_with fail
  refine (hss _ hu7' hv7').mono ?_
  rintro e w8 ⟨rfl, hb8⟩
  have SP8 := SP7.below hb8; have SQ8 := SQ7.below hb8; have hu8' := hu7'.below hb8
  have X18 := X16.below hb8; have XU8 := XU6.below hb8
  have B8 := bvia B7 hb8
  clear u0 u1 u2 u3 lu v0 v1 v2 v3 lv hss hb8 SP7 SQ7 hu7' hv7' X16 XU6 B7 XV
  go_wp2_with fail
  refine (hsn _ SP8 SQ8).mono ?_
  rintro e w9 ⟨rfl, hb9⟩
  have SP9 := SP8.below hb9; have hu9' := hu8'.below hb9; have X19 := X18.below hb9; have XU9 := XU8.below hb9
  have B9 := bvia B8 hb9
  clear hsn SP8 SQ8 hu8' X18 XU8 hb9 B8
  cases h0 : (E1 != 0)
  rotate_left
  · go_wp2_with fail
    refine (awake_node _).mono ?_
    rintro e w10 ⟨rfl, hb10⟩
    go_wp2
    go_ret
    exact ⟨rfl, bvia B9 hb10⟩
  have hE0 : E1 = 0 := by simpa using h0
  obtain rfl := hE0
  clear h0
  have hkeep : mssL (allI (fun _ => s) 1 p q) ≠ 0 → mssL (allI (fun _ => (⟨vnd, vst, uix, L1.length, uci, ucl, L1.length, ucc, uI, uC⟩ : SiteR)) 1 (fun k => R1.getD k N6.zero) R1.length) = mssL (allI (fun _ => s) 1 p q) := fun hne => by
    obtain ⟨e1, e2⟩ := oE_zero HE1.out
    have hA := HE.out
    rw [e1] at hA
    obtain ⟨hv, hr, hq', hh, hb, _, _⟩ := actA_zero hA
    obtain ⟨Wd, Hd, ew, eh, p1, p2, v1, v2, hnn, hn4, hoo, hob, _, _⟩ := validM_sides hv
    have f1 : L1 = ownL o s.nd no := by rw [← HL1.out]; unfold oL; rw [if_pos HE1.out]
    have f2 : C1 = actC wide.toNat high.toNat o (ru (s.st.toNat % rn)) s p q := by rw [← HC1.out]; unfold oC; rw [if_pos HE1.out]
    have f3 : R1 = sortN (actN wide.toNat high.toNat o (ru (s.st.toNat % rn)) s p q) := by rw [← HR1.out]; unfold oR; rw [if_pos HE1.out]
    rw [f3]
    refine act_keeps (no := no) hb hq' (by rw [ew, eh, Int.toNat_natCast, Int.toNat_natCast]; omega) e2 (by rw [f1]) (fun k hk => ?_) hne
    have := hu7 k (by rw [f1]; exact hk)
    rw [f1, f2] at this
    exact this
  have HK := hid hkeep
  clear hkeep
  have B10 := balloc B9 (.cells #[.int .i64 s.nd, .int .i64 s.st, .slice s.ix s.ni s.ci, .slice s.cl s.nc s.cc] 30)
  have XS := Bx.new w9 #[.int .i64 s.nd, .int .i64 s.st, .slice s.ix s.ni s.ci, .slice s.cl s.nc s.cc] 30
  have S10 : Ss (w9.alloc (.cells #[.int .i64 s.nd, .int .i64 s.st, .slice s.ix s.ni s.ci, .slice s.cl s.nc s.cc] 30)) (some ⟨w9.heap.size, 0, none⟩) 1 (fun _ => s) := fun k hk => by
    obtain rfl : k = 0 := by omega
    exact ⟨w9.heap.size, 0, rfl, XS.lt, XS.at_ 0 rfl, XS.at_ 1 rfl, XS.at_ 2 rfl, XS.at_ 3 rfl, hliB _ B10⟩
  have hb910 : Below w9.heap.size w9 (w9.alloc (.cells #[.int .i64 s.nd, .int .i64 s.st, .slice s.ix s.ni s.ci, .slice s.cl s.nc s.cc] 30)) := below_alloc _ _
  have hM1 := fun cl => node_Mass (some ⟨w9.heap.size, 0, none⟩) ap 1 q cl cp (fun _ => s) p _ (by omega) (fun k hk => by omega) (by omega) (by rw [allI_len]; omega) S10 (HP.below B10)
  have x0 := X19.at_ 0 rfl; have x1 := X19.at_ 1 rfl; have x2 := X19.at_ 2 rfl; have x3 := X19.at_ 3 rfl; have x4 := X19.at_ 4 rfl; have lx := X19.lt
  go_wp2_with fail
  refine (hM1 _).mono ?_
  rintro e w11 ⟨rfl, hb11⟩
  have hb911 := bvia hb910 hb11
  have SP11 := SP9.below hb911; have hu11 := hu9'.below hb911; have XU11 := XU9.below hb911
  have B11 := bvia B9 hb911
  clear x0 x1 x2 x3 x4 lx hM1 hb11 S10 XS B10 SP9 hu9' XU9 X19 hb910 hb911
  obtain ⟨M, hM⟩ : ∃ M, mssL (allI (fun _ => s) 1 p q) = M := ⟨_, rfl⟩
  rw [hM]
  by_cases hM0 : M = 0
  · obtain rfl := hM0
    go_wp2_with fail
    refine (awake_node _).mono ?_
    rintro e w12 ⟨rfl, hb12⟩
    go_wp2
    go_ret
    exact ⟨rfl, bvia B11 hb12⟩
  have hMb : (M == 0) = false := by rw [beq_eq_false_iff_ne]; exact hM0
  have hKM := HK.out (by rw [hM]; exact hM0)
  rw [hM] at hKM
  clear HK hM
  have B12 := balloc B11 (.cells #[.int .i64 vnd, .int .i64 vst, .slice uix L1.length uci, .slice ucl L1.length ucc] 30)
  have XS := Bx.new w11 #[.int .i64 vnd, .int .i64 vst, .slice uix L1.length uci, .slice ucl L1.length ucc] 30
  have hb1112 : Below w11.heap.size w11 (w11.alloc (.cells #[.int .i64 vnd, .int .i64 vst, .slice uix L1.length uci, .slice ucl L1.length ucc] 30)) := below_alloc _ _
  have S12 : Ss (w11.alloc (.cells #[.int .i64 vnd, .int .i64 vst, .slice uix L1.length uci, .slice ucl L1.length ucc] 30)) (some ⟨w11.heap.size, 0, none⟩) 1 (fun _ => (⟨vnd, vst, uix, L1.length, uci, ucl, L1.length, ucc, uI, uC⟩ : SiteR)) := fun k hk => by
    obtain rfl : k = 0 := by omega
    exact ⟨w11.heap.size, 0, rfl, XS.lt, XS.at_ 0 rfl, XS.at_ 1 rfl, XS.at_ 2 rfl, XS.at_ 3 rfl, hu11.below hb1112⟩
  have hq9 := HRR.out
  have hM2 := fun cl => node_Mass (some ⟨w11.heap.size, 0, none⟩) pa 1 R1.length cl pc (fun _ => (⟨vnd, vst, uix, L1.length, uci, ucl, L1.length, ucc, uI, uC⟩ : SiteR)) (fun k => R1.getD k N6.zero) _ (by omega) (fun k hk => HL1L.out) hq9 (by rw [allI_len]; have := HL1L.out; dsimp only; omega) S12 (SP11.below hb1112)
  rw [hKM] at hM2
  have u0 := XU11.at_ 0 rfl; have u1 := XU11.at_ 1 rfl; have u2 := XU11.at_ 2 rfl; have u3 := XU11.at_ 3 rfl; have lu := XU11.lt
  go_wp2_with fail
  refine (hM2 _).mono ?_
  rintro e w13 ⟨rfl, hb13⟩
  go_wp2_with fail
  refine (awake_node _).mono ?_
  rintro e w14 ⟨rfl, hb14⟩
  go_wp2
  go_ret
  exact ⟨rfl, bvia (bvia B12 hb13) hb14⟩
end Go.Proofs.YtmmjaobpoiofdaaGreat
