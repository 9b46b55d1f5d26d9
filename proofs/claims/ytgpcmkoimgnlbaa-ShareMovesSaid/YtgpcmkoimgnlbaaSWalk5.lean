/- Walks of the share layer: the best share of the program. -/
import Derived.Test.YtgpcmkoimgnlbaaSWalk4
import Derived.Deep.LoopGhost
namespace Go.Proofs.Ytgpcmkoimgnlbaa
open Go Go.RowKit
set_option linter.unusedVariables false
theorem Sl.sub {w : World} {b off n x : Nat} {f : Nat → Int} (h : Sl w (some ⟨b, off, none⟩) n f) (hx : x ≤ n) : Sl w (some ⟨b, off + x, none⟩) (n - x) (fun i => f (x + i)) := fun k hk => by
  obtain ⟨b', o', e, h1, h2⟩ := h (x + k) (by omega)
  injection e with e; injection e with e1 e2 _
  subst e1 e2
  exact ⟨b, off + x, rfl, h1, by rw [Nat.add_assoc]; exact h2⟩
theorem ent_best : ∀ args w, (callFunc 71 args).run Try.prog w = .ok (.enter 71 args) w := Go.Proofs.enters_of Try.func71 (by kernel_rfl) rfl
set_option maxRecDepth 100000 in
set_option maxHeartbeats 1000000 in
theorem share_best1 (n ca left bl bk bm x : Nat) (a : Option Addr) (f : Nat → Int) (M : Int) (W : World) (hn : n ≤ 64) (hca : n ≤ ca) (hca2 : ca ≤ maxLen) (hf : okF n f) (hM : 0 ≤ M) (hM2 : M ≤ 64000000000) (Xl : Bx W bl #[.slice a n ca]) (Xk : Bx W bk #[.int .i64 (left : Int)]) (Xm : Bx W bm #[.int .i64 M]) (H : Sl W a n f) (hx : x ≤ n) :
    Calls Try.prog 71 (#[.int .i64 (x : Int)] ++ #[.pointer (some ⟨bl, 0, none⟩), .pointer (some ⟨bk, 0, none⟩), .pointer (some ⟨bm, 0, none⟩)]) W fun e W' => e = .returned (.bool (goB f n M left x)) ∧ Below W.heap.size W W' := by
  show Calls Try.prog 71 #[.int .i64 (x : Int), .pointer (some ⟨bl, 0, none⟩), .pointer (some ⟨bk, 0, none⟩), .pointer (some ⟨bm, 0, none⟩)] W _
  unfold maxLen at hca2
  by_cases hxn : x = n
  · subst hxn
    have l0 := Xl.at_ 0 rfl
    have hg : goB f x M left x = true := by simp [goB]
    have HG := hid hg; clear hg
    go_enter Try.func71, Try.ntmps71
    go_upto_region 1 with (fail)
    go_quiet (fail)
    go_wp2
    go_ret
    exact ⟨ret_bool HG.out.symm, by (repeat' (first | with_reducible assumption | with_reducible exact Below.refl _ _ | with_reducible refine Below.drew ?_ | with_reducible refine below_drewN ?_ _ | with_reducible refine balloc ?_ _ | with_reducible refine bset ?_ ?_ _ | with_reducible refine Below.setCell ?_ ?_ _ | with_reducible refine Below.alloc ?_ ?_ _ | omega | (simp; done) | (simp; omega)))⟩
  · have hlt : x < n := by omega
    obtain ⟨b, off, rfl, hb, hc0⟩ := H x hlt
    have HS := H.sub hx
    have hg : goB f n M left x = fitsB (fun i => f (x + i)) (n - x) left M := by simp [goB, hxn]
    rw [hg]
    have hfit := fun Y (hY : Below W.heap.size W Y) => share_fits (some ⟨b, off + x, none⟩) (n - x) (ca - x) left (fun i => f (x + i)) M Y (by omega) (fun k hk => hf (x + k) (by omega)) hM hM2 (HS.below hY)
    generalize fitsB (fun i => f (x + i)) (n - x) left M = v at *
    have r0 : ∀ Y, Below W.heap.size W Y → Y.cell? ⟨bl, 0, none⟩ = some (.slice (some ⟨b, off, none⟩) n ca) := fun Y h => (Xl.below h).at_ 0 rfl
    have r1 : ∀ Y, Below W.heap.size W Y → Y.cell? ⟨bk, 0, none⟩ = some (.int .i64 (left : Int)) := fun Y h => (Xk.below h).at_ 0 rfl
    have r2 : ∀ Y, Below W.heap.size W Y → Y.cell? ⟨bm, 0, none⟩ = some (.int .i64 M) := fun Y h => (Xm.below h).at_ 0 rfl
    have hne : ((x : Int) == (n : Int)) = false := by simp; omega
    have hd1 : (0 : Int) ≤ (x : Int) := by omega
    have hd2 : (x : Int) ≤ (n : Int) := by omega
    have hd3 : (n : Int) ≤ (ca : Int) := by omega
    have hd4 : ¬ ca = x := by omega
    clear hg HS hc0 Xl Xk Xm H hf
    go_enter Try.func71, Try.ntmps71
    go_upto_region 1 with (fail)
    go_region_held3 (fun Y => Below W.heap.size W Y) ((repeat' (first | with_reducible assumption | with_reducible exact Below.refl _ _ | with_reducible refine Below.drew ?_ | with_reducible refine below_drewN ?_ _ | with_reducible refine balloc ?_ _ | with_reducible refine bset ?_ ?_ _ | with_reducible refine Below.setCell ?_ ?_ _ | with_reducible refine Below.alloc ?_ ?_ _ | omega | (simp; done) | (simp; omega))))
      ((first
        | (go_at_call 47; refine (hfit _ (by (repeat' (first | with_reducible assumption | with_reducible exact Below.refl _ _ | with_reducible refine Below.drew ?_ | with_reducible refine below_drewN ?_ _ | with_reducible refine balloc ?_ _ | with_reducible refine bset ?_ ?_ _ | with_reducible refine Below.setCell ?_ ?_ _ | with_reducible refine Below.alloc ?_ ?_ _ | omega | (simp; done) | (simp; omega))))).mono ?_; rintro e w1 ⟨rfl, hb1⟩; have hB1 : Below W.heap.size W w1 := bvia (by (repeat' (first | with_reducible assumption | with_reducible exact Below.refl _ _ | with_reducible refine Below.drew ?_ | with_reducible refine below_drewN ?_ _ | with_reducible refine balloc ?_ _ | with_reducible refine bset ?_ ?_ _ | with_reducible refine Below.setCell ?_ ?_ _ | with_reducible refine Below.alloc ?_ ?_ _ | omega | (simp; done) | (simp; omega)))) hb1)
        | fail))
    all_goals
      go_wp2_with fail
      go_ret
      exact ⟨rfl, by (repeat' (first | with_reducible assumption | with_reducible exact Below.refl _ _ | with_reducible refine Below.drew ?_ | with_reducible refine below_drewN ?_ _ | with_reducible refine balloc ?_ _ | with_reducible refine bset ?_ ?_ _ | with_reducible refine Below.setCell ?_ ?_ _ | with_reducible refine Below.alloc ?_ ?_ _ | omega | (simp; done) | (simp; omega)))⟩
theorem goB_mono {f : Nat → Int} {n : Nat} {M : Int} (h : ∀ k, k < n → 0 ≤ f k) (hM : 0 ≤ M) {left x y : Nat} (hl : 0 < left) (hxy : x ≤ y) (hy : y ≤ n) (hx : goB f n M left x = true) : goB f n M left y = true := by
  obtain ⟨m, rfl⟩ : ∃ m, left = m + 1 := ⟨left - 1, by omega⟩
  exact (goB_iff h hM hy).2 (((goB_iff h hM (by omega)).1 hx).left h hxy hy (Nat.le_refl _) hM)
theorem best_next {f : Nat → Int} {n left x : Nat} {M : Int} {cs L : List Int} (h : cs ++ bestL f n M (left + 1) x = L) : (cs ++ [(cutN f n M (left + 1) x : Int)]) ++ bestL f n M left (cutN f n M (left + 1) x) = L := by
  rw [← h]; simp [bestL]
theorem append_le {cs t L : List Int} (h : cs ++ t = L) : cs.length ≤ L.length := by rw [← h]; simp
set_option maxRecDepth 100000 in
set_option maxHeartbeats 4000000 in
theorem share_best (a : Option Addr) (n ca k : Nat) (f : Nat → Int) (w : World) (hv : validL n f) (hk : 0 < k) (hk2 : k ≤ 16) (hca : n ≤ ca) (hca2 : ca ≤ maxLen) (H : Sl w a n f) :
    Calls Try.prog 44 #[.slice a n ca, .int .i64 (k : Int)] w fun e w' => ∃ v, e = .returned v ∧ w'.ownsRow w.heap.size 3 1 v (bestL f n (leastL f n k) (k - 1) 0).length ((bestL f n (leastL f n k) (k - 1) 0).map vInt) ∧ Below w.heap.size w w' := by
  obtain ⟨i0, hi, hz0, hz1, hz2⟩ := info_parts infoI
  have hll := hid (bestL_length f n (leastL f n k) (k - 1) 0)
  have HR := hid ((leastL_iff (validL_nonneg hv) hk (leastL_nonneg (validL_nonneg hv) hk)).1 (Int.le_refl _))
  have l0 := leastL_nonneg (validL_nonneg hv) hk
  have l1 := leastL_le (validL_nonneg hv) hk
  have l2 := (sumTo_most hv.2.2 n (Nat.le_refl _)).2
  have hl := fun W H => share_least a n ca k f W hv hk H
  obtain ⟨v1, v2, hf⟩ := hv
  obtain ⟨L, hL⟩ : ∃ L, leastL f n k = L := ⟨_, rfl⟩
  rw [hL] at hll HR l0 l1 hl
  have l3 : L ≤ 64000000000 := by omega
  clear l1 l2
  have HL := hid hL; clear hL
  have HF := hid hf; clear hf
  have X0 := Bx.new w #[.slice a n ca] 22
  have hB0 : Below w.heap.size w (w.alloc (.cells #[.slice a n ca] 22)) := by (repeat' (first | with_reducible assumption | with_reducible exact Below.refl _ _ | with_reducible refine Below.drew ?_ | with_reducible refine below_drewN ?_ _ | with_reducible refine balloc ?_ _ | with_reducible refine bset ?_ ?_ _ | with_reducible refine Below.setCell ?_ ?_ _ | with_reducible refine Below.alloc ?_ ?_ _ | omega | (simp; done) | (simp; omega)))
  go_enter Try.func44, Try.ntmps44
  go_wp2_with fail
  generalize (w.alloc (.cells #[.slice a n ca] 22)) = W0 at X0 hB0 ⊢
  have z0 := X0.lt
  have hB := hB0
  clear hB0
  replace H := H.below hB
  refine (hl _ H).mono ?_
  rintro e w1 ⟨rfl, hb1⟩
  replace X0 := X0.below hb1
  replace H := H.below hb1
  replace hB := bvia hB hb1
  clear hb1
  replace X0 := X0.alloc (.cells #[.int .i64 L] 3)
  replace H := H.alloc (.cells #[.int .i64 L] 3)
  have XM := Bx.new w1 #[.int .i64 L] 3
  replace hB := balloc hB (.cells #[.int .i64 L] 3)
  obtain ⟨w2, hw2⟩ : ∃ w2, w1.alloc (.cells #[.int .i64 L] 3) = w2 := ⟨_, rfl⟩
  have XK := Bx.new w2 #[.int .i64 ((k : Int) - 1)] 3
  have hbk : Below w2.heap.size w2 (w2.alloc (.cells #[.int .i64 ((k : Int) - 1)] 3)) := below_alloc _ _
  have hs2 : w2.heap.size = w1.heap.size + 1 := by rw [← hw2]; simp
  rw [hw2] at X0 H XM hB
  go_wp2_with fail
  have hkk : (k : Int) - 1 = ((k - 1 : Nat) : Int) := by omega
  generalize w2.alloc (.cells #[.int .i64 ((k : Int) - 1)] 3) = w3 at XK hbk ⊢
  rw [hkk] at XK
  obtain ⟨m, hm⟩ : ∃ m, k - 1 = m := ⟨_, rfl⟩
  have hk16 : m ≤ 15 := by omega
  have hk17 : k = m + 1 := by omega
  rw [hm] at XK hll
  rw [hk17] at HR
  have HMK := hid hm; clear hm hk17
  have hzz : w1.heap.size + 1 = w2.heap.size := hs2.symm
  clear hw2 hs2 hkk
  go_loopg [6, 7, 8] m (fun left v s7 s8 wr => ∃ (x : Nat) (cs : List Int) (bl : Nat), s7 = .int .i64 (x : Int) ∧ s8 = .pointer (some ⟨bl, 0, none⟩) ∧ w2.heap.size ≤ bl ∧ Bx wr bl #[.int .i64 (left : Int)] ∧ (∀ g, v.ownBlock = some g → g ≠ bl) ∧ wr.ownsRow w2.heap.size 3 1 v cs.length (cs.map vInt) ∧ cs ++ bestL f n L left x = bestL f n L m 0 ∧ Rk f L (left + 1) x n ∧ x ≤ n ∧ Below w2.heap.size w2 wr)
  case atStart => exact ⟨0, [], w1.heap.size + 1, rfl, rfl, by omega, by rw [hzz]; exact XK, fun g hg => (by cases hg), World.ownsRow_nil .., by simp, HR.out, Nat.zero_le _, hbk⟩
  case round =>
    clear XK hbk
    obtain ⟨x, cs, bl, rfl, rfl, hbl, XB, hne, hown, hcs, hr, hx, hb⟩ := hrel
    have U0 := X0.below hb; have UM := XM.below hb; have HU := H.below hb
    have hzb := hb.size
    have hcl := append_le hcs
    rw [hll.out] at hcl
    have HNE := hid hne; clear hne
    rcases Nat.eq_zero_or_pos gk with h0 | h0
    · subst h0
      have hc : cs = bestL f n L m 0 := by rw [← hcs]; simp [bestL]
      have HC := hid hc; clear hc hcs
      have b0 := XB.at_ 0 rfl
      go_wp2_with fail
      go_ret
      rw [HL.out, HMK.out, ← HC.out]
      exact ⟨_, rfl, own_mono hown (by have := hB.size; omega), bvia hB hb⟩
    · obtain ⟨j, rfl⟩ : ∃ j, gk = j + 1 := ⟨gk - 1, by omega⟩
      have hj15 : j ≤ 15 := by
        have h := congrArg List.length hcs
        rw [List.length_append, bestL_length, bestL_length] at h
        omega
      have HCS := hid hcs; have HRR := hid hr; clear hcs hr
      have hcall := share_halved (fun y => goB f n L (j + 1) y.toNat) (x : Int) (n : Int) 71 #[.pointer (some ⟨w.heap.size, 0, none⟩), .pointer (some ⟨bl, 0, none⟩), .pointer (some ⟨w1.heap.size, 0, none⟩)] wr (by omega) (by omega) (by omega)
        (fun y z hy hyz hz h => goB_mono (okF_pos HF.out) l0 (by omega) (by omega) (by omega) h)
        (fun nn W h0 h1 hW => by
          have h := share_best1 n ca (j + 1) w.heap.size bl w1.heap.size nn.toNat a f L W v2 hca hca2 HF.out l0 l3 (U0.below hW) (XB.below hW) (UM.below hW) (HU.below hW) (by omega)
          rw [Int.toNat_of_nonneg (by omega)] at h
          exact h) ent_best
      have u0 := U0.at_ 0 rfl; have b0 := XB.at_ 0 rfl
      go_wp2_with fail
      refine hcall.mono ?_
      rintro e w4 ⟨z, rfl, z0, z1, z2, z3, hb4⟩
      have hz : cutN f n L (j + 1) x = z.toNat := firstN_unique hx (by omega) (by omega) (fun y h1 h2 => by have := z2 y (by omega) (by omega); simpa using this) (fun h => z3 (by omega))
      obtain ⟨d1, d2, d3, d4, d5⟩ := cutN_spec (okF_pos HF.out) l0 hx HRR.out
      obtain ⟨y, rfl⟩ : ∃ y : Nat, z = (y : Int) := ⟨z.toNat, by omega⟩
      rw [Int.toNat_natCast] at hz
      have hnext := best_next HCS.out
      rw [hz] at d1 d2 d4 hnext
      have hle2 := append_le hnext
      rw [hll.out] at hle2
      simp only [List.length_append, List.length_cons, List.length_nil] at hle2
      have HN := hid hnext; have HD := hid d4
      clear z2 z3 hz d3 d4 d5 hnext hcall u0 b0 hcl
      have hown4 := own_below hown hb4
      have XB4 := XB.below hb4
      have hbw4 := hb.trans (hb4.mono hzb)
      have hz4 := hb4.size
      have hlt4 := XB4.lt
      go_upto_region 8 with (fail)
      go_wp2_with ((at_builtin; refine wpList_append_own _ rfl _ _ 22 rfl (w2.heap.size) 3 i0 (.int .i64 0) 1 8 Try.underlying22 hi hz0 hz1 hz2 rfl (by decide) _ _ _ rfl ((hown4).alloc _) ⟨w4.heap.size, 0, none⟩ 1 1 [.int .i64 ((y : Int))] rfl rfl (cell_one_new _ _ _) (by simp [Value.oneCell']) (by simp [maxLen]; omega) (by omega) (by simp; omega) ?_; intro v' w5 hown' hgrow _); have XB5 := (XB4.alloc (.cells #[.int .i64 (y : Int)] 3)).grown hgrow (fun e => HNE.out bl e.symm rfl); have b5 := XB5.at_ 0 rfl)
      have hb5 : Below w2.heap.size w2 w5 := (hbw4.alloc (by omega) _).grown hgrow (by simp; omega) (own_base hown)
      have hz5 := hb5.size
      have hlt5 := own_lt hown'
      go_roundg j
      case measure => omega
      case rel =>
        refine ⟨y, cs ++ [(y : Int)], w5.heap.size, rfl, rfl, by omega, ?_, fun g hg => by have := hlt5 g hg; omega, (own_snoc hown').alloc _, HN.out, HD.out, by omega, hb5.alloc (by omega) _⟩
        first
          | exact Bx.new w5 _ _
          | (have e : ((j : Int) + 1 - 1) = (j : Int) := (by omega); have h := Bx.new w5 #[.int .i64 ((j : Int) + 1 - 1)] 3; rw [e] at h; exact h)
end Go.Proofs.Ytgpcmkoimgnlbaa
