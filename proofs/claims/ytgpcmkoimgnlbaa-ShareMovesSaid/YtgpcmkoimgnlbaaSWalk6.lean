/- Walks of the share layer: Best, Fits, Greedy and Nodes of the program; Greedy and Nodes of the reference. -/
import Derived.Test.YtgpcmkoimgnlbaaSWalk5
namespace Go.Proofs.Ytgpcmkoimgnlbaa
open Go Go.RowKit
set_option linter.unusedVariables false
/-- what Best gives -/
def besL (f : Nat → Int) (n : Nat) (k : Int) : List Int := if vL n f && within k 1 16 then bestL f n (leastL f n k.toNat) (k.toNat - 1) 0 else []
set_option maxRecDepth 100000 in
set_option maxHeartbeats 1000000 in
theorem share_Best (a : Option Addr) (n ca : Nat) (k : Int) (f : Nat → Int) (w : World) (hn : n ≤ 100000000) (hca : n ≤ ca) (hca2 : ca ≤ maxLen) (H : Sl w a n f) :
    Calls Try.prog 12 #[.slice a n ca, .int .i64 k] w (ListPost (besL f n k) (askE (vL n f) (within k 1 16)) w) := by
  cases hv : vL n f
  · have hE := hid (show besL f n k = [] by simp [besL, hv])
    go_enter Try.func12, Try.ntmps12
    go_wp2_with (go_at_call 40; refine (share_among a n ca k f _ hn H).mono ?_; rintro e w' ⟨rfl, rfl⟩; rw [hv])
    all_goals
      go_ret2
      rw [hE.out]
      exact listPost_nil (by (repeat' (first | with_reducible assumption | with_reducible exact Below.refl _ _ | with_reducible refine Below.drew ?_ | with_reducible refine below_drewN ?_ _ | with_reducible refine balloc ?_ _ | with_reducible refine bset ?_ ?_ _ | with_reducible refine Below.setCell ?_ ?_ _ | with_reducible refine Below.alloc ?_ ?_ _ | omega | (simp; done) | (simp; omega))))
  · cases hk : within k 1 16
    · have hE := hid (show besL f n k = [] by simp [besL, hk])
      go_enter Try.func12, Try.ntmps12
      go_wp2_with (go_at_call 40; refine (share_among a n ca k f _ hn H).mono ?_; rintro e w' ⟨rfl, rfl⟩; rw [hv, hk])
      go_ret2
      rw [hE.out]
      exact listPost_nil (by (repeat' (first | with_reducible assumption | with_reducible exact Below.refl _ _ | with_reducible refine Below.drew ?_ | with_reducible refine below_drewN ?_ _ | with_reducible refine balloc ?_ _ | with_reducible refine bset ?_ ?_ _ | with_reducible refine Below.setCell ?_ ?_ _ | with_reducible refine Below.alloc ?_ ?_ _ | omega | (simp; done) | (simp; omega))))
    · have hk2 := (within_iff _ _ _).1 hk
      obtain ⟨m, rfl⟩ : ∃ m : Nat, k = (m : Int) := ⟨k.toNat, by omega⟩
      have hE := hid (show besL f n m = bestL f n (leastL f n m) (m - 1) 0 by simp [besL, hv, hk])
      have hV := (vL_iff _ _).1 hv
      have hl := fun W H => share_best a n ca m f W hV (by omega) (by omega) hca hca2 H
      generalize bestL f n (leastL f n m) (m - 1) 0 = L at *
      go_enter Try.func12, Try.ntmps12
      go_wp2_with (first | (go_at_call 40; refine (share_among a n ca m f _ hn H).mono ?_; rintro e w' ⟨rfl, rfl⟩; rw [hv, hk]) | (go_at_call 44; refine (hl _ H).mono ?_; rintro e w1 ⟨v, rfl, hown, hb1⟩))
      go_ret2
      rw [hE.out]
      exact listPost_own hown hb1
def fiE (v k m : Bool) : Int := if v then (if k && m then 0 else 7) else 1
def fiB (f : Nat → Int) (n : Nat) (k M : Int) : Bool := vL n f && within k 1 16 && within M 0 64000000000 && fitsB f n k.toNat M
set_option maxRecDepth 100000 in
set_option maxHeartbeats 1000000 in
theorem share_Fits (a : Option Addr) (n ca : Nat) (k M : Int) (f : Nat → Int) (w : World) (hn : n ≤ 100000000) (H : Sl w a n f) :
    Calls Try.prog 15 #[.slice a n ca, .int .i64 k, .int .i64 M] w fun e w' => e = .returned (.tuple #[.bool (fiB f n k M), .int .i64 (fiE (vL n f) (within k 1 16) (within M 0 64000000000))]) ∧ Below w.heap.size w w' := by
  cases hv : vL n f
  · have hE := hid (show fiB f n k M = false by simp [fiB, hv])
    go_enter Try.func15, Try.ntmps15
    go_wp2_with (go_at_call 40; refine (share_among a n ca k f _ hn H).mono ?_; rintro e w' ⟨rfl, rfl⟩; rw [hv])
    all_goals
      go_ret2
      rw [hE.out]
      exact ⟨rfl, by (repeat' (first | with_reducible assumption | with_reducible exact Below.refl _ _ | with_reducible refine Below.drew ?_ | with_reducible refine below_drewN ?_ _ | with_reducible refine balloc ?_ _ | with_reducible refine bset ?_ ?_ _ | with_reducible refine Below.setCell ?_ ?_ _ | with_reducible refine Below.alloc ?_ ?_ _ | omega | (simp; done) | (simp; omega)))⟩
  · cases hk : within k 1 16
    · have hE := hid (show fiB f n k M = false by simp [fiB, hk])
      go_enter Try.func15, Try.ntmps15
      go_wp2_with (go_at_call 40; refine (share_among a n ca k f _ hn H).mono ?_; rintro e w' ⟨rfl, rfl⟩; rw [hv, hk])
      go_ret2
      rw [hE.out]
      exact ⟨rfl, by (repeat' (first | with_reducible assumption | with_reducible exact Below.refl _ _ | with_reducible refine Below.drew ?_ | with_reducible refine below_drewN ?_ _ | with_reducible refine balloc ?_ _ | with_reducible refine bset ?_ ?_ _ | with_reducible refine Below.setCell ?_ ?_ _ | with_reducible refine Below.alloc ?_ ?_ _ | omega | (simp; done) | (simp; omega)))⟩
    · have hk2 := (within_iff _ _ _).1 hk
      obtain ⟨m, rfl⟩ : ∃ m : Nat, k = (m : Int) := ⟨k.toNat, by omega⟩
      cases hM : within M 0 64000000000
      · have hE := hid (show fiB f n m M = false by simp [fiB, hM])
        go_enter Try.func15, Try.ntmps15
        go_wp2_with (first | (go_at_call 40; refine (share_among a n ca m f _ hn H).mono ?_; rintro e w' ⟨rfl, rfl⟩; rw [hv, hk]) | (go_at_call 46; refine (share_within _ _ _ _).mono ?_; rintro e w' ⟨rfl, rfl⟩; rw [hM]))
        go_ret2
        rw [hE.out]
        exact ⟨rfl, by (repeat' (first | with_reducible assumption | with_reducible exact Below.refl _ _ | with_reducible refine Below.drew ?_ | with_reducible refine below_drewN ?_ _ | with_reducible refine balloc ?_ _ | with_reducible refine bset ?_ ?_ _ | with_reducible refine Below.setCell ?_ ?_ _ | with_reducible refine Below.alloc ?_ ?_ _ | omega | (simp; done) | (simp; omega)))⟩
      · have hM2 := (within_iff _ _ _).1 hM
        obtain ⟨m0, m1⟩ := hM2
        have hV := (vL_iff _ _).1 hv
        have hE := hid (show fiB f n m M = fitsB f n m M by simp [fiB, hv, hk, hM])
        have hl := fun W H => share_fits a n ca m f M W hV.2.1 hV.2.2 m0 m1 H
        generalize fitsB f n m M = r at *
        go_enter Try.func15, Try.ntmps15
        go_wp2_with (first | (go_at_call 40; refine (share_among a n ca m f _ hn H).mono ?_; rintro e w' ⟨rfl, rfl⟩; rw [hv, hk]) | (go_at_call 46; refine (share_within _ _ _ _).mono ?_; rintro e w' ⟨rfl, rfl⟩; rw [hM]) | (go_at_call 47; refine (hl _ H).mono ?_; rintro e w1 ⟨rfl, hb1⟩))
        go_ret2
        rw [hE.out]
        exact ⟨rfl, hb1⟩
/-- what Greedy gives -/
def gdE (v m g : Bool) : Int := if v then (if m then (if g then 0 else 8) else 7) else 1
def gdB (f : Nat → Int) (n : Nat) (M : Int) : Bool := vL n f && within M 0 64000000000
def gdL (f : Nat → Int) (n : Nat) (M : Int) : List Int := if gdB f n M then grL f M n else []
theorem grL_no {f : Nat → Int} {n : Nat} {M : Int} (h : grB f M n = false) : grL f M n = [] := by
  unfold grB at h; unfold grL
  cases e : gr f M n with
  | none => rfl
  | some p => rw [e] at h; cases h
set_option maxRecDepth 100000 in
set_option maxHeartbeats 1000000 in
theorem share_Greedy (a : Option Addr) (n ca : Nat) (M : Int) (f : Nat → Int) (w : World) (hn : n ≤ 100000000) (H : Sl w a n f) :
    Calls Try.prog 30 #[.slice a n ca, .int .i64 M] w (ListPost (gdL f n M) (gdE (vL n f) (within M 0 64000000000) (grB f M n)) w) := by
  cases hv : vL n f
  · have hE := hid (show gdL f n M = [] by simp [gdL, gdB, hv])
    go_enter Try.func30, Try.ntmps30
    go_wp2_with (go_at_call 20; refine (share_valid _ _ _ f _ hn H).mono ?_; rintro e w' ⟨rfl, rfl⟩; rw [hv])
    go_ret2
    rw [hE.out]
    exact listPost_nil (by (repeat' (first | with_reducible assumption | with_reducible exact Below.refl _ _ | with_reducible refine Below.drew ?_ | with_reducible refine below_drewN ?_ _ | with_reducible refine balloc ?_ _ | with_reducible refine bset ?_ ?_ _ | with_reducible refine Below.setCell ?_ ?_ _ | with_reducible refine Below.alloc ?_ ?_ _ | omega | (simp; done) | (simp; omega))))
  · cases hM : within M 0 64000000000
    · have hE := hid (show gdL f n M = [] by simp [gdL, gdB, hM])
      go_enter Try.func30, Try.ntmps30
      go_wp2_with (first | (go_at_call 20; refine (share_valid _ _ _ f _ hn H).mono ?_; rintro e w' ⟨rfl, rfl⟩; rw [hv]) | (go_at_call 46; refine (share_within _ _ _ _).mono ?_; rintro e w' ⟨rfl, rfl⟩; rw [hM]))
      go_ret2
      rw [hE.out]
      exact listPost_nil (by (repeat' (first | with_reducible assumption | with_reducible exact Below.refl _ _ | with_reducible refine Below.drew ?_ | with_reducible refine below_drewN ?_ _ | with_reducible refine balloc ?_ _ | with_reducible refine bset ?_ ?_ _ | with_reducible refine Below.setCell ?_ ?_ _ | with_reducible refine Below.alloc ?_ ?_ _ | omega | (simp; done) | (simp; omega))))
    · have hM2 := (within_iff _ _ _).1 hM
      obtain ⟨m0, m1⟩ := hM2
      have hV := (vL_iff _ _).1 hv
      have hE := hid (show gdL f n M = grL f M n by simp [gdL, gdB, hv, hM])
      have hl := fun W H => share_greedy a n ca f M W hV.2.1 hV.2.2 m0 m1 H
      have hno := hid (fun h : grB f M n = false => grL_no h)
      generalize grL f M n = L at *
      cases hg : grB f M n
      · rw [hg] at hl
        have e0 := hid (hno.out hg)
        go_enter Try.func30, Try.ntmps30
        go_wp2_with (first | (go_at_call 20; refine (share_valid _ _ _ f _ hn H).mono ?_; rintro e w' ⟨rfl, rfl⟩; rw [hv]) | (go_at_call 46; refine (share_within _ _ _ _).mono ?_; rintro e w' ⟨rfl, rfl⟩; rw [hM]) | (go_at_call 60; refine (hl _ H).mono ?_; rintro e w1 ⟨a1, c1, rfl, S1, hb1⟩))
        go_ret2
        rw [hE.out, e0.out]
        exact listPost_nil hb1
      · rw [hg] at hl
        go_enter Try.func30, Try.ntmps30
        go_wp2_with (first | (go_at_call 20; refine (share_valid _ _ _ f _ hn H).mono ?_; rintro e w' ⟨rfl, rfl⟩; rw [hv]) | (go_at_call 46; refine (share_within _ _ _ _).mono ?_; rintro e w' ⟨rfl, rfl⟩; rw [hM]) | (go_at_call 60; refine (hl _ H).mono ?_; rintro e w1 ⟨a1, c1, rfl, S1, hb1⟩))
        go_ret2
        rw [hE.out]
        exact ⟨a1, c1, rfl, S1, hb1⟩
set_option maxRecDepth 100000 in
set_option maxHeartbeats 1000000 in
theorem ref9_Greedy (a : Option Addr) (n ca : Nat) (M : Int) (f : Nat → Int) (w : World) (hn : n ≤ 100000000) (H : Sl w a n f) :
    Calls Try.prog 31 #[.slice a n ca, .int .i64 M] w (ListPost (gdL f n M) (gdE (vL n f) (within M 0 64000000000) (grB f M n)) w) := by
  obtain ⟨i0, hi, hz0, hz1, hz2⟩ := info_parts infoI
  cases hv : vL n f
  · have hE := hid (show gdL f n M = [] by simp [gdL, gdB, hv])
    go_enter Try.func31, Try.ntmps31
    go_wp2_with (go_at_call 21; refine (ref9_valid _ _ _ f _ hn H).mono ?_; rintro e w' ⟨rfl, rfl⟩; rw [hv])
    go_ret2
    rw [hE.out]
    exact listPost_nil (by (repeat' (first | with_reducible assumption | with_reducible exact Below.refl _ _ | with_reducible refine Below.drew ?_ | with_reducible refine below_drewN ?_ _ | with_reducible refine balloc ?_ _ | with_reducible refine bset ?_ ?_ _ | with_reducible refine Below.setCell ?_ ?_ _ | with_reducible refine Below.alloc ?_ ?_ _ | omega | (simp; done) | (simp; omega))))
  · cases hM : within M 0 64000000000
    · have hE := hid (show gdL f n M = [] by simp [gdL, gdB, hM])
      go_enter Try.func31, Try.ntmps31
      go_wp2_with (first | (go_at_call 21; refine (ref9_valid _ _ _ f _ hn H).mono ?_; rintro e w' ⟨rfl, rfl⟩; rw [hv]) | (go_at_call 48; refine (ref9_within _ _ _ _).mono ?_; rintro e w' ⟨rfl, rfl⟩; rw [hM]))
      go_ret2
      rw [hE.out]
      exact listPost_nil (by (repeat' (first | with_reducible assumption | with_reducible exact Below.refl _ _ | with_reducible refine Below.drew ?_ | with_reducible refine below_drewN ?_ _ | with_reducible refine balloc ?_ _ | with_reducible refine bset ?_ ?_ _ | with_reducible refine Below.setCell ?_ ?_ _ | with_reducible refine Below.alloc ?_ ?_ _ | omega | (simp; done) | (simp; omega))))
    · have hM2 := (within_iff _ _ _).1 hM
      obtain ⟨m0, m1⟩ := hM2
      have hV := (vL_iff _ _).1 hv
      obtain ⟨v1, v2, hf⟩ := hV
      have hE := hid (show gdL f n M = grL f M n by simp [gdL, gdB, hv, hM])
      have HF := hid hf; clear hf
      go_enter Try.func31, Try.ntmps31
      go_wp2_with (first | (go_at_call 21; refine (ref9_valid _ _ _ f _ hn H).mono ?_; rintro e w' ⟨rfl, rfl⟩; rw [hv]) | (go_at_call 48; refine (ref9_within _ _ _ _).mono ?_; rintro e w' ⟨rfl, rfl⟩; rw [hM]))
      go_loopw [6, 7, 8] (fun v t i wr => ∃ (k : Nat) (cs : List Int) (now : Int), k ≤ n ∧ i = .int .i64 k ∧ t = .int .i64 now ∧ wr.ownsRow w.heap.size 3 1 v cs.length (cs.map vInt) ∧ gr f M k = some (cs, now) ∧ Below w.heap.size w wr) (fun _ _ i _ => n - (intOf i).toNat)
      case atStart => exact ⟨0, [], 0, Nat.zero_le _, rfl, rfl, World.ownsRow_nil .., rfl, Below.refl _ _⟩
      case round =>
        obtain ⟨k, cs, now, hk, rfl, rfl, hown, hgr, hb⟩ := hrel
        obtain ⟨_, _, hl, hnow, hle, _, _⟩ := gr_inv (okF_pos HF.out) m0 k hk cs now hgr
        have hn0 : 0 ≤ now := by rw [hnow]; exact sg_nonneg (okF_pos HF.out) (gr_inv (okF_pos HF.out) m0 k hk cs now hgr).1 hk
        have HG := hid hgr
        have hzb := hb.size
        clear hnow hgr
        by_cases hlt : k < n
        · obtain ⟨b, off, rfl, hbl, hc⟩ := (H.below hb) k hlt
          obtain ⟨f0, f1⟩ := HF.out k hlt
          by_cases hgt : M < f k
          · have hnone := gr_fall (.inr hgt) n hlt
            have HN := hid hnone; clear hnone
            go_wp2
            go_ret2
            have e1 : grL f M n = [] := by simp [grL, HN.out]
            have e2 : grB f M n = false := by simp [grB, HN.out]
            rw [hE.out, e1, e2]
            exact listPost_nil hb
          · have hst := gr_step HG.out (by omega)
            by_cases hgt2 : M < now + f k
            · rw [if_pos hgt2] at hst
              have HST := hid hst; clear hst
              go_wp2_with ((at_builtin; refine wpList_append_own _ rfl _ _ 22 rfl (w.heap.size) 3 i0 (.int .i64 0) 1 8 Try.underlying22 hi hz0 hz1 hz2 rfl (by decide) _ _ _ rfl ((hown).alloc _) ⟨wr.heap.size, 0, none⟩ 1 1 [.int .i64 ((k : Int))] rfl rfl (cell_one_new _ _ _) (by simp [Value.oneCell']) (by simp [maxLen]; omega) (by omega) (by simp; omega) ?_; intro v' w1 hown' hgrow _); obtain ⟨b2, off2, e2, hbl2, hc2⟩ := (H.below ((hb.alloc hzb (.cells #[.int .i64 (k : Int)] 3)).grown hgrow (by simp; omega) (own_base hown))) k hlt; injection e2 with e2; injection e2 with e21 e22 _; subst e21 e22)
              go_roundw
              case rel => exact ⟨k + 1, cs ++ [(k : Int)], f k, by omega, by go_num, by simp, own_snoc hown', HST.out, (hb.alloc hb.size _).grown hgrow (by have := hb.size; simp; omega) (own_base hown)⟩
              case measure => simp [intOf]; omega
            · rw [if_neg hgt2] at hst
              have HST := hid hst; clear hst
              go_wp2
              go_roundw
              case rel => exact ⟨k + 1, cs, now + f k, by omega, by go_num, rfl, hown, HST.out, hb⟩
              case measure => simp [intOf]; omega
        · obtain rfl : k = n := (by omega)
          go_wp2
          go_ret2
          have e1 : grL f M k = cs := by simp [grL, HG.out]
          have e2 : grB f M k = true := by simp [grB, HG.out]
          rw [hE.out, e1, e2]
          exact listPost_own hown hb
end Go.Proofs.Ytgpcmkoimgnlbaa
