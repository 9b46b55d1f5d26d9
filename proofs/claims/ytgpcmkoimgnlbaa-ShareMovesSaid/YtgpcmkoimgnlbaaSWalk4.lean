/- Walks of the share layer: the least peak and the best share of the program. -/
import Derived.Test.YtgpcmkoimgnlbaaSWalk3
import Derived.Shelf.Abstract
namespace Go.Proofs.Ytgpcmkoimgnlbaa
open Go Go.RowKit
set_option linter.unusedVariables false
theorem ent_least : ∀ args w, (callFunc 69 args).run Try.prog w = .ok (.enter 69 args) w := Go.Proofs.enters_of Try.func69 (by kernel_rfl) rfl
def fitP (f : Nat → Int) (n k : Nat) (M : Int) : Bool := fitsB f n k M
set_option maxRecDepth 100000 in
theorem share_least1 (n k ca bl bk : Nat) (a : Option Addr) (f : Nat → Int) (w₀ : World) (hn : n ≤ 64) (hf : okF n f) (Xl : Bx w₀ bl #[.slice a n ca]) (Xk : Bx w₀ bk #[.int .i64 (k : Int)]) (H : Sl w₀ a n f)
    (M : Int) (W : World) (hM : 0 ≤ M) (hM2 : M ≤ 64000000000) (hW : Below w₀.heap.size w₀ W) :
    Calls Try.prog 69 (#[.int .i64 M] ++ #[.pointer (some ⟨bl, 0, none⟩), .pointer (some ⟨bk, 0, none⟩)]) W fun e W' => e = .returned (.bool (fitsB f n k M)) ∧ Below W.heap.size W W' := by
  have l0 := (Xl.below hW).at_ 0 rfl
  have k0 := (Xk.below hW).at_ 0 rfl
  have HW := H.below hW
  show Calls Try.prog 69 #[.int .i64 M, .pointer (some ⟨bl, 0, none⟩), .pointer (some ⟨bk, 0, none⟩)] W _
  go_enter Try.func69, Try.ntmps69
  go_wp2_with (go_at_call 47; refine (share_fits a n ca k f M _ hn hf hM hM2 HW).mono ?_; rintro e w1 ⟨rfl, hb1⟩)
  go_ret
  exact ⟨rfl, hb1⟩
theorem fits_mono {f : Nat → Int} {n k : Nat} (hn : 0 < n) (h : ∀ k, k < n → 0 ≤ f k) {x y : Int} (h0 : 0 ≤ x) (hxy : x ≤ y) (hx : fitsB f n k x = true) : fitsB f n k y = true :=
  (fitsB_iff h (by omega) hn).2 (((fitsB_iff h h0 hn).1 hx).mono hxy)
theorem half_least {f : Nat → Int} {n k : Nat} (hn : 0 < n) (h : ∀ k, k < n → 0 ≤ f k) (hk : 0 < k) {z : Int} (z0 : 0 ≤ z) (z1 : z ≤ sumTo f n) (z2 : ∀ y, 0 ≤ y → y < z → fitsB f n k y = false) (z3 : z < sumTo f n → fitsB f n k z = true) : z = leastL f n k := by
  have l0 := leastL_nonneg h hk
  have l1 := leastL_le h hk
  rcases Int.lt_trichotomy z (leastL f n k) with h' | h' | h'
  · have := z3 (by omega)
    rw [fits_least h hn hk z0] at this
    have := of_decide_eq_true this
    omega
  · exact h'
  · have := z2 _ l0 h'
    rw [fits_least h hn hk l0] at this
    simp at this
set_option maxRecDepth 100000 in
set_option maxHeartbeats 1000000 in
theorem share_least (a : Option Addr) (n ca k : Nat) (f : Nat → Int) (w : World) (hv : validL n f) (hk : 0 < k) (H : Sl w a n f) :
    Calls Try.prog 41 #[.slice a n ca, .int .i64 (k : Int)] w fun e w' => e = .returned (.int .i64 (leastL f n k)) ∧ Below w.heap.size w w' := by
  obtain ⟨v1, v2, hf⟩ := hv
  obtain ⟨s0, s1⟩ := sumTo_most hf n (Nat.le_refl _)
  have hs0 := s0
  have X0 := (Bx.new w #[.slice a n ca] 22).alloc (.cells #[.int .i64 (k : Int)] 3)
  have X1 := Bx.new (w.alloc (.cells #[.slice a n ca] 22)) #[.int .i64 (k : Int)] 3
  simp only [World.size_alloc] at X1
  have hB0 : Below w.heap.size w ((w.alloc (.cells #[.slice a n ca] 22)).alloc (.cells #[.int .i64 (k : Int)] 3)) := by (repeat' (first | with_reducible assumption | with_reducible exact Below.refl _ _ | with_reducible refine Below.drew ?_ | with_reducible refine below_drewN ?_ _ | with_reducible refine balloc ?_ _ | with_reducible refine bset ?_ ?_ _ | with_reducible refine Below.setCell ?_ ?_ _ | with_reducible refine Below.alloc ?_ ?_ _ | omega | (simp; done) | (simp; omega)))
  have H0 := H.below hB0
  have hcall := fun M W => share_least1 n k ca w.heap.size (w.heap.size + 1) a f _ v2 hf X0 X1 H0 M W
  have hhalf := share_halved (fitsB f n k) 0 (sumTo f n) 69 #[.pointer (some ⟨w.heap.size, 0, none⟩), .pointer (some ⟨w.heap.size + 1, 0, none⟩)] ((w.alloc (.cells #[.slice a n ca] 22)).alloc (.cells #[.int .i64 (k : Int)] 3)) (by omega) s0 (by omega)
    (fun x y hx hxy _ h => fits_mono v1 (okF_pos hf) hx hxy h) (fun n W h0 h1 hW => hcall n W h0 (by omega) hW) ent_least
  clear hcall
  have HF := hid hf; clear hf
  go_enter Try.func41, Try.ntmps41
  go_wp2_with fail
  refine (share_sum a n ca f _ v2 HF.out H0).mono ?_
  rintro e w' ⟨rfl, rfl⟩
  go_wp2_with fail
  refine hhalf.mono ?_
  rintro e w2 ⟨z, rfl, z0, z1, z2, z3, hb2⟩
  have hz := half_least v1 (okF_pos HF.out) hk z0 z1 z2 z3
  have HZ := hid hz
  clear z2 z3 hz hhalf
  go_wp2_with fail
  go_ret
  exact ⟨ret_int HZ.out, bvia hB0 hb2⟩
/-- what Least gives -/
def leaR (f : Nat → Int) (n : Nat) (k : Int) : Int := if vL n f && within k 1 16 then leastL f n k.toNat else 0
set_option maxRecDepth 100000 in
set_option maxHeartbeats 1000000 in
theorem share_Least (a : Option Addr) (n ca : Nat) (k : Int) (f : Nat → Int) (w : World) (hn : n ≤ 100000000) (H : Sl w a n f) :
    Calls Try.prog 10 #[.slice a n ca, .int .i64 k] w fun e w' => e = .returned (.tuple #[.int .i64 (leaR f n k), .int .i64 (askE (vL n f) (within k 1 16))]) ∧ Below w.heap.size w w' := by
  cases hv : vL n f
  · have hE := hid (show leaR f n k = 0 by simp [leaR, hv])
    go_enter Try.func10, Try.ntmps10
    go_wp2_with (go_at_call 40; refine (share_among a n ca k f _ hn H).mono ?_; rintro e w' ⟨rfl, rfl⟩; rw [hv])
    all_goals
      go_ret2
      rw [hE.out]
      exact ⟨rfl, by (repeat' (first | with_reducible assumption | with_reducible exact Below.refl _ _ | with_reducible refine Below.drew ?_ | with_reducible refine below_drewN ?_ _ | with_reducible refine balloc ?_ _ | with_reducible refine bset ?_ ?_ _ | with_reducible refine Below.setCell ?_ ?_ _ | with_reducible refine Below.alloc ?_ ?_ _ | omega | (simp; done) | (simp; omega)))⟩
  · cases hk : within k 1 16
    · have hE := hid (show leaR f n k = 0 by simp [leaR, hk])
      go_enter Try.func10, Try.ntmps10
      go_wp2_with (go_at_call 40; refine (share_among a n ca k f _ hn H).mono ?_; rintro e w' ⟨rfl, rfl⟩; rw [hv, hk])
      go_ret2
      rw [hE.out]
      exact ⟨rfl, by (repeat' (first | with_reducible assumption | with_reducible exact Below.refl _ _ | with_reducible refine Below.drew ?_ | with_reducible refine below_drewN ?_ _ | with_reducible refine balloc ?_ _ | with_reducible refine bset ?_ ?_ _ | with_reducible refine Below.setCell ?_ ?_ _ | with_reducible refine Below.alloc ?_ ?_ _ | omega | (simp; done) | (simp; omega)))⟩
    · have hk2 := (within_iff _ _ _).1 hk
      obtain ⟨m, rfl⟩ : ∃ m : Nat, k = (m : Int) := ⟨k.toNat, by omega⟩
      have hE := hid (show leaR f n m = leastL f n m by simp [leaR, hv, hk])
      have hV := (vL_iff _ _).1 hv
      have hl := fun W H => share_least a n ca m f W hV (by omega) H
      generalize leastL f n m = L at *
      go_enter Try.func10, Try.ntmps10
      go_wp2_with (first | (go_at_call 40; refine (share_among a n ca m f _ hn H).mono ?_; rintro e w' ⟨rfl, rfl⟩; rw [hv, hk]) | (go_at_call 41; refine (hl _ H).mono ?_; rintro e w1 ⟨rfl, hb1⟩))
      go_ret2
      rw [hE.out]
      exact ⟨rfl, hb1⟩
end Go.Proofs.Ytgpcmkoimgnlbaa
