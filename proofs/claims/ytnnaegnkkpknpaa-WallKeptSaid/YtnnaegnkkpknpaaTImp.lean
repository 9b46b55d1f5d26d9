/- Walks: tunnel.impulse. -/
import Derived.Test.YtnnaegnkkpknpaaImp
import Derived.Test.YtnnaegnkkpknpaaBase
import Derived.Deep.CutRange
import Derived.Deep.LoopGhost
namespace Go.Proofs.Ytnnaegnkkpknpaa
open Go.RowKit
set_option linter.unusedVariables false
theorem HH {p : Prop} (h : Hid p) : p := h
set_option maxRecDepth 100000 in
set_option maxHeartbeats 8000000 in
theorem tunnel_impulse (p : Nat) (wide high body : Int) (a ak ab : Option Addr) (n c ck cb : Nat) (r : Value) (g : Nat → C4) (K B : Nat → Int) (w : World) (hn : n ≤ 1000000) (X : Bx w p #[.int .i64 wide, .int .i64 high, .slice a n c, .slice ak n ck, .slice ab n cb, r])
    (H : Sc w a n g) (HK : Sl w ak n K) (HB : Sl w ab n B) (hv : ∀ k, k < n → validC (g k) = true) (hK : ∀ k, k < n → 0 ≤ K k ∧ K k ≤ 3) :
    Calls Try.prog 73 #[.pointer (some ⟨p, 0, none⟩), .int .i64 body] w
      fun e w' => e = .returned (.agg #[.int .i64 (impE g K B body n), .int .i64 (impN g K B body n)]) ∧ Below w.heap.size w w' := by
  have hp := X.lt
  have X0 := (X.alloc (.cells #[.int .i64 0, .int .i64 0] 43)).alloc (.cells #[.int .i64 0, .int .i64 0] 43)
  have x4 := X0.at_ 4 rfl
  go_enter Try.func73, Try.ntmps73
  go_wp2
  go_loopw [16] (fun i wr => ∃ k : Nat, k ≤ n ∧ i = .int .i64 k ∧ Below w.heap.size w wr ∧ Bx wr w.heap.size #[.int .i64 0, .int .i64 0] ∧ Bx wr (w.heap.size + 1) #[.int .i64 (impE g K B body k), .int .i64 (impN g K B body k)]) (fun i _ => n - (intOf i).toNat)
  case atStart => exact ⟨0, Nat.zero_le _, rfl, by (repeat' (first | with_reducible assumption | with_reducible exact Below.refl _ _ | with_reducible refine Below.drew ?_ | with_reducible refine below_drewN ?_ _ | with_reducible refine balloc ?_ _ | with_reducible refine bset ?_ ?_ _ | with_reducible refine Below.setCell ?_ ?_ _ | with_reducible refine Below.alloc ?_ ?_ _ | omega | (simp; done) | (simp; omega))), (Bx.new w _ _).alloc _, by have h := Bx.new (w.alloc (.cells #[.int .i64 0, .int .i64 0] 43)) #[.int .i64 0, .int .i64 0] 43; rw [World.size_alloc] at h; exact h⟩
  case round =>
    clear X0 x4
    obtain ⟨k, hk, rfl, hB, R0, R1⟩ := hrel
    by_cases hlt : k < n
    · obtain ⟨b1, o1, rfl, z1, g0, g1, g2, g3⟩ := (H.below hB) k hlt
      obtain ⟨b2, o2, rfl, z2, kk⟩ := (HK.below hB) k hlt
      obtain ⟨b3, o3, rfl, z3, bb⟩ := (HB.below hB) k hlt
      cases he : (B k != body)
      · have X1 := X.below hB
        have y2 := X1.at_ 2 rfl; have y3 := X1.at_ 3 rfl; have y4 := X1.at_ 4 rfl
        obtain ⟨k0, k3⟩ := hK k hlt
        have HV := hid hv; clear hv
        have HKK := hid hK; clear hK
        have zp : p < wr.heap.size := X1.lt
        have q2 : ∀ W, Below wr.heap.size wr W → W.cell? ⟨p, 2, none⟩ = some (.slice (some ⟨b1, o1, none⟩) n c) := fun W h => (bcell h _ _ zp).trans y2
        have q3 : ∀ W, Below wr.heap.size wr W → W.cell? ⟨p, 3, none⟩ = some (.slice (some ⟨b2, o2, none⟩) n ck) := fun W h => (bcell h _ _ zp).trans y3
        have r0 : ∀ W, Below wr.heap.size wr W → W.cell? ⟨b1, o1 + k * 4, none⟩ = some (.int .i64 (g k).e) := fun W h => (bcell h _ _ z1).trans g0
        have r1 : ∀ W, Below wr.heap.size wr W → W.cell? ⟨b1, o1 + k * 4 + 1, none⟩ = some (.int .i64 (g k).n) := fun W h => (bcell h _ _ z1).trans g1
        have r2 : ∀ W, Below wr.heap.size wr W → W.cell? ⟨b1, o1 + k * 4 + 2, none⟩ = some (.int .i64 (g k).w) := fun W h => (bcell h _ _ z1).trans g2
        have r3 : ∀ W, Below wr.heap.size wr W → W.cell? ⟨b1, o1 + k * 4 + 3, none⟩ = some (.int .i64 (g k).s) := fun W h => (bcell h _ _ z1).trans g3
        have r4 : ∀ W, Below wr.heap.size wr W → W.cell? ⟨b2, o2 + k, none⟩ = some (.int .i64 (K k)) := fun W h => (bcell h _ _ z2).trans kk
        clear y2 y3 g0 g1 g2 g3 kk
        go_upto_region 6 with (fail)
        go_cut [8, 9] from 24 to 48 (fun s8 s9 W => ∃ u v : Nat, s8 = .pointer (some ⟨u, 0, none⟩) ∧ s9 = .pointer (some ⟨v, 0, none⟩) ∧ wr.heap.size ≤ u ∧ wr.heap.size ≤ v ∧ Bx W u #[.int .i64 (g k).e, .int .i64 (g k).n, .int .i64 (g k).w, .int .i64 (g k).s] ∧ Bx W v #[.int .i64 (sentC (g k) (K k)).e, .int .i64 (sentC (g k) (K k)).n, .int .i64 (sentC (g k) (K k)).w, .int .i64 (sentC (g k) (K k)).s] ∧ Below wr.heap.size wr W)
        case first =>
          go_region_held3 (fun W => Below wr.heap.size wr W) ((repeat' (first | with_reducible assumption | with_reducible exact Below.refl _ _ | with_reducible refine Below.drew ?_ | with_reducible refine below_drewN ?_ _ | with_reducible refine balloc ?_ _ | with_reducible refine bset ?_ ?_ _ | with_reducible refine Below.setCell ?_ ?_ _ | with_reducible refine Below.alloc ?_ ?_ _ | omega | (simp; done) | (simp; omega))))
            (((go_at_call 69; refine (wall_sent (g k) _ (K k) k0 k3).mono ?_); rintro e w' ⟨rfl, hbk⟩; have hsk : Below wr.heap.size wr w' := Below.trans (by with_reducible assumption) (hbk.mono (Below.size (by with_reducible assumption))); have hck := bcell hbk; have hfk := bfrozen hbk; have hzk := hbk.size; (try simp at hzk); (try have hz1k : wr.heap.size < w'.heap.size := (by omega)); (try have hz2k : wr.heap.size + 1 < w'.heap.size := (by omega))))
          all_goals
            go_wp2_with fail
            go_meet
            refine ⟨_, _, rfl, rfl, ?_, ?_, ?_, ?_, by with_reducible assumption⟩
            all_goals first | (show (_ : Nat) ≤ _; omega) | (repeat' (first | with_reducible assumption | (with_reducible refine Bx.newE ?_ _ _; (simp; done)) | with_reducible refine Bx.alloc ?_ _ | with_reducible refine Bx.drew ?_ | with_reducible refine Bx.drewN ?_ _ | with_reducible refine Bx.four ?_ | (with_reducible refine Bx.far2 ?_ ?_ _; (dsimp only; omega)) | with_reducible refine Bx.below ?_ hbk))
        case rest =>
          obtain ⟨u, v, rfl, rfl, hu, hv', U, V, hB2⟩ := hcut
          have R2 : Bx wc (w.heap.size + 1) _ := R1.below hB2
          have a0 := U.at_ 0 rfl; have a1 := U.at_ 1 rfl; have a2 := U.at_ 2 rfl; have a3 := U.at_ 3 rfl
          have c0 := V.at_ 0 rfl; have c1 := V.at_ 1 rfl; have c2 := V.at_ 2 rfl; have c3 := V.at_ 3 rfl
          have d0 := R2.at_ 0 rfl; have d1 := R2.at_ 1 rfl
          have dz := R2.lt; have dw := R1.lt; have uz := U.lt; have vz := V.lt
          have df := R2.free
          have q : B k = body := by simpa using he
          obtain ⟨e0, e1⟩ := impE_bd g K B body k (fun j hj => HH HV j (by omega))
          obtain ⟨n0, n1⟩ := impN_bd g K B body k (fun j hj => HH HV j (by omega))
          obtain ⟨v0, v1, v2, v3, v4⟩ := (validC_iff _).1 (HH HV k hlt)
          obtain ⟨s0, s1, s2, s3, s4⟩ := (validC_iff _).1 (sentC_ok _ (K k) (HH HV k hlt))
          go_wp2
          go_roundw
          case rel =>
            have hB3 : Below w.heap.size w wc := bvia hB hB2
            refine ⟨k + 1, by omega, by go_num, by (repeat' (first | with_reducible assumption | with_reducible exact Below.refl _ _ | with_reducible refine Below.drew ?_ | with_reducible refine below_drewN ?_ _ | with_reducible refine balloc ?_ _ | with_reducible refine bset ?_ ?_ _ | with_reducible refine Below.setCell ?_ ?_ _ | with_reducible refine Below.alloc ?_ ?_ _ | omega | (simp; done) | (simp; omega))), ?_, Bx.two_eq R2 (congrArg (Value.int .i64) ?_) (congrArg (Value.int .i64) ?_)⟩
            · exact ((R0.below hB2).far (by simp) _).far (by simp) _
            · simp only [impE, if_pos q]
            · simp only [impN, if_pos q]
          case measure => simp [intOf]; omega
      · have q : B k ≠ body := by simpa using he
        have x4 := (X.below hB).at_ 4 rfl
        go_wp2
        go_roundw
        case rel => exact ⟨k + 1, by omega, by go_num, hB, R0, by simp only [impE, impN, if_neg q]; exact R1⟩
        case measure => simp [intOf]; omega
    · obtain rfl : k = n := (by omega)
      have d0 := R1.at_ 0 rfl; have d1 := R1.at_ 1 rfl
      have e0 := R0.at_ 0 rfl; have e1 := R0.at_ 1 rfl
      have f0 := R0.free
      have l0 := R0.lt; have l1 := R1.lt
      go_wp2
      refine bodyPost_ret (v := .agg #[.int .i64 (impE g K B body k), .int .i64 (impN g K B body k)]) (by simp [results, Try.results73, go_sem, e0, e1]) rfl ⟨rfl, by (repeat' (first | with_reducible assumption | with_reducible exact Below.refl _ _ | with_reducible refine Below.drew ?_ | with_reducible refine below_drewN ?_ _ | with_reducible refine balloc ?_ _ | with_reducible refine bset ?_ ?_ _ | with_reducible refine Below.setCell ?_ ?_ _ | with_reducible refine Below.alloc ?_ ?_ _ | omega | (simp; done) | (simp; omega)))⟩
end Go.Proofs.Ytnnaegnkkpknpaa
