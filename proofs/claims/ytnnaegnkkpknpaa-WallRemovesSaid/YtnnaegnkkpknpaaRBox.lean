/- Walks: the reference's Box. -/
import Derived.Test.YtnnaegnkkpknpaaRPut
import Derived.Deep.CutRange
import Derived.Test.YtnnaegnkkpknpaaOpen
namespace Go.Proofs.Ytnnaegnkkpknpaa
open Go.RowKit
attribute [local go_sem ↓] Go.wp_at_zero Go.wp_at_succ
set_option linter.unusedVariables false
theorem ref3_between_q (n a b : Int) (w : World) : Calls Try.prog 84 #[.int .i64 n, .int .i64 a, .int .i64 b] w
    fun e w' => e = .returned (.bool (betB n a b)) ∧ w = w' := by
  cases hx : within n a b
  all_goals
    go_enter Try.func84, Try.ntmps84
    go_wp2_with (go_at_call 67; refine (ref3_within _ _ _ _).mono ?_; rintro e w' ⟨rfl, rfl⟩)
    go_ret
    exact ⟨by simp [betB, hx], rfl⟩
theorem ref3_between_b {n a b : Int} {v : Bool} (h : betB n a b = v) (w : World) : Calls Try.prog 84 #[.int .i64 n, .int .i64 a, .int .i64 b] w
    fun e w' => e = .returned (.bool v) ∧ w = w' := by
  rw [← h]; exact ref3_between_q n a b w
theorem Sl.set1 {w : World} {a : Option Addr} {n : Nat} {f : Nat → Int} (h : Sl w a n f) {p : Addr} {x : Option Addr} {y z : Nat} (hp : w.cell? p = some (.slice x y z)) (u : Value) : Sl (w.setCell p u) a n f := fun k hk => by
  obtain ⟨b, o, e, hlt, hc⟩ := h k hk
  refine ⟨b, o, e, by simpa [World.setCell] using hlt, ?_⟩
  rw [World.cell?_setCell_other _ _ _ _ (fun e' => by rw [← e', hp] at hc; cases hc)]
  exact hc
theorem Sl.set2 {w : World} {a : Option Addr} {n : Nat} {f : Nat → Int} (h : Sl w a n f) {b : Nat} {x x' : Option Addr} {y z y' z' : Nat} (X : Bx w b #[.slice x y z, .slice x' y' z']) (u v : Value) : Sl ((w.setCell ⟨b, 0, none⟩ u).setCell ⟨b, 1, none⟩ v) a n f :=
  (h.set1 (X.at_ 0 rfl) u).set1 (p := ⟨b, 1, none⟩) (x := x') (y := y') (z := z') (by rw [World.cell?_setCell_other _ _ _ _ (by simp)]; exact X.at_ 1 rfl) v
/-- the points of a shape -/
def pts2 (p q : Int × Int) : Nat → Int × Int | 0 => p | _ => q
theorem sp_of_bx2 {W : World} {b : Nat} {p q : Int × Int} (h : Bx W b #[.int .i64 p.1, .int .i64 p.2, .int .i64 q.1, .int .i64 q.2]) : Sp W (some ⟨b, 0, none⟩) 2 (pts2 p q) := fun k hk => by
  have : k = 0 ∨ k = 1 := by omega
  rcases this with rfl | rfl
  · exact ⟨b, 0, rfl, h.lt, h.at_ 0 rfl, h.at_ 1 rfl⟩
  · exact ⟨b, 0, rfl, h.lt, h.at_ 2 rfl, h.at_ 3 rfl⟩
theorem sp_of_bx1 {W : World} {b : Nat} {p q : Int × Int} (h : Bx W b #[.int .i64 p.1, .int .i64 p.2]) : Sp W (some ⟨b, 0, none⟩) 1 (pts2 p q) := fun k hk => by
  obtain rfl : k = 0 := by omega
  exact ⟨b, 0, rfl, h.lt, h.at_ 0 rfl, h.at_ 1 rfl⟩
/-- the first error of a shape, or what putting it in gives -/
def ShapePost (e0 : Int) (s : Nat → Int) (body : Int) (n : Nat) (K B : Nat → Int) (w : World) (e : Ending) (w' : World) : Prop :=
  (e0 = 0 → WallPost (putErr s B body n) (putLen s B body n) (putTo s K s n) (putTo s B (fun _ => body) n) w e w') ∧ (e0 ≠ 0 → WallPost e0 0 K B w e w')
theorem readyE_zero {v ok : Bool} {body : Int} (h : readyE v ok body = 0) : v = true ∧ ok = true ∧ within body 1 9 = true := by
  unfold readyE at h
  cases v <;> cases ok <;> cases hw : within body 1 9 <;> simp [hw] at h ⊢
theorem shapePost_err {e0 : Int} {s : Nat → Int} {body : Int} {n : Nat} {K B : Nat → Int} {w w' : World} (h : e0 ≠ 0) (hb : Below w.heap.size w w') : ShapePost e0 s body n K B w (.returned (.tuple #[.agg #[.slice none 0 0, .slice none 0 0], .int .i64 e0])) w' :=
  ⟨fun h' => absurd h' h, fun _ => wallPost_none hb⟩
def boxS (wide : Int) (p q : Int × Int) (kind : Int) (k : Nat) : Int := if betB ((k : Int) % wide) p.1 q.1 && betB ((k : Int) / wide) p.2 q.2 then kind else 0
theorem infoSh : (Try.prog.info? 112).map (fun i => i.size) = some 1 := by kernel_rfl
theorem mk_shape (n : Nat) (hn : n ≤ 100000000) (w : World) :
    (Instr.makeSlice 112 (.int .i64 (n : Int)) (.int .i64 (n : Int))).run Try.prog w = .ok (.slice (some ⟨w.heap.size, 0, none⟩) n n) (w.alloc (.cells (zrow n) 3)) := by
  obtain ⟨i0, hi, hz0, hz1, hz2⟩ := info_parts infoInt'
  have hr := run_make (P := Try.prog) w 112 3 i0 _ Try.underlying112 hi hz0 .i64 .i64 n n (by omega) (by omega) (by rw [hz2]; omega) (by omega)
  simp only [Int.toNat_natCast, hz1, Nat.mul_one] at hr
  exact hr
theorem ro_zrow (w : World) (n : Nat) : Ro (w.alloc (.cells (zrow n) 3)) w.heap.size n (fun _ => 0) :=
  ⟨by simp, fun k hk => by
    rw [cell_of_row (w.alloc (.cells (zrow n) 3)) w.heap.size k (zrow n) 3 (0, 0) (Array.getElem?_push_size ..), zrow_get n k hk], fun i => by simp [go_sem]⟩
def shTo (f : Nat → Int) (k : Nat) : Nat → Int := fun j => if j < k then f j else 0
theorem shTo_set (f : Nat → Int) (k : Nat) : shTo f (k + 1) = upd (shTo f k) k (f k) := by
  funext j; unfold upd shTo
  by_cases e : j = k
  · subst e; simp
  · simp only [if_neg e, show (j < k + 1) = (j < k) from propext ⟨by omega, by omega⟩]
theorem shTo_skip {f : Nat → Int} {k : Nat} (h : f k = 0) : shTo f (k + 1) = shTo f k := by
  funext j; unfold shTo
  by_cases e : j = k
  · subst e; simp [h]
  · simp only [show (j < k + 1) = (j < k) from propext ⟨by omega, by omega⟩]
set_option maxRecDepth 100000 in
set_option maxHeartbeats 8000000 in
theorem ref3_Box (wide high kind body : Int) (p q : Int × Int) (a ak ab : Option Addr) (n nk nb c ck cb : Nat) (g : Nat → C4) (K B : Nat → Int) (w : World) (hn : n ≤ 100000) (hnk : nk ≤ 100000) (hnb : nb ≤ 100000) (H : Sc w a n g) (HK : Sl w ak nk K) (HB : Sl w ab nb B) :
    Calls Try.prog 32 #[.agg #[.int .i64 wide, .int .i64 high, .slice a n c], .agg #[.slice ak nk ck, .slice ab nb cb], .agg #[.int .i64 p.1, .int .i64 p.2], .agg #[.int .i64 q.1, .int .i64 q.2], .int .i64 kind, .int .i64 body] w
      (ShapePost (readyE (validW wide high n g nk nb K B) (allOn wide high (pts2 p q) (within kind 1 3) 2) body) (boxS wide p q kind) body n K B w) := by
  have X0 := ((((Bx.new w #[.int .i64 wide, .int .i64 high, .slice a n c] 24).alloc (.cells #[.slice ak nk ck, .slice ab nb cb] 27)).alloc (.cells #[.int .i64 p.1, .int .i64 p.2] 51)).alloc (.cells #[.int .i64 q.1, .int .i64 q.2] 51)).alloc (.cells #[.slice none 0 0, .slice none 0 0] 27)
  have X1 := (((Bx.new (w.alloc (.cells #[.int .i64 wide, .int .i64 high, .slice a n c] 24)) #[.slice ak nk ck, .slice ab nb cb] 27).alloc (.cells #[.int .i64 p.1, .int .i64 p.2] 51)).alloc (.cells #[.int .i64 q.1, .int .i64 q.2] 51)).alloc (.cells #[.slice none 0 0, .slice none 0 0] 27)
  have X2 := ((Bx.new ((w.alloc (.cells #[.int .i64 wide, .int .i64 high, .slice a n c] 24)).alloc (.cells #[.slice ak nk ck, .slice ab nb cb] 27)) #[.int .i64 p.1, .int .i64 p.2] 51).alloc (.cells #[.int .i64 q.1, .int .i64 q.2] 51)).alloc (.cells #[.slice none 0 0, .slice none 0 0] 27)
  have X3 := (Bx.new (((w.alloc (.cells #[.int .i64 wide, .int .i64 high, .slice a n c] 24)).alloc (.cells #[.slice ak nk ck, .slice ab nb cb] 27)).alloc (.cells #[.int .i64 p.1, .int .i64 p.2] 51)) #[.int .i64 q.1, .int .i64 q.2] 51).alloc (.cells #[.slice none 0 0, .slice none 0 0] 27)
  have X4 := Bx.new ((((w.alloc (.cells #[.int .i64 wide, .int .i64 high, .slice a n c] 24)).alloc (.cells #[.slice ak nk ck, .slice ab nb cb] 27)).alloc (.cells #[.int .i64 p.1, .int .i64 p.2] 51)).alloc (.cells #[.int .i64 q.1, .int .i64 q.2] 51)) #[.slice none 0 0, .slice none 0 0] 27
  simp only [World.size_alloc] at X1 X2 X3 X4
  have hB0 : Below w.heap.size w (((((w.alloc (.cells #[.int .i64 wide, .int .i64 high, .slice a n c] 24)).alloc (.cells #[.slice ak nk ck, .slice ab nb cb] 27)).alloc (.cells #[.int .i64 p.1, .int .i64 p.2] 51)).alloc (.cells #[.int .i64 q.1, .int .i64 q.2] 51)).alloc (.cells #[.slice none 0 0, .slice none 0 0] 27)) := by (repeat' (first | with_reducible assumption | with_reducible exact Below.refl _ _ | with_reducible refine Below.drew ?_ | with_reducible refine below_drewN ?_ _ | with_reducible refine balloc ?_ _ | with_reducible refine bset ?_ ?_ _ | with_reducible refine Below.setCell ?_ ?_ _ | with_reducible refine Below.alloc ?_ ?_ _ | omega | (simp; done) | (simp; omega)))
  go_enter Try.func32, Try.ntmps32
  go_upto_region 1 with (fail)
  generalize (((((w.alloc (.cells #[.int .i64 wide, .int .i64 high, .slice a n c] 24)).alloc (.cells #[.slice ak nk ck, .slice ab nb cb] 27)).alloc (.cells #[.int .i64 p.1, .int .i64 p.2] 51)).alloc (.cells #[.int .i64 q.1, .int .i64 q.2] 51)).alloc (.cells #[.slice none 0 0, .slice none 0 0] 27)) = W0 at X0 X1 X2 X3 X4 hB0 ⊢
  have z0 := X0.lt
  have z1 := X1.lt
  have z2 := X2.lt
  have z3 := X3.lt
  have z4 := X4.lt
  have I := H.below hB0; have IK := HK.below hB0; have IB := HB.below hB0
  go_cut [14] from 17 to 25 (fun s14 W => s14 = .int .i64 (readyE (validW wide high n g nk nb K B) (allOn wide high (pts2 p q) (within kind 1 3) 2) body) ∧ Below W0.heap.size W0 W)
  case first =>
    have r0 : ∀ W, Below W0.heap.size W0 W → W.cell? ⟨w.heap.size, 0, none⟩ = some (.int .i64 wide) := fun W h => (X0.below h).at_ 0 rfl
    have r1 : ∀ W, Below W0.heap.size W0 W → W.cell? ⟨w.heap.size, 1, none⟩ = some (.int .i64 high) := fun W h => (X0.below h).at_ 1 rfl
    have r2 : ∀ W, Below W0.heap.size W0 W → W.cell? ⟨w.heap.size, 2, none⟩ = some (.slice a n c) := fun W h => (X0.below h).at_ 2 rfl
    have r3 : ∀ W, Below W0.heap.size W0 W → W.cell? ⟨w.heap.size + 1, 0, none⟩ = some (.slice ak nk ck) := fun W h => (X1.below h).at_ 0 rfl
    have r4 : ∀ W, Below W0.heap.size W0 W → W.cell? ⟨w.heap.size + 1, 1, none⟩ = some (.slice ab nb cb) := fun W h => (X1.below h).at_ 1 rfl
    have r5 : ∀ W, Below W0.heap.size W0 W → W.cell? ⟨w.heap.size + 1 + 1, 0, none⟩ = some (.int .i64 p.1) := fun W h => (X2.below h).at_ 0 rfl
    have r6 : ∀ W, Below W0.heap.size W0 W → W.cell? ⟨w.heap.size + 1 + 1, 1, none⟩ = some (.int .i64 p.2) := fun W h => (X2.below h).at_ 1 rfl
    have r7 : ∀ W, Below W0.heap.size W0 W → W.cell? ⟨w.heap.size + 1 + 1 + 1, 0, none⟩ = some (.int .i64 q.1) := fun W h => (X3.below h).at_ 0 rfl
    have r8 : ∀ W, Below W0.heap.size W0 W → W.cell? ⟨w.heap.size + 1 + 1 + 1, 1, none⟩ = some (.int .i64 q.2) := fun W h => (X3.below h).at_ 1 rfl
    clear X0 X1 X2 X3 X4
    go_region_held3 (fun W => Below W0.heap.size W0 W) ((repeat' (first | with_reducible assumption | with_reducible exact Below.refl _ _ | with_reducible refine Below.drew ?_ | with_reducible refine below_drewN ?_ _ | with_reducible refine balloc ?_ _ | with_reducible refine bset ?_ ?_ _ | with_reducible refine Below.setCell ?_ ?_ _ | with_reducible refine Below.alloc ?_ ?_ _ | omega | (simp; done) | (simp; omega))))
      ((first
        | (go_at_call 67; refine (ref3_within _ _ _ _).mono ?_; rintro e w' ⟨rfl, rfl⟩)
        | (go_at_call 83; refine (ref3_shapeError wide high body _ a ak ab _ n nk nb 2 _ _ _ _ g K B (pts2 p q) _ (by omega) (by omega) (by omega) (by omega) (I.below (by (repeat' (first | with_reducible assumption | with_reducible exact Below.refl _ _ | with_reducible refine Below.drew ?_ | with_reducible refine below_drewN ?_ _ | with_reducible refine balloc ?_ _ | with_reducible refine bset ?_ ?_ _ | with_reducible refine Below.setCell ?_ ?_ _ | with_reducible refine Below.alloc ?_ ?_ _ | omega | (simp; done) | (simp; omega))))) (IK.below (by (repeat' (first | with_reducible assumption | with_reducible exact Below.refl _ _ | with_reducible refine Below.drew ?_ | with_reducible refine below_drewN ?_ _ | with_reducible refine balloc ?_ _ | with_reducible refine bset ?_ ?_ _ | with_reducible refine Below.setCell ?_ ?_ _ | with_reducible refine Below.alloc ?_ ?_ _ | omega | (simp; done) | (simp; omega))))) (IB.below (by (repeat' (first | with_reducible assumption | with_reducible exact Below.refl _ _ | with_reducible refine Below.drew ?_ | with_reducible refine below_drewN ?_ _ | with_reducible refine balloc ?_ _ | with_reducible refine bset ?_ ?_ _ | with_reducible refine Below.setCell ?_ ?_ _ | with_reducible refine Below.alloc ?_ ?_ _ | omega | (simp; done) | (simp; omega))))) (sp_of_bx2 (by (repeat' (first | with_reducible assumption | (with_reducible refine Bx.newE ?_ _ _; (simp; done)) | with_reducible refine Bx.alloc ?_ _ | with_reducible refine Bx.drew ?_ | with_reducible refine Bx.drewN ?_ _ | with_reducible refine Bx.four ?_ | (with_reducible refine Bx.far2 ?_ ?_ _; (dsimp only; omega))))))).mono ?_; rintro e w1 ⟨rfl, hb1⟩; have hB1 : Below W0.heap.size W0 w1 := bvia (by (repeat' (first | with_reducible assumption | with_reducible exact Below.refl _ _ | with_reducible refine Below.drew ?_ | with_reducible refine below_drewN ?_ _ | with_reducible refine balloc ?_ _ | with_reducible refine bset ?_ ?_ _ | with_reducible refine Below.setCell ?_ ?_ _ | with_reducible refine Below.alloc ?_ ?_ _ | omega | (simp; done) | (simp; omega)))) hb1)
        | fail))
    all_goals
      go_wp2_with fail
      go_meet
      exact ⟨rfl, by with_reducible assumption⟩
  case rest =>
    obtain ⟨rfl, hBc⟩ := hcut
    have Y0 := X0.below hBc; have Y1 := X1.below hBc; have Y2 := X2.below hBc; have Y3 := X3.below hBc; have Y4 := X4.below hBc
    have hB1 : Below w.heap.size w wc := bvia hB0 hBc
    have JK := IK.below hBc; have JB := IB.below hBc
    clear X0 X1 X2 X3 X4 I IK IB
    generalize hE : readyE (validW wide high n g nk nb K B) (allOn wide high (pts2 p q) (within kind 1 3) 2) body = er
    have y40 := Y4.at_ 0 rfl; have y41 := Y4.at_ 1 rfl; have y4f := Y4.free; have l4 := Y4.lt
    cases hne : (er != 0)
    · obtain rfl : er = 0 := by simpa using hne
      obtain ⟨hV, hO, hW⟩ := readyE_zero hE
      obtain ⟨hG, rfl, rfl, _⟩ := (validW_iff ..).1 hV
      obtain ⟨v1, v2, v3, v4, v5, v6, _, _⟩ := (validG_iff ..).1 hG
      have h0 : 0 < nb := by
        have : 1 * 1 ≤ wide * high := Int.mul_le_mul v1 v3 (by omega) (by omega)
        omega
      have HV6 := hid v6
      have HE := hid hE
      clear hE hV hO hG v5 v6 hne
      have y0 := Y0.at_ 2 rfl; have l0 := Y0.lt
      have hmk := mk_shape nb (by omega)
      go_wp2_with fail
      go_loopw [16] (fun i wr => ∃ k : Nat, k ≤ nb ∧ i = .int .i64 k ∧ Ro wr wc.heap.size nb (shTo (boxS wide p q kind) k) ∧ Below wc.heap.size wc wr) (fun i _ => nb - (intOf i).toNat)
      case atStart => exact ⟨0, Nat.zero_le _, rfl, ro_zrow wc nb, below_alloc _ _⟩
      case round =>
        obtain ⟨k, hk, rfl, R, hB⟩ := hrel
        clear hmk y0
        by_cases hlt : k < nb
        · have U0 := Y0.below hB; have U2 := Y2.below hB; have U3 := Y3.below hB
          have u0 := U0.at_ 0 rfl; have p0 := U2.at_ 0 rfl; have p1 := U2.at_ 1 rfl; have q0 := U3.at_ 0 rfl; have q1 := U3.at_ 1 rfl
          have lw : 0 ≤ (k : Int) := by omega
          have ck := R.cells k hlt; have fk := R.free
          have hw0 : ¬ wide = 0 := by omega
          have ht : (k : Int).tmod wide = (k : Int) % wide := Int.tmod_eq_emod_of_nonneg lw
          have hd : (k : Int).tdiv wide = (k : Int) / wide := Int.tdiv_eq_ediv_of_nonneg lw
          have hwr : wrap64 ((k : Int) / wide) = (k : Int) / wide := by
            have a1 : 0 ≤ (k : Int) / wide := Int.ediv_nonneg lw (by omega)
            have a2 : (k : Int) / wide ≤ k := Int.ediv_le_self _ lw
            unfold wrap64; omega
          cases hx : betB ((k : Int) % wide) p.1 q.1
          · clear hwr
            have hbx : boxS wide p q kind k = 0 := by simp [boxS, hx]
            have HBX := hid hbx; clear hbx
            go_upto_region 8 with (fail)
            go_quiet ((go_at_call 84; exact quiet_left (ref3_between_b hx _)))
            go_wp2_with fail
            go_roundw
            case rel => exact ⟨k + 1, by omega, by go_num, by rw [shTo_skip HBX.out]; exact R.drewN _, by (repeat' (first | with_reducible assumption | with_reducible exact Below.refl _ _ | with_reducible refine Below.drew ?_ | with_reducible refine below_drewN ?_ _ | with_reducible refine balloc ?_ _ | with_reducible refine bset ?_ ?_ _ | with_reducible refine Below.setCell ?_ ?_ _ | with_reducible refine Below.alloc ?_ ?_ _ | omega | (simp; done) | (simp; omega)))⟩
            case measure => simp [intOf]; omega
          · cases hy : betB ((k : Int) / wide) p.2 q.2
            · have hbx : boxS wide p q kind k = 0 := by simp [boxS, hy]
              have HBX := hid hbx; clear hbx
              go_upto_region 8 with (fail)
              go_quiet (first | (go_at_call_of 84 (q.1); exact quiet_left (ref3_between_b hx _)) | (go_at_call_of 84 (q.2); exact quiet_left (ref3_between_b hy _)))
              clear hwr
              go_wp2_with fail
              go_roundw
              case rel => exact ⟨k + 1, by omega, by go_num, by rw [shTo_skip HBX.out]; exact R.drewN _, by (repeat' (first | with_reducible assumption | with_reducible exact Below.refl _ _ | with_reducible refine Below.drew ?_ | with_reducible refine below_drewN ?_ _ | with_reducible refine balloc ?_ _ | with_reducible refine bset ?_ ?_ _ | with_reducible refine Below.setCell ?_ ?_ _ | with_reducible refine Below.alloc ?_ ?_ _ | omega | (simp; done) | (simp; omega)))⟩
              case measure => simp [intOf]; omega
            · have hbx : boxS wide p q kind k = kind := by simp [boxS, hx, hy]
              have HBX := hid hbx; clear hbx
              go_upto_region 8 with (fail)
              go_quiet (first | (go_at_call_of 84 (q.1); exact quiet_left (ref3_between_b hx _)) | (go_at_call_of 84 (q.2); exact quiet_left (ref3_between_b hy _)))
              clear hwr
              go_wp2_with fail
              go_roundw
              case rel => exact ⟨k + 1, by omega, by go_num, by rw [shTo_set, HBX.out]; exact (R.drewN _).set_ k kind, by (repeat' (first | with_reducible assumption | with_reducible exact Below.refl _ _ | with_reducible refine Below.drew ?_ | with_reducible refine below_drewN ?_ _ | with_reducible refine balloc ?_ _ | with_reducible refine bset ?_ ?_ _ | with_reducible refine Below.setCell ?_ ?_ _ | with_reducible refine Below.alloc ?_ ?_ _ | omega | (simp; done) | (simp; omega)))⟩
              case measure => simp [intOf]; omega
        · obtain rfl : k = nb := (by omega)
          have U1 := Y1.below hB; have U4 := Y4.below hB
          have u0 := U1.at_ 0 rfl; have u1 := U1.at_ 1 rfl
          have hBw : Below w.heap.size w wr := bvia hB1 hB
          have RS : Sl wr (some ⟨wc.heap.size, 0, none⟩) k (boxS wide p q kind) := (R.congr (fun j hj => by simp [shTo, hj])).sl
          go_wp2_with fail
          refine (ref3_put body ak ab _ k _ _ _ K B (boxS wide p q kind) _ (by omega) h0 (JK.below hB) (JB.below hB) RS).mono ?_
          rintro e w3 ⟨a1, a2, c1, c2, rfl, S1, S2, hb3⟩
          have V4 := U4.below hb3
          have y0 := V4.at_ 0 rfl; have y1 := V4.at_ 1 rfl; have yf := V4.free; have l4 := V4.lt
          have hBw3 : Below w.heap.size w w3 := bvia hBw hb3
          generalize hpl : putLen (boxS wide p q kind) B body k = pl at S1 S2 ⊢
          have HPL := hid hpl; clear hpl
          go_wp2_with fail
          refine bodyPost_ret (v := .tuple #[.agg #[.slice a1 pl c1, .slice a2 pl c2], .int .i64 (putErr (boxS wide p q kind) B body k)]) (by simp [results, Try.results32, go_sem, y0, y1]) rfl ?_
          rw [HE.out]
          exact ⟨fun _ => ⟨a1, a2, c1, c2, by rw [HPL.out], by rw [HPL.out]; exact S1.set2 V4 _ _, by rw [HPL.out]; exact S2.set2 V4 _ _, by (repeat' (first | with_reducible assumption | with_reducible exact Below.refl _ _ | with_reducible refine Below.drew ?_ | with_reducible refine below_drewN ?_ _ | with_reducible refine balloc ?_ _ | with_reducible refine bset ?_ ?_ _ | with_reducible refine Below.setCell ?_ ?_ _ | with_reducible refine Below.alloc ?_ ?_ _ | omega | (simp; done) | (simp; omega)))⟩, fun h => absurd rfl h⟩
    · have her : er ≠ 0 := by simpa using hne
      have HE := hid hE; clear hE
      go_wp2_with fail
      refine bodyPost_ret (v := .tuple #[.agg #[.slice none 0 0, .slice none 0 0], .int .i64 er]) (by simp [results, Try.results32, go_sem, y40, y41]) rfl (by rw [HE.out]; exact shapePost_err her (by (repeat' (first | with_reducible assumption | with_reducible exact Below.refl _ _ | with_reducible refine Below.drew ?_ | with_reducible refine below_drewN ?_ _ | with_reducible refine balloc ?_ _ | with_reducible refine bset ?_ ?_ _ | with_reducible refine Below.setCell ?_ ?_ _ | with_reducible refine Below.alloc ?_ ?_ _ | omega | (simp; done) | (simp; omega)))))
end Go.Proofs.Ytnnaegnkkpknpaa
