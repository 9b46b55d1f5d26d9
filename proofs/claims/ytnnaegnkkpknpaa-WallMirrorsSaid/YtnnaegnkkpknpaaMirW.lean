/- Walks: wall.Mirrored. -/
import Derived.Test.YtnnaegnkkpknpaaRPut
import Derived.Test.YtnnaegnkkpknpaaIter
import Derived.Deep.CutRange
namespace Go.Proofs.Ytnnaegnkkpknpaa
open Go Go.RowKit
attribute [local go_sem ↓] Go.wp_at_zero Go.wp_at_succ
set_option linter.unusedVariables false
/-- the place of the mirror image -/
def mirI (wide : Int) (k : Nat) : Nat := ((k : Int) - (k : Int) % wide + wide - 1 - (k : Int) % wide).toNat
def swp (x : Int) : Int := if x = 2 then 3 else if x = 3 then 2 else x
theorem mirI_at {wide high : Int} {n k : Nat} (v1 : 1 ≤ wide) (hn : (n : Int) = wide * high) (hk : k < n) :
    ((mirI wide k : Nat) : Int) = (k : Int) - (k : Int) % wide + wide - 1 - (k : Int) % wide ∧ mirI wide k < n ∧ (mirI wide k : Int) % wide = wide - 1 - (k : Int) % wide ∧ (mirI wide k : Int) / wide = (k : Int) / wide ∧ mirI wide (mirI wide k) = k := by
  have a := Int.emod_nonneg (k : Int) (show wide ≠ 0 by omega)
  have b := Int.emod_lt_of_pos (k : Int) (show 0 < wide by omega)
  have e := Int.emod_add_mul_ediv (k : Int) wide
  have c : 0 ≤ (k : Int) / wide := Int.ediv_nonneg (by omega) (by omega)
  have d : (k : Int) / wide < high := Int.ediv_lt_of_lt_mul (by omega) (by rw [Int.mul_comm]; omega)
  have hm : 0 ≤ wide * ((k : Int) / wide) := Int.mul_nonneg (by omega) c
  have hm2 : wide * ((k : Int) / wide) ≤ wide * (high - 1) := Int.mul_le_mul_of_nonneg_left (by omega) (by omega)
  rw [Int.mul_sub, Int.mul_one] at hm2
  have h1 : ((mirI wide k : Nat) : Int) = (k : Int) - (k : Int) % wide + wide - 1 - (k : Int) % wide := by unfold mirI; omega
  have h2 : ((mirI wide k : Nat) : Int) = (wide - 1 - (k : Int) % wide) + wide * ((k : Int) / wide) := by rw [h1]; omega
  have h3 : (mirI wide k : Int) % wide = wide - 1 - (k : Int) % wide := by
    rw [h2, Int.add_mul_emod_self_left]; exact Int.emod_eq_of_lt (by omega) (by omega)
  have h4 : (mirI wide k : Int) / wide = (k : Int) / wide := by
    rw [h2, Int.add_mul_ediv_left _ _ (by omega), Int.ediv_eq_zero_of_lt (by omega) (by omega)]; omega
  refine ⟨h1, by omega, h3, h4, ?_⟩
  have : ((mirI wide (mirI wide k) : Nat) : Int) = k := by
    unfold mirI at h1 h3 ⊢
    rw [h3, h1]
    omega
  omega
def mTo (wide : Int) (v f : Nat → Int) (k : Nat) : Nat → Int := fun j => if mirI wide j < k then v (mirI wide j) else f j
theorem mTo_set {wide high : Int} {n k : Nat} (v1 : 1 ≤ wide) (hn : (n : Int) = wide * high) (hk : k < n) (v f : Nat → Int) (j : Nat) (hj : j < n) : upd (mTo wide v f k) (mirI wide k) (v k) j = mTo wide v f (k + 1) j := by
  unfold upd mTo
  by_cases e : j = mirI wide k
  · have : mirI wide j = k := by rw [e]; exact (mirI_at v1 hn hk).2.2.2.2
    rw [if_pos e, if_pos (by omega), this]
  · have : mirI wide j ≠ k := fun h => e (by rw [← h]; exact ((mirI_at v1 hn hj).2.2.2.2).symm)
    rw [if_neg e]
    by_cases h : mirI wide j < k
    · rw [if_pos h, if_pos (by omega)]
    · rw [if_neg h, if_neg (by omega)]
def mirE (v : Bool) : Int := if v then 0 else 1
def mirL (v : Bool) (n : Nat) : Nat := if v then n else 0
/-- the kinds of the mirror image -/
theorem idx4m : ∀ (w : World),
  (Instr.index 30 (.agg #[.int .i64 0, .int .i64 1, .int .i64 3, .int .i64 2]) (.int .i64 0)).run Try.prog w = .ok (.int .i64 0) w ∧
  (Instr.index 30 (.agg #[.int .i64 0, .int .i64 1, .int .i64 3, .int .i64 2]) (.int .i64 1)).run Try.prog w = .ok (.int .i64 1) w ∧
  (Instr.index 30 (.agg #[.int .i64 0, .int .i64 1, .int .i64 3, .int .i64 2]) (.int .i64 2)).run Try.prog w = .ok (.int .i64 3) w ∧
  (Instr.index 30 (.agg #[.int .i64 0, .int .i64 1, .int .i64 3, .int .i64 2]) (.int .i64 3)).run Try.prog w = .ok (.int .i64 2) w := fun w => by
  refine ⟨?_, ?_, ?_, ?_⟩ <;> kernel_rfl
set_option maxRecDepth 100000 in
set_option maxHeartbeats 8000000 in
theorem wall_Mirrored (wide high : Int) (a ak ab : Option Addr) (n nk nb c ck cb : Nat) (g : Nat → C4) (K B : Nat → Int) (w : World) (hn : n ≤ 100000) (hnk : nk ≤ 100000) (hnb : nb ≤ 100000) (H : Sc w a n g) (HK : Sl w ak nk K) (HB : Sl w ab nb B) :
    Calls Try.prog 41 #[.agg #[.int .i64 wide, .int .i64 high, .slice a n c], .agg #[.slice ak nk ck, .slice ab nb cb]] w
      (WallPost (mirE (validW wide high n g nk nb K B)) (mirL (validW wide high n g nk nb K B) n) (fun j => swp (K (mirI wide j))) (fun j => B (mirI wide j)) w) := by
  have X0 := ((Bx.new w #[.int .i64 wide, .int .i64 high, .slice a n c] 24).alloc (.cells #[.slice ak nk ck, .slice ab nb cb] 27)).alloc (.cells #[.slice none 0 0, .slice none 0 0] 27)
  have X1 := (Bx.new (w.alloc (.cells #[.int .i64 wide, .int .i64 high, .slice a n c] 24)) #[.slice ak nk ck, .slice ab nb cb] 27).alloc (.cells #[.slice none 0 0, .slice none 0 0] 27)
  have X2 := Bx.new ((w.alloc (.cells #[.int .i64 wide, .int .i64 high, .slice a n c] 24)).alloc (.cells #[.slice ak nk ck, .slice ab nb cb] 27)) #[.slice none 0 0, .slice none 0 0] 27
  simp only [World.size_alloc] at X1 X2
  have hB0 : Below w.heap.size w (((w.alloc (.cells #[.int .i64 wide, .int .i64 high, .slice a n c] 24)).alloc (.cells #[.slice ak nk ck, .slice ab nb cb] 27)).alloc (.cells #[.slice none 0 0, .slice none 0 0] 27)) := by (repeat' (first | with_reducible assumption | with_reducible exact Below.refl _ _ | with_reducible refine Below.drew ?_ | with_reducible refine below_drewN ?_ _ | with_reducible refine balloc ?_ _ | with_reducible refine bset ?_ ?_ _ | with_reducible refine Below.setCell ?_ ?_ _ | with_reducible refine Below.alloc ?_ ?_ _ | omega | (simp; done) | (simp; omega)))
  go_enter Try.func41, Try.ntmps41
  go_wp2_with fail
  generalize (((w.alloc (.cells #[.int .i64 wide, .int .i64 high, .slice a n c] 24)).alloc (.cells #[.slice ak nk ck, .slice ab nb cb] 27)).alloc (.cells #[.slice none 0 0, .slice none 0 0] 27)) = W0 at X0 X1 X2 hB0 ⊢
  have z0 := X0.lt
  have z1 := X1.lt
  have z2 := X2.lt
  refine (wall_valid wide high a ak ab n nk nb c ck cb g K B _ (by omega) (by omega) (by omega) (H.below hB0) (HK.below hB0) (HB.below hB0)).mono ?_
  rintro e w1 ⟨rfl, hb1⟩
  have Y0 := X0.below hb1; have Y1 := X1.below hb1; have Y2 := X2.below hb1
  have hB1 : Below w.heap.size w w1 := bvia hB0 hb1
  clear X0 X1 X2 z0 z1 z2 hB0 hb1
  have y20 := Y2.at_ 0 rfl; have y21 := Y2.at_ 1 rfl; have y2f := Y2.free; have l2 := Y2.lt
  cases hv : validW wide high n g nk nb K B
  · have h1 : mirE false = 1 := rfl
    go_wp2_with fail
    refine bodyPost_ret (v := .tuple #[.agg #[.slice none 0 0, .slice none 0 0], .int .i64 1]) (by simp [results, Try.results41, go_sem, y20, y21]) rfl ?_
    rw [hv]
    exact wallPost_none (err := 1) (by (repeat' (first | with_reducible assumption | with_reducible exact Below.refl _ _ | with_reducible refine Below.drew ?_ | with_reducible refine below_drewN ?_ _ | with_reducible refine balloc ?_ _ | with_reducible refine bset ?_ ?_ _ | with_reducible refine Below.setCell ?_ ?_ _ | with_reducible refine Below.alloc ?_ ?_ _ | omega | (simp; done) | (simp; omega))))
  · obtain ⟨hG, rfl, rfl, hall⟩ := (validW_iff ..).1 hv
    obtain ⟨v1, v2, v3, v4, v5, v6, _, _⟩ := (validG_iff ..).1 hG
    have h0 : 0 < nb := by
      have : 1 * 1 ≤ wide * high := Int.mul_le_mul v1 v3 (by omega) (by omega)
      omega
    have HV6 := hid v6
    have HAL := hid hall
    have HV := hid hv
    clear hv hG v5 v6 hall y20 y21 y2f
    have y10 := Y1.at_ 0 rfl; have y11 := Y1.at_ 1 rfl; have l1 := Y1.lt
    go_wp2_with fail
    refine (wall_clone ak ab nb ck cb K B _ hn h0 (HK.below hB1) (HB.below hB1)).mono ?_
    rintro e w2 ⟨gk, ck', gb, cb', rfl, hgk, hgb, hne, RK, RB, hb2⟩
    have U0 := (Y0.below hb2).alloc (.cells #[.slice (some ⟨gk, 0, none⟩) nb ck', .slice (some ⟨gb, 0, none⟩) nb cb'] 27)
    have U1 := (Y1.below hb2).alloc (.cells #[.slice (some ⟨gk, 0, none⟩) nb ck', .slice (some ⟨gb, 0, none⟩) nb cb'] 27)
    have U2 := (Y2.below hb2).alloc (.cells #[.slice (some ⟨gk, 0, none⟩) nb ck', .slice (some ⟨gb, 0, none⟩) nb cb'] 27)
    have UC := Bx.new w2 #[.slice (some ⟨gk, 0, none⟩) nb ck', .slice (some ⟨gb, 0, none⟩) nb cb'] 27
    have VK := RK.alloc (.cells #[.slice (some ⟨gk, 0, none⟩) nb ck', .slice (some ⟨gb, 0, none⟩) nb cb'] 27)
    have VB := RB.alloc (.cells #[.slice (some ⟨gk, 0, none⟩) nb ck', .slice (some ⟨gb, 0, none⟩) nb cb'] 27)
    have hB2 := balloc (bvia hB1 hb2) (.cells #[.slice (some ⟨gk, 0, none⟩) nb ck', .slice (some ⟨gb, 0, none⟩) nb cb'] 27)
    have lk := RK.lt; have lb := RB.lt; have hs12 := hb2.size
    clear Y0 Y1 Y2 RK RB hb2 y10 y11
    have hl2 : w.heap.size + 1 + 1 < w1.heap.size := l2
    have u10 := U1.at_ 0 rfl
    go_wp2_with fail
    go_loopw [20] (fun i wr => ∃ k : Nat, k ≤ nb ∧ i = .int .i64 k ∧ Bx wr w.heap.size #[.int .i64 wide, .int .i64 high, .slice a nb c] ∧ Bx wr (w.heap.size + 1) #[.slice ak nb ck, .slice ab nb cb] ∧ Bx wr (w.heap.size + 1 + 1) #[.slice none 0 0, .slice none 0 0] ∧ Bx wr w2.heap.size #[.slice (some ⟨gk, 0, none⟩) nb ck', .slice (some ⟨gb, 0, none⟩) nb cb'] ∧ Ro wr gk nb (mTo wide (fun j => swp (K j)) K k) ∧ Ro wr gb nb (mTo wide B B k) ∧ Below w.heap.size w wr) (fun i _ => nb - (intOf i).toNat)
    case atStart => exact ⟨0, Nat.zero_le _, rfl, U0, U1, U2, UC, VK.congr (fun j hj => by simp [mTo]), VB.congr (fun j hj => by simp [mTo]), hB2⟩
    case round =>
      clear U0 U1 U2 UC VK VB hB2 u10 l1 l2
      obtain ⟨k, hk, rfl, U0, U1, U2, UC, UK, UB, hB⟩ := hrel
      have l0 := U0.lt; have l1 := U1.lt; have l2 := U2.lt; have lc := UC.lt
      by_cases hlt : k < nb
      · obtain ⟨bk, ok, rfl, hbk, c0⟩ := (HK.below hB) k hlt
        obtain ⟨bb, ob, rfl, hbb, d0⟩ := (HB.below hB) k hlt
        have hbk' : bk < w.heap.size := by
          obtain ⟨b', o', e, h, _⟩ := HK k hlt
          injection e with e; injection e with e1 _ _; omega
        have hbb' : bb < w.heap.size := by
          obtain ⟨b', o', e, h, _⟩ := HB k hlt
          injection e with e; injection e with e1 _ _; omega
        obtain ⟨k0, k3, _⟩ := HAL.out k hlt
        obtain ⟨hJ, hJn, _, _, _⟩ := mirI_at v1 HV6.out hlt
        have hset := fun (v f : Nat → Int) j hj => mTo_set (k := k) v1 HV6.out hlt v f j hj
        generalize mirI wide k = J at hJ hJn hset
        have HSET := hid hset; clear hset
        have lw : 0 ≤ (k : Int) := by omega
        have a1 : 0 ≤ (k : Int) % wide := Int.emod_nonneg _ (by omega)
        have a2 : (k : Int) % wide < wide := Int.emod_lt_of_pos _ (by omega)
        have a3 : (k : Int) % wide ≤ k := by
          have h1 := Int.emod_add_mul_ediv (k : Int) wide
          have h2 := Int.mul_nonneg (show 0 ≤ wide by omega) (Int.ediv_nonneg lw (show 0 ≤ wide by omega))
          omega
        have hw0 : ¬ wide = 0 := by omega
        have ht : (k : Int).tmod wide = (k : Int) % wide := Int.tmod_eq_emod_of_nonneg lw
        have g0 := U0.at_ 0 rfl
        have fk := UK.free; have fb := UB.free
        have jk := UK.cells J hJn; have jb := UB.cells J hJn
        have hkk : K k = 0 ∨ K k = 1 ∨ K k = 2 ∨ K k = 3 := by omega
        go_upto_region 7 with (fail)
        go_quiet (fail)
        go_upto_region 8 with (fail)
        rw [← hJ]
        have hgw : w2.heap.size ≠ gk ∧ w2.heap.size ≠ gb ∧ w.heap.size + 1 ≠ gk ∧ w.heap.size + 1 ≠ gb ∧ bb ≠ gk ∧ bb ≠ gb ∧ w.heap.size ≠ gk ∧ w.heap.size ≠ gb ∧ w.heap.size + 1 + 1 ≠ gk ∧ w.heap.size + 1 + 1 ≠ gb := ⟨by omega, by omega, by omega, by omega, by omega, by omega, by omega, by omega, by omega, by omega⟩
        obtain ⟨n1, n2, n3, n4, n5, n6, n7, n8, n9, n10⟩ := hgw
        have r0 : ∀ W, But (fun b => b = gk ∨ b = gb) wr W → W.cell? ⟨w2.heap.size, 0, none⟩ = some (.slice (some ⟨gk, 0, none⟩) nb ck') := fun W h => (UC.but h (fun e => e.elim n1 n2)).at_ 0 rfl
        have r1 : ∀ W, But (fun b => b = gk ∨ b = gb) wr W → W.cell? ⟨w2.heap.size, 1, none⟩ = some (.slice (some ⟨gb, 0, none⟩) nb cb') := fun W h => (UC.but h (fun e => e.elim n1 n2)).at_ 1 rfl
        have r2 : ∀ W, But (fun b => b = gk ∨ b = gb) wr W → W.cell? ⟨w.heap.size + 1, 1, none⟩ = some (.slice (some ⟨bb, ob, none⟩) nb cb) := fun W h => (U1.but h (fun e => e.elim n3 n4)).at_ 1 rfl
        have r3 : ∀ W, But (fun b => b = gk ∨ b = gb) wr W → W.cell? ⟨bb, ob + k, none⟩ = some (.int .i64 (B k)) := fun W h => (World.cell?_of_block (h.block bb hbb (fun e => e.elim n5 n6))).trans d0
        clear g0 ht hw0 a1 a2 a3 hJ c0 d0
        rcases hkk with e | e | e | e
        · skip
          have hi := fun w => (idx4m w).1
          have HE := hid e
          rw [e]
          clear e k0 k3
          go_region_held3 (fun W => But (fun b => b = gk ∨ b = gb) wr W) ((repeat' (first | with_reducible assumption | with_reducible exact But.refl _ _ | with_reducible refine But.drew ?_ | with_reducible refine But.drewN ?_ _ | refine But.set_ ?_ (Or.inl rfl) _ | refine But.set_ ?_ (Or.inr rfl) _))) (fail)
          all_goals
            go_wp2_with fail
            go_roundw
            case rel =>
              have hK : ∀ j, j < nb → upd (mTo wide (fun j => swp (K j)) K k) J (0) j = mTo wide (fun j => swp (K j)) K (k + 1) j := by
                have h := HSET.out (fun j => swp (K j)) K
                rw [HE.out] at h
                exact h
              exact ⟨k + 1, by omega, by go_num, ((U0.drewN _).far (Ne.symm n7) _).far (Ne.symm n8) _, ((U1.drewN _).far (Ne.symm n3) _).far (Ne.symm n4) _, ((U2.drewN _).far (Ne.symm n9) _).far (Ne.symm n10) _, ((UC.drewN _).far (Ne.symm n1) _).far (Ne.symm n2) _, (((UK.drewN _).set_ J (0)).far (Ne.symm hne) _).congr hK, (((UB.drewN _).far hne _).set_ J (B k)).congr (HSET.out B B), by (repeat' (first | with_reducible assumption | with_reducible exact Below.refl _ _ | with_reducible refine Below.drew ?_ | with_reducible refine below_drewN ?_ _ | with_reducible refine balloc ?_ _ | with_reducible refine bset ?_ ?_ _ | with_reducible refine Below.setCell ?_ ?_ _ | with_reducible refine Below.alloc ?_ ?_ _ | omega | (simp; done) | (simp; omega)))⟩
            case measure => simp [intOf]; omega
        · skip
          have hi := fun w => (idx4m w).2.1
          have HE := hid e
          rw [e]
          clear e k0 k3
          go_region_held3 (fun W => But (fun b => b = gk ∨ b = gb) wr W) ((repeat' (first | with_reducible assumption | with_reducible exact But.refl _ _ | with_reducible refine But.drew ?_ | with_reducible refine But.drewN ?_ _ | refine But.set_ ?_ (Or.inl rfl) _ | refine But.set_ ?_ (Or.inr rfl) _))) (fail)
          all_goals
            go_wp2_with fail
            go_roundw
            case rel =>
              have hK : ∀ j, j < nb → upd (mTo wide (fun j => swp (K j)) K k) J (1) j = mTo wide (fun j => swp (K j)) K (k + 1) j := by
                have h := HSET.out (fun j => swp (K j)) K
                rw [HE.out] at h
                exact h
              exact ⟨k + 1, by omega, by go_num, ((U0.drewN _).far (Ne.symm n7) _).far (Ne.symm n8) _, ((U1.drewN _).far (Ne.symm n3) _).far (Ne.symm n4) _, ((U2.drewN _).far (Ne.symm n9) _).far (Ne.symm n10) _, ((UC.drewN _).far (Ne.symm n1) _).far (Ne.symm n2) _, (((UK.drewN _).set_ J (1)).far (Ne.symm hne) _).congr hK, (((UB.drewN _).far hne _).set_ J (B k)).congr (HSET.out B B), by (repeat' (first | with_reducible assumption | with_reducible exact Below.refl _ _ | with_reducible refine Below.drew ?_ | with_reducible refine below_drewN ?_ _ | with_reducible refine balloc ?_ _ | with_reducible refine bset ?_ ?_ _ | with_reducible refine Below.setCell ?_ ?_ _ | with_reducible refine Below.alloc ?_ ?_ _ | omega | (simp; done) | (simp; omega)))⟩
            case measure => simp [intOf]; omega
        · skip
          have hi := fun w => (idx4m w).2.2.1
          have HE := hid e
          rw [e]
          clear e k0 k3
          go_region_held3 (fun W => But (fun b => b = gk ∨ b = gb) wr W) ((repeat' (first | with_reducible assumption | with_reducible exact But.refl _ _ | with_reducible refine But.drew ?_ | with_reducible refine But.drewN ?_ _ | refine But.set_ ?_ (Or.inl rfl) _ | refine But.set_ ?_ (Or.inr rfl) _))) (fail)
          all_goals
            go_wp2_with fail
            go_roundw
            case rel =>
              have hK : ∀ j, j < nb → upd (mTo wide (fun j => swp (K j)) K k) J (3) j = mTo wide (fun j => swp (K j)) K (k + 1) j := by
                have h := HSET.out (fun j => swp (K j)) K
                rw [HE.out] at h
                exact h
              exact ⟨k + 1, by omega, by go_num, ((U0.drewN _).far (Ne.symm n7) _).far (Ne.symm n8) _, ((U1.drewN _).far (Ne.symm n3) _).far (Ne.symm n4) _, ((U2.drewN _).far (Ne.symm n9) _).far (Ne.symm n10) _, ((UC.drewN _).far (Ne.symm n1) _).far (Ne.symm n2) _, (((UK.drewN _).set_ J (3)).far (Ne.symm hne) _).congr hK, (((UB.drewN _).far hne _).set_ J (B k)).congr (HSET.out B B), by (repeat' (first | with_reducible assumption | with_reducible exact Below.refl _ _ | with_reducible refine Below.drew ?_ | with_reducible refine below_drewN ?_ _ | with_reducible refine balloc ?_ _ | with_reducible refine bset ?_ ?_ _ | with_reducible refine Below.setCell ?_ ?_ _ | with_reducible refine Below.alloc ?_ ?_ _ | omega | (simp; done) | (simp; omega)))⟩
            case measure => simp [intOf]; omega
        · skip
          have hi := fun w => (idx4m w).2.2.2
          have HE := hid e
          rw [e]
          clear e k0 k3
          go_region_held3 (fun W => But (fun b => b = gk ∨ b = gb) wr W) ((repeat' (first | with_reducible assumption | with_reducible exact But.refl _ _ | with_reducible refine But.drew ?_ | with_reducible refine But.drewN ?_ _ | refine But.set_ ?_ (Or.inl rfl) _ | refine But.set_ ?_ (Or.inr rfl) _))) (fail)
          all_goals
            go_wp2_with fail
            go_roundw
            case rel =>
              have hK : ∀ j, j < nb → upd (mTo wide (fun j => swp (K j)) K k) J (2) j = mTo wide (fun j => swp (K j)) K (k + 1) j := by
                have h := HSET.out (fun j => swp (K j)) K
                rw [HE.out] at h
                exact h
              exact ⟨k + 1, by omega, by go_num, ((U0.drewN _).far (Ne.symm n7) _).far (Ne.symm n8) _, ((U1.drewN _).far (Ne.symm n3) _).far (Ne.symm n4) _, ((U2.drewN _).far (Ne.symm n9) _).far (Ne.symm n10) _, ((UC.drewN _).far (Ne.symm n1) _).far (Ne.symm n2) _, (((UK.drewN _).set_ J (2)).far (Ne.symm hne) _).congr hK, (((UB.drewN _).far hne _).set_ J (B k)).congr (HSET.out B B), by (repeat' (first | with_reducible assumption | with_reducible exact Below.refl _ _ | with_reducible refine Below.drew ?_ | with_reducible refine below_drewN ?_ _ | with_reducible refine balloc ?_ _ | with_reducible refine bset ?_ ?_ _ | with_reducible refine Below.setCell ?_ ?_ _ | with_reducible refine Below.alloc ?_ ?_ _ | omega | (simp; done) | (simp; omega)))⟩
            case measure => simp [intOf]; omega
      · obtain rfl : k = nb := (by omega)
        have uc0 := UC.at_ 0 rfl; have uc1 := UC.at_ 1 rfl; have u20 := U2.at_ 0 rfl; have u21 := U2.at_ 1 rfl; have u2f := U2.free
        have hfin : ∀ v f : Nat → Int, ∀ j, j < k → mTo wide v f k j = v (mirI wide j) := fun v f j hj => if_pos (mirI_at v1 HV6.out hj).2.1
        have HFIN := hid hfin; clear hfin
        go_wp2_with fail
        refine bodyPost_ret (v := .tuple #[.agg #[.slice (some ⟨gk, 0, none⟩) k ck', .slice (some ⟨gb, 0, none⟩) k cb'], .int .i64 0]) (by simp [results, Try.results41, go_sem, u20, u21]) rfl ?_
        have SK := ((UK.congr (HFIN.out _ _)).far (p := ⟨w.heap.size + 1 + 1, 0, none⟩) (by simp; omega) (.slice (some ⟨gk, 0, none⟩) k ck')).far (p := ⟨w.heap.size + 1 + 1, 1, none⟩) (by simp; omega) (.slice (some ⟨gb, 0, none⟩) k cb')
        have SB := ((UB.congr (HFIN.out _ _)).far (p := ⟨w.heap.size + 1 + 1, 0, none⟩) (by simp; omega) (.slice (some ⟨gk, 0, none⟩) k ck')).far (p := ⟨w.heap.size + 1 + 1, 1, none⟩) (by simp; omega) (.slice (some ⟨gb, 0, none⟩) k cb')
        rw [HV.out]
        exact ⟨_, _, _, _, rfl, SK.sl, SB.sl, by (repeat' (first | with_reducible assumption | with_reducible exact Below.refl _ _ | with_reducible refine Below.drew ?_ | with_reducible refine below_drewN ?_ _ | with_reducible refine balloc ?_ _ | with_reducible refine bset ?_ ?_ _ | with_reducible refine Below.setCell ?_ ?_ _ | with_reducible refine Below.alloc ?_ ?_ _ | omega | (simp; done) | (simp; omega)))⟩
end Go.Proofs.Ytnnaegnkkpknpaa
