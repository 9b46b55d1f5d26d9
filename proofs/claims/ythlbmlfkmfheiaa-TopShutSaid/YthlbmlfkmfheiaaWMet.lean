/- Walks: the program's met of a tunnel. -/
import Derived.Test.YthlbmlfkmfheiaaWStream2
import Derived.Test.YthlbmlfkmfheiaaCellStep2
import Derived.Deep.DeepCutAuto
namespace Go.Proofs.Ythlbmlfkmfheiaa
open Go Go.RowKit
set_option linter.unusedVariables false
set_option maxRecDepth 100000 in
set_option maxHeartbeats 8000000 in
theorem wall_metC (W H p t : Nat) (a ak ab ar : Option Addr) (n ca ck nb cb nr cr : Nat) (g : Nat → C4) (K : Nat → Int) (r : Nat → Int × Int) (w : World) (hn : n ≤ 100000) (h0 : 0 < n) (hr0 : 0 < nr) (hr8 : nr ≤ 8) (ht : t ≤ 1000000) (S : Sc w a n g) (SK : Sl w ak n K) (SR : Sr w ar nr r) (X : Bx w p #[.int .i64 (W : Int), .int .i64 (H : Int), .slice a n ca, .slice ak n ck, .slice ab nb cb, .slice ar nr cr])
    (hK : ∀ i, i < n → 0 ≤ K i ∧ K i ≤ 3) (hv : ∀ i, i < n → validC (g i) = true) (hru : ruleOk (rlAt nr r t).1 (rlAt nr r t).2) :
    Calls Try.prog 43 #[.pointer (some ⟨p, 0, none⟩), .func (.func 44) #[] #[], .int .i64 (t : Int)] w (GridRow W H n (metF (rlAt nr r t).1 (rlAt nr r t).2 K g) w) := by
  have hcopy := fun W' S' => clone_cells a n ca g W' hn h0 S'
  have hafter := fun i W' h => cell_Collide (g i) (rlAt nr r t).1 (rlAt nr r t).2 W' (hv i h) hru
  have hsent := fun i W' h => wall_sent (g i) W' (K i) (hK i h).1 (hK i h).2
  have hm : ∀ i, metF (rlAt nr r t).1 ((rlAt nr r t).2) K g i = if K i = 0 then coll (rlAt nr r t).1 ((rlAt nr r t).2) (g i) else sentC (g i) (K i) := fun _ => rfl
  generalize metF (rlAt nr r t).1 ((rlAt nr r t).2) K g = G at *
  have HA := hid hafter; have HS := hid hsent; have HM := hid hm
  clear hafter hsent hm hK hv hru
  have hlt : t % nr < nr := Nat.mod_lt _ hr0
  obtain ⟨br, orr, rfl, hbr, d0, d1⟩ := SR (t % nr) hlt
  have htm : ((t : Int)).tmod (nr : Int) = ((t % nr : Nat) : Int) := by rw [Int.tmod_eq_emod_of_nonneg (by omega)]; simp
  have hrl : rlAt nr r t = r (t % nr) := rfl
  rw [hrl] at HA HM
  clear hrl
  generalize t % nr = j at *
  generalize r j = q at *
  obtain ⟨k, b⟩ := q
  have hn0 : ¬ (nr : Int) = 0 := by omega
  have hn1 : ¬ nr = 0 := by omega
  have zp := X.lt
  have hB0 : Below w.heap.size w (w.alloc (.cells #[.int .i64 0, .int .i64 0, .slice none 0 0] 24)) := below_alloc _ _
  have X3 := Bx.new w #[.int .i64 0, .int .i64 0, .slice none 0 0] 24
  replace X := X.alloc (.cells #[.int .i64 0, .int .i64 0, .slice none 0 0] 24)
  go_enter Try.func43, Try.ntmps43
  go_wp2_with fail
  generalize w.alloc (.cells #[.int .i64 0, .int .i64 0, .slice none 0 0] 24) = W0 at *
  have hs0 := hB0.size
  have z3 := X3.lt
  have hq0 : w.heap.size < W0.heap.size := z3
  have d0' := (bcell hB0 _ _ hbr).trans d0; have d1' := (bcell hB0 _ _ hbr).trans d1
  have r5 : ∀ Y, Below W0.heap.size W0 Y → Y.cell? ⟨p, 5, none⟩ = some (.slice (some ⟨br, orr, none⟩) nr cr) := fun Y h => (X.below h).at_ 5 rfl
  have r6 : ∀ Y, Below W0.heap.size W0 Y → Y.cell? ⟨br, orr + j * 2, none⟩ = some (.int .i64 k) := fun Y h => (bcell h _ _ (by omega)).trans d0'
  have r7 : ∀ Y, Below W0.heap.size W0 Y → Y.cell? ⟨br, orr + j * 2 + 1, none⟩ = some (.int .i64 b) := fun Y h => (bcell h _ _ (by omega)).trans d1'
  go_cut [7] from 11 to 23 (fun s7 Y => s7 = .pointer (some ⟨W0.heap.size, 0, none⟩) ∧ Bx Y W0.heap.size #[.int .i64 k, .int .i64 b] ∧ Below W0.heap.size W0 Y)
  case first =>
    refine wp_region_S (fun Y => Below W0.heap.size W0 Y) 14 (by kernel_rfl) ?_
    refine anyS_take (i := 0) rfl (by kernel_rfl) (fun _ _ _ h => h) (Or.inl ⟨by rfl, fun Y hYb => (by (try dsimp only at hYb); go_simp; rfl)⟩) (by repeat' (first | with_reducible assumption | with_reducible exact Below.refl _ _ | with_reducible refine Below.drew ?_ | with_reducible refine below_drewN ?_ _)) ?_
    refine anyS_take (i := 1) rfl (by kernel_rfl) (fun _ _ _ h => h) (Or.inl ⟨by rfl, fun Y hYb => (by (try dsimp only at hYb); go_simp; rfl)⟩) (by repeat' (first | with_reducible assumption | with_reducible exact Below.refl _ _ | with_reducible refine Below.drew ?_ | with_reducible refine below_drewN ?_ _)) ?_
    refine anyS_take (i := 2) rfl (by kernel_rfl) (fun _ _ _ h => h) (Or.inl ⟨by rfl, fun Y hYb => (by (try dsimp only at hYb); go_simp; rfl)⟩) (by repeat' (first | with_reducible assumption | with_reducible exact Below.refl _ _ | with_reducible refine Below.drew ?_ | with_reducible refine below_drewN ?_ _)) ?_
    refine anyS_take (i := 3) rfl (by kernel_rfl) (fun _ _ _ h => h) (Or.inl ⟨by rfl, fun Y hYb => (by (try dsimp only at hYb); go_simp; rfl)⟩) (by repeat' (first | with_reducible assumption | with_reducible exact Below.refl _ _ | with_reducible refine Below.drew ?_ | with_reducible refine below_drewN ?_ _)) ?_
    refine anyS_take (i := 4) rfl (by kernel_rfl) (fun _ _ _ h => h) (Or.inl ⟨by rfl, fun Y hYb => (by (try dsimp only at hYb); go_simp; rfl)⟩) (by repeat' (first | with_reducible assumption | with_reducible exact Below.refl _ _ | with_reducible refine Below.drew ?_ | with_reducible refine below_drewN ?_ _)) ?_
    refine anyS_take (i := 5) rfl (by kernel_rfl) (fun _ _ _ h => h) (Or.inl ⟨by rfl, fun Y hYb => (by (try dsimp only at hYb); go_simp; rfl)⟩) (by repeat' (first | with_reducible assumption | with_reducible exact Below.refl _ _ | with_reducible refine Below.drew ?_ | with_reducible refine below_drewN ?_ _)) ?_
    refine anyS_take (i := 6) rfl (by kernel_rfl) (fun _ _ _ h => h) (Or.inl ⟨by rfl, fun Y hYb => (by (try dsimp only at hYb); go_simp; rfl)⟩) (by repeat' (first | with_reducible assumption | with_reducible exact Below.refl _ _ | with_reducible refine Below.drew ?_ | with_reducible refine below_drewN ?_ _)) ?_
    refine anyS_take (i := 7) rfl (by kernel_rfl) (fun _ _ _ h => h) (Or.inl ⟨by rfl, fun Y hYb => (by (try dsimp only at hYb); go_simp; rfl)⟩) (by repeat' (first | with_reducible assumption | with_reducible exact Below.refl _ _ | with_reducible refine Below.drew ?_ | with_reducible refine below_drewN ?_ _)) ?_
    refine anyS_take (i := 8) rfl (by kernel_rfl) (fun _ _ _ h => h) (Or.inl ⟨by rfl, fun Y hYb => (by (try dsimp only at hYb); go_simp; rfl)⟩) (by repeat' (first | with_reducible assumption | with_reducible exact Below.refl _ _ | with_reducible refine Below.drew ?_ | with_reducible refine below_drewN ?_ _)) ?_
    refine anyS_take (i := 9) rfl (by kernel_rfl) (fun _ _ _ h => h) (Or.inl ⟨by rfl, fun Y hYb => (by (try dsimp only at hYb); go_simp; rfl)⟩) (by repeat' (first | with_reducible assumption | with_reducible exact Below.refl _ _ | with_reducible refine Below.drew ?_ | with_reducible refine below_drewN ?_ _)) ?_
    refine anyS_take (i := 10) rfl (by kernel_rfl) (fun _ _ _ h => h) (Or.inl ⟨by rfl, fun Y hYb => (by (try dsimp only at hYb); go_simp; rfl)⟩) (by repeat' (first | with_reducible assumption | with_reducible exact Below.refl _ _ | with_reducible refine Below.drew ?_ | with_reducible refine below_drewN ?_ _)) ?_
    refine anyS_take (i := 11) rfl (by kernel_rfl) (fun _ _ _ h => h) (Or.inl ⟨by rfl, fun Y hYb => (by (try dsimp only at hYb); go_simp; rfl)⟩) (by repeat' (first | with_reducible assumption | with_reducible exact Below.refl _ _ | with_reducible refine Below.drew ?_ | with_reducible refine below_drewN ?_ _)) ?_
    refine anyS_take (i := 12) rfl (by kernel_rfl) (fun _ _ _ h => h) (Or.inl ⟨by rfl, fun Y hYb => (by (try dsimp only at hYb); go_simp; rfl)⟩) (by repeat' (first | with_reducible assumption | with_reducible exact Below.refl _ _ | with_reducible refine Below.drew ?_ | with_reducible refine below_drewN ?_ _)) ?_
    refine anyS_one (i := 13) (by kernel_rfl) rfl (by rfl) (fun K hK => ?_)
    go_simp
    have hS1 : Below W0.heap.size W0 (W0.alloc (.cells #[.int .i64 0, .int .i64 0] 43)).drew := (below_alloc W0 _).drew
    refine hK _ _ (fun _ _ => hS1) ?_
    clear hK K
    refine anyS_one (i := 14) (by kernel_rfl) rfl (by rfl) (fun K hK => ?_)
    go_simp
    refine hK _ _ (fun h _ => absurd h (by decide)) ?_
    clear hK K
    refine anyS_done (by kernel_rfl) ?_ _
    clear hS1 r5 r6 r7
    go_wp2_with fail
    go_meet
    refine ⟨rfl, by (repeat' (first | with_reducible assumption | (with_reducible refine Bx.newE ?_ _ _; (simp; done)) | with_reducible refine Bx.alloc ?_ _ | with_reducible refine Bx.drew ?_ | with_reducible refine Bx.drewN ?_ _ | with_reducible refine Bx.four ?_ | (with_reducible refine Bx.far2 ?_ ?_ _; (dsimp only; omega)))), by (repeat' (first | with_reducible assumption | with_reducible exact Below.refl _ _ | with_reducible refine Below.drew ?_ | with_reducible refine below_drewN ?_ _ | with_reducible refine balloc ?_ _ | with_reducible refine bset ?_ ?_ _ | with_reducible refine Below.setCell ?_ ?_ _ | with_reducible refine Below.alloc ?_ ?_ _ | omega | (simp; done) | (simp; omega)))⟩
  case rest =>
    obtain ⟨rfl, X1, hBc⟩ := hcut
    clear r5 r6 r7 d0' d1'
    have hsc := hBc.size
    have z1 := X1.lt
    have X' := X.below hBc
    have Sc' := (S.below hB0).below hBc
    go_upto_region 2 with (fail)
    have r0 : ∀ Y, Below wc.heap.size wc Y → Y.cell? ⟨p, 0, none⟩ = some (.int .i64 (W : Int)) := fun Y h => (X'.below h).at_ 0 rfl
    have r1 : ∀ Y, Below wc.heap.size wc Y → Y.cell? ⟨p, 1, none⟩ = some (.int .i64 (H : Int)) := fun Y h => (X'.below h).at_ 1 rfl
    have r2 : ∀ Y, Below wc.heap.size wc Y → Y.cell? ⟨p, 2, none⟩ = some (.slice a n ca) := fun Y h => (X'.below h).at_ 2 rfl
    obtain ⟨wd0, rfl⟩ : ∃ wd0 : World, wd0 = wc := ⟨_, rfl⟩
    go_cut [8] from 24 to 40 (fun s8 Y => ∃ v b' cap : Nat, s8 = .pointer (some ⟨v, 0, none⟩) ∧ wd0.heap.size ≤ v ∧ wd0.heap.size ≤ b' ∧ v ≠ b' ∧ Bx Y v #[.int .i64 (W : Int), .int .i64 (H : Int), .slice (some ⟨b', 0, none⟩) n cap] ∧ Ro Y b' (n * 4) (flatC g) ∧ n ≤ cap ∧ Below wd0.heap.size wd0 Y)
    case first =>
      go_region_held3 (fun Y => Below wd0.heap.size wd0 Y) ((repeat' (first | with_reducible assumption | with_reducible exact Below.refl _ _ | with_reducible refine Below.drew ?_ | with_reducible refine below_drewN ?_ _ | with_reducible refine balloc ?_ _ | with_reducible refine bset ?_ ?_ _ | with_reducible refine Below.setCell ?_ ?_ _ | with_reducible refine Below.alloc ?_ ?_ _ | omega | (simp; done) | (simp; omega))))
        ((first
          | (go_at_call 41; refine (hcopy _ (Sc'.below (by (repeat' (first | with_reducible assumption | with_reducible exact Below.refl _ _ | with_reducible refine Below.drew ?_ | with_reducible refine below_drewN ?_ _ | with_reducible refine balloc ?_ _ | with_reducible refine bset ?_ ?_ _ | with_reducible refine Below.setCell ?_ ?_ _ | with_reducible refine Below.alloc ?_ ?_ _ | omega | (simp; done) | (simp; omega)))))).mono ?_; rintro e w2 ⟨b', cap, rfl, hb', R, hcap, hb2⟩; have hB2 : Below wd0.heap.size wd0 w2 := bvia (by (repeat' (first | with_reducible assumption | with_reducible exact Below.refl _ _ | with_reducible refine Below.drew ?_ | with_reducible refine below_drewN ?_ _ | with_reducible refine balloc ?_ _ | with_reducible refine bset ?_ ?_ _ | with_reducible refine Below.setCell ?_ ?_ _ | with_reducible refine Below.alloc ?_ ?_ _ | omega | (simp; done) | (simp; omega)))) hb2; have hck := bcell hb2; have hfk := bfrozen hb2; have hzk := hb2.size; (try simp at hzk); (try have hz1k : wd0.heap.size < w2.heap.size := (by omega)))
          | fail))
      all_goals
        go_wp2_with fail
        go_meet
        have lR := R.lt
        (try simp only [World.size_alloc] at hb')
        have hb'' : wd0.heap.size ≤ b' := by first | exact hb' | (have h := hb'; simp at h; omega)
        first
          | exact ⟨_, b', cap, rfl, by omega, by omega, by omega, Bx.new _ _ _, R.alloc _, hcap, by (repeat' (first | with_reducible assumption | with_reducible exact Below.refl _ _ | with_reducible refine Below.drew ?_ | with_reducible refine below_drewN ?_ _ | with_reducible refine balloc ?_ _ | with_reducible refine bset ?_ ?_ _ | with_reducible refine Below.setCell ?_ ?_ _ | with_reducible refine Below.alloc ?_ ?_ _ | omega | (simp; done) | (simp; omega)))⟩
          | (have Z : Bx w2 wd0.heap.size #[.int .i64 0, .int .i64 0, .slice none 0 0] := Bx.below (by (repeat' (first | with_reducible assumption | (with_reducible refine Bx.newE ?_ _ _; (simp; done)) | with_reducible refine Bx.alloc ?_ _ | with_reducible refine Bx.drew ?_ | with_reducible refine Bx.drewN ?_ _ | with_reducible refine Bx.four ?_ | (with_reducible refine Bx.far2 ?_ ?_ _; (dsimp only; omega))))) hb2
             have hb3 : wd0.heap.size < b' := by first | omega | (have h := hb'; simp at h; omega)
             exact ⟨_, b', cap, rfl, by omega, by omega, by omega, ((Z.set_ 0 (by simp) _).set_ 1 (by simp) _).set_ 2 (by simp) _, ((R.far (by simp; omega) _).far (by simp; omega) _).far (by simp; omega) _, hcap, by (repeat' (first | with_reducible assumption | with_reducible exact Below.refl _ _ | with_reducible refine Below.drew ?_ | with_reducible refine below_drewN ?_ _ | with_reducible refine balloc ?_ _ | with_reducible refine bset ?_ ?_ _ | with_reducible refine Below.setCell ?_ ?_ _ | with_reducible refine Below.alloc ?_ ?_ _ | omega | (simp; done) | (simp; omega)))⟩)
    case rest =>
      obtain ⟨v, b', cap, rfl, hv', hb', hvb, X2, R, hcap, hB2⟩ := hcut
      clear r0 r1 r2 hcopy
      have hB : Below w.heap.size w wc := bvia (bvia hB0 hBc) hB2
      replace X := X'.below hB2
      replace X1 := X1.below hB2
      replace X3 := (X3.below hBc).below hB2
      have S2 := S.below hB
      have hs2 := hB2.size
      clear X' Sc' hB0 hBc hB2
      rw [← ovC_zero G g] at R
      have x2 := X.at_ 2 rfl
      go_upto_region 3 with (fail)
      go_wp2_with fail
      clear x2
      go_loopw [47] (fun s47 wr => ∃ i : Nat, i ≤ n ∧ s47 = .int .i64 i ∧ Bx wr p #[.int .i64 (W : Int), .int .i64 (H : Int), .slice a n ca, .slice ak n ck, .slice ab nb cb, .slice (some ⟨br, orr, none⟩) nr cr] ∧ Bx wr W0.heap.size #[.int .i64 k, .int .i64 b] ∧ Bx wr v #[.int .i64 (W : Int), .int .i64 (H : Int), .slice (some ⟨b', 0, none⟩) n cap] ∧ Bx wr w.heap.size #[.int .i64 0, .int .i64 0, .slice none 0 0] ∧ Ro wr b' (n * 4) (flatC (ovC G g i)) ∧ Below w.heap.size w wr) (fun s47 _ => n - (intOf s47).toNat)
      case atStart => exact ⟨0, Nat.zero_le _, rfl, X, X1, X2, X3, R, hB⟩
      case round =>
        clear X X1 X2 X3 R hB S2
        obtain ⟨i, hi, rfl, X, X1, X2, X3, R, hB⟩ := hrel
        by_cases hlt : i < n
        · obtain ⟨bs, os, rfl, hbs, s0, s1, s2, s3⟩ := S i hlt
          obtain ⟨bk, ok, rfl, hbk, ck0⟩ := SK i hlt
          have t0 := (bcell hB _ _ hbs).trans s0; have t1 := (bcell hB _ _ hbs).trans s1; have t2 := (bcell hB _ _ hbs).trans s2; have t3 := (bcell hB _ _ hbs).trans s3
          have hwr := hB.size
          clear s0 s1 s2 s3
          have hk0 := (bcell hB _ _ hbk).trans ck0
          have hbs' : bs < wr.heap.size := by omega
          have hbk' : bk < wr.heap.size := by omega
          have hMi := HM.out i
          have X_3 := X.at_ 3 rfl
          have Xz := X.lt
          by_cases hKi : K i = 0
          · rw [hKi] at hk0
            rw [if_pos hKi] at hMi
            have haf := fun W' => HA.out i W' hlt
            rw [← hMi] at haf
            have hGi := hid hMi
            clear hMi hKi
            go_upto_region 7 with (fail)
            clear X_3 Xz
            replace X := X.alloc (.cells #[.int .i64 (g i).e, .int .i64 (g i).n, .int .i64 (g i).w, .int .i64 (g i).s] 39)
            replace X1 := X1.alloc (.cells #[.int .i64 (g i).e, .int .i64 (g i).n, .int .i64 (g i).w, .int .i64 (g i).s] 39)
            replace X2 := X2.alloc (.cells #[.int .i64 (g i).e, .int .i64 (g i).n, .int .i64 (g i).w, .int .i64 (g i).s] 39)
            replace X3 := X3.alloc (.cells #[.int .i64 (g i).e, .int .i64 (g i).n, .int .i64 (g i).w, .int .i64 (g i).s] 39)
            replace R := R.alloc (.cells #[.int .i64 (g i).e, .int .i64 (g i).n, .int .i64 (g i).w, .int .i64 (g i).s] 39)
            have X4 := Bx.new wr #[.int .i64 (g i).e, .int .i64 (g i).n, .int .i64 (g i).w, .int .i64 (g i).s] 39
            replace hB := balloc hB (.cells #[.int .i64 (g i).e, .int .i64 (g i).n, .int .i64 (g i).w, .int .i64 (g i).s] 39)
            have hkd : (wr.alloc (.cells #[.int .i64 (g i).e, .int .i64 (g i).n, .int .i64 (g i).w, .int .i64 (g i).s] 39)).cell? ⟨bk, ok + i, none⟩ = _ := (cell_old _ _ hbk').trans hk0
            generalize wr.alloc (.cells #[.int .i64 (g i).e, .int .i64 (g i).n, .int .i64 (g i).w, .int .i64 (g i).s] 39) = wd at *
            have hwd := X4.lt
            have hbkd : bk < wd.heap.size := by omega
            have lr := R.lt
            have c4 := R.scell hlt
            rw [ovC_at] at c4
            obtain ⟨c0, c1, c2, c3⟩ := c4
            have rf := R.free
            have u2 : ∀ Y, Below wd.heap.size wd Y → Y.cell? ⟨v, 2, none⟩ = some (.slice (some ⟨b', 0, none⟩) n cap) := fun Y h => (X2.below h).at_ 2 rfl
            have u4 : ∀ Y, Below wd.heap.size wd Y → Y.cell? ⟨wr.heap.size, 0, none⟩ = some (.int .i64 (g i).e) := fun Y h => (X4.below h).at_ 0 rfl
            have u5 : ∀ Y, Below wd.heap.size wd Y → Y.cell? ⟨wr.heap.size, 1, none⟩ = some (.int .i64 (g i).n) := fun Y h => (X4.below h).at_ 1 rfl
            have u6 : ∀ Y, Below wd.heap.size wd Y → Y.cell? ⟨wr.heap.size, 2, none⟩ = some (.int .i64 (g i).w) := fun Y h => (X4.below h).at_ 2 rfl
            have u7 : ∀ Y, Below wd.heap.size wd Y → Y.cell? ⟨wr.heap.size, 3, none⟩ = some (.int .i64 (g i).s) := fun Y h => (X4.below h).at_ 3 rfl
            have q0 : ∀ Y, Below wd.heap.size wd Y → Y.cell? ⟨b', i * 4, none⟩ = some (.int .i64 (g i).e) := fun Y h => (bcell h _ _ lr).trans c0
            have q1 : ∀ Y, Below wd.heap.size wd Y → Y.cell? ⟨b', i * 4 + 1, none⟩ = some (.int .i64 (g i).n) := fun Y h => (bcell h _ _ lr).trans c1
            have q2 : ∀ Y, Below wd.heap.size wd Y → Y.cell? ⟨b', i * 4 + 2, none⟩ = some (.int .i64 (g i).w) := fun Y h => (bcell h _ _ lr).trans c2
            have q3 : ∀ Y, Below wd.heap.size wd Y → Y.cell? ⟨b', i * 4 + 3, none⟩ = some (.int .i64 (g i).s) := fun Y h => (bcell h _ _ lr).trans c3
            have qf : ∀ Y, Below wd.heap.size wd Y → ∀ j, Y.frozen? ⟨b', j, none⟩ = false := fun Y h j => (bfrozen h _ _ lr).trans (rf j)
            clear c0 c1 c2 c3 rf t0 t1 t2 t3 hk0 ck0
            have r0 : ∀ Y, Below wd.heap.size wd Y → Y.cell? ⟨W0.heap.size, 0, none⟩ = some (.int .i64 k) := fun Y h => (X1.below h).at_ 0 rfl
            have r1 : ∀ Y, Below wd.heap.size wd Y → Y.cell? ⟨W0.heap.size, 1, none⟩ = some (.int .i64 b) := fun Y h => (X1.below h).at_ 1 rfl
            refine wp_region_S (fun Y => Below wd.heap.size wd Y) 11 (by kernel_rfl) ?_
            refine anyS_take (i := 0) rfl (by kernel_rfl) (fun _ _ _ h => h) (Or.inl ⟨by rfl, fun Y hYb => (by (try dsimp only at hYb); go_simp; rfl)⟩) (by repeat' (first | with_reducible assumption | with_reducible exact Below.refl _ _ | with_reducible refine Below.drew ?_ | with_reducible refine below_drewN ?_ _)) ?_
            refine anyS_take (i := 1) rfl (by kernel_rfl) (fun _ _ _ h => h) (Or.inl ⟨by rfl, fun Y hYb => (by (try dsimp only at hYb); go_simp; rfl)⟩) (by repeat' (first | with_reducible assumption | with_reducible exact Below.refl _ _ | with_reducible refine Below.drew ?_ | with_reducible refine below_drewN ?_ _)) ?_
            refine anyS_take (i := 2) rfl (by kernel_rfl) (fun _ _ _ h => h) (Or.inl ⟨by rfl, fun Y hYb => (by (try dsimp only at hYb); go_simp; rfl)⟩) (by repeat' (first | with_reducible assumption | with_reducible exact Below.refl _ _ | with_reducible refine Below.drew ?_ | with_reducible refine below_drewN ?_ _)) ?_
            refine anyS_take (i := 3) rfl (by kernel_rfl) (fun _ _ _ h => h) (Or.inl ⟨by rfl, fun Y hYb => (by (try dsimp only at hYb); go_simp; rfl)⟩) (by repeat' (first | with_reducible assumption | with_reducible exact Below.refl _ _ | with_reducible refine Below.drew ?_ | with_reducible refine below_drewN ?_ _)) ?_
            refine anyS_take (i := 4) rfl (by kernel_rfl) (fun _ _ _ h => h) (Or.inl ⟨by rfl, fun Y hYb => (by (try dsimp only at hYb); go_simp; rfl)⟩) (by repeat' (first | with_reducible assumption | with_reducible exact Below.refl _ _ | with_reducible refine Below.drew ?_ | with_reducible refine below_drewN ?_ _)) ?_
            refine anyS_take (i := 5) rfl (by kernel_rfl) (fun _ _ _ h => h) (Or.inl ⟨by rfl, fun Y hYb => (by (try dsimp only at hYb); go_simp; rfl)⟩) (by repeat' (first | with_reducible assumption | with_reducible exact Below.refl _ _ | with_reducible refine Below.drew ?_ | with_reducible refine below_drewN ?_ _)) ?_
            refine anyS_one (i := 6) (by kernel_rfl) rfl (by rfl) (fun K hK => ?_)
            go_simp
            refine (haf _).mono ?_
            rintro e w2 ⟨rfl, hb2⟩
            dsimp only
            have hS2 : Below wd.heap.size wd w2 := bvia (Below.refl _ wd).drew hb2
            refine hK _ _ (fun _ _ => hS2) ?_
            clear hK K
            have y0 := q0 _ hS2; have y1 := q1 _ hS2; have y2 := q2 _ hS2; have y3 := q3 _ hS2; have yf := qf _ hS2
            refine anyS_take (i := 7) rfl (by kernel_rfl) (fun _ _ _ h => h) (Or.inl ⟨by rfl, fun Y hYb => (by (try dsimp only at hYb); go_simp; rfl)⟩) (by repeat' (first | with_reducible assumption | with_reducible exact Below.refl _ _ | with_reducible refine Below.drew ?_ | with_reducible refine below_drewN ?_ _)) ?_
            refine anyS_take (i := 8) rfl (by kernel_rfl) (fun _ _ _ h => h) (Or.inl ⟨by rfl, fun Y hYb => (by (try dsimp only at hYb); go_simp; rfl)⟩) (by repeat' (first | with_reducible assumption | with_reducible exact Below.refl _ _ | with_reducible refine Below.drew ?_ | with_reducible refine below_drewN ?_ _)) ?_
            refine anyS_pure (i := 9) rfl (by kernel_rfl) (fun _ _ _ h => h) (Or.inl ⟨by rfl, fun Y hYb => (by clear hYb; go_simp; rfl)⟩) ?_
            refine anyS_take (i := 10) rfl (by kernel_rfl) (fun _ _ _ h => h) (Or.inl ⟨by rfl, fun Y hYb => (by (try dsimp only at hYb); go_simp; rfl)⟩) (by repeat' (first | with_reducible assumption | with_reducible exact Below.refl _ _ | with_reducible refine Below.drew ?_ | with_reducible refine below_drewN ?_ _)) ?_
            refine anyS_one (i := 11) (by kernel_rfl) rfl (by rfl) (fun K hK => ?_)
            go_simp
            refine hK _ _ (fun h _ => absurd h (by decide)) ?_
            clear hK K
            refine anyS_done (by kernel_rfl) ?_ _
            clear r0 r1
            have X' := X.below hS2; have X1' := X1.below hS2; have X2' := X2.below hS2; have X3' := X3.below hS2; have R' := R.below hS2
            have hB' := bvia hB hS2
            clear X X1 X2 X3 X4 R hB q0 q1 q2 q3 qf u2 u4 u5 u6 u7 y0 y1 y2 y3 yf
            go_wp2_with fail
            go_roundw
            case rel => exact ⟨i + 1, by omega, by go_num, by (repeat' (first | with_reducible assumption | (with_reducible refine Bx.newE ?_ _ _; (simp; done)) | with_reducible refine Bx.alloc ?_ _ | with_reducible refine Bx.drew ?_ | with_reducible refine Bx.drewN ?_ _ | with_reducible refine Bx.four ?_ | (with_reducible refine Bx.far2 ?_ ?_ _; (dsimp only; omega)))), by (repeat' (first | with_reducible assumption | (with_reducible refine Bx.newE ?_ _ _; (simp; done)) | with_reducible refine Bx.alloc ?_ _ | with_reducible refine Bx.drew ?_ | with_reducible refine Bx.drewN ?_ _ | with_reducible refine Bx.four ?_ | (with_reducible refine Bx.far2 ?_ ?_ _; (dsimp only; omega)))), by (repeat' (first | with_reducible assumption | (with_reducible refine Bx.newE ?_ _ _; (simp; done)) | with_reducible refine Bx.alloc ?_ _ | with_reducible refine Bx.drew ?_ | with_reducible refine Bx.drewN ?_ _ | with_reducible refine Bx.four ?_ | (with_reducible refine Bx.far2 ?_ ?_ _; (dsimp only; omega)))), by (repeat' (first | with_reducible assumption | (with_reducible refine Bx.newE ?_ _ _; (simp; done)) | with_reducible refine Bx.alloc ?_ _ | with_reducible refine Bx.drew ?_ | with_reducible refine Bx.drewN ?_ _ | with_reducible refine Bx.four ?_ | (with_reducible refine Bx.far2 ?_ ?_ _; (dsimp only; omega)))), by rw [ovC_succ]; exact R'.setC i (G i), by have hB := hB'; (repeat' (first | with_reducible assumption | with_reducible exact Below.refl _ _ | with_reducible refine Below.drew ?_ | with_reducible refine below_drewN ?_ _ | with_reducible refine balloc ?_ _ | with_reducible refine bset ?_ ?_ _ | with_reducible refine Below.setCell ?_ ?_ _ | with_reducible refine Below.alloc ?_ ?_ _ | omega | (simp; done) | (simp; omega)))⟩
            case measure => simp [intOf]; omega
          · have hkr := fun W' => HS.out i W' hlt
            rw [if_neg hKi] at hMi
            rw [← hMi] at hkr
            have hKi' : (K i == 0) = false := by simpa using hKi
            have hGi := hid hMi
            clear hMi hKi
            go_upto_region 8 with (fail)
            clear X_3 Xz
            replace X := X.alloc (.cells #[.int .i64 (g i).e, .int .i64 (g i).n, .int .i64 (g i).w, .int .i64 (g i).s] 39)
            replace X1 := X1.alloc (.cells #[.int .i64 (g i).e, .int .i64 (g i).n, .int .i64 (g i).w, .int .i64 (g i).s] 39)
            replace X2 := X2.alloc (.cells #[.int .i64 (g i).e, .int .i64 (g i).n, .int .i64 (g i).w, .int .i64 (g i).s] 39)
            replace X3 := X3.alloc (.cells #[.int .i64 (g i).e, .int .i64 (g i).n, .int .i64 (g i).w, .int .i64 (g i).s] 39)
            replace R := R.alloc (.cells #[.int .i64 (g i).e, .int .i64 (g i).n, .int .i64 (g i).w, .int .i64 (g i).s] 39)
            have X4 := Bx.new wr #[.int .i64 (g i).e, .int .i64 (g i).n, .int .i64 (g i).w, .int .i64 (g i).s] 39
            replace hB := balloc hB (.cells #[.int .i64 (g i).e, .int .i64 (g i).n, .int .i64 (g i).w, .int .i64 (g i).s] 39)
            have hkd : (wr.alloc (.cells #[.int .i64 (g i).e, .int .i64 (g i).n, .int .i64 (g i).w, .int .i64 (g i).s] 39)).cell? ⟨bk, ok + i, none⟩ = _ := (cell_old _ _ hbk').trans hk0
            generalize wr.alloc (.cells #[.int .i64 (g i).e, .int .i64 (g i).n, .int .i64 (g i).w, .int .i64 (g i).s] 39) = wd at *
            have hwd := X4.lt
            have hbkd : bk < wd.heap.size := by omega
            have lr := R.lt
            have c4 := R.scell hlt
            rw [ovC_at] at c4
            obtain ⟨c0, c1, c2, c3⟩ := c4
            have rf := R.free
            have u2 : ∀ Y, Below wd.heap.size wd Y → Y.cell? ⟨v, 2, none⟩ = some (.slice (some ⟨b', 0, none⟩) n cap) := fun Y h => (X2.below h).at_ 2 rfl
            have u4 : ∀ Y, Below wd.heap.size wd Y → Y.cell? ⟨wr.heap.size, 0, none⟩ = some (.int .i64 (g i).e) := fun Y h => (X4.below h).at_ 0 rfl
            have u5 : ∀ Y, Below wd.heap.size wd Y → Y.cell? ⟨wr.heap.size, 1, none⟩ = some (.int .i64 (g i).n) := fun Y h => (X4.below h).at_ 1 rfl
            have u6 : ∀ Y, Below wd.heap.size wd Y → Y.cell? ⟨wr.heap.size, 2, none⟩ = some (.int .i64 (g i).w) := fun Y h => (X4.below h).at_ 2 rfl
            have u7 : ∀ Y, Below wd.heap.size wd Y → Y.cell? ⟨wr.heap.size, 3, none⟩ = some (.int .i64 (g i).s) := fun Y h => (X4.below h).at_ 3 rfl
            have q0 : ∀ Y, Below wd.heap.size wd Y → Y.cell? ⟨b', i * 4, none⟩ = some (.int .i64 (g i).e) := fun Y h => (bcell h _ _ lr).trans c0
            have q1 : ∀ Y, Below wd.heap.size wd Y → Y.cell? ⟨b', i * 4 + 1, none⟩ = some (.int .i64 (g i).n) := fun Y h => (bcell h _ _ lr).trans c1
            have q2 : ∀ Y, Below wd.heap.size wd Y → Y.cell? ⟨b', i * 4 + 2, none⟩ = some (.int .i64 (g i).w) := fun Y h => (bcell h _ _ lr).trans c2
            have q3 : ∀ Y, Below wd.heap.size wd Y → Y.cell? ⟨b', i * 4 + 3, none⟩ = some (.int .i64 (g i).s) := fun Y h => (bcell h _ _ lr).trans c3
            have qf : ∀ Y, Below wd.heap.size wd Y → ∀ j, Y.frozen? ⟨b', j, none⟩ = false := fun Y h j => (bfrozen h _ _ lr).trans (rf j)
            clear c0 c1 c2 c3 rf t0 t1 t2 t3 hk0 ck0
            have r0 : ∀ Y, Below wd.heap.size wd Y → Y.cell? ⟨p, 3, none⟩ = some (.slice (some ⟨bk, ok, none⟩) n ck) := fun Y h => (X.below h).at_ 3 rfl
            have r1 : ∀ Y, Below wd.heap.size wd Y → Y.cell? ⟨bk, ok + i, none⟩ = some (.int .i64 (K i)) := fun Y h => (bcell h _ _ hbkd).trans hkd
            refine wp_region_S (fun Y => Below wd.heap.size wd Y) 14 (by kernel_rfl) ?_
            refine anyS_take (i := 0) rfl (by kernel_rfl) (fun _ _ _ h => h) (Or.inl ⟨by rfl, fun Y hYb => (by (try dsimp only at hYb); go_simp; rfl)⟩) (by repeat' (first | with_reducible assumption | with_reducible exact Below.refl _ _ | with_reducible refine Below.drew ?_ | with_reducible refine below_drewN ?_ _)) ?_
            refine anyS_take (i := 1) rfl (by kernel_rfl) (fun _ _ _ h => h) (Or.inl ⟨by rfl, fun Y hYb => (by (try dsimp only at hYb); go_simp; rfl)⟩) (by repeat' (first | with_reducible assumption | with_reducible exact Below.refl _ _ | with_reducible refine Below.drew ?_ | with_reducible refine below_drewN ?_ _)) ?_
            refine anyS_take (i := 2) rfl (by kernel_rfl) (fun _ _ _ h => h) (Or.inl ⟨by rfl, fun Y hYb => (by (try dsimp only at hYb); go_simp; rfl)⟩) (by repeat' (first | with_reducible assumption | with_reducible exact Below.refl _ _ | with_reducible refine Below.drew ?_ | with_reducible refine below_drewN ?_ _)) ?_
            refine anyS_take (i := 3) rfl (by kernel_rfl) (fun _ _ _ h => h) (Or.inl ⟨by rfl, fun Y hYb => (by (try dsimp only at hYb); go_simp; rfl)⟩) (by repeat' (first | with_reducible assumption | with_reducible exact Below.refl _ _ | with_reducible refine Below.drew ?_ | with_reducible refine below_drewN ?_ _)) ?_
            refine anyS_take (i := 4) rfl (by kernel_rfl) (fun _ _ _ h => h) (Or.inl ⟨by rfl, fun Y hYb => (by (try dsimp only at hYb); go_simp; rfl)⟩) (by repeat' (first | with_reducible assumption | with_reducible exact Below.refl _ _ | with_reducible refine Below.drew ?_ | with_reducible refine below_drewN ?_ _)) ?_
            refine anyS_take (i := 5) rfl (by kernel_rfl) (fun _ _ _ h => h) (Or.inl ⟨by rfl, fun Y hYb => (by (try dsimp only at hYb); go_simp; rfl)⟩) (by repeat' (first | with_reducible assumption | with_reducible exact Below.refl _ _ | with_reducible refine Below.drew ?_ | with_reducible refine below_drewN ?_ _)) ?_
            refine anyS_take (i := 6) rfl (by kernel_rfl) (fun _ _ _ h => h) (Or.inl ⟨by rfl, fun Y hYb => (by (try dsimp only at hYb); go_simp; rfl)⟩) (by repeat' (first | with_reducible assumption | with_reducible exact Below.refl _ _ | with_reducible refine Below.drew ?_ | with_reducible refine below_drewN ?_ _)) ?_
            refine anyS_take (i := 7) rfl (by kernel_rfl) (fun _ _ _ h => h) (Or.inl ⟨by rfl, fun Y hYb => (by (try dsimp only at hYb); go_simp; rfl)⟩) (by repeat' (first | with_reducible assumption | with_reducible exact Below.refl _ _ | with_reducible refine Below.drew ?_ | with_reducible refine below_drewN ?_ _)) ?_
            refine anyS_take (i := 8) rfl (by kernel_rfl) (fun _ _ _ h => h) (Or.inl ⟨by rfl, fun Y hYb => (by (try dsimp only at hYb); go_simp; rfl)⟩) (by repeat' (first | with_reducible assumption | with_reducible exact Below.refl _ _ | with_reducible refine Below.drew ?_ | with_reducible refine below_drewN ?_ _)) ?_
            refine anyS_take (i := 9) rfl (by kernel_rfl) (fun _ _ _ h => h) (Or.inl ⟨by rfl, fun Y hYb => (by (try dsimp only at hYb); go_simp; rfl)⟩) (by repeat' (first | with_reducible assumption | with_reducible exact Below.refl _ _ | with_reducible refine Below.drew ?_ | with_reducible refine below_drewN ?_ _)) ?_
            refine anyS_take (i := 10) rfl (by kernel_rfl) (fun _ _ _ h => h) (Or.inl ⟨by rfl, fun Y hYb => (by (try dsimp only at hYb); go_simp; rfl)⟩) (by repeat' (first | with_reducible assumption | with_reducible exact Below.refl _ _ | with_reducible refine Below.drew ?_ | with_reducible refine below_drewN ?_ _)) ?_
            refine anyS_take (i := 11) rfl (by kernel_rfl) (fun _ _ _ h => h) (Or.inl ⟨by rfl, fun Y hYb => (by (try dsimp only at hYb); go_simp; rfl)⟩) (by repeat' (first | with_reducible assumption | with_reducible exact Below.refl _ _ | with_reducible refine Below.drew ?_ | with_reducible refine below_drewN ?_ _)) ?_
            refine anyS_one (i := 12) (by kernel_rfl) rfl (by rfl) (fun K hK => ?_)
            go_simp
            refine (hkr _).mono ?_
            rintro e w2 ⟨rfl, hb2⟩
            dsimp only
            have hS2 : Below wd.heap.size wd w2 := bvia (Below.refl _ wd).drew hb2
            refine hK _ _ (fun _ _ => hS2) ?_
            clear hK K
            have y0 := q0 _ hS2; have y1 := q1 _ hS2; have y2 := q2 _ hS2; have y3 := q3 _ hS2; have yf := qf _ hS2
            refine anyS_take (i := 13) rfl (by kernel_rfl) (fun _ _ _ h => h) (Or.inl ⟨by rfl, fun Y hYb => (by (try dsimp only at hYb); go_simp; rfl)⟩) (by repeat' (first | with_reducible assumption | with_reducible exact Below.refl _ _ | with_reducible refine Below.drew ?_ | with_reducible refine below_drewN ?_ _)) ?_
            refine anyS_one (i := 14) (by kernel_rfl) rfl (by rfl) (fun K hK => ?_)
            go_simp
            refine hK _ _ (fun h _ => absurd h (by decide)) ?_
            clear hK K
            refine anyS_done (by kernel_rfl) ?_ _
            clear r0 r1
            have X' := X.below hS2; have X1' := X1.below hS2; have X2' := X2.below hS2; have X3' := X3.below hS2; have R' := R.below hS2
            have hB' := bvia hB hS2
            clear X X1 X2 X3 X4 R hB q0 q1 q2 q3 qf u2 u4 u5 u6 u7 y0 y1 y2 y3 yf
            go_wp2_with fail
            go_roundw
            case rel => exact ⟨i + 1, by omega, by go_num, by (repeat' (first | with_reducible assumption | (with_reducible refine Bx.newE ?_ _ _; (simp; done)) | with_reducible refine Bx.alloc ?_ _ | with_reducible refine Bx.drew ?_ | with_reducible refine Bx.drewN ?_ _ | with_reducible refine Bx.four ?_ | (with_reducible refine Bx.far2 ?_ ?_ _; (dsimp only; omega)))), by (repeat' (first | with_reducible assumption | (with_reducible refine Bx.newE ?_ _ _; (simp; done)) | with_reducible refine Bx.alloc ?_ _ | with_reducible refine Bx.drew ?_ | with_reducible refine Bx.drewN ?_ _ | with_reducible refine Bx.four ?_ | (with_reducible refine Bx.far2 ?_ ?_ _; (dsimp only; omega)))), by (repeat' (first | with_reducible assumption | (with_reducible refine Bx.newE ?_ _ _; (simp; done)) | with_reducible refine Bx.alloc ?_ _ | with_reducible refine Bx.drew ?_ | with_reducible refine Bx.drewN ?_ _ | with_reducible refine Bx.four ?_ | (with_reducible refine Bx.far2 ?_ ?_ _; (dsimp only; omega)))), by (repeat' (first | with_reducible assumption | (with_reducible refine Bx.newE ?_ _ _; (simp; done)) | with_reducible refine Bx.alloc ?_ _ | with_reducible refine Bx.drew ?_ | with_reducible refine Bx.drewN ?_ _ | with_reducible refine Bx.four ?_ | (with_reducible refine Bx.far2 ?_ ?_ _; (dsimp only; omega)))), by rw [ovC_succ]; exact R'.setC i (G i), by have hB := hB'; (repeat' (first | with_reducible assumption | with_reducible exact Below.refl _ _ | with_reducible refine Below.drew ?_ | with_reducible refine below_drewN ?_ _ | with_reducible refine balloc ?_ _ | with_reducible refine bset ?_ ?_ _ | with_reducible refine Below.setCell ?_ ?_ _ | with_reducible refine Below.alloc ?_ ?_ _ | omega | (simp; done) | (simp; omega)))⟩
            case measure => simp [intOf]; omega
        · obtain rfl : i = n := (by omega)
          have HR := hid (R.congr (flatC_congr (fun j hj => ovC_lt hj)))
          have x20 := X2.at_ 0 rfl; have x21 := X2.at_ 1 rfl; have x22 := X2.at_ 2 rfl
          have x30 := X3.at_ 0 rfl; have x31 := X3.at_ 1 rfl; have x32 := X3.at_ 2 rfl; have x3f := X3.free
          clear R
          go_wp2_with fail
          refine bodyPost_ret (v := .agg #[.int .i64 (W : Int), .int .i64 (H : Int), .slice (some ⟨b', 0, none⟩) i cap]) (by simp [results, Try.results43, go_sem, x30, x31, x32]) rfl ⟨b', cap, rfl, by omega, ?_, by omega, by (repeat' (first | with_reducible assumption | with_reducible exact Below.refl _ _ | with_reducible refine Below.drew ?_ | with_reducible refine below_drewN ?_ _ | with_reducible refine balloc ?_ _ | with_reducible refine bset ?_ ?_ _ | with_reducible refine Below.setCell ?_ ?_ _ | with_reducible refine Below.alloc ?_ ?_ _ | omega | (simp; done) | (simp; omega)))⟩
          have R := HR.out
          (repeat' (first | with_reducible assumption | with_reducible refine Ro.drew ?_ | with_reducible refine Ro.drewN ?_ _ | with_reducible refine Ro.alloc ?_ _ | with_reducible refine Ro.far ?_ ?_ _ | (show _ ≠ _; dsimp only; omega)))
end Go.Proofs.Ythlbmlfkmfheiaa
