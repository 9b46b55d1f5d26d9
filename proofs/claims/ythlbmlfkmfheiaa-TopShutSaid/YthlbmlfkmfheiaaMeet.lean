/- Walks: the closure of wall.Closed that meets all cells which can be reached. -/
import Derived.Test.YthlbmlfkmfheiaaReach
import Derived.Test.YthlbmlfkmfheiaaOn
import Derived.Test.YthlbmlfkmfheiaaKinds
import Derived.Test.YthlbmlfkmfheiaaRv
import Derived.Laws.EntriesVeiled
namespace Go.Proofs.Ythlbmlfkmfheiaa
open Go Go.RowKit Go.Maps Go.ChangeMaps
set_option linter.unusedVariables false
/-- what a call of meet leaves -/
def MeetPost (K : Nat → Int) (Wd Hd n b i : Nat) (M : Nat → Bool) (w : World) (e : Ending) (w' : World) : Prop :=
  ∃ M' k', e = .returned (.tuple #[]) ∧ But (fun c => c = b) w w' ∧ MetM w' b k' M' ∧ MeetTo K Wd Hd i M M' ∧ k' + cntO K M' n ≤ n
/-- the place of a pair of numbers near the grid -/
structure Plc (Wd Hd : Nat) (x y : Int) (i : Nat) : Prop where
  x0 : -1 ≤ x
  x1 : x ≤ 64
  y0 : -1 ≤ y
  y1 : y ≤ 64
  at_ : (x + Wd) % (Wd : Int) + (Wd : Int) * ((y + Hd) % (Hd : Int)) = (i : Int)
theorem but_turned {w w' : World} {b : Nat} (h : w.mapTurned w' b) : But (fun c => c = b) w w' := by
  obtain ⟨es, cl, es', cl', h1, rfl⟩ := h
  refine ⟨rfl, rfl, rfl, by simp [setBlock], fun c hc hne => ?_⟩
  simp only [setBlock]
  rw [Array.getElem?_setIfInBounds_ne (fun e => hne e.symm)]
theorem plc_nb {Wd Hd i : Nat} {X Y : Int} (h1 : 1 ≤ Wd ∧ Wd ≤ 64) (h2 : 1 ≤ Hd ∧ Hd ≤ 64) (hX : (i : Int) % (Wd : Int) = X) (hY : (i : Int) / (Wd : Int) = Y) (hi : i < Wd * Hd) :
    0 ≤ X ∧ X ≤ 63 ∧ 0 ≤ Y ∧ Y ≤ 63 ∧ Plc Wd Hd (X + 1) Y (nbT Wd Hd i 2) ∧ Plc Wd Hd X (Y + 1) (nbT Wd Hd i 3) ∧ Plc Wd Hd (X - 1) Y (nbT Wd Hd i 0) ∧ Plc Wd Hd X (Y - 1) (nbT Wd Hd i 1) := by
  obtain ⟨hx, hy⟩ := row_lt hi
  have x0 : 0 ≤ X := by rw [← hX]; exact Int.emod_nonneg _ (by omega)
  have x1 : X < Wd := by rw [← hX]; exact Int.emod_lt_of_pos _ (by omega)
  have y0 : 0 ≤ Y := by rw [← hY]; exact Int.ediv_nonneg (by omega) (by omega)
  have y1 : Y < Hd := by
    have e : ((i / Wd : Nat) : Int) = (i : Int) / (Wd : Int) := by simp
    omega
  have n0 := nbT_int (i := i) (d := 0) (by omega) (show 0 < Wd by omega) (show 0 < Hd by omega)
  have n1 := nbT_int (i := i) (d := 1) (by omega) (show 0 < Wd by omega) (show 0 < Hd by omega)
  have n2 := nbT_int (i := i) (d := 2) (by omega) (show 0 < Wd by omega) (show 0 < Hd by omega)
  have n3 := nbT_int (i := i) (d := 3) (by omega) (show 0 < Wd by omega) (show 0 < Hd by omega)
  simp only [hX, hY] at n0 n1 n2 n3
  have xx : X % (Wd : Int) = X := Int.emod_eq_of_lt x0 x1
  have yy : Y % (Hd : Int) = Y := Int.emod_eq_of_lt y0 y1
  refine ⟨x0, by omega, y0, by omega, ⟨by omega, by omega, by omega, by omega, ?_⟩, ⟨by omega, by omega, by omega, by omega, ?_⟩, ⟨by omega, by omega, by omega, by omega, ?_⟩, ⟨by omega, by omega, by omega, by omega, ?_⟩⟩
  · rw [n2, Int.add_emod_right, Int.add_emod_right, Int.mul_comm]
  · rw [n3, Int.add_emod_right, Int.add_emod_right, Int.mul_comm, xx]
  · rw [n0, show X - 1 + (Wd : Int) = X + Wd - 1 by omega, Int.add_emod_right, Int.mul_comm]
  · rw [n1, show Y - 1 + (Hd : Int) = Y + Hd - 1 by omega, Int.add_emod_right, Int.mul_comm, xx]
theorem meet_lt {K : Nat → Int} {M M' : Nat → Bool} {n i : Nat} (hk : K i = 0) (hm : M i = false) (hi : i < n) (h : ∀ j, putM M i j = true → M' j = true) : cntO K M' n < cntO K M n := by
  have h1 := cntO_put hk hm n hi
  have h2 := cntO_grow (K := K) h n
  omega
set_option maxRecDepth 100000 in
set_option maxHeartbeats 8000000 in
theorem meet_any (Wd Hd n c nk ck cb : Nat) (a ak ab : Option Addr) (K : Nat → Int) (bg bw bm bf b : Nat) (w₀ : World) (h1 : 1 ≤ Wd ∧ Wd ≤ 64) (h2 : 1 ≤ Hd ∧ Hd ≤ 64) (hn : n = Wd * Hd) (hn2 : n ≤ 100000)
    (Xg : Bx w₀ bg #[.int .i64 (Wd : Int), .int .i64 (Hd : Int), .slice a n c]) (Xw : Bx w₀ bw #[.slice ak n ck, .slice ab n cb]) (HK : Sl w₀ ak n K) (nb : w₀.heap.size ≤ b) (nm : bm ≠ b) (nf : bf ≠ b) :
    ∀ (m : Nat) (x y : Int) (i k : Nat) (M : Nat → Bool) (w : World), cntO K M n = m → Plc Wd Hd x y i → Below w₀.heap.size w₀ w → Bx w bm #[.map (some b)] → Bx w bf #[.func (.func 19) #[] #[.pointer (some ⟨bg, 0, none⟩), .pointer (some ⟨bw, 0, none⟩), .pointer (some ⟨bm, 0, none⟩), .pointer (some ⟨bf, 0, none⟩)]] → MetM w b k M → k + cntO K M n ≤ n →
      Calls Try.prog 19 #[.int .i64 x, .int .i64 y, .pointer (some ⟨bg, 0, none⟩), .pointer (some ⟨bw, 0, none⟩), .pointer (some ⟨bm, 0, none⟩), .pointer (some ⟨bf, 0, none⟩)] w (MeetPost K Wd Hd n b i M w) := by
  intro m
  induction m using Nat.strongRecOn with
  | _ m ih =>
    intro x y i k M w hm hP hB Xm Xf hM hk
    obtain ⟨x0, x1, y0, y1, hI⟩ := hP
    obtain ⟨v1, v2⟩ := h1
    obtain ⟨u1, u2⟩ := h2
    have px0 : 0 ≤ (x + Wd) % (Wd : Int) := Int.emod_nonneg _ (by omega)
    have px1 : (x + Wd) % (Wd : Int) < Wd := Int.emod_lt_of_pos _ (by omega)
    have py0 : 0 ≤ (y + Hd) % (Hd : Int) := Int.emod_nonneg _ (by omega)
    have py1 : (y + Hd) % (Hd : Int) < Hd := Int.emod_lt_of_pos _ (by omega)
    have hin : i < n := by
      have q := nb_lt (W := Wd) (H := Hd) (a := ((x + Wd) % (Wd : Int)).toNat) (b := ((y + Hd) % (Hd : Int)).toNat) (by omega) (by omega)
      rw [hn]
      have e2 : ((((y + Hd) % (Hd : Int)).toNat * Wd : Nat) : Int) = (Wd : Int) * ((y + Hd) % (Hd : Int)) := by
        rw [Int.natCast_mul, Int.toNat_of_nonneg py0, Int.mul_comm]
      omega
    have tx : (x + Wd).tmod (Wd : Int) = (x + Wd) % (Wd : Int) := Int.tmod_eq_emod_of_nonneg (by omega)
    have ty : (y + Hd).tmod (Hd : Int) = (y + Hd) % (Hd : Int) := Int.tmod_eq_emod_of_nonneg (by omega)
    generalize hpx : (x + Wd) % (Wd : Int) = px at hI tx px0 px1
    generalize hpy : (y + Hd) % (Hd : Int) = py at hI ty py0 py1
    have hidx : ∀ W, Calls Try.prog 18 #[.agg #[.int .i64 (Wd : Int), .int .i64 (Hd : Int), .slice a n c], .agg #[.int .i64 px, .int .i64 py]] W fun e w' => e = .returned (.int .i64 (i : Int)) ∧ Below W.heap.size W w' := fun W => by
      have h := wall_index (Wd : Int) (Hd : Int) px py a n c W (by omega) (by omega) (by omega)
      rw [hI] at h
      exact h
    have ix : IntKind.i64.wrap (x + Wd) = x + Wd := IntWalk.i64_in _ (by omega)
    have iy : IntKind.i64.wrap (y + Hd) = y + Hd := IntWalk.i64_in _ (by omega)
    have hw0 : ¬ (Wd : Int) = 0 := by omega
    have hh0 : ¬ (Hd : Int) = 0 := by omega
    have hw1 : ¬ Wd = 0 := by omega
    have hh1 : ¬ Hd = 0 := by omega
    have zg := Xg.lt; have zw := Xw.lt; have hs0 := hB.size
    have XG := Xg.below hB
    have r0 : ∀ W, Below w.heap.size w W → W.cell? ⟨bg, 0, none⟩ = some (.int .i64 (Wd : Int)) := fun W h => (XG.below h).at_ 0 rfl
    have r1 : ∀ W, Below w.heap.size w W → W.cell? ⟨bg, 1, none⟩ = some (.int .i64 (Hd : Int)) := fun W h => (XG.below h).at_ 1 rfl
    have r2 : ∀ W, Below w.heap.size w W → W.cell? ⟨bg, 2, none⟩ = some (.slice a n c) := fun W h => (XG.below h).at_ 2 rfl
    have HM := hid hm; clear hm
    have HI := hid hI; clear hI
    have HPX := hid hpx; have HPY := hid hpy; clear hpx hpy
    have HN := hid hn; clear hn
    go_enter Try.func19, Try.ntmps19
    go_wp2_with (fail)
    go_region_held3 (fun W => Below w.heap.size w W) ((repeat' (first | with_reducible assumption | with_reducible exact Below.refl _ _ | with_reducible refine Below.drew ?_ | with_reducible refine below_drewN ?_ _ | with_reducible refine balloc ?_ _ | with_reducible refine bset ?_ ?_ _ | with_reducible refine Below.setCell ?_ ?_ _ | with_reducible refine Below.alloc ?_ ?_ _ | omega | (simp; done) | (simp; omega))))
      ((first
        | (go_at_call 18; refine (hidx _).mono ?_; rintro e w1 ⟨rfl, hb1⟩; have hB1 : Below w.heap.size w w1 := bvia (by (repeat' (first | with_reducible assumption | with_reducible exact Below.refl _ _ | with_reducible refine Below.drew ?_ | with_reducible refine below_drewN ?_ _ | with_reducible refine balloc ?_ _ | with_reducible refine bset ?_ ?_ _ | with_reducible refine Below.setCell ?_ ?_ _ | with_reducible refine Below.alloc ?_ ?_ _ | omega | (simp; done) | (simp; omega)))) hb1)
        | fail))
    all_goals
      clear r0 r1 r2 hidx tx ty hb1
      have hs1 := hB1.size
      have hBa : Below w₀.heap.size w₀ w1 := hB.trans (hB1.mono hs0)
      have XG1 := Xg.below hBa; have XW1 := Xw.below hBa; have XM1 := Xm.below hB1; have XF1 := Xf.below hB1
      have M1 := met_below hM hB1
      have g0 := XG1.at_ 0 rfl; have w0 := XW1.at_ 0 rfl; have m0 := XM1.at_ 0 rfl; have f0 := XF1.at_ 0 rfl
      obtain ⟨b1, o1, rfl, hb1, c1⟩ := (HK.below hBa) i hin
      clear XG
      have hi6 : i < 1000000 := by omega
      cases hkk : (K i != 0)
      · have hk0 : K i = 0 := by simpa using hkk
        cases hMi : M i
        · have HK0 := hid hk0; clear hk0
          have HMi := hid hMi; clear hMi
          have ht : (i : Int).tmod (Wd : Int) = (i : Int) % (Wd : Int) := Int.tmod_eq_emod_of_nonneg (by omega)
          have hd : (i : Int).tdiv (Wd : Int) = (i : Int) / (Wd : Int) := Int.tdiv_eq_ediv_of_nonneg (by omega)
          obtain ⟨X, hX⟩ : ∃ X, (i : Int) % (Wd : Int) = X := ⟨_, rfl⟩
          obtain ⟨Y, hY⟩ : ∃ Y, (i : Int) / (Wd : Int) = Y := ⟨_, rfl⟩
          obtain ⟨a0, a1, a2, a3, pE, pN, pW, pS⟩ := plc_nb ⟨v1, v2⟩ ⟨u1, u2⟩ hX hY (HN.out ▸ hin)
          rw [hX] at ht; rw [hY] at hd
          have wY : wrap64 Y = Y := by unfold wrap64; omega
          have iwY : IntKind.i64.wrap Y = Y := IntWalk.i64_in _ (by omega)
          have HX := hid hX; have HY := hid hY; clear hX hY
          have hkc : k < maxLen := by unfold maxLen; omega
          clear hkk
          go_wp2_with (first | (at_lookup; refine wpList_lookup_met _ (by rfl) _ _ rfl b k M rfl M1 i hi6 rfl false HMi.out ?_) | (at_mapUpdate; refine wpList_store_met _ (by rfl) _ _ _ rfl b k M rfl M1 hkc i hi6 rfl rfl ?_; intro w2 MM2 htr))
          have bt1 : But (fun c => c = b) w w2 := (but_below hB1 (Nat.le_refl _)).trans (but_turned htr)
          have hW2 : Below w₀.heap.size w₀ w2 := hB.trans ⟨bt1.os, bt1.tape, bt1.output, bt1.size, fun c hc => bt1.block c (by omega) (by omega)⟩
          have XG2 := Xg.below hW2; have XM2 := Xm.but bt1 nm; have XF2 := Xf.but bt1 nf
          clear g0 w0 m0 f0 htr c1
          have g0 := XG2.at_ 0 rfl
          go_quiet (fail)
          clear g0
          rename_i nq
          obtain ⟨M3, hM3⟩ : ∃ M3, M3 = putM M i := ⟨_, rfl⟩
          have MM3 : MetM (w2.drewN nq) b (k + 1) M3 := by rw [hM3]; exact met_drewN MM2 nq
          have G3 : ∀ j, putM M i j = true → M3 j = true := fun j h => by rw [hM3]; exact h
          have hk3 : k + 1 + cntO K M3 n ≤ n := by
            have := cntO_put HK0.out HMi.out n hin
            rw [hM3]; omega
          have XM3 := XM2.drewN nq; have XF3 := XF2.drewN nq
          have hW3 := below_drewN hW2 nq; have bt3 := bt1.drewN nq
          have HM3 := hid hM3; clear hM3
          generalize w2.drewN nq = w3 at MM3 XM3 XF3 hW3 bt3 ⊢
          obtain ⟨k3, hk3e⟩ : ∃ k3, k3 = k + 1 := ⟨_, rfl⟩
          rw [← hk3e] at MM3 hk3
          clear hk3e
          clear XM2 XF2 hW2 bt1 MM2
          have f3 := XF3.at_ 0 rfl
          have hz3 := hW3.size
          have hlt3 := meet_lt (n := n) HK0.out HMi.out hin G3
          rw [HM.out] at hlt3
          have HLT3 := hid hlt3; clear hlt3
          go_wp2_with (fail)
          refine (ih _ HLT3.out _ _ _ k3 M3 _ rfl pE hW3 XM3 XF3 MM3 hk3).mono ?_
          rintro e w4 ⟨M4, k4, rfl, bt4, MM4, to4, hk4⟩
          have hW4 : Below w₀.heap.size w₀ w4 := hW3.trans ⟨bt4.os, bt4.tape, bt4.output, bt4.size, fun c hc => bt4.block c (by omega) (by omega)⟩
          have XM4 := XM3.but bt4 nm
          have XF4 := XF3.but bt4 nf
          have G4 : ∀ j, putM M i j = true → M4 j = true := fun j h => to4.grow j (G3 j h)
          have hz4 := hW4.size
          clear f3
          have f4 := XF4.at_ 0 rfl
          have hlt4 := meet_lt (n := n) HK0.out HMi.out hin G4
          rw [HM.out] at hlt4
          have HLT4 := hid hlt4; clear hlt4
          go_wp2_with (fail)
          refine (ih _ HLT4.out _ _ _ k4 M4 _ rfl pN hW4 XM4 XF4 MM4 hk4).mono ?_
          rintro e w5 ⟨M5, k5, rfl, bt5, MM5, to5, hk5⟩
          have hW5 : Below w₀.heap.size w₀ w5 := hW4.trans ⟨bt5.os, bt5.tape, bt5.output, bt5.size, fun c hc => bt5.block c (by omega) (by omega)⟩
          have XM5 := XM4.but bt5 nm
          have XF5 := XF4.but bt5 nf
          have G5 : ∀ j, putM M i j = true → M5 j = true := fun j h => to5.grow j (G4 j h)
          have hz5 := hW5.size
          clear f4
          have f5 := XF5.at_ 0 rfl
          have hlt5 := meet_lt (n := n) HK0.out HMi.out hin G5
          rw [HM.out] at hlt5
          have HLT5 := hid hlt5; clear hlt5
          go_wp2_with (fail)
          refine (ih _ HLT5.out _ _ _ k5 M5 _ rfl pW hW5 XM5 XF5 MM5 hk5).mono ?_
          rintro e w6 ⟨M6, k6, rfl, bt6, MM6, to6, hk6⟩
          have hW6 : Below w₀.heap.size w₀ w6 := hW5.trans ⟨bt6.os, bt6.tape, bt6.output, bt6.size, fun c hc => bt6.block c (by omega) (by omega)⟩
          have XM6 := XM5.but bt6 nm
          have XF6 := XF5.but bt6 nf
          have G6 : ∀ j, putM M i j = true → M6 j = true := fun j h => to6.grow j (G5 j h)
          have hz6 := hW6.size
          clear f5
          have f6 := XF6.at_ 0 rfl
          have hlt6 := meet_lt (n := n) HK0.out HMi.out hin G6
          rw [HM.out] at hlt6
          have HLT6 := hid hlt6; clear hlt6
          go_wp2_with (fail)
          refine (ih _ HLT6.out _ _ _ k6 M6 _ rfl pS hW6 XM6 XF6 MM6 hk6).mono ?_
          rintro e w7 ⟨M7, k7, rfl, bt7, MM7, to7, hk7⟩
          have hW7 : Below w₀.heap.size w₀ w7 := hW6.trans ⟨bt7.os, bt7.tape, bt7.output, bt7.size, fun c hc => bt7.block c (by omega) (by omega)⟩
          have XM7 := XM6.but bt7 nm
          have XF7 := XF6.but bt7 nf
          have G7 : ∀ j, putM M i j = true → M7 j = true := fun j h => to7.grow j (G6 j h)
          have hz7 := hW7.size
          clear f6
          have f7 := XF7.at_ 0 rfl
          go_wp2_with (fail)
          go_end0
          have e3 := HM3.out
          subst e3
          exact ⟨M7, k7, rfl, (((bt3.trans bt4).trans bt5).trans bt6).trans bt7, MM7, MeetTo.four HK0.out to4 to5 to6 to7, hk7⟩
        · have HK0 := hid hk0; clear hk0
          have HMi := hid hMi; clear hMi
          go_wp2_with (at_lookup; refine wpList_lookup_met _ (by rfl) _ _ rfl b k M rfl M1 i hi6 rfl true HMi.out ?_)
          go_end0
          exact ⟨M, k, rfl, but_below hB1 (Nat.le_refl _), M1, MeetTo.none (.inr HMi.out), by omega⟩
      · have hk0 : K i ≠ 0 := by simpa using hkk
        have HK0 := hid hk0; clear hk0
        go_wp2_with (fail)
        go_end0
        exact ⟨M, k, rfl, but_below hB1 (Nat.le_refl _), M1, MeetTo.none (.inl HK0.out), by omega⟩
end Go.Proofs.Ythlbmlfkmfheiaa
