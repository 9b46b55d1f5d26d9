/- The walk of the law WallMirrors. -/
import Derived.Test.YtnnaegnkkpknpaaWRun2
import Derived.Test.YtnnaegnkkpknpaaWMir
import Derived.Test.YtnnaegnkkpknpaaSameG
import Derived.Test.YtnnaegnkkpknpaaSmall
namespace Go.Proofs.Ytnnaegnkkpknpaa
open Go Go.RowKit
set_option linter.unusedVariables false
/-- one rule, at every place -/
theorem sr_one {w : World} {b : Nat} {k r : Int} (X : Bx w b #[.int .i64 k, .int .i64 r]) : Sr w (some ⟨b, 0, none⟩) 1 (fun _ => (k, r)) := fun i hi => by
  obtain rfl : i = 0 := by omega
  exact ⟨b, 0, rfl, X.lt, X.at_ 0 rfl, X.at_ 1 rfl⟩
theorem validW_mir {W H n nk nb : Nat} {g : Nat → C4} {K B : Nat → Int} (h : validW (W : Int) (H : Int) n g nk nb K B = true) (hn : n = W * H) :
    validW (W : Int) (H : Int) n (mirG W g) n n (fun j => swp (K (mirI W j))) (fun j => B (mirI W j)) = true := by
  rw [validW_iff] at h ⊢
  obtain ⟨hG, h2, h3, h4⟩ := h
  subst hn
  rw [validG_iff] at hG
  obtain ⟨g1, g2, g3, g4, g5, g6, g7, g8⟩ := hG
  have ok := mirG_ok ⟨g7, g8⟩
  refine ⟨(validG_iff ..).2 ⟨g1, g2, g3, g4, g5, g6, ok.1, ok.2⟩, rfl, rfl, fun k hk => ?_⟩
  show 0 ≤ swp (K (mirI W k)) ∧ swp (K (mirI W k)) ≤ 3 ∧ (swp (K (mirI W k)) = 0 ↔ B (mirI W k) = 0) ∧ 0 ≤ B (mirI W k) ∧ B (mirI W k) ≤ 9
  rw [mirN_eq hk]
  exact swp_ok (h4 _ (mirN_lt hk))
set_option maxRecDepth 100000 in
set_option maxHeartbeats 8000000 in
theorem walk_mirrors (wide high rk rb : Int) (a ak ab : Option Addr) (n nk nb c ck cb : Nat) (g : Nat → C4) (K B : Nat → Int) (w : World) (hn : n ≤ maxLen) (hk : nk ≤ maxLen) (hb : nb ≤ maxLen) (S : Sc w a n g) (SK : Sl w ak nk K) (SB : Sl w ab nb B) :
    Calls Try.prog 11 #[.agg #[.int .i64 wide, .int .i64 high, .slice a n c, .slice ak nk ck, .slice ab nb cb], .agg #[.int .i64 rk, .int .i64 rb]] w fun e w' => e = .returned (.bool true) ∧ Below w.heap.size w w' := by
  cases hs : smallB n nk nb 400
  · have HSM := hid hs
    clear hs
    have X0 := (Bx.new w #[.int .i64 wide, .int .i64 high, .slice a n c, .slice ak nk ck, .slice ab nb cb] 29).alloc (.cells #[.int .i64 rk, .int .i64 rb] 73)
    have X1 := Bx.new (w.alloc (.cells #[.int .i64 wide, .int .i64 high, .slice a n c, .slice ak nk ck, .slice ab nb cb] 29)) #[.int .i64 rk, .int .i64 rb] 73
    simp only [World.size_alloc] at X1
    have hB0 : Below w.heap.size w ((w.alloc (.cells #[.int .i64 wide, .int .i64 high, .slice a n c, .slice ak nk ck, .slice ab nb cb] 29)).alloc (.cells #[.int .i64 rk, .int .i64 rb] 73)) := by (repeat' (first | with_reducible assumption | with_reducible exact Below.refl _ _ | with_reducible refine Below.drew ?_ | with_reducible refine below_drewN ?_ _ | with_reducible refine balloc ?_ _ | with_reducible refine bset ?_ ?_ _ | with_reducible refine Below.setCell ?_ ?_ _ | with_reducible refine Below.alloc ?_ ?_ _ | omega | (simp; done) | (simp; omega)))
    go_enter Try.func11, Try.ntmps11
    go_wp2_with fail
    generalize ((w.alloc (.cells #[.int .i64 wide, .int .i64 high, .slice a n c, .slice ak nk ck, .slice ab nb cb] 29)).alloc (.cells #[.int .i64 rk, .int .i64 rb] 73)) = W0 at X0 X1 hB0 ⊢
    have z0 := X0.lt
    have z1 := X1.lt
    refine (law3_small _ _ _ _ _ _ _ _ _ _ _ _ _ hn hk hb).mono ?_
    rintro e w1 ⟨rfl, hb1⟩
    rw [HSM.out]
    have hB := hB0
    clear hB0
    replace X0 := X0.below hb1
    replace X1 := X1.below hb1
    replace hB := bvia hB hb1
    clear hb1
    have X0_0 := X0.at_ 0 rfl
    have X0_1 := X0.at_ 1 rfl
    have X0_2 := X0.at_ 2 rfl
    have X0_3 := X0.at_ 3 rfl
    have X0_4 := X0.at_ 4 rfl
    have X0z := X0.lt
    have X1_0 := X1.at_ 0 rfl
    have X1_1 := X1.at_ 1 rfl
    have X1z := X1.lt
    go_wp2_with fail
    refine (awake_true _).mono ?_
    rintro e w2 ⟨rfl, hb2⟩
    go_wp2_with fail
    go_ret
    exact ⟨rfl, bvia hB hb2⟩
  have HSM := hid hs
  have hsm : n ≤ 400 ∧ nk ≤ 400 ∧ nb ≤ 400 := by simp [smallB] at hs; omega
  obtain ⟨n1, n2, n3⟩ := hsm
  clear hs
  by_cases hrk : rk = 2
  · have hrk' : (rk == 2) = true := by simpa using hrk
    clear hrk
    have X0 := (Bx.new w #[.int .i64 wide, .int .i64 high, .slice a n c, .slice ak nk ck, .slice ab nb cb] 29).alloc (.cells #[.int .i64 rk, .int .i64 rb] 73)
    have X1 := Bx.new (w.alloc (.cells #[.int .i64 wide, .int .i64 high, .slice a n c, .slice ak nk ck, .slice ab nb cb] 29)) #[.int .i64 rk, .int .i64 rb] 73
    simp only [World.size_alloc] at X1
    have hB0 : Below w.heap.size w ((w.alloc (.cells #[.int .i64 wide, .int .i64 high, .slice a n c, .slice ak nk ck, .slice ab nb cb] 29)).alloc (.cells #[.int .i64 rk, .int .i64 rb] 73)) := by (repeat' (first | with_reducible assumption | with_reducible exact Below.refl _ _ | with_reducible refine Below.drew ?_ | with_reducible refine below_drewN ?_ _ | with_reducible refine balloc ?_ _ | with_reducible refine bset ?_ ?_ _ | with_reducible refine Below.setCell ?_ ?_ _ | with_reducible refine Below.alloc ?_ ?_ _ | omega | (simp; done) | (simp; omega)))
    go_enter Try.func11, Try.ntmps11
    go_wp2_with fail
    generalize ((w.alloc (.cells #[.int .i64 wide, .int .i64 high, .slice a n c, .slice ak nk ck, .slice ab nb cb] 29)).alloc (.cells #[.int .i64 rk, .int .i64 rb] 73)) = W0 at X0 X1 hB0 ⊢
    have z0 := X0.lt
    have z1 := X1.lt
    refine (law3_small _ _ _ _ _ _ _ _ _ _ _ _ _ hn hk hb).mono ?_
    rintro e w1 ⟨rfl, hb1⟩
    rw [HSM.out]
    have hB := hB0
    clear hB0
    replace X0 := X0.below hb1
    replace X1 := X1.below hb1
    replace hB := bvia hB hb1
    clear hb1
    have X0_0 := X0.at_ 0 rfl
    have X0_1 := X0.at_ 1 rfl
    have X0_2 := X0.at_ 2 rfl
    have X0_3 := X0.at_ 3 rfl
    have X0_4 := X0.at_ 4 rfl
    have X0z := X0.lt
    have X1_0 := X1.at_ 0 rfl
    have X1_1 := X1.at_ 1 rfl
    have X1z := X1.lt
    go_wp2_with fail
    refine (awake_true _).mono ?_
    rintro e w2 ⟨rfl, hb2⟩
    go_wp2_with fail
    go_ret
    exact ⟨rfl, bvia hB hb2⟩
  have hrk' : (rk == 2) = false := by simpa using hrk
  have hR := fun ar cr W' S' SK' SB' SR' => wall_Step wide high a ak ab ar n nk nb 1 c ck cb cr g K B (fun _ => (rk, rb)) 0 W' (by omega) (by omega) (by omega) (by omega) S' SK' SB' SR'
  have hgood := fun h => run_ok (wide := wide) (high := high) (n := n) (nk := nk) (nb := nb) (nr := 1) (g := g) (K := K) (B := B) (r := fun _ => (rk, rb)) (t := 0) (m := 1) h
  have hval := fun h => rnE_zero (v := validW wide high n g nk nb K B) (u := rulesB 1 (fun _ => (rk, rb))) (s := timesB 0 1) h
  generalize her : rnE (validW wide high n g nk nb K B) (rulesB 1 fun _ => (rk, rb)) (timesB 0 1) = er at *
  have HER := hid her
  clear her
  by_cases hz : er = 0
  rotate_left
  · have hzc : (er != 0) = true := by simpa using hz
    have HZ := hid hz
    clear hgood hval hz hrk
    generalize erZ er wide = eW at *
    generalize erZ er high = eH at *
    generalize erN er n = en at *
    have X0 := (Bx.new w #[.int .i64 wide, .int .i64 high, .slice a n c, .slice ak nk ck, .slice ab nb cb] 29).alloc (.cells #[.int .i64 rk, .int .i64 rb] 73)
    have X1 := Bx.new (w.alloc (.cells #[.int .i64 wide, .int .i64 high, .slice a n c, .slice ak nk ck, .slice ab nb cb] 29)) #[.int .i64 rk, .int .i64 rb] 73
    simp only [World.size_alloc] at X1
    have hB0 : Below w.heap.size w ((w.alloc (.cells #[.int .i64 wide, .int .i64 high, .slice a n c, .slice ak nk ck, .slice ab nb cb] 29)).alloc (.cells #[.int .i64 rk, .int .i64 rb] 73)) := by (repeat' (first | with_reducible assumption | with_reducible exact Below.refl _ _ | with_reducible refine Below.drew ?_ | with_reducible refine below_drewN ?_ _ | with_reducible refine balloc ?_ _ | with_reducible refine bset ?_ ?_ _ | with_reducible refine Below.setCell ?_ ?_ _ | with_reducible refine Below.alloc ?_ ?_ _ | omega | (simp; done) | (simp; omega)))
    go_enter Try.func11, Try.ntmps11
    go_wp2_with fail
    generalize ((w.alloc (.cells #[.int .i64 wide, .int .i64 high, .slice a n c, .slice ak nk ck, .slice ab nb cb] 29)).alloc (.cells #[.int .i64 rk, .int .i64 rb] 73)) = W0 at X0 X1 hB0 ⊢
    have z0 := X0.lt
    have z1 := X1.lt
    refine (law3_small _ _ _ _ _ _ _ _ _ _ _ _ _ hn hk hb).mono ?_
    rintro e w1 ⟨rfl, hb1⟩
    rw [HSM.out]
    have hB := hB0
    clear hB0
    replace X0 := X0.below hb1
    replace X1 := X1.below hb1
    replace hB := bvia hB hb1
    clear hb1
    have X0_0 := X0.at_ 0 rfl
    have X0_1 := X0.at_ 1 rfl
    have X0_2 := X0.at_ 2 rfl
    have X0_3 := X0.at_ 3 rfl
    have X0_4 := X0.at_ 4 rfl
    have X0z := X0.lt
    have X1_0 := X1.at_ 0 rfl
    have X1_1 := X1.at_ 1 rfl
    have X1z := X1.lt
    go_wp2_with fail
    clear X0_0 X0_1 X0_2 X0_3 X0_4 X0z X1_0 X1_1 X1z
    replace X0 := X0.alloc (.cells #[.int .i64 rk, .int .i64 rb] 73)
    replace X1 := X1.alloc (.cells #[.int .i64 rk, .int .i64 rb] 73)
    have X2 := Bx.new w1 #[.int .i64 rk, .int .i64 rb] 73
    replace hB := balloc hB (.cells #[.int .i64 rk, .int .i64 rb] 73)
    have X0_0 := X0.at_ 0 rfl
    have X0_1 := X0.at_ 1 rfl
    have X0_2 := X0.at_ 2 rfl
    have X0_3 := X0.at_ 3 rfl
    have X0_4 := X0.at_ 4 rfl
    have X0z := X0.lt
    have X1_0 := X1.at_ 0 rfl
    have X1_1 := X1.at_ 1 rfl
    have X1z := X1.lt
    refine (hR _ _ _ (S.below hB) (SK.below hB) (SB.below hB) (sr_one X2)).mono ?_
    rintro e w2 ⟨a1, c1, rfl, S1, hn1, hb2⟩
    clear S1 hn1
    clear X0_0 X0_1 X0_2 X0_3 X0_4 X0z X1_0 X1_1 X1z
    replace X0 := X0.below hb2
    replace X1 := X1.below hb2
    replace X2 := X2.below hb2
    replace hB := bvia hB hb2
    clear hb2
    have X0_0 := X0.at_ 0 rfl
    have X0_1 := X0.at_ 1 rfl
    have X0_2 := X0.at_ 2 rfl
    have X0_3 := X0.at_ 3 rfl
    have X0_4 := X0.at_ 4 rfl
    have X0z := X0.lt
    have X1_0 := X1.at_ 0 rfl
    have X1_1 := X1.at_ 1 rfl
    have X1z := X1.lt
    go_wp2_with fail
    clear X0_0 X0_1 X0_2 X0_3 X0_4 X0z X1_0 X1_1 X1z
    replace X0 := X0.alloc (.cells #[.int .i64 eW, .int .i64 eH, .slice a1 en c1] 24)
    replace X1 := X1.alloc (.cells #[.int .i64 eW, .int .i64 eH, .slice a1 en c1] 24)
    replace X2 := X2.alloc (.cells #[.int .i64 eW, .int .i64 eH, .slice a1 en c1] 24)
    have X3 := Bx.new w2 #[.int .i64 eW, .int .i64 eH, .slice a1 en c1] 24
    replace hB := balloc hB (.cells #[.int .i64 eW, .int .i64 eH, .slice a1 en c1] 24)
    have X0_0 := X0.at_ 0 rfl
    have X0_1 := X0.at_ 1 rfl
    have X0_2 := X0.at_ 2 rfl
    have X0_3 := X0.at_ 3 rfl
    have X0_4 := X0.at_ 4 rfl
    have X0z := X0.lt
    have X1_0 := X1.at_ 0 rfl
    have X1_1 := X1.at_ 1 rfl
    have X1z := X1.lt
    refine (awake_true _).mono ?_
    rintro e w3 ⟨rfl, hb3⟩
    go_wp2_with fail
    go_ret
    exact ⟨rfl, bvia hB hb3⟩
  subst hz
  obtain ⟨W, H, T, M, rfl, rfl, hT0, hM1, w1, h1, rfl, rfl, rfl, hok, hKb, _, _, hru, _, _, _⟩ := hgood rfl
  obtain ⟨hv, hrs, _⟩ := hval rfl
  have hvm := validW_mir hv rfl
  have hm : W * H ≤ 1024 := by
    have h := (validG_iff _ _ _ _).1 ((validW_iff _ _ _ _ _ _ _ _).1 hv).1
    have e : (W : Int) * (H : Int) = ((W * H : Nat) : Int) := by simp
    rw [e] at h
    omega
  have hts : timesB 0 1 = true := by decide
  have hR2 := fun a' ak' ab' ar c' ck' cb' cr W' S' SK' SB' SR' => wall_Step (W : Int) (H : Int) a' ak' ab' ar (W * H) (W * H) (W * H) 1 c' ck' cb' cr (mirG W g) (fun j => swp (K (mirI W j))) (fun j => B (mirI W j)) (fun _ => (rk, rb)) 0 W' (by omega) (by omega) (by omega) (by omega) S' SK' SB' SR'
  have e2 : rnE (validW (W : Int) (H : Int) (W * H) (mirG W g) (W * H) (W * H) (fun j => swp (K (mirI W j))) (fun j => B (mirI W j))) (rulesB 1 fun _ => (rk, rb)) (timesB 0 1) = 0 := by rw [hvm, hrs, hts]; rfl
  rw [e2] at hR2
  have z1 : ∀ x : Int, erZ 0 x = x := fun _ => rfl
  have z2 : ∀ x : Nat, erN 0 x = x := fun _ => rfl
  have z3 : (0 : Int).toNat = 0 := rfl
  simp only [z1, z2, z3, Int.toNat_natCast] at hR hR2
  have hgm := fun a' c' W' S' => grid_Mirrored W H a' c' g W' w1 h1 hm S' hok
  have hgm2 := fun a' c' W' S' => grid_Mirrored W H a' c' (stepW W H (rlAt 1 (fun _ => (rk, rb)) 0) K g) W' w1 h1 hm S' (stepW_ok hok)
  have hwm := fun W' S' SK' SB' => wall_Mirrored (W : Int) (H : Int) a ak ab (W * H) (W * H) (W * H) c ck cb g K B W' (by omega) (by omega) (by omega) S' SK' SB'
  rw [hv] at hwm
  have hst : ∀ i, i < W * H → stepW W H (rlAt 1 (fun _ => (rk, rb)) 0) (fun j => swp (K (mirI W j))) (mirG W g) i = mirG W (stepW W H (rlAt 1 (fun _ => (rk, rb)) 0) K g) i := fun i hi => by
    rw [← stepW_mir g (fun j hj => hKb j hj) hi]
    unfold stepW
    refine flow_congr (fun j hj => ?_) hi
    show metF _ _ (fun j => swp (K (mirI W j))) _ j = metF _ _ (fun j => swp (K (mirN W j))) _ j
    unfold metF
    simp only [mirN_eq hj]
  clear hgood hval z1 z2 z3 e2 hts hvm hv hrs hru hKb hok hT0 hM1 hrk
  generalize stepW W H (rlAt 1 (fun _ => (rk, rb)) 0) K g = G1 at *
  generalize stepW W H (rlAt 1 (fun _ => (rk, rb)) 0) (fun j => swp (K (mirI W j))) (mirG W g) = G2 at *
  generalize mirG W G1 = G3 at *
  generalize mirG W g = gm at *
  generalize (fun j => swp (K (mirI W j))) = Km at *
  generalize (fun j => B (mirI W j)) = Bm at *
  have l1 : mirE true = 0 := rfl
  have l2 : mirL true (W * H) = W * H := rfl
  rw [l1, l2] at hwm
  clear l1 l2
  obtain ⟨q1, q2⟩ := w1; obtain ⟨q3, q4⟩ := h1
  generalize W * H = n at *
  have HST := hid hst
  clear hst
  have X0 := (Bx.new w #[.int .i64 (W : Int), .int .i64 (H : Int), .slice a n c, .slice ak n ck, .slice ab n cb] 29).alloc (.cells #[.int .i64 rk, .int .i64 rb] 73)
  have X1 := Bx.new (w.alloc (.cells #[.int .i64 (W : Int), .int .i64 (H : Int), .slice a n c, .slice ak n ck, .slice ab n cb] 29)) #[.int .i64 rk, .int .i64 rb] 73
  simp only [World.size_alloc] at X1
  have hB0 : Below w.heap.size w ((w.alloc (.cells #[.int .i64 (W : Int), .int .i64 (H : Int), .slice a n c, .slice ak n ck, .slice ab n cb] 29)).alloc (.cells #[.int .i64 rk, .int .i64 rb] 73)) := by (repeat' (first | with_reducible assumption | with_reducible exact Below.refl _ _ | with_reducible refine Below.drew ?_ | with_reducible refine below_drewN ?_ _ | with_reducible refine balloc ?_ _ | with_reducible refine bset ?_ ?_ _ | with_reducible refine Below.setCell ?_ ?_ _ | with_reducible refine Below.alloc ?_ ?_ _ | omega | (simp; done) | (simp; omega)))
  go_enter Try.func11, Try.ntmps11
  go_wp2_with fail
  generalize ((w.alloc (.cells #[.int .i64 (W : Int), .int .i64 (H : Int), .slice a n c, .slice ak n ck, .slice ab n cb] 29)).alloc (.cells #[.int .i64 rk, .int .i64 rb] 73)) = W0 at X0 X1 hB0 ⊢
  have z0 := X0.lt
  have z1 := X1.lt
  refine (law3_small _ _ _ _ _ _ _ _ _ _ _ _ _ hn hk hb).mono ?_
  rintro e w1 ⟨rfl, hb1⟩
  rw [HSM.out]
  have hB := hB0
  clear hB0
  replace X0 := X0.below hb1
  replace X1 := X1.below hb1
  replace hB := bvia hB hb1
  clear hb1
  have X0_0 := X0.at_ 0 rfl
  have X0_1 := X0.at_ 1 rfl
  have X0_2 := X0.at_ 2 rfl
  have X0_3 := X0.at_ 3 rfl
  have X0_4 := X0.at_ 4 rfl
  have X0z := X0.lt
  have X1_0 := X1.at_ 0 rfl
  have X1_1 := X1.at_ 1 rfl
  have X1z := X1.lt
  go_wp2_with fail
  clear X0_0 X0_1 X0_2 X0_3 X0_4 X0z X1_0 X1_1 X1z
  replace X0 := X0.alloc (.cells #[.int .i64 rk, .int .i64 rb] 73)
  replace X1 := X1.alloc (.cells #[.int .i64 rk, .int .i64 rb] 73)
  have X2 := Bx.new w1 #[.int .i64 rk, .int .i64 rb] 73
  replace hB := balloc hB (.cells #[.int .i64 rk, .int .i64 rb] 73)
  have X0_0 := X0.at_ 0 rfl
  have X0_1 := X0.at_ 1 rfl
  have X0_2 := X0.at_ 2 rfl
  have X0_3 := X0.at_ 3 rfl
  have X0_4 := X0.at_ 4 rfl
  have X0z := X0.lt
  have X1_0 := X1.at_ 0 rfl
  have X1_1 := X1.at_ 1 rfl
  have X1z := X1.lt
  refine (hR _ _ _ (S.below hB) (SK.below hB) (SB.below hB) (sr_one X2)).mono ?_
  rintro e w2 ⟨a1, c1, rfl, S1, hn1, hb2⟩
  clear hn1
  have hw1 := X2.lt
  clear X0_0 X0_1 X0_2 X0_3 X0_4 X0z X1_0 X1_1 X1z
  replace X0 := X0.below hb2
  replace X1 := X1.below hb2
  replace X2 := X2.below hb2
  replace hB := bvia hB hb2
  clear hb2
  have X0_0 := X0.at_ 0 rfl
  have X0_1 := X0.at_ 1 rfl
  have X0_2 := X0.at_ 2 rfl
  have X0_3 := X0.at_ 3 rfl
  have X0_4 := X0.at_ 4 rfl
  have X0z := X0.lt
  have X1_0 := X1.at_ 0 rfl
  have X1_1 := X1.at_ 1 rfl
  have X1z := X1.lt
  go_wp2_with fail
  have hw2 := X2.lt
  clear X0_0 X0_1 X0_2 X0_3 X0_4 X0z X1_0 X1_1 X1z
  replace X0 := X0.alloc (.cells #[.int .i64 (W : Int), .int .i64 (H : Int), .slice a1 n c1] 24)
  replace X1 := X1.alloc (.cells #[.int .i64 (W : Int), .int .i64 (H : Int), .slice a1 n c1] 24)
  replace X2 := X2.alloc (.cells #[.int .i64 (W : Int), .int .i64 (H : Int), .slice a1 n c1] 24)
  replace S1 := S1.alloc (.cells #[.int .i64 (W : Int), .int .i64 (H : Int), .slice a1 n c1] 24)
  have X3 := Bx.new w2 #[.int .i64 (W : Int), .int .i64 (H : Int), .slice a1 n c1] 24
  replace hB := balloc hB (.cells #[.int .i64 (W : Int), .int .i64 (H : Int), .slice a1 n c1] 24)
  have X0_0 := X0.at_ 0 rfl
  have X0_1 := X0.at_ 1 rfl
  have X0_2 := X0.at_ 2 rfl
  have X0_3 := X0.at_ 3 rfl
  have X0_4 := X0.at_ 4 rfl
  have X0z := X0.lt
  have X1_0 := X1.at_ 0 rfl
  have X1_1 := X1.at_ 1 rfl
  have X1z := X1.lt
  have X3_0 := X3.at_ 0 rfl
  have X3_1 := X3.at_ 1 rfl
  have X3_2 := X3.at_ 2 rfl
  have X3z := X3.lt
  refine (hgm _ _ _ (S.below hB)).mono ?_
  rintro e w3 ⟨b3, c3, rfl, hn3, R3, _, hb3⟩
  clear X0_0 X0_1 X0_2 X0_3 X0_4 X0z X1_0 X1_1 X1z X3_0 X3_1 X3_2 X3z
  replace X0 := X0.below hb3
  replace X1 := X1.below hb3
  replace X2 := X2.below hb3
  replace S1 := S1.below hb3
  replace X3 := X3.below hb3
  replace hB := bvia hB hb3
  clear hb3
  have X0_0 := X0.at_ 0 rfl
  have X0_1 := X0.at_ 1 rfl
  have X0_2 := X0.at_ 2 rfl
  have X0_3 := X0.at_ 3 rfl
  have X0_4 := X0.at_ 4 rfl
  have X0z := X0.lt
  have X1_0 := X1.at_ 0 rfl
  have X1_1 := X1.at_ 1 rfl
  have X1z := X1.lt
  have X3_0 := X3.at_ 0 rfl
  have X3_1 := X3.at_ 1 rfl
  have X3_2 := X3.at_ 2 rfl
  have X3z := X3.lt
  go_wp2_with fail
  have hw3 := X3.lt
  clear X0_0 X0_1 X0_2 X0_3 X0_4 X0z X1_0 X1_1 X1z X3_0 X3_1 X3_2 X3z
  replace X0 := X0.alloc (.cells #[.int .i64 (W : Int), .int .i64 (H : Int), .slice (some ⟨b3, 0, none⟩) n c3] 24)
  replace X1 := X1.alloc (.cells #[.int .i64 (W : Int), .int .i64 (H : Int), .slice (some ⟨b3, 0, none⟩) n c3] 24)
  replace X2 := X2.alloc (.cells #[.int .i64 (W : Int), .int .i64 (H : Int), .slice (some ⟨b3, 0, none⟩) n c3] 24)
  replace S1 := S1.alloc (.cells #[.int .i64 (W : Int), .int .i64 (H : Int), .slice (some ⟨b3, 0, none⟩) n c3] 24)
  replace X3 := X3.alloc (.cells #[.int .i64 (W : Int), .int .i64 (H : Int), .slice (some ⟨b3, 0, none⟩) n c3] 24)
  replace R3 := R3.alloc (.cells #[.int .i64 (W : Int), .int .i64 (H : Int), .slice (some ⟨b3, 0, none⟩) n c3] 24)
  have X4 := Bx.new w3 #[.int .i64 (W : Int), .int .i64 (H : Int), .slice (some ⟨b3, 0, none⟩) n c3] 24
  replace hB := balloc hB (.cells #[.int .i64 (W : Int), .int .i64 (H : Int), .slice (some ⟨b3, 0, none⟩) n c3] 24)
  have X0_0 := X0.at_ 0 rfl
  have X0_1 := X0.at_ 1 rfl
  have X0_2 := X0.at_ 2 rfl
  have X0_3 := X0.at_ 3 rfl
  have X0_4 := X0.at_ 4 rfl
  have X0z := X0.lt
  have X1_0 := X1.at_ 0 rfl
  have X1_1 := X1.at_ 1 rfl
  have X1z := X1.lt
  have X3_0 := X3.at_ 0 rfl
  have X3_1 := X3.at_ 1 rfl
  have X3_2 := X3.at_ 2 rfl
  have X3z := X3.lt
  have X4_0 := X4.at_ 0 rfl
  have X4_1 := X4.at_ 1 rfl
  have X4_2 := X4.at_ 2 rfl
  have X4z := X4.lt
  refine (hwm _ (S.below hB) (SK.below hB) (SB.below hB)).mono ?_
  rintro e w4 ⟨a4, a4', c4, c4', rfl, S4, S4', hb4⟩
  clear X0_0 X0_1 X0_2 X0_3 X0_4 X0z X1_0 X1_1 X1z X3_0 X3_1 X3_2 X3z X4_0 X4_1 X4_2 X4z
  replace X0 := X0.below hb4
  replace X1 := X1.below hb4
  replace X2 := X2.below hb4
  replace S1 := S1.below hb4
  replace X3 := X3.below hb4
  replace R3 := R3.below hb4
  replace X4 := X4.below hb4
  replace hB := bvia hB hb4
  clear hb4
  have X0_0 := X0.at_ 0 rfl
  have X0_1 := X0.at_ 1 rfl
  have X0_2 := X0.at_ 2 rfl
  have X0_3 := X0.at_ 3 rfl
  have X0_4 := X0.at_ 4 rfl
  have X0z := X0.lt
  have X1_0 := X1.at_ 0 rfl
  have X1_1 := X1.at_ 1 rfl
  have X1z := X1.lt
  have X3_0 := X3.at_ 0 rfl
  have X3_1 := X3.at_ 1 rfl
  have X3_2 := X3.at_ 2 rfl
  have X3z := X3.lt
  have X4_0 := X4.at_ 0 rfl
  have X4_1 := X4.at_ 1 rfl
  have X4_2 := X4.at_ 2 rfl
  have X4z := X4.lt
  go_wp2_with fail
  have hw4 := X4.lt
  clear X0_0 X0_1 X0_2 X0_3 X0_4 X0z X1_0 X1_1 X1z X3_0 X3_1 X3_2 X3z X4_0 X4_1 X4_2 X4z
  replace X0 := X0.alloc (.cells #[.slice a4 n c4, .slice a4' n c4'] 27)
  replace X1 := X1.alloc (.cells #[.slice a4 n c4, .slice a4' n c4'] 27)
  replace X2 := X2.alloc (.cells #[.slice a4 n c4, .slice a4' n c4'] 27)
  replace S1 := S1.alloc (.cells #[.slice a4 n c4, .slice a4' n c4'] 27)
  replace X3 := X3.alloc (.cells #[.slice a4 n c4, .slice a4' n c4'] 27)
  replace R3 := R3.alloc (.cells #[.slice a4 n c4, .slice a4' n c4'] 27)
  replace X4 := X4.alloc (.cells #[.slice a4 n c4, .slice a4' n c4'] 27)
  replace S4 := S4.alloc (.cells #[.slice a4 n c4, .slice a4' n c4'] 27)
  replace S4' := S4'.alloc (.cells #[.slice a4 n c4, .slice a4' n c4'] 27)
  have X5 := Bx.new w4 #[.slice a4 n c4, .slice a4' n c4'] 27
  replace hB := balloc hB (.cells #[.slice a4 n c4, .slice a4' n c4'] 27)
  have X0_0 := X0.at_ 0 rfl
  have X0_1 := X0.at_ 1 rfl
  have X0_2 := X0.at_ 2 rfl
  have X0_3 := X0.at_ 3 rfl
  have X0_4 := X0.at_ 4 rfl
  have X0z := X0.lt
  have X1_0 := X1.at_ 0 rfl
  have X1_1 := X1.at_ 1 rfl
  have X1z := X1.lt
  have X3_0 := X3.at_ 0 rfl
  have X3_1 := X3.at_ 1 rfl
  have X3_2 := X3.at_ 2 rfl
  have X3z := X3.lt
  have X4_0 := X4.at_ 0 rfl
  have X4_1 := X4.at_ 1 rfl
  have X4_2 := X4.at_ 2 rfl
  have X4z := X4.lt
  have X5_0 := X5.at_ 0 rfl
  have X5_1 := X5.at_ 1 rfl
  have X5z := X5.lt
  refine (hR2 _ _ _ _ _ _ _ _ _ R3.sc S4 S4' (sr_one X2)).mono ?_
  rintro e w5 ⟨a5, c5, rfl, S5, hn5, hb5⟩
  clear R3 S4 S4'
  clear hn5
  clear X0_0 X0_1 X0_2 X0_3 X0_4 X0z X1_0 X1_1 X1z X3_0 X3_1 X3_2 X3z X4_0 X4_1 X4_2 X4z X5_0 X5_1 X5z
  replace X0 := X0.below hb5
  replace X1 := X1.below hb5
  replace X2 := X2.below hb5
  replace S1 := S1.below hb5
  replace X3 := X3.below hb5
  replace X4 := X4.below hb5
  replace X5 := X5.below hb5
  replace hB := bvia hB hb5
  clear hb5
  have X0_0 := X0.at_ 0 rfl
  have X0_1 := X0.at_ 1 rfl
  have X0_2 := X0.at_ 2 rfl
  have X0_3 := X0.at_ 3 rfl
  have X0_4 := X0.at_ 4 rfl
  have X0z := X0.lt
  have X1_0 := X1.at_ 0 rfl
  have X1_1 := X1.at_ 1 rfl
  have X1z := X1.lt
  have X3_0 := X3.at_ 0 rfl
  have X3_1 := X3.at_ 1 rfl
  have X3_2 := X3.at_ 2 rfl
  have X3z := X3.lt
  have X4_0 := X4.at_ 0 rfl
  have X4_1 := X4.at_ 1 rfl
  have X4_2 := X4.at_ 2 rfl
  have X4z := X4.lt
  have X5_0 := X5.at_ 0 rfl
  have X5_1 := X5.at_ 1 rfl
  have X5z := X5.lt
  go_wp2_with fail
  have hw5 := X5.lt
  clear X0_0 X0_1 X0_2 X0_3 X0_4 X0z X1_0 X1_1 X1z X3_0 X3_1 X3_2 X3z X4_0 X4_1 X4_2 X4z X5_0 X5_1 X5z
  replace X0 := X0.alloc (.cells #[.int .i64 (W : Int), .int .i64 (H : Int), .slice a5 n c5] 24)
  replace X1 := X1.alloc (.cells #[.int .i64 (W : Int), .int .i64 (H : Int), .slice a5 n c5] 24)
  replace X2 := X2.alloc (.cells #[.int .i64 (W : Int), .int .i64 (H : Int), .slice a5 n c5] 24)
  replace S1 := S1.alloc (.cells #[.int .i64 (W : Int), .int .i64 (H : Int), .slice a5 n c5] 24)
  replace X3 := X3.alloc (.cells #[.int .i64 (W : Int), .int .i64 (H : Int), .slice a5 n c5] 24)
  replace X4 := X4.alloc (.cells #[.int .i64 (W : Int), .int .i64 (H : Int), .slice a5 n c5] 24)
  replace X5 := X5.alloc (.cells #[.int .i64 (W : Int), .int .i64 (H : Int), .slice a5 n c5] 24)
  replace S5 := S5.alloc (.cells #[.int .i64 (W : Int), .int .i64 (H : Int), .slice a5 n c5] 24)
  have X6 := Bx.new w5 #[.int .i64 (W : Int), .int .i64 (H : Int), .slice a5 n c5] 24
  replace hB := balloc hB (.cells #[.int .i64 (W : Int), .int .i64 (H : Int), .slice a5 n c5] 24)
  have X0_0 := X0.at_ 0 rfl
  have X0_1 := X0.at_ 1 rfl
  have X0_2 := X0.at_ 2 rfl
  have X0_3 := X0.at_ 3 rfl
  have X0_4 := X0.at_ 4 rfl
  have X0z := X0.lt
  have X1_0 := X1.at_ 0 rfl
  have X1_1 := X1.at_ 1 rfl
  have X1z := X1.lt
  have X3_0 := X3.at_ 0 rfl
  have X3_1 := X3.at_ 1 rfl
  have X3_2 := X3.at_ 2 rfl
  have X3z := X3.lt
  have X4_0 := X4.at_ 0 rfl
  have X4_1 := X4.at_ 1 rfl
  have X4_2 := X4.at_ 2 rfl
  have X4z := X4.lt
  have X5_0 := X5.at_ 0 rfl
  have X5_1 := X5.at_ 1 rfl
  have X5z := X5.lt
  have X6_0 := X6.at_ 0 rfl
  have X6_1 := X6.at_ 1 rfl
  have X6_2 := X6.at_ 2 rfl
  have X6z := X6.lt
  refine (hgm2 _ _ _ S1).mono ?_
  rintro e w6 ⟨b6, c6, rfl, hn6, R6, _, hb6⟩
  clear X0_0 X0_1 X0_2 X0_3 X0_4 X0z X1_0 X1_1 X1z X3_0 X3_1 X3_2 X3z X4_0 X4_1 X4_2 X4z X5_0 X5_1 X5z X6_0 X6_1 X6_2 X6z
  replace X0 := X0.below hb6
  replace X1 := X1.below hb6
  replace X2 := X2.below hb6
  replace S1 := S1.below hb6
  replace X3 := X3.below hb6
  replace X4 := X4.below hb6
  replace X5 := X5.below hb6
  replace S5 := S5.below hb6
  replace X6 := X6.below hb6
  replace hB := bvia hB hb6
  clear hb6
  have X0_0 := X0.at_ 0 rfl
  have X0_1 := X0.at_ 1 rfl
  have X0_2 := X0.at_ 2 rfl
  have X0_3 := X0.at_ 3 rfl
  have X0_4 := X0.at_ 4 rfl
  have X0z := X0.lt
  have X1_0 := X1.at_ 0 rfl
  have X1_1 := X1.at_ 1 rfl
  have X1z := X1.lt
  have X3_0 := X3.at_ 0 rfl
  have X3_1 := X3.at_ 1 rfl
  have X3_2 := X3.at_ 2 rfl
  have X3z := X3.lt
  have X4_0 := X4.at_ 0 rfl
  have X4_1 := X4.at_ 1 rfl
  have X4_2 := X4.at_ 2 rfl
  have X4z := X4.lt
  have X5_0 := X5.at_ 0 rfl
  have X5_1 := X5.at_ 1 rfl
  have X5z := X5.lt
  have X6_0 := X6.at_ 0 rfl
  have X6_1 := X6.at_ 1 rfl
  have X6_2 := X6.at_ 2 rfl
  have X6z := X6.lt
  go_wp2_with fail
  have hw6 := X6.lt
  clear X0_0 X0_1 X0_2 X0_3 X0_4 X0z X1_0 X1_1 X1z X3_0 X3_1 X3_2 X3z X4_0 X4_1 X4_2 X4z X5_0 X5_1 X5z X6_0 X6_1 X6_2 X6z
  replace X0 := X0.alloc (.cells #[.int .i64 (W : Int), .int .i64 (H : Int), .slice (some ⟨b6, 0, none⟩) n c6] 24)
  replace X1 := X1.alloc (.cells #[.int .i64 (W : Int), .int .i64 (H : Int), .slice (some ⟨b6, 0, none⟩) n c6] 24)
  replace X2 := X2.alloc (.cells #[.int .i64 (W : Int), .int .i64 (H : Int), .slice (some ⟨b6, 0, none⟩) n c6] 24)
  replace S1 := S1.alloc (.cells #[.int .i64 (W : Int), .int .i64 (H : Int), .slice (some ⟨b6, 0, none⟩) n c6] 24)
  replace X3 := X3.alloc (.cells #[.int .i64 (W : Int), .int .i64 (H : Int), .slice (some ⟨b6, 0, none⟩) n c6] 24)
  replace X4 := X4.alloc (.cells #[.int .i64 (W : Int), .int .i64 (H : Int), .slice (some ⟨b6, 0, none⟩) n c6] 24)
  replace X5 := X5.alloc (.cells #[.int .i64 (W : Int), .int .i64 (H : Int), .slice (some ⟨b6, 0, none⟩) n c6] 24)
  replace S5 := S5.alloc (.cells #[.int .i64 (W : Int), .int .i64 (H : Int), .slice (some ⟨b6, 0, none⟩) n c6] 24)
  replace X6 := X6.alloc (.cells #[.int .i64 (W : Int), .int .i64 (H : Int), .slice (some ⟨b6, 0, none⟩) n c6] 24)
  replace R6 := R6.alloc (.cells #[.int .i64 (W : Int), .int .i64 (H : Int), .slice (some ⟨b6, 0, none⟩) n c6] 24)
  have X7 := Bx.new w6 #[.int .i64 (W : Int), .int .i64 (H : Int), .slice (some ⟨b6, 0, none⟩) n c6] 24
  replace hB := balloc hB (.cells #[.int .i64 (W : Int), .int .i64 (H : Int), .slice (some ⟨b6, 0, none⟩) n c6] 24)
  have X0_0 := X0.at_ 0 rfl
  have X0_1 := X0.at_ 1 rfl
  have X0_2 := X0.at_ 2 rfl
  have X0_3 := X0.at_ 3 rfl
  have X0_4 := X0.at_ 4 rfl
  have X0z := X0.lt
  have X1_0 := X1.at_ 0 rfl
  have X1_1 := X1.at_ 1 rfl
  have X1z := X1.lt
  have X3_0 := X3.at_ 0 rfl
  have X3_1 := X3.at_ 1 rfl
  have X3_2 := X3.at_ 2 rfl
  have X3z := X3.lt
  have X4_0 := X4.at_ 0 rfl
  have X4_1 := X4.at_ 1 rfl
  have X4_2 := X4.at_ 2 rfl
  have X4z := X4.lt
  have X5_0 := X5.at_ 0 rfl
  have X5_1 := X5.at_ 1 rfl
  have X5z := X5.lt
  have X6_0 := X6.at_ 0 rfl
  have X6_1 := X6.at_ 1 rfl
  have X6_2 := X6.at_ 2 rfl
  have X6z := X6.lt
  have X7_0 := X7.at_ 0 rfl
  have X7_1 := X7.at_ 1 rfl
  have X7_2 := X7.at_ 2 rfl
  have X7z := X7.lt
  refine (ref2_Same _ _ _ _ _ _ _ _ _ _ (by omega) S5 R6.sc HST.out).mono ?_
  rintro e w7 ⟨rfl, hb7⟩
  replace hB := bvia hB hb7
  go_wp2_with fail
  refine (awake_true _).mono ?_
  rintro e w8 ⟨rfl, hb8⟩
  go_wp2_with fail
  go_ret
  exact ⟨rfl, bvia hB hb8⟩
end Go.Proofs.Ytnnaegnkkpknpaa
