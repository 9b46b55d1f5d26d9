/- Walks: the reference's Run, Undo, Step and Back of a grid in walls. -/
import Derived.Test.YtnnaegnkkpknpaaRefMet
import Derived.Test.YtnnaegnkkpknpaaRunErr
namespace Go.Proofs.Ytnnaegnkkpknpaa
open Go Go.RowKit
set_option linter.unusedVariables false
/-- a grid and an error -/
def GridPost (er W H : Int) (n : Nat) (g : Nat → C4) (w : World) (e : Ending) (w' : World) : Prop :=
  ∃ a c, e = .returned (.tuple #[.agg #[.int .i64 W, .int .i64 H, .slice a n c], .int .i64 er]) ∧ Sc w' a n g ∧ (∀ b off, a = some ⟨b, off, none⟩ → w.heap.size ≤ b) ∧ Below w.heap.size w w'
def erZ (er x : Int) : Int := if er = 0 then x else 0
def erN (er : Int) (n : Nat) : Nat := if er = 0 then n else 0
theorem gridPost_none {er W H : Int} {n : Nat} {g : Nat → C4} {w w' : World} (he : er ≠ 0) (hb : Below w.heap.size w w') : GridPost er (erZ er W) (erZ er H) (erN er n) g w (.returned (.tuple #[.agg #[.int .i64 0, .int .i64 0, .slice none 0 0], .int .i64 er])) w' := by
  refine ⟨none, 0, ?_, ?_, (fun b off h => by cases h), hb⟩
  · simp [erZ, erN, he]
  · intro k hk; simp [erN, he] at hk
theorem gridPost_row {W H n b cap : Nat} {g : Nat → C4} {w w' : World} (R : Ro w' b (n * 4) (flatC g)) (hge : w.heap.size ≤ b) (hb : Below w.heap.size w w') : GridPost 0 (erZ 0 (W : Int)) (erZ 0 (H : Int)) (erN 0 n) g w (.returned (.tuple #[.agg #[.int .i64 (W : Int), .int .i64 (H : Int), .slice (some ⟨b, 0, none⟩) n cap], .int .i64 0])) w' :=
  ⟨some ⟨b, 0, none⟩, cap, rfl, R.sc, (fun b' off h => by injection h with h; injection h with h _ _; omega), hb⟩
theorem Sc.far {W : World} {a : Option Addr} {n : Nat} {g : Nat → C4} (h : Sc W a n g) {p : Addr} (hp : ∀ b off, a = some ⟨b, off, none⟩ → p.block ≠ b) (u : Value) : Sc (W.setCell p u) a n g := fun k hk => by
  obtain ⟨b, off, e, h1, h2, h3, h4, h5⟩ := h k hk
  have hne := hp b off e
  refine ⟨b, off, e, by simpa [World.setCell] using h1, ?_, ?_, ?_, ?_⟩
  all_goals
    rw [World.cell?_setCell_other _ _ _ _ (fun e' => hne (by rw [e']))]
    assumption
/-- the rule of a step -/
def rlAt (nr : Nat) (r : Nat → Int × Int) (s : Nat) : Int × Int := r (s % nr)
theorem rnE_zero {v u s : Bool} (h : rnE v u s = 0) : v = true ∧ u = true ∧ s = true := by
  cases v <;> cases u <;> cases s <;> simp [rnE] at h ⊢
/-- what a run that has no error has -/
theorem run_ok {wide high : Int} {n nk nb nr : Nat} {g : Nat → C4} {K B : Nat → Int} {r : Nat → Int × Int} {t m : Int} (h : rnE (validW wide high n g nk nb K B) (rulesB nr r) (timesB t m) = 0) :
    ∃ W H T M : Nat, wide = W ∧ high = H ∧ t = T ∧ m = M ∧ (1 ≤ W ∧ W ≤ 64) ∧ (1 ≤ H ∧ H ≤ 64) ∧ n = W * H ∧ nk = W * H ∧ nb = W * H ∧ okG (W * H) g ∧ (∀ i, i < W * H → 0 ≤ K i ∧ K i ≤ 3) ∧ 0 < nr ∧ nr ≤ 8 ∧ (∀ s, ruleOk (rlAt nr r s).1 (rlAt nr r s).2) ∧ T ≤ 1000000 ∧ M ≤ 1000 ∧ (∀ i, i < M → T + i ≤ 1000000) := by
  obtain ⟨h1, h2, h3⟩ := rnE_zero h
  obtain ⟨g1, g2, g3, g4⟩ := (validW_iff _ _ _ _ _ _ _ _).1 h1
  obtain ⟨a1, a2, a3, a4, a5, a6, a7, a8⟩ := (validG_iff _ _ _ _).1 g1
  obtain ⟨c1, c2, c3⟩ := (rulesB_iff _ _).1 h2
  obtain ⟨d1, d2, d3, d4, d5⟩ := (timesB_iff _ _).1 h3
  have en : n = wide.toNat * high.toNat := by
    have e1 : wide = (wide.toNat : Int) := by omega
    have e2 : high = (high.toNat : Int) := by omega
    rw [e1, e2] at a6
    exact_mod_cast a6
  subst en
  refine ⟨wide.toNat, high.toNat, t.toNat, m.toNat, by omega, by omega, by omega, by omega, by omega, by omega, rfl, g2, g3, ⟨a7, a8⟩, fun i hi => ⟨(g4 i hi).1, (g4 i hi).2.1⟩, by omega, c2, fun s => (ruleB_iff _ _).1 (c3 _ (Nat.mod_lt _ (by omega))), by omega, by omega, fun i hi => by omega⟩
set_option maxRecDepth 100000 in
set_option maxHeartbeats 8000000 in
theorem ref3_Run (wide high : Int) (a ak ab ar : Option Addr) (n nk nb nr c ck cb cr : Nat) (g : Nat → C4) (K B : Nat → Int) (r : Nat → Int × Int) (t m : Int) (w : World) (hn : n ≤ 100000000) (hnk : nk ≤ 100000000) (hnb : nb ≤ 100000000) (hnr : nr ≤ 100000000) (S : Sc w a n g) (SK : Sl w ak nk K) (SB : Sl w ab nb B) (SR : Sr w ar nr r) :
    Calls Try.prog 46 #[.agg #[.int .i64 wide, .int .i64 high, .slice a n c], .agg #[.slice ak nk ck, .slice ab nb cb], .slice ar nr cr, .int .i64 t, .int .i64 m] w (GridPost (rnE (validW wide high n g nk nb K B) (rulesB nr r) (timesB t m)) (erZ (rnE (validW wide high n g nk nb K B) (rulesB nr r) (timesB t m)) wide) (erZ (rnE (validW wide high n g nk nb K B) (rulesB nr r) (timesB t m)) high) (erN (rnE (validW wide high n g nk nb K B) (rulesB nr r) (timesB t m)) n) (runW wide.toNat high.toNat (rlAt nr r) K g t.toNat m.toNat) w) := by
  have herr := fun W' S' SK' SB' SR' => ref3_runError wide high a ak ab ar n nk nb nr c ck cb cr g K B r t m W' hn hnk hnb hnr S' SK' SB' SR'
  have X0 := ((Bx.new w #[.int .i64 wide, .int .i64 high, .slice a n c] 24).alloc (.cells #[.slice ak nk ck, .slice ab nb cb] 27)).alloc (.cells #[.int .i64 0, .int .i64 0, .slice none 0 0] 24)
  have X1 := (Bx.new (w.alloc (.cells #[.int .i64 wide, .int .i64 high, .slice a n c] 24)) #[.slice ak nk ck, .slice ab nb cb] 27).alloc (.cells #[.int .i64 0, .int .i64 0, .slice none 0 0] 24)
  have X2 := Bx.new ((w.alloc (.cells #[.int .i64 wide, .int .i64 high, .slice a n c] 24)).alloc (.cells #[.slice ak nk ck, .slice ab nb cb] 27)) #[.int .i64 0, .int .i64 0, .slice none 0 0] 24
  simp only [World.size_alloc] at X1 X2
  have hB0 : Below w.heap.size w (((w.alloc (.cells #[.int .i64 wide, .int .i64 high, .slice a n c] 24)).alloc (.cells #[.slice ak nk ck, .slice ab nb cb] 27)).alloc (.cells #[.int .i64 0, .int .i64 0, .slice none 0 0] 24)) := by (repeat' (first | with_reducible assumption | with_reducible exact Below.refl _ _ | with_reducible refine Below.drew ?_ | with_reducible refine below_drewN ?_ _ | with_reducible refine balloc ?_ _ | with_reducible refine bset ?_ ?_ _ | with_reducible refine Below.setCell ?_ ?_ _ | with_reducible refine Below.alloc ?_ ?_ _ | omega | (simp; done) | (simp; omega)))
  have hgood := fun h => run_ok (wide := wide) (high := high) (n := n) (nk := nk) (nb := nb) (nr := nr) (g := g) (K := K) (B := B) (r := r) (t := t) (m := m) h
  generalize rnE (validW wide high n g nk nb K B) (rulesB nr r) (timesB t m) = er at *
  by_cases hz : er = 0
  rotate_left
  · have hzb : (er == 0) = false := by simpa using hz
    have hzc : (er != 0) = true := by simpa using hz
    have HZ := hid hz
    clear hgood hz
    go_enter Try.func46, Try.ntmps46
    go_wp2_with fail
    generalize (((w.alloc (.cells #[.int .i64 wide, .int .i64 high, .slice a n c] 24)).alloc (.cells #[.slice ak nk ck, .slice ab nb cb] 27)).alloc (.cells #[.int .i64 0, .int .i64 0, .slice none 0 0] 24)) = W0 at X0 X1 X2 hB0 ⊢
    have z0 := X0.lt
    have z1 := X1.lt
    have z2 := X2.lt
    refine (herr _ (S.below hB0) (SK.below hB0) (SB.below hB0) (SR.below hB0)).mono ?_
    rintro e w1 ⟨rfl, hb1⟩
    have hB := bvia hB0 hb1
    replace X2 := X2.below hb1
    have x0 := X2.at_ 0 rfl; have x1 := X2.at_ 1 rfl; have x2 := X2.at_ 2 rfl; have xf := X2.free
    go_wp2_with fail
    refine bodyPost_ret (v := .tuple #[.agg #[.int .i64 0, .int .i64 0, .slice none 0 0], .int .i64 er]) (by simp [results, Try.results46, go_sem, x0, x1, x2]) rfl (gridPost_none HZ.out (by (repeat' (first | with_reducible assumption | with_reducible exact Below.refl _ _ | with_reducible refine Below.drew ?_ | with_reducible refine below_drewN ?_ _ | with_reducible refine balloc ?_ _ | with_reducible refine bset ?_ ?_ _ | with_reducible refine Below.setCell ?_ ?_ _ | with_reducible refine Below.alloc ?_ ?_ _ | omega | (simp; done) | (simp; omega)))))
  subst hz
  obtain ⟨W, H, T, M, rfl, rfl, rfl, rfl, w1, h1, rfl, rfl, rfl, hok, hKb, hr0, hr8, hru, hT, hM, hTM⟩ := hgood rfl
  clear hgood hn hnk hnb hnr
  have hWH : W * H ≤ 4096 := Nat.mul_le_mul w1.2 h1.2
  have hn0 : 0 < W * H := Nat.mul_pos (by omega) (by omega)
  simp only [Int.toNat_natCast]
  have hcopy := fun W' S' => ref2_Copy W H a (W * H) c g W' (by omega) hn0 S'
  have hrule := fun s W' hs S' => ref1_rule ar nr cr s r W' hr0 hr8 hs S'
  have hstep := fun a' c' G k b W' S' SK' hv hr => ref3_step W H a' ak ab c' ck (W * H) cb G K k b W' w1 h1 S' SK' hKb hv hr
  have HC := hid hcopy; have HRu := hid hrule; have HSt := hid hstep; have HOK := hid (fun i => runW_ok (r := rlAt nr r) (K := K) (t := T) hok i)
  have HTM := hid hTM
  have HF := hid hru
  have hrun0 : runW W H (rlAt nr r) K g T 0 = g := rfl
  have hrunS := fun i => (show runW W H (rlAt nr r) K g T (i + 1) = stepW W H (rlAt nr r (T + i)) K (runW W H (rlAt nr r) K g T i) from rfl)
  have HR0 := hid hrun0; have HRS := hid hrunS
  clear hrule hstep hTM hru hrun0 hrunS hok hKb
  generalize runW W H (rlAt nr r) K g T = G at *
  generalize W * H = n at *
  clear X0 X1 X2 hB0
  have X0 := ((Bx.new w #[.int .i64 (W : Int), .int .i64 (H : Int), .slice a n c] 24).alloc (.cells #[.slice ak n ck, .slice ab n cb] 27)).alloc (.cells #[.int .i64 0, .int .i64 0, .slice none 0 0] 24)
  have X1 := (Bx.new (w.alloc (.cells #[.int .i64 (W : Int), .int .i64 (H : Int), .slice a n c] 24)) #[.slice ak n ck, .slice ab n cb] 27).alloc (.cells #[.int .i64 0, .int .i64 0, .slice none 0 0] 24)
  have X2 := Bx.new ((w.alloc (.cells #[.int .i64 (W : Int), .int .i64 (H : Int), .slice a n c] 24)).alloc (.cells #[.slice ak n ck, .slice ab n cb] 27)) #[.int .i64 0, .int .i64 0, .slice none 0 0] 24
  simp only [World.size_alloc] at X1 X2
  have hB0 : Below w.heap.size w (((w.alloc (.cells #[.int .i64 (W : Int), .int .i64 (H : Int), .slice a n c] 24)).alloc (.cells #[.slice ak n ck, .slice ab n cb] 27)).alloc (.cells #[.int .i64 0, .int .i64 0, .slice none 0 0] 24)) := by (repeat' (first | with_reducible assumption | with_reducible exact Below.refl _ _ | with_reducible refine Below.drew ?_ | with_reducible refine below_drewN ?_ _ | with_reducible refine balloc ?_ _ | with_reducible refine bset ?_ ?_ _ | with_reducible refine Below.setCell ?_ ?_ _ | with_reducible refine Below.alloc ?_ ?_ _ | omega | (simp; done) | (simp; omega)))
  go_enter Try.func46, Try.ntmps46
  go_wp2_with fail
  generalize (((w.alloc (.cells #[.int .i64 (W : Int), .int .i64 (H : Int), .slice a n c] 24)).alloc (.cells #[.slice ak n ck, .slice ab n cb] 27)).alloc (.cells #[.int .i64 0, .int .i64 0, .slice none 0 0] 24)) = W0 at X0 X1 X2 hB0 ⊢
  have z0 := X0.lt
  have z1 := X1.lt
  have z2 := X2.lt
  refine (herr _ (S.below hB0) (SK.below hB0) (SB.below hB0) (SR.below hB0)).mono ?_
  rintro e w1' ⟨rfl, hb1⟩
  have hB := hB0
  clear hB0 herr
  replace X0 := X0.below hb1
  replace X1 := X1.below hb1
  replace X2 := X2.below hb1
  replace hB := bvia hB hb1
  clear hb1
  have X0_0 := X0.at_ 0 rfl
  have X0_1 := X0.at_ 1 rfl
  have X0_2 := X0.at_ 2 rfl
  have X0f := X0.free
  have X0z := X0.lt
  have hz1 : w.heap.size + 1 + 1 < w1'.heap.size := X2.lt
  have S1 := S.below hB
  go_wp2_with fail
  refine (hcopy _ S1).mono ?_
  rintro e w2 ⟨b, cap, rfl, hb, R, hcap, hb2⟩
  have hz2 := hb2.size
  clear S1 hcopy
  clear X0_0 X0_1 X0_2 X0f X0z
  replace X0 := X0.below hb2
  replace X1 := X1.below hb2
  replace X2 := X2.below hb2
  replace hB := bvia hB hb2
  clear hb2
  have X0_0 := X0.at_ 0 rfl
  have X0_1 := X0.at_ 1 rfl
  have X0_2 := X0.at_ 2 rfl
  have X0f := X0.free
  have X0z := X0.lt
  go_wp2_with fail
  clear X0_0 X0_1 X0_2 X0f X0z
  replace X1 := (((X1.far (p := ⟨w.heap.size, 0, none⟩) (by first | (simp; done) | (simp; omega) | (dsimp only; omega)) (.int .i64 (W : Int))).far (p := ⟨w.heap.size, 1, none⟩) (by first | (simp; done) | (simp; omega) | (dsimp only; omega)) (.int .i64 (H : Int))).far (p := ⟨w.heap.size, 2, none⟩) (by first | (simp; done) | (simp; omega) | (dsimp only; omega)) (.slice (some ⟨b, 0, none⟩) n cap))
  replace X2 := (((X2.far (p := ⟨w.heap.size, 0, none⟩) (by first | (simp; done) | (simp; omega) | (dsimp only; omega)) (.int .i64 (W : Int))).far (p := ⟨w.heap.size, 1, none⟩) (by first | (simp; done) | (simp; omega) | (dsimp only; omega)) (.int .i64 (H : Int))).far (p := ⟨w.heap.size, 2, none⟩) (by first | (simp; done) | (simp; omega) | (dsimp only; omega)) (.slice (some ⟨b, 0, none⟩) n cap))
  replace R := (((R.far (p := ⟨w.heap.size, 0, none⟩) (by first | (simp; done) | (simp; omega) | (dsimp only; omega)) (.int .i64 (W : Int))).far (p := ⟨w.heap.size, 1, none⟩) (by first | (simp; done) | (simp; omega) | (dsimp only; omega)) (.int .i64 (H : Int))).far (p := ⟨w.heap.size, 2, none⟩) (by first | (simp; done) | (simp; omega) | (dsimp only; omega)) (.slice (some ⟨b, 0, none⟩) n cap))
  replace X0 : Bx _ (w.heap.size) #[.int .i64 (W : Int), .int .i64 (H : Int), .slice (some ⟨b, 0, none⟩) n cap] := (((X0.set_ 0 (by simp) (.int .i64 (W : Int))).set_ 1 (by simp) (.int .i64 (H : Int))).set_ 2 (by simp) (.slice (some ⟨b, 0, none⟩) n cap))
  replace hB := (bset (bset (bset hB (p := ⟨w.heap.size, 0, none⟩) (by first | exact Nat.le_refl _ | (simp; done) | (simp; omega)) (.int .i64 (W : Int))) (p := ⟨w.heap.size, 1, none⟩) (by first | exact Nat.le_refl _ | (simp; done) | (simp; omega)) (.int .i64 (H : Int))) (p := ⟨w.heap.size, 2, none⟩) (by first | exact Nat.le_refl _ | (simp; done) | (simp; omega)) (.slice (some ⟨b, 0, none⟩) n cap))
  have X0_0 := X0.at_ 0 rfl
  have X0_1 := X0.at_ 1 rfl
  have X0_2 := X0.at_ 2 rfl
  have X0f := X0.free
  have X0z := X0.lt
  clear X0_0 X0_1 X0_2 X0f X0z
  rw [← HR0.out] at R
  have hbb : w.heap.size + 1 + 1 < b := by omega
  go_loopw [13] (fun s13 wr => ∃ i : Nat, i ≤ M ∧ s13 = .int .i64 i ∧ (∃ b cap, Bx wr w.heap.size #[.int .i64 (W : Int), .int .i64 (H : Int), .slice (some ⟨b, 0, none⟩) n cap] ∧ Ro wr b (n * 4) (flatC (G i)) ∧ w.heap.size + 1 + 1 < b) ∧ Bx wr (w.heap.size + 1) #[.slice ak n ck, .slice ab n cb] ∧ Bx wr (w.heap.size + 1 + 1) #[.int .i64 0, .int .i64 0, .slice none 0 0] ∧ Below w.heap.size w wr) (fun s13 _ => M - (intOf s13).toNat)
  case atStart => exact ⟨0, Nat.zero_le _, rfl, ⟨b, cap, X0, R, hbb⟩, X1, X2, hB⟩
  case round =>
    clear X0 X1 X2 R hB hbb
    obtain ⟨i, hi, rfl, ⟨b, cap, X0, R, hbb⟩, X1, X2, hB⟩ := hrel
    by_cases hlt : i < M
    · have hti := HTM.out i hlt
      have r0 : ∀ X, Below wr.heap.size wr X → X.cell? ⟨w.heap.size, 0, none⟩ = some (.int .i64 (W : Int)) := fun X h => (X0.below h).at_ 0 rfl
      have r1 : ∀ X, Below wr.heap.size wr X → X.cell? ⟨w.heap.size, 1, none⟩ = some (.int .i64 (H : Int)) := fun X h => (X0.below h).at_ 1 rfl
      have r2 : ∀ X, Below wr.heap.size wr X → X.cell? ⟨w.heap.size, 2, none⟩ = some (.slice (some ⟨b, 0, none⟩) n cap) := fun X h => (X0.below h).at_ 2 rfl
      have r3 : ∀ X, Below wr.heap.size wr X → X.cell? ⟨w.heap.size + 1, 0, none⟩ = some (.slice ak n ck) := fun X h => (X1.below h).at_ 0 rfl
      have r4 : ∀ X, Below wr.heap.size wr X → X.cell? ⟨w.heap.size + 1, 1, none⟩ = some (.slice ab n cb) := fun X h => (X1.below h).at_ 1 rfl
      have hrl := fun W' S' => HRu.out (T + i) W' hti S'
      have hst := fun a' c' W' S' SK' => HSt.out a' c' (G i) (rlAt nr r (T + i)).1 (rlAt nr r (T + i)).2 W' S' SK' (HOK.out i) (HF.out (T + i))
      have hst2 := HRS.out i
      have hsi := IntWalk.i64_in ((T : Int) + (i : Int)) (by omega)
      have hsn : (((T + i : Nat)) : Int) = (T : Int) + (i : Int) := by simp
      rw [hsn] at hrl
      change ∀ W' S', Calls _ _ _ _ (fun e w' => e = .returned (.agg #[.int .i64 (rlAt nr r (T + i)).1, .int .i64 (rlAt nr r (T + i)).2]) ∧ _) at hrl
      rw [show ((rlAt nr r (T + i)).1, (rlAt nr r (T + i)).2) = rlAt nr r (T + i) from rfl, ← hst2] at hst
      generalize rlAt nr r (T + i) = q at *
      clear hst2 hsn
      have hsz := X2.lt
      go_upto_region 8 with (fail)
      refine wp_region_S (fun X => Below wr.heap.size wr X) 8 (by kernel_rfl) ?_
      refine anyS_take (i := 0) rfl (by kernel_rfl) (fun _ _ _ h => h) (Or.inl ⟨by rfl, fun Y hYb => (by (try dsimp only at hYb); go_simp; rfl)⟩) (by repeat' (first | with_reducible assumption | with_reducible exact Below.refl _ _ | with_reducible refine Below.drew ?_ | with_reducible refine below_drewN ?_ _)) ?_
      refine anyS_take (i := 1) rfl (by kernel_rfl) (fun _ _ _ h => h) (Or.inl ⟨by rfl, fun Y hYb => (by (try dsimp only at hYb); go_simp; rfl)⟩) (by repeat' (first | with_reducible assumption | with_reducible exact Below.refl _ _ | with_reducible refine Below.drew ?_ | with_reducible refine below_drewN ?_ _)) ?_
      refine anyS_take (i := 2) rfl (by kernel_rfl) (fun _ _ _ h => h) (Or.inl ⟨by rfl, fun Y hYb => (by (try dsimp only at hYb); go_simp; rfl)⟩) (by repeat' (first | with_reducible assumption | with_reducible exact Below.refl _ _ | with_reducible refine Below.drew ?_ | with_reducible refine below_drewN ?_ _)) ?_
      refine anyS_take (i := 3) rfl (by kernel_rfl) (fun _ _ _ h => h) (Or.inl ⟨by rfl, fun Y hYb => (by (try dsimp only at hYb); go_simp; rfl)⟩) (by repeat' (first | with_reducible assumption | with_reducible exact Below.refl _ _ | with_reducible refine Below.drew ?_ | with_reducible refine below_drewN ?_ _)) ?_
      refine anyS_take (i := 4) rfl (by kernel_rfl) (fun _ _ _ h => h) (Or.inl ⟨by rfl, fun Y hYb => (by (try dsimp only at hYb); go_simp; rfl)⟩) (by repeat' (first | with_reducible assumption | with_reducible exact Below.refl _ _ | with_reducible refine Below.drew ?_ | with_reducible refine below_drewN ?_ _)) ?_
      refine anyS_take (i := 5) rfl (by kernel_rfl) (fun _ _ _ h => h) (Or.inl ⟨by rfl, fun Y hYb => (by (try dsimp only at hYb); go_simp; rfl)⟩) (by repeat' (first | with_reducible assumption | with_reducible exact Below.refl _ _ | with_reducible refine Below.drew ?_ | with_reducible refine below_drewN ?_ _)) ?_
      refine anyS_one (i := 6) (by kernel_rfl) rfl (by rfl) (fun K hK => ?_)
      go_simp
      refine (hrl _ ((SR.below hB).below (Below.refl _ wr).drew)).mono ?_
      rintro e w3 ⟨rfl, hb3⟩
      dsimp only
      have hS3 : Below wr.heap.size wr w3 := bvia (Below.refl _ wr).drew hb3
      refine hK _ _ (fun _ _ => hS3) ?_
      clear hK K
      refine anyS_one (i := 7) (by kernel_rfl) rfl (by rfl) (fun K hK => ?_)
      go_simp
      refine (hst _ _ _ ((R.below hS3).sc) ((SK.below hB).below hS3)).mono ?_
      rintro e w4 ⟨b', cap', rfl, hb', R', hcap', hb4⟩
      dsimp only
      have hS4 : Below wr.heap.size wr w4 := bvia hS3 hb4
      have hs4 := hS3.size
      refine hK _ _ (fun _ _ => hS4) ?_
      clear hK
      replace X0 := X0.below hS4; replace X1 := X1.below hS4; replace X2 := X2.below hS4
      replace hB := bvia hB hS4
      have X0_0 := X0.at_ 0 rfl
      have X0_1 := X0.at_ 1 rfl
      have X0_2 := X0.at_ 2 rfl
      have X0f := X0.free
      have X0z := X0.lt
      clear r0 r1 r2 r3 r4 R
      refine anyS_one (i := 8) (by kernel_rfl) rfl (by rfl) (fun K hK => ?_)
      go_simp
      refine hK _ _ (fun h _ => absurd h (by decide)) ?_
      clear hK K
      refine anyS_done (by kernel_rfl) ?_ _
      clear X0_0 X0_1 X0_2 X0f X0z
      replace X1 := (((X1.far (p := ⟨w.heap.size, 0, none⟩) (by first | (simp; done) | (simp; omega) | (dsimp only; omega)) (.int .i64 (W : Int))).far (p := ⟨w.heap.size, 1, none⟩) (by first | (simp; done) | (simp; omega) | (dsimp only; omega)) (.int .i64 (H : Int))).far (p := ⟨w.heap.size, 2, none⟩) (by first | (simp; done) | (simp; omega) | (dsimp only; omega)) (.slice (some ⟨b', 0, none⟩) n cap'))
      replace X2 := (((X2.far (p := ⟨w.heap.size, 0, none⟩) (by first | (simp; done) | (simp; omega) | (dsimp only; omega)) (.int .i64 (W : Int))).far (p := ⟨w.heap.size, 1, none⟩) (by first | (simp; done) | (simp; omega) | (dsimp only; omega)) (.int .i64 (H : Int))).far (p := ⟨w.heap.size, 2, none⟩) (by first | (simp; done) | (simp; omega) | (dsimp only; omega)) (.slice (some ⟨b', 0, none⟩) n cap'))
      replace R' := (((R'.far (p := ⟨w.heap.size, 0, none⟩) (by first | (simp; done) | (simp; omega) | (dsimp only; omega)) (.int .i64 (W : Int))).far (p := ⟨w.heap.size, 1, none⟩) (by first | (simp; done) | (simp; omega) | (dsimp only; omega)) (.int .i64 (H : Int))).far (p := ⟨w.heap.size, 2, none⟩) (by first | (simp; done) | (simp; omega) | (dsimp only; omega)) (.slice (some ⟨b', 0, none⟩) n cap'))
      replace X0 : Bx _ (w.heap.size) #[.int .i64 (W : Int), .int .i64 (H : Int), .slice (some ⟨b', 0, none⟩) n cap'] := (((X0.set_ 0 (by simp) (.int .i64 (W : Int))).set_ 1 (by simp) (.int .i64 (H : Int))).set_ 2 (by simp) (.slice (some ⟨b', 0, none⟩) n cap'))
      replace hB := (bset (bset (bset hB (p := ⟨w.heap.size, 0, none⟩) (by first | exact Nat.le_refl _ | (simp; done) | (simp; omega)) (.int .i64 (W : Int))) (p := ⟨w.heap.size, 1, none⟩) (by first | exact Nat.le_refl _ | (simp; done) | (simp; omega)) (.int .i64 (H : Int))) (p := ⟨w.heap.size, 2, none⟩) (by first | exact Nat.le_refl _ | (simp; done) | (simp; omega)) (.slice (some ⟨b', 0, none⟩) n cap'))
      have X0_0 := X0.at_ 0 rfl
      have X0_1 := X0.at_ 1 rfl
      have X0_2 := X0.at_ 2 rfl
      have X0f := X0.free
      have X0z := X0.lt
      clear X0_0 X0_1 X0_2 X0f X0z
      go_wp2_with fail
      go_roundw
      case rel => exact ⟨i + 1, by omega, by go_num, ⟨b', cap', X0, R', by omega⟩, X1, X2, hB⟩
      case measure => simp [intOf]; omega
    · obtain rfl : i = M := (by omega)
      have X0_0 := X0.at_ 0 rfl
      have X0_1 := X0.at_ 1 rfl
      have X0_2 := X0.at_ 2 rfl
      have X0f := X0.free
      have X0z := X0.lt
      have X2_0 := X2.at_ 0 rfl
      have X2_1 := X2.at_ 1 rfl
      have X2_2 := X2.at_ 2 rfl
      have X2f := X2.free
      have X2z := X2.lt
      go_wp2_with fail
      refine bodyPost_ret (v := .tuple #[.agg #[.int .i64 (W : Int), .int .i64 (H : Int), .slice (some ⟨b, 0, none⟩) n cap], .int .i64 0]) (by simp [results, Try.results46, go_sem, X2_0, X2_1, X2_2]) rfl (gridPost_row (by (repeat' (first | with_reducible assumption | with_reducible refine Ro.drew ?_ | with_reducible refine Ro.drewN ?_ _ | with_reducible refine Ro.alloc ?_ _ | with_reducible refine Ro.far ?_ ?_ _ | (show _ ≠ _; dsimp only; omega)))) (by omega) (by (repeat' (first | with_reducible assumption | with_reducible exact Below.refl _ _ | with_reducible refine Below.drew ?_ | with_reducible refine below_drewN ?_ _ | with_reducible refine balloc ?_ _ | with_reducible refine bset ?_ ?_ _ | with_reducible refine Below.setCell ?_ ?_ _ | with_reducible refine Below.alloc ?_ ?_ _ | omega | (simp; done) | (simp; omega)))))
set_option maxRecDepth 100000 in
set_option maxHeartbeats 8000000 in
theorem ref3_Undo (wide high : Int) (a ak ab ar : Option Addr) (n nk nb nr c ck cb cr : Nat) (g : Nat → C4) (K B : Nat → Int) (r : Nat → Int × Int) (t m : Int) (w : World) (hn : n ≤ 100000000) (hnk : nk ≤ 100000000) (hnb : nb ≤ 100000000) (hnr : nr ≤ 100000000) (S : Sc w a n g) (SK : Sl w ak nk K) (SB : Sl w ab nb B) (SR : Sr w ar nr r) :
    Calls Try.prog 49 #[.agg #[.int .i64 wide, .int .i64 high, .slice a n c], .agg #[.slice ak nk ck, .slice ab nb cb], .slice ar nr cr, .int .i64 t, .int .i64 m] w (GridPost (rnE (validW wide high n g nk nb K B) (rulesB nr r) (timesB t m)) (erZ (rnE (validW wide high n g nk nb K B) (rulesB nr r) (timesB t m)) wide) (erZ (rnE (validW wide high n g nk nb K B) (rulesB nr r) (timesB t m)) high) (erN (rnE (validW wide high n g nk nb K B) (rulesB nr r) (timesB t m)) n) (undoW wide.toNat high.toNat (rlAt nr r) K t.toNat m.toNat g) w) := by
  have herr := fun W' S' SK' SB' SR' => ref3_runError wide high a ak ab ar n nk nb nr c ck cb cr g K B r t m W' hn hnk hnb hnr S' SK' SB' SR'
  have X0 := ((Bx.new w #[.int .i64 wide, .int .i64 high, .slice a n c] 24).alloc (.cells #[.slice ak nk ck, .slice ab nb cb] 27)).alloc (.cells #[.int .i64 0, .int .i64 0, .slice none 0 0] 24)
  have X1 := (Bx.new (w.alloc (.cells #[.int .i64 wide, .int .i64 high, .slice a n c] 24)) #[.slice ak nk ck, .slice ab nb cb] 27).alloc (.cells #[.int .i64 0, .int .i64 0, .slice none 0 0] 24)
  have X2 := Bx.new ((w.alloc (.cells #[.int .i64 wide, .int .i64 high, .slice a n c] 24)).alloc (.cells #[.slice ak nk ck, .slice ab nb cb] 27)) #[.int .i64 0, .int .i64 0, .slice none 0 0] 24
  simp only [World.size_alloc] at X1 X2
  have hB0 : Below w.heap.size w (((w.alloc (.cells #[.int .i64 wide, .int .i64 high, .slice a n c] 24)).alloc (.cells #[.slice ak nk ck, .slice ab nb cb] 27)).alloc (.cells #[.int .i64 0, .int .i64 0, .slice none 0 0] 24)) := by (repeat' (first | with_reducible assumption | with_reducible exact Below.refl _ _ | with_reducible refine Below.drew ?_ | with_reducible refine below_drewN ?_ _ | with_reducible refine balloc ?_ _ | with_reducible refine bset ?_ ?_ _ | with_reducible refine Below.setCell ?_ ?_ _ | with_reducible refine Below.alloc ?_ ?_ _ | omega | (simp; done) | (simp; omega)))
  have hgood := fun h => run_ok (wide := wide) (high := high) (n := n) (nk := nk) (nb := nb) (nr := nr) (g := g) (K := K) (B := B) (r := r) (t := t) (m := m) h
  generalize rnE (validW wide high n g nk nb K B) (rulesB nr r) (timesB t m) = er at *
  by_cases hz : er = 0
  rotate_left
  · have hzb : (er == 0) = false := by simpa using hz
    have hzc : (er != 0) = true := by simpa using hz
    have HZ := hid hz
    clear hgood hz
    go_enter Try.func49, Try.ntmps49
    go_wp2_with fail
    generalize (((w.alloc (.cells #[.int .i64 wide, .int .i64 high, .slice a n c] 24)).alloc (.cells #[.slice ak nk ck, .slice ab nb cb] 27)).alloc (.cells #[.int .i64 0, .int .i64 0, .slice none 0 0] 24)) = W0 at X0 X1 X2 hB0 ⊢
    have z0 := X0.lt
    have z1 := X1.lt
    have z2 := X2.lt
    refine (herr _ (S.below hB0) (SK.below hB0) (SB.below hB0) (SR.below hB0)).mono ?_
    rintro e w1 ⟨rfl, hb1⟩
    have hB := bvia hB0 hb1
    replace X2 := X2.below hb1
    have x0 := X2.at_ 0 rfl; have x1 := X2.at_ 1 rfl; have x2 := X2.at_ 2 rfl; have xf := X2.free
    go_wp2_with fail
    refine bodyPost_ret (v := .tuple #[.agg #[.int .i64 0, .int .i64 0, .slice none 0 0], .int .i64 er]) (by simp [results, Try.results49, go_sem, x0, x1, x2]) rfl (gridPost_none HZ.out (by (repeat' (first | with_reducible assumption | with_reducible exact Below.refl _ _ | with_reducible refine Below.drew ?_ | with_reducible refine below_drewN ?_ _ | with_reducible refine balloc ?_ _ | with_reducible refine bset ?_ ?_ _ | with_reducible refine Below.setCell ?_ ?_ _ | with_reducible refine Below.alloc ?_ ?_ _ | omega | (simp; done) | (simp; omega)))))
  subst hz
  obtain ⟨W, H, T, M, rfl, rfl, rfl, rfl, w1, h1, rfl, rfl, rfl, hok, hKb, hr0, hr8, hru, hT, hM, hTM⟩ := hgood rfl
  clear hgood hn hnk hnb hnr
  have hWH : W * H ≤ 4096 := Nat.mul_le_mul w1.2 h1.2
  have hn0 : 0 < W * H := Nat.mul_pos (by omega) (by omega)
  simp only [Int.toNat_natCast]
  have hcopy := fun W' S' => ref2_Copy W H a (W * H) c g W' (by omega) hn0 S'
  have hrule := fun s W' hs S' => ref1_rule ar nr cr s r W' hr0 hr8 hs S'
  have hstep := fun a' c' G k b W' S' SK' hv hr => ref3_back W H a' ak ab c' ck (W * H) cb G K k b W' w1 h1 S' SK' hKb hv hr
  have hback := fun q (G : Nat → C4) (hG : okG (W * H) G) => backW_ok (r := q) (K := K) hG
  have hundo := fun j (G : Nat → C4) => (show undoW W H (rlAt nr r) K T (j + 1) G = undoW W H (rlAt nr r) K T j (backW W H (rlAt nr r (T + j)) K G) from rfl)
  have hundo0 := fun (G : Nat → C4) => (show undoW W H (rlAt nr r) K T 0 G = G from rfl)
  have HC := hid hcopy; have HRu := hid hrule; have HSt := hid hstep; have HBk := hid hback; have HU := hid hundo; have HU0 := hid hundo0
  have HTM := hid hTM
  have HF := hid hru
  have HOK := hid hok
  clear hrule hstep hTM hru hok hKb hback hundo hundo0
  generalize undoW W H (rlAt nr r) K T = U at *
  generalize hF : U M g = F at *
  have HFF := hid hF
  clear hF
  generalize W * H = n at *
  clear X0 X1 X2 hB0
  have X0 := ((Bx.new w #[.int .i64 (W : Int), .int .i64 (H : Int), .slice a n c] 24).alloc (.cells #[.slice ak n ck, .slice ab n cb] 27)).alloc (.cells #[.int .i64 0, .int .i64 0, .slice none 0 0] 24)
  have X1 := (Bx.new (w.alloc (.cells #[.int .i64 (W : Int), .int .i64 (H : Int), .slice a n c] 24)) #[.slice ak n ck, .slice ab n cb] 27).alloc (.cells #[.int .i64 0, .int .i64 0, .slice none 0 0] 24)
  have X2 := Bx.new ((w.alloc (.cells #[.int .i64 (W : Int), .int .i64 (H : Int), .slice a n c] 24)).alloc (.cells #[.slice ak n ck, .slice ab n cb] 27)) #[.int .i64 0, .int .i64 0, .slice none 0 0] 24
  simp only [World.size_alloc] at X1 X2
  have hB0 : Below w.heap.size w (((w.alloc (.cells #[.int .i64 (W : Int), .int .i64 (H : Int), .slice a n c] 24)).alloc (.cells #[.slice ak n ck, .slice ab n cb] 27)).alloc (.cells #[.int .i64 0, .int .i64 0, .slice none 0 0] 24)) := by (repeat' (first | with_reducible assumption | with_reducible exact Below.refl _ _ | with_reducible refine Below.drew ?_ | with_reducible refine below_drewN ?_ _ | with_reducible refine balloc ?_ _ | with_reducible refine bset ?_ ?_ _ | with_reducible refine Below.setCell ?_ ?_ _ | with_reducible refine Below.alloc ?_ ?_ _ | omega | (simp; done) | (simp; omega)))
  go_enter Try.func49, Try.ntmps49
  go_wp2_with fail
  generalize (((w.alloc (.cells #[.int .i64 (W : Int), .int .i64 (H : Int), .slice a n c] 24)).alloc (.cells #[.slice ak n ck, .slice ab n cb] 27)).alloc (.cells #[.int .i64 0, .int .i64 0, .slice none 0 0] 24)) = W0 at X0 X1 X2 hB0 ⊢
  have z0 := X0.lt
  have z1 := X1.lt
  have z2 := X2.lt
  refine (herr _ (S.below hB0) (SK.below hB0) (SB.below hB0) (SR.below hB0)).mono ?_
  rintro e w1' ⟨rfl, hb1⟩
  have hB := hB0
  clear hB0 herr
  replace X0 := X0.below hb1
  replace X1 := X1.below hb1
  replace X2 := X2.below hb1
  replace hB := bvia hB hb1
  clear hb1
  have X0_0 := X0.at_ 0 rfl
  have X0_1 := X0.at_ 1 rfl
  have X0_2 := X0.at_ 2 rfl
  have X0f := X0.free
  have X0z := X0.lt
  have hz1 : w.heap.size + 1 + 1 < w1'.heap.size := X2.lt
  have S1 := S.below hB
  go_wp2_with fail
  refine (hcopy _ S1).mono ?_
  rintro e w2 ⟨b, cap, rfl, hb, R, hcap, hb2⟩
  have hz2 := hb2.size
  clear S1 hcopy
  clear X0_0 X0_1 X0_2 X0f X0z
  replace X0 := X0.below hb2
  replace X1 := X1.below hb2
  replace X2 := X2.below hb2
  replace hB := bvia hB hb2
  clear hb2
  have X0_0 := X0.at_ 0 rfl
  have X0_1 := X0.at_ 1 rfl
  have X0_2 := X0.at_ 2 rfl
  have X0f := X0.free
  have X0z := X0.lt
  go_wp2_with fail
  clear X0_0 X0_1 X0_2 X0f X0z
  replace X1 := (((X1.far (p := ⟨w.heap.size, 0, none⟩) (by first | (simp; done) | (simp; omega) | (dsimp only; omega)) (.int .i64 (W : Int))).far (p := ⟨w.heap.size, 1, none⟩) (by first | (simp; done) | (simp; omega) | (dsimp only; omega)) (.int .i64 (H : Int))).far (p := ⟨w.heap.size, 2, none⟩) (by first | (simp; done) | (simp; omega) | (dsimp only; omega)) (.slice (some ⟨b, 0, none⟩) n cap))
  replace X2 := (((X2.far (p := ⟨w.heap.size, 0, none⟩) (by first | (simp; done) | (simp; omega) | (dsimp only; omega)) (.int .i64 (W : Int))).far (p := ⟨w.heap.size, 1, none⟩) (by first | (simp; done) | (simp; omega) | (dsimp only; omega)) (.int .i64 (H : Int))).far (p := ⟨w.heap.size, 2, none⟩) (by first | (simp; done) | (simp; omega) | (dsimp only; omega)) (.slice (some ⟨b, 0, none⟩) n cap))
  replace R := (((R.far (p := ⟨w.heap.size, 0, none⟩) (by first | (simp; done) | (simp; omega) | (dsimp only; omega)) (.int .i64 (W : Int))).far (p := ⟨w.heap.size, 1, none⟩) (by first | (simp; done) | (simp; omega) | (dsimp only; omega)) (.int .i64 (H : Int))).far (p := ⟨w.heap.size, 2, none⟩) (by first | (simp; done) | (simp; omega) | (dsimp only; omega)) (.slice (some ⟨b, 0, none⟩) n cap))
  replace X0 : Bx _ (w.heap.size) #[.int .i64 (W : Int), .int .i64 (H : Int), .slice (some ⟨b, 0, none⟩) n cap] := (((X0.set_ 0 (by simp) (.int .i64 (W : Int))).set_ 1 (by simp) (.int .i64 (H : Int))).set_ 2 (by simp) (.slice (some ⟨b, 0, none⟩) n cap))
  replace hB := (bset (bset (bset hB (p := ⟨w.heap.size, 0, none⟩) (by first | exact Nat.le_refl _ | (simp; done) | (simp; omega)) (.int .i64 (W : Int))) (p := ⟨w.heap.size, 1, none⟩) (by first | exact Nat.le_refl _ | (simp; done) | (simp; omega)) (.int .i64 (H : Int))) (p := ⟨w.heap.size, 2, none⟩) (by first | exact Nat.le_refl _ | (simp; done) | (simp; omega)) (.slice (some ⟨b, 0, none⟩) n cap))
  have X0_0 := X0.at_ 0 rfl
  have X0_1 := X0.at_ 1 rfl
  have X0_2 := X0.at_ 2 rfl
  have X0f := X0.free
  have X0z := X0.lt
  clear X0_0 X0_1 X0_2 X0f X0z
  have hbb : w.heap.size + 1 + 1 < b := by omega
  go_loopw [13] (fun s13 wr => ∃ (j : Nat) (G : Nat → C4), j ≤ M ∧ s13 = .int .i64 ((j : Int) - 1) ∧ (∃ b cap, Bx wr w.heap.size #[.int .i64 (W : Int), .int .i64 (H : Int), .slice (some ⟨b, 0, none⟩) n cap] ∧ Ro wr b (n * 4) (flatC G) ∧ w.heap.size + 1 + 1 < b) ∧ okG n G ∧ U j G = F ∧ Bx wr (w.heap.size + 1) #[.slice ak n ck, .slice ab n cb] ∧ Bx wr (w.heap.size + 1 + 1) #[.int .i64 0, .int .i64 0, .slice none 0 0] ∧ Below w.heap.size w wr) (fun s13 _ => (intOf s13 + 1).toNat)
  case atStart => exact ⟨M, g, Nat.le_refl _, rfl, ⟨b, cap, X0, R, hbb⟩, HOK.out, HFF.out, X1, X2, hB⟩
  case round =>
    clear X0 X1 X2 R hB hbb HOK HFF
    obtain ⟨j, G, hj, rfl, ⟨b, cap, X0, R, hbb⟩, hokG, hUF, X1, X2, hB⟩ := hrel
    have HOK := hid hokG; have HUF := hid hUF
    clear hokG hUF
    by_cases hlt : 0 < j
    · obtain ⟨i, rfl⟩ : ∃ i, j = i + 1 := ⟨j - 1, by omega⟩
      have hti := HTM.out i (by omega)
      have hsl : (((i + 1 : Nat)) : Int) - 1 = (i : Int) := by omega
      rw [hsl]
      clear hsl
      have r0 : ∀ X, Below wr.heap.size wr X → X.cell? ⟨w.heap.size, 0, none⟩ = some (.int .i64 (W : Int)) := fun X h => (X0.below h).at_ 0 rfl
      have r1 : ∀ X, Below wr.heap.size wr X → X.cell? ⟨w.heap.size, 1, none⟩ = some (.int .i64 (H : Int)) := fun X h => (X0.below h).at_ 1 rfl
      have r2 : ∀ X, Below wr.heap.size wr X → X.cell? ⟨w.heap.size, 2, none⟩ = some (.slice (some ⟨b, 0, none⟩) n cap) := fun X h => (X0.below h).at_ 2 rfl
      have r3 : ∀ X, Below wr.heap.size wr X → X.cell? ⟨w.heap.size + 1, 0, none⟩ = some (.slice ak n ck) := fun X h => (X1.below h).at_ 0 rfl
      have r4 : ∀ X, Below wr.heap.size wr X → X.cell? ⟨w.heap.size + 1, 1, none⟩ = some (.slice ab n cb) := fun X h => (X1.below h).at_ 1 rfl
      have hrl := fun W' S' => HRu.out (T + i) W' hti S'
      have hst := fun a' c' W' S' SK' => HSt.out a' c' G (rlAt nr r (T + i)).1 (rlAt nr r (T + i)).2 W' S' SK' HOK.out (HF.out (T + i))
      have hokN := HBk.out (rlAt nr r (T + i)) G HOK.out
      have hUN := (HU.out i G).symm.trans HUF.out
      have hsi := IntWalk.i64_in ((T : Int) + (i : Int)) (by omega)
      have hsn : (((T + i : Nat)) : Int) = (T : Int) + (i : Int) := by simp
      rw [hsn] at hrl
      change ∀ W' S', Calls _ _ _ _ (fun e w' => e = .returned (.agg #[.int .i64 (rlAt nr r (T + i)).1, .int .i64 (rlAt nr r (T + i)).2]) ∧ _) at hrl
      rw [show ((rlAt nr r (T + i)).1, (rlAt nr r (T + i)).2) = rlAt nr r (T + i) from rfl] at hst
      generalize rlAt nr r (T + i) = q at *
      generalize backW W H q K G = G' at *
      have HOKN := hid hokN; have HUN := hid hUN
      clear hokN hUN hsn
      have hsz := X2.lt
      go_upto_region 8 with (fail)
      refine wp_region_S (fun X => Below wr.heap.size wr X) 8 (by kernel_rfl) ?_
      refine anyS_take (i := 0) rfl (by kernel_rfl) (fun _ _ _ h => h) (Or.inl ⟨by rfl, fun Y hYb => (by (try dsimp only at hYb); go_simp; rfl)⟩) (by repeat' (first | with_reducible assumption | with_reducible exact Below.refl _ _ | with_reducible refine Below.drew ?_ | with_reducible refine below_drewN ?_ _)) ?_
      refine anyS_take (i := 1) rfl (by kernel_rfl) (fun _ _ _ h => h) (Or.inl ⟨by rfl, fun Y hYb => (by (try dsimp only at hYb); go_simp; rfl)⟩) (by repeat' (first | with_reducible assumption | with_reducible exact Below.refl _ _ | with_reducible refine Below.drew ?_ | with_reducible refine below_drewN ?_ _)) ?_
      refine anyS_take (i := 2) rfl (by kernel_rfl) (fun _ _ _ h => h) (Or.inl ⟨by rfl, fun Y hYb => (by (try dsimp only at hYb); go_simp; rfl)⟩) (by repeat' (first | with_reducible assumption | with_reducible exact Below.refl _ _ | with_reducible refine Below.drew ?_ | with_reducible refine below_drewN ?_ _)) ?_
      refine anyS_take (i := 3) rfl (by kernel_rfl) (fun _ _ _ h => h) (Or.inl ⟨by rfl, fun Y hYb => (by (try dsimp only at hYb); go_simp; rfl)⟩) (by repeat' (first | with_reducible assumption | with_reducible exact Below.refl _ _ | with_reducible refine Below.drew ?_ | with_reducible refine below_drewN ?_ _)) ?_
      refine anyS_take (i := 4) rfl (by kernel_rfl) (fun _ _ _ h => h) (Or.inl ⟨by rfl, fun Y hYb => (by (try dsimp only at hYb); go_simp; rfl)⟩) (by repeat' (first | with_reducible assumption | with_reducible exact Below.refl _ _ | with_reducible refine Below.drew ?_ | with_reducible refine below_drewN ?_ _)) ?_
      refine anyS_take (i := 5) rfl (by kernel_rfl) (fun _ _ _ h => h) (Or.inl ⟨by rfl, fun Y hYb => (by (try dsimp only at hYb); go_simp; rfl)⟩) (by repeat' (first | with_reducible assumption | with_reducible exact Below.refl _ _ | with_reducible refine Below.drew ?_ | with_reducible refine below_drewN ?_ _)) ?_
      refine anyS_one (i := 6) (by kernel_rfl) rfl (by rfl) (fun K hK => ?_)
      go_simp
      refine (hrl _ ((SR.below hB).below (Below.refl _ wr).drew)).mono ?_
      rintro e w3 ⟨rfl, hb3⟩
      dsimp only
      have hS3 : Below wr.heap.size wr w3 := bvia (Below.refl _ wr).drew hb3
      refine hK _ _ (fun _ _ => hS3) ?_
      clear hK K
      refine anyS_one (i := 7) (by kernel_rfl) rfl (by rfl) (fun K hK => ?_)
      go_simp
      refine (hst _ _ _ ((R.below hS3).sc) ((SK.below hB).below hS3)).mono ?_
      rintro e w4 ⟨b', cap', rfl, hb', R', hcap', hb4⟩
      dsimp only
      have hS4 : Below wr.heap.size wr w4 := bvia hS3 hb4
      have hs4 := hS3.size
      refine hK _ _ (fun _ _ => hS4) ?_
      clear hK
      replace X0 := X0.below hS4; replace X1 := X1.below hS4; replace X2 := X2.below hS4
      replace hB := bvia hB hS4
      have X0_0 := X0.at_ 0 rfl
      have X0_1 := X0.at_ 1 rfl
      have X0_2 := X0.at_ 2 rfl
      have X0f := X0.free
      have X0z := X0.lt
      clear r0 r1 r2 r3 r4 R
      refine anyS_one (i := 8) (by kernel_rfl) rfl (by rfl) (fun K hK => ?_)
      go_simp
      refine hK _ _ (fun h _ => absurd h (by decide)) ?_
      clear hK K
      refine anyS_done (by kernel_rfl) ?_ _
      clear X0_0 X0_1 X0_2 X0f X0z
      replace X1 := (((X1.far (p := ⟨w.heap.size, 0, none⟩) (by first | (simp; done) | (simp; omega) | (dsimp only; omega)) (.int .i64 (W : Int))).far (p := ⟨w.heap.size, 1, none⟩) (by first | (simp; done) | (simp; omega) | (dsimp only; omega)) (.int .i64 (H : Int))).far (p := ⟨w.heap.size, 2, none⟩) (by first | (simp; done) | (simp; omega) | (dsimp only; omega)) (.slice (some ⟨b', 0, none⟩) n cap'))
      replace X2 := (((X2.far (p := ⟨w.heap.size, 0, none⟩) (by first | (simp; done) | (simp; omega) | (dsimp only; omega)) (.int .i64 (W : Int))).far (p := ⟨w.heap.size, 1, none⟩) (by first | (simp; done) | (simp; omega) | (dsimp only; omega)) (.int .i64 (H : Int))).far (p := ⟨w.heap.size, 2, none⟩) (by first | (simp; done) | (simp; omega) | (dsimp only; omega)) (.slice (some ⟨b', 0, none⟩) n cap'))
      replace R' := (((R'.far (p := ⟨w.heap.size, 0, none⟩) (by first | (simp; done) | (simp; omega) | (dsimp only; omega)) (.int .i64 (W : Int))).far (p := ⟨w.heap.size, 1, none⟩) (by first | (simp; done) | (simp; omega) | (dsimp only; omega)) (.int .i64 (H : Int))).far (p := ⟨w.heap.size, 2, none⟩) (by first | (simp; done) | (simp; omega) | (dsimp only; omega)) (.slice (some ⟨b', 0, none⟩) n cap'))
      replace X0 : Bx _ (w.heap.size) #[.int .i64 (W : Int), .int .i64 (H : Int), .slice (some ⟨b', 0, none⟩) n cap'] := (((X0.set_ 0 (by simp) (.int .i64 (W : Int))).set_ 1 (by simp) (.int .i64 (H : Int))).set_ 2 (by simp) (.slice (some ⟨b', 0, none⟩) n cap'))
      replace hB := (bset (bset (bset hB (p := ⟨w.heap.size, 0, none⟩) (by first | exact Nat.le_refl _ | (simp; done) | (simp; omega)) (.int .i64 (W : Int))) (p := ⟨w.heap.size, 1, none⟩) (by first | exact Nat.le_refl _ | (simp; done) | (simp; omega)) (.int .i64 (H : Int))) (p := ⟨w.heap.size, 2, none⟩) (by first | exact Nat.le_refl _ | (simp; done) | (simp; omega)) (.slice (some ⟨b', 0, none⟩) n cap'))
      have X0_0 := X0.at_ 0 rfl
      have X0_1 := X0.at_ 1 rfl
      have X0_2 := X0.at_ 2 rfl
      have X0f := X0.free
      have X0z := X0.lt
      clear X0_0 X0_1 X0_2 X0f X0z
      go_wp2_with fail
      go_roundw
      case rel => exact ⟨i, G', by omega, by simp, ⟨b', cap', X0, R', by omega⟩, HOKN.out, HUN.out, X1, X2, hB⟩
      case measure => simp [intOf] <;> omega
    · obtain rfl : j = 0 := (by omega)
      obtain rfl : G = F := (HU0.out G).symm.trans HUF.out
      have X0_0 := X0.at_ 0 rfl
      have X0_1 := X0.at_ 1 rfl
      have X0_2 := X0.at_ 2 rfl
      have X0f := X0.free
      have X0z := X0.lt
      have X2_0 := X2.at_ 0 rfl
      have X2_1 := X2.at_ 1 rfl
      have X2_2 := X2.at_ 2 rfl
      have X2f := X2.free
      have X2z := X2.lt
      go_wp2_with fail
      refine bodyPost_ret (v := .tuple #[.agg #[.int .i64 (W : Int), .int .i64 (H : Int), .slice (some ⟨b, 0, none⟩) n cap], .int .i64 0]) (by simp [results, Try.results49, go_sem, X2_0, X2_1, X2_2]) rfl (gridPost_row (by (repeat' (first | with_reducible assumption | with_reducible refine Ro.drew ?_ | with_reducible refine Ro.drewN ?_ _ | with_reducible refine Ro.alloc ?_ _ | with_reducible refine Ro.far ?_ ?_ _ | (show _ ≠ _; dsimp only; omega)))) (by omega) (by (repeat' (first | with_reducible assumption | with_reducible exact Below.refl _ _ | with_reducible refine Below.drew ?_ | with_reducible refine below_drewN ?_ _ | with_reducible refine balloc ?_ _ | with_reducible refine bset ?_ ?_ _ | with_reducible refine Below.setCell ?_ ?_ _ | with_reducible refine Below.alloc ?_ ?_ _ | omega | (simp; done) | (simp; omega)))))
end Go.Proofs.Ytnnaegnkkpknpaa
