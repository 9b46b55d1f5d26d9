/- Walk: the reference's Drag. -/
import Derived.Test.YtnnaegnkkpknpaaRefRun
import Derived.Test.YtnnaegnkkpknpaaRImp
import Derived.Test.YtnnaegnkkpknpaaDrgPlain
import Derived.Test.YtnnaegnkkpknpaaSeq2
namespace Go.Proofs.Ytnnaegnkkpknpaa
open Go Go.RowKit
set_option linter.unusedVariables false
theorem runCells {wide high : Int} {n nk nb nr : Nat} {g : Nat → C4} {K B : Nat → Int} {r : Nat → Int × Int} {t m : Int} (h : rnE (validW wide high n g nk nb K B) (rulesB nr r) (timesB t m) = 0) : n ≤ 1024 := by
  obtain ⟨h1, h2, h3⟩ := rnE_zero h
  obtain ⟨g1, g2, g3, g4⟩ := (validW_iff _ _ _ _ _ _ _ _).1 h1
  obtain ⟨a1, a2, a3, a4, a5, a6, a7, a8⟩ := (validG_iff _ _ _ _).1 g1
  omega
def dgErr (er bo : Int) : Int := if er = 0 then bo else er
def dgV (er bo x : Int) : Int := if er = 0 then (if bo = 0 then x else 0) else 0
/-- a push and an error -/
def DragPost (E N er : Int) (w : World) (e : Ending) (w' : World) : Prop := e = .returned (.tuple #[.agg #[.int .i64 E, .int .i64 N], .int .i64 er]) ∧ Below w.heap.size w w'
set_option maxRecDepth 100000 in
set_option maxHeartbeats 8000000 in
theorem ref3_Drag (wide high : Int) (a ak ab ar : Option Addr) (n nk nb nr c ck cb cr : Nat) (g : Nat → C4) (K B : Nat → Int) (r : Nat → Int × Int) (t m body : Int) (w : World) (hn : n ≤ 100000000) (hnk : nk ≤ 100000000) (hnb : nb ≤ 100000000) (hnr : nr ≤ 100000000) (S : Sc w a n g) (SK : Sl w ak nk K) (SB : Sl w ab nb B) (SR : Sr w ar nr r) :
    Calls Try.prog 56 #[.agg #[.int .i64 wide, .int .i64 high, .slice a n c], .agg #[.slice ak nk ck, .slice ab nb cb], .slice ar nr cr, .int .i64 t, .int .i64 m, .int .i64 body] w (DragPost (dgV (rnE (validW wide high n g nk nb K B) (rulesB nr r) (timesB t m)) (bodE B body nb) (drgE (runW wide.toNat high.toNat (rlAt nr r) K g t.toNat) K B body n m.toNat)) (dgV (rnE (validW wide high n g nk nb K B) (rulesB nr r) (timesB t m)) (bodE B body nb) (drgN (runW wide.toNat high.toNat (rlAt nr r) K g t.toNat) K B body n m.toNat)) (dgErr (rnE (validW wide high n g nk nb K B) (rulesB nr r) (timesB t m)) (bodE B body nb)) w) := by
  have herr := fun W' S' SK' SB' SR' => ref3_runError wide high a ak ab ar n nk nb nr c ck cb cr g K B r t m W' hn hnk hnb hnr S' SK' SB' SR'
  have hown := fun W' SB' => ref3_own ak ab nk nb ck cb B body W' hnb SB'
  have X0 := ((Bx.new w #[.int .i64 wide, .int .i64 high, .slice a n c] 24).alloc (.cells #[.slice ak nk ck, .slice ab nb cb] 27)).alloc (.cells #[.int .i64 0, .int .i64 0] 43)
  have X1 := (Bx.new (w.alloc (.cells #[.int .i64 wide, .int .i64 high, .slice a n c] 24)) #[.slice ak nk ck, .slice ab nb cb] 27).alloc (.cells #[.int .i64 0, .int .i64 0] 43)
  have X2 := Bx.new ((w.alloc (.cells #[.int .i64 wide, .int .i64 high, .slice a n c] 24)).alloc (.cells #[.slice ak nk ck, .slice ab nb cb] 27)) #[.int .i64 0, .int .i64 0] 43
  simp only [World.size_alloc] at X1 X2
  have hB0 : Below w.heap.size w (((w.alloc (.cells #[.int .i64 wide, .int .i64 high, .slice a n c] 24)).alloc (.cells #[.slice ak nk ck, .slice ab nb cb] 27)).alloc (.cells #[.int .i64 0, .int .i64 0] 43)) := by (repeat' (first | with_reducible assumption | with_reducible exact Below.refl _ _ | with_reducible refine Below.drew ?_ | with_reducible refine below_drewN ?_ _ | with_reducible refine balloc ?_ _ | with_reducible refine bset ?_ ?_ _ | with_reducible refine Below.setCell ?_ ?_ _ | with_reducible refine Below.alloc ?_ ?_ _ | omega | (simp; done) | (simp; omega)))
  have hcells := fun h => runCells (wide := wide) (high := high) (n := n) (nk := nk) (nb := nb) (nr := nr) (g := g) (K := K) (B := B) (r := r) (t := t) (m := m) h
  have hgood := fun h => run_ok (wide := wide) (high := high) (n := n) (nk := nk) (nb := nb) (nr := nr) (g := g) (K := K) (B := B) (r := r) (t := t) (m := m) h
  generalize rnE (validW wide high n g nk nb K B) (rulesB nr r) (timesB t m) = er at *
  by_cases hz : er = 0
  rotate_left
  · have hzb : (er == 0) = false := by simpa using hz
    have hzc : (er != 0) = true := by simpa using hz
    have e1 : ∀ x, dgV er (bodE B body nb) x = 0 := fun x => by simp [dgV, hz]
    have e2 : dgErr er (bodE B body nb) = er := by simp [dgErr, hz]
    rw [e1, e1, e2]
    clear hgood hcells hz e1 e2 hown
    go_enter Try.func56, Try.ntmps56
    go_wp2_with fail
    generalize (((w.alloc (.cells #[.int .i64 wide, .int .i64 high, .slice a n c] 24)).alloc (.cells #[.slice ak nk ck, .slice ab nb cb] 27)).alloc (.cells #[.int .i64 0, .int .i64 0] 43)) = W0 at X0 X1 X2 hB0 ⊢
    have z0 := X0.lt
    have z1 := X1.lt
    have z2 := X2.lt
    refine (herr _ (S.below hB0) (SK.below hB0) (SB.below hB0) (SR.below hB0)).mono ?_
    rintro e w1 ⟨rfl, hb1⟩
    have hB := hB0
    clear hB0
    replace X0 := X0.below hb1
    replace X1 := X1.below hb1
    replace X2 := X2.below hb1
    replace hB := bvia hB hb1
    clear hb1
    have X0_0 := X0.at_ 0 rfl
    have X0_1 := X0.at_ 1 rfl
    have X0_2 := X0.at_ 2 rfl
    have X1_0 := X1.at_ 0 rfl
    have X1_1 := X1.at_ 1 rfl
    have X2_0 := X2.at_ 0 rfl
    have X2_1 := X2.at_ 1 rfl
    have X2f := X2.free
    have X2z := X2.lt
    go_wp2_with fail
    exact bodyPost_ret (v := .tuple #[.agg #[.int .i64 0, .int .i64 0], .int .i64 er]) (by simp [results, Try.results56, go_sem, X2_0, X2_1]) rfl ⟨rfl, by (repeat' (first | with_reducible assumption | with_reducible exact Below.refl _ _ | with_reducible refine Below.drew ?_ | with_reducible refine below_drewN ?_ _ | with_reducible refine balloc ?_ _ | with_reducible refine bset ?_ ?_ _ | with_reducible refine Below.setCell ?_ ?_ _ | with_reducible refine Below.alloc ?_ ?_ _ | omega | (simp; done) | (simp; omega)))⟩
  subst hz
  have e1 : ∀ x, dgV 0 (bodE B body nb) x = if bodE B body nb = 0 then x else 0 := fun x => by simp [dgV]
  have e2 : dgErr 0 (bodE B body nb) = bodE B body nb := by simp [dgErr]
  rw [e1, e1, e2]
  clear e1 e2
  cases hw : within body 1 9
  · have q : bodE B body nb = 7 := by simp [bodE, hw]
    rw [q, if_neg (by omega), if_neg (by omega)]
    clear q hgood hcells
    have hib := fun W' => ref3_isBody body W'
    rw [hw] at hib
    clear hw
    go_enter Try.func56, Try.ntmps56
    go_wp2_with fail
    generalize (((w.alloc (.cells #[.int .i64 wide, .int .i64 high, .slice a n c] 24)).alloc (.cells #[.slice ak nk ck, .slice ab nb cb] 27)).alloc (.cells #[.int .i64 0, .int .i64 0] 43)) = W0 at X0 X1 X2 hB0 ⊢
    have z0 := X0.lt
    have z1 := X1.lt
    have z2 := X2.lt
    refine (herr _ (S.below hB0) (SK.below hB0) (SB.below hB0) (SR.below hB0)).mono ?_
    rintro e w1 ⟨rfl, hb1⟩
    have hB := hB0
    clear hB0
    replace X0 := X0.below hb1
    replace X1 := X1.below hb1
    replace X2 := X2.below hb1
    replace hB := bvia hB hb1
    clear hb1
    have X0_0 := X0.at_ 0 rfl
    have X0_1 := X0.at_ 1 rfl
    have X0_2 := X0.at_ 2 rfl
    have X1_0 := X1.at_ 0 rfl
    have X1_1 := X1.at_ 1 rfl
    have X2_0 := X2.at_ 0 rfl
    have X2_1 := X2.at_ 1 rfl
    have X2f := X2.free
    have X2z := X2.lt
    go_wp2_with fail
    refine (hib _).mono ?_
    rintro e w' ⟨rfl, rfl⟩
    dsimp only
    go_wp2_with fail
    exact bodyPost_ret (v := .tuple #[.agg #[.int .i64 0, .int .i64 0], .int .i64 7]) (by simp [results, Try.results56, go_sem, X2_0, X2_1]) rfl ⟨rfl, by (repeat' (first | with_reducible assumption | with_reducible exact Below.refl _ _ | with_reducible refine Below.drew ?_ | with_reducible refine below_drewN ?_ _ | with_reducible refine balloc ?_ _ | with_reducible refine bset ?_ ?_ _ | with_reducible refine Below.setCell ?_ ?_ _ | with_reducible refine Below.alloc ?_ ?_ _ | omega | (simp; done) | (simp; omega)))⟩
  have hib := fun W' => ref3_isBody body W'
  rw [hw] at hib
  have hh := hasL_own B body nb
  have hlen := ownL_length B body nb
  by_cases hz : (ownL B body nb).length = 0
  · have q : bodE B body nb = 8 := by rw [hz] at hh; simp [bodE, hw, hh]
    rw [q, if_neg (by omega), if_neg (by omega)]
    have HZ := hid hz
    clear q hgood hcells hw hh hlen hz
    go_enter Try.func56, Try.ntmps56
    go_wp2_with fail
    generalize (((w.alloc (.cells #[.int .i64 wide, .int .i64 high, .slice a n c] 24)).alloc (.cells #[.slice ak nk ck, .slice ab nb cb] 27)).alloc (.cells #[.int .i64 0, .int .i64 0] 43)) = W0 at X0 X1 X2 hB0 ⊢
    have z0 := X0.lt
    have z1 := X1.lt
    have z2 := X2.lt
    refine (herr _ (S.below hB0) (SK.below hB0) (SB.below hB0) (SR.below hB0)).mono ?_
    rintro e w1 ⟨rfl, hb1⟩
    have hB := hB0
    clear hB0
    replace X0 := X0.below hb1
    replace X1 := X1.below hb1
    replace X2 := X2.below hb1
    replace hB := bvia hB hb1
    clear hb1
    have X0_0 := X0.at_ 0 rfl
    have X0_1 := X0.at_ 1 rfl
    have X0_2 := X0.at_ 2 rfl
    have X1_0 := X1.at_ 0 rfl
    have X1_1 := X1.at_ 1 rfl
    have X2_0 := X2.at_ 0 rfl
    have X2_1 := X2.at_ 1 rfl
    have X2f := X2.free
    have X2z := X2.lt
    go_wp2_with fail
    refine (hib _).mono ?_
    rintro e w' ⟨rfl, rfl⟩
    dsimp only
    go_wp2_with fail
    refine (hown _ (SB.below hB)).mono ?_
    rintro e w2 ⟨v, rfl, ho, hb2⟩
    obtain ⟨a0, c0, rfl, HL⟩ := sl_of_own ho
    rw [HZ.out]
    clear ho HL
    clear X0_0 X0_1 X0_2 X1_0 X1_1 X2_0 X2_1 X2f X2z
    replace X0 := X0.below hb2
    replace X1 := X1.below hb2
    replace X2 := X2.below hb2
    replace hB := bvia hB hb2
    clear hb2
    have X0_0 := X0.at_ 0 rfl
    have X0_1 := X0.at_ 1 rfl
    have X0_2 := X0.at_ 2 rfl
    have X1_0 := X1.at_ 0 rfl
    have X1_1 := X1.at_ 1 rfl
    have X2_0 := X2.at_ 0 rfl
    have X2_1 := X2.at_ 1 rfl
    have X2f := X2.free
    have X2z := X2.lt
    go_wp2_with fail
    exact bodyPost_ret (v := .tuple #[.agg #[.int .i64 0, .int .i64 0], .int .i64 8]) (by simp [results, Try.results56, go_sem, X2_0, X2_1]) rfl ⟨rfl, by (repeat' (first | with_reducible assumption | with_reducible exact Below.refl _ _ | with_reducible refine Below.drew ?_ | with_reducible refine below_drewN ?_ _ | with_reducible refine balloc ?_ _ | with_reducible refine bset ?_ ?_ _ | with_reducible refine Below.setCell ?_ ?_ _ | with_reducible refine Below.alloc ?_ ?_ _ | omega | (simp; done) | (simp; omega)))⟩
  have hh' : hasL B body nb = true := by rw [hh]; simp only [decide_eq_true_eq]; omega
  have q : bodE B body nb = 0 := by simp [bodE, hw, hh']
  rw [q, if_pos rfl, if_pos rfl]
  obtain ⟨W, H, T, M, rfl, rfl, rfl, rfl, w1', h1, rfl, rfl, rfl, hok, hKb, hr0, hr8, hru, hT, hM, hTM⟩ := hgood rfl
  simp only [Int.toNat_natCast]
  have hWH : W * H ≤ 4096 := Nat.mul_le_mul w1'.2 h1.2
  have hn0 : 0 < W * H := Nat.mul_pos (by omega) (by omega)
  have hm : W * H ≤ 1024 := hcells rfl
  have hrule := fun s W' hs S' => ref1_rule ar nr cr s r W' hr0 hr8 hs S'
  have hstep := fun a' c' G k b W' S' SK' hv hr => ref3_step W H a' ak ab c' ck (W * H) cb G K k b W' w1' h1 S' SK' hKb hv hr
  have himp := fun a' c' G W' S' SK' SB' hv => ref3_impulse (W : Int) (H : Int) body a' ak ab (W * H) c' ck cb G K B W' (by omega) S' SK' SB' hv hKb
  have hokR := fun i => runW_ok (r := rlAt nr r) (K := K) (t := T) hok i
  have hrun0 : runW W H (rlAt nr r) K g T 0 = g := rfl
  have hrunS := fun i => (show runW W H (rlAt nr r) K g T (i + 1) = stepW W H (rlAt nr r (T + i)) K (runW W H (rlAt nr r) K g T i) from rfl)
  generalize runW W H (rlAt nr r) K g T = G at *
  have hbd := drg_bd (G := G) K B body hm hokR
  have hdE := fun i => (show drgE G K B body (W * H) (i + 1) = drgE G K B body (W * H) i + impE (G i) K B body (W * H) from rfl)
  have hdN := fun i => (show drgN G K B body (W * H) (i + 1) = drgN G K B body (W * H) i + impN (G i) K B body (W * H) from rfl)
  have hd0 : drgE G K B body (W * H) 0 = 0 ∧ drgN G K B body (W * H) 0 = 0 := ⟨rfl, rfl⟩
  have hib1 := fun i => impE_bd (G i) K B body (W * H) (hokR i).1
  have hib2 := fun i => impN_bd (G i) K B body (W * H) (hokR i).1
  generalize drgE G K B body (W * H) = dE at *
  generalize drgN G K B body (W * H) = dN at *
  have HRu := hid hrule; have HSt := hid hstep; have HIm := hid himp; have HOK := hid hokR; have HR0 := hid hrun0; have HRS := hid hrunS
  have HBD := hid hbd; have HDE := hid hdE; have HDN := hid hdN; have HD0 := hid hd0; have HI1 := hid hib1; have HI2 := hid hib2
  have HTM := hid hTM; have HF := hid hru; have HLN := hid hz
  clear hrule hstep himp hokR hrun0 hrunS hbd hdE hdN hd0 hib1 hib2 hTM hru hok hKb hw hh hh' hlen q hz
  generalize hP : W * H = n at *
  clear hP X0 X1 X2 hB0
  have X0 := ((Bx.new w #[.int .i64 (W : Int), .int .i64 (H : Int), .slice a n c] 24).alloc (.cells #[.slice ak n ck, .slice ab n cb] 27)).alloc (.cells #[.int .i64 0, .int .i64 0] 43)
  have X1 := (Bx.new (w.alloc (.cells #[.int .i64 (W : Int), .int .i64 (H : Int), .slice a n c] 24)) #[.slice ak n ck, .slice ab n cb] 27).alloc (.cells #[.int .i64 0, .int .i64 0] 43)
  have X2 := Bx.new ((w.alloc (.cells #[.int .i64 (W : Int), .int .i64 (H : Int), .slice a n c] 24)).alloc (.cells #[.slice ak n ck, .slice ab n cb] 27)) #[.int .i64 0, .int .i64 0] 43
  simp only [World.size_alloc] at X1 X2
  have hB0 : Below w.heap.size w (((w.alloc (.cells #[.int .i64 (W : Int), .int .i64 (H : Int), .slice a n c] 24)).alloc (.cells #[.slice ak n ck, .slice ab n cb] 27)).alloc (.cells #[.int .i64 0, .int .i64 0] 43)) := by (repeat' (first | with_reducible assumption | with_reducible exact Below.refl _ _ | with_reducible refine Below.drew ?_ | with_reducible refine below_drewN ?_ _ | with_reducible refine balloc ?_ _ | with_reducible refine bset ?_ ?_ _ | with_reducible refine Below.setCell ?_ ?_ _ | with_reducible refine Below.alloc ?_ ?_ _ | omega | (simp; done) | (simp; omega)))
  go_enter Try.func56, Try.ntmps56
  go_wp2_with fail
  generalize (((w.alloc (.cells #[.int .i64 (W : Int), .int .i64 (H : Int), .slice a n c] 24)).alloc (.cells #[.slice ak n ck, .slice ab n cb] 27)).alloc (.cells #[.int .i64 0, .int .i64 0] 43)) = W0 at X0 X1 X2 hB0 ⊢
  have z0 := X0.lt
  have z1 := X1.lt
  have z2 := X2.lt
  refine (herr _ (S.below hB0) (SK.below hB0) (SB.below hB0) (SR.below hB0)).mono ?_
  rintro e w1 ⟨rfl, hb1⟩
  have hB := hB0
  clear hB0
  replace X0 := X0.below hb1
  replace X1 := X1.below hb1
  replace X2 := X2.below hb1
  replace hB := bvia hB hb1
  clear hb1
  have X0_0 := X0.at_ 0 rfl
  have X0_1 := X0.at_ 1 rfl
  have X0_2 := X0.at_ 2 rfl
  have X1_0 := X1.at_ 0 rfl
  have X1_1 := X1.at_ 1 rfl
  have X2_0 := X2.at_ 0 rfl
  have X2_1 := X2.at_ 1 rfl
  have X2f := X2.free
  have X2z := X2.lt
  go_wp2_with fail
  refine (hib _).mono ?_
  rintro e w' ⟨rfl, rfl⟩
  dsimp only
  go_wp2_with fail
  refine (hown _ (SB.below hB)).mono ?_
  rintro e w2 ⟨v, rfl, ho, hb2⟩
  obtain ⟨a0, c0, rfl, HL⟩ := sl_of_own ho
  have hlb : (((ownL B body n).length : Int) == 0) = false := by have := HLN.out; simp; exact fun h => this (by simp [h])
  clear ho HL
  clear X0_0 X0_1 X0_2 X1_0 X1_1 X2_0 X2_1 X2f X2z
  replace X0 := X0.below hb2
  replace X1 := X1.below hb2
  replace X2 := X2.below hb2
  replace hB := bvia hB hb2
  clear hb2
  have X0_0 := X0.at_ 0 rfl
  have X0_1 := X0.at_ 1 rfl
  have X0_2 := X0.at_ 2 rfl
  have X1_0 := X1.at_ 0 rfl
  have X1_1 := X1.at_ 1 rfl
  have X2_0 := X2.at_ 0 rfl
  have X2_1 := X2.at_ 1 rfl
  have X2f := X2.free
  have X2z := X2.lt
  go_wp2_with fail
  have hw22 := X2.lt
  clear X0_0 X0_1 X0_2 X1_0 X1_1 X2_0 X2_1 X2f X2z
  replace X0 := X0.alloc (.cells #[.int .i64 0, .int .i64 0] 43)
  replace X1 := X1.alloc (.cells #[.int .i64 0, .int .i64 0] 43)
  replace X2 := X2.alloc (.cells #[.int .i64 0, .int .i64 0] 43)
  have X4 := Bx.new w2 #[.int .i64 0, .int .i64 0] 43
  replace hB := balloc hB (.cells #[.int .i64 0, .int .i64 0] 43)
  have X0_0 := X0.at_ 0 rfl
  have X0_1 := X0.at_ 1 rfl
  have X0_2 := X0.at_ 2 rfl
  have X1_0 := X1.at_ 0 rfl
  have X1_1 := X1.at_ 1 rfl
  have X2_0 := X2.at_ 0 rfl
  have X2_1 := X2.at_ 1 rfl
  have X2f := X2.free
  have X2z := X2.lt
  clear X0_0 X0_1 X0_2 X1_0 X1_1 X2_0 X2_1 X2f X2z
  have hsl := X2.lt
  clear hlb
  have Sg : Sc (w2.alloc (.cells #[.int .i64 0, .int .i64 0] 43)) a n g := S.below hB
  have hna : ∀ b off, a = some ⟨b, off, none⟩ → 0 < n → b ≠ w2.heap.size ∧ b ≠ w.heap.size := fun b off e hn => by
    obtain ⟨b', off', e', hlt, _⟩ := S 0 hn
    rw [e] at e'
    injection e' with e'
    injection e' with e1 _ _
    omega
  rw [← HR0.out] at Sg
  have hd := HD0.out
  obtain ⟨hd1, hd2⟩ := hd
  rw [← hd1] at X4
  clear hd1
  have hX4 : Bx (w2.alloc (.cells #[.int .i64 0, .int .i64 0] 43)) w2.heap.size #[.int .i64 (dE 0), .int .i64 (dN 0)] := by
    rw [HD0.out.1, HD0.out.2]; exact Bx.new _ _ _
  clear X4 hd2
  generalize w2.alloc (.cells #[.int .i64 0, .int .i64 0] 43) = W2 at *
  generalize hs : w2.heap.size = s at *
  clear hs
  go_loopw [16] (fun s16 wr => ∃ i : Nat, i ≤ M ∧ s16 = .int .i64 i ∧ (∃ a' c', Bx wr w.heap.size #[.int .i64 (W : Int), .int .i64 (H : Int), .slice a' n c'] ∧ Sc wr a' n (G i) ∧ ∀ b off, a' = some ⟨b, off, none⟩ → 0 < n → b ≠ s ∧ b ≠ w.heap.size) ∧ Bx wr (w.heap.size + 1) #[.slice ak n ck, .slice ab n cb] ∧ Bx wr (w.heap.size + 1 + 1) #[.int .i64 0, .int .i64 0] ∧ Bx wr s #[.int .i64 (dE i), .int .i64 (dN i)] ∧ Below w.heap.size w wr) (fun s16 _ => M - (intOf s16).toNat)
  case atStart => exact ⟨0, Nat.zero_le _, rfl, ⟨a, c, X0, Sg, hna⟩, X1, X2, hX4, hB⟩
  case round =>
    clear X0 X1 X2 hX4 hB Sg hna
    obtain ⟨i, hi, rfl, ⟨a', c', X0, Sg, hna⟩, X1, X2, X4, hB⟩ := hrel
    by_cases hlt : i < M
    · have hti := HTM.out i hlt
      have him := fun W' S' SK' SB' => HIm.out a' c' (G i) W' S' SK' SB' (HOK.out i).1
      obtain ⟨q1, q2⟩ := HI1.out i
      obtain ⟨q3, q4⟩ := HI2.out i
      obtain ⟨q5, q6, q7, q8⟩ := HBD.out i
      have hE1 := HDE.out i; have hN1 := HDN.out i
      generalize impE (G i) K B body n = pE at *
      generalize impN (G i) K B body n = pN at *
      generalize dE i = E0 at *
      generalize dN i = N0 at *
      have HE1 := hid hE1; have HN1 := hid hN1
      clear hE1 hN1
      have X0_0 := X0.at_ 0 rfl
      have X0_1 := X0.at_ 1 rfl
      have X0_2 := X0.at_ 2 rfl
      have X1_0 := X1.at_ 0 rfl
      have X1_1 := X1.at_ 1 rfl
      go_wp2_with fail
      refine (him _ Sg (SK.below hB) (SB.below hB)).mono ?_
      rintro e w5 ⟨rfl, hb5⟩
      replace Sg := Sg.below hb5
      have hzs := X4.lt; have hz0 := X0.lt; have hz2 := X2.lt
      have hs5 := hb5.size
      clear X0_0 X0_1 X0_2 X1_0 X1_1
      replace X0 := X0.below hb5
      replace X1 := X1.below hb5
      replace X2 := X2.below hb5
      replace X4 := X4.below hb5
      replace hB := bvia hB hb5
      clear hb5
      have X0_0 := X0.at_ 0 rfl
      have X0_1 := X0.at_ 1 rfl
      have X0_2 := X0.at_ 2 rfl
      have X1_0 := X1.at_ 0 rfl
      have X1_1 := X1.at_ 1 rfl
      clear X0_0 X0_1 X0_2 X1_0 X1_1
      go_upto_region 13 with (fail)
      replace X0 := X0.alloc (.cells #[.int .i64 pE, .int .i64 pN] 43)
      replace X1 := X1.alloc (.cells #[.int .i64 pE, .int .i64 pN] 43)
      replace X2 := X2.alloc (.cells #[.int .i64 pE, .int .i64 pN] 43)
      replace X4 := X4.alloc (.cells #[.int .i64 pE, .int .i64 pN] 43)
      have X5 := Bx.new w5 #[.int .i64 pE, .int .i64 pN] 43
      replace hB := balloc hB (.cells #[.int .i64 pE, .int .i64 pN] 43)
      replace Sg := Sg.alloc (.cells #[.int .i64 pE, .int .i64 pN] 43)
      generalize w5.alloc (.cells #[.int .i64 pE, .int .i64 pN] 43) = W5 at *
      generalize hu : w5.heap.size = u at *
      have hus : u ≠ s := by omega
      have husz := X5.lt
      clear hu
      have r0 : ∀ X, Below W5.heap.size W5 X → X.cell? ⟨s, 0, none⟩ = some (.int .i64 E0) := fun X h => (X4.below h).at_ 0 rfl
      have r1 : ∀ X, Below W5.heap.size W5 X → X.cell? ⟨s, 1, none⟩ = some (.int .i64 N0) := fun X h => (X4.below h).at_ 1 rfl
      have r2 : ∀ X, Below W5.heap.size W5 X → X.cell? ⟨u, 0, none⟩ = some (.int .i64 pE) := fun X h => (X5.below h).at_ 0 rfl
      have r3 : ∀ X, But (fun q => q = s) W5 X → X.cell? ⟨u, 1, none⟩ = some (.int .i64 pN) := fun X h => (X5.but h hus).at_ 1 rfl
      have x40 := X4.at_ 0 rfl; have x41 := X4.at_ 1 rfl; have x4f := X4.free; have x4z := X4.lt
      have hw1 := IntWalk.i64_in (E0 + pE) (by omega)
      have hw2 := IntWalk.i64_in (N0 + pN) (by omega)
      refine wp_region_D (fun X => Below W5.heap.size W5 X) (fun X => But (fun q => q = s) W5 X) 11 (by kernel_rfl) ?_
      refine anyD_take (i := 0) rfl (by kernel_rfl) (fun _ _ _ h => h) (Or.inl ⟨by rfl, fun Y hYb => (by (try dsimp only at hYb); go_simp; rfl)⟩) (by repeat' (first | with_reducible assumption | with_reducible exact Below.refl _ _ | with_reducible refine Below.drew ?_ | with_reducible refine below_drewN ?_ _)) ?_
      refine anyD_take (i := 1) rfl (by kernel_rfl) (fun _ _ _ h => h) (Or.inl ⟨by rfl, fun Y hYb => (by (try dsimp only at hYb); go_simp; rfl)⟩) (by repeat' (first | with_reducible assumption | with_reducible exact Below.refl _ _ | with_reducible refine Below.drew ?_ | with_reducible refine below_drewN ?_ _)) ?_
      refine anyD_take (i := 2) rfl (by kernel_rfl) (fun _ _ _ h => h) (Or.inl ⟨by rfl, fun Y hYb => (by (try dsimp only at hYb); go_simp; rfl)⟩) (by repeat' (first | with_reducible assumption | with_reducible exact Below.refl _ _ | with_reducible refine Below.drew ?_ | with_reducible refine below_drewN ?_ _)) ?_
      refine anyD_take (i := 3) rfl (by kernel_rfl) (fun _ _ _ h => h) (Or.inl ⟨by rfl, fun Y hYb => (by (try dsimp only at hYb); go_simp; rfl)⟩) (by repeat' (first | with_reducible assumption | with_reducible exact Below.refl _ _ | with_reducible refine Below.drew ?_ | with_reducible refine below_drewN ?_ _)) ?_
      refine anyD_take (i := 4) rfl (by kernel_rfl) (fun _ _ _ h => h) (Or.inl ⟨by rfl, fun Y hYb => (by (try dsimp only at hYb); go_simp; rfl)⟩) (by repeat' (first | with_reducible assumption | with_reducible exact Below.refl _ _ | with_reducible refine Below.drew ?_ | with_reducible refine below_drewN ?_ _)) ?_
      refine anyD_take (i := 5) rfl (by kernel_rfl) (fun _ _ _ h => h) (Or.inl ⟨by rfl, fun Y hYb => (by (try dsimp only at hYb); go_simp; rfl)⟩) (by repeat' (first | with_reducible assumption | with_reducible exact Below.refl _ _ | with_reducible refine Below.drew ?_ | with_reducible refine below_drewN ?_ _)) ?_
      refine anyD_take (i := 6) rfl (by kernel_rfl) (fun _ _ _ h => h) (Or.inl ⟨by rfl, fun Y hYb => (by (try dsimp only at hYb); go_simp; rfl)⟩) (by repeat' (first | with_reducible assumption | with_reducible exact Below.refl _ _ | with_reducible refine Below.drew ?_ | with_reducible refine below_drewN ?_ _)) ?_
      refine anyD_pure (i := 7) rfl (by kernel_rfl) (fun _ _ _ h => h) (Or.inl ⟨by rfl, fun Y hYb => (by clear hYb; go_simp; rfl)⟩) ?_
      refine anyD_keep (i := 8) rfl (by kernel_rfl) (fun _ _ _ h => h) (Or.inl ⟨by rfl, fun Y hYb => (by (try dsimp only at hYb); go_simp; rfl)⟩) (by repeat' (first | with_reducible assumption | with_reducible exact But.refl _ _ | with_reducible refine But.drew ?_ | with_reducible refine But.drewN ?_ _)) ?_
      refine anyD_pure (i := 9) rfl (by kernel_rfl) (fun _ _ _ h => h) (Or.inl ⟨by rfl, fun Y hYb => (by clear hYb; go_simp; rfl)⟩) ?_
      refine anyD_take (i := 10) rfl (by kernel_rfl) (fun _ _ _ h => h) (Or.inl ⟨by rfl, fun Y hYb => (by (try dsimp only at hYb); go_simp; rfl)⟩) (by repeat' (first | with_reducible assumption | with_reducible exact Below.refl _ _ | with_reducible refine Below.drew ?_ | with_reducible refine below_drewN ?_ _)) ?_
      refine anyD_one (i := 11) (by kernel_rfl) rfl (by rfl) (fun K hK => ?_)
      go_simp
      refine hK _ _ (fun h _ => absurd h (by decide)) (fun _ => ((But.refl _ W5).set_ (by dsimp only) _).drew) ?_
      clear hK K
      refine anyD_pure (i := 12) rfl (by kernel_rfl) (fun _ _ _ h => h) (Or.inl ⟨by rfl, fun Y hYb => (by clear hYb; go_simp; rfl)⟩) ?_
      refine anyD_one (i := 13) (by kernel_rfl) rfl (by rfl) (fun K hK => ?_)
      go_simp
      refine hK _ _ (fun h _ => absurd h (by decide)) (fun _ => (((But.refl _ W5).set_ (by dsimp only) _).set_ (by dsimp only) _).drew) ?_
      clear hK
      refine anyD_done (by kernel_rfl) ?_ _
      have Y0 : Bx (((W5.setCell ⟨s, 0, none⟩ (.int .i64 (E0 + pE))).setCell ⟨s, 1, none⟩ (.int .i64 (N0 + pN))).drew) w.heap.size #[.int .i64 (W : Int), .int .i64 (H : Int), .slice a' n c'] := by (repeat' (first | with_reducible assumption | (with_reducible refine Bx.newE ?_ _ _; (simp; done)) | with_reducible refine Bx.alloc ?_ _ | with_reducible refine Bx.drew ?_ | with_reducible refine Bx.drewN ?_ _ | with_reducible refine Bx.four ?_ | (with_reducible refine Bx.far2 ?_ ?_ _; (dsimp only; omega))))
      have Y1 : Bx (((W5.setCell ⟨s, 0, none⟩ (.int .i64 (E0 + pE))).setCell ⟨s, 1, none⟩ (.int .i64 (N0 + pN))).drew) (w.heap.size + 1) #[.slice ak n ck, .slice ab n cb] := by (repeat' (first | with_reducible assumption | (with_reducible refine Bx.newE ?_ _ _; (simp; done)) | with_reducible refine Bx.alloc ?_ _ | with_reducible refine Bx.drew ?_ | with_reducible refine Bx.drewN ?_ _ | with_reducible refine Bx.four ?_ | (with_reducible refine Bx.far2 ?_ ?_ _; (dsimp only; omega))))
      have Y2 : Bx (((W5.setCell ⟨s, 0, none⟩ (.int .i64 (E0 + pE))).setCell ⟨s, 1, none⟩ (.int .i64 (N0 + pN))).drew) (w.heap.size + 1 + 1) #[.int .i64 0, .int .i64 0] := by (repeat' (first | with_reducible assumption | (with_reducible refine Bx.newE ?_ _ _; (simp; done)) | with_reducible refine Bx.alloc ?_ _ | with_reducible refine Bx.drew ?_ | with_reducible refine Bx.drewN ?_ _ | with_reducible refine Bx.four ?_ | (with_reducible refine Bx.far2 ?_ ?_ _; (dsimp only; omega))))
      have Y4 : Bx (((W5.setCell ⟨s, 0, none⟩ (.int .i64 (E0 + pE))).setCell ⟨s, 1, none⟩ (.int .i64 (N0 + pN))).drew) s #[.int .i64 (E0 + pE), .int .i64 (N0 + pN)] := X4.two.drew
      have Yg : Sc (((W5.setCell ⟨s, 0, none⟩ (.int .i64 (E0 + pE))).setCell ⟨s, 1, none⟩ (.int .i64 (N0 + pN))).drew) a' n (G i) := by
        rcases Nat.eq_zero_or_pos n with h0 | h0
        · intro k hk; omega
        · exact ((Sg.far (fun b off h => (hna b off h h0).1.symm) _).far (fun b off h => (hna b off h h0).1.symm) _).drew
      have hB6 : Below w.heap.size w (((W5.setCell ⟨s, 0, none⟩ (.int .i64 (E0 + pE))).setCell ⟨s, 1, none⟩ (.int .i64 (N0 + pN))).drew) := by (repeat' (first | with_reducible assumption | with_reducible exact Below.refl _ _ | with_reducible refine Below.drew ?_ | with_reducible refine below_drewN ?_ _ | with_reducible refine balloc ?_ _ | with_reducible refine bset ?_ ?_ _ | with_reducible refine Below.setCell ?_ ?_ _ | with_reducible refine Below.alloc ?_ ?_ _ | omega | (simp; done) | (simp; omega)))
      have X0' := Y0; have X1' := Y1; have X2' := Y2; have X4' := Y4
      clear X0 X1 X2 X4 X5 Sg hB r0 r1 r2 r3 x40 x41 x4f x4z hw1 hw2 him Y0 Y1 Y2 Y4
      have X0 := X0'; have X1 := X1'; have X2 := X2'; have X4 := X4'; have hB := hB6
      clear X0' X1' X2' X4' hB6
      go_upto_region 14 with (fail)
      generalize ((W5.setCell ⟨s, 0, none⟩ (.int .i64 (E0 + pE))).setCell ⟨s, 1, none⟩ (.int .i64 (N0 + pN))).drew = W6 at *
      have r0 : ∀ X, Below W6.heap.size W6 X → X.cell? ⟨w.heap.size, 0, none⟩ = some (.int .i64 (W : Int)) := fun X h => (X0.below h).at_ 0 rfl
      have r1 : ∀ X, Below W6.heap.size W6 X → X.cell? ⟨w.heap.size, 1, none⟩ = some (.int .i64 (H : Int)) := fun X h => (X0.below h).at_ 1 rfl
      have r2 : ∀ X, Below W6.heap.size W6 X → X.cell? ⟨w.heap.size, 2, none⟩ = some (.slice a' n c') := fun X h => (X0.below h).at_ 2 rfl
      have r3 : ∀ X, Below W6.heap.size W6 X → X.cell? ⟨w.heap.size + 1, 0, none⟩ = some (.slice ak n ck) := fun X h => (X1.below h).at_ 0 rfl
      have r4 : ∀ X, Below W6.heap.size W6 X → X.cell? ⟨w.heap.size + 1, 1, none⟩ = some (.slice ab n cb) := fun X h => (X1.below h).at_ 1 rfl
      have hrl := fun W' S' => HRu.out (T + i) W' hti S'
      have hst := fun a' c' W' S' SK' => HSt.out a' c' (G i) (rlAt nr r (T + i)).1 (rlAt nr r (T + i)).2 W' S' SK' (HOK.out i) (HF.out (T + i))
      have hst2 := HRS.out i
      have hsi := IntWalk.i64_in ((T : Int) + (i : Int)) (by omega)
      have hsn : (((T + i : Nat)) : Int) = (T : Int) + (i : Int) := by simp
      rw [hsn] at hrl
      change ∀ W' S', Calls _ _ _ _ (fun e w' => e = .returned (.agg #[.int .i64 (rlAt nr r (T + i)).1, .int .i64 (rlAt nr r (T + i)).2]) ∧ _) at hrl
      rw [show ((rlAt nr r (T + i)).1, (rlAt nr r (T + i)).2) = rlAt nr r (T + i) from rfl, ← hst2] at hst
      generalize rlAt nr r (T + i) = q at *
      clear hst2 hsn
      have hsz6 := X2.lt
      have hss6 := X4.lt
      refine wp_region_S (fun X => Below W6.heap.size W6 X) 8 (by kernel_rfl) ?_
      refine anyS_take (i := 0) rfl (by kernel_rfl) (fun _ _ _ h => h) (Or.inl ⟨by rfl, fun Y hYb => (by (try dsimp only at hYb); go_simp; rfl)⟩) (by repeat' (first | with_reducible assumption | with_reducible exact Below.refl _ _ | with_reducible refine Below.drew ?_ | with_reducible refine below_drewN ?_ _)) ?_
      refine anyS_take (i := 1) rfl (by kernel_rfl) (fun _ _ _ h => h) (Or.inl ⟨by rfl, fun Y hYb => (by (try dsimp only at hYb); go_simp; rfl)⟩) (by repeat' (first | with_reducible assumption | with_reducible exact Below.refl _ _ | with_reducible refine Below.drew ?_ | with_reducible refine below_drewN ?_ _)) ?_
      refine anyS_take (i := 2) rfl (by kernel_rfl) (fun _ _ _ h => h) (Or.inl ⟨by rfl, fun Y hYb => (by (try dsimp only at hYb); go_simp; rfl)⟩) (by repeat' (first | with_reducible assumption | with_reducible exact Below.refl _ _ | with_reducible refine Below.drew ?_ | with_reducible refine below_drewN ?_ _)) ?_
      refine anyS_take (i := 3) rfl (by kernel_rfl) (fun _ _ _ h => h) (Or.inl ⟨by rfl, fun Y hYb => (by (try dsimp only at hYb); go_simp; rfl)⟩) (by repeat' (first | with_reducible assumption | with_reducible exact Below.refl _ _ | with_reducible refine Below.drew ?_ | with_reducible refine below_drewN ?_ _)) ?_
      refine anyS_take (i := 4) rfl (by kernel_rfl) (fun _ _ _ h => h) (Or.inl ⟨by rfl, fun Y hYb => (by (try dsimp only at hYb); go_simp; rfl)⟩) (by repeat' (first | with_reducible assumption | with_reducible exact Below.refl _ _ | with_reducible refine Below.drew ?_ | with_reducible refine below_drewN ?_ _)) ?_
      refine anyS_take (i := 5) rfl (by kernel_rfl) (fun _ _ _ h => h) (Or.inl ⟨by rfl, fun Y hYb => (by (try dsimp only at hYb); go_simp; rfl)⟩) (by repeat' (first | with_reducible assumption | with_reducible exact Below.refl _ _ | with_reducible refine Below.drew ?_ | with_reducible refine below_drewN ?_ _)) ?_
      refine anyS_one (i := 6) (by kernel_rfl) rfl (by rfl) (fun K hK => ?_)
      go_simp
      refine (hrl _ ((SR.below hB).below (Below.refl _ W6).drew)).mono ?_
      rintro e w3 ⟨rfl, hb3⟩
      dsimp only
      have hS3 : Below W6.heap.size W6 w3 := bvia (Below.refl _ W6).drew hb3
      refine hK _ _ (fun _ _ => hS3) ?_
      clear hK K
      refine anyS_one (i := 7) (by kernel_rfl) rfl (by rfl) (fun K hK => ?_)
      go_simp
      refine (hst _ _ _ (Yg.below hS3) ((SK.below hB).below hS3)).mono ?_
      rintro e w4 ⟨b', cap', rfl, hb', R', hcap', hb4⟩
      dsimp only
      have hS4 : Below W6.heap.size W6 w4 := bvia hS3 hb4
      have hs4 := hS3.size
      refine hK _ _ (fun _ _ => hS4) ?_
      clear hK
      replace X0 := X0.below hS4; replace X1 := X1.below hS4; replace X2 := X2.below hS4; replace X4 := X4.below hS4
      replace hB := bvia hB hS4
      have X0_0 := X0.at_ 0 rfl
      have X0_1 := X0.at_ 1 rfl
      have X0_2 := X0.at_ 2 rfl
      have X0f := X0.free
      have X0z := X0.lt
      clear r0 r1 r2 r3 r4 Yg
      refine anyS_one (i := 8) (by kernel_rfl) rfl (by rfl) (fun K hK => ?_)
      go_simp
      refine hK _ _ (fun h _ => absurd h (by decide)) ?_
      clear hK K
      refine anyS_done (by kernel_rfl) ?_ _
      clear X0_0 X0_1 X0_2 X0f X0z
      replace X1 := (((X1.far (p := ⟨w.heap.size, 0, none⟩) (by first | (simp; done) | (simp; omega) | (dsimp only; omega)) (.int .i64 (W : Int))).far (p := ⟨w.heap.size, 1, none⟩) (by first | (simp; done) | (simp; omega) | (dsimp only; omega)) (.int .i64 (H : Int))).far (p := ⟨w.heap.size, 2, none⟩) (by first | (simp; done) | (simp; omega) | (dsimp only; omega)) (.slice (some ⟨b', 0, none⟩) n cap'))
      replace X2 := (((X2.far (p := ⟨w.heap.size, 0, none⟩) (by first | (simp; done) | (simp; omega) | (dsimp only; omega)) (.int .i64 (W : Int))).far (p := ⟨w.heap.size, 1, none⟩) (by first | (simp; done) | (simp; omega) | (dsimp only; omega)) (.int .i64 (H : Int))).far (p := ⟨w.heap.size, 2, none⟩) (by first | (simp; done) | (simp; omega) | (dsimp only; omega)) (.slice (some ⟨b', 0, none⟩) n cap'))
      replace X4 := (((X4.far (p := ⟨w.heap.size, 0, none⟩) (by first | (simp; done) | (simp; omega) | (dsimp only; omega)) (.int .i64 (W : Int))).far (p := ⟨w.heap.size, 1, none⟩) (by first | (simp; done) | (simp; omega) | (dsimp only; omega)) (.int .i64 (H : Int))).far (p := ⟨w.heap.size, 2, none⟩) (by first | (simp; done) | (simp; omega) | (dsimp only; omega)) (.slice (some ⟨b', 0, none⟩) n cap'))
      replace R' := (((R'.far (p := ⟨w.heap.size, 0, none⟩) (by first | (simp; done) | (simp; omega) | (dsimp only; omega)) (.int .i64 (W : Int))).far (p := ⟨w.heap.size, 1, none⟩) (by first | (simp; done) | (simp; omega) | (dsimp only; omega)) (.int .i64 (H : Int))).far (p := ⟨w.heap.size, 2, none⟩) (by first | (simp; done) | (simp; omega) | (dsimp only; omega)) (.slice (some ⟨b', 0, none⟩) n cap'))
      replace X0 : Bx _ (w.heap.size) #[.int .i64 (W : Int), .int .i64 (H : Int), .slice (some ⟨b', 0, none⟩) n cap'] := (((X0.set_ 0 (by simp) (.int .i64 (W : Int))).set_ 1 (by simp) (.int .i64 (H : Int))).set_ 2 (by simp) (.slice (some ⟨b', 0, none⟩) n cap'))
      replace hB := (bset (bset (bset hB (p := ⟨w.heap.size, 0, none⟩) (by first | exact Nat.le_refl _ | (simp; done) | (simp; omega)) (.int .i64 (W : Int))) (p := ⟨w.heap.size, 1, none⟩) (by first | exact Nat.le_refl _ | (simp; done) | (simp; omega)) (.int .i64 (H : Int))) (p := ⟨w.heap.size, 2, none⟩) (by first | exact Nat.le_refl _ | (simp; done) | (simp; omega)) (.slice (some ⟨b', 0, none⟩) n cap'))
      have X0_0 := X0.at_ 0 rfl
      have X0_1 := X0.at_ 1 rfl
      have X0_2 := X0.at_ 2 rfl
      have X0f := X0.free
      have X0z := X0.lt
      clear X0_0 X0_1 X0_2 X0f X0z
      go_wp2_with fail
      go_roundw
      case rel =>
        rw [← HE1.out, ← HN1.out] at X4
        refine ⟨i + 1, by omega, by go_num, ⟨some ⟨b', 0, none⟩, cap', X0, R'.sc, ?_⟩, X1, X2, X4, hB⟩
        intro b off e hn
        injection e with e
        injection e with e1 _ _
        omega
      case measure => simp [intOf]; omega
    · obtain rfl : i = M := (by omega)
      have X2_0 := X2.at_ 0 rfl
      have X2_1 := X2.at_ 1 rfl
      have X2f := X2.free
      have X2z := X2.lt
      have X4_0 := X4.at_ 0 rfl
      have X4_1 := X4.at_ 1 rfl
      have x4l := X4.lt
      have e1 : ¬ s = w.heap.size + 1 + 1 := by omega
      have e2 : ¬ w.heap.size + 1 + 1 = s := by omega
      go_wp2_with fail
      refine bodyPost_ret (v := .tuple #[.agg #[.int .i64 (dE i), .int .i64 (dN i)], .int .i64 0]) (by simp [results, Try.results56, go_sem, X2_0, X2_1]) rfl ⟨rfl, by (repeat' (first | with_reducible assumption | with_reducible exact Below.refl _ _ | with_reducible refine Below.drew ?_ | with_reducible refine below_drewN ?_ _ | with_reducible refine balloc ?_ _ | with_reducible refine bset ?_ ?_ _ | with_reducible refine Below.setCell ?_ ?_ _ | with_reducible refine Below.alloc ?_ ?_ _ | omega | (simp; done) | (simp; omega)))⟩
end Go.Proofs.Ytnnaegnkkpknpaa
