/- Walks: reading a wall: the program's Parse. -/
import Derived.Test.YthlbmlfkmfheiaaPrsPlain
import Derived.Test.YthlbmlfkmfheiaaStrWords
import Derived.Test.YthlbmlfkmfheiaaSeqTwo
import Derived.Deep.AppendLies
namespace Go.Proofs.Ythlbmlfkmfheiaa
open Go Go.RowKit
set_option linter.unusedVariables false
/-- two lists of ints in the two cells of a box -/
structure TW (base bw : Nat) (KL BL : List Int) (v1 v2 : Value) (wr : World) : Prop where
  box : Bx wr bw #[v1, v2]
  k : wr.ownsRow base 3 1 v1 KL.length (KL.map vInt)
  b : wr.ownsRow base 3 1 v2 BL.length (BL.map vInt)
  ne : ∀ g, v1.ownBlock = some g → v2.ownBlock ≠ some g
  lt : bw < base
theorem own_far {w : World} {base : Nat} {e : TypeId} {size n : Nat} {v : Value} {xs : List Value} (h : w.ownsRow base e size v n xs) {p : Addr} (hp : ∀ g, v.ownBlock = some g → g ≠ p.block) (u : Value) : (w.setCell p u).ownsRow base e size v n xs := by
  refine ⟨h.1, h.2.imp id ?_⟩
  rintro ⟨g, cap, cur, rfl, h2, h3, h4⟩
  refine ⟨g, cap, cur, rfl, h2, ?_, h4⟩
  rw [Below.heap_setCell w p u g (hp g rfl)]
  exact h3
theorem news1 {w : World} {b : Nat} {x : Value} (h : w.cell? ⟨b, 0, none⟩ = some x) : ∀ j u, [x][j]? = some u → w.cell? ((⟨b, 0, none⟩ : Addr).add j) = some u := fun j u hu => by
  match j, hu with
  | 0, hu => simp at hu; subst hu; simpa [Addr.add] using h
theorem own_drew {w : World} {base : Nat} {e : TypeId} {size n : Nat} {v : Value} {xs : List Value} (h : w.ownsRow base e size v n xs) : w.drew.ownsRow base e size v n xs := h
theorem TW.below {base bw : Nat} {KL BL : List Int} {v1 v2 : Value} {wr w' : World} (h : TW base bw KL BL v1 v2 wr) (hb : Below wr.heap.size wr w') : TW base bw KL BL v1 v2 w' :=
  ⟨h.box.below hb, own_below h.k hb, own_below h.b hb, h.ne, h.lt⟩
def PrsPost (K B : List Int) (N E : Int) (w : World) (e : Ending) (w' : World) : Prop :=
  ∃ a c a2 c2, e = .returned (.tuple #[.agg #[.slice a K.length c, .slice a2 B.length c2], .int .i64 N, .int .i64 E]) ∧ Sl w' a K.length (fun k => K.getD k 0) ∧ Sl w' a2 B.length (fun k => B.getD k 0) ∧ Below w.heap.size w w'
theorem prsPost_bad {K B : List Int} {N E : Int} {w w' : World} (h1 : K = []) (h2 : B = []) (hb : Below w.heap.size w w') : PrsPost K B N E w (.returned (.tuple #[.agg #[.slice none 0 0, .slice none 0 0], .int .i64 N, .int .i64 E])) w' := by
  subst h1 h2
  exact ⟨none, 0, none, 0, rfl, fun k hk => absurd hk (by simp), fun k hk => absurd hk (by simp), hb⟩
theorem prs_inv (W H : Nat) (l : List UInt8) : prsE false W H l = 1 ∧ prsN false W H l = 0 ∧ prsK false W H l = [] ∧ prsL false W H l = [] := by
  have e : prsE false W H l = 1 := rfl
  refine ⟨e, ?_, ?_, ?_⟩
  · simp [prsN, e]
  · simp [prsK, e]
  · simp [prsL, e]
theorem prs_long {W H : Nat} {l : List UInt8} (h : 65536 < l.length) : prsE true W H l = 3 ∧ prsN true W H l = 0 ∧ prsK true W H l = [] ∧ prsL true W H l = [] := by
  have e : prsE true W H l = 3 := by simp [prsE, h]
  refine ⟨e, ?_, ?_, ?_⟩
  · simp [prsN, e]
  · simp [prsK, e]
  · simp [prsL, e]
set_option maxRecDepth 100000 in
set_option maxHeartbeats 4000000 in
theorem wall_Parse (wide high : Int) (a : Option Addr) (n c : Nat) (g : Nat → C4) (l : List UInt8) (w : World) (hn : n ≤ 100000) (S : Sc w a n g) : Calls Try.prog 10 #[.agg #[.int .i64 wide, .int .i64 high, .slice a n c], .string ⟨l.toArray⟩] w (PrsPost (prsK (validG wide high n g) wide.toNat high.toNat l) (prsL (validG wide high n g) wide.toNat high.toNat l) (prsN (validG wide high n g) wide.toNat high.toNat l) (prsE (validG wide high n g) wide.toNat high.toNat l) w) := by
  obtain ⟨i0, hi, hz0, hz1, hz2⟩ := info_parts infoI
  have hval := fun W' S' => grid_valid wide high a n c g W' (by omega) S'
  cases hv : validG wide high n g
  · rw [hv] at hval
    obtain ⟨q1, q2, q3, q4⟩ := (prs_inv wide.toNat high.toNat l)
    rw [q1, q2, q3, q4]
    clear q1 q2 q3 q4
    have X0 := (Bx.new w #[.int .i64 wide, .int .i64 high, .slice a n c] 24).alloc (.cells #[.slice none 0 0, .slice none 0 0] 27)
    have X1 := Bx.new (w.alloc (.cells #[.int .i64 wide, .int .i64 high, .slice a n c] 24)) #[.slice none 0 0, .slice none 0 0] 27
    simp only [World.size_alloc] at X1
    have hB0 : Below w.heap.size w ((w.alloc (.cells #[.int .i64 wide, .int .i64 high, .slice a n c] 24)).alloc (.cells #[.slice none 0 0, .slice none 0 0] 27)) := by (repeat' (first | with_reducible assumption | with_reducible exact Below.refl _ _ | with_reducible refine Below.drew ?_ | with_reducible refine below_drewN ?_ _ | with_reducible refine balloc ?_ _ | with_reducible refine bset ?_ ?_ _ | with_reducible refine Below.setCell ?_ ?_ _ | with_reducible refine Below.alloc ?_ ?_ _ | omega | (simp; done) | (simp; omega)))
    go_enter Try.func10, Try.ntmps10
    go_wp2_with fail
    generalize ((w.alloc (.cells #[.int .i64 wide, .int .i64 high, .slice a n c] 24)).alloc (.cells #[.slice none 0 0, .slice none 0 0] 27)) = W0 at X0 X1 hB0 ⊢
    have z0 := X0.lt
    have z1 := X1.lt
    refine (hval _ (S.below hB0)).mono ?_
    rintro e w1 ⟨rfl, hb1⟩
    have hB := bvia hB0 hb1
    replace X1 := X1.below hb1
    have x10 := X1.at_ 0 rfl; have x11 := X1.at_ 1 rfl; have x1f := X1.free; have x1z := X1.lt
    go_wp2_with fail
    refine bodyPost_ret (v := .tuple #[.agg #[.slice none 0 0, .slice none 0 0], .int .i64 0, .int .i64 1]) (by simp [results, Try.results10, go_sem, x10, x11]) rfl (prsPost_bad rfl rfl (by (repeat' (first | with_reducible assumption | with_reducible exact Below.refl _ _ | with_reducible refine Below.drew ?_ | with_reducible refine below_drewN ?_ _ | with_reducible refine balloc ?_ _ | with_reducible refine bset ?_ ?_ _ | with_reducible refine Below.setCell ?_ ?_ _ | with_reducible refine Below.alloc ?_ ?_ _ | omega | (simp; done) | (simp; omega)))))
  rw [hv] at hval
  have hsz := vStr_size l
  by_cases hlong : 65536 < l.length
  · skip
    obtain ⟨q1, q2, q3, q4⟩ := (prs_long (W := wide.toNat) (H := high.toNat) hlong)
    rw [q1, q2, q3, q4]
    clear q1 q2 q3 q4
    have X0 := (Bx.new w #[.int .i64 wide, .int .i64 high, .slice a n c] 24).alloc (.cells #[.slice none 0 0, .slice none 0 0] 27)
    have X1 := Bx.new (w.alloc (.cells #[.int .i64 wide, .int .i64 high, .slice a n c] 24)) #[.slice none 0 0, .slice none 0 0] 27
    simp only [World.size_alloc] at X1
    have hB0 : Below w.heap.size w ((w.alloc (.cells #[.int .i64 wide, .int .i64 high, .slice a n c] 24)).alloc (.cells #[.slice none 0 0, .slice none 0 0] 27)) := by (repeat' (first | with_reducible assumption | with_reducible exact Below.refl _ _ | with_reducible refine Below.drew ?_ | with_reducible refine below_drewN ?_ _ | with_reducible refine balloc ?_ _ | with_reducible refine bset ?_ ?_ _ | with_reducible refine Below.setCell ?_ ?_ _ | with_reducible refine Below.alloc ?_ ?_ _ | omega | (simp; done) | (simp; omega)))
    go_enter Try.func10, Try.ntmps10
    go_wp2_with fail
    generalize ((w.alloc (.cells #[.int .i64 wide, .int .i64 high, .slice a n c] 24)).alloc (.cells #[.slice none 0 0, .slice none 0 0] 27)) = W0 at X0 X1 hB0 ⊢
    have z0 := X0.lt
    have z1 := X1.lt
    refine (hval _ (S.below hB0)).mono ?_
    rintro e w1 ⟨rfl, hb1⟩
    have hB := bvia hB0 hb1
    replace X1 := X1.below hb1
    have x10 := X1.at_ 0 rfl; have x11 := X1.at_ 1 rfl; have x1f := X1.free; have x1z := X1.lt
    go_wp2_with fail
    refine bodyPost_ret (v := .tuple #[.agg #[.slice none 0 0, .slice none 0 0], .int .i64 0, .int .i64 3]) (by simp [results, Try.results10, go_sem, x10, x11]) rfl (prsPost_bad rfl rfl (by (repeat' (first | with_reducible assumption | with_reducible exact Below.refl _ _ | with_reducible refine Below.drew ?_ | with_reducible refine below_drewN ?_ _ | with_reducible refine balloc ?_ _ | with_reducible refine bset ?_ ?_ _ | with_reducible refine Below.setCell ?_ ?_ _ | with_reducible refine Below.alloc ?_ ?_ _ | omega | (simp; done) | (simp; omega)))))
  obtain ⟨g1, g2, g3, g4, g5, g6, g7, g8⟩ := (validG_iff _ _ _ _).1 hv
  obtain ⟨W, rfl⟩ : ∃ W : Nat, wide = W := ⟨wide.toNat, by omega⟩
  obtain ⟨H, rfl⟩ : ∃ H : Nat, high = H := ⟨high.toNat, by omega⟩
  simp only [Int.toNat_natCast]
  have HLN := hid hlong
  have hWn : W ≤ 64 := by omega
  have hHn : H ≤ 64 := by omega
  have hW1 : 1 ≤ W := by omega
  clear g1 g2 g3 g4 g5 g6 g7 g8 hv
  have X0 := (Bx.new w #[.int .i64 (W : Int), .int .i64 (H : Int), .slice a n c] 24).alloc (.cells #[.slice none 0 0, .slice none 0 0] 27)
  have X1 := Bx.new (w.alloc (.cells #[.int .i64 (W : Int), .int .i64 (H : Int), .slice a n c] 24)) #[.slice none 0 0, .slice none 0 0] 27
  simp only [World.size_alloc] at X1
  have hB0 : Below w.heap.size w ((w.alloc (.cells #[.int .i64 (W : Int), .int .i64 (H : Int), .slice a n c] 24)).alloc (.cells #[.slice none 0 0, .slice none 0 0] 27)) := by (repeat' (first | with_reducible assumption | with_reducible exact Below.refl _ _ | with_reducible refine Below.drew ?_ | with_reducible refine below_drewN ?_ _ | with_reducible refine balloc ?_ _ | with_reducible refine bset ?_ ?_ _ | with_reducible refine Below.setCell ?_ ?_ _ | with_reducible refine Below.alloc ?_ ?_ _ | omega | (simp; done) | (simp; omega)))
  go_enter Try.func10, Try.ntmps10
  go_wp2_with fail
  generalize ((w.alloc (.cells #[.int .i64 (W : Int), .int .i64 (H : Int), .slice a n c] 24)).alloc (.cells #[.slice none 0 0, .slice none 0 0] 27)) = W0 at X0 X1 hB0 ⊢
  have z0 := X0.lt
  have z1 := X1.lt
  refine (hval _ (S.below hB0)).mono ?_
  rintro e w1 ⟨rfl, hb1⟩
  have hB := bvia hB0 hb1
  replace X0 := X0.below hb1
  replace X1 := X1.below hb1
  have x0 := X0.at_ 1 rfl
  go_wp2_with fail
  clear x0 z0 z1 hB0 hb1
  have hws0 : wordsL 10 l = (wordsL 10 l).drop 0 := rfl
  have hk0 : kTo (wordsL 10 l) 0 = [] := rfl
  have hb0 : bTo (wordsL 10 l) 0 = [] := rfl
  have hkl := fun k hk hg => kTo_len (W := W) (H := H) (ws := wordsL 10 l) k hk hg
  have HKL := hid hkl
  clear hkl
  have T0 : TW (w.heap.size + 1 + 1) (w.heap.size + 1) (kTo (wordsL 10 l) 0) (bTo (wordsL 10 l) 0) (.slice none 0 0) (.slice none 0 0) w1 :=
    ⟨X1, World.ownsRow_nil .., World.ownsRow_nil .., (fun g hg => by cases hg), by omega⟩
  clear X1 hk0 hb0
  go_loopw [1, 27] (fun s1 s27 wr => ∃ (k : Nat) (r : List UInt8) (v1 v2 : Value), k ≤ H ∧ s27 = .int .i64 (k : Int) ∧ s1 = .string ⟨r.toArray⟩ ∧ wordsL 10 r = (wordsL 10 l).drop k ∧ r.length ≤ 65536 ∧ (∀ i, i < k → goodB W H (wordsL 10 l) i = true) ∧
    TW (w.heap.size + 1 + 1) (w.heap.size + 1) (kTo (wordsL 10 l) k) (bTo (wordsL 10 l) k) v1 v2 wr ∧ Bx wr w.heap.size #[.int .i64 (W : Int), .int .i64 (H : Int), .slice a n c] ∧ Below w.heap.size w wr) (fun _ s27 _ => H - (intOf s27).toNat)
  case atStart => exact ⟨0, l, _, _, Nat.zero_le _, rfl, rfl, hws0, by omega, fun i hi => by omega, T0, X0, hB⟩
  case round =>
    clear T0 X0 hB hws0
    obtain ⟨k, r, v1, v2, hk, rfl, rfl, hwr, hrl, hgood, TWo, XG, hB⟩ := hrel
    have hne := wordsL_ne 10 r
    have hkw : k < (wordsL 10 l).length := by
      rcases Nat.lt_or_ge k (wordsL 10 l).length with h | h
      · exact h
      · rw [hwr, List.drop_eq_nil_of_le h] at hne; exact absurd rfl hne
    have hwk : (wordsL 10 r).headD [] = (wordsL 10 l).getD k [] := by
      rw [hwr, List.getD_eq_getElem?_getD, ← List.head?_drop]; cases (wordsL 10 l).drop k <;> rfl
    have HG := hid hgood; have HWR := hid hwr; have HKW := hid hkw; have HWK := hid hwk
    clear hgood hwr hkw hwk hne
    by_cases hlt : k < H
    · rcases words_cases 10 r with hno | ⟨p, t, rfl, hno⟩
      · have hcut := fun W' => strings_cut_no r 10 W' hno
        have hwl : (wordsL 10 l).length = k + 1 := by
          have h := congrArg List.length HWR.out
          rw [words_none hno, List.length_drop] at h
          have := HKW.out
          simp at h; omega
        have hbad := prs_bad (W := W) (H := H) hlong (badN_is (j := k) (by omega) HG.out (fun h => by omega)) (prsB_no (.inr (.inl (by omega))))
        obtain ⟨q1, q2, q3, q4⟩ := hbad
        have Q1 := hid q1; have Q2 := hid q2; have Q3 := hid q3; have Q4 := hid q4
        clear q1 q2 q3 q4
        have x0 := XG.at_ 0 rfl
        go_wp2_with fail
        refine (hcut _).mono ?_
        rintro e w2 ⟨rfl, hb2⟩
        replace TWo := TWo.below hb2
        replace hB := bvia hB hb2
        have x10 := TWo.box.at_ 0 rfl; have x11 := TWo.box.at_ 1 rfl; have x1f := TWo.box.free
        go_wp2_with fail
        rw [Q1.out, Q2.out]
        refine bodyPost_ret (v := .tuple #[.agg #[.slice none 0 0, .slice none 0 0], .int .i64 (k : Int), .int .i64 2]) (by simp [results, Try.results10, go_sem, x10, x11]) rfl (prsPost_bad Q3.out Q4.out (by (repeat' (first | with_reducible assumption | with_reducible exact Below.refl _ _ | with_reducible refine Below.drew ?_ | with_reducible refine below_drewN ?_ _ | with_reducible refine balloc ?_ _ | with_reducible refine bset ?_ ?_ _ | with_reducible refine Below.setCell ?_ ?_ _ | with_reducible refine Below.alloc ?_ ?_ _ | omega | (simp; done) | (simp; omega)))))
      · have hcut := fun W' => strings_cut_yes p t 10 W' hno (by omega)
        have hwp := words_mark (t := t) hno
        have hpk : (wordsL 10 l).getD k [] = p := by rw [← HWK.out, hwp]; rfl
        have hwt : wordsL 10 t = (wordsL 10 l).drop (k + 1) := by
          have h := HWR.out
          rw [hwp] at h
          rw [← List.drop_drop, ← h]; rfl
        have hkm : k + 1 < (wordsL 10 l).length := by
          rcases Nat.lt_or_ge (k + 1) (wordsL 10 l).length with h | h
          · exact h
          · rw [List.drop_eq_nil_of_le h] at hwt; exact absurd hwt (wordsL_ne 10 t)
        have HPK := hid hpk; have HWT := hid hwt; have HKM := hid hkm
        clear hwp hpk hwt hkm HWK
        have hlen : (p ++ 10 :: t).length = p.length + 1 + t.length := by simp; omega
        rw [hlen] at hrl
        clear hlen
        have x0 := XG.at_ 0 rfl
        have hszp := vStr_size p
        generalize p ++ 10 :: t = r at *
        by_cases hpl : p.length = W
        rotate_left
        · have hgk : goodB W H (wordsL 10 l) k = false := by
            cases h : goodB W H (wordsL 10 l) k
            · rfl
            · have := (good_iff.1 h).2.1; rw [HPK.out] at this; exact absurd this hpl
          have hbn := badN_is (W := W) (H := H) (ws := wordsL 10 l) (j := k) (by have := HKM.out; omega) HG.out (fun _ => hgk)
          have hpn := prsB_no (W := W) (H := H) (ws := wordsL 10 l) (.inl (by rw [hbn]; have := HKM.out; omega))
          have hbad := prs_bad (W := W) (H := H) hlong hbn hpn
          obtain ⟨q1, q2, q3, q4⟩ := hbad
          have Q1 := hid q1; have Q2 := hid q2; have Q3 := hid q3; have Q4 := hid q4
          clear q1 q2 q3 q4
          clear hgk hbn hpn
          have hpb : ((p.length : Int) == (W : Int)) = false := by rw [beq_eq_false_iff_ne]; omega
          have hpb2 : ((p.length : Int) != (W : Int)) = true := by simp; omega
          clear hpl
          go_wp2_with fail
          refine (hcut _).mono ?_
          rintro e w2 ⟨rfl, hb2⟩
          replace TWo := TWo.below hb2
          replace hB := bvia hB hb2
          have x0' := (XG.below hb2).at_ 0 rfl
          have x10 := TWo.box.at_ 0 rfl; have x11 := TWo.box.at_ 1 rfl; have x1f := TWo.box.free
          go_wp2_with fail
          rw [Q1.out, Q2.out]
          refine bodyPost_ret (v := .tuple #[.agg #[.slice none 0 0, .slice none 0 0], .int .i64 (k : Int), .int .i64 2]) (by simp [results, Try.results10, go_sem, x10, x11]) rfl (prsPost_bad Q3.out Q4.out (by (repeat' (first | with_reducible assumption | with_reducible exact Below.refl _ _ | with_reducible refine Below.drew ?_ | with_reducible refine below_drewN ?_ _ | with_reducible refine balloc ?_ _ | with_reducible refine bset ?_ ?_ _ | with_reducible refine Below.setCell ?_ ?_ _ | with_reducible refine Below.alloc ?_ ?_ _ | omega | (simp; done) | (simp; omega)))))
        · subst hpl
          have hkb := HKL.out k (Nat.le_of_lt HKW.out) HG.out
          have hkW : k * p.length ≤ 64 * 64 := Nat.mul_le_mul (by omega) hWn
          go_wp2_with fail
          refine (hcut _).mono ?_
          rintro e w2 ⟨rfl, hb2⟩
          replace TWo := TWo.below hb2
          replace hB := bvia hB hb2
          replace XG := XG.below hb2
          have x0' := XG.at_ 0 rfl
          clear x0
          go_wp2_with fail
          clear x0'
          rw [show kTo (wordsL 10 l) k = kTo (wordsL 10 l) k ++ kL (p.take 0) from by simp [kL], show bTo (wordsL 10 l) k = bTo (wordsL 10 l) k ++ bL (p.take 0) from by simp [bL]] at TWo
          go_loopw [49] (fun s49 wr => ∃ (i : Nat) (v1 v2 : Value), i ≤ p.length ∧ s49 = .int .i64 (i : Int) ∧ (∀ j, j < i → rdO (p.getD j 0).toNat = true) ∧
            TW (w.heap.size + 1 + 1) (w.heap.size + 1) (kTo (wordsL 10 l) k ++ kL (p.take i)) (bTo (wordsL 10 l) k ++ bL (p.take i)) v1 v2 wr ∧ Bx wr w.heap.size #[.int .i64 (p.length : Int), .int .i64 (H : Int), .slice a n c] ∧ Below w.heap.size w wr) (fun s49 _ => p.length - (intOf s49).toNat)
          case atStart => exact ⟨0, v1, v2, Nat.zero_le _, rfl, fun j hj => by omega, TWo, XG, hB⟩
          case round =>
            clear TWo XG hB
            obtain ⟨i, v1, v2, hi2, rfl, hoki, TWo, XG, hB⟩ := hrel
            have HOKI := hid hoki; clear hoki
            by_cases hil : i < p.length
            · have hat := fun W' => str_at p i hil W'
              have hc256 := UInt8.toNat_lt (p.getD i 0)
              have hrd := fun W' => wall_read (p.getD i 0).toNat W' hc256
              have hkt := kL_take hil
              have hbt := bL_take hil
              have HKT := hid hkt; have HBT := hid hbt
              have i1 : (0 : Int) ≤ (i : Int) := by omega
              have i2 : (i : Int) < (p.length : Int) := by omega
              clear hkt hbt
              cases hco : rdO (p.getD i 0).toNat
              · rw [hco] at hrd
                have hgk : goodB p.length H (wordsL 10 l) k = false := by
                  cases h : goodB p.length H (wordsL 10 l) k
                  · rfl
                  · have := (good_iff.1 h).2.2
                    rw [HPK.out] at this
                    have := okL_at.1 this i hil
                    rw [hco] at this; cases this
                have hbn := badN_is (W := p.length) (H := H) (ws := wordsL 10 l) (j := k) (by have := HKM.out; omega) HG.out (fun _ => hgk)
                have hpn := prsB_no (W := p.length) (H := H) (ws := wordsL 10 l) (.inl (by rw [hbn]; have := HKM.out; omega))
                have hbad := prs_bad (W := p.length) (H := H) HLN.out hbn hpn
                obtain ⟨q1, q2, q3, q4⟩ := hbad
                have Q1 := hid q1; have Q2 := hid q2; have Q3 := hid q3; have Q4 := hid q4
                clear q1 q2 q3 q4 hgk hbn hpn hco
                generalize p.getD i 0 = ch at *
                have x10 := TWo.box.at_ 0 rfl; have x11 := TWo.box.at_ 1 rfl; have x1f := TWo.box.free
                go_wp2_with fail
                refine (hrd _).mono ?_
                rintro e w3 ⟨rfl, rfl⟩
                go_wp2_with fail
                rw [Q1.out, Q2.out]
                refine bodyPost_ret (v := .tuple #[.agg #[.slice none 0 0, .slice none 0 0], .int .i64 (k : Int), .int .i64 2]) (by simp [results, Try.results10, go_sem, x10, x11]) rfl (prsPost_bad Q3.out Q4.out (by (repeat' (first | with_reducible assumption | with_reducible exact Below.refl _ _ | with_reducible refine Below.drew ?_ | with_reducible refine below_drewN ?_ _ | with_reducible refine balloc ?_ _ | with_reducible refine bset ?_ ?_ _ | with_reducible refine Below.setCell ?_ ?_ _ | with_reducible refine Below.alloc ?_ ?_ _ | omega | (simp; done) | (simp; omega)))))
              · rw [hco] at hrd
                have HCO := hid hco; clear hco
                have hkn : (kTo (wordsL 10 l) k ++ kL (p.take i)).length ≤ 10000 := by rw [List.length_append, hkb.1]; simp [kL]; omega
                have hbn : (bTo (wordsL 10 l) k ++ bL (p.take i)).length ≤ 10000 := by rw [List.length_append, hkb.2]; simp [bL]; omega
                generalize hch : p.getD i 0 = ch at *
                have HCH := hid hch; clear hch
                obtain ⟨KX, hKX⟩ : ∃ KX, KX = kTo (wordsL 10 l) k ++ kL (p.take i) := ⟨_, rfl⟩
                obtain ⟨BX, hBX⟩ : ∃ BX, BX = bTo (wordsL 10 l) k ++ bL (p.take i) := ⟨_, rfl⟩
                rw [← hKX, ← hBX] at TWo
                rw [← hKX] at hkn
                rw [← hBX] at hbn
                have HKX := hid hKX; have HBX := hid hBX
                clear hKX hBX
                go_wp2_with fail
                refine (hrd _).mono ?_
                rintro e w3 ⟨rfl, rfl⟩
                go_upto_region 17 with (fail)
                obtain ⟨wo, rfl⟩ : ∃ wo : World, wo = wr := ⟨_, rfl⟩
                have hbox := TWo.box.lt
                refine wp_region_S (fun Y => Y.cell? ⟨w.heap.size + 1, 0, none⟩ = some v1 ∧ Y.cell? ⟨w.heap.size + 1, 1, none⟩ = some v2) 11 (by kernel_rfl) ?_
                have hS0 : wo.drew.cell? ⟨w.heap.size + 1, 0, none⟩ = some v1 ∧ wo.drew.cell? ⟨w.heap.size + 1, 1, none⟩ = some v2 := ⟨TWo.box.at_ 0 rfl, TWo.box.at_ 1 rfl⟩
                refine anyS_pure (i := 0) rfl (by kernel_rfl) (fun _ _ _ h => h) (Or.inl ⟨by rfl, fun Y hYb => (by clear hYb; go_simp; rfl)⟩) ?_
                refine anyS_pure (i := 2) rfl (by kernel_rfl) (fun _ _ _ h => h) (Or.inl ⟨by rfl, fun Y hYb => (by clear hYb; go_simp; rfl)⟩) ?_
                refine anyS_pure (i := 5) rfl (by kernel_rfl) (fun _ _ _ h => h) (Or.inl ⟨by rfl, fun Y hYb => (by clear hYb; go_simp; rfl)⟩) ?_
                refine anyS_pure (i := 7) rfl (by kernel_rfl) (fun _ _ _ h => h) (Or.inl ⟨by rfl, fun Y hYb => (by clear hYb; go_simp; rfl)⟩) ?_
                refine anyS_take (i := 1) rfl (by kernel_rfl) (fun _ _ _ h => h) (Or.inl ⟨by rfl, fun Y hYb => (by (try dsimp only at hYb); obtain ⟨y0, y1⟩ := hYb; go_simp; rfl)⟩) (by assumption) ?_
                refine anyS_take (i := 6) rfl (by kernel_rfl) (fun _ _ _ h => h) (Or.inl ⟨by rfl, fun Y hYb => (by (try dsimp only at hYb); obtain ⟨y0, y1⟩ := hYb; go_simp; rfl)⟩) (by assumption) ?_
                refine anyS_two (i := 3) (j := 8) (by kernel_rfl) rfl rfl (by rfl) (by rfl) (fun KK hK => ?_) (fun KK hK => ?_)
                · go_simp
                  have hS3 : (wo.alloc (.cells #[.int .i64 (rdK ch.toNat)] 3)).drew.cell? ⟨w.heap.size + 1, 0, none⟩ = some v1 ∧ (wo.alloc (.cells #[.int .i64 (rdK ch.toNat)] 3)).drew.cell? ⟨w.heap.size + 1, 1, none⟩ = some v2 := ⟨(TWo.box.alloc _).drew.at_ 0 rfl, (TWo.box.alloc _).drew.at_ 1 rfl⟩
                  refine hK _ _ (fun _ _ => hS3) ?_
                  clear hK KK
                  refine anyS_two (i := 4) (j := 8) (by kernel_rfl) rfl rfl (by rfl) (by rfl) (fun KK hK => ?_) (fun KK hK => ?_)
                  · have c3 : (wo.alloc (.cells #[.int .i64 (rdK ch.toNat)] 3)).drew.cell? ⟨wo.heap.size, 0, none⟩ = some (.int .i64 (rdK ch.toNat)) := cell_new _ _ _ 0 _ rfl
                    refine wp_append_lies _ _ _ 25 rfl (w.heap.size + 1 + 1) 3 i0 (.int .i64 0) 1 8 Try.underlying25 hi hz0 hz1 hz2 rfl (by decide) v1 _ _ rfl (own_drew (TWo.k.alloc (.cells #[.int .i64 (rdK ch.toNat)] 3))) ⟨wo.heap.size, 0, none⟩ 1 1 [.int .i64 (rdK ch.toNat)] rfl rfl (news1 c3) (by simp [Value.oneCell']) (by omega) (by unfold maxLen; omega) (by omega) (by first | omega | (simp; omega)) _ rfl ?_
                    intro g1 cap1 w4 hown4 hgr4 hat4 hlt4
                    have hszW : wo.heap.size < ((wo.alloc (.cells #[.int .i64 (rdK ch.toNat)] 3)).drew).heap.size := by simp only [World.size_drew, World.size_alloc]; omega
                    have hneg1 : v2.ownBlock ≠ some g1 := fun e => by
                      rcases hat4 with h | h
                      · exact TWo.ne g1 h e
                      · have := own_lt TWo.b g1 e; omega
                    have hbn1 : ∀ q, q < w.heap.size + 1 + 1 → some q ≠ v1.ownBlock := fun q hq e => by have := own_base TWo.k q e.symm; omega
                    have hg1b : w.heap.size + 1 + 1 ≤ g1 := by
                      rcases hat4 with h | h
                      · exact own_base TWo.k g1 h
                      · omega
                    have X4 := Bx.grown ((TWo.box.alloc (.cells #[.int .i64 (rdK ch.toNat)] 3)).drew) hgr4 (hbn1 _ (by omega))
                    have XG4 := Bx.grown ((XG.alloc (.cells #[.int .i64 (rdK ch.toNat)] 3)).drew) hgr4 (hbn1 _ (by omega))
                    have hownb4 := own_grown (own_drew (TWo.b.alloc (.cells #[.int .i64 (rdK ch.toNat)] 3))) hgr4 (fun g hg e => TWo.ne g e.symm hg)
                    have hB4 := Below.grown ((balloc hB (.cells #[.int .i64 (rdK ch.toNat)] 3)).drew) hgr4 (by have := hB.size; first | (simp; done) | (simp; omega)) (fun g hg => Nat.le_trans (by omega) (own_base TWo.k g hg))
                    have hS4 : w4.cell? ⟨w.heap.size + 1, 0, none⟩ = some v1 ∧ w4.cell? ⟨w.heap.size + 1, 1, none⟩ = some v2 := ⟨X4.at_ 0 rfl, X4.at_ 1 rfl⟩
                    refine hK _ _ (fun _ _ => hS4) ?_
                    clear hK KK
                    refine anyS_pure (i := 10) rfl (by kernel_rfl) (fun _ _ _ h => h) (Or.inl ⟨by rfl, fun Y hYb => (by clear hYb; go_simp; rfl)⟩) ?_
                    refine anyS_one (i := 8) (by kernel_rfl) rfl (by rfl) (fun KK hK => ?_)
                    go_simp
                    have hS8 : (w4.alloc (.cells #[.int .i64 (rdB ch.toNat)] 3)).cell? ⟨w.heap.size + 1, 0, none⟩ = some v1 ∧ (w4.alloc (.cells #[.int .i64 (rdB ch.toNat)] 3)).cell? ⟨w.heap.size + 1, 1, none⟩ = some v2 := ⟨(X4.alloc _).at_ 0 rfl, (X4.alloc _).at_ 1 rfl⟩
                    refine hK _ _ (fun _ _ => hS8) ?_
                    clear hK KK
                    have c8 : (w4.alloc (.cells #[.int .i64 (rdB ch.toNat)] 3)).cell? ⟨w4.heap.size, 0, none⟩ = some (.int .i64 (rdB ch.toNat)) := cell_new _ _ _ 0 _ rfl
                    have Xx := X4.alloc (.cells #[.int .i64 (rdB ch.toNat)] 3)
                    have XGx := XG4.alloc (.cells #[.int .i64 (rdB ch.toNat)] 3)
                    have hownk := hown4.alloc (.cells #[.int .i64 (rdB ch.toNat)] 3)
                    have hownb := hownb4.alloc (.cells #[.int .i64 (rdB ch.toNat)] 3)
                    have hBx := balloc hB4 (.cells #[.int .i64 (rdB ch.toNat)] 3)
                    have hg1x : g1 < (w4.alloc (.cells #[.int .i64 (rdB ch.toNat)] 3)).heap.size := by simp; omega
                    clear hS8 hS4 hS3 hown4 hownb4 X4 XG4 hB4 c3
                    refine anyS_one (i := 9) (by kernel_rfl) rfl (by rfl) (fun KK hK => ?_)
                    refine wp_append_lies _ _ _ 25 rfl (w.heap.size + 1 + 1) 3 i0 (.int .i64 0) 1 8 Try.underlying25 hi hz0 hz1 hz2 rfl (by decide) v2 _ _ rfl hownb ⟨w4.heap.size, 0, none⟩ 1 1 [.int .i64 (rdB ch.toNat)] rfl rfl (news1 c8) (by simp [Value.oneCell']) (by omega) (by unfold maxLen; omega) (by omega) (by first | omega | (simp; omega)) _ rfl ?_
                    intro g2 cap2 w9 hown9 hgr9 hat9 hlt9
                    have hown1_9 := own_grown hownk hgr9 (fun g hg e => hneg1 (by rw [← e]; exact hg.symm))
                    have hbne : ∀ q, q < w.heap.size + 1 + 1 → some q ≠ v2.ownBlock := fun q hq e => by have := own_base hownb q e.symm; omega
                    have X9 := Xx.grown hgr9 (hbne _ (by omega))
                    have XG9 := XGx.grown hgr9 (hbne _ (by omega))
                    have hB9 := hBx.grown hgr9 hBx.size (fun g hg => Nat.le_trans (by omega) (own_base hownb g hg))
                    have hg12 : g1 ≠ g2 := fun e => by
                      rcases hat9 with h | h
                      · exact hneg1 (by rw [h, e])
                      · omega
                    have hgb2 : w.heap.size + 1 + 1 ≤ g2 := by
                      obtain ⟨g', c', hv, hb', _⟩ := hown9.form (by omega)
                      injection hv with hv; injection hv with hv; injection hv with hv; omega
                    have hS9 : w9.cell? ⟨w.heap.size + 1, 0, none⟩ = some v1 ∧ w9.cell? ⟨w.heap.size + 1, 1, none⟩ = some v2 := ⟨X9.at_ 0 rfl, X9.at_ 1 rfl⟩
                    refine hK _ _ (fun _ _ => hS9) ?_
                    clear hK KK
                    have x90 := X9.at_ 0 rfl; have x91 := X9.at_ 1 rfl; have x9f := X9.free; have x9z := X9.lt
                    refine anyS_one (i := 11) (by kernel_rfl) rfl (by rfl) (fun K hK => ?_)
                    go_simp
                    refine hK _ _ (fun h _ => absurd h (by decide)) ?_
                    clear hK K
                    refine anyS_pure (i := 12) rfl (by kernel_rfl) (fun _ _ _ h => h) (Or.inl ⟨by rfl, fun Y hYb => (by clear hYb; go_simp; rfl)⟩) ?_
                    refine anyS_one (i := 13) (by kernel_rfl) rfl (by rfl) (fun K hK => ?_)
                    go_simp
                    refine hK _ _ (fun h _ => absurd h (by decide)) ?_
                    clear hK K
                    refine anyS_done (by kernel_rfl) ?_ _
                    clear x90 x91 x9f x9z hS9
                    have hf : ∀ q, w.heap.size + 1 + 1 ≤ q → ∀ (n cap g : Nat), (Value.slice (some ⟨q, 0, none⟩) n cap).ownBlock = some g → g ≠ w.heap.size + 1 := fun q hq n cap g hg e => by
                      have h : q = g := by injection hg
                      omega
                    go_wp2_with fail
                    go_roundw
                    case rel => exact ⟨i + 1, _, _, by omega, by go_num, (fun j hj => by
                        rcases Nat.lt_succ_iff_lt_or_eq.1 hj with h | rfl
                        · exact HOKI.out j h
                        · rw [HCH.out]; exact HCO.out), ⟨(X9.set_ 0 (by simp) _).set_ 1 (by simp) _, (by
                          rw [HKT.out, ← List.append_assoc, ← HKX.out]
                          exact own_far (p := ⟨w.heap.size + 1, 1, none⟩) (own_far (p := ⟨w.heap.size + 1, 0, none⟩) (own_snoc hown1_9) (hf g1 hg1b _ _) _) (hf g1 hg1b _ _) _), (by
                          rw [HBT.out, ← List.append_assoc, ← HBX.out]
                          exact own_far (p := ⟨w.heap.size + 1, 1, none⟩) (own_far (p := ⟨w.heap.size + 1, 0, none⟩) (own_snoc hown9) (hf g2 hgb2 _ _) _) (hf g2 hgb2 _ _) _), (fun g hg e => by
                          have e1 : g1 = g := (by injection hg)
                          have e2 : g2 = g := (by injection e)
                          omega), by omega⟩, (XG9.far (by dsimp only; omega) _).far (by dsimp only; omega) _, bset (bset hB9 (by dsimp only; omega) _) (by dsimp only; omega) _⟩
                    case measure => simp [intOf]; omega
                  · go_simp
                    have hS5 : ((wo.alloc (.cells #[.int .i64 (rdK ch.toNat)] 3)).alloc (.cells #[.int .i64 (rdB ch.toNat)] 3)).drew.cell? ⟨w.heap.size + 1, 0, none⟩ = some v1 ∧ ((wo.alloc (.cells #[.int .i64 (rdK ch.toNat)] 3)).alloc (.cells #[.int .i64 (rdB ch.toNat)] 3)).drew.cell? ⟨w.heap.size + 1, 1, none⟩ = some v2 := ⟨((TWo.box.alloc _).alloc _).drew.at_ 0 rfl, ((TWo.box.alloc _).alloc _).drew.at_ 1 rfl⟩
                    refine hK _ _ (fun _ _ => hS5) ?_
                    clear hK KK
                    refine anyS_one (i := 4) (by kernel_rfl) rfl (by rfl) (fun KK hK => ?_)
                    have c3 : ((wo.alloc (.cells #[.int .i64 (rdK ch.toNat)] 3)).alloc (.cells #[.int .i64 (rdB ch.toNat)] 3)).drew.cell? ⟨wo.heap.size, 0, none⟩ = some (.int .i64 (rdK ch.toNat)) := by first | exact (cell_old _ _ (by simp)).trans (cell_new _ _ _ 0 _ rfl) | exact cell_new _ _ _ 0 _ rfl | (simp; done)
                    have c8' : ((wo.alloc (.cells #[.int .i64 (rdK ch.toNat)] 3)).alloc (.cells #[.int .i64 (rdB ch.toNat)] 3)).drew.cell? ⟨wo.heap.size + 1, 0, none⟩ = some (.int .i64 (rdB ch.toNat)) := by first | exact (cell_old _ _ (by simp)).trans (cell_new _ _ _ 0 _ rfl) | exact cell_new _ _ _ 0 _ rfl | (simp; done)
                    refine wp_append_lies _ _ _ 25 rfl (w.heap.size + 1 + 1) 3 i0 (.int .i64 0) 1 8 Try.underlying25 hi hz0 hz1 hz2 rfl (by decide) v1 _ _ rfl (own_drew ((TWo.k.alloc _).alloc _)) ⟨wo.heap.size, 0, none⟩ 1 1 [.int .i64 (rdK ch.toNat)] rfl rfl (news1 c3) (by simp [Value.oneCell']) (by omega) (by unfold maxLen; omega) (by omega) (by first | omega | (simp; omega)) _ rfl ?_
                    intro g1 cap1 w4 hown4 hgr4 hat4 hlt4
                    have c8 := (hgr4.cell_far ⟨wo.heap.size + 1, 0, none⟩ (by simp only [World.size_drew, World.size_alloc]; omega) (fun e => by have := own_lt TWo.k (wo.heap.size + 1) e.symm; omega)).trans c8'
                    have hszW : wo.heap.size < (((wo.alloc (.cells #[.int .i64 (rdK ch.toNat)] 3)).alloc (.cells #[.int .i64 (rdB ch.toNat)] 3)).drew).heap.size := by simp only [World.size_drew, World.size_alloc]; omega
                    have hneg1 : v2.ownBlock ≠ some g1 := fun e => by
                      rcases hat4 with h | h
                      · exact TWo.ne g1 h e
                      · have := own_lt TWo.b g1 e; omega
                    have hbn1 : ∀ q, q < w.heap.size + 1 + 1 → some q ≠ v1.ownBlock := fun q hq e => by have := own_base TWo.k q e.symm; omega
                    have hg1b : w.heap.size + 1 + 1 ≤ g1 := by
                      rcases hat4 with h | h
                      · exact own_base TWo.k g1 h
                      · omega
                    have X4 := Bx.grown (((TWo.box.alloc _).alloc _).drew) hgr4 (hbn1 _ (by omega))
                    have XG4 := Bx.grown (((XG.alloc _).alloc _).drew) hgr4 (hbn1 _ (by omega))
                    have hownb4 := own_grown (own_drew ((TWo.b.alloc _).alloc _)) hgr4 (fun g hg e => TWo.ne g e.symm hg)
                    have hB4 := Below.grown ((balloc (balloc hB _) _).drew) hgr4 (by have := hB.size; first | (simp; done) | (simp; omega)) (fun g hg => Nat.le_trans (by omega) (own_base TWo.k g hg))
                    have hS4 : w4.cell? ⟨w.heap.size + 1, 0, none⟩ = some v1 ∧ w4.cell? ⟨w.heap.size + 1, 1, none⟩ = some v2 := ⟨X4.at_ 0 rfl, X4.at_ 1 rfl⟩
                    refine hK _ _ (fun _ _ => hS4) ?_
                    clear hK KK
                    refine anyS_pure (i := 10) rfl (by kernel_rfl) (fun _ _ _ h => h) (Or.inl ⟨by rfl, fun Y hYb => (by clear hYb; go_simp; rfl)⟩) ?_
                    have Xx := X4
                    have XGx := XG4
                    have hownk := hown4
                    have hownb := hownb4
                    have hBx := hB4
                    have hg1x : g1 < w4.heap.size := hlt4
                    clear hS5 hS4 hS3 c3 c8' hown4 hownb4 X4 XG4 hB4
                    refine anyS_one (i := 9) (by kernel_rfl) rfl (by rfl) (fun KK hK => ?_)
                    refine wp_append_lies _ _ _ 25 rfl (w.heap.size + 1 + 1) 3 i0 (.int .i64 0) 1 8 Try.underlying25 hi hz0 hz1 hz2 rfl (by decide) v2 _ _ rfl hownb ⟨wo.heap.size + 1, 0, none⟩ 1 1 [.int .i64 (rdB ch.toNat)] rfl rfl (news1 c8) (by simp [Value.oneCell']) (by omega) (by unfold maxLen; omega) (by omega) (by first | omega | (simp; omega)) _ rfl ?_
                    intro g2 cap2 w9 hown9 hgr9 hat9 hlt9
                    have hown1_9 := own_grown hownk hgr9 (fun g hg e => hneg1 (by rw [← e]; exact hg.symm))
                    have hbne : ∀ q, q < w.heap.size + 1 + 1 → some q ≠ v2.ownBlock := fun q hq e => by have := own_base hownb q e.symm; omega
                    have X9 := Xx.grown hgr9 (hbne _ (by omega))
                    have XG9 := XGx.grown hgr9 (hbne _ (by omega))
                    have hB9 := hBx.grown hgr9 hBx.size (fun g hg => Nat.le_trans (by omega) (own_base hownb g hg))
                    have hg12 : g1 ≠ g2 := fun e => by
                      rcases hat9 with h | h
                      · exact hneg1 (by rw [h, e])
                      · omega
                    have hgb2 : w.heap.size + 1 + 1 ≤ g2 := by
                      obtain ⟨g', c', hv, hb', _⟩ := hown9.form (by omega)
                      injection hv with hv; injection hv with hv; injection hv with hv; omega
                    have hS9 : w9.cell? ⟨w.heap.size + 1, 0, none⟩ = some v1 ∧ w9.cell? ⟨w.heap.size + 1, 1, none⟩ = some v2 := ⟨X9.at_ 0 rfl, X9.at_ 1 rfl⟩
                    refine hK _ _ (fun _ _ => hS9) ?_
                    clear hK KK
                    have x90 := X9.at_ 0 rfl; have x91 := X9.at_ 1 rfl; have x9f := X9.free; have x9z := X9.lt
                    refine anyS_one (i := 11) (by kernel_rfl) rfl (by rfl) (fun K hK => ?_)
                    go_simp
                    refine hK _ _ (fun h _ => absurd h (by decide)) ?_
                    clear hK K
                    refine anyS_pure (i := 12) rfl (by kernel_rfl) (fun _ _ _ h => h) (Or.inl ⟨by rfl, fun Y hYb => (by clear hYb; go_simp; rfl)⟩) ?_
                    refine anyS_one (i := 13) (by kernel_rfl) rfl (by rfl) (fun K hK => ?_)
                    go_simp
                    refine hK _ _ (fun h _ => absurd h (by decide)) ?_
                    clear hK K
                    refine anyS_done (by kernel_rfl) ?_ _
                    clear x90 x91 x9f x9z hS9
                    have hf : ∀ q, w.heap.size + 1 + 1 ≤ q → ∀ (n cap g : Nat), (Value.slice (some ⟨q, 0, none⟩) n cap).ownBlock = some g → g ≠ w.heap.size + 1 := fun q hq n cap g hg e => by
                      have h : q = g := by injection hg
                      omega
                    go_wp2_with fail
                    go_roundw
                    case rel => exact ⟨i + 1, _, _, by omega, by go_num, (fun j hj => by
                        rcases Nat.lt_succ_iff_lt_or_eq.1 hj with h | rfl
                        · exact HOKI.out j h
                        · rw [HCH.out]; exact HCO.out), ⟨(X9.set_ 0 (by simp) _).set_ 1 (by simp) _, (by
                          rw [HKT.out, ← List.append_assoc, ← HKX.out]
                          exact own_far (p := ⟨w.heap.size + 1, 1, none⟩) (own_far (p := ⟨w.heap.size + 1, 0, none⟩) (own_snoc hown1_9) (hf g1 hg1b _ _) _) (hf g1 hg1b _ _) _), (by
                          rw [HBT.out, ← List.append_assoc, ← HBX.out]
                          exact own_far (p := ⟨w.heap.size + 1, 1, none⟩) (own_far (p := ⟨w.heap.size + 1, 0, none⟩) (own_snoc hown9) (hf g2 hgb2 _ _) _) (hf g2 hgb2 _ _) _), (fun g hg e => by
                          have e1 : g1 = g := (by injection hg)
                          have e2 : g2 = g := (by injection e)
                          omega), by omega⟩, (XG9.far (by dsimp only; omega) _).far (by dsimp only; omega) _, bset (bset hB9 (by dsimp only; omega) _) (by dsimp only; omega) _⟩
                    case measure => simp [intOf]; omega
                · go_simp
                  have hS3 : (wo.alloc (.cells #[.int .i64 (rdB ch.toNat)] 3)).drew.cell? ⟨w.heap.size + 1, 0, none⟩ = some v1 ∧ (wo.alloc (.cells #[.int .i64 (rdB ch.toNat)] 3)).drew.cell? ⟨w.heap.size + 1, 1, none⟩ = some v2 := ⟨(TWo.box.alloc _).drew.at_ 0 rfl, (TWo.box.alloc _).drew.at_ 1 rfl⟩
                  refine hK _ _ (fun _ _ => hS3) ?_
                  clear hK KK
                  refine anyS_one (i := 3) (by kernel_rfl) rfl (by rfl) (fun KK hK => ?_)
                  go_simp
                  have hS5 : ((wo.alloc (.cells #[.int .i64 (rdB ch.toNat)] 3)).alloc (.cells #[.int .i64 (rdK ch.toNat)] 3)).drew.cell? ⟨w.heap.size + 1, 0, none⟩ = some v1 ∧ ((wo.alloc (.cells #[.int .i64 (rdB ch.toNat)] 3)).alloc (.cells #[.int .i64 (rdK ch.toNat)] 3)).drew.cell? ⟨w.heap.size + 1, 1, none⟩ = some v2 := ⟨((TWo.box.alloc _).alloc _).drew.at_ 0 rfl, ((TWo.box.alloc _).alloc _).drew.at_ 1 rfl⟩
                  refine hK _ _ (fun _ _ => hS5) ?_
                  clear hK KK
                  refine anyS_one (i := 4) (by kernel_rfl) rfl (by rfl) (fun KK hK => ?_)
                  have c3 : ((wo.alloc (.cells #[.int .i64 (rdB ch.toNat)] 3)).alloc (.cells #[.int .i64 (rdK ch.toNat)] 3)).drew.cell? ⟨wo.heap.size + 1, 0, none⟩ = some (.int .i64 (rdK ch.toNat)) := by first | exact (cell_old _ _ (by simp)).trans (cell_new _ _ _ 0 _ rfl) | exact cell_new _ _ _ 0 _ rfl | (simp; done)
                  have c8' : ((wo.alloc (.cells #[.int .i64 (rdB ch.toNat)] 3)).alloc (.cells #[.int .i64 (rdK ch.toNat)] 3)).drew.cell? ⟨wo.heap.size, 0, none⟩ = some (.int .i64 (rdB ch.toNat)) := by first | exact (cell_old _ _ (by simp)).trans (cell_new _ _ _ 0 _ rfl) | exact cell_new _ _ _ 0 _ rfl | (simp; done)
                  refine wp_append_lies _ _ _ 25 rfl (w.heap.size + 1 + 1) 3 i0 (.int .i64 0) 1 8 Try.underlying25 hi hz0 hz1 hz2 rfl (by decide) v1 _ _ rfl (own_drew ((TWo.k.alloc _).alloc _)) ⟨wo.heap.size + 1, 0, none⟩ 1 1 [.int .i64 (rdK ch.toNat)] rfl rfl (news1 c3) (by simp [Value.oneCell']) (by omega) (by unfold maxLen; omega) (by omega) (by first | omega | (simp; omega)) _ rfl ?_
                  intro g1 cap1 w4 hown4 hgr4 hat4 hlt4
                  have c8 := (hgr4.cell_far ⟨wo.heap.size, 0, none⟩ (by simp only [World.size_drew, World.size_alloc]; omega) (fun e => by have := own_lt TWo.k (wo.heap.size) e.symm; omega)).trans c8'
                  have hszW : wo.heap.size < (((wo.alloc (.cells #[.int .i64 (rdB ch.toNat)] 3)).alloc (.cells #[.int .i64 (rdK ch.toNat)] 3)).drew).heap.size := by simp only [World.size_drew, World.size_alloc]; omega
                  have hneg1 : v2.ownBlock ≠ some g1 := fun e => by
                    rcases hat4 with h | h
                    · exact TWo.ne g1 h e
                    · have := own_lt TWo.b g1 e; omega
                  have hbn1 : ∀ q, q < w.heap.size + 1 + 1 → some q ≠ v1.ownBlock := fun q hq e => by have := own_base TWo.k q e.symm; omega
                  have hg1b : w.heap.size + 1 + 1 ≤ g1 := by
                    rcases hat4 with h | h
                    · exact own_base TWo.k g1 h
                    · omega
                  have X4 := Bx.grown (((TWo.box.alloc _).alloc _).drew) hgr4 (hbn1 _ (by omega))
                  have XG4 := Bx.grown (((XG.alloc _).alloc _).drew) hgr4 (hbn1 _ (by omega))
                  have hownb4 := own_grown (own_drew ((TWo.b.alloc _).alloc _)) hgr4 (fun g hg e => TWo.ne g e.symm hg)
                  have hB4 := Below.grown ((balloc (balloc hB _) _).drew) hgr4 (by have := hB.size; first | (simp; done) | (simp; omega)) (fun g hg => Nat.le_trans (by omega) (own_base TWo.k g hg))
                  have hS4 : w4.cell? ⟨w.heap.size + 1, 0, none⟩ = some v1 ∧ w4.cell? ⟨w.heap.size + 1, 1, none⟩ = some v2 := ⟨X4.at_ 0 rfl, X4.at_ 1 rfl⟩
                  refine hK _ _ (fun _ _ => hS4) ?_
                  clear hK KK
                  refine anyS_pure (i := 10) rfl (by kernel_rfl) (fun _ _ _ h => h) (Or.inl ⟨by rfl, fun Y hYb => (by clear hYb; go_simp; rfl)⟩) ?_
                  have Xx := X4
                  have XGx := XG4
                  have hownk := hown4
                  have hownb := hownb4
                  have hBx := hB4
                  have hg1x : g1 < w4.heap.size := hlt4
                  clear hS5 hS4 hS3 c3 c8' hown4 hownb4 X4 XG4 hB4
                  refine anyS_one (i := 9) (by kernel_rfl) rfl (by rfl) (fun KK hK => ?_)
                  refine wp_append_lies _ _ _ 25 rfl (w.heap.size + 1 + 1) 3 i0 (.int .i64 0) 1 8 Try.underlying25 hi hz0 hz1 hz2 rfl (by decide) v2 _ _ rfl hownb ⟨wo.heap.size, 0, none⟩ 1 1 [.int .i64 (rdB ch.toNat)] rfl rfl (news1 c8) (by simp [Value.oneCell']) (by omega) (by unfold maxLen; omega) (by omega) (by first | omega | (simp; omega)) _ rfl ?_
                  intro g2 cap2 w9 hown9 hgr9 hat9 hlt9
                  have hown1_9 := own_grown hownk hgr9 (fun g hg e => hneg1 (by rw [← e]; exact hg.symm))
                  have hbne : ∀ q, q < w.heap.size + 1 + 1 → some q ≠ v2.ownBlock := fun q hq e => by have := own_base hownb q e.symm; omega
                  have X9 := Xx.grown hgr9 (hbne _ (by omega))
                  have XG9 := XGx.grown hgr9 (hbne _ (by omega))
                  have hB9 := hBx.grown hgr9 hBx.size (fun g hg => Nat.le_trans (by omega) (own_base hownb g hg))
                  have hg12 : g1 ≠ g2 := fun e => by
                    rcases hat9 with h | h
                    · exact hneg1 (by rw [h, e])
                    · omega
                  have hgb2 : w.heap.size + 1 + 1 ≤ g2 := by
                    obtain ⟨g', c', hv, hb', _⟩ := hown9.form (by omega)
                    injection hv with hv; injection hv with hv; injection hv with hv; omega
                  have hS9 : w9.cell? ⟨w.heap.size + 1, 0, none⟩ = some v1 ∧ w9.cell? ⟨w.heap.size + 1, 1, none⟩ = some v2 := ⟨X9.at_ 0 rfl, X9.at_ 1 rfl⟩
                  refine hK _ _ (fun _ _ => hS9) ?_
                  clear hK KK
                  have x90 := X9.at_ 0 rfl; have x91 := X9.at_ 1 rfl; have x9f := X9.free; have x9z := X9.lt
                  refine anyS_one (i := 11) (by kernel_rfl) rfl (by rfl) (fun K hK => ?_)
                  go_simp
                  refine hK _ _ (fun h _ => absurd h (by decide)) ?_
                  clear hK K
                  refine anyS_pure (i := 12) rfl (by kernel_rfl) (fun _ _ _ h => h) (Or.inl ⟨by rfl, fun Y hYb => (by clear hYb; go_simp; rfl)⟩) ?_
                  refine anyS_one (i := 13) (by kernel_rfl) rfl (by rfl) (fun K hK => ?_)
                  go_simp
                  refine hK _ _ (fun h _ => absurd h (by decide)) ?_
                  clear hK K
                  refine anyS_done (by kernel_rfl) ?_ _
                  clear x90 x91 x9f x9z hS9
                  have hf : ∀ q, w.heap.size + 1 + 1 ≤ q → ∀ (n cap g : Nat), (Value.slice (some ⟨q, 0, none⟩) n cap).ownBlock = some g → g ≠ w.heap.size + 1 := fun q hq n cap g hg e => by
                    have h : q = g := by injection hg
                    omega
                  go_wp2_with fail
                  go_roundw
                  case rel => exact ⟨i + 1, _, _, by omega, by go_num, (fun j hj => by
                      rcases Nat.lt_succ_iff_lt_or_eq.1 hj with h | rfl
                      · exact HOKI.out j h
                      · rw [HCH.out]; exact HCO.out), ⟨(X9.set_ 0 (by simp) _).set_ 1 (by simp) _, (by
                        rw [HKT.out, ← List.append_assoc, ← HKX.out]
                        exact own_far (p := ⟨w.heap.size + 1, 1, none⟩) (own_far (p := ⟨w.heap.size + 1, 0, none⟩) (own_snoc hown1_9) (hf g1 hg1b _ _) _) (hf g1 hg1b _ _) _), (by
                        rw [HBT.out, ← List.append_assoc, ← HBX.out]
                        exact own_far (p := ⟨w.heap.size + 1, 1, none⟩) (own_far (p := ⟨w.heap.size + 1, 0, none⟩) (own_snoc hown9) (hf g2 hgb2 _ _) _) (hf g2 hgb2 _ _) _), (fun g hg e => by
                        have e1 : g1 = g := (by injection hg)
                        have e2 : g2 = g := (by injection e)
                        omega), by omega⟩, (XG9.far (by dsimp only; omega) _).far (by dsimp only; omega) _, bset (bset hB9 (by dsimp only; omega) _) (by dsimp only; omega) _⟩
                  case measure => simp [intOf]; omega
            · obtain rfl : i = p.length := (by omega)
              rw [List.take_length] at TWo
              have hgd : ∀ j, j < k + 1 → goodB p.length H (wordsL 10 l) j = true := fun j hj => by
                rcases Nat.lt_succ_iff_lt_or_eq.1 hj with h | rfl
                · exact HG.out j h
                · exact good_iff.2 ⟨hlt, by rw [HPK.out], by rw [HPK.out]; exact okL_at.2 HOKI.out⟩
              have HGD := hid hgd
              have e1 := kTo_succ (ws := wordsL 10 l) HKW.out
              have e2 := bTo_succ (ws := wordsL 10 l) HKW.out
              rw [HPK.out] at e1 e2
              rw [← e1, ← e2] at TWo
              clear hgd e1 e2
              go_wp2_with fail
              go_roundw
              case rel => exact ⟨k + 1, t, v1, v2, by omega, by go_num, rfl, HWT.out, by omega, HGD.out, TWo, XG, hB⟩
              case measure => simp [intOf]; omega
    · obtain rfl : k = H := (by omega)
      cases r with
      | nil =>
        have hwl : (wordsL 10 l).length = k + 1 := by
          have h := congrArg List.length HWR.out
          rw [List.length_drop] at h
          have := HKW.out
          simp [wordsL] at h; omega
        have hlast : (wordsL 10 l).getLastD [] = [] := by rw [getD_lastD hwl, ← HWK.out]; rfl
        have hok := prs_ok (W := W) (H := k) (l := l) HLN.out (prsB_yes (badN_is (j := k) (by omega) HG.out (fun h => by omega) |>.trans (by omega)) (by omega) hlast)
        obtain ⟨q1, q2, q3, q4⟩ := hok
        have Q1 := hid q1; have Q2 := hid q2; have Q3 := hid q3; have Q4 := hid q4
        clear q1 q2 q3 q4 hlast hwl
        have hp1 : ∀ g, v1.ownBlock = some g → g ≠ w.heap.size + 1 := fun g hg e => by have := own_base TWo.k g hg; omega
        have hp2 : ∀ g, v2.ownBlock = some g → g ≠ w.heap.size + 1 := fun g hg e => by have := own_base TWo.b g hg; omega
        have o1 := own_far (p := ⟨w.heap.size + 1, 1, none⟩) (own_far (p := ⟨w.heap.size + 1, 0, none⟩) TWo.k hp1 v1) hp1 v2
        have o2 := own_far (p := ⟨w.heap.size + 1, 1, none⟩) (own_far (p := ⟨w.heap.size + 1, 0, none⟩) TWo.b hp2 v1) hp2 v2
        obtain ⟨a1, c1, hv1, S1⟩ := sl_of_own o1
        obtain ⟨a2, c2, hv2, S2⟩ := sl_of_own o2
        subst hv1 hv2
        have x10 := TWo.box.at_ 0 rfl; have x11 := TWo.box.at_ 1 rfl; have x1f := TWo.box.free; have x1z := TWo.box.lt
        clear o1 o2 hp1 hp2
        go_wp2_with fail
        rw [Q1.out, Q2.out, Q3.out, Q4.out]
        refine bodyPost_ret (v := .tuple #[.agg #[.slice a1 (kTo (wordsL 10 l) k).length c1, .slice a2 (bTo (wordsL 10 l) k).length c2], .int .i64 0, .int .i64 0]) (by simp [results, Try.results10, go_sem, x10, x11]) rfl ⟨a1, c1, a2, c2, rfl, S1, S2, by (repeat' (first | with_reducible assumption | with_reducible exact Below.refl _ _ | with_reducible refine Below.drew ?_ | with_reducible refine below_drewN ?_ _ | with_reducible refine balloc ?_ _ | with_reducible refine bset ?_ ?_ _ | with_reducible refine Below.setCell ?_ ?_ _ | with_reducible refine Below.alloc ?_ ?_ _ | omega | (simp; done) | (simp; omega)))⟩
      | cons ch t =>
        have hlw : ∀ h : (wordsL 10 l).length = k + 1, (wordsL 10 l).getLastD [] ≠ [] := fun h e => by
          rw [getD_lastD h] at e
          have h2 := HWR.out
          have h3 : wordsL 10 (ch :: t) = [(wordsL 10 l).getD k []] := by
            rw [h2, List.drop_eq_getElem_cons HKW.out, List.getD_eq_getElem?_getD, List.getElem?_eq_getElem HKW.out, List.drop_eq_nil_of_le (by omega)]; rfl
          have h4 := unwords_words 10 (ch :: t)
          rw [h3, e] at h4
          cases h4
        have hkw2 := HKW.out
        have hbn := badN_is (W := W) (H := k) (ws := wordsL 10 l) (j := k) (by omega) HG.out (fun _ => by
          cases h : goodB W k (wordsL 10 l) k
          · rfl
          · exact absurd (good_iff.1 h).1 (by omega))
        have hpn : prsB W k (wordsL 10 l) = false := by
          by_cases e : (wordsL 10 l).length = k + 1
          · exact prsB_no (.inr (.inr (hlw e)))
          · exact prsB_no (.inl (by rw [hbn]; omega))
        have hbad := prs_bad (W := W) (H := k) HLN.out hbn hpn
        obtain ⟨q1, q2, q3, q4⟩ := hbad
        have Q1 := hid q1; have Q2 := hid q2; have Q3 := hid q3; have Q4 := hid q4
        clear q1 q2 q3 q4 hbn hpn hlw
        obtain ⟨wo, rfl⟩ : ∃ wo : World, wo = wr := ⟨_, rfl⟩
        have x10 := TWo.box.at_ 0 rfl; have x11 := TWo.box.at_ 1 rfl; have x1f := TWo.box.free; have x1z := TWo.box.lt
        go_upto_region 22 with (fail)
        have hS0 : wo.drew.cell? ⟨w.heap.size, 1, none⟩ = some (.int .i64 (k : Int)) := XG.at_ 1 rfl
        refine wp_region_S (fun Y => Y.cell? ⟨w.heap.size, 1, none⟩ = some (.int .i64 (k : Int))) 6 (by kernel_rfl) ?_
        refine anyS_pure (i := 0) rfl (by kernel_rfl) (fun _ _ _ h => h) (Or.inl ⟨by rfl, fun Y hYb => (by clear hYb; go_simp; rfl)⟩) ?_
        refine anyS_pure (i := 1) rfl (by kernel_rfl) (fun _ _ _ h => h) (Or.inl ⟨by rfl, fun Y hYb => (by clear hYb; go_simp; rfl)⟩) ?_
        refine anyS_take (i := 2) rfl (by kernel_rfl) (fun _ _ _ h => h) (Or.inl ⟨by rfl, fun Y hYb => (by (try dsimp only at hYb); go_simp; rfl)⟩) (by assumption) ?_
        refine anyS_one (i := 3) (by kernel_rfl) rfl (by rfl) (fun KK hK => ?_)
        go_simp
        have hS3 : ((wo.setCell ⟨w.heap.size + 1, 0, none⟩ (.slice none 0 0)).setCell ⟨w.heap.size + 1, 1, none⟩ (.slice none 0 0)).cell? ⟨w.heap.size, 1, none⟩ = some (.int .i64 (k : Int)) := ((XG.far (p := ⟨w.heap.size + 1, 0, none⟩) (by dsimp only; omega) (.slice none 0 0)).far (p := ⟨w.heap.size + 1, 1, none⟩) (by dsimp only; omega) (.slice none 0 0)).at_ 1 rfl
        refine hK _ _ (fun _ _ => hS3) ?_
        clear hK KK
        refine anyS_one (i := 4) (by kernel_rfl) rfl (by rfl) (fun KK hK => ?_)
        go_simp
        refine hK _ _ (fun _ _ => hS3) ?_
        clear hK KK
        refine anyS_one (i := 5) (by kernel_rfl) rfl (by rfl) (fun KK hK => ?_)
        go_simp
        refine hK _ _ (fun _ _ => hS3) ?_
        clear hK KK
        refine anyS_done (by kernel_rfl) ?_ _
        go_wp2_with fail
        rw [Q1.out, Q2.out]
        refine bodyPost_ret (v := .tuple #[.agg #[.slice none 0 0, .slice none 0 0], .int .i64 (k : Int), .int .i64 2]) (by simp [results, Try.results10, go_sem, x10, x11]) rfl (prsPost_bad Q3.out Q4.out (by (repeat' (first | with_reducible assumption | with_reducible exact Below.refl _ _ | with_reducible refine Below.drew ?_ | with_reducible refine below_drewN ?_ _ | with_reducible refine balloc ?_ _ | with_reducible refine bset ?_ ?_ _ | with_reducible refine Below.setCell ?_ ?_ _ | with_reducible refine Below.alloc ?_ ?_ _ | omega | (simp; done) | (simp; omega)))))
end Go.Proofs.Ythlbmlfkmfheiaa
