/- Walks: reading a wall: the reference's Parse. -/
import Derived.Test.YthlbmlfkmfheiaaWPrs
namespace Go.Proofs.Ythlbmlfkmfheiaa
open Go Go.RowKit
set_option linter.unusedVariables false
set_option maxRecDepth 100000 in
set_option maxHeartbeats 4000000 in
theorem ref3_Parse (wide high : Int) (a : Option Addr) (n c : Nat) (g : Nat → C4) (l : List UInt8) (w : World) (hn : n ≤ 100000) (S : Sc w a n g) : Calls Try.prog 11 #[.agg #[.int .i64 wide, .int .i64 high, .slice a n c], .string ⟨l.toArray⟩] w (PrsPost (prsK (validG wide high n g) wide.toNat high.toNat l) (prsL (validG wide high n g) wide.toNat high.toNat l) (prsN (validG wide high n g) wide.toNat high.toNat l) (prsE (validG wide high n g) wide.toNat high.toNat l) w) := by
  obtain ⟨i0, hi, hz0, hz1, hz2⟩ := info_parts infoI
  have hval := fun W' S' => ref2_valid wide high a n c g W' (by omega) S'
  cases hv : validG wide high n g
  · rw [hv] at hval
    obtain ⟨q1, q2, q3, q4⟩ := (prs_inv wide.toNat high.toNat l)
    rw [q1, q2, q3, q4]
    clear q1 q2 q3 q4
    have X0 := (Bx.new w #[.int .i64 wide, .int .i64 high, .slice a n c] 24).alloc (.cells #[.slice none 0 0, .slice none 0 0] 27)
    have X1 := Bx.new (w.alloc (.cells #[.int .i64 wide, .int .i64 high, .slice a n c] 24)) #[.slice none 0 0, .slice none 0 0] 27
    simp only [World.size_alloc] at X1
    have hB0 : Below w.heap.size w ((w.alloc (.cells #[.int .i64 wide, .int .i64 high, .slice a n c] 24)).alloc (.cells #[.slice none 0 0, .slice none 0 0] 27)) := by (repeat' (first | with_reducible assumption | with_reducible exact Below.refl _ _ | with_reducible refine Below.drew ?_ | with_reducible refine below_drewN ?_ _ | with_reducible refine balloc ?_ _ | with_reducible refine bset ?_ ?_ _ | with_reducible refine Below.setCell ?_ ?_ _ | with_reducible refine Below.alloc ?_ ?_ _ | omega | (simp; done) | (simp; omega)))
    go_enter Try.func11, Try.ntmps11
    go_wp2_with fail
    generalize ((w.alloc (.cells #[.int .i64 wide, .int .i64 high, .slice a n c] 24)).alloc (.cells #[.slice none 0 0, .slice none 0 0] 27)) = W0 at X0 X1 hB0 ⊢
    have z0 := X0.lt
    have z1 := X1.lt
    refine (hval _ (S.below hB0)).mono ?_
    rintro e w1 ⟨rfl, hb1⟩
    have hB := bvia hB0 hb1
    replace X1 := X1.below hb1
    have x10 := X1.at_ 0 rfl; have x11 := X1.at_ 1 rfl; have x1f := X1.free; have x1z := X1.lt
    go_wp2_with fail
    refine bodyPost_ret (v := .tuple #[.agg #[.slice none 0 0, .slice none 0 0], .int .i64 0, .int .i64 1]) (by simp [results, Try.results11, go_sem, x10, x11]) rfl (prsPost_bad rfl rfl (by (repeat' (first | with_reducible assumption | with_reducible exact Below.refl _ _ | with_reducible refine Below.drew ?_ | with_reducible refine below_drewN ?_ _ | with_reducible refine balloc ?_ _ | with_reducible refine bset ?_ ?_ _ | with_reducible refine Below.setCell ?_ ?_ _ | with_reducible refine Below.alloc ?_ ?_ _ | omega | (simp; done) | (simp; omega)))))
  rw [hv] at hval
  have hsz := vStr_size l
  by_cases hlong : 65536 < l.length
  · skip
    obtain ⟨q1, q2, q3, q4⟩ := (prs_long (W := wide.toNat) (H := high.toNat) hlong)
    rw [q1, q2, q3, q4]
    clear q1 q2 q3 q4
    have X0 := (Bx.new w #[.int .i64 wide, .int .i64 high, .slice a n c] 24).alloc (.cells #[.slice none 0 0, .slice none 0 0] 27)
    have X1 := Bx.new (w.alloc (.cells #[.int .i64 wide, .int .i64 high, .slice a n c] 24)) #[.slice none 0 0, .slice none 0 0] 27
    simp only [World.size_alloc] at X1
    have hB0 : Below w.heap.size w ((w.alloc (.cells #[.int .i64 wide, .int .i64 high, .slice a n c] 24)).alloc (.cells #[.slice none 0 0, .slice none 0 0] 27)) := by (repeat' (first | with_reducible assumption | with_reducible exact Below.refl _ _ | with_reducible refine Below.drew ?_ | with_reducible refine below_drewN ?_ _ | with_reducible refine balloc ?_ _ | with_reducible refine bset ?_ ?_ _ | with_reducible refine Below.setCell ?_ ?_ _ | with_reducible refine Below.alloc ?_ ?_ _ | omega | (simp; done) | (simp; omega)))
    go_enter Try.func11, Try.ntmps11
    go_wp2_with fail
    generalize ((w.alloc (.cells #[.int .i64 wide, .int .i64 high, .slice a n c] 24)).alloc (.cells #[.slice none 0 0, .slice none 0 0] 27)) = W0 at X0 X1 hB0 ⊢
    have z0 := X0.lt
    have z1 := X1.lt
    refine (hval _ (S.below hB0)).mono ?_
    rintro e w1 ⟨rfl, hb1⟩
    have hB := bvia hB0 hb1
    replace X1 := X1.below hb1
    have x10 := X1.at_ 0 rfl; have x11 := X1.at_ 1 rfl; have x1f := X1.free; have x1z := X1.lt
    go_wp2_with fail
    refine bodyPost_ret (v := .tuple #[.agg #[.slice none 0 0, .slice none 0 0], .int .i64 0, .int .i64 3]) (by simp [results, Try.results11, go_sem, x10, x11]) rfl (prsPost_bad rfl rfl (by (repeat' (first | with_reducible assumption | with_reducible exact Below.refl _ _ | with_reducible refine Below.drew ?_ | with_reducible refine below_drewN ?_ _ | with_reducible refine balloc ?_ _ | with_reducible refine bset ?_ ?_ _ | with_reducible refine Below.setCell ?_ ?_ _ | with_reducible refine Below.alloc ?_ ?_ _ | omega | (simp; done) | (simp; omega)))))
  obtain ⟨g1, g2, g3, g4, g5, g6, g7, g8⟩ := (validG_iff _ _ _ _).1 hv
  obtain ⟨W, rfl⟩ : ∃ W : Nat, wide = W := ⟨wide.toNat, by omega⟩
  obtain ⟨H, rfl⟩ : ∃ H : Nat, high = H := ⟨high.toNat, by omega⟩
  simp only [Int.toNat_natCast]
  have HLN := hid hlong
  have hWn : W ≤ 64 := by omega
  have hHn : H ≤ 64 := by omega
  have hW1 : 1 ≤ W := by omega
  have hwd := fun W' => ref1_words l 10 W' (by omega)
  unfold WordsPost at hwd
  have hwl := words_length 10 l
  have hne := wordsL_ne 10 l
  have hlen1 : 1 ≤ (wordsL 10 l).length := by
    cases h : wordsL 10 l with
    | nil => exact absurd h hne
    | cons x xs => simp
  clear g1 g2 g3 g4 g5 g6 g7 g8 hv hne
  have hkl := fun k hk hg => kTo_len (W := W) (H := H) (ws := wordsL 10 l) k hk hg
  have HKL := hid hkl
  clear hkl
  have X0 := (Bx.new w #[.int .i64 (W : Int), .int .i64 (H : Int), .slice a n c] 24).alloc (.cells #[.slice none 0 0, .slice none 0 0] 27)
  have X1 := Bx.new (w.alloc (.cells #[.int .i64 (W : Int), .int .i64 (H : Int), .slice a n c] 24)) #[.slice none 0 0, .slice none 0 0] 27
  simp only [World.size_alloc] at X1
  have hB0 : Below w.heap.size w ((w.alloc (.cells #[.int .i64 (W : Int), .int .i64 (H : Int), .slice a n c] 24)).alloc (.cells #[.slice none 0 0, .slice none 0 0] 27)) := by (repeat' (first | with_reducible assumption | with_reducible exact Below.refl _ _ | with_reducible refine Below.drew ?_ | with_reducible refine below_drewN ?_ _ | with_reducible refine balloc ?_ _ | with_reducible refine bset ?_ ?_ _ | with_reducible refine Below.setCell ?_ ?_ _ | with_reducible refine Below.alloc ?_ ?_ _ | omega | (simp; done) | (simp; omega)))
  go_enter Try.func11, Try.ntmps11
  go_wp2_with fail
  generalize ((w.alloc (.cells #[.int .i64 (W : Int), .int .i64 (H : Int), .slice a n c] 24)).alloc (.cells #[.slice none 0 0, .slice none 0 0] 27)) = W0 at X0 X1 hB0 ⊢
  have z0 := X0.lt
  have z1 := X1.lt
  refine (hval _ (S.below hB0)).mono ?_
  rintro e w1 ⟨rfl, hb1⟩
  have hB0' := bvia hB0 hb1
  replace X0 := X0.below hb1
  replace X1 := X1.below hb1
  clear z0 z1 hB0 hb1 hval
  go_wp2_with fail
  refine (hwd _).mono ?_
  rintro e w2 ⟨aw, cw, rfl, SW, hb2⟩
  replace hB0' := bvia hB0' hb2
  replace X0 := X0.below hb2
  replace X1 := X1.below hb2
  have hws1 : w.heap.size + 1 < w2.heap.size := X1.lt
  clear hwd hb2
  generalize hws : wordsL 10 l = ws at *
  have HWS := hid hws; clear hws
  go_wp2_with fail
  have T0 : TW (w2.heap.size + 1) w2.heap.size (kTo ws 0) (bTo ws 0) (.slice none 0 0) (.slice none 0 0) (w2.alloc (.cells #[.slice none 0 0, .slice none 0 0] 27)) :=
    ⟨Bx.new .., World.ownsRow_nil .., World.ownsRow_nil .., (fun g hg => by cases hg), by omega⟩
  have hB1 := below_alloc w2 (.cells #[.slice none 0 0, .slice none 0 0] 27)
  generalize w2.alloc (.cells #[.slice none 0 0, .slice none 0 0] 27) = w3 at *
  go_loopw [9] (fun s9 wr => ∃ (k : Nat) (v1 v2 : Value), k + 1 ≤ ws.length ∧ s9 = .int .i64 (k : Int) ∧ (∀ i, i < k → goodB W H ws i = true) ∧ TW (w2.heap.size + 1) w2.heap.size (kTo ws k) (bTo ws k) v1 v2 wr ∧ Below w2.heap.size w2 wr) (fun s9 _ => ws.length - (intOf s9).toNat)
  case atStart => exact ⟨0, _, _, hlen1, rfl, fun i hi => by omega, T0, hB1⟩
  case round =>
    clear T0 hB1
    obtain ⟨k, v1, v2, hk, rfl, hgood, TWo, hB⟩ := hrel
    have HG := hid hgood; clear hgood
    have hkH : k ≤ H := by
      rcases Nat.eq_zero_or_pos k with h | h
      · omega
      · have := (good_iff.1 (HG.out (k - 1) (by omega))).1; omega
    have hkb := HKL.out k (by omega) HG.out
    have hkW : k * W ≤ 64 * 64 := Nat.mul_le_mul (by omega) hWn
    by_cases hlt : k < ws.length - 1
    · obtain ⟨bs, os, rfl, hbs, cs⟩ := (SW.below hB) k (by omega)
      dsimp only at cs
      obtain ⟨p, hp⟩ : ∃ p, p = ws.getD k [] := ⟨_, rfl⟩
      rw [← hp] at cs
      have HPK := hid hp.symm; clear hp
      have hszp := vStr_size p
      have i1 : (0 : Int) ≤ (k : Int) := by omega
      have i2 : (k : Int) < (ws.length : Int) := by omega
      have i3 : IntKind.i64.wrap ((ws.length : Int) - 1) = (ws.length : Int) - 1 := IntWalk.i64_in _ ⟨by omega, by omega⟩
      have hltI : (k : Int) < (ws.length : Int) - 1 := by omega
      obtain ⟨wo, rfl⟩ : ∃ wo : World, wo = wr := ⟨_, rfl⟩
      have lo := (X0.below hB).lt
      have r0 : ∀ Y, Below wo.heap.size wo Y → Y.cell? ⟨w.heap.size, 0, none⟩ = some (.int .i64 (W : Int)) := fun Y h => ((X0.below hB).below h).at_ 0 rfl
      have r1 : ∀ Y, Below wo.heap.size wo Y → Y.cell? ⟨w.heap.size, 1, none⟩ = some (.int .i64 (H : Int)) := fun Y h => ((X0.below hB).below h).at_ 1 rfl
      have r2 : ∀ Y, Below wo.heap.size wo Y → Y.cell? ⟨bs, os + k, none⟩ = some (.string ⟨p.toArray⟩) := fun Y h => (bcell h _ _ hbs).trans cs
      by_cases hkl : k < H
      · by_cases hpl : p.length = W
        · have hplI : ((p.length : Int) == (W : Int)) = true := by rw [beq_iff_eq]; omega
          have hklI : (k : Int) < (H : Int) := by omega
          go_upto_region 10 with (fail)
          go_region_held3 (fun Y => Below wo.heap.size wo Y) ((((repeat' (first | with_reducible assumption | with_reducible exact Below.refl _ _ | with_reducible refine Below.drew ?_ | with_reducible refine below_drewN ?_ _ | with_reducible refine balloc ?_ _ | with_reducible refine bset ?_ ?_ _ | with_reducible refine Below.setCell ?_ ?_ _ | with_reducible refine Below.alloc ?_ ?_ _ | omega | (simp; done) | (simp; omega)))))) ((fail))
          go_wp2_with fail
          have hbadg : false = false → goodB W H ws k = false ∨ True := fun _ => .inr trivial
          rw [show kTo ws k = kTo ws k ++ kL (p.take 0) from by simp [kL], show bTo ws k = bTo ws k ++ bL (p.take 0) from by simp [bL]] at TWo
          replace hB := hB.drew
          replace TWo : TW (w2.heap.size + 1) w2.heap.size (kTo ws k ++ kL (p.take 0)) (bTo ws k ++ bL (p.take 0)) v1 v2 wo.drew := ⟨TWo.box.drew, TWo.k, TWo.b, TWo.ne, TWo.lt⟩
          have HPL := hid hpl; have HKLT := hid hkl
          clear r0 r1 r2 cs hplI hklI hpl hkl hbadg
          go_loopw [10, 11] (fun s10 s11 wr => ∃ (i : Nat) (ob : Bool) (v1 v2 : Value), i ≤ p.length ∧ i ≤ 64 ∧ s11 = .int .i64 (i : Int) ∧ s10 = .bool ob ∧ (ob = true → k < H ∧ p.length = W ∧ ∀ j, j < i → rdO (p.getD j 0).toNat = true) ∧ (ob = false → goodB W H ws k = false) ∧
            TW (w2.heap.size + 1) w2.heap.size (kTo ws k ++ kL (p.take i)) (bTo ws k ++ bL (p.take i)) v1 v2 wr ∧ Below w2.heap.size w2 wr) (fun _ s11 _ => p.length + 1 - (intOf s11).toNat)
          case atStart => exact ⟨0, true, v1, v2, Nat.zero_le _, Nat.zero_le _, rfl, rfl, (fun _ => ⟨HKLT.out, HPL.out, fun j hj => by omega⟩), (fun h => by cases h), TWo, hB⟩
          case round =>
            clear TWo hB
            obtain ⟨i, ob, v1, v2, hi2, hi64, rfl, rfl, hob, hnb, TWo, hB⟩ := hrel
            have hbs' : bs < wr.heap.size := by
              obtain ⟨b', o', e, h1, _⟩ := SW k (by omega)
              injection e with e; injection e with e1 _ _
              have := hB.size; omega
            have cs : wr.cell? ⟨bs, os + k, none⟩ = some (.string ⟨p.toArray⟩) := by
              obtain ⟨b', o', e, h1, h2⟩ := (SW.below hB) k (by omega)
              injection e with e; injection e with e1 e2 _
              subst e1 e2
              rw [h2]; exact congrArg (fun x : List UInt8 => some (Value.string ⟨x.toArray⟩)) HPK.out
            cases ob
            · have hgk := hnb rfl
              have hbn := badN_is (W := W) (H := H) (ws := ws) (j := k) (by omega) HG.out (fun _ => hgk)
              have hpn := prsB_no (W := W) (H := H) (ws := ws) (.inl (by rw [hbn]; omega))
              have hbad := prs_bad (W := W) (H := H) (l := l) (j := k) HLN.out (by rw [HWS.out]; exact hbn) (by rw [HWS.out]; exact hpn)
              obtain ⟨q1, q2, q3, q4⟩ := hbad
              have Q1 := hid q1; have Q2 := hid q2; have Q3 := hid q3; have Q4 := hid q4
              clear q1 q2 q3 q4 hbn hpn hgk
              have x10 := (X1.below hB).at_ 0 rfl; have x11 := (X1.below hB).at_ 1 rfl; have x1f := (X1.below hB).free
              replace hB := bvia hB0' hB
              clear hob hnb
              go_wp2_with fail
              rw [Q1.out, Q2.out]
              refine bodyPost_ret (v := .tuple #[.agg #[.slice none 0 0, .slice none 0 0], .int .i64 (k : Int), .int .i64 2]) (by simp [results, Try.results11, go_sem, x10, x11]) rfl (prsPost_bad Q3.out Q4.out (by (repeat' (first | with_reducible assumption | with_reducible exact Below.refl _ _ | with_reducible refine Below.drew ?_ | with_reducible refine below_drewN ?_ _ | with_reducible refine balloc ?_ _ | with_reducible refine bset ?_ ?_ _ | with_reducible refine Below.setCell ?_ ?_ _ | with_reducible refine Below.alloc ?_ ?_ _ | omega | (simp; done) | (simp; omega)))))
            · obtain ⟨hlt2, hplW, hoki⟩ := hob rfl
              have HOKI := hid hoki
              clear hob hnb hoki
              by_cases hil : i < p.length
              · have hat := fun W' => str_at p i hil W'
                have hc256 := UInt8.toNat_lt (p.getD i 0)
                have hrd := fun W' => ref3_told (p.getD i 0).toNat W' hc256
                have hkt := kL_take hil
                have hbt := bL_take hil
                have hbadg : rdO (p.getD i 0).toNat = false → goodB W H ws k = false := fun hco => by
                  cases h : goodB W H ws k
                  · rfl
                  · have := (good_iff.1 h).2.2
                    rw [HPK.out] at this
                    have := okL_at.1 this i hil
                    rw [hco] at this; cases this
                have HKT := hid hkt; have HBT := hid hbt; have HBADG := hid hbadg
                have i4 : (0 : Int) ≤ (i : Int) := by omega
                have i5 : (i : Int) < (p.length : Int) := by omega
                have hkn : (kTo ws k ++ kL (p.take i)).length ≤ 10000 := by rw [List.length_append, hkb.1]; simp [kL]; omega
                have hbn : (bTo ws k ++ bL (p.take i)).length ≤ 10000 := by rw [List.length_append, hkb.2]; simp [bL]; omega
                clear hkt hbt hbadg
                generalize hch : p.getD i 0 = ch at *
                have HCH := hid hch; clear hch
                obtain ⟨KX, hKX⟩ : ∃ KX, KX = kTo ws k ++ kL (p.take i) := ⟨_, rfl⟩
                obtain ⟨BX, hBX⟩ : ∃ BX, BX = bTo ws k ++ bL (p.take i) := ⟨_, rfl⟩
                rw [← hKX, ← hBX] at TWo
                rw [← hKX] at hkn
                rw [← hBX] at hbn
                have HKX := hid hKX; have HBX := hid hBX
                clear hKX hBX
                go_wp2_with fail
                refine (hrd _).mono ?_
                rintro e w4 ⟨rfl, rfl⟩
                go_upto_region 15 with (fail)
                obtain ⟨wo, rfl⟩ : ∃ wo : World, wo = wr := ⟨_, rfl⟩
                have hbox := TWo.box.lt
                refine wp_region_S (fun Y => Y.cell? ⟨w2.heap.size, 0, none⟩ = some v1 ∧ Y.cell? ⟨w2.heap.size, 1, none⟩ = some v2) 11 (by kernel_rfl) ?_
                have hS0 : wo.drew.cell? ⟨w2.heap.size, 0, none⟩ = some v1 ∧ wo.drew.cell? ⟨w2.heap.size, 1, none⟩ = some v2 := ⟨TWo.box.at_ 0 rfl, TWo.box.at_ 1 rfl⟩
                refine anyS_pure (i := 0) rfl (by kernel_rfl) (fun _ _ _ h => h) (Or.inl ⟨by rfl, fun Y hYb => (by clear hYb; go_simp; rfl)⟩) ?_
                refine anyS_pure (i := 2) rfl (by kernel_rfl) (fun _ _ _ h => h) (Or.inl ⟨by rfl, fun Y hYb => (by clear hYb; go_simp; rfl)⟩) ?_
                refine anyS_pure (i := 5) rfl (by kernel_rfl) (fun _ _ _ h => h) (Or.inl ⟨by rfl, fun Y hYb => (by clear hYb; go_simp; rfl)⟩) ?_
                refine anyS_pure (i := 7) rfl (by kernel_rfl) (fun _ _ _ h => h) (Or.inl ⟨by rfl, fun Y hYb => (by clear hYb; go_simp; rfl)⟩) ?_
                refine anyS_take (i := 1) rfl (by kernel_rfl) (fun _ _ _ h => h) (Or.inl ⟨by rfl, fun Y hYb => (by (try dsimp only at hYb); obtain ⟨y0, y1⟩ := hYb; go_simp; rfl)⟩) (by assumption) ?_
                refine anyS_take (i := 6) rfl (by kernel_rfl) (fun _ _ _ h => h) (Or.inl ⟨by rfl, fun Y hYb => (by (try dsimp only at hYb); obtain ⟨y0, y1⟩ := hYb; go_simp; rfl)⟩) (by assumption) ?_
                refine anyS_two (i := 3) (j := 8) (by kernel_rfl) rfl rfl (by rfl) (by rfl) (fun KK hK => ?_) (fun KK hK => ?_)
                · go_simp
                  have hS3 : (wo.alloc (.cells #[.int .i64 (rdK ch.toNat)] 3)).drew.cell? ⟨w2.heap.size, 0, none⟩ = some v1 ∧ (wo.alloc (.cells #[.int .i64 (rdK ch.toNat)] 3)).drew.cell? ⟨w2.heap.size, 1, none⟩ = some v2 := ⟨(TWo.box.alloc _).drew.at_ 0 rfl, (TWo.box.alloc _).drew.at_ 1 rfl⟩
                  refine hK _ _ (fun _ _ => hS3) ?_
                  clear hK KK
                  refine anyS_two (i := 4) (j := 8) (by kernel_rfl) rfl rfl (by rfl) (by rfl) (fun KK hK => ?_) (fun KK hK => ?_)
                  · have c3 : (wo.alloc (.cells #[.int .i64 (rdK ch.toNat)] 3)).drew.cell? ⟨wo.heap.size, 0, none⟩ = some (.int .i64 (rdK ch.toNat)) := cell_new _ _ _ 0 _ rfl
                    refine wp_append_lies _ _ _ 25 rfl (w2.heap.size + 1) 3 i0 (.int .i64 0) 1 8 Try.underlying25 hi hz0 hz1 hz2 rfl (by decide) v1 _ _ rfl (own_drew (TWo.k.alloc (.cells #[.int .i64 (rdK ch.toNat)] 3))) ⟨wo.heap.size, 0, none⟩ 1 1 [.int .i64 (rdK ch.toNat)] rfl rfl (news1 c3) (by simp [Value.oneCell']) (by omega) (by unfold maxLen; omega) (by omega) (by first | omega | (simp; omega)) _ rfl ?_
                    intro g1 cap1 w4 hown4 hgr4 hat4 hlt4
                    have hszW : wo.heap.size < ((wo.alloc (.cells #[.int .i64 (rdK ch.toNat)] 3)).drew).heap.size := by simp only [World.size_drew, World.size_alloc]; omega
                    have hneg1 : v2.ownBlock ≠ some g1 := fun e => by
                      rcases hat4 with h | h
                      · exact TWo.ne g1 h e
                      · have := own_lt TWo.b g1 e; omega
                    have hbn1 : ∀ q, q < w2.heap.size + 1 → some q ≠ v1.ownBlock := fun q hq e => by have := own_base TWo.k q e.symm; omega
                    have hg1b : w2.heap.size + 1 ≤ g1 := by
                      rcases hat4 with h | h
                      · exact own_base TWo.k g1 h
                      · omega
                    have X4 := Bx.grown ((TWo.box.alloc (.cells #[.int .i64 (rdK ch.toNat)] 3)).drew) hgr4 (hbn1 _ (by omega))
                    have hownb4 := own_grown (own_drew (TWo.b.alloc (.cells #[.int .i64 (rdK ch.toNat)] 3))) hgr4 (fun g hg e => TWo.ne g e.symm hg)
                    have hB4 := Below.grown ((balloc hB (.cells #[.int .i64 (rdK ch.toNat)] 3)).drew) hgr4 (by have := hB.size; first | (simp; done) | (simp; omega)) (fun g hg => Nat.le_trans (by omega) (own_base TWo.k g hg))
                    have hS4 : w4.cell? ⟨w2.heap.size, 0, none⟩ = some v1 ∧ w4.cell? ⟨w2.heap.size, 1, none⟩ = some v2 := ⟨X4.at_ 0 rfl, X4.at_ 1 rfl⟩
                    refine hK _ _ (fun _ _ => hS4) ?_
                    clear hK KK
                    refine anyS_pure (i := 10) rfl (by kernel_rfl) (fun _ _ _ h => h) (Or.inl ⟨by rfl, fun Y hYb => (by clear hYb; go_simp; rfl)⟩) ?_
                    refine anyS_one (i := 8) (by kernel_rfl) rfl (by rfl) (fun KK hK => ?_)
                    go_simp
                    have hS8 : (w4.alloc (.cells #[.int .i64 (rdB ch.toNat)] 3)).cell? ⟨w2.heap.size, 0, none⟩ = some v1 ∧ (w4.alloc (.cells #[.int .i64 (rdB ch.toNat)] 3)).cell? ⟨w2.heap.size, 1, none⟩ = some v2 := ⟨(X4.alloc _).at_ 0 rfl, (X4.alloc _).at_ 1 rfl⟩
                    refine hK _ _ (fun _ _ => hS8) ?_
                    clear hK KK
                    have c8 : (w4.alloc (.cells #[.int .i64 (rdB ch.toNat)] 3)).cell? ⟨w4.heap.size, 0, none⟩ = some (.int .i64 (rdB ch.toNat)) := cell_new _ _ _ 0 _ rfl
                    have Xx := X4.alloc (.cells #[.int .i64 (rdB ch.toNat)] 3)
                    have hownk := hown4.alloc (.cells #[.int .i64 (rdB ch.toNat)] 3)
                    have hownb := hownb4.alloc (.cells #[.int .i64 (rdB ch.toNat)] 3)
                    have hBx := balloc hB4 (.cells #[.int .i64 (rdB ch.toNat)] 3)
                    have hg1x : g1 < (w4.alloc (.cells #[.int .i64 (rdB ch.toNat)] 3)).heap.size := by simp; omega
                    clear hS8 hS4 hS3 hown4 hownb4 X4 hB4 c3
                    refine anyS_one (i := 9) (by kernel_rfl) rfl (by rfl) (fun KK hK => ?_)
                    refine wp_append_lies _ _ _ 25 rfl (w2.heap.size + 1) 3 i0 (.int .i64 0) 1 8 Try.underlying25 hi hz0 hz1 hz2 rfl (by decide) v2 _ _ rfl hownb ⟨w4.heap.size, 0, none⟩ 1 1 [.int .i64 (rdB ch.toNat)] rfl rfl (news1 c8) (by simp [Value.oneCell']) (by omega) (by unfold maxLen; omega) (by omega) (by first | omega | (simp; omega)) _ rfl ?_
                    intro g2 cap2 w9 hown9 hgr9 hat9 hlt9
                    have hown1_9 := own_grown hownk hgr9 (fun g hg e => hneg1 (by rw [← e]; exact hg.symm))
                    have hbne : ∀ q, q < w2.heap.size + 1 → some q ≠ v2.ownBlock := fun q hq e => by have := own_base hownb q e.symm; omega
                    have X9 := Xx.grown hgr9 (hbne _ (by omega))
                    have hB9 := hBx.grown hgr9 hBx.size (fun g hg => Nat.le_trans (by omega) (own_base hownb g hg))
                    have hg12 : g1 ≠ g2 := fun e => by
                      rcases hat9 with h | h
                      · exact hneg1 (by rw [h, e])
                      · omega
                    have hgb2 : w2.heap.size + 1 ≤ g2 := by
                      obtain ⟨g', c', hv, hb', _⟩ := hown9.form (by omega)
                      injection hv with hv; injection hv with hv; injection hv with hv; omega
                    have hS9 : w9.cell? ⟨w2.heap.size, 0, none⟩ = some v1 ∧ w9.cell? ⟨w2.heap.size, 1, none⟩ = some v2 := ⟨X9.at_ 0 rfl, X9.at_ 1 rfl⟩
                    refine hK _ _ (fun _ _ => hS9) ?_
                    clear hK KK
                    have x90 := X9.at_ 0 rfl; have x91 := X9.at_ 1 rfl; have x9f := X9.free; have x9z := X9.lt
                    refine anyS_one (i := 11) (by kernel_rfl) rfl (by rfl) (fun K hK => ?_)
                    go_simp
                    refine hK _ _ (fun h _ => absurd h (by decide)) ?_
                    clear hK K
                    refine anyS_pure (i := 12) rfl (by kernel_rfl) (fun _ _ _ h => h) (Or.inl ⟨by rfl, fun Y hYb => (by clear hYb; go_simp; rfl)⟩) ?_
                    refine anyS_one (i := 13) (by kernel_rfl) rfl (by rfl) (fun K hK => ?_)
                    go_simp
                    refine hK _ _ (fun h _ => absurd h (by decide)) ?_
                    clear hK K
                    refine anyS_done (by kernel_rfl) ?_ _
                    clear x90 x91 x9f x9z hS9
                    have hf : ∀ q, w2.heap.size + 1 ≤ q → ∀ (n cap g : Nat), (Value.slice (some ⟨q, 0, none⟩) n cap).ownBlock = some g → g ≠ w2.heap.size := fun q hq n cap g hg e => by
                      have h : q = g := by injection hg
                      omega
                    have hf2 := hf
                    go_wp2_with fail
                    go_roundw
                    case rel => exact ⟨i + 1, _, _, _, by omega, by omega, by go_num, rfl, (fun h => ⟨hlt2, hplW, fun j hj => by
                        rcases Nat.lt_succ_iff_lt_or_eq.1 hj with h' | rfl
                        · exact HOKI.out j h'
                        · rw [HCH.out]; exact h⟩), HBADG.out, ⟨(X9.set_ 0 (by simp) _).set_ 1 (by simp) _, (by
                          rw [HKT.out, ← List.append_assoc, ← HKX.out]
                          exact own_far (p := ⟨w2.heap.size, 1, none⟩) (own_far (p := ⟨w2.heap.size, 0, none⟩) (own_snoc hown1_9) (hf g1 hg1b _ _) _) (hf g1 hg1b _ _) _), (by
                          rw [HBT.out, ← List.append_assoc, ← HBX.out]
                          exact own_far (p := ⟨w2.heap.size, 1, none⟩) (own_far (p := ⟨w2.heap.size, 0, none⟩) (own_snoc hown9) (hf g2 hgb2 _ _) _) (hf g2 hgb2 _ _) _), (fun g hg e => by
                          have e1 : g1 = g := (by injection hg)
                          have e2 : g2 = g := (by injection e)
                          omega), by omega⟩, bset (bset hB9 (by dsimp only; omega) _) (by dsimp only; omega) _⟩
                    case measure => simp [intOf]; omega
                  · go_simp
                    have hS5 : ((wo.alloc (.cells #[.int .i64 (rdK ch.toNat)] 3)).alloc (.cells #[.int .i64 (rdB ch.toNat)] 3)).drew.cell? ⟨w2.heap.size, 0, none⟩ = some v1 ∧ ((wo.alloc (.cells #[.int .i64 (rdK ch.toNat)] 3)).alloc (.cells #[.int .i64 (rdB ch.toNat)] 3)).drew.cell? ⟨w2.heap.size, 1, none⟩ = some v2 := ⟨((TWo.box.alloc _).alloc _).drew.at_ 0 rfl, ((TWo.box.alloc _).alloc _).drew.at_ 1 rfl⟩
                    refine hK _ _ (fun _ _ => hS5) ?_
                    clear hK KK
                    refine anyS_one (i := 4) (by kernel_rfl) rfl (by rfl) (fun KK hK => ?_)
                    have c3 : ((wo.alloc (.cells #[.int .i64 (rdK ch.toNat)] 3)).alloc (.cells #[.int .i64 (rdB ch.toNat)] 3)).drew.cell? ⟨wo.heap.size, 0, none⟩ = some (.int .i64 (rdK ch.toNat)) := by first | exact (cell_old _ _ (by simp)).trans (cell_new _ _ _ 0 _ rfl) | exact cell_new _ _ _ 0 _ rfl | (simp; done)
                    have c8' : ((wo.alloc (.cells #[.int .i64 (rdK ch.toNat)] 3)).alloc (.cells #[.int .i64 (rdB ch.toNat)] 3)).drew.cell? ⟨wo.heap.size + 1, 0, none⟩ = some (.int .i64 (rdB ch.toNat)) := by first | exact (cell_old _ _ (by simp)).trans (cell_new _ _ _ 0 _ rfl) | exact cell_new _ _ _ 0 _ rfl | (simp; done)
                    refine wp_append_lies _ _ _ 25 rfl (w2.heap.size + 1) 3 i0 (.int .i64 0) 1 8 Try.underlying25 hi hz0 hz1 hz2 rfl (by decide) v1 _ _ rfl (own_drew ((TWo.k.alloc _).alloc _)) ⟨wo.heap.size, 0, none⟩ 1 1 [.int .i64 (rdK ch.toNat)] rfl rfl (news1 c3) (by simp [Value.oneCell']) (by omega) (by unfold maxLen; omega) (by omega) (by first | omega | (simp; omega)) _ rfl ?_
                    intro g1 cap1 w4 hown4 hgr4 hat4 hlt4
                    have c8 := (hgr4.cell_far ⟨wo.heap.size + 1, 0, none⟩ (by simp only [World.size_drew, World.size_alloc]; omega) (fun e => by have := own_lt TWo.k (wo.heap.size + 1) e.symm; omega)).trans c8'
                    have hszW : wo.heap.size < (((wo.alloc (.cells #[.int .i64 (rdK ch.toNat)] 3)).alloc (.cells #[.int .i64 (rdB ch.toNat)] 3)).drew).heap.size := by simp only [World.size_drew, World.size_alloc]; omega
                    have hneg1 : v2.ownBlock ≠ some g1 := fun e => by
                      rcases hat4 with h | h
                      · exact TWo.ne g1 h e
                      · have := own_lt TWo.b g1 e; omega
                    have hbn1 : ∀ q, q < w2.heap.size + 1 → some q ≠ v1.ownBlock := fun q hq e => by have := own_base TWo.k q e.symm; omega
                    have hg1b : w2.heap.size + 1 ≤ g1 := by
                      rcases hat4 with h | h
                      · exact own_base TWo.k g1 h
                      · omega
                    have X4 := Bx.grown (((TWo.box.alloc _).alloc _).drew) hgr4 (hbn1 _ (by omega))
                    have hownb4 := own_grown (own_drew ((TWo.b.alloc _).alloc _)) hgr4 (fun g hg e => TWo.ne g e.symm hg)
                    have hB4 := Below.grown ((balloc (balloc hB _) _).drew) hgr4 (by have := hB.size; first | (simp; done) | (simp; omega)) (fun g hg => Nat.le_trans (by omega) (own_base TWo.k g hg))
                    have hS4 : w4.cell? ⟨w2.heap.size, 0, none⟩ = some v1 ∧ w4.cell? ⟨w2.heap.size, 1, none⟩ = some v2 := ⟨X4.at_ 0 rfl, X4.at_ 1 rfl⟩
                    refine hK _ _ (fun _ _ => hS4) ?_
                    clear hK KK
                    refine anyS_pure (i := 10) rfl (by kernel_rfl) (fun _ _ _ h => h) (Or.inl ⟨by rfl, fun Y hYb => (by clear hYb; go_simp; rfl)⟩) ?_
                    have Xx := X4
                    have hownk := hown4
                    have hownb := hownb4
                    have hBx := hB4
                    have hg1x : g1 < w4.heap.size := hlt4
                    clear hS5 hS4 hS3 c3 c8' hown4 hownb4 X4 hB4
                    refine anyS_one (i := 9) (by kernel_rfl) rfl (by rfl) (fun KK hK => ?_)
                    refine wp_append_lies _ _ _ 25 rfl (w2.heap.size + 1) 3 i0 (.int .i64 0) 1 8 Try.underlying25 hi hz0 hz1 hz2 rfl (by decide) v2 _ _ rfl hownb ⟨wo.heap.size + 1, 0, none⟩ 1 1 [.int .i64 (rdB ch.toNat)] rfl rfl (news1 c8) (by simp [Value.oneCell']) (by omega) (by unfold maxLen; omega) (by omega) (by first | omega | (simp; omega)) _ rfl ?_
                    intro g2 cap2 w9 hown9 hgr9 hat9 hlt9
                    have hown1_9 := own_grown hownk hgr9 (fun g hg e => hneg1 (by rw [← e]; exact hg.symm))
                    have hbne : ∀ q, q < w2.heap.size + 1 → some q ≠ v2.ownBlock := fun q hq e => by have := own_base hownb q e.symm; omega
                    have X9 := Xx.grown hgr9 (hbne _ (by omega))
                    have hB9 := hBx.grown hgr9 hBx.size (fun g hg => Nat.le_trans (by omega) (own_base hownb g hg))
                    have hg12 : g1 ≠ g2 := fun e => by
                      rcases hat9 with h | h
                      · exact hneg1 (by rw [h, e])
                      · omega
                    have hgb2 : w2.heap.size + 1 ≤ g2 := by
                      obtain ⟨g', c', hv, hb', _⟩ := hown9.form (by omega)
                      injection hv with hv; injection hv with hv; injection hv with hv; omega
                    have hS9 : w9.cell? ⟨w2.heap.size, 0, none⟩ = some v1 ∧ w9.cell? ⟨w2.heap.size, 1, none⟩ = some v2 := ⟨X9.at_ 0 rfl, X9.at_ 1 rfl⟩
                    refine hK _ _ (fun _ _ => hS9) ?_
                    clear hK KK
                    have x90 := X9.at_ 0 rfl; have x91 := X9.at_ 1 rfl; have x9f := X9.free; have x9z := X9.lt
                    refine anyS_one (i := 11) (by kernel_rfl) rfl (by rfl) (fun K hK => ?_)
                    go_simp
                    refine hK _ _ (fun h _ => absurd h (by decide)) ?_
                    clear hK K
                    refine anyS_pure (i := 12) rfl (by kernel_rfl) (fun _ _ _ h => h) (Or.inl ⟨by rfl, fun Y hYb => (by clear hYb; go_simp; rfl)⟩) ?_
                    refine anyS_one (i := 13) (by kernel_rfl) rfl (by rfl) (fun K hK => ?_)
                    go_simp
                    refine hK _ _ (fun h _ => absurd h (by decide)) ?_
                    clear hK K
                    refine anyS_done (by kernel_rfl) ?_ _
                    clear x90 x91 x9f x9z hS9
                    have hf : ∀ q, w2.heap.size + 1 ≤ q → ∀ (n cap g : Nat), (Value.slice (some ⟨q, 0, none⟩) n cap).ownBlock = some g → g ≠ w2.heap.size := fun q hq n cap g hg e => by
                      have h : q = g := by injection hg
                      omega
                    have hf2 := hf
                    go_wp2_with fail
                    go_roundw
                    case rel => exact ⟨i + 1, _, _, _, by omega, by omega, by go_num, rfl, (fun h => ⟨hlt2, hplW, fun j hj => by
                        rcases Nat.lt_succ_iff_lt_or_eq.1 hj with h' | rfl
                        · exact HOKI.out j h'
                        · rw [HCH.out]; exact h⟩), HBADG.out, ⟨(X9.set_ 0 (by simp) _).set_ 1 (by simp) _, (by
                          rw [HKT.out, ← List.append_assoc, ← HKX.out]
                          exact own_far (p := ⟨w2.heap.size, 1, none⟩) (own_far (p := ⟨w2.heap.size, 0, none⟩) (own_snoc hown1_9) (hf g1 hg1b _ _) _) (hf g1 hg1b _ _) _), (by
                          rw [HBT.out, ← List.append_assoc, ← HBX.out]
                          exact own_far (p := ⟨w2.heap.size, 1, none⟩) (own_far (p := ⟨w2.heap.size, 0, none⟩) (own_snoc hown9) (hf g2 hgb2 _ _) _) (hf g2 hgb2 _ _) _), (fun g hg e => by
                          have e1 : g1 = g := (by injection hg)
                          have e2 : g2 = g := (by injection e)
                          omega), by omega⟩, bset (bset hB9 (by dsimp only; omega) _) (by dsimp only; omega) _⟩
                    case measure => simp [intOf]; omega
                · go_simp
                  have hS3 : (wo.alloc (.cells #[.int .i64 (rdB ch.toNat)] 3)).drew.cell? ⟨w2.heap.size, 0, none⟩ = some v1 ∧ (wo.alloc (.cells #[.int .i64 (rdB ch.toNat)] 3)).drew.cell? ⟨w2.heap.size, 1, none⟩ = some v2 := ⟨(TWo.box.alloc _).drew.at_ 0 rfl, (TWo.box.alloc _).drew.at_ 1 rfl⟩
                  refine hK _ _ (fun _ _ => hS3) ?_
                  clear hK KK
                  refine anyS_one (i := 3) (by kernel_rfl) rfl (by rfl) (fun KK hK => ?_)
                  go_simp
                  have hS5 : ((wo.alloc (.cells #[.int .i64 (rdB ch.toNat)] 3)).alloc (.cells #[.int .i64 (rdK ch.toNat)] 3)).drew.cell? ⟨w2.heap.size, 0, none⟩ = some v1 ∧ ((wo.alloc (.cells #[.int .i64 (rdB ch.toNat)] 3)).alloc (.cells #[.int .i64 (rdK ch.toNat)] 3)).drew.cell? ⟨w2.heap.size, 1, none⟩ = some v2 := ⟨((TWo.box.alloc _).alloc _).drew.at_ 0 rfl, ((TWo.box.alloc _).alloc _).drew.at_ 1 rfl⟩
                  refine hK _ _ (fun _ _ => hS5) ?_
                  clear hK KK
                  refine anyS_one (i := 4) (by kernel_rfl) rfl (by rfl) (fun KK hK => ?_)
                  have c3 : ((wo.alloc (.cells #[.int .i64 (rdB ch.toNat)] 3)).alloc (.cells #[.int .i64 (rdK ch.toNat)] 3)).drew.cell? ⟨wo.heap.size + 1, 0, none⟩ = some (.int .i64 (rdK ch.toNat)) := by first | exact (cell_old _ _ (by simp)).trans (cell_new _ _ _ 0 _ rfl) | exact cell_new _ _ _ 0 _ rfl | (simp; done)
                  have c8' : ((wo.alloc (.cells #[.int .i64 (rdB ch.toNat)] 3)).alloc (.cells #[.int .i64 (rdK ch.toNat)] 3)).drew.cell? ⟨wo.heap.size, 0, none⟩ = some (.int .i64 (rdB ch.toNat)) := by first | exact (cell_old _ _ (by simp)).trans (cell_new _ _ _ 0 _ rfl) | exact cell_new _ _ _ 0 _ rfl | (simp; done)
                  refine wp_append_lies _ _ _ 25 rfl (w2.heap.size + 1) 3 i0 (.int .i64 0) 1 8 Try.underlying25 hi hz0 hz1 hz2 rfl (by decide) v1 _ _ rfl (own_drew ((TWo.k.alloc _).alloc _)) ⟨wo.heap.size + 1, 0, none⟩ 1 1 [.int .i64 (rdK ch.toNat)] rfl rfl (news1 c3) (by simp [Value.oneCell']) (by omega) (by unfold maxLen; omega) (by omega) (by first | omega | (simp; omega)) _ rfl ?_
                  intro g1 cap1 w4 hown4 hgr4 hat4 hlt4
                  have c8 := (hgr4.cell_far ⟨wo.heap.size, 0, none⟩ (by simp only [World.size_drew, World.size_alloc]; omega) (fun e => by have := own_lt TWo.k (wo.heap.size) e.symm; omega)).trans c8'
                  have hszW : wo.heap.size < (((wo.alloc (.cells #[.int .i64 (rdB ch.toNat)] 3)).alloc (.cells #[.int .i64 (rdK ch.toNat)] 3)).drew).heap.size := by simp only [World.size_drew, World.size_alloc]; omega
                  have hneg1 : v2.ownBlock ≠ some g1 := fun e => by
                    rcases hat4 with h | h
                    · exact TWo.ne g1 h e
                    · have := own_lt TWo.b g1 e; omega
                  have hbn1 : ∀ q, q < w2.heap.size + 1 → some q ≠ v1.ownBlock := fun q hq e => by have := own_base TWo.k q e.symm; omega
                  have hg1b : w2.heap.size + 1 ≤ g1 := by
                    rcases hat4 with h | h
                    · exact own_base TWo.k g1 h
                    · omega
                  have X4 := Bx.grown (((TWo.box.alloc _).alloc _).drew) hgr4 (hbn1 _ (by omega))
                  have hownb4 := own_grown (own_drew ((TWo.b.alloc _).alloc _)) hgr4 (fun g hg e => TWo.ne g e.symm hg)
                  have hB4 := Below.grown ((balloc (balloc hB _) _).drew) hgr4 (by have := hB.size; first | (simp; done) | (simp; omega)) (fun g hg => Nat.le_trans (by omega) (own_base TWo.k g hg))
                  have hS4 : w4.cell? ⟨w2.heap.size, 0, none⟩ = some v1 ∧ w4.cell? ⟨w2.heap.size, 1, none⟩ = some v2 := ⟨X4.at_ 0 rfl, X4.at_ 1 rfl⟩
                  refine hK _ _ (fun _ _ => hS4) ?_
                  clear hK KK
                  refine anyS_pure (i := 10) rfl (by kernel_rfl) (fun _ _ _ h => h) (Or.inl ⟨by rfl, fun Y hYb => (by clear hYb; go_simp; rfl)⟩) ?_
                  have Xx := X4
                  have hownk := hown4
                  have hownb := hownb4
                  have hBx := hB4
                  have hg1x : g1 < w4.heap.size := hlt4
                  clear hS5 hS4 hS3 c3 c8' hown4 hownb4 X4 hB4
                  refine anyS_one (i := 9) (by kernel_rfl) rfl (by rfl) (fun KK hK => ?_)
                  refine wp_append_lies _ _ _ 25 rfl (w2.heap.size + 1) 3 i0 (.int .i64 0) 1 8 Try.underlying25 hi hz0 hz1 hz2 rfl (by decide) v2 _ _ rfl hownb ⟨wo.heap.size, 0, none⟩ 1 1 [.int .i64 (rdB ch.toNat)] rfl rfl (news1 c8) (by simp [Value.oneCell']) (by omega) (by unfold maxLen; omega) (by omega) (by first | omega | (simp; omega)) _ rfl ?_
                  intro g2 cap2 w9 hown9 hgr9 hat9 hlt9
                  have hown1_9 := own_grown hownk hgr9 (fun g hg e => hneg1 (by rw [← e]; exact hg.symm))
                  have hbne : ∀ q, q < w2.heap.size + 1 → some q ≠ v2.ownBlock := fun q hq e => by have := own_base hownb q e.symm; omega
                  have X9 := Xx.grown hgr9 (hbne _ (by omega))
                  have hB9 := hBx.grown hgr9 hBx.size (fun g hg => Nat.le_trans (by omega) (own_base hownb g hg))
                  have hg12 : g1 ≠ g2 := fun e => by
                    rcases hat9 with h | h
                    · exact hneg1 (by rw [h, e])
                    · omega
                  have hgb2 : w2.heap.size + 1 ≤ g2 := by
                    obtain ⟨g', c', hv, hb', _⟩ := hown9.form (by omega)
                    injection hv with hv; injection hv with hv; injection hv with hv; omega
                  have hS9 : w9.cell? ⟨w2.heap.size, 0, none⟩ = some v1 ∧ w9.cell? ⟨w2.heap.size, 1, none⟩ = some v2 := ⟨X9.at_ 0 rfl, X9.at_ 1 rfl⟩
                  refine hK _ _ (fun _ _ => hS9) ?_
                  clear hK KK
                  have x90 := X9.at_ 0 rfl; have x91 := X9.at_ 1 rfl; have x9f := X9.free; have x9z := X9.lt
                  refine anyS_one (i := 11) (by kernel_rfl) rfl (by rfl) (fun K hK => ?_)
                  go_simp
                  refine hK _ _ (fun h _ => absurd h (by decide)) ?_
                  clear hK K
                  refine anyS_pure (i := 12) rfl (by kernel_rfl) (fun _ _ _ h => h) (Or.inl ⟨by rfl, fun Y hYb => (by clear hYb; go_simp; rfl)⟩) ?_
                  refine anyS_one (i := 13) (by kernel_rfl) rfl (by rfl) (fun K hK => ?_)
                  go_simp
                  refine hK _ _ (fun h _ => absurd h (by decide)) ?_
                  clear hK K
                  refine anyS_done (by kernel_rfl) ?_ _
                  clear x90 x91 x9f x9z hS9
                  have hf : ∀ q, w2.heap.size + 1 ≤ q → ∀ (n cap g : Nat), (Value.slice (some ⟨q, 0, none⟩) n cap).ownBlock = some g → g ≠ w2.heap.size := fun q hq n cap g hg e => by
                    have h : q = g := by injection hg
                    omega
                  have hf2 := hf
                  go_wp2_with fail
                  go_roundw
                  case rel => exact ⟨i + 1, _, _, _, by omega, by omega, by go_num, rfl, (fun h => ⟨hlt2, hplW, fun j hj => by
                      rcases Nat.lt_succ_iff_lt_or_eq.1 hj with h' | rfl
                      · exact HOKI.out j h'
                      · rw [HCH.out]; exact h⟩), HBADG.out, ⟨(X9.set_ 0 (by simp) _).set_ 1 (by simp) _, (by
                        rw [HKT.out, ← List.append_assoc, ← HKX.out]
                        exact own_far (p := ⟨w2.heap.size, 1, none⟩) (own_far (p := ⟨w2.heap.size, 0, none⟩) (own_snoc hown1_9) (hf g1 hg1b _ _) _) (hf g1 hg1b _ _) _), (by
                        rw [HBT.out, ← List.append_assoc, ← HBX.out]
                        exact own_far (p := ⟨w2.heap.size, 1, none⟩) (own_far (p := ⟨w2.heap.size, 0, none⟩) (own_snoc hown9) (hf g2 hgb2 _ _) _) (hf g2 hgb2 _ _) _), (fun g hg e => by
                        have e1 : g1 = g := (by injection hg)
                        have e2 : g2 = g := (by injection e)
                        omega), by omega⟩, bset (bset hB9 (by dsimp only; omega) _) (by dsimp only; omega) _⟩
                  case measure => simp [intOf]; omega
              · obtain rfl : i = p.length := (by omega)
                rw [List.take_length] at TWo
                have hgd : ∀ j, j < k + 1 → goodB W H ws j = true := fun j hj => by
                  rcases Nat.lt_succ_iff_lt_or_eq.1 hj with h | rfl
                  · exact HG.out j h
                  · exact good_iff.2 ⟨hlt2, by rw [HPK.out]; exact hplW, by rw [HPK.out]; exact okL_at.2 HOKI.out⟩
                have HGD := hid hgd
                have e1 := kTo_succ (ws := ws) (k := k) (by omega)
                have e2 := bTo_succ (ws := ws) (k := k) (by omega)
                rw [HPK.out] at e1 e2
                rw [← e1, ← e2] at TWo
                clear hgd e1 e2
                go_wp2_with fail
                go_roundw
                case rel => exact ⟨k + 1, v1, v2, by omega, by go_num, HGD.out, TWo, hB⟩
                case measure => simp [intOf]; omega
        · have hgk : goodB W H ws k = false := by
            cases h : goodB W H ws k
            · rfl
            · have := (good_iff.1 h).2.1; rw [HPK.out] at this; exact absurd this hpl
          have hbn := badN_is (W := W) (H := H) (ws := ws) (j := k) (by omega) HG.out (fun _ => hgk)
          have hpn := prsB_no (W := W) (H := H) (ws := ws) (.inl (by rw [hbn]; omega))
          have hbad := prs_bad (W := W) (H := H) (l := l) (j := k) HLN.out (by rw [HWS.out]; exact hbn) (by rw [HWS.out]; exact hpn)
          obtain ⟨q1, q2, q3, q4⟩ := hbad
          have Q1 := hid q1; have Q2 := hid q2; have Q3 := hid q3; have Q4 := hid q4
          clear q1 q2 q3 q4 hbn hpn hgk
          have hplI : ((p.length : Int) == (W : Int)) = false := by rw [beq_eq_false_iff_ne]; omega
          have hklI : (k : Int) < (H : Int) := by omega
          clear hpl
          go_upto_region 10 with (fail)
          go_region_held3 (fun Y => Below wo.heap.size wo Y) ((((repeat' (first | with_reducible assumption | with_reducible exact Below.refl _ _ | with_reducible refine Below.drew ?_ | with_reducible refine below_drewN ?_ _ | with_reducible refine balloc ?_ _ | with_reducible refine bset ?_ ?_ _ | with_reducible refine Below.setCell ?_ ?_ _ | with_reducible refine Below.alloc ?_ ?_ _ | omega | (simp; done) | (simp; omega)))))) ((fail))
          go_wp2_with fail
          go_loopw [10, 11] (fun s10 s11 wr => s10 = .bool false ∧ s11 = .int .i64 0 ∧ Below w2.heap.size w2 wr) (fun _ _ _ => 0)
          case atStart => exact ⟨rfl, rfl, hB.drew⟩
          case round =>
            obtain ⟨rfl, rfl, hB2⟩ := hrel
            have x10 := (X1.below hB2).at_ 0 rfl; have x11 := (X1.below hB2).at_ 1 rfl; have x1f := (X1.below hB2).free
            have hB := bvia hB0' hB2
            go_wp2_with fail
            rw [Q1.out, Q2.out]
            refine bodyPost_ret (v := .tuple #[.agg #[.slice none 0 0, .slice none 0 0], .int .i64 (k : Int), .int .i64 2]) (by simp [results, Try.results11, go_sem, x10, x11]) rfl (prsPost_bad Q3.out Q4.out (by (repeat' (first | with_reducible assumption | with_reducible exact Below.refl _ _ | with_reducible refine Below.drew ?_ | with_reducible refine below_drewN ?_ _ | with_reducible refine balloc ?_ _ | with_reducible refine bset ?_ ?_ _ | with_reducible refine Below.setCell ?_ ?_ _ | with_reducible refine Below.alloc ?_ ?_ _ | omega | (simp; done) | (simp; omega)))))
      · have hgk : goodB W H ws k = false := by
          cases h : goodB W H ws k
          · rfl
          · exact absurd (good_iff.1 h).1 hkl
        have hbn := badN_is (W := W) (H := H) (ws := ws) (j := k) (by omega) HG.out (fun _ => hgk)
        have hpn := prsB_no (W := W) (H := H) (ws := ws) (.inl (by rw [hbn]; omega))
        have hbad := prs_bad (W := W) (H := H) (l := l) (j := k) HLN.out (by rw [HWS.out]; exact hbn) (by rw [HWS.out]; exact hpn)
        obtain ⟨q1, q2, q3, q4⟩ := hbad
        have Q1 := hid q1; have Q2 := hid q2; have Q3 := hid q3; have Q4 := hid q4
        clear q1 q2 q3 q4 hbn hpn hgk
        have hklI : decide ((k : Int) < (H : Int)) = false := by rw [decide_eq_false_iff_not]; omega
        have hklE : (k < H) = False := eq_false hkl
        have hklE2 : ((k : Int) < (H : Int)) = False := eq_false (by omega)
        clear hkl
        go_upto_region 10 with (fail)
        refine wp_region_S (fun Y => Below wo.heap.size wo Y) 15 (by kernel_rfl) ?_
        refine anyS_take (i := 0) rfl (by kernel_rfl) (fun _ _ _ h => h) (Or.inl ⟨by rfl, fun Y hYb => (by (try dsimp only at hYb); go_simp; rfl)⟩) (by repeat' (first | with_reducible assumption | with_reducible exact Below.refl _ _ | with_reducible refine Below.drew ?_ | with_reducible refine below_drewN ?_ _)) ?_
        refine anyS_take (i := 1) rfl (by kernel_rfl) (fun _ _ _ h => h) (Or.inl ⟨by rfl, fun Y hYb => (by (try dsimp only at hYb); go_simp; rfl)⟩) (by repeat' (first | with_reducible assumption | with_reducible exact Below.refl _ _ | with_reducible refine Below.drew ?_ | with_reducible refine below_drewN ?_ _)) ?_
        refine anyS_take (i := 2) rfl (by kernel_rfl) (fun _ _ _ h => h) (Or.inl ⟨by rfl, fun Y hYb => (by (try dsimp only at hYb); go_simp; rfl)⟩) (by repeat' (first | with_reducible assumption | with_reducible exact Below.refl _ _ | with_reducible refine Below.drew ?_ | with_reducible refine below_drewN ?_ _)) ?_
        refine anyS_take (i := 3) rfl (by kernel_rfl) (fun _ _ _ h => h) (Or.inl ⟨by rfl, fun Y hYb => (by (try dsimp only at hYb); go_simp; rfl)⟩) (by repeat' (first | with_reducible assumption | with_reducible exact Below.refl _ _ | with_reducible refine Below.drew ?_ | with_reducible refine below_drewN ?_ _)) ?_
        refine anyS_take (i := 4) rfl (by kernel_rfl) (fun _ _ _ h => h) (Or.inl ⟨by rfl, fun Y hYb => (by (try dsimp only at hYb); go_simp; rfl)⟩) (by repeat' (first | with_reducible assumption | with_reducible exact Below.refl _ _ | with_reducible refine Below.drew ?_ | with_reducible refine below_drewN ?_ _)) ?_
        simp only [Act.put, List.setIfInBounds_toArray]
        refine anyS_take (i := 5) (v := undef) rfl (by kernel_rfl) (fun _ _ _ h => h) (Or.inr ⟨by kernel_rfl, rfl⟩) (by repeat' (first | with_reducible assumption | with_reducible exact Below.refl _ _ | with_reducible refine Below.drew ?_)) ?_
        simp only [Act.put]
        refine anyS_take (i := 6) (v := undef) rfl (by kernel_rfl) (fun _ _ _ h => h) (Or.inr ⟨by kernel_rfl, rfl⟩) (by repeat' (first | with_reducible assumption | with_reducible exact Below.refl _ _ | with_reducible refine Below.drew ?_)) ?_
        simp only [Act.put]
        refine anyS_take (i := 7) (v := undef) rfl (by kernel_rfl) (fun _ _ _ h => h) (Or.inr ⟨by kernel_rfl, rfl⟩) (by repeat' (first | with_reducible assumption | with_reducible exact Below.refl _ _ | with_reducible refine Below.drew ?_)) ?_
        simp only [Act.put]
        refine anyS_take (i := 8) (v := undef) rfl (by kernel_rfl) (fun _ _ _ h => h) (Or.inr ⟨by kernel_rfl, rfl⟩) (by repeat' (first | with_reducible assumption | with_reducible exact Below.refl _ _ | with_reducible refine Below.drew ?_)) ?_
        simp only [Act.put]
        refine anyS_take (i := 9) (v := undef) rfl (by kernel_rfl) (fun _ _ _ h => h) (Or.inr ⟨by kernel_rfl, rfl⟩) (by repeat' (first | with_reducible assumption | with_reducible exact Below.refl _ _ | with_reducible refine Below.drew ?_)) ?_
        simp only [Act.put]
        refine anyS_take (i := 10) (v := undef) rfl (by kernel_rfl) (fun _ _ _ h => h) (Or.inr ⟨by kernel_rfl, rfl⟩) (by repeat' (first | with_reducible assumption | with_reducible exact Below.refl _ _ | with_reducible refine Below.drew ?_)) ?_
        simp only [Act.put]
        refine anyS_take (i := 11) (v := undef) rfl (by kernel_rfl) (fun _ _ _ h => h) (Or.inr ⟨by kernel_rfl, rfl⟩) (by repeat' (first | with_reducible assumption | with_reducible exact Below.refl _ _ | with_reducible refine Below.drew ?_)) ?_
        simp only [Act.put]
        refine anyS_take (i := 12) (v := undef) rfl (by kernel_rfl) (fun _ _ _ h => h) (Or.inr ⟨by kernel_rfl, rfl⟩) (by repeat' (first | with_reducible assumption | with_reducible exact Below.refl _ _ | with_reducible refine Below.drew ?_)) ?_
        simp only [Act.put]
        refine anyS_take (i := 13) rfl (by kernel_rfl) (fun _ _ _ h => h) (Or.inl ⟨by rfl, fun Y hYb => (by (try dsimp only at hYb); go_simp; rfl)⟩) (by repeat' (first | with_reducible assumption | with_reducible exact Below.refl _ _ | with_reducible refine Below.drew ?_ | with_reducible refine below_drewN ?_ _)) ?_
        refine anyS_take (i := 14) rfl (by kernel_rfl) (fun _ _ _ h => h) (Or.inl ⟨by rfl, fun Y hYb => (by (try dsimp only at hYb); go_simp; rfl)⟩) (by repeat' (first | with_reducible assumption | with_reducible exact Below.refl _ _ | with_reducible refine Below.drew ?_ | with_reducible refine below_drewN ?_ _)) ?_
        refine anyS_done (by kernel_rfl) ?_ _
        go_wp2_with fail
        go_loopw [10, 11] (fun s10 s11 wr => s10 = .bool false ∧ s11 = .int .i64 0 ∧ Below w2.heap.size w2 wr) (fun _ _ _ => 0)
        case atStart => exact ⟨rfl, rfl, hB.drew⟩
        case round =>
          obtain ⟨rfl, rfl, hB2⟩ := hrel
          have x10 := (X1.below hB2).at_ 0 rfl; have x11 := (X1.below hB2).at_ 1 rfl; have x1f := (X1.below hB2).free
          have hB := bvia hB0' hB2
          go_wp2_with fail
          rw [Q1.out, Q2.out]
          refine bodyPost_ret (v := .tuple #[.agg #[.slice none 0 0, .slice none 0 0], .int .i64 (k : Int), .int .i64 2]) (by simp [results, Try.results11, go_sem, x10, x11]) rfl (prsPost_bad Q3.out Q4.out (by (repeat' (first | with_reducible assumption | with_reducible exact Below.refl _ _ | with_reducible refine Below.drew ?_ | with_reducible refine below_drewN ?_ _ | with_reducible refine balloc ?_ _ | with_reducible refine bset ?_ ?_ _ | with_reducible refine Below.setCell ?_ ?_ _ | with_reducible refine Below.alloc ?_ ?_ _ | omega | (simp; done) | (simp; omega)))))
    · have hwk : ws.length = k + 1 := by omega
      obtain ⟨bs, os, rfl, hbs, cs⟩ := (SW.below hB) k (by omega)
      dsimp only at cs
      have hlast := getD_lastD hwk
      obtain ⟨p, hp⟩ : ∃ p, p = ws.getD k [] := ⟨_, rfl⟩
      rw [← hp] at cs hlast
      have HLT := hid hlast
      have hkI : ((ws.length : Nat) : Int) - 1 = (k : Int) := by omega
      have i3 : IntKind.i64.wrap (k : Int) = (k : Int) := IntWalk.i64_in _ ⟨by omega, by omega⟩
      have i3' : IntKind.i64.wrap ((ws.length : Int) - 1) = (k : Int) := by rw [hkI]; exact i3
      have i1 : (0 : Int) ≤ (k : Int) := by omega
      have i2 : (k : Int) < (ws.length : Int) := by omega
      have x0 := (X0.below hB).at_ 1 rfl
      have hbn := badN_is (W := W) (H := H) (ws := ws) (j := k) (by omega) HG.out (fun h => by omega)
      clear hp hlast
      have HBN := hid hbn; clear hbn
      cases p with
      | cons ch t =>
        have hpn := prsB_no (W := W) (H := H) (ws := ws) (.inr (.inr (by rw [HLT.out]; simp)))
        have hbad := prs_bad (W := W) (H := H) (l := l) (j := k) HLN.out (by rw [HWS.out]; exact HBN.out) (by rw [HWS.out]; exact hpn)
        obtain ⟨q1, q2, q3, q4⟩ := hbad
        have Q1 := hid q1; have Q2 := hid q2; have Q3 := hid q3; have Q4 := hid q4
        clear q1 q2 q3 q4 hpn
        have x10 := (X1.below hB).at_ 0 rfl; have x11 := (X1.below hB).at_ 1 rfl; have x1f := (X1.below hB).free
        have hB := bvia hB0' hB
        go_wp2_with fail
        rw [Q1.out, Q2.out]
        refine bodyPost_ret (v := .tuple #[.agg #[.slice none 0 0, .slice none 0 0], .int .i64 (k : Int), .int .i64 2]) (by simp [results, Try.results11, go_sem, x10, x11]) rfl (prsPost_bad Q3.out Q4.out (by (repeat' (first | with_reducible assumption | with_reducible exact Below.refl _ _ | with_reducible refine Below.drew ?_ | with_reducible refine below_drewN ?_ _ | with_reducible refine balloc ?_ _ | with_reducible refine bset ?_ ?_ _ | with_reducible refine Below.setCell ?_ ?_ _ | with_reducible refine Below.alloc ?_ ?_ _ | omega | (simp; done) | (simp; omega)))))
      | nil =>
        by_cases hkH2 : k = H
        rotate_left
        · have hpn := prsB_no (W := W) (H := H) (ws := ws) (.inr (.inl (by omega)))
          have hbad := prs_bad (W := W) (H := H) (l := l) (j := k) HLN.out (by rw [HWS.out]; exact HBN.out) (by rw [HWS.out]; exact hpn)
          obtain ⟨q1, q2, q3, q4⟩ := hbad
          have Q1 := hid q1; have Q2 := hid q2; have Q3 := hid q3; have Q4 := hid q4
          clear q1 q2 q3 q4 hpn
          have x10 := (X1.below hB).at_ 0 rfl; have x11 := (X1.below hB).at_ 1 rfl; have x1f := (X1.below hB).free
          have hB := bvia hB0' hB
          have hkb2 : ((k : Int) == (H : Int)) = false := by rw [beq_eq_false_iff_ne]; omega
          have hkb3 : ((k : Int) != (H : Int)) = true := by simp; omega
          go_wp2_with fail
          rw [Q1.out, Q2.out]
          refine bodyPost_ret (v := .tuple #[.agg #[.slice none 0 0, .slice none 0 0], .int .i64 (k : Int), .int .i64 2]) (by simp [results, Try.results11, go_sem, x10, x11]) rfl (prsPost_bad Q3.out Q4.out (by (repeat' (first | with_reducible assumption | with_reducible exact Below.refl _ _ | with_reducible refine Below.drew ?_ | with_reducible refine below_drewN ?_ _ | with_reducible refine balloc ?_ _ | with_reducible refine bset ?_ ?_ _ | with_reducible refine Below.setCell ?_ ?_ _ | with_reducible refine Below.alloc ?_ ?_ _ | omega | (simp; done) | (simp; omega)))))
        · subst hkH2
          clear hkb
          have hok := prs_ok (W := W) (H := k) (l := l) HLN.out (by rw [HWS.out]; exact prsB_yes (by rw [HBN.out]; omega) (by omega) HLT.out)
          rw [HWS.out] at hok
          obtain ⟨q1, q2, q3, q4⟩ := hok
          have Q1 := hid q1; have Q2 := hid q2; have Q3 := hid q3; have Q4 := hid q4
          clear q1 q2 q3 q4
          have x10 := (X1.below hB).at_ 0 rfl; have x11 := (X1.below hB).at_ 1 rfl; have x1f := (X1.below hB).free; have x1z := (X1.below hB).lt
          have y10 := TWo.box.at_ 0 rfl; have y11 := TWo.box.at_ 1 rfl; have y1z := TWo.box.lt
          have hp1 : ∀ g, v1.ownBlock = some g → g ≠ w.heap.size + 1 := fun g hg e => by have := own_base TWo.k g hg; omega
          have hp2 : ∀ g, v2.ownBlock = some g → g ≠ w.heap.size + 1 := fun g hg e => by have := own_base TWo.b g hg; omega
          have o1 := own_far (p := ⟨w.heap.size + 1, 1, none⟩) (own_far (p := ⟨w.heap.size + 1, 0, none⟩) TWo.k hp1 v1) hp1 v2
          have o2 := own_far (p := ⟨w.heap.size + 1, 1, none⟩) (own_far (p := ⟨w.heap.size + 1, 0, none⟩) TWo.b hp2 v1) hp2 v2
          obtain ⟨a1, c1, hv1, S1⟩ := sl_of_own o1
          obtain ⟨a2, c2, hv2, S2⟩ := sl_of_own o2
          subst hv1 hv2
          have hB := bvia hB0' hB
          clear o1 o2 hp1 hp2
          go_wp2_with fail
          rw [Q1.out, Q2.out, Q3.out, Q4.out]
          refine bodyPost_ret (v := .tuple #[.agg #[.slice a1 (kTo ws k).length c1, .slice a2 (bTo ws k).length c2], .int .i64 0, .int .i64 0]) (by simp [results, Try.results11, go_sem, x10, x11]) rfl ⟨a1, c1, a2, c2, rfl, S1, S2, by (repeat' (first | with_reducible assumption | with_reducible exact Below.refl _ _ | with_reducible refine Below.drew ?_ | with_reducible refine below_drewN ?_ _ | with_reducible refine balloc ?_ _ | with_reducible refine bset ?_ ?_ _ | with_reducible refine Below.setCell ?_ ?_ _ | with_reducible refine Below.alloc ?_ ?_ _ | omega | (simp; done) | (simp; omega)))⟩
end Go.Proofs.Ythlbmlfkmfheiaa
