/- Walks: the reference's Disc and Smooth. -/
import Derived.Test.YtnnaegnkkpknpaaRDisc
import Derived.Deep.CutRange
namespace Go.Proofs.Ytnnaegnkkpknpaa
open Go.RowKit
attribute [local go_sem ↓] Go.wp_at_zero Go.wp_at_succ
set_option linter.unusedVariables false
def shErr (e0 : Int) (s B : Nat → Int) (body : Int) (n : Nat) : Int := if e0 = 0 then putErr s B body n else e0
def shLen (e0 : Int) (s B : Nat → Int) (body : Int) (n : Nat) : Nat := if e0 = 0 then putLen s B body n else 0
theorem shape_flat {e0 : Int} {s K B : Nat → Int} {body : Int} {n : Nat} {w w' : World} {e : Ending} (h : ShapePost e0 s body n K B w e w') : WallPost (shErr e0 s B body n) (shLen e0 s B body n) (putTo s K s n) (putTo s B (fun _ => body) n) w e w' := by
  by_cases h0 : e0 = 0
  · rw [shErr, shLen, if_pos h0, if_pos h0]; exact h.1 h0
  · rw [shErr, shLen, if_neg h0, if_neg h0]
    obtain ⟨a, a', c, c', he, _, _, hb⟩ := h.2 h0
    exact ⟨a, a', c, c', he, fun k hk => by omega, fun k hk => by omega, hb⟩
theorem shLen_le (e0 : Int) (s B : Nat → Int) (body : Int) (n : Nat) : shLen e0 s B body n ≤ n := by
  unfold shLen; split
  · exact putLen_le _ _ _ _
  · omega
set_option maxRecDepth 100000 in
set_option maxHeartbeats 8000000 in
theorem ref3_disc (wide high q body : Int) (sm : Bool) (p : Int × Int) (a ak ab : Option Addr) (n nk nb c ck cb : Nat) (g : Nat → C4) (K B : Nat → Int) (w : World) (hn : n ≤ 100000) (hnk : nk ≤ 100000) (hnb : nb ≤ 100000) (H : Sc w a n g) (HK : Sl w ak nk K) (HB : Sl w ab nb B) :
    Calls Try.prog 91 #[.agg #[.int .i64 wide, .int .i64 high, .slice a n c], .agg #[.slice ak nk ck, .slice ab nb cb], .agg #[.int .i64 p.1, .int .i64 p.2], .int .i64 q, .int .i64 body, .bool sm] w
      (ShapePost (readyE (validW wide high n g nk nb K B) (allOn wide high (pts2 p p) (within q 0 10000) 1) body) (fS wide (dIn wide high p q) (discK sm wide high p q)) body n K B w) := by
  have X0 := (((Bx.new w #[.int .i64 wide, .int .i64 high, .slice a n c] 24).alloc (.cells #[.slice ak nk ck, .slice ab nb cb] 27)).alloc (.cells #[.int .i64 p.1, .int .i64 p.2] 51)).alloc (.cells #[.slice none 0 0, .slice none 0 0] 27)
  have X1 := ((Bx.new (w.alloc (.cells #[.int .i64 wide, .int .i64 high, .slice a n c] 24)) #[.slice ak nk ck, .slice ab nb cb] 27).alloc (.cells #[.int .i64 p.1, .int .i64 p.2] 51)).alloc (.cells #[.slice none 0 0, .slice none 0 0] 27)
  have X2 := (Bx.new ((w.alloc (.cells #[.int .i64 wide, .int .i64 high, .slice a n c] 24)).alloc (.cells #[.slice ak nk ck, .slice ab nb cb] 27)) #[.int .i64 p.1, .int .i64 p.2] 51).alloc (.cells #[.slice none 0 0, .slice none 0 0] 27)
  have X3 := Bx.new (((w.alloc (.cells #[.int .i64 wide, .int .i64 high, .slice a n c] 24)).alloc (.cells #[.slice ak nk ck, .slice ab nb cb] 27)).alloc (.cells #[.int .i64 p.1, .int .i64 p.2] 51)) #[.slice none 0 0, .slice none 0 0] 27
  simp only [World.size_alloc] at X1 X2 X3
  have hB0 : Below w.heap.size w ((((w.alloc (.cells #[.int .i64 wide, .int .i64 high, .slice a n c] 24)).alloc (.cells #[.slice ak nk ck, .slice ab nb cb] 27)).alloc (.cells #[.int .i64 p.1, .int .i64 p.2] 51)).alloc (.cells #[.slice none 0 0, .slice none 0 0] 27)) := by (repeat' (first | with_reducible assumption | with_reducible exact Below.refl _ _ | with_reducible refine Below.drew ?_ | with_reducible refine below_drewN ?_ _ | with_reducible refine balloc ?_ _ | with_reducible refine bset ?_ ?_ _ | with_reducible refine Below.setCell ?_ ?_ _ | with_reducible refine Below.alloc ?_ ?_ _ | omega | (simp; done) | (simp; omega)))
  go_enter Try.func91, Try.ntmps91
  go_upto_region 1 with (fail)
  generalize ((((w.alloc (.cells #[.int .i64 wide, .int .i64 high, .slice a n c] 24)).alloc (.cells #[.slice ak nk ck, .slice ab nb cb] 27)).alloc (.cells #[.int .i64 p.1, .int .i64 p.2] 51)).alloc (.cells #[.slice none 0 0, .slice none 0 0] 27)) = W0 at X0 X1 X2 X3 hB0 ⊢
  have z0 := X0.lt
  have z1 := X1.lt
  have z2 := X2.lt
  have z3 := X3.lt
  have I := H.below hB0; have IK := HK.below hB0; have IB := HB.below hB0
  go_cut [14] from 19 to 26 (fun s14 W => s14 = .int .i64 (readyE (validW wide high n g nk nb K B) (allOn wide high (pts2 p p) (within q 0 10000) 1) body) ∧ Below W0.heap.size W0 W)
  case first =>
    have r0 : ∀ W, Below W0.heap.size W0 W → W.cell? ⟨w.heap.size, 0, none⟩ = some (.int .i64 wide) := fun W h => (X0.below h).at_ 0 rfl
    have r1 : ∀ W, Below W0.heap.size W0 W → W.cell? ⟨w.heap.size, 1, none⟩ = some (.int .i64 high) := fun W h => (X0.below h).at_ 1 rfl
    have r2 : ∀ W, Below W0.heap.size W0 W → W.cell? ⟨w.heap.size, 2, none⟩ = some (.slice a n c) := fun W h => (X0.below h).at_ 2 rfl
    have r3 : ∀ W, Below W0.heap.size W0 W → W.cell? ⟨w.heap.size + 1, 0, none⟩ = some (.slice ak nk ck) := fun W h => (X1.below h).at_ 0 rfl
    have r4 : ∀ W, Below W0.heap.size W0 W → W.cell? ⟨w.heap.size + 1, 1, none⟩ = some (.slice ab nb cb) := fun W h => (X1.below h).at_ 1 rfl
    have r5 : ∀ W, Below W0.heap.size W0 W → W.cell? ⟨w.heap.size + 1 + 1, 0, none⟩ = some (.int .i64 p.1) := fun W h => (X2.below h).at_ 0 rfl
    have r6 : ∀ W, Below W0.heap.size W0 W → W.cell? ⟨w.heap.size + 1 + 1, 1, none⟩ = some (.int .i64 p.2) := fun W h => (X2.below h).at_ 1 rfl
    clear X0 X1 X2 X3
    go_region_held3 (fun W => Below W0.heap.size W0 W) ((repeat' (first | with_reducible assumption | with_reducible exact Below.refl _ _ | with_reducible refine Below.drew ?_ | with_reducible refine below_drewN ?_ _ | with_reducible refine balloc ?_ _ | with_reducible refine bset ?_ ?_ _ | with_reducible refine Below.setCell ?_ ?_ _ | with_reducible refine Below.alloc ?_ ?_ _ | omega | (simp; done) | (simp; omega))))
      ((first
        | (go_at_call 67; refine (ref3_within _ _ _ _).mono ?_; rintro e w' ⟨rfl, rfl⟩)
        | (go_at_call 83; refine (ref3_shapeError wide high body _ a ak ab _ n nk nb 1 _ _ _ _ g K B (pts2 p p) _ (by omega) (by omega) (by omega) (by omega) (I.below (by (repeat' (first | with_reducible assumption | with_reducible exact Below.refl _ _ | with_reducible refine Below.drew ?_ | with_reducible refine below_drewN ?_ _ | with_reducible refine balloc ?_ _ | with_reducible refine bset ?_ ?_ _ | with_reducible refine Below.setCell ?_ ?_ _ | with_reducible refine Below.alloc ?_ ?_ _ | omega | (simp; done) | (simp; omega))))) (IK.below (by (repeat' (first | with_reducible assumption | with_reducible exact Below.refl _ _ | with_reducible refine Below.drew ?_ | with_reducible refine below_drewN ?_ _ | with_reducible refine balloc ?_ _ | with_reducible refine bset ?_ ?_ _ | with_reducible refine Below.setCell ?_ ?_ _ | with_reducible refine Below.alloc ?_ ?_ _ | omega | (simp; done) | (simp; omega))))) (IB.below (by (repeat' (first | with_reducible assumption | with_reducible exact Below.refl _ _ | with_reducible refine Below.drew ?_ | with_reducible refine below_drewN ?_ _ | with_reducible refine balloc ?_ _ | with_reducible refine bset ?_ ?_ _ | with_reducible refine Below.setCell ?_ ?_ _ | with_reducible refine Below.alloc ?_ ?_ _ | omega | (simp; done) | (simp; omega))))) (sp_of_bx1 (by (repeat' (first | with_reducible assumption | (with_reducible refine Bx.newE ?_ _ _; (simp; done)) | with_reducible refine Bx.alloc ?_ _ | with_reducible refine Bx.drew ?_ | with_reducible refine Bx.drewN ?_ _ | with_reducible refine Bx.four ?_ | (with_reducible refine Bx.far2 ?_ ?_ _; (dsimp only; omega))))))).mono ?_; rintro e w1 ⟨rfl, hb1⟩; have hB1 : Below W0.heap.size W0 w1 := bvia (by (repeat' (first | with_reducible assumption | with_reducible exact Below.refl _ _ | with_reducible refine Below.drew ?_ | with_reducible refine below_drewN ?_ _ | with_reducible refine balloc ?_ _ | with_reducible refine bset ?_ ?_ _ | with_reducible refine Below.setCell ?_ ?_ _ | with_reducible refine Below.alloc ?_ ?_ _ | omega | (simp; done) | (simp; omega)))) hb1)
        | fail))
    all_goals
      go_wp2_with fail
      go_meet
      exact ⟨rfl, by with_reducible assumption⟩
  case rest =>
    obtain ⟨rfl, hBc⟩ := hcut
    have Y0 := X0.below hBc; have Y1 := X1.below hBc; have Y2 := X2.below hBc; have Y3 := X3.below hBc
    have hB1 : Below w.heap.size w wc := bvia hB0 hBc
    have JK := IK.below hBc; have JB := IB.below hBc
    clear X0 X1 X2 X3 I IK IB
    generalize hE : readyE (validW wide high n g nk nb K B) (allOn wide high (pts2 p p) (within q 0 10000) 1) body = er
    have y40 := Y3.at_ 0 rfl; have y41 := Y3.at_ 1 rfl; have y4f := Y3.free; have l4 := Y3.lt
    cases hne : (er != 0)
    · obtain rfl : er = 0 := by simpa using hne
      obtain ⟨hV, hO, hW⟩ := readyE_zero hE
      obtain ⟨hG, rfl, rfl, _⟩ := (validW_iff ..).1 hV
      obtain ⟨v1, v2, v3, v4, v5, v6, _, _⟩ := (validG_iff ..).1 hG
      obtain ⟨_, o1, o2, o3, o4⟩ := allOn_one hO
      have hp : 0 ≤ p.1 ∧ p.1 ≤ 63 ∧ 0 ≤ p.2 ∧ p.2 ≤ 63 := ⟨by omega, by omega, by omega, by omega⟩
      have h0 : 0 < nb := by
        have : 1 * 1 ≤ wide * high := Int.mul_le_mul v1 v3 (by omega) (by omega)
        omega
      have HV6 := hid v6
      have HE := hid hE
      clear hE hV hO hG v5 v6 hne
      have y0 := Y0.at_ 2 rfl; have l0 := Y0.lt
      have hmk := mk_shape nb (by omega)
      go_wp2_with fail
      generalize hsh : fS wide (dIn wide high p q) (discK sm wide high p q) = sh
      go_loopw [16] (fun i wr => ∃ k : Nat, k ≤ nb ∧ i = .int .i64 k ∧ Ro wr wc.heap.size nb (shTo sh k) ∧ Below wc.heap.size wc wr) (fun i _ => nb - (intOf i).toNat)
      case atStart => exact ⟨0, Nat.zero_le _, rfl, ro_zrow wc nb, below_alloc _ _⟩
      case round =>
        obtain ⟨k, hk, rfl, R, hB⟩ := hrel
        clear hmk y0
        by_cases hlt : k < nb
        · have U0 := Y0.below hB; have U2 := Y2.below hB
          have lw : 0 ≤ (k : Int) := by omega
          obtain ⟨hon, _⟩ := place_on v1 HV6.out hlt
          obtain ⟨⟨i0, i1⟩, i2, i3⟩ := onB_iff.1 hon
          have hw0 : ¬ wide = 0 := by omega
          have ht : (k : Int).tmod wide = (k : Int) % wide := Int.tmod_eq_emod_of_nonneg lw
          have hd : (k : Int).tdiv wide = (k : Int) / wide := Int.tdiv_eq_ediv_of_nonneg lw
          have hsk : sh k = if dIn wide high p q ((k : Int) % wide) ((k : Int) / wide) then discK sm wide high p q ((k : Int) % wide) ((k : Int) / wide) else 0 := by rw [← hsh]; rfl
          have HSK := hid hsk; clear hsk
          have u0 := U0.at_ 0 rfl; have u1 := U0.at_ 1 rfl; have u2 := U0.at_ 2 rfl; have p0 := U2.at_ 0 rfl; have p1 := U2.at_ 1 rfl; have zl := U0.lt; have zp := U2.lt
          have hwr : wrap64 ((k : Int) / wide) = (k : Int) / wide := by unfold wrap64; omega
          have hwr2 : IntKind.i64.wrap ((k : Int) / wide) = (k : Int) / wide := IntWalk.i64_in _ (by omega)
          clear hon
          go_upto_region 8 with (fail)
          go_quiet (fail)
          clear hwr hwr2 ht hd
          go_wp2_with fail
          refine (ref3_inDisc wide high q ((k : Int) % wide) ((k : Int) / wide) p a nb c _ ⟨v1, v2⟩ ⟨v3, v4⟩ hp (by unfold near; omega)).mono ?_
          rintro e w2 ⟨rfl, hb2⟩
          have hb2' : Below wr.heap.size wr w2 := ⟨hb2.os, hb2.tape, hb2.output, hb2.size, hb2.block⟩
          have R2 := R.below hb2'
          have hB2 : Below wc.heap.size wc w2 := bvia hB hb2'
          clear u0 u1 u2 p0 p1 zl zp
          cases hdi : dIn wide high p q ((k : Int) % wide) ((k : Int) / wide)
          · have hs0 : sh k = 0 := by rw [HSK.out, hdi]; simp
            have HS0 := hid hs0; clear hs0
            go_wp2_with fail
            go_roundw
            case rel => exact ⟨k + 1, by omega, by go_num, by rw [shTo_skip HS0.out]; exact R2, hB2⟩
            case measure => simp [intOf]; omega
          · cases sm
            · have hs0 : sh k = 1 := by rw [HSK.out, hdi]; simp [discK]
              have HS0 := hid hs0; clear hs0
              have ck := R2.cells k hlt; have fk := R2.free
              go_wp2_with fail
              go_roundw
              case rel => exact ⟨k + 1, by omega, by go_num, by rw [shTo_set, HS0.out]; exact R2.set_ k 1, by (repeat' (first | with_reducible assumption | with_reducible exact Below.refl _ _ | with_reducible refine Below.drew ?_ | with_reducible refine below_drewN ?_ _ | with_reducible refine balloc ?_ _ | with_reducible refine bset ?_ ?_ _ | with_reducible refine Below.setCell ?_ ?_ _ | with_reducible refine Below.alloc ?_ ?_ _ | omega | (simp; done) | (simp; omega)))⟩
              case measure => simp [intOf]; omega
            · have hs0 : sh k = mirF wide high p q ((k : Int) % wide) ((k : Int) / wide) := by rw [HSK.out, hdi]; simp [discK]
              have HS0 := hid hs0; clear hs0
              have V0 := U0.below hb2'; have V2 := U2.below hb2'
              have u0 := V0.at_ 0 rfl; have u1 := V0.at_ 1 rfl; have u2 := V0.at_ 2 rfl; have p0 := V2.at_ 0 rfl; have p1 := V2.at_ 1 rfl
              go_wp2_with fail
              refine (ref3_mirror wide high q ((k : Int) % wide) ((k : Int) / wide) p a nb c _ ⟨v1, v2⟩ ⟨v3, v4⟩ hp ⟨i0, by omega⟩ ⟨i2, by omega⟩).mono ?_
              rintro e w3 ⟨rfl, hb3⟩
              have R3 := R2.below hb3
              have hB3 : Below wc.heap.size wc w3 := bvia hB2 hb3
              have ck := R3.cells k hlt; have fk := R3.free
              clear u0 u1 u2 p0 p1
              generalize hmv : mirF wide high p q ((k : Int) % wide) ((k : Int) / wide) = mv
              have HMV := hid hmv; clear hmv
              go_wp2_with fail
              go_roundw
              case rel => exact ⟨k + 1, by omega, by go_num, by rw [shTo_set, HS0.out, HMV.out]; exact R3.set_ k mv, by (repeat' (first | with_reducible assumption | with_reducible exact Below.refl _ _ | with_reducible refine Below.drew ?_ | with_reducible refine below_drewN ?_ _ | with_reducible refine balloc ?_ _ | with_reducible refine bset ?_ ?_ _ | with_reducible refine Below.setCell ?_ ?_ _ | with_reducible refine Below.alloc ?_ ?_ _ | omega | (simp; done) | (simp; omega)))⟩
              case measure => simp [intOf]; omega
        · obtain rfl : k = nb := (by omega)
          have U1 := Y1.below hB; have U4 := Y3.below hB
          have u0 := U1.at_ 0 rfl; have u1 := U1.at_ 1 rfl
          have hBw : Below w.heap.size w wr := bvia hB1 hB
          have RS : Sl wr (some ⟨wc.heap.size, 0, none⟩) k sh := (R.congr (fun j hj => by simp [shTo, hj])).sl
          go_wp2_with fail
          refine (ref3_put body ak ab _ k _ _ _ K B sh _ (by omega) h0 (JK.below hB) (JB.below hB) RS).mono ?_
          rintro e w3 ⟨a1, a2, c1, c2, rfl, S1, S2, hb3⟩
          have V4 := U4.below hb3
          have y0 := V4.at_ 0 rfl; have y1 := V4.at_ 1 rfl; have yf := V4.free; have l4 := V4.lt
          have hBw3 : Below w.heap.size w w3 := bvia hBw hb3
          generalize hpl : putLen sh B body k = pl at S1 S2 ⊢
          have HPL := hid hpl; clear hpl
          go_wp2_with fail
          refine bodyPost_ret (v := .tuple #[.agg #[.slice a1 pl c1, .slice a2 pl c2], .int .i64 (putErr sh B body k)]) (by simp [results, Try.results91, go_sem, y0, y1]) rfl ?_
          rw [HE.out, hsh]
          exact ⟨fun _ => ⟨a1, a2, c1, c2, by rw [HPL.out], by rw [HPL.out]; exact S1.set2 V4 _ _, by rw [HPL.out]; exact S2.set2 V4 _ _, by (repeat' (first | with_reducible assumption | with_reducible exact Below.refl _ _ | with_reducible refine Below.drew ?_ | with_reducible refine below_drewN ?_ _ | with_reducible refine balloc ?_ _ | with_reducible refine bset ?_ ?_ _ | with_reducible refine Below.setCell ?_ ?_ _ | with_reducible refine Below.alloc ?_ ?_ _ | omega | (simp; done) | (simp; omega)))⟩, fun h => absurd rfl h⟩
    · have her : er ≠ 0 := by simpa using hne
      have HE := hid hE; clear hE
      go_wp2_with fail
      refine bodyPost_ret (v := .tuple #[.agg #[.slice none 0 0, .slice none 0 0], .int .i64 er]) (by simp [results, Try.results91, go_sem, y40, y41]) rfl (by rw [HE.out]; exact shapePost_err her (by (repeat' (first | with_reducible assumption | with_reducible exact Below.refl _ _ | with_reducible refine Below.drew ?_ | with_reducible refine below_drewN ?_ _ | with_reducible refine balloc ?_ _ | with_reducible refine bset ?_ ?_ _ | with_reducible refine Below.setCell ?_ ?_ _ | with_reducible refine Below.alloc ?_ ?_ _ | omega | (simp; done) | (simp; omega)))))
def discE (wide high q body : Int) (p : Int × Int) (n nk nb : Nat) (g : Nat → C4) (K B : Nat → Int) : Int := readyE (validW wide high n g nk nb K B) (allOn wide high (pts2 p p) (within q 0 10000) 1) body
set_option maxRecDepth 100000 in
set_option maxHeartbeats 2000000 in
theorem ref3_Disc (wide high q body : Int) (p : Int × Int) (a ak ab : Option Addr) (n nk nb c ck cb : Nat) (g : Nat → C4) (K B : Nat → Int) (w : World) (hn : n ≤ 100000) (hnk : nk ≤ 100000) (hnb : nb ≤ 100000) (H : Sc w a n g) (HK : Sl w ak nk K) (HB : Sl w ab nb B) :
    Calls Try.prog 36 #[.agg #[.int .i64 wide, .int .i64 high, .slice a n c], .agg #[.slice ak nk ck, .slice ab nb cb], .agg #[.int .i64 p.1, .int .i64 p.2], .int .i64 q, .int .i64 body] w
      (WallPost (shErr (discE wide high q body p n nk nb g K B) (fS wide (dIn wide high p q) (discK false wide high p q)) B body n) (shLen (discE wide high q body p n nk nb g K B) (fS wide (dIn wide high p q) (discK false wide high p q)) B body n) (putTo (fS wide (dIn wide high p q) (discK false wide high p q)) K (fS wide (dIn wide high p q) (discK false wide high p q)) n) (putTo (fS wide (dIn wide high p q) (discK false wide high p q)) B (fun _ => body) n) w) := by
  have hc := fun (W : World) (h1 : Sc W a n g) (h2 : Sl W ak nk K) (h3 : Sl W ab nb B) => (ref3_disc wide high q body false p a ak ab n nk nb c ck cb g K B W hn hnk hnb h1 h2 h3).mono (fun e w' h => shape_flat h)
  generalize hs : fS wide (dIn wide high p q) (discK false wide high p q) = s at hc ⊢
  clear hs
  unfold discE
  generalize shErr _ s B body n = er at hc ⊢
  generalize shLen _ s B body n = ln at hc ⊢
  generalize putTo s K s n = KF at hc ⊢
  generalize putTo s B (fun _ => body) n = BF at hc ⊢
  have X0 := (((Bx.new w #[.int .i64 wide, .int .i64 high, .slice a n c] 24).alloc (.cells #[.slice ak nk ck, .slice ab nb cb] 27)).alloc (.cells #[.int .i64 p.1, .int .i64 p.2] 51)).alloc (.cells #[.slice none 0 0, .slice none 0 0] 27)
  have X1 := ((Bx.new (w.alloc (.cells #[.int .i64 wide, .int .i64 high, .slice a n c] 24)) #[.slice ak nk ck, .slice ab nb cb] 27).alloc (.cells #[.int .i64 p.1, .int .i64 p.2] 51)).alloc (.cells #[.slice none 0 0, .slice none 0 0] 27)
  have X2 := (Bx.new ((w.alloc (.cells #[.int .i64 wide, .int .i64 high, .slice a n c] 24)).alloc (.cells #[.slice ak nk ck, .slice ab nb cb] 27)) #[.int .i64 p.1, .int .i64 p.2] 51).alloc (.cells #[.slice none 0 0, .slice none 0 0] 27)
  have X3 := Bx.new (((w.alloc (.cells #[.int .i64 wide, .int .i64 high, .slice a n c] 24)).alloc (.cells #[.slice ak nk ck, .slice ab nb cb] 27)).alloc (.cells #[.int .i64 p.1, .int .i64 p.2] 51)) #[.slice none 0 0, .slice none 0 0] 27
  simp only [World.size_alloc] at X1 X2 X3
  have hB0 : Below w.heap.size w ((((w.alloc (.cells #[.int .i64 wide, .int .i64 high, .slice a n c] 24)).alloc (.cells #[.slice ak nk ck, .slice ab nb cb] 27)).alloc (.cells #[.int .i64 p.1, .int .i64 p.2] 51)).alloc (.cells #[.slice none 0 0, .slice none 0 0] 27)) := by (repeat' (first | with_reducible assumption | with_reducible exact Below.refl _ _ | with_reducible refine Below.drew ?_ | with_reducible refine below_drewN ?_ _ | with_reducible refine balloc ?_ _ | with_reducible refine bset ?_ ?_ _ | with_reducible refine Below.setCell ?_ ?_ _ | with_reducible refine Below.alloc ?_ ?_ _ | omega | (simp; done) | (simp; omega)))
  go_enter Try.func36, Try.ntmps36
  go_wp2_with fail
  generalize ((((w.alloc (.cells #[.int .i64 wide, .int .i64 high, .slice a n c] 24)).alloc (.cells #[.slice ak nk ck, .slice ab nb cb] 27)).alloc (.cells #[.int .i64 p.1, .int .i64 p.2] 51)).alloc (.cells #[.slice none 0 0, .slice none 0 0] 27)) = W0 at X0 X1 X2 X3 hB0 ⊢
  have z0 := X0.lt
  have z1 := X1.lt
  have z2 := X2.lt
  have z3 := X3.lt
  refine (hc _ (H.below hB0) (HK.below hB0) (HB.below hB0)).mono ?_
  rintro e w3 ⟨a1, a2, c1, c2, rfl, S1, S2, hb3⟩
  have V4 := X3.below hb3
  have y0 := V4.at_ 0 rfl; have y1 := V4.at_ 1 rfl; have yf := V4.free; have l4 := V4.lt
  have hBw3 : Below w.heap.size w w3 := bvia hB0 hb3
  clear X0 X1 X2 X3
  go_wp2_with fail
  refine bodyPost_ret (v := .tuple #[.agg #[.slice a1 ln c1, .slice a2 ln c2], .int .i64 er]) (by simp [results, Try.results36, go_sem, y0, y1]) rfl ?_
  exact ⟨a1, a2, c1, c2, rfl, S1.set2 V4 _ _, S2.set2 V4 _ _, by (repeat' (first | with_reducible assumption | with_reducible exact Below.refl _ _ | with_reducible refine Below.drew ?_ | with_reducible refine below_drewN ?_ _ | with_reducible refine balloc ?_ _ | with_reducible refine bset ?_ ?_ _ | with_reducible refine Below.setCell ?_ ?_ _ | with_reducible refine Below.alloc ?_ ?_ _ | omega | (simp; done) | (simp; omega)))⟩
set_option maxRecDepth 100000 in
set_option maxHeartbeats 2000000 in
theorem ref3_Smooth (wide high q body : Int) (p : Int × Int) (a ak ab : Option Addr) (n nk nb c ck cb : Nat) (g : Nat → C4) (K B : Nat → Int) (w : World) (hn : n ≤ 100000) (hnk : nk ≤ 100000) (hnb : nb ≤ 100000) (H : Sc w a n g) (HK : Sl w ak nk K) (HB : Sl w ab nb B) :
    Calls Try.prog 38 #[.agg #[.int .i64 wide, .int .i64 high, .slice a n c], .agg #[.slice ak nk ck, .slice ab nb cb], .agg #[.int .i64 p.1, .int .i64 p.2], .int .i64 q, .int .i64 body] w
      (WallPost (shErr (discE wide high q body p n nk nb g K B) (fS wide (dIn wide high p q) (discK true wide high p q)) B body n) (shLen (discE wide high q body p n nk nb g K B) (fS wide (dIn wide high p q) (discK true wide high p q)) B body n) (putTo (fS wide (dIn wide high p q) (discK true wide high p q)) K (fS wide (dIn wide high p q) (discK true wide high p q)) n) (putTo (fS wide (dIn wide high p q) (discK true wide high p q)) B (fun _ => body) n) w) := by
  have hc := fun (W : World) (h1 : Sc W a n g) (h2 : Sl W ak nk K) (h3 : Sl W ab nb B) => (ref3_disc wide high q body true p a ak ab n nk nb c ck cb g K B W hn hnk hnb h1 h2 h3).mono (fun e w' h => shape_flat h)
  generalize hs : fS wide (dIn wide high p q) (discK true wide high p q) = s at hc ⊢
  clear hs
  unfold discE
  generalize shErr _ s B body n = er at hc ⊢
  generalize shLen _ s B body n = ln at hc ⊢
  generalize putTo s K s n = KF at hc ⊢
  generalize putTo s B (fun _ => body) n = BF at hc ⊢
  have X0 := (((Bx.new w #[.int .i64 wide, .int .i64 high, .slice a n c] 24).alloc (.cells #[.slice ak nk ck, .slice ab nb cb] 27)).alloc (.cells #[.int .i64 p.1, .int .i64 p.2] 51)).alloc (.cells #[.slice none 0 0, .slice none 0 0] 27)
  have X1 := ((Bx.new (w.alloc (.cells #[.int .i64 wide, .int .i64 high, .slice a n c] 24)) #[.slice ak nk ck, .slice ab nb cb] 27).alloc (.cells #[.int .i64 p.1, .int .i64 p.2] 51)).alloc (.cells #[.slice none 0 0, .slice none 0 0] 27)
  have X2 := (Bx.new ((w.alloc (.cells #[.int .i64 wide, .int .i64 high, .slice a n c] 24)).alloc (.cells #[.slice ak nk ck, .slice ab nb cb] 27)) #[.int .i64 p.1, .int .i64 p.2] 51).alloc (.cells #[.slice none 0 0, .slice none 0 0] 27)
  have X3 := Bx.new (((w.alloc (.cells #[.int .i64 wide, .int .i64 high, .slice a n c] 24)).alloc (.cells #[.slice ak nk ck, .slice ab nb cb] 27)).alloc (.cells #[.int .i64 p.1, .int .i64 p.2] 51)) #[.slice none 0 0, .slice none 0 0] 27
  simp only [World.size_alloc] at X1 X2 X3
  have hB0 : Below w.heap.size w ((((w.alloc (.cells #[.int .i64 wide, .int .i64 high, .slice a n c] 24)).alloc (.cells #[.slice ak nk ck, .slice ab nb cb] 27)).alloc (.cells #[.int .i64 p.1, .int .i64 p.2] 51)).alloc (.cells #[.slice none 0 0, .slice none 0 0] 27)) := by (repeat' (first | with_reducible assumption | with_reducible exact Below.refl _ _ | with_reducible refine Below.drew ?_ | with_reducible refine below_drewN ?_ _ | with_reducible refine balloc ?_ _ | with_reducible refine bset ?_ ?_ _ | with_reducible refine Below.setCell ?_ ?_ _ | with_reducible refine Below.alloc ?_ ?_ _ | omega | (simp; done) | (simp; omega)))
  go_enter Try.func38, Try.ntmps38
  go_wp2_with fail
  generalize ((((w.alloc (.cells #[.int .i64 wide, .int .i64 high, .slice a n c] 24)).alloc (.cells #[.slice ak nk ck, .slice ab nb cb] 27)).alloc (.cells #[.int .i64 p.1, .int .i64 p.2] 51)).alloc (.cells #[.slice none 0 0, .slice none 0 0] 27)) = W0 at X0 X1 X2 X3 hB0 ⊢
  have z0 := X0.lt
  have z1 := X1.lt
  have z2 := X2.lt
  have z3 := X3.lt
  refine (hc _ (H.below hB0) (HK.below hB0) (HB.below hB0)).mono ?_
  rintro e w3 ⟨a1, a2, c1, c2, rfl, S1, S2, hb3⟩
  have V4 := X3.below hb3
  have y0 := V4.at_ 0 rfl; have y1 := V4.at_ 1 rfl; have yf := V4.free; have l4 := V4.lt
  have hBw3 : Below w.heap.size w w3 := bvia hB0 hb3
  clear X0 X1 X2 X3
  go_wp2_with fail
  refine bodyPost_ret (v := .tuple #[.agg #[.slice a1 ln c1, .slice a2 ln c2], .int .i64 er]) (by simp [results, Try.results38, go_sem, y0, y1]) rfl ?_
  exact ⟨a1, a2, c1, c2, rfl, S1.set2 V4 _ _, S2.set2 V4 _ _, by (repeat' (first | with_reducible assumption | with_reducible exact Below.refl _ _ | with_reducible refine Below.drew ?_ | with_reducible refine below_drewN ?_ _ | with_reducible refine balloc ?_ _ | with_reducible refine bset ?_ ?_ _ | with_reducible refine Below.setCell ?_ ?_ _ | with_reducible refine Below.alloc ?_ ?_ _ | omega | (simp; done) | (simp; omega)))⟩
end Go.Proofs.Ytnnaegnkkpknpaa
