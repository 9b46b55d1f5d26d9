/- Walks: the reference's impulse. -/
import Derived.Test.YtnnaegnkkpknpaaWImp
import Derived.Test.YtnnaegnkkpknpaaSent3
import Derived.Deep.AppendLies
namespace Go.Proofs.Ytnnaegnkkpknpaa
open Go.RowKit
set_option linter.unusedVariables false
theorem infoCz : (Try.prog.info? 31).map (fun i => (i.zero, i.size, i.bytes)) = some (some C4.zero.val, 4, 32) := by kernel_rfl
def C4.row (c : C4) : List Value := [.int .i64 c.e, .int .i64 c.n, .int .i64 c.w, .int .i64 c.s]
/-- the cells of a row of cells -/
def rowsOf (h : Nat → C4) : Nat → List Value | 0 => [] | k + 1 => rowsOf h k ++ (h k).row
theorem rowsOf_length (h : Nat → C4) : ∀ k, (rowsOf h k).length = k * 4
  | 0 => rfl
  | k + 1 => by simp only [rowsOf, List.length_append, rowsOf_length h k, C4.row, List.length_cons, List.length_nil]; omega
theorem rowsOf_at (h : Nat → C4) : ∀ n k, k < n → ∀ j, j < 4 → (rowsOf h n)[k * 4 + j]? = (h k).row[j]?
  | 0, k, hk => by omega
  | n + 1, k, hk => by
    intro j hj
    simp only [rowsOf]
    by_cases e : k = n
    · subst e
      rw [List.getElem?_append_right (by rw [rowsOf_length]; omega), rowsOf_length]
      congr 1
      omega
    · rw [List.getElem?_append_left (by rw [rowsOf_length]; omega)]
      exact rowsOf_at h n k (by omega) j hj
theorem sc_of_own {w : World} {base : Nat} {v : Value} {n : Nat} {h : Nat → C4} (H : w.ownsRow base 31 4 v n (rowsOf h n)) :
    ∃ a c, v = .slice a n c ∧ Sc w a n h := by
  rcases H.2 with ⟨rfl, h0⟩ | ⟨g, cap, cur, rfl, hb, hh, hn, hm, hc, ht⟩
  · exact ⟨none, 0, by rw [h0], fun k hk => by omega⟩
  · have key : ∀ k j, k < n → j < 4 → ∀ u, (h k).row[j]? = some u → w.cell? ⟨g, 0 + k * 4 + j, none⟩ = some u := by
      intro k j hk hj u hu
      rw [Nat.zero_add, cell_of_row w g _ cur 31 (0, 0) hh]
      have h1 : (cur.toList.take (n * 4))[k * 4 + j]? = (rowsOf h n)[k * 4 + j]? := by rw [ht]
      rw [List.getElem?_take, if_pos (by omega), rowsOf_at h n k hk j hj, hu] at h1
      simpa using h1
    refine ⟨some ⟨g, 0, none⟩, cap, rfl, fun k hk => ⟨g, 0, rfl, ?_, ?_, ?_, ?_, ?_⟩⟩
    · rcases Nat.lt_or_ge g w.heap.size with h' | h'
      · exact h'
      · rw [Array.getElem?_eq_none h'] at hh; cases hh
    · exact key k 0 hk (by omega) _ rfl
    · exact key k 1 hk (by omega) _ rfl
    · exact key k 2 hk (by omega) _ rfl
    · exact key k 3 hk (by omega) _ rfl
theorem cells_new4 (w : World) (c : C4) (t : TypeId) : ∀ j u, c.row[j]? = some u → (w.alloc (.cells #[.int .i64 c.e, .int .i64 c.n, .int .i64 c.w, .int .i64 c.s] t)).cell? ((⟨w.heap.size, 0, none⟩ : Addr).add j) = some u := by
  intro j u hj
  have h := cell_new w #[.int .i64 c.e, .int .i64 c.n, .int .i64 c.w, .int .i64 c.s] t j u (by simpa [C4.row] using hj)
  have e : (⟨w.heap.size, 0, none⟩ : Addr).add j = ⟨w.heap.size, j, none⟩ := by by_cases hj0 : j = 0 <;> simp [Addr.add, hj0]
  rw [e]
  exact h
theorem ownL_at (B : Nat → Int) (body : Int) : ∀ n j, j < (ownL B body n).length → ∃ m : Nat, m < n ∧ (ownL B body n).getD j 0 = (m : Int)
  | 0, j, h => by simp [ownL] at h
  | n + 1, j, h => by
    by_cases e : B n = body
    · simp only [ownL, if_pos e] at h ⊢
      by_cases l : j < (ownL B body n).length
      · obtain ⟨m, hm, em⟩ := ownL_at B body n j l
        refine ⟨m, by omega, ?_⟩
        rw [← em, List.getD_eq_getElem?_getD, List.getElem?_append_left l, List.getD_eq_getElem?_getD]
      · have : j = (ownL B body n).length := by simp at h; omega
        subst this
        exact ⟨n, by omega, by simp⟩
    · simp only [ownL, if_neg e] at h ⊢
      obtain ⟨m, hm, em⟩ := ownL_at B body n j h
      exact ⟨m, by omega, em⟩
set_option maxRecDepth 100000 in
set_option maxHeartbeats 8000000 in
theorem ref3_impulse (wide high body : Int) (a ak ab : Option Addr) (n c ck cb : Nat) (g : Nat → C4) (K B : Nat → Int) (w : World) (hn : n ≤ 1000000)
    (H : Sc w a n g) (HK : Sl w ak n K) (HB : Sl w ab n B) (hv : ∀ k, k < n → validC (g k) = true) (hK : ∀ k, k < n → 0 ≤ K k ∧ K k ≤ 3) :
    Calls Try.prog 76 #[.agg #[.int .i64 wide, .int .i64 high, .slice a n c], .agg #[.slice ak n ck, .slice ab n cb], .int .i64 body] w
      fun e w' => e = .returned (.agg #[.int .i64 (impE g K B body n), .int .i64 (impN g K B body n)]) ∧ Below w.heap.size w w' := by
  obtain ⟨i0, hi, hz0, hz1, hz2⟩ := info_parts infoCz
  have I := ((H.alloc (.cells #[.int .i64 wide, .int .i64 high, .slice a n c] 24)).alloc (.cells #[.slice ak n ck, .slice ab n cb] 27)).alloc (.cells #[.int .i64 0, .int .i64 0] 43)
  have IK := ((HK.alloc (.cells #[.int .i64 wide, .int .i64 high, .slice a n c] 24)).alloc (.cells #[.slice ak n ck, .slice ab n cb] 27)).alloc (.cells #[.int .i64 0, .int .i64 0] 43)
  have IB := ((HB.alloc (.cells #[.int .i64 wide, .int .i64 high, .slice a n c] 24)).alloc (.cells #[.slice ak n ck, .slice ab n cb] 27)).alloc (.cells #[.int .i64 0, .int .i64 0] 43)
  go_enter Try.func76, Try.ntmps76
  go_wp2_with fail
  refine (ref3_own _ _ _ _ _ _ B body _ (by omega) IB).mono ?_
  rintro e w1 ⟨v, rfl, hown, hb1⟩
  have hB1 : Below w.heap.size w w1 := bvia (by (repeat' (first | with_reducible assumption | with_reducible exact Below.refl _ _ | with_reducible refine Below.drew ?_ | with_reducible refine below_drewN ?_ _ | with_reducible refine balloc ?_ _ | with_reducible refine bset ?_ ?_ _ | with_reducible refine Below.setCell ?_ ?_ _ | with_reducible refine Below.alloc ?_ ?_ _ | omega | (simp; done) | (simp; omega)))) hb1
  have X0 := (((Bx.new w #[.int .i64 wide, .int .i64 high, .slice a n c] 24).alloc (.cells #[.slice ak n ck, .slice ab n cb] 27)).alloc (.cells #[.int .i64 0, .int .i64 0] 43)).below hb1
  have X1 := ((Bx.new (w.alloc (.cells #[.int .i64 wide, .int .i64 high, .slice a n c] 24)) #[.slice ak n ck, .slice ab n cb] 27).alloc (.cells #[.int .i64 0, .int .i64 0] 43)).below hb1
  have X2 := (Bx.new ((w.alloc (.cells #[.int .i64 wide, .int .i64 high, .slice a n c] 24)).alloc (.cells #[.slice ak n ck, .slice ab n cb] 27)) #[.int .i64 0, .int .i64 0] 43).below hb1
  simp only [World.size_alloc] at X1 X2
  have J := I.below hb1; have JK := IK.below hb1
  obtain ⟨a0, c0, rfl, HL⟩ := sl_of_own hown
  have hlen := ownL_length B body n
  clear I IK IB hown
  have hat := ownL_at B body n
  generalize hxs : ownL B body n = xs at HL hlen hat
  go_wp2
  go_loopw [7, 8, 10] (fun v7 v8 i wr => ∃ k : Nat, k ≤ xs.length ∧ i = .int .i64 k ∧ wr.ownsRow w1.heap.size 31 4 v7 k (rowsOf (pick xs g) k) ∧ wr.ownsRow w1.heap.size 31 4 v8 k (rowsOf (pick xs (fun i => sentC (g i) (K i))) k) ∧ (∀ b, v7.ownBlock = some b → v8.ownBlock ≠ some b) ∧ Below w1.heap.size w1 wr) (fun _ _ i _ => xs.length - (intOf i).toNat)
  case atStart => exact ⟨0, Nat.zero_le _, rfl, World.ownsRow_nil .., World.ownsRow_nil .., (fun b hb => by cases hb), Below.refl _ _⟩
  case round =>
    obtain ⟨k, hk, rfl, h7, h8, hne, hB⟩ := hrel
    by_cases hlt : k < xs.length
    · obtain ⟨m, hm, em⟩ := hat k hlt
      obtain ⟨b4, o4, rfl, z4, p4⟩ := (HL.below hB) k hlt
      have p4' : wr.cell? ⟨b4, o4 + k, none⟩ = some (.int .i64 (m : Int)) := by rw [← em]; exact p4
      clear p4
      have p4 := p4'
      clear p4'
      obtain ⟨b1, o1, rfl, z1, g0, g1, g2, g3⟩ := (J.below hB) m hm
      obtain ⟨b2, o2, rfl, z2, kk⟩ := (JK.below hB) m hm
      obtain ⟨k0, k3⟩ := hK m hm
      have HV := hid hv; clear hv
      have HKK := hid hK; clear hK
      have HAT := hid hat; clear hat
      have Y0 := X0.below hB; have Y1 := X1.below hB
      have y0 := Y0.at_ 2 rfl; have y1 := Y1.at_ 0 rfl
      have l0 := Y0.lt; have l1 := Y1.lt
      have q0 : ∀ W, Below wr.heap.size wr W → W.cell? ⟨w.heap.size, 2, none⟩ = some (.slice (some ⟨b1, o1, none⟩) n c) := fun W h => (bcell h _ _ l0).trans y0
      have q4 : ∀ W, Below wr.heap.size wr W → W.cell? ⟨b4, o4 + k, none⟩ = some (.int .i64 (m : Int)) := fun W h => (bcell h _ _ z4).trans p4
      have r0 : ∀ W, Below wr.heap.size wr W → W.cell? ⟨b1, o1 + m * 4, none⟩ = some (.int .i64 (g m).e) := fun W h => (bcell h _ _ z1).trans g0
      have r1 : ∀ W, Below wr.heap.size wr W → W.cell? ⟨b1, o1 + m * 4 + 1, none⟩ = some (.int .i64 (g m).n) := fun W h => (bcell h _ _ z1).trans g1
      have r2 : ∀ W, Below wr.heap.size wr W → W.cell? ⟨b1, o1 + m * 4 + 2, none⟩ = some (.int .i64 (g m).w) := fun W h => (bcell h _ _ z1).trans g2
      have r3 : ∀ W, Below wr.heap.size wr W → W.cell? ⟨b1, o1 + m * 4 + 3, none⟩ = some (.int .i64 (g m).s) := fun W h => (bcell h _ _ z1).trans g3
      clear y0 g0 g1 g2 g3 p4
      go_upto_region 6 with (fail)
      go_cut [11] from 25 to 32 (fun s11 W => ∃ u : Nat, s11 = .pointer (some ⟨u, 0, none⟩) ∧ wr.heap.size ≤ u ∧ Bx W u #[.int .i64 (g m).e, .int .i64 (g m).n, .int .i64 (g m).w, .int .i64 (g m).s] ∧ Below wr.heap.size wr W)
      case first =>
        go_region_held3 (fun W => Below wr.heap.size wr W) ((repeat' (first | with_reducible assumption | with_reducible exact Below.refl _ _ | with_reducible refine Below.drew ?_ | with_reducible refine below_drewN ?_ _ | with_reducible refine balloc ?_ _ | with_reducible refine bset ?_ ?_ _ | with_reducible refine Below.setCell ?_ ?_ _ | with_reducible refine Below.alloc ?_ ?_ _ | omega | (simp; done) | (simp; omega)))) (fail)
        all_goals
          go_wp2_with fail
          go_meet
          refine ⟨_, rfl, ?_, ?_, by with_reducible assumption⟩
          all_goals first | (show (_ : Nat) ≤ _; omega) | (repeat' (first | with_reducible assumption | (with_reducible refine Bx.newE ?_ _ _; (simp; done)) | with_reducible refine Bx.alloc ?_ _ | with_reducible refine Bx.drew ?_ | with_reducible refine Bx.drewN ?_ _ | with_reducible refine Bx.four ?_ | (with_reducible refine Bx.far2 ?_ ?_ _; (dsimp only; omega))))
      case rest =>
        obtain ⟨u, rfl, hu, U, hB2⟩ := hcut
        have n7 := own_below h7 hB2; have n8 := own_below h8 hB2
        have t7 := own_lt h7; have t8 := own_lt h8
        have sB := hB.size; have sB2 := hB2.size
        have hB12 : Below w1.heap.size w1 wc := hB.trans (hB2.mono sB)
        have a0 := U.at_ 0 rfl; have a1 := U.at_ 1 rfl; have a2 := U.at_ 2 rfl; have a3 := U.at_ 3 rfl
        go_upto_region 8 with (at_builtin; refine wpList_append_own_at _ rfl _ _ 22 rfl w1.heap.size 31 i0 C4.zero.val 4 32 Try.underlying22 hi hz0 hz1 hz2 rfl (by decide) _ _ _ rfl (n7.alloc _) ⟨wc.heap.size, 0, none⟩ 1 1 (g m).row rfl rfl (cells_new4 _ _ _) (by simp [C4.row, Value.oneCell']) (by simp [maxLen]; omega) (by omega) (by simp; omega) ?_; intro v7' w2 m7 hgrow _ hat7)
        have o7 := own_base n7
        have hB3 : Below w1.heap.size w1 w2 := (hB12.alloc hB12.size _).grown hgrow (by have := hB12.size; simp; omega) o7
        have n8' := own_grown (n8.alloc _) hgrow (fun b hb e => hne b e.symm hb)
        have U2 := (U.alloc _).grown hgrow (fun e => by have := t7 u e.symm; omega)
        have s2 := hgrow.size
        rw [World.size_alloc] at s2 hat7
        have hne2 : ∀ b, v7'.ownBlock = some b → u8.ownBlock ≠ some b := by
          intro b hb e
          rcases hat7 with h | h
          · exact hne b (h ▸ hb) e
          · rw [h] at hb
            injection hb with hb
            have := t8 b e
            omega
        have zu := U2.lt
        obtain ⟨b2', o2', e2, y2, q2'⟩ := JK m hm
        obtain ⟨rfl, rfl⟩ : b2 = b2' ∧ o2 = o2' := by injection e2 with e2; injection e2 with p q _; exact ⟨p, q⟩
        obtain ⟨b4', o4', e4, y4, p4'⟩ := HL k hlt
        obtain ⟨rfl, rfl⟩ : b4 = b4' ∧ o4 = o4' := by injection e4 with e4; injection e4 with p q _; exact ⟨p, q⟩
        have q4' : w1.cell? ⟨b4, o4 + k, none⟩ = some (.int .i64 (m : Int)) := by rw [← em]; exact p4'
        have u0 : ∀ W, Bx W u #[.int .i64 (g m).e, .int .i64 (g m).n, .int .i64 (g m).w, .int .i64 (g m).s] → W.cell? ⟨u, 0, none⟩ = some (.int .i64 (g m).e) := fun W h => h.at_ 0 rfl
        have u1 : ∀ W, Bx W u #[.int .i64 (g m).e, .int .i64 (g m).n, .int .i64 (g m).w, .int .i64 (g m).s] → W.cell? ⟨u, 1, none⟩ = some (.int .i64 (g m).n) := fun W h => h.at_ 1 rfl
        have u2 : ∀ W, Bx W u #[.int .i64 (g m).e, .int .i64 (g m).n, .int .i64 (g m).w, .int .i64 (g m).s] → W.cell? ⟨u, 2, none⟩ = some (.int .i64 (g m).w) := fun W h => h.at_ 2 rfl
        have u3 : ∀ W, Bx W u #[.int .i64 (g m).e, .int .i64 (g m).n, .int .i64 (g m).w, .int .i64 (g m).s] → W.cell? ⟨u, 3, none⟩ = some (.int .i64 (g m).s) := fun W h => h.at_ 3 rfl
        have u4 : ∀ W, Below w1.heap.size w1 W → W.cell? ⟨w.heap.size + 1, 0, none⟩ = some (.slice (some ⟨b2, o2, none⟩) n ck) := fun W h => (bcell h _ _ X1.lt).trans (X1.at_ 0 rfl)
        have u5 : ∀ W, Below w1.heap.size w1 W → W.cell? ⟨b4, o4 + k, none⟩ = some (.int .i64 (m : Int)) := fun W h => (bcell h _ _ y4).trans q4'
        have u6 : ∀ W, Below w1.heap.size w1 W → W.cell? ⟨b2, o2 + m, none⟩ = some (.int .i64 (K m)) := fun W h => (bcell h _ _ y2).trans q2'
        clear q0 q4 r0 r1 r2 r3 a0 a1 a2 a3 kk y1 p4'
        go_region_held3 (fun W => Below w1.heap.size w1 W ∧ Bx W u #[.int .i64 (g m).e, .int .i64 (g m).n, .int .i64 (g m).w, .int .i64 (g m).s])
          ((go_split_ands; refine ⟨?_, ?_⟩ <;> (repeat' (first | with_reducible assumption | with_reducible exact Below.refl _ _ | with_reducible refine Below.drew ?_ | with_reducible refine below_drewN ?_ _ | with_reducible refine balloc ?_ _ | with_reducible refine Bx.alloc ?_ _ | with_reducible refine Bx.drew ?_ | with_reducible refine Bx.drewN ?_ _))))
          ((first
            | (go_at_call 71; refine (ref3_sent (g m) _ (K m) k0 k3).mono ?_; rintro e w3 ⟨rfl, hb3⟩; have hs3 : Below w2.heap.size w2 w3 := bvia (by (repeat' (first | with_reducible assumption | with_reducible exact Below.refl _ _ | with_reducible refine Below.drew ?_ | with_reducible refine below_drewN ?_ _ | with_reducible refine balloc ?_ _ | with_reducible refine bset ?_ ?_ _ | with_reducible refine Below.setCell ?_ ?_ _ | with_reducible refine Below.alloc ?_ ?_ _ | omega | (simp; done) | (simp; omega)))) hb3; have hB13 : Below w1.heap.size w1 w3 := hB3.trans (hs3.mono hB3.size); have U3 := U2.below hs3)
            | (refine step_append_lies _ (by rfl) _ _ 22 (by rfl) w1.heap.size 31 i0 C4.zero.val 4 32 Try.underlying22 hi hz0 hz1 hz2 rfl (by decide) _ _ _ (by rfl) ((own_below n8' hs3).alloc _) ⟨w3.heap.size, 0, none⟩ 1 1 (sentC (g m) (K m)).row (by rfl) (by rfl) (cells_new4 _ _ _) (by simp [C4.row, Value.oneCell']) (by omega) (by simp [maxLen]; omega) (by omega) (by have := hs3.size; have := hB3.size; simp; omega) (w3.heap.size + 1) (by simp) ?_; intro g8 cap8 w4 m8 hgrow8 hat8 hlt8; have hB14 : Below w1.heap.size w1 w4 := (hB13.alloc hB13.size _).grown hgrow8 (by have := hB13.size; simp; omega) (own_base n8'); have U4 := (U3.alloc _).grown hgrow8 (fun e => by have := t8 u e.symm; omega))
            | fail))
        go_wp2_with fail
        have q7 := own_grown ((own_below m7 hs3).alloc _) hgrow8 (fun b hb e => hne2 b hb e.symm)
        have s3 := hs3.size
        have hne3 : ∀ b, v7'.ownBlock = some b → (Value.slice (some ⟨g8, 0, none⟩) (k + 1) cap8).ownBlock ≠ some b := by
          intro b hb e
          have e' : g8 = b := by injection e
          subst e'
          rcases hat8 with h | h
          · exact hne2 _ hb h
          · have := own_lt m7 _ hb
            omega
        go_roundw
        case rel => exact ⟨k + 1, by omega, by go_num, by rw [show rowsOf (pick xs g) (k + 1) = rowsOf (pick xs g) k ++ (g m).row from by simp only [rowsOf, pick, em, Int.toNat_natCast]]; exact q7, by rw [show rowsOf (pick xs (fun i => sentC (g i) (K i))) (k + 1) = rowsOf (pick xs (fun i => sentC (g i) (K i))) k ++ (sentC (g m) (K m)).row from by simp only [rowsOf, pick, em, Int.toNat_natCast]]; exact m8, hne3, hB14⟩
        case measure => simp [intOf]; omega
    · obtain rfl : k = xs.length := (by omega)
      obtain ⟨a7, c7, rfl, S7⟩ := sc_of_own h7
      obtain ⟨a8, c8, rfl, S8⟩ := sc_of_own h8
      have hx : xs.length ≤ 1000000 := by omega
      have hp : ∀ j, j < xs.length → validC (pick xs g j) = true := fun j hj => by
        obtain ⟨m, hm, em⟩ := hat j hj
        simp only [pick, em]
        exact hv _ (by simpa using hm)
      have hs : ∀ j, j < xs.length → validC (pick xs (fun i => sentC (g i) (K i)) j) = true := fun j hj => sentC_ok _ _ (hp j hj)
      have M := imp_of_mom g K B body n
      rw [hxs] at M
      clear hv hK hat
      have Y2 := X2.below hB
      go_wp2_with fail
      refine (ref2_impulse _ _ _ (pick xs (fun i => sentC (g i) (K i))) _ hx S8 hs).mono ?_
      rintro e w2 ⟨rfl, hb2⟩
      have hB2 : Below w.heap.size w w2 := hB1.trans ((bvia hB hb2).mono hB1.size)
      have Y3 := Y2.below hb2
      go_wp2_with fail
      refine (ref2_impulse _ _ _ (pick xs g) _ hx (S7.below hb2) hp).mono ?_
      rintro e w3 ⟨rfl, hb3⟩
      have hB3 : Below w.heap.size w w3 := bvia hB2 hb3
      have Y4 := Y3.below hb3
      have z0 := Y4.at_ 0 rfl; have z1 := Y4.at_ 1 rfl
      have fz := Y4.free
      have lz := Y4.lt
      obtain ⟨e0, e1⟩ := momE_bd _ _ hp; obtain ⟨e2, e3⟩ := momE_bd _ _ hs
      obtain ⟨n0, n1⟩ := momN_bd _ _ hp; obtain ⟨n2, n3⟩ := momN_bd _ _ hs
      go_wp2_with fail
      refine bodyPost_ret (v := .agg #[.int .i64 (impE g K B body n), .int .i64 (impN g K B body n)]) (by rw [← M.1, ← M.2]; simp [results, Try.results76, go_sem, z0, z1]) rfl ⟨rfl, by (repeat' (first | with_reducible assumption | with_reducible exact Below.refl _ _ | with_reducible refine Below.drew ?_ | with_reducible refine below_drewN ?_ _ | with_reducible refine balloc ?_ _ | with_reducible refine bset ?_ ?_ _ | with_reducible refine Below.setCell ?_ ?_ _ | with_reducible refine Below.alloc ?_ ?_ _ | omega | (simp; done) | (simp; omega)))⟩
end Go.Proofs.Ytnnaegnkkpknpaa
