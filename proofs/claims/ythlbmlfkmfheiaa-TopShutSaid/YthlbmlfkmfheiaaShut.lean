/- The walk of the law TopShut. -/
import Derived.Test.YthlbmlfkmfheiaaWClo
import Derived.Test.YthlbmlfkmfheiaaWRun2
import Derived.Test.YthlbmlfkmfheiaaGRev
import Derived.Test.YthlbmlfkmfheiaaShutPlain
import Derived.Test.YthlbmlfkmfheiaaSmall
import Derived.Test.YthlbmlfkmfheiaaSeqTwo
namespace Go.Proofs.Ythlbmlfkmfheiaa
open Go Go.RowKit
set_option linter.unusedVariables false
/-- whether a place is among the first k of a list -/
def inL (L : List Int) (k : Nat) : Nat → Bool := fun j => decide ((j : Int) ∈ L.take k)
theorem inL_zero (L : List Int) : inL L 0 = fun _ => false := by funext j; simp [inL]
theorem inL_succ {L : List Int} {k j : Nat} (hk : k < L.length) (h : L.getD k 0 = (j : Int)) : inL L (k + 1) = putM (inL L k) j := by
  funext i
  rw [List.getD_eq_getElem?_getD, List.getElem?_eq_getElem hk] at h
  simp only [Option.getD_some] at h
  unfold inL putM
  rw [List.take_succ_eq_append_getElem hk, h]
  by_cases e : i = j
  · subst e; simp
  · have : ¬ (i : Int) = (j : Int) := by omega
    simp [e, this]
theorem mem_ownL {B : Nat → Int} {body : Int} {x : Int} : ∀ {n : Nat}, x ∈ ownL B body n ↔ ∃ k, k < n ∧ B k = body ∧ x = (k : Int)
  | 0 => by simp [ownL]
  | n + 1 => by
    simp only [ownL]
    constructor
    · intro h
      split at h
      · rename_i e
        rw [List.mem_append, mem_ownL, List.mem_singleton] at h
        rcases h with ⟨k, h1, h2, h3⟩ | rfl
        · exact ⟨k, by omega, h2, h3⟩
        · exact ⟨n, by omega, e, rfl⟩
      · obtain ⟨k, h1, h2, h3⟩ := mem_ownL.1 h
        exact ⟨k, by omega, h2, h3⟩
    · rintro ⟨k, h1, h2, h3⟩
      by_cases e : k = n
      · subst e; rw [if_pos h2]; simp [h3]
      · have : x ∈ ownL B body n := mem_ownL.2 ⟨k, by omega, h2, h3⟩
        split
        · exact List.mem_append_left _ this
        · exact this
theorem inL_all {T : Nat → Bool} {n j : Nat} (hj : j < n) : inL (ownL (ind T) 1 n) (ownL (ind T) 1 n).length j = T j := by
  rw [Bool.eq_iff_iff]
  unfold inL
  rw [List.take_of_length_le (Nat.le_refl _), decide_eq_true_iff, mem_ownL]
  constructor
  · rintro ⟨k, h1, h2, h3⟩
    obtain rfl : k = j := by omega
    cases h : T k
    · exact absurd h2 (ind_no h)
    · rfl
  · intro h
    exact ⟨j, hj, ind_yes h, rfl⟩
theorem own_place {T : Nat → Bool} {n k : Nat} (hk : k < (ownL (ind T) 1 n).length) : ∃ j : Nat, j < n ∧ (ownL (ind T) 1 n).getD k 0 = (j : Int) := by
  have h : (ownL (ind T) 1 n).getD k 0 ∈ ownL (ind T) 1 n := by
    rw [List.getD_eq_getElem?_getD, List.getElem?_eq_getElem hk]; simp
  obtain ⟨j, h1, _, h3⟩ := mem_ownL.1 h
  exact ⟨j, h1, h3⟩
theorem Rb.congr {W : World} {b n : Nat} {f g : Nat → Bool} (h : Rb W b n f) (e : ∀ k, k < n → f k = g k) : Rb W b n g := ⟨h.1, fun k hk => by rw [h.2 k hk, e k hk], h.3⟩
theorem Rb.far {W : World} {b n : Nat} {f : Nat → Bool} (h : Rb W b n f) {p : Addr} (hp : p.block ≠ b) (u : Value) : Rb (W.setCell p u) b n f :=
  ⟨by simpa [World.setCell] using h.1, fun k hk => by rw [World.cell?_setCell_other _ _ _ _ (fun e => hp (by rw [e]))]; exact h.2 k hk, fun i => by rw [World.frozen?_setCell]; exact h.3 i⟩
theorem ovC_same {F G : Nat → C4} {k : Nat} (h : F k = G k) : ovC F G (k + 1) = ovC F G k := by
  funext j; unfold ovC
  by_cases e : j = k
  · subst e; simp [h]
  · simp only [show (j < k + 1) = (j < k) from propext ⟨by omega, by omega⟩]
set_option maxRecDepth 100000 in
set_option maxHeartbeats 8000000 in
theorem walk_shut (wide high m : Int) (p : Int × Int) (a ak ab : Option Addr) (n nk nb c ck cb : Nat) (g : Nat → C4) (Kd B : Nat → Int) (w : World) (hn : n ≤ maxLen) (hk : nk ≤ maxLen) (hb : nb ≤ maxLen) (S : Sc w a n g) (SK : Sl w ak nk Kd) (SB : Sl w ab nb B) :
    Calls Try.prog 3 #[.agg #[.int .i64 wide, .int .i64 high, .slice a n c, .slice ak nk ck, .slice ab nb cb], .agg #[.int .i64 p.1, .int .i64 p.2], .int .i64 m] w fun e w' => e = .returned (.bool true) ∧ Below w.heap.size w w' := by
  cases hs : smallB n nk nb 100
  · have HSM := hid hs
    clear hs
    have X0 := (Bx.new w #[.int .i64 wide, .int .i64 high, .slice a n c, .slice ak nk ck, .slice ab nb cb] 29).alloc (.cells #[.int .i64 p.1, .int .i64 p.2] 31)
    have X1 := Bx.new (w.alloc (.cells #[.int .i64 wide, .int .i64 high, .slice a n c, .slice ak nk ck, .slice ab nb cb] 29)) #[.int .i64 p.1, .int .i64 p.2] 31
    simp only [World.size_alloc] at X1
    have hB0 : Below w.heap.size w ((w.alloc (.cells #[.int .i64 wide, .int .i64 high, .slice a n c, .slice ak nk ck, .slice ab nb cb] 29)).alloc (.cells #[.int .i64 p.1, .int .i64 p.2] 31)) := by (repeat' (first | with_reducible assumption | with_reducible exact Below.refl _ _ | with_reducible refine Below.drew ?_ | with_reducible refine below_drewN ?_ _ | with_reducible refine balloc ?_ _ | with_reducible refine bset ?_ ?_ _ | with_reducible refine Below.setCell ?_ ?_ _ | with_reducible refine Below.alloc ?_ ?_ _ | omega | (simp; done) | (simp; omega)))
    go_enter Try.func3, Try.ntmps3
    go_wp2_with fail
    generalize ((w.alloc (.cells #[.int .i64 wide, .int .i64 high, .slice a n c, .slice ak nk ck, .slice ab nb cb] 29)).alloc (.cells #[.int .i64 p.1, .int .i64 p.2] 31)) = W0 at X0 X1 hB0 ⊢
    have z0 := X0.lt
    have z1 := X1.lt
    refine (law3_small _ _ _ _ _ _ _ _ _ _ _ _ _ hn hk hb).mono ?_
    rintro e w1 ⟨rfl, hb1⟩
    rw [HSM.out]
    have hB := hB0
    clear hB0
    replace X0 := X0.below hb1
    replace X1 := X1.below hb1
    replace hB := bvia hB hb1
    clear hb1
    have X0_0 := X0.at_ 0 rfl
    have X0_1 := X0.at_ 1 rfl
    have X0_2 := X0.at_ 2 rfl
    have X0_3 := X0.at_ 3 rfl
    have X0_4 := X0.at_ 4 rfl
    have X0z := X0.lt
    have X1_0 := X1.at_ 0 rfl
    have X1_1 := X1.at_ 1 rfl
    have X1z := X1.lt
    go_wp2_with fail
    refine (awake5_true _).mono ?_
    rintro e w8 ⟨rfl, hb8⟩
    go_wp2_with fail
    go_ret
    exact ⟨rfl, bvia hB hb8⟩
  have HSM := hid hs
  have hsm : n ≤ 100 ∧ nk ≤ 100 ∧ nb ≤ 100 := by simp [smallB] at hs; omega
  obtain ⟨n1, n2, n3⟩ := hsm
  clear hs
  by_cases hm0 : m < 0
  · skip
    have X0 := (Bx.new w #[.int .i64 wide, .int .i64 high, .slice a n c, .slice ak nk ck, .slice ab nb cb] 29).alloc (.cells #[.int .i64 p.1, .int .i64 p.2] 31)
    have X1 := Bx.new (w.alloc (.cells #[.int .i64 wide, .int .i64 high, .slice a n c, .slice ak nk ck, .slice ab nb cb] 29)) #[.int .i64 p.1, .int .i64 p.2] 31
    simp only [World.size_alloc] at X1
    have hB0 : Below w.heap.size w ((w.alloc (.cells #[.int .i64 wide, .int .i64 high, .slice a n c, .slice ak nk ck, .slice ab nb cb] 29)).alloc (.cells #[.int .i64 p.1, .int .i64 p.2] 31)) := by (repeat' (first | with_reducible assumption | with_reducible exact Below.refl _ _ | with_reducible refine Below.drew ?_ | with_reducible refine below_drewN ?_ _ | with_reducible refine balloc ?_ _ | with_reducible refine bset ?_ ?_ _ | with_reducible refine Below.setCell ?_ ?_ _ | with_reducible refine Below.alloc ?_ ?_ _ | omega | (simp; done) | (simp; omega)))
    go_enter Try.func3, Try.ntmps3
    go_wp2_with fail
    generalize ((w.alloc (.cells #[.int .i64 wide, .int .i64 high, .slice a n c, .slice ak nk ck, .slice ab nb cb] 29)).alloc (.cells #[.int .i64 p.1, .int .i64 p.2] 31)) = W0 at X0 X1 hB0 ⊢
    have z0 := X0.lt
    have z1 := X1.lt
    refine (law3_small _ _ _ _ _ _ _ _ _ _ _ _ _ hn hk hb).mono ?_
    rintro e w1 ⟨rfl, hb1⟩
    rw [HSM.out]
    have hB := hB0
    clear hB0
    replace X0 := X0.below hb1
    replace X1 := X1.below hb1
    replace hB := bvia hB hb1
    clear hb1
    have X0_0 := X0.at_ 0 rfl
    have X0_1 := X0.at_ 1 rfl
    have X0_2 := X0.at_ 2 rfl
    have X0_3 := X0.at_ 3 rfl
    have X0_4 := X0.at_ 4 rfl
    have X0z := X0.lt
    have X1_0 := X1.at_ 0 rfl
    have X1_1 := X1.at_ 1 rfl
    have X1z := X1.lt
    go_wp2_with fail
    refine (awake5_true _).mono ?_
    rintro e w8 ⟨rfl, hb8⟩
    go_wp2_with fail
    go_ret
    exact ⟨rfl, bvia hB hb8⟩
  by_cases hm12 : 12 < m
  · skip
    have X0 := (Bx.new w #[.int .i64 wide, .int .i64 high, .slice a n c, .slice ak nk ck, .slice ab nb cb] 29).alloc (.cells #[.int .i64 p.1, .int .i64 p.2] 31)
    have X1 := Bx.new (w.alloc (.cells #[.int .i64 wide, .int .i64 high, .slice a n c, .slice ak nk ck, .slice ab nb cb] 29)) #[.int .i64 p.1, .int .i64 p.2] 31
    simp only [World.size_alloc] at X1
    have hB0 : Below w.heap.size w ((w.alloc (.cells #[.int .i64 wide, .int .i64 high, .slice a n c, .slice ak nk ck, .slice ab nb cb] 29)).alloc (.cells #[.int .i64 p.1, .int .i64 p.2] 31)) := by (repeat' (first | with_reducible assumption | with_reducible exact Below.refl _ _ | with_reducible refine Below.drew ?_ | with_reducible refine below_drewN ?_ _ | with_reducible refine balloc ?_ _ | with_reducible refine bset ?_ ?_ _ | with_reducible refine Below.setCell ?_ ?_ _ | with_reducible refine Below.alloc ?_ ?_ _ | omega | (simp; done) | (simp; omega)))
    go_enter Try.func3, Try.ntmps3
    go_wp2_with fail
    generalize ((w.alloc (.cells #[.int .i64 wide, .int .i64 high, .slice a n c, .slice ak nk ck, .slice ab nb cb] 29)).alloc (.cells #[.int .i64 p.1, .int .i64 p.2] 31)) = W0 at X0 X1 hB0 ⊢
    have z0 := X0.lt
    have z1 := X1.lt
    refine (law3_small _ _ _ _ _ _ _ _ _ _ _ _ _ hn hk hb).mono ?_
    rintro e w1 ⟨rfl, hb1⟩
    rw [HSM.out]
    have hB := hB0
    clear hB0
    replace X0 := X0.below hb1
    replace X1 := X1.below hb1
    replace hB := bvia hB hb1
    clear hb1
    have X0_0 := X0.at_ 0 rfl
    have X0_1 := X0.at_ 1 rfl
    have X0_2 := X0.at_ 2 rfl
    have X0_3 := X0.at_ 3 rfl
    have X0_4 := X0.at_ 4 rfl
    have X0z := X0.lt
    have X1_0 := X1.at_ 0 rfl
    have X1_1 := X1.at_ 1 rfl
    have X1z := X1.lt
    go_wp2_with fail
    refine (awake5_true _).mono ?_
    rintro e w8 ⟨rfl, hb8⟩
    go_wp2_with fail
    go_ret
    exact ⟨rfl, bvia hB hb8⟩
  have hcl := fun W' S' SK' SB' => wall_Closed wide high p a ak ab n nk nb c ck cb g Kd B W' (by omega) (by omega) (by omega) S' SK' SB'
  generalize her : clE (validW wide high n g nk nb Kd B) wide high p Kd = er at *
  have HER := hid her
  clear her
  by_cases hz : er = 0
  rotate_left
  · have hzb : (er == 0) = false := by simpa using hz
    have hzc : (er != 0) = true := by simpa using hz
    have X0 := (Bx.new w #[.int .i64 wide, .int .i64 high, .slice a n c, .slice ak nk ck, .slice ab nb cb] 29).alloc (.cells #[.int .i64 p.1, .int .i64 p.2] 31)
    have X1 := Bx.new (w.alloc (.cells #[.int .i64 wide, .int .i64 high, .slice a n c, .slice ak nk ck, .slice ab nb cb] 29)) #[.int .i64 p.1, .int .i64 p.2] 31
    simp only [World.size_alloc] at X1
    have hB0 : Below w.heap.size w ((w.alloc (.cells #[.int .i64 wide, .int .i64 high, .slice a n c, .slice ak nk ck, .slice ab nb cb] 29)).alloc (.cells #[.int .i64 p.1, .int .i64 p.2] 31)) := by (repeat' (first | with_reducible assumption | with_reducible exact Below.refl _ _ | with_reducible refine Below.drew ?_ | with_reducible refine below_drewN ?_ _ | with_reducible refine balloc ?_ _ | with_reducible refine bset ?_ ?_ _ | with_reducible refine Below.setCell ?_ ?_ _ | with_reducible refine Below.alloc ?_ ?_ _ | omega | (simp; done) | (simp; omega)))
    go_enter Try.func3, Try.ntmps3
    go_wp2_with fail
    generalize ((w.alloc (.cells #[.int .i64 wide, .int .i64 high, .slice a n c, .slice ak nk ck, .slice ab nb cb] 29)).alloc (.cells #[.int .i64 p.1, .int .i64 p.2] 31)) = W0 at X0 X1 hB0 ⊢
    have z0 := X0.lt
    have z1 := X1.lt
    refine (law3_small _ _ _ _ _ _ _ _ _ _ _ _ _ hn hk hb).mono ?_
    rintro e w1 ⟨rfl, hb1⟩
    rw [HSM.out]
    have hB := hB0
    clear hB0
    replace X0 := X0.below hb1
    replace X1 := X1.below hb1
    replace hB := bvia hB hb1
    clear hb1
    have X0_0 := X0.at_ 0 rfl
    have X0_1 := X0.at_ 1 rfl
    have X0_2 := X0.at_ 2 rfl
    have X0_3 := X0.at_ 3 rfl
    have X0_4 := X0.at_ 4 rfl
    have X0z := X0.lt
    have X1_0 := X1.at_ 0 rfl
    have X1_1 := X1.at_ 1 rfl
    have X1z := X1.lt
    go_wp2_with fail
    refine (hcl _ (S.below hB) (SK.below hB) (SB.below hB)).mono ?_
    rintro e w2 ⟨h1, _⟩
    obtain ⟨a1, c1, rfl, S1, hb2⟩ := h1 hz
    clear X0_0 X0_1 X0_2 X0_3 X0_4 X0z X1_0 X1_1 X1z
    replace X0 := X0.below hb2
    replace X1 := X1.below hb2
    replace hB := bvia hB hb2
    clear hb2
    have X0_0 := X0.at_ 0 rfl
    have X0_1 := X0.at_ 1 rfl
    have X0_2 := X0.at_ 2 rfl
    have X0_3 := X0.at_ 3 rfl
    have X0_4 := X0.at_ 4 rfl
    have X0z := X0.lt
    have X1_0 := X1.at_ 0 rfl
    have X1_1 := X1.at_ 1 rfl
    have X1z := X1.lt
    clear h1 hz HER hcl
    go_wp2_with fail
    refine (awake5_true _).mono ?_
    rintro e w8 ⟨rfl, hb8⟩
    go_wp2_with fail
    go_ret
    exact ⟨rfl, bvia hB hb8⟩
  · subst hz
    have hv : validW wide high n g nk nb Kd B = true := by
      cases h : validW wide high n g nk nb Kd B
      · have := HER.out; rw [h] at this; simp [clE] at this
      · rfl
    have hp0 : Kd (p.1 + wide * p.2).toNat = 0 ∧ onB wide high p.1 p.2 = true := by
      have := HER.out
      rw [hv] at this
      simp only [clE, if_true] at this
      split at this
      · rename_i ho
        split at this
        · exact ⟨by assumption, ho⟩
        · omega
      · omega
    obtain ⟨vg, rfl, rfl, hKB⟩ := (validW_iff _ _ _ _ _ _ _ _).1 hv
    obtain ⟨g1, g2, g3, g4, g5, g6, g7, g8⟩ := (validG_iff _ _ _ _).1 vg
    obtain ⟨W, rfl⟩ : ∃ W : Nat, wide = W := ⟨wide.toNat, by omega⟩
    obtain ⟨H, rfl⟩ : ∃ H : Nat, high = H := ⟨high.toNat, by omega⟩
    have hcast : ((W * H : Nat) : Int) = (W : Int) * (H : Int) := by simp
    obtain ⟨hnW⟩ : Nonempty (nb = W * H) := ⟨by omega⟩
    simp only [Int.toNat_natCast] at hcl
    generalize hR : Rch Kd W H (p.1 + (W : Int) * p.2).toNat = R at *
    have HR := hid hR
    have HNW := hid hnW
    have hok : okG nb g := ⟨g7, g8⟩
    have HOK := hid hok; have HKB := hid hKB; have HP0 := hid hp0
    clear hv vg hR g5 g6 g7 g8 hok hKB hp0 hnW hcast HER
    have X0 := (Bx.new w #[.int .i64 (W : Int), .int .i64 (H : Int), .slice a nb c, .slice ak nb ck, .slice ab nb cb] 29).alloc (.cells #[.int .i64 p.1, .int .i64 p.2] 31)
    have X1 := Bx.new (w.alloc (.cells #[.int .i64 (W : Int), .int .i64 (H : Int), .slice a nb c, .slice ak nb ck, .slice ab nb cb] 29)) #[.int .i64 p.1, .int .i64 p.2] 31
    simp only [World.size_alloc] at X1
    have hB0 : Below w.heap.size w ((w.alloc (.cells #[.int .i64 (W : Int), .int .i64 (H : Int), .slice a nb c, .slice ak nb ck, .slice ab nb cb] 29)).alloc (.cells #[.int .i64 p.1, .int .i64 p.2] 31)) := by (repeat' (first | with_reducible assumption | with_reducible exact Below.refl _ _ | with_reducible refine Below.drew ?_ | with_reducible refine below_drewN ?_ _ | with_reducible refine balloc ?_ _ | with_reducible refine bset ?_ ?_ _ | with_reducible refine Below.setCell ?_ ?_ _ | with_reducible refine Below.alloc ?_ ?_ _ | omega | (simp; done) | (simp; omega)))
    go_enter Try.func3, Try.ntmps3
    go_wp2_with fail
    generalize ((w.alloc (.cells #[.int .i64 (W : Int), .int .i64 (H : Int), .slice a nb c, .slice ak nb ck, .slice ab nb cb] 29)).alloc (.cells #[.int .i64 p.1, .int .i64 p.2] 31)) = W0 at X0 X1 hB0 ⊢
    have z0 := X0.lt
    have z1 := X1.lt
    refine (law3_small _ _ _ _ _ _ _ _ _ _ _ _ _ hn hk hb).mono ?_
    rintro e w1 ⟨rfl, hb1⟩
    rw [HSM.out]
    have hB := hB0
    clear hB0
    replace X0 := X0.below hb1
    replace X1 := X1.below hb1
    replace hB := bvia hB hb1
    clear hb1
    have X0_0 := X0.at_ 0 rfl
    have X0_1 := X0.at_ 1 rfl
    have X0_2 := X0.at_ 2 rfl
    have X0_3 := X0.at_ 3 rfl
    have X0_4 := X0.at_ 4 rfl
    have X0z := X0.lt
    have X1_0 := X1.at_ 0 rfl
    have X1_1 := X1.at_ 1 rfl
    have X1z := X1.lt
    go_wp2_with fail
    refine (hcl _ (S.below hB) (SK.below hB) (SB.below hB)).mono ?_
    rintro e w2 ⟨_, h2⟩
    obtain ⟨T, hT, a1, c1, rfl, S1, hb2⟩ := h2 rfl
    have hlen := ownL_length (ind T) 1 nb
    have hpl := fun k => own_place (T := T) (n := nb) (k := k)
    have hall := fun j => inL_all (T := T) (n := nb) (j := j)
    generalize ownL (ind T) 1 nb = L at *
    clear X0_0 X0_1 X0_2 X0_3 X0_4 X0z X1_0 X1_1 X1z
    replace X0 := X0.below hb2
    replace X1 := X1.below hb2
    replace hB := bvia hB hb2
    clear hb2
    have X0_0 := X0.at_ 0 rfl
    have X0_1 := X0.at_ 1 rfl
    have X0_2 := X0.at_ 2 rfl
    have X0_3 := X0.at_ 3 rfl
    have X0_4 := X0.at_ 4 rfl
    have X0z := X0.lt
    have X1_0 := X1.at_ 0 rfl
    have X1_1 := X1.at_ 1 rfl
    have X1z := X1.lt
    clear h2 hcl
    have HPL := hid hpl; have HALL := hid hall; have HT := hid hT
    clear hpl hall hT
    replace SK := SK.below hB
    replace S := S.below hB
    replace SB := SB.below hB
    go_wp2_with fail
    clear X0_0 X0_1 X0_2 X0_3 X0_4 X0z X1_0 X1_1 X1z
    go_loop [9] (fun i => ∃ k : Nat, k ≤ nb ∧ i = .int .i64 (k : Int) ∧ ∀ j, j < k → Kd j = 0 ∨ Kd j = 1) (fun i => nb - (intOf i).toNat)
    case atStart => exact ⟨0, Nat.zero_le _, rfl, fun j hj => by omega⟩
    case round =>
      obtain ⟨k, hk2, rfl, hK1⟩ := hrel
      have HK1 := hid hK1; clear hK1
      have p0 := X0.at_ 0 rfl; have p1 := X0.at_ 1 rfl; have p2 := X0.at_ 2 rfl; have p3 := X0.at_ 3 rfl; have p4 := X0.at_ 4 rfl; have zx := X0.lt
      by_cases hlt : k < nb
      · obtain ⟨bk, ok, rfl, hbk, ck⟩ := SK k hlt
        by_cases h0 : Kd k = 0
        · rw [h0] at ck
          go_wp2_with fail
          go_round
          case rel => exact ⟨k + 1, by omega, by go_num, fun j hj => by
            rcases Nat.lt_succ_iff_lt_or_eq.1 hj with h | rfl
            · exact HK1.out j h
            · exact .inl h0⟩
          case measure => simp [intOf] <;> omega
        · by_cases h1 : Kd k = 1
          · rw [h1] at ck
            go_wp2_with fail
            go_round
            case rel => exact ⟨k + 1, by omega, by go_num, fun j hj => by
              rcases Nat.lt_succ_iff_lt_or_eq.1 hj with h | rfl
              · exact HK1.out j h
              · exact .inr h1⟩
            case measure => simp [intOf] <;> omega
          · generalize Kd k = kk at *
            have z0 : (kk == 0) = false := by simpa using h0
            have z1 : (kk != 0) = true := by simpa using h0
            have z2 : (kk == 1) = false := by simpa using h1
            have z3 : (kk != 1) = true := by simpa using h1
            clear h0 h1
            go_wp2_with fail
            refine (awake5_true _).mono ?_
            rintro e w8 ⟨rfl, hb8⟩
            go_wp2_with fail
            go_ret
            exact ⟨rfl, bvia hB hb8⟩
      · obtain rfl : k = nb := (by omega)
        have hmb := fun W' => mk_bools k (by omega) W'
        go_upto_region 11 with (fail)
        clear p0 p1 p2 p3 p4 zx
        have X0_2 := X0.at_ 2 rfl
        go_wp2_with fail
        have RB := rb_frow w2 k
        clear X0_2
        have hb3 := below_alloc w2 (.cells (frow k) 4)
        rw [← inL_zero L] at RB
        generalize w2.alloc (.cells (frow k) 4) = w3 at *
        clear hmb
        go_loopw [11] (fun s11 wr => ∃ i : Nat, i ≤ L.length ∧ s11 = .int .i64 (i : Int) ∧ Rb wr w2.heap.size k (inL L i) ∧ Below w2.heap.size w2 wr) (fun s11 _ => L.length - (intOf s11).toNat)
        case atStart => exact ⟨0, Nat.zero_le _, rfl, RB, hb3⟩
        case round =>
          clear RB hb3
          obtain ⟨i, hi, rfl, RB, hb3⟩ := hrel
          by_cases hlt : i < L.length
          · obtain ⟨bl, ol, rfl, hbl, cl⟩ := (S1.below hb3) i hlt
            have hbl2 : bl ≠ w2.heap.size := by
              obtain ⟨b', o', e, h1, _⟩ := S1 i hlt
              injection e with e; injection e with e1 _ _; omega
            obtain ⟨j, hj, hLj⟩ := HPL.out i hlt
            have hin := inL_succ hlt hLj
            have HIN := hid hin; clear hin
            dsimp only at cl
            rw [hLj] at cl
            have c0 := RB.2 j hj; have cf := RB.3; have cz := RB.1
            clear hLj
            go_wp2_with fail
            go_roundw
            case rel => exact ⟨i + 1, by omega, by go_num, (by rw [HIN.out]; exact RB.set_ j), hb3.setCell (Nat.le_refl _) _⟩
            case measure => simp [intOf]; omega
          · obtain rfl : i = L.length := (by omega)
            replace RB := RB.congr (fun j hj => HALL.out j hj)
            clear S1 HPL HALL
            obtain ⟨w4, rfl⟩ : ∃ w4 : World, w4 = wr := ⟨_, rfl⟩
            have hmk := fun W' => mk_cells k k rfl (by omega) W'
            have x0 := X0.below hb3
            have r0 : ∀ Y, Below w4.heap.size w4 Y → Y.cell? ⟨w.heap.size, 0, none⟩ = some (.int .i64 (W : Int)) := fun Y h => (x0.below h).at_ 0 rfl
            have r1 : ∀ Y, Below w4.heap.size w4 Y → Y.cell? ⟨w.heap.size, 1, none⟩ = some (.int .i64 (H : Int)) := fun Y h => (x0.below h).at_ 1 rfl
            go_upto_region 18 with (fail)
            refine wp_region_S (fun Y => Below w4.heap.size w4 Y) 11 (by kernel_rfl) ?_
            refine anyS_take (i := 0) rfl (by kernel_rfl) (fun _ _ _ h => h) (Or.inl ⟨by rfl, fun Y hYb => (by (try dsimp only at hYb); go_simp; rfl)⟩) (by repeat' (first | with_reducible assumption | with_reducible exact Below.refl _ _ | with_reducible refine Below.drew ?_ | with_reducible refine below_drewN ?_ _)) ?_
            refine anyS_take (i := 1) rfl (by kernel_rfl) (fun _ _ _ h => h) (Or.inl ⟨by rfl, fun Y hYb => (by (try dsimp only at hYb); go_simp; rfl)⟩) (by repeat' (first | with_reducible assumption | with_reducible exact Below.refl _ _ | with_reducible refine Below.drew ?_ | with_reducible refine below_drewN ?_ _)) ?_
            refine anyS_take (i := 2) rfl (by kernel_rfl) (fun _ _ _ h => h) (Or.inl ⟨by rfl, fun Y hYb => (by (try dsimp only at hYb); go_simp; rfl)⟩) (by repeat' (first | with_reducible assumption | with_reducible exact Below.refl _ _ | with_reducible refine Below.drew ?_ | with_reducible refine below_drewN ?_ _)) ?_
            refine anyS_take (i := 3) rfl (by kernel_rfl) (fun _ _ _ h => h) (Or.inl ⟨by rfl, fun Y hYb => (by (try dsimp only at hYb); go_simp; rfl)⟩) (by repeat' (first | with_reducible assumption | with_reducible exact Below.refl _ _ | with_reducible refine Below.drew ?_ | with_reducible refine below_drewN ?_ _)) ?_
            refine anyS_take (i := 4) rfl (by kernel_rfl) (fun _ _ _ h => h) (Or.inl ⟨by rfl, fun Y hYb => (by (try dsimp only at hYb); go_simp; rfl)⟩) (by repeat' (first | with_reducible assumption | with_reducible exact Below.refl _ _ | with_reducible refine Below.drew ?_ | with_reducible refine below_drewN ?_ _)) ?_
            refine anyS_take (i := 5) rfl (by kernel_rfl) (fun _ _ _ h => h) (Or.inl ⟨by rfl, fun Y hYb => (by (try dsimp only at hYb); go_simp; rfl)⟩) (by repeat' (first | with_reducible assumption | with_reducible exact Below.refl _ _ | with_reducible refine Below.drew ?_ | with_reducible refine below_drewN ?_ _)) ?_
            refine anyS_take (i := 6) rfl (by kernel_rfl) (fun _ _ _ h => h) (Or.inl ⟨by rfl, fun Y hYb => (by (try dsimp only at hYb); go_simp; rfl)⟩) (by repeat' (first | with_reducible assumption | with_reducible exact Below.refl _ _ | with_reducible refine Below.drew ?_ | with_reducible refine below_drewN ?_ _)) ?_
            refine anyS_take (i := 7) rfl (by kernel_rfl) (fun _ _ _ h => h) (Or.inl ⟨by rfl, fun Y hYb => (by (try dsimp only at hYb); go_simp; rfl)⟩) (by repeat' (first | with_reducible assumption | with_reducible exact Below.refl _ _ | with_reducible refine Below.drew ?_ | with_reducible refine below_drewN ?_ _)) ?_
            refine anyS_two (i := 8) (j := 10) (by kernel_rfl) rfl rfl (by rfl) (by rfl) (fun K hK => ?_) (fun K hK => ?_)
            · go_simp
              have hS : Below w4.heap.size w4 (w4.alloc (.cells (ccells k) 39)).drew := (below_alloc _ _).drew
              refine hK _ _ (fun _ _ => hS) ?_
              clear hK K
              refine anyS_take (i := 9) rfl (by kernel_rfl) (fun _ _ _ h => h) (Or.inl ⟨by rfl, fun Y hYb => (by (try dsimp only at hYb); go_simp; rfl)⟩) (by repeat' (first | with_reducible assumption | with_reducible exact Below.refl _ _ | with_reducible refine Below.drew ?_ | with_reducible refine below_drewN ?_ _)) ?_
              refine anyS_one (i := 10) (by kernel_rfl) rfl (by rfl) (fun K hK => ?_)
              go_simp
              have hS2 : Below w4.heap.size w4 ((w4.alloc (.cells (ccells k) 39)).alloc (.cells #[.int .i64 0, .int .i64 0, .slice none 0 0] 24)).drew := (balloc (below_alloc _ _) _).drew
              refine hK _ _ (fun _ _ => hS2) ?_
              clear hK K hS
              have XG := (Bx.new (w4.alloc (.cells (ccells k) 39)) #[.int .i64 0, .int .i64 0, .slice none 0 0] 24).drew
              simp only [World.size_alloc] at XG
              have RG := ((roC_made w4 k).alloc (.cells #[.int .i64 0, .int .i64 0, .slice none 0 0] 24)).drew
              have hne : w4.heap.size ≠ w4.heap.size + 1 := by omega
              have hb2w := RB.lt
              have hb2x : w2.heap.size < w4.heap.size + 1 := by omega
              replace hb3 := bvia hb3 hS2
              replace RB := RB.below hS2
              clear hS2 r0 r1 x0 hmk
              generalize ((w4.alloc (.cells (ccells k) 39)).alloc (.cells #[.int .i64 0, .int .i64 0, .slice none 0 0] 24)).drew = w5 at *
              generalize w4.heap.size + 1 = bx at *
              generalize w4.heap.size = bg at *
              have xg0 := XG.at_ 0 rfl; have xg1 := XG.at_ 1 rfl; have xg2 := XG.at_ 2 rfl; have xgf := XG.free; have xgl := XG.lt
              refine anyS_one (i := 11) (by kernel_rfl) rfl (by rfl) (fun K hK => ?_)
              go_simp
              refine hK _ _ (fun h _ => absurd h (by decide)) ?_
              clear hK K
              refine anyS_done (by kernel_rfl) ?_ _
              have hb6 : Below w2.heap.size w2 (((w5.setCell ⟨bx, 0, none⟩ (.int .i64 (W : Int))).setCell ⟨bx, 1, none⟩ (.int .i64 (H : Int))).setCell ⟨bx, 2, none⟩ (.slice (some ⟨bg, 0, none⟩) k k)) := ((hb3.setCell (by dsimp only; omega) _).setCell (by dsimp only; omega) _).setCell (by dsimp only; omega) _
              replace XG : Bx (((w5.setCell ⟨bx, 0, none⟩ (.int .i64 (W : Int))).setCell ⟨bx, 1, none⟩ (.int .i64 (H : Int))).setCell ⟨bx, 2, none⟩ (.slice (some ⟨bg, 0, none⟩) k k)) bx #[.int .i64 (W : Int), .int .i64 (H : Int), .slice (some ⟨bg, 0, none⟩) k k] := ((XG.set_ 0 (by simp) _).set_ 1 (by simp) _).set_ 2 (by simp) _
              replace RG := ((RG.far (p := ⟨bx, 0, none⟩) (Ne.symm hne) (.int .i64 (W : Int))).far (p := ⟨bx, 1, none⟩) (Ne.symm hne) (.int .i64 (H : Int))).far (p := ⟨bx, 2, none⟩) (Ne.symm hne) (.slice (some ⟨bg, 0, none⟩) k k)
              replace RB := ((RB.far (p := ⟨bx, 0, none⟩) (by dsimp only; omega) (.int .i64 (W : Int))).far (p := ⟨bx, 1, none⟩) (by dsimp only; omega) (.int .i64 (H : Int))).far (p := ⟨bx, 2, none⟩) (by dsimp only; omega) (.slice (some ⟨bg, 0, none⟩) k k)
              clear xg0 xg1 xg2 xgf xgl hb3
              generalize ((w5.setCell ⟨bx, 0, none⟩ (.int .i64 (W : Int))).setCell ⟨bx, 1, none⟩ (.int .i64 (H : Int))).setCell ⟨bx, 2, none⟩ (.slice (some ⟨bg, 0, none⟩) k k) = w6 at *
              rw [← ovC_zero (onlyF T g) (fun _ => C4.zero)] at RG
              have hFt := fun i (h : T i = true) => (show onlyF T g i = g i by unfold onlyF; rw [if_pos h])
              have hFf := fun i (h : T i = false) => (show onlyF T g i = C4.zero by unfold onlyF; rw [h]; rfl)
              have HFT := hid hFt; have HFF := hid hFf
              clear hFt hFf
              go_wp2_with fail
              go_loopw [13] (fun s13 wr => ∃ i : Nat, i ≤ k ∧ s13 = .int .i64 (i : Int) ∧ Ro wr bg (k * 4) (flatC (ovC (onlyF T g) (fun _ => C4.zero) i)) ∧ Bx wr bx #[.int .i64 (W : Int), .int .i64 (H : Int), .slice (some ⟨bg, 0, none⟩) k k] ∧ Rb wr w2.heap.size k T ∧ Below w2.heap.size w2 wr) (fun s13 _ => k - (intOf s13).toNat)
              case atStart => exact ⟨0, Nat.zero_le _, rfl, RG, XG, RB, hb6⟩
              case round =>
                clear RG XG RB hb6
                obtain ⟨i, hi, rfl, RG, XG, RB, hb7⟩ := hrel
                by_cases hlt : i < k
                · have rb := RB.2 i hlt
                  have rbz := RB.1
                  cases hTi : T i
                  · rw [hTi] at rb
                    have hz := HFF.out i hTi
                    go_wp2_with fail
                    go_roundw
                    case rel => exact ⟨i + 1, by omega, by go_num, (by rw [ovC_same hz]; exact RG), XG, RB, hb7⟩
                    case measure => simp [intOf]; omega
                  · rw [hTi] at rb
                    have hz := HFT.out i hTi
                    obtain ⟨ba, oa, rfl, hba, s0, s1, s2, s3⟩ := S i hlt
                    go_upto_region 23 with (fail)
                    obtain ⟨w7, rfl⟩ : ∃ w7 : World, w7 = wr := ⟨_, rfl⟩
                    have lba : ba < w7.heap.size := by have := hb7.size; omega
                    have r0 : ∀ Y, Below w7.heap.size w7 Y → Y.cell? ⟨w.heap.size, 2, none⟩ = some (.slice (some ⟨ba, oa, none⟩) k c) := fun Y h => ((X0.below hb7).below h).at_ 2 rfl
                    have r2 : ∀ Y, Below w7.heap.size w7 Y → Y.cell? ⟨bx, 2, none⟩ = some (.slice (some ⟨bg, 0, none⟩) k k) := fun Y h => (XG.below h).at_ 2 rfl
                    have q0 : ∀ Y, Below w7.heap.size w7 Y → Y.cell? ⟨ba, oa + i * 4, none⟩ = some (.int .i64 (g i).e) := fun Y h => (bcell h _ _ lba).trans ((bcell hb7 _ _ hba).trans s0)
                    have q1 : ∀ Y, Below w7.heap.size w7 Y → Y.cell? ⟨ba, oa + i * 4 + 1, none⟩ = some (.int .i64 (g i).n) := fun Y h => (bcell h _ _ lba).trans ((bcell hb7 _ _ hba).trans s1)
                    have q2 : ∀ Y, Below w7.heap.size w7 Y → Y.cell? ⟨ba, oa + i * 4 + 2, none⟩ = some (.int .i64 (g i).w) := fun Y h => (bcell h _ _ lba).trans ((bcell hb7 _ _ hba).trans s2)
                    have q3 : ∀ Y, Below w7.heap.size w7 Y → Y.cell? ⟨ba, oa + i * 4 + 3, none⟩ = some (.int .i64 (g i).s) := fun Y h => (bcell h _ _ lba).trans ((bcell hb7 _ _ hba).trans s3)
                    obtain ⟨y0, y1, y2, y3⟩ := RG.scell hlt
                    have yf := RG.free; have yl := RG.lt
                    have hn1 : bx ≠ bg := Ne.symm hne
                    have hn2 : w2.heap.size ≠ bg := by omega
                    clear s0 s1 s2 s3 rb
                    refine wp_region_S (fun Y => Below w7.heap.size w7 Y) 10 (by kernel_rfl) ?_
                    refine anyS_take (i := 0) rfl (by kernel_rfl) (fun _ _ _ h => h) (Or.inl ⟨by rfl, fun Y hYb => (by (try dsimp only at hYb); go_simp; rfl)⟩) (by repeat' (first | with_reducible assumption | with_reducible exact Below.refl _ _ | with_reducible refine Below.drew ?_ | with_reducible refine below_drewN ?_ _)) ?_
                    refine anyS_take (i := 1) rfl (by kernel_rfl) (fun _ _ _ h => h) (Or.inl ⟨by rfl, fun Y hYb => (by (try dsimp only at hYb); go_simp; rfl)⟩) (by repeat' (first | with_reducible assumption | with_reducible exact Below.refl _ _ | with_reducible refine Below.drew ?_ | with_reducible refine below_drewN ?_ _)) ?_
                    refine anyS_take (i := 2) rfl (by kernel_rfl) (fun _ _ _ h => h) (Or.inl ⟨by rfl, fun Y hYb => (by (try dsimp only at hYb); go_simp; rfl)⟩) (by repeat' (first | with_reducible assumption | with_reducible exact Below.refl _ _ | with_reducible refine Below.drew ?_ | with_reducible refine below_drewN ?_ _)) ?_
                    refine anyS_take (i := 3) rfl (by kernel_rfl) (fun _ _ _ h => h) (Or.inl ⟨by rfl, fun Y hYb => (by (try dsimp only at hYb); go_simp; rfl)⟩) (by repeat' (first | with_reducible assumption | with_reducible exact Below.refl _ _ | with_reducible refine Below.drew ?_ | with_reducible refine below_drewN ?_ _)) ?_
                    refine anyS_take (i := 4) rfl (by kernel_rfl) (fun _ _ _ h => h) (Or.inl ⟨by rfl, fun Y hYb => (by (try dsimp only at hYb); go_simp; rfl)⟩) (by repeat' (first | with_reducible assumption | with_reducible exact Below.refl _ _ | with_reducible refine Below.drew ?_ | with_reducible refine below_drewN ?_ _)) ?_
                    refine anyS_take (i := 5) rfl (by kernel_rfl) (fun _ _ _ h => h) (Or.inl ⟨by rfl, fun Y hYb => (by (try dsimp only at hYb); go_simp; rfl)⟩) (by repeat' (first | with_reducible assumption | with_reducible exact Below.refl _ _ | with_reducible refine Below.drew ?_ | with_reducible refine below_drewN ?_ _)) ?_
                    refine anyS_take (i := 6) rfl (by kernel_rfl) (fun _ _ _ h => h) (Or.inl ⟨by rfl, fun Y hYb => (by (try dsimp only at hYb); go_simp; rfl)⟩) (by repeat' (first | with_reducible assumption | with_reducible exact Below.refl _ _ | with_reducible refine Below.drew ?_ | with_reducible refine below_drewN ?_ _)) ?_
                    refine anyS_take (i := 7) rfl (by kernel_rfl) (fun _ _ _ h => h) (Or.inl ⟨by rfl, fun Y hYb => (by (try dsimp only at hYb); go_simp; rfl)⟩) (by repeat' (first | with_reducible assumption | with_reducible exact Below.refl _ _ | with_reducible refine Below.drew ?_ | with_reducible refine below_drewN ?_ _)) ?_
                    refine anyS_take (i := 8) rfl (by kernel_rfl) (fun _ _ _ h => h) (Or.inl ⟨by rfl, fun Y hYb => (by (try dsimp only at hYb); go_simp; rfl)⟩) (by repeat' (first | with_reducible assumption | with_reducible exact Below.refl _ _ | with_reducible refine Below.drew ?_ | with_reducible refine below_drewN ?_ _)) ?_
                    refine anyS_take (i := 9) rfl (by kernel_rfl) (fun _ _ _ h => h) (Or.inl ⟨by rfl, fun Y hYb => (by (try dsimp only at hYb); go_simp; rfl)⟩) (by repeat' (first | with_reducible assumption | with_reducible exact Below.refl _ _ | with_reducible refine Below.drew ?_ | with_reducible refine below_drewN ?_ _)) ?_
                    refine anyS_one (i := 10) (by kernel_rfl) rfl (by rfl) (fun K hK => ?_)
                    go_simp
                    refine hK _ _ (fun h _ => absurd h (by decide)) ?_
                    clear hK K
                    refine anyS_done (by kernel_rfl) ?_ _
                    clear r0 r2 q0 q1 q2 q3 y0 y1 y2 y3 yf
                    go_wp2_with fail
                    go_roundw
                    case rel => exact ⟨i + 1, by omega, by go_num, (by rw [ovC_succ, hz]; exact RG.drew.setC i (g i)), (((XG.drew.far (p := ⟨bg, i * 4, none⟩) hne _).far (p := ⟨bg, i * 4 + 1, none⟩) hne _).far (p := ⟨bg, i * 4 + 2, none⟩) hne _).far (p := ⟨bg, i * 4 + 3, none⟩) hne _, (((RB.drew.far (p := ⟨bg, i * 4, none⟩) (Ne.symm hn2) _).far (p := ⟨bg, i * 4 + 1, none⟩) (Ne.symm hn2) _).far (p := ⟨bg, i * 4 + 2, none⟩) (Ne.symm hn2) _).far (p := ⟨bg, i * 4 + 3, none⟩) (Ne.symm hn2) _, (((hb7.drew.setCell (by dsimp only; omega) _).setCell (by dsimp only; omega) _).setCell (by dsimp only; omega) _).setCell (by dsimp only; omega) _⟩
                    case measure => simp [intOf]; omega
                · obtain rfl : i = k := (by omega)
                  replace RG := RG.congr (flatC_congr (fun j hj => ovC_lt (F := onlyF T g) (G := fun _ => C4.zero) hj))
                  have hokF := only_ok (T := T) HOK.out
                  have hV : validW (W : Int) (H : Int) i (onlyF T g) i i Kd B = true := (validW_iff _ _ _ _ _ _ _ _).2 ⟨by
                    have h := HNW.out
                    rw [h] at hokF n2 ⊢
                    exact validG_of (by omega) (by omega) (by omega) hokF, rfl, rfl, HKB.out⟩
                  have hTB : timesB 0 m = true := (timesB_iff 0 m).2 ⟨by omega, by omega, by omega, by omega, by omega⟩
                  have hRB : rulesB 1 (fun _ => ((1 : Int), (0 : Int))) = true := by decide
                  have hrun := fun aa cc ar cr W' S' SK' SB' SR' => wall_Run (W : Int) (H : Int) aa ak ab ar i i i 1 cc ck cb cr (onlyF T g) Kd B (fun _ => ((1 : Int), (0 : Int))) 0 m W' (by omega) (by omega) (by omega) (by omega) S' SK' SB' SR'
                  rw [hV, hRB, hTB, show rnE true true true = 0 from rfl] at hrun
                  simp only [erZ, erN, if_true, Int.toNat_natCast] at hrun
                  have hsh : ∀ j, j < i → Kd j = 0 → T j = false → runW W H (rlAt 1 (fun _ => ((1 : Int), (0 : Int)))) Kd (onlyF T g) (0 : Int).toNat m.toNat j = C4.zero := fun j hj hk0 hTj => by
                    have hR2 := HR.out
                    have hT2 := HT.out
                    obtain ⟨kp, _⟩ := HP0.out
                    have h := shut_run (W := W) (H := H) (K := Kd) (S := fun i => T i = true) (r := rlAt 1 (fun _ => ((1 : Int), (0 : Int)))) (t := (0 : Int).toNat) (g := onlyF T g) (fun j hj => HK1.out j (by rw [HNW.out]; exact hj))
                      (fun j hj => Rch.open_ kp (by have := (hT2 j).1 hj; rw [← hR2] at this; exact this)) (fun j d hj hd hk => by
                        have := (hT2 j).1 hj
                        rw [← hR2] at this
                        exact (hT2 _).2 (by rw [← hR2]; exact this.step hd hk))
                      (shut_only (fun j hj => Rch.open_ kp (by have := (hT2 j).1 hj; rw [← hR2] at this; exact this))) m.toNat
                    exact h.open_ j (by rw [← HNW.out]; exact hj) hk0 (by rw [hTj]; simp)
                  have HSH := hid hsh
                  clear hsh hokF hV hTB hRB
                  generalize runW W H (rlAt 1 (fun _ => ((1 : Int), (0 : Int)))) Kd (onlyF T g) (0 : Int).toNat m.toNat = G at *
                  have x0 := (X0.below hb7).at_ 3 rfl; have x1 := (X0.below hb7).at_ 4 rfl; have xz := (X0.below hb7).lt
                  have y0 := XG.at_ 0 rfl; have y1 := XG.at_ 1 rfl; have y2 := XG.at_ 2 rfl; have yz := XG.lt
                  have SR : Sr (wr.alloc (.cells #[.int .i64 1, .int .i64 0] 43)) (some ⟨wr.heap.size, 0, none⟩) 1 (fun _ => ((1 : Int), (0 : Int))) := fun j hj => by
                    obtain rfl : j = 0 := by omega
                    exact ⟨wr.heap.size, 0, rfl, by simp, cell_new _ _ _ 0 _ rfl, cell_new _ _ _ 1 _ rfl⟩
                  have hb8 : Below w2.heap.size w2 (wr.alloc (.cells #[.int .i64 1, .int .i64 0] 43)) := balloc hb7 _
                  go_wp2_with fail
                  refine (hrun _ _ _ _ _ (RG.alloc _).sc (SK.below hb8) (SB.below hb8) SR).mono ?_
                  rintro e w9 ⟨a5, c5, rfl, S5, hnew, hb9⟩
                  have hb10 : Below w2.heap.size w2 w9 := bvia hb8 hb9
                  replace RB := (RB.alloc (.cells #[.int .i64 1, .int .i64 0] 43)).below hb9
                  clear x0 x1 xz y0 y1 y2 yz SR hb8 hb9 hb7 RG XG hrun hnew
                  go_wp2_with fail
                  have X14 := Bx.new w9 #[.int .i64 (W : Int), .int .i64 (H : Int), .slice a5 i c5] 24
                  replace RB := RB.alloc (.cells #[.int .i64 (W : Int), .int .i64 (H : Int), .slice a5 i c5] 24)
                  replace S5 := S5.alloc (.cells #[.int .i64 (W : Int), .int .i64 (H : Int), .slice a5 i c5] 24)
                  replace hb10 := balloc hb10 (.cells #[.int .i64 (W : Int), .int .i64 (H : Int), .slice a5 i c5] 24)
                  have q2 := X14.at_ 2 rfl; have qz := X14.lt
                  have x3 := (X0.below hb10).at_ 3 rfl; have xz := (X0.below hb10).lt
                  go_loop [16] (fun s => ∃ j : Nat, j ≤ i ∧ s = .int .i64 (j : Int)) (fun s => i - (intOf s).toNat)
                  case atStart => exact ⟨0, Nat.zero_le _, rfl⟩
                  case round =>
                    obtain ⟨j, hj, rfl⟩ := hrel
                    by_cases hlj : j < i
                    · obtain ⟨bk, ok, rfl, hbk, ck⟩ := (SK.below hb10) j hlj
                      have rb := RB.2 j hlj
                      have rbz := RB.1
                      by_cases h0 : Kd j = 0
                      · rw [h0] at ck
                        cases hTj : T j
                        · rw [hTj] at rb
                          have hG := HSH.out j hlj h0 hTj
                          obtain ⟨b5, o5, rfl, hb5, s0, s1, s2, s3⟩ := S5 j hlj
                          rw [hG] at s0 s1 s2 s3
                          have hne0 := neq_cell 0 0 0 0 0 0 0 0
                          simp only [beq_self_eq_true, Bool.and_self, Bool.not_true] at hne0
                          dsimp only [C4.zero] at s0 s1 s2 s3
                          clear hG
                          go_wp2_with fail
                          go_round
                          case rel => exact ⟨j + 1, by omega, by go_num⟩
                          case measure => simp [intOf] <;> omega
                        · rw [hTj] at rb
                          go_wp2_with fail
                          go_round
                          case rel => exact ⟨j + 1, by omega, by go_num⟩
                          case measure => simp [intOf] <;> omega
                      · have z0 : (Kd j == 0) = false := by simpa using h0
                        generalize Kd j = kk at *
                        go_wp2_with fail
                        go_round
                        case rel => exact ⟨j + 1, by omega, by go_num⟩
                        case measure => simp [intOf] <;> omega
                    · obtain rfl : j = i := (by omega)
                      go_wp2_with fail
                      replace hB := bvia hB hb10
                      refine (awake5_true _).mono ?_
                      rintro e w8 ⟨rfl, hb8⟩
                      go_wp2_with fail
                      go_ret
                      exact ⟨rfl, bvia hB hb8⟩
            · go_simp
              have hS : Below w4.heap.size w4 (w4.alloc (.cells #[.int .i64 0, .int .i64 0, .slice none 0 0] 24)).drew := (below_alloc _ _).drew
              refine hK _ _ (fun _ _ => hS) ?_
              clear hK K
              refine anyS_one (i := 8) (by kernel_rfl) rfl (by rfl) (fun K hK => ?_)
              go_simp
              have hS2 : Below w4.heap.size w4 ((w4.alloc (.cells #[.int .i64 0, .int .i64 0, .slice none 0 0] 24)).alloc (.cells (ccells k) 39)).drew := (balloc (below_alloc _ _) _).drew
              refine hK _ _ (fun _ _ => hS2) ?_
              clear hK K hS
              refine anyS_take (i := 9) rfl (by kernel_rfl) (fun _ _ _ h => h) (Or.inl ⟨by rfl, fun Y hYb => (by (try dsimp only at hYb); go_simp; rfl)⟩) (by repeat' (first | with_reducible assumption | with_reducible exact Below.refl _ _ | with_reducible refine Below.drew ?_ | with_reducible refine below_drewN ?_ _)) ?_
              have RG := (roC_made (w4.alloc (.cells #[.int .i64 0, .int .i64 0, .slice none 0 0] 24)) k).drew
              simp only [World.size_alloc] at RG
              have XG := ((Bx.new w4 #[.int .i64 0, .int .i64 0, .slice none 0 0] 24).alloc (.cells (ccells k) 39)).drew
              have hne : w4.heap.size + 1 ≠ w4.heap.size := by omega
              have hb2w := RB.lt
              have hb2x : w2.heap.size < w4.heap.size + 1 := by omega
              replace hb3 := bvia hb3 hS2
              replace RB := RB.below hS2
              clear hS2 r0 r1 x0 hmk
              generalize ((w4.alloc (.cells #[.int .i64 0, .int .i64 0, .slice none 0 0] 24)).alloc (.cells (ccells k) 39)).drew = w5 at *
              generalize w4.heap.size + 1 = bg at *
              generalize w4.heap.size = bx at *
              have xg0 := XG.at_ 0 rfl; have xg1 := XG.at_ 1 rfl; have xg2 := XG.at_ 2 rfl; have xgf := XG.free; have xgl := XG.lt
              refine anyS_one (i := 11) (by kernel_rfl) rfl (by rfl) (fun K hK => ?_)
              go_simp
              refine hK _ _ (fun h _ => absurd h (by decide)) ?_
              clear hK K
              refine anyS_done (by kernel_rfl) ?_ _
              have hb6 : Below w2.heap.size w2 (((w5.setCell ⟨bx, 0, none⟩ (.int .i64 (W : Int))).setCell ⟨bx, 1, none⟩ (.int .i64 (H : Int))).setCell ⟨bx, 2, none⟩ (.slice (some ⟨bg, 0, none⟩) k k)) := ((hb3.setCell (by dsimp only; omega) _).setCell (by dsimp only; omega) _).setCell (by dsimp only; omega) _
              replace XG : Bx (((w5.setCell ⟨bx, 0, none⟩ (.int .i64 (W : Int))).setCell ⟨bx, 1, none⟩ (.int .i64 (H : Int))).setCell ⟨bx, 2, none⟩ (.slice (some ⟨bg, 0, none⟩) k k)) bx #[.int .i64 (W : Int), .int .i64 (H : Int), .slice (some ⟨bg, 0, none⟩) k k] := ((XG.set_ 0 (by simp) _).set_ 1 (by simp) _).set_ 2 (by simp) _
              replace RG := ((RG.far (p := ⟨bx, 0, none⟩) (Ne.symm hne) (.int .i64 (W : Int))).far (p := ⟨bx, 1, none⟩) (Ne.symm hne) (.int .i64 (H : Int))).far (p := ⟨bx, 2, none⟩) (Ne.symm hne) (.slice (some ⟨bg, 0, none⟩) k k)
              replace RB := ((RB.far (p := ⟨bx, 0, none⟩) (by dsimp only; omega) (.int .i64 (W : Int))).far (p := ⟨bx, 1, none⟩) (by dsimp only; omega) (.int .i64 (H : Int))).far (p := ⟨bx, 2, none⟩) (by dsimp only; omega) (.slice (some ⟨bg, 0, none⟩) k k)
              clear xg0 xg1 xg2 xgf xgl hb3
              generalize ((w5.setCell ⟨bx, 0, none⟩ (.int .i64 (W : Int))).setCell ⟨bx, 1, none⟩ (.int .i64 (H : Int))).setCell ⟨bx, 2, none⟩ (.slice (some ⟨bg, 0, none⟩) k k) = w6 at *
              rw [← ovC_zero (onlyF T g) (fun _ => C4.zero)] at RG
              have hFt := fun i (h : T i = true) => (show onlyF T g i = g i by unfold onlyF; rw [if_pos h])
              have hFf := fun i (h : T i = false) => (show onlyF T g i = C4.zero by unfold onlyF; rw [h]; rfl)
              have HFT := hid hFt; have HFF := hid hFf
              clear hFt hFf
              go_wp2_with fail
              go_loopw [13] (fun s13 wr => ∃ i : Nat, i ≤ k ∧ s13 = .int .i64 (i : Int) ∧ Ro wr bg (k * 4) (flatC (ovC (onlyF T g) (fun _ => C4.zero) i)) ∧ Bx wr bx #[.int .i64 (W : Int), .int .i64 (H : Int), .slice (some ⟨bg, 0, none⟩) k k] ∧ Rb wr w2.heap.size k T ∧ Below w2.heap.size w2 wr) (fun s13 _ => k - (intOf s13).toNat)
              case atStart => exact ⟨0, Nat.zero_le _, rfl, RG, XG, RB, hb6⟩
              case round =>
                clear RG XG RB hb6
                obtain ⟨i, hi, rfl, RG, XG, RB, hb7⟩ := hrel
                by_cases hlt : i < k
                · have rb := RB.2 i hlt
                  have rbz := RB.1
                  cases hTi : T i
                  · rw [hTi] at rb
                    have hz := HFF.out i hTi
                    go_wp2_with fail
                    go_roundw
                    case rel => exact ⟨i + 1, by omega, by go_num, (by rw [ovC_same hz]; exact RG), XG, RB, hb7⟩
                    case measure => simp [intOf]; omega
                  · rw [hTi] at rb
                    have hz := HFT.out i hTi
                    obtain ⟨ba, oa, rfl, hba, s0, s1, s2, s3⟩ := S i hlt
                    go_upto_region 23 with (fail)
                    obtain ⟨w7, rfl⟩ : ∃ w7 : World, w7 = wr := ⟨_, rfl⟩
                    have lba : ba < w7.heap.size := by have := hb7.size; omega
                    have r0 : ∀ Y, Below w7.heap.size w7 Y → Y.cell? ⟨w.heap.size, 2, none⟩ = some (.slice (some ⟨ba, oa, none⟩) k c) := fun Y h => ((X0.below hb7).below h).at_ 2 rfl
                    have r2 : ∀ Y, Below w7.heap.size w7 Y → Y.cell? ⟨bx, 2, none⟩ = some (.slice (some ⟨bg, 0, none⟩) k k) := fun Y h => (XG.below h).at_ 2 rfl
                    have q0 : ∀ Y, Below w7.heap.size w7 Y → Y.cell? ⟨ba, oa + i * 4, none⟩ = some (.int .i64 (g i).e) := fun Y h => (bcell h _ _ lba).trans ((bcell hb7 _ _ hba).trans s0)
                    have q1 : ∀ Y, Below w7.heap.size w7 Y → Y.cell? ⟨ba, oa + i * 4 + 1, none⟩ = some (.int .i64 (g i).n) := fun Y h => (bcell h _ _ lba).trans ((bcell hb7 _ _ hba).trans s1)
                    have q2 : ∀ Y, Below w7.heap.size w7 Y → Y.cell? ⟨ba, oa + i * 4 + 2, none⟩ = some (.int .i64 (g i).w) := fun Y h => (bcell h _ _ lba).trans ((bcell hb7 _ _ hba).trans s2)
                    have q3 : ∀ Y, Below w7.heap.size w7 Y → Y.cell? ⟨ba, oa + i * 4 + 3, none⟩ = some (.int .i64 (g i).s) := fun Y h => (bcell h _ _ lba).trans ((bcell hb7 _ _ hba).trans s3)
                    obtain ⟨y0, y1, y2, y3⟩ := RG.scell hlt
                    have yf := RG.free; have yl := RG.lt
                    have hn1 : bx ≠ bg := Ne.symm hne
                    have hn2 : w2.heap.size ≠ bg := by omega
                    clear s0 s1 s2 s3 rb
                    refine wp_region_S (fun Y => Below w7.heap.size w7 Y) 10 (by kernel_rfl) ?_
                    refine anyS_take (i := 0) rfl (by kernel_rfl) (fun _ _ _ h => h) (Or.inl ⟨by rfl, fun Y hYb => (by (try dsimp only at hYb); go_simp; rfl)⟩) (by repeat' (first | with_reducible assumption | with_reducible exact Below.refl _ _ | with_reducible refine Below.drew ?_ | with_reducible refine below_drewN ?_ _)) ?_
                    refine anyS_take (i := 1) rfl (by kernel_rfl) (fun _ _ _ h => h) (Or.inl ⟨by rfl, fun Y hYb => (by (try dsimp only at hYb); go_simp; rfl)⟩) (by repeat' (first | with_reducible assumption | with_reducible exact Below.refl _ _ | with_reducible refine Below.drew ?_ | with_reducible refine below_drewN ?_ _)) ?_
                    refine anyS_take (i := 2) rfl (by kernel_rfl) (fun _ _ _ h => h) (Or.inl ⟨by rfl, fun Y hYb => (by (try dsimp only at hYb); go_simp; rfl)⟩) (by repeat' (first | with_reducible assumption | with_reducible exact Below.refl _ _ | with_reducible refine Below.drew ?_ | with_reducible refine below_drewN ?_ _)) ?_
                    refine anyS_take (i := 3) rfl (by kernel_rfl) (fun _ _ _ h => h) (Or.inl ⟨by rfl, fun Y hYb => (by (try dsimp only at hYb); go_simp; rfl)⟩) (by repeat' (first | with_reducible assumption | with_reducible exact Below.refl _ _ | with_reducible refine Below.drew ?_ | with_reducible refine below_drewN ?_ _)) ?_
                    refine anyS_take (i := 4) rfl (by kernel_rfl) (fun _ _ _ h => h) (Or.inl ⟨by rfl, fun Y hYb => (by (try dsimp only at hYb); go_simp; rfl)⟩) (by repeat' (first | with_reducible assumption | with_reducible exact Below.refl _ _ | with_reducible refine Below.drew ?_ | with_reducible refine below_drewN ?_ _)) ?_
                    refine anyS_take (i := 5) rfl (by kernel_rfl) (fun _ _ _ h => h) (Or.inl ⟨by rfl, fun Y hYb => (by (try dsimp only at hYb); go_simp; rfl)⟩) (by repeat' (first | with_reducible assumption | with_reducible exact Below.refl _ _ | with_reducible refine Below.drew ?_ | with_reducible refine below_drewN ?_ _)) ?_
                    refine anyS_take (i := 6) rfl (by kernel_rfl) (fun _ _ _ h => h) (Or.inl ⟨by rfl, fun Y hYb => (by (try dsimp only at hYb); go_simp; rfl)⟩) (by repeat' (first | with_reducible assumption | with_reducible exact Below.refl _ _ | with_reducible refine Below.drew ?_ | with_reducible refine below_drewN ?_ _)) ?_
                    refine anyS_take (i := 7) rfl (by kernel_rfl) (fun _ _ _ h => h) (Or.inl ⟨by rfl, fun Y hYb => (by (try dsimp only at hYb); go_simp; rfl)⟩) (by repeat' (first | with_reducible assumption | with_reducible exact Below.refl _ _ | with_reducible refine Below.drew ?_ | with_reducible refine below_drewN ?_ _)) ?_
                    refine anyS_take (i := 8) rfl (by kernel_rfl) (fun _ _ _ h => h) (Or.inl ⟨by rfl, fun Y hYb => (by (try dsimp only at hYb); go_simp; rfl)⟩) (by repeat' (first | with_reducible assumption | with_reducible exact Below.refl _ _ | with_reducible refine Below.drew ?_ | with_reducible refine below_drewN ?_ _)) ?_
                    refine anyS_take (i := 9) rfl (by kernel_rfl) (fun _ _ _ h => h) (Or.inl ⟨by rfl, fun Y hYb => (by (try dsimp only at hYb); go_simp; rfl)⟩) (by repeat' (first | with_reducible assumption | with_reducible exact Below.refl _ _ | with_reducible refine Below.drew ?_ | with_reducible refine below_drewN ?_ _)) ?_
                    refine anyS_one (i := 10) (by kernel_rfl) rfl (by rfl) (fun K hK => ?_)
                    go_simp
                    refine hK _ _ (fun h _ => absurd h (by decide)) ?_
                    clear hK K
                    refine anyS_done (by kernel_rfl) ?_ _
                    clear r0 r2 q0 q1 q2 q3 y0 y1 y2 y3 yf
                    go_wp2_with fail
                    go_roundw
                    case rel => exact ⟨i + 1, by omega, by go_num, (by rw [ovC_succ, hz]; exact RG.drew.setC i (g i)), (((XG.drew.far (p := ⟨bg, i * 4, none⟩) hne _).far (p := ⟨bg, i * 4 + 1, none⟩) hne _).far (p := ⟨bg, i * 4 + 2, none⟩) hne _).far (p := ⟨bg, i * 4 + 3, none⟩) hne _, (((RB.drew.far (p := ⟨bg, i * 4, none⟩) (Ne.symm hn2) _).far (p := ⟨bg, i * 4 + 1, none⟩) (Ne.symm hn2) _).far (p := ⟨bg, i * 4 + 2, none⟩) (Ne.symm hn2) _).far (p := ⟨bg, i * 4 + 3, none⟩) (Ne.symm hn2) _, (((hb7.drew.setCell (by dsimp only; omega) _).setCell (by dsimp only; omega) _).setCell (by dsimp only; omega) _).setCell (by dsimp only; omega) _⟩
                    case measure => simp [intOf]; omega
                · obtain rfl : i = k := (by omega)
                  replace RG := RG.congr (flatC_congr (fun j hj => ovC_lt (F := onlyF T g) (G := fun _ => C4.zero) hj))
                  have hokF := only_ok (T := T) HOK.out
                  have hV : validW (W : Int) (H : Int) i (onlyF T g) i i Kd B = true := (validW_iff _ _ _ _ _ _ _ _).2 ⟨by
                    have h := HNW.out
                    rw [h] at hokF n2 ⊢
                    exact validG_of (by omega) (by omega) (by omega) hokF, rfl, rfl, HKB.out⟩
                  have hTB : timesB 0 m = true := (timesB_iff 0 m).2 ⟨by omega, by omega, by omega, by omega, by omega⟩
                  have hRB : rulesB 1 (fun _ => ((1 : Int), (0 : Int))) = true := by decide
                  have hrun := fun aa cc ar cr W' S' SK' SB' SR' => wall_Run (W : Int) (H : Int) aa ak ab ar i i i 1 cc ck cb cr (onlyF T g) Kd B (fun _ => ((1 : Int), (0 : Int))) 0 m W' (by omega) (by omega) (by omega) (by omega) S' SK' SB' SR'
                  rw [hV, hRB, hTB, show rnE true true true = 0 from rfl] at hrun
                  simp only [erZ, erN, if_true, Int.toNat_natCast] at hrun
                  have hsh : ∀ j, j < i → Kd j = 0 → T j = false → runW W H (rlAt 1 (fun _ => ((1 : Int), (0 : Int)))) Kd (onlyF T g) (0 : Int).toNat m.toNat j = C4.zero := fun j hj hk0 hTj => by
                    have hR2 := HR.out
                    have hT2 := HT.out
                    obtain ⟨kp, _⟩ := HP0.out
                    have h := shut_run (W := W) (H := H) (K := Kd) (S := fun i => T i = true) (r := rlAt 1 (fun _ => ((1 : Int), (0 : Int)))) (t := (0 : Int).toNat) (g := onlyF T g) (fun j hj => HK1.out j (by rw [HNW.out]; exact hj))
                      (fun j hj => Rch.open_ kp (by have := (hT2 j).1 hj; rw [← hR2] at this; exact this)) (fun j d hj hd hk => by
                        have := (hT2 j).1 hj
                        rw [← hR2] at this
                        exact (hT2 _).2 (by rw [← hR2]; exact this.step hd hk))
                      (shut_only (fun j hj => Rch.open_ kp (by have := (hT2 j).1 hj; rw [← hR2] at this; exact this))) m.toNat
                    exact h.open_ j (by rw [← HNW.out]; exact hj) hk0 (by rw [hTj]; simp)
                  have HSH := hid hsh
                  clear hsh hokF hV hTB hRB
                  generalize runW W H (rlAt 1 (fun _ => ((1 : Int), (0 : Int)))) Kd (onlyF T g) (0 : Int).toNat m.toNat = G at *
                  have x0 := (X0.below hb7).at_ 3 rfl; have x1 := (X0.below hb7).at_ 4 rfl; have xz := (X0.below hb7).lt
                  have y0 := XG.at_ 0 rfl; have y1 := XG.at_ 1 rfl; have y2 := XG.at_ 2 rfl; have yz := XG.lt
                  have SR : Sr (wr.alloc (.cells #[.int .i64 1, .int .i64 0] 43)) (some ⟨wr.heap.size, 0, none⟩) 1 (fun _ => ((1 : Int), (0 : Int))) := fun j hj => by
                    obtain rfl : j = 0 := by omega
                    exact ⟨wr.heap.size, 0, rfl, by simp, cell_new _ _ _ 0 _ rfl, cell_new _ _ _ 1 _ rfl⟩
                  have hb8 : Below w2.heap.size w2 (wr.alloc (.cells #[.int .i64 1, .int .i64 0] 43)) := balloc hb7 _
                  go_wp2_with fail
                  refine (hrun _ _ _ _ _ (RG.alloc _).sc (SK.below hb8) (SB.below hb8) SR).mono ?_
                  rintro e w9 ⟨a5, c5, rfl, S5, hnew, hb9⟩
                  have hb10 : Below w2.heap.size w2 w9 := bvia hb8 hb9
                  replace RB := (RB.alloc (.cells #[.int .i64 1, .int .i64 0] 43)).below hb9
                  clear x0 x1 xz y0 y1 y2 yz SR hb8 hb9 hb7 RG XG hrun hnew
                  go_wp2_with fail
                  have X14 := Bx.new w9 #[.int .i64 (W : Int), .int .i64 (H : Int), .slice a5 i c5] 24
                  replace RB := RB.alloc (.cells #[.int .i64 (W : Int), .int .i64 (H : Int), .slice a5 i c5] 24)
                  replace S5 := S5.alloc (.cells #[.int .i64 (W : Int), .int .i64 (H : Int), .slice a5 i c5] 24)
                  replace hb10 := balloc hb10 (.cells #[.int .i64 (W : Int), .int .i64 (H : Int), .slice a5 i c5] 24)
                  have q2 := X14.at_ 2 rfl; have qz := X14.lt
                  have x3 := (X0.below hb10).at_ 3 rfl; have xz := (X0.below hb10).lt
                  go_loop [16] (fun s => ∃ j : Nat, j ≤ i ∧ s = .int .i64 (j : Int)) (fun s => i - (intOf s).toNat)
                  case atStart => exact ⟨0, Nat.zero_le _, rfl⟩
                  case round =>
                    obtain ⟨j, hj, rfl⟩ := hrel
                    by_cases hlj : j < i
                    · obtain ⟨bk, ok, rfl, hbk, ck⟩ := (SK.below hb10) j hlj
                      have rb := RB.2 j hlj
                      have rbz := RB.1
                      by_cases h0 : Kd j = 0
                      · rw [h0] at ck
                        cases hTj : T j
                        · rw [hTj] at rb
                          have hG := HSH.out j hlj h0 hTj
                          obtain ⟨b5, o5, rfl, hb5, s0, s1, s2, s3⟩ := S5 j hlj
                          rw [hG] at s0 s1 s2 s3
                          have hne0 := neq_cell 0 0 0 0 0 0 0 0
                          simp only [beq_self_eq_true, Bool.and_self, Bool.not_true] at hne0
                          dsimp only [C4.zero] at s0 s1 s2 s3
                          clear hG
                          go_wp2_with fail
                          go_round
                          case rel => exact ⟨j + 1, by omega, by go_num⟩
                          case measure => simp [intOf] <;> omega
                        · rw [hTj] at rb
                          go_wp2_with fail
                          go_round
                          case rel => exact ⟨j + 1, by omega, by go_num⟩
                          case measure => simp [intOf] <;> omega
                      · have z0 : (Kd j == 0) = false := by simpa using h0
                        generalize Kd j = kk at *
                        go_wp2_with fail
                        go_round
                        case rel => exact ⟨j + 1, by omega, by go_num⟩
                        case measure => simp [intOf] <;> omega
                    · obtain rfl : j = i := (by omega)
                      go_wp2_with fail
                      replace hB := bvia hB hb10
                      refine (awake5_true _).mono ?_
                      rintro e w8 ⟨rfl, hb8⟩
                      go_wp2_with fail
                      go_ret
                      exact ⟨rfl, bvia hB hb8⟩
end Go.Proofs.Ythlbmlfkmfheiaa
