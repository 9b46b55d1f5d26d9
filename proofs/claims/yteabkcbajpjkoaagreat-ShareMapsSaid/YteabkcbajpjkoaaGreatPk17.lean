/- Walks of the share layer: SameInts, SamePairs, many, awake. -/
import Derived.Test.YteabkcbajpjkoaaGreatPk16
import Derived.Test.YteabkcbajpjkoaaGreatPk3
import Derived.Test.YteabkcbajpjkoaaGreatPk1
import Derived.Test.YteabkcbajpjkoaaGreatPk4
import Derived.Laws.EntriesVeiled
import Derived.Deep.DeepCutAuto
namespace Go.Proofs.YteabkcbajpjkoaaGreat
open Go Go.RowKit
set_option linter.unusedVariables false
set_option maxHeartbeats 1000000 in
theorem ref6_sameInts (a b : Option Addr) (n m cap cap' : Nat) (f g : Nat → Int) (w : World) (hn : n ≤ 100000000) (hm : m ≤ 100000000) (H : Sl w a n f) (H' : Sl w b m g) :
    Calls Tryz.prog 7 #[.slice a n cap, .slice b m cap'] w fun e w' => e = .returned (.bool (sameL n f m g)) ∧ Below w.heap.size w w' := by
  cases hne : ((n : Int) != m)
  · have hnm : n = m := by simp at hne; omega
    subst hnm
    go_enter Tryz.func7, Tryz.ntmps7
    go_wp2
    go_loopw [5] (fun i wr => ∃ k : Nat, k ≤ n ∧ i = .int .i64 k ∧ (∀ j, j < k → f j = g j) ∧ Below w.heap.size w wr) (fun i _ => n - (intOf i).toNat)
    case atStart => exact ⟨0, Nat.zero_le _, rfl, fun j hj => by omega, by (repeat' (first | with_reducible assumption | with_reducible exact Below.refl _ _ | with_reducible refine Below.drew ?_ | with_reducible refine below_drewN ?_ _ | with_reducible refine balloc ?_ _ | with_reducible refine bset ?_ ?_ _ | with_reducible refine Below.setCell ?_ ?_ _ | with_reducible refine Below.alloc ?_ ?_ _ | omega | (simp; done) | (simp; omega)))⟩
    case round =>
      obtain ⟨k, hk, rfl, hok, hB⟩ := hrel
      have HOK := hid hok; clear hok
      by_cases hlt : k < n
      · obtain ⟨b1, o1, rfl, _, c1⟩ := (H.below hB) k hlt
        obtain ⟨b2, o2, rfl, _, c2⟩ := (H'.below hB) k hlt
        cases he : (f k != g k)
        · have he' : f k = g k := by simpa using he
          have HE := hid he'; clear he'
          go_wp2
          go_quiet (fail)
          go_wp2
          go_roundw
          case rel => exact ⟨k + 1, by omega, by go_num, fun j hj => by
              rcases Nat.lt_succ_iff_lt_or_eq.1 hj with h' | rfl
              · exact HOK.out j h'
              · exact HE.out, by (repeat' (first | with_reducible assumption | with_reducible exact Below.refl _ _ | with_reducible refine Below.drew ?_ | with_reducible refine below_drewN ?_ _ | with_reducible refine balloc ?_ _ | with_reducible refine bset ?_ ?_ _ | with_reducible refine Below.setCell ?_ ?_ _ | with_reducible refine Below.alloc ?_ ?_ _ | omega | (simp; done) | (simp; omega)))⟩
          case measure => simp [intOf]; omega
        · have he' : ¬ f k = g k := by simpa using he
          go_wp2
          go_quiet (fail)
          go_wp2
          go_ret
          exact ⟨ret_bool (sameL_no.2 (fun h => he' (h.2 k hlt))).symm, by (repeat' (first | with_reducible assumption | with_reducible exact Below.refl _ _ | with_reducible refine Below.drew ?_ | with_reducible refine below_drewN ?_ _ | with_reducible refine balloc ?_ _ | with_reducible refine bset ?_ ?_ _ | with_reducible refine Below.setCell ?_ ?_ _ | with_reducible refine Below.alloc ?_ ?_ _ | omega | (simp; done) | (simp; omega)))⟩
      · go_wp2
        go_ret
        obtain rfl : k = n := (by omega)
        exact ⟨ret_bool (sameL_iff.2 ⟨rfl, HOK.out⟩).symm, hB⟩
  · have hnm : ¬ n = m := by simp at hne; omega
    go_enter Tryz.func7, Tryz.ntmps7
    go_wp2
    go_ret
    exact ⟨ret_bool (sameL_no.2 (fun h => hnm h.1)).symm, by (repeat' (first | with_reducible assumption | with_reducible exact Below.refl _ _ | with_reducible refine Below.drew ?_ | with_reducible refine below_drewN ?_ _ | with_reducible refine balloc ?_ _ | with_reducible refine bset ?_ ?_ _ | with_reducible refine Below.setCell ?_ ?_ _ | with_reducible refine Below.alloc ?_ ?_ _ | omega | (simp; done) | (simp; omega)))⟩
theorem sameL_self (n : Nat) (f : Nat → Int) : sameL n f n f = true := sameL_iff.2 ⟨rfl, fun _ _ => rfl⟩
set_option maxRecDepth 100000 in
set_option maxHeartbeats 1000000 in
theorem ref9_samePairs (a b : Option Addr) (n cap cap' : Nat) (p q : Nat → Int × Int) (w : World) (hn : n ≤ 100000000) (H : Sq w a n p) (H' : Sq w b n q) (hpq : ∀ k, k < n → p k = q k) :
    Calls Tryz.prog 18 #[.slice a n cap, .slice b n cap'] w fun e w' => e = .returned (.bool true) ∧ Below w.heap.size w w' := by
  have HPQ := hid hpq; clear hpq
  go_enter Tryz.func18, Tryz.ntmps18
  go_wp2
  go_loopw [5] (fun i wr => ∃ k : Nat, k ≤ n ∧ i = .int .i64 k ∧ Below w.heap.size w wr) (fun i _ => n - (intOf i).toNat)
  case atStart => exact ⟨0, Nat.zero_le _, rfl, by (repeat' (first | with_reducible assumption | with_reducible exact Below.refl _ _ | with_reducible refine Below.drew ?_ | with_reducible refine below_drewN ?_ _ | with_reducible refine balloc ?_ _ | with_reducible refine bset ?_ ?_ _ | with_reducible refine Below.setCell ?_ ?_ _ | with_reducible refine Below.alloc ?_ ?_ _ | omega | (simp; done) | (simp; omega)))⟩
  case round =>
    obtain ⟨k, hk, rfl, hB⟩ := hrel
    by_cases hlt : k < n
    · obtain ⟨b1, o1, rfl, l1, c1, c1'⟩ := (H.below hB) k hlt
      obtain ⟨b2, o2, rfl, l2, c2, c2'⟩ := (H'.below hB) k hlt
      have he := HPQ.out k hlt
      rw [← he] at c2 c2'
      obtain ⟨x, hx⟩ : ∃ x, (p k).1 = x := ⟨_, rfl⟩
      obtain ⟨y, hy⟩ : ∃ y, (p k).2 = y := ⟨_, rfl⟩
      rw [hx] at c1 c2
      rw [hy] at c1' c2'
      have hne := neq_pair x y x y
      simp only [beq_self_eq_true, Bool.and_self, Bool.not_true] at hne
      clear he hx hy
      go_wp2
      go_quiet (fail)
      go_wp2
      go_roundw
      case rel => exact ⟨k + 1, by omega, by go_num, by (repeat' (first | with_reducible assumption | with_reducible exact Below.refl _ _ | with_reducible refine Below.drew ?_ | with_reducible refine below_drewN ?_ _ | with_reducible refine balloc ?_ _ | with_reducible refine bset ?_ ?_ _ | with_reducible refine Below.setCell ?_ ?_ _ | with_reducible refine Below.alloc ?_ ?_ _ | omega | (simp; done) | (simp; omega)))⟩
      case measure => simp [intOf]; omega
    · go_wp2
      go_ret
      exact ⟨rfl, hB⟩
def exF : Nat → Int := fun k => [3, 1, 4, 1, 5].getD k 0
theorem ex_least : leaR exF 5 2 = 8 := by decide +kernel
theorem ex_askS : askS (vL 5 exF) (within 2 1 16) = 0 := by decide +kernel
theorem ex_askS3 : askS (vL 5 exF) (within 3 1 16) = 0 := by decide +kernel
theorem ex_best2 : besL exF 5 2 = [3] := by decide +kernel
theorem ex_best3 : besL exF 5 3 = [2, 4] := by decide +kernel
theorem ex_proof : prL exF 5 2 = [(0, 2), (2, 4)] := by decide +kernel
theorem ex_proofE : prE exF 5 2 = 0 := by decide +kernel
theorem ex_sl (w : World) : Sl (w.alloc (.cells #[.int .i64 3, .int .i64 1, .int .i64 4, .int .i64 1, .int .i64 5] 3)) (some ⟨w.heap.size, 0, none⟩) 5 exF := fun k hk => by
  have X := Bx.new w #[.int .i64 3, .int .i64 1, .int .i64 4, .int .i64 1, .int .i64 5] 3
  refine ⟨_, 0, rfl, X.lt, ?_⟩
  rcases (by omega : k = 0 ∨ k = 1 ∨ k = 2 ∨ k = 3 ∨ k = 4) with rfl | rfl | rfl | rfl | rfl
  · exact X.at_ 0 rfl
  · exact X.at_ 1 rfl
  · exact X.at_ 2 rfl
  · exact X.at_ 3 rfl
  · exact X.at_ 4 rfl
theorem sl_one (w : World) (x : Int) : Sl (w.alloc (.cells #[.int .i64 x] 3)) (some ⟨w.heap.size, 0, none⟩) 1 (fun k => [x].getD k 0) := fun k hk => by
  obtain rfl : k = 0 := by omega
  have X := Bx.new w #[.int .i64 x] 3
  exact ⟨_, 0, rfl, X.lt, X.at_ 0 rfl⟩
theorem sl_two (w : World) (x y : Int) : Sl (w.alloc (.cells #[.int .i64 x, .int .i64 y] 3)) (some ⟨w.heap.size, 0, none⟩) 2 (fun k => [x, y].getD k 0) := fun k hk => by
  have X := Bx.new w #[.int .i64 x, .int .i64 y] 3
  refine ⟨_, 0, rfl, X.lt, ?_⟩
  rcases (by omega : k = 0 ∨ k = 1) with rfl | rfl
  · exact X.at_ 0 rfl
  · exact X.at_ 1 rfl
theorem sq_two (w : World) (x y u v : Int) : Sq (w.alloc (.cells #[.int .i64 x, .int .i64 y, .int .i64 u, .int .i64 v] 46)) (some ⟨w.heap.size, 0, none⟩) 2 (fun k => [(x, y), (u, v)].getD k (0, 0)) := fun k hk => by
  have X := Bx.new w #[.int .i64 x, .int .i64 y, .int .i64 u, .int .i64 v] 46
  rcases (by omega : k = 0 ∨ k = 1) with rfl | rfl
  · exact ⟨_, 0, rfl, X.lt, X.at_ 0 rfl, X.at_ 1 rfl⟩
  · exact ⟨_, 0, rfl, X.lt, X.at_ 2 rfl, X.at_ 3 rfl⟩
set_option maxRecDepth 100000 in
set_option maxHeartbeats 4000000 in
theorem awake9 (w : World) : Calls Tryz.prog 4 #[] w fun e w' => e = .returned (.bool true) ∧ Below w.heap.size w w' := by
  have H := ex_sl w
  have hB : Below w.heap.size w (w.alloc (.cells #[.int .i64 3, .int .i64 1, .int .i64 4, .int .i64 1, .int .i64 5] 3)) := below_alloc _ _
  go_enter Tryz.func4, Tryz.ntmps4
  go_wp2_with fail
  generalize w.alloc (.cells #[.int .i64 3, .int .i64 1, .int .i64 4, .int .i64 1, .int .i64 5] 3) = w0 at H hB ⊢
  have hca : 5 ≤ maxLen := by simp [maxLen]
  refine (share_Least _ 5 5 2 exF _ (by omega) H).mono ?_
  rw [ex_least, ex_askS]
  rintro e w1 ⟨rfl, hb1⟩
  replace H := H.below hb1
  replace hB := bvia hB hb1
  clear hb1
  go_wp2_with fail
  refine (share_Best _ 5 5 2 exF _ (by omega) (by omega) hca H).mono ?_
  rw [ex_best2, ex_askS]
  rintro e w2 ⟨a2, c2, rfl, S2, hb2⟩
  replace H := H.below hb2
  replace hB := bvia hB hb2
  clear hb2
  go_wp2_with fail
  refine (share_Proof _ 5 5 2 exF _ (by omega) H).mono ?_
  rw [ex_proof, ex_proofE]
  rintro e w3 ⟨a3, c3, rfl, Q3, hb3⟩
  replace H := H.below hb3
  replace S2 := S2.below hb3
  replace hB := bvia hB hb3
  clear hb3
  go_wp2_with fail
  refine (share_Best _ 5 5 3 exF _ (by omega) (by omega) hca H).mono ?_
  rw [ex_best3, ex_askS3]
  rintro e w4 ⟨a4, c4, rfl, S4, hb4⟩
  replace H := H.below hb4
  replace S2 := S2.below hb4
  replace Q3 := Q3.below hb4
  replace hB := bvia hB hb4
  clear hb4
  simp only [List.length_cons, List.length_nil, Nat.zero_add] at S2 Q3 S4 ⊢
  go_wp2_with fail
  refine (ref6_sameInts _ _ 1 1 _ _ _ _ _ (by omega) (by omega) (S2.alloc _) (sl_one _ 3)).mono ?_
  rintro e w5 ⟨rfl, hb5⟩
  rw [sameL_self]
  replace S4 := (S4.alloc (.cells #[.int .i64 3] 3)).below hb5
  replace Q3 := (Q3.alloc (.cells #[.int .i64 3] 3)).below hb5
  replace hB := bvia (balloc hB (.cells #[.int .i64 3] 3)) hb5
  clear S2 H hb5
  go_wp2_with fail
  refine (ref6_sameInts _ _ 2 2 _ _ _ _ _ (by omega) (by omega) (S4.alloc _) (sl_two _ 2 4)).mono ?_
  rintro e w6 ⟨rfl, hb6⟩
  rw [sameL_self]
  replace Q3 := (Q3.alloc (.cells #[.int .i64 2, .int .i64 4] 3)).below hb6
  replace hB := bvia (balloc hB (.cells #[.int .i64 2, .int .i64 4] 3)) hb6
  clear S4 hb6
  go_wp2_with fail
  refine (ref9_samePairs _ _ 2 _ _ _ _ _ (by omega) (Q3.alloc _) (sq_two _ 0 2 2 4) (fun _ _ => rfl)).mono ?_
  rintro e w7 ⟨rfl, hb7⟩
  go_wp2_with fail
  go_ret
  exact ⟨rfl, bvia (balloc hB _) hb7⟩
end Go.Proofs.YteabkcbajpjkoaaGreat
/- Walks of the share layer: the reference's least, best, Least, Best and Fits. -/
namespace Go.Proofs.YteabkcbajpjkoaaGreat
open Go Go.RowKit
set_option linter.unusedVariables false
theorem TB.at_ {F : Nat → Nat → Int} {n : Nat} {W : World} {base gv k cap : Nat} (h : TB F n W base (.slice (some ⟨gv, 0, none⟩) k cap) k) (j : Nat) (hj : j < k) :
    ∃ g, W.cell? ⟨gv, j, none⟩ = some (.slice (some ⟨g, 0, none⟩) n n) ∧ Ro W g n (F j) := by
  obtain ⟨gv', cap', g, e, h1, h2, h3⟩ := h.look j hj
  injection e with e; injection e with e; injection e with e _ _
  subst e
  exact ⟨g, h2, h3⟩
end Go.Proofs.YteabkcbajpjkoaaGreat
/- Plain words: the masses of a grid's columns; the map of a share; even cuts are a share. -/
namespace Go.Proofs.YteabkcbajpjkoaaGreat
open Go Go.RowKit
set_option linter.unusedVariables false
/-- what column j weighs in the first k cells -/
def colTo (W : Nat) (g : Nat → C4) : Nat → Nat → Int
  | 0, _ => 0
  | k + 1, j => colTo W g k j + if j = k % W then (g k).mass else 0
theorem mass_nn {c : C4} (h : validC c = true) : 0 ≤ c.mass := by
  have := (validC_iff _).1 h
  unfold C4.mass at *
  omega
theorem colTo_bd {W n : Nat} {g : Nat → C4} (h : ∀ k, k < n → validC (g k) = true) (j : Nat) : 0 ≤ colTo W g n j ∧ colTo W g n j ≤ massTo g n := by
  induction n with
  | zero => exact ⟨Int.le_refl _, Int.le_refl _⟩
  | succ n ih =>
    have := ih fun k hk => h k (by omega)
    have := mass_nn (h n (by omega))
    simp only [colTo, massTo]
    split <;> omega
theorem load_valid {W H n : Nat} {g : Nat → C4} (h : validG (W : Int) (H : Int) n g = true) : vL W (colTo W g n) = true := by
  obtain ⟨a1, a2, a3, a4, a5, a6, a7, a8⟩ := (validG_iff _ _ _ _).1 h
  exact (vL_iff _ _).2 ⟨by omega, by omega, fun j hj => by have := colTo_bd (W := W) a7 j; omega⟩
/-- the map of a share -/
def mapS (W m : Nat) (c : Nat → Int) (n : Nat) : List Int := (List.range n).map fun i => (nodeOf m c (i % W) : Int)
theorem mapS_length (W m : Nat) (c : Nat → Int) (n : Nat) : (mapS W m c n).length = n := by simp [mapS]
theorem mapS_get (W m : Nat) (c : Nat → Int) {n i : Nat} (h : i < n) : (mapS W m c n).getD i 0 = (nodeOf m c (i % W) : Int) := by
  simp [mapS, List.getD_eq_getElem?_getD, h]
theorem mapS_row (W m : Nat) (c : Nat → Int) : ∀ k, mapS W m c (k * W + W) = mapS W m c (k * W) ++ (List.range W).map fun x => (nodeOf m c x : Int) := fun k => by
  unfold mapS
  rw [List.range_add, List.map_append, List.map_map]
  congr 1
  refine List.map_congr_left fun x hx => ?_
  have := List.mem_range.1 hx
  simp only [Function.comp]
  rw [Nat.mul_comm, Nat.mul_add_mod, Nat.mod_eq_of_lt this]
theorem nodeOf_le (m : Nat) (c : Nat → Int) (x : Nat) : nodeOf m c x ≤ m := (nodeOf_is m c x).1
/-! ### even -/
end Go.Proofs.YteabkcbajpjkoaaGreat
/- Walks of the share layer: the owners of the columns, of the program. -/
namespace Go.Proofs.YteabkcbajpjkoaaGreat
open Go Go.RowKit
attribute [local go_sem] Oper.semAt_some
set_option linter.unusedVariables false
theorem nodeOf_bd {n m : Nat} {c : Nat → Int} (hc : validK n m c) {x j : Nat} (hj : j ≤ m) (h1 : bd n m c j ≤ x) (h2 : x < bd n m c (j + 1)) : nodeOf m c x = j := by
  have hx : x < n := by have := bd_le hc (j + 1); omega
  obtain ⟨a1, a2⟩ := isNode_bd hc hx (nodeOf_is m c x)
  rcases Nat.lt_trichotomy (nodeOf m c x) j with h | h | h
  · have := bd_mono hc (i := nodeOf m c x + 1) j (by omega); omega
  · exact h
  · have := bd_mono hc (i := j + 1) (nodeOf m c x) (by omega); omega
def nodL (m : Nat) (c : Nat → Int) (k : Nat) : List Int := (List.range k).map fun x => (nodeOf m c x : Int)
theorem nodL_length (m : Nat) (c : Nat → Int) (k : Nat) : (nodL m c k).length = k := by simp [nodL]
theorem nodL_part {n m : Nat} {c : Nat → Int} (hc : validK n m c) {j : Nat} (hj : j ≤ m) : nodL m c (bd n m c (j + 1)) = nodL m c (bd n m c j) ++ List.replicate (bd n m c (j + 1) - bd n m c j) (j : Int) := by
  have h1 := bd_step hc j
  apply List.ext_getElem?
  intro i
  rw [List.getElem?_append, nodL_length]
  by_cases h2 : i < bd n m c j
  · rw [if_pos h2]
    simp [nodL, h2, show i < bd n m c (j + 1) by omega]
  · rw [if_neg h2, List.getElem?_replicate]
    by_cases h3 : i < bd n m c (j + 1)
    · rw [if_pos (by omega)]
      simp [nodL, h3, nodeOf_bd hc hj (by omega) h3]
    · rw [if_neg (by omega)]
      simp [nodL, h3]
theorem part_len (b off n m : Nat) (c : Nat → Int) (j : Nat) : ∃ (a' : Option Addr) (cp : Nat), partV b off n m c j = .slice a' (bd n m c (j + 1) - bd n m c j) cp := by
  unfold partV
  split
  · rename_i e; rw [e, Nat.sub_self]; exact ⟨_, _, rfl⟩
  · exact ⟨_, _, rfl⟩
theorem pre_last {k x : Nat} {pre : List Nat} (h : pre ++ [x] <+: List.range k) : x = pre.length ∧ pre.length < k := by
  have hl := h.length_le
  simp at hl
  obtain ⟨t, ht⟩ := h
  have h2 : ((pre ++ [x]) ++ t)[pre.length]? = (List.range k)[pre.length]? := by rw [ht]
  rw [List.append_assoc, List.getElem?_append_right (Nat.le_refl _), Nat.sub_self, List.getElem?_range (by omega)] at h2
  simp at h2
  exact ⟨h2, by omega⟩
section
variable {P : Program} {w : World}
/-- append at an operation, also of nothing -/
theorem wp_append_at {o : Oper} {a : Act} {K : Act → World → Prop} {Q : Exit → Act → World → Prop} (s x : Operand) (t : TypeId)
    (ho : o.op = .call { callee := .builtin .append, args := #[s, x], argTypes := #[t, t] })
    (base : Nat) (e : TypeId) (i : TypeInfo) (z : Value) (size bytes : Nat) (ht : P.underlying t = some (.slice e)) (hi : P.info? e = some i) (hz : i.zero = some z)
    (hsize : i.size = size) (hby : i.bytes = bytes) (hzs : z.cells.size = size) (hsz : 0 < size)
    (v : Value) (n : Nat) (xs : List Value) (hs : a.eval s = v) (hown : w.ownsRow base e size v n xs)
    (ad : Addr) (m c : Nat) (news : List Value) (hx : a.eval x = .slice (some ad) m c) (hl : news.length = m * size) (hnews : ∀ j u, news[j]? = some u → w.cell? (ad.add j) = some u) (h1 : ∀ u ∈ news, u.oneCell' = true)
    (h63 : n + m ≤ maxLen) (hbytes : (n + m) * bytes ≤ 140737488355328) (hbase : base ≤ w.heap.size)
    (h : ∀ v' w', w'.ownsRow base e size v' (n + m) (xs ++ news) → w.grownBy w' v.ownBlock → (v'.ownBlock = v.ownBlock ∨ v'.ownBlock = some w.heap.size) → K (a.put o.dst v') w') : o.wp P a w K Q := by
  obtain ⟨v', w', hr, h2, h3, _, h5⟩ := run_append_own_at (P := P) w base t o.type e i z size bytes ht hi hz hsize hby hzs hsz v n xs hown ad m c news hl hnews h1 h63 hbytes hbase
  unfold Oper.wp execOp
  simp only [ho, resolve, invoke, builtin, Sem.run_bind, Sem.run_pure, Result.andThen_ok, List.map_toArray, List.map_cons, List.map_nil, hs, hx, hr]
  exact h v' w' h2 h3 h5
end
theorem own_slice {w : World} {base : Nat} {e : TypeId} {size n : Nat} {v : Value} {xs : List Value} (h : w.ownsRow base e size v n xs) : ∃ a k c, v = .slice a k c := by
  rcases h.2 with ⟨rfl, _⟩ | ⟨g', cap, cur, rfl, _⟩
  · exact ⟨_, _, _, rfl⟩
  · exact ⟨_, _, _, rfl⟩
/-- the word between two rounds -/
structure WO (n m : Nat) (c : Nat → Int) (bo bl bc : Nat) (vl vc : Value) (n₀ : Nat) (pre : List Nat) (C : Nat → Prop) (X : World) (v : Value) : Prop where
  foot : C = fun b => b = bo ∨ b = bl ∨ b = bc ∨ v.ownBlock = some b
  box : Bx X bo #[v]
  loads : Bx X bl #[vl]
  cuts : Bx X bc #[vc]
  own : X.ownsRow n₀ 3 1 v (nodL m c (bd n m c pre.length)).length ((nodL m c (bd n m c pre.length)).map vInt)
theorem wo_stab {n m : Nat} {c : Nat → Int} {bo bl bc : Nat} {vl vc : Value} {n₀ n₁ : Nat} : Stab n₁ (fun pre C X => ∃ v, WO n m c bo bl bc vl vc n₀ pre C X v) := by
  rintro pre C A B ⟨v, h⟩ hb
  have hf := h.foot
  subst hf
  exact ⟨v, rfl, h.box.but hb (fun h' => h'.2 (.inl rfl)), h.loads.but hb (fun h' => h'.2 (.inr (.inl rfl))), h.cuts.but hb (fun h' => h'.2 (.inr (.inr (.inl rfl)))), own_but h.own hb (fun g hg h' => h'.2 (.inr (.inr (.inr hg))))⟩
theorem rep_one (x : Int) (k : Nat) : ∀ u ∈ repR x k k, u.oneCell' = true := by
  intro u hu
  simp [repR] at hu
  rw [hu.2]; simp [Value.oneCell']
theorem repR_full (x : Int) (k : Nat) : repR x k k = List.replicate k (vInt x) := by simp [repR, vInt]
set_option maxRecDepth 100000 in
set_option maxHeartbeats 4000000 in
theorem share_owners (n m cc : Nat) (ac : Option Addr) (c : Nat → Int) (w : World) (hn : n ≤ 64) (hc : validK n m c) (HC : Sl w ac m c) :
    Calls Tryz.prog 22 #[.int .i64 (n : Int), .slice ac m cc] w fun e w' => ∃ v, e = .returned v ∧ w'.ownsRow w.heap.size 3 1 v (nodL m c n).length ((nodL m c n).map vInt) ∧ Below w.heap.size w w' := by
  obtain ⟨i0, hi, hz0, hz1, hz2⟩ := info_parts infoI
  have HV := hid hc
  have hmk := fun W => mk_ints n n rfl (by omega) W
  refine callsIn_wide.1 (callsIn_of_wp_marks (F := Fence.wide) (n := 0) Tryz.func22 rfl trivial ?_ rfl)
  simp only [Tryz.ntmps22, List.size_toArray, List.length_cons, List.length_nil, Nat.reduceAdd, Nat.reduceSub, Array.replicate_succ, Array.replicate_zero, List.push_toArray, List.append_toArray, List.nil_append, List.cons_append]
  gi_wp2_with fail
  refine ⟨trivial, rfl, callsIn_wide.2 ((share_parts _ _ _ _ _ _ _).mono ?_)⟩
  rintro e w1 ⟨rfl, Xl, Xc, hsz, hb1⟩
  have Xo := ((Bx.new w #[.slice none 0 0] 25).alloc (.cells (zcells n) 3)).below hb1
  simp only [World.size_alloc] at Xl Xc hsz
  have hB1 : Below w.heap.size w w1 := bvia (balloc (below_alloc w (.cells #[.slice none 0 0] 25)) (.cells (zcells n) 3)) hb1
  gi_wp2_with fail
  have hit := parts_iter (w.heap.size + 1 + 1) (w.heap.size + 1 + 1 + 1) (w.heap.size + 1) 0 n n m cc ac c w hn (Nat.le_refl _) (by simp [maxLen]; omega) hc HC
  have hv0 : ∀ g, (Value.slice none 0 0).ownBlock = some g → False := fun g h => by cases h
  have W0 : WO n m c w.heap.size (w.heap.size + 1 + 1) (w.heap.size + 1 + 1 + 1) (.slice (some ⟨w.heap.size + 1, 0, none⟩) n n) (.slice ac m cc) (w.heap.size + 1 + 1 + 1 + 1) [] (fun b => b = w.heap.size ∨ b = w.heap.size + 1 + 1 ∨ b = w.heap.size + 1 + 1 + 1 ∨ (Value.slice none 0 0).ownBlock = some b) w1 (.slice none 0 0) :=
    ⟨rfl, Xo, Xl, Xc, World.ownsRow_nil ..⟩
  clear Xo Xl Xc hb1
  refine wp_rangeR rfl ent_parts hit hB1 (fun _ => rfl) (fun pre C X => ∃ v, WO n m c w.heap.size (w.heap.size + 1 + 1) (w.heap.size + 1 + 1 + 1) (.slice (some ⟨w.heap.size + 1, 0, none⟩) n n) (.slice ac m cc) (w.heap.size + 1 + 1 + 1 + 1) pre C X v) (fun _ _ _ _ => False)
    (fun b => b = w.heap.size ∨ b = w.heap.size + 1 + 1 ∨ b = w.heap.size + 1 + 1 + 1 ∨ (Value.slice none 0 0).ownBlock = some b) ?hRd ?hC wo_stab (fun c => fun _ _ _ _ h => h.elim) ⟨_, W0⟩ ?hround ?hdone ?hstop
  case hRd =>
    rintro pre C X ⟨v, h⟩
    exact ⟨h.loads, h.cuts⟩
  case hC =>
    rintro pre C X ⟨v, h⟩ b hb
    have l1 := h.box.lt; have l2 := h.loads.lt; have l3 := h.cuts.lt
    rw [h.foot] at hb
    rcases hb with rfl | rfl | rfl | hb
    · omega
    · omega
    · omega
    · have := own_base h.own b hb; have := own_lt h.own b hb; omega
  case hround =>
    rintro l pre x C X hl hl' hnl ⟨rec2, hrec2⟩ ⟨v, h⟩ hX hgC hpre
    unfold Round
    dsimp only [encS]
    gi_wp2_with fail
    refine ⟨Below.refl _ _, ?_⟩
    intro X₂ hb2 hs2 r2
    have hf := h.foot
    subst hf
    have l1 := h.box.lt; have l2 := h.loads.lt; have l3 := h.cuts.lt
    have hl0 : l ≠ w.heap.size ∧ l ≠ w.heap.size + 1 + 1 ∧ l ≠ w.heap.size + 1 + 1 + 1 ∧ v.ownBlock ≠ some l := ⟨fun e => hnl (.inl e), fun e => hnl (.inr (.inl e)), fun e => hnl (.inr (.inr (.inl e))), fun e => hnl (.inr (.inr (.inr e)))⟩
    obtain ⟨n1, n2, n3, n4⟩ := hl0
    have Xo := h.box.but hb2 (fun e => n1 e.symm); have Xl := h.loads.but hb2 (fun e => n2 e.symm); have Xc := h.cuts.but hb2 (fun e => n3 e.symm)
    have hown := own_but h.own hb2 (fun g hg e => n4 (by rw [← e]; exact hg))
    obtain ⟨hxp, hxm⟩ := pre_last hpre
    obtain ⟨a', cp, hpv⟩ := part_len (w.heap.size + 1) 0 n m c x
    have hbe := bd_le HV.out (x + 1)
    have hpart := nodL_part HV.out (j := x) (by omega)
    have hbst := bd_step HV.out x
    have hb3 := bd_le HV.out pre.length
    rw [hpv]
    obtain ⟨ln, hln⟩ : ∃ ln, ln = bd n m c (x + 1) - bd n m c x := ⟨_, rfl⟩
    rw [← hln] at hpart ⊢
    have hln2 : ln ≤ 100000 := by omega
    have hlm : (nodL m c (bd n m c pre.length)).length = bd n m c pre.length := nodL_length ..
    have hlb : bd n m c pre.length + ln ≤ n := by rw [← hxp]; omega
    rw [hxp] at hpart
    have HP := hid hpart
    have hrr := repR_full (x : Int) ln
    have hxc : (X₂.alloc (.cells #[.int .i64 (x : Int)] 3)).drew.cell? ⟨X₂.heap.size, 0, none⟩ = some (.int .i64 (x : Int)) := cell_new _ _ _ 0 _ rfl
    have HXP := hid hxp; clear hxp hln
    have x0 := Xo.at_ 0 rfl
    have lo2 := Xo.lt; have lc2 := Xc.lt; have ll2 := Xl.lt
    have HS2 := hid hs2
    clear h hnl hgC hX hb2 r2 hpv hs2 hpart
    gi_upto_region 5 with (fail)
    refine wpIn_region_R (fun _ => True) (by kernel_rfl) ?_
    refine anyR_take (i := 1) (fun _ => trivial) rfl (by kernel_rfl) (fun _ _ _ h => h) (Or.inl ⟨by rfl, fun Y hYb => (by go_simp; rfl)⟩) trivial ?_
    simp only [Act.put, List.setIfInBounds_toArray]
    refine anyR_take (i := 3) (fun _ => trivial) rfl (by kernel_rfl) (fun _ _ _ h => h) (Or.inl ⟨by rfl, fun Y hYb => (by go_simp; rfl)⟩) trivial ?_
    simp only [Act.put, List.setIfInBounds_toArray]
    refine anyR_take (i := 4) (fun _ => trivial) rfl (by kernel_rfl) (fun _ _ _ h => h) (Or.inl ⟨by rfl, fun Y hYb => (by go_simp; rfl)⟩) trivial ?_
    simp only [Act.put, List.setIfInBounds_toArray]
    refine anyR_two (i := 0) (j := 2) (by kernel_rfl) rfl rfl (by rfl) (by rfl) (fun K hK => ?_) (fun K hK => ?_)
    · skip
      go_simp
      refine hK _ _ trivial ?_
      clear hK K
      refine anyR_one (i := 2) (by kernel_rfl) rfl (by rfl) (fun K hK => ?_)
      go_simp
      refine hK _ _ trivial ?_
      clear hK K
      refine anyR_one (i := 5) (by kernel_rfl) rfl (by rfl) (fun K hK => ?_)
      go_simp
      refine ⟨trivial, rfl, callsIn_of ((repeat_one X₂.heap.size 1 ln x (X₂.alloc (.cells #[.int .i64 (x : Int)] 3)).drew hln2 (by simp) hxc).mono ?_)⟩
      rintro e Y ⟨rfl, hrow, hbY⟩
      have hbX2 : Below X₂.heap.size X₂ Y := bvia ((below_alloc X₂ (.cells #[.int .i64 (x : Int)] 3)).drew) hbY
      have XoY := Xo.below hbX2
      have xY := XoY.at_ 0 rfl
      simp only [World.size_alloc, World.size_drew] at hrow ⊢
      refine hK _ _ trivial ?_
      clear hK K
      refine anyR_one (i := 6) (by kernel_rfl) rfl (by rfl) (fun K hK => opIn_of (fun c h => by cases h) ?_)
      have hownY := own_below hown hbX2
      have XlY := Xl.below hbX2; have XcY := Xc.below hbX2
      have hszY := hbY.size
      simp only [World.size_alloc, World.size_drew] at hszY hrow
      refine wp_append_at _ _ 25 rfl (w.heap.size + 1 + 1 + 1 + 1) 3 i0 (.int .i64 0) 1 8 Tryz.underlying25 hi hz0 hz1 hz2 rfl (by decide) v _ _ rfl hownY ⟨X₂.heap.size + 1, 0, none⟩ ln ln (repR x ln ln) rfl (by rw [repR_length _ _ _ (Nat.le_refl _), Nat.mul_one]) (World.news_of_block hrow) (rep_one x ln) (by simp [maxLen]; omega) (by omega) (by omega) ?_
      intro v' w5 hown5 hgr hat
      rw [hlm, hrr] at hown5
      obtain ⟨av, nv, cv, hv'⟩ := own_slice hown5
      subst hv'
      have hC0 : But (fun b => b = w.heap.size ∨ b = w.heap.size + 1 + 1 ∨ b = w.heap.size + 1 + 1 + 1 ∨ v.ownBlock = some b) X₂ Y := ⟨hbX2.os, hbX2.tape, hbX2.output, hbX2.size, fun b hb _ => hbX2.block b hb⟩
      have hC5 := but_grown hC0 hgr (fun q hq => .inr (.inr (.inr hq)))
      have hg5 : ∀ q, q = w.heap.size ∨ q = w.heap.size + 1 + 1 ∨ q = w.heap.size + 1 + 1 + 1 → v.ownBlock ≠ some q := fun q hq e => by have := own_base hown q e; omega
      have Xo5 := XoY.grown hgr (fun e => hg5 _ (.inl rfl) e.symm)
      have Xl5 := XlY.grown hgr (fun e => hg5 _ (.inr (.inl rfl)) e.symm)
      have Xc5 := XcY.grown hgr (fun e => hg5 _ (.inr (.inr rfl)) e.symm)
      have y0 := Xo5.at_ 0 rfl; have yf := Xo5.free
      refine hK _ _ trivial ?_
      clear hK K
      refine anyR_one (i := 7) (by kernel_rfl) rfl (by rfl) (fun K hK => ?_)
      go_simp
      refine hK _ _ trivial ?_
      clear hK K
      refine anyR_done (by kernel_rfl) ?_ _
      gi_wp2
      refine ⟨fun b => b = w.heap.size ∨ b = w.heap.size + 1 + 1 ∨ b = w.heap.size + 1 + 1 + 1 ∨ (Value.slice av nv cv).ownBlock = some b, hC5.set_ (.inl rfl) _, ?_, _, rfl, Xo5.one, Xl5.far (by dsimp only; omega) _, Xc5.far (by dsimp only; omega) _, ?_⟩
      · rintro b (h | h | h | h)
        · exact .inl (.inl h)
        · exact .inl (.inr (.inl h))
        · exact .inl (.inr (.inr (.inl h)))
        · rcases hat with h' | h'
          · exact .inl (.inr (.inr (.inr (by rw [← h']; exact h))))
          · rw [h'] at h
            injection h with h
            exact .inr (by omega)
      · have h5 : w5.ownsRow (w.heap.size + 1 + 1 + 1 + 1) 3 1 (.slice av nv cv) (nodL m c (bd n m c (pre ++ [x]).length)).length ((nodL m c (bd n m c (pre ++ [x]).length)).map vInt) := by
          have e : nodL m c (bd n m c (pre ++ [x]).length) = nodL m c (bd n m c pre.length) ++ List.replicate ln (x : Int) := by
            rw [List.length_append, show [x].length = 1 from rfl, HP.out, HXP.out]
          rw [e, List.length_append, List.length_replicate, List.map_append, hlm, List.map_replicate]
          exact hown5
        exact own_but h5 ((But.refl (fun b => b = w.heap.size) w5).set_ rfl _) (fun q hq e => by
          subst e
          rcases hat with h' | h'
          · exact hg5 _ (.inl rfl) (by rw [← h']; exact hq)
          · rw [h'] at hq; injection hq with hq; have := Xo.lt; omega)
    · skip
      go_simp
      refine hK _ _ trivial ?_
      clear hK K
      refine anyR_two (i := 0) (j := 5) (by kernel_rfl) rfl rfl (by rfl) (by rfl) (fun K hK => ?_) (fun K hK => ?_)
      · skip
        go_simp
        refine hK _ _ trivial ?_
        clear hK K
        refine anyR_one (i := 5) (by kernel_rfl) rfl (by rfl) (fun K hK => ?_)
        go_simp
        refine ⟨trivial, rfl, callsIn_of ((repeat_one X₂.heap.size 1 ln x (X₂.alloc (.cells #[.int .i64 (x : Int)] 3)).drew hln2 (by simp) hxc).mono ?_)⟩
        rintro e Y ⟨rfl, hrow, hbY⟩
        have hbX2 : Below X₂.heap.size X₂ Y := bvia ((below_alloc X₂ (.cells #[.int .i64 (x : Int)] 3)).drew) hbY
        have XoY := Xo.below hbX2
        have xY := XoY.at_ 0 rfl
        simp only [World.size_alloc, World.size_drew] at hrow ⊢
        refine hK _ _ trivial ?_
        clear hK K
        refine anyR_one (i := 6) (by kernel_rfl) rfl (by rfl) (fun K hK => opIn_of (fun c h => by cases h) ?_)
        have hownY := own_below hown hbX2
        have XlY := Xl.below hbX2; have XcY := Xc.below hbX2
        have hszY := hbY.size
        simp only [World.size_alloc, World.size_drew] at hszY hrow
        refine wp_append_at _ _ 25 rfl (w.heap.size + 1 + 1 + 1 + 1) 3 i0 (.int .i64 0) 1 8 Tryz.underlying25 hi hz0 hz1 hz2 rfl (by decide) v _ _ rfl hownY ⟨X₂.heap.size + 1, 0, none⟩ ln ln (repR x ln ln) rfl (by rw [repR_length _ _ _ (Nat.le_refl _), Nat.mul_one]) (World.news_of_block hrow) (rep_one x ln) (by simp [maxLen]; omega) (by omega) (by omega) ?_
        intro v' w5 hown5 hgr hat
        rw [hlm, hrr] at hown5
        obtain ⟨av, nv, cv, hv'⟩ := own_slice hown5
        subst hv'
        have hC0 : But (fun b => b = w.heap.size ∨ b = w.heap.size + 1 + 1 ∨ b = w.heap.size + 1 + 1 + 1 ∨ v.ownBlock = some b) X₂ Y := ⟨hbX2.os, hbX2.tape, hbX2.output, hbX2.size, fun b hb _ => hbX2.block b hb⟩
        have hC5 := but_grown hC0 hgr (fun q hq => .inr (.inr (.inr hq)))
        have hg5 : ∀ q, q = w.heap.size ∨ q = w.heap.size + 1 + 1 ∨ q = w.heap.size + 1 + 1 + 1 → v.ownBlock ≠ some q := fun q hq e => by have := own_base hown q e; omega
        have Xo5 := XoY.grown hgr (fun e => hg5 _ (.inl rfl) e.symm)
        have Xl5 := XlY.grown hgr (fun e => hg5 _ (.inr (.inl rfl)) e.symm)
        have Xc5 := XcY.grown hgr (fun e => hg5 _ (.inr (.inr rfl)) e.symm)
        have y0 := Xo5.at_ 0 rfl; have yf := Xo5.free
        refine hK _ _ trivial ?_
        clear hK K
        refine anyR_one (i := 7) (by kernel_rfl) rfl (by rfl) (fun K hK => ?_)
        go_simp
        refine hK _ _ trivial ?_
        clear hK K
        refine anyR_done (by kernel_rfl) ?_ _
        gi_wp2
        refine ⟨fun b => b = w.heap.size ∨ b = w.heap.size + 1 + 1 ∨ b = w.heap.size + 1 + 1 + 1 ∨ (Value.slice av nv cv).ownBlock = some b, hC5.set_ (.inl rfl) _, ?_, _, rfl, Xo5.one, Xl5.far (by dsimp only; omega) _, Xc5.far (by dsimp only; omega) _, ?_⟩
        · rintro b (h | h | h | h)
          · exact .inl (.inl h)
          · exact .inl (.inr (.inl h))
          · exact .inl (.inr (.inr (.inl h)))
          · rcases hat with h' | h'
            · exact .inl (.inr (.inr (.inr (by rw [← h']; exact h))))
            · rw [h'] at h
              injection h with h
              exact .inr (by omega)
        · have h5 : w5.ownsRow (w.heap.size + 1 + 1 + 1 + 1) 3 1 (.slice av nv cv) (nodL m c (bd n m c (pre ++ [x]).length)).length ((nodL m c (bd n m c (pre ++ [x]).length)).map vInt) := by
            have e : nodL m c (bd n m c (pre ++ [x]).length) = nodL m c (bd n m c pre.length) ++ List.replicate ln (x : Int) := by
              rw [List.length_append, show [x].length = 1 from rfl, HP.out, HXP.out]
            rw [e, List.length_append, List.length_replicate, List.map_append, hlm, List.map_replicate]
            exact hown5
          exact own_but h5 ((But.refl (fun b => b = w.heap.size) w5).set_ rfl _) (fun q hq e => by
            subst e
            rcases hat with h' | h'
            · exact hg5 _ (.inl rfl) (by rw [← h']; exact hq)
            · rw [h'] at hq; injection hq with hq; have := Xo.lt; omega)
      · skip
        go_simp
        refine ⟨trivial, rfl, callsIn_of ((repeat_one X₂.heap.size 1 ln x (X₂.alloc (.cells #[.int .i64 (x : Int)] 3)).drew hln2 (by simp) hxc).mono ?_)⟩
        rintro e Y ⟨rfl, hrow, hbY⟩
        have hbX2 : Below X₂.heap.size X₂ Y := bvia ((below_alloc X₂ (.cells #[.int .i64 (x : Int)] 3)).drew) hbY
        have XoY := Xo.below hbX2
        have xY := XoY.at_ 0 rfl
        simp only [World.size_alloc, World.size_drew] at hrow ⊢
        refine hK _ _ trivial ?_
        clear hK K
        refine anyR_one (i := 0) (by kernel_rfl) rfl (by rfl) (fun K hK => ?_)
        go_simp
        refine hK _ _ trivial ?_
        clear hK K
        refine anyR_one (i := 6) (by kernel_rfl) rfl (by rfl) (fun K hK => opIn_of (fun c h => by cases h) ?_)
        have hownY := own_below hown hbX2
        have XlY := Xl.below hbX2; have XcY := Xc.below hbX2
        have hszY := hbY.size
        simp only [World.size_alloc, World.size_drew] at hszY hrow
        refine wp_append_at _ _ 25 rfl (w.heap.size + 1 + 1 + 1 + 1) 3 i0 (.int .i64 0) 1 8 Tryz.underlying25 hi hz0 hz1 hz2 rfl (by decide) v _ _ rfl hownY ⟨X₂.heap.size + 1, 0, none⟩ ln ln (repR x ln ln) rfl (by rw [repR_length _ _ _ (Nat.le_refl _), Nat.mul_one]) (World.news_of_block hrow) (rep_one x ln) (by simp [maxLen]; omega) (by omega) (by omega) ?_
        intro v' w5 hown5 hgr hat
        rw [hlm, hrr] at hown5
        obtain ⟨av, nv, cv, hv'⟩ := own_slice hown5
        subst hv'
        have hC0 : But (fun b => b = w.heap.size ∨ b = w.heap.size + 1 + 1 ∨ b = w.heap.size + 1 + 1 + 1 ∨ v.ownBlock = some b) X₂ Y := ⟨hbX2.os, hbX2.tape, hbX2.output, hbX2.size, fun b hb _ => hbX2.block b hb⟩
        have hC5 := but_grown hC0 hgr (fun q hq => .inr (.inr (.inr hq)))
        have hg5 : ∀ q, q = w.heap.size ∨ q = w.heap.size + 1 + 1 ∨ q = w.heap.size + 1 + 1 + 1 → v.ownBlock ≠ some q := fun q hq e => by have := own_base hown q e; omega
        have Xo5 := XoY.grown hgr (fun e => hg5 _ (.inl rfl) e.symm)
        have Xl5 := XlY.grown hgr (fun e => hg5 _ (.inr (.inl rfl)) e.symm)
        have Xc5 := XcY.grown hgr (fun e => hg5 _ (.inr (.inr rfl)) e.symm)
        have y0 := Xo5.at_ 0 rfl; have yf := Xo5.free
        refine hK _ _ trivial ?_
        clear hK K
        refine anyR_one (i := 7) (by kernel_rfl) rfl (by rfl) (fun K hK => ?_)
        go_simp
        refine hK _ _ trivial ?_
        clear hK K
        refine anyR_done (by kernel_rfl) ?_ _
        gi_wp2
        refine ⟨fun b => b = w.heap.size ∨ b = w.heap.size + 1 + 1 ∨ b = w.heap.size + 1 + 1 + 1 ∨ (Value.slice av nv cv).ownBlock = some b, hC5.set_ (.inl rfl) _, ?_, _, rfl, Xo5.one, Xl5.far (by dsimp only; omega) _, Xc5.far (by dsimp only; omega) _, ?_⟩
        · rintro b (h | h | h | h)
          · exact .inl (.inl h)
          · exact .inl (.inr (.inl h))
          · exact .inl (.inr (.inr (.inl h)))
          · rcases hat with h' | h'
            · exact .inl (.inr (.inr (.inr (by rw [← h']; exact h))))
            · rw [h'] at h
              injection h with h
              exact .inr (by omega)
        · have h5 : w5.ownsRow (w.heap.size + 1 + 1 + 1 + 1) 3 1 (.slice av nv cv) (nodL m c (bd n m c (pre ++ [x]).length)).length ((nodL m c (bd n m c (pre ++ [x]).length)).map vInt) := by
            have e : nodL m c (bd n m c (pre ++ [x]).length) = nodL m c (bd n m c pre.length) ++ List.replicate ln (x : Int) := by
              rw [List.length_append, show [x].length = 1 from rfl, HP.out, HXP.out]
            rw [e, List.length_append, List.length_replicate, List.map_append, hlm, List.map_replicate]
            exact hown5
          exact own_but h5 ((But.refl (fun b => b = w.heap.size) w5).set_ rfl _) (fun q hq e => by
            subst e
            rcases hat with h' | h'
            · exact hg5 _ (.inl rfl) (by rw [← h']; exact hq)
            · rw [h'] at hq; injection hq with hq; have := Xo.lt; omega)
  case hdone =>
    rintro Dd C X hDd hnD ⟨v, h⟩ hbut hgC hdef
    have hf := h.foot
    subst hf
    have x0 := h.box.at_ 0 rfl; have lx := h.box.lt
    have hs1 := hbut.size
    have hbel : Below w.heap.size w X := hB1.trans ⟨hbut.os, hbut.tape, hbut.output, hbut.size, fun b hb => hbut.block b (by omega) (fun h => by
      rcases h with h | h | h | h
      · omega
      · omega
      · omega
      · exact hv0 b h)⟩
    have hbp := but_putObj X Dd (.deferred none)
    have B6 := hbel.trans (⟨hbp.os, hbp.tape, hbp.output, hbp.size, fun b hb => hbp.block b (by have := hbel.size; omega) (by omega)⟩ : Below w.heap.size _ _)
    have O6 := own_but h.own hbp (fun g hg e => hnD (.inr (.inr (.inr (by rw [← e]; exact hg)))))
    rw [List.length_range, bd_last] at O6
    gi_wp2
    refine ⟨by simp, .inl ⟨_, _, rfl, run_takeDeferred hdef, ?_⟩⟩
    exact ⟨v, by simp [results, Tryz.results22, go_sem], v, rfl, own_mono O6 (by omega), B6⟩
  case hstop =>
    rintro Dd c pre C X hDd hnD hpre h
    exact h.elim
end Go.Proofs.YteabkcbajpjkoaaGreat
/- Walks: rules and collisions of one cell, of the program and of the reference. -/
namespace Go.Proofs.YteabkcbajpjkoaaGreat
open Go Go.RowKit
set_option linter.unusedVariables false
/-- a valid rule -/
def ruleB (k b : Int) : Bool := if k = 0 ∨ k = 1 then decide (b = 0) else if k = 2 then within b (-1000000000) 1000000000 else false
theorem ruleB_iff (k b : Int) : ruleB k b = true ↔ ruleOk k b := by
  unfold ruleB ruleOk
  split
  · rw [decide_eq_true_iff]; omega
  · split
    · rw [within_iff]; omega
    · simp; omega
theorem cell_validRule (k b : Int) (w : World) : Calls Tryz.prog 63 #[.agg #[.int .i64 k, .int .i64 b]] w fun e w' => e = .returned (.bool (ruleB k b)) ∧ Below w.heap.size w w' := by
  by_cases h0 : k = 0
  · subst h0
    have e : ruleB 0 b = (b == 0) := by unfold ruleB; rw [if_pos (by omega)]; rfl
    rw [e]
    go_enter Tryz.func63, Tryz.ntmps63
    go_wp2
    go_ret
    exact ⟨rfl, by (repeat' (first | with_reducible assumption | with_reducible exact Below.refl _ _ | with_reducible refine Below.drew ?_ | with_reducible refine below_drewN ?_ _ | with_reducible refine balloc ?_ _ | with_reducible refine bset ?_ ?_ _ | with_reducible refine Below.setCell ?_ ?_ _ | with_reducible refine Below.alloc ?_ ?_ _ | omega | (simp; done) | (simp; omega)))⟩
  · by_cases h1 : k = 1
    · subst h1
      have e : ruleB 1 b = (b == 0) := by unfold ruleB; rw [if_pos (by omega)]; rfl
      rw [e]
      clear h0
      go_enter Tryz.func63, Tryz.ntmps63
      go_wp2
      go_ret
      exact ⟨rfl, by (repeat' (first | with_reducible assumption | with_reducible exact Below.refl _ _ | with_reducible refine Below.drew ?_ | with_reducible refine below_drewN ?_ _ | with_reducible refine balloc ?_ _ | with_reducible refine bset ?_ ?_ _ | with_reducible refine Below.setCell ?_ ?_ _ | with_reducible refine Below.alloc ?_ ?_ _ | omega | (simp; done) | (simp; omega)))⟩
    · have g0 : (k == 0) = false := by simpa using h0
      have g1 : (k == 1) = false := by simpa using h1
      by_cases h2 : k = 2
      · subst h2
        have e : ruleB 2 b = within b (-1000000000) 1000000000 := by simp [ruleB]
        rw [e]
        clear h0 h1 g0 g1
        go_enter Tryz.func63, Tryz.ntmps63
        go_wp2_with (go_at_call 64; refine (cell_within _ _ _ _).mono ?_; rintro e w' ⟨rfl, rfl⟩)
        go_ret
        exact ⟨rfl, by (repeat' (first | with_reducible assumption | with_reducible exact Below.refl _ _ | with_reducible refine Below.drew ?_ | with_reducible refine below_drewN ?_ _ | with_reducible refine balloc ?_ _ | with_reducible refine bset ?_ ?_ _ | with_reducible refine Below.setCell ?_ ?_ _ | with_reducible refine Below.alloc ?_ ?_ _ | omega | (simp; done) | (simp; omega)))⟩
      · have g2 : (k == 2) = false := by simpa using h2
        have e : ruleB k b = false := by simp [ruleB, h0, h1, h2]
        rw [e]
        clear h0 h1 h2
        go_enter Tryz.func63, Tryz.ntmps63
        go_wp2
        go_ret
        exact ⟨rfl, by (repeat' (first | with_reducible assumption | with_reducible exact Below.refl _ _ | with_reducible refine Below.drew ?_ | with_reducible refine below_drewN ?_ _ | with_reducible refine balloc ?_ _ | with_reducible refine bset ?_ ?_ _ | with_reducible refine Below.setCell ?_ ?_ _ | with_reducible refine Below.alloc ?_ ?_ _ | omega | (simp; done) | (simp; omega)))⟩
/-- a slice of rules -/
def Sr (w : World) (a : Option Addr) (n : Nat) (r : Nat → Int × Int) : Prop :=
  ∀ k, k < n → ∃ b off, a = some ⟨b, off, none⟩ ∧ b < w.heap.size ∧ w.cell? ⟨b, off + k * 2, none⟩ = some (.int .i64 (r k).1) ∧ w.cell? ⟨b, off + k * 2 + 1, none⟩ = some (.int .i64 (r k).2)
theorem Sr.below {w w' : World} {a : Option Addr} {n : Nat} {r : Nat → Int × Int} (h : Sr w a n r) (hb : Below w.heap.size w w') : Sr w' a n r := fun k hkn => by
  obtain ⟨b, off, h1, h2, h3, h4⟩ := h k hkn
  exact ⟨b, off, h1, by have := hb.size; omega, (bcell hb _ _ h2).trans h3, (bcell hb _ _ h2).trans h4⟩
theorem Sr.alloc {w : World} {a : Option Addr} {n : Nat} {r : Nat → Int × Int} (h : Sr w a n r) (o : Obj) : Sr (w.alloc o) a n r := h.below (below_alloc _ _)
theorem Sr.drewN {w : World} {a : Option Addr} {n : Nat} {r : Nat → Int × Int} (h : Sr w a n r) (k : Nat) : Sr (w.drewN k) a n r := h
/-- valid rules -/
def rulesB (n : Nat) (r : Nat → Int × Int) : Bool := decide (1 ≤ n ∧ n ≤ 8 ∧ ∀ i, i < n → ruleB (r i).1 (r i).2 = true)
theorem rulesB_iff (n : Nat) (r : Nat → Int × Int) : rulesB n r = true ↔ (1 ≤ n ∧ n ≤ 8 ∧ ∀ i, i < n → ruleB (r i).1 (r i).2 = true) := by simp [rulesB]
theorem rulesB_no {n i : Nat} {r : Nat → Int × Int} (hi : i < n) (h : ruleB (r i).1 (r i).2 = false) : rulesB n r = false := by
  cases hr : rulesB n r
  · rfl
  · have := ((rulesB_iff n r).1 hr).2.2 i hi; rw [h] at this; cases this
theorem rulesB_end {n : Nat} {r : Nat → Int × Int} (h : ∀ i, i < n → ruleB (r i).1 (r i).2 = true) : rulesB n r = within n 1 8 := by
  rw [Bool.eq_iff_iff, rulesB_iff, within_iff]
  constructor
  · rintro ⟨a, b, _⟩; omega
  · rintro ⟨a, b⟩; exact ⟨by omega, by omega, h⟩
set_option maxHeartbeats 400000 in
theorem cell_validRules (a : Option Addr) (n c : Nat) (r : Nat → Int × Int) (w : World) (hn : n ≤ 100000000) (H : Sr w a n r) : Calls Tryz.prog 35 #[.slice a n c] w fun e w' => e = .returned (.bool (rulesB n r)) ∧ Below w.heap.size w w' := by
  go_enter Tryz.func35, Tryz.ntmps35
  go_wp2
  go_loopw [7] (fun i wr => ∃ k : Nat, k ≤ n ∧ i = .int .i64 k ∧ (∀ j, j < k → ruleB (r j).1 (r j).2 = true) ∧ Below w.heap.size w wr) (fun i _ => n - (intOf i).toNat)
  case atStart => exact ⟨0, Nat.zero_le _, rfl, fun j hj => by omega, Below.refl _ _⟩
  case round =>
    obtain ⟨k, hk, rfl, hok, hb⟩ := hrel
    have HOK := hid hok; clear hok
    by_cases hlt : k < n
    · obtain ⟨b, off, rfl, hlb, c0, c1⟩ := (H.below hb) k hlt
      cases hr : ruleB (r k).1 (r k).2
      · go_wp2_with (go_at_call 63; refine (cell_validRule _ _ _).mono ?_; rintro e w1 ⟨rfl, hb1⟩)
        go_ret
        exact ⟨by rw [rulesB_no hlt hr]; rfl, bvia (balloc hb _) hb1⟩
      · go_wp2_with (go_at_call 63; refine (cell_validRule _ _ _).mono ?_; rintro e w1 ⟨rfl, hb1⟩)
        go_roundw
        case rel => exact ⟨k + 1, by omega, by go_num, fun j hj => by
          rcases Nat.lt_succ_iff_lt_or_eq.1 hj with h' | rfl
          · exact HOK.out j h'
          · exact hr, bvia (balloc hb _) hb1⟩
        case measure => simp [intOf]; omega
    · obtain rfl : k = n := (by omega)
      go_wp2_with (go_at_call 64; refine (cell_within _ _ _ _).mono ?_; rintro e w' ⟨rfl, rfl⟩)
      go_ret
      exact ⟨ret_bool (rulesB_end HOK.out).symm, hb⟩
end Go.Proofs.YteabkcbajpjkoaaGreat
