/- Walk: Sorted, of the program. Walk: Sorted, of the program: what comes back is a list of its own that reads as the notes in order. -/
import Derived.Test.YtmmjaobpoiofdaaGreatNSortP
import Derived.Test.YtmmjaobpoiofdaaGreatShelf
import Derived.Test.YtmmjaobpoiofdaaGreatShelfN
import Derived.Test.YtmmjaobpoiofdaaGreatSeq
import Derived.Test.YtmmjaobpoiofdaaGreatCRow
import Derived.Test.YtmmjaobpoiofdaaGreatNDueF
import Derived.Lib.OwnBridge
namespace Go.Proofs.YtmmjaobpoiofdaaGreat
open Go Go.RowKit Go.Sort
set_option linter.unusedVariables false
set_option linter.unusedSimpArgs false
/-- the first number that is not 0 -/
def orI : List Int → Int | [] => 0 | x :: l => if x = 0 then orI l else x
theorem orI_zero : ∀ {l : List Int}, (∀ j, j < l.length → l.getD j 0 = 0) → orI l = 0
  | [], _ => rfl
  | x :: l, h => by
    have h0 : x = 0 := h 0 (by simp)
    simp only [orI, if_pos h0]
    exact orI_zero fun j hj => h (j + 1) (by simpa using hj)
theorem orI_at : ∀ {l : List Int} {k : Nat}, (∀ j, j < k → l.getD j 0 = 0) → k < l.length → l.getD k 0 ≠ 0 → orI l = l.getD k 0
  | [], k, _, h, _ => by simp at h
  | x :: l, 0, _, _, hn => by
    have h0 : x ≠ 0 := hn
    simp only [orI, if_neg h0]; rfl
  | x :: l, k + 1, h, hk, hn => by
    have h0 : x = 0 := h 0 (by omega)
    simp only [orI, if_pos h0]
    exact orI_at (l := l) (k := k) (fun j hj => h (j + 1) (by omega)) (by simpa using hk) hn
theorem orI_cmp : ∀ (l m : List Int), l.length = m.length → orI (List.zipWith Lib.compareInt l m) = cmpL l m
  | [], [], _ => rfl
  | [], _ :: _, h => by simp at h
  | _ :: _, [], h => by simp at h
  | a :: l, b :: m, h => by
    have ih := orI_cmp l m (by simpa using h)
    simp only [List.zipWith_cons_cons, orI, cmpL, ih, Lib.compareInt]
    by_cases e : a = b
    · subst e; simp
    · rw [if_neg e]
      by_cases h2 : a < b
      · simp [h2]
      · have : b < a := by omega
        simp [h2, this]
set_option maxRecDepth 100000 in
set_option maxHeartbeats 1000000 in
theorem cmp_Or (a : Option Addr) (c : Nat) (l : List Int) (w : World) (hl : l.length ≤ 1000) (H : Sl w a l.length (fun k => l.getD k 0)) :
    Calls Tryz.prog 104 #[.slice a l.length c] w fun e w' => e = .returned (.int .i64 (orI l)) ∧ w = w' := by
  generalize hn : l.length = n at *
  have hz := fun h => orI_zero (l := l) h
  have ha := fun k h1 h2 h3 => orI_at (l := l) (k := k) h1 h2 h3
  rw [hn] at hz ha
  generalize orI l = r at *
  have HZ := hid hz; have HA := hid ha
  clear hz ha hn
  go_enter Tryz.func104, Tryz.ntmps104
  go_wp2
  go_loop [8] (fun i => ∃ k : Nat, k ≤ n ∧ i = .int .i64 k ∧ ∀ j, j < k → l.getD j 0 = 0) (fun i => n - (intOf i).toNat)
  case atStart => exact ⟨0, Nat.zero_le _, rfl, fun j hj => by omega⟩
  case round =>
    obtain ⟨k, hk, rfl, hok⟩ := hrel
    have HOK := hid hok; clear hok
    by_cases hlt : k < n
    · obtain ⟨b, off, rfl, hb, hc⟩ := H k hlt
      dsimp only at hc
      have hr : l.getD k 0 ≠ 0 → r = l.getD k 0 := fun h => HA.out k HOK.out hlt h
      have hs : l.getD k 0 = 0 → ∀ j, j < k + 1 → l.getD j 0 = 0 := fun h j hj => by
        rcases Nat.lt_succ_iff_lt_or_eq.1 hj with h' | rfl
        · exact HOK.out j h'
        · exact h
      have HR := hid hr; have HS := hid hs
      clear hr hs
      generalize l.getD k 0 = v at *
      cases hv : (v != 0)
      · have hv0 : v = 0 := by simpa using hv
        go_wp2_with fail
        go_round
        case rel => exact ⟨k + 1, by omega, by go_num, HS.out hv0⟩
        case measure => simp [intOf]; omega
      · have hv0 : v ≠ 0 := by simpa using hv
        go_wp2_with fail
        go_ret
        rw [HR.out hv0]
        exact ⟨rfl, rfl⟩
    · obtain rfl : n = k := (by omega)
      go_wp2
      go_ret
      rw [HZ.out HOK.out]
      exact ⟨rfl, rfl⟩
theorem orI_cmpN (x y : N6) : orI [Lib.compareInt x.st y.st, Lib.compareInt x.to y.to, Lib.compareInt x.ce y.ce, Lib.compareInt x.di y.di, Lib.compareInt x.fr y.fr, Lib.compareInt x.co y.co] = cmpN x y := orI_cmp (keyN x) (keyN y) rfl
set_option maxRecDepth 100000 in
set_option maxHeartbeats 4000000 in
theorem node_Sorted1 (x y : N6) (W : World) : Calls Tryz.prog 103 #[.agg #[.int .i64 x.st, .int .i64 x.fr, .int .i64 x.to, .int .i64 x.ce, .int .i64 x.di, .int .i64 x.co], .agg #[.int .i64 y.st, .int .i64 y.fr, .int .i64 y.to, .int .i64 y.ce, .int .i64 y.di, .int .i64 y.co]] W
    fun e w' => e = .returned (.int .i64 (cmpN x y)) ∧ ∃ q os', w' = grow (W.drewN q) os' := by
  rw [← orI_cmpN]
  have q0 := fun V => Tryz.cmp_Compare_int x.st y.st V
  have q1 := fun V => Tryz.cmp_Compare_int x.to y.to V
  have q2 := fun V => Tryz.cmp_Compare_int x.ce y.ce V
  have q3 := fun V => Tryz.cmp_Compare_int x.di y.di V
  have q4 := fun V => Tryz.cmp_Compare_int x.fr y.fr V
  have q5 := fun V => Tryz.cmp_Compare_int x.co y.co V
  generalize Lib.compareInt x.st y.st = c0 at *
  generalize Lib.compareInt x.to y.to = c1 at *
  generalize Lib.compareInt x.ce y.ce = c2 at *
  generalize Lib.compareInt x.di y.di = c3 at *
  generalize Lib.compareInt x.fr y.fr = c4 at *
  generalize Lib.compareInt x.co y.co = c5 at *
  have XA := (Bx.new W #[.int .i64 x.st, .int .i64 x.fr, .int .i64 x.to, .int .i64 x.ce, .int .i64 x.di, .int .i64 x.co] 78).alloc (.cells #[.int .i64 y.st, .int .i64 y.fr, .int .i64 y.to, .int .i64 y.ce, .int .i64 y.di, .int .i64 y.co] 78)
  have XB := Bx.new (W.alloc (.cells #[.int .i64 x.st, .int .i64 x.fr, .int .i64 x.to, .int .i64 x.ce, .int .i64 x.di, .int .i64 x.co] 78)) #[.int .i64 y.st, .int .i64 y.fr, .int .i64 y.to, .int .i64 y.ce, .int .i64 y.di, .int .i64 y.co] 78
  rw [World.size_alloc] at XB
  obtain ⟨W2, hW2⟩ : ∃ W2, W2 = (W.alloc (.cells #[.int .i64 x.st, .int .i64 x.fr, .int .i64 x.to, .int .i64 x.ce, .int .i64 x.di, .int .i64 x.co] 78)).alloc (.cells #[.int .i64 y.st, .int .i64 y.fr, .int .i64 y.to, .int .i64 y.ce, .int .i64 y.di, .int .i64 y.co] 78) := ⟨_, rfl⟩
  go_enter Tryz.func103, Tryz.ntmps103
  go_upto_region 1 with (fail)
  rw [← hW2] at XA XB ⊢
  have HW2 := hid hW2
  clear hW2
  have r0 : ∀ Y, Below W2.heap.size W2 Y → Y.cell? ⟨W.heap.size, 0, none⟩ = some (.int .i64 x.st) := fun Y h => (XA.below h).at_ 0 rfl
  have r1 : ∀ Y, Below W2.heap.size W2 Y → Y.cell? ⟨W.heap.size, 1, none⟩ = some (.int .i64 x.fr) := fun Y h => (XA.below h).at_ 1 rfl
  have r2 : ∀ Y, Below W2.heap.size W2 Y → Y.cell? ⟨W.heap.size, 2, none⟩ = some (.int .i64 x.to) := fun Y h => (XA.below h).at_ 2 rfl
  have r3 : ∀ Y, Below W2.heap.size W2 Y → Y.cell? ⟨W.heap.size, 3, none⟩ = some (.int .i64 x.ce) := fun Y h => (XA.below h).at_ 3 rfl
  have r4 : ∀ Y, Below W2.heap.size W2 Y → Y.cell? ⟨W.heap.size, 4, none⟩ = some (.int .i64 x.di) := fun Y h => (XA.below h).at_ 4 rfl
  have r5 : ∀ Y, Below W2.heap.size W2 Y → Y.cell? ⟨W.heap.size, 5, none⟩ = some (.int .i64 x.co) := fun Y h => (XA.below h).at_ 5 rfl
  have s0 : ∀ Y, Below W2.heap.size W2 Y → Y.cell? ⟨W.heap.size + 1, 0, none⟩ = some (.int .i64 y.st) := fun Y h => (XB.below h).at_ 0 rfl
  have s1 : ∀ Y, Below W2.heap.size W2 Y → Y.cell? ⟨W.heap.size + 1, 1, none⟩ = some (.int .i64 y.fr) := fun Y h => (XB.below h).at_ 1 rfl
  have s2 : ∀ Y, Below W2.heap.size W2 Y → Y.cell? ⟨W.heap.size + 1, 2, none⟩ = some (.int .i64 y.to) := fun Y h => (XB.below h).at_ 2 rfl
  have s3 : ∀ Y, Below W2.heap.size W2 Y → Y.cell? ⟨W.heap.size + 1, 3, none⟩ = some (.int .i64 y.ce) := fun Y h => (XB.below h).at_ 3 rfl
  have s4 : ∀ Y, Below W2.heap.size W2 Y → Y.cell? ⟨W.heap.size + 1, 4, none⟩ = some (.int .i64 y.di) := fun Y h => (XB.below h).at_ 4 rfl
  have s5 : ∀ Y, Below W2.heap.size W2 Y → Y.cell? ⟨W.heap.size + 1, 5, none⟩ = some (.int .i64 y.co) := fun Y h => (XB.below h).at_ 5 rfl
  clear XA XB
  refine wp_region_S (fun Y => Below W2.heap.size W2 Y) 33 (by kernel_rfl) ?_
  refine anyS_take (i := 0) rfl (by kernel_rfl) (fun _ _ _ h => h) (Or.inl ⟨by rfl, fun Y hYb => (by (try dsimp only at hYb); go_simp; rfl)⟩) (by repeat' (first | with_reducible assumption | with_reducible exact Below.refl _ _ | with_reducible refine Below.drew ?_ | with_reducible refine below_drewN ?_ _)) ?_
  refine anyS_take (i := 1) rfl (by kernel_rfl) (fun _ _ _ h => h) (Or.inl ⟨by rfl, fun Y hYb => (by (try dsimp only at hYb); go_simp; rfl)⟩) (by repeat' (first | with_reducible assumption | with_reducible exact Below.refl _ _ | with_reducible refine Below.drew ?_ | with_reducible refine below_drewN ?_ _)) ?_
  refine anyS_take (i := 2) rfl (by kernel_rfl) (fun _ _ _ h => h) (Or.inl ⟨by rfl, fun Y hYb => (by (try dsimp only at hYb); go_simp; rfl)⟩) (by repeat' (first | with_reducible assumption | with_reducible exact Below.refl _ _ | with_reducible refine Below.drew ?_ | with_reducible refine below_drewN ?_ _)) ?_
  refine anyS_take (i := 3) rfl (by kernel_rfl) (fun _ _ _ h => h) (Or.inl ⟨by rfl, fun Y hYb => (by (try dsimp only at hYb); go_simp; rfl)⟩) (by repeat' (first | with_reducible assumption | with_reducible exact Below.refl _ _ | with_reducible refine Below.drew ?_ | with_reducible refine below_drewN ?_ _)) ?_
  refine anyS_take (i := 5) rfl (by kernel_rfl) (fun _ _ _ h => h) (Or.inl ⟨by rfl, fun Y hYb => (by (try dsimp only at hYb); go_simp; rfl)⟩) (by repeat' (first | with_reducible assumption | with_reducible exact Below.refl _ _ | with_reducible refine Below.drew ?_ | with_reducible refine below_drewN ?_ _)) ?_
  refine anyS_take (i := 6) rfl (by kernel_rfl) (fun _ _ _ h => h) (Or.inl ⟨by rfl, fun Y hYb => (by (try dsimp only at hYb); go_simp; rfl)⟩) (by repeat' (first | with_reducible assumption | with_reducible exact Below.refl _ _ | with_reducible refine Below.drew ?_ | with_reducible refine below_drewN ?_ _)) ?_
  refine anyS_take (i := 7) rfl (by kernel_rfl) (fun _ _ _ h => h) (Or.inl ⟨by rfl, fun Y hYb => (by (try dsimp only at hYb); go_simp; rfl)⟩) (by repeat' (first | with_reducible assumption | with_reducible exact Below.refl _ _ | with_reducible refine Below.drew ?_ | with_reducible refine below_drewN ?_ _)) ?_
  refine anyS_take (i := 8) rfl (by kernel_rfl) (fun _ _ _ h => h) (Or.inl ⟨by rfl, fun Y hYb => (by (try dsimp only at hYb); go_simp; rfl)⟩) (by repeat' (first | with_reducible assumption | with_reducible exact Below.refl _ _ | with_reducible refine Below.drew ?_ | with_reducible refine below_drewN ?_ _)) ?_
  refine anyS_take (i := 10) rfl (by kernel_rfl) (fun _ _ _ h => h) (Or.inl ⟨by rfl, fun Y hYb => (by (try dsimp only at hYb); go_simp; rfl)⟩) (by repeat' (first | with_reducible assumption | with_reducible exact Below.refl _ _ | with_reducible refine Below.drew ?_ | with_reducible refine below_drewN ?_ _)) ?_
  refine anyS_take (i := 11) rfl (by kernel_rfl) (fun _ _ _ h => h) (Or.inl ⟨by rfl, fun Y hYb => (by (try dsimp only at hYb); go_simp; rfl)⟩) (by repeat' (first | with_reducible assumption | with_reducible exact Below.refl _ _ | with_reducible refine Below.drew ?_ | with_reducible refine below_drewN ?_ _)) ?_
  refine anyS_take (i := 12) rfl (by kernel_rfl) (fun _ _ _ h => h) (Or.inl ⟨by rfl, fun Y hYb => (by (try dsimp only at hYb); go_simp; rfl)⟩) (by repeat' (first | with_reducible assumption | with_reducible exact Below.refl _ _ | with_reducible refine Below.drew ?_ | with_reducible refine below_drewN ?_ _)) ?_
  refine anyS_take (i := 13) rfl (by kernel_rfl) (fun _ _ _ h => h) (Or.inl ⟨by rfl, fun Y hYb => (by (try dsimp only at hYb); go_simp; rfl)⟩) (by repeat' (first | with_reducible assumption | with_reducible exact Below.refl _ _ | with_reducible refine Below.drew ?_ | with_reducible refine below_drewN ?_ _)) ?_
  refine anyS_take (i := 15) rfl (by kernel_rfl) (fun _ _ _ h => h) (Or.inl ⟨by rfl, fun Y hYb => (by (try dsimp only at hYb); go_simp; rfl)⟩) (by repeat' (first | with_reducible assumption | with_reducible exact Below.refl _ _ | with_reducible refine Below.drew ?_ | with_reducible refine below_drewN ?_ _)) ?_
  refine anyS_take (i := 16) rfl (by kernel_rfl) (fun _ _ _ h => h) (Or.inl ⟨by rfl, fun Y hYb => (by (try dsimp only at hYb); go_simp; rfl)⟩) (by repeat' (first | with_reducible assumption | with_reducible exact Below.refl _ _ | with_reducible refine Below.drew ?_ | with_reducible refine below_drewN ?_ _)) ?_
  refine anyS_take (i := 17) rfl (by kernel_rfl) (fun _ _ _ h => h) (Or.inl ⟨by rfl, fun Y hYb => (by (try dsimp only at hYb); go_simp; rfl)⟩) (by repeat' (first | with_reducible assumption | with_reducible exact Below.refl _ _ | with_reducible refine Below.drew ?_ | with_reducible refine below_drewN ?_ _)) ?_
  refine anyS_take (i := 18) rfl (by kernel_rfl) (fun _ _ _ h => h) (Or.inl ⟨by rfl, fun Y hYb => (by (try dsimp only at hYb); go_simp; rfl)⟩) (by repeat' (first | with_reducible assumption | with_reducible exact Below.refl _ _ | with_reducible refine Below.drew ?_ | with_reducible refine below_drewN ?_ _)) ?_
  refine anyS_take (i := 20) rfl (by kernel_rfl) (fun _ _ _ h => h) (Or.inl ⟨by rfl, fun Y hYb => (by (try dsimp only at hYb); go_simp; rfl)⟩) (by repeat' (first | with_reducible assumption | with_reducible exact Below.refl _ _ | with_reducible refine Below.drew ?_ | with_reducible refine below_drewN ?_ _)) ?_
  refine anyS_take (i := 21) rfl (by kernel_rfl) (fun _ _ _ h => h) (Or.inl ⟨by rfl, fun Y hYb => (by (try dsimp only at hYb); go_simp; rfl)⟩) (by repeat' (first | with_reducible assumption | with_reducible exact Below.refl _ _ | with_reducible refine Below.drew ?_ | with_reducible refine below_drewN ?_ _)) ?_
  refine anyS_take (i := 22) rfl (by kernel_rfl) (fun _ _ _ h => h) (Or.inl ⟨by rfl, fun Y hYb => (by (try dsimp only at hYb); go_simp; rfl)⟩) (by repeat' (first | with_reducible assumption | with_reducible exact Below.refl _ _ | with_reducible refine Below.drew ?_ | with_reducible refine below_drewN ?_ _)) ?_
  refine anyS_take (i := 23) rfl (by kernel_rfl) (fun _ _ _ h => h) (Or.inl ⟨by rfl, fun Y hYb => (by (try dsimp only at hYb); go_simp; rfl)⟩) (by repeat' (first | with_reducible assumption | with_reducible exact Below.refl _ _ | with_reducible refine Below.drew ?_ | with_reducible refine below_drewN ?_ _)) ?_
  refine anyS_take (i := 25) rfl (by kernel_rfl) (fun _ _ _ h => h) (Or.inl ⟨by rfl, fun Y hYb => (by (try dsimp only at hYb); go_simp; rfl)⟩) (by repeat' (first | with_reducible assumption | with_reducible exact Below.refl _ _ | with_reducible refine Below.drew ?_ | with_reducible refine below_drewN ?_ _)) ?_
  refine anyS_take (i := 26) rfl (by kernel_rfl) (fun _ _ _ h => h) (Or.inl ⟨by rfl, fun Y hYb => (by (try dsimp only at hYb); go_simp; rfl)⟩) (by repeat' (first | with_reducible assumption | with_reducible exact Below.refl _ _ | with_reducible refine Below.drew ?_ | with_reducible refine below_drewN ?_ _)) ?_
  refine anyS_take (i := 27) rfl (by kernel_rfl) (fun _ _ _ h => h) (Or.inl ⟨by rfl, fun Y hYb => (by (try dsimp only at hYb); go_simp; rfl)⟩) (by repeat' (first | with_reducible assumption | with_reducible exact Below.refl _ _ | with_reducible refine Below.drew ?_ | with_reducible refine below_drewN ?_ _)) ?_
  refine anyS_take (i := 28) rfl (by kernel_rfl) (fun _ _ _ h => h) (Or.inl ⟨by rfl, fun Y hYb => (by (try dsimp only at hYb); go_simp; rfl)⟩) (by repeat' (first | with_reducible assumption | with_reducible exact Below.refl _ _ | with_reducible refine Below.drew ?_ | with_reducible refine below_drewN ?_ _)) ?_
  refine anyS_one (i := 4) (by kernel_rfl) rfl (by rfl) (fun K hK => ?_)
  go_simp
  refine (q0 _).mono ?_
  rintro e w' ⟨rfl, rfl⟩
  dsimp only
  refine hK _ _ (fun _ h => h) ?_
  clear hK K
  refine anyS_one (i := 9) (by kernel_rfl) rfl (by rfl) (fun K hK => ?_)
  go_simp
  refine (q1 _).mono ?_
  rintro e w' ⟨rfl, rfl⟩
  dsimp only
  refine hK _ _ (fun _ h => h) ?_
  clear hK K
  refine anyS_one (i := 14) (by kernel_rfl) rfl (by rfl) (fun K hK => ?_)
  go_simp
  refine (q2 _).mono ?_
  rintro e w' ⟨rfl, rfl⟩
  dsimp only
  refine hK _ _ (fun _ h => h) ?_
  clear hK K
  refine anyS_one (i := 19) (by kernel_rfl) rfl (by rfl) (fun K hK => ?_)
  go_simp
  refine (q3 _).mono ?_
  rintro e w' ⟨rfl, rfl⟩
  dsimp only
  refine hK _ _ (fun _ h => h) ?_
  clear hK K
  refine anyS_one (i := 24) (by kernel_rfl) rfl (by rfl) (fun K hK => ?_)
  go_simp
  refine (q4 _).mono ?_
  rintro e w' ⟨rfl, rfl⟩
  dsimp only
  refine hK _ _ (fun _ h => h) ?_
  clear hK K
  refine anyS_one (i := 29) (by kernel_rfl) rfl (by rfl) (fun K hK => ?_)
  go_simp
  refine (q5 _).mono ?_
  rintro e w' ⟨rfl, rfl⟩
  dsimp only
  refine hK _ _ (fun _ h => h) ?_
  clear hK K
  clear r0 r1 r2 r3 r4 r5 s0 s1 s2 s3 s4 s5 q0 q1 q2 q3 q4 q5
  refine anyS_one (i := 30) (by kernel_rfl) rfl (by rfl) (fun K hK => ?_)
  go_simp
  have hS30 : Below W2.heap.size W2 (W2.alloc (.cells #[.int .i64 c0, .int .i64 c1, .int .i64 c2, .int .i64 c3, .int .i64 c4, .int .i64 c5] 3)).drew := (below_alloc _ _).drew
  refine hK _ _ (fun _ _ => hS30) ?_
  clear hK K
  have XS := (Bx.new W2 #[.int .i64 c0, .int .i64 c1, .int .i64 c2, .int .i64 c3, .int .i64 c4, .int .i64 c5] 3).drew
  have SL : Sl (W2.alloc (.cells #[.int .i64 c0, .int .i64 c1, .int .i64 c2, .int .i64 c3, .int .i64 c4, .int .i64 c5] 3)).drew (some ⟨W2.heap.size, 0, none⟩) 6 (fun k => [c0, c1, c2, c3, c4, c5].getD k 0) := fun k hk => by
    refine ⟨W2.heap.size, 0, rfl, XS.lt, ?_⟩
    rw [Nat.zero_add]
    rcases (by omega : k = 0 ∨ k = 1 ∨ k = 2 ∨ k = 3 ∨ k = 4 ∨ k = 5) with rfl | rfl | rfl | rfl | rfl | rfl
    · exact XS.at_ 0 rfl
    · exact XS.at_ 1 rfl
    · exact XS.at_ 2 rfl
    · exact XS.at_ 3 rfl
    · exact XS.at_ 4 rfl
    · exact XS.at_ 5 rfl
  have hor := cmp_Or (some ⟨W2.heap.size, 0, none⟩) 6 [c0, c1, c2, c3, c4, c5] _ (by simp) SL
  refine anyS_one (i := 31) (by kernel_rfl) rfl (by rfl) (fun K hK => ?_)
  go_simp
  refine hor.mono ?_
  rintro e w' ⟨rfl, rfl⟩
  dsimp only
  refine hK _ _ (fun _ h => h) ?_
  clear hK K hor SL XS
  refine anyS_take (i := 32) rfl (by kernel_rfl) (fun _ _ _ h => h) (Or.inl ⟨by rfl, fun Y hYb => (by (try dsimp only at hYb); go_simp; rfl)⟩) (by repeat' (first | with_reducible assumption | with_reducible exact Below.refl _ _ | with_reducible refine Below.drew ?_ | with_reducible refine below_drewN ?_ _)) ?_
  simp only [List.getElem_toArray, List.getElem_cons_succ, List.getElem_cons_zero, Act.put, List.setIfInBounds_toArray, List.set_cons_zero, List.set_cons_succ]
  refine anyS_done (by kernel_rfl) ?_ _
  go_wp2
  go_ret
  refine ⟨rfl, 1, #[.cells #[.int .i64 x.st, .int .i64 x.fr, .int .i64 x.to, .int .i64 x.ce, .int .i64 x.di, .int .i64 x.co] 78] ++ #[.cells #[.int .i64 y.st, .int .i64 y.fr, .int .i64 y.to, .int .i64 y.ce, .int .i64 y.di, .int .i64 y.co] 78] ++ #[.cells #[.int .i64 c0, .int .i64 c1, .int .i64 c2, .int .i64 c3, .int .i64 c4, .int .i64 c5] 3], ?_⟩
  rw [HW2.out, alloc_eq_grow, alloc_eq_grow, alloc_eq_grow, grow_grow, grow_grow, Array.append_assoc]
  rfl
set_option maxRecDepth 100000 in
set_option maxHeartbeats 1000000 in
theorem notes_Clone (a : Option Addr) (n c : Nat) (p : Nat → N6) (w : World) (hn : n ≤ 1000000) (H : Sn w a n p) :
    Calls Tryz.prog 75 #[.slice a n c] w fun e w' => ∃ v, e = .returned v ∧ OwnN w' w.heap.size v (lstN p n) ∧ Below w.heap.size w w' := by
  obtain ⟨i0, hi, hz0, hz1, hz2⟩ := info_parts infoN
  have hnil := fun (w : World) => Lib.run_eql_slice_nil (P := Tryz.prog) w 31 78 a n c 0 0 Tryz.underlying31
  rcases a with _ | ⟨b, o, sp⟩
  · obtain rfl : n = 0 := by
      rcases Nat.eq_zero_or_pos n with h | h
      · exact h
      · obtain ⟨b, off, e, _⟩ := H 0 h; cases e
    simp only [Option.isNone_none] at hnil
    go_enter Tryz.func75, Tryz.ntmps75
    go_wp2
    go_ret
    exact ⟨_, rfl, ownN_nil _ _, by (repeat' (first | with_reducible assumption | with_reducible exact Below.refl _ _ | with_reducible refine Below.drew ?_ | with_reducible refine below_drewN ?_ _ | with_reducible refine balloc ?_ _ | with_reducible refine bset ?_ ?_ _ | with_reducible refine Below.setCell ?_ ?_ _ | with_reducible refine Below.alloc ?_ ?_ _ | omega | (simp; done) | (simp; omega)))⟩
  simp only [Option.isNone_some] at hnil
  have hown0 : (w.alloc (.cells #[] 78)).ownsRow w.heap.size 78 6 (.slice (some ⟨w.heap.size, 0, none⟩) 0 0) 0 [] := World.ownsRow_lit w #[] 0 (Nat.le_refl _) (by simp [maxLen]) rfl
  rcases Nat.eq_zero_or_pos n with h0 | h0
  · subst h0
    go_enter Tryz.func75, Tryz.ntmps75
    go_wp2
    go_ret
    exact ⟨_, rfl, hown0, by (repeat' (first | with_reducible assumption | with_reducible exact Below.refl _ _ | with_reducible refine Below.drew ?_ | with_reducible refine below_drewN ?_ _ | with_reducible refine balloc ?_ _ | with_reducible refine bset ?_ ?_ _ | with_reducible refine Below.setCell ?_ ?_ _ | with_reducible refine Below.alloc ?_ ?_ _ | omega | (simp; done) | (simp; omega)))⟩
  obtain ⟨b', o', e', hlt, _⟩ := H 0 h0
  injection e' with e'; injection e' with e1 e2 e3
  subst e1 e2 e3
  have HN := hid (sn_row (H.alloc (.cells #[] 78)))
  have hfl : (flatN (lstN p n)).length = n * 6 := by rw [flatN_length, lstN_length]
  have hone := flatN_one (lstN p n)
  go_enter Tryz.func75, Tryz.ntmps75
  go_wp2_with (at_builtin; refine wpList_append_own_at _ rfl _ _ 31 rfl w.heap.size 78 i0 _ 6 48 Tryz.underlying31 hi hz0 hz1 hz2 rfl (by decide) (.slice (some ⟨w.heap.size, 0, none⟩) 0 0) 0 [] rfl hown0 ⟨b, o, none⟩ n c (flatN (lstN p n)) rfl hfl HN.out hone (by simp [maxLen]; omega) (by omega) (by simp) ?_; intro v' w1 hown hgrow _ _)
  go_ret
  simp only [Nat.zero_add, List.nil_append] at hown
  refine ⟨v', rfl, ?_, ((Below.refl _ w).alloc (Nat.le_refl _) _).grown hgrow (by simp) (fun k hk => by simp [Value.ownBlock] at hk; omega)⟩
  unfold OwnN
  rw [lstN_length]
  exact hown
end Go.Proofs.YtmmjaobpoiofdaaGreat
namespace Go.Proofs.YtmmjaobpoiofdaaGreat
open Go Go.RowKit Go.Sort
set_option linter.unusedVariables false
set_option linter.unusedSimpArgs false
theorem flatK_eq (ys : List N6) : flatK N6.list 6 ys.toArray = (flatN ys).toArray := by
  refine ext_get! (by simp [flatN_length]) fun t ht => ?_
  have ht' : t < ys.length * 6 := by simpa using ht
  rw [get_flatK _ _ _ t (by simpa using ht')]
  have h1 := flatN_at ys (t / 6) (t % 6) (by omega) (Nat.mod_lt _ (by omega))
  rw [show t / 6 * 6 + t % 6 = t by omega] at h1
  have h2 := N6.list_at (ys.getD (t / 6) N6.zero) (t % 6) (Nat.mod_lt _ (by omega))
  have e : ys.toArray[t / 6]! = ys.getD (t / 6) N6.zero := by
    have hl : t / 6 < ys.length := by omega
    simp [List.getD_eq_getElem?_getD, hl]
  rw [e, List.getElem!_eq_getElem?_getD, h2, List.getElem!_toArray, List.getElem!_eq_getElem?_getD, h1]
theorem holdsN_of_own {w : World} {base g n cap : Nat} {xs : List N6} (h : OwnN w base (.slice (some ⟨g, 0, none⟩) n cap) xs) : HoldsK N6.list 6 w g 0 xs.toArray ∧ base ≤ g ∧ g < w.heap.size ∧ xs.length ≤ cap ∧ cap ≤ maxLen ∧ n = xs.length := by
  unfold HoldsK
  rw [flatK_eq]
  rcases h.2 with ⟨e0, _⟩ | ⟨g', cap', cur, e0, hb, hg, hn, hm, hs, ht⟩
  · cases e0
  · injection e0 with e1 e2 e3
    injection e1 with e1
    injection e1 with e1
    subst e1 e2 e3
    have hlt : g < w.heap.size := by
      rcases Nat.lt_or_ge g w.heap.size with h' | h'
      · exact h'
      · rw [Array.getElem?_eq_none h'] at hg; cases hg
    refine ⟨fun j hj => ⟨?_, by simp [World.frozen?, hg]⟩, hb, hlt, hn, hm, rfl⟩
    have hj' : j < xs.length * 6 := by simpa [flatN_length] using hj
    rw [Nat.zero_add, cell_of_row w g j cur _ (0, 0) hg]
    have e1 : (cur.toList.take (xs.length * 6))[j]? = (flatN xs)[j]? := by rw [ht]
    rw [List.getElem?_take, if_pos (by omega), Array.getElem?_toList] at e1
    have hfl := flatN_length xs
    rw [e1, List.getElem!_toArray, List.getElem!_eq_getElem?_getD, List.getElem?_eq_getElem (by omega)]
    rfl
theorem ownN_putRowK {w : World} {base g n cap q : Nat} {xs ys : List N6} (h : OwnN w base (.slice (some ⟨g, 0, none⟩) n cap) xs) (hy : ys.length = xs.length) :
    OwnN (putRowK N6.list 6 (Sort.ahead w q) g 0 ys.toArray) base (.slice (some ⟨g, 0, none⟩) n cap) ys := by
  unfold putRowK OwnN
  rw [flatK_eq]
  rcases h.2 with ⟨e0, _⟩ | ⟨g', cap', cur, e0, hb, hg, hn, hm, hs, ht⟩
  · cases e0
  · injection e0 with e1 e2 e3
    injection e1 with e1
    injection e1 with e1
    subst e1 e2 e3
    have hfl := flatN_length ys
    refine ⟨by rw [hfl], .inr ⟨g, cap, putCells id 0 (flatN ys).toArray cur, by rw [hy], hb, ?_, by omega, hm, by simpa [putCells] using hs, ?_⟩⟩
    · simp [putRow, mapBlock, Sort.ahead, Array.getElem?_modify, hg, onCells]
    · apply List.ext_getElem?
      intro j
      rw [List.getElem?_take, Array.getElem?_toList]
      by_cases hj : j < ys.length * 6
      · have hjc : j < cur.size := by
          have : ys.length * 6 ≤ cap * 6 := Nat.mul_le_mul_right _ (by omega)
          omega
        simp only [if_pos hj, putCells, Array.getElem?_mapIdx, Array.getElem?_eq_getElem hjc, Option.map_some]
        rw [if_pos (by simp; omega), List.getElem?_eq_getElem (by omega)]
        simp [getElem!_pos, show j < (flatN ys).length by omega]
      · rw [if_neg hj, List.getElem?_eq_none (by omega)]
theorem ltOf_cmpN : ltOf cmpN = befN := by
  funext x y
  exact cmpN_lt x y
theorem swoN : SWO (ltOf cmpN) := by
  rw [ltOf_cmpN]
  exact ⟨befN_irrefl, fun x y z => befN_trans, fun x y z => befN_ntrans⟩
set_option maxRecDepth 100000 in
set_option maxHeartbeats 2000000 in
theorem node_Sorted (a : Option Addr) (n c : Nat) (p : Nat → N6) (w : World) (hn : n ≤ 1000000) (H : Sn w a n p) :
    Calls Tryz.prog 53 #[.slice a n c] w fun e w' => ∃ v, e = .returned v ∧ OwnN w' w.heap.size v (sortN (lstN p n)) ∧ Below w.heap.size w w' := by
  have hll := lstN_length p n
  have hcl := notes_Clone a n c p w hn H
  generalize lstN p n = xs at *
  have HL := hid hll
  clear hll
  go_enter Tryz.func53, Tryz.ntmps53
  go_wp2_with fail
  refine hcl.mono ?_
  rintro e w1 ⟨v, rfl, hown, hb1⟩
  clear hcl
  have hown0 := hown
  rcases hown0.2 with ⟨rfl, h0⟩ | ⟨g, cap, cur, rfl, _⟩
  · have hx : sortN xs = [] := by
      have := sortN_length xs
      rw [h0] at this
      exact List.length_eq_zero_iff.1 this
    have HX := hid hx
    clear hx h0
    have hs := AnyF.slices_SortFunc_none (P := Tryz.prog) Tryz.sortN none 0 (.func (.func 103) #[] #[]) w1
    change Calls Tryz.prog 102 _ _ _ at hs
    go_wp2_with fail
    refine hs.mono ?_
    rintro e w2 ⟨rfl, rfl⟩
    go_wp2
    go_ret
    rw [HX.out]
    exact ⟨_, rfl, ownN_nil _ _, hb1⟩
  · obtain ⟨hH, hg1, hg2, hxc, hcm, _⟩ := holdsN_of_own hown
    have hs := AnyQ.slices_SortFunc_total (P := Tryz.prog) Tryz.sortN 6 (fun _ => by kernel_rfl) (fun _ => by kernel_rfl) N6.list (fun _ => rfl) n6_one cmpN swoN 103 #[] g 0 cap xs.toArray w1 (Go.Proofs.enters_of Tryz.func103 (by kernel_rfl) rfl) (fun m os dk _ x y => node_Sorted1 x y _) hH hg2 (by have := HL.out; rw [List.size_toArray]; omega) (fun x y h1 h2 => by rw [ltOf_cmpN] at h1 h2; exact befN_total h1 h2)
    change Calls Tryz.prog 102 _ _ _ at hs
    rw [List.size_toArray, ltOf_cmpN] at hs
    go_wp2_with fail
    refine hs.mono ?_
    rintro e w2 ⟨rfl, q, os, hw2⟩
    clear hs
    have hown2 : OwnN w2 w.heap.size (.slice (some ⟨g, 0, none⟩) xs.length cap) (sortN xs) := by
      rw [hw2]
      unfold sortWorldK
      exact own_below (ownN_putRowK (q := q) hown (sortN_length xs)) (below_grow _ os)
    have hbb : Below w.heap.size w w2 := by
      rw [hw2]
      unfold sortWorldK putRowK
      exact bvia (Lib.below_putRow (enc := id) (q := q) hb1 (by omega)) (below_grow _ os)
    clear hw2
    go_wp2
    go_ret
    exact ⟨_, rfl, hown2, hbb⟩
end Go.Proofs.YtmmjaobpoiofdaaGreat
