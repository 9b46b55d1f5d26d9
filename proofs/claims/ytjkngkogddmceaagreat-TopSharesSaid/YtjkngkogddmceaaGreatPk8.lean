/- Walk: Sorted, of the program. Walk: Sorted, of the program: what comes back is a list of its own that reads as the notes in order. -/
import Derived.Test.YtjkngkogddmceaaGreatPk7
import Derived.Test.YtjkngkogddmceaaGreatShelf
import Derived.Test.YtjkngkogddmceaaGreatShelfN
import Derived.Test.YtjkngkogddmceaaGreatPk4
import Derived.Test.YtjkngkogddmceaaGreatPk2
import Derived.Test.YtjkngkogddmceaaGreatPk6
import Derived.Lib.OwnBridge
import Derived.Test.YtjkngkogddmceaaGreatPk5
namespace Go.Proofs.YtjkngkogddmceaaGreat
open Go Go.RowKit Go.Sort
set_option linter.unusedVariables false
set_option linter.unusedSimpArgs false
/-- the first number that is not 0 -/
def orI : List Int → Int | [] => 0 | x :: l => if x = 0 then orI l else x
theorem orI_zero : ∀ {l : List Int}, (∀ j, j < l.length → l.getD j 0 = 0) → orI l = 0
  | [], _ => rfl
  | x :: l, h => by
    have h0 : x = 0 := h 0 (by simp)
    simp only [orI, if_pos h0]
    exact orI_zero fun j hj => h (j + 1) (by simpa using hj)
theorem orI_at : ∀ {l : List Int} {k : Nat}, (∀ j, j < k → l.getD j 0 = 0) → k < l.length → l.getD k 0 ≠ 0 → orI l = l.getD k 0
  | [], k, _, h, _ => by simp at h
  | x :: l, 0, _, _, hn => by
    have h0 : x ≠ 0 := hn
    simp only [orI, if_neg h0]; rfl
  | x :: l, k + 1, h, hk, hn => by
    have h0 : x = 0 := h 0 (by omega)
    simp only [orI, if_pos h0]
    exact orI_at (l := l) (k := k) (fun j hj => h (j + 1) (by omega)) (by simpa using hk) hn
theorem orI_cmp : ∀ (l m : List Int), l.length = m.length → orI (List.zipWith Lib.compareInt l m) = cmpL l m
  | [], [], _ => rfl
  | [], _ :: _, h => by simp at h
  | _ :: _, [], h => by simp at h
  | a :: l, b :: m, h => by
    have ih := orI_cmp l m (by simpa using h)
    simp only [List.zipWith_cons_cons, orI, cmpL, ih, Lib.compareInt]
    by_cases e : a = b
    · subst e; simp
    · rw [if_neg e]
      by_cases h2 : a < b
      · simp [h2]
      · have : b < a := by omega
        simp [h2, this]
set_option maxRecDepth 100000 in
set_option maxHeartbeats 1000000 in
theorem cmp_Or (a : Option Addr) (c : Nat) (l : List Int) (w : World) (hl : l.length ≤ 1000) (H : Sl w a l.length (fun k => l.getD k 0)) :
    Calls Tryz.prog 139 #[.slice a l.length c] w fun e w' => e = .returned (.int .i64 (orI l)) ∧ w = w' := by
  generalize hn : l.length = n at *
  have hz := fun h => orI_zero (l := l) h
  have ha := fun k h1 h2 h3 => orI_at (l := l) (k := k) h1 h2 h3
  rw [hn] at hz ha
  generalize orI l = r at *
  have HZ := hid hz; have HA := hid ha
  clear hz ha hn
  go_enter Tryz.func139, Tryz.ntmps139
  go_wp2
  go_loop [8] (fun i => ∃ k : Nat, k ≤ n ∧ i = .int .i64 k ∧ ∀ j, j < k → l.getD j 0 = 0) (fun i => n - (intOf i).toNat)
  case atStart => exact ⟨0, Nat.zero_le _, rfl, fun j hj => by omega⟩
  case round =>
    obtain ⟨k, hk, rfl, hok⟩ := hrel
    have HOK := hid hok; clear hok
    by_cases hlt : k < n
    · obtain ⟨b, off, rfl, hb, hc⟩ := H k hlt
      dsimp only at hc
      have hr : l.getD k 0 ≠ 0 → r = l.getD k 0 := fun h => HA.out k HOK.out hlt h
      have hs : l.getD k 0 = 0 → ∀ j, j < k + 1 → l.getD j 0 = 0 := fun h j hj => by
        rcases Nat.lt_succ_iff_lt_or_eq.1 hj with h' | rfl
        · exact HOK.out j h'
        · exact h
      have HR := hid hr; have HS := hid hs
      clear hr hs
      generalize l.getD k 0 = v at *
      cases hv : (v != 0)
      · have hv0 : v = 0 := by simpa using hv
        go_wp2_with fail
        go_round
        case rel => exact ⟨k + 1, by omega, by go_num, HS.out hv0⟩
        case measure => simp [intOf]; omega
      · have hv0 : v ≠ 0 := by simpa using hv
        go_wp2_with fail
        go_ret
        rw [HR.out hv0]
        exact ⟨rfl, rfl⟩
    · obtain rfl : n = k := (by omega)
      go_wp2
      go_ret
      rw [HZ.out HOK.out]
      exact ⟨rfl, rfl⟩
theorem orI_cmpN (x y : N6) : orI [Lib.compareInt x.st y.st, Lib.compareInt x.to y.to, Lib.compareInt x.ce y.ce, Lib.compareInt x.di y.di, Lib.compareInt x.fr y.fr, Lib.compareInt x.co y.co] = cmpN x y := orI_cmp (keyN x) (keyN y) rfl
set_option maxRecDepth 100000 in
set_option maxHeartbeats 4000000 in
theorem node_Sorted1 (x y : N6) (W : World) : Calls Tryz.prog 138 #[.agg #[.int .i64 x.st, .int .i64 x.fr, .int .i64 x.to, .int .i64 x.ce, .int .i64 x.di, .int .i64 x.co], .agg #[.int .i64 y.st, .int .i64 y.fr, .int .i64 y.to, .int .i64 y.ce, .int .i64 y.di, .int .i64 y.co]] W
    fun e w' => e = .returned (.int .i64 (cmpN x y)) ∧ ∃ q os', w' = grow (W.drewN q) os' := by
  rw [← orI_cmpN]
  have q0 := fun V => Tryz.cmp_Compare_int x.st y.st V
  have q1 := fun V => Tryz.cmp_Compare_int x.to y.to V
  have q2 := fun V => Tryz.cmp_Compare_int x.ce y.ce V
  have q3 := fun V => Tryz.cmp_Compare_int x.di y.di V
  have q4 := fun V => Tryz.cmp_Compare_int x.fr y.fr V
  have q5 := fun V => Tryz.cmp_Compare_int x.co y.co V
  generalize Lib.compareInt x.st y.st = c0 at *
  generalize Lib.compareInt x.to y.to = c1 at *
  generalize Lib.compareInt x.ce y.ce = c2 at *
  generalize Lib.compareInt x.di y.di = c3 at *
  generalize Lib.compareInt x.fr y.fr = c4 at *
  generalize Lib.compareInt x.co y.co = c5 at *
  have XA := (Bx.new W #[.int .i64 x.st, .int .i64 x.fr, .int .i64 x.to, .int .i64 x.ce, .int .i64 x.di, .int .i64 x.co] 107).alloc (.cells #[.int .i64 y.st, .int .i64 y.fr, .int .i64 y.to, .int .i64 y.ce, .int .i64 y.di, .int .i64 y.co] 107)
  have XB := Bx.new (W.alloc (.cells #[.int .i64 x.st, .int .i64 x.fr, .int .i64 x.to, .int .i64 x.ce, .int .i64 x.di, .int .i64 x.co] 107)) #[.int .i64 y.st, .int .i64 y.fr, .int .i64 y.to, .int .i64 y.ce, .int .i64 y.di, .int .i64 y.co] 107
  rw [World.size_alloc] at XB
  obtain ⟨W2, hW2⟩ : ∃ W2, W2 = (W.alloc (.cells #[.int .i64 x.st, .int .i64 x.fr, .int .i64 x.to, .int .i64 x.ce, .int .i64 x.di, .int .i64 x.co] 107)).alloc (.cells #[.int .i64 y.st, .int .i64 y.fr, .int .i64 y.to, .int .i64 y.ce, .int .i64 y.di, .int .i64 y.co] 107) := ⟨_, rfl⟩
  go_enter Tryz.func138, Tryz.ntmps138
  go_upto_region 1 with (fail)
  rw [← hW2] at XA XB ⊢
  have HW2 := hid hW2
  clear hW2
  have r0 : ∀ Y, Below W2.heap.size W2 Y → Y.cell? ⟨W.heap.size, 0, none⟩ = some (.int .i64 x.st) := fun Y h => (XA.below h).at_ 0 rfl
  have r1 : ∀ Y, Below W2.heap.size W2 Y → Y.cell? ⟨W.heap.size, 1, none⟩ = some (.int .i64 x.fr) := fun Y h => (XA.below h).at_ 1 rfl
  have r2 : ∀ Y, Below W2.heap.size W2 Y → Y.cell? ⟨W.heap.size, 2, none⟩ = some (.int .i64 x.to) := fun Y h => (XA.below h).at_ 2 rfl
  have r3 : ∀ Y, Below W2.heap.size W2 Y → Y.cell? ⟨W.heap.size, 3, none⟩ = some (.int .i64 x.ce) := fun Y h => (XA.below h).at_ 3 rfl
  have r4 : ∀ Y, Below W2.heap.size W2 Y → Y.cell? ⟨W.heap.size, 4, none⟩ = some (.int .i64 x.di) := fun Y h => (XA.below h).at_ 4 rfl
  have r5 : ∀ Y, Below W2.heap.size W2 Y → Y.cell? ⟨W.heap.size, 5, none⟩ = some (.int .i64 x.co) := fun Y h => (XA.below h).at_ 5 rfl
  have s0 : ∀ Y, Below W2.heap.size W2 Y → Y.cell? ⟨W.heap.size + 1, 0, none⟩ = some (.int .i64 y.st) := fun Y h => (XB.below h).at_ 0 rfl
  have s1 : ∀ Y, Below W2.heap.size W2 Y → Y.cell? ⟨W.heap.size + 1, 1, none⟩ = some (.int .i64 y.fr) := fun Y h => (XB.below h).at_ 1 rfl
  have s2 : ∀ Y, Below W2.heap.size W2 Y → Y.cell? ⟨W.heap.size + 1, 2, none⟩ = some (.int .i64 y.to) := fun Y h => (XB.below h).at_ 2 rfl
  have s3 : ∀ Y, Below W2.heap.size W2 Y → Y.cell? ⟨W.heap.size + 1, 3, none⟩ = some (.int .i64 y.ce) := fun Y h => (XB.below h).at_ 3 rfl
  have s4 : ∀ Y, Below W2.heap.size W2 Y → Y.cell? ⟨W.heap.size + 1, 4, none⟩ = some (.int .i64 y.di) := fun Y h => (XB.below h).at_ 4 rfl
  have s5 : ∀ Y, Below W2.heap.size W2 Y → Y.cell? ⟨W.heap.size + 1, 5, none⟩ = some (.int .i64 y.co) := fun Y h => (XB.below h).at_ 5 rfl
  clear XA XB
  refine wp_region_S (fun Y => Below W2.heap.size W2 Y) 33 (by kernel_rfl) ?_
  refine anyS_take (i := 0) rfl (by kernel_rfl) (fun _ _ _ h => h) (Or.inl ⟨by rfl, fun Y hYb => (by (try dsimp only at hYb); go_simp; rfl)⟩) (by repeat' (first | with_reducible assumption | with_reducible exact Below.refl _ _ | with_reducible refine Below.drew ?_ | with_reducible refine below_drewN ?_ _)) ?_
  refine anyS_take (i := 1) rfl (by kernel_rfl) (fun _ _ _ h => h) (Or.inl ⟨by rfl, fun Y hYb => (by (try dsimp only at hYb); go_simp; rfl)⟩) (by repeat' (first | with_reducible assumption | with_reducible exact Below.refl _ _ | with_reducible refine Below.drew ?_ | with_reducible refine below_drewN ?_ _)) ?_
  refine anyS_take (i := 2) rfl (by kernel_rfl) (fun _ _ _ h => h) (Or.inl ⟨by rfl, fun Y hYb => (by (try dsimp only at hYb); go_simp; rfl)⟩) (by repeat' (first | with_reducible assumption | with_reducible exact Below.refl _ _ | with_reducible refine Below.drew ?_ | with_reducible refine below_drewN ?_ _)) ?_
  refine anyS_take (i := 3) rfl (by kernel_rfl) (fun _ _ _ h => h) (Or.inl ⟨by rfl, fun Y hYb => (by (try dsimp only at hYb); go_simp; rfl)⟩) (by repeat' (first | with_reducible assumption | with_reducible exact Below.refl _ _ | with_reducible refine Below.drew ?_ | with_reducible refine below_drewN ?_ _)) ?_
  refine anyS_take (i := 5) rfl (by kernel_rfl) (fun _ _ _ h => h) (Or.inl ⟨by rfl, fun Y hYb => (by (try dsimp only at hYb); go_simp; rfl)⟩) (by repeat' (first | with_reducible assumption | with_reducible exact Below.refl _ _ | with_reducible refine Below.drew ?_ | with_reducible refine below_drewN ?_ _)) ?_
  refine anyS_take (i := 6) rfl (by kernel_rfl) (fun _ _ _ h => h) (Or.inl ⟨by rfl, fun Y hYb => (by (try dsimp only at hYb); go_simp; rfl)⟩) (by repeat' (first | with_reducible assumption | with_reducible exact Below.refl _ _ | with_reducible refine Below.drew ?_ | with_reducible refine below_drewN ?_ _)) ?_
  refine anyS_take (i := 7) rfl (by kernel_rfl) (fun _ _ _ h => h) (Or.inl ⟨by rfl, fun Y hYb => (by (try dsimp only at hYb); go_simp; rfl)⟩) (by repeat' (first | with_reducible assumption | with_reducible exact Below.refl _ _ | with_reducible refine Below.drew ?_ | with_reducible refine below_drewN ?_ _)) ?_
  refine anyS_take (i := 8) rfl (by kernel_rfl) (fun _ _ _ h => h) (Or.inl ⟨by rfl, fun Y hYb => (by (try dsimp only at hYb); go_simp; rfl)⟩) (by repeat' (first | with_reducible assumption | with_reducible exact Below.refl _ _ | with_reducible refine Below.drew ?_ | with_reducible refine below_drewN ?_ _)) ?_
  refine anyS_take (i := 10) rfl (by kernel_rfl) (fun _ _ _ h => h) (Or.inl ⟨by rfl, fun Y hYb => (by (try dsimp only at hYb); go_simp; rfl)⟩) (by repeat' (first | with_reducible assumption | with_reducible exact Below.refl _ _ | with_reducible refine Below.drew ?_ | with_reducible refine below_drewN ?_ _)) ?_
  refine anyS_take (i := 11) rfl (by kernel_rfl) (fun _ _ _ h => h) (Or.inl ⟨by rfl, fun Y hYb => (by (try dsimp only at hYb); go_simp; rfl)⟩) (by repeat' (first | with_reducible assumption | with_reducible exact Below.refl _ _ | with_reducible refine Below.drew ?_ | with_reducible refine below_drewN ?_ _)) ?_
  refine anyS_take (i := 12) rfl (by kernel_rfl) (fun _ _ _ h => h) (Or.inl ⟨by rfl, fun Y hYb => (by (try dsimp only at hYb); go_simp; rfl)⟩) (by repeat' (first | with_reducible assumption | with_reducible exact Below.refl _ _ | with_reducible refine Below.drew ?_ | with_reducible refine below_drewN ?_ _)) ?_
  refine anyS_take (i := 13) rfl (by kernel_rfl) (fun _ _ _ h => h) (Or.inl ⟨by rfl, fun Y hYb => (by (try dsimp only at hYb); go_simp; rfl)⟩) (by repeat' (first | with_reducible assumption | with_reducible exact Below.refl _ _ | with_reducible refine Below.drew ?_ | with_reducible refine below_drewN ?_ _)) ?_
  refine anyS_take (i := 15) rfl (by kernel_rfl) (fun _ _ _ h => h) (Or.inl ⟨by rfl, fun Y hYb => (by (try dsimp only at hYb); go_simp; rfl)⟩) (by repeat' (first | with_reducible assumption | with_reducible exact Below.refl _ _ | with_reducible refine Below.drew ?_ | with_reducible refine below_drewN ?_ _)) ?_
  refine anyS_take (i := 16) rfl (by kernel_rfl) (fun _ _ _ h => h) (Or.inl ⟨by rfl, fun Y hYb => (by (try dsimp only at hYb); go_simp; rfl)⟩) (by repeat' (first | with_reducible assumption | with_reducible exact Below.refl _ _ | with_reducible refine Below.drew ?_ | with_reducible refine below_drewN ?_ _)) ?_
  refine anyS_take (i := 17) rfl (by kernel_rfl) (fun _ _ _ h => h) (Or.inl ⟨by rfl, fun Y hYb => (by (try dsimp only at hYb); go_simp; rfl)⟩) (by repeat' (first | with_reducible assumption | with_reducible exact Below.refl _ _ | with_reducible refine Below.drew ?_ | with_reducible refine below_drewN ?_ _)) ?_
  refine anyS_take (i := 18) rfl (by kernel_rfl) (fun _ _ _ h => h) (Or.inl ⟨by rfl, fun Y hYb => (by (try dsimp only at hYb); go_simp; rfl)⟩) (by repeat' (first | with_reducible assumption | with_reducible exact Below.refl _ _ | with_reducible refine Below.drew ?_ | with_reducible refine below_drewN ?_ _)) ?_
  refine anyS_take (i := 20) rfl (by kernel_rfl) (fun _ _ _ h => h) (Or.inl ⟨by rfl, fun Y hYb => (by (try dsimp only at hYb); go_simp; rfl)⟩) (by repeat' (first | with_reducible assumption | with_reducible exact Below.refl _ _ | with_reducible refine Below.drew ?_ | with_reducible refine below_drewN ?_ _)) ?_
  refine anyS_take (i := 21) rfl (by kernel_rfl) (fun _ _ _ h => h) (Or.inl ⟨by rfl, fun Y hYb => (by (try dsimp only at hYb); go_simp; rfl)⟩) (by repeat' (first | with_reducible assumption | with_reducible exact Below.refl _ _ | with_reducible refine Below.drew ?_ | with_reducible refine below_drewN ?_ _)) ?_
  refine anyS_take (i := 22) rfl (by kernel_rfl) (fun _ _ _ h => h) (Or.inl ⟨by rfl, fun Y hYb => (by (try dsimp only at hYb); go_simp; rfl)⟩) (by repeat' (first | with_reducible assumption | with_reducible exact Below.refl _ _ | with_reducible refine Below.drew ?_ | with_reducible refine below_drewN ?_ _)) ?_
  refine anyS_take (i := 23) rfl (by kernel_rfl) (fun _ _ _ h => h) (Or.inl ⟨by rfl, fun Y hYb => (by (try dsimp only at hYb); go_simp; rfl)⟩) (by repeat' (first | with_reducible assumption | with_reducible exact Below.refl _ _ | with_reducible refine Below.drew ?_ | with_reducible refine below_drewN ?_ _)) ?_
  refine anyS_take (i := 25) rfl (by kernel_rfl) (fun _ _ _ h => h) (Or.inl ⟨by rfl, fun Y hYb => (by (try dsimp only at hYb); go_simp; rfl)⟩) (by repeat' (first | with_reducible assumption | with_reducible exact Below.refl _ _ | with_reducible refine Below.drew ?_ | with_reducible refine below_drewN ?_ _)) ?_
  refine anyS_take (i := 26) rfl (by kernel_rfl) (fun _ _ _ h => h) (Or.inl ⟨by rfl, fun Y hYb => (by (try dsimp only at hYb); go_simp; rfl)⟩) (by repeat' (first | with_reducible assumption | with_reducible exact Below.refl _ _ | with_reducible refine Below.drew ?_ | with_reducible refine below_drewN ?_ _)) ?_
  refine anyS_take (i := 27) rfl (by kernel_rfl) (fun _ _ _ h => h) (Or.inl ⟨by rfl, fun Y hYb => (by (try dsimp only at hYb); go_simp; rfl)⟩) (by repeat' (first | with_reducible assumption | with_reducible exact Below.refl _ _ | with_reducible refine Below.drew ?_ | with_reducible refine below_drewN ?_ _)) ?_
  refine anyS_take (i := 28) rfl (by kernel_rfl) (fun _ _ _ h => h) (Or.inl ⟨by rfl, fun Y hYb => (by (try dsimp only at hYb); go_simp; rfl)⟩) (by repeat' (first | with_reducible assumption | with_reducible exact Below.refl _ _ | with_reducible refine Below.drew ?_ | with_reducible refine below_drewN ?_ _)) ?_
  refine anyS_one (i := 4) (by kernel_rfl) rfl (by rfl) (fun K hK => ?_)
  go_simp
  refine (q0 _).mono ?_
  rintro e w' ⟨rfl, rfl⟩
  dsimp only
  refine hK _ _ (fun _ h => h) ?_
  clear hK K
  refine anyS_one (i := 9) (by kernel_rfl) rfl (by rfl) (fun K hK => ?_)
  go_simp
  refine (q1 _).mono ?_
  rintro e w' ⟨rfl, rfl⟩
  dsimp only
  refine hK _ _ (fun _ h => h) ?_
  clear hK K
  refine anyS_one (i := 14) (by kernel_rfl) rfl (by rfl) (fun K hK => ?_)
  go_simp
  refine (q2 _).mono ?_
  rintro e w' ⟨rfl, rfl⟩
  dsimp only
  refine hK _ _ (fun _ h => h) ?_
  clear hK K
  refine anyS_one (i := 19) (by kernel_rfl) rfl (by rfl) (fun K hK => ?_)
  go_simp
  refine (q3 _).mono ?_
  rintro e w' ⟨rfl, rfl⟩
  dsimp only
  refine hK _ _ (fun _ h => h) ?_
  clear hK K
  refine anyS_one (i := 24) (by kernel_rfl) rfl (by rfl) (fun K hK => ?_)
  go_simp
  refine (q4 _).mono ?_
  rintro e w' ⟨rfl, rfl⟩
  dsimp only
  refine hK _ _ (fun _ h => h) ?_
  clear hK K
  refine anyS_one (i := 29) (by kernel_rfl) rfl (by rfl) (fun K hK => ?_)
  go_simp
  refine (q5 _).mono ?_
  rintro e w' ⟨rfl, rfl⟩
  dsimp only
  refine hK _ _ (fun _ h => h) ?_
  clear hK K
  clear r0 r1 r2 r3 r4 r5 s0 s1 s2 s3 s4 s5 q0 q1 q2 q3 q4 q5
  refine anyS_one (i := 30) (by kernel_rfl) rfl (by rfl) (fun K hK => ?_)
  go_simp
  have hS30 : Below W2.heap.size W2 (W2.alloc (.cells #[.int .i64 c0, .int .i64 c1, .int .i64 c2, .int .i64 c3, .int .i64 c4, .int .i64 c5] 3)).drew := (below_alloc _ _).drew
  refine hK _ _ (fun _ _ => hS30) ?_
  clear hK K
  have XS := (Bx.new W2 #[.int .i64 c0, .int .i64 c1, .int .i64 c2, .int .i64 c3, .int .i64 c4, .int .i64 c5] 3).drew
  have SL : Sl (W2.alloc (.cells #[.int .i64 c0, .int .i64 c1, .int .i64 c2, .int .i64 c3, .int .i64 c4, .int .i64 c5] 3)).drew (some ⟨W2.heap.size, 0, none⟩) 6 (fun k => [c0, c1, c2, c3, c4, c5].getD k 0) := fun k hk => by
    refine ⟨W2.heap.size, 0, rfl, XS.lt, ?_⟩
    rw [Nat.zero_add]
    rcases (by omega : k = 0 ∨ k = 1 ∨ k = 2 ∨ k = 3 ∨ k = 4 ∨ k = 5) with rfl | rfl | rfl | rfl | rfl | rfl
    · exact XS.at_ 0 rfl
    · exact XS.at_ 1 rfl
    · exact XS.at_ 2 rfl
    · exact XS.at_ 3 rfl
    · exact XS.at_ 4 rfl
    · exact XS.at_ 5 rfl
  have hor := cmp_Or (some ⟨W2.heap.size, 0, none⟩) 6 [c0, c1, c2, c3, c4, c5] _ (by simp) SL
  refine anyS_one (i := 31) (by kernel_rfl) rfl (by rfl) (fun K hK => ?_)
  go_simp
  refine hor.mono ?_
  rintro e w' ⟨rfl, rfl⟩
  dsimp only
  refine hK _ _ (fun _ h => h) ?_
  clear hK K hor SL XS
  refine anyS_take (i := 32) rfl (by kernel_rfl) (fun _ _ _ h => h) (Or.inl ⟨by rfl, fun Y hYb => (by (try dsimp only at hYb); go_simp; rfl)⟩) (by repeat' (first | with_reducible assumption | with_reducible exact Below.refl _ _ | with_reducible refine Below.drew ?_ | with_reducible refine below_drewN ?_ _)) ?_
  simp only [List.getElem_toArray, List.getElem_cons_succ, List.getElem_cons_zero, Act.put, List.setIfInBounds_toArray, List.set_cons_zero, List.set_cons_succ]
  refine anyS_done (by kernel_rfl) ?_ _
  go_wp2
  go_ret
  refine ⟨rfl, 1, #[.cells #[.int .i64 x.st, .int .i64 x.fr, .int .i64 x.to, .int .i64 x.ce, .int .i64 x.di, .int .i64 x.co] 107] ++ #[.cells #[.int .i64 y.st, .int .i64 y.fr, .int .i64 y.to, .int .i64 y.ce, .int .i64 y.di, .int .i64 y.co] 107] ++ #[.cells #[.int .i64 c0, .int .i64 c1, .int .i64 c2, .int .i64 c3, .int .i64 c4, .int .i64 c5] 3], ?_⟩
  rw [HW2.out, alloc_eq_grow, alloc_eq_grow, alloc_eq_grow, grow_grow, grow_grow, Array.append_assoc]
  rfl
set_option maxRecDepth 100000 in
set_option maxHeartbeats 1000000 in
theorem notes_Clone (a : Option Addr) (n c : Nat) (p : Nat → N6) (w : World) (hn : n ≤ 1000000) (H : Sn w a n p) :
    Calls Tryz.prog 107 #[.slice a n c] w fun e w' => ∃ v, e = .returned v ∧ OwnN w' w.heap.size v (lstN p n) ∧ Below w.heap.size w w' := by
  obtain ⟨i0, hi, hz0, hz1, hz2⟩ := info_parts infoN
  have hnil := fun (w : World) => Lib.run_eql_slice_nil (P := Tryz.prog) w 74 107 a n c 0 0 Tryz.underlying74
  rcases a with _ | ⟨b, o, sp⟩
  · obtain rfl : n = 0 := by
      rcases Nat.eq_zero_or_pos n with h | h
      · exact h
      · obtain ⟨b, off, e, _⟩ := H 0 h; cases e
    simp only [Option.isNone_none] at hnil
    go_enter Tryz.func107, Tryz.ntmps107
    go_wp2
    go_ret
    exact ⟨_, rfl, ownN_nil _ _, by (repeat' (first | with_reducible assumption | with_reducible exact Below.refl _ _ | with_reducible refine Below.drew ?_ | with_reducible refine below_drewN ?_ _ | with_reducible refine balloc ?_ _ | with_reducible refine bset ?_ ?_ _ | with_reducible refine Below.setCell ?_ ?_ _ | with_reducible refine Below.alloc ?_ ?_ _ | omega | (simp; done) | (simp; omega)))⟩
  simp only [Option.isNone_some] at hnil
  have hown0 : (w.alloc (.cells #[] 107)).ownsRow w.heap.size 107 6 (.slice (some ⟨w.heap.size, 0, none⟩) 0 0) 0 [] := World.ownsRow_lit w #[] 0 (Nat.le_refl _) (by simp [maxLen]) rfl
  rcases Nat.eq_zero_or_pos n with h0 | h0
  · subst h0
    go_enter Tryz.func107, Tryz.ntmps107
    go_wp2
    go_ret
    exact ⟨_, rfl, hown0, by (repeat' (first | with_reducible assumption | with_reducible exact Below.refl _ _ | with_reducible refine Below.drew ?_ | with_reducible refine below_drewN ?_ _ | with_reducible refine balloc ?_ _ | with_reducible refine bset ?_ ?_ _ | with_reducible refine Below.setCell ?_ ?_ _ | with_reducible refine Below.alloc ?_ ?_ _ | omega | (simp; done) | (simp; omega)))⟩
  obtain ⟨b', o', e', hlt, _⟩ := H 0 h0
  injection e' with e'; injection e' with e1 e2 e3
  subst e1 e2 e3
  have HN := hid (sn_row (H.alloc (.cells #[] 107)))
  have hfl : (flatN (lstN p n)).length = n * 6 := by rw [flatN_length, lstN_length]
  have hone := flatN_one (lstN p n)
  go_enter Tryz.func107, Tryz.ntmps107
  go_wp2_with (at_builtin; refine wpList_append_own_at _ rfl _ _ 74 rfl w.heap.size 107 i0 _ 6 48 Tryz.underlying74 hi hz0 hz1 hz2 rfl (by decide) (.slice (some ⟨w.heap.size, 0, none⟩) 0 0) 0 [] rfl hown0 ⟨b, o, none⟩ n c (flatN (lstN p n)) rfl hfl HN.out hone (by simp [maxLen]; omega) (by omega) (by simp) ?_; intro v' w1 hown hgrow _ _)
  go_ret
  simp only [Nat.zero_add, List.nil_append] at hown
  refine ⟨v', rfl, ?_, ((Below.refl _ w).alloc (Nat.le_refl _) _).grown hgrow (by simp) (fun k hk => by simp [Value.ownBlock] at hk; omega)⟩
  unfold OwnN
  rw [lstN_length]
  exact hown
end Go.Proofs.YtjkngkogddmceaaGreat
namespace Go.Proofs.YtjkngkogddmceaaGreat
open Go Go.RowKit Go.Sort
set_option linter.unusedVariables false
set_option linter.unusedSimpArgs false
theorem flatK_eq (ys : List N6) : flatK N6.list 6 ys.toArray = (flatN ys).toArray := by
  refine ext_get! (by simp [flatN_length]) fun t ht => ?_
  have ht' : t < ys.length * 6 := by simpa using ht
  rw [get_flatK _ _ _ t (by simpa using ht')]
  have h1 := flatN_at ys (t / 6) (t % 6) (by omega) (Nat.mod_lt _ (by omega))
  rw [show t / 6 * 6 + t % 6 = t by omega] at h1
  have h2 := N6.list_at (ys.getD (t / 6) N6.zero) (t % 6) (Nat.mod_lt _ (by omega))
  have e : ys.toArray[t / 6]! = ys.getD (t / 6) N6.zero := by
    have hl : t / 6 < ys.length := by omega
    simp [List.getD_eq_getElem?_getD, hl]
  rw [e, List.getElem!_eq_getElem?_getD, h2, List.getElem!_toArray, List.getElem!_eq_getElem?_getD, h1]
theorem holdsN_of_own {w : World} {base g n cap : Nat} {xs : List N6} (h : OwnN w base (.slice (some ⟨g, 0, none⟩) n cap) xs) : HoldsK N6.list 6 w g 0 xs.toArray ∧ base ≤ g ∧ g < w.heap.size ∧ xs.length ≤ cap ∧ cap ≤ maxLen ∧ n = xs.length := by
  unfold HoldsK
  rw [flatK_eq]
  rcases h.2 with ⟨e0, _⟩ | ⟨g', cap', cur, e0, hb, hg, hn, hm, hs, ht⟩
  · cases e0
  · injection e0 with e1 e2 e3
    injection e1 with e1
    injection e1 with e1
    subst e1 e2 e3
    have hlt : g < w.heap.size := by
      rcases Nat.lt_or_ge g w.heap.size with h' | h'
      · exact h'
      · rw [Array.getElem?_eq_none h'] at hg; cases hg
    refine ⟨fun j hj => ⟨?_, by simp [World.frozen?, hg]⟩, hb, hlt, hn, hm, rfl⟩
    have hj' : j < xs.length * 6 := by simpa [flatN_length] using hj
    rw [Nat.zero_add, cell_of_row w g j cur _ (0, 0) hg]
    have e1 : (cur.toList.take (xs.length * 6))[j]? = (flatN xs)[j]? := by rw [ht]
    rw [List.getElem?_take, if_pos (by omega), Array.getElem?_toList] at e1
    have hfl := flatN_length xs
    rw [e1, List.getElem!_toArray, List.getElem!_eq_getElem?_getD, List.getElem?_eq_getElem (by omega)]
    rfl
theorem ownN_putRowK {w : World} {base g n cap q : Nat} {xs ys : List N6} (h : OwnN w base (.slice (some ⟨g, 0, none⟩) n cap) xs) (hy : ys.length = xs.length) :
    OwnN (putRowK N6.list 6 (Sort.ahead w q) g 0 ys.toArray) base (.slice (some ⟨g, 0, none⟩) n cap) ys := by
  unfold putRowK OwnN
  rw [flatK_eq]
  rcases h.2 with ⟨e0, _⟩ | ⟨g', cap', cur, e0, hb, hg, hn, hm, hs, ht⟩
  · cases e0
  · injection e0 with e1 e2 e3
    injection e1 with e1
    injection e1 with e1
    subst e1 e2 e3
    have hfl := flatN_length ys
    refine ⟨by rw [hfl], .inr ⟨g, cap, putCells id 0 (flatN ys).toArray cur, by rw [hy], hb, ?_, by omega, hm, by simpa [putCells] using hs, ?_⟩⟩
    · simp [putRow, mapBlock, Sort.ahead, Array.getElem?_modify, hg, onCells]
    · apply List.ext_getElem?
      intro j
      rw [List.getElem?_take, Array.getElem?_toList]
      by_cases hj : j < ys.length * 6
      · have hjc : j < cur.size := by
          have : ys.length * 6 ≤ cap * 6 := Nat.mul_le_mul_right _ (by omega)
          omega
        simp only [if_pos hj, putCells, Array.getElem?_mapIdx, Array.getElem?_eq_getElem hjc, Option.map_some]
        rw [if_pos (by simp; omega), List.getElem?_eq_getElem (by omega)]
        simp [getElem!_pos, show j < (flatN ys).length by omega]
      · rw [if_neg hj, List.getElem?_eq_none (by omega)]
theorem ltOf_cmpN : ltOf cmpN = befN := by
  funext x y
  exact cmpN_lt x y
theorem swoN : SWO (ltOf cmpN) := by
  rw [ltOf_cmpN]
  exact ⟨befN_irrefl, fun x y z => befN_trans, fun x y z => befN_ntrans⟩
set_option maxRecDepth 100000 in
set_option maxHeartbeats 2000000 in
theorem node_Sorted (a : Option Addr) (n c : Nat) (p : Nat → N6) (w : World) (hn : n ≤ 1000000) (H : Sn w a n p) :
    Calls Tryz.prog 110 #[.slice a n c] w fun e w' => ∃ v, e = .returned v ∧ OwnN w' w.heap.size v (sortN (lstN p n)) ∧ Below w.heap.size w w' := by
  have hll := lstN_length p n
  have hcl := notes_Clone a n c p w hn H
  generalize lstN p n = xs at *
  have HL := hid hll
  clear hll
  go_enter Tryz.func110, Tryz.ntmps110
  go_wp2_with fail
  refine hcl.mono ?_
  rintro e w1 ⟨v, rfl, hown, hb1⟩
  clear hcl
  have hown0 := hown
  rcases hown0.2 with ⟨rfl, h0⟩ | ⟨g, cap, cur, rfl, _⟩
  · have hx : sortN xs = [] := by
      have := sortN_length xs
      rw [h0] at this
      exact List.length_eq_zero_iff.1 this
    have HX := hid hx
    clear hx h0
    have hs := AnyF.slices_SortFunc_none (P := Tryz.prog) Tryz.sortN none 0 (.func (.func 138) #[] #[]) w1
    change Calls Tryz.prog 137 _ _ _ at hs
    go_wp2_with fail
    refine hs.mono ?_
    rintro e w2 ⟨rfl, rfl⟩
    go_wp2
    go_ret
    rw [HX.out]
    exact ⟨_, rfl, ownN_nil _ _, hb1⟩
  · obtain ⟨hH, hg1, hg2, hxc, hcm, _⟩ := holdsN_of_own hown
    have hs := AnyQ.slices_SortFunc_total (P := Tryz.prog) Tryz.sortN 6 (fun _ => by kernel_rfl) (fun _ => by kernel_rfl) N6.list (fun _ => rfl) n6_one cmpN swoN 138 #[] g 0 cap xs.toArray w1 (Go.Proofs.enters_of Tryz.func138 (by kernel_rfl) rfl) (fun m os dk _ x y => node_Sorted1 x y _) hH hg2 (by have := HL.out; rw [List.size_toArray]; omega) (fun x y h1 h2 => by rw [ltOf_cmpN] at h1 h2; exact befN_total h1 h2)
    change Calls Tryz.prog 137 _ _ _ at hs
    rw [List.size_toArray, ltOf_cmpN] at hs
    go_wp2_with fail
    refine hs.mono ?_
    rintro e w2 ⟨rfl, q, os, hw2⟩
    clear hs
    have hown2 : OwnN w2 w.heap.size (.slice (some ⟨g, 0, none⟩) xs.length cap) (sortN xs) := by
      rw [hw2]
      unfold sortWorldK
      exact own_below (ownN_putRowK (q := q) hown (sortN_length xs)) (below_grow _ os)
    have hbb : Below w.heap.size w w2 := by
      rw [hw2]
      unfold sortWorldK putRowK
      exact bvia (Lib.below_putRow (enc := id) (q := q) hb1 (by omega)) (below_grow _ os)
    clear hw2
    go_wp2
    go_ret
    exact ⟨_, rfl, hown2, hbb⟩
end Go.Proofs.YtjkngkogddmceaaGreat
/- Walks: slices.IndexFunc (the first place) and slices.DeleteFunc of notes. -/
namespace Go.Proofs.YtjkngkogddmceaaGreat
open Go Go.RowKit
set_option linter.unusedVariables false
set_option linter.unusedSimpArgs false
/-- the first place at which P holds -/
def FirstP (P : N6 → Bool) (f : Nat → N6) (n : Nat) (r : Int) : Prop := (r = -1 ∧ ∀ k, k < n → P (f k) = false) ∨ ∃ k : Nat, k < n ∧ r = k ∧ P (f k) = true ∧ ∀ j, j < k → P (f j) = false
def FirstPost (P : N6 → Bool) (f : Nat → N6) (n : Nat) (w : World) (e : Ending) (w' : World) : Prop := ∃ r : Int, e = .returned (.int .i64 r) ∧ FirstP P f n r ∧ Below w.heap.size w w'
set_option maxRecDepth 100000 in
set_option maxHeartbeats 1000000 in
theorem notes_IndexFirst (P : N6 → Bool) (gf : Nat) (cb : Array Value) (a : Option Addr) (n c : Nat) (f : Nat → N6) (w : World) (hn : n ≤ 100000000) (H : Sn w a n f)
    (hp : ∀ k, k < n → ∀ W, Below w.heap.size w W → Calls Tryz.prog gf (#[.agg #[.int .i64 (f k).st, .int .i64 (f k).fr, .int .i64 (f k).to, .int .i64 (f k).ce, .int .i64 (f k).di, .int .i64 (f k).co]] ++ cb) W fun e w' => e = .returned (.bool (P (f k))) ∧ Below W.heap.size W w') (eg : ∀ args w, (callFunc gf args).run Tryz.prog w = .ok (.enter gf args) w) :
    Calls Tryz.prog 136 #[.slice a n c, .func (.func gf) #[] cb] w (FirstPost P f n w) := by
  go_enter Tryz.func136, Tryz.ntmps136
  go_wp2
  go_loopw [8] (fun i wr => ∃ k : Nat, k ≤ n ∧ i = .int .i64 k ∧ (∀ j, j < k → P (f j) = false) ∧ Below w.heap.size w wr) (fun i _ => n - (intOf i).toNat)
  case atStart => exact ⟨0, Nat.zero_le _, rfl, fun j hj => by omega, Below.refl _ _⟩
  case round =>
    obtain ⟨k, hk, rfl, hno, hB⟩ := hrel
    have HNO := hid hno; clear hno
    by_cases hlt : k < n
    · obtain ⟨b1, o1, rfl, hb1, c0, c1, c2, c3, c4, c5⟩ := (H.below hB).six hlt
      have hpk := hp k hlt wr hB
      clear hp
      go_wp2_with fail
      refine hpk.mono ?_
      rintro e w1 ⟨rfl, hb1⟩
      replace hB := bvia hB hb1
      cases hv : P (f k)
      · go_wp2_with fail
        go_roundw
        case rel => exact ⟨k + 1, by omega, by go_num, fun j hj => by
          rcases Nat.lt_succ_iff_lt_or_eq.1 hj with h' | rfl
          · exact HNO.out j h'
          · exact hv, hB⟩
        case measure => simp [intOf]; omega
      · go_wp2_with fail
        go_ret
        exact ⟨k, rfl, .inr ⟨k, hlt, rfl, hv, HNO.out⟩, hB⟩
    · clear hp
      go_wp2
      go_ret
      obtain rfl : k = n := (by omega)
      exact ⟨-1, rfl, .inl ⟨rfl, HNO.out⟩, hB⟩
/-- one cell of an own row is written -/
theorem own_set1 {w : World} {base g n cap size : Nat} {e : TypeId} {xs : List Value} (h : w.ownsRow base e size (.slice (some ⟨g, 0, none⟩) n cap) n xs) (j : Nat) (hj : j < n * size) (u : Value) :
    (w.setCell ⟨g, j, none⟩ u).ownsRow base e size (.slice (some ⟨g, 0, none⟩) n cap) n (xs.set j u) := by
  refine ⟨by simpa using h.1, ?_⟩
  rcases h.2 with ⟨e0, _⟩ | ⟨g', cap', cur, e0, hb, hg, hn, hm, hs, ht⟩
  · cases e0
  · injection e0 with e1 _ e3
    injection e1 with e1
    injection e1 with e1
    subst e1 e3
    refine .inr ⟨g, cap, cur.setIfInBounds j u, rfl, hb, ?_, hn, hm, by simpa using hs, ?_⟩
    · simp [World.setCell, Array.getElem?_modify, hg]
    · rw [← ht, Array.toList_setIfInBounds, List.take_set]
theorem flatN_set : ∀ (ys : List N6) (i : Nat) (x : N6), i < ys.length → ((((((flatN ys).set (i * 6) (.int .i64 x.st)).set (i * 6 + 1) (.int .i64 x.fr)).set (i * 6 + 2) (.int .i64 x.to)).set (i * 6 + 3) (.int .i64 x.ce)).set (i * 6 + 4) (.int .i64 x.di)).set (i * 6 + 5) (.int .i64 x.co) = flatN (ys.set i x) := by
  intro ys i x hi
  apply List.ext_getElem?
  intro t
  have hfl := flatN_length ys
  have hfl2 := flatN_length (ys.set i x)
  rw [List.length_set] at hfl2
  by_cases ht : t < ys.length * 6
  · have e1 := flatN_at ys (t / 6) (t % 6) (by omega) (Nat.mod_lt _ (by omega))
    have e2 := flatN_at (ys.set i x) (t / 6) (t % 6) (by rw [List.length_set]; omega) (Nat.mod_lt _ (by omega))
    rw [show t / 6 * 6 + t % 6 = t by omega] at e1 e2
    rw [e2]
    simp only [List.getElem?_set, List.length_set, hfl, e1]
    by_cases hti : t / 6 = i
    · have hg : (ys.set i x).getD (t / 6) N6.zero = x := by rw [hti, List.getD_eq_getElem?_getD, List.getElem?_set_self hi]; rfl
      rw [hg]
      have ht6 : t = i * 6 + t % 6 := by omega
      have hm := Nat.mod_lt t (show 0 < 6 by omega)
      rcases (by omega : t % 6 = 0 ∨ t % 6 = 1 ∨ t % 6 = 2 ∨ t % 6 = 3 ∨ t % 6 = 4 ∨ t % 6 = 5) with h | h | h | h | h | h <;> rw [h] <;> rw [h] at ht6
      · rw [if_neg (by omega), if_neg (by omega), if_neg (by omega), if_neg (by omega), if_neg (by omega), if_pos (by omega), if_pos (by omega)]; rfl
      · rw [if_neg (by omega), if_neg (by omega), if_neg (by omega), if_neg (by omega), if_pos (by omega), if_pos (by omega)]; rfl
      · rw [if_neg (by omega), if_neg (by omega), if_neg (by omega), if_pos (by omega), if_pos (by omega)]; rfl
      · rw [if_neg (by omega), if_neg (by omega), if_pos (by omega), if_pos (by omega)]; rfl
      · rw [if_neg (by omega), if_pos (by omega), if_pos (by omega)]; rfl
      · rw [if_pos (by omega), if_pos (by omega)]; rfl
    · have hg : (ys.set i x).getD (t / 6) N6.zero = ys.getD (t / 6) N6.zero := by rw [List.getD_eq_getElem?_getD, List.getElem?_set_ne (fun h => hti h.symm), ← List.getD_eq_getElem?_getD]
      rw [hg, if_neg (by omega), if_neg (by omega), if_neg (by omega), if_neg (by omega), if_neg (by omega), if_neg (by omega)]
  · rw [List.getElem?_eq_none (by simp; omega), List.getElem?_eq_none (by omega)]
/-- one note of an own list is written -/
theorem ownN_set {w : World} {base g n cap : Nat} {ys : List N6} (h : OwnN w base (.slice (some ⟨g, 0, none⟩) n cap) ys) (hn : n = ys.length) {i : Nat} (hi : i < ys.length) (x : N6) :
    OwnN ((((((w.setCell ⟨g, i * 6, none⟩ (.int .i64 x.st)).setCell ⟨g, i * 6 + 1, none⟩ (.int .i64 x.fr)).setCell ⟨g, i * 6 + 2, none⟩ (.int .i64 x.to)).setCell ⟨g, i * 6 + 3, none⟩ (.int .i64 x.ce)).setCell ⟨g, i * 6 + 4, none⟩ (.int .i64 x.di)).setCell ⟨g, i * 6 + 5, none⟩ (.int .i64 x.co)) base (.slice (some ⟨g, 0, none⟩) n cap) (ys.set i x) := by
  subst hn
  unfold OwnN
  rw [List.length_set, ← flatN_set ys i x hi]
  exact own_set1 (own_set1 (own_set1 (own_set1 (own_set1 (own_set1 h _ (by omega) _) _ (by omega) _) _ (by omega) _) _ (by omega) _) _ (by omega) _) _ (by omega) _
/-- .. and cut to its first ones, the others overwritten -/
theorem ownN_cut {w : World} {base g n cap : Nat} {ys : List N6} (h : OwnN w base (.slice (some ⟨g, 0, none⟩) n cap) ys) {i : Nat} (hi : i ≤ ys.length) : ∀ (vs : List Value) (o : Nat), i * 6 ≤ o → OwnN (w.setCells g o vs) base (.slice (some ⟨g, 0, none⟩) i cap) (ys.take i) := by
  have hcut : ∀ W : World, (∃ cur', W.heap[g]? = some (.cells cur' 107 (0, 0)) ∧ cur'.size = cap * 6 ∧ cur'.toList.take (i * 6) = flatN (ys.take i)) → base ≤ g → i ≤ cap → cap ≤ maxLen → OwnN W base (.slice (some ⟨g, 0, none⟩) i cap) (ys.take i) := fun W ⟨cur', h1, h2, h3⟩ h4 h5 h6 => by
    have hl : (ys.take i).length = i := by rw [List.length_take]; omega
    unfold OwnN
    rw [hl]
    exact ⟨by rw [flatN_length, hl], .inr ⟨g, cap, cur', rfl, h4, h1, h5, h6, h2, h3⟩⟩
  rcases h.2 with ⟨e0, _⟩ | ⟨g', cap', cur, e0, hb, hg, hn, hm, hs, ht⟩
  · cases e0
  · injection e0 with e1 _ e3
    injection e1 with e1
    injection e1 with e1
    subst e1 e3
    have ht2 : cur.toList.take (i * 6) = flatN (ys.take i) := by
      have h1 : cur.toList.take (i * 6) = (cur.toList.take (ys.length * 6)).take (i * 6) := by rw [List.take_take, Nat.min_eq_left (by omega)]
      rw [h1, ht]
      have h2 : flatN ys = flatN (ys.take i) ++ flatN (ys.drop i) := by
        unfold flatN
        rw [← List.flatMap_append, List.take_append_drop]
      rw [h2, List.take_left' (by rw [flatN_length, List.length_take]; omega)]
    have key : ∀ (vs : List Value) (o : Nat) (W : World), i * 6 ≤ o → (∃ cur', W.heap[g]? = some (.cells cur' 107 (0, 0)) ∧ cur'.size = cap * 6 ∧ cur'.toList.take (i * 6) = flatN (ys.take i)) → ∃ cur', (W.setCells g o vs).heap[g]? = some (.cells cur' 107 (0, 0)) ∧ cur'.size = cap * 6 ∧ cur'.toList.take (i * 6) = flatN (ys.take i) := by
      intro vs
      induction vs with
      | nil => intro o W _ h; exact h
      | cons v vs ih =>
        intro o W ho ⟨cur', h1, h2, h3⟩
        refine ih (o + 1) _ (by omega) ⟨cur'.setIfInBounds o v, ?_, by simpa using h2, ?_⟩
        · simp [World.setCell, Array.getElem?_modify, h1]
        · rw [Array.toList_setIfInBounds, List.take_set, h3, List.set_eq_of_length_le]
          rw [flatN_length, List.length_take]; omega
    intro vs o ho
    exact hcut _ (key vs o w ho ⟨cur, hg, hs, ht2⟩) hb (by omega) hm
theorem below_setCells {B : Nat} {w0 : World} {g : Nat} (hg : B ≤ g) : ∀ (vs : List Value) (o : Nat) (w : World), Below B w0 w → Below B w0 (w.setCells g o vs)
  | [], _, _, h => h
  | v :: vs, o, w, h => below_setCells hg vs (o + 1) _ (h.setCell (p := ⟨g, o, none⟩) hg v)
theorem own_free {w : World} {base g n cap : Nat} {ys : List N6} (h : OwnN w base (.slice (some ⟨g, 0, none⟩) n cap) ys) : ∀ o, w.frozen? ⟨g, o, none⟩ = false := fun o => by
  rcases h.2 with ⟨e0, _⟩ | ⟨g', cap', cur, e0, hb, hg, hn, hm, hs, ht⟩
  · cases e0
  · injection e0 with e1 _ e3
    injection e1 with e1
    injection e1 with e1
    subst e1
    simp [World.frozen?, hg]
theorem own_six {w : World} {base g n cap : Nat} {ys : List N6} (h : OwnN w base (.slice (some ⟨g, 0, none⟩) n cap) ys) {j : Nat} (hj : j < n) : g < w.heap.size ∧
    w.cell? ⟨g, j * 6, none⟩ = some (.int .i64 (ys.getD j N6.zero).st) ∧ w.cell? ⟨g, j * 6 + 1, none⟩ = some (.int .i64 (ys.getD j N6.zero).fr) ∧ w.cell? ⟨g, j * 6 + 2, none⟩ = some (.int .i64 (ys.getD j N6.zero).to) ∧
    w.cell? ⟨g, j * 6 + 3, none⟩ = some (.int .i64 (ys.getD j N6.zero).ce) ∧ w.cell? ⟨g, j * 6 + 4, none⟩ = some (.int .i64 (ys.getD j N6.zero).di) ∧ w.cell? ⟨g, j * 6 + 5, none⟩ = some (.int .i64 (ys.getD j N6.zero).co) := by
  obtain ⟨b, o, e, h1, h2⟩ := (own_listR h).2.2.six hj
  injection e with e
  injection e with e1 e2 _
  subst e1 e2
  rw [Nat.zero_add] at h2
  exact ⟨h1, h2⟩
set_option maxRecDepth 100000 in
theorem run_clear_notes {w : World} {g o n c : Nat} (hn : 0 < n) (hc : ∀ j, j < n * 6 → (w.cell? ⟨g, o + j, none⟩).isSome = true) (hf : ∀ j, w.frozen? ⟨g, j, none⟩ = false) (ty : TypeId) :
    (Builtin.clear_ #[74] ty #[.slice (some ⟨g, o, none⟩) n c]).run Tryz.prog w = .ok (.tuple #[]) (w.setCells g o (List.replicate (n * 6) (.int .i64 0))) := by
  have hzv : (zeroValue 107).run Tryz.prog w = .ok (.agg #[.int .i64 0, .int .i64 0, .int .i64 0, .int .i64 0, .int .i64 0, .int .i64 0]) w := by kernel_rfl
  have hzc : (Builtin.zeroCells (Value.agg #[.int .i64 0, .int .i64 0, .int .i64 0, .int .i64 0, .int .i64 0, .int .i64 0]).cells n).toList = List.replicate (n * 6) (.int .i64 0) := by
    show (Builtin.zeroCells #[.int .i64 0, .int .i64 0, .int .i64 0, .int .i64 0, .int .i64 0, .int .i64 0] n).toList = _
    rw [List.eq_replicate_iff]
    refine ⟨by simp [Builtin.zeroCells], fun b hb => ?_⟩
    simp only [Builtin.zeroCells, Array.toList_map, List.mem_map] at hb
    obtain ⟨i, _, rfl⟩ := hb
    show (#[Value.int .i64 0, .int .i64 0, .int .i64 0, .int .i64 0, .int .i64 0, .int .i64 0])[i % 6]! = _
    have hm := Nat.mod_lt i (show 0 < 6 by omega)
    generalize i % 6 = k at *
    rcases (by omega : k = 0 ∨ k = 1 ∨ k = 2 ∨ k = 3 ∨ k = 4 ∨ k = 5) with rfl | rfl | rfl | rfl | rfl | rfl <;> rfl
  have hst := run_storeCells_cells (P := Tryz.prog) g o (List.replicate (n * 6) (.int .i64 0)) 0 w (by simpa using hc) (by intro j _; exact hf _) (by intro v hv'; rw [List.eq_of_mem_replicate hv']; rfl)
  simp only [Nat.add_zero] at hst
  obtain ⟨m, rfl⟩ : ∃ m, n = m + 1 := ⟨n - 1, by omega⟩
  simp [Builtin.clear_, run_underlying Tryz.underlying74, hzv, hzc, hst]
theorem own_cells {w : World} {base g n cap : Nat} {ys : List N6} (h : OwnN w base (.slice (some ⟨g, 0, none⟩) n cap) ys) : ∀ t, t < n * 6 → (w.cell? ⟨g, t, none⟩).isSome = true := fun t ht => by
  obtain ⟨hg, c0, c1, c2, c3, c4, c5⟩ := own_six h (j := t / 6) (by omega)
  have hm := Nat.mod_lt t (show 0 < 6 by omega)
  have e : t = t / 6 * 6 + t % 6 := by omega
  rcases (by omega : t % 6 = 0 ∨ t % 6 = 1 ∨ t % 6 = 2 ∨ t % 6 = 3 ∨ t % 6 = 4 ∨ t % 6 = 5) with h | h | h | h | h | h <;> rw [h] at e <;> rw [e]
  · rw [Nat.add_zero, c0]; rfl
  · rw [c1]; rfl
  · rw [c2]; rfl
  · rw [c3]; rfl
  · rw [c4]; rfl
  · rw [c5]; rfl
theorem filter_all {P : N6 → Bool} {xs : List N6} (h : ∀ k, k < xs.length → P (xs.getD k N6.zero) = false) : xs.filter (fun x => !P x) = xs := by
  refine List.filter_eq_self.2 fun x hx => ?_
  obtain ⟨k, hk, e⟩ := List.mem_iff_getElem.1 hx
  have := h k hk
  rw [List.getD_eq_getElem?_getD, List.getElem?_eq_getElem hk, Option.getD_some, e] at this
  simp [this]
theorem take_filter_succ {P : N6 → Bool} {xs : List N6} {j : Nat} (hj : j < xs.length) : (xs.take (j + 1)).filter (fun x => !P x) = if P (xs.getD j N6.zero) = true then (xs.take j).filter (fun x => !P x) else (xs.take j).filter (fun x => !P x) ++ [xs.getD j N6.zero] := by
  rw [List.take_succ_eq_append_getElem hj, List.filter_append, List.getD_eq_getElem?_getD, List.getElem?_eq_getElem hj, Option.getD_some]
  split
  · rename_i h; simp [h]
  · rename_i h; simp [h]
theorem take_filter_first {P : N6 → Bool} {xs : List N6} {k : Nat} (hk : k < xs.length) (h : ∀ j, j < k → P (xs.getD j N6.zero) = false) : (xs.take k).filter (fun x => !P x) = xs.take k := by
  refine List.filter_eq_self.2 fun x hx => ?_
  obtain ⟨j, hj, e⟩ := List.mem_iff_getElem.1 hx
  have hj2 : j < k := by rw [List.length_take] at hj; omega
  have := h j hj2
  rw [List.getD_eq_getElem?_getD, List.getElem?_eq_getElem (by omega), Option.getD_some] at this
  rw [List.getElem_take] at e
  rw [e] at this
  simp [this]
/-- what is written while the row is thinned -/
structure DelI (P : N6 → Bool) (xs ys : List N6) (i j : Nat) : Prop where
  len : ys.length = xs.length
  lt : i < j
  le : j ≤ xs.length
  kept : ys.take i = (xs.take j).filter (fun x => !P x)
  rest : ∀ t, j ≤ t → ys[t]? = xs[t]?
theorem DelI.skip {P : N6 → Bool} {xs ys : List N6} {i j : Nat} (h : DelI P xs ys i j) (hj : j < xs.length) (hp : P (xs.getD j N6.zero) = true) : DelI P xs ys i (j + 1) :=
  ⟨h.len, by have := h.lt; omega, hj, by rw [take_filter_succ hj, if_pos hp]; exact h.kept, fun t ht => h.rest t (by omega)⟩
theorem DelI.put {P : N6 → Bool} {xs ys : List N6} {i j : Nat} (h : DelI P xs ys i j) (hj : j < xs.length) (hp : P (xs.getD j N6.zero) = false) : DelI P xs (ys.set i (xs.getD j N6.zero)) (i + 1) (j + 1) := by
  have hl := h.lt
  have hn := h.len
  refine ⟨by rw [List.length_set]; exact h.len, by omega, hj, ?_, fun t ht => ?_⟩
  · rw [take_filter_succ hj, if_neg (by rw [hp]; decide), ← h.kept, List.take_add_one, List.getElem?_set_self (by omega), List.take_set, List.set_eq_of_length_le (by rw [List.length_take]; omega)]
    rfl
  · rw [List.getElem?_set_ne (by omega)]
    exact h.rest t (by omega)
set_option maxRecDepth 100000 in
set_option maxHeartbeats 4000000 in
theorem notes_DeleteFunc (P : N6 → Bool) (gf : Nat) (cb : Array Value) (v : Value) (xs : List N6) (base : Nat) (w : World) (hx : xs.length ≤ 1000000) (hbw : base ≤ w.heap.size) (h : OwnN w base v xs)
    (hp : ∀ x, x ∈ xs → ∀ W, Below base w W → Calls Tryz.prog gf (#[.agg #[.int .i64 x.st, .int .i64 x.fr, .int .i64 x.to, .int .i64 x.ce, .int .i64 x.di, .int .i64 x.co]] ++ cb) W fun e w' => e = .returned (.bool (P x)) ∧ Below W.heap.size W w') (eg : ∀ args w, (callFunc gf args).run Tryz.prog w = .ok (.enter gf args) w) :
    Calls Tryz.prog 106 #[v, .func (.func gf) #[] cb] w fun e w' => ∃ v', e = .returned v' ∧ OwnN w' base v' (xs.filter fun x => !P x) ∧ Below base w w' := by
  obtain ⟨pv, cv, rfl, ⟨_, hcv, SX⟩⟩ := listR_of_own h
  have hmem : ∀ k, k < xs.length → xs.getD k N6.zero ∈ xs := fun k hk => by
    rw [List.getD_eq_getElem?_getD, List.getElem?_eq_getElem hk]; exact List.getElem_mem _
  have hix := notes_IndexFirst P gf cb pv xs.length cv (fun k => xs.getD k N6.zero) w (by omega) SX (fun k hk W hW => hp _ (hmem k hk) W (hW.mono hbw)) eg
  have HP := hid hp; have HM := hid hmem
  clear hp hmem SX
  go_enter Tryz.func106, Tryz.ntmps106
  go_wp2_with fail
  refine hix.mono ?_
  rintro e w1 ⟨r, rfl, hr, hb1⟩
  have h1 := own_below h hb1
  have hB1 := hb1.mono hbw
  clear hix hb1 h
  rcases hr with ⟨rfl, hno⟩ | ⟨k, hk, rfl, hyes, hbef⟩
  · have hf := filter_all hno
    have HF := hid hf
    clear hf hno
    go_wp2
    go_ret
    rw [HF.out]
    exact ⟨_, rfl, h1, hB1⟩
  · have hD : DelI P xs xs k (k + 1) := ⟨rfl, by omega, by omega, by rw [take_filter_succ hk, if_pos hyes, take_filter_first hk hbef], fun _ _ => rfl⟩
    have hkm : ((k : Int) == -1) = false := by
      rw [beq_eq_false_iff_ne]; omega
    obtain ⟨g, rfl⟩ : ∃ g, pv = some ⟨g, 0, none⟩ := by
      rcases h1.2 with ⟨e0, h0⟩ | ⟨g, cap, cur, e0, _⟩
      · omega
      · injection e0 with e0 _ _; exact ⟨g, e0⟩
    have hgb : base ≤ g := own_base h1 g rfl
    clear hyes hbef
    go_wp2
    go_loopw [5, 6] (fun a b wr => ∃ (i j : Nat) (ys : List N6), a = .int .i64 i ∧ b = .int .i64 j ∧ DelI P xs ys i j ∧ OwnN wr base (.slice (some ⟨g, 0, none⟩) xs.length cv) ys ∧ Below base w wr) (fun _ b _ => xs.length - (intOf b).toNat)
    case atStart => exact ⟨k, k + 1, xs, rfl, by go_num, hD, h1, hB1⟩
    case round =>
      clear hD h1 hB1 hkm hk
      obtain ⟨i, j, ys, rfl, rfl, hD, hown, hB⟩ := hrel
      obtain ⟨hl1, hl2, hl3⟩ := (show ys.length = xs.length ∧ i < j ∧ j ≤ xs.length from ⟨hD.len, hD.lt, hD.le⟩)
      have HL := hid hl1
      clear hl1
      by_cases hlt : j < xs.length
      · have hyx : ys.getD j N6.zero = xs.getD j N6.zero := by rw [List.getD_eq_getElem?_getD, List.getD_eq_getElem?_getD, hD.rest j (Nat.le_refl _)]
        obtain ⟨hg, k0, k1, k2, k3, k4, k5⟩ := own_six hown hlt
        rw [hyx] at k0 k1 k2 k3 k4 k5
        have hcall := HP.out _ (HM.out j hlt)
        have hsk := hD.skip hlt; have hpu := hD.put hlt
        have HSK := hid hsk; have HPU := hid hpu
        clear hsk hpu hD hyx
        generalize xs.getD j N6.zero = x at *
        have X0 := Bx.new wr #[.int .i64 x.st, .int .i64 x.fr, .int .i64 x.to, .int .i64 x.ce, .int .i64 x.di, .int .i64 x.co] 107
        have hbs := hB.size
        have hal := below_alloc wr (.cells #[.int .i64 x.st, .int .i64 x.fr, .int .i64 x.to, .int .i64 x.ce, .int .i64 x.di, .int .i64 x.co] 107)
        have hown5 := own_below hown hal
        have hB5 : Below base w _ := hB.trans (hal.mono (show base ≤ wr.heap.size by omega))
        have hcall5 := hcall _ hB5
        clear hcall hown
        go_wp2_with fail
        generalize wr.alloc (.cells #[.int .i64 x.st, .int .i64 x.fr, .int .i64 x.to, .int .i64 x.ce, .int .i64 x.di, .int .i64 x.co] 107) = w5 at *
        refine hcall5.mono ?_
        rintro e w6 ⟨rfl, hb6⟩
        have X6 := X0.below hb6
        have hown6 : OwnN w6 base _ ys := own_below hown5 hb6
        have hB6 : Below base w w6 := hB5.trans (hb6.mono (by have := hB5.size; omega))
        clear hcall5 hown5 hB5 k0 k1 k2 k3 k4 k5 X0 hal
        cases hv : P x
        · have x0 := X6.at_ 0 rfl; have x1 := X6.at_ 1 rfl; have x2 := X6.at_ 2 rfl; have x3 := X6.at_ 3 rfl; have x4 := X6.at_ 4 rfl; have x5 := X6.at_ 5 rfl; have lx := X6.lt
          obtain ⟨hg6, k0, k1, k2, k3, k4, k5⟩ := own_six hown6 (show i < xs.length by omega)
          have fg := own_free hown6
          have hset := ownN_set hown6 HL.out.symm (i := i) (by have := HL.out; omega) x
          have hDn := HPU.out hv
          have HD := hid hDn
          clear hDn
          generalize ys.getD i N6.zero = y at *
          go_wp2_with fail
          go_roundw
          case rel => exact ⟨i + 1, j + 1, _, by go_num, by go_num, HD.out, hset, by (repeat' (first | with_reducible assumption | with_reducible exact Below.refl _ _ | with_reducible refine Below.drew ?_ | with_reducible refine below_drewN ?_ _ | with_reducible refine balloc ?_ _ | with_reducible refine bset ?_ ?_ _ | with_reducible refine Below.setCell ?_ ?_ _ | with_reducible refine Below.alloc ?_ ?_ _ | omega | (simp; done) | (simp; omega)))⟩
          case measure => simp [intOf]; omega
        · have hDn := HSK.out hv
          have HD := hid hDn
          clear hDn
          go_wp2_with fail
          go_roundw
          case rel => exact ⟨i, j + 1, _, rfl, by go_num, HD.out, hown6, hB6⟩
          case measure => simp [intOf]; omega
      · have hj : j = xs.length := by omega
        have hk := hD.kept
        rw [hj, List.take_length] at hk
        have hir : i < xs.length := by omega
        have hne : ¬ cv = i := by omega
        have hsl : ∀ w, (Instr.slice 74 (.slice (some ⟨g, 0, none⟩) xs.length cv) (some (.int .i64 (i : Int))) none none).run Tryz.prog w = .ok (.slice (some ⟨g, i * 6, none⟩) (xs.length - i) (cv - i)) w := fun w => by
          rw [notes_slice_from _ _ _ _ (by omega), if_neg hne, Option.map_some, addrAdd, Nat.zero_add]
        have hsl2 : ∀ w, (Instr.slice 74 (.slice (some ⟨g, 0, none⟩) xs.length cv) none (some (.int .i64 (i : Int))) none).run Tryz.prog w = .ok (.slice (some ⟨g, 0, none⟩) i cv) w := fun w => by
          rw [notes_slice_to _ _ _ _ (by omega), if_neg (by omega), Option.map_some, addrAdd]
        have hcl := run_clear_notes (w := wr) (g := g) (o := i * 6) (n := xs.length - i) (c := cv - i) (by omega) (fun t ht => own_cells hown _ (by omega)) (own_free hown)
        have hcut := ownN_cut hown (i := i) (by have := HL.out; omega) (List.replicate ((xs.length - i) * 6) (.int .i64 0)) (i * 6) (Nat.le_refl _)
        have hbc := below_setCells hgb (List.replicate ((xs.length - i) * 6) (.int .i64 0)) (i * 6) wr hB
        rw [hk] at hcut
        have HC := hid hcut; have HB := hid hbc
        clear hk hD hcut hbc hj
        generalize List.replicate ((xs.length - i) * 6) (Value.int .i64 0) = zs at *
        go_wp2
        go_ret
        exact ⟨_, rfl, HC.out, HB.out⟩
end Go.Proofs.YtjkngkogddmceaaGreat
