/- Walk: Sorted, of the reference (two sorted halves put together). -/
import Derived.Test.YtmmjaobpoiofdaaGreatNSortP
import Derived.Test.YtmmjaobpoiofdaaGreatSeq
import Derived.Test.YtmmjaobpoiofdaaGreatCRow
import Derived.Laws.AppendOwnNone
import Derived.Deep.Cut
namespace Go.Proofs.YtmmjaobpoiofdaaGreat
open Go Go.RowKit
set_option linter.unusedVariables false
set_option linter.unusedSimpArgs false
/-- two sorted lists are being put together -/
structure MrgI (l out a b : List N6) : Prop where
  perm : (out ++ (a ++ b)).Perm l
  oa : OrdN a
  ob : OrdN b
  oo : OrdN out
  le : ∀ x ∈ out, ∀ y, y ∈ a ∨ y ∈ b → befN y x = false
theorem MrgI.swap {l out a b : List N6} (h : MrgI l out a b) : MrgI l out b a :=
  ⟨((List.perm_append_comm).append_left out).trans h.perm, h.ob, h.oa, h.oo, fun x hx y hy => h.le x hx y hy.symm⟩
theorem MrgI.step {l out a b : List N6} {x : N6} (h : MrgI l out (x :: a) b) (hb : ∀ y, b.head? = some y → befN y x = false) : MrgI l (out ++ [x]) a b := by
  obtain ⟨ha1, ha2⟩ := List.pairwise_cons.1 h.oa
  refine ⟨?_, ha2, h.ob, ?_, ?_⟩
  · have := h.perm
    simpa using this
  · refine List.pairwise_append.2 ⟨h.oo, List.pairwise_singleton _ _, fun u hu v hv => ?_⟩
    rw [List.mem_singleton.1 hv]
    exact h.le u hu x (.inl (List.mem_cons_self ..))
  · intro u hu y hy
    rcases List.mem_append.1 hu with hu | hu
    · exact h.le u hu y (hy.imp (List.mem_cons_of_mem _) id)
    · rw [List.mem_singleton.1 hu]
      rcases hy with hy | hy
      · exact ha1 y hy
      · cases b with
        | nil => cases hy
        | cons z b =>
          have hz := hb z rfl
          rcases List.mem_cons.1 hy with rfl | hy
          · exact hz
          · exact befN_ntrans ((List.pairwise_cons.1 h.ob).1 y hy) hz
theorem MrgI.done {l out : List N6} (h : MrgI l out [] []) : out = sortN l := sortN_eq (by simpa using h.perm) h.oo
theorem MrgI.start {l a b : List N6} (h : l = a ++ b) : MrgI l [] (sortN a) (sortN b) :=
  ⟨by rw [h]; exact (sortN_perm a).append (sortN_perm b), sortN_ord a, sortN_ord b, List.Pairwise.nil, fun x hx => by cases hx⟩
theorem MrgI.len {l out a b : List N6} (h : MrgI l out a b) : out.length + a.length + b.length = l.length := by
  have := h.perm.length_eq
  simp at this; omega
/-- a slice that reads as a list -/
def ListR (W : World) (p : Option Addr) (n c : Nat) (A : List N6) : Prop := A.length = n ∧ n ≤ c ∧ Sn W p n (fun k => A.getD k N6.zero)
theorem Sn.from {w : World} {a : Option Addr} {n c l : Nat} {p : Nat → N6} (h : Sn w a n p) (hc : n ≤ c) : Sn w (if c = l then a else a.map (·.add (l * 6))) (n - l) (fun k => p (l + k)) := fun k hk => by
  obtain ⟨b, off, rfl, h2, h3⟩ := h (l + k) (by omega)
  rw [if_neg (by omega)]
  refine ⟨b, off + l * 6, ?_, h2, fun j hj => ?_⟩
  · rw [Option.map_some, addrAdd]
  · rw [← h3 j hj]; congr 2; omega
theorem Sn.to {w : World} {a : Option Addr} {n c l : Nat} {p : Nat → N6} (h : Sn w a n p) (hl : l ≤ n) : Sn w (if c = 0 then a else a.map (·.add (0 * 6))) l p := fun k hk => by
  obtain ⟨b, off, rfl, h2, h3⟩ := h k (by omega)
  refine ⟨b, off, ?_, h2, h3⟩
  split
  · rfl
  · rw [Nat.zero_mul, Option.map_some, addrAdd]; rfl
theorem ListR.tail {W : World} {p : Option Addr} {n c : Nat} {x : N6} {A : List N6} (h : ListR W p n c (x :: A)) : ListR W (if c = 1 then p else p.map (·.add (1 * 6))) (n - 1) (c - 1) A := by
  obtain ⟨h1, h2, h4⟩ := h
  refine ⟨by rw [← h1]; rfl, by omega, ?_⟩
  refine (Sn.from (l := 1) h4 h2).congr fun k hk => ?_
  show (x :: A).getD (1 + k) N6.zero = _
  rw [Nat.add_comm]; rfl
theorem ListR.below {W W' : World} {p : Option Addr} {n c : Nat} {A : List N6} (h : ListR W p n c A) (hb : Below W.heap.size W W') : ListR W' p n c A := ⟨h.1, h.2.1, h.2.2.below hb⟩
theorem notes_slice_from (a : Option Addr) (n c l : Nat) (h : l ≤ n) (w : World) : (Instr.slice 31 (.slice a n c) (some (.int .i64 (l : Int))) none none).run Tryz.prog w = .ok (.slice (if c = l then a else a.map (·.add (l * 6))) (n - l) (c - l)) w := by
  rw [run_slice_l w 31 a n c (by kernel_rfl) .i64 (l : Int) (by omega) (by omega)]
  have hz : (sizeOf (Tryz.prog.elem 31)).run Tryz.prog w = .ok 6 w := by kernel_rfl
  rw [hz]
  rfl
theorem notes_slice_to (a : Option Addr) (n c l : Nat) (h : l ≤ c) (w : World) : (Instr.slice 31 (.slice a n c) none (some (.int .i64 (l : Int))) none).run Tryz.prog w = .ok (.slice (if c = 0 then a else a.map (·.add (0 * 6))) l c) w := by
  rw [run_slice_h w 31 a n c (by kernel_rfl) .i64 (l : Int) (by omega) (by omega)]
  have hz : (sizeOf (Tryz.prog.elem 31)).run Tryz.prog w = .ok 6 w := by kernel_rfl
  rw [hz]
  rfl
set_option maxRecDepth 100000 in
set_option maxHeartbeats 1000000 in
theorem ref5_numbers (x : N6) (w : World) : Calls Tryz.prog 97 #[.agg #[.int .i64 x.st, .int .i64 x.fr, .int .i64 x.to, .int .i64 x.ce, .int .i64 x.di, .int .i64 x.co]] w
    fun e w' => ∃ g, e = .returned (.slice (some ⟨g, 0, none⟩) 6 6) ∧ Sl w' (some ⟨g, 0, none⟩) 6 (fun k => (keyN x).getD k 0) ∧ Below w.heap.size w w' := by
  have X := Bx.newE (W := w.alloc (.cells #[.int .i64 x.st, .int .i64 x.fr, .int .i64 x.to, .int .i64 x.ce, .int .i64 x.di, .int .i64 x.co] 78)) (b := w.heap.size + 1) (by simp) #[.int .i64 x.st, .int .i64 x.to, .int .i64 x.ce, .int .i64 x.di, .int .i64 x.fr, .int .i64 x.co] 3
  have HX := hid X
  clear X
  go_enter Tryz.func97, Tryz.ntmps97
  go_wp2
  go_ret
  have X := HX.out
  refine ⟨_, rfl, fun k hk => ⟨_, 0, rfl, X.lt, ?_⟩, by (repeat' (first | with_reducible assumption | with_reducible exact Below.refl _ _ | with_reducible refine Below.drew ?_ | with_reducible refine below_drewN ?_ _ | with_reducible refine balloc ?_ _ | with_reducible refine bset ?_ ?_ _ | with_reducible refine Below.setCell ?_ ?_ _ | with_reducible refine Below.alloc ?_ ?_ _ | omega | (simp; done) | (simp; omega)))⟩
  rw [Nat.zero_add]
  rcases (by omega : k = 0 ∨ k = 1 ∨ k = 2 ∨ k = 3 ∨ k = 4 ∨ k = 5) with rfl | rfl | rfl | rfl | rfl | rfl
  · exact X.at_ 0 rfl
  · exact X.at_ 1 rfl
  · exact X.at_ 2 rfl
  · exact X.at_ 3 rfl
  · exact X.at_ 4 rfl
  · exact X.at_ 5 rfl
theorem befN_at {x y : N6} {k : Nat} (h : ∀ j, j < k → (keyN x).getD j 0 = (keyN y).getD j 0) (hk : k < 6) (hne : (keyN x).getD k 0 ≠ (keyN y).getD k 0) : befN x y = decide ((keyN x).getD k 0 < (keyN y).getD k 0) := by
  have key : ∀ (l m : List Int) (k : Nat), l.length = m.length → k < l.length → (∀ j, j < k → l.getD j 0 = m.getD j 0) → l.getD k 0 ≠ m.getD k 0 → lexL l m = decide (l.getD k 0 < m.getD k 0) := by
    intro l
    induction l with
    | nil => intro m k _ hk; simp at hk
    | cons a l ih =>
      intro m k hl hk hj hn
      cases m with
      | nil => simp at hl
      | cons b m =>
        cases k with
        | zero =>
          have hn' : a ≠ b := hn
          simp only [lexL, if_neg hn']
          rfl
        | succ k =>
          have h0 : a = b := hj 0 (by omega)
          simp only [lexL, if_pos h0]
          exact ih m k (by simpa using hl) (by simpa using hk) (fun j hj' => hj (j + 1) (by omega)) hn
  exact key (keyN x) (keyN y) k rfl (by simpa [keyN] using hk) h hne
theorem befN_all {x y : N6} (h : ∀ j, j < 6 → (keyN x).getD j 0 = (keyN y).getD j 0) : befN x y = false := by
  have : x = y := by
    have h0 := h 0 (by omega); have h1 := h 1 (by omega); have h2 := h 2 (by omega); have h3 := h 3 (by omega); have h4 := h 4 (by omega); have h5 := h 5 (by omega)
    simp [keyN] at h0 h1 h2 h3 h4 h5
    cases x; cases y; simp_all
  rw [this]; exact befN_irrefl y
set_option maxRecDepth 100000 in
set_option maxHeartbeats 4000000 in
theorem ref5_before (x y : N6) (w : World) : Calls Tryz.prog 48 #[.agg #[.int .i64 x.st, .int .i64 x.fr, .int .i64 x.to, .int .i64 x.ce, .int .i64 x.di, .int .i64 x.co], .agg #[.int .i64 y.st, .int .i64 y.fr, .int .i64 y.to, .int .i64 y.ce, .int .i64 y.di, .int .i64 y.co]] w
    fun e w' => e = .returned (.bool (befN x y)) ∧ Below w.heap.size w w' := by
  have XA := (Bx.new w #[.int .i64 x.st, .int .i64 x.fr, .int .i64 x.to, .int .i64 x.ce, .int .i64 x.di, .int .i64 x.co] 78).alloc (.cells #[.int .i64 y.st, .int .i64 y.fr, .int .i64 y.to, .int .i64 y.ce, .int .i64 y.di, .int .i64 y.co] 78)
  have XB := Bx.new (w.alloc (.cells #[.int .i64 x.st, .int .i64 x.fr, .int .i64 x.to, .int .i64 x.ce, .int .i64 x.di, .int .i64 x.co] 78)) #[.int .i64 y.st, .int .i64 y.fr, .int .i64 y.to, .int .i64 y.ce, .int .i64 y.di, .int .i64 y.co] 78
  rw [World.size_alloc] at XB
  have hB2 : Below w.heap.size w ((w.alloc (.cells #[.int .i64 x.st, .int .i64 x.fr, .int .i64 x.to, .int .i64 x.ce, .int .i64 x.di, .int .i64 x.co] 78)).alloc (.cells #[.int .i64 y.st, .int .i64 y.fr, .int .i64 y.to, .int .i64 y.ce, .int .i64 y.di, .int .i64 y.co] 78)) := by (repeat' (first | with_reducible assumption | with_reducible exact Below.refl _ _ | with_reducible refine Below.drew ?_ | with_reducible refine below_drewN ?_ _ | with_reducible refine balloc ?_ _ | with_reducible refine bset ?_ ?_ _ | with_reducible refine Below.setCell ?_ ?_ _ | with_reducible refine Below.alloc ?_ ?_ _ | omega | (simp; done) | (simp; omega)))
  go_enter Tryz.func48, Tryz.ntmps48
  go_upto_region 1 with (fail)
  generalize (w.alloc (.cells #[.int .i64 x.st, .int .i64 x.fr, .int .i64 x.to, .int .i64 x.ce, .int .i64 x.di, .int .i64 x.co] 78)).alloc (.cells #[.int .i64 y.st, .int .i64 y.fr, .int .i64 y.to, .int .i64 y.ce, .int .i64 y.di, .int .i64 y.co] 78) = W2 at *
  have r0 : ∀ Y, Below W2.heap.size W2 Y → Y.cell? ⟨w.heap.size, 0, none⟩ = some (.int .i64 x.st) := fun Y h => (XA.below h).at_ 0 rfl
  have r1 : ∀ Y, Below W2.heap.size W2 Y → Y.cell? ⟨w.heap.size, 1, none⟩ = some (.int .i64 x.fr) := fun Y h => (XA.below h).at_ 1 rfl
  have r2 : ∀ Y, Below W2.heap.size W2 Y → Y.cell? ⟨w.heap.size, 2, none⟩ = some (.int .i64 x.to) := fun Y h => (XA.below h).at_ 2 rfl
  have r3 : ∀ Y, Below W2.heap.size W2 Y → Y.cell? ⟨w.heap.size, 3, none⟩ = some (.int .i64 x.ce) := fun Y h => (XA.below h).at_ 3 rfl
  have r4 : ∀ Y, Below W2.heap.size W2 Y → Y.cell? ⟨w.heap.size, 4, none⟩ = some (.int .i64 x.di) := fun Y h => (XA.below h).at_ 4 rfl
  have r5 : ∀ Y, Below W2.heap.size W2 Y → Y.cell? ⟨w.heap.size, 5, none⟩ = some (.int .i64 x.co) := fun Y h => (XA.below h).at_ 5 rfl
  have s0 : ∀ Y, Below W2.heap.size W2 Y → Y.cell? ⟨w.heap.size + 1, 0, none⟩ = some (.int .i64 y.st) := fun Y h => (XB.below h).at_ 0 rfl
  have s1 : ∀ Y, Below W2.heap.size W2 Y → Y.cell? ⟨w.heap.size + 1, 1, none⟩ = some (.int .i64 y.fr) := fun Y h => (XB.below h).at_ 1 rfl
  have s2 : ∀ Y, Below W2.heap.size W2 Y → Y.cell? ⟨w.heap.size + 1, 2, none⟩ = some (.int .i64 y.to) := fun Y h => (XB.below h).at_ 2 rfl
  have s3 : ∀ Y, Below W2.heap.size W2 Y → Y.cell? ⟨w.heap.size + 1, 3, none⟩ = some (.int .i64 y.ce) := fun Y h => (XB.below h).at_ 3 rfl
  have s4 : ∀ Y, Below W2.heap.size W2 Y → Y.cell? ⟨w.heap.size + 1, 4, none⟩ = some (.int .i64 y.di) := fun Y h => (XB.below h).at_ 4 rfl
  have s5 : ∀ Y, Below W2.heap.size W2 Y → Y.cell? ⟨w.heap.size + 1, 5, none⟩ = some (.int .i64 y.co) := fun Y h => (XB.below h).at_ 5 rfl
  clear XA XB
  have hall := befN_all (x := x) (y := y)
  have hat := fun k h hk hne => befN_at (x := x) (y := y) (k := k) h hk hne
  have q0 := fun V => ref5_numbers x V
  have q1 := fun V => ref5_numbers y V
  refine wp_region_S (fun Y => Below W2.heap.size W2 Y) 6 (by kernel_rfl) ?_
  refine anyS_take (i := 0) rfl (by kernel_rfl) (fun _ _ _ h => h) (Or.inl ⟨by rfl, fun Y hYb => (by (try dsimp only at hYb); go_simp; rfl)⟩) (by repeat' (first | with_reducible assumption | with_reducible exact Below.refl _ _ | with_reducible refine Below.drew ?_ | with_reducible refine below_drewN ?_ _)) ?_
  simp only [List.getElem_toArray, List.getElem_cons_succ, List.getElem_cons_zero, Act.put, List.setIfInBounds_toArray, List.set_cons_zero, List.set_cons_succ]
  refine anyS_take (i := 2) rfl (by kernel_rfl) (fun _ _ _ h => h) (Or.inl ⟨by rfl, fun Y hYb => (by (try dsimp only at hYb); go_simp; rfl)⟩) (by repeat' (first | with_reducible assumption | with_reducible exact Below.refl _ _ | with_reducible refine Below.drew ?_ | with_reducible refine below_drewN ?_ _)) ?_
  simp only [List.getElem_toArray, List.getElem_cons_succ, List.getElem_cons_zero, Act.put, List.setIfInBounds_toArray, List.set_cons_zero, List.set_cons_succ]
  refine anyS_one (i := 1) (by kernel_rfl) rfl (by rfl) (fun K hK => ?_)
  go_simp
  refine (q0 _).mono ?_
  rintro e v1 ⟨g1, rfl, S1, hb1⟩
  dsimp only
  have hS1 : Below W2.heap.size W2 v1 := bvia (by (repeat' (first | with_reducible assumption | with_reducible exact Below.refl _ _ | with_reducible refine Below.drew ?_ | with_reducible refine below_drewN ?_ _ | with_reducible refine balloc ?_ _ | with_reducible refine bset ?_ ?_ _ | with_reducible refine Below.setCell ?_ ?_ _ | with_reducible refine Below.alloc ?_ ?_ _ | omega | (simp; done) | (simp; omega)))) hb1
  refine hK _ _ (fun _ _ => hS1) ?_
  clear hK K hb1
  refine anyS_one (i := 3) (by kernel_rfl) rfl (by rfl) (fun K hK => ?_)
  go_simp
  refine (q1 _).mono ?_
  rintro e v3 ⟨g3, rfl, S3, hb3⟩
  dsimp only
  have hS3 : Below W2.heap.size W2 v3 := bvia hS1 hb3
  replace S1 := S1.below hb3
  refine hK _ _ (fun _ _ => hS3) ?_
  clear hK K hb3 hS1
  refine anyS_take (i := 4) rfl (by kernel_rfl) (fun _ _ _ h => h) (Or.inl ⟨by rfl, fun Y hYb => (by (try dsimp only at hYb); go_simp; rfl)⟩) (by repeat' (first | with_reducible assumption | with_reducible exact Below.refl _ _ | with_reducible refine Below.drew ?_ | with_reducible refine below_drewN ?_ _)) ?_
  simp only [List.getElem_toArray, List.getElem_cons_succ, List.getElem_cons_zero, Act.put, List.setIfInBounds_toArray, List.set_cons_zero, List.set_cons_succ]
  refine anyS_take (i := 5) rfl (by kernel_rfl) (fun _ _ _ h => h) (Or.inl ⟨by rfl, fun Y hYb => (by (try dsimp only at hYb); go_simp; rfl)⟩) (by repeat' (first | with_reducible assumption | with_reducible exact Below.refl _ _ | with_reducible refine Below.drew ?_ | with_reducible refine below_drewN ?_ _)) ?_
  simp only [List.getElem_toArray, List.getElem_cons_succ, List.getElem_cons_zero, Act.put, List.setIfInBounds_toArray, List.set_cons_zero, List.set_cons_succ]
  refine anyS_done (by kernel_rfl) ?_ _
  clear r0 r1 r2 r3 r4 r5 s0 s1 s2 s3 s4 s5 q0 q1
  have hB3 := bvia hB2 hS3
  clear hB2 hS3
  have HALL := hid hall; have HAT := hid hat
  clear hall hat
  go_wp2
  go_loopw [7] (fun i wr => ∃ k : Nat, k ≤ 6 ∧ i = .int .i64 k ∧ (∀ j, j < k → (keyN x).getD j 0 = (keyN y).getD j 0) ∧ Below v3.heap.size v3 wr) (fun i _ => 6 - (intOf i).toNat)
  case atStart => exact ⟨0, Nat.zero_le _, rfl, fun j hj => by omega, Below.refl _ _⟩
  case round =>
    obtain ⟨k, hk, rfl, hok, hB⟩ := hrel
    have HOK := hid hok; clear hok
    by_cases hlt : k < 6
    · obtain ⟨b1, o1, e1, hb1, c1⟩ := (S1.below hB) k hlt
      obtain ⟨b2, o2, e2, hb2, c2⟩ := (S3.below hB) k hlt
      injection e1 with e1; injection e1 with e11 e12
      injection e2 with e2; injection e2 with e21 e22
      subst e11 e12 e21 e22
      rw [Nat.zero_add] at c1 c2
      dsimp only at c1 c2
      have hat := fun hne => HAT.out k HOK.out hlt hne
      have hst : (keyN x).getD k 0 = (keyN y).getD k 0 → ∀ j, j < k + 1 → (keyN x).getD j 0 = (keyN y).getD j 0 := fun h j hj => by
        rcases Nat.lt_succ_iff_lt_or_eq.1 hj with h' | rfl
        · exact HOK.out j h'
        · exact h
      have HA2 := hid hat; have HST := hid hst
      clear hat hst
      generalize (keyN x).getD k 0 = u1 at *
      generalize (keyN y).getD k 0 = u2 at *
      cases he : (u1 != u2)
      · have he' : u1 = u2 := by simpa using he
        have HE := hid he'; clear he'
        go_wp2
        go_quiet (fail)
        go_wp2
        go_roundw
        case rel => exact ⟨k + 1, by omega, by go_num, HST.out HE.out, by (repeat' (first | with_reducible assumption | with_reducible exact Below.refl _ _ | with_reducible refine Below.drew ?_ | with_reducible refine below_drewN ?_ _ | with_reducible refine balloc ?_ _ | with_reducible refine bset ?_ ?_ _ | with_reducible refine Below.setCell ?_ ?_ _ | with_reducible refine Below.alloc ?_ ?_ _ | omega | (simp; done) | (simp; omega)))⟩
        case measure => simp [intOf]; omega
      · have he' : u1 ≠ u2 := by simpa using he
        have HE := hid he'; clear he'
        go_wp2
        go_quiet (fail)
        go_wp2
        go_quiet (fail)
        go_wp2
        go_ret
        rw [HA2.out HE.out]
        exact ⟨rfl, bvia hB3 (by (repeat' (first | with_reducible assumption | with_reducible exact Below.refl _ _ | with_reducible refine Below.drew ?_ | with_reducible refine below_drewN ?_ _ | with_reducible refine balloc ?_ _ | with_reducible refine bset ?_ ?_ _ | with_reducible refine Below.setCell ?_ ?_ _ | with_reducible refine Below.alloc ?_ ?_ _ | omega | (simp; done) | (simp; omega))))⟩
    · obtain rfl : k = 6 := (by omega)
      have hbb := HALL.out HOK.out
      have HBB := hid hbb; clear hbb
      go_wp2
      go_ret
      rw [HBB.out]
      exact ⟨rfl, bvia hB3 hB⟩
theorem ListR.cons {W : World} {p : Option Addr} {n c : Nat} {A : List N6} (h : ListR W p n c A) (hn : 0 < n) : ∃ x T, A = x :: T := by
  cases A with
  | nil => have := h.1; simp at this; omega
  | cons x T => exact ⟨x, T, rfl⟩
theorem ListR.nil {W : World} {p : Option Addr} {n c : Nat} {A : List N6} (h : ListR W p n c A) (hn : n = 0) : A = [] := List.length_eq_zero_iff.1 (h.1.trans hn)
theorem ListR.head {W : World} {p : Option Addr} {n c : Nat} {x : N6} {A : List N6} (h : ListR W p n c (x :: A)) (hn : 0 < n) : ∃ b off, p = some ⟨b, off, none⟩ ∧ b < W.heap.size ∧
    W.cell? ⟨b, off, none⟩ = some (.int .i64 x.st) ∧ W.cell? ⟨b, off + 1, none⟩ = some (.int .i64 x.fr) ∧ W.cell? ⟨b, off + 2, none⟩ = some (.int .i64 x.to) ∧
    W.cell? ⟨b, off + 3, none⟩ = some (.int .i64 x.ce) ∧ W.cell? ⟨b, off + 4, none⟩ = some (.int .i64 x.di) ∧ W.cell? ⟨b, off + 5, none⟩ = some (.int .i64 x.co) := by
  obtain ⟨b, off, h1, h2, h3⟩ := h.2.2.six hn
  rw [Nat.zero_mul, Nat.add_zero] at h3
  exact ⟨b, off, h1, h2, h3⟩
theorem listR_of_own {w : World} {base : Nat} {v : Value} {xs : List N6} (h : OwnN w base v xs) : ∃ p c, v = .slice p xs.length c ∧ ListR w p xs.length c xs := by
  obtain ⟨a, c, rfl, hs⟩ := sn_of_own h
  refine ⟨a, c, rfl, rfl, ?_, hs⟩
  rcases h.2 with ⟨e, h0⟩ | ⟨g, cap, cur, e, hb, hh, hn, hm, hc, ht⟩
  · omega
  · injection e with _ _ e3
    omega
theorem sortN_small {l : List N6} (h : l.length < 2) : sortN l = l := by
  refine sortN_ord_eq ?_
  match l, h with
  | [], _ => exact List.Pairwise.nil
  | [x], _ => exact List.pairwise_singleton _ _
  | x :: y :: l, h => simp at h; omega
theorem lstN_split (p : Nat → N6) (n : Nat) {k : Nat} (hk : k ≤ n) : lstN p n = lstN p k ++ lstN (fun j => p (k + j)) (n - k) := by
  unfold lstN
  obtain ⟨d, rfl⟩ : ∃ d, n = k + d := ⟨n - k, by omega⟩
  rw [show k + d - k = d by omega, List.range_add, List.map_append, List.map_map]
  rfl
def lenV : Value → Nat | .slice _ n _ => n | _ => 0
set_option maxRecDepth 100000 in
set_option maxHeartbeats 2000000 in
theorem ref5_SortedS (a : Option Addr) (n c : Nat) (p : Nat → N6) (w : World) (h2 : n < 2) (hac : a = none → c = 0) (H : Sn w a n p) :
    Calls Tryz.prog 17 #[.slice a n c] w fun e w' => ∃ v, e = .returned v ∧ OwnN w' w.heap.size v (sortN (lstN p n)) ∧ Below w.heap.size w w' := by
  obtain ⟨i0, hi, hz0, hz1, hz2⟩ := info_parts infoN
  rw [sortN_small (by rw [lstN_length]; exact h2)]
  have hown0 : (w.alloc (.cells #[] 78)).ownsRow w.heap.size 78 6 (.slice (some ⟨w.heap.size, 0, none⟩) 0 0) 0 [] := World.ownsRow_lit w #[] 0 (Nat.le_refl _) (by simp [maxLen]) rfl
  cases a with
  | none =>
    obtain rfl : n = 0 := by
      rcases Nat.eq_zero_or_pos n with h | h
      · exact h
      · obtain ⟨b, off, e, _⟩ := H 0 h; cases e
    obtain rfl : c = 0 := hac rfl
    clear hac H
    go_enter Tryz.func17, Tryz.ntmps17
    go_wp2_with (at_builtin; refine wpList_append_own_none rfl _ _ 31 rfl w.heap.size 78 i0 6 Tryz.underlying31 hi _ _ _ rfl hown0 rfl ?_)
    go_ret
    exact ⟨_, rfl, hown0, by (repeat' (first | with_reducible assumption | with_reducible exact Below.refl _ _ | with_reducible refine Below.drew ?_ | with_reducible refine below_drewN ?_ _ | with_reducible refine balloc ?_ _ | with_reducible refine bset ?_ ?_ _ | with_reducible refine Below.setCell ?_ ?_ _ | with_reducible refine Below.alloc ?_ ?_ _ | omega | (simp; done) | (simp; omega)))⟩
  | some ad =>
    have hrow : ∀ j u, (flatN (lstN p n))[j]? = some u → (w.alloc (.cells #[] 78)).cell? (ad.add j) = some u := by
      rcases Nat.eq_zero_or_pos n with h | h
      · subst h
        intro j u hu
        simp [lstN, flatN] at hu
      · obtain ⟨b, off, e, _⟩ := H 0 h
        injection e with e
        subst e
        exact sn_row (H.alloc _)
    have HN := hid hrow
    have hfl : (flatN (lstN p n)).length = n * 6 := by rw [flatN_length, lstN_length]
    have hone := flatN_one (lstN p n)
    have h20 : (n : Int) < 2 := by omega
    clear hrow hac
    go_enter Tryz.func17, Tryz.ntmps17
    go_wp2_with (at_builtin; refine wpList_append_own_at _ rfl _ _ 31 rfl w.heap.size 78 i0 _ 6 48 Tryz.underlying31 hi hz0 hz1 hz2 rfl (by decide) (.slice (some ⟨w.heap.size, 0, none⟩) 0 0) 0 [] rfl hown0 ad n c (flatN (lstN p n)) rfl hfl HN.out hone (by simp [maxLen]; omega) (by omega) (by simp) ?_; intro v' w1 hown hgrow _ _)
    go_ret
    simp only [Nat.zero_add, List.nil_append] at hown
    refine ⟨v', rfl, ?_, ((Below.refl _ w).alloc (Nat.le_refl _) _).grown hgrow (by simp) (fun k hk => by simp [Value.ownBlock] at hk; omega)⟩
    unfold OwnN
    rw [lstN_length]
    exact hown
set_option maxRecDepth 100000 in
set_option maxHeartbeats 8000000 in
theorem ref5_SortedN : ∀ N n, n ≤ N → ∀ (a : Option Addr) (c : Nat) (p : Nat → N6) (w : World), n ≤ 1000000 → n ≤ c → (a = none → c = 0) → Sn w a n p →
    Calls Tryz.prog 17 #[.slice a n c] w fun e w' => ∃ v, e = .returned v ∧ OwnN w' w.heap.size v (sortN (lstN p n)) ∧ Below w.heap.size w w' := by
  intro N
  induction N with
  | zero =>
    intro n hn a c p w _ hc hac H
    exact ref5_SortedS a n c p w (by omega) hac H
  | succ N ih =>
  intro n hnN a c p w hn hc hac H
  obtain ⟨i0, hi, hz0, hz1, hz2⟩ := info_parts infoN
  by_cases h2 : n < 2
  · exact ref5_SortedS a n c p w h2 hac H
  have hd : n / 2 ≤ n := by omega
  have hd1 : 1 ≤ n / 2 := by omega
  have hdc : n / 2 ≤ c := by omega
  have hd2 : 1 ≤ n - n / 2 := by omega
  have hsp := lstN_split p n hd
  have HSP := hid hsp; clear hsp
  have hS1 : Sn w a (n / 2) p := fun k hk => H k (by omega)
  have hS2 := H.from (c := c) (l := n / 2) hc
  have hq : (n : Int).tdiv 2 = ((n / 2 : Nat) : Int) := by rw [Int.tdiv_eq_ediv_of_nonneg (by omega)]; omega
  have hq2 : (n : Int) / 2 = ((n / 2 : Nat) : Int) := by omega
  have hq3 : IntKind.i64.wrap ((n / 2 : Nat) : Int) = ((n / 2 : Nat) : Int) := IntWalk.i64_in _ (by omega)
  have ha2 : (if c = n / 2 then a else a.map (fun x => x.add (n / 2 * 6))) = none → c - n / 2 = 0 := fun e => by
    obtain ⟨b, off, e2, _⟩ := hS2 0 (by omega)
    rw [e] at e2; cases e2
  have c1 := fun W S => ih (n / 2) (by omega) a c p W (by omega) (by omega) hac S
  have c2 := fun W S => ih (n - n / 2) (by omega) (if c = n / 2 then a else a.map (fun x => x.add (n / 2 * 6))) (c - n / 2) (fun k => p (n / 2 + k)) W (by omega) (by omega) ha2 S
  generalize lstN (fun j => p (n / 2 + j)) (n - n / 2) = LB at *
  generalize lstN p (n / 2) = LA at *
  clear ih ha2 H hac
  generalize n / 2 = nh at *
  go_enter Tryz.func17, Tryz.ntmps17
  go_upto_region 3 with (fail)
  refine wp_region_S (fun Y => Below w.heap.size w Y) 14 (by kernel_rfl) ?_
  refine anyS_take (i := 0) rfl (by kernel_rfl) (fun _ _ _ h => h) (Or.inl ⟨by rfl, fun Y hYb => (by (try dsimp only at hYb); go_simp; rfl)⟩) (by repeat' (first | with_reducible assumption | with_reducible exact Below.refl _ _ | with_reducible refine Below.drew ?_ | with_reducible refine below_drewN ?_ _)) ?_
  simp only [List.getElem_toArray, List.getElem_cons_succ, List.getElem_cons_zero, Act.put, List.setIfInBounds_toArray, List.set_cons_zero, List.set_cons_succ]
  refine anyS_take (i := 1) rfl (by kernel_rfl) (fun _ _ _ h => h) (Or.inl ⟨by rfl, fun Y hYb => (by (try dsimp only at hYb); go_simp; rfl)⟩) (by repeat' (first | with_reducible assumption | with_reducible exact Below.refl _ _ | with_reducible refine Below.drew ?_ | with_reducible refine below_drewN ?_ _)) ?_
  simp only [List.getElem_toArray, List.getElem_cons_succ, List.getElem_cons_zero, Act.put, List.setIfInBounds_toArray, List.set_cons_zero, List.set_cons_succ]
  refine anyS_take (i := 2) rfl (by kernel_rfl) (fun _ _ _ h => h) (Or.inl ⟨by rfl, fun Y hYb => (by (try dsimp only at hYb); go_simp; rfl)⟩) (by repeat' (first | with_reducible assumption | with_reducible exact Below.refl _ _ | with_reducible refine Below.drew ?_ | with_reducible refine below_drewN ?_ _)) ?_
  simp only [List.getElem_toArray, List.getElem_cons_succ, List.getElem_cons_zero, Act.put, List.setIfInBounds_toArray, List.set_cons_zero, List.set_cons_succ]
  refine anyS_take (i := 3) rfl (by kernel_rfl) (fun _ _ _ h => h) (Or.inl ⟨by rfl, fun Y hYb => (by (try dsimp only at hYb); go_simp; rfl)⟩) (by repeat' (first | with_reducible assumption | with_reducible exact Below.refl _ _ | with_reducible refine Below.drew ?_ | with_reducible refine below_drewN ?_ _)) ?_
  simp only [List.getElem_toArray, List.getElem_cons_succ, List.getElem_cons_zero, Act.put, List.setIfInBounds_toArray, List.set_cons_zero, List.set_cons_succ]
  refine anyS_take (i := 4) rfl (by kernel_rfl) (fun _ _ _ h => h) (Or.inl ⟨by rfl, fun Y hYb => (by (try dsimp only at hYb); go_simp; rfl)⟩) (by repeat' (first | with_reducible assumption | with_reducible exact Below.refl _ _ | with_reducible refine Below.drew ?_ | with_reducible refine below_drewN ?_ _)) ?_
  simp only [List.getElem_toArray, List.getElem_cons_succ, List.getElem_cons_zero, Act.put, List.setIfInBounds_toArray, List.set_cons_zero, List.set_cons_succ]
  refine anyS_take (i := 6) rfl (by kernel_rfl) (fun _ _ _ h => h) (Or.inl ⟨by rfl, fun Y hYb => (by (try dsimp only at hYb); go_simp; rfl)⟩) (by repeat' (first | with_reducible assumption | with_reducible exact Below.refl _ _ | with_reducible refine Below.drew ?_ | with_reducible refine below_drewN ?_ _)) ?_
  simp only [List.getElem_toArray, List.getElem_cons_succ, List.getElem_cons_zero, Act.put, List.setIfInBounds_toArray, List.set_cons_zero, List.set_cons_succ]
  refine anyS_take (i := 7) rfl (by kernel_rfl) (fun _ _ _ h => h) (Or.inl ⟨by rfl, fun Y hYb => (by (try dsimp only at hYb); go_simp; rfl)⟩) (by repeat' (first | with_reducible assumption | with_reducible exact Below.refl _ _ | with_reducible refine Below.drew ?_ | with_reducible refine below_drewN ?_ _)) ?_
  simp only [List.getElem_toArray, List.getElem_cons_succ, List.getElem_cons_zero, Act.put, List.setIfInBounds_toArray, List.set_cons_zero, List.set_cons_succ]
  refine anyS_take (i := 8) rfl (by kernel_rfl) (fun _ _ _ h => h) (Or.inl ⟨by rfl, fun Y hYb => (by (try dsimp only at hYb); go_simp; rfl)⟩) (by repeat' (first | with_reducible assumption | with_reducible exact Below.refl _ _ | with_reducible refine Below.drew ?_ | with_reducible refine below_drewN ?_ _)) ?_
  simp only [List.getElem_toArray, List.getElem_cons_succ, List.getElem_cons_zero, Act.put, List.setIfInBounds_toArray, List.set_cons_zero, List.set_cons_succ]
  refine anyS_take (i := 9) rfl (by kernel_rfl) (fun _ _ _ h => h) (Or.inl ⟨by rfl, fun Y hYb => (by (try dsimp only at hYb); go_simp; rfl)⟩) (by repeat' (first | with_reducible assumption | with_reducible exact Below.refl _ _ | with_reducible refine Below.drew ?_ | with_reducible refine below_drewN ?_ _)) ?_
  simp only [List.getElem_toArray, List.getElem_cons_succ, List.getElem_cons_zero, Act.put, List.setIfInBounds_toArray, List.set_cons_zero, List.set_cons_succ]
  refine anyS_take (i := 10) rfl (by kernel_rfl) (fun _ _ _ h => h) (Or.inl ⟨by rfl, fun Y hYb => (by (try dsimp only at hYb); go_simp; rfl)⟩) (by repeat' (first | with_reducible assumption | with_reducible exact Below.refl _ _ | with_reducible refine Below.drew ?_ | with_reducible refine below_drewN ?_ _)) ?_
  simp only [List.getElem_toArray, List.getElem_cons_succ, List.getElem_cons_zero, Act.put, List.setIfInBounds_toArray, List.set_cons_zero, List.set_cons_succ]
  refine anyS_one (i := 5) (by kernel_rfl) rfl (by rfl) (fun K hK => ?_)
  go_simp
  refine (c1 _ (hS1.below (by (repeat' (first | with_reducible assumption | with_reducible exact Below.refl _ _ | with_reducible refine Below.drew ?_ | with_reducible refine below_drewN ?_ _ | with_reducible refine balloc ?_ _ | with_reducible refine bset ?_ ?_ _ | with_reducible refine Below.setCell ?_ ?_ _ | with_reducible refine Below.alloc ?_ ?_ _ | omega | (simp; done) | (simp; omega)))))).mono ?_
  rintro e v5 ⟨va, rfl, O1, hb1⟩
  dsimp only
  have hB5 : Below w.heap.size w v5 := bvia (by (repeat' (first | with_reducible assumption | with_reducible exact Below.refl _ _ | with_reducible refine Below.drew ?_ | with_reducible refine below_drewN ?_ _ | with_reducible refine balloc ?_ _ | with_reducible refine bset ?_ ?_ _ | with_reducible refine Below.setCell ?_ ?_ _ | with_reducible refine Below.alloc ?_ ?_ _ | omega | (simp; done) | (simp; omega)))) hb1
  refine hK _ _ (fun _ _ => hB5) ?_
  clear hK K hb1
  refine anyS_one (i := 11) (by kernel_rfl) rfl (by rfl) (fun K hK => ?_)
  go_simp
  refine (c2 _ (hS2.below hB5)).mono ?_
  rintro e W2 ⟨vb, rfl, O2, hb2⟩
  dsimp only
  have hB2 : Below w.heap.size w W2 := bvia hB5 hb2
  replace O1 : OwnN W2 _ _ _ := own_below O1 hb2
  refine hK _ _ (fun _ _ => hB2) ?_
  clear hK K hb2 hB5
  refine anyS_take (i := 12) rfl (by kernel_rfl) (fun _ _ _ h => h) (Or.inl ⟨by rfl, fun Y hYb => (by (try dsimp only at hYb); go_simp; rfl)⟩) (by repeat' (first | with_reducible assumption | with_reducible exact Below.refl _ _ | with_reducible refine Below.drew ?_ | with_reducible refine below_drewN ?_ _)) ?_
  simp only [List.getElem_toArray, List.getElem_cons_succ, List.getElem_cons_zero, Act.put, List.setIfInBounds_toArray, List.set_cons_zero, List.set_cons_succ]
  refine anyS_take (i := 13) rfl (by kernel_rfl) (fun _ _ _ h => h) (Or.inl ⟨by rfl, fun Y hYb => (by (try dsimp only at hYb); go_simp; rfl)⟩) (by repeat' (first | with_reducible assumption | with_reducible exact Below.refl _ _ | with_reducible refine Below.drew ?_ | with_reducible refine below_drewN ?_ _)) ?_
  simp only [List.getElem_toArray, List.getElem_cons_succ, List.getElem_cons_zero, Act.put, List.setIfInBounds_toArray, List.set_cons_zero, List.set_cons_succ]
  refine anyS_done (by kernel_rfl) ?_ _
  obtain ⟨pa0, ca0, rfl, L1⟩ := listR_of_own O1
  obtain ⟨pb0, cb0, rfl, L2⟩ := listR_of_own O2
  clear O1 O2 c1 c2 hS1 hS2 hq hq2 hq3
  have hM := MrgI.start HSP.out
  have hLL : (lstN p n).length = n := lstN_length p n
  generalize sortN LA = A0 at *
  generalize sortN LB = B0 at *
  have HLL := hid hLL
  clear hLL HSP
  obtain ⟨hA1, hA2, hA3⟩ := L1
  obtain ⟨hB1, hB2', hB3⟩ := L2
  have L1 : ListR W2 pa0 A0.length ca0 A0 := ⟨hA1, hA2, hA3⟩
  have L2 : ListR W2 pb0 B0.length cb0 B0 := ⟨hB1, hB2', hB3⟩
  clear hA1 hA2 hA3 hB1 hB2' hB3
  go_wp2
  go_loopw [3, 4, 5] (fun s3 s4 s5 wr => ∃ pa na ca A pb nb cb B out, s3 = .slice pa na ca ∧ s4 = .slice pb nb cb ∧ ListR W2 pa na ca A ∧ ListR W2 pb nb cb B ∧ MrgI (lstN p n) out A B ∧ OwnN wr W2.heap.size s5 out ∧ Below W2.heap.size W2 wr) (fun s3 s4 _ _ => lenV s3 + lenV s4)
  case atStart => exact ⟨_, _, _, _, _, _, _, _, _, rfl, rfl, L1, L2, hM, ownN_nil _ _, Below.refl _ _⟩
  case round =>
    clear L1 L2 hM
    obtain ⟨pa, na, ca, A, pb, nb, cb, B, out, rfl, rfl, LA', LB', hM, hown, hB⟩ := hrel
    have hlen := hM.len
    have hca := LA'.2.1; have hcb := LB'.2.1
    have hla := LA'.1; have hlb := LB'.1
    have hbs := hB.size
    rw [HLL.out, hla, hlb] at hlen
    clear hla hlb
    by_cases h1 : na = 0
    · by_cases h3 : nb = 0
      · have e1 := LA'.nil h1; have e2 := LB'.nil h3
        rw [e1, e2] at hM
        have hdn := hM.done
        have HDN := hid hdn
        clear hdn e1 e2 LA' LB' hM
        subst h1 h3
        go_wp2
        go_ret
        rw [← HDN.out]
        exact ⟨_, rfl, own_mono hown (by have := hB2.size; omega), bvia hB2 hB⟩
      · obtain ⟨x, T, rfl⟩ := LB'.cons (by omega)
        obtain rfl := LA'.nil h1
        have hM2 := hM.swap.step (fun y hy => by cases hy)
        have HM := hid hM2
        clear hM hM2
        subst h1
        have h30 : 0 < nb := by omega
        obtain ⟨b, off, rfl, hb, d0, d1, d2, d3, d4, d5⟩ := (LB'.below hB).head (by omega)
        have hsl : ∀ w, (Instr.slice 31 (.slice (some ⟨b, off, none⟩) nb cb) (some (.int .i64 1)) none none).run Tryz.prog w = .ok (.slice (if cb = 1 then (some ⟨b, off, none⟩ : Option Addr) else (some ⟨b, off, none⟩ : Option Addr).map (·.add (1 * 6))) (nb - 1) (cb - 1)) w := fun w => notes_slice_from (some ⟨b, off, none⟩) nb cb 1 (by omega) w
        have LT := LB'.tail
        generalize (if cb = 1 then (some ⟨b, off, none⟩ : Option Addr) else (some ⟨b, off, none⟩ : Option Addr).map (·.add (1 * 6))) = pt at *
        have HLT := hid LT
        clear LT
        go_wp2_with fail
        refine wp_region_S (fun Y => Below wr.heap.size wr Y) 17 (by kernel_rfl) ?_
        refine anyS_take (i := 0) rfl (by kernel_rfl) (fun _ _ _ h => h) (Or.inl ⟨by rfl, fun Y hYb => (by (try dsimp only at hYb); go_simp; rfl)⟩) (by repeat' (first | with_reducible assumption | with_reducible exact Below.refl _ _ | with_reducible refine Below.drew ?_ | with_reducible refine below_drewN ?_ _)) ?_
        simp only [List.getElem_toArray, List.getElem_cons_succ, List.getElem_cons_zero, Act.put, List.setIfInBounds_toArray, List.set_cons_zero, List.set_cons_succ]
        refine anyS_take (i := 1) rfl (by kernel_rfl) (fun _ _ _ h => h) (Or.inl ⟨by rfl, fun Y hYb => (by (try dsimp only at hYb); go_simp; rfl)⟩) (by repeat' (first | with_reducible assumption | with_reducible exact Below.refl _ _ | with_reducible refine Below.drew ?_ | with_reducible refine below_drewN ?_ _)) ?_
        simp only [List.getElem_toArray, List.getElem_cons_succ, List.getElem_cons_zero, Act.put, List.setIfInBounds_toArray, List.set_cons_zero, List.set_cons_succ]
        refine anyS_take (i := 2) rfl (by kernel_rfl) (fun _ _ _ h => h) (Or.inl ⟨by rfl, fun Y hYb => (by (try dsimp only at hYb); go_simp; rfl)⟩) (by repeat' (first | with_reducible assumption | with_reducible exact Below.refl _ _ | with_reducible refine Below.drew ?_ | with_reducible refine below_drewN ?_ _)) ?_
        simp only [List.getElem_toArray, List.getElem_cons_succ, List.getElem_cons_zero, Act.put, List.setIfInBounds_toArray, List.set_cons_zero, List.set_cons_succ]
        refine anyS_take (i := 3) rfl (by kernel_rfl) (fun _ _ _ h => h) (Or.inl ⟨by rfl, fun Y hYb => (by (try dsimp only at hYb); go_simp; rfl)⟩) (by repeat' (first | with_reducible assumption | with_reducible exact Below.refl _ _ | with_reducible refine Below.drew ?_ | with_reducible refine below_drewN ?_ _)) ?_
        simp only [List.getElem_toArray, List.getElem_cons_succ, List.getElem_cons_zero, Act.put, List.setIfInBounds_toArray, List.set_cons_zero, List.set_cons_succ]
        refine anyS_take (i := 4) (v := undef) rfl (by kernel_rfl) (fun _ _ _ h => h) (Or.inr ⟨by kernel_rfl, rfl⟩) (by repeat' (first | with_reducible assumption | with_reducible exact Below.refl _ _ | with_reducible refine Below.drew ?_ | with_reducible refine below_drewN ?_ _)) ?_
        simp only [List.getElem_toArray, List.getElem_cons_succ, List.getElem_cons_zero, Act.put, List.setIfInBounds_toArray, List.set_cons_zero, List.set_cons_succ]
        refine anyS_take (i := 5) (v := undef) rfl (by kernel_rfl) (fun _ _ _ h => h) (Or.inr ⟨by kernel_rfl, rfl⟩) (by repeat' (first | with_reducible assumption | with_reducible exact Below.refl _ _ | with_reducible refine Below.drew ?_ | with_reducible refine below_drewN ?_ _)) ?_
        simp only [List.getElem_toArray, List.getElem_cons_succ, List.getElem_cons_zero, Act.put, List.setIfInBounds_toArray, List.set_cons_zero, List.set_cons_succ]
        refine anyS_take (i := 6) (v := undef) rfl (by kernel_rfl) (fun _ _ _ h => h) (Or.inr ⟨by kernel_rfl, rfl⟩) (by repeat' (first | with_reducible assumption | with_reducible exact Below.refl _ _ | with_reducible refine Below.drew ?_ | with_reducible refine below_drewN ?_ _)) ?_
        simp only [List.getElem_toArray, List.getElem_cons_succ, List.getElem_cons_zero, Act.put, List.setIfInBounds_toArray, List.set_cons_zero, List.set_cons_succ]
        refine anyS_take (i := 7) (v := undef) rfl (by kernel_rfl) (fun _ _ _ h => h) (Or.inr ⟨by kernel_rfl, rfl⟩) (by repeat' (first | with_reducible assumption | with_reducible exact Below.refl _ _ | with_reducible refine Below.drew ?_ | with_reducible refine below_drewN ?_ _)) ?_
        simp only [List.getElem_toArray, List.getElem_cons_succ, List.getElem_cons_zero, Act.put, List.setIfInBounds_toArray, List.set_cons_zero, List.set_cons_succ]
        refine anyS_take (i := 8) (v := undef) rfl (by kernel_rfl) (fun _ _ _ h => h) (Or.inr ⟨by kernel_rfl, rfl⟩) (by repeat' (first | with_reducible assumption | with_reducible exact Below.refl _ _ | with_reducible refine Below.drew ?_ | with_reducible refine below_drewN ?_ _)) ?_
        simp only [List.getElem_toArray, List.getElem_cons_succ, List.getElem_cons_zero, Act.put, List.setIfInBounds_toArray, List.set_cons_zero, List.set_cons_succ]
        refine anyS_take (i := 9) (v := undef) rfl (by kernel_rfl) (fun _ _ _ h => h) (Or.inr ⟨by kernel_rfl, rfl⟩) (by repeat' (first | with_reducible assumption | with_reducible exact Below.refl _ _ | with_reducible refine Below.drew ?_ | with_reducible refine below_drewN ?_ _)) ?_
        simp only [List.getElem_toArray, List.getElem_cons_succ, List.getElem_cons_zero, Act.put, List.setIfInBounds_toArray, List.set_cons_zero, List.set_cons_succ]
        refine anyS_take (i := 10) (v := undef) rfl (by kernel_rfl) (fun _ _ _ h => h) (Or.inr ⟨by kernel_rfl, rfl⟩) (by repeat' (first | with_reducible assumption | with_reducible exact Below.refl _ _ | with_reducible refine Below.drew ?_ | with_reducible refine below_drewN ?_ _)) ?_
        simp only [List.getElem_toArray, List.getElem_cons_succ, List.getElem_cons_zero, Act.put, List.setIfInBounds_toArray, List.set_cons_zero, List.set_cons_succ]
        refine anyS_take (i := 11) (v := undef) rfl (by kernel_rfl) (fun _ _ _ h => h) (Or.inr ⟨by kernel_rfl, rfl⟩) (by repeat' (first | with_reducible assumption | with_reducible exact Below.refl _ _ | with_reducible refine Below.drew ?_ | with_reducible refine below_drewN ?_ _)) ?_
        simp only [List.getElem_toArray, List.getElem_cons_succ, List.getElem_cons_zero, Act.put, List.setIfInBounds_toArray, List.set_cons_zero, List.set_cons_succ]
        refine anyS_take (i := 12) (v := undef) rfl (by kernel_rfl) (fun _ _ _ h => h) (Or.inr ⟨by kernel_rfl, rfl⟩) (by repeat' (first | with_reducible assumption | with_reducible exact Below.refl _ _ | with_reducible refine Below.drew ?_ | with_reducible refine below_drewN ?_ _)) ?_
        simp only [List.getElem_toArray, List.getElem_cons_succ, List.getElem_cons_zero, Act.put, List.setIfInBounds_toArray, List.set_cons_zero, List.set_cons_succ]
        refine anyS_take (i := 13) (v := undef) rfl (by kernel_rfl) (fun _ _ _ h => h) (Or.inr ⟨by kernel_rfl, rfl⟩) (by repeat' (first | with_reducible assumption | with_reducible exact Below.refl _ _ | with_reducible refine Below.drew ?_ | with_reducible refine below_drewN ?_ _)) ?_
        simp only [List.getElem_toArray, List.getElem_cons_succ, List.getElem_cons_zero, Act.put, List.setIfInBounds_toArray, List.set_cons_zero, List.set_cons_succ]
        refine anyS_take (i := 14) (v := undef) rfl (by kernel_rfl) (fun _ _ _ h => h) (Or.inr ⟨by kernel_rfl, rfl⟩) (by repeat' (first | with_reducible assumption | with_reducible exact Below.refl _ _ | with_reducible refine Below.drew ?_ | with_reducible refine below_drewN ?_ _)) ?_
        simp only [List.getElem_toArray, List.getElem_cons_succ, List.getElem_cons_zero, Act.put, List.setIfInBounds_toArray, List.set_cons_zero, List.set_cons_succ]
        refine anyS_take (i := 15) (v := undef) rfl (by kernel_rfl) (fun _ _ _ h => h) (Or.inr ⟨by kernel_rfl, rfl⟩) (by repeat' (first | with_reducible assumption | with_reducible exact Below.refl _ _ | with_reducible refine Below.drew ?_ | with_reducible refine below_drewN ?_ _)) ?_
        simp only [List.getElem_toArray, List.getElem_cons_succ, List.getElem_cons_zero, Act.put, List.setIfInBounds_toArray, List.set_cons_zero, List.set_cons_succ]
        refine anyS_take (i := 16) rfl (by kernel_rfl) (fun _ _ _ h => h) (Or.inl ⟨by rfl, fun Y hYb => (by (try dsimp only at hYb); go_simp; rfl)⟩) (by repeat' (first | with_reducible assumption | with_reducible exact Below.refl _ _ | with_reducible refine Below.drew ?_ | with_reducible refine below_drewN ?_ _)) ?_
        simp only [List.getElem_toArray, List.getElem_cons_succ, List.getElem_cons_zero, Act.put, List.setIfInBounds_toArray, List.set_cons_zero, List.set_cons_succ]
        refine anyS_done (by kernel_rfl) ?_ _
        replace hown : OwnN wr.drew W2.heap.size _ out := hown
        replace hB := hB.drew
        have hb9 : b < wr.drew.heap.size := hb
        have c0 : wr.drew.cell? _ = _ := d0; have c1 : wr.drew.cell? _ = _ := d1; have c2 : wr.drew.cell? _ = _ := d2; have c3 : wr.drew.cell? _ = _ := d3; have c4 : wr.drew.cell? _ = _ := d4; have c5 : wr.drew.cell? _ = _ := d5
        clear d0 d1 d2 d3 d4 d5 hb
        have hbs : W2.heap.size ≤ wr.drew.heap.size := hB.size
        generalize wr.drew = w9 at *
        go_wp2_with (at_builtin; refine wpList_append_own _ rfl _ _ 31 rfl W2.heap.size 78 i0 _ 6 48 Tryz.underlying31 hi hz0 hz1 hz2 rfl (by decide) _ _ _ rfl (hown.alloc _) ⟨w9.heap.size, 0, none⟩ 1 1 (N6.list x) rfl rfl (cells_new _ _ _) (n6_one _) (by (try simp [maxLen]); omega) (by (try simp); omega) (by (try simp); omega) ?_; intro v' w8 hown' hgrow _)
        have hg8 := (balloc hB _).grown hgrow (by (try simp); omega) (own_base hown)
        go_roundw
        case rel => exact ⟨_, _, _, _, _, _, _, _, _, rfl, rfl, HLT.out, LA', HM.out, ownN_snoc hown', hg8⟩
        case measure => simp [lenV]; omega
    · have h10 : 0 < na := by omega
      have h11 : ((na : Int) == 0) = false := by simpa using h1
      obtain ⟨x, T, rfl⟩ := LA'.cons h10
      by_cases h3 : nb = 0
      · obtain rfl := LB'.nil h3
        have hM2 := hM.step (fun y hy => by cases hy)
        have HM := hid hM2
        clear hM hM2
        subst h3
        obtain ⟨b, off, rfl, hb, d0, d1, d2, d3, d4, d5⟩ := (LA'.below hB).head (by omega)
        have hsl : ∀ w, (Instr.slice 31 (.slice (some ⟨b, off, none⟩) na ca) (some (.int .i64 1)) none none).run Tryz.prog w = .ok (.slice (if ca = 1 then (some ⟨b, off, none⟩ : Option Addr) else (some ⟨b, off, none⟩ : Option Addr).map (·.add (1 * 6))) (na - 1) (ca - 1)) w := fun w => notes_slice_from (some ⟨b, off, none⟩) na ca 1 (by omega) w
        have LT := LA'.tail
        generalize (if ca = 1 then (some ⟨b, off, none⟩ : Option Addr) else (some ⟨b, off, none⟩ : Option Addr).map (·.add (1 * 6))) = pt at *
        have HLT := hid LT
        clear LT
        go_wp2_with fail
        refine wp_region_S (fun Y => Below wr.heap.size wr Y) 17 (by kernel_rfl) ?_
        refine anyS_take (i := 0) rfl (by kernel_rfl) (fun _ _ _ h => h) (Or.inl ⟨by rfl, fun Y hYb => (by (try dsimp only at hYb); go_simp; rfl)⟩) (by repeat' (first | with_reducible assumption | with_reducible exact Below.refl _ _ | with_reducible refine Below.drew ?_ | with_reducible refine below_drewN ?_ _)) ?_
        simp only [List.getElem_toArray, List.getElem_cons_succ, List.getElem_cons_zero, Act.put, List.setIfInBounds_toArray, List.set_cons_zero, List.set_cons_succ]
        refine anyS_take (i := 1) rfl (by kernel_rfl) (fun _ _ _ h => h) (Or.inl ⟨by rfl, fun Y hYb => (by (try dsimp only at hYb); go_simp; rfl)⟩) (by repeat' (first | with_reducible assumption | with_reducible exact Below.refl _ _ | with_reducible refine Below.drew ?_ | with_reducible refine below_drewN ?_ _)) ?_
        simp only [List.getElem_toArray, List.getElem_cons_succ, List.getElem_cons_zero, Act.put, List.setIfInBounds_toArray, List.set_cons_zero, List.set_cons_succ]
        refine anyS_take (i := 2) rfl (by kernel_rfl) (fun _ _ _ h => h) (Or.inl ⟨by rfl, fun Y hYb => (by (try dsimp only at hYb); go_simp; rfl)⟩) (by repeat' (first | with_reducible assumption | with_reducible exact Below.refl _ _ | with_reducible refine Below.drew ?_ | with_reducible refine below_drewN ?_ _)) ?_
        simp only [List.getElem_toArray, List.getElem_cons_succ, List.getElem_cons_zero, Act.put, List.setIfInBounds_toArray, List.set_cons_zero, List.set_cons_succ]
        refine anyS_take (i := 3) rfl (by kernel_rfl) (fun _ _ _ h => h) (Or.inl ⟨by rfl, fun Y hYb => (by (try dsimp only at hYb); go_simp; rfl)⟩) (by repeat' (first | with_reducible assumption | with_reducible exact Below.refl _ _ | with_reducible refine Below.drew ?_ | with_reducible refine below_drewN ?_ _)) ?_
        simp only [List.getElem_toArray, List.getElem_cons_succ, List.getElem_cons_zero, Act.put, List.setIfInBounds_toArray, List.set_cons_zero, List.set_cons_succ]
        refine anyS_take (i := 4) rfl (by kernel_rfl) (fun _ _ _ h => h) (Or.inl ⟨by rfl, fun Y hYb => (by (try dsimp only at hYb); go_simp; rfl)⟩) (by repeat' (first | with_reducible assumption | with_reducible exact Below.refl _ _ | with_reducible refine Below.drew ?_ | with_reducible refine below_drewN ?_ _)) ?_
        simp only [List.getElem_toArray, List.getElem_cons_succ, List.getElem_cons_zero, Act.put, List.setIfInBounds_toArray, List.set_cons_zero, List.set_cons_succ]
        refine anyS_take (i := 5) rfl (by kernel_rfl) (fun _ _ _ h => h) (Or.inl ⟨by rfl, fun Y hYb => (by (try dsimp only at hYb); go_simp; rfl)⟩) (by repeat' (first | with_reducible assumption | with_reducible exact Below.refl _ _ | with_reducible refine Below.drew ?_ | with_reducible refine below_drewN ?_ _)) ?_
        simp only [List.getElem_toArray, List.getElem_cons_succ, List.getElem_cons_zero, Act.put, List.setIfInBounds_toArray, List.set_cons_zero, List.set_cons_succ]
        refine anyS_take (i := 6) rfl (by kernel_rfl) (fun _ _ _ h => h) (Or.inl ⟨by rfl, fun Y hYb => (by (try dsimp only at hYb); go_simp; rfl)⟩) (by repeat' (first | with_reducible assumption | with_reducible exact Below.refl _ _ | with_reducible refine Below.drew ?_ | with_reducible refine below_drewN ?_ _)) ?_
        simp only [List.getElem_toArray, List.getElem_cons_succ, List.getElem_cons_zero, Act.put, List.setIfInBounds_toArray, List.set_cons_zero, List.set_cons_succ]
        refine anyS_take (i := 7) rfl (by kernel_rfl) (fun _ _ _ h => h) (Or.inl ⟨by rfl, fun Y hYb => (by (try dsimp only at hYb); go_simp; rfl)⟩) (by repeat' (first | with_reducible assumption | with_reducible exact Below.refl _ _ | with_reducible refine Below.drew ?_ | with_reducible refine below_drewN ?_ _)) ?_
        simp only [List.getElem_toArray, List.getElem_cons_succ, List.getElem_cons_zero, Act.put, List.setIfInBounds_toArray, List.set_cons_zero, List.set_cons_succ]
        refine anyS_take (i := 8) (v := undef) rfl (by kernel_rfl) (fun _ _ _ h => h) (Or.inr ⟨by kernel_rfl, rfl⟩) (by repeat' (first | with_reducible assumption | with_reducible exact Below.refl _ _ | with_reducible refine Below.drew ?_ | with_reducible refine below_drewN ?_ _)) ?_
        simp only [List.getElem_toArray, List.getElem_cons_succ, List.getElem_cons_zero, Act.put, List.setIfInBounds_toArray, List.set_cons_zero, List.set_cons_succ]
        refine anyS_take (i := 9) (v := undef) rfl (by kernel_rfl) (fun _ _ _ h => h) (Or.inr ⟨by kernel_rfl, rfl⟩) (by repeat' (first | with_reducible assumption | with_reducible exact Below.refl _ _ | with_reducible refine Below.drew ?_ | with_reducible refine below_drewN ?_ _)) ?_
        simp only [List.getElem_toArray, List.getElem_cons_succ, List.getElem_cons_zero, Act.put, List.setIfInBounds_toArray, List.set_cons_zero, List.set_cons_succ]
        refine anyS_take (i := 10) (v := undef) rfl (by kernel_rfl) (fun _ _ _ h => h) (Or.inr ⟨by kernel_rfl, rfl⟩) (by repeat' (first | with_reducible assumption | with_reducible exact Below.refl _ _ | with_reducible refine Below.drew ?_ | with_reducible refine below_drewN ?_ _)) ?_
        simp only [List.getElem_toArray, List.getElem_cons_succ, List.getElem_cons_zero, Act.put, List.setIfInBounds_toArray, List.set_cons_zero, List.set_cons_succ]
        refine anyS_take (i := 11) (v := undef) rfl (by kernel_rfl) (fun _ _ _ h => h) (Or.inr ⟨by kernel_rfl, rfl⟩) (by repeat' (first | with_reducible assumption | with_reducible exact Below.refl _ _ | with_reducible refine Below.drew ?_ | with_reducible refine below_drewN ?_ _)) ?_
        simp only [List.getElem_toArray, List.getElem_cons_succ, List.getElem_cons_zero, Act.put, List.setIfInBounds_toArray, List.set_cons_zero, List.set_cons_succ]
        refine anyS_take (i := 12) (v := undef) rfl (by kernel_rfl) (fun _ _ _ h => h) (Or.inr ⟨by kernel_rfl, rfl⟩) (by repeat' (first | with_reducible assumption | with_reducible exact Below.refl _ _ | with_reducible refine Below.drew ?_ | with_reducible refine below_drewN ?_ _)) ?_
        simp only [List.getElem_toArray, List.getElem_cons_succ, List.getElem_cons_zero, Act.put, List.setIfInBounds_toArray, List.set_cons_zero, List.set_cons_succ]
        refine anyS_take (i := 13) (v := undef) rfl (by kernel_rfl) (fun _ _ _ h => h) (Or.inr ⟨by kernel_rfl, rfl⟩) (by repeat' (first | with_reducible assumption | with_reducible exact Below.refl _ _ | with_reducible refine Below.drew ?_ | with_reducible refine below_drewN ?_ _)) ?_
        simp only [List.getElem_toArray, List.getElem_cons_succ, List.getElem_cons_zero, Act.put, List.setIfInBounds_toArray, List.set_cons_zero, List.set_cons_succ]
        refine anyS_take (i := 14) (v := undef) rfl (by kernel_rfl) (fun _ _ _ h => h) (Or.inr ⟨by kernel_rfl, rfl⟩) (by repeat' (first | with_reducible assumption | with_reducible exact Below.refl _ _ | with_reducible refine Below.drew ?_ | with_reducible refine below_drewN ?_ _)) ?_
        simp only [List.getElem_toArray, List.getElem_cons_succ, List.getElem_cons_zero, Act.put, List.setIfInBounds_toArray, List.set_cons_zero, List.set_cons_succ]
        refine anyS_take (i := 15) rfl (by kernel_rfl) (fun _ _ _ h => h) (Or.inl ⟨by rfl, fun Y hYb => (by (try dsimp only at hYb); go_simp; rfl)⟩) (by repeat' (first | with_reducible assumption | with_reducible exact Below.refl _ _ | with_reducible refine Below.drew ?_ | with_reducible refine below_drewN ?_ _)) ?_
        simp only [List.getElem_toArray, List.getElem_cons_succ, List.getElem_cons_zero, Act.put, List.setIfInBounds_toArray, List.set_cons_zero, List.set_cons_succ]
        refine anyS_take (i := 16) rfl (by kernel_rfl) (fun _ _ _ h => h) (Or.inl ⟨by rfl, fun Y hYb => (by (try dsimp only at hYb); go_simp; rfl)⟩) (by repeat' (first | with_reducible assumption | with_reducible exact Below.refl _ _ | with_reducible refine Below.drew ?_ | with_reducible refine below_drewN ?_ _)) ?_
        simp only [List.getElem_toArray, List.getElem_cons_succ, List.getElem_cons_zero, Act.put, List.setIfInBounds_toArray, List.set_cons_zero, List.set_cons_succ]
        refine anyS_done (by kernel_rfl) ?_ _
        replace hown : OwnN wr.drew W2.heap.size _ out := hown
        replace hB := hB.drew
        have hb9 : b < wr.drew.heap.size := hb
        have c0 : wr.drew.cell? _ = _ := d0; have c1 : wr.drew.cell? _ = _ := d1; have c2 : wr.drew.cell? _ = _ := d2; have c3 : wr.drew.cell? _ = _ := d3; have c4 : wr.drew.cell? _ = _ := d4; have c5 : wr.drew.cell? _ = _ := d5
        clear d0 d1 d2 d3 d4 d5 hb
        have hbs : W2.heap.size ≤ wr.drew.heap.size := hB.size
        generalize wr.drew = w9 at *
        go_wp2_with (at_builtin; refine wpList_append_own _ rfl _ _ 31 rfl W2.heap.size 78 i0 _ 6 48 Tryz.underlying31 hi hz0 hz1 hz2 rfl (by decide) _ _ _ rfl (hown.alloc _) ⟨w9.heap.size, 0, none⟩ 1 1 (N6.list x) rfl rfl (cells_new _ _ _) (n6_one _) (by (try simp [maxLen]); omega) (by (try simp); omega) (by (try simp); omega) ?_; intro v' w8 hown' hgrow _)
        have hg8 := (balloc hB _).grown hgrow (by (try simp); omega) (own_base hown)
        go_roundw
        case rel => exact ⟨_, _, _, _, _, _, _, _, _, rfl, rfl, HLT.out, LB', HM.out, ownN_snoc hown', hg8⟩
        case measure => simp [lenV]; omega
      · have h30 : 0 < nb := by omega
        obtain ⟨y, U, rfl⟩ := LB'.cons h30
        cases hbf : befN y x
        · have hM2 := hM.step (fun z hz => by injection hz with hz; rw [← hz]; exact hbf)
          have HM := hid hM2
          clear hM hM2
          obtain ⟨b', off', rfl, hb', e0, e1, e2, e3, e4, e5⟩ := (LB'.below hB).head h30
          obtain ⟨b, off, rfl, hb, d0, d1, d2, d3, d4, d5⟩ := (LA'.below hB).head (by omega)
          have hsl : ∀ w, (Instr.slice 31 (.slice (some ⟨b, off, none⟩) na ca) (some (.int .i64 1)) none none).run Tryz.prog w = .ok (.slice (if ca = 1 then (some ⟨b, off, none⟩ : Option Addr) else (some ⟨b, off, none⟩ : Option Addr).map (·.add (1 * 6))) (na - 1) (ca - 1)) w := fun w => notes_slice_from (some ⟨b, off, none⟩) na ca 1 (by omega) w
          have LT := LA'.tail
          generalize (if ca = 1 then (some ⟨b, off, none⟩ : Option Addr) else (some ⟨b, off, none⟩ : Option Addr).map (·.add (1 * 6))) = pt at *
          have HLT := hid LT
          clear LT
          go_wp2_with fail
          have r0 : ∀ Y, Below wr.heap.size wr Y → Y.cell? ⟨b', off', none⟩ = some (.int .i64 y.st) := fun Y h => (bcell h _ _ hb').trans e0
          have r1 : ∀ Y, Below wr.heap.size wr Y → Y.cell? ⟨b', off' + 1, none⟩ = some (.int .i64 y.fr) := fun Y h => (bcell h _ _ hb').trans e1
          have r2 : ∀ Y, Below wr.heap.size wr Y → Y.cell? ⟨b', off' + 2, none⟩ = some (.int .i64 y.to) := fun Y h => (bcell h _ _ hb').trans e2
          have r3 : ∀ Y, Below wr.heap.size wr Y → Y.cell? ⟨b', off' + 3, none⟩ = some (.int .i64 y.ce) := fun Y h => (bcell h _ _ hb').trans e3
          have r4 : ∀ Y, Below wr.heap.size wr Y → Y.cell? ⟨b', off' + 4, none⟩ = some (.int .i64 y.di) := fun Y h => (bcell h _ _ hb').trans e4
          have r5 : ∀ Y, Below wr.heap.size wr Y → Y.cell? ⟨b', off' + 5, none⟩ = some (.int .i64 y.co) := fun Y h => (bcell h _ _ hb').trans e5
          have s0 : ∀ Y, Below wr.heap.size wr Y → Y.cell? ⟨b, off, none⟩ = some (.int .i64 x.st) := fun Y h => (bcell h _ _ hb).trans d0
          have s1 : ∀ Y, Below wr.heap.size wr Y → Y.cell? ⟨b, off + 1, none⟩ = some (.int .i64 x.fr) := fun Y h => (bcell h _ _ hb).trans d1
          have s2 : ∀ Y, Below wr.heap.size wr Y → Y.cell? ⟨b, off + 2, none⟩ = some (.int .i64 x.to) := fun Y h => (bcell h _ _ hb).trans d2
          have s3 : ∀ Y, Below wr.heap.size wr Y → Y.cell? ⟨b, off + 3, none⟩ = some (.int .i64 x.ce) := fun Y h => (bcell h _ _ hb).trans d3
          have s4 : ∀ Y, Below wr.heap.size wr Y → Y.cell? ⟨b, off + 4, none⟩ = some (.int .i64 x.di) := fun Y h => (bcell h _ _ hb).trans d4
          have s5 : ∀ Y, Below wr.heap.size wr Y → Y.cell? ⟨b, off + 5, none⟩ = some (.int .i64 x.co) := fun Y h => (bcell h _ _ hb).trans d5
          have hbe := fun V => ref5_before y x V
          clear d0 d1 d2 d3 d4 d5 e0 e1 e2 e3 e4 e5
          refine wp_region_S (fun Y => Below wr.heap.size wr Y) 17 (by kernel_rfl) ?_
          refine anyS_take (i := 0) rfl (by kernel_rfl) (fun _ _ _ h => h) (Or.inl ⟨by rfl, fun Y hYb => (by (try dsimp only at hYb); go_simp; rfl)⟩) (by repeat' (first | with_reducible assumption | with_reducible exact Below.refl _ _ | with_reducible refine Below.drew ?_ | with_reducible refine below_drewN ?_ _)) ?_
          simp only [List.getElem_toArray, List.getElem_cons_succ, List.getElem_cons_zero, Act.put, List.setIfInBounds_toArray, List.set_cons_zero, List.set_cons_succ]
          refine anyS_take (i := 1) rfl (by kernel_rfl) (fun _ _ _ h => h) (Or.inl ⟨by rfl, fun Y hYb => (by (try dsimp only at hYb); go_simp; rfl)⟩) (by repeat' (first | with_reducible assumption | with_reducible exact Below.refl _ _ | with_reducible refine Below.drew ?_ | with_reducible refine below_drewN ?_ _)) ?_
          simp only [List.getElem_toArray, List.getElem_cons_succ, List.getElem_cons_zero, Act.put, List.setIfInBounds_toArray, List.set_cons_zero, List.set_cons_succ]
          refine anyS_take (i := 2) rfl (by kernel_rfl) (fun _ _ _ h => h) (Or.inl ⟨by rfl, fun Y hYb => (by (try dsimp only at hYb); go_simp; rfl)⟩) (by repeat' (first | with_reducible assumption | with_reducible exact Below.refl _ _ | with_reducible refine Below.drew ?_ | with_reducible refine below_drewN ?_ _)) ?_
          simp only [List.getElem_toArray, List.getElem_cons_succ, List.getElem_cons_zero, Act.put, List.setIfInBounds_toArray, List.set_cons_zero, List.set_cons_succ]
          refine anyS_take (i := 3) rfl (by kernel_rfl) (fun _ _ _ h => h) (Or.inl ⟨by rfl, fun Y hYb => (by (try dsimp only at hYb); go_simp; rfl)⟩) (by repeat' (first | with_reducible assumption | with_reducible exact Below.refl _ _ | with_reducible refine Below.drew ?_ | with_reducible refine below_drewN ?_ _)) ?_
          simp only [List.getElem_toArray, List.getElem_cons_succ, List.getElem_cons_zero, Act.put, List.setIfInBounds_toArray, List.set_cons_zero, List.set_cons_succ]
          refine anyS_take (i := 4) rfl (by kernel_rfl) (fun _ _ _ h => h) (Or.inl ⟨by rfl, fun Y hYb => (by (try dsimp only at hYb); go_simp; rfl)⟩) (by repeat' (first | with_reducible assumption | with_reducible exact Below.refl _ _ | with_reducible refine Below.drew ?_ | with_reducible refine below_drewN ?_ _)) ?_
          simp only [List.getElem_toArray, List.getElem_cons_succ, List.getElem_cons_zero, Act.put, List.setIfInBounds_toArray, List.set_cons_zero, List.set_cons_succ]
          refine anyS_take (i := 5) rfl (by kernel_rfl) (fun _ _ _ h => h) (Or.inl ⟨by rfl, fun Y hYb => (by (try dsimp only at hYb); go_simp; rfl)⟩) (by repeat' (first | with_reducible assumption | with_reducible exact Below.refl _ _ | with_reducible refine Below.drew ?_ | with_reducible refine below_drewN ?_ _)) ?_
          simp only [List.getElem_toArray, List.getElem_cons_succ, List.getElem_cons_zero, Act.put, List.setIfInBounds_toArray, List.set_cons_zero, List.set_cons_succ]
          refine anyS_take (i := 6) rfl (by kernel_rfl) (fun _ _ _ h => h) (Or.inl ⟨by rfl, fun Y hYb => (by (try dsimp only at hYb); go_simp; rfl)⟩) (by repeat' (first | with_reducible assumption | with_reducible exact Below.refl _ _ | with_reducible refine Below.drew ?_ | with_reducible refine below_drewN ?_ _)) ?_
          simp only [List.getElem_toArray, List.getElem_cons_succ, List.getElem_cons_zero, Act.put, List.setIfInBounds_toArray, List.set_cons_zero, List.set_cons_succ]
          refine anyS_take (i := 7) rfl (by kernel_rfl) (fun _ _ _ h => h) (Or.inl ⟨by rfl, fun Y hYb => (by (try dsimp only at hYb); go_simp; rfl)⟩) (by repeat' (first | with_reducible assumption | with_reducible exact Below.refl _ _ | with_reducible refine Below.drew ?_ | with_reducible refine below_drewN ?_ _)) ?_
          simp only [List.getElem_toArray, List.getElem_cons_succ, List.getElem_cons_zero, Act.put, List.setIfInBounds_toArray, List.set_cons_zero, List.set_cons_succ]
          refine anyS_take (i := 8) rfl (by kernel_rfl) (fun _ _ _ h => h) (Or.inl ⟨by rfl, fun Y hYb => (by (try dsimp only at hYb); go_simp; rfl)⟩) (by repeat' (first | with_reducible assumption | with_reducible exact Below.refl _ _ | with_reducible refine Below.drew ?_ | with_reducible refine below_drewN ?_ _)) ?_
          simp only [List.getElem_toArray, List.getElem_cons_succ, List.getElem_cons_zero, Act.put, List.setIfInBounds_toArray, List.set_cons_zero, List.set_cons_succ]
          refine anyS_take (i := 9) rfl (by kernel_rfl) (fun _ _ _ h => h) (Or.inl ⟨by rfl, fun Y hYb => (by (try dsimp only at hYb); go_simp; rfl)⟩) (by repeat' (first | with_reducible assumption | with_reducible exact Below.refl _ _ | with_reducible refine Below.drew ?_ | with_reducible refine below_drewN ?_ _)) ?_
          simp only [List.getElem_toArray, List.getElem_cons_succ, List.getElem_cons_zero, Act.put, List.setIfInBounds_toArray, List.set_cons_zero, List.set_cons_succ]
          refine anyS_take (i := 10) rfl (by kernel_rfl) (fun _ _ _ h => h) (Or.inl ⟨by rfl, fun Y hYb => (by (try dsimp only at hYb); go_simp; rfl)⟩) (by repeat' (first | with_reducible assumption | with_reducible exact Below.refl _ _ | with_reducible refine Below.drew ?_ | with_reducible refine below_drewN ?_ _)) ?_
          simp only [List.getElem_toArray, List.getElem_cons_succ, List.getElem_cons_zero, Act.put, List.setIfInBounds_toArray, List.set_cons_zero, List.set_cons_succ]
          refine anyS_take (i := 11) rfl (by kernel_rfl) (fun _ _ _ h => h) (Or.inl ⟨by rfl, fun Y hYb => (by (try dsimp only at hYb); go_simp; rfl)⟩) (by repeat' (first | with_reducible assumption | with_reducible exact Below.refl _ _ | with_reducible refine Below.drew ?_ | with_reducible refine below_drewN ?_ _)) ?_
          simp only [List.getElem_toArray, List.getElem_cons_succ, List.getElem_cons_zero, Act.put, List.setIfInBounds_toArray, List.set_cons_zero, List.set_cons_succ]
          refine anyS_take (i := 12) rfl (by kernel_rfl) (fun _ _ _ h => h) (Or.inl ⟨by rfl, fun Y hYb => (by (try dsimp only at hYb); go_simp; rfl)⟩) (by repeat' (first | with_reducible assumption | with_reducible exact Below.refl _ _ | with_reducible refine Below.drew ?_ | with_reducible refine below_drewN ?_ _)) ?_
          simp only [List.getElem_toArray, List.getElem_cons_succ, List.getElem_cons_zero, Act.put, List.setIfInBounds_toArray, List.set_cons_zero, List.set_cons_succ]
          refine anyS_take (i := 13) rfl (by kernel_rfl) (fun _ _ _ h => h) (Or.inl ⟨by rfl, fun Y hYb => (by (try dsimp only at hYb); go_simp; rfl)⟩) (by repeat' (first | with_reducible assumption | with_reducible exact Below.refl _ _ | with_reducible refine Below.drew ?_ | with_reducible refine below_drewN ?_ _)) ?_
          simp only [List.getElem_toArray, List.getElem_cons_succ, List.getElem_cons_zero, Act.put, List.setIfInBounds_toArray, List.set_cons_zero, List.set_cons_succ]
          refine anyS_one (i := 14) (by kernel_rfl) rfl (by rfl) (fun K hK => ?_)
          go_simp
          refine (hbe _).mono ?_
          rintro e w14 ⟨rfl, hb14⟩
          dsimp only
          have hS14 : Below wr.heap.size wr w14 := bvia (by (repeat' (first | with_reducible assumption | with_reducible exact Below.refl _ _ | with_reducible refine Below.drew ?_ | with_reducible refine below_drewN ?_ _ | with_reducible refine balloc ?_ _ | with_reducible refine bset ?_ ?_ _ | with_reducible refine Below.setCell ?_ ?_ _ | with_reducible refine Below.alloc ?_ ?_ _ | omega | (simp; done) | (simp; omega)))) hb14
          refine hK _ _ (fun _ _ => hS14) ?_
          clear hK K hb14 hbe
          rw [hbf]
          refine anyS_take (i := 15) rfl (by kernel_rfl) (fun _ _ _ h => h) (Or.inl ⟨by rfl, fun Y hYb => (by (try dsimp only at hYb); go_simp; rfl)⟩) (by repeat' (first | with_reducible assumption | with_reducible exact Below.refl _ _ | with_reducible refine Below.drew ?_ | with_reducible refine below_drewN ?_ _)) ?_
          simp only [List.getElem_toArray, List.getElem_cons_succ, List.getElem_cons_zero, Act.put, List.setIfInBounds_toArray, List.set_cons_zero, List.set_cons_succ]
          refine anyS_take (i := 16) rfl (by kernel_rfl) (fun _ _ _ h => h) (Or.inl ⟨by rfl, fun Y hYb => (by (try dsimp only at hYb); go_simp; rfl)⟩) (by repeat' (first | with_reducible assumption | with_reducible exact Below.refl _ _ | with_reducible refine Below.drew ?_ | with_reducible refine below_drewN ?_ _)) ?_
          simp only [List.getElem_toArray, List.getElem_cons_succ, List.getElem_cons_zero, Act.put, List.setIfInBounds_toArray, List.set_cons_zero, List.set_cons_succ]
          refine anyS_done (by kernel_rfl) ?_ _
          have hown : OwnN w14 W2.heap.size _ out := own_below hown hS14
          have hB := bvia hB hS14
          have c0 := s0 _ hS14; have c1 := s1 _ hS14; have c2 := s2 _ hS14; have c3 := s3 _ hS14; have c4 := s4 _ hS14; have c5 := s5 _ hS14
          have hb9 : b < w14.heap.size := by have := hS14.size; omega
          have hbs := hB.size
          clear r0 r1 r2 r3 r4 r5 s0 s1 s2 s3 s4 s5 hb hb'
          go_wp2_with (at_builtin; refine wpList_append_own _ rfl _ _ 31 rfl W2.heap.size 78 i0 _ 6 48 Tryz.underlying31 hi hz0 hz1 hz2 rfl (by decide) _ _ _ rfl (hown.alloc _) ⟨w14.heap.size, 0, none⟩ 1 1 (N6.list x) rfl rfl (cells_new _ _ _) (n6_one _) (by (try simp [maxLen]); omega) (by (try simp); omega) (by (try simp); omega) ?_; intro v' w8 hown' hgrow _)
          have hg8 := (balloc hB _).grown hgrow (by (try simp); omega) (own_base hown)
          go_roundw
          case rel => exact ⟨_, _, _, _, _, _, _, _, _, rfl, rfl, HLT.out, LB', HM.out, ownN_snoc hown', hg8⟩
          case measure => simp [lenV]; omega
        · have hM2 := hM.swap.step (fun z hz => by injection hz with hz; rw [← hz]; exact befN_asymm hbf)
          have HM := hid hM2
          clear hM hM2
          obtain ⟨b', off', rfl, hb', e0, e1, e2, e3, e4, e5⟩ := (LA'.below hB).head h10
          obtain ⟨b, off, rfl, hb, d0, d1, d2, d3, d4, d5⟩ := (LB'.below hB).head (by omega)
          have hsl : ∀ w, (Instr.slice 31 (.slice (some ⟨b, off, none⟩) nb cb) (some (.int .i64 1)) none none).run Tryz.prog w = .ok (.slice (if cb = 1 then (some ⟨b, off, none⟩ : Option Addr) else (some ⟨b, off, none⟩ : Option Addr).map (·.add (1 * 6))) (nb - 1) (cb - 1)) w := fun w => notes_slice_from (some ⟨b, off, none⟩) nb cb 1 (by omega) w
          have LT := LB'.tail
          generalize (if cb = 1 then (some ⟨b, off, none⟩ : Option Addr) else (some ⟨b, off, none⟩ : Option Addr).map (·.add (1 * 6))) = pt at *
          have HLT := hid LT
          clear LT
          go_wp2_with fail
          have r0 : ∀ Y, Below wr.heap.size wr Y → Y.cell? ⟨b', off', none⟩ = some (.int .i64 x.st) := fun Y h => (bcell h _ _ hb').trans e0
          have r1 : ∀ Y, Below wr.heap.size wr Y → Y.cell? ⟨b', off' + 1, none⟩ = some (.int .i64 x.fr) := fun Y h => (bcell h _ _ hb').trans e1
          have r2 : ∀ Y, Below wr.heap.size wr Y → Y.cell? ⟨b', off' + 2, none⟩ = some (.int .i64 x.to) := fun Y h => (bcell h _ _ hb').trans e2
          have r3 : ∀ Y, Below wr.heap.size wr Y → Y.cell? ⟨b', off' + 3, none⟩ = some (.int .i64 x.ce) := fun Y h => (bcell h _ _ hb').trans e3
          have r4 : ∀ Y, Below wr.heap.size wr Y → Y.cell? ⟨b', off' + 4, none⟩ = some (.int .i64 x.di) := fun Y h => (bcell h _ _ hb').trans e4
          have r5 : ∀ Y, Below wr.heap.size wr Y → Y.cell? ⟨b', off' + 5, none⟩ = some (.int .i64 x.co) := fun Y h => (bcell h _ _ hb').trans e5
          have s0 : ∀ Y, Below wr.heap.size wr Y → Y.cell? ⟨b, off, none⟩ = some (.int .i64 y.st) := fun Y h => (bcell h _ _ hb).trans d0
          have s1 : ∀ Y, Below wr.heap.size wr Y → Y.cell? ⟨b, off + 1, none⟩ = some (.int .i64 y.fr) := fun Y h => (bcell h _ _ hb).trans d1
          have s2 : ∀ Y, Below wr.heap.size wr Y → Y.cell? ⟨b, off + 2, none⟩ = some (.int .i64 y.to) := fun Y h => (bcell h _ _ hb).trans d2
          have s3 : ∀ Y, Below wr.heap.size wr Y → Y.cell? ⟨b, off + 3, none⟩ = some (.int .i64 y.ce) := fun Y h => (bcell h _ _ hb).trans d3
          have s4 : ∀ Y, Below wr.heap.size wr Y → Y.cell? ⟨b, off + 4, none⟩ = some (.int .i64 y.di) := fun Y h => (bcell h _ _ hb).trans d4
          have s5 : ∀ Y, Below wr.heap.size wr Y → Y.cell? ⟨b, off + 5, none⟩ = some (.int .i64 y.co) := fun Y h => (bcell h _ _ hb).trans d5
          have hbe := fun V => ref5_before y x V
          clear d0 d1 d2 d3 d4 d5 e0 e1 e2 e3 e4 e5
          refine wp_region_S (fun Y => Below wr.heap.size wr Y) 17 (by kernel_rfl) ?_
          refine anyS_take (i := 0) rfl (by kernel_rfl) (fun _ _ _ h => h) (Or.inl ⟨by rfl, fun Y hYb => (by (try dsimp only at hYb); go_simp; rfl)⟩) (by repeat' (first | with_reducible assumption | with_reducible exact Below.refl _ _ | with_reducible refine Below.drew ?_ | with_reducible refine below_drewN ?_ _)) ?_
          simp only [List.getElem_toArray, List.getElem_cons_succ, List.getElem_cons_zero, Act.put, List.setIfInBounds_toArray, List.set_cons_zero, List.set_cons_succ]
          refine anyS_take (i := 1) rfl (by kernel_rfl) (fun _ _ _ h => h) (Or.inl ⟨by rfl, fun Y hYb => (by (try dsimp only at hYb); go_simp; rfl)⟩) (by repeat' (first | with_reducible assumption | with_reducible exact Below.refl _ _ | with_reducible refine Below.drew ?_ | with_reducible refine below_drewN ?_ _)) ?_
          simp only [List.getElem_toArray, List.getElem_cons_succ, List.getElem_cons_zero, Act.put, List.setIfInBounds_toArray, List.set_cons_zero, List.set_cons_succ]
          refine anyS_take (i := 2) rfl (by kernel_rfl) (fun _ _ _ h => h) (Or.inl ⟨by rfl, fun Y hYb => (by (try dsimp only at hYb); go_simp; rfl)⟩) (by repeat' (first | with_reducible assumption | with_reducible exact Below.refl _ _ | with_reducible refine Below.drew ?_ | with_reducible refine below_drewN ?_ _)) ?_
          simp only [List.getElem_toArray, List.getElem_cons_succ, List.getElem_cons_zero, Act.put, List.setIfInBounds_toArray, List.set_cons_zero, List.set_cons_succ]
          refine anyS_take (i := 3) rfl (by kernel_rfl) (fun _ _ _ h => h) (Or.inl ⟨by rfl, fun Y hYb => (by (try dsimp only at hYb); go_simp; rfl)⟩) (by repeat' (first | with_reducible assumption | with_reducible exact Below.refl _ _ | with_reducible refine Below.drew ?_ | with_reducible refine below_drewN ?_ _)) ?_
          simp only [List.getElem_toArray, List.getElem_cons_succ, List.getElem_cons_zero, Act.put, List.setIfInBounds_toArray, List.set_cons_zero, List.set_cons_succ]
          refine anyS_take (i := 4) rfl (by kernel_rfl) (fun _ _ _ h => h) (Or.inl ⟨by rfl, fun Y hYb => (by (try dsimp only at hYb); go_simp; rfl)⟩) (by repeat' (first | with_reducible assumption | with_reducible exact Below.refl _ _ | with_reducible refine Below.drew ?_ | with_reducible refine below_drewN ?_ _)) ?_
          simp only [List.getElem_toArray, List.getElem_cons_succ, List.getElem_cons_zero, Act.put, List.setIfInBounds_toArray, List.set_cons_zero, List.set_cons_succ]
          refine anyS_take (i := 5) rfl (by kernel_rfl) (fun _ _ _ h => h) (Or.inl ⟨by rfl, fun Y hYb => (by (try dsimp only at hYb); go_simp; rfl)⟩) (by repeat' (first | with_reducible assumption | with_reducible exact Below.refl _ _ | with_reducible refine Below.drew ?_ | with_reducible refine below_drewN ?_ _)) ?_
          simp only [List.getElem_toArray, List.getElem_cons_succ, List.getElem_cons_zero, Act.put, List.setIfInBounds_toArray, List.set_cons_zero, List.set_cons_succ]
          refine anyS_take (i := 6) rfl (by kernel_rfl) (fun _ _ _ h => h) (Or.inl ⟨by rfl, fun Y hYb => (by (try dsimp only at hYb); go_simp; rfl)⟩) (by repeat' (first | with_reducible assumption | with_reducible exact Below.refl _ _ | with_reducible refine Below.drew ?_ | with_reducible refine below_drewN ?_ _)) ?_
          simp only [List.getElem_toArray, List.getElem_cons_succ, List.getElem_cons_zero, Act.put, List.setIfInBounds_toArray, List.set_cons_zero, List.set_cons_succ]
          refine anyS_take (i := 7) rfl (by kernel_rfl) (fun _ _ _ h => h) (Or.inl ⟨by rfl, fun Y hYb => (by (try dsimp only at hYb); go_simp; rfl)⟩) (by repeat' (first | with_reducible assumption | with_reducible exact Below.refl _ _ | with_reducible refine Below.drew ?_ | with_reducible refine below_drewN ?_ _)) ?_
          simp only [List.getElem_toArray, List.getElem_cons_succ, List.getElem_cons_zero, Act.put, List.setIfInBounds_toArray, List.set_cons_zero, List.set_cons_succ]
          refine anyS_take (i := 8) rfl (by kernel_rfl) (fun _ _ _ h => h) (Or.inl ⟨by rfl, fun Y hYb => (by (try dsimp only at hYb); go_simp; rfl)⟩) (by repeat' (first | with_reducible assumption | with_reducible exact Below.refl _ _ | with_reducible refine Below.drew ?_ | with_reducible refine below_drewN ?_ _)) ?_
          simp only [List.getElem_toArray, List.getElem_cons_succ, List.getElem_cons_zero, Act.put, List.setIfInBounds_toArray, List.set_cons_zero, List.set_cons_succ]
          refine anyS_take (i := 9) rfl (by kernel_rfl) (fun _ _ _ h => h) (Or.inl ⟨by rfl, fun Y hYb => (by (try dsimp only at hYb); go_simp; rfl)⟩) (by repeat' (first | with_reducible assumption | with_reducible exact Below.refl _ _ | with_reducible refine Below.drew ?_ | with_reducible refine below_drewN ?_ _)) ?_
          simp only [List.getElem_toArray, List.getElem_cons_succ, List.getElem_cons_zero, Act.put, List.setIfInBounds_toArray, List.set_cons_zero, List.set_cons_succ]
          refine anyS_take (i := 10) rfl (by kernel_rfl) (fun _ _ _ h => h) (Or.inl ⟨by rfl, fun Y hYb => (by (try dsimp only at hYb); go_simp; rfl)⟩) (by repeat' (first | with_reducible assumption | with_reducible exact Below.refl _ _ | with_reducible refine Below.drew ?_ | with_reducible refine below_drewN ?_ _)) ?_
          simp only [List.getElem_toArray, List.getElem_cons_succ, List.getElem_cons_zero, Act.put, List.setIfInBounds_toArray, List.set_cons_zero, List.set_cons_succ]
          refine anyS_take (i := 11) rfl (by kernel_rfl) (fun _ _ _ h => h) (Or.inl ⟨by rfl, fun Y hYb => (by (try dsimp only at hYb); go_simp; rfl)⟩) (by repeat' (first | with_reducible assumption | with_reducible exact Below.refl _ _ | with_reducible refine Below.drew ?_ | with_reducible refine below_drewN ?_ _)) ?_
          simp only [List.getElem_toArray, List.getElem_cons_succ, List.getElem_cons_zero, Act.put, List.setIfInBounds_toArray, List.set_cons_zero, List.set_cons_succ]
          refine anyS_take (i := 12) rfl (by kernel_rfl) (fun _ _ _ h => h) (Or.inl ⟨by rfl, fun Y hYb => (by (try dsimp only at hYb); go_simp; rfl)⟩) (by repeat' (first | with_reducible assumption | with_reducible exact Below.refl _ _ | with_reducible refine Below.drew ?_ | with_reducible refine below_drewN ?_ _)) ?_
          simp only [List.getElem_toArray, List.getElem_cons_succ, List.getElem_cons_zero, Act.put, List.setIfInBounds_toArray, List.set_cons_zero, List.set_cons_succ]
          refine anyS_take (i := 13) rfl (by kernel_rfl) (fun _ _ _ h => h) (Or.inl ⟨by rfl, fun Y hYb => (by (try dsimp only at hYb); go_simp; rfl)⟩) (by repeat' (first | with_reducible assumption | with_reducible exact Below.refl _ _ | with_reducible refine Below.drew ?_ | with_reducible refine below_drewN ?_ _)) ?_
          simp only [List.getElem_toArray, List.getElem_cons_succ, List.getElem_cons_zero, Act.put, List.setIfInBounds_toArray, List.set_cons_zero, List.set_cons_succ]
          refine anyS_one (i := 14) (by kernel_rfl) rfl (by rfl) (fun K hK => ?_)
          go_simp
          refine (hbe _).mono ?_
          rintro e w14 ⟨rfl, hb14⟩
          dsimp only
          have hS14 : Below wr.heap.size wr w14 := bvia (by (repeat' (first | with_reducible assumption | with_reducible exact Below.refl _ _ | with_reducible refine Below.drew ?_ | with_reducible refine below_drewN ?_ _ | with_reducible refine balloc ?_ _ | with_reducible refine bset ?_ ?_ _ | with_reducible refine Below.setCell ?_ ?_ _ | with_reducible refine Below.alloc ?_ ?_ _ | omega | (simp; done) | (simp; omega)))) hb14
          refine hK _ _ (fun _ _ => hS14) ?_
          clear hK K hb14 hbe
          rw [hbf]
          refine anyS_take (i := 15) rfl (by kernel_rfl) (fun _ _ _ h => h) (Or.inl ⟨by rfl, fun Y hYb => (by (try dsimp only at hYb); go_simp; rfl)⟩) (by repeat' (first | with_reducible assumption | with_reducible exact Below.refl _ _ | with_reducible refine Below.drew ?_ | with_reducible refine below_drewN ?_ _)) ?_
          simp only [List.getElem_toArray, List.getElem_cons_succ, List.getElem_cons_zero, Act.put, List.setIfInBounds_toArray, List.set_cons_zero, List.set_cons_succ]
          refine anyS_take (i := 16) rfl (by kernel_rfl) (fun _ _ _ h => h) (Or.inl ⟨by rfl, fun Y hYb => (by (try dsimp only at hYb); go_simp; rfl)⟩) (by repeat' (first | with_reducible assumption | with_reducible exact Below.refl _ _ | with_reducible refine Below.drew ?_ | with_reducible refine below_drewN ?_ _)) ?_
          simp only [List.getElem_toArray, List.getElem_cons_succ, List.getElem_cons_zero, Act.put, List.setIfInBounds_toArray, List.set_cons_zero, List.set_cons_succ]
          refine anyS_done (by kernel_rfl) ?_ _
          have hown : OwnN w14 W2.heap.size _ out := own_below hown hS14
          have hB := bvia hB hS14
          have c0 := s0 _ hS14; have c1 := s1 _ hS14; have c2 := s2 _ hS14; have c3 := s3 _ hS14; have c4 := s4 _ hS14; have c5 := s5 _ hS14
          have hb9 : b < w14.heap.size := by have := hS14.size; omega
          have hbs := hB.size
          clear r0 r1 r2 r3 r4 r5 s0 s1 s2 s3 s4 s5 hb hb'
          go_wp2_with (at_builtin; refine wpList_append_own _ rfl _ _ 31 rfl W2.heap.size 78 i0 _ 6 48 Tryz.underlying31 hi hz0 hz1 hz2 rfl (by decide) _ _ _ rfl (hown.alloc _) ⟨w14.heap.size, 0, none⟩ 1 1 (N6.list y) rfl rfl (cells_new _ _ _) (n6_one _) (by (try simp [maxLen]); omega) (by (try simp); omega) (by (try simp); omega) ?_; intro v' w8 hown' hgrow _)
          have hg8 := (balloc hB _).grown hgrow (by (try simp); omega) (own_base hown)
          go_roundw
          case rel => exact ⟨_, _, _, _, _, _, _, _, _, rfl, rfl, HLT.out, LA', HM.out, ownN_snoc hown', hg8⟩
          case measure => simp [lenV]; omega
theorem ref5_Sorted (a : Option Addr) (n c : Nat) (p : Nat → N6) (w : World) (hn : n ≤ 1000000) (hc : n ≤ c) (hac : a = none → c = 0) (H : Sn w a n p) :
    Calls Tryz.prog 17 #[.slice a n c] w fun e w' => ∃ v, e = .returned v ∧ OwnN w' w.heap.size v (sortN (lstN p n)) ∧ Below w.heap.size w w' :=
  ref5_SortedN n n (Nat.le_refl _) a c p w hn hc hac H
theorem listR_of_own2 {w : World} {base : Nat} {v : Value} {xs : List N6} (h : OwnN w base v xs) : ∃ p c, v = .slice p xs.length c ∧ ListR w p xs.length c xs ∧ (p = none → c = 0) := by
  obtain ⟨p, c, rfl, hl⟩ := listR_of_own h
  refine ⟨p, c, rfl, hl, fun e => ?_⟩
  rcases h.2 with ⟨e2, _⟩ | ⟨g, cap, cur, e2, _⟩
  · injection e2
  · injection e2 with e3; rw [e] at e3; cases e3
theorem own_listR {w : World} {base : Nat} {p : Option Addr} {n c : Nat} {xs : List N6} (h : OwnN w base (.slice p n c) xs) : ListR w p n c xs := by
  obtain ⟨p', c', e, hl⟩ := listR_of_own h
  injection e with e1 e2 e3
  subst e1 e2 e3
  exact hl
/-- two own lists of which the one was made behind the other lie apart -/
theorem own_dis {w w5 : World} {base b5 : Nat} {v vn : Value} {xs D : List N6} (h : OwnN w base v xs) (h5 : OwnN w5 b5 vn D) (hb : w.heap.size ≤ b5) : ∀ g, vn.ownBlock = some g → v.ownBlock ≠ some g := fun g hg e => by
  have h1 := own_base h5 g hg
  have h2 := own_lt h g e
  omega
/-- .. and do so when the one grows -/
theorem own_dis_app {w : World} {b5 : Nat} {v v' vn : Value} {D : List N6} (h5 : OwnN w b5 vn D) (h : ∀ g, vn.ownBlock = some g → v.ownBlock ≠ some g) {k : Nat} (hk : w.heap.size ≤ k) (hv : v'.ownBlock = v.ownBlock ∨ v'.ownBlock = some k) : ∀ g, vn.ownBlock = some g → v'.ownBlock ≠ some g := fun g hg e => by
  rcases hv with hv | hv
  · rw [hv] at e; exact h g hg e
  · rw [hv] at e
    injection e with e
    have := own_lt h5 g hg
    omega
end Go.Proofs.YtmmjaobpoiofdaaGreat
