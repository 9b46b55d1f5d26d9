/- Walks: streaming a grid, of the program. Walks: the program's streamed, Stream and Unstream. Walks: the program's steps of a grid: collided, forth. -/
import Derived.Test.YtpbobhobhbbimaaGreatDoorPk14
import Derived.Test.YtpbobhobhbbimaaGreatDoorPk3
import Derived.Test.YtpbobhobhbbimaaGreatDoorPk1
import Derived.Test.YtpbobhobhbbimaaGreatDoorPk11
import Derived.LoopIn
import Derived.Sort.CutIn
import Derived.LoopNIn
import Derived.TacticsInMore
import Derived.Shelf.Abstract
import Derived.Laws.EntriesVeiled
import Derived.Test.YtpbobhobhbbimaaGreatDoorPk16
import Derived.Test.YtpbobhobhbbimaaGreatDoorPk12
import Derived.Test.YtpbobhobhbbimaaGreatDoorPk13
import Derived.Test.YtpbobhobhbbimaaGreatDoorPk6
import Derived.Test.YtpbobhobhbbimaaGreatDoorPk5
import Derived.RangeFuncLeaves
import Derived.Test.YtpbobhobhbbimaaGreatDoorPk10
namespace Go.Proofs.YtpbobhobhbbimaaGreatDoor
open Go Go.RowKit
set_option linter.unusedVariables false
/-! ### plain: particles sent to their places -/
/-! ### walks -/
theorem mk_cap (n : Nat) (hn : n ≤ 100000000) (w : World) :
    (Instr.makeSlice 22 (.int .i64 0) (.int .i64 (n : Int))).run Tryz.prog w = .ok (.slice (some ⟨w.heap.size, 0, none⟩) 0 n) (w.alloc (.cells (ccells n) 49)) := by
  obtain ⟨i0, hi, hz0, hz1, hz2⟩ := info_parts infoC
  have hr := run_make (P := Tryz.prog) w 22 49 i0 _ Tryz.underlying22 hi hz0 .i64 .i64 0 n (by omega) (by omega) (by rw [hz2]; omega) (by omega)
  simp only [Int.toNat_natCast, hz1] at hr
  exact hr
set_option maxRecDepth 100000 in
set_option maxHeartbeats 1000000 in
theorem grid_of (W H : Nat) (a : Option Addr) (n ca : Nat) (g : Nat → C4) (w : World) (hn : n ≤ 100000) (h0 : 0 < n) (S : Sc w a n g) : Calls Tryz.prog 65 #[.agg #[.int .i64 (W : Int), .int .i64 (H : Int), .slice a n ca]] w (GridRow W H n g w) := by
  obtain ⟨i0, hi, hz0, hz1, hz2⟩ := info_parts infoC
  obtain ⟨b, o, rfl, hlt, _⟩ := S 0 h0
  have hmk := fun W' => mk_cap n (by omega) W'
  have X0 := (Bx.new w #[.int .i64 (W : Int), .int .i64 (H : Int), .slice (some ⟨b, o, none⟩) n ca] 24).alloc (.cells #[.int .i64 0, .int .i64 0, .slice none 0 0] 91)
  have X1 := Bx.new (w.alloc (.cells #[.int .i64 (W : Int), .int .i64 (H : Int), .slice (some ⟨b, o, none⟩) n ca] 24)) #[.int .i64 0, .int .i64 0, .slice none 0 0] 91
  simp only [World.size_alloc] at X1
  have hB0 : Below w.heap.size w ((w.alloc (.cells #[.int .i64 (W : Int), .int .i64 (H : Int), .slice (some ⟨b, o, none⟩) n ca] 24)).alloc (.cells #[.int .i64 0, .int .i64 0, .slice none 0 0] 91)) := by (repeat' (first | with_reducible assumption | with_reducible exact Below.refl _ _ | with_reducible refine Below.drew ?_ | with_reducible refine below_drewN ?_ _ | with_reducible refine balloc ?_ _ | with_reducible refine bset ?_ ?_ _ | with_reducible refine Below.setCell ?_ ?_ _ | with_reducible refine Below.alloc ?_ ?_ _ | omega | (simp; done) | (simp; omega)))
  go_enter Tryz.func65, Tryz.ntmps65
  go_upto_region 2 with (fail)
  generalize ((w.alloc (.cells #[.int .i64 (W : Int), .int .i64 (H : Int), .slice (some ⟨b, o, none⟩) n ca] 24)).alloc (.cells #[.int .i64 0, .int .i64 0, .slice none 0 0] 91)) = W0 at X0 X1 hB0 ⊢
  have z0 := X0.lt
  have z1 := X1.lt
  have hs0 := hB0.size
  have r2 : ∀ X, Below W0.heap.size W0 X → X.cell? ⟨w.heap.size, 2, none⟩ = some (.slice (some ⟨b, o, none⟩) n ca) := fun X h => (X0.below h).at_ 2 rfl
  refine wp_region_S (fun X => Below W0.heap.size W0 X) 9 (by kernel_rfl) ?_
  refine anyS_take (i := 0) rfl (by kernel_rfl) (fun _ _ _ h => h) (Or.inl ⟨by rfl, fun Y hYb => (by (try dsimp only at hYb); go_simp; rfl)⟩) (by repeat' (first | with_reducible assumption | with_reducible exact Below.refl _ _ | with_reducible refine Below.drew ?_ | with_reducible refine below_drewN ?_ _)) ?_
  refine anyS_take (i := 2) rfl (by kernel_rfl) (fun _ _ _ h => h) (Or.inl ⟨by rfl, fun Y hYb => (by (try dsimp only at hYb); go_simp; rfl)⟩) (by repeat' (first | with_reducible assumption | with_reducible exact Below.refl _ _ | with_reducible refine Below.drew ?_ | with_reducible refine below_drewN ?_ _)) ?_
  refine anyS_take (i := 3) rfl (by kernel_rfl) (fun _ _ _ h => h) (Or.inl ⟨by rfl, fun Y hYb => (by (try dsimp only at hYb); go_simp; rfl)⟩) (by repeat' (first | with_reducible assumption | with_reducible exact Below.refl _ _ | with_reducible refine Below.drew ?_ | with_reducible refine below_drewN ?_ _)) ?_
  refine anyS_take (i := 5) rfl (by kernel_rfl) (fun _ _ _ h => h) (Or.inl ⟨by rfl, fun Y hYb => (by (try dsimp only at hYb); go_simp; rfl)⟩) (by repeat' (first | with_reducible assumption | with_reducible exact Below.refl _ _ | with_reducible refine Below.drew ?_ | with_reducible refine below_drewN ?_ _)) ?_
  refine anyS_take (i := 6) rfl (by kernel_rfl) (fun _ _ _ h => h) (Or.inl ⟨by rfl, fun Y hYb => (by (try dsimp only at hYb); go_simp; rfl)⟩) (by repeat' (first | with_reducible assumption | with_reducible exact Below.refl _ _ | with_reducible refine Below.drew ?_ | with_reducible refine below_drewN ?_ _)) ?_
  refine anyS_one (i := 1) (by kernel_rfl) rfl (by rfl) (fun K hK => ?_)
  go_simp
  have hS1 : Below W0.heap.size W0 (W0.alloc (.cells (ccells n) 49)).drew := (below_alloc W0 _).drew
  have own0 : (W0.alloc (.cells (ccells n) 49)).drew.ownsRow W0.heap.size 49 4 (.slice (some ⟨W0.heap.size, 0, none⟩) 0 n) 0 [] := World.ownsRow_made W0 (ccells n) n (Nat.le_refl _) (by simp [maxLen]; omega) (by simp [ccells, size_madeCells])
  have HN := hid (sc_row ((S.below hB0).below hS1))
  generalize (W0.alloc (.cells (ccells n) 49)).drew = W1 at *
  have hs1 := hS1.size
  refine hK _ _ (fun _ _ => hS1) ?_
  clear hK K
  refine anyS_one (i := 4) (by kernel_rfl) rfl (by rfl) (fun K hK => ?_)
  refine wp_append_lies _ _ _ 22 rfl W0.heap.size 49 i0 _ 4 32 Tryz.underlying22 hi hz0 hz1 hz2 rfl (by decide) (.slice (some ⟨W0.heap.size, 0, none⟩) 0 n) 0 [] rfl own0 ⟨b, o, none⟩ n ca (rowC g n) rfl (rowC_length g n) HN.out (rowC_one g n) h0 (by simp only [maxLen]; omega) (by omega) hs1 _ rfl ?_
  intro g' cap w5 hown hgr hat hlt5
  simp only [Nat.zero_add, List.nil_append] at hown ⊢
  obtain ⟨hb', R⟩ := roC_of_own hown h0
  have hcap : n ≤ cap ∧ cap ≤ maxLen := by
    rcases hown.2 with ⟨_, h⟩ | ⟨g2, cap2, cur, hv, _, _, h, h2, _⟩
    · omega
    · injection hv with _ _ h'; subst h'; exact ⟨h, h2⟩
  obtain ⟨hcap, hcm⟩ := hcap
  have hS5 : Below W0.heap.size W0 w5 := hS1.grown hgr hs1 (fun k hk => by simp [Value.ownBlock] at hk; omega)
  clear hown hgr hat own0 HN
  refine hK _ _ (fun _ _ => hS5) ?_
  clear hK K
  unfold maxLen at hcm
  have hne : ¬ n = 0 := by omega
  refine anyS_take (i := 7) rfl (by kernel_rfl) (fun _ _ _ h => h) (Or.inl ⟨by rfl, fun Y hYb => (by (try dsimp only at hYb); go_simp; rfl)⟩) (by repeat' (first | with_reducible assumption | with_reducible exact Below.refl _ _ | with_reducible refine Below.drew ?_ | with_reducible refine below_drewN ?_ _)) ?_
  refine anyS_take (i := 8) rfl (by kernel_rfl) (fun _ _ _ h => h) (Or.inl ⟨by rfl, fun Y hYb => (by (try dsimp only at hYb); go_simp; rfl)⟩) (by repeat' (first | with_reducible assumption | with_reducible exact Below.refl _ _ | with_reducible refine Below.drew ?_ | with_reducible refine below_drewN ?_ _)) ?_
  replace X0 := X0.below hS5
  replace X1 := X1.below hS5
  have hB := bvia hB0 hS5
  clear r2 hS1 hS5
  have X0_0 := X0.at_ 0 rfl
  have X0_1 := X0.at_ 1 rfl
  have X0_2 := X0.at_ 2 rfl
  have X0f := X0.free
  have X0z := X0.lt
  have X1_0 := X1.at_ 0 rfl
  have X1_1 := X1.at_ 1 rfl
  have X1_2 := X1.at_ 2 rfl
  have X1f := X1.free
  have X1z := X1.lt
  refine anyS_one (i := 9) (by kernel_rfl) rfl (by rfl) (fun K hK => ?_)
  go_simp
  refine hK _ _ (fun h _ => absurd h (by decide)) ?_
  clear hK K
  refine anyS_done (by kernel_rfl) ?_ _
  go_wp2_with fail
  refine bodyPost_ret (v := .agg #[.int .i64 (W : Int), .int .i64 (H : Int), .slice (some ⟨g', 0, none⟩) n n]) (by simp [results, Tryz.results65, go_sem, X1_0, X1_1, X1_2]) rfl ⟨g', n, rfl, by omega, by (repeat' (first | with_reducible assumption | with_reducible refine Ro.drew ?_ | with_reducible refine Ro.drewN ?_ _ | with_reducible refine Ro.alloc ?_ _ | with_reducible refine Ro.far ?_ ?_ _ | (show _ ≠ _; dsimp only; omega))), Nat.le_refl _, by (repeat' (first | with_reducible assumption | with_reducible exact Below.refl _ _ | with_reducible refine Below.drew ?_ | with_reducible refine below_drewN ?_ _ | with_reducible refine balloc ?_ _ | with_reducible refine bset ?_ ?_ _ | with_reducible refine Below.setCell ?_ ?_ _ | with_reducible refine Below.alloc ?_ ?_ _ | omega | (simp; done) | (simp; omega)))⟩
end Go.Proofs.YtpbobhobhbbimaaGreatDoor
namespace Go.Proofs.YtpbobhobhbbimaaGreatDoor
open Go Go.RowKit
set_option linter.unusedVariables false
theorem validG_of {W H : Nat} {g : Nat → C4} (h1 : 1 ≤ W ∧ W ≤ 64) (h2 : 1 ≤ H ∧ H ≤ 64) (hm : W * H ≤ 1024) (hv : okG (W * H) g) : validG (W : Int) (H : Int) (W * H) g = true := by
  rw [validG_iff]
  have e : (W : Int) * (H : Int) = ((W * H : Nat) : Int) := by simp
  exact ⟨by omega, by omega, by omega, by omega, by rw [e]; omega, by rw [e], hv.1, hv.2⟩
theorem field_grid (x y z : Value) : ∀ w : World, (Instr.field 91 (.agg #[x, y, z]) 0).run Tryz.prog w = .ok (.agg #[x, y, z]) w := fun w => by kernel_rfl
/-- a grid of its own, and no error -/
def GridRow0 (W H n : Nat) (g : Nat → C4) (w : World) (e : Ending) (w' : World) : Prop :=
  ∃ b cap, e = .returned (.tuple #[.agg #[.int .i64 (W : Int), .int .i64 (H : Int), .slice (some ⟨b, 0, none⟩) n cap], .int .i64 0]) ∧ w.heap.size ≤ b ∧ Ro w' b (n * 4) (flatC g) ∧ n ≤ cap ∧ Below w.heap.size w w'
end Go.Proofs.YtpbobhobhbbimaaGreatDoor
namespace Go.Proofs.YtpbobhobhbbimaaGreatDoor
open Go Go.RowKit
set_option linter.unusedVariables false
theorem But.setN {C : Nat → Prop} {X Y : World} (h : But C X Y) {p : Addr} (hp : X.heap.size ≤ p.block) (u : Value) : But C X (Y.setCell p u) :=
  ⟨h.os, h.tape, h.output, by simpa [World.setCell] using h.size, fun b hb hc => (Below.heap_setCell Y p u b (fun e => by omega)).trans (h.block b hb hc)⟩
end Go.Proofs.YtpbobhobhbbimaaGreatDoor
/- Walks: the program's run of a grid: steps, run. Walks: the program's run of a grid. Walks: the program's Run and Step of a grid. -/
namespace Go.Proofs.YtpbobhobhbbimaaGreatDoor
open Go Go.RowKit
attribute [local go_sem] Oper.semAt_some
set_option linter.unusedVariables false
theorem GRun.Ro.but {C : Nat → Prop} {X Y : World} {b n : Nat} {f : Nat → Int} (h : Ro X b n f) (hb : But C X Y) (hc : ¬ C b) : Ro Y b n f := by
  have e := hb.block b h.lt hc
  refine ⟨Nat.lt_of_lt_of_le h.lt hb.size, fun i hi => ?_, fun i => ?_⟩
  · rw [World.cell?_of_block (w := X) (a := ⟨b, i, none⟩) e]; exact h.cells i hi
  · rw [World.frozen?_of_block (w := X) (a := ⟨b, i, none⟩) e]; exact h.free i
end Go.Proofs.YtpbobhobhbbimaaGreatDoor
/- Plain: rounds of all nodes let each go on; where all nodes have come as far, what they hold and what is in the post is the grid; a grid's cells after t steps are those of its run. Walks: the rounds of Run, as an iterator; Run, of the program: the grid after as many steps. Walks: the reference's run of a grid without walls: collided, step, runError, Run; and that of nodes. -/
namespace Go.Proofs.YtpbobhobhbbimaaGreatDoor
open Go Go.RowKit
set_option linter.unusedVariables false
section
variable {W H : Nat} {o : Nat → Int} {no rn : Nat} {ru : Nat → Int × Int} {g : Nat → C4} {n : Int} {X : Ply}
theorem node_ex (ho : ∀ k, k < no → 0 ≤ o k ∧ o k ≤ 7) {i : Nat} (hi : i < no) : ∃ k, k < (nodeL o no 8).length ∧ (nodeL o no 8).getD k 0 = o i := by
  obtain ⟨k, h1, h2, _⟩ := node_has ho (x := o i) ⟨i, hi, rfl⟩
  exact ⟨k, h1, h2⟩
theorem addTo_at {p : Nat → N6} {nd st : Int} {G G' : Nat → C4} {i : Nat} (hG : G i = G' i) : ∀ {q}, (∀ k, k < q → (p k).ce.toNat = i → mineB nd st (p k) = true) → addTo G p q i = addM nd st G' p q i
  | 0, _ => hG
  | q + 1, h => by
    have ih := addTo_at hG (q := q) fun k hk => h k (by omega)
    simp only [addTo, addM]
    by_cases e : (p q).ce.toNat = i
    · rw [if_pos (h q (by omega) e)]
      unfold addC updC
      rw [if_pos e.symm, if_pos e.symm, e, ih]
    · have e2 : ¬ i = (p q).ce.toNat := fun hh => e hh.symm
      split
      · unfold addC updC
        rw [if_neg e2, if_neg e2]; exact ih
      · unfold addC updC
        rw [if_neg e2]; exact ih
/-- sites and post, put together, are the grid -/
theorem ply_grid {F : Nat → SiteR} {N : Nat} (hno : no = W * H) (hg : (∀ i, i < W * H → validC (g i) = true) ∧ massTo g (W * H) ≤ 1000000000) (hn : n ≤ 1000000) (ho : ∀ k, k < no → 0 ≤ o k ∧ o k ≤ 7) (I : PlyI W H o no rn ru g n X) (hst : ∀ k, k < (nodeL o no 8).length → X.st ((nodeL o no 8).getD k 0) = N)
    (h : ∀ j, j < (nodeL o no 8).length → siteQ o no X.st X.G ((nodeL o no 8).getD j 0) (F j)) {i : Nat} (hi : i < no) : addTo (layS F (nodeL o no 8).length) (pF X.P) X.P.length i = gT W H rn ru g N i := C4.ext' fun d hd => by
  have hp := ply_post hno hg hn I
  have hall : ∀ j, j < no → X.st (o j) = N := fun j hj => by
    obtain ⟨k, hk, e⟩ := node_ex ho hj
    rw [← e]; exact hst k hk
  have hlay : layS F (nodeL o no 8).length i = X.G i := by
    have h2 := layS_grid (o := o) (no := no) (g := X.G) (F := fun j => { F j with st := 0 }) ho rfl (fun j hj => by
      obtain ⟨q1, q2, q3, q4, q5⟩ := h j hj
      exact ⟨q1, rfl, q3, q4, q5⟩) i hi
    have h4 : ∀ (s : SiteR) (G : Nat → C4) k, layTo G { s with st := 0 } k = layTo G s k := by
      intro s G k
      induction k with
      | zero => rfl
      | succ k ih => simp only [layTo, ih]
    have h3 : ∀ k, layS (fun j => { F j with st := 0 }) k = layS F k := by
      intro k
      induction k with
      | zero => rfl
      | succ k ih => simp only [layS, ih, h4]
    rw [h3] at h2
    exact h2
  have hnb : nbT W H i d < no := by rw [hno]; exact nbT_lt (by omega) hd
  have hsi := hall i hi
  have hmine : ∀ k, k < X.P.length → (pF X.P k).ce.toNat = i → mineB (o i) N (pF X.P k) = true := fun k hk e => by
    obtain ⟨t, i', d', q1, q2, q3, q4, q5, q6, e2⟩ := I.note _ (pF_mem hk)
    rw [e2] at e ⊢
    have e3 : i' = i := by
      have : ((i' : Int)).toNat = i := e
      omega
    subst e3
    have hnb' : nbT W H i' d' < no := by rw [hno]; exact nbT_lt (by omega) q2
    rw [hall _ hi] at q5; rw [hall _ hnb'] at q6
    unfold mineB
    rw [Bool.and_eq_true, decide_eq_true_iff, decide_eq_true_iff]
    exact ⟨rfl, by show (t : Int) = N; omega⟩
  rw [addTo_at (nd := o i) (st := N) (G' := layS F (nodeL o no 8).length) rfl hmine, addM_get (postB_iff.1 hp).2.1 (postB_iff.1 hp).2.2 i d hd, hlay, I.val i d hi hd, hsi]
  have hmet : ∀ j, j < X.P.length → plcB (pF X.P j) (plN o W H (o i) N i d) = true → o (nbT W H i d) ≠ o i ∧ 1 ≤ N ∧ (pF X.P j).co = (gT W H rn ru g N i).get d := fun j hj hpl => by
    obtain ⟨t, q1, q2, q3, q4, q5, q6, q7, q8⟩ := ply_at (x := pF X.P j) I (pF_mem hj) (plcB_pl.1 hpl)
    have : N = t := by omega
    subst this
    refine ⟨q4, by omega, ?_⟩
    rw [q8]; rfl
  by_cases h0 : N = 0
  · subst h0
    rw [if_pos (show ((0 : Nat) : Int) = 0 from rfl)]
    have : inV o W H (o i) ((0 : Nat) : Int) (pF X.P) X.P.length i d = 0 := by
      unfold inV
      refine if_neg fun ⟨_, hm⟩ => ?_
      obtain ⟨j, hj, hpl⟩ := metB_iff.1 hm
      have := (hmet j hj hpl).2.1
      omega
    rw [this, Int.add_zero]; rfl
  · rw [if_neg (by omega)]
    by_cases hb : o (nbT W H i d) = o i
    · rw [if_pos hb]
      have : inV o W H (o i) (N : Int) (pF X.P) X.P.length i d = 0 := by
        unfold inV
        refine if_neg fun ⟨_, hm⟩ => ?_
        obtain ⟨j, hj, hpl⟩ := metB_iff.1 hm
        exact (hmet j hj hpl).1 hb
      rw [this, Int.add_zero, Int.toNat_natCast]
    · rw [if_neg hb, Int.zero_add]
      have hh := I.has N i d hi hd hb (by omega) (by rw [hsi]; exact Int.le_refl _) (by rw [hall _ hnb]; exact Int.le_refl _)
      obtain ⟨k, hk, e⟩ := pF_ex hh
      have hm : metB (pF X.P) (plN o W H (o i) N i d) X.P.length = true := metB_iff.2 ⟨k, hk, plcB_pl.2 (by rw [e]; exact ⟨rfl, rfl, rfl⟩)⟩
      unfold inV
      rw [if_pos ⟨rfl, hm⟩]
      exact cntV_of hm fun j hj hpl => (hmet j hj hpl).2.2
end
end Go.Proofs.YtpbobhobhbbimaaGreatDoor
/- The walk of the law NodeEqual: a run on nodes is the grid's run; and so is a play in which all nodes come to so many steps, merged. -/
namespace Go.Proofs.YtpbobhobhbbimaaGreatDoor
open Go Go.RowKit
set_option linter.unusedVariables false
set_option linter.unusedSimpArgs false
theorem plyE_zero2 {v r nm rg : Bool} (h : plyE v r nm rg = 0) : v = true ∧ r = true ∧ nm = true ∧ rg = true := by
  cases v <;> cases r <;> cases nm <;> cases rg <;> simp [plyE] at h ⊢
section
variable {W H : Nat} {o : Nat → Int} {no rn : Nat} {ru : Nat → Int × Int} {g : Nat → C4} {n : Int} {X : Ply} {F : Nat → SiteR}
/-- what Merge asks holds, where all nodes have come to N -/
theorem ply_merged {N : Nat} (hno : no = W * H) (hg : (∀ i, i < W * H → validC (g i) = true) ∧ massTo g (W * H) ≤ 1000000000) (hn : n ≤ 1000000) (ho : ∀ k, k < no → 0 ≤ o k ∧ o k ≤ 7) (I : PlyI W H o no rn ru g n X) (hst : ∀ k, k < (nodeL o no 8).length → X.st ((nodeL o no 8).getD k 0) = N)
    (h : ∀ j, j < (nodeL o no 8).length → siteQ o no X.st X.G ((nodeL o no 8).getD j 0) (F j)) (h0 : 0 < (nodeL o no 8).length) :
    stepsB F (nodeL o no 8).length = true ∧ readyA W H o no X.P.length (pF X.P) F (nodeL o no 8).length = true ∧ postS (pF X.P) X.P.length (F 0).st = true ∧ massTo (addTo (layS F (nodeL o no 8).length) (pF X.P) X.P.length) no ≤ 1000000000 := by
  have hF : ∀ k, k < (nodeL o no 8).length → (F k).st = N := fun k hk => by rw [(h k hk).2.1, hst k hk]
  have hall : ∀ j, j < no → X.st (o j) = N := fun j hj => by
    obtain ⟨k, hk, e⟩ := node_ex ho hj
    rw [← e]; exact hst k hk
  refine ⟨stepsB_iff.2 fun k hk => by rw [hF k hk, hF 0 h0], readyA_iff.2 fun k hk => ?_, postS_iff.2 fun k hk => ?_, ?_⟩
  · unfold readyB
    rw [Bool.or_eq_true]
    by_cases hz : (F k).st = 0
    · exact .inl (by rw [hz]; rfl)
    refine .inr (List.all_eq_true.2 fun x hx => ?_)
    obtain ⟨i, d, hi, hd, hoi, hne, rfl⟩ := dueL_pl hx
    have hnb : nbT W H i d < no := by rw [hno]; exact nbT_lt (by omega) hd
    have hFk := hF k hk
    have hh := I.has N i d hi hd (by rw [hoi]; exact hne) (by omega) (by rw [hall i hi]; exact Int.le_refl _) (by rw [hall _ hnb]; exact Int.le_refl _)
    obtain ⟨u, hu, e⟩ := pF_ex hh
    refine metB_iff.2 ⟨u, hu, plcB_pl.2 ?_⟩
    rw [e]
    exact ⟨hFk.symm, rfl, rfl⟩
  · obtain ⟨t, i, d, q1, q2, q3, q4, q5, q6, e⟩ := I.note _ (pF_mem hk)
    have hnb : nbT W H i d < no := by rw [hno]; exact nbT_lt (by omega) q2
    rw [hall i q1] at q5; rw [hall _ hnb] at q6
    rw [e, hF 0 h0]
    show (t : Int) = N
    omega
  · rw [massTo_congr (h := gT W H rn ru g N) fun i hi => ply_grid hno hg hn ho I hst h hi, hno, (gT_ok hg N).2]
    exact hg.2
end
end Go.Proofs.YtpbobhobhbbimaaGreatDoor
/- Plain: what holds of a play at whose end all nodes have gone N steps. -/
namespace Go.Proofs.YtpbobhobhbbimaaGreatDoor
open Go Go.RowKit
set_option linter.unusedVariables false
theorem play_done {wide high : Int} {n no rn k : Nat} {g : Nat → C4} {o : Nat → Int} {ru : Nat → Int × Int} {f : Nat → Int} {N : Int} {Z : Ply} {F : Nat → SiteR} (hv : validM wide high n g no o = true) (hno : no ≤ 64) (hN0 : 0 ≤ N) (hN : N ≤ 10) (hk : k ≤ 80)
    (hZ : plyL wide.toNat high.toNat o no rn ru N (ply0 g) ((List.range k).map f) = Z) (hQ : ∀ j, j < (nodeL o no 8).length → siteQ o no Z.st Z.G ((nodeL o no 8).getD j 0) (F j)) (hS : ∀ j, j < (nodeL o no 8).length → (F j).st = N) :
    mrgE (wholeB wide high n g no o (nodeL o no 8).length F Z.P.length (pF Z.P)) (stepsB F (nodeL o no 8).length) (readyA wide.toNat high.toNat o no Z.P.length (pF Z.P) F (nodeL o no 8).length) (postS (pF Z.P) Z.P.length (F 0).st) (decide (massTo (addTo (layS F (nodeL o no 8).length) (pF Z.P) Z.P.length) n ≤ 1000000000)) = 0 ∧
    (∀ i, i < n → addTo (layS F (nodeL o no 8).length) (pF Z.P) Z.P.length i = gT wide.toNat high.toNat rn ru g N.toNat i) ∧ (∀ j, j < Z.P.length → wfN (pF Z.P j)) ∧ Z.P.length ≤ 100000 ∧
    (∃ W H : Nat, no = W * H ∧ PlyI W H o no rn ru g N Z ∧ W = wide.toNat ∧ H = high.toNat) ∧ (∀ j, j < no → Z.st (o j) = N) ∧ (∀ j, j < (nodeL o no 8).length → (F j).ni ≤ 10000 ∧ (F j).nc ≤ 10000) := by
  obtain ⟨Wd, Hd, rfl, rfl, p1, p2, u1, u2, hnn, hn4, hoo, hob, hgv, hgm⟩ := validM_sides hv
  simp only [Int.toNat_natCast] at hZ ⊢
  have hnoE : no = Wd * Hd := by omega
  have hg' : (∀ i, i < Wd * Hd → validC (g i) = true) ∧ massTo g (Wd * Hd) ≤ 1000000000 := ⟨fun i hi => hgv i (by omega), by rw [← hnn]; exact hgm⟩
  have ho : ∀ i, i < no → 0 ≤ o i ∧ o i ≤ 7 := fun i hi => hob i (by omega)
  have hfew := ply_few (o := o) (rn := rn) (ru := ru) hnoE hg' (by omega : N ≤ 1000000) ((List.range k).map f) (ply0 g) (ply_start hN0) (by
    have e1 : (ply0 g).cnt + ((List.range k).map f).length = k := by simp [ply0]
    rw [e1]
    have : 4 * no * k ≤ 256 * 80 := Nat.mul_le_mul (by omega) hk
    omega)
  rw [hZ] at hfew
  have hI := hfew.1
  obtain ⟨NN, hNN⟩ : ∃ NN : Nat, N = NN := ⟨N.toNat, by omega⟩
  have hst : ∀ j, j < (nodeL o no 8).length → Z.st ((nodeL o no 8).getD j 0) = NN := fun j hj => by rw [← (hQ j hj).2.1, hS j hj, hNN]
  have h0no : 0 < no := by rw [hnoE]; exact Nat.mul_pos (by omega) (by omega)
  have hl0 : 0 < (nodeL o no 8).length := by
    obtain ⟨u, hu, _⟩ := node_ex ho h0no
    omega
  obtain ⟨m1, m2, m3, m4⟩ := ply_merged hnoE hg' (by omega) ho hI hst hQ hl0
  have hwh : wholeB (Wd : Int) (Hd : Int) n g no o (nodeL o no 8).length F Z.P.length (pF Z.P) = true := wholeB_iff.2 ⟨hv, ply_sites hnoE hg' (by omega) ho hI hQ, by simpa using ply_post hnoE hg' (by omega) hI⟩
  have hn2 : n = no := by omega
  have m5 : decide (massTo (addTo (layS F (nodeL o no 8).length) (pF Z.P) Z.P.length) n ≤ 1000000000) = true := by rw [hn2]; simpa using m4
  refine ⟨by rw [hwh, m1, m2, m3, m5]; rfl, fun i hi => ?_, fun j hj => ply_wf hnoE ho hn4 hg' (by omega) hI hj, ?_, ⟨Wd, Hd, hnoE, hI, rfl, rfl⟩, fun j hj => ?_, fun j hj => ?_⟩
  · rw [ply_grid hnoE hg' (by omega) ho hI hst hQ (by omega), hNN, Int.toNat_natCast]
  · have := hI.len
    have := hfew.2
    omega
  · obtain ⟨u, hu, e⟩ := node_ex ho hj
    rw [← e, hst u hu, hNN]
  · have h1 := ownL_length o ((nodeL o no 8).getD j 0) no
    have h2 := (hQ j hj).2.2.1
    have h3 := (hQ j hj).2.2.2.1
    exact ⟨by omega, by omega⟩
end Go.Proofs.YtpbobhobhbbimaaGreatDoor
/- Walks: a cell turned by two quarters; the program's Reversed of a grid; awake5. -/
namespace Go.Proofs.YtpbobhobhbbimaaGreatDoor
open Go Go.RowKit
set_option linter.unusedVariables false
def revC (c : C4) : C4 := ⟨c.w, c.s, c.e, c.n⟩
def tvA (c : C4) : Nat → Array Value
  | 0 => #[.int .i64 0, .int .i64 0, .int .i64 0, .int .i64 0]
  | 1 => #[.int .i64 0, .int .i64 0, .int .i64 c.e, .int .i64 0]
  | 2 => #[.int .i64 0, .int .i64 0, .int .i64 c.e, .int .i64 c.n]
  | 3 => #[.int .i64 c.w, .int .i64 0, .int .i64 c.e, .int .i64 c.n]
  | _ => #[.int .i64 c.w, .int .i64 c.s, .int .i64 c.e, .int .i64 c.n]
theorem index4r (a b c d : Value) : ∀ w : World, (Instr.index 49 (.agg #[a, b, c, d]) (.int .i64 0)).run Tryz.prog w = .ok a w ∧ (Instr.index 49 (.agg #[a, b, c, d]) (.int .i64 1)).run Tryz.prog w = .ok b w ∧ (Instr.index 49 (.agg #[a, b, c, d]) (.int .i64 2)).run Tryz.prog w = .ok c w ∧ (Instr.index 49 (.agg #[a, b, c, d]) (.int .i64 3)).run Tryz.prog w = .ok d w := fun w => by
  refine ⟨by kernel_rfl, by kernel_rfl, by kernel_rfl, by kernel_rfl⟩
set_option maxRecDepth 100000 in
set_option maxHeartbeats 2000000 in
theorem cell_Turned2 (c : C4) (w : World) (hv : validC c = true) : Calls Tryz.prog 41 #[.agg #[.int .i64 c.e, .int .i64 c.n, .int .i64 c.w, .int .i64 c.s], .int .i64 2] w fun e w' => e = .returned (.tuple #[.agg #[.int .i64 c.w, .int .i64 c.s, .int .i64 c.e, .int .i64 c.n], .int .i64 0]) ∧ Below w.heap.size w w' := by
  have hval := fun W' => cell_valid c W'
  have hix := index4r (.int .i64 c.e) (.int .i64 c.n) (.int .i64 c.w) (.int .i64 c.s)
  have hi0 := fun W' => (hix W').1; have hi1 := fun W' => (hix W').2.1; have hi2 := fun W' => (hix W').2.2.1; have hi3 := fun W' => (hix W').2.2.2
  rw [hv] at hval
  clear hv hix
  have X0 := (Bx.new w #[.int .i64 c.e, .int .i64 c.n, .int .i64 c.w, .int .i64 c.s] 49).alloc (.cells #[.int .i64 0, .int .i64 0, .int .i64 0, .int .i64 0] 49)
  have X1 := Bx.new (w.alloc (.cells #[.int .i64 c.e, .int .i64 c.n, .int .i64 c.w, .int .i64 c.s] 49)) #[.int .i64 0, .int .i64 0, .int .i64 0, .int .i64 0] 49
  simp only [World.size_alloc] at X1
  have hB0 : Below w.heap.size w ((w.alloc (.cells #[.int .i64 c.e, .int .i64 c.n, .int .i64 c.w, .int .i64 c.s] 49)).alloc (.cells #[.int .i64 0, .int .i64 0, .int .i64 0, .int .i64 0] 49)) := by (repeat' (first | with_reducible assumption | with_reducible exact Below.refl _ _ | with_reducible refine Below.drew ?_ | with_reducible refine below_drewN ?_ _ | with_reducible refine balloc ?_ _ | with_reducible refine bset ?_ ?_ _ | with_reducible refine Below.setCell ?_ ?_ _ | with_reducible refine Below.alloc ?_ ?_ _ | omega | (simp; done) | (simp; omega)))
  go_enter Tryz.func41, Tryz.ntmps41
  go_wp2_with fail
  generalize ((w.alloc (.cells #[.int .i64 c.e, .int .i64 c.n, .int .i64 c.w, .int .i64 c.s] 49)).alloc (.cells #[.int .i64 0, .int .i64 0, .int .i64 0, .int .i64 0] 49)) = W0 at X0 X1 hB0 ⊢
  have z0 := X0.lt
  have z1 := X1.lt
  refine (hval _).mono ?_
  rintro e w1 ⟨rfl, hb1⟩
  have hB := hB0
  clear hB0 hval
  replace X0 := X0.below hb1
  replace X1 := X1.below hb1
  replace hB := bvia hB hb1
  clear hb1
  have X0_0 := X0.at_ 0 rfl
  have X0_1 := X0.at_ 1 rfl
  have X0_2 := X0.at_ 2 rfl
  have X0_3 := X0.at_ 3 rfl
  have X0f := X0.free
  have X0z := X0.lt
  have X1z := X1.lt
  go_wp2_with fail
  have hsz : w.heap.size + 1 < w1.heap.size := X1.lt
  clear X0_0 X0_1 X0_2 X0_3 X0f X0z X1z
  replace X0 := X0.alloc (.cells #[.int .i64 0, .int .i64 0, .int .i64 0, .int .i64 0] 49)
  replace X1 := X1.alloc (.cells #[.int .i64 0, .int .i64 0, .int .i64 0, .int .i64 0] 49)
  have X2 := Bx.new w1 #[.int .i64 0, .int .i64 0, .int .i64 0, .int .i64 0] 49
  replace hB := balloc hB (.cells #[.int .i64 0, .int .i64 0, .int .i64 0, .int .i64 0] 49)
  have X0_0 := X0.at_ 0 rfl
  have X0_1 := X0.at_ 1 rfl
  have X0_2 := X0.at_ 2 rfl
  have X0_3 := X0.at_ 3 rfl
  have X0f := X0.free
  have X0z := X0.lt
  have X1z := X1.lt
  clear X0_0 X0_1 X0_2 X0_3 X0f X0z X1z
  go_loopw [14] (fun s14 wr => ∃ i : Nat, i ≤ 4 ∧ s14 = .int .i64 (i : Int) ∧ Bx wr w1.heap.size (tvA c i) ∧ Bx wr (w.heap.size + 1) #[.int .i64 0, .int .i64 0, .int .i64 0, .int .i64 0] ∧ Below w.heap.size w wr) (fun s14 _ => 4 - (intOf s14).toNat)
  case atStart => exact ⟨0, by omega, rfl, X2, X1, hB⟩
  case round =>
    clear X0 X1 X2 hB
    obtain ⟨i, hi, rfl, X2, X1, hb⟩ := hrel
    rcases (by omega : i = 0 ∨ i = 1 ∨ i = 2 ∨ i = 3 ∨ i = 4) with rfl | rfl | rfl | rfl | rfl
    · skip
      have e0 := X2.at_ 0 rfl; have e1 := X2.at_ 1 rfl; have e2 := X2.at_ 2 rfl; have e3 := X2.at_ 3 rfl; have ef := X2.free; have el := X2.lt
      go_wp2_with fail
      go_roundw
      case rel => exact ⟨0 + 1, by omega, rfl, X2.set_ 2 (by simp [tvA]) (.int .i64 (c.e)), X1.far (by dsimp only; omega) _, bset hb (by dsimp only; omega) _⟩
      case measure => simp [intOf]
    · skip
      have e0 := X2.at_ 0 rfl; have e1 := X2.at_ 1 rfl; have e2 := X2.at_ 2 rfl; have e3 := X2.at_ 3 rfl; have ef := X2.free; have el := X2.lt
      go_wp2_with fail
      go_roundw
      case rel => exact ⟨1 + 1, by omega, rfl, X2.set_ 3 (by simp [tvA]) (.int .i64 (c.n)), X1.far (by dsimp only; omega) _, bset hb (by dsimp only; omega) _⟩
      case measure => simp [intOf]
    · skip
      have e0 := X2.at_ 0 rfl; have e1 := X2.at_ 1 rfl; have e2 := X2.at_ 2 rfl; have e3 := X2.at_ 3 rfl; have ef := X2.free; have el := X2.lt
      go_wp2_with fail
      go_roundw
      case rel => exact ⟨2 + 1, by omega, rfl, X2.set_ 0 (by simp [tvA]) (.int .i64 (c.w)), X1.far (by dsimp only; omega) _, bset hb (by dsimp only; omega) _⟩
      case measure => simp [intOf]
    · skip
      have e0 := X2.at_ 0 rfl; have e1 := X2.at_ 1 rfl; have e2 := X2.at_ 2 rfl; have e3 := X2.at_ 3 rfl; have ef := X2.free; have el := X2.lt
      go_wp2_with fail
      go_roundw
      case rel => exact ⟨3 + 1, by omega, rfl, X2.set_ 1 (by simp [tvA]) (.int .i64 (c.s)), X1.far (by dsimp only; omega) _, bset hb (by dsimp only; omega) _⟩
      case measure => simp [intOf]
    · have e0 : wr.cell? ⟨w1.heap.size, 0, none⟩ = some (.int .i64 c.w) := X2.at_ 0 rfl
      have e1 : wr.cell? ⟨w1.heap.size, 1, none⟩ = some (.int .i64 c.s) := X2.at_ 1 rfl
      have e2 : wr.cell? ⟨w1.heap.size, 2, none⟩ = some (.int .i64 c.e) := X2.at_ 2 rfl
      have e3 : wr.cell? ⟨w1.heap.size, 3, none⟩ = some (.int .i64 c.n) := X2.at_ 3 rfl
      have ef := X2.free; have el := X2.lt
      have f0 := X1.at_ 0 rfl; have f1 := X1.at_ 1 rfl; have f2 := X1.at_ 2 rfl; have f3 := X1.at_ 3 rfl; have ff := X1.free; have fl := X1.lt
      have ne : ¬ w1.heap.size = w.heap.size + 1 := by omega
      go_wp2_with fail
      refine bodyPost_ret (v := .tuple #[.agg #[.int .i64 c.w, .int .i64 c.s, .int .i64 c.e, .int .i64 c.n], .int .i64 0]) (by simp [results, Tryz.results41, go_sem, f0, f1, f2, f3]) rfl ⟨rfl, by (repeat' (first | with_reducible assumption | with_reducible exact Below.refl _ _ | with_reducible refine Below.drew ?_ | with_reducible refine below_drewN ?_ _ | with_reducible refine balloc ?_ _ | with_reducible refine bset ?_ ?_ _ | with_reducible refine Below.setCell ?_ ?_ _ | with_reducible refine Below.alloc ?_ ?_ _ | omega | (simp; done) | (simp; omega)))⟩
set_option maxRecDepth 100000 in
set_option maxHeartbeats 8000000 in
theorem grid_reversed1 (W H n b₀ ca : Nat) (g : Nat → C4) (w : World) (hn : n ≤ 4096) (hv : ∀ i, i < n → validC (g i) = true) (R : Ro w b₀ (n * 4) (flatC g)) :
    Calls Tryz.prog 40 #[.agg #[.int .i64 (W : Int), .int .i64 (H : Int), .slice (some ⟨b₀, 0, none⟩) n ca]] w fun e w' => e = .returned (.agg #[.int .i64 (W : Int), .int .i64 (H : Int), .slice (some ⟨b₀, 0, none⟩) n ca]) ∧ Ro w' b₀ (n * 4) (flatC (fun i => revC (g i))) ∧ But (fun q => q = b₀) w w' := by
  have haf0 := fun i W' h => cell_Turned2 (g i) W' (hv i h)
  generalize hF : (fun i => revC (g i)) = F at *
  have hFi : ∀ i, revC (g i) = F i := fun i => by rw [← hF]
  have haf1 := fun i W' h => (show Calls Tryz.prog 41 #[.agg #[.int .i64 (g i).e, .int .i64 (g i).n, .int .i64 (g i).w, .int .i64 (g i).s], .int .i64 2] W' fun e w' => e = .returned (.tuple #[.agg #[.int .i64 (revC (g i)).e, .int .i64 (revC (g i)).n, .int .i64 (revC (g i)).w, .int .i64 (revC (g i)).s], .int .i64 0]) ∧ Below W'.heap.size W' w' from haf0 i W' h)
  have HA := hid haf1; have HM := hid hFi
  clear haf0 haf1 hFi hF hv
  have hbl := R.lt
  have X0 := (Bx.new w #[.int .i64 (W : Int), .int .i64 (H : Int), .slice (some ⟨b₀, 0, none⟩) n ca] 91).alloc (.cells #[.int .i64 0, .int .i64 0, .slice none 0 0] 91)
  have X1 := Bx.new (w.alloc (.cells #[.int .i64 (W : Int), .int .i64 (H : Int), .slice (some ⟨b₀, 0, none⟩) n ca] 91)) #[.int .i64 0, .int .i64 0, .slice none 0 0] 91
  simp only [World.size_alloc] at X1
  have hB0 : Below w.heap.size w ((w.alloc (.cells #[.int .i64 (W : Int), .int .i64 (H : Int), .slice (some ⟨b₀, 0, none⟩) n ca] 91)).alloc (.cells #[.int .i64 0, .int .i64 0, .slice none 0 0] 91)) := by (repeat' (first | with_reducible assumption | with_reducible exact Below.refl _ _ | with_reducible refine Below.drew ?_ | with_reducible refine below_drewN ?_ _ | with_reducible refine balloc ?_ _ | with_reducible refine bset ?_ ?_ _ | with_reducible refine Below.setCell ?_ ?_ _ | with_reducible refine Below.alloc ?_ ?_ _ | omega | (simp; done) | (simp; omega)))
  go_enter Tryz.func40, Tryz.ntmps40
  go_wp2_with fail
  generalize ((w.alloc (.cells #[.int .i64 (W : Int), .int .i64 (H : Int), .slice (some ⟨b₀, 0, none⟩) n ca] 91)).alloc (.cells #[.int .i64 0, .int .i64 0, .slice none 0 0] 91)) = W0 at X0 X1 hB0 ⊢
  have z0 := X0.lt
  have z1 := X1.lt
  have x00 := X0.at_ 2 rfl
  have hU : But (fun q => q = b₀) w W0 := but_below hB0 (Nat.le_refl _)
  replace R := R.below hB0
  rw [← ovC_zero F g] at R
  go_wp2_with fail
  clear x00 hB0 z0 z1
  go_loopw [9] (fun s13 wr => ∃ i : Nat, i ≤ n ∧ s13 = .int .i64 i ∧ Bx wr w.heap.size #[.int .i64 (W : Int), .int .i64 (H : Int), .slice (some ⟨b₀, 0, none⟩) n ca] ∧ Bx wr (w.heap.size + 1) #[.int .i64 0, .int .i64 0, .slice none 0 0] ∧ Ro wr b₀ (n * 4) (flatC (ovC F g i)) ∧ But (fun q => q = b₀) w wr) (fun s13 _ => n - (intOf s13).toNat)
  case atStart => exact ⟨0, Nat.zero_le _, rfl, X0, X1, R, hU⟩
  case round =>
    clear X0 X1 R hU
    obtain ⟨i, hi, rfl, X0, X1, R, hU⟩ := hrel
    by_cases hlt : i < n
    · have c4 := R.scell hlt
      rw [ovC_at] at c4
      obtain ⟨c0, c1, c2, c3⟩ := c4
      have lb := R.lt
      have hMi := HM.out i
      have haf := fun W' => HA.out i W' hlt
      rw [hMi] at haf
      clear hMi
      have l0 := X0.lt; have l1 := X1.lt
      obtain ⟨wo, rfl⟩ : ∃ wo : World, wo = wr := ⟨_, rfl⟩
      go_upto_region 4 with (fail)
      have X3 := Bx.new wo #[.int .i64 (g i).e, .int .i64 (g i).n, .int .i64 (g i).w, .int .i64 (g i).s] 49
      replace X0 := X0.alloc (.cells #[.int .i64 (g i).e, .int .i64 (g i).n, .int .i64 (g i).w, .int .i64 (g i).s] 49)
      replace X1 := X1.alloc (.cells #[.int .i64 (g i).e, .int .i64 (g i).n, .int .i64 (g i).w, .int .i64 (g i).s] 49)
      replace R := R.alloc (.cells #[.int .i64 (g i).e, .int .i64 (g i).n, .int .i64 (g i).w, .int .i64 (g i).s] 49)
      replace hU := hU.alloc (.cells #[.int .i64 (g i).e, .int .i64 (g i).n, .int .i64 (g i).w, .int .i64 (g i).s] 49)
      clear c0 c1 c2 c3
      generalize wo.alloc (.cells #[.int .i64 (g i).e, .int .i64 (g i).n, .int .i64 (g i).w, .int .i64 (g i).s] 49) = wd at *
      have lr := R.lt
      have c4 := R.scell hlt
      rw [ovC_at] at c4
      obtain ⟨c0, c1, c2, c3⟩ := c4
      have rf := R.free
      have r0 : ∀ Y, Below wd.heap.size wd Y → Y.cell? ⟨w.heap.size, 2, none⟩ = some (.slice (some ⟨b₀, 0, none⟩) n ca) := fun Y h => (X0.below h).at_ 2 rfl
      have u4 : ∀ Y, Below wd.heap.size wd Y → Y.cell? ⟨wo.heap.size, 0, none⟩ = some (.int .i64 (g i).e) := fun Y h => (X3.below h).at_ 0 rfl
      have u5 : ∀ Y, Below wd.heap.size wd Y → Y.cell? ⟨wo.heap.size, 1, none⟩ = some (.int .i64 (g i).n) := fun Y h => (X3.below h).at_ 1 rfl
      have u6 : ∀ Y, Below wd.heap.size wd Y → Y.cell? ⟨wo.heap.size, 2, none⟩ = some (.int .i64 (g i).w) := fun Y h => (X3.below h).at_ 2 rfl
      have u7 : ∀ Y, Below wd.heap.size wd Y → Y.cell? ⟨wo.heap.size, 3, none⟩ = some (.int .i64 (g i).s) := fun Y h => (X3.below h).at_ 3 rfl
      have q0 : ∀ Y, Below wd.heap.size wd Y → Y.cell? ⟨b₀, i * 4, none⟩ = some (.int .i64 (g i).e) := fun Y h => (bcell h _ _ lr).trans c0
      have q1 : ∀ Y, Below wd.heap.size wd Y → Y.cell? ⟨b₀, i * 4 + 1, none⟩ = some (.int .i64 (g i).n) := fun Y h => (bcell h _ _ lr).trans c1
      have q2 : ∀ Y, Below wd.heap.size wd Y → Y.cell? ⟨b₀, i * 4 + 2, none⟩ = some (.int .i64 (g i).w) := fun Y h => (bcell h _ _ lr).trans c2
      have q3 : ∀ Y, Below wd.heap.size wd Y → Y.cell? ⟨b₀, i * 4 + 3, none⟩ = some (.int .i64 (g i).s) := fun Y h => (bcell h _ _ lr).trans c3
      have qf : ∀ Y, Below wd.heap.size wd Y → ∀ j, Y.frozen? ⟨b₀, j, none⟩ = false := fun Y h j => (bfrozen h _ _ lr).trans (rf j)
      clear c0 c1 c2 c3 rf
      refine wp_region_S (fun Y => Below wd.heap.size wd Y) 10 (by kernel_rfl) ?_
      refine anyS_take (i := 0) rfl (by kernel_rfl) (fun _ _ _ h => h) (Or.inl ⟨by rfl, fun Y hYb => (by (try dsimp only at hYb); go_simp; rfl)⟩) (by repeat' (first | with_reducible assumption | with_reducible exact Below.refl _ _ | with_reducible refine Below.drew ?_ | with_reducible refine below_drewN ?_ _)) ?_
      refine anyS_take (i := 1) rfl (by kernel_rfl) (fun _ _ _ h => h) (Or.inl ⟨by rfl, fun Y hYb => (by (try dsimp only at hYb); go_simp; rfl)⟩) (by repeat' (first | with_reducible assumption | with_reducible exact Below.refl _ _ | with_reducible refine Below.drew ?_ | with_reducible refine below_drewN ?_ _)) ?_
      refine anyS_take (i := 2) rfl (by kernel_rfl) (fun _ _ _ h => h) (Or.inl ⟨by rfl, fun Y hYb => (by (try dsimp only at hYb); go_simp; rfl)⟩) (by repeat' (first | with_reducible assumption | with_reducible exact Below.refl _ _ | with_reducible refine Below.drew ?_ | with_reducible refine below_drewN ?_ _)) ?_
      refine anyS_take (i := 3) rfl (by kernel_rfl) (fun _ _ _ h => h) (Or.inl ⟨by rfl, fun Y hYb => (by (try dsimp only at hYb); go_simp; rfl)⟩) (by repeat' (first | with_reducible assumption | with_reducible exact Below.refl _ _ | with_reducible refine Below.drew ?_ | with_reducible refine below_drewN ?_ _)) ?_
      refine anyS_take (i := 4) rfl (by kernel_rfl) (fun _ _ _ h => h) (Or.inl ⟨by rfl, fun Y hYb => (by (try dsimp only at hYb); go_simp; rfl)⟩) (by repeat' (first | with_reducible assumption | with_reducible exact Below.refl _ _ | with_reducible refine Below.drew ?_ | with_reducible refine below_drewN ?_ _)) ?_
      refine anyS_one (i := 5) (by kernel_rfl) rfl (by rfl) (fun K hK => ?_)
      go_simp
      refine (haf _).mono ?_
      rintro e w2 ⟨rfl, hb2⟩
      dsimp only
      have hS2 : Below wd.heap.size wd w2 := bvia (Below.refl _ wd).drew hb2
      refine hK _ _ (fun _ _ => hS2) ?_
      clear hK K hb2
      have y0 := q0 _ hS2; have y1 := q1 _ hS2; have y2 := q2 _ hS2; have y3 := q3 _ hS2; have yf := qf _ hS2
      refine anyS_take (i := 6) rfl (by kernel_rfl) (fun _ _ _ h => h) (Or.inl ⟨by rfl, fun Y hYb => (by (try dsimp only at hYb); go_simp; rfl)⟩) (by repeat' (first | with_reducible assumption | with_reducible exact Below.refl _ _ | with_reducible refine Below.drew ?_ | with_reducible refine below_drewN ?_ _)) ?_
      refine anyS_take (i := 7) rfl (by kernel_rfl) (fun _ _ _ h => h) (Or.inl ⟨by rfl, fun Y hYb => (by (try dsimp only at hYb); go_simp; rfl)⟩) (by repeat' (first | with_reducible assumption | with_reducible exact Below.refl _ _ | with_reducible refine Below.drew ?_ | with_reducible refine below_drewN ?_ _)) ?_
      refine anyS_pure (i := 8) rfl (by kernel_rfl) (fun _ _ _ h => h) (Or.inl ⟨by rfl, fun Y hYb => (by clear hYb; go_simp; rfl)⟩) ?_
      refine anyS_take (i := 9) rfl (by kernel_rfl) (fun _ _ _ h => h) (Or.inl ⟨by rfl, fun Y hYb => (by (try dsimp only at hYb); go_simp; rfl)⟩) (by repeat' (first | with_reducible assumption | with_reducible exact Below.refl _ _ | with_reducible refine Below.drew ?_ | with_reducible refine below_drewN ?_ _)) ?_
      refine anyS_one (i := 10) (by kernel_rfl) rfl (by rfl) (fun K hK => ?_)
      go_simp
      refine hK _ _ (fun h _ => absurd h (by decide)) ?_
      clear hK K
      refine anyS_done (by kernel_rfl) ?_ _
      have hw2 := hS2.size
      replace X0 := X0.below hS2; replace X1 := X1.below hS2; replace R := R.below hS2
      replace hU := hU.trans (but_below hS2 (Nat.le_refl _))
      clear X3 r0 u4 u5 u6 u7 q0 q1 q2 q3 qf y0 y1 y2 y3 yf
      have n0 : b₀ ≠ w.heap.size := by omega
      have n1 : b₀ ≠ w.heap.size + 1 := by omega
      go_wp2_with fail
      go_roundw
      case rel => exact ⟨i + 1, by omega, by go_num, (((X0.far (p := ⟨b₀, i * 4, none⟩) n0 _).far (p := ⟨b₀, i * 4 + 1, none⟩) n0 _).far (p := ⟨b₀, i * 4 + 2, none⟩) n0 _).far (p := ⟨b₀, i * 4 + 3, none⟩) n0 _, (((X1.far (p := ⟨b₀, i * 4, none⟩) n1 _).far (p := ⟨b₀, i * 4 + 1, none⟩) n1 _).far (p := ⟨b₀, i * 4 + 2, none⟩) n1 _).far (p := ⟨b₀, i * 4 + 3, none⟩) n1 _, by rw [ovC_succ]; exact R.setC i (F i), by (repeat' (first | with_reducible assumption | with_reducible exact But.refl _ _ | with_reducible refine But.drew ?_ | with_reducible refine But.drewN ?_ _ | (with_reducible refine But.set_ ?_ (by dsimp only) _) | with_reducible refine But.alloc ?_ _))⟩
      case measure => simp [intOf]; omega
    · obtain rfl : i = n := (by omega)
      have HR := hid (R.congr (flatC_congr (fun j hj => ovC_lt hj)))
      clear R
      have x20 := X1.at_ 0 rfl; have x21 := X1.at_ 1 rfl; have x22 := X1.at_ 2 rfl; have x2f := X1.free; have x2l := X1.lt
      have x00 := X0.at_ 0 rfl; have x01 := X0.at_ 1 rfl; have x02 := X0.at_ 2 rfl
      go_wp2_with fail
      refine bodyPost_ret (v := .agg #[.int .i64 (W : Int), .int .i64 (H : Int), .slice (some ⟨b₀, 0, none⟩) i ca]) (by simp [results, Tryz.results40, go_sem, x20, x21, x22]) rfl ⟨rfl, ?_, ?_⟩
      · have R := HR.out
        (repeat' (first | with_reducible assumption | with_reducible refine Ro.drew ?_ | with_reducible refine Ro.drewN ?_ _ | with_reducible refine Ro.alloc ?_ _ | with_reducible refine Ro.far ?_ ?_ _ | (show _ ≠ _; dsimp only; omega)))
      · exact ((hU.setN (p := ⟨w.heap.size + 1, 0, none⟩) (by dsimp only; omega) _).setN (p := ⟨w.heap.size + 1, 1, none⟩) (by dsimp only; omega) _).setN (p := ⟨w.heap.size + 1, 2, none⟩) (by dsimp only; omega) _
theorem below_butR {C : Nat → Prop} {w X Y : World} (h : Below w.heap.size w X) (k : But C X Y) (hc : ∀ b, C b → w.heap.size ≤ b) : Below w.heap.size w Y :=
  ⟨k.os.trans h.os, k.tape.trans h.tape, k.output.trans h.output, Nat.le_trans h.size k.size, fun b hb => (k.block b (Nat.lt_of_lt_of_le hb h.size) (fun h' => by have := hc b h'; omega)).trans (h.block b hb)⟩
set_option maxRecDepth 100000 in
set_option maxHeartbeats 1000000 in
theorem grid_changedR (W H : Nat) (a : Option Addr) (ca : Nat) (g : Nat → C4) (w : World) (h1 : 1 ≤ W ∧ W ≤ 64) (h2 : 1 ≤ H ∧ H ≤ 64) (hm : W * H ≤ 1024) (S : Sc w a (W * H) g) (hv : okG (W * H) g) : Calls Tryz.prog 39 #[.agg #[.int .i64 (W : Int), .int .i64 (H : Int), .slice a (W * H) ca], .func (.func 40) #[] #[]] w (GridRow0 W H (W * H) (fun i => revC (g i)) w) := by
  have hval := fun W' S' => grid_valid W H a (W * H) ca g W' (by omega) S'
  rw [validG_of h1 h2 hm hv] at hval
  have hn0 : 0 < W * H := Nat.mul_pos (by omega) (by omega)
  have hof := fun W' S' => grid_of W H a (W * H) ca g W' (by omega) hn0 S'
  have hst := fun b₀ c₀ W' R' => grid_reversed1 W H (W * H) b₀ c₀ g W' (by omega) hv.1 R'
  clear hv h1 h2
  generalize (fun i => revC (g i)) = G at *
  generalize W * H = n at *
  have X0 := (Bx.new w #[.int .i64 (W : Int), .int .i64 (H : Int), .slice a n ca] 24).alloc (.cells #[.int .i64 0, .int .i64 0, .slice none 0 0] 24)
  have X1 := Bx.new (w.alloc (.cells #[.int .i64 (W : Int), .int .i64 (H : Int), .slice a n ca] 24)) #[.int .i64 0, .int .i64 0, .slice none 0 0] 24
  simp only [World.size_alloc] at X1
  have hB0 : Below w.heap.size w ((w.alloc (.cells #[.int .i64 (W : Int), .int .i64 (H : Int), .slice a n ca] 24)).alloc (.cells #[.int .i64 0, .int .i64 0, .slice none 0 0] 24)) := by (repeat' (first | with_reducible assumption | with_reducible exact Below.refl _ _ | with_reducible refine Below.drew ?_ | with_reducible refine below_drewN ?_ _ | with_reducible refine balloc ?_ _ | with_reducible refine bset ?_ ?_ _ | with_reducible refine Below.setCell ?_ ?_ _ | with_reducible refine Below.alloc ?_ ?_ _ | omega | (simp; done) | (simp; omega)))
  go_enter Tryz.func39, Tryz.ntmps39
  go_wp2_with fail
  generalize ((w.alloc (.cells #[.int .i64 (W : Int), .int .i64 (H : Int), .slice a n ca] 24)).alloc (.cells #[.int .i64 0, .int .i64 0, .slice none 0 0] 24)) = W0 at X0 X1 hB0 ⊢
  have z0 := X0.lt
  have z1 := X1.lt
  refine (hval _ (S.below hB0)).mono ?_
  rintro e w1 ⟨rfl, hb1⟩
  have hB := hB0
  clear hB0 hval
  replace X0 := X0.below hb1
  replace X1 := X1.below hb1
  replace hB := bvia hB hb1
  clear hb1
  have X0_0 := X0.at_ 0 rfl
  have X0_1 := X0.at_ 1 rfl
  have X0_2 := X0.at_ 2 rfl
  go_wp2_with fail
  refine (hof _ (S.below hB)).mono ?_
  rintro e w2 ⟨b₁, c₁, rfl, hb₁, R₁, hc₁, hb2⟩
  have hs1 := hB.size
  have hx1 := X1.lt
  clear X0_0 X0_1 X0_2
  replace X0 := X0.below hb2
  replace X1 := X1.below hb2
  replace hB := bvia hB hb2
  clear hb2
  have X0_0 := X0.at_ 0 rfl
  have X0_1 := X0.at_ 1 rfl
  have X0_2 := X0.at_ 2 rfl
  go_wp2_with fail
  refine (hst _ _ _ R₁).mono ?_
  rintro e w3 ⟨rfl, R, hU3⟩
  replace hB := below_butR hB hU3 (fun b h => by omega)
  replace X1 := X1.but hU3 (fun h => by omega)
  have x0 := X1.at_ 0 rfl; have x1 := X1.at_ 1 rfl; have x2 := X1.at_ 2 rfl; have xf := X1.free; have xl := X1.lt
  have hl := R.lt
  clear X0_0 X0_1 X0_2
  clear R₁ X0 hU3
  have hfd := field_grid (.int .i64 (W : Int)) (.int .i64 (H : Int)) (.slice (some ⟨b₁, 0, none⟩) n c₁)
  go_wp2_with fail
  refine bodyPost_ret (v := .tuple #[.agg #[.int .i64 (W : Int), .int .i64 (H : Int), .slice (some ⟨b₁, 0, none⟩) n c₁], .int .i64 0]) (by simp [results, Tryz.results39, go_sem, x0, x1, x2]) rfl ⟨b₁, c₁, rfl, by omega, by (repeat' (first | with_reducible assumption | with_reducible refine Ro.drew ?_ | with_reducible refine Ro.drewN ?_ _ | with_reducible refine Ro.alloc ?_ _ | with_reducible refine Ro.far ?_ ?_ _ | (show _ ≠ _; dsimp only; omega))), hc₁, by (repeat' (first | with_reducible assumption | with_reducible exact Below.refl _ _ | with_reducible refine Below.drew ?_ | with_reducible refine below_drewN ?_ _ | with_reducible refine balloc ?_ _ | with_reducible refine bset ?_ ?_ _ | with_reducible refine Below.setCell ?_ ?_ _ | with_reducible refine Below.alloc ?_ ?_ _ | omega | (simp; done) | (simp; omega)))⟩
set_option maxRecDepth 100000 in
set_option maxHeartbeats 1000000 in
theorem grid_Reversed (W H : Nat) (a : Option Addr) (ca : Nat) (g : Nat → C4) (w : World) (h1 : 1 ≤ W ∧ W ≤ 64) (h2 : 1 ≤ H ∧ H ≤ 64) (hm : W * H ≤ 1024) (S : Sc w a (W * H) g) (hv : okG (W * H) g) : Calls Tryz.prog 11 #[.agg #[.int .i64 (W : Int), .int .i64 (H : Int), .slice a (W * H) ca]] w (GridRow0 W H (W * H) (fun i => revC (g i)) w) := by
  have hc := fun W' S' => grid_changedR W H a ca g W' h1 h2 hm S' hv
  clear hv h1 h2
  generalize (fun i => revC (g i)) = G at *
  generalize W * H = n at *
  have X0 := (Bx.new w #[.int .i64 (W : Int), .int .i64 (H : Int), .slice a n ca] 24).alloc (.cells #[.int .i64 0, .int .i64 0, .slice none 0 0] 24)
  have X1 := Bx.new (w.alloc (.cells #[.int .i64 (W : Int), .int .i64 (H : Int), .slice a n ca] 24)) #[.int .i64 0, .int .i64 0, .slice none 0 0] 24
  simp only [World.size_alloc] at X1
  have hB0 : Below w.heap.size w ((w.alloc (.cells #[.int .i64 (W : Int), .int .i64 (H : Int), .slice a n ca] 24)).alloc (.cells #[.int .i64 0, .int .i64 0, .slice none 0 0] 24)) := by (repeat' (first | with_reducible assumption | with_reducible exact Below.refl _ _ | with_reducible refine Below.drew ?_ | with_reducible refine below_drewN ?_ _ | with_reducible refine balloc ?_ _ | with_reducible refine bset ?_ ?_ _ | with_reducible refine Below.setCell ?_ ?_ _ | with_reducible refine Below.alloc ?_ ?_ _ | omega | (simp; done) | (simp; omega)))
  go_enter Tryz.func11, Tryz.ntmps11
  go_wp2_with fail
  generalize ((w.alloc (.cells #[.int .i64 (W : Int), .int .i64 (H : Int), .slice a n ca] 24)).alloc (.cells #[.int .i64 0, .int .i64 0, .slice none 0 0] 24)) = W0 at X0 X1 hB0 ⊢
  have z0 := X0.lt
  have z1 := X1.lt
  refine (hc _ (S.below hB0)).mono ?_
  rintro e w1 ⟨b, cap, rfl, hb, R, hcap, hb1⟩
  have hB := hB0
  clear hB0 hc
  have hs1 := hB.size
  replace X0 := X0.below hb1
  replace X1 := X1.below hb1
  replace hB := bvia hB hb1
  clear hb1
  have X1_0 := X1.at_ 0 rfl
  have X1_1 := X1.at_ 1 rfl
  have X1_2 := X1.at_ 2 rfl
  have X1f := X1.free
  have X1z := X1.lt
  go_wp2_with fail
  refine bodyPost_ret (v := .tuple #[.agg #[.int .i64 (W : Int), .int .i64 (H : Int), .slice (some ⟨b, 0, none⟩) n cap], .int .i64 0]) (by simp [results, Tryz.results11, go_sem, X1_0, X1_1, X1_2]) rfl ⟨b, cap, rfl, by omega, by (repeat' (first | with_reducible assumption | with_reducible refine Ro.drew ?_ | with_reducible refine Ro.drewN ?_ _ | with_reducible refine Ro.alloc ?_ _ | with_reducible refine Ro.far ?_ ?_ _ | (show _ ≠ _; dsimp only; omega))), hcap, by (repeat' (first | with_reducible assumption | with_reducible exact Below.refl _ _ | with_reducible refine Below.drew ?_ | with_reducible refine below_drewN ?_ _ | with_reducible refine balloc ?_ _ | with_reducible refine bset ?_ ?_ _ | with_reducible refine Below.setCell ?_ ?_ _ | with_reducible refine Below.alloc ?_ ?_ _ | omega | (simp; done) | (simp; omega)))⟩
set_option maxRecDepth 100000 in
set_option maxHeartbeats 2000000 in
/-- a grid of one particle is reversed -/
theorem awake5_true (w : World) : Calls Tryz.prog 5 #[] w fun e w' => e = .returned (.bool true) ∧ Below w.heap.size w w' := by
  have hS : Sc (w.alloc (.cells #[.int .i64 1, .int .i64 2, .int .i64 3, .int .i64 4] 49)) (some ⟨w.heap.size, 0, none⟩) (1 * 1) (fun _ => ⟨1, 2, 3, 4⟩) := fun k hk => by
    obtain rfl : k = 0 := by omega
    exact ⟨w.heap.size, 0, rfl, by simp, cell_new _ _ _ 0 _ rfl, cell_new _ _ _ 1 _ rfl, cell_new _ _ _ 2 _ rfl, cell_new _ _ _ 3 _ rfl⟩
  have hr := grid_Reversed 1 1 (some ⟨w.heap.size, 0, none⟩) 1 (fun _ => ⟨1, 2, 3, 4⟩) (w.alloc (.cells #[.int .i64 1, .int .i64 2, .int .i64 3, .int .i64 4] 49)) (by omega) (by omega) (by omega) hS ⟨fun i hi => (show validC ⟨1, 2, 3, 4⟩ = true by decide), by decide⟩
  go_enter Tryz.func5, Tryz.ntmps5
  go_wp2_with fail
  refine hr.mono ?_
  rintro e w1 ⟨b, cap, rfl, hb, R, hcap⟩
  have c0 : w1.cell? ⟨b, 0, none⟩ = some (.int .i64 3) := R.2 0 (by omega)
  have c1 : w1.cell? ⟨b, 1, none⟩ = some (.int .i64 4) := R.2 1 (by omega)
  have c2 : w1.cell? ⟨b, 2, none⟩ = some (.int .i64 1) := R.2 2 (by omega)
  have c3 : w1.cell? ⟨b, 3, none⟩ = some (.int .i64 2) := R.2 3 (by omega)
  have hl := R.1
  have heq := eql_cell 3 4 1 2 3 4 1 2
  have hB := bvia (below_alloc w (.cells #[.int .i64 1, .int .i64 2, .int .i64 3, .int .i64 4] 49)) hcap.2
  go_wp2_with fail
  go_ret
  exact ⟨rfl, balloc hB _⟩
end Go.Proofs.YtpbobhobhbbimaaGreatDoor
