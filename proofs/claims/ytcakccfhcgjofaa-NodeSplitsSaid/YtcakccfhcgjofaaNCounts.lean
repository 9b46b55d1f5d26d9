/- Walk: counts, the map of a post from places to counts. -/
import Derived.Test.YtcakccfhcgjofaaNPostV
namespace Go.Proofs.Ytcakccfhcgjofaa
open Go Go.RowKit Go.Maps Go.ChangeMaps
set_option linter.unusedVariables false
set_option linter.unusedSimpArgs false
/-- the count at the place of x of the first k notes -/
def cntV (p : Nat → N6) (x : N6) : Nat → Int | 0 => 0 | k + 1 => if plcB (p k) x then (p k).co else cntV p x k
/-- block b is a map of at most n places to ints: which it has, and what they are -/
def PcM (w : World) (b n : Nat) (S : N6 → Bool) (V : N6 → Int) : Prop :=
  ∃ D : DataW Unit, w.ownsMap Try.prog 90 (plainElem Try.prog 3) b n D ∧ ∀ x, wfN x → Maps.has D (plL x) = S x ∧ D.atKey (plL x) (.lit (.int .i64 0)) = .lit (.int .i64 (V x))
theorem pcm_made (w : World) : PcM (w.alloc (.map #[] 0)) w.heap.size 0 (fun _ => false) (fun _ => 0) :=
  ⟨.map [], World.ownsMap_made w _ _ _, fun i _ => by simp [DataW.atKey, Maps.has]⟩
theorem pcm_below {w w' : World} {b n : Nat} {S : N6 → Bool} {V : N6 → Int} (h : PcM w b n S V) (hb : Below w.heap.size w w') : PcM w' b n S V := by
  obtain ⟨D, ⟨es, clock, h1, h2⟩, hat⟩ := h
  refine ⟨D, ⟨es, clock, ?_, h2⟩, hat⟩
  rw [hb.block b ?_]
  · exact h1
  · rcases Nat.lt_or_ge b w.heap.size with h' | h'
    · exact h'
    · rw [Array.getElem?_eq_none h'] at h1; cases h1
theorem pcm_congr {w : World} {b n : Nat} {S S' : N6 → Bool} {V V' : N6 → Int} (h : PcM w b n S V) (e : ∀ x, S x = S' x) (e' : ∀ x, V x = V' x) : PcM w b n S' V' := by
  obtain ⟨D, h1, h2⟩ := h
  exact ⟨D, h1, fun x hx => by rw [← e x, ← e' x]; exact h2 x hx⟩
theorem pcm_lt {w : World} {b n : Nat} {S : N6 → Bool} {V : N6 → Int} (h : PcM w b n S V) : b < w.heap.size := by
  obtain ⟨D, ⟨es, clock, h1, h2⟩, hat⟩ := h
  exact (Array.getElem?_eq_some_iff.1 h1).1
theorem pcm_look {w : World} {b n : Nat} {S : N6 → Bool} {V : N6 → Int} (h : PcM w b n S V) {x : N6} (hx : wfN x) :
    (Instr.lookup 98 (.map (some b)) (plV x) true).run Try.prog w = .ok (.tuple #[.int .i64 (V x), .bool (S x)]) w := by
  obtain ⟨D, ho, hat⟩ := h
  obtain ⟨v, ps, hrun, hv⟩ := ho.look_ok (Keyed.of_law law_place) Try.underlying98 (z := .int .i64 0) (by kernel_rfl) (plainElem_int Try.underlying3 (by decide)) (key_place hx)
  obtain ⟨c, rfl, hc, _⟩ := plainElem_int_inv Try.underlying3 hv
  obtain ⟨h1, h2⟩ := hat x hx
  rw [h2] at hc
  simp only [Prod.mk.injEq, DataW.lit.injEq, Lit.int.injEq, true_and] at hc
  rw [hrun, h1, hc.1]
theorem pcm_store {w : World} {b n : Nat} {S : N6 → Bool} {V : N6 → Int} (h : PcM w b n S V) (hn : n < maxLen) {x : N6} (hx : wfN x) (c : Int) (hc : (Lit.int .i64 c).wf = true) :
    ∃ w', (Instr.mapUpdate 98 (.map (some b)) (plV x) (.int .i64 c)).run Try.prog w = .ok () w' ∧ PcM w' b (n + 1) (fun y => S y || plcB x y) (fun y => if plcB x y then c else V y) ∧ w.mapTurned w' b := by
  obtain ⟨D, ho, hat⟩ := h
  obtain ⟨w', hrun, ho', htn⟩ := ho.store (Keyed.of_law law_place) Try.underlying98 hn (key_place hx) (plainElem_int Try.underlying3 hc)
  refine ⟨w', hrun, ⟨_, ho', fun y hy => ?_⟩, htn⟩
  cases e : plcB x y
  · have hne : plL y ≠ plL x := by intro h'; have := plL_inj hx hy h'.symm; rw [e] at this; cases this
    rw [atKey_put_other hne, has_put_other hne, (hat y hy).1, (hat y hy).2]
    simp [e]
  · rw [← plL_eq e, atKey_put_same ho.isMap (by trivial), has_put_same ho.isMap (by trivial)]
    simp [e]
set_option maxRecDepth 100000 in
set_option maxHeartbeats 4000000 in
theorem node_counts (ap : Option Addr) (q cp : Nat) (p : Nat → N6) (w : World) (hq : q ≤ 100000000) (HP : Sn w ap q p) (HW : ∀ k, k < q → wfN (p k)) :
    Calls Try.prog 66 #[.slice ap q cp] w fun e w' => ∃ b, e = .returned (.map (some b)) ∧ PcM w' b q (fun y => metB p y q) (fun y => cntV p y q) ∧ Below w.heap.size w w' := by
  have hmm := @run_makeMap Try.prog
  have P1 := HP.alloc (.map #[] 0)
  have M1 := pcm_made w
  have B1 := below_alloc w (.map #[] 0)
  have HWF := hid HW; clear HW
  go_enter Try.func66, Try.ntmps66
  go_wp2
  clear hmm
  go_loopw [9] (fun i wr => ∃ k : Nat, k ≤ q ∧ i = .int .i64 k ∧ PcM wr w.heap.size k (fun y => metB p y k) (fun y => cntV p y k) ∧ Below w.heap.size w wr) (fun i _ => q - (intOf i).toNat)
  case atStart => exact ⟨0, Nat.zero_le _, rfl, M1, B1⟩
  case round =>
    obtain ⟨k, hk, rfl, hM, hB⟩ := hrel
    have hkey := pcm_lt hM
    by_cases hlt : k < q
    · obtain ⟨b1, o1, rfl, hb1, c0, c1, c2, c3, c4, c5⟩ := (HP.below hB).six hlt
      have hwf := HWF.out k hlt
      have hof := fun W => node_of (p k) W
      go_wp2_with fail
      have hW : Below wr.heap.size wr (wr.alloc (.cells #[.int .i64 (p k).st, .int .i64 (p k).fr, .int .i64 (p k).to, .int .i64 (p k).ce, .int .i64 (p k).di, .int .i64 (p k).co] 41)) := by (repeat' (first | with_reducible assumption | with_reducible exact Below.refl _ _ | with_reducible refine Below.drew ?_ | with_reducible refine below_drewN ?_ _ | with_reducible refine balloc ?_ _ | with_reducible refine bset ?_ ?_ _ | with_reducible refine Below.setCell ?_ ?_ _ | with_reducible refine Below.alloc ?_ ?_ _ | omega | (simp; done) | (simp; omega)))
      have Xs := Bx.new wr #[.int .i64 (p k).st, .int .i64 (p k).fr, .int .i64 (p k).to, .int .i64 (p k).ce, .int .i64 (p k).di, .int .i64 (p k).co] 41
      have M5 := pcm_below hM hW
      have B5 := bvia hB hW
      clear hM c0 c1 c2 c3 c4 c5
      generalize hWg : (wr.alloc (.cells #[.int .i64 (p k).st, .int .i64 (p k).fr, .int .i64 (p k).to, .int .i64 (p k).ce, .int .i64 (p k).di, .int .i64 (p k).co] 41)) = W5 at *
      clear hWg
      have s0 : ∀ Y, Below W5.heap.size W5 Y → Y.cell? ⟨wr.heap.size, 0, none⟩ = some (.int .i64 (p k).st) := fun Y h => (Xs.below h).at_ 0 rfl
      have s1 : ∀ Y, Below W5.heap.size W5 Y → Y.cell? ⟨wr.heap.size, 1, none⟩ = some (.int .i64 (p k).fr) := fun Y h => (Xs.below h).at_ 1 rfl
      have s2 : ∀ Y, Below W5.heap.size W5 Y → Y.cell? ⟨wr.heap.size, 2, none⟩ = some (.int .i64 (p k).to) := fun Y h => (Xs.below h).at_ 2 rfl
      have s3 : ∀ Y, Below W5.heap.size W5 Y → Y.cell? ⟨wr.heap.size, 3, none⟩ = some (.int .i64 (p k).ce) := fun Y h => (Xs.below h).at_ 3 rfl
      have s4 : ∀ Y, Below W5.heap.size W5 Y → Y.cell? ⟨wr.heap.size, 4, none⟩ = some (.int .i64 (p k).di) := fun Y h => (Xs.below h).at_ 4 rfl
      have s5 : ∀ Y, Below W5.heap.size W5 Y → Y.cell? ⟨wr.heap.size, 5, none⟩ = some (.int .i64 (p k).co) := fun Y h => (Xs.below h).at_ 5 rfl
      have hz := hW.size
      refine wp_region_S (fun Y => Below W5.heap.size W5 Y) 5 (by kernel_rfl) ?_
      refine anyS_take (i := 0) rfl (by kernel_rfl) (fun _ _ _ h => h) (Or.inl ⟨by rfl, fun Y hYb => (by (try dsimp only at hYb); go_simp; rfl)⟩) (by repeat' (first | with_reducible assumption | with_reducible exact Below.refl _ _ | with_reducible refine Below.drew ?_ | with_reducible refine below_drewN ?_ _)) ?_
      simp only [List.getElem_toArray, List.getElem_cons_succ, List.getElem_cons_zero, Act.put, List.setIfInBounds_toArray, List.set_cons_zero, List.set_cons_succ]
      refine anyS_take (i := 1) rfl (by kernel_rfl) (fun _ _ _ h => h) (Or.inl ⟨by rfl, fun Y hYb => (by (try dsimp only at hYb); go_simp; rfl)⟩) (by repeat' (first | with_reducible assumption | with_reducible exact Below.refl _ _ | with_reducible refine Below.drew ?_ | with_reducible refine below_drewN ?_ _)) ?_
      simp only [List.getElem_toArray, List.getElem_cons_succ, List.getElem_cons_zero, Act.put, List.setIfInBounds_toArray, List.set_cons_zero, List.set_cons_succ]
      refine anyS_take (i := 3) rfl (by kernel_rfl) (fun _ _ _ h => h) (Or.inl ⟨by rfl, fun Y hYb => (by (try dsimp only at hYb); go_simp; rfl)⟩) (by repeat' (first | with_reducible assumption | with_reducible exact Below.refl _ _ | with_reducible refine Below.drew ?_ | with_reducible refine below_drewN ?_ _)) ?_
      simp only [List.getElem_toArray, List.getElem_cons_succ, List.getElem_cons_zero, Act.put, List.setIfInBounds_toArray, List.set_cons_zero, List.set_cons_succ]
      refine anyS_take (i := 4) rfl (by kernel_rfl) (fun _ _ _ h => h) (Or.inl ⟨by rfl, fun Y hYb => (by (try dsimp only at hYb); go_simp; rfl)⟩) (by repeat' (first | with_reducible assumption | with_reducible exact Below.refl _ _ | with_reducible refine Below.drew ?_ | with_reducible refine below_drewN ?_ _)) ?_
      simp only [List.getElem_toArray, List.getElem_cons_succ, List.getElem_cons_zero, Act.put, List.setIfInBounds_toArray, List.set_cons_zero, List.set_cons_succ]
      refine anyS_one (i := 2) (by kernel_rfl) rfl (by rfl) (fun K hK => ?_)
      go_simp
      refine (hof _).mono ?_
      rintro e w6 ⟨rfl, hb6⟩
      dsimp only
      have hS6 : Below W5.heap.size W5 w6 := bvia (by (repeat' (first | with_reducible assumption | with_reducible exact Below.refl _ _ | with_reducible refine Below.drew ?_ | with_reducible refine below_drewN ?_ _ | with_reducible refine balloc ?_ _ | with_reducible refine bset ?_ ?_ _ | with_reducible refine Below.setCell ?_ ?_ _ | with_reducible refine Below.alloc ?_ ?_ _ | omega | (simp; done) | (simp; omega)))) hb6
      refine hK _ _ (fun _ _ => hS6) ?_
      clear hK K hb6
      have M6 := pcm_below M5 hS6
      have B6 := bvia B5 hS6
      obtain ⟨w7, hrun, M7, ht⟩ := pcm_store M6 (by simp [maxLen]; omega) hwf (p k).co (hwf 5 (by omega))
      unfold plV at hrun
      have hs6 := hS6.size
      have B7 := below_turned B6 ht (Nat.le_refl _) B6.size
      refine anyS_one (i := 5) (by kernel_rfl) rfl (by rfl) (fun K hK => ?_)
      go_simp
      refine hK _ _ (fun h _ => absurd h (by decide)) ?_
      clear hK K
      refine anyS_done (by kernel_rfl) ?_ _
      go_wp2
      go_roundw
      case rel => exact ⟨k + 1, by omega, by go_num, pcm_congr M7 (fun y => rfl) (fun y => rfl), B7⟩
      case measure => simp [intOf]; omega
    · obtain rfl : k = q := (by omega)
      go_wp2
      go_ret
      exact ⟨_, rfl, hM, hB⟩
end Go.Proofs.Ytcakccfhcgjofaa
