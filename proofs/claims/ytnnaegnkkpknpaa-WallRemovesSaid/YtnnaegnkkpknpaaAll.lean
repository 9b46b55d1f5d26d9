/- Walks: the iterators of the walls' shapes: all places for which something is true. -/
import Derived.Test.YtnnaegnkkpknpaaIter
import Derived.Test.YtnnaegnkkpknpaaRSlope
import Derived.LoopIn
import Derived.Sort.CutIn
import Derived.LoopNIn
import Derived.TacticsInMore
import Derived.Shelf.Abstract
namespace Go.Proofs.Ytnnaegnkkpknpaa
open Go Go.RowKit
attribute [local go_sem] Oper.semAt_some
attribute [local go_sem ↓] Go.wp_at_zero Go.wp_at_succ
set_option linter.unusedVariables false
/-- a function value that tells for each place in D a number -/
def TellsB (g : Nat) (lb : Array Value) (D : Int → Int → Prop) (f : Int → Int → Bool) (w₀ : World) : Prop :=
  ∀ x y W, D x y → Below w₀.heap.size w₀ W → Calls Try.prog g (#[.agg #[.int .i64 x, .int .i64 y]] ++ lb) W fun e W' => e = .returned (.bool (f x y)) ∧ Below W.heap.size W W'
def TellsI (g : Nat) (lb : Array Value) (D : Int → Int → Prop) (f : Int → Int → Int) (w₀ : World) : Prop :=
  ∀ x y W, D x y → Below w₀.heap.size w₀ W → Calls Try.prog g (#[.agg #[.int .i64 x, .int .i64 y]] ++ lb) W fun e W' => e = .returned (.int .i64 (f x y)) ∧ Below W.heap.size W W'
def encP (p : Int × Int) : Array Value := #[.agg #[.int .i64 p.1, .int .i64 p.2]]
/-- the places below k for which f is true, in order -/
def placesTo (wide : Int) (f : Int → Int → Bool) : Nat → List (Int × Int)
  | 0 => []
  | k + 1 => if f ((k : Int) % wide) ((k : Int) / wide) then placesTo wide f k ++ [((k : Int) % wide, (k : Int) / wide)] else placesTo wide f k
theorem placesTo_pre (wide : Int) (f : Int → Int → Bool) (k : Nat) : ∀ n, k ≤ n → placesTo wide f k <+: placesTo wide f n
  | 0, h => by rw [show k = 0 from by omega]; exact List.prefix_refl _
  | n + 1, h => by
    rcases Nat.lt_or_ge k (n + 1) with h' | h'
    · refine (placesTo_pre wide f k n (by omega)).trans ?_
      simp only [placesTo]
      split
      · exact List.prefix_append _ _
      · exact List.prefix_refl _
    · rw [show k = n + 1 from by omega]; exact List.prefix_refl _
set_option maxRecDepth 100000 in
set_option maxHeartbeats 4000000 in
theorem all_iter (wide high : Int) (a : Option Addr) (n c bg bi gf : Nat) (lbf : Array Value) (D : Int → Int → Prop) (f : Int → Int → Bool) (w₀ : World) (v1 : 1 ≤ wide) (v2 : wide ≤ 64) (hn : n ≤ 100000) (Xg : Bx w₀ bg #[.int .i64 wide, .int .i64 high, .slice a n c]) (Xi : Bx w₀ bi #[.func (.func gf) #[] lbf])
    (hf : TellsB gf lbf D f w₀) (hD : ∀ k : Nat, k < n → D ((k : Int) % wide) ((k : Int) / wide)) (eg : ∀ args w, (callFunc gf args).run Try.prog w = .ok (.enter gf args) w) :
    Iter Try.prog 136 #[.pointer (some ⟨bg, 0, none⟩), .pointer (some ⟨bi, 0, none⟩)] encP (placesTo wide f n) w₀ := by
  intro l J Jx C₀ W hW hC hJ hJx hY h0
  refine callsIn_wide.1 (callsIn_of_wp (F := Fence.wide) (n := 0) Try.func136 rfl trivial ?_)
  simp only [Try.ntmps136, List.size_toArray, List.length_cons, List.length_nil, Nat.reduceAdd, Nat.reduceSub, Array.replicate_succ, Array.replicate_zero, List.push_toArray, List.append_toArray, List.nil_append, List.cons_append]
  have hs0 := hW.size
  have g2 : W.cell? ⟨bg, 2, none⟩ = some (.slice a n c) := (bcell hW _ _ Xg.lt).trans (Xg.at_ 2 rfl)
  gi_wp2
  gi_loopw [9] (fun i wr => ∃ k : Nat, k ≤ n ∧ i = .int .i64 k ∧ ∃ C, J (placesTo wide f k) C wr ∧ But C₀ W wr ∧ Grw C₀ C W ∧ Below w₀.heap.size w₀ wr ∧ W.heap.size ≤ wr.heap.size) (fun i _ => n - (intOf i).toNat)
  case atStart => exact ⟨0, Nat.zero_le _, rfl, C₀, h0, But.refl _ _, Grw.refl _ _, hW, Nat.le_refl _⟩
  case round =>
    obtain ⟨k, hk, rfl, C, hj, hbut, hg, hB, hz⟩ := hrel
    by_cases hlt : k < n
    · have lw : 0 ≤ (k : Int) := by omega
      have hw0 : ¬ wide = 0 := by omega
      have ht : (k : Int).tmod wide = (k : Int) % wide := Int.tmod_eq_emod_of_nonneg lw
      have hd : (k : Int).tdiv wide = (k : Int) / wide := Int.tdiv_eq_ediv_of_nonneg lw
      have a1 : 0 ≤ (k : Int) / wide := Int.ediv_nonneg lw (by omega)
      have a2 : (k : Int) / wide ≤ k := Int.ediv_le_self _ lw
      have hwr2 : IntKind.i64.wrap ((k : Int) / wide) = (k : Int) / wide := IntWalk.i64_in _ (by omega)
      have hwr : wrap64 ((k : Int) / wide) = (k : Int) / wide := by unfold wrap64; omega
      clear a1 a2
      have r0 : ∀ Y, Below wr.heap.size wr Y → Y.cell? ⟨bg, 0, none⟩ = some (.int .i64 wide) := fun Y h => (bcell h _ _ (by have := Xg.lt; have := hB.size; omega)).trans ((bcell hB _ _ Xg.lt).trans (Xg.at_ 0 rfl))
      have r1 : ∀ Y, Below wr.heap.size wr Y → Y.cell? ⟨bi, 0, none⟩ = some (.func (.func gf) #[] lbf) := fun Y h => (bcell h _ _ (by have := Xi.lt; have := hB.size; omega)).trans ((bcell hB _ _ Xi.lt).trans (Xi.at_ 0 rfl))
      gi_upto_region 3 with (fail)
      refine wpIn_wide.2 ?_
      go_region_held3 (fun Y => Below wr.heap.size wr Y) ((repeat' (first | with_reducible assumption | with_reducible exact Below.refl _ _ | with_reducible refine Below.drew ?_ | with_reducible refine below_drewN ?_ _ | with_reducible refine balloc ?_ _ | with_reducible refine bset ?_ ?_ _ | with_reducible refine Below.setCell ?_ ?_ _ | with_reducible refine Below.alloc ?_ ?_ _ | omega | (simp; done) | (simp; omega)))) (fail)
      all_goals
        gi_wp2_with fail
        clear hwr hwr2
        refine ⟨trivial, rfl, callsIn_wide.2 ((hf _ _ _ (hD k hlt) ?_).mono ?_)⟩
        · exact hB.trans (((Below.refl _ wr).alloc (Nat.le_refl _) _).drew.mono hB.size)
        rintro e W3 ⟨rfl, hb3⟩
        have hB3 : Below wr.heap.size wr W3 := (((Below.refl _ wr).alloc (Nat.le_refl _) _).drew).trans (hb3.mono (by simp))
        have hBw3 : Below w₀.heap.size w₀ W3 := hB.trans (hB3.mono hB.size)
        have hj3 : J (placesTo wide f k) C W3 := hJ _ _ _ _ hj (but_below hB3 (Nat.le_refl _))
        have X3 : Bx W3 wr.heap.size #[.int .i64 ((k : Int) % wide), .int .i64 ((k : Int) / wide)] := ((Bx.new wr _ 51).drew).below hb3
        have x0 := X3.at_ 0 rfl; have x1 := X3.at_ 1 rfl; have x2 := X3.lt
        have hs3 := hB3.size
        clear r0 r1 ht hd
        cases hv : f ((k : Int) % wide) ((k : Int) / wide)
        · have hp : placesTo wide f (k + 1) = placesTo wide f k := by simp [placesTo, hv]
          have HP := hid hp; clear hp
          gi_wp2_with fail
          refine ⟨fun _ h => (by cases h), ?_⟩
          gi_wp2_with fail
          go_roundw
          case rel => exact ⟨k + 1, by omega, by go_num, C, by rw [HP.out]; exact hj3, hbut.trans (but_below hB3 (Nat.le_refl _)), hg, hBw3, by omega⟩
          case measure => simp [intOf]; omega
        · have hp : placesTo wide f (k + 1) = placesTo wide f k ++ [((k : Int) % wide, (k : Int) / wide)] := by simp [placesTo, hv]
          obtain ⟨fn, tmps, asg, bdy, hy, hR⟩ := hY (placesTo wide f k) ((k : Int) % wide, (k : Int) / wide) C W3 hj3 hBw3 (by rw [← hp]; exact placesTo_pre wide f (k + 1) n (by omega))
          dsimp only [encP] at hy
          have HP := hid hp; clear hp
          gi_wp2_with fail
          refine ⟨rfl, hR.mono ?_⟩
          rintro e W4 ⟨C', hbut4, hg4, (⟨rfl, hj4⟩ | ⟨rfl, hj4⟩)⟩
          · have hs4 := hbut4.size
            have hBw4 : Below w₀.heap.size w₀ W4 := hBw3.trans ⟨hbut4.os, hbut4.tape, hbut4.output, hbut4.size, fun b hb => hbut4.block b (by have := hBw3.size; omega) (fun h => by have := (hC _ _ _ hj3 b h).1; omega)⟩
            gi_wp2_with fail
            go_roundw
            case rel => exact ⟨k + 1, by omega, by go_num, C', by rw [HP.out]; exact hj4, (hbut.trans (but_below hB3 (Nat.le_refl _))).trans' hbut4 hg, fun b h => (hg4 b h).elim (hg b) (fun h2 => .inr (by omega)), hBw4, by omega⟩
            case measure => simp [intOf]; omega
          · gi_wp2_with fail
            refine bodyPost_ret (results_none rfl _ _ _) rfl ?_
            exact ⟨⟨_, rfl⟩, C', (hbut.trans (but_below hB3 (Nat.le_refl _))).trans' hbut4 hg, fun b h => (hg4 b h).elim (hg b) (fun h2 => .inr (by omega)), .inr ⟨_, by rw [← HP.out]; exact placesTo_pre wide f (k + 1) n (by omega), hj4⟩⟩
    · obtain rfl : k = n := (by omega)
      gi_wp2
      go_end0
      exact ⟨⟨_, rfl⟩, C, hbut, hg, .inl hj⟩
end Go.Proofs.Ytnnaegnkkpknpaa
