/- Walks: the function values of Box and Slope. -/
import Derived.Test.YtnnaegnkkpknpaaWPut
namespace Go.Proofs.Ytnnaegnkkpknpaa
open Go Go.RowKit
set_option linter.unusedVariables false
theorem within_mm {n lo hi a b : Int} (h1 : lo ≤ a) (h2 : lo ≤ b) (h3 : a ≤ hi) (h4 : b ≤ hi) (h5 : lo = a ∨ lo = b) (h6 : hi = a ∨ hi = b) : within n lo hi = betB n a b := by
  unfold betB within
  rw [Bool.eq_iff_iff]
  simp only [Bool.and_eq_true, Bool.or_eq_true, decide_eq_true_eq]
  omega
def boxF (p q : Int × Int) (x y : Int) : Bool := betB x p.1 q.1 && betB y p.2 q.2
set_option maxRecDepth 100000 in
set_option maxHeartbeats 1000000 in
theorem box_tells (p q : Int × Int) (bp bq : Nat) (w₀ : World) (Xp : Bx w₀ bp #[.int .i64 p.1, .int .i64 p.2]) (Xq : Bx w₀ bq #[.int .i64 q.1, .int .i64 q.2]) :
    TellsB 78 #[.pointer (some ⟨bp, 0, none⟩), .pointer (some ⟨bq, 0, none⟩)] (fun _ _ => True) (boxF p q) w₀ := by
  intro x y W _ hW
  have Yp := Xp.below hW; have Yq := Xq.below hW
  have p0 := Yp.at_ 0 rfl; have p1 := Yp.at_ 1 rfl; have q0 := Yq.at_ 0 rfl; have q1 := Yq.at_ 1 rfl; have lp := Yp.lt; have lq := Yq.lt
  cases hx : betB x p.1 q.1
  all_goals
    show Calls Try.prog 78 #[.agg #[.int .i64 x, .int .i64 y], .pointer (some ⟨bp, 0, none⟩), .pointer (some ⟨bq, 0, none⟩)] W _
    go_enter Try.func78, Try.ntmps78
    go_wp2_with fail
    all_goals
      refine (wall_within _ _ _ _).mono ?_
      rintro e w' ⟨rfl, rfl⟩
      rw [within_mm (n := x) (a := p.1) (b := q.1) (by omega) (by omega) (by omega) (by omega) (by omega) (by omega), hx]
      go_wp2_with (go_at_call 66; refine (wall_within _ _ _ _).mono ?_; rintro e w' ⟨rfl, rfl⟩)
    all_goals
      go_ret
      refine ⟨?_, by (repeat' (first | with_reducible assumption | with_reducible exact Below.refl _ _ | with_reducible refine Below.drew ?_ | with_reducible refine below_drewN ?_ _ | with_reducible refine balloc ?_ _ | with_reducible refine bset ?_ ?_ _ | with_reducible refine Below.setCell ?_ ?_ _ | with_reducible refine Below.alloc ?_ ?_ _ | omega | (simp; done) | (simp; omega)))⟩
      first
        | (rw [within_mm (n := y) (a := p.2) (b := q.2) (by omega) (by omega) (by omega) (by omega) (by omega) (by omega)]; simp [boxF, hx]; done)
        | (simp [boxF, hx]; done)
set_option maxRecDepth 100000 in
theorem box2_tells (kind : Int) (bk : Nat) (w₀ : World) (Xk : Bx w₀ bk #[.int .i64 kind]) :
    TellsI 82 #[.pointer (some ⟨bk, 0, none⟩)] (fun _ _ => True) (fun _ _ => kind) w₀ := by
  intro x y W _ hW
  have Yk := Xk.below hW
  have p0 := Yk.at_ 0 rfl; have lp := Yk.lt
  show Calls Try.prog 82 #[.agg #[.int .i64 x, .int .i64 y], .pointer (some ⟨bk, 0, none⟩)] W _
  go_enter Try.func82, Try.ntmps82
  go_wp2
  go_ret
  exact ⟨rfl, by (repeat' (first | with_reducible assumption | with_reducible exact Below.refl _ _ | with_reducible refine Below.drew ?_ | with_reducible refine below_drewN ?_ _ | with_reducible refine balloc ?_ _ | with_reducible refine bset ?_ ?_ _ | with_reducible refine Below.setCell ?_ ?_ _ | with_reducible refine Below.alloc ?_ ?_ _ | omega | (simp; done) | (simp; omega)))⟩
set_option maxRecDepth 100000 in
theorem slope2_tells (kind : Int) (bk : Nat) (w₀ : World) (Xk : Bx w₀ bk #[.int .i64 kind]) :
    TellsI 87 #[.pointer (some ⟨bk, 0, none⟩)] (fun _ _ => True) (fun _ _ => kind) w₀ := by
  intro x y W _ hW
  have Yk := Xk.below hW
  have p0 := Yk.at_ 0 rfl; have lp := Yk.lt
  show Calls Try.prog 87 #[.agg #[.int .i64 x, .int .i64 y], .pointer (some ⟨bk, 0, none⟩)] W _
  go_enter Try.func87, Try.ntmps87
  go_wp2
  go_ret
  exact ⟨rfl, by (repeat' (first | with_reducible assumption | with_reducible exact Below.refl _ _ | with_reducible refine Below.drew ?_ | with_reducible refine below_drewN ?_ _ | with_reducible refine balloc ?_ _ | with_reducible refine bset ?_ ?_ _ | with_reducible refine Below.setCell ?_ ?_ _ | with_reducible refine Below.alloc ?_ ?_ _ | omega | (simp; done) | (simp; omega)))⟩
set_option maxRecDepth 100000 in
theorem wall_all (wide high : Int) (a : Option Addr) (n c gf : Nat) (lbf : Array Value) (w : World) :
    Calls Try.prog 81 #[.agg #[.int .i64 wide, .int .i64 high, .slice a n c], .func (.func gf) #[] lbf] w fun e w' => ∃ bg bi, e = .returned (.func (.func 136) #[] #[.pointer (some ⟨bg, 0, none⟩), .pointer (some ⟨bi, 0, none⟩)]) ∧ Bx w' bg #[.int .i64 wide, .int .i64 high, .slice a n c] ∧ Bx w' bi #[.func (.func gf) #[] lbf] ∧ Below w.heap.size w w' := by
  go_enter Try.func81, Try.ntmps81
  go_wp2
  go_ret
  refine ⟨_, _, rfl, (Bx.new w _ _).alloc _, ?_, by (repeat' (first | with_reducible assumption | with_reducible exact Below.refl _ _ | with_reducible refine Below.drew ?_ | with_reducible refine below_drewN ?_ _ | with_reducible refine balloc ?_ _ | with_reducible refine bset ?_ ?_ _ | with_reducible refine Below.setCell ?_ ?_ _ | with_reducible refine Below.alloc ?_ ?_ _ | omega | (simp; done) | (simp; omega)))⟩
  have h := Bx.new (w.alloc (.cells #[.int .i64 wide, .int .i64 high, .slice a n c] 24)) #[.func (.func gf) #[] lbf] 101
  rw [World.size_alloc] at h
  exact h
set_option maxRecDepth 100000 in
theorem wall_kinds (gp gk : Nat) (lbp lbk : Array Value) (w : World) :
    Calls Try.prog 80 #[.func (.func gp) #[] lbp, .func (.func gk) #[] lbk] w fun e w' => ∃ bp bk, e = .returned (.func (.func 135) #[] #[.pointer (some ⟨bp, 0, none⟩), .pointer (some ⟨bk, 0, none⟩)]) ∧ Bx w' bp #[.func (.func gp) #[] lbp] ∧ Bx w' bk #[.func (.func gk) #[] lbk] ∧ Below w.heap.size w w' := by
  go_enter Try.func80, Try.ntmps80
  go_wp2
  go_ret
  refine ⟨_, _, rfl, (Bx.new w _ _).alloc _, ?_, by (repeat' (first | with_reducible assumption | with_reducible exact Below.refl _ _ | with_reducible refine Below.drew ?_ | with_reducible refine below_drewN ?_ _ | with_reducible refine balloc ?_ _ | with_reducible refine bset ?_ ?_ _ | with_reducible refine Below.setCell ?_ ?_ _ | with_reducible refine Below.alloc ?_ ?_ _ | omega | (simp; done) | (simp; omega)))⟩
  have h := Bx.new (w.alloc (.cells #[.func (.func gp) #[] lbp] 107)) #[.func (.func gk) #[] lbk] 109
  rw [World.size_alloc] at h
  exact h
end Go.Proofs.Ytnnaegnkkpknpaa
