/- Words: the places of a disc, and the kinds of a smooth one. -/
import Derived.Test.YtnnaegnkkpknpaaShapeEq
namespace Go.Proofs.Ytnnaegnkkpknpaa
open Go Go.RowKit
set_option linter.unusedVariables false
/-- the places of a disc -/
def dIn (wide high : Int) (p : Int × Int) (q x y : Int) : Bool := onB wide high x y && decide ((x - p.1) * (x - p.1) + (y - p.2) * (y - p.2) ≤ q)
theorem sq_bd {u : Int} (h1 : -64 ≤ u) (h2 : u ≤ 64) : 0 ≤ u * u ∧ u * u ≤ 4096 := by
  obtain ⟨k, hk⟩ : ∃ k : Nat, k = u.natAbs := ⟨_, rfl⟩
  have e : u * u = ((k * k : Nat) : Int) := by rw [hk]; simp
  have : k * k ≤ 64 * 64 := Nat.mul_le_mul (by omega) (by omega)
  rw [e]
  omega
/-- the places about a grid -/
def near (x y : Int) : Prop := -1 ≤ x ∧ x ≤ 64 ∧ -1 ≤ y ∧ y ≤ 64
/-- the kind of a place whose neighbours in the east, north, west and south are not in it -/
def mirS (e n w s : Bool) : Int := if e == w || n == s then 1 else if e == s then 2 else 3
def mirF (wide high : Int) (p : Int × Int) (q x y : Int) : Int := mirS (!dIn wide high p q (x + 1) y) (!dIn wide high p q x (y + 1)) (!dIn wide high p q (x - 1) y) (!dIn wide high p q x (y - 1))
theorem mirS_ne (e n w s : Bool) : mirS e n w s ≠ 0 := by unfold mirS; split <;> (try split) <;> decide
def discK (sm : Bool) (wide high : Int) (p : Int × Int) (q : Int) : Int → Int → Int := if sm then mirF wide high p q else fun _ _ => 1
theorem discK_ne (sm : Bool) (wide high : Int) (p : Int × Int) (q x y : Int) : discK sm wide high p q x y ≠ 0 := by
  cases sm
  · simp [discK]
  · exact mirS_ne _ _ _ _
/-- the bricks and the shape of a function of places -/
def fBricks (wide : Int) (f : Int → Int → Bool) (kf : Int → Int → Int) (n : Nat) : List Brick := (placesTo wide f n).map (mkK kf)
def fS (wide : Int) (f : Int → Int → Bool) (kf : Int → Int → Int) (k : Nat) : Int := if f ((k : Int) % wide) ((k : Int) / wide) then kf ((k : Int) % wide) ((k : Int) / wide) else 0
theorem f_agree {wide high : Int} {f : Int → Int → Bool} {kf : Int → Int → Int} {n : Nat} (v1 : 1 ≤ wide) (hn : (n : Int) = wide * high) (hk : ∀ x y, kf x y ≠ 0) : Agree wide high (fBricks wide f kf n) (fS wide f kf) n := by
  constructor
  · intro b hb _
    obtain ⟨c, hc, rfl⟩ := List.mem_map.1 hb
    obtain ⟨k, hkn, hf, rfl⟩ := mem_places.1 hc
    obtain ⟨_, h2⟩ := place_on v1 hn hkn
    have hi : bIdx wide (mkK kf ((k : Int) % wide, (k : Int) / wide)) = k := h2
    rw [hi]
    exact ⟨hkn, by unfold fS; exact if_pos hf, hk _ _⟩
  · intro j hj hs
    obtain ⟨h1, h2⟩ := place_on v1 hn hj
    refine ⟨mkK kf ((j : Int) % wide, (j : Int) / wide), List.mem_map.2 ⟨_, mem_places.2 ⟨j, hj, ?_, rfl⟩, rfl⟩, h1, h2⟩
    unfold fS at hs
    split at hs
    · assumption
    · exact absurd rfl hs
/-- two shapes with the same places -/
theorem putBad_congr {s s' : Nat → Int} (h : ∀ j, s j ≠ 0 ↔ s' j ≠ 0) (B : Nat → Int) (body : Int) (n : Nat) : putBad s B body n = putBad s' B body n := by
  simp only [putBad, h]
theorem putErr_congr {s s' : Nat → Int} (h : ∀ j, s j ≠ 0 ↔ s' j ≠ 0) (B : Nat → Int) (body : Int) (n : Nat) : putErr s B body n = putErr s' B body n := by
  simp only [putErr, putBad_congr h]
theorem putLen_congr {s s' : Nat → Int} (h : ∀ j, s j ≠ 0 ↔ s' j ≠ 0) (B : Nat → Int) (body : Int) (n : Nat) : putLen s B body n = putLen s' B body n := by
  simp only [putLen, putBad_congr h]
theorem putTo_congr {s s' : Nat → Int} (h : ∀ j, s j ≠ 0 ↔ s' j ≠ 0) (f v : Nat → Int) (n : Nat) : putTo s f v n = putTo s' f v n := by
  funext j; simp only [putTo, h]
theorem fS_ne {wide : Int} {f : Int → Int → Bool} {kf kf' : Int → Int → Int} (h : ∀ x y, kf x y ≠ 0) (h' : ∀ x y, kf' x y ≠ 0) (j : Nat) : fS wide f kf j ≠ 0 ↔ fS wide f kf' j ≠ 0 := by
  unfold fS
  split
  · exact ⟨fun _ => h' _ _, fun _ => h _ _⟩
  · exact Iff.rfl
end Go.Proofs.Ytnnaegnkkpknpaa
