/- Plain words: slices of notes, and lists of notes that are made by append. -/
import Derived.Test.YtcakccfhcgjofaaNPlain
namespace Go.Proofs.Ytcakccfhcgjofaa
open Go Go.RowKit
set_option linter.unusedVariables false
def N6.get (x : N6) : Nat → Int | 0 => x.st | 1 => x.fr | 2 => x.to | 3 => x.ce | 4 => x.di | _ => x.co
def N6.list (x : N6) : List Value := [.int .i64 x.st, .int .i64 x.fr, .int .i64 x.to, .int .i64 x.ce, .int .i64 x.di, .int .i64 x.co]
theorem N6.list_at (x : N6) (j : Nat) (h : j < 6) : x.list[j]? = some (.int .i64 (x.get j)) := by
  rcases (by omega : j = 0 ∨ j = 1 ∨ j = 2 ∨ j = 3 ∨ j = 4 ∨ j = 5) with rfl | rfl | rfl | rfl | rfl | rfl <;> rfl
theorem N6.ext' {x y : N6} (h : ∀ j, j < 6 → x.get j = y.get j) : x = y := by
  have h0 := h 0 (by omega); have h1 := h 1 (by omega); have h2 := h 2 (by omega); have h3 := h 3 (by omega); have h4 := h 4 (by omega); have h5 := h 5 (by omega)
  cases x; cases y; simp_all [N6.get]
/-- a slice of notes -/
def Sn (w : World) (a : Option Addr) (n : Nat) (f : Nat → N6) : Prop :=
  ∀ k, k < n → ∃ b off, a = some ⟨b, off, none⟩ ∧ b < w.heap.size ∧ ∀ j, j < 6 → w.cell? ⟨b, off + k * 6 + j, none⟩ = some (.int .i64 ((f k).get j))
theorem Sn.keep {w w' : World} {a : Option Addr} {n : Nat} {f : Nat → N6} (h : Sn w a n f) (hs : w.heap.size ≤ w'.heap.size)
    (hk : ∀ b o, b < w.heap.size → w'.cell? ⟨b, o, none⟩ = w.cell? ⟨b, o, none⟩) : Sn w' a n f := fun k hkn => by
  obtain ⟨b, off, h1, h2, h3⟩ := h k hkn
  exact ⟨b, off, h1, by omega, fun j hj => (hk _ _ h2).trans (h3 j hj)⟩
theorem Sn.below {w w' : World} {a : Option Addr} {n : Nat} {f : Nat → N6} (h : Sn w a n f) (hb : Below w.heap.size w w') : Sn w' a n f := h.keep hb.size (bcell hb)
theorem Sn.alloc {w : World} {a : Option Addr} {n : Nat} {f : Nat → N6} (h : Sn w a n f) (o : Obj) : Sn (w.alloc o) a n f := h.below ((Below.refl _ w).alloc (Nat.le_refl _) o)
theorem Sn.drew {w : World} {a : Option Addr} {n : Nat} {f : Nat → N6} (h : Sn w a n f) : Sn w.drew a n f := h
theorem Sn.drewN {w : World} {a : Option Addr} {n : Nat} {f : Nat → N6} (h : Sn w a n f) (k : Nat) : Sn (w.drewN k) a n f := h
theorem Sn.congr {w : World} {a : Option Addr} {n : Nat} {f g : Nat → N6} (h : Sn w a n f) (e : ∀ k, k < n → f k = g k) : Sn w a n g := fun k hk => by
  obtain ⟨b, off, h1, h2, h3⟩ := h k hk
  exact ⟨b, off, h1, h2, fun j hj => by rw [h3 j hj, e k hk]⟩
/-- the six cells of a note of a slice -/
theorem Sn.six {w : World} {a : Option Addr} {n : Nat} {f : Nat → N6} (h : Sn w a n f) {k : Nat} (hk : k < n) : ∃ b off, a = some ⟨b, off, none⟩ ∧ b < w.heap.size ∧
    w.cell? ⟨b, off + k * 6, none⟩ = some (.int .i64 (f k).st) ∧ w.cell? ⟨b, off + k * 6 + 1, none⟩ = some (.int .i64 (f k).fr) ∧ w.cell? ⟨b, off + k * 6 + 2, none⟩ = some (.int .i64 (f k).to) ∧
    w.cell? ⟨b, off + k * 6 + 3, none⟩ = some (.int .i64 (f k).ce) ∧ w.cell? ⟨b, off + k * 6 + 4, none⟩ = some (.int .i64 (f k).di) ∧ w.cell? ⟨b, off + k * 6 + 5, none⟩ = some (.int .i64 (f k).co) := by
  obtain ⟨b, off, h1, h2, h3⟩ := h k hk
  exact ⟨b, off, h1, h2, h3 0 (by omega), h3 1 (by omega), h3 2 (by omega), h3 3 (by omega), h3 4 (by omega), h3 5 (by omega)⟩
def flatN (xs : List N6) : List Value := xs.flatMap N6.list
theorem flatN_length : ∀ xs : List N6, (flatN xs).length = xs.length * 6
  | [] => rfl
  | x :: xs => by
    have h : (xs.flatMap N6.list).length = xs.length * 6 := flatN_length xs
    simp only [flatN, List.flatMap_cons, List.length_append, List.length_cons]
    rw [h, show x.list.length = 6 from rfl]; omega
theorem flatN_at : ∀ (xs : List N6) (k j : Nat), k < xs.length → j < 6 → (flatN xs)[k * 6 + j]? = some (.int .i64 ((xs.getD k N6.zero).get j))
  | [], k, j, h, _ => by simp at h
  | x :: xs, 0, j, _, hj => by
    simp only [flatN, List.flatMap_cons]
    rw [List.getElem?_append_left (by simp [N6.list]; omega), show 0 * 6 + j = j by omega, N6.list_at _ _ hj]
    rfl
  | x :: xs, k + 1, j, h, hj => by
    have ih := flatN_at xs k j (by simpa using h) hj
    simp only [flatN, List.flatMap_cons]
    rw [List.getElem?_append_right (by simp [N6.list]; omega), show (k + 1) * 6 + j - x.list.length = k * 6 + j by simp [N6.list]; omega]
    rw [show (x :: xs).getD (k + 1) N6.zero = xs.getD k N6.zero from rfl]
    exact ih
theorem flatN_one (xs : List N6) : ∀ u ∈ flatN xs, u.oneCell' = true := by
  intro u hu
  simp only [flatN, List.mem_flatMap] at hu
  obtain ⟨x, _, hx⟩ := hu
  simp only [N6.list, List.mem_cons, List.not_mem_nil, or_false] at hx
  rcases hx with rfl | rfl | rfl | rfl | rfl | rfl <;> simp [Value.oneCell']
theorem infoN : (Try.prog.info? 41).map (fun i => (i.zero, i.size, i.bytes)) = some (some (.agg #[.int .i64 0, .int .i64 0, .int .i64 0, .int .i64 0, .int .i64 0, .int .i64 0]), 6, 48) := by kernel_rfl
/-- an own list of notes -/
def OwnN (w : World) (base : Nat) (v : Value) (xs : List N6) : Prop := w.ownsRow base 41 6 v xs.length (flatN xs)
theorem ownN_nil (w : World) (base : Nat) : OwnN w base (.slice none 0 0) [] := World.ownsRow_nil ..
theorem ownN_snoc {w : World} {base : Nat} {v : Value} {xs : List N6} {x : N6} (h : w.ownsRow base 41 6 v (xs.length + 1) (flatN xs ++ x.list)) : OwnN w base v (xs ++ [x]) := by
  unfold OwnN
  rw [List.length_append, flatN, List.flatMap_append]
  simpa [flatN] using h
theorem sn_of_own {w : World} {base : Nat} {v : Value} {xs : List N6} (h : OwnN w base v xs) : ∃ a c, v = .slice a xs.length c ∧ Sn w a xs.length (fun k => xs.getD k N6.zero) := by
  rcases h.2 with ⟨rfl, h0⟩ | ⟨g, cap, cur, rfl, hb, hh, hn, hm, hc, ht⟩
  · exact ⟨none, 0, by rw [h0], fun k hk => by omega⟩
  · refine ⟨some ⟨g, 0, none⟩, cap, rfl, fun k hk => ⟨g, 0, rfl, ?_, fun j hj => ?_⟩⟩
    · rcases Nat.lt_or_ge g w.heap.size with h' | h'
      · exact h'
      · rw [Array.getElem?_eq_none h'] at hh; cases hh
    · rw [Nat.zero_add, cell_of_row w g _ cur 41 (0, 0) hh]
      have h1 := flatN_at xs k j hk hj
      rw [← ht, List.getElem?_take, if_pos (by omega)] at h1
      simpa using h1
theorem cells_new (w : World) (cs : List Value) (t : TypeId) : ∀ j u, cs[j]? = some u → (w.alloc (.cells cs.toArray t)).cell? ((⟨w.heap.size, 0, none⟩ : Addr).add j) = some u := fun j u h => by
  rw [show (⟨w.heap.size, 0, none⟩ : Addr).add j = ⟨w.heap.size, j, none⟩ by unfold Addr.add; split <;> simp_all]
  exact cell_new w _ t j u (by simpa using h)
theorem n6_one (x : N6) : ∀ u ∈ x.list, u.oneCell' = true := by
  intro u hx
  simp only [N6.list, List.mem_cons, List.not_mem_nil, or_false] at hx
  rcases hx with rfl | rfl | rfl | rfl | rfl | rfl <;> simp [Value.oneCell']
end Go.Proofs.Ytcakccfhcgjofaa
