/- Plain words: maps of nodes, a node's cells, the notes that are due, the nodes of a map. No program in sight. Plain words: slices of notes, and lists of notes that are made by append. Plain words: sites, slices of sites; the mass of cells as the nodes reckon it. Plain words and laws: the mass of sites and notes, as a list of numbers. No program in sight. -/
import Derived.Test.YtmmjaobpoiofdaaGreatTorus
import Derived.Test.YtmmjaobpoiofdaaGreatBodies
import Derived.Lib.SlicesCompact
namespace Go.Proofs.YtmmjaobpoiofdaaGreat
set_option linter.unusedVariables false
/-- a valid map of a valid grid -/
def validM (wide high : Int) (n : Nat) (g : Nat → C4) (no : Nat) (o : Nat → Int) : Bool :=
  validG wide high n g && decide (no = n ∧ ∀ k, k < n → 0 ≤ o k ∧ o k ≤ 7)
theorem validM_iff (wide high : Int) (n : Nat) (g : Nat → C4) (no : Nat) (o : Nat → Int) : validM wide high n g no o = true ↔
    (validG wide high n g = true ∧ no = n ∧ ∀ k, k < n → 0 ≤ o k ∧ o k ≤ 7) := by simp [validM]
theorem validM_no (wide high : Int) (n : Nat) (g : Nat → C4) (no : Nat) (o : Nat → Int) : validM wide high n g no o = false ↔
    ¬ (validG wide high n g = true ∧ no = n ∧ ∀ k, k < n → 0 ≤ o k ∧ o k ≤ 7) := by rw [← validM_iff]; simp
/-- the sides of a valid map, as natural numbers -/
theorem validM_sides {wide high : Int} {n : Nat} {g : Nat → C4} {no : Nat} {o : Nat → Int} (h : validM wide high n g no o = true) :
    ∃ W H : Nat, wide = W ∧ high = H ∧ 1 ≤ W ∧ W ≤ 64 ∧ 1 ≤ H ∧ H ≤ 64 ∧ n = W * H ∧ W * H ≤ 1024 ∧ no = n ∧ (∀ k, k < n → 0 ≤ o k ∧ o k ≤ 7) ∧ (∀ k, k < n → validC (g k) = true) ∧ massTo g n ≤ 1000000000 := by
  obtain ⟨hg, h1, h2⟩ := (validM_iff _ _ _ _ _ _).1 h
  obtain ⟨a1, a2, a3, a4, a5, a6, a7, a8⟩ := (validG_iff _ _ _ _).1 hg
  refine ⟨wide.toNat, high.toNat, by omega, by omega, by omega, by omega, by omega, by omega, ?_, ?_, h1, h2, a7, a8⟩
  · have : ((wide.toNat * high.toNat : Nat) : Int) = wide * high := by rw [Int.natCast_mul, Int.toNat_of_nonneg (by omega), Int.toNat_of_nonneg (by omega)]
    omega
  · have : ((wide.toNat * high.toNat : Nat) : Int) = wide * high := by rw [Int.natCast_mul, Int.toNat_of_nonneg (by omega), Int.toNat_of_nonneg (by omega)]
    omega
/-- a note -/
structure N6 where
  st : Int
  fr : Int
  to : Int
  ce : Int
  di : Int
  co : Int
def N6.zero : N6 := ⟨0, 0, 0, 0, 0, 0⟩
def N6.cells (x : N6) : Array Value := #[.int .i64 x.st, .int .i64 x.fr, .int .i64 x.to, .int .i64 x.ce, .int .i64 x.di, .int .i64 x.co]
/-- the notes due into the cell i, of the first d directions -/
def dueC (W H : Nat) (o : Nat → Int) (nd st : Int) (i : Nat) : Nat → List N6
  | 0 => []
  | d + 1 => if o (nbT W H i d) = nd then dueC W H o nd st i d else dueC W H o nd st i d ++ [⟨st, o (nbT W H i d), nd, i, d, 0⟩]
/-- the notes due to a node, into the first cells -/
def dueL (W H : Nat) (o : Nat → Int) (nd st : Int) : Nat → List N6
  | 0 => []
  | i + 1 => if o i = nd then dueL W H o nd st i ++ dueC W H o nd st i 4 else dueL W H o nd st i
/-- the notes due into the cells of a list -/
def dueO (W H : Nat) (o : Nat → Int) (nd st : Int) (l : List Int) : List N6 := l.flatMap fun i => dueC W H o nd st i.toNat 4
theorem dueO_snoc (W H : Nat) (o : Nat → Int) (nd st : Int) (l : List Int) (i : Int) : dueO W H o nd st (l ++ [i]) = dueO W H o nd st l ++ dueC W H o nd st i.toNat 4 := by simp [dueO]
theorem dueO_own (W H : Nat) (o : Nat → Int) (nd st : Int) : ∀ n, dueO W H o nd st (ownL o nd n) = dueL W H o nd st n
  | 0 => rfl
  | n + 1 => by
    simp only [ownL, dueL]
    split
    · rw [dueO_snoc, dueO_own W H o nd st n]; rfl
    · exact dueO_own W H o nd st n
theorem dueC_length (W H : Nat) (o : Nat → Int) (nd st : Int) (i : Nat) : ∀ d, (dueC W H o nd st i d).length ≤ d
  | 0 => by simp [dueC]
  | d + 1 => by have := dueC_length W H o nd st i d; simp only [dueC]; split <;> simp <;> omega
theorem dueL_length (W H : Nat) (o : Nat → Int) (nd st : Int) : ∀ n, (dueL W H o nd st n).length ≤ 4 * n
  | 0 => by simp [dueL]
  | n + 1 => by have := dueL_length W H o nd st n; have := dueC_length W H o nd st n 4; simp only [dueL]; split <;> simp <;> omega
theorem ownL_mem {B : Nat → Int} {b x : Int} : ∀ {n}, x ∈ ownL B b n ↔ ∃ k : Nat, k < n ∧ x = k ∧ B k = b
  | 0 => by simp [ownL]
  | n + 1 => by
    simp only [ownL]
    split
    · rename_i h
      rw [List.mem_append, ownL_mem, List.mem_singleton]
      constructor
      · rintro (⟨k, h1, h2, h3⟩ | rfl)
        · exact ⟨k, by omega, h2, h3⟩
        · exact ⟨n, by omega, rfl, h⟩
      · rintro ⟨k, h1, h2, h3⟩
        by_cases e : k = n
        · subst e; exact .inr h2
        · exact .inl ⟨k, by omega, h2, h3⟩
    · rename_i h
      rw [ownL_mem]
      constructor
      · rintro ⟨k, h1, h2, h3⟩
        exact ⟨k, by omega, h2, h3⟩
      · rintro ⟨k, h1, h2, h3⟩
        by_cases e : k = n
        · subst e; exact absurd h3 h
        · exact ⟨k, by omega, h2, h3⟩
theorem ownL_nil {B : Nat → Int} {b : Int} {n : Nat} : ownL B b n = [] ↔ ∀ k, k < n → B k ≠ b := by
  rw [List.eq_nil_iff_forall_not_mem]
  constructor
  · intro h k hk e; exact h k (ownL_mem.2 ⟨k, hk, rfl, e⟩)
  · intro h x hx
    obtain ⟨k, h1, _, h3⟩ := ownL_mem.1 hx
    exact h k h1 h3
theorem ownL_sorted (B : Nat → Int) (b : Int) : ∀ n, (ownL B b n).Pairwise (· < ·)
  | 0 => by simp [ownL]
  | n + 1 => by
    simp only [ownL]
    split
    · rw [List.pairwise_append]
      refine ⟨ownL_sorted B b n, by simp, fun x hx y hy => ?_⟩
      obtain ⟨k, h1, h2, _⟩ := ownL_mem.1 hx
      rw [List.mem_singleton] at hy
      omega
    · exact ownL_sorted B b n
/-- two lists in order that have the same members are one -/
theorem sorted_ext : ∀ {l m : List Int}, l.Pairwise (· < ·) → m.Pairwise (· < ·) → (∀ x, x ∈ l ↔ x ∈ m) → l = m
  | [], [], _, _, _ => rfl
  | [], y :: m, _, _, h => by have := (h y).2 (List.mem_cons_self ..); cases this
  | x :: l, [], _, _, h => by have := (h x).1 (List.mem_cons_self ..); cases this
  | x :: l, y :: m, hl, hm, h => by
    rw [List.pairwise_cons] at hl hm
    have e : x = y := by
      rcases List.mem_cons.1 ((h x).1 (List.mem_cons_self ..)) with e | h1
      · exact e
      · rcases List.mem_cons.1 ((h y).2 (List.mem_cons_self ..)) with e | h2
        · exact e.symm
        · have := hl.1 y h2; have := hm.1 x h1; omega
    subst e
    rw [sorted_ext hl.2 hm.2 fun z => ?_]
    constructor
    · intro hz
      rcases List.mem_cons.1 ((h z).1 (List.mem_cons_of_mem _ hz)) with e | h1
      · subst e; have := hl.1 z hz; omega
      · exact h1
    · intro hz
      rcases List.mem_cons.1 ((h z).2 (List.mem_cons_of_mem _ hz)) with e | h1
      · subst e; have := hm.1 z hz; omega
      · exact h1
/-- the first nodes that own a cell -/
def nodeL (o : Nat → Int) (n : Nat) : Nat → List Int
  | 0 => []
  | k + 1 => if ownL o k n = [] then nodeL o n k else nodeL o n k ++ [(k : Int)]
theorem nodeL_mem {o : Nat → Int} {n : Nat} {x : Int} : ∀ {k}, x ∈ nodeL o n k ↔ ∃ j : Nat, j < k ∧ x = j ∧ ownL o j n ≠ []
  | 0 => by simp [nodeL]
  | k + 1 => by
    simp only [nodeL]
    split
    · rename_i h
      rw [nodeL_mem]
      constructor
      · rintro ⟨j, h1, h2, h3⟩
        exact ⟨j, by omega, h2, h3⟩
      · rintro ⟨j, h1, h2, h3⟩
        by_cases e : j = k
        · subst e; exact absurd h h3
        · exact ⟨j, by omega, h2, h3⟩
    · rename_i h
      rw [List.mem_append, nodeL_mem, List.mem_singleton]
      constructor
      · rintro (⟨j, h1, h2, h3⟩ | rfl)
        · exact ⟨j, by omega, h2, h3⟩
        · exact ⟨k, by omega, rfl, h⟩
      · rintro ⟨j, h1, h2, h3⟩
        by_cases e : j = k
        · subst e; exact .inr h2
        · exact .inl ⟨j, by omega, h2, h3⟩
theorem nodeL_sorted (o : Nat → Int) (n : Nat) : ∀ k, (nodeL o n k).Pairwise (· < ·)
  | 0 => by simp [nodeL]
  | k + 1 => by
    simp only [nodeL]
    split
    · exact nodeL_sorted o n k
    · rw [List.pairwise_append]
      refine ⟨nodeL_sorted o n k, by simp, fun x hx y hy => ?_⟩
      obtain ⟨j, h1, h2, _⟩ := nodeL_mem.1 hx
      rw [List.mem_singleton] at hy
      omega
theorem nodeL_length (o : Nat → Int) (n : Nat) : ∀ k, (nodeL o n k).length ≤ k
  | 0 => by simp [nodeL]
  | k + 1 => by have := nodeL_length o n k; simp only [nodeL]; split <;> simp <;> omega
/-- compact of a list in order: in order, without doubles, the same members -/
theorem compactUpTo_sorted {d : Array Int} (hd : ∀ i j, i ≤ j → j < d.size → d[i]! ≤ d[j]!) : ∀ m, m ≤ d.size →
    (Lib.compactUpTo d m).Pairwise (· < ·) ∧ (∀ x, x ∈ Lib.compactUpTo d m ↔ ∃ j, j < m ∧ x = d[j]!)
  | 0, _ => by simp [Lib.compactUpTo]
  | m + 1, hm => by
    obtain ⟨h1, h2⟩ := compactUpTo_sorted hd m (by omega)
    rw [Lib.compactUpTo_succ]
    cases hk : Lib.keeps d m
    · have he : m ≠ 0 ∧ d[m]! = d[m - 1]! := by simpa [Lib.keeps] using hk
      simp only [Bool.false_eq_true, if_false, List.append_nil]
      refine ⟨h1, fun x => ?_⟩
      rw [h2]
      constructor
      · rintro ⟨j, hj, e⟩; exact ⟨j, by omega, e⟩
      · rintro ⟨j, hj, e⟩
        by_cases ej : j = m
        · subst ej; exact ⟨j - 1, by omega, by rw [e, he.2]⟩
        · exact ⟨j, by omega, e⟩
    · have he : m = 0 ∨ d[m]! ≠ d[m - 1]! := by simpa [Lib.keeps] using hk
      simp only [if_true]
      rw [List.pairwise_append]
      refine ⟨⟨h1, by simp, fun x hx y hy => ?_⟩, fun x => ?_⟩
      · rw [List.mem_singleton] at hy
        obtain ⟨j, hj, rfl⟩ := (h2 x).1 hx
        have a := hd j (m - 1) (by omega) (by omega)
        have b := hd (m - 1) m (by omega) (by omega)
        rcases he with he | he <;> omega
      · rw [List.mem_append, h2, List.mem_singleton]
        constructor
        · rintro (⟨j, hj, e⟩ | e)
          · exact ⟨j, by omega, e⟩
          · exact ⟨m, by omega, e⟩
        · rintro ⟨j, hj, e⟩
          by_cases ej : j = m
          · subst ej; exact .inr e
          · exact .inl ⟨j, by omega, e⟩
/-- the list of a map's owners -/
def ownersL (o : Nat → Int) (n : Nat) : List Int := (List.range n).map o
theorem nodes_of {o : Nat → Int} {n : Nat} {zs : List Int} (ho : ∀ k, k < n → 0 ≤ o k ∧ o k ≤ 7) (hp : zs.Perm (ownersL o n)) (hs : zs.Pairwise (· ≤ ·)) : Lib.compact zs = nodeL o n 8 := by
  have hd : ∀ i j, i ≤ j → j < zs.toArray.size → zs.toArray[i]! ≤ zs.toArray[j]! := fun i j hij hj => by
    simp at hj
    rw [getElem!_pos _ i (by simp; omega), getElem!_pos _ j (by simp; omega)]
    rcases Nat.lt_or_ge i j with h | h
    · exact List.pairwise_iff_getElem.1 hs i j (by omega) hj h
    · obtain rfl : i = j := by omega
      exact Int.le_refl _
  obtain ⟨h1, h2⟩ := compactUpTo_sorted hd zs.length (by simp)
  refine sorted_ext h1 (nodeL_sorted o n 8) fun x => ?_
  rw [nodeL_mem]
  unfold Lib.compact at *
  rw [h2]
  have hm : ∀ x, x ∈ zs ↔ ∃ k, k < n ∧ o k = x := fun x => by
    rw [hp.mem_iff]
    simp [ownersL]
  constructor
  · rintro ⟨j, hj, rfl⟩
    rw [getElem!_pos _ j (by simpa using hj)]
    obtain ⟨k, hk, e⟩ := (hm zs.toArray[j]).1 (by simp)
    have := ho k hk
    refine ⟨(o k).toNat, by omega, by rw [← e]; omega, ?_⟩
    rw [Ne, ownL_nil]
    intro h
    exact h k hk (by omega)
  · rintro ⟨j, hj, rfl, hne⟩
    rw [Ne, ownL_nil] at hne
    have hex : ∃ k, k < n ∧ o k = j := Classical.byContradiction fun hc => hne fun k hk e => hc ⟨k, hk, e⟩
    obtain ⟨i, hi, e⟩ := List.getElem_of_mem ((hm j).2 hex)
    exact ⟨i, hi, by rw [getElem!_pos _ i (by simpa using hi)]; simpa using e.symm⟩
/-- how many notes are due to the nodes of a list -/
def trafL (W H : Nat) (o : Nat → Int) (n : Nat) (l : List Int) : Nat := (l.map fun k => (dueL W H o k 1 n).length).sum
theorem trafL_snoc (W H : Nat) (o : Nat → Int) (n : Nat) (l : List Int) (k : Int) : trafL W H o n (l ++ [k]) = trafL W H o n l + (dueL W H o k 1 n).length := by simp [trafL]
theorem trafL_le (W H : Nat) (o : Nat → Int) (n : Nat) : ∀ l : List Int, trafL W H o n l ≤ l.length * (4 * n)
  | [] => by simp [trafL]
  | x :: l => by
    have := trafL_le W H o n l
    have h2 := dueL_length W H o x 1 n
    simp only [trafL, List.map_cons, List.sum_cons, List.length_cons] at *
    rw [Nat.add_mul]; omega
end Go.Proofs.YtmmjaobpoiofdaaGreat
namespace Go.Proofs.YtmmjaobpoiofdaaGreat
open Go Go.RowKit
set_option linter.unusedVariables false
def N6.get (x : N6) : Nat → Int | 0 => x.st | 1 => x.fr | 2 => x.to | 3 => x.ce | 4 => x.di | _ => x.co
def N6.list (x : N6) : List Value := [.int .i64 x.st, .int .i64 x.fr, .int .i64 x.to, .int .i64 x.ce, .int .i64 x.di, .int .i64 x.co]
theorem N6.list_at (x : N6) (j : Nat) (h : j < 6) : x.list[j]? = some (.int .i64 (x.get j)) := by
  rcases (by omega : j = 0 ∨ j = 1 ∨ j = 2 ∨ j = 3 ∨ j = 4 ∨ j = 5) with rfl | rfl | rfl | rfl | rfl | rfl <;> rfl
theorem N6.ext' {x y : N6} (h : ∀ j, j < 6 → x.get j = y.get j) : x = y := by
  have h0 := h 0 (by omega); have h1 := h 1 (by omega); have h2 := h 2 (by omega); have h3 := h 3 (by omega); have h4 := h 4 (by omega); have h5 := h 5 (by omega)
  cases x; cases y; simp_all [N6.get]
/-- a slice of notes -/
def Sn (w : World) (a : Option Addr) (n : Nat) (f : Nat → N6) : Prop :=
  ∀ k, k < n → ∃ b off, a = some ⟨b, off, none⟩ ∧ b < w.heap.size ∧ ∀ j, j < 6 → w.cell? ⟨b, off + k * 6 + j, none⟩ = some (.int .i64 ((f k).get j))
theorem Sn.keep {w w' : World} {a : Option Addr} {n : Nat} {f : Nat → N6} (h : Sn w a n f) (hs : w.heap.size ≤ w'.heap.size)
    (hk : ∀ b o, b < w.heap.size → w'.cell? ⟨b, o, none⟩ = w.cell? ⟨b, o, none⟩) : Sn w' a n f := fun k hkn => by
  obtain ⟨b, off, h1, h2, h3⟩ := h k hkn
  exact ⟨b, off, h1, by omega, fun j hj => (hk _ _ h2).trans (h3 j hj)⟩
theorem Sn.below {w w' : World} {a : Option Addr} {n : Nat} {f : Nat → N6} (h : Sn w a n f) (hb : Below w.heap.size w w') : Sn w' a n f := h.keep hb.size (bcell hb)
theorem Sn.alloc {w : World} {a : Option Addr} {n : Nat} {f : Nat → N6} (h : Sn w a n f) (o : Obj) : Sn (w.alloc o) a n f := h.below ((Below.refl _ w).alloc (Nat.le_refl _) o)
theorem Sn.drew {w : World} {a : Option Addr} {n : Nat} {f : Nat → N6} (h : Sn w a n f) : Sn w.drew a n f := h
theorem Sn.drewN {w : World} {a : Option Addr} {n : Nat} {f : Nat → N6} (h : Sn w a n f) (k : Nat) : Sn (w.drewN k) a n f := h
theorem Sn.congr {w : World} {a : Option Addr} {n : Nat} {f g : Nat → N6} (h : Sn w a n f) (e : ∀ k, k < n → f k = g k) : Sn w a n g := fun k hk => by
  obtain ⟨b, off, h1, h2, h3⟩ := h k hk
  exact ⟨b, off, h1, h2, fun j hj => by rw [h3 j hj, e k hk]⟩
/-- the six cells of a note of a slice -/
theorem Sn.six {w : World} {a : Option Addr} {n : Nat} {f : Nat → N6} (h : Sn w a n f) {k : Nat} (hk : k < n) : ∃ b off, a = some ⟨b, off, none⟩ ∧ b < w.heap.size ∧
    w.cell? ⟨b, off + k * 6, none⟩ = some (.int .i64 (f k).st) ∧ w.cell? ⟨b, off + k * 6 + 1, none⟩ = some (.int .i64 (f k).fr) ∧ w.cell? ⟨b, off + k * 6 + 2, none⟩ = some (.int .i64 (f k).to) ∧
    w.cell? ⟨b, off + k * 6 + 3, none⟩ = some (.int .i64 (f k).ce) ∧ w.cell? ⟨b, off + k * 6 + 4, none⟩ = some (.int .i64 (f k).di) ∧ w.cell? ⟨b, off + k * 6 + 5, none⟩ = some (.int .i64 (f k).co) := by
  obtain ⟨b, off, h1, h2, h3⟩ := h k hk
  exact ⟨b, off, h1, h2, h3 0 (by omega), h3 1 (by omega), h3 2 (by omega), h3 3 (by omega), h3 4 (by omega), h3 5 (by omega)⟩
def flatN (xs : List N6) : List Value := xs.flatMap N6.list
theorem flatN_length : ∀ xs : List N6, (flatN xs).length = xs.length * 6
  | [] => rfl
  | x :: xs => by
    have h : (xs.flatMap N6.list).length = xs.length * 6 := flatN_length xs
    simp only [flatN, List.flatMap_cons, List.length_append, List.length_cons]
    rw [h, show x.list.length = 6 from rfl]; omega
theorem flatN_at : ∀ (xs : List N6) (k j : Nat), k < xs.length → j < 6 → (flatN xs)[k * 6 + j]? = some (.int .i64 ((xs.getD k N6.zero).get j))
  | [], k, j, h, _ => by simp at h
  | x :: xs, 0, j, _, hj => by
    simp only [flatN, List.flatMap_cons]
    rw [List.getElem?_append_left (by simp [N6.list]; omega), show 0 * 6 + j = j by omega, N6.list_at _ _ hj]
    rfl
  | x :: xs, k + 1, j, h, hj => by
    have ih := flatN_at xs k j (by simpa using h) hj
    simp only [flatN, List.flatMap_cons]
    rw [List.getElem?_append_right (by simp [N6.list]; omega), show (k + 1) * 6 + j - x.list.length = k * 6 + j by simp [N6.list]; omega]
    rw [show (x :: xs).getD (k + 1) N6.zero = xs.getD k N6.zero from rfl]
    exact ih
theorem flatN_one (xs : List N6) : ∀ u ∈ flatN xs, u.oneCell' = true := by
  intro u hu
  simp only [flatN, List.mem_flatMap] at hu
  obtain ⟨x, _, hx⟩ := hu
  simp only [N6.list, List.mem_cons, List.not_mem_nil, or_false] at hx
  rcases hx with rfl | rfl | rfl | rfl | rfl | rfl <;> simp [Value.oneCell']
theorem infoN : (Tryz.prog.info? 78).map (fun i => (i.zero, i.size, i.bytes)) = some (some (.agg #[.int .i64 0, .int .i64 0, .int .i64 0, .int .i64 0, .int .i64 0, .int .i64 0]), 6, 48) := by kernel_rfl
/-- an own list of notes -/
def OwnN (w : World) (base : Nat) (v : Value) (xs : List N6) : Prop := w.ownsRow base 78 6 v xs.length (flatN xs)
theorem ownN_nil (w : World) (base : Nat) : OwnN w base (.slice none 0 0) [] := World.ownsRow_nil ..
theorem ownN_snoc {w : World} {base : Nat} {v : Value} {xs : List N6} {x : N6} (h : w.ownsRow base 78 6 v (xs.length + 1) (flatN xs ++ x.list)) : OwnN w base v (xs ++ [x]) := by
  unfold OwnN
  rw [List.length_append, flatN, List.flatMap_append]
  simpa [flatN] using h
theorem sn_of_own {w : World} {base : Nat} {v : Value} {xs : List N6} (h : OwnN w base v xs) : ∃ a c, v = .slice a xs.length c ∧ Sn w a xs.length (fun k => xs.getD k N6.zero) := by
  rcases h.2 with ⟨rfl, h0⟩ | ⟨g, cap, cur, rfl, hb, hh, hn, hm, hc, ht⟩
  · exact ⟨none, 0, by rw [h0], fun k hk => by omega⟩
  · refine ⟨some ⟨g, 0, none⟩, cap, rfl, fun k hk => ⟨g, 0, rfl, ?_, fun j hj => ?_⟩⟩
    · rcases Nat.lt_or_ge g w.heap.size with h' | h'
      · exact h'
      · rw [Array.getElem?_eq_none h'] at hh; cases hh
    · rw [Nat.zero_add, cell_of_row w g _ cur 78 (0, 0) hh]
      have h1 := flatN_at xs k j hk hj
      rw [← ht, List.getElem?_take, if_pos (by omega)] at h1
      simpa using h1
theorem cells_new (w : World) (cs : List Value) (t : TypeId) : ∀ j u, cs[j]? = some u → (w.alloc (.cells cs.toArray t)).cell? ((⟨w.heap.size, 0, none⟩ : Addr).add j) = some u := fun j u h => by
  rw [show (⟨w.heap.size, 0, none⟩ : Addr).add j = ⟨w.heap.size, j, none⟩ by unfold Addr.add; split <;> simp_all]
  exact cell_new w _ t j u (by simpa using h)
theorem n6_one (x : N6) : ∀ u ∈ x.list, u.oneCell' = true := by
  intro u hx
  simp only [N6.list, List.mem_cons, List.not_mem_nil, or_false] at hx
  rcases hx with rfl | rfl | rfl | rfl | rfl | rfl <;> simp [Value.oneCell']
end Go.Proofs.YtmmjaobpoiofdaaGreat
namespace Go.Proofs.YtmmjaobpoiofdaaGreat
open Go Go.RowKit
set_option linter.unusedVariables false
/-- a site: its four cells, and what its two slices read as -/
structure SiteR where
  nd : Int
  st : Int
  ix : Option Addr
  ni : Nat
  ci : Nat
  cl : Option Addr
  nc : Nat
  cc : Nat
  I : Nat → Int
  C : Nat → C4
def SiteR.cells (s : SiteR) : Array Value := #[.int .i64 s.nd, .int .i64 s.st, .slice s.ix s.ni s.ci, .slice s.cl s.nc s.cc]
def SiteR.zero : SiteR := ⟨0, 0, none, 0, 0, none, 0, 0, fun _ => 0, fun _ => C4.zero⟩
/-- its slices lie in the world -/
def SiteR.lies (w : World) (s : SiteR) : Prop := Sl w s.ix s.ni s.I ∧ Sc w s.cl s.nc s.C ∧ (s.cl = none → s.cc = 0)
theorem SiteR.lies.below {w w' : World} {s : SiteR} (h : s.lies w) (hb : Below w.heap.size w w') : s.lies w' := ⟨h.1.below hb, h.2.1.below hb, h.2.2⟩
theorem SiteR.lies.alloc {w : World} {s : SiteR} (h : s.lies w) (o : Obj) : s.lies (w.alloc o) := ⟨h.1.alloc o, h.2.1.alloc o, h.2.2⟩
/-- a slice of sites -/
def Ss (w : World) (a : Option Addr) (n : Nat) (f : Nat → SiteR) : Prop :=
  ∀ k, k < n → ∃ b off, a = some ⟨b, off, none⟩ ∧ b < w.heap.size ∧ w.cell? ⟨b, off + k * 4, none⟩ = some (.int .i64 (f k).nd) ∧ w.cell? ⟨b, off + k * 4 + 1, none⟩ = some (.int .i64 (f k).st) ∧
    w.cell? ⟨b, off + k * 4 + 2, none⟩ = some (.slice (f k).ix (f k).ni (f k).ci) ∧ w.cell? ⟨b, off + k * 4 + 3, none⟩ = some (.slice (f k).cl (f k).nc (f k).cc) ∧ (f k).lies w
theorem Ss.below {w w' : World} {a : Option Addr} {n : Nat} {f : Nat → SiteR} (h : Ss w a n f) (hb : Below w.heap.size w w') : Ss w' a n f := fun k hkn => by
  obtain ⟨b, off, h1, h2, h3, h4, h5, h6, h7⟩ := h k hkn
  have hk := bcell hb
  exact ⟨b, off, h1, Nat.lt_of_lt_of_le h2 hb.size, (hk _ _ h2).trans h3, (hk _ _ h2).trans h4, (hk _ _ h2).trans h5, (hk _ _ h2).trans h6, h7.below hb⟩
theorem Ss.alloc {w : World} {a : Option Addr} {n : Nat} {f : Nat → SiteR} (h : Ss w a n f) (o : Obj) : Ss (w.alloc o) a n f := h.below ((Below.refl _ w).alloc (Nat.le_refl _) o)
theorem Ss.drewN {w : World} {a : Option Addr} {n : Nat} {f : Nat → SiteR} (h : Ss w a n f) (k : Nat) : Ss (w.drewN k) a n f := h
/-- is the mass of cells one that may be? -/
def massB (n : Nat) (g : Nat → C4) : Bool := decide ((∀ k, k < n → validC (g k) = true) ∧ massTo g n ≤ 1000000000)
theorem massB_iff (n : Nat) (g : Nat → C4) : massB n g = true ↔ ((∀ k, k < n → validC (g k) = true) ∧ massTo g n ≤ 1000000000) := by simp [massB]
theorem massB_no (n : Nat) (g : Nat → C4) : massB n g = false ↔ ¬ ((∀ k, k < n → validC (g k) = true) ∧ massTo g n ≤ 1000000000) := by rw [← massB_iff]; simp
def massV (n : Nat) (g : Nat → C4) : Int := if massB n g = true then massTo g n else -1
theorem massV_yes {n : Nat} {g : Nat → C4} (h : massB n g = true) : massV n g = massTo g n := if_pos h
theorem massV_no {n : Nat} {g : Nat → C4} (h : massB n g = false) : massV n g = -1 := by unfold massV; rw [h]; rfl
theorem massV_sign (n : Nat) (g : Nat → C4) : decide (0 ≤ massV n g) = massB n g := by
  cases h : massB n g
  · rw [massV_no h]; decide
  · rw [massV_yes h]
    have := massTo_nonneg g n (fun j hj => ((massB_iff _ _).1 h).1 j hj)
    simpa using this
set_option maxRecDepth 100000 in
set_option maxHeartbeats 1000000 in
theorem node_mass (a : Option Addr) (n c : Nat) (g : Nat → C4) (w : World) (hn : n ≤ 100000000) (H : Sc w a n g) : Calls Tryz.prog 72 #[.slice a n c] w fun e w' => e = .returned (.int .i64 (massV n g)) ∧ Below w.heap.size w w' := by
  go_enter Tryz.func72, Tryz.ntmps72
  go_wp2
  go_loopw [3, 10] (fun m i wr => ∃ k : Nat, k ≤ n ∧ i = .int .i64 k ∧ m = .int .i64 (massTo g k) ∧ (∀ j, j < k → validC (g j) = true) ∧ massTo g k ≤ 1000000000 ∧ Below w.heap.size w wr) (fun _ i _ => n - (intOf i).toNat)
  case atStart => exact ⟨0, Nat.zero_le _, rfl, rfl, fun j hj => by omega, by simp [massTo], by (repeat' (first | with_reducible assumption | with_reducible exact Below.refl _ _ | with_reducible refine Below.drew ?_ | with_reducible refine below_drewN ?_ _ | with_reducible refine balloc ?_ _ | with_reducible refine bset ?_ ?_ _ | with_reducible refine Below.setCell ?_ ?_ _ | with_reducible refine Below.alloc ?_ ?_ _ | omega | (simp; done) | (simp; omega)))⟩
  case round =>
    obtain ⟨k, hk, rfl, rfl, hok, hle, hB⟩ := hrel
    have h0 := massTo_nonneg g k hok
    by_cases hlt : k < n
    · obtain ⟨b, off, rfl, hb, c0, c1, c2, c3⟩ := (H.below hB) k hlt
      have HOK := hid hok; clear hok
      go_wp2_with fail
      refine (cell_mass _ _).mono ?_
      rintro e w1 ⟨rfl, hb1⟩
      have hB1 : Below w.heap.size w w1 := bvia (balloc hB _) hb1
      cases hv : validC (g k)
      · simp only [massR, errR, hv]
        have hr : massV n g = -1 := massV_no ((massB_no _ _).2 (fun h => by have := h.1 k hlt; rw [hv] at this; cases this))
        have HR := hid hr; clear hr
        go_wp2_with fail
        go_ret
        rw [HR.out]
        exact ⟨rfl, hB1⟩
      · simp only [massR, errR, hv]
        have b0 := (validC_iff _).1 hv
        have e1 : (g k).mass = (g k).e + (g k).n + (g k).w + (g k).s := rfl
        have b1 : 0 ≤ (g k).mass := by omega
        have b2 : (g k).mass ≤ 1000000000 := by omega
        clear e1 b0
        by_cases hs : 1000000000 < massTo g k + (g k).mass
        · have hr : massV n g = -1 := massV_no ((massB_no _ _).2 (fun h => by
            have hm1 := massTo_mono g (k := k + 1) (n := n) (by omega) h.1
            simp only [massTo] at hm1
            have := h.2
            omega))
          have HR := hid hr; clear hr
          go_wp2_with fail
          go_ret
          rw [HR.out]
          exact ⟨rfl, hB1⟩
        · go_wp2_with fail
          go_roundw
          case rel => exact ⟨k + 1, by omega, by go_num, rfl, fun j hj => by
            rcases Nat.lt_succ_iff_lt_or_eq.1 hj with h' | rfl
            · exact HOK.out j h'
            · exact hv, by simp only [massTo]; omega, hB1⟩
          case measure => simp [intOf]; omega
    · obtain rfl : k = n := (by omega)
      have hr : massV k g = massTo g k := massV_yes ((massB_iff _ _).2 ⟨hok, hle⟩)
      have HR := hid hr; clear hr
      go_wp2
      go_ret
      rw [HR.out]
      exact ⟨rfl, hB⟩
end Go.Proofs.YtmmjaobpoiofdaaGreat
namespace Go.Proofs.YtmmjaobpoiofdaaGreat
open Go Go.RowKit
set_option linter.unusedVariables false
def sumL : List Int → Int | [] => 0 | x :: l => x + sumL l
/-- the mass of numbers: their sum, 0 where one is below 0 or the sum is too great -/
def mssL (l : List Int) : Int := if (∀ x ∈ l, 0 ≤ x) ∧ sumL l ≤ 1000000000 then sumL l else 0
/-- a part of the numbers from the first on, each in bounds -/
def PreM (l P : List Int) : Prop := P <+: l ∧ ∀ x ∈ P, 0 ≤ x ∧ x ≤ 1000000000
theorem PreM.nil (l : List Int) : PreM l [] := ⟨List.nil_prefix, fun x hx => by cases hx⟩
theorem PreM.all {l : List Int} (h : PreM l l) : mssL l = if 1000000000 < sumL l then 0 else sumL l := by
  unfold mssL
  by_cases h1 : 1000000000 < sumL l
  · rw [if_pos h1, if_neg (by omega)]
  · rw [if_neg h1, if_pos ⟨fun x hx => (h.2 x hx).1, by omega⟩]
end Go.Proofs.YtmmjaobpoiofdaaGreat
