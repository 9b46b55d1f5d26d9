/- Walk: Sorted, of the reference (two sorted halves put together). -/
import Derived.Test.YtmmjaobpoiofdaaGreatNSortP
import Derived.Test.YtmmjaobpoiofdaaGreatSeq
import Derived.Test.YtmmjaobpoiofdaaGreatCRow
import Derived.Laws.AppendOwnNone
import Derived.Deep.Cut
namespace Go.Proofs.YtmmjaobpoiofdaaGreat
open Go Go.RowKit
set_option linter.unusedVariables false
set_option linter.unusedSimpArgs false
/-- two sorted lists are being put together -/
structure MrgI (l out a b : List N6) : Prop where
  perm : (out ++ (a ++ b)).Perm l
  oa : OrdN a
  ob : OrdN b
  oo : OrdN out
  le : ∀ x ∈ out, ∀ y, y ∈ a ∨ y ∈ b → befN y x = false
theorem MrgI.swap {l out a b : List N6} (h : MrgI l out a b) : MrgI l out b a :=
  ⟨((List.perm_append_comm).append_left out).trans h.perm, h.ob, h.oa, h.oo, fun x hx y hy => h.le x hx y hy.symm⟩
theorem MrgI.step {l out a b : List N6} {x : N6} (h : MrgI l out (x :: a) b) (hb : ∀ y, b.head? = some y → befN y x = false) : MrgI l (out ++ [x]) a b := by
  obtain ⟨ha1, ha2⟩ := List.pairwise_cons.1 h.oa
  refine ⟨?_, ha2, h.ob, ?_, ?_⟩
  · have := h.perm
    simpa using this
  · refine List.pairwise_append.2 ⟨h.oo, List.pairwise_singleton _ _, fun u hu v hv => ?_⟩
    rw [List.mem_singleton.1 hv]
    exact h.le u hu x (.inl (List.mem_cons_self ..))
  · intro u hu y hy
    rcases List.mem_append.1 hu with hu | hu
    · exact h.le u hu y (hy.imp (List.mem_cons_of_mem _) id)
    · rw [List.mem_singleton.1 hu]
      rcases hy with hy | hy
      · exact ha1 y hy
      · cases b with
        | nil => cases hy
        | cons z b =>
          have hz := hb z rfl
          rcases List.mem_cons.1 hy with rfl | hy
          · exact hz
          · exact befN_ntrans ((List.pairwise_cons.1 h.ob).1 y hy) hz
theorem MrgI.done {l out : List N6} (h : MrgI l out [] []) : out = sortN l := sortN_eq (by simpa using h.perm) h.oo
theorem MrgI.start {l a b : List N6} (h : l = a ++ b) : MrgI l [] (sortN a) (sortN b) :=
  ⟨by rw [h]; exact (sortN_perm a).append (sortN_perm b), sortN_ord a, sortN_ord b, List.Pairwise.nil, fun x hx => by cases hx⟩
theorem MrgI.len {l out a b : List N6} (h : MrgI l out a b) : out.length + a.length + b.length = l.length := by
  have := h.perm.length_eq
  simp at this; omega
/-- a slice that reads as a list -/
def ListR (W : World) (p : Option Addr) (n c : Nat) (A : List N6) : Prop := A.length = n ∧ n ≤ c ∧ Sn W p n (fun k => A.getD k N6.zero)
theorem Sn.from {w : World} {a : Option Addr} {n c l : Nat} {p : Nat → N6} (h : Sn w a n p) (hc : n ≤ c) : Sn w (if c = l then a else a.map (·.add (l * 6))) (n - l) (fun k => p (l + k)) := fun k hk => by
  obtain ⟨b, off, rfl, h2, h3⟩ := h (l + k) (by omega)
  rw [if_neg (by omega)]
  refine ⟨b, off + l * 6, ?_, h2, fun j hj => ?_⟩
  · rw [Option.map_some, addrAdd]
  · rw [← h3 j hj]; congr 2; omega
theorem Sn.to {w : World} {a : Option Addr} {n c l : Nat} {p : Nat → N6} (h : Sn w a n p) (hl : l ≤ n) : Sn w (if c = 0 then a else a.map (·.add (0 * 6))) l p := fun k hk => by
  obtain ⟨b, off, rfl, h2, h3⟩ := h k (by omega)
  refine ⟨b, off, ?_, h2, h3⟩
  split
  · rfl
  · rw [Nat.zero_mul, Option.map_some, addrAdd]; rfl
theorem ListR.below {W W' : World} {p : Option Addr} {n c : Nat} {A : List N6} (h : ListR W p n c A) (hb : Below W.heap.size W W') : ListR W' p n c A := ⟨h.1, h.2.1, h.2.2.below hb⟩
theorem notes_slice_from (a : Option Addr) (n c l : Nat) (h : l ≤ n) (w : World) : (Instr.slice 31 (.slice a n c) (some (.int .i64 (l : Int))) none none).run Tryz.prog w = .ok (.slice (if c = l then a else a.map (·.add (l * 6))) (n - l) (c - l)) w := by
  rw [run_slice_l w 31 a n c (by kernel_rfl) .i64 (l : Int) (by omega) (by omega)]
  have hz : (sizeOf (Tryz.prog.elem 31)).run Tryz.prog w = .ok 6 w := by kernel_rfl
  rw [hz]
  rfl
theorem notes_slice_to (a : Option Addr) (n c l : Nat) (h : l ≤ c) (w : World) : (Instr.slice 31 (.slice a n c) none (some (.int .i64 (l : Int))) none).run Tryz.prog w = .ok (.slice (if c = 0 then a else a.map (·.add (0 * 6))) l c) w := by
  rw [run_slice_h w 31 a n c (by kernel_rfl) .i64 (l : Int) (by omega) (by omega)]
  have hz : (sizeOf (Tryz.prog.elem 31)).run Tryz.prog w = .ok 6 w := by kernel_rfl
  rw [hz]
  rfl
theorem ListR.cons {W : World} {p : Option Addr} {n c : Nat} {A : List N6} (h : ListR W p n c A) (hn : 0 < n) : ∃ x T, A = x :: T := by
  cases A with
  | nil => have := h.1; simp at this; omega
  | cons x T => exact ⟨x, T, rfl⟩
theorem ListR.nil {W : World} {p : Option Addr} {n c : Nat} {A : List N6} (h : ListR W p n c A) (hn : n = 0) : A = [] := List.length_eq_zero_iff.1 (h.1.trans hn)
theorem listR_of_own {w : World} {base : Nat} {v : Value} {xs : List N6} (h : OwnN w base v xs) : ∃ p c, v = .slice p xs.length c ∧ ListR w p xs.length c xs := by
  obtain ⟨a, c, rfl, hs⟩ := sn_of_own h
  refine ⟨a, c, rfl, rfl, ?_, hs⟩
  rcases h.2 with ⟨e, h0⟩ | ⟨g, cap, cur, e, hb, hh, hn, hm, hc, ht⟩
  · omega
  · injection e with _ _ e3
    omega
theorem listR_of_own2 {w : World} {base : Nat} {v : Value} {xs : List N6} (h : OwnN w base v xs) : ∃ p c, v = .slice p xs.length c ∧ ListR w p xs.length c xs ∧ (p = none → c = 0) := by
  obtain ⟨p, c, rfl, hl⟩ := listR_of_own h
  refine ⟨p, c, rfl, hl, fun e => ?_⟩
  rcases h.2 with ⟨e2, _⟩ | ⟨g, cap, cur, e2, _⟩
  · injection e2
  · injection e2 with e3; rw [e] at e3; cases e3
theorem own_listR {w : World} {base : Nat} {p : Option Addr} {n c : Nat} {xs : List N6} (h : OwnN w base (.slice p n c) xs) : ListR w p n c xs := by
  obtain ⟨p', c', e, hl⟩ := listR_of_own h
  injection e with e1 e2 e3
  subst e1 e2 e3
  exact hl
end Go.Proofs.YtmmjaobpoiofdaaGreat
