/- Plain words: a row of ints of the call's own, known as a function, that may be written; walks: slices.Clone, wall.clone and the reference's Copy. -/
import Derived.Test.YthlbmlfkmfheiaaShapeErr
import Derived.Test.YthlbmlfkmfheiaaRo
import Derived.Test.YthlbmlfkmfheiaaBase
import Derived.Deep.AppendLies
import Derived.Deep.RegionLawGrows
namespace Go.Proofs.Ythlbmlfkmfheiaa
open Go.RowKit
set_option linter.unusedVariables false
/-- the cells of the first n places -/
def rowI (f : Nat → Int) (n : Nat) : List Value := (List.range n).map fun k => .int .i64 (f k)
theorem rowI_length (f : Nat → Int) (n : Nat) : (rowI f n).length = n * 1 := by simp [rowI]
theorem rowI_one (f : Nat → Int) (n : Nat) : ∀ u ∈ rowI f n, u.oneCell' = true := by
  intro u hu; simp only [rowI, List.mem_map] at hu; obtain ⟨k, _, rfl⟩ := hu; simp [Value.oneCell']
theorem rowI_at (f : Nat → Int) (n j : Nat) (u : Value) (h : (rowI f n)[j]? = some u) : j < n ∧ u = .int .i64 (f j) := by
  simp only [rowI, List.getElem?_map] at h
  by_cases hj : j < n
  · simp [hj] at h; exact ⟨hj, h.symm⟩
  · simp [hj] at h
theorem ro_of_own {W : World} {base n g cap : Nat} {f : Nat → Int} (h : W.ownsRow base 3 1 (.slice (some ⟨g, 0, none⟩) n cap) n (rowI f n)) (hn : 0 < n) : base ≤ g ∧ Ro W g n f := by
  obtain ⟨g', cap', hv, hb, hlt⟩ := h.form hn
  have e : g = g' := by injection hv with hv; injection hv with hv; injection hv
  subst e
  refine ⟨hb, hlt, fun k hk => ?_, fun i => h.frozenAt i⟩
  rw [h.cellAt k (by omega)]
  simp [rowI, hk]
theorem addr_add (b o j : Nat) : (⟨b, o, none⟩ : Addr).add j = ⟨b, o + j, none⟩ := by
  unfold Addr.add; split <;> simp_all
theorem own_form {W : World} {base n : Nat} {e : TypeId} {v : Value} {xs : List Value} (h : W.ownsRow base e 1 v n xs) (hn : 0 < n) : ∃ g cap, v = .slice (some ⟨g, 0, none⟩) n cap := by
  obtain ⟨g, cap, hv, _⟩ := h.form hn
  exact ⟨g, cap, hv⟩
set_option maxRecDepth 100000 in
/-- append onto an empty slice, in a region that draws: a new row -/
theorem step_app0 {ops : Array Oper} {o : Oper} {a : Act} {w : World} {K : Act → World → Prop} {Q : Exit → Act → World → Prop} {E : Prop}
    (hg : o.guard = none) (s x : Operand) (hop : o.op = Op.call { callee := Callee.builtin Builtin.append, args := #[s, x], argTypes := #[25, 25] })
    (ao : Addr) (hs : a.eval s = .slice (some ao) 0 0) (ax : Option Addr) (n c : Nat) (f : Nat → Int) (hx : a.eval x = .slice ax n c) (h0 : 0 < n) (hn : n ≤ 100000) (H : Sl w ax n f)
    (hK : ∀ g cap w', w.heap.size ≤ g → Ro w' g n f → Below w.heap.size w w' → K (a.put o.dst (.slice (some ⟨g, 0, none⟩) n cap)) w') :
    if Region.wanted o (yielded ops a.tmps) = true then Oper.wp Try.prog o a w K Q else E := by
  obtain ⟨i0, hi, hz0, hz1, hz2⟩ := info_parts infoI
  obtain ⟨b, off, rfl, hlt, _⟩ := H 0 h0
  refine step_append_grows hg s x 25 hop 3 i0 (.int .i64 0) 1 8 Try.underlying25 hi hz0 hz1 hz2 rfl (by decide) (some ao) 0 0 [] hs (fun e => by cases e) rfl (fun _ _ j u hu => by simp at hu)
    ⟨b, off, none⟩ n c (rowI f n) hx (rowI_length f n) (fun j u hu => ?_) (rowI_one f n) (by omega) (by simp only [maxLen]; omega) (by omega) (fun v' w' hown hgr => ?_)
  · obtain ⟨hj, rfl⟩ := rowI_at f n j u hu
    obtain ⟨b', o', e, _, hc⟩ := H j hj
    injection e with e; injection e with e1 e2 _
    subst e1 e2
    rw [addr_add]
    exact hc
  · simp only [Nat.zero_add, List.nil_append] at hown
    obtain ⟨g, cap, rfl⟩ := own_form hown h0
    obtain ⟨hb, hr⟩ := ro_of_own hown h0
    exact hK g cap w' hb hr ((Below.refl _ w).grown hgr (Nat.le_refl _) (fun k e => by cases e))
end Go.Proofs.Ythlbmlfkmfheiaa
