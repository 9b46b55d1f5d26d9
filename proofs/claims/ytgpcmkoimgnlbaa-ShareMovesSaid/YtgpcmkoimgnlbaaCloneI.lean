/- Plain words: rows of ints as lists; walk: slices.Clone of ints. -/
import Derived.Test.YtgpcmkoimgnlbaaRo
import Derived.Deep.AppendLies
import Derived.Deep.RegionLawGrows
namespace Go.Proofs.Ytgpcmkoimgnlbaa
open Go.RowKit
set_option linter.unusedVariables false
/-- the cells of the first n places -/
def rowI (f : Nat → Int) (n : Nat) : List Value := (List.range n).map fun k => .int .i64 (f k)
theorem rowI_length (f : Nat → Int) (n : Nat) : (rowI f n).length = n * 1 := by simp [rowI]
theorem rowI_one (f : Nat → Int) (n : Nat) : ∀ u ∈ rowI f n, u.oneCell' = true := by
  intro u hu; simp only [rowI, List.mem_map] at hu; obtain ⟨k, _, rfl⟩ := hu; simp [Value.oneCell']
theorem rowI_at (f : Nat → Int) (n j : Nat) (u : Value) (h : (rowI f n)[j]? = some u) : j < n ∧ u = .int .i64 (f j) := by
  simp only [rowI, List.getElem?_map] at h
  by_cases hj : j < n
  · simp [hj] at h; exact ⟨hj, h.symm⟩
  · simp [hj] at h
theorem ro_of_own {W : World} {base n g cap : Nat} {f : Nat → Int} (h : W.ownsRow base 3 1 (.slice (some ⟨g, 0, none⟩) n cap) n (rowI f n)) (hn : 0 < n) : base ≤ g ∧ Ro W g n f := by
  obtain ⟨g', cap', hv, hb, hlt⟩ := h.form hn
  have e : g = g' := by injection hv with hv; injection hv with hv; injection hv
  subst e
  refine ⟨hb, hlt, fun k hk => ?_, fun i => h.frozenAt i⟩
  rw [h.cellAt k (by omega)]
  simp [rowI, hk]
theorem addr_add (b o j : Nat) : (⟨b, o, none⟩ : Addr).add j = ⟨b, o + j, none⟩ := by
  unfold Addr.add; split <;> simp_all
theorem own_form {W : World} {base n : Nat} {e : TypeId} {v : Value} {xs : List Value} (h : W.ownsRow base e 1 v n xs) (hn : 0 < n) : ∃ g cap, v = .slice (some ⟨g, 0, none⟩) n cap := by
  obtain ⟨g, cap, hv, _⟩ := h.form hn
  exact ⟨g, cap, hv⟩
set_option maxRecDepth 100000 in
set_option maxHeartbeats 1000000 in
theorem clone_ints (a : Option Addr) (n c : Nat) (f : Nat → Int) (w : World) (hn : n ≤ 100000) (h0 : 0 < n) (H : Sl w a n f) :
    Calls Try.prog 61 #[.slice a n c] w fun e w' => ∃ g cap, e = .returned (.slice (some ⟨g, 0, none⟩) n cap) ∧ w.heap.size ≤ g ∧ Ro w' g n f ∧ Below w.heap.size w w' := by
  obtain ⟨i0, hi, hz0, hz1, hz2⟩ := info_parts infoI
  obtain ⟨b, o, rfl, hlt, _⟩ := H 0 h0
  have hnews : ∀ j u, (rowI f n)[j]? = some u → (w.alloc (.cells #[] 3)).cell? ((⟨b, o, none⟩ : Addr).add j) = some u := fun j u hu => by
    obtain ⟨hj, rfl⟩ := rowI_at f n j u hu
    obtain ⟨b', o', e, _, hc⟩ := H j hj
    injection e with e; injection e with e1 e2 _
    subst e1 e2
    rw [addr_add, cell_old _ _ hlt]
    exact hc
  have HN := hid hnews; clear hnews
  have hnil := fun (w : World) => Lib.run_eql_slice_nil (P := Try.prog) w 22 3 (some ⟨b, o, none⟩) n c 0 0 Try.underlying22
  go_enter Try.func61, Try.ntmps61
  go_wp2_with (at_builtin; refine wpList_append_own_at _ rfl _ _ 22 rfl w.heap.size 3 i0 (.int .i64 0) 1 8 Try.underlying22 hi hz0 hz1 hz2 rfl (by decide) (.slice (some ⟨w.heap.size, 0, none⟩) 0 0) 0 [] rfl (World.ownsRow_lit w #[] 0 (Nat.le_refl _) (by simp [maxLen]) rfl) ⟨b, o, none⟩ n c (rowI f n) rfl (rowI_length f n) HN.out (rowI_one f n) (by simp [maxLen]; omega) (by omega) (by simp) ?_; intro v' w1 hown hgrow _ _)
  go_ret
  simp only [Nat.zero_add, List.nil_append] at hown
  obtain ⟨g, cap, rfl⟩ := own_form hown h0
  obtain ⟨hb, hr⟩ := ro_of_own hown h0
  exact ⟨g, cap, rfl, hb, hr, ((Below.refl _ w).alloc (Nat.le_refl _) _).grown hgrow (by simp) (fun k hk => by simp [Value.ownBlock] at hk; omega)⟩
end Go.Proofs.Ytgpcmkoimgnlbaa
