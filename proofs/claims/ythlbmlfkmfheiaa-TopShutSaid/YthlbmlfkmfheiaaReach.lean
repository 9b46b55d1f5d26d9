/- A map of bools over places, as a set. Plain words: the neighbours of a place on the torus, and what can be reached from a place by open cells. No program in sight. -/
import Derived.Test.YthlbmlfkmfheiaaTorus
import Derived.Test.YthlbmlfkmfheiaaBodies
import Derived.Maps.OwnSet
namespace Go.Proofs.Ythlbmlfkmfheiaa
open Go Go.RowKit Go.Maps Go.ChangeMaps
set_option linter.unusedVariables false
theorem plainElem_bool_inv {H : Type} {P : Program} {e : TypeId} (he : P.underlying e = some .bool) {v : Value} {z : DataW H × List MemPlace} (h : plainElem P e v = some z) : ∃ x, v = .bool x ∧ z = (.lit (.bool x), []) := by
  unfold plainElem at h
  rw [he] at h
  cases v <;> simp at h
  exact ⟨_, rfl, h.symm⟩
/-- block b is a map of at most n entries that says of each place below 2^62 whether it is in S -/
def MetM (w : World) (b n : Nat) (S : Nat → Bool) : Prop :=
  ∃ D : DataW Unit, w.ownsMap Try.prog 3 (plainElem Try.prog 4) b n D ∧ ∀ i : Nat, i < 1000000 → D.atKey (.int .i64 (i : Int)) (.lit (.bool false)) = .lit (.bool (S i))
theorem wf_nat {i : Nat} (h : i < 1000000) : (Lit.int .i64 (i : Int)).wf = true := by
  have a : IntKind.i64.min = -9223372036854775808 := by decide
  have b : IntKind.i64.max = 9223372036854775807 := by decide
  simp only [Lit.wf, Bool.and_eq_true, decide_eq_true_eq]; omega
theorem met_made (w : World) : MetM (w.alloc (.map #[] 0)) w.heap.size 0 (fun _ => false) :=
  ⟨.map [], World.ownsMap_made w _ _ _, fun i _ => by simp [DataW.atKey]⟩
theorem met_look {w : World} {b n : Nat} {S : Nat → Bool} (h : MetM w b n S) {i : Nat} (hi : i < 1000000) :
    (Instr.lookup 55 (.map (some b)) (.int .i64 (i : Int)) false).run Try.prog w = .ok (.bool (S i)) w := by
  obtain ⟨D, ho, hat⟩ := h
  obtain ⟨v, ps, hrun, hv⟩ := ho.lookup keyedInt Try.underlying55 (z := .bool false) (by kernel_rfl) (plainElem_bool Try.underlying4 false) (keyOf_int_mk Try.underlying3 (wf_nat hi))
  obtain ⟨x, rfl, hx⟩ := plainElem_bool_inv Try.underlying4 hv
  rw [hat i hi] at hx
  simp only [Prod.mk.injEq, DataW.lit.injEq, Lit.bool.injEq] at hx
  rw [hrun, hx.1]
theorem met_store {w : World} {b n : Nat} {S : Nat → Bool} (h : MetM w b n S) (hn : n < maxLen) {i : Nat} (hi : i < 1000000) :
    ∃ w', (Instr.mapUpdate 55 (.map (some b)) (.int .i64 (i : Int)) (.bool true)).run Try.prog w = .ok () w' ∧ MetM w' b (n + 1) (fun j => if j = i then true else S j) ∧ w.mapTurned w' b := by
  obtain ⟨D, ho, hat⟩ := h
  obtain ⟨w', hrun, ho', ht⟩ := ho.store keyedInt Try.underlying55 hn (keyOf_int_mk Try.underlying3 (wf_nat hi)) (plainElem_bool Try.underlying4 true)
  refine ⟨w', hrun, ⟨_, ho', fun j hj => ?_⟩, ht⟩
  by_cases e : j = i
  · subst e
    rw [atKey_put_same ho.isMap (by trivial)]
    simp
  · rw [atKey_put_other (by intro h'; injection h' with _ h'; exact e (by omega)), hat j hj]
    simp [e]
theorem met_below {w w' : World} {b n : Nat} {S : Nat → Bool} (h : MetM w b n S) (hb : Below w.heap.size w w') : MetM w' b n S := by
  obtain ⟨D, ⟨es, clock, h1, h2⟩, hat⟩ := h
  refine ⟨D, ⟨es, clock, ?_, h2⟩, hat⟩
  rw [hb.block b ?_]
  · exact h1
  · rcases Nat.lt_or_ge b w.heap.size with h' | h'
    · exact h'
    · rw [Array.getElem?_eq_none h'] at h1; cases h1
theorem met_drewN {w : World} {b n : Nat} {S : Nat → Bool} (h : MetM w b n S) (k : Nat) : MetM (w.drewN k) b n S := h
/-- a look-up in such a map, for the walk: guarded or not -/
theorem wpList_lookup_met (w : World) {ops : Array Oper} {rest : List Oper} {o : Oper} {a : Act} {Q : Exit → Act → World → Prop}
    (hw : Region.wanted o (yielded ops a.tmps) = true) (m x : Operand) (hop : o.op = Op.lookup 55 m x false) (b n : Nat) (S : Nat → Bool)
    (hm : a.eval m = .map (some b)) (hmet : MetM w b n S) (i : Nat) (hi : i < 1000000) (hx : a.eval x = .int .i64 (i : Int)) (v : Bool) (hv : S i = v)
    (hK : wpList Try.prog ops Q rest (a.put o.dst (.bool v)) w) : wpList Try.prog ops Q (o :: rest) a w := by
  subst hv
  refine wpList_step fun K' hK' => ?_
  rw [if_pos hw]
  unfold Oper.wp
  simp [execOp, hop, hm, hx, met_look hmet hi, Result.andThen]
  exact hK' _ _ hK
/-- a store of true, for the walk -/
theorem wpList_store_met (w : World) {ops : Array Oper} {rest : List Oper} {o : Oper} {a : Act} {Q : Exit → Act → World → Prop}
    (hg : o.guard = none) (m x : Operand) (v : Operand) (hop : o.op = Op.mapUpdate 55 m x v) (b n : Nat) (S : Nat → Bool)
    (hm : a.eval m = .map (some b)) (hmet : MetM w b n S) (hn : n < maxLen) (i : Nat) (hi : i < 1000000) (hx : a.eval x = .int .i64 (i : Int)) (hv : a.eval v = .bool true)
    (hK : ∀ w', MetM w' b (n + 1) (fun j => if j = i then true else S j) → w.mapTurned w' b → wpList Try.prog ops Q rest (a.put o.dst undef) w') : wpList Try.prog ops Q (o :: rest) a w := by
  refine wpList_plain hg fun K' hK' => ?_
  obtain ⟨w', hrun, hmet', ht⟩ := met_store hmet hn hi
  unfold Oper.wp
  simp [execOp, hop, hm, hx, hv, hrun, Result.andThen]
  exact hK' _ _ (hK w' hmet' ht)
end Go.Proofs.Ythlbmlfkmfheiaa
namespace Go.Proofs.Ythlbmlfkmfheiaa
open Go Go.RowKit
set_option linter.unusedVariables false
/-- what can be reached from p by open places -/
def Rch (K : Nat → Int) (W H p i : Nat) : Prop := ∀ Q : Nat → Prop, Q p → (∀ j d, Q j → d < 4 → K (nbT W H j d) = 0 → Q (nbT W H j d)) → Q i
theorem Rch.here (K : Nat → Int) (W H p : Nat) : Rch K W H p p := fun _ h _ => h
theorem Rch.step {K : Nat → Int} {W H p j d : Nat} (h : Rch K W H p j) (hd : d < 4) (hk : K (nbT W H j d) = 0) : Rch K W H p (nbT W H j d) := fun Q h0 hs => hs j d (h Q h0 hs) hd hk
theorem Rch.trans {K : Nat → Int} {W H p i j : Nat} (h : Rch K W H p i) (k : Rch K W H i j) : Rch K W H p j := fun Q h0 hs => k Q (h Q h0 hs) hs
theorem Rch.lt {K : Nat → Int} {W H p j : Nat} (hp : p < W * H) (h : Rch K W H p j) : j < W * H := h (fun i => i < W * H) hp fun i d hi hd _ => nbT_lt hi hd
theorem Rch.open_ {K : Nat → Int} {W H p j : Nat} (hp : K p = 0) (h : Rch K W H p j) : K j = 0 := h (fun i => K i = 0) hp fun _ _ _ _ hk => hk
/-- a set with p that no open neighbour leaves holds all that can be reached -/
theorem Rch.of_closed {K : Nat → Int} {W H p j : Nat} {S : Nat → Bool} (h : Rch K W H p j) (hp : S p = true) (hc : ∀ j d, S j = true → d < 4 → K (nbT W H j d) = 0 → S (nbT W H j d) = true) : S j = true := h (fun i => S i = true) hp hc
/-- what a call of meet at i makes of the set M -/
structure MeetTo (K : Nat → Int) (W H i : Nat) (M M' : Nat → Bool) : Prop where
  grow : ∀ j, M j = true → M' j = true
  from_ : ∀ j, M' j = true → M j = true ∨ (K i = 0 ∧ Rch K W H i j)
  here : K i = 0 → M' i = true
  shut : ∀ j d, M' j = true → M j = false → d < 4 → K (nbT W H j d) = 0 → M' (nbT W H j d) = true
theorem MeetTo.none {K : Nat → Int} {W H i : Nat} {M : Nat → Bool} (h : K i ≠ 0 ∨ M i = true) : MeetTo K W H i M M :=
  ⟨fun _ h => h, fun _ h => .inl h, fun hk => h.elim (fun h' => absurd hk h') id, fun j d h1 h2 => by rw [h1] at h2; cases h2⟩
/-- the set with i -/
def putM (M : Nat → Bool) (i : Nat) : Nat → Bool := fun j => if j = i then true else M j
theorem MeetTo.four {K : Nat → Int} {W H i : Nat} {M M2 M3 M4 M5 : Nat → Bool} (hk : K i = 0) (h2 : MeetTo K W H (nbT W H i 2) (putM M i) M2) (h3 : MeetTo K W H (nbT W H i 3) M2 M3) (h4 : MeetTo K W H (nbT W H i 0) M3 M4) (h5 : MeetTo K W H (nbT W H i 1) M4 M5) :
    MeetTo K W H i M M5 := by
  have g1 : ∀ j, M j = true → putM M i j = true := fun j h => by unfold putM; split <;> simp_all
  have gi : putM M i i = true := by simp [putM]
  have R : ∀ d, d < 4 → ∀ j, (K (nbT W H i d) = 0 ∧ Rch K W H (nbT W H i d) j) → Rch K W H i j := fun d hd j h => ((Rch.here K W H i).step hd h.1).trans h.2
  refine ⟨fun j h => h5.grow j (h4.grow j (h3.grow j (h2.grow j (g1 j h)))), fun j h => ?_, fun _ => h5.grow i (h4.grow i (h3.grow i (h2.grow i gi))), fun j d h hm hd ho => ?_⟩
  · rcases h5.from_ j h with h | h
    · rcases h4.from_ j h with h | h
      · rcases h3.from_ j h with h | h
        · rcases h2.from_ j h with h | h
          · unfold putM at h
            split at h
            · rename_i e; subst e; exact .inr ⟨hk, Rch.here _ _ _ _⟩
            · exact .inl h
          · exact .inr ⟨hk, R 2 (by omega) j h⟩
        · exact .inr ⟨hk, R 3 (by omega) j h⟩
      · exact .inr ⟨hk, R 0 (by omega) j h⟩
    · exact .inr ⟨hk, R 1 (by omega) j h⟩
  · by_cases e : j = i
    · subst e
      rcases (by omega : d = 0 ∨ d = 1 ∨ d = 2 ∨ d = 3) with rfl | rfl | rfl | rfl
      · exact h5.grow _ (h4.here ho)
      · exact h5.here ho
      · exact h5.grow _ (h4.grow _ (h3.grow _ (h2.here ho)))
      · exact h5.grow _ (h4.grow _ (h3.here ho))
    · have e1 : putM M i j = false := by simp [putM, e, hm]
      cases e4 : M4 j
      · exact h5.shut j d h e4 hd ho
      · refine h5.grow _ ?_
        cases e3 : M3 j
        · exact h4.shut j d e4 e3 hd ho
        · refine h4.grow _ ?_
          cases e2 : M2 j
          · exact h3.shut j d e3 e2 hd ho
          · exact h3.grow _ (h2.shut j d e2 e1 hd ho)
/-- how many of the first n places are open and not met -/
def cntO (K : Nat → Int) (M : Nat → Bool) : Nat → Nat
  | 0 => 0
  | n + 1 => cntO K M n + if K n = 0 ∧ M n = false then 1 else 0
theorem cntO_le (K : Nat → Int) (M : Nat → Bool) : ∀ n, cntO K M n ≤ n
  | 0 => Nat.le_refl _
  | n + 1 => by have := cntO_le K M n; simp only [cntO]; split <;> omega
theorem cntO_grow {K : Nat → Int} {M M' : Nat → Bool} (h : ∀ j, M j = true → M' j = true) : ∀ n, cntO K M' n ≤ cntO K M n
  | 0 => Nat.le_refl _
  | n + 1 => by
    have ih := cntO_grow (K := K) h n
    simp only [cntO]
    split
    · rename_i h'
      have : M n = false := by
        cases e : M n
        · rfl
        · have := h n e; rw [h'.2] at this; cases this
      rw [if_pos ⟨h'.1, this⟩]; omega
    · omega
theorem cntO_put {K : Nat → Int} {M : Nat → Bool} {i : Nat} (hk : K i = 0) (hm : M i = false) : ∀ n, i < n → cntO K (putM M i) n + 1 = cntO K M n
  | 0, h => by omega
  | n + 1, h => by
    simp only [cntO]
    by_cases e : i = n
    · subst e
      have h1 : ∀ m, m ≤ i → cntO K (putM M i) m = cntO K M m := fun m => by
        induction m with
        | zero => intro _; rfl
        | succ m ih => intro h; simp only [cntO]; rw [ih (by omega)]; simp [putM, show m ≠ i by omega]
      have e1 : putM M i i = true := by simp [putM]
      rw [h1 i (Nat.le_refl _)]
      simp [e1, hk, hm]
    · have ih := cntO_put hk hm n (by omega)
      have : putM M i n = M n := by simp [putM, show n ≠ i by omega]
      rw [this]; omega
end Go.Proofs.Ythlbmlfkmfheiaa
