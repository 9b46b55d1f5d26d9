/- A map from numbers to cells that a call makes: what it holds, a look-up, a store; a range over it, whose round may store at a key that is there. -/
import Derived.Test.YtmmjaobpoiofdaaGreatBodies
import Derived.Maps.RangeWalk
import Derived.Maps.OwnSet
import Derived.Below
namespace Go.Proofs.YtmmjaobpoiofdaaGreat
open Go Go.RowKit Go.ChangeMaps Go.MapKept Go.WideShapes
open Go.WideElems (Fit rd rg pl rd_key rd_val rg_of rd_mk other_key)
open Go.Maps (Keyed IsMap atKey_put_same atKey_put_other has_put_same has_put_other)
set_option linter.unusedVariables false
section
variable {H : Type} {P : Program} {k : TypeId} {R : Value → Option (DataW H × List MemPlace)} {w : World} {b r n : Nat} {D : DataW H} {left : Lit → Bool} {cnt : Nat}
/-- a store at a key that is there, in a round -/
theorem ranges_put {t e : TypeId} (h : w.ranges P k R b r n D left cnt) (K : Keyed P k) (ht : P.underlying t = some (.map k e)) (hn : n < maxLen) {key val : Value} {kl : Lit} {d : DataW H} {ps : List MemPlace} (hkey : keyOf P k key = some kl) (hv : R val = some (d, ps))
    (hin : ∃ y, ∀ zd, D.atKey kl zd = y) : ∃ w', (Instr.mapUpdate t (.map (some b)) key val).run P w = .ok () w' ∧ w'.ranges P k R b r n (D.put kl d) left cnt ∧ w.mapTurned w' b := by
  have hne := h.ne
  obtain ⟨es, clock, since, seen, c0, hb, F, hs, rfl, hr, hold, rfl, hl1, hl2, hsc, hsk⟩ := h
  obtain ⟨es', clock', hrun, F', hput, _, _, hwho⟩ := Maps.fit_store (R' := R) K ht hb F (Nat.lt_of_le_of_lt hs hn) (fun _ _ _ _ hz => hz) hkey hv
  rcases K.find w hkey es.toList F.keys with ⟨h1, h2⟩ | ⟨j, e0, h1, h2, h3⟩
  · exfalso
    obtain ⟨y, hy⟩ := hin
    have hat := (atKey_sorted (es.toList.map (rg P k R)) (Maps.fit_rising K F) kl (K.key hkey)).1 (fun p hp => by
      obtain ⟨x, hx, rfl⟩ := List.mem_map.1 hp
      obtain ⟨z, hz⟩ := F.reads x hx
      rw [rg_of hz]
      intro e1
      exact h2 x hx (K.inj (e1 ▸ rd_key hz) hkey))
    have a1 := hy (.lit (.bool true)); have a2 := hy (.lit (.bool false))
    rw [hat] at a1 a2
    rw [← a2] at a1
    injection a1 with a1
    injection a1 with a1
    cases a1
  · have hj : es[j]? = some e0 := by simpa using h2
    have hrun2 : (Instr.mapUpdate t (.map (some b)) key val).run P w = .ok () (setBlock w b (.map (es.modify j (fun e' => { e' with key := key, val := val })) clock)) := by
      simp [Instr.mapUpdate, run_underlying ht, MapKept.run_getObj_map hb, K.check w false hkey, h1, hj, h3, K.stays w hkey, MapKept.run_setObj_map _ hb, Result.andThen, setBlock]
    have heq : es' = es.modify j (fun e' => { e' with key := key, val := val }) ∧ clock' = clock := by
      rw [hrun] at hrun2
      injection hrun2 with _ hw
      have h4 := heap_setBlock_same hb (.map es' clock')
      rw [hw, heap_setBlock_same hb _] at h4
      injection h4 with h4
      injection h4 with h5 h6
      exact ⟨h5.symm, h6.symm⟩
    obtain ⟨rfl, rfl⟩ := heq
    have hlist : (es.modify j (fun e' => { e' with key := key, val := val })).toList = es.toList.set j { e0 with key := key, val := val } := by rw [Array.toList_modify, modify_eq_set _ _ _ _ h2]
    have hjl : j < es.toList.length := (List.getElem?_eq_some_iff.1 h2).1
    have hrg0 : (rg P k R e0).1 = kl := by
      obtain ⟨z, hz⟩ := F.reads e0 (List.mem_of_getElem? h2)
      rw [rg_of hz]
      have := rd_key hz
      rw [h3, hkey] at this
      exact (Option.some.inj this).symm
    have hrgn : (rg P k R { e0 with key := key, val := val }).1 = kl := by rw [rg_of (rd_mk hkey hv)]
    have mem' : ∀ x ∈ es.toList.set j { e0 with key := key, val := val }, x = { e0 with key := key, val := val } ∨ x ∈ es.toList := fun x hx => (List.mem_or_eq_of_mem_set hx).symm
    refine ⟨_, hrun, ⟨_, _, since, seen, c0, heap_setBlock_same hb _, F', by simpa using hs, by rw [DataW.put_eq, hput], (heap_setBlock_other hb _ hne).trans hr, fun x hx => ?_, ?_, fun x hx => ?_, fun x0 hx0 => ?_, hsc, hsk⟩, ⟨es, clock', _, _, hb, rfl⟩⟩
    · rw [hlist] at hx
      rcases mem' x hx with rfl | hx
      · exact hold e0 (List.mem_of_getElem? h2)
      · exact hold x hx
    · have e1 : ∀ a : Array MapEntry, (leftOf a seen).size = (a.toList.filter fun e => !seen.contains e.born).length := fun a => by
        unfold leftOf
        rw [← Array.toList_filter, Array.length_toList]
      rw [e1, e1, hlist]
      have key2 : ∀ (l : List MapEntry) (j : Nat) (e0 : MapEntry), l[j]? = some e0 → ((l.set j { e0 with key := key, val := val }).filter fun e => !seen.contains e.born).length = (l.filter fun e => !seen.contains e.born).length := by
        intro l
        induction l with
        | nil => intro j e0 h; simp at h
        | cons a l ih =>
          intro j e0 h
          cases j with
          | zero =>
            simp at h
            subst h
            simp only [List.set_cons_zero, List.filter_cons]
            split <;> rfl
          | succ j =>
            simp at h
            simp only [List.set_cons_succ, List.filter_cons]
            split
            · simp only [List.length_cons]; rw [ih j e0 h]
            · exact ih j e0 h
      exact key2 _ _ _ h2
    · rw [hlist] at hx
      rcases mem' x hx with rfl | hx
      · rw [hrgn, ← hrg0, hl1 e0 (List.mem_of_getElem? h2)]
      · exact hl1 x hx
    · obtain ⟨x, hx, hx2⟩ := hl2 x0 hx0
      rw [hlist]
      obtain ⟨i, hi⟩ := List.getElem?_of_mem hx
      by_cases e1 : i = j
      · subst e1
        rw [h2] at hi
        injection hi with hi
        subst hi
        refine ⟨{ e0 with key := key, val := val }, List.mem_of_getElem? (i := i) (by rw [List.getElem?_set_self hjl]), ?_⟩
        rw [hrgn, ← hx2, hrg0]
      · exact ⟨x, List.mem_of_getElem? (i := i) (by rw [List.getElem?_set_ne (fun e2 => e1 e2.symm)]; exact hi), hx2⟩
end
/-- how a cell reads -/
def encC (c : C4) : DataW Unit := .agg [.lit (.int .i64 c.e), .lit (.int .i64 c.n), .lit (.int .i64 c.w), .lit (.int .i64 c.s)]
theorem encC_inj {c d : C4} (h : encC c = encC d) : c = d := by
  simp only [encC, DataW.agg.injEq, List.cons.injEq, DataW.lit.injEq, Lit.int.injEq, true_and, and_true] at h
  obtain ⟨h1, h2, h3, h4⟩ := h
  cases c; cases d; simp_all
def cellR (v : Value) : Option (DataW Unit × List MemPlace) :=
  match v with
  | .agg xs => match xs.toList with
    | [.int .i64 e, .int .i64 n, .int .i64 w, .int .i64 s] => some (encC ⟨e, n, w, s⟩, [])
    | _ => none
  | _ => none
theorem cellR_val (c : C4) : cellR c.val = some (encC c, []) := rfl
theorem cellR_inv {v : Value} {y : DataW Unit × List MemPlace} (h : cellR v = some y) : ∃ c : C4, v = c.val ∧ y = (encC c, []) := by
  unfold cellR at h
  split at h
  · rename_i xs
    split at h
    · rename_i e n w s hx
      injection h with h
      refine ⟨⟨e, n, w, s⟩, ?_, h.symm⟩
      obtain ⟨l⟩ := xs
      simp only at hx
      subst hx
      rfl
    · cases h
  · cases h
/-- which keys a map has, and what stands there -/
def RdM (D : DataW Unit) (S : Int → Bool) (V : Int → C4) : Prop := ∀ i : Int, (Lit.int .i64 i).wf = true → Maps.has D (.int .i64 i) = S i ∧ D.atKey (.int .i64 i) (encC C4.zero) = encC (V i)
def CmM (w : World) (b n : Nat) (S : Int → Bool) (V : Int → C4) : Prop := ∃ D : DataW Unit, w.ownsMap Tryz.prog 3 cellR b n D ∧ RdM D S V
theorem cmm_made (w : World) : CmM (w.alloc (.map #[] 0)) w.heap.size 0 (fun _ => false) (fun _ => C4.zero) :=
  ⟨.map [], World.ownsMap_made w _ _ _, fun i _ => by simp [DataW.atKey, Maps.has]⟩
theorem cmm_lt {w : World} {b n : Nat} {S : Int → Bool} {V : Int → C4} (h : CmM w b n S V) : b < w.heap.size := by
  obtain ⟨D, h1, _⟩ := h; exact h1.lt
theorem cmm_below {w w' : World} {b n : Nat} {S : Int → Bool} {V : Int → C4} (h : CmM w b n S V) (hb : Below w.heap.size w w') : CmM w' b n S V := by
  have hl := cmm_lt h
  obtain ⟨D, ⟨es, clock, h1, h2⟩, hat⟩ := h
  exact ⟨D, ⟨es, clock, by rw [hb.block b hl]; exact h1, h2⟩, hat⟩
theorem cmm_look {w : World} {b n : Nat} {S : Int → Bool} {V : Int → C4} (h : CmM w b n S V) {i : Int} (hi : (Lit.int .i64 i).wf = true) :
    (Instr.lookup 119 (.map (some b)) (.int .i64 i) false).run Tryz.prog w = .ok (V i).val w := by
  obtain ⟨D, ho, hat⟩ := h
  obtain ⟨v, ps, hrun, hv⟩ := ho.lookup keyedInt Tryz.underlying119 (z := C4.zero.val) (by kernel_rfl) (cellR_val C4.zero) (Go.Maps.keyOf_int_mk Tryz.underlying3 hi)
  obtain ⟨c, rfl, hc⟩ := cellR_inv hv
  have hc1 := congrArg Prod.fst hc
  have hc2 : encC (V i) = encC c := (hat i hi).2.symm.trans hc1
  rw [hrun, encC_inj hc2]
theorem rdm_put {D : DataW Unit} {S : Int → Bool} {V : Int → C4} (hm : IsMap D) (h : RdM D S V) (i : Int) (c : C4) : RdM (D.put (.int .i64 i) (encC c)) (fun j => S j || i == j) (fun j => if i = j then c else V j) := fun j hj => by
  by_cases e : i = j
  · subst e
    rw [atKey_put_same hm (by trivial), has_put_same hm (by trivial)]
    simp
  · rw [atKey_put_other (by intro h'; injection h' with _ h'; exact e h'.symm), has_put_other (by intro h'; injection h' with _ h'; exact e h'.symm), (h j hj).1, (h j hj).2]
    simp [e]
theorem cmm_store {w : World} {b n : Nat} {S : Int → Bool} {V : Int → C4} (h : CmM w b n S V) (hn : n < maxLen) {i : Int} (hi : (Lit.int .i64 i).wf = true) (c : C4) :
    ∃ w', (Instr.mapUpdate 119 (.map (some b)) (.int .i64 i) c.val).run Tryz.prog w = .ok () w' ∧ CmM w' b (n + 1) (fun j => S j || i == j) (fun j => if i = j then c else V j) ∧ w.mapTurned w' b := by
  obtain ⟨D, ho, hat⟩ := h
  obtain ⟨w', hrun, ho', ht⟩ := ho.store keyedInt Tryz.underlying119 hn (Go.Maps.keyOf_int_mk Tryz.underlying3 hi) (cellR_val c)
  exact ⟨w', hrun, ⟨_, ho', rdm_put ho.isMap hat i c⟩, ht⟩
theorem cmm_congr {w : World} {b n : Nat} {S S' : Int → Bool} {V V' : Int → C4} (h : CmM w b n S V) (e : ∀ x, S x = S' x) (e' : ∀ x, V x = V' x) : CmM w b n S' V' := by
  obtain ⟨D, h1, h2⟩ := h
  exact ⟨D, h1, fun x hx => by rw [← e x, ← e' x]; exact h2 x hx⟩
/-- a range over such a map under way: L says which keys are still to come -/
def RgC (w : World) (b r n : Nat) (S : Int → Bool) (V : Int → C4) (L : Int → Bool) (cnt : Nat) : Prop :=
  ∃ (D : DataW Unit) (left : Lit → Bool), w.ranges Tryz.prog 3 cellR b r n D left cnt ∧ RdM D S V ∧ ∀ i : Int, (Lit.int .i64 i).wf = true → left (.int .i64 i) = L i
theorem rgc_start {w : World} {b n : Nat} {S : Int → Bool} {V : Int → C4} (h : CmM w b n S V) :
    ∃ w' cnt, (Instr.range 119 (.map (some b))).run Tryz.prog w = .ok (.pointer (some ⟨w.heap.size, 0, none⟩)) w' ∧ RgC w' b w.heap.size n S V S cnt ∧ w.grownBy w' none ∧ w'.heap.size = w.heap.size + 1 := by
  obtain ⟨D, ho, hat⟩ := h
  obtain ⟨w', hrun, hr, hg, hs⟩ := ho.range keyedInt Tryz.underlying119
  exact ⟨w', _, hrun, ⟨D, _, hr, hat, fun i hi => (hat i hi).1⟩, hg, hs⟩
theorem rgc_left {w : World} {b r n : Nat} {S : Int → Bool} {V : Int → C4} {L : Int → Bool} {cnt : Nat} (h : RgC w b r n S V L cnt) : w.rangeLeft b r = cnt := by
  obtain ⟨D, left, hr, _⟩ := h; exact hr.left_eq
theorem rgc_owns {w : World} {b r n : Nat} {S : Int → Bool} {V : Int → C4} {L : Int → Bool} {cnt : Nat} (h : RgC w b r n S V L cnt) : CmM w b n S V := by
  obtain ⟨D, left, hr, hat, _⟩ := h; exact ⟨D, hr.owns, hat⟩
theorem rgc_next {w : World} {b r n : Nat} {S : Int → Bool} {V : Int → C4} {L : Int → Bool} {cnt : Nat} (h : RgC w b r n S V L cnt) (ty : TypeId) :
    ((∀ i, (Lit.int .i64 i).wf = true → L i = false) ∧ (Instr.next (.pointer (some ⟨r, 0, none⟩)) false ty).run Tryz.prog w = .ok (.tuple #[.bool false]) w) ∨
    ∃ (i : Int) (w' : World) (cnt' : Nat), (Lit.int .i64 i).wf = true ∧ L i = true ∧ (∃ c', RgC w' b r n S V (fun j => L j && !(j == i)) c' ∧ c' = cnt') ∧ cnt' < cnt ∧ (Instr.next (.pointer (some ⟨r, 0, none⟩)) false ty).run Tryz.prog w = .ok (.tuple #[.bool true, .int .i64 i, (V i).val]) w' ∧
      w.grownBy w' (some r) ∧ w'.heap.size = w.heap.size ∧ (Instr.entry (.pointer (some ⟨r, 0, none⟩))).run Tryz.prog w' = .ok (.tuple #[.int .i64 i, (V i).val]) w' ∧
      ∀ c : C4, n < maxLen → ∀ W, Below w'.heap.size w' W → ∃ W', (Instr.mapUpdate 119 (.map (some b)) (.int .i64 i) c.val).run Tryz.prog W = .ok () W' ∧ RgC W' b r n (fun j => S j || i == j) (fun j => if i = j then c else V j) (fun j => L j && !(j == i)) cnt' ∧ W.mapTurned W' b := by
  obtain ⟨D, left, hr, hat, hl⟩ := h
  rcases hr.next keyedInt ty with ⟨h0, h1, h2⟩ | ⟨key, v, kl, y, w', cnt', hk, hlk, hv, hay, hrun, hr', hlt, hg, hs, hen⟩
  · exact .inl ⟨fun i hi => by rw [← hl i hi, h1], h2⟩
  · obtain ⟨i, rfl, rfl, hwi⟩ := Maps.keyOf_int_inv Tryz.underlying3 hk
    obtain ⟨c, rfl, rfl⟩ := cellR_inv hv
    have hVc : V i = c := by
      have h1 := (hat i hwi).2
      rw [hay] at h1
      exact (encC_inj h1).symm
    subst hVc
    have hL' : ∀ j : Int, (Lit.int .i64 j).wf = true → (fun z : Lit => left z && !z.sameKey (.int .i64 i)) (.int .i64 j) = (L j && !(j == i)) := fun j hj => by
      show (left (.int .i64 j) && !(Lit.int .i64 j).sameKey (.int .i64 i)) = _
      rw [hl j hj]
      have hsk : (Lit.int .i64 j).sameKey (.int .i64 i) = (j == i) := by rw [Bool.eq_iff_iff]; simp [Lit.sameKey]
      rw [hsk]
    refine .inr ⟨i, w', cnt', hwi, by rw [← hl i hwi]; exact hlk, ⟨cnt', ⟨D, _, hr', hat, hL'⟩, rfl⟩, hlt, hrun, hg, hs, hen, fun c hn W hW => ?_⟩
    have hrW : W.ranges Tryz.prog 3 cellR b r n D (fun z => left z && !z.sameKey (.int .i64 i)) cnt' := by
      have hb1 := hr'.owns.lt; have hr1 := hr'.lt
      obtain ⟨es, clock, since, seen, c0, a1, a2, a3, a4, a5, a6⟩ := hr'
      exact ⟨es, clock, since, seen, c0, (hW.block b hb1).trans a1, a2, a3, a4, (hW.block r hr1).trans a5, a6⟩
    obtain ⟨W', hrun', hr2, ht⟩ := ranges_put hrW keyedInt Tryz.underlying119 hn hk (cellR_val c) ⟨_, hay⟩
    exact ⟨W', hrun', ⟨_, _, hr2, rdm_put hrW.owns.isMap hat i c, hL'⟩, ht⟩
end Go.Proofs.YtmmjaobpoiofdaaGreat
