/- A map from numbers to cells that a call makes: what it holds, a look-up, a store; a range over it, whose round may store at a key that is there. -/
import Derived.Test.YteabkcbajpjkoaaGreatPk4
import Derived.Maps.RangeWalk
import Derived.Maps.OwnSet
import Derived.Below
import Derived.Test.YteabkcbajpjkoaaGreatPk7
import Derived.Test.YteabkcbajpjkoaaGreatPk2
import Derived.Laws.AppendOwnNone
import Derived.Deep.Cut
import Derived.Test.YteabkcbajpjkoaaGreatShelf
import Derived.Test.YteabkcbajpjkoaaGreatShelfN
import Derived.Test.YteabkcbajpjkoaaGreatPk6
import Derived.Lib.OwnBridge
namespace Go.Proofs.YteabkcbajpjkoaaGreat
open Go Go.RowKit Go.ChangeMaps Go.MapKept Go.WideShapes
open Go.WideElems (Fit rd rg pl rd_key rd_val rg_of rd_mk other_key)
open Go.Maps (Keyed IsMap atKey_put_same atKey_put_other has_put_same has_put_other)
set_option linter.unusedVariables false
section
variable {H : Type} {P : Program} {k : TypeId} {R : Value → Option (DataW H × List MemPlace)} {w : World} {b r n : Nat} {D : DataW H} {left : Lit → Bool} {cnt : Nat}
/-- a store at a key that is there, in a round -/
theorem ranges_put {t e : TypeId} (h : w.ranges P k R b r n D left cnt) (K : Keyed P k) (ht : P.underlying t = some (.map k e)) (hn : n < maxLen) {key val : Value} {kl : Lit} {d : DataW H} {ps : List MemPlace} (hkey : keyOf P k key = some kl) (hv : R val = some (d, ps))
    (hin : ∃ y, ∀ zd, D.atKey kl zd = y) : ∃ w', (Instr.mapUpdate t (.map (some b)) key val).run P w = .ok () w' ∧ w'.ranges P k R b r n (D.put kl d) left cnt ∧ w.mapTurned w' b := by
  have hne := h.ne
  obtain ⟨es, clock, since, seen, c0, hb, F, hs, rfl, hr, hold, rfl, hl1, hl2, hsc, hsk⟩ := h
  obtain ⟨es', clock', hrun, F', hput, _, _, hwho⟩ := Maps.fit_store (R' := R) K ht hb F (Nat.lt_of_le_of_lt hs hn) (fun _ _ _ _ hz => hz) hkey hv
  rcases K.find w hkey es.toList F.keys with ⟨h1, h2⟩ | ⟨j, e0, h1, h2, h3⟩
  · exfalso
    obtain ⟨y, hy⟩ := hin
    have hat := (atKey_sorted (es.toList.map (rg P k R)) (Maps.fit_rising K F) kl (K.key hkey)).1 (fun p hp => by
      obtain ⟨x, hx, rfl⟩ := List.mem_map.1 hp
      obtain ⟨z, hz⟩ := F.reads x hx
      rw [rg_of hz]
      intro e1
      exact h2 x hx (K.inj (e1 ▸ rd_key hz) hkey))
    have a1 := hy (.lit (.bool true)); have a2 := hy (.lit (.bool false))
    rw [hat] at a1 a2
    rw [← a2] at a1
    injection a1 with a1
    injection a1 with a1
    cases a1
  · have hj : es[j]? = some e0 := by simpa using h2
    have hrun2 : (Instr.mapUpdate t (.map (some b)) key val).run P w = .ok () (setBlock w b (.map (es.modify j (fun e' => { e' with key := key, val := val })) clock)) := by
      simp [Instr.mapUpdate, run_underlying ht, MapKept.run_getObj_map hb, K.check w false hkey, h1, hj, h3, K.stays w hkey, MapKept.run_setObj_map _ hb, Result.andThen, setBlock]
    have heq : es' = es.modify j (fun e' => { e' with key := key, val := val }) ∧ clock' = clock := by
      rw [hrun] at hrun2
      injection hrun2 with _ hw
      have h4 := heap_setBlock_same hb (.map es' clock')
      rw [hw, heap_setBlock_same hb _] at h4
      injection h4 with h4
      injection h4 with h5 h6
      exact ⟨h5.symm, h6.symm⟩
    obtain ⟨rfl, rfl⟩ := heq
    have hlist : (es.modify j (fun e' => { e' with key := key, val := val })).toList = es.toList.set j { e0 with key := key, val := val } := by rw [Array.toList_modify, modify_eq_set _ _ _ _ h2]
    have hjl : j < es.toList.length := (List.getElem?_eq_some_iff.1 h2).1
    have hrg0 : (rg P k R e0).1 = kl := by
      obtain ⟨z, hz⟩ := F.reads e0 (List.mem_of_getElem? h2)
      rw [rg_of hz]
      have := rd_key hz
      rw [h3, hkey] at this
      exact (Option.some.inj this).symm
    have hrgn : (rg P k R { e0 with key := key, val := val }).1 = kl := by rw [rg_of (rd_mk hkey hv)]
    have mem' : ∀ x ∈ es.toList.set j { e0 with key := key, val := val }, x = { e0 with key := key, val := val } ∨ x ∈ es.toList := fun x hx => (List.mem_or_eq_of_mem_set hx).symm
    refine ⟨_, hrun, ⟨_, _, since, seen, c0, heap_setBlock_same hb _, F', by simpa using hs, by rw [DataW.put_eq, hput], (heap_setBlock_other hb _ hne).trans hr, fun x hx => ?_, ?_, fun x hx => ?_, fun x0 hx0 => ?_, hsc, hsk⟩, ⟨es, clock', _, _, hb, rfl⟩⟩
    · rw [hlist] at hx
      rcases mem' x hx with rfl | hx
      · exact hold e0 (List.mem_of_getElem? h2)
      · exact hold x hx
    · have e1 : ∀ a : Array MapEntry, (leftOf a seen).size = (a.toList.filter fun e => !seen.contains e.born).length := fun a => by
        unfold leftOf
        rw [← Array.toList_filter, Array.length_toList]
      rw [e1, e1, hlist]
      have key2 : ∀ (l : List MapEntry) (j : Nat) (e0 : MapEntry), l[j]? = some e0 → ((l.set j { e0 with key := key, val := val }).filter fun e => !seen.contains e.born).length = (l.filter fun e => !seen.contains e.born).length := by
        intro l
        induction l with
        | nil => intro j e0 h; simp at h
        | cons a l ih =>
          intro j e0 h
          cases j with
          | zero =>
            simp at h
            subst h
            simp only [List.set_cons_zero, List.filter_cons]
            split <;> rfl
          | succ j =>
            simp at h
            simp only [List.set_cons_succ, List.filter_cons]
            split
            · simp only [List.length_cons]; rw [ih j e0 h]
            · exact ih j e0 h
      exact key2 _ _ _ h2
    · rw [hlist] at hx
      rcases mem' x hx with rfl | hx
      · rw [hrgn, ← hrg0, hl1 e0 (List.mem_of_getElem? h2)]
      · exact hl1 x hx
    · obtain ⟨x, hx, hx2⟩ := hl2 x0 hx0
      rw [hlist]
      obtain ⟨i, hi⟩ := List.getElem?_of_mem hx
      by_cases e1 : i = j
      · subst e1
        rw [h2] at hi
        injection hi with hi
        subst hi
        refine ⟨{ e0 with key := key, val := val }, List.mem_of_getElem? (i := i) (by rw [List.getElem?_set_self hjl]), ?_⟩
        rw [hrgn, ← hx2, hrg0]
      · exact ⟨x, List.mem_of_getElem? (i := i) (by rw [List.getElem?_set_ne (fun e2 => e1 e2.symm)]; exact hi), hx2⟩
end
/-- how a cell reads -/
def encC (c : C4) : DataW Unit := .agg [.lit (.int .i64 c.e), .lit (.int .i64 c.n), .lit (.int .i64 c.w), .lit (.int .i64 c.s)]
theorem encC_inj {c d : C4} (h : encC c = encC d) : c = d := by
  simp only [encC, DataW.agg.injEq, List.cons.injEq, DataW.lit.injEq, Lit.int.injEq, true_and, and_true] at h
  obtain ⟨h1, h2, h3, h4⟩ := h
  cases c; cases d; simp_all
def cellR (v : Value) : Option (DataW Unit × List MemPlace) :=
  match v with
  | .agg xs => match xs.toList with
    | [.int .i64 e, .int .i64 n, .int .i64 w, .int .i64 s] => some (encC ⟨e, n, w, s⟩, [])
    | _ => none
  | _ => none
theorem cellR_val (c : C4) : cellR c.val = some (encC c, []) := rfl
theorem cellR_inv {v : Value} {y : DataW Unit × List MemPlace} (h : cellR v = some y) : ∃ c : C4, v = c.val ∧ y = (encC c, []) := by
  unfold cellR at h
  split at h
  · rename_i xs
    split at h
    · rename_i e n w s hx
      injection h with h
      refine ⟨⟨e, n, w, s⟩, ?_, h.symm⟩
      obtain ⟨l⟩ := xs
      simp only at hx
      subst hx
      rfl
    · cases h
  · cases h
/-- which keys a map has, and what stands there -/
def RdM (D : DataW Unit) (S : Int → Bool) (V : Int → C4) : Prop := ∀ i : Int, (Lit.int .i64 i).wf = true → Maps.has D (.int .i64 i) = S i ∧ D.atKey (.int .i64 i) (encC C4.zero) = encC (V i)
def CmM (w : World) (b n : Nat) (S : Int → Bool) (V : Int → C4) : Prop := ∃ D : DataW Unit, w.ownsMap Tryz.prog 3 cellR b n D ∧ RdM D S V
theorem cmm_made (w : World) : CmM (w.alloc (.map #[] 0)) w.heap.size 0 (fun _ => false) (fun _ => C4.zero) :=
  ⟨.map [], World.ownsMap_made w _ _ _, fun i _ => by simp [DataW.atKey, Maps.has]⟩
theorem cmm_lt {w : World} {b n : Nat} {S : Int → Bool} {V : Int → C4} (h : CmM w b n S V) : b < w.heap.size := by
  obtain ⟨D, h1, _⟩ := h; exact h1.lt
theorem cmm_below {w w' : World} {b n : Nat} {S : Int → Bool} {V : Int → C4} (h : CmM w b n S V) (hb : Below w.heap.size w w') : CmM w' b n S V := by
  have hl := cmm_lt h
  obtain ⟨D, ⟨es, clock, h1, h2⟩, hat⟩ := h
  exact ⟨D, ⟨es, clock, by rw [hb.block b hl]; exact h1, h2⟩, hat⟩
theorem cmm_look {w : World} {b n : Nat} {S : Int → Bool} {V : Int → C4} (h : CmM w b n S V) {i : Int} (hi : (Lit.int .i64 i).wf = true) :
    (Instr.lookup 141 (.map (some b)) (.int .i64 i) false).run Tryz.prog w = .ok (V i).val w := by
  obtain ⟨D, ho, hat⟩ := h
  obtain ⟨v, ps, hrun, hv⟩ := ho.lookup keyedInt Tryz.underlying141 (z := C4.zero.val) (by kernel_rfl) (cellR_val C4.zero) (Go.Maps.keyOf_int_mk Tryz.underlying3 hi)
  obtain ⟨c, rfl, hc⟩ := cellR_inv hv
  have hc1 := congrArg Prod.fst hc
  have hc2 : encC (V i) = encC c := (hat i hi).2.symm.trans hc1
  rw [hrun, encC_inj hc2]
theorem rdm_put {D : DataW Unit} {S : Int → Bool} {V : Int → C4} (hm : IsMap D) (h : RdM D S V) (i : Int) (c : C4) : RdM (D.put (.int .i64 i) (encC c)) (fun j => S j || i == j) (fun j => if i = j then c else V j) := fun j hj => by
  by_cases e : i = j
  · subst e
    rw [atKey_put_same hm (by trivial), has_put_same hm (by trivial)]
    simp
  · rw [atKey_put_other (by intro h'; injection h' with _ h'; exact e h'.symm), has_put_other (by intro h'; injection h' with _ h'; exact e h'.symm), (h j hj).1, (h j hj).2]
    simp [e]
theorem cmm_store {w : World} {b n : Nat} {S : Int → Bool} {V : Int → C4} (h : CmM w b n S V) (hn : n < maxLen) {i : Int} (hi : (Lit.int .i64 i).wf = true) (c : C4) :
    ∃ w', (Instr.mapUpdate 141 (.map (some b)) (.int .i64 i) c.val).run Tryz.prog w = .ok () w' ∧ CmM w' b (n + 1) (fun j => S j || i == j) (fun j => if i = j then c else V j) ∧ w.mapTurned w' b := by
  obtain ⟨D, ho, hat⟩ := h
  obtain ⟨w', hrun, ho', ht⟩ := ho.store keyedInt Tryz.underlying141 hn (Go.Maps.keyOf_int_mk Tryz.underlying3 hi) (cellR_val c)
  exact ⟨w', hrun, ⟨_, ho', rdm_put ho.isMap hat i c⟩, ht⟩
theorem cmm_congr {w : World} {b n : Nat} {S S' : Int → Bool} {V V' : Int → C4} (h : CmM w b n S V) (e : ∀ x, S x = S' x) (e' : ∀ x, V x = V' x) : CmM w b n S' V' := by
  obtain ⟨D, h1, h2⟩ := h
  exact ⟨D, h1, fun x hx => by rw [← e x, ← e' x]; exact h2 x hx⟩
/-- a range over such a map under way: L says which keys are still to come -/
def RgC (w : World) (b r n : Nat) (S : Int → Bool) (V : Int → C4) (L : Int → Bool) (cnt : Nat) : Prop :=
  ∃ (D : DataW Unit) (left : Lit → Bool), w.ranges Tryz.prog 3 cellR b r n D left cnt ∧ RdM D S V ∧ ∀ i : Int, (Lit.int .i64 i).wf = true → left (.int .i64 i) = L i
theorem rgc_start {w : World} {b n : Nat} {S : Int → Bool} {V : Int → C4} (h : CmM w b n S V) :
    ∃ w' cnt, (Instr.range 141 (.map (some b))).run Tryz.prog w = .ok (.pointer (some ⟨w.heap.size, 0, none⟩)) w' ∧ RgC w' b w.heap.size n S V S cnt ∧ w.grownBy w' none ∧ w'.heap.size = w.heap.size + 1 := by
  obtain ⟨D, ho, hat⟩ := h
  obtain ⟨w', hrun, hr, hg, hs⟩ := ho.range keyedInt Tryz.underlying141
  exact ⟨w', _, hrun, ⟨D, _, hr, hat, fun i hi => (hat i hi).1⟩, hg, hs⟩
theorem rgc_left {w : World} {b r n : Nat} {S : Int → Bool} {V : Int → C4} {L : Int → Bool} {cnt : Nat} (h : RgC w b r n S V L cnt) : w.rangeLeft b r = cnt := by
  obtain ⟨D, left, hr, _⟩ := h; exact hr.left_eq
theorem rgc_owns {w : World} {b r n : Nat} {S : Int → Bool} {V : Int → C4} {L : Int → Bool} {cnt : Nat} (h : RgC w b r n S V L cnt) : CmM w b n S V := by
  obtain ⟨D, left, hr, hat, _⟩ := h; exact ⟨D, hr.owns, hat⟩
theorem rgc_next {w : World} {b r n : Nat} {S : Int → Bool} {V : Int → C4} {L : Int → Bool} {cnt : Nat} (h : RgC w b r n S V L cnt) (ty : TypeId) :
    ((∀ i, (Lit.int .i64 i).wf = true → L i = false) ∧ (Instr.next (.pointer (some ⟨r, 0, none⟩)) false ty).run Tryz.prog w = .ok (.tuple #[.bool false]) w) ∨
    ∃ (i : Int) (w' : World) (cnt' : Nat), (Lit.int .i64 i).wf = true ∧ L i = true ∧ (∃ c', RgC w' b r n S V (fun j => L j && !(j == i)) c' ∧ c' = cnt') ∧ cnt' < cnt ∧ (Instr.next (.pointer (some ⟨r, 0, none⟩)) false ty).run Tryz.prog w = .ok (.tuple #[.bool true, .int .i64 i, (V i).val]) w' ∧
      w.grownBy w' (some r) ∧ w'.heap.size = w.heap.size ∧ (Instr.entry (.pointer (some ⟨r, 0, none⟩))).run Tryz.prog w' = .ok (.tuple #[.int .i64 i, (V i).val]) w' ∧
      ∀ c : C4, n < maxLen → ∀ W, Below w'.heap.size w' W → ∃ W', (Instr.mapUpdate 141 (.map (some b)) (.int .i64 i) c.val).run Tryz.prog W = .ok () W' ∧ RgC W' b r n (fun j => S j || i == j) (fun j => if i = j then c else V j) (fun j => L j && !(j == i)) cnt' ∧ W.mapTurned W' b := by
  obtain ⟨D, left, hr, hat, hl⟩ := h
  rcases hr.next keyedInt ty with ⟨h0, h1, h2⟩ | ⟨key, v, kl, y, w', cnt', hk, hlk, hv, hay, hrun, hr', hlt, hg, hs, hen⟩
  · exact .inl ⟨fun i hi => by rw [← hl i hi, h1], h2⟩
  · obtain ⟨i, rfl, rfl, hwi⟩ := Maps.keyOf_int_inv Tryz.underlying3 hk
    obtain ⟨c, rfl, rfl⟩ := cellR_inv hv
    have hVc : V i = c := by
      have h1 := (hat i hwi).2
      rw [hay] at h1
      exact (encC_inj h1).symm
    subst hVc
    have hL' : ∀ j : Int, (Lit.int .i64 j).wf = true → (fun z : Lit => left z && !z.sameKey (.int .i64 i)) (.int .i64 j) = (L j && !(j == i)) := fun j hj => by
      show (left (.int .i64 j) && !(Lit.int .i64 j).sameKey (.int .i64 i)) = _
      rw [hl j hj]
      have hsk : (Lit.int .i64 j).sameKey (.int .i64 i) = (j == i) := by rw [Bool.eq_iff_iff]; simp [Lit.sameKey]
      rw [hsk]
    refine .inr ⟨i, w', cnt', hwi, by rw [← hl i hwi]; exact hlk, ⟨cnt', ⟨D, _, hr', hat, hL'⟩, rfl⟩, hlt, hrun, hg, hs, hen, fun c hn W hW => ?_⟩
    have hrW : W.ranges Tryz.prog 3 cellR b r n D (fun z => left z && !z.sameKey (.int .i64 i)) cnt' := by
      have hb1 := hr'.owns.lt; have hr1 := hr'.lt
      obtain ⟨es, clock, since, seen, c0, a1, a2, a3, a4, a5, a6⟩ := hr'
      exact ⟨es, clock, since, seen, c0, (hW.block b hb1).trans a1, a2, a3, a4, (hW.block r hr1).trans a5, a6⟩
    obtain ⟨W', hrun', hr2, ht⟩ := ranges_put hrW keyedInt Tryz.underlying141 hn hk (cellR_val c) ⟨_, hay⟩
    exact ⟨W', hrun', ⟨_, _, hr2, rdm_put hrW.owns.isMap hat i c, hL'⟩, ht⟩
end Go.Proofs.YteabkcbajpjkoaaGreat
/- Walk: Sorted, of the reference (two sorted halves put together). -/
namespace Go.Proofs.YteabkcbajpjkoaaGreat
open Go Go.RowKit
set_option linter.unusedVariables false
set_option linter.unusedSimpArgs false
/-- two sorted lists are being put together -/
structure MrgI (l out a b : List N6) : Prop where
  perm : (out ++ (a ++ b)).Perm l
  oa : OrdN a
  ob : OrdN b
  oo : OrdN out
  le : ∀ x ∈ out, ∀ y, y ∈ a ∨ y ∈ b → befN y x = false
theorem MrgI.swap {l out a b : List N6} (h : MrgI l out a b) : MrgI l out b a :=
  ⟨((List.perm_append_comm).append_left out).trans h.perm, h.ob, h.oa, h.oo, fun x hx y hy => h.le x hx y hy.symm⟩
theorem MrgI.step {l out a b : List N6} {x : N6} (h : MrgI l out (x :: a) b) (hb : ∀ y, b.head? = some y → befN y x = false) : MrgI l (out ++ [x]) a b := by
  obtain ⟨ha1, ha2⟩ := List.pairwise_cons.1 h.oa
  refine ⟨?_, ha2, h.ob, ?_, ?_⟩
  · have := h.perm
    simpa using this
  · refine List.pairwise_append.2 ⟨h.oo, List.pairwise_singleton _ _, fun u hu v hv => ?_⟩
    rw [List.mem_singleton.1 hv]
    exact h.le u hu x (.inl (List.mem_cons_self ..))
  · intro u hu y hy
    rcases List.mem_append.1 hu with hu | hu
    · exact h.le u hu y (hy.imp (List.mem_cons_of_mem _) id)
    · rw [List.mem_singleton.1 hu]
      rcases hy with hy | hy
      · exact ha1 y hy
      · cases b with
        | nil => cases hy
        | cons z b =>
          have hz := hb z rfl
          rcases List.mem_cons.1 hy with rfl | hy
          · exact hz
          · exact befN_ntrans ((List.pairwise_cons.1 h.ob).1 y hy) hz
theorem MrgI.done {l out : List N6} (h : MrgI l out [] []) : out = sortN l := sortN_eq (by simpa using h.perm) h.oo
theorem MrgI.start {l a b : List N6} (h : l = a ++ b) : MrgI l [] (sortN a) (sortN b) :=
  ⟨by rw [h]; exact (sortN_perm a).append (sortN_perm b), sortN_ord a, sortN_ord b, List.Pairwise.nil, fun x hx => by cases hx⟩
theorem MrgI.len {l out a b : List N6} (h : MrgI l out a b) : out.length + a.length + b.length = l.length := by
  have := h.perm.length_eq
  simp at this; omega
/-- a slice that reads as a list -/
def ListR (W : World) (p : Option Addr) (n c : Nat) (A : List N6) : Prop := A.length = n ∧ n ≤ c ∧ Sn W p n (fun k => A.getD k N6.zero)
theorem Sn.from {w : World} {a : Option Addr} {n c l : Nat} {p : Nat → N6} (h : Sn w a n p) (hc : n ≤ c) : Sn w (if c = l then a else a.map (·.add (l * 6))) (n - l) (fun k => p (l + k)) := fun k hk => by
  obtain ⟨b, off, rfl, h2, h3⟩ := h (l + k) (by omega)
  rw [if_neg (by omega)]
  refine ⟨b, off + l * 6, ?_, h2, fun j hj => ?_⟩
  · rw [Option.map_some, addrAdd]
  · rw [← h3 j hj]; congr 2; omega
theorem Sn.to {w : World} {a : Option Addr} {n c l : Nat} {p : Nat → N6} (h : Sn w a n p) (hl : l ≤ n) : Sn w (if c = 0 then a else a.map (·.add (0 * 6))) l p := fun k hk => by
  obtain ⟨b, off, rfl, h2, h3⟩ := h k (by omega)
  refine ⟨b, off, ?_, h2, h3⟩
  split
  · rfl
  · rw [Nat.zero_mul, Option.map_some, addrAdd]; rfl
theorem ListR.below {W W' : World} {p : Option Addr} {n c : Nat} {A : List N6} (h : ListR W p n c A) (hb : Below W.heap.size W W') : ListR W' p n c A := ⟨h.1, h.2.1, h.2.2.below hb⟩
theorem notes_slice_from (a : Option Addr) (n c l : Nat) (h : l ≤ n) (w : World) : (Instr.slice 67 (.slice a n c) (some (.int .i64 (l : Int))) none none).run Tryz.prog w = .ok (.slice (if c = l then a else a.map (·.add (l * 6))) (n - l) (c - l)) w := by
  rw [run_slice_l w 67 a n c (by kernel_rfl) .i64 (l : Int) (by omega) (by omega)]
  have hz : (sizeOf (Tryz.prog.elem 67)).run Tryz.prog w = .ok 6 w := by kernel_rfl
  rw [hz]
  rfl
theorem notes_slice_to (a : Option Addr) (n c l : Nat) (h : l ≤ c) (w : World) : (Instr.slice 67 (.slice a n c) none (some (.int .i64 (l : Int))) none).run Tryz.prog w = .ok (.slice (if c = 0 then a else a.map (·.add (0 * 6))) l c) w := by
  rw [run_slice_h w 67 a n c (by kernel_rfl) .i64 (l : Int) (by omega) (by omega)]
  have hz : (sizeOf (Tryz.prog.elem 67)).run Tryz.prog w = .ok 6 w := by kernel_rfl
  rw [hz]
  rfl
theorem ListR.cons {W : World} {p : Option Addr} {n c : Nat} {A : List N6} (h : ListR W p n c A) (hn : 0 < n) : ∃ x T, A = x :: T := by
  cases A with
  | nil => have := h.1; simp at this; omega
  | cons x T => exact ⟨x, T, rfl⟩
theorem ListR.nil {W : World} {p : Option Addr} {n c : Nat} {A : List N6} (h : ListR W p n c A) (hn : n = 0) : A = [] := List.length_eq_zero_iff.1 (h.1.trans hn)
theorem listR_of_own {w : World} {base : Nat} {v : Value} {xs : List N6} (h : OwnN w base v xs) : ∃ p c, v = .slice p xs.length c ∧ ListR w p xs.length c xs := by
  obtain ⟨a, c, rfl, hs⟩ := sn_of_own h
  refine ⟨a, c, rfl, rfl, ?_, hs⟩
  rcases h.2 with ⟨e, h0⟩ | ⟨g, cap, cur, e, hb, hh, hn, hm, hc, ht⟩
  · omega
  · injection e with _ _ e3
    omega
theorem own_listR {w : World} {base : Nat} {p : Option Addr} {n c : Nat} {xs : List N6} (h : OwnN w base (.slice p n c) xs) : ListR w p n c xs := by
  obtain ⟨p', c', e, hl⟩ := listR_of_own h
  injection e with e1 e2 e3
  subst e1 e2 e3
  exact hl
end Go.Proofs.YteabkcbajpjkoaaGreat
/- Walk: Sorted, of the program. Walk: Sorted, of the program: what comes back is a list of its own that reads as the notes in order. -/
namespace Go.Proofs.YteabkcbajpjkoaaGreat
open Go Go.RowKit Go.Sort
set_option linter.unusedVariables false
set_option linter.unusedSimpArgs false
/-- the first number that is not 0 -/
def orI : List Int → Int | [] => 0 | x :: l => if x = 0 then orI l else x
theorem orI_zero : ∀ {l : List Int}, (∀ j, j < l.length → l.getD j 0 = 0) → orI l = 0
  | [], _ => rfl
  | x :: l, h => by
    have h0 : x = 0 := h 0 (by simp)
    simp only [orI, if_pos h0]
    exact orI_zero fun j hj => h (j + 1) (by simpa using hj)
theorem orI_at : ∀ {l : List Int} {k : Nat}, (∀ j, j < k → l.getD j 0 = 0) → k < l.length → l.getD k 0 ≠ 0 → orI l = l.getD k 0
  | [], k, _, h, _ => by simp at h
  | x :: l, 0, _, _, hn => by
    have h0 : x ≠ 0 := hn
    simp only [orI, if_neg h0]; rfl
  | x :: l, k + 1, h, hk, hn => by
    have h0 : x = 0 := h 0 (by omega)
    simp only [orI, if_pos h0]
    exact orI_at (l := l) (k := k) (fun j hj => h (j + 1) (by omega)) (by simpa using hk) hn
theorem orI_cmp : ∀ (l m : List Int), l.length = m.length → orI (List.zipWith Lib.compareInt l m) = cmpL l m
  | [], [], _ => rfl
  | [], _ :: _, h => by simp at h
  | _ :: _, [], h => by simp at h
  | a :: l, b :: m, h => by
    have ih := orI_cmp l m (by simpa using h)
    simp only [List.zipWith_cons_cons, orI, cmpL, ih, Lib.compareInt]
    by_cases e : a = b
    · subst e; simp
    · rw [if_neg e]
      by_cases h2 : a < b
      · simp [h2]
      · have : b < a := by omega
        simp [h2, this]
set_option maxRecDepth 100000 in
set_option maxHeartbeats 1000000 in
theorem cmp_Or (a : Option Addr) (c : Nat) (l : List Int) (w : World) (hl : l.length ≤ 1000) (H : Sl w a l.length (fun k => l.getD k 0)) :
    Calls Tryz.prog 132 #[.slice a l.length c] w fun e w' => e = .returned (.int .i64 (orI l)) ∧ w = w' := by
  generalize hn : l.length = n at *
  have hz := fun h => orI_zero (l := l) h
  have ha := fun k h1 h2 h3 => orI_at (l := l) (k := k) h1 h2 h3
  rw [hn] at hz ha
  generalize orI l = r at *
  have HZ := hid hz; have HA := hid ha
  clear hz ha hn
  go_enter Tryz.func132, Tryz.ntmps132
  go_wp2
  go_loop [8] (fun i => ∃ k : Nat, k ≤ n ∧ i = .int .i64 k ∧ ∀ j, j < k → l.getD j 0 = 0) (fun i => n - (intOf i).toNat)
  case atStart => exact ⟨0, Nat.zero_le _, rfl, fun j hj => by omega⟩
  case round =>
    obtain ⟨k, hk, rfl, hok⟩ := hrel
    have HOK := hid hok; clear hok
    by_cases hlt : k < n
    · obtain ⟨b, off, rfl, hb, hc⟩ := H k hlt
      dsimp only at hc
      have hr : l.getD k 0 ≠ 0 → r = l.getD k 0 := fun h => HA.out k HOK.out hlt h
      have hs : l.getD k 0 = 0 → ∀ j, j < k + 1 → l.getD j 0 = 0 := fun h j hj => by
        rcases Nat.lt_succ_iff_lt_or_eq.1 hj with h' | rfl
        · exact HOK.out j h'
        · exact h
      have HR := hid hr; have HS := hid hs
      clear hr hs
      generalize l.getD k 0 = v at *
      cases hv : (v != 0)
      · have hv0 : v = 0 := by simpa using hv
        go_wp2_with fail
        go_round
        case rel => exact ⟨k + 1, by omega, by go_num, HS.out hv0⟩
        case measure => simp [intOf]; omega
      · have hv0 : v ≠ 0 := by simpa using hv
        go_wp2_with fail
        go_ret
        rw [HR.out hv0]
        exact ⟨rfl, rfl⟩
    · obtain rfl : n = k := (by omega)
      go_wp2
      go_ret
      rw [HZ.out HOK.out]
      exact ⟨rfl, rfl⟩
theorem orI_cmpN (x y : N6) : orI [Lib.compareInt x.st y.st, Lib.compareInt x.to y.to, Lib.compareInt x.ce y.ce, Lib.compareInt x.di y.di, Lib.compareInt x.fr y.fr, Lib.compareInt x.co y.co] = cmpN x y := orI_cmp (keyN x) (keyN y) rfl
set_option maxRecDepth 100000 in
set_option maxHeartbeats 4000000 in
theorem node_Sorted1 (x y : N6) (W : World) : Calls Tryz.prog 131 #[.agg #[.int .i64 x.st, .int .i64 x.fr, .int .i64 x.to, .int .i64 x.ce, .int .i64 x.di, .int .i64 x.co], .agg #[.int .i64 y.st, .int .i64 y.fr, .int .i64 y.to, .int .i64 y.ce, .int .i64 y.di, .int .i64 y.co]] W
    fun e w' => e = .returned (.int .i64 (cmpN x y)) ∧ ∃ q os', w' = grow (W.drewN q) os' := by
  rw [← orI_cmpN]
  have q0 := fun V => Tryz.cmp_Compare_int x.st y.st V
  have q1 := fun V => Tryz.cmp_Compare_int x.to y.to V
  have q2 := fun V => Tryz.cmp_Compare_int x.ce y.ce V
  have q3 := fun V => Tryz.cmp_Compare_int x.di y.di V
  have q4 := fun V => Tryz.cmp_Compare_int x.fr y.fr V
  have q5 := fun V => Tryz.cmp_Compare_int x.co y.co V
  generalize Lib.compareInt x.st y.st = c0 at *
  generalize Lib.compareInt x.to y.to = c1 at *
  generalize Lib.compareInt x.ce y.ce = c2 at *
  generalize Lib.compareInt x.di y.di = c3 at *
  generalize Lib.compareInt x.fr y.fr = c4 at *
  generalize Lib.compareInt x.co y.co = c5 at *
  have XA := (Bx.new W #[.int .i64 x.st, .int .i64 x.fr, .int .i64 x.to, .int .i64 x.ce, .int .i64 x.di, .int .i64 x.co] 106).alloc (.cells #[.int .i64 y.st, .int .i64 y.fr, .int .i64 y.to, .int .i64 y.ce, .int .i64 y.di, .int .i64 y.co] 106)
  have XB := Bx.new (W.alloc (.cells #[.int .i64 x.st, .int .i64 x.fr, .int .i64 x.to, .int .i64 x.ce, .int .i64 x.di, .int .i64 x.co] 106)) #[.int .i64 y.st, .int .i64 y.fr, .int .i64 y.to, .int .i64 y.ce, .int .i64 y.di, .int .i64 y.co] 106
  rw [World.size_alloc] at XB
  obtain ⟨W2, hW2⟩ : ∃ W2, W2 = (W.alloc (.cells #[.int .i64 x.st, .int .i64 x.fr, .int .i64 x.to, .int .i64 x.ce, .int .i64 x.di, .int .i64 x.co] 106)).alloc (.cells #[.int .i64 y.st, .int .i64 y.fr, .int .i64 y.to, .int .i64 y.ce, .int .i64 y.di, .int .i64 y.co] 106) := ⟨_, rfl⟩
  go_enter Tryz.func131, Tryz.ntmps131
  go_upto_region 1 with (fail)
  rw [← hW2] at XA XB ⊢
  have HW2 := hid hW2
  clear hW2
  have r0 : ∀ Y, Below W2.heap.size W2 Y → Y.cell? ⟨W.heap.size, 0, none⟩ = some (.int .i64 x.st) := fun Y h => (XA.below h).at_ 0 rfl
  have r1 : ∀ Y, Below W2.heap.size W2 Y → Y.cell? ⟨W.heap.size, 1, none⟩ = some (.int .i64 x.fr) := fun Y h => (XA.below h).at_ 1 rfl
  have r2 : ∀ Y, Below W2.heap.size W2 Y → Y.cell? ⟨W.heap.size, 2, none⟩ = some (.int .i64 x.to) := fun Y h => (XA.below h).at_ 2 rfl
  have r3 : ∀ Y, Below W2.heap.size W2 Y → Y.cell? ⟨W.heap.size, 3, none⟩ = some (.int .i64 x.ce) := fun Y h => (XA.below h).at_ 3 rfl
  have r4 : ∀ Y, Below W2.heap.size W2 Y → Y.cell? ⟨W.heap.size, 4, none⟩ = some (.int .i64 x.di) := fun Y h => (XA.below h).at_ 4 rfl
  have r5 : ∀ Y, Below W2.heap.size W2 Y → Y.cell? ⟨W.heap.size, 5, none⟩ = some (.int .i64 x.co) := fun Y h => (XA.below h).at_ 5 rfl
  have s0 : ∀ Y, Below W2.heap.size W2 Y → Y.cell? ⟨W.heap.size + 1, 0, none⟩ = some (.int .i64 y.st) := fun Y h => (XB.below h).at_ 0 rfl
  have s1 : ∀ Y, Below W2.heap.size W2 Y → Y.cell? ⟨W.heap.size + 1, 1, none⟩ = some (.int .i64 y.fr) := fun Y h => (XB.below h).at_ 1 rfl
  have s2 : ∀ Y, Below W2.heap.size W2 Y → Y.cell? ⟨W.heap.size + 1, 2, none⟩ = some (.int .i64 y.to) := fun Y h => (XB.below h).at_ 2 rfl
  have s3 : ∀ Y, Below W2.heap.size W2 Y → Y.cell? ⟨W.heap.size + 1, 3, none⟩ = some (.int .i64 y.ce) := fun Y h => (XB.below h).at_ 3 rfl
  have s4 : ∀ Y, Below W2.heap.size W2 Y → Y.cell? ⟨W.heap.size + 1, 4, none⟩ = some (.int .i64 y.di) := fun Y h => (XB.below h).at_ 4 rfl
  have s5 : ∀ Y, Below W2.heap.size W2 Y → Y.cell? ⟨W.heap.size + 1, 5, none⟩ = some (.int .i64 y.co) := fun Y h => (XB.below h).at_ 5 rfl
  clear XA XB
  refine wp_region_S (fun Y => Below W2.heap.size W2 Y) 33 (by kernel_rfl) ?_
  refine anyS_take (i := 0) rfl (by kernel_rfl) (fun _ _ _ h => h) (Or.inl ⟨by rfl, fun Y hYb => (by (try dsimp only at hYb); go_simp; rfl)⟩) (by repeat' (first | with_reducible assumption | with_reducible exact Below.refl _ _ | with_reducible refine Below.drew ?_ | with_reducible refine below_drewN ?_ _)) ?_
  refine anyS_take (i := 1) rfl (by kernel_rfl) (fun _ _ _ h => h) (Or.inl ⟨by rfl, fun Y hYb => (by (try dsimp only at hYb); go_simp; rfl)⟩) (by repeat' (first | with_reducible assumption | with_reducible exact Below.refl _ _ | with_reducible refine Below.drew ?_ | with_reducible refine below_drewN ?_ _)) ?_
  refine anyS_take (i := 2) rfl (by kernel_rfl) (fun _ _ _ h => h) (Or.inl ⟨by rfl, fun Y hYb => (by (try dsimp only at hYb); go_simp; rfl)⟩) (by repeat' (first | with_reducible assumption | with_reducible exact Below.refl _ _ | with_reducible refine Below.drew ?_ | with_reducible refine below_drewN ?_ _)) ?_
  refine anyS_take (i := 3) rfl (by kernel_rfl) (fun _ _ _ h => h) (Or.inl ⟨by rfl, fun Y hYb => (by (try dsimp only at hYb); go_simp; rfl)⟩) (by repeat' (first | with_reducible assumption | with_reducible exact Below.refl _ _ | with_reducible refine Below.drew ?_ | with_reducible refine below_drewN ?_ _)) ?_
  refine anyS_take (i := 5) rfl (by kernel_rfl) (fun _ _ _ h => h) (Or.inl ⟨by rfl, fun Y hYb => (by (try dsimp only at hYb); go_simp; rfl)⟩) (by repeat' (first | with_reducible assumption | with_reducible exact Below.refl _ _ | with_reducible refine Below.drew ?_ | with_reducible refine below_drewN ?_ _)) ?_
  refine anyS_take (i := 6) rfl (by kernel_rfl) (fun _ _ _ h => h) (Or.inl ⟨by rfl, fun Y hYb => (by (try dsimp only at hYb); go_simp; rfl)⟩) (by repeat' (first | with_reducible assumption | with_reducible exact Below.refl _ _ | with_reducible refine Below.drew ?_ | with_reducible refine below_drewN ?_ _)) ?_
  refine anyS_take (i := 7) rfl (by kernel_rfl) (fun _ _ _ h => h) (Or.inl ⟨by rfl, fun Y hYb => (by (try dsimp only at hYb); go_simp; rfl)⟩) (by repeat' (first | with_reducible assumption | with_reducible exact Below.refl _ _ | with_reducible refine Below.drew ?_ | with_reducible refine below_drewN ?_ _)) ?_
  refine anyS_take (i := 8) rfl (by kernel_rfl) (fun _ _ _ h => h) (Or.inl ⟨by rfl, fun Y hYb => (by (try dsimp only at hYb); go_simp; rfl)⟩) (by repeat' (first | with_reducible assumption | with_reducible exact Below.refl _ _ | with_reducible refine Below.drew ?_ | with_reducible refine below_drewN ?_ _)) ?_
  refine anyS_take (i := 10) rfl (by kernel_rfl) (fun _ _ _ h => h) (Or.inl ⟨by rfl, fun Y hYb => (by (try dsimp only at hYb); go_simp; rfl)⟩) (by repeat' (first | with_reducible assumption | with_reducible exact Below.refl _ _ | with_reducible refine Below.drew ?_ | with_reducible refine below_drewN ?_ _)) ?_
  refine anyS_take (i := 11) rfl (by kernel_rfl) (fun _ _ _ h => h) (Or.inl ⟨by rfl, fun Y hYb => (by (try dsimp only at hYb); go_simp; rfl)⟩) (by repeat' (first | with_reducible assumption | with_reducible exact Below.refl _ _ | with_reducible refine Below.drew ?_ | with_reducible refine below_drewN ?_ _)) ?_
  refine anyS_take (i := 12) rfl (by kernel_rfl) (fun _ _ _ h => h) (Or.inl ⟨by rfl, fun Y hYb => (by (try dsimp only at hYb); go_simp; rfl)⟩) (by repeat' (first | with_reducible assumption | with_reducible exact Below.refl _ _ | with_reducible refine Below.drew ?_ | with_reducible refine below_drewN ?_ _)) ?_
  refine anyS_take (i := 13) rfl (by kernel_rfl) (fun _ _ _ h => h) (Or.inl ⟨by rfl, fun Y hYb => (by (try dsimp only at hYb); go_simp; rfl)⟩) (by repeat' (first | with_reducible assumption | with_reducible exact Below.refl _ _ | with_reducible refine Below.drew ?_ | with_reducible refine below_drewN ?_ _)) ?_
  refine anyS_take (i := 15) rfl (by kernel_rfl) (fun _ _ _ h => h) (Or.inl ⟨by rfl, fun Y hYb => (by (try dsimp only at hYb); go_simp; rfl)⟩) (by repeat' (first | with_reducible assumption | with_reducible exact Below.refl _ _ | with_reducible refine Below.drew ?_ | with_reducible refine below_drewN ?_ _)) ?_
  refine anyS_take (i := 16) rfl (by kernel_rfl) (fun _ _ _ h => h) (Or.inl ⟨by rfl, fun Y hYb => (by (try dsimp only at hYb); go_simp; rfl)⟩) (by repeat' (first | with_reducible assumption | with_reducible exact Below.refl _ _ | with_reducible refine Below.drew ?_ | with_reducible refine below_drewN ?_ _)) ?_
  refine anyS_take (i := 17) rfl (by kernel_rfl) (fun _ _ _ h => h) (Or.inl ⟨by rfl, fun Y hYb => (by (try dsimp only at hYb); go_simp; rfl)⟩) (by repeat' (first | with_reducible assumption | with_reducible exact Below.refl _ _ | with_reducible refine Below.drew ?_ | with_reducible refine below_drewN ?_ _)) ?_
  refine anyS_take (i := 18) rfl (by kernel_rfl) (fun _ _ _ h => h) (Or.inl ⟨by rfl, fun Y hYb => (by (try dsimp only at hYb); go_simp; rfl)⟩) (by repeat' (first | with_reducible assumption | with_reducible exact Below.refl _ _ | with_reducible refine Below.drew ?_ | with_reducible refine below_drewN ?_ _)) ?_
  refine anyS_take (i := 20) rfl (by kernel_rfl) (fun _ _ _ h => h) (Or.inl ⟨by rfl, fun Y hYb => (by (try dsimp only at hYb); go_simp; rfl)⟩) (by repeat' (first | with_reducible assumption | with_reducible exact Below.refl _ _ | with_reducible refine Below.drew ?_ | with_reducible refine below_drewN ?_ _)) ?_
  refine anyS_take (i := 21) rfl (by kernel_rfl) (fun _ _ _ h => h) (Or.inl ⟨by rfl, fun Y hYb => (by (try dsimp only at hYb); go_simp; rfl)⟩) (by repeat' (first | with_reducible assumption | with_reducible exact Below.refl _ _ | with_reducible refine Below.drew ?_ | with_reducible refine below_drewN ?_ _)) ?_
  refine anyS_take (i := 22) rfl (by kernel_rfl) (fun _ _ _ h => h) (Or.inl ⟨by rfl, fun Y hYb => (by (try dsimp only at hYb); go_simp; rfl)⟩) (by repeat' (first | with_reducible assumption | with_reducible exact Below.refl _ _ | with_reducible refine Below.drew ?_ | with_reducible refine below_drewN ?_ _)) ?_
  refine anyS_take (i := 23) rfl (by kernel_rfl) (fun _ _ _ h => h) (Or.inl ⟨by rfl, fun Y hYb => (by (try dsimp only at hYb); go_simp; rfl)⟩) (by repeat' (first | with_reducible assumption | with_reducible exact Below.refl _ _ | with_reducible refine Below.drew ?_ | with_reducible refine below_drewN ?_ _)) ?_
  refine anyS_take (i := 25) rfl (by kernel_rfl) (fun _ _ _ h => h) (Or.inl ⟨by rfl, fun Y hYb => (by (try dsimp only at hYb); go_simp; rfl)⟩) (by repeat' (first | with_reducible assumption | with_reducible exact Below.refl _ _ | with_reducible refine Below.drew ?_ | with_reducible refine below_drewN ?_ _)) ?_
  refine anyS_take (i := 26) rfl (by kernel_rfl) (fun _ _ _ h => h) (Or.inl ⟨by rfl, fun Y hYb => (by (try dsimp only at hYb); go_simp; rfl)⟩) (by repeat' (first | with_reducible assumption | with_reducible exact Below.refl _ _ | with_reducible refine Below.drew ?_ | with_reducible refine below_drewN ?_ _)) ?_
  refine anyS_take (i := 27) rfl (by kernel_rfl) (fun _ _ _ h => h) (Or.inl ⟨by rfl, fun Y hYb => (by (try dsimp only at hYb); go_simp; rfl)⟩) (by repeat' (first | with_reducible assumption | with_reducible exact Below.refl _ _ | with_reducible refine Below.drew ?_ | with_reducible refine below_drewN ?_ _)) ?_
  refine anyS_take (i := 28) rfl (by kernel_rfl) (fun _ _ _ h => h) (Or.inl ⟨by rfl, fun Y hYb => (by (try dsimp only at hYb); go_simp; rfl)⟩) (by repeat' (first | with_reducible assumption | with_reducible exact Below.refl _ _ | with_reducible refine Below.drew ?_ | with_reducible refine below_drewN ?_ _)) ?_
  refine anyS_one (i := 4) (by kernel_rfl) rfl (by rfl) (fun K hK => ?_)
  go_simp
  refine (q0 _).mono ?_
  rintro e w' ⟨rfl, rfl⟩
  dsimp only
  refine hK _ _ (fun _ h => h) ?_
  clear hK K
  refine anyS_one (i := 9) (by kernel_rfl) rfl (by rfl) (fun K hK => ?_)
  go_simp
  refine (q1 _).mono ?_
  rintro e w' ⟨rfl, rfl⟩
  dsimp only
  refine hK _ _ (fun _ h => h) ?_
  clear hK K
  refine anyS_one (i := 14) (by kernel_rfl) rfl (by rfl) (fun K hK => ?_)
  go_simp
  refine (q2 _).mono ?_
  rintro e w' ⟨rfl, rfl⟩
  dsimp only
  refine hK _ _ (fun _ h => h) ?_
  clear hK K
  refine anyS_one (i := 19) (by kernel_rfl) rfl (by rfl) (fun K hK => ?_)
  go_simp
  refine (q3 _).mono ?_
  rintro e w' ⟨rfl, rfl⟩
  dsimp only
  refine hK _ _ (fun _ h => h) ?_
  clear hK K
  refine anyS_one (i := 24) (by kernel_rfl) rfl (by rfl) (fun K hK => ?_)
  go_simp
  refine (q4 _).mono ?_
  rintro e w' ⟨rfl, rfl⟩
  dsimp only
  refine hK _ _ (fun _ h => h) ?_
  clear hK K
  refine anyS_one (i := 29) (by kernel_rfl) rfl (by rfl) (fun K hK => ?_)
  go_simp
  refine (q5 _).mono ?_
  rintro e w' ⟨rfl, rfl⟩
  dsimp only
  refine hK _ _ (fun _ h => h) ?_
  clear hK K
  clear r0 r1 r2 r3 r4 r5 s0 s1 s2 s3 s4 s5 q0 q1 q2 q3 q4 q5
  refine anyS_one (i := 30) (by kernel_rfl) rfl (by rfl) (fun K hK => ?_)
  go_simp
  have hS30 : Below W2.heap.size W2 (W2.alloc (.cells #[.int .i64 c0, .int .i64 c1, .int .i64 c2, .int .i64 c3, .int .i64 c4, .int .i64 c5] 3)).drew := (below_alloc _ _).drew
  refine hK _ _ (fun _ _ => hS30) ?_
  clear hK K
  have XS := (Bx.new W2 #[.int .i64 c0, .int .i64 c1, .int .i64 c2, .int .i64 c3, .int .i64 c4, .int .i64 c5] 3).drew
  have SL : Sl (W2.alloc (.cells #[.int .i64 c0, .int .i64 c1, .int .i64 c2, .int .i64 c3, .int .i64 c4, .int .i64 c5] 3)).drew (some ⟨W2.heap.size, 0, none⟩) 6 (fun k => [c0, c1, c2, c3, c4, c5].getD k 0) := fun k hk => by
    refine ⟨W2.heap.size, 0, rfl, XS.lt, ?_⟩
    rw [Nat.zero_add]
    rcases (by omega : k = 0 ∨ k = 1 ∨ k = 2 ∨ k = 3 ∨ k = 4 ∨ k = 5) with rfl | rfl | rfl | rfl | rfl | rfl
    · exact XS.at_ 0 rfl
    · exact XS.at_ 1 rfl
    · exact XS.at_ 2 rfl
    · exact XS.at_ 3 rfl
    · exact XS.at_ 4 rfl
    · exact XS.at_ 5 rfl
  have hor := cmp_Or (some ⟨W2.heap.size, 0, none⟩) 6 [c0, c1, c2, c3, c4, c5] _ (by simp) SL
  refine anyS_one (i := 31) (by kernel_rfl) rfl (by rfl) (fun K hK => ?_)
  go_simp
  refine hor.mono ?_
  rintro e w' ⟨rfl, rfl⟩
  dsimp only
  refine hK _ _ (fun _ h => h) ?_
  clear hK K hor SL XS
  refine anyS_take (i := 32) rfl (by kernel_rfl) (fun _ _ _ h => h) (Or.inl ⟨by rfl, fun Y hYb => (by (try dsimp only at hYb); go_simp; rfl)⟩) (by repeat' (first | with_reducible assumption | with_reducible exact Below.refl _ _ | with_reducible refine Below.drew ?_ | with_reducible refine below_drewN ?_ _)) ?_
  simp only [List.getElem_toArray, List.getElem_cons_succ, List.getElem_cons_zero, Act.put, List.setIfInBounds_toArray, List.set_cons_zero, List.set_cons_succ]
  refine anyS_done (by kernel_rfl) ?_ _
  go_wp2
  go_ret
  refine ⟨rfl, 1, #[.cells #[.int .i64 x.st, .int .i64 x.fr, .int .i64 x.to, .int .i64 x.ce, .int .i64 x.di, .int .i64 x.co] 106] ++ #[.cells #[.int .i64 y.st, .int .i64 y.fr, .int .i64 y.to, .int .i64 y.ce, .int .i64 y.di, .int .i64 y.co] 106] ++ #[.cells #[.int .i64 c0, .int .i64 c1, .int .i64 c2, .int .i64 c3, .int .i64 c4, .int .i64 c5] 3], ?_⟩
  rw [HW2.out, alloc_eq_grow, alloc_eq_grow, alloc_eq_grow, grow_grow, grow_grow, Array.append_assoc]
  rfl
set_option maxRecDepth 100000 in
set_option maxHeartbeats 1000000 in
theorem notes_Clone (a : Option Addr) (n c : Nat) (p : Nat → N6) (w : World) (hn : n ≤ 1000000) (H : Sn w a n p) :
    Calls Tryz.prog 106 #[.slice a n c] w fun e w' => ∃ v, e = .returned v ∧ OwnN w' w.heap.size v (lstN p n) ∧ Below w.heap.size w w' := by
  obtain ⟨i0, hi, hz0, hz1, hz2⟩ := info_parts infoN
  have hnil := fun (w : World) => Lib.run_eql_slice_nil (P := Tryz.prog) w 67 106 a n c 0 0 Tryz.underlying67
  rcases a with _ | ⟨b, o, sp⟩
  · obtain rfl : n = 0 := by
      rcases Nat.eq_zero_or_pos n with h | h
      · exact h
      · obtain ⟨b, off, e, _⟩ := H 0 h; cases e
    simp only [Option.isNone_none] at hnil
    go_enter Tryz.func106, Tryz.ntmps106
    go_wp2
    go_ret
    exact ⟨_, rfl, ownN_nil _ _, by (repeat' (first | with_reducible assumption | with_reducible exact Below.refl _ _ | with_reducible refine Below.drew ?_ | with_reducible refine below_drewN ?_ _ | with_reducible refine balloc ?_ _ | with_reducible refine bset ?_ ?_ _ | with_reducible refine Below.setCell ?_ ?_ _ | with_reducible refine Below.alloc ?_ ?_ _ | omega | (simp; done) | (simp; omega)))⟩
  simp only [Option.isNone_some] at hnil
  have hown0 : (w.alloc (.cells #[] 106)).ownsRow w.heap.size 106 6 (.slice (some ⟨w.heap.size, 0, none⟩) 0 0) 0 [] := World.ownsRow_lit w #[] 0 (Nat.le_refl _) (by simp [maxLen]) rfl
  rcases Nat.eq_zero_or_pos n with h0 | h0
  · subst h0
    go_enter Tryz.func106, Tryz.ntmps106
    go_wp2
    go_ret
    exact ⟨_, rfl, hown0, by (repeat' (first | with_reducible assumption | with_reducible exact Below.refl _ _ | with_reducible refine Below.drew ?_ | with_reducible refine below_drewN ?_ _ | with_reducible refine balloc ?_ _ | with_reducible refine bset ?_ ?_ _ | with_reducible refine Below.setCell ?_ ?_ _ | with_reducible refine Below.alloc ?_ ?_ _ | omega | (simp; done) | (simp; omega)))⟩
  obtain ⟨b', o', e', hlt, _⟩ := H 0 h0
  injection e' with e'; injection e' with e1 e2 e3
  subst e1 e2 e3
  have HN := hid (sn_row (H.alloc (.cells #[] 106)))
  have hfl : (flatN (lstN p n)).length = n * 6 := by rw [flatN_length, lstN_length]
  have hone := flatN_one (lstN p n)
  go_enter Tryz.func106, Tryz.ntmps106
  go_wp2_with (at_builtin; refine wpList_append_own_at _ rfl _ _ 67 rfl w.heap.size 106 i0 _ 6 48 Tryz.underlying67 hi hz0 hz1 hz2 rfl (by decide) (.slice (some ⟨w.heap.size, 0, none⟩) 0 0) 0 [] rfl hown0 ⟨b, o, none⟩ n c (flatN (lstN p n)) rfl hfl HN.out hone (by simp [maxLen]; omega) (by omega) (by simp) ?_; intro v' w1 hown hgrow _ _)
  go_ret
  simp only [Nat.zero_add, List.nil_append] at hown
  refine ⟨v', rfl, ?_, ((Below.refl _ w).alloc (Nat.le_refl _) _).grown hgrow (by simp) (fun k hk => by simp [Value.ownBlock] at hk; omega)⟩
  unfold OwnN
  rw [lstN_length]
  exact hown
end Go.Proofs.YteabkcbajpjkoaaGreat
namespace Go.Proofs.YteabkcbajpjkoaaGreat
open Go Go.RowKit Go.Sort
set_option linter.unusedVariables false
set_option linter.unusedSimpArgs false
theorem flatK_eq (ys : List N6) : flatK N6.list 6 ys.toArray = (flatN ys).toArray := by
  refine ext_get! (by simp [flatN_length]) fun t ht => ?_
  have ht' : t < ys.length * 6 := by simpa using ht
  rw [get_flatK _ _ _ t (by simpa using ht')]
  have h1 := flatN_at ys (t / 6) (t % 6) (by omega) (Nat.mod_lt _ (by omega))
  rw [show t / 6 * 6 + t % 6 = t by omega] at h1
  have h2 := N6.list_at (ys.getD (t / 6) N6.zero) (t % 6) (Nat.mod_lt _ (by omega))
  have e : ys.toArray[t / 6]! = ys.getD (t / 6) N6.zero := by
    have hl : t / 6 < ys.length := by omega
    simp [List.getD_eq_getElem?_getD, hl]
  rw [e, List.getElem!_eq_getElem?_getD, h2, List.getElem!_toArray, List.getElem!_eq_getElem?_getD, h1]
theorem holdsN_of_own {w : World} {base g n cap : Nat} {xs : List N6} (h : OwnN w base (.slice (some ⟨g, 0, none⟩) n cap) xs) : HoldsK N6.list 6 w g 0 xs.toArray ∧ base ≤ g ∧ g < w.heap.size ∧ xs.length ≤ cap ∧ cap ≤ maxLen ∧ n = xs.length := by
  unfold HoldsK
  rw [flatK_eq]
  rcases h.2 with ⟨e0, _⟩ | ⟨g', cap', cur, e0, hb, hg, hn, hm, hs, ht⟩
  · cases e0
  · injection e0 with e1 e2 e3
    injection e1 with e1
    injection e1 with e1
    subst e1 e2 e3
    have hlt : g < w.heap.size := by
      rcases Nat.lt_or_ge g w.heap.size with h' | h'
      · exact h'
      · rw [Array.getElem?_eq_none h'] at hg; cases hg
    refine ⟨fun j hj => ⟨?_, by simp [World.frozen?, hg]⟩, hb, hlt, hn, hm, rfl⟩
    have hj' : j < xs.length * 6 := by simpa [flatN_length] using hj
    rw [Nat.zero_add, cell_of_row w g j cur _ (0, 0) hg]
    have e1 : (cur.toList.take (xs.length * 6))[j]? = (flatN xs)[j]? := by rw [ht]
    rw [List.getElem?_take, if_pos (by omega), Array.getElem?_toList] at e1
    have hfl := flatN_length xs
    rw [e1, List.getElem!_toArray, List.getElem!_eq_getElem?_getD, List.getElem?_eq_getElem (by omega)]
    rfl
theorem ownN_putRowK {w : World} {base g n cap q : Nat} {xs ys : List N6} (h : OwnN w base (.slice (some ⟨g, 0, none⟩) n cap) xs) (hy : ys.length = xs.length) :
    OwnN (putRowK N6.list 6 (Sort.ahead w q) g 0 ys.toArray) base (.slice (some ⟨g, 0, none⟩) n cap) ys := by
  unfold putRowK OwnN
  rw [flatK_eq]
  rcases h.2 with ⟨e0, _⟩ | ⟨g', cap', cur, e0, hb, hg, hn, hm, hs, ht⟩
  · cases e0
  · injection e0 with e1 e2 e3
    injection e1 with e1
    injection e1 with e1
    subst e1 e2 e3
    have hfl := flatN_length ys
    refine ⟨by rw [hfl], .inr ⟨g, cap, putCells id 0 (flatN ys).toArray cur, by rw [hy], hb, ?_, by omega, hm, by simpa [putCells] using hs, ?_⟩⟩
    · simp [putRow, mapBlock, Sort.ahead, Array.getElem?_modify, hg, onCells]
    · apply List.ext_getElem?
      intro j
      rw [List.getElem?_take, Array.getElem?_toList]
      by_cases hj : j < ys.length * 6
      · have hjc : j < cur.size := by
          have : ys.length * 6 ≤ cap * 6 := Nat.mul_le_mul_right _ (by omega)
          omega
        simp only [if_pos hj, putCells, Array.getElem?_mapIdx, Array.getElem?_eq_getElem hjc, Option.map_some]
        rw [if_pos (by simp; omega), List.getElem?_eq_getElem (by omega)]
        simp [getElem!_pos, show j < (flatN ys).length by omega]
      · rw [if_neg hj, List.getElem?_eq_none (by omega)]
theorem ltOf_cmpN : ltOf cmpN = befN := by
  funext x y
  exact cmpN_lt x y
theorem swoN : SWO (ltOf cmpN) := by
  rw [ltOf_cmpN]
  exact ⟨befN_irrefl, fun x y z => befN_trans, fun x y z => befN_ntrans⟩
set_option maxRecDepth 100000 in
set_option maxHeartbeats 2000000 in
theorem node_Sorted (a : Option Addr) (n c : Nat) (p : Nat → N6) (w : World) (hn : n ≤ 1000000) (H : Sn w a n p) :
    Calls Tryz.prog 108 #[.slice a n c] w fun e w' => ∃ v, e = .returned v ∧ OwnN w' w.heap.size v (sortN (lstN p n)) ∧ Below w.heap.size w w' := by
  have hll := lstN_length p n
  have hcl := notes_Clone a n c p w hn H
  generalize lstN p n = xs at *
  have HL := hid hll
  clear hll
  go_enter Tryz.func108, Tryz.ntmps108
  go_wp2_with fail
  refine hcl.mono ?_
  rintro e w1 ⟨v, rfl, hown, hb1⟩
  clear hcl
  have hown0 := hown
  rcases hown0.2 with ⟨rfl, h0⟩ | ⟨g, cap, cur, rfl, _⟩
  · have hx : sortN xs = [] := by
      have := sortN_length xs
      rw [h0] at this
      exact List.length_eq_zero_iff.1 this
    have HX := hid hx
    clear hx h0
    have hs := AnyF.slices_SortFunc_none (P := Tryz.prog) Tryz.sortN none 0 (.func (.func 131) #[] #[]) w1
    change Calls Tryz.prog 130 _ _ _ at hs
    go_wp2_with fail
    refine hs.mono ?_
    rintro e w2 ⟨rfl, rfl⟩
    go_wp2
    go_ret
    rw [HX.out]
    exact ⟨_, rfl, ownN_nil _ _, hb1⟩
  · obtain ⟨hH, hg1, hg2, hxc, hcm, _⟩ := holdsN_of_own hown
    have hs := AnyQ.slices_SortFunc_total (P := Tryz.prog) Tryz.sortN 6 (fun _ => by kernel_rfl) (fun _ => by kernel_rfl) N6.list (fun _ => rfl) n6_one cmpN swoN 131 #[] g 0 cap xs.toArray w1 (Go.Proofs.enters_of Tryz.func131 (by kernel_rfl) rfl) (fun m os dk _ x y => node_Sorted1 x y _) hH hg2 (by have := HL.out; rw [List.size_toArray]; omega) (fun x y h1 h2 => by rw [ltOf_cmpN] at h1 h2; exact befN_total h1 h2)
    change Calls Tryz.prog 130 _ _ _ at hs
    rw [List.size_toArray, ltOf_cmpN] at hs
    go_wp2_with fail
    refine hs.mono ?_
    rintro e w2 ⟨rfl, q, os, hw2⟩
    clear hs
    have hown2 : OwnN w2 w.heap.size (.slice (some ⟨g, 0, none⟩) xs.length cap) (sortN xs) := by
      rw [hw2]
      unfold sortWorldK
      exact own_below (ownN_putRowK (q := q) hown (sortN_length xs)) (below_grow _ os)
    have hbb : Below w.heap.size w w2 := by
      rw [hw2]
      unfold sortWorldK putRowK
      exact bvia (Lib.below_putRow (enc := id) (q := q) hb1 (by omega)) (below_grow _ os)
    clear hw2
    go_wp2
    go_ret
    exact ⟨_, rfl, hown2, hbb⟩
end Go.Proofs.YteabkcbajpjkoaaGreat
