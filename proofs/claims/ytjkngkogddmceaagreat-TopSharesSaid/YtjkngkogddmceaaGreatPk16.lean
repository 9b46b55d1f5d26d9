/- Walks of the share layer: the owners of the columns, of the program. -/
import Derived.Test.YtjkngkogddmceaaGreatPk15
import Derived.Test.YtjkngkogddmceaaGreatPk3
import Derived.Test.YtjkngkogddmceaaGreatPk1
import Derived.Test.YtjkngkogddmceaaGreatPk4
import Derived.Laws.EntriesVeiled
import Derived.Deep.DeepCutAuto
import Derived.Test.YtjkngkogddmceaaGreatPk2
namespace Go.Proofs.YtjkngkogddmceaaGreat
open Go Go.RowKit
attribute [local go_sem] Oper.semAt_some
set_option linter.unusedVariables false
theorem nodeOf_bd {n m : Nat} {c : Nat → Int} (hc : validK n m c) {x j : Nat} (hj : j ≤ m) (h1 : bd n m c j ≤ x) (h2 : x < bd n m c (j + 1)) : nodeOf m c x = j := by
  have hx : x < n := by have := bd_le hc (j + 1); omega
  obtain ⟨a1, a2⟩ := isNode_bd hc hx (nodeOf_is m c x)
  rcases Nat.lt_trichotomy (nodeOf m c x) j with h | h | h
  · have := bd_mono hc (i := nodeOf m c x + 1) j (by omega); omega
  · exact h
  · have := bd_mono hc (i := j + 1) (nodeOf m c x) (by omega); omega
def nodL (m : Nat) (c : Nat → Int) (k : Nat) : List Int := (List.range k).map fun x => (nodeOf m c x : Int)
theorem nodL_length (m : Nat) (c : Nat → Int) (k : Nat) : (nodL m c k).length = k := by simp [nodL]
theorem nodL_part {n m : Nat} {c : Nat → Int} (hc : validK n m c) {j : Nat} (hj : j ≤ m) : nodL m c (bd n m c (j + 1)) = nodL m c (bd n m c j) ++ List.replicate (bd n m c (j + 1) - bd n m c j) (j : Int) := by
  have h1 := bd_step hc j
  apply List.ext_getElem?
  intro i
  rw [List.getElem?_append, nodL_length]
  by_cases h2 : i < bd n m c j
  · rw [if_pos h2]
    simp [nodL, h2, show i < bd n m c (j + 1) by omega]
  · rw [if_neg h2, List.getElem?_replicate]
    by_cases h3 : i < bd n m c (j + 1)
    · rw [if_pos (by omega)]
      simp [nodL, h3, nodeOf_bd hc hj (by omega) h3]
    · rw [if_neg (by omega)]
      simp [nodL, h3]
theorem part_len (b off n m : Nat) (c : Nat → Int) (j : Nat) : ∃ (a' : Option Addr) (cp : Nat), partV b off n m c j = .slice a' (bd n m c (j + 1) - bd n m c j) cp := by
  unfold partV
  split
  · rename_i e; rw [e, Nat.sub_self]; exact ⟨_, _, rfl⟩
  · exact ⟨_, _, rfl⟩
theorem pre_last {k x : Nat} {pre : List Nat} (h : pre ++ [x] <+: List.range k) : x = pre.length ∧ pre.length < k := by
  have hl := h.length_le
  simp at hl
  obtain ⟨t, ht⟩ := h
  have h2 : ((pre ++ [x]) ++ t)[pre.length]? = (List.range k)[pre.length]? := by rw [ht]
  rw [List.append_assoc, List.getElem?_append_right (Nat.le_refl _), Nat.sub_self, List.getElem?_range (by omega)] at h2
  simp at h2
  exact ⟨h2, by omega⟩
section
variable {P : Program} {w : World}
/-- append at an operation, also of nothing -/
theorem wp_append_at {o : Oper} {a : Act} {K : Act → World → Prop} {Q : Exit → Act → World → Prop} (s x : Operand) (t : TypeId)
    (ho : o.op = .call { callee := .builtin .append, args := #[s, x], argTypes := #[t, t] })
    (base : Nat) (e : TypeId) (i : TypeInfo) (z : Value) (size bytes : Nat) (ht : P.underlying t = some (.slice e)) (hi : P.info? e = some i) (hz : i.zero = some z)
    (hsize : i.size = size) (hby : i.bytes = bytes) (hzs : z.cells.size = size) (hsz : 0 < size)
    (v : Value) (n : Nat) (xs : List Value) (hs : a.eval s = v) (hown : w.ownsRow base e size v n xs)
    (ad : Addr) (m c : Nat) (news : List Value) (hx : a.eval x = .slice (some ad) m c) (hl : news.length = m * size) (hnews : ∀ j u, news[j]? = some u → w.cell? (ad.add j) = some u) (h1 : ∀ u ∈ news, u.oneCell' = true)
    (h63 : n + m ≤ maxLen) (hbytes : (n + m) * bytes ≤ 140737488355328) (hbase : base ≤ w.heap.size)
    (h : ∀ v' w', w'.ownsRow base e size v' (n + m) (xs ++ news) → w.grownBy w' v.ownBlock → (v'.ownBlock = v.ownBlock ∨ v'.ownBlock = some w.heap.size) → K (a.put o.dst v') w') : o.wp P a w K Q := by
  obtain ⟨v', w', hr, h2, h3, _, h5⟩ := run_append_own_at (P := P) w base t o.type e i z size bytes ht hi hz hsize hby hzs hsz v n xs hown ad m c news hl hnews h1 h63 hbytes hbase
  unfold Oper.wp execOp
  simp only [ho, resolve, invoke, builtin, Sem.run_bind, Sem.run_pure, Result.andThen_ok, List.map_toArray, List.map_cons, List.map_nil, hs, hx, hr]
  exact h v' w' h2 h3 h5
end
theorem own_slice {w : World} {base : Nat} {e : TypeId} {size n : Nat} {v : Value} {xs : List Value} (h : w.ownsRow base e size v n xs) : ∃ a k c, v = .slice a k c := by
  rcases h.2 with ⟨rfl, _⟩ | ⟨g', cap, cur, rfl, _⟩
  · exact ⟨_, _, _, rfl⟩
  · exact ⟨_, _, _, rfl⟩
/-- the word between two rounds -/
structure WO (n m : Nat) (c : Nat → Int) (bo bl bc : Nat) (vl vc : Value) (n₀ : Nat) (pre : List Nat) (C : Nat → Prop) (X : World) (v : Value) : Prop where
  foot : C = fun b => b = bo ∨ b = bl ∨ b = bc ∨ v.ownBlock = some b
  box : Bx X bo #[v]
  loads : Bx X bl #[vl]
  cuts : Bx X bc #[vc]
  own : X.ownsRow n₀ 3 1 v (nodL m c (bd n m c pre.length)).length ((nodL m c (bd n m c pre.length)).map vInt)
theorem wo_stab {n m : Nat} {c : Nat → Int} {bo bl bc : Nat} {vl vc : Value} {n₀ n₁ : Nat} : Stab n₁ (fun pre C X => ∃ v, WO n m c bo bl bc vl vc n₀ pre C X v) := by
  rintro pre C A B ⟨v, h⟩ hb
  have hf := h.foot
  subst hf
  exact ⟨v, rfl, h.box.but hb (fun h' => h'.2 (.inl rfl)), h.loads.but hb (fun h' => h'.2 (.inr (.inl rfl))), h.cuts.but hb (fun h' => h'.2 (.inr (.inr (.inl rfl)))), own_but h.own hb (fun g hg h' => h'.2 (.inr (.inr (.inr hg))))⟩
theorem rep_one (x : Int) (k : Nat) : ∀ u ∈ repR x k k, u.oneCell' = true := by
  intro u hu
  simp [repR] at hu
  rw [hu.2]; simp [Value.oneCell']
theorem repR_full (x : Int) (k : Nat) : repR x k k = List.replicate k (vInt x) := by simp [repR, vInt]
set_option maxRecDepth 100000 in
set_option maxHeartbeats 4000000 in
theorem share_owners (n m cc : Nat) (ac : Option Addr) (c : Nat → Int) (w : World) (hn : n ≤ 64) (hc : validK n m c) (HC : Sl w ac m c) :
    Calls Tryz.prog 41 #[.int .i64 (n : Int), .slice ac m cc] w fun e w' => ∃ v, e = .returned v ∧ w'.ownsRow w.heap.size 3 1 v (nodL m c n).length ((nodL m c n).map vInt) ∧ Below w.heap.size w w' := by
  obtain ⟨i0, hi, hz0, hz1, hz2⟩ := info_parts infoI
  have HV := hid hc
  have hmk := fun W => mk_ints n n rfl (by omega) W
  refine callsIn_wide.1 (callsIn_of_wp_marks (F := Fence.wide) (n := 0) Tryz.func41 rfl trivial ?_ rfl)
  simp only [Tryz.ntmps41, List.size_toArray, List.length_cons, List.length_nil, Nat.reduceAdd, Nat.reduceSub, Array.replicate_succ, Array.replicate_zero, List.push_toArray, List.append_toArray, List.nil_append, List.cons_append]
  gi_wp2_with fail
  refine ⟨trivial, rfl, callsIn_wide.2 ((share_parts _ _ _ _ _ _ _).mono ?_)⟩
  rintro e w1 ⟨rfl, Xl, Xc, hsz, hb1⟩
  have Xo := ((Bx.new w #[.slice none 0 0] 29).alloc (.cells (zcells n) 3)).below hb1
  simp only [World.size_alloc] at Xl Xc hsz
  have hB1 : Below w.heap.size w w1 := bvia (balloc (below_alloc w (.cells #[.slice none 0 0] 29)) (.cells (zcells n) 3)) hb1
  gi_wp2_with fail
  have hit := parts_iter (w.heap.size + 1 + 1) (w.heap.size + 1 + 1 + 1) (w.heap.size + 1) 0 n n m cc ac c w hn (Nat.le_refl _) (by simp [maxLen]; omega) hc HC
  have hv0 : ∀ g, (Value.slice none 0 0).ownBlock = some g → False := fun g h => by cases h
  have W0 : WO n m c w.heap.size (w.heap.size + 1 + 1) (w.heap.size + 1 + 1 + 1) (.slice (some ⟨w.heap.size + 1, 0, none⟩) n n) (.slice ac m cc) (w.heap.size + 1 + 1 + 1 + 1) [] (fun b => b = w.heap.size ∨ b = w.heap.size + 1 + 1 ∨ b = w.heap.size + 1 + 1 + 1 ∨ (Value.slice none 0 0).ownBlock = some b) w1 (.slice none 0 0) :=
    ⟨rfl, Xo, Xl, Xc, World.ownsRow_nil ..⟩
  clear Xo Xl Xc hb1
  refine wp_rangeR rfl ent_parts hit hB1 (fun _ => rfl) (fun pre C X => ∃ v, WO n m c w.heap.size (w.heap.size + 1 + 1) (w.heap.size + 1 + 1 + 1) (.slice (some ⟨w.heap.size + 1, 0, none⟩) n n) (.slice ac m cc) (w.heap.size + 1 + 1 + 1 + 1) pre C X v) (fun _ _ _ _ => False)
    (fun b => b = w.heap.size ∨ b = w.heap.size + 1 + 1 ∨ b = w.heap.size + 1 + 1 + 1 ∨ (Value.slice none 0 0).ownBlock = some b) ?hRd ?hC wo_stab (fun c => fun _ _ _ _ h => h.elim) ⟨_, W0⟩ ?hround ?hdone ?hstop
  case hRd =>
    rintro pre C X ⟨v, h⟩
    exact ⟨h.loads, h.cuts⟩
  case hC =>
    rintro pre C X ⟨v, h⟩ b hb
    have l1 := h.box.lt; have l2 := h.loads.lt; have l3 := h.cuts.lt
    rw [h.foot] at hb
    rcases hb with rfl | rfl | rfl | hb
    · omega
    · omega
    · omega
    · have := own_base h.own b hb; have := own_lt h.own b hb; omega
  case hround =>
    rintro l pre x C X hl hl' hnl ⟨rec2, hrec2⟩ ⟨v, h⟩ hX hgC hpre
    unfold Round
    dsimp only [encS]
    gi_wp2_with fail
    refine ⟨Below.refl _ _, ?_⟩
    intro X₂ hb2 hs2 r2
    have hf := h.foot
    subst hf
    have l1 := h.box.lt; have l2 := h.loads.lt; have l3 := h.cuts.lt
    have hl0 : l ≠ w.heap.size ∧ l ≠ w.heap.size + 1 + 1 ∧ l ≠ w.heap.size + 1 + 1 + 1 ∧ v.ownBlock ≠ some l := ⟨fun e => hnl (.inl e), fun e => hnl (.inr (.inl e)), fun e => hnl (.inr (.inr (.inl e))), fun e => hnl (.inr (.inr (.inr e)))⟩
    obtain ⟨n1, n2, n3, n4⟩ := hl0
    have Xo := h.box.but hb2 (fun e => n1 e.symm); have Xl := h.loads.but hb2 (fun e => n2 e.symm); have Xc := h.cuts.but hb2 (fun e => n3 e.symm)
    have hown := own_but h.own hb2 (fun g hg e => n4 (by rw [← e]; exact hg))
    obtain ⟨hxp, hxm⟩ := pre_last hpre
    obtain ⟨a', cp, hpv⟩ := part_len (w.heap.size + 1) 0 n m c x
    have hbe := bd_le HV.out (x + 1)
    have hpart := nodL_part HV.out (j := x) (by omega)
    have hbst := bd_step HV.out x
    have hb3 := bd_le HV.out pre.length
    rw [hpv]
    obtain ⟨ln, hln⟩ : ∃ ln, ln = bd n m c (x + 1) - bd n m c x := ⟨_, rfl⟩
    rw [← hln] at hpart ⊢
    have hln2 : ln ≤ 100000 := by omega
    have hlm : (nodL m c (bd n m c pre.length)).length = bd n m c pre.length := nodL_length ..
    have hlb : bd n m c pre.length + ln ≤ n := by rw [← hxp]; omega
    rw [hxp] at hpart
    have HP := hid hpart
    have hrr := repR_full (x : Int) ln
    have hxc : (X₂.alloc (.cells #[.int .i64 (x : Int)] 3)).drew.cell? ⟨X₂.heap.size, 0, none⟩ = some (.int .i64 (x : Int)) := cell_new _ _ _ 0 _ rfl
    have HXP := hid hxp; clear hxp hln
    have x0 := Xo.at_ 0 rfl
    have lo2 := Xo.lt; have lc2 := Xc.lt; have ll2 := Xl.lt
    have HS2 := hid hs2
    clear h hnl hgC hX hb2 r2 hpv hs2 hpart
    gi_upto_region 5 with (fail)
    refine wpIn_region_R (fun _ => True) (by kernel_rfl) ?_
    refine anyR_take (i := 1) (fun _ => trivial) rfl (by kernel_rfl) (fun _ _ _ h => h) (Or.inl ⟨by rfl, fun Y hYb => (by go_simp; rfl)⟩) trivial ?_
    simp only [Act.put, List.setIfInBounds_toArray]
    refine anyR_take (i := 3) (fun _ => trivial) rfl (by kernel_rfl) (fun _ _ _ h => h) (Or.inl ⟨by rfl, fun Y hYb => (by go_simp; rfl)⟩) trivial ?_
    simp only [Act.put, List.setIfInBounds_toArray]
    refine anyR_take (i := 4) (fun _ => trivial) rfl (by kernel_rfl) (fun _ _ _ h => h) (Or.inl ⟨by rfl, fun Y hYb => (by go_simp; rfl)⟩) trivial ?_
    simp only [Act.put, List.setIfInBounds_toArray]
    refine anyR_two (i := 0) (j := 2) (by kernel_rfl) rfl rfl (by rfl) (by rfl) (fun K hK => ?_) (fun K hK => ?_)
    · skip
      go_simp
      refine hK _ _ trivial ?_
      clear hK K
      refine anyR_one (i := 2) (by kernel_rfl) rfl (by rfl) (fun K hK => ?_)
      go_simp
      refine hK _ _ trivial ?_
      clear hK K
      refine anyR_one (i := 5) (by kernel_rfl) rfl (by rfl) (fun K hK => ?_)
      go_simp
      refine ⟨trivial, rfl, callsIn_of ((repeat_one X₂.heap.size 1 ln x (X₂.alloc (.cells #[.int .i64 (x : Int)] 3)).drew hln2 (by simp) hxc).mono ?_)⟩
      rintro e Y ⟨rfl, hrow, hbY⟩
      have hbX2 : Below X₂.heap.size X₂ Y := bvia ((below_alloc X₂ (.cells #[.int .i64 (x : Int)] 3)).drew) hbY
      have XoY := Xo.below hbX2
      have xY := XoY.at_ 0 rfl
      simp only [World.size_alloc, World.size_drew] at hrow ⊢
      refine hK _ _ trivial ?_
      clear hK K
      refine anyR_one (i := 6) (by kernel_rfl) rfl (by rfl) (fun K hK => opIn_of (fun c h => by cases h) ?_)
      have hownY := own_below hown hbX2
      have XlY := Xl.below hbX2; have XcY := Xc.below hbX2
      have hszY := hbY.size
      simp only [World.size_alloc, World.size_drew] at hszY hrow
      refine wp_append_at _ _ 29 rfl (w.heap.size + 1 + 1 + 1 + 1) 3 i0 (.int .i64 0) 1 8 Tryz.underlying29 hi hz0 hz1 hz2 rfl (by decide) v _ _ rfl hownY ⟨X₂.heap.size + 1, 0, none⟩ ln ln (repR x ln ln) rfl (by rw [repR_length _ _ _ (Nat.le_refl _), Nat.mul_one]) (World.news_of_block hrow) (rep_one x ln) (by simp [maxLen]; omega) (by omega) (by omega) ?_
      intro v' w5 hown5 hgr hat
      rw [hlm, hrr] at hown5
      obtain ⟨av, nv, cv, hv'⟩ := own_slice hown5
      subst hv'
      have hC0 : But (fun b => b = w.heap.size ∨ b = w.heap.size + 1 + 1 ∨ b = w.heap.size + 1 + 1 + 1 ∨ v.ownBlock = some b) X₂ Y := ⟨hbX2.os, hbX2.tape, hbX2.output, hbX2.size, fun b hb _ => hbX2.block b hb⟩
      have hC5 := but_grown hC0 hgr (fun q hq => .inr (.inr (.inr hq)))
      have hg5 : ∀ q, q = w.heap.size ∨ q = w.heap.size + 1 + 1 ∨ q = w.heap.size + 1 + 1 + 1 → v.ownBlock ≠ some q := fun q hq e => by have := own_base hown q e; omega
      have Xo5 := XoY.grown hgr (fun e => hg5 _ (.inl rfl) e.symm)
      have Xl5 := XlY.grown hgr (fun e => hg5 _ (.inr (.inl rfl)) e.symm)
      have Xc5 := XcY.grown hgr (fun e => hg5 _ (.inr (.inr rfl)) e.symm)
      have y0 := Xo5.at_ 0 rfl; have yf := Xo5.free
      refine hK _ _ trivial ?_
      clear hK K
      refine anyR_one (i := 7) (by kernel_rfl) rfl (by rfl) (fun K hK => ?_)
      go_simp
      refine hK _ _ trivial ?_
      clear hK K
      refine anyR_done (by kernel_rfl) ?_ _
      gi_wp2
      refine ⟨fun b => b = w.heap.size ∨ b = w.heap.size + 1 + 1 ∨ b = w.heap.size + 1 + 1 + 1 ∨ (Value.slice av nv cv).ownBlock = some b, hC5.set_ (.inl rfl) _, ?_, _, rfl, Xo5.one, Xl5.far (by dsimp only; omega) _, Xc5.far (by dsimp only; omega) _, ?_⟩
      · rintro b (h | h | h | h)
        · exact .inl (.inl h)
        · exact .inl (.inr (.inl h))
        · exact .inl (.inr (.inr (.inl h)))
        · rcases hat with h' | h'
          · exact .inl (.inr (.inr (.inr (by rw [← h']; exact h))))
          · rw [h'] at h
            injection h with h
            exact .inr (by omega)
      · have h5 : w5.ownsRow (w.heap.size + 1 + 1 + 1 + 1) 3 1 (.slice av nv cv) (nodL m c (bd n m c (pre ++ [x]).length)).length ((nodL m c (bd n m c (pre ++ [x]).length)).map vInt) := by
          have e : nodL m c (bd n m c (pre ++ [x]).length) = nodL m c (bd n m c pre.length) ++ List.replicate ln (x : Int) := by
            rw [List.length_append, show [x].length = 1 from rfl, HP.out, HXP.out]
          rw [e, List.length_append, List.length_replicate, List.map_append, hlm, List.map_replicate]
          exact hown5
        exact own_but h5 ((But.refl (fun b => b = w.heap.size) w5).set_ rfl _) (fun q hq e => by
          subst e
          rcases hat with h' | h'
          · exact hg5 _ (.inl rfl) (by rw [← h']; exact hq)
          · rw [h'] at hq; injection hq with hq; have := Xo.lt; omega)
    · skip
      go_simp
      refine hK _ _ trivial ?_
      clear hK K
      refine anyR_two (i := 0) (j := 5) (by kernel_rfl) rfl rfl (by rfl) (by rfl) (fun K hK => ?_) (fun K hK => ?_)
      · skip
        go_simp
        refine hK _ _ trivial ?_
        clear hK K
        refine anyR_one (i := 5) (by kernel_rfl) rfl (by rfl) (fun K hK => ?_)
        go_simp
        refine ⟨trivial, rfl, callsIn_of ((repeat_one X₂.heap.size 1 ln x (X₂.alloc (.cells #[.int .i64 (x : Int)] 3)).drew hln2 (by simp) hxc).mono ?_)⟩
        rintro e Y ⟨rfl, hrow, hbY⟩
        have hbX2 : Below X₂.heap.size X₂ Y := bvia ((below_alloc X₂ (.cells #[.int .i64 (x : Int)] 3)).drew) hbY
        have XoY := Xo.below hbX2
        have xY := XoY.at_ 0 rfl
        simp only [World.size_alloc, World.size_drew] at hrow ⊢
        refine hK _ _ trivial ?_
        clear hK K
        refine anyR_one (i := 6) (by kernel_rfl) rfl (by rfl) (fun K hK => opIn_of (fun c h => by cases h) ?_)
        have hownY := own_below hown hbX2
        have XlY := Xl.below hbX2; have XcY := Xc.below hbX2
        have hszY := hbY.size
        simp only [World.size_alloc, World.size_drew] at hszY hrow
        refine wp_append_at _ _ 29 rfl (w.heap.size + 1 + 1 + 1 + 1) 3 i0 (.int .i64 0) 1 8 Tryz.underlying29 hi hz0 hz1 hz2 rfl (by decide) v _ _ rfl hownY ⟨X₂.heap.size + 1, 0, none⟩ ln ln (repR x ln ln) rfl (by rw [repR_length _ _ _ (Nat.le_refl _), Nat.mul_one]) (World.news_of_block hrow) (rep_one x ln) (by simp [maxLen]; omega) (by omega) (by omega) ?_
        intro v' w5 hown5 hgr hat
        rw [hlm, hrr] at hown5
        obtain ⟨av, nv, cv, hv'⟩ := own_slice hown5
        subst hv'
        have hC0 : But (fun b => b = w.heap.size ∨ b = w.heap.size + 1 + 1 ∨ b = w.heap.size + 1 + 1 + 1 ∨ v.ownBlock = some b) X₂ Y := ⟨hbX2.os, hbX2.tape, hbX2.output, hbX2.size, fun b hb _ => hbX2.block b hb⟩
        have hC5 := but_grown hC0 hgr (fun q hq => .inr (.inr (.inr hq)))
        have hg5 : ∀ q, q = w.heap.size ∨ q = w.heap.size + 1 + 1 ∨ q = w.heap.size + 1 + 1 + 1 → v.ownBlock ≠ some q := fun q hq e => by have := own_base hown q e; omega
        have Xo5 := XoY.grown hgr (fun e => hg5 _ (.inl rfl) e.symm)
        have Xl5 := XlY.grown hgr (fun e => hg5 _ (.inr (.inl rfl)) e.symm)
        have Xc5 := XcY.grown hgr (fun e => hg5 _ (.inr (.inr rfl)) e.symm)
        have y0 := Xo5.at_ 0 rfl; have yf := Xo5.free
        refine hK _ _ trivial ?_
        clear hK K
        refine anyR_one (i := 7) (by kernel_rfl) rfl (by rfl) (fun K hK => ?_)
        go_simp
        refine hK _ _ trivial ?_
        clear hK K
        refine anyR_done (by kernel_rfl) ?_ _
        gi_wp2
        refine ⟨fun b => b = w.heap.size ∨ b = w.heap.size + 1 + 1 ∨ b = w.heap.size + 1 + 1 + 1 ∨ (Value.slice av nv cv).ownBlock = some b, hC5.set_ (.inl rfl) _, ?_, _, rfl, Xo5.one, Xl5.far (by dsimp only; omega) _, Xc5.far (by dsimp only; omega) _, ?_⟩
        · rintro b (h | h | h | h)
          · exact .inl (.inl h)
          · exact .inl (.inr (.inl h))
          · exact .inl (.inr (.inr (.inl h)))
          · rcases hat with h' | h'
            · exact .inl (.inr (.inr (.inr (by rw [← h']; exact h))))
            · rw [h'] at h
              injection h with h
              exact .inr (by omega)
        · have h5 : w5.ownsRow (w.heap.size + 1 + 1 + 1 + 1) 3 1 (.slice av nv cv) (nodL m c (bd n m c (pre ++ [x]).length)).length ((nodL m c (bd n m c (pre ++ [x]).length)).map vInt) := by
            have e : nodL m c (bd n m c (pre ++ [x]).length) = nodL m c (bd n m c pre.length) ++ List.replicate ln (x : Int) := by
              rw [List.length_append, show [x].length = 1 from rfl, HP.out, HXP.out]
            rw [e, List.length_append, List.length_replicate, List.map_append, hlm, List.map_replicate]
            exact hown5
          exact own_but h5 ((But.refl (fun b => b = w.heap.size) w5).set_ rfl _) (fun q hq e => by
            subst e
            rcases hat with h' | h'
            · exact hg5 _ (.inl rfl) (by rw [← h']; exact hq)
            · rw [h'] at hq; injection hq with hq; have := Xo.lt; omega)
      · skip
        go_simp
        refine ⟨trivial, rfl, callsIn_of ((repeat_one X₂.heap.size 1 ln x (X₂.alloc (.cells #[.int .i64 (x : Int)] 3)).drew hln2 (by simp) hxc).mono ?_)⟩
        rintro e Y ⟨rfl, hrow, hbY⟩
        have hbX2 : Below X₂.heap.size X₂ Y := bvia ((below_alloc X₂ (.cells #[.int .i64 (x : Int)] 3)).drew) hbY
        have XoY := Xo.below hbX2
        have xY := XoY.at_ 0 rfl
        simp only [World.size_alloc, World.size_drew] at hrow ⊢
        refine hK _ _ trivial ?_
        clear hK K
        refine anyR_one (i := 0) (by kernel_rfl) rfl (by rfl) (fun K hK => ?_)
        go_simp
        refine hK _ _ trivial ?_
        clear hK K
        refine anyR_one (i := 6) (by kernel_rfl) rfl (by rfl) (fun K hK => opIn_of (fun c h => by cases h) ?_)
        have hownY := own_below hown hbX2
        have XlY := Xl.below hbX2; have XcY := Xc.below hbX2
        have hszY := hbY.size
        simp only [World.size_alloc, World.size_drew] at hszY hrow
        refine wp_append_at _ _ 29 rfl (w.heap.size + 1 + 1 + 1 + 1) 3 i0 (.int .i64 0) 1 8 Tryz.underlying29 hi hz0 hz1 hz2 rfl (by decide) v _ _ rfl hownY ⟨X₂.heap.size + 1, 0, none⟩ ln ln (repR x ln ln) rfl (by rw [repR_length _ _ _ (Nat.le_refl _), Nat.mul_one]) (World.news_of_block hrow) (rep_one x ln) (by simp [maxLen]; omega) (by omega) (by omega) ?_
        intro v' w5 hown5 hgr hat
        rw [hlm, hrr] at hown5
        obtain ⟨av, nv, cv, hv'⟩ := own_slice hown5
        subst hv'
        have hC0 : But (fun b => b = w.heap.size ∨ b = w.heap.size + 1 + 1 ∨ b = w.heap.size + 1 + 1 + 1 ∨ v.ownBlock = some b) X₂ Y := ⟨hbX2.os, hbX2.tape, hbX2.output, hbX2.size, fun b hb _ => hbX2.block b hb⟩
        have hC5 := but_grown hC0 hgr (fun q hq => .inr (.inr (.inr hq)))
        have hg5 : ∀ q, q = w.heap.size ∨ q = w.heap.size + 1 + 1 ∨ q = w.heap.size + 1 + 1 + 1 → v.ownBlock ≠ some q := fun q hq e => by have := own_base hown q e; omega
        have Xo5 := XoY.grown hgr (fun e => hg5 _ (.inl rfl) e.symm)
        have Xl5 := XlY.grown hgr (fun e => hg5 _ (.inr (.inl rfl)) e.symm)
        have Xc5 := XcY.grown hgr (fun e => hg5 _ (.inr (.inr rfl)) e.symm)
        have y0 := Xo5.at_ 0 rfl; have yf := Xo5.free
        refine hK _ _ trivial ?_
        clear hK K
        refine anyR_one (i := 7) (by kernel_rfl) rfl (by rfl) (fun K hK => ?_)
        go_simp
        refine hK _ _ trivial ?_
        clear hK K
        refine anyR_done (by kernel_rfl) ?_ _
        gi_wp2
        refine ⟨fun b => b = w.heap.size ∨ b = w.heap.size + 1 + 1 ∨ b = w.heap.size + 1 + 1 + 1 ∨ (Value.slice av nv cv).ownBlock = some b, hC5.set_ (.inl rfl) _, ?_, _, rfl, Xo5.one, Xl5.far (by dsimp only; omega) _, Xc5.far (by dsimp only; omega) _, ?_⟩
        · rintro b (h | h | h | h)
          · exact .inl (.inl h)
          · exact .inl (.inr (.inl h))
          · exact .inl (.inr (.inr (.inl h)))
          · rcases hat with h' | h'
            · exact .inl (.inr (.inr (.inr (by rw [← h']; exact h))))
            · rw [h'] at h
              injection h with h
              exact .inr (by omega)
        · have h5 : w5.ownsRow (w.heap.size + 1 + 1 + 1 + 1) 3 1 (.slice av nv cv) (nodL m c (bd n m c (pre ++ [x]).length)).length ((nodL m c (bd n m c (pre ++ [x]).length)).map vInt) := by
            have e : nodL m c (bd n m c (pre ++ [x]).length) = nodL m c (bd n m c pre.length) ++ List.replicate ln (x : Int) := by
              rw [List.length_append, show [x].length = 1 from rfl, HP.out, HXP.out]
            rw [e, List.length_append, List.length_replicate, List.map_append, hlm, List.map_replicate]
            exact hown5
          exact own_but h5 ((But.refl (fun b => b = w.heap.size) w5).set_ rfl _) (fun q hq e => by
            subst e
            rcases hat with h' | h'
            · exact hg5 _ (.inl rfl) (by rw [← h']; exact hq)
            · rw [h'] at hq; injection hq with hq; have := Xo.lt; omega)
  case hdone =>
    rintro Dd C X hDd hnD ⟨v, h⟩ hbut hgC hdef
    have hf := h.foot
    subst hf
    have x0 := h.box.at_ 0 rfl; have lx := h.box.lt
    have hs1 := hbut.size
    have hbel : Below w.heap.size w X := hB1.trans ⟨hbut.os, hbut.tape, hbut.output, hbut.size, fun b hb => hbut.block b (by omega) (fun h => by
      rcases h with h | h | h | h
      · omega
      · omega
      · omega
      · exact hv0 b h)⟩
    have hbp := but_putObj X Dd (.deferred none)
    have B6 := hbel.trans (⟨hbp.os, hbp.tape, hbp.output, hbp.size, fun b hb => hbp.block b (by have := hbel.size; omega) (by omega)⟩ : Below w.heap.size _ _)
    have O6 := own_but h.own hbp (fun g hg e => hnD (.inr (.inr (.inr (by rw [← e]; exact hg)))))
    rw [List.length_range, bd_last] at O6
    gi_wp2
    refine ⟨by simp, .inl ⟨_, _, rfl, run_takeDeferred hdef, ?_⟩⟩
    exact ⟨v, by simp [results, Tryz.results41, go_sem], v, rfl, own_mono O6 (by omega), B6⟩
  case hstop =>
    rintro Dd c pre C X hDd hnD hpre h
    exact h.elim
end Go.Proofs.YtjkngkogddmceaaGreat
/- Walks: rules and collisions of one cell, of the program and of the reference. -/
namespace Go.Proofs.YtjkngkogddmceaaGreat
open Go Go.RowKit
set_option linter.unusedVariables false
/-- a valid rule -/
def ruleB (k b : Int) : Bool := if k = 0 ∨ k = 1 then decide (b = 0) else if k = 2 then within b (-1000000000) 1000000000 else false
theorem ruleB_iff (k b : Int) : ruleB k b = true ↔ ruleOk k b := by
  unfold ruleB ruleOk
  split
  · rw [decide_eq_true_iff]; omega
  · split
    · rw [within_iff]; omega
    · simp; omega
theorem cell_validRule (k b : Int) (w : World) : Calls Tryz.prog 73 #[.agg #[.int .i64 k, .int .i64 b]] w fun e w' => e = .returned (.bool (ruleB k b)) ∧ Below w.heap.size w w' := by
  by_cases h0 : k = 0
  · subst h0
    have e : ruleB 0 b = (b == 0) := by unfold ruleB; rw [if_pos (by omega)]; rfl
    rw [e]
    go_enter Tryz.func73, Tryz.ntmps73
    go_wp2
    go_ret
    exact ⟨rfl, by (repeat' (first | with_reducible assumption | with_reducible exact Below.refl _ _ | with_reducible refine Below.drew ?_ | with_reducible refine below_drewN ?_ _ | with_reducible refine balloc ?_ _ | with_reducible refine bset ?_ ?_ _ | with_reducible refine Below.setCell ?_ ?_ _ | with_reducible refine Below.alloc ?_ ?_ _ | omega | (simp; done) | (simp; omega)))⟩
  · by_cases h1 : k = 1
    · subst h1
      have e : ruleB 1 b = (b == 0) := by unfold ruleB; rw [if_pos (by omega)]; rfl
      rw [e]
      clear h0
      go_enter Tryz.func73, Tryz.ntmps73
      go_wp2
      go_ret
      exact ⟨rfl, by (repeat' (first | with_reducible assumption | with_reducible exact Below.refl _ _ | with_reducible refine Below.drew ?_ | with_reducible refine below_drewN ?_ _ | with_reducible refine balloc ?_ _ | with_reducible refine bset ?_ ?_ _ | with_reducible refine Below.setCell ?_ ?_ _ | with_reducible refine Below.alloc ?_ ?_ _ | omega | (simp; done) | (simp; omega)))⟩
    · have g0 : (k == 0) = false := by simpa using h0
      have g1 : (k == 1) = false := by simpa using h1
      by_cases h2 : k = 2
      · subst h2
        have e : ruleB 2 b = within b (-1000000000) 1000000000 := by simp [ruleB]
        rw [e]
        clear h0 h1 g0 g1
        go_enter Tryz.func73, Tryz.ntmps73
        go_wp2_with (go_at_call 74; refine (cell_within _ _ _ _).mono ?_; rintro e w' ⟨rfl, rfl⟩)
        go_ret
        exact ⟨rfl, by (repeat' (first | with_reducible assumption | with_reducible exact Below.refl _ _ | with_reducible refine Below.drew ?_ | with_reducible refine below_drewN ?_ _ | with_reducible refine balloc ?_ _ | with_reducible refine bset ?_ ?_ _ | with_reducible refine Below.setCell ?_ ?_ _ | with_reducible refine Below.alloc ?_ ?_ _ | omega | (simp; done) | (simp; omega)))⟩
      · have g2 : (k == 2) = false := by simpa using h2
        have e : ruleB k b = false := by simp [ruleB, h0, h1, h2]
        rw [e]
        clear h0 h1 h2
        go_enter Tryz.func73, Tryz.ntmps73
        go_wp2
        go_ret
        exact ⟨rfl, by (repeat' (first | with_reducible assumption | with_reducible exact Below.refl _ _ | with_reducible refine Below.drew ?_ | with_reducible refine below_drewN ?_ _ | with_reducible refine balloc ?_ _ | with_reducible refine bset ?_ ?_ _ | with_reducible refine Below.setCell ?_ ?_ _ | with_reducible refine Below.alloc ?_ ?_ _ | omega | (simp; done) | (simp; omega)))⟩
theorem ref1_validRule (k b : Int) (w : World) : Calls Tryz.prog 24 #[.agg #[.int .i64 k, .int .i64 b]] w fun e w' => e = .returned (.bool (ruleB k b)) ∧ Below w.heap.size w w' := by
  by_cases h0 : k = 0
  · subst h0
    have e : ruleB 0 b = (b == 0) := by unfold ruleB; rw [if_pos (by omega)]; rfl
    rw [e]
    go_enter Tryz.func24, Tryz.ntmps24
    go_wp2
    go_ret
    exact ⟨rfl, by (repeat' (first | with_reducible assumption | with_reducible exact Below.refl _ _ | with_reducible refine Below.drew ?_ | with_reducible refine below_drewN ?_ _ | with_reducible refine balloc ?_ _ | with_reducible refine bset ?_ ?_ _ | with_reducible refine Below.setCell ?_ ?_ _ | with_reducible refine Below.alloc ?_ ?_ _ | omega | (simp; done) | (simp; omega)))⟩
  · by_cases h1 : k = 1
    · subst h1
      have e : ruleB 1 b = (b == 0) := by unfold ruleB; rw [if_pos (by omega)]; rfl
      rw [e]
      clear h0
      go_enter Tryz.func24, Tryz.ntmps24
      go_wp2
      go_ret
      exact ⟨rfl, by (repeat' (first | with_reducible assumption | with_reducible exact Below.refl _ _ | with_reducible refine Below.drew ?_ | with_reducible refine below_drewN ?_ _ | with_reducible refine balloc ?_ _ | with_reducible refine bset ?_ ?_ _ | with_reducible refine Below.setCell ?_ ?_ _ | with_reducible refine Below.alloc ?_ ?_ _ | omega | (simp; done) | (simp; omega)))⟩
    · have g0 : (k == 0) = false := by simpa using h0
      have g1 : (k == 1) = false := by simpa using h1
      by_cases h2 : k = 2
      · subst h2
        have e : ruleB 2 b = within b (-1000000000) 1000000000 := by simp [ruleB]
        rw [e]
        clear h0 h1 g0 g1
        go_enter Tryz.func24, Tryz.ntmps24
        go_wp2_with (go_at_call 25; refine (ref1_within _ _ _ _).mono ?_; rintro e w' ⟨rfl, rfl⟩)
        go_ret
        exact ⟨rfl, by (repeat' (first | with_reducible assumption | with_reducible exact Below.refl _ _ | with_reducible refine Below.drew ?_ | with_reducible refine below_drewN ?_ _ | with_reducible refine balloc ?_ _ | with_reducible refine bset ?_ ?_ _ | with_reducible refine Below.setCell ?_ ?_ _ | with_reducible refine Below.alloc ?_ ?_ _ | omega | (simp; done) | (simp; omega)))⟩
      · have g2 : (k == 2) = false := by simpa using h2
        have e : ruleB k b = false := by simp [ruleB, h0, h1, h2]
        rw [e]
        clear h0 h1 h2
        go_enter Tryz.func24, Tryz.ntmps24
        go_wp2
        go_ret
        exact ⟨rfl, by (repeat' (first | with_reducible assumption | with_reducible exact Below.refl _ _ | with_reducible refine Below.drew ?_ | with_reducible refine below_drewN ?_ _ | with_reducible refine balloc ?_ _ | with_reducible refine bset ?_ ?_ _ | with_reducible refine Below.setCell ?_ ?_ _ | with_reducible refine Below.alloc ?_ ?_ _ | omega | (simp; done) | (simp; omega)))⟩
/-- a slice of rules -/
def Sr (w : World) (a : Option Addr) (n : Nat) (r : Nat → Int × Int) : Prop :=
  ∀ k, k < n → ∃ b off, a = some ⟨b, off, none⟩ ∧ b < w.heap.size ∧ w.cell? ⟨b, off + k * 2, none⟩ = some (.int .i64 (r k).1) ∧ w.cell? ⟨b, off + k * 2 + 1, none⟩ = some (.int .i64 (r k).2)
theorem Sr.below {w w' : World} {a : Option Addr} {n : Nat} {r : Nat → Int × Int} (h : Sr w a n r) (hb : Below w.heap.size w w') : Sr w' a n r := fun k hkn => by
  obtain ⟨b, off, h1, h2, h3, h4⟩ := h k hkn
  exact ⟨b, off, h1, by have := hb.size; omega, (bcell hb _ _ h2).trans h3, (bcell hb _ _ h2).trans h4⟩
theorem Sr.alloc {w : World} {a : Option Addr} {n : Nat} {r : Nat → Int × Int} (h : Sr w a n r) (o : Obj) : Sr (w.alloc o) a n r := h.below (below_alloc _ _)
theorem Sr.drewN {w : World} {a : Option Addr} {n : Nat} {r : Nat → Int × Int} (h : Sr w a n r) (k : Nat) : Sr (w.drewN k) a n r := h
/-- valid rules -/
def rulesB (n : Nat) (r : Nat → Int × Int) : Bool := decide (1 ≤ n ∧ n ≤ 8 ∧ ∀ i, i < n → ruleB (r i).1 (r i).2 = true)
theorem rulesB_iff (n : Nat) (r : Nat → Int × Int) : rulesB n r = true ↔ (1 ≤ n ∧ n ≤ 8 ∧ ∀ i, i < n → ruleB (r i).1 (r i).2 = true) := by simp [rulesB]
theorem rulesB_no {n i : Nat} {r : Nat → Int × Int} (hi : i < n) (h : ruleB (r i).1 (r i).2 = false) : rulesB n r = false := by
  cases hr : rulesB n r
  · rfl
  · have := ((rulesB_iff n r).1 hr).2.2 i hi; rw [h] at this; cases this
theorem rulesB_end {n : Nat} {r : Nat → Int × Int} (h : ∀ i, i < n → ruleB (r i).1 (r i).2 = true) : rulesB n r = within n 1 8 := by
  rw [Bool.eq_iff_iff, rulesB_iff, within_iff]
  constructor
  · rintro ⟨a, b, _⟩; omega
  · rintro ⟨a, b⟩; exact ⟨by omega, by omega, h⟩
set_option maxHeartbeats 400000 in
theorem cell_validRules (a : Option Addr) (n c : Nat) (r : Nat → Int × Int) (w : World) (hn : n ≤ 100000000) (H : Sr w a n r) : Calls Tryz.prog 43 #[.slice a n c] w fun e w' => e = .returned (.bool (rulesB n r)) ∧ Below w.heap.size w w' := by
  go_enter Tryz.func43, Tryz.ntmps43
  go_wp2
  go_loopw [7] (fun i wr => ∃ k : Nat, k ≤ n ∧ i = .int .i64 k ∧ (∀ j, j < k → ruleB (r j).1 (r j).2 = true) ∧ Below w.heap.size w wr) (fun i _ => n - (intOf i).toNat)
  case atStart => exact ⟨0, Nat.zero_le _, rfl, fun j hj => by omega, Below.refl _ _⟩
  case round =>
    obtain ⟨k, hk, rfl, hok, hb⟩ := hrel
    have HOK := hid hok; clear hok
    by_cases hlt : k < n
    · obtain ⟨b, off, rfl, hlb, c0, c1⟩ := (H.below hb) k hlt
      cases hr : ruleB (r k).1 (r k).2
      · go_wp2_with (go_at_call 73; refine (cell_validRule _ _ _).mono ?_; rintro e w1 ⟨rfl, hb1⟩)
        go_ret
        exact ⟨by rw [rulesB_no hlt hr]; rfl, bvia (balloc hb _) hb1⟩
      · go_wp2_with (go_at_call 73; refine (cell_validRule _ _ _).mono ?_; rintro e w1 ⟨rfl, hb1⟩)
        go_roundw
        case rel => exact ⟨k + 1, by omega, by go_num, fun j hj => by
          rcases Nat.lt_succ_iff_lt_or_eq.1 hj with h' | rfl
          · exact HOK.out j h'
          · exact hr, bvia (balloc hb _) hb1⟩
        case measure => simp [intOf]; omega
    · obtain rfl : k = n := (by omega)
      go_wp2_with (go_at_call 74; refine (cell_within _ _ _ _).mono ?_; rintro e w' ⟨rfl, rfl⟩)
      go_ret
      exact ⟨ret_bool (rulesB_end HOK.out).symm, hb⟩
set_option maxHeartbeats 400000 in
theorem ref1_validRules (a : Option Addr) (n c : Nat) (r : Nat → Int × Int) (w : World) (hn : n ≤ 100000000) (H : Sr w a n r) : Calls Tryz.prog 5 #[.slice a n c] w fun e w' => e = .returned (.bool (rulesB n r)) ∧ Below w.heap.size w w' := by
  go_enter Tryz.func5, Tryz.ntmps5
  go_wp2
  go_loopw [3] (fun i wr => ∃ k : Nat, k ≤ n ∧ i = .int .i64 k ∧ (∀ j, j < k → ruleB (r j).1 (r j).2 = true) ∧ Below w.heap.size w wr) (fun i _ => n - (intOf i).toNat)
  case atStart => exact ⟨0, Nat.zero_le _, rfl, fun j hj => by omega, Below.refl _ _⟩
  case round =>
    obtain ⟨k, hk, rfl, hok, hb⟩ := hrel
    have HOK := hid hok; clear hok
    by_cases hlt : k < n
    · obtain ⟨b, off, rfl, hlb, c0, c1⟩ := (H.below hb) k hlt
      cases hr : ruleB (r k).1 (r k).2
      · go_wp2_with (go_at_call 24; refine (ref1_validRule _ _ _).mono ?_; rintro e w1 ⟨rfl, hb1⟩)
        go_ret
        exact ⟨by rw [rulesB_no hlt hr]; rfl, bvia hb hb1⟩
      · go_wp2_with (go_at_call 24; refine (ref1_validRule _ _ _).mono ?_; rintro e w1 ⟨rfl, hb1⟩)
        go_roundw
        case rel => exact ⟨k + 1, by omega, by go_num, fun j hj => by
          rcases Nat.lt_succ_iff_lt_or_eq.1 hj with h' | rfl
          · exact HOK.out j h'
          · exact hr, bvia hb hb1⟩
        case measure => simp [intOf]; omega
    · obtain rfl : k = n := (by omega)
      go_wp2_with (go_at_call 25; refine (ref1_within _ _ _ _).mono ?_; rintro e w' ⟨rfl, rfl⟩)
      go_ret
      exact ⟨ret_bool (rulesB_end HOK.out).symm, hb⟩
end Go.Proofs.YtjkngkogddmceaaGreat
/- Walks: collisions of one cell, of the program. -/
namespace Go.Proofs.YtjkngkogddmceaaGreat
open Go Go.RowKit
set_option linter.unusedVariables false
theorem tmod_sign {a m : Int} (h : 0 < m) : (0 ≤ a.tmod m → a % m = a.tmod m) ∧ (a.tmod m < 0 → a % m = a.tmod m + m) ∧ -m < a.tmod m ∧ a.tmod m < m := by
  rw [Int.tmod_eq_emod]
  have h1 := Int.emod_nonneg a (show m ≠ 0 by omega)
  have h2 := Int.emod_lt_of_pos a h
  split
  · omega
  · rename_i hh
    have : a % m ≠ 0 := fun e => hh (.inr (Int.dvd_of_emod_eq_zero e))
    omega
set_option maxRecDepth 100000 in
set_option maxHeartbeats 1000000 in
theorem cell_pairs (c : C4) (w : World) : Calls Tryz.prog 153 #[.agg #[.int .i64 c.e, .int .i64 c.n, .int .i64 c.w, .int .i64 c.s]] w fun e w' => e = .returned (.tuple #[.int .i64 (mn c.e c.w), .int .i64 (mn c.n c.s)]) ∧ Below w.heap.size w w' := by
  have X := Bx.new w #[.int .i64 c.e, .int .i64 c.n, .int .i64 c.w, .int .i64 c.s] 55
  have hB : Below w.heap.size w (w.alloc (.cells #[.int .i64 c.e, .int .i64 c.n, .int .i64 c.w, .int .i64 c.s] 55)) := by (repeat' (first | with_reducible assumption | with_reducible exact Below.refl _ _ | with_reducible refine Below.drew ?_ | with_reducible refine below_drewN ?_ _ | with_reducible refine balloc ?_ _ | with_reducible refine bset ?_ ?_ _ | with_reducible refine Below.setCell ?_ ?_ _ | with_reducible refine Below.alloc ?_ ?_ _ | omega | (simp; done) | (simp; omega)))
  go_enter Tryz.func153, Tryz.ntmps153
  go_upto_region 1 with (fail)
  generalize w.alloc (.cells #[.int .i64 c.e, .int .i64 c.n, .int .i64 c.w, .int .i64 c.s] 55) = W0 at X hB ⊢
  have x0 := X.at_ 0 rfl; have x1 := X.at_ 1 rfl; have x2 := X.at_ 2 rfl; have x3 := X.at_ 3 rfl
  go_quiet (fail)
  go_wp2
  all_goals
    go_ret2
    exact ⟨by (simp [mn]; try omega), by (repeat' (first | with_reducible assumption | with_reducible exact Below.refl _ _ | with_reducible refine Below.drew ?_ | with_reducible refine below_drewN ?_ _ | with_reducible refine balloc ?_ _ | with_reducible refine bset ?_ ?_ _ | with_reducible refine Below.setCell ?_ ?_ _ | with_reducible refine Below.alloc ?_ ?_ _ | omega | (simp; done) | (simp; omega)))⟩
theorem turned_1 (h p : Int) (w : World) : Calls Tryz.prog 159 #[.int .i64 h, .int .i64 p] w fun e w' => e = .returned (.int .i64 h) ∧ w = w' := by
  go_enter Tryz.func159, Tryz.ntmps159
  go_wp2
  go_ret
  exact ⟨rfl, rfl⟩
theorem turned_2 (h p : Int) (w : World) (h0 : 0 ≤ h) (h1 : h ≤ p) (h2 : p ≤ 1000000000) : Calls Tryz.prog 160 #[.int .i64 h, .int .i64 p] w fun e w' => e = .returned (.int .i64 (p - h)) ∧ w = w' := by
  go_enter Tryz.func160, Tryz.ntmps160
  go_wp2
  go_ret
  exact ⟨rfl, rfl⟩
theorem turned_3 (h p b : Int) (br : Nat) (w : World) (h0 : 0 ≤ h) (h1 : h ≤ p) (h2 : p ≤ 1000000000) (b0 : -1000000000 ≤ b) (b1 : b ≤ 1000000000) (k : Int) (X : Bx w br #[.int .i64 k, .int .i64 b]) :
    Calls Tryz.prog 161 #[.int .i64 h, .int .i64 p, .pointer (some ⟨br, 0, none⟩)] w fun e w' => e = .returned (.int .i64 ((h + b) % (p + 1))) ∧ w = w' := by
  have x1 := X.at_ 1 rfl
  obtain ⟨t1, t2, t3, t4⟩ := tmod_sign (a := h + b) (m := p + 1) (by omega)
  have hp0 : ¬ p + 1 = 0 := by omega
  by_cases hs : 0 ≤ h + b
  · have ht := Int.tmod_eq_emod_of_nonneg (b := p + 1) hs
    have h5 := Int.emod_nonneg (h + b) hp0
    have h6 := Int.emod_lt_of_pos (h + b) (show 0 < p + 1 by omega)
    clear t1 t2 t3 t4 ht
    go_enter Tryz.func161, Tryz.ntmps161
    go_wp2
    go_ret
    exact ⟨rfl, rfl⟩
  · by_cases hn : (h + b).tmod (p + 1) < 0
    · have t5 := hid (t2 hn)
      clear t1 t2
      go_enter Tryz.func161, Tryz.ntmps161
      go_wp2
      go_ret
      exact ⟨ret_int (by rw [t5.out]), rfl⟩
    · have t5 := hid (t1 (by omega))
      clear t1 t2
      go_enter Tryz.func161, Tryz.ntmps161
      go_wp2
      go_ret
      exact ⟨ret_int t5.out.symm, rfl⟩
set_option maxRecDepth 100000 in
set_option maxHeartbeats 1000000 in
theorem cell_turned (k b h p : Int) (w : World) (hr : ruleOk k b) (h0 : 0 ≤ h) (h1 : h ≤ p) (h2 : p ≤ 1000000000) : Calls Tryz.prog 155 #[.agg #[.int .i64 k, .int .i64 b], .int .i64 h, .int .i64 p] w fun e w' => e = .returned (.int .i64 (turnI k b h p)) ∧ Below w.heap.size w w' := by
  have X := Bx.new w #[.int .i64 k, .int .i64 b] 51
  have i0 : ∀ (f : Value) (w : World), (Instr.index 193 (.agg #[.func (.func 159) #[] #[], .func (.func 160) #[] #[], f]) (.int .i64 0)).run Tryz.prog w = .ok (.func (.func 159) #[] #[]) w := fun f w => by kernel_rfl
  have i1 : ∀ (f : Value) (w : World), (Instr.index 193 (.agg #[.func (.func 159) #[] #[], .func (.func 160) #[] #[], f]) (.int .i64 1)).run Tryz.prog w = .ok (.func (.func 160) #[] #[]) w := fun f w => by kernel_rfl
  have i2 : ∀ (f : Value) (w : World), (Instr.index 193 (.agg #[.func (.func 159) #[] #[], .func (.func 160) #[] #[], f]) (.int .i64 2)).run Tryz.prog w = .ok f w := fun f w => by kernel_rfl
  rcases hr with ⟨rfl | rfl, rfl⟩ | ⟨rfl, b0, b1⟩
  · go_enter Tryz.func155, Tryz.ntmps155
    go_wp2_with (go_at_call 159; refine (turned_1 _ _ _).mono ?_; rintro e w' ⟨rfl, rfl⟩)
    go_ret
    exact ⟨rfl, by (repeat' (first | with_reducible assumption | with_reducible exact Below.refl _ _ | with_reducible refine Below.drew ?_ | with_reducible refine below_drewN ?_ _ | with_reducible refine balloc ?_ _ | with_reducible refine bset ?_ ?_ _ | with_reducible refine Below.setCell ?_ ?_ _ | with_reducible refine Below.alloc ?_ ?_ _ | omega | (simp; done) | (simp; omega)))⟩
  · go_enter Tryz.func155, Tryz.ntmps155
    go_wp2_with (go_at_call 160; refine (turned_2 _ _ _ h0 h1 h2).mono ?_; rintro e w' ⟨rfl, rfl⟩)
    go_ret
    exact ⟨rfl, by (repeat' (first | with_reducible assumption | with_reducible exact Below.refl _ _ | with_reducible refine Below.drew ?_ | with_reducible refine below_drewN ?_ _ | with_reducible refine balloc ?_ _ | with_reducible refine bset ?_ ?_ _ | with_reducible refine Below.setCell ?_ ?_ _ | with_reducible refine Below.alloc ?_ ?_ _ | omega | (simp; done) | (simp; omega)))⟩
  · have hT : turnI 2 b h p = (h + b) % (p + 1) := rfl
    rw [hT]
    clear hT
    go_enter Tryz.func155, Tryz.ntmps155
    go_wp2_with (go_at_call 161; refine (turned_3 _ _ _ _ _ h0 h1 h2 b0 b1 _ X).mono ?_; rintro e w' ⟨rfl, rfl⟩)
    go_ret
    exact ⟨rfl, by (repeat' (first | with_reducible assumption | with_reducible exact Below.refl _ _ | with_reducible refine Below.drew ?_ | with_reducible refine below_drewN ?_ _ | with_reducible refine balloc ?_ _ | with_reducible refine bset ?_ ?_ _ | with_reducible refine Below.setCell ?_ ?_ _ | with_reducible refine Below.alloc ?_ ?_ _ | omega | (simp; done) | (simp; omega)))⟩
/-- the pairs of a valid cell -/
theorem pairs_bd {c : C4} (hv : validC c = true) : 0 ≤ c.e ∧ 0 ≤ c.n ∧ 0 ≤ c.w ∧ 0 ≤ c.s ∧ c.e + c.n + c.w + c.s ≤ 1000000000 ∧ 0 ≤ mn c.e c.w ∧ mn c.e c.w ≤ c.e ∧ mn c.e c.w ≤ c.w ∧ 0 ≤ mn c.n c.s ∧ mn c.n c.s ≤ c.n ∧ mn c.n c.s ≤ c.s := by
  obtain ⟨a, b, d, e, f⟩ := (validC_iff _).1 hv
  have g := mn_range a d
  have h := mn_range b e
  omega
/-- the cell of a class with the place t -/
def plcC (c : C4) (t : Int) : C4 := ⟨c.e + (t - mn c.e c.w), c.n - (t - mn c.e c.w), c.w + (t - mn c.e c.w), c.s - (t - mn c.e c.w)⟩
set_option maxRecDepth 100000 in
set_option maxHeartbeats 1000000 in
theorem cell_placed (c : C4) (t : Int) (w : World) (hv : validC c = true) (h0 : 0 ≤ t) (h1 : t ≤ 1000000000) : Calls Tryz.prog 154 #[.agg #[.int .i64 c.e, .int .i64 c.n, .int .i64 c.w, .int .i64 c.s], .int .i64 t] w fun e w' => e = .returned (.agg #[.int .i64 (plcC c t).e, .int .i64 (plcC c t).n, .int .i64 (plcC c t).w, .int .i64 (plcC c t).s]) ∧ Below w.heap.size w w' := by
  obtain ⟨a1, a2, a3, a4, a5, a6, a7, a8, a9, a10, a11⟩ := pairs_bd hv
  have X0 := (Bx.new w #[.int .i64 c.e, .int .i64 c.n, .int .i64 c.w, .int .i64 c.s] 55).alloc (.cells #[.int .i64 0, .int .i64 0, .int .i64 0, .int .i64 0] 55)
  have X1 := Bx.new (w.alloc (.cells #[.int .i64 c.e, .int .i64 c.n, .int .i64 c.w, .int .i64 c.s] 55)) #[.int .i64 0, .int .i64 0, .int .i64 0, .int .i64 0] 55
  simp only [World.size_alloc] at X1
  have hB0 : Below w.heap.size w ((w.alloc (.cells #[.int .i64 c.e, .int .i64 c.n, .int .i64 c.w, .int .i64 c.s] 55)).alloc (.cells #[.int .i64 0, .int .i64 0, .int .i64 0, .int .i64 0] 55)) := by (repeat' (first | with_reducible assumption | with_reducible exact Below.refl _ _ | with_reducible refine Below.drew ?_ | with_reducible refine below_drewN ?_ _ | with_reducible refine balloc ?_ _ | with_reducible refine bset ?_ ?_ _ | with_reducible refine Below.setCell ?_ ?_ _ | with_reducible refine Below.alloc ?_ ?_ _ | omega | (simp; done) | (simp; omega)))
  go_enter Tryz.func154, Tryz.ntmps154
  go_wp2_with fail
  generalize ((w.alloc (.cells #[.int .i64 c.e, .int .i64 c.n, .int .i64 c.w, .int .i64 c.s] 55)).alloc (.cells #[.int .i64 0, .int .i64 0, .int .i64 0, .int .i64 0] 55)) = W0 at X0 X1 hB0 ⊢
  have z0 := X0.lt
  have z1 := X1.lt
  refine (cell_pairs c _).mono ?_
  rintro e w1 ⟨rfl, hb1⟩
  have hB := hB0
  clear hB0 hv
  replace X0 := X0.below hb1
  replace X1 := X1.below hb1
  replace hB := bvia hB hb1
  clear hb1
  have X0_0 := X0.at_ 0 rfl
  have X0_1 := X0.at_ 1 rfl
  have X0_2 := X0.at_ 2 rfl
  have X0_3 := X0.at_ 3 rfl
  have X0z := X0.lt
  have X1_0 := X1.at_ 0 rfl
  have X1_1 := X1.at_ 1 rfl
  have X1_2 := X1.at_ 2 rfl
  have X1_3 := X1.at_ 3 rfl
  have X1f := X1.free
  have X1z := X1.lt
  have hP : plcC c t = ⟨c.e + (t - mn c.e c.w), c.n - (t - mn c.e c.w), c.w + (t - mn c.e c.w), c.s - (t - mn c.e c.w)⟩ := rfl
  generalize mn c.e c.w = h at *
  have HP := hid hP; clear hP
  go_wp2_with fail
  refine bodyPost_ret (v := .agg #[.int .i64 (c.e + (t - h)), .int .i64 (c.n - (t - h)), .int .i64 (c.w + (t - h)), .int .i64 (c.s - (t - h))]) (by simp [results, Tryz.results154, go_sem, X1_0, X1_1, X1_2, X1_3]) rfl ⟨by rw [HP.out], by (repeat' (first | with_reducible assumption | with_reducible exact Below.refl _ _ | with_reducible refine Below.drew ?_ | with_reducible refine below_drewN ?_ _ | with_reducible refine balloc ?_ _ | with_reducible refine bset ?_ ?_ _ | with_reducible refine Below.setCell ?_ ?_ _ | with_reducible refine Below.alloc ?_ ?_ _ | omega | (simp; done) | (simp; omega)))⟩
set_option maxRecDepth 100000 in
set_option maxHeartbeats 2000000 in
theorem cell_collided (c : C4) (k b : Int) (w : World) (hv : validC c = true) (hr : ruleOk k b) : Calls Tryz.prog 135 #[.agg #[.int .i64 c.e, .int .i64 c.n, .int .i64 c.w, .int .i64 c.s], .agg #[.int .i64 k, .int .i64 b]] w fun e w' => e = .returned (.agg #[.int .i64 (coll k b c).e, .int .i64 (coll k b c).n, .int .i64 (coll k b c).w, .int .i64 (coll k b c).s]) ∧ Below w.heap.size w w' := by
  obtain ⟨a1, a2, a3, a4, a5, a6, a7, a8, a9, a10, a11⟩ := pairs_bd hv
  obtain ⟨t1, t2⟩ := turnI_range (k := k) (b := b) a6 (show mn c.e c.w ≤ mn c.e c.w + mn c.n c.s by omega)
  have hturn := fun W => cell_turned k b (mn c.e c.w) (mn c.e c.w + mn c.n c.s) W hr a6 (by omega) (by omega)
  have hplc := fun W => cell_placed c (turnI k b (mn c.e c.w) (mn c.e c.w + mn c.n c.s)) W hv t1 (by omega)
  have hC : plcC c (turnI k b (mn c.e c.w) (mn c.e c.w + mn c.n c.s)) = coll k b c := rfl
  rw [hC] at hplc
  generalize turnI k b (mn c.e c.w) (mn c.e c.w + mn c.n c.s) = t at hturn hplc t1 t2
  have ha := IntWalk.i64_in (mn c.e c.w + mn c.n c.s) (by omega)
  generalize coll k b c = d at hplc ⊢
  clear hC hr
  have X0 := ((Bx.new w #[.int .i64 c.e, .int .i64 c.n, .int .i64 c.w, .int .i64 c.s] 55).alloc (.cells #[.int .i64 k, .int .i64 b] 51)).alloc (.cells #[.int .i64 0, .int .i64 0, .int .i64 0, .int .i64 0] 55)
  have X1 := (Bx.new (w.alloc (.cells #[.int .i64 c.e, .int .i64 c.n, .int .i64 c.w, .int .i64 c.s] 55)) #[.int .i64 k, .int .i64 b] 51).alloc (.cells #[.int .i64 0, .int .i64 0, .int .i64 0, .int .i64 0] 55)
  have X2 := Bx.new ((w.alloc (.cells #[.int .i64 c.e, .int .i64 c.n, .int .i64 c.w, .int .i64 c.s] 55)).alloc (.cells #[.int .i64 k, .int .i64 b] 51)) #[.int .i64 0, .int .i64 0, .int .i64 0, .int .i64 0] 55
  simp only [World.size_alloc] at X1 X2
  have hB0 : Below w.heap.size w (((w.alloc (.cells #[.int .i64 c.e, .int .i64 c.n, .int .i64 c.w, .int .i64 c.s] 55)).alloc (.cells #[.int .i64 k, .int .i64 b] 51)).alloc (.cells #[.int .i64 0, .int .i64 0, .int .i64 0, .int .i64 0] 55)) := by (repeat' (first | with_reducible assumption | with_reducible exact Below.refl _ _ | with_reducible refine Below.drew ?_ | with_reducible refine below_drewN ?_ _ | with_reducible refine balloc ?_ _ | with_reducible refine bset ?_ ?_ _ | with_reducible refine Below.setCell ?_ ?_ _ | with_reducible refine Below.alloc ?_ ?_ _ | omega | (simp; done) | (simp; omega)))
  go_enter Tryz.func135, Tryz.ntmps135
  go_wp2_with fail
  generalize (((w.alloc (.cells #[.int .i64 c.e, .int .i64 c.n, .int .i64 c.w, .int .i64 c.s] 55)).alloc (.cells #[.int .i64 k, .int .i64 b] 51)).alloc (.cells #[.int .i64 0, .int .i64 0, .int .i64 0, .int .i64 0] 55)) = W0 at X0 X1 X2 hB0 ⊢
  have z0 := X0.lt
  have z1 := X1.lt
  have z2 := X2.lt
  refine (cell_pairs c _).mono ?_
  rintro e w1 ⟨rfl, hb1⟩
  have hB := hB0
  clear hB0 hv
  replace X0 := X0.below hb1
  replace X1 := X1.below hb1
  replace X2 := X2.below hb1
  replace hB := bvia hB hb1
  clear hb1
  generalize mn c.e c.w = h at *
  generalize mn c.n c.s = v at *
  go_upto_region 2 with (fail)
  have r0 : ∀ W, Below (w.heap.size + 1 + 1) w1 W → W.cell? ⟨w.heap.size, 0, none⟩ = some (.int .i64 c.e) := fun W h => (bcell h _ _ (by omega)).trans (X0.at_ 0 rfl)
  have r1 : ∀ W, Below (w.heap.size + 1 + 1) w1 W → W.cell? ⟨w.heap.size, 1, none⟩ = some (.int .i64 c.n) := fun W h => (bcell h _ _ (by omega)).trans (X0.at_ 1 rfl)
  have r2 : ∀ W, Below (w.heap.size + 1 + 1) w1 W → W.cell? ⟨w.heap.size, 2, none⟩ = some (.int .i64 c.w) := fun W h => (bcell h _ _ (by omega)).trans (X0.at_ 2 rfl)
  have r3 : ∀ W, Below (w.heap.size + 1 + 1) w1 W → W.cell? ⟨w.heap.size, 3, none⟩ = some (.int .i64 c.s) := fun W h => (bcell h _ _ (by omega)).trans (X0.at_ 3 rfl)
  have r4 : ∀ W, Below (w.heap.size + 1 + 1) w1 W → W.cell? ⟨w.heap.size + 1, 0, none⟩ = some (.int .i64 k) := fun W h => (bcell h _ _ (by omega)).trans (X1.at_ 0 rfl)
  have r5 : ∀ W, Below (w.heap.size + 1 + 1) w1 W → W.cell? ⟨w.heap.size + 1, 1, none⟩ = some (.int .i64 b) := fun W h => (bcell h _ _ (by omega)).trans (X1.at_ 1 rfl)
  have q0 : ∀ W, Below w1.heap.size w1 W → W.cell? ⟨w.heap.size + 1 + 1, 0, none⟩ = some (.int .i64 0) := fun W h => (X2.below h).at_ 0 rfl
  have q1 : ∀ W, Below w1.heap.size w1 W → W.cell? ⟨w.heap.size + 1 + 1, 1, none⟩ = some (.int .i64 0) := fun W h => (X2.below h).at_ 1 rfl
  have q2 : ∀ W, Below w1.heap.size w1 W → W.cell? ⟨w.heap.size + 1 + 1, 2, none⟩ = some (.int .i64 0) := fun W h => (X2.below h).at_ 2 rfl
  have q3 : ∀ W, Below w1.heap.size w1 W → W.cell? ⟨w.heap.size + 1 + 1, 3, none⟩ = some (.int .i64 0) := fun W h => (X2.below h).at_ 3 rfl
  have qf : ∀ W, Below w1.heap.size w1 W → ∀ i, W.frozen? ⟨w.heap.size + 1 + 1, i, none⟩ = false := fun W h => (X2.below h).free
  have z2' := X2.lt
  have hS1 : Below (w.heap.size + 1 + 1) w1 w1 := Below.refl _ _
  go_region_held3 (fun W => Below (w.heap.size + 1 + 1) w1 W) ((repeat' (first | with_reducible assumption | with_reducible exact Below.refl _ _ | with_reducible refine Below.drew ?_ | with_reducible refine below_drewN ?_ _ | with_reducible refine balloc ?_ _ | with_reducible refine bset ?_ ?_ _ | with_reducible refine Below.setCell ?_ ?_ _ | with_reducible refine Below.alloc ?_ ?_ _ | omega | (simp; done) | (simp; omega))))
    ((first
      | (go_at_call 155; refine (hturn _).mono ?_; rintro e w2 ⟨rfl, hb2⟩; have hB2 : Below w1.heap.size w1 w2 := bvia (by (repeat' (first | with_reducible assumption | with_reducible exact Below.refl _ _ | with_reducible refine Below.drew ?_ | with_reducible refine below_drewN ?_ _ | with_reducible refine balloc ?_ _ | with_reducible refine bset ?_ ?_ _ | with_reducible refine Below.setCell ?_ ?_ _ | with_reducible refine Below.alloc ?_ ?_ _ | omega | (simp; done) | (simp; omega)))) hb2; have hC2 := hB2.mono (show w.heap.size + 1 + 1 ≤ w1.heap.size by omega))
      | (go_at_call 154; refine (hplc _).mono ?_; rintro e w3 ⟨rfl, hb3⟩; have hB3 : Below w1.heap.size w1 w3 := bvia (by (repeat' (first | with_reducible assumption | with_reducible exact Below.refl _ _ | with_reducible refine Below.drew ?_ | with_reducible refine below_drewN ?_ _ | with_reducible refine balloc ?_ _ | with_reducible refine bset ?_ ?_ _ | with_reducible refine Below.setCell ?_ ?_ _ | with_reducible refine Below.alloc ?_ ?_ _ | omega | (simp; done) | (simp; omega)))) hb3; have hC3 := hB3.mono (show w.heap.size + 1 + 1 ≤ w1.heap.size by omega))
      | fail))
  all_goals
    have y0 := q0 w3 hB3; have y1 := q1 w3 hB3; have y2 := q2 w3 hB3; have y3 := q3 w3 hB3; have yf := qf w3 hB3
    have hBw := bvia hB hB3
    go_wp2_with fail
    refine bodyPost_ret (v := .agg #[.int .i64 (d).e, .int .i64 (d).n, .int .i64 (d).w, .int .i64 (d).s]) (by simp [results, Tryz.results135, go_sem, y0, y1, y2, y3]) rfl ⟨rfl, by (repeat' (first | with_reducible assumption | with_reducible exact Below.refl _ _ | with_reducible refine Below.drew ?_ | with_reducible refine below_drewN ?_ _ | with_reducible refine balloc ?_ _ | with_reducible refine bset ?_ ?_ _ | with_reducible refine Below.setCell ?_ ?_ _ | with_reducible refine Below.alloc ?_ ?_ _ | omega | (simp; done) | (simp; omega)))⟩
set_option maxRecDepth 100000 in
set_option maxHeartbeats 2000000 in
theorem cell_Collide (c : C4) (k b : Int) (w : World) (hv : validC c = true) (hr : ruleOk k b) : Calls Tryz.prog 105 #[.agg #[.int .i64 c.e, .int .i64 c.n, .int .i64 c.w, .int .i64 c.s], .agg #[.int .i64 k, .int .i64 b]] w fun e w' => e = .returned (.tuple #[.agg #[.int .i64 (coll k b c).e, .int .i64 (coll k b c).n, .int .i64 (coll k b c).w, .int .i64 (coll k b c).s], .int .i64 0]) ∧ Below w.heap.size w w' := by
  have hcol := fun W => cell_collided c k b W hv hr
  generalize coll k b c = d at hcol ⊢
  have X0 := ((Bx.new w #[.int .i64 c.e, .int .i64 c.n, .int .i64 c.w, .int .i64 c.s] 55).alloc (.cells #[.int .i64 k, .int .i64 b] 51)).alloc (.cells #[.int .i64 0, .int .i64 0, .int .i64 0, .int .i64 0] 55)
  have X1 := (Bx.new (w.alloc (.cells #[.int .i64 c.e, .int .i64 c.n, .int .i64 c.w, .int .i64 c.s] 55)) #[.int .i64 k, .int .i64 b] 51).alloc (.cells #[.int .i64 0, .int .i64 0, .int .i64 0, .int .i64 0] 55)
  have X2 := Bx.new ((w.alloc (.cells #[.int .i64 c.e, .int .i64 c.n, .int .i64 c.w, .int .i64 c.s] 55)).alloc (.cells #[.int .i64 k, .int .i64 b] 51)) #[.int .i64 0, .int .i64 0, .int .i64 0, .int .i64 0] 55
  simp only [World.size_alloc] at X1 X2
  have hB0 : Below w.heap.size w (((w.alloc (.cells #[.int .i64 c.e, .int .i64 c.n, .int .i64 c.w, .int .i64 c.s] 55)).alloc (.cells #[.int .i64 k, .int .i64 b] 51)).alloc (.cells #[.int .i64 0, .int .i64 0, .int .i64 0, .int .i64 0] 55)) := by (repeat' (first | with_reducible assumption | with_reducible exact Below.refl _ _ | with_reducible refine Below.drew ?_ | with_reducible refine below_drewN ?_ _ | with_reducible refine balloc ?_ _ | with_reducible refine bset ?_ ?_ _ | with_reducible refine Below.setCell ?_ ?_ _ | with_reducible refine Below.alloc ?_ ?_ _ | omega | (simp; done) | (simp; omega)))
  have hvc := fun W => cell_valid c W
  have hvr := fun W => cell_validRule k b W
  rw [hv] at hvc
  rw [(ruleB_iff k b).2 hr] at hvr
  go_enter Tryz.func105, Tryz.ntmps105
  go_wp2_with fail
  generalize (((w.alloc (.cells #[.int .i64 c.e, .int .i64 c.n, .int .i64 c.w, .int .i64 c.s] 55)).alloc (.cells #[.int .i64 k, .int .i64 b] 51)).alloc (.cells #[.int .i64 0, .int .i64 0, .int .i64 0, .int .i64 0] 55)) = W0 at X0 X1 X2 hB0 ⊢
  have z0 := X0.lt
  have z1 := X1.lt
  have z2 := X2.lt
  refine (hvc _).mono ?_
  rintro e w1 ⟨rfl, hb1⟩
  have hB := hB0
  clear hB0 z0 z1 z2
  replace X0 := X0.below hb1
  replace X1 := X1.below hb1
  replace X2 := X2.below hb1
  replace hB := bvia hB hb1
  clear hb1
  have X0_0 := X0.at_ 0 rfl
  have X0_1 := X0.at_ 1 rfl
  have X0_2 := X0.at_ 2 rfl
  have X0_3 := X0.at_ 3 rfl
  have X1_0 := X1.at_ 0 rfl
  have X1_1 := X1.at_ 1 rfl
  have X0z := X0.lt
  have X1z := X1.lt
  have X2z := X2.lt
  go_wp2_with fail
  refine (hvr _).mono ?_
  rintro e w2 ⟨rfl, hb2⟩
  clear X0_0 X0_1 X0_2 X0_3 X1_0 X1_1 X0z X1z X2z
  replace X0 := X0.below hb2
  replace X1 := X1.below hb2
  replace X2 := X2.below hb2
  replace hB := bvia hB hb2
  clear hb2
  have X0_0 := X0.at_ 0 rfl
  have X0_1 := X0.at_ 1 rfl
  have X0_2 := X0.at_ 2 rfl
  have X0_3 := X0.at_ 3 rfl
  have X1_0 := X1.at_ 0 rfl
  have X1_1 := X1.at_ 1 rfl
  have X0z := X0.lt
  have X1z := X1.lt
  have X2z := X2.lt
  go_wp2_with fail
  refine (hcol _).mono ?_
  rintro e w3 ⟨rfl, hb3⟩
  clear X0_0 X0_1 X0_2 X0_3 X1_0 X1_1 X0z X1z X2z
  replace X0 := X0.below hb3
  replace X1 := X1.below hb3
  replace X2 := X2.below hb3
  replace hB := bvia hB hb3
  clear hb3
  have X0_0 := X0.at_ 0 rfl
  have X0_1 := X0.at_ 1 rfl
  have X0_2 := X0.at_ 2 rfl
  have X0_3 := X0.at_ 3 rfl
  have X1_0 := X1.at_ 0 rfl
  have X1_1 := X1.at_ 1 rfl
  have X0z := X0.lt
  have X1z := X1.lt
  have X2z := X2.lt
  have X2_0 := X2.at_ 0 rfl
  have X2_1 := X2.at_ 1 rfl
  have X2_2 := X2.at_ 2 rfl
  have X2_3 := X2.at_ 3 rfl
  have X2f := X2.free
  go_wp2_with fail
  refine bodyPost_ret (v := .tuple #[.agg #[.int .i64 (d).e, .int .i64 (d).n, .int .i64 (d).w, .int .i64 (d).s], .int .i64 0]) (by simp [results, Tryz.results105, go_sem, X2_0, X2_1, X2_2, X2_3]) rfl ⟨rfl, by (repeat' (first | with_reducible assumption | with_reducible exact Below.refl _ _ | with_reducible refine Below.drew ?_ | with_reducible refine below_drewN ?_ _ | with_reducible refine balloc ?_ _ | with_reducible refine bset ?_ ?_ _ | with_reducible refine Below.setCell ?_ ?_ _ | with_reducible refine Below.alloc ?_ ?_ _ | omega | (simp; done) | (simp; omega)))⟩
end Go.Proofs.YtjkngkogddmceaaGreat
/- Walks: a grid in new memory, streaming, of the reference. -/
namespace Go.Proofs.YtjkngkogddmceaaGreat
open Go Go.RowKit
set_option linter.unusedVariables false
/-- a grid with a row of cells of its own -/
def GridRow (W H n : Nat) (g : Nat → C4) (w : World) (e : Ending) (w' : World) : Prop :=
  ∃ b cap, e = .returned (.agg #[.int .i64 (W : Int), .int .i64 (H : Int), .slice (some ⟨b, 0, none⟩) n cap]) ∧ w.heap.size ≤ b ∧ Ro w' b (n * 4) (flatC g) ∧ n ≤ cap ∧ Below w.heap.size w w'
theorem Sc.get {w : World} {a : Option Addr} {n k d : Nat} {g : Nat → C4} (h : Sc w a n g) (hk : k < n) (hd : d < 4) : ∃ b off, a = some ⟨b, off, none⟩ ∧ b < w.heap.size ∧ w.cell? ⟨b, off + k * 4 + d, none⟩ = some (.int .i64 ((g k).get d)) := by
  obtain ⟨b, off, e, hb, c0, c1, c2, c3⟩ := h k hk
  refine ⟨b, off, e, hb, ?_⟩
  rcases (by omega : d = 0 ∨ d = 1 ∨ d = 2 ∨ d = 3) with rfl | rfl | rfl | rfl
  · exact c0
  · exact c1
  · exact c2
  · exact c3
theorem flat_zero : flatC (fun _ => C4.zero) = fun _ => 0 := by
  funext k
  have hm : k % 4 < 4 := Nat.mod_lt _ (by omega)
  simp only [flatC, C4.zero]
  rcases (by omega : k % 4 = 0 ∨ k % 4 = 1 ∨ k % 4 = 2 ∨ k % 4 = 3) with h | h | h | h <;> simp [h, C4.get]
end Go.Proofs.YtjkngkogddmceaaGreat
