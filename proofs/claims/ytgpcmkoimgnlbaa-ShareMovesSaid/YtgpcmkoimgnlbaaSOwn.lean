/- Walks of the share layer: the owners of the columns, of the program. -/
import Derived.Test.YtgpcmkoimgnlbaaSWts
import Derived.Test.YtgpcmkoimgnlbaaSMovesPlain
import Derived.Test.YtgpcmkoimgnlbaaSRep
namespace Go.Proofs.Ytgpcmkoimgnlbaa
open Go Go.RowKit
attribute [local go_sem] Oper.semAt_some
set_option linter.unusedVariables false
theorem nodeOf_bd {n m : Nat} {c : Nat → Int} (hc : validK n m c) {x j : Nat} (hj : j ≤ m) (h1 : bd n m c j ≤ x) (h2 : x < bd n m c (j + 1)) : nodeOf m c x = j := by
  have hx : x < n := by have := bd_le hc (j + 1); omega
  obtain ⟨a1, a2⟩ := isNode_bd hc hx (nodeOf_is m c x)
  rcases Nat.lt_trichotomy (nodeOf m c x) j with h | h | h
  · have := bd_mono hc (i := nodeOf m c x + 1) j (by omega); omega
  · exact h
  · have := bd_mono hc (i := j + 1) (nodeOf m c x) (by omega); omega
def nodL (m : Nat) (c : Nat → Int) (k : Nat) : List Int := (List.range k).map fun x => (nodeOf m c x : Int)
theorem nodL_length (m : Nat) (c : Nat → Int) (k : Nat) : (nodL m c k).length = k := by simp [nodL]
theorem nodL_get (m : Nat) (c : Nat → Int) (k x : Nat) (h : x < k) : (nodL m c k).getD x 0 = (nodeOf m c x : Int) := by
  simp [nodL, List.getD_eq_getElem?_getD, h]
theorem nodL_part {n m : Nat} {c : Nat → Int} (hc : validK n m c) {j : Nat} (hj : j ≤ m) : nodL m c (bd n m c (j + 1)) = nodL m c (bd n m c j) ++ List.replicate (bd n m c (j + 1) - bd n m c j) (j : Int) := by
  have h1 := bd_step hc j
  apply List.ext_getElem?
  intro i
  rw [List.getElem?_append, nodL_length]
  by_cases h2 : i < bd n m c j
  · rw [if_pos h2]
    simp [nodL, h2, show i < bd n m c (j + 1) by omega]
  · rw [if_neg h2, List.getElem?_replicate]
    by_cases h3 : i < bd n m c (j + 1)
    · rw [if_pos (by omega)]
      simp [nodL, h3, nodeOf_bd hc hj (by omega) h3]
    · rw [if_neg (by omega)]
      simp [nodL, h3]
theorem part_len (b off n m : Nat) (c : Nat → Int) (j : Nat) : ∃ (a' : Option Addr) (cp : Nat), partV b off n m c j = .slice a' (bd n m c (j + 1) - bd n m c j) cp := by
  unfold partV
  split
  · rename_i e; rw [e, Nat.sub_self]; exact ⟨_, _, rfl⟩
  · exact ⟨_, _, rfl⟩
theorem pre_last {k x : Nat} {pre : List Nat} (h : pre ++ [x] <+: List.range k) : x = pre.length ∧ pre.length < k := by
  have hl := h.length_le
  simp at hl
  obtain ⟨t, ht⟩ := h
  have h2 : ((pre ++ [x]) ++ t)[pre.length]? = (List.range k)[pre.length]? := by rw [ht]
  rw [List.append_assoc, List.getElem?_append_right (Nat.le_refl _), Nat.sub_self, List.getElem?_range (by omega)] at h2
  simp at h2
  exact ⟨h2, by omega⟩
section
variable {P : Program} {w : World}
/-- append at an operation, also of nothing -/
theorem wp_append_at {o : Oper} {a : Act} {K : Act → World → Prop} {Q : Exit → Act → World → Prop} (s x : Operand) (t : TypeId)
    (ho : o.op = .call { callee := .builtin .append, args := #[s, x], argTypes := #[t, t] })
    (base : Nat) (e : TypeId) (i : TypeInfo) (z : Value) (size bytes : Nat) (ht : P.underlying t = some (.slice e)) (hi : P.info? e = some i) (hz : i.zero = some z)
    (hsize : i.size = size) (hby : i.bytes = bytes) (hzs : z.cells.size = size) (hsz : 0 < size)
    (v : Value) (n : Nat) (xs : List Value) (hs : a.eval s = v) (hown : w.ownsRow base e size v n xs)
    (ad : Addr) (m c : Nat) (news : List Value) (hx : a.eval x = .slice (some ad) m c) (hl : news.length = m * size) (hnews : ∀ j u, news[j]? = some u → w.cell? (ad.add j) = some u) (h1 : ∀ u ∈ news, u.oneCell' = true)
    (h63 : n + m ≤ maxLen) (hbytes : (n + m) * bytes ≤ 140737488355328) (hbase : base ≤ w.heap.size)
    (h : ∀ v' w', w'.ownsRow base e size v' (n + m) (xs ++ news) → w.grownBy w' v.ownBlock → (v'.ownBlock = v.ownBlock ∨ v'.ownBlock = some w.heap.size) → K (a.put o.dst v') w') : o.wp P a w K Q := by
  obtain ⟨v', w', hr, h2, h3, _, h5⟩ := run_append_own_at (P := P) w base t o.type e i z size bytes ht hi hz hsize hby hzs hsz v n xs hown ad m c news hl hnews h1 h63 hbytes hbase
  unfold Oper.wp execOp
  simp only [ho, resolve, invoke, builtin, Sem.run_bind, Sem.run_pure, Result.andThen_ok, List.map_toArray, List.map_cons, List.map_nil, hs, hx, hr]
  exact h v' w' h2 h3 h5
end
theorem own_slice {w : World} {base : Nat} {e : TypeId} {size n : Nat} {v : Value} {xs : List Value} (h : w.ownsRow base e size v n xs) : ∃ a k c, v = .slice a k c := by
  rcases h.2 with ⟨rfl, _⟩ | ⟨g', cap, cur, rfl, _⟩
  · exact ⟨_, _, _, rfl⟩
  · exact ⟨_, _, _, rfl⟩
/-- the word between two rounds -/
structure WO (n m : Nat) (c : Nat → Int) (bo bl bc : Nat) (vl vc : Value) (n₀ : Nat) (pre : List Nat) (C : Nat → Prop) (X : World) (v : Value) : Prop where
  foot : C = fun b => b = bo ∨ b = bl ∨ b = bc ∨ v.ownBlock = some b
  box : Bx X bo #[v]
  loads : Bx X bl #[vl]
  cuts : Bx X bc #[vc]
  own : X.ownsRow n₀ 3 1 v (nodL m c (bd n m c pre.length)).length ((nodL m c (bd n m c pre.length)).map vInt)
theorem wo_stab {n m : Nat} {c : Nat → Int} {bo bl bc : Nat} {vl vc : Value} {n₀ n₁ : Nat} : Stab n₁ (fun pre C X => ∃ v, WO n m c bo bl bc vl vc n₀ pre C X v) := by
  rintro pre C A B ⟨v, h⟩ hb
  have hf := h.foot
  subst hf
  exact ⟨v, rfl, h.box.but hb (fun h' => h'.2 (.inl rfl)), h.loads.but hb (fun h' => h'.2 (.inr (.inl rfl))), h.cuts.but hb (fun h' => h'.2 (.inr (.inr (.inl rfl)))), own_but h.own hb (fun g hg h' => h'.2 (.inr (.inr (.inr hg))))⟩
theorem bd_zero (n m : Nat) (c : Nat → Int) : bd n m c 0 = 0 := rfl
theorem rep_one (x : Int) (k : Nat) : ∀ u ∈ repR x k k, u.oneCell' = true := by
  intro u hu
  simp [repR] at hu
  rw [hu.2]; simp [Value.oneCell']
theorem repR_full (x : Int) (k : Nat) : repR x k k = List.replicate k (vInt x) := by simp [repR, vInt]
set_option maxRecDepth 100000 in
set_option maxHeartbeats 4000000 in
theorem share_owners (n m cc : Nat) (ac : Option Addr) (c : Nat → Int) (w : World) (hn : n ≤ 64) (hc : validK n m c) (HC : Sl w ac m c) :
    Calls Try.prog 64 #[.int .i64 (n : Int), .slice ac m cc] w fun e w' => ∃ v, e = .returned v ∧ w'.ownsRow w.heap.size 3 1 v (nodL m c n).length ((nodL m c n).map vInt) ∧ Below w.heap.size w w' := by
  obtain ⟨i0, hi, hz0, hz1, hz2⟩ := info_parts infoI
  have HV := hid hc
  have hmk := fun W => mk_ints n n rfl (by omega) W
  refine callsIn_wide.1 (callsIn_of_wp_marks (F := Fence.wide) (n := 0) Try.func64 rfl trivial ?_ rfl)
  simp only [Try.ntmps64, List.size_toArray, List.length_cons, List.length_nil, Nat.reduceAdd, Nat.reduceSub, Array.replicate_succ, Array.replicate_zero, List.push_toArray, List.append_toArray, List.nil_append, List.cons_append]
  gi_wp2_with fail
  refine ⟨trivial, rfl, callsIn_wide.2 ((share_parts _ _ _ _ _ _ _).mono ?_)⟩
  rintro e w1 ⟨rfl, Xl, Xc, hsz, hb1⟩
  have Xo := ((Bx.new w #[.slice none 0 0] 22).alloc (.cells (zcells n) 3)).below hb1
  simp only [World.size_alloc] at Xl Xc hsz
  have hB1 : Below w.heap.size w w1 := bvia (balloc (below_alloc w (.cells #[.slice none 0 0] 22)) (.cells (zcells n) 3)) hb1
  gi_wp2_with fail
  have hit := parts_iter (w.heap.size + 1 + 1) (w.heap.size + 1 + 1 + 1) (w.heap.size + 1) 0 n n m cc ac c w hn (Nat.le_refl _) (by simp [maxLen]; omega) hc HC
  have hv0 : ∀ g, (Value.slice none 0 0).ownBlock = some g → False := fun g h => by cases h
  have W0 : WO n m c w.heap.size (w.heap.size + 1 + 1) (w.heap.size + 1 + 1 + 1) (.slice (some ⟨w.heap.size + 1, 0, none⟩) n n) (.slice ac m cc) (w.heap.size + 1 + 1 + 1 + 1) [] (fun b => b = w.heap.size ∨ b = w.heap.size + 1 + 1 ∨ b = w.heap.size + 1 + 1 + 1 ∨ (Value.slice none 0 0).ownBlock = some b) w1 (.slice none 0 0) :=
    ⟨rfl, Xo, Xl, Xc, World.ownsRow_nil ..⟩
  clear Xo Xl Xc hb1
  refine wp_rangeR rfl ent_parts hit hB1 (fun _ => rfl) (fun pre C X => ∃ v, WO n m c w.heap.size (w.heap.size + 1 + 1) (w.heap.size + 1 + 1 + 1) (.slice (some ⟨w.heap.size + 1, 0, none⟩) n n) (.slice ac m cc) (w.heap.size + 1 + 1 + 1 + 1) pre C X v) (fun _ _ _ _ => False)
    (fun b => b = w.heap.size ∨ b = w.heap.size + 1 + 1 ∨ b = w.heap.size + 1 + 1 + 1 ∨ (Value.slice none 0 0).ownBlock = some b) ?hRd ?hC wo_stab (fun c => fun _ _ _ _ h => h.elim) ⟨_, W0⟩ ?hround ?hdone ?hstop
  case hRd =>
    rintro pre C X ⟨v, h⟩
    exact ⟨h.loads, h.cuts⟩
  case hC =>
    rintro pre C X ⟨v, h⟩ b hb
    have l1 := h.box.lt; have l2 := h.loads.lt; have l3 := h.cuts.lt
    rw [h.foot] at hb
    rcases hb with rfl | rfl | rfl | hb
    · omega
    · omega
    · omega
    · have := own_base h.own b hb; have := own_lt h.own b hb; omega
  case hround =>
    rintro l pre x C X hl hl' hnl ⟨rec2, hrec2⟩ ⟨v, h⟩ hX hgC hpre
    unfold Round
    dsimp only [encS]
    gi_wp2_with fail
    refine ⟨Below.refl _ _, ?_⟩
    intro X₂ hb2 hs2 r2
    have hf := h.foot
    subst hf
    have l1 := h.box.lt; have l2 := h.loads.lt; have l3 := h.cuts.lt
    have hl0 : l ≠ w.heap.size ∧ l ≠ w.heap.size + 1 + 1 ∧ l ≠ w.heap.size + 1 + 1 + 1 ∧ v.ownBlock ≠ some l := ⟨fun e => hnl (.inl e), fun e => hnl (.inr (.inl e)), fun e => hnl (.inr (.inr (.inl e))), fun e => hnl (.inr (.inr (.inr e)))⟩
    obtain ⟨n1, n2, n3, n4⟩ := hl0
    have Xo := h.box.but hb2 (fun e => n1 e.symm); have Xl := h.loads.but hb2 (fun e => n2 e.symm); have Xc := h.cuts.but hb2 (fun e => n3 e.symm)
    have hown := own_but h.own hb2 (fun g hg e => n4 (by rw [← e]; exact hg))
    obtain ⟨hxp, hxm⟩ := pre_last hpre
    obtain ⟨a', cp, hpv⟩ := part_len (w.heap.size + 1) 0 n m c x
    have hbe := bd_le HV.out (x + 1)
    have hpart := nodL_part HV.out (j := x) (by omega)
    have hbst := bd_step HV.out x
    have hb3 := bd_le HV.out pre.length
    rw [hpv]
    obtain ⟨ln, hln⟩ : ∃ ln, ln = bd n m c (x + 1) - bd n m c x := ⟨_, rfl⟩
    rw [← hln] at hpart ⊢
    have hln2 : ln ≤ 100000 := by omega
    have hlm : (nodL m c (bd n m c pre.length)).length = bd n m c pre.length := nodL_length ..
    have hlb : bd n m c pre.length + ln ≤ n := by rw [← hxp]; omega
    rw [hxp] at hpart
    have HP := hid hpart
    have hrr := repR_full (x : Int) ln
    have hxc : (X₂.alloc (.cells #[.int .i64 (x : Int)] 3)).drew.cell? ⟨X₂.heap.size, 0, none⟩ = some (.int .i64 (x : Int)) := cell_new _ _ _ 0 _ rfl
    have HXP := hid hxp; clear hxp hln
    have x0 := Xo.at_ 0 rfl
    have lo2 := Xo.lt; have lc2 := Xc.lt; have ll2 := Xl.lt
    have HS2 := hid hs2
    clear h hnl hgC hX hb2 r2 hpv hs2 hpart
    gi_upto_region 5 with (fail)
    refine wpIn_region_R (fun _ => True) (by kernel_rfl) ?_
    refine anyR_take (i := 1) (fun _ => trivial) rfl (by kernel_rfl) (fun _ _ _ h => h) (Or.inl ⟨by rfl, fun Y hYb => (by go_simp; rfl)⟩) trivial ?_
    simp only [Act.put, List.setIfInBounds_toArray]
    refine anyR_take (i := 3) (fun _ => trivial) rfl (by kernel_rfl) (fun _ _ _ h => h) (Or.inl ⟨by rfl, fun Y hYb => (by go_simp; rfl)⟩) trivial ?_
    simp only [Act.put, List.setIfInBounds_toArray]
    refine anyR_take (i := 4) (fun _ => trivial) rfl (by kernel_rfl) (fun _ _ _ h => h) (Or.inl ⟨by rfl, fun Y hYb => (by go_simp; rfl)⟩) trivial ?_
    simp only [Act.put, List.setIfInBounds_toArray]
    refine anyR_two (i := 0) (j := 2) (by kernel_rfl) rfl rfl (by rfl) (by rfl) (fun K hK => ?_) (fun K hK => ?_)
    · skip
      go_simp
      refine hK _ _ trivial ?_
      clear hK K
      refine anyR_one (i := 2) (by kernel_rfl) rfl (by rfl) (fun K hK => ?_)
      go_simp
      refine hK _ _ trivial ?_
      clear hK K
      refine anyR_one (i := 5) (by kernel_rfl) rfl (by rfl) (fun K hK => ?_)
      go_simp
      refine ⟨trivial, rfl, callsIn_of ((repeat_one X₂.heap.size 1 ln x (X₂.alloc (.cells #[.int .i64 (x : Int)] 3)).drew hln2 (by simp) hxc).mono ?_)⟩
      rintro e Y ⟨rfl, hrow, hbY⟩
      have hbX2 : Below X₂.heap.size X₂ Y := bvia ((below_alloc X₂ (.cells #[.int .i64 (x : Int)] 3)).drew) hbY
      have XoY := Xo.below hbX2
      have xY := XoY.at_ 0 rfl
      simp only [World.size_alloc, World.size_drew] at hrow ⊢
      refine hK _ _ trivial ?_
      clear hK K
      refine anyR_one (i := 6) (by kernel_rfl) rfl (by rfl) (fun K hK => opIn_of (fun c h => by cases h) ?_)
      have hownY := own_below hown hbX2
      have XlY := Xl.below hbX2; have XcY := Xc.below hbX2
      have hszY := hbY.size
      simp only [World.size_alloc, World.size_drew] at hszY hrow
      refine wp_append_at _ _ 22 rfl (w.heap.size + 1 + 1 + 1 + 1) 3 i0 (.int .i64 0) 1 8 Try.underlying22 hi hz0 hz1 hz2 rfl (by decide) v _ _ rfl hownY ⟨X₂.heap.size + 1, 0, none⟩ ln ln (repR x ln ln) rfl (by rw [repR_length _ _ _ (Nat.le_refl _), Nat.mul_one]) (World.news_of_block hrow) (rep_one x ln) (by simp [maxLen]; omega) (by omega) (by omega) ?_
      intro v' w5 hown5 hgr hat
      rw [hlm, hrr] at hown5
      obtain ⟨av, nv, cv, hv'⟩ := own_slice hown5
      subst hv'
      have hC0 : But (fun b => b = w.heap.size ∨ b = w.heap.size + 1 + 1 ∨ b = w.heap.size + 1 + 1 + 1 ∨ v.ownBlock = some b) X₂ Y := ⟨hbX2.os, hbX2.tape, hbX2.output, hbX2.size, fun b hb _ => hbX2.block b hb⟩
      have hC5 := but_grown hC0 hgr (fun q hq => .inr (.inr (.inr hq)))
      have hg5 : ∀ q, q = w.heap.size ∨ q = w.heap.size + 1 + 1 ∨ q = w.heap.size + 1 + 1 + 1 → v.ownBlock ≠ some q := fun q hq e => by have := own_base hown q e; omega
      have Xo5 := XoY.grown hgr (fun e => hg5 _ (.inl rfl) e.symm)
      have Xl5 := XlY.grown hgr (fun e => hg5 _ (.inr (.inl rfl)) e.symm)
      have Xc5 := XcY.grown hgr (fun e => hg5 _ (.inr (.inr rfl)) e.symm)
      have y0 := Xo5.at_ 0 rfl; have yf := Xo5.free
      refine hK _ _ trivial ?_
      clear hK K
      refine anyR_one (i := 7) (by kernel_rfl) rfl (by rfl) (fun K hK => ?_)
      go_simp
      refine hK _ _ trivial ?_
      clear hK K
      refine anyR_done (by kernel_rfl) ?_ _
      gi_wp2
      refine ⟨fun b => b = w.heap.size ∨ b = w.heap.size + 1 + 1 ∨ b = w.heap.size + 1 + 1 + 1 ∨ (Value.slice av nv cv).ownBlock = some b, hC5.set_ (.inl rfl) _, ?_, _, rfl, Xo5.one, Xl5.far (by dsimp only; omega) _, Xc5.far (by dsimp only; omega) _, ?_⟩
      · rintro b (h | h | h | h)
        · exact .inl (.inl h)
        · exact .inl (.inr (.inl h))
        · exact .inl (.inr (.inr (.inl h)))
        · rcases hat with h' | h'
          · exact .inl (.inr (.inr (.inr (by rw [← h']; exact h))))
          · rw [h'] at h
            injection h with h
            exact .inr (by omega)
      · have h5 : w5.ownsRow (w.heap.size + 1 + 1 + 1 + 1) 3 1 (.slice av nv cv) (nodL m c (bd n m c (pre ++ [x]).length)).length ((nodL m c (bd n m c (pre ++ [x]).length)).map vInt) := by
          have e : nodL m c (bd n m c (pre ++ [x]).length) = nodL m c (bd n m c pre.length) ++ List.replicate ln (x : Int) := by
            rw [List.length_append, show [x].length = 1 from rfl, HP.out, HXP.out]
          rw [e, List.length_append, List.length_replicate, List.map_append, hlm, List.map_replicate]
          exact hown5
        exact own_but h5 ((But.refl (fun b => b = w.heap.size) w5).set_ rfl _) (fun q hq e => by
          subst e
          rcases hat with h' | h'
          · exact hg5 _ (.inl rfl) (by rw [← h']; exact hq)
          · rw [h'] at hq; injection hq with hq; have := Xo.lt; omega)
    · skip
      go_simp
      refine hK _ _ trivial ?_
      clear hK K
      refine anyR_two (i := 0) (j := 5) (by kernel_rfl) rfl rfl (by rfl) (by rfl) (fun K hK => ?_) (fun K hK => ?_)
      · skip
        go_simp
        refine hK _ _ trivial ?_
        clear hK K
        refine anyR_one (i := 5) (by kernel_rfl) rfl (by rfl) (fun K hK => ?_)
        go_simp
        refine ⟨trivial, rfl, callsIn_of ((repeat_one X₂.heap.size 1 ln x (X₂.alloc (.cells #[.int .i64 (x : Int)] 3)).drew hln2 (by simp) hxc).mono ?_)⟩
        rintro e Y ⟨rfl, hrow, hbY⟩
        have hbX2 : Below X₂.heap.size X₂ Y := bvia ((below_alloc X₂ (.cells #[.int .i64 (x : Int)] 3)).drew) hbY
        have XoY := Xo.below hbX2
        have xY := XoY.at_ 0 rfl
        simp only [World.size_alloc, World.size_drew] at hrow ⊢
        refine hK _ _ trivial ?_
        clear hK K
        refine anyR_one (i := 6) (by kernel_rfl) rfl (by rfl) (fun K hK => opIn_of (fun c h => by cases h) ?_)
        have hownY := own_below hown hbX2
        have XlY := Xl.below hbX2; have XcY := Xc.below hbX2
        have hszY := hbY.size
        simp only [World.size_alloc, World.size_drew] at hszY hrow
        refine wp_append_at _ _ 22 rfl (w.heap.size + 1 + 1 + 1 + 1) 3 i0 (.int .i64 0) 1 8 Try.underlying22 hi hz0 hz1 hz2 rfl (by decide) v _ _ rfl hownY ⟨X₂.heap.size + 1, 0, none⟩ ln ln (repR x ln ln) rfl (by rw [repR_length _ _ _ (Nat.le_refl _), Nat.mul_one]) (World.news_of_block hrow) (rep_one x ln) (by simp [maxLen]; omega) (by omega) (by omega) ?_
        intro v' w5 hown5 hgr hat
        rw [hlm, hrr] at hown5
        obtain ⟨av, nv, cv, hv'⟩ := own_slice hown5
        subst hv'
        have hC0 : But (fun b => b = w.heap.size ∨ b = w.heap.size + 1 + 1 ∨ b = w.heap.size + 1 + 1 + 1 ∨ v.ownBlock = some b) X₂ Y := ⟨hbX2.os, hbX2.tape, hbX2.output, hbX2.size, fun b hb _ => hbX2.block b hb⟩
        have hC5 := but_grown hC0 hgr (fun q hq => .inr (.inr (.inr hq)))
        have hg5 : ∀ q, q = w.heap.size ∨ q = w.heap.size + 1 + 1 ∨ q = w.heap.size + 1 + 1 + 1 → v.ownBlock ≠ some q := fun q hq e => by have := own_base hown q e; omega
        have Xo5 := XoY.grown hgr (fun e => hg5 _ (.inl rfl) e.symm)
        have Xl5 := XlY.grown hgr (fun e => hg5 _ (.inr (.inl rfl)) e.symm)
        have Xc5 := XcY.grown hgr (fun e => hg5 _ (.inr (.inr rfl)) e.symm)
        have y0 := Xo5.at_ 0 rfl; have yf := Xo5.free
        refine hK _ _ trivial ?_
        clear hK K
        refine anyR_one (i := 7) (by kernel_rfl) rfl (by rfl) (fun K hK => ?_)
        go_simp
        refine hK _ _ trivial ?_
        clear hK K
        refine anyR_done (by kernel_rfl) ?_ _
        gi_wp2
        refine ⟨fun b => b = w.heap.size ∨ b = w.heap.size + 1 + 1 ∨ b = w.heap.size + 1 + 1 + 1 ∨ (Value.slice av nv cv).ownBlock = some b, hC5.set_ (.inl rfl) _, ?_, _, rfl, Xo5.one, Xl5.far (by dsimp only; omega) _, Xc5.far (by dsimp only; omega) _, ?_⟩
        · rintro b (h | h | h | h)
          · exact .inl (.inl h)
          · exact .inl (.inr (.inl h))
          · exact .inl (.inr (.inr (.inl h)))
          · rcases hat with h' | h'
            · exact .inl (.inr (.inr (.inr (by rw [← h']; exact h))))
            · rw [h'] at h
              injection h with h
              exact .inr (by omega)
        · have h5 : w5.ownsRow (w.heap.size + 1 + 1 + 1 + 1) 3 1 (.slice av nv cv) (nodL m c (bd n m c (pre ++ [x]).length)).length ((nodL m c (bd n m c (pre ++ [x]).length)).map vInt) := by
            have e : nodL m c (bd n m c (pre ++ [x]).length) = nodL m c (bd n m c pre.length) ++ List.replicate ln (x : Int) := by
              rw [List.length_append, show [x].length = 1 from rfl, HP.out, HXP.out]
            rw [e, List.length_append, List.length_replicate, List.map_append, hlm, List.map_replicate]
            exact hown5
          exact own_but h5 ((But.refl (fun b => b = w.heap.size) w5).set_ rfl _) (fun q hq e => by
            subst e
            rcases hat with h' | h'
            · exact hg5 _ (.inl rfl) (by rw [← h']; exact hq)
            · rw [h'] at hq; injection hq with hq; have := Xo.lt; omega)
      · skip
        go_simp
        refine ⟨trivial, rfl, callsIn_of ((repeat_one X₂.heap.size 1 ln x (X₂.alloc (.cells #[.int .i64 (x : Int)] 3)).drew hln2 (by simp) hxc).mono ?_)⟩
        rintro e Y ⟨rfl, hrow, hbY⟩
        have hbX2 : Below X₂.heap.size X₂ Y := bvia ((below_alloc X₂ (.cells #[.int .i64 (x : Int)] 3)).drew) hbY
        have XoY := Xo.below hbX2
        have xY := XoY.at_ 0 rfl
        simp only [World.size_alloc, World.size_drew] at hrow ⊢
        refine hK _ _ trivial ?_
        clear hK K
        refine anyR_one (i := 0) (by kernel_rfl) rfl (by rfl) (fun K hK => ?_)
        go_simp
        refine hK _ _ trivial ?_
        clear hK K
        refine anyR_one (i := 6) (by kernel_rfl) rfl (by rfl) (fun K hK => opIn_of (fun c h => by cases h) ?_)
        have hownY := own_below hown hbX2
        have XlY := Xl.below hbX2; have XcY := Xc.below hbX2
        have hszY := hbY.size
        simp only [World.size_alloc, World.size_drew] at hszY hrow
        refine wp_append_at _ _ 22 rfl (w.heap.size + 1 + 1 + 1 + 1) 3 i0 (.int .i64 0) 1 8 Try.underlying22 hi hz0 hz1 hz2 rfl (by decide) v _ _ rfl hownY ⟨X₂.heap.size + 1, 0, none⟩ ln ln (repR x ln ln) rfl (by rw [repR_length _ _ _ (Nat.le_refl _), Nat.mul_one]) (World.news_of_block hrow) (rep_one x ln) (by simp [maxLen]; omega) (by omega) (by omega) ?_
        intro v' w5 hown5 hgr hat
        rw [hlm, hrr] at hown5
        obtain ⟨av, nv, cv, hv'⟩ := own_slice hown5
        subst hv'
        have hC0 : But (fun b => b = w.heap.size ∨ b = w.heap.size + 1 + 1 ∨ b = w.heap.size + 1 + 1 + 1 ∨ v.ownBlock = some b) X₂ Y := ⟨hbX2.os, hbX2.tape, hbX2.output, hbX2.size, fun b hb _ => hbX2.block b hb⟩
        have hC5 := but_grown hC0 hgr (fun q hq => .inr (.inr (.inr hq)))
        have hg5 : ∀ q, q = w.heap.size ∨ q = w.heap.size + 1 + 1 ∨ q = w.heap.size + 1 + 1 + 1 → v.ownBlock ≠ some q := fun q hq e => by have := own_base hown q e; omega
        have Xo5 := XoY.grown hgr (fun e => hg5 _ (.inl rfl) e.symm)
        have Xl5 := XlY.grown hgr (fun e => hg5 _ (.inr (.inl rfl)) e.symm)
        have Xc5 := XcY.grown hgr (fun e => hg5 _ (.inr (.inr rfl)) e.symm)
        have y0 := Xo5.at_ 0 rfl; have yf := Xo5.free
        refine hK _ _ trivial ?_
        clear hK K
        refine anyR_one (i := 7) (by kernel_rfl) rfl (by rfl) (fun K hK => ?_)
        go_simp
        refine hK _ _ trivial ?_
        clear hK K
        refine anyR_done (by kernel_rfl) ?_ _
        gi_wp2
        refine ⟨fun b => b = w.heap.size ∨ b = w.heap.size + 1 + 1 ∨ b = w.heap.size + 1 + 1 + 1 ∨ (Value.slice av nv cv).ownBlock = some b, hC5.set_ (.inl rfl) _, ?_, _, rfl, Xo5.one, Xl5.far (by dsimp only; omega) _, Xc5.far (by dsimp only; omega) _, ?_⟩
        · rintro b (h | h | h | h)
          · exact .inl (.inl h)
          · exact .inl (.inr (.inl h))
          · exact .inl (.inr (.inr (.inl h)))
          · rcases hat with h' | h'
            · exact .inl (.inr (.inr (.inr (by rw [← h']; exact h))))
            · rw [h'] at h
              injection h with h
              exact .inr (by omega)
        · have h5 : w5.ownsRow (w.heap.size + 1 + 1 + 1 + 1) 3 1 (.slice av nv cv) (nodL m c (bd n m c (pre ++ [x]).length)).length ((nodL m c (bd n m c (pre ++ [x]).length)).map vInt) := by
            have e : nodL m c (bd n m c (pre ++ [x]).length) = nodL m c (bd n m c pre.length) ++ List.replicate ln (x : Int) := by
              rw [List.length_append, show [x].length = 1 from rfl, HP.out, HXP.out]
            rw [e, List.length_append, List.length_replicate, List.map_append, hlm, List.map_replicate]
            exact hown5
          exact own_but h5 ((But.refl (fun b => b = w.heap.size) w5).set_ rfl _) (fun q hq e => by
            subst e
            rcases hat with h' | h'
            · exact hg5 _ (.inl rfl) (by rw [← h']; exact hq)
            · rw [h'] at hq; injection hq with hq; have := Xo.lt; omega)
  case hdone =>
    rintro Dd C X hDd hnD ⟨v, h⟩ hbut hgC hdef
    have hf := h.foot
    subst hf
    have x0 := h.box.at_ 0 rfl; have lx := h.box.lt
    have hs1 := hbut.size
    have hbel : Below w.heap.size w X := hB1.trans ⟨hbut.os, hbut.tape, hbut.output, hbut.size, fun b hb => hbut.block b (by omega) (fun h => by
      rcases h with h | h | h | h
      · omega
      · omega
      · omega
      · exact hv0 b h)⟩
    have hbp := but_putObj X Dd (.deferred none)
    have B6 := hbel.trans (⟨hbp.os, hbp.tape, hbp.output, hbp.size, fun b hb => hbp.block b (by have := hbel.size; omega) (by omega)⟩ : Below w.heap.size _ _)
    have O6 := own_but h.own hbp (fun g hg e => hnD (.inr (.inr (.inr (by rw [← e]; exact hg)))))
    rw [List.length_range, bd_last] at O6
    gi_wp2
    refine ⟨by simp, .inl ⟨_, _, rfl, run_takeDeferred hdef, ?_⟩⟩
    exact ⟨v, by simp [results, Try.results64, go_sem], v, rfl, own_mono O6 (by omega), B6⟩
  case hstop =>
    rintro Dd c pre C X hDd hnD hpre h
    exact h.elim
end Go.Proofs.Ytgpcmkoimgnlbaa
