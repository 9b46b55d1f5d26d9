/- Walks of the share layer: the weights of a share, of the program. -/
import Derived.Test.YtgpcmkoimgnlbaaSParts
import Derived.Test.YtgpcmkoimgnlbaaSWalk5
import Derived.Deep.AppendLies
namespace Go.Proofs.Ytgpcmkoimgnlbaa
open Go Go.RowKit
attribute [local go_sem] Oper.semAt_some
set_option linter.unusedVariables false
theorem ent_parts : ∀ args w, (callFunc 76 args).run Try.prog w = .ok (.enter 76 args) w := Go.Proofs.enters_of Try.func76 (by kernel_rfl) rfl
set_option maxRecDepth 100000 in
theorem share_parts (al ac : Option Addr) (n ca m cc : Nat) (w : World) :
    Calls Try.prog 72 #[.slice al n ca, .slice ac m cc] w fun e w' => e = .returned (.func (.func 76) #[] #[.pointer (some ⟨w.heap.size + 1, 0, none⟩), .pointer (some ⟨w.heap.size, 0, none⟩)]) ∧ Bx w' w.heap.size #[.slice al n ca] ∧ Bx w' (w.heap.size + 1) #[.slice ac m cc] ∧ w'.heap.size = w.heap.size + 2 ∧ Below w.heap.size w w' := by
  go_enter Try.func72, Try.ntmps72
  go_wp2
  go_ret
  refine ⟨rfl, (Bx.new w _ _).alloc _, ?_, by simp, by (repeat' (first | with_reducible assumption | with_reducible exact Below.refl _ _ | with_reducible refine Below.drew ?_ | with_reducible refine below_drewN ?_ _ | with_reducible refine balloc ?_ _ | with_reducible refine bset ?_ ?_ _ | with_reducible refine Below.setCell ?_ ?_ _ | with_reducible refine Below.alloc ?_ ?_ _ | omega | (simp; done) | (simp; omega)))⟩
  have h := Bx.new (w.alloc (.cells #[.slice al n ca] 22)) #[.slice ac m cc] 22
  rw [World.size_alloc] at h
  exact h
section
variable {F : Fence} {n : Nat} {P : Program} {ops : Array Oper} {Q : Exit → Act → World → Prop} {md : Region.Mode} {S : World → Prop}
/-- two may come up -/
theorem anyR_two {i j : Nat} {oi oj : Oper} {fuel : Nat} {listed : Array Bool} {a : Act} {w : World} (hr : Region.ready md ops listed = [i, j]) (hi : ops[i]? = some oi) (hj : ops[j]? = some oj) (hw : Region.wanted oi (yielded ops a.tmps) = true) (hw2 : Region.wanted oj (yielded ops a.tmps) = true)
    (h1 : ∀ K : Act → World → Prop, (∀ a' w', S w' → anyR F n P md ops Q S fuel (listed.setIfInBounds i true) a' w' → K a' w') → Oper.wpIn F n P oi a w K Q)
    (h2 : ∀ K : Act → World → Prop, (∀ a' w', S w' → anyR F n P md ops Q S fuel (listed.setIfInBounds j true) a' w' → K a' w') → Oper.wpIn F n P oj a w K Q) : anyR F n P md ops Q S (fuel + 1) listed a w := by
  refine ⟨fun h0 => (by rw [h0] at hr; cases hr), fun k hk => ?_⟩
  rw [hr] at hk
  simp only [List.mem_cons, List.not_mem_nil, or_false] at hk
  rcases hk with rfl | rfl
  · unfold wpOpIn
    simp only [hi, hw, if_true]
    exact h1 _ (fun a' w' hs ha => ⟨hs, ha⟩)
  · unfold wpOpIn
    simp only [hj, hw2, if_true]
    exact h2 _ (fun a' w' hs ha => ⟨hs, ha⟩)
end
/-- the loads of a node, as a slice -/
theorem part_sl {X : World} {b off n m : Nat} {c f : Nat → Int} (H : Sl X (some ⟨b, off, none⟩) n f) (hc : validK n m c) (j : Nat) :
    ∃ (a' : Option Addr) (cp : Nat), partV b off n m c j = .slice a' (bd n m c (j + 1) - bd n m c j) cp ∧ Sl X a' (bd n m c (j + 1) - bd n m c j) (fun i => f (bd n m c j + i)) := by
  have h1 := bd_step hc j
  have h2 := bd_le hc (j + 1)
  unfold partV
  split
  · rename_i e
    rw [e, Nat.sub_self]
    exact ⟨_, _, rfl, fun k hk => by omega⟩
  · refine ⟨_, _, rfl, ?_⟩
    have h3 := H.sub (x := bd n m c j) (by omega)
    intro k hk
    exact h3 k (by omega)
theorem part_sum (f : Nat → Int) (n m : Nat) (c : Nat → Int) (hc : validK n m c) (j : Nat) : sumTo (fun i => f (bd n m c j + i)) (bd n m c (j + 1) - bd n m c j) = wt f n m c j := by
  rw [sumTo_shift, Nat.add_sub_of_le (bd_step hc j)]; rfl
def wtL (f : Nat → Int) (n m : Nat) (c : Nat → Int) (k : Nat) : List Int := (List.range k).map (wt f n m c)
theorem wtL_length (f : Nat → Int) (n m : Nat) (c : Nat → Int) (k : Nat) : (wtL f n m c k).length = k := by simp [wtL]
/-- the word between two rounds -/
structure WW (f : Nat → Int) (n m : Nat) (c : Nat → Int) (bo bl bc : Nat) (vl vc : Value) (n₀ : Nat) (pre : List Nat) (C : Nat → Prop) (X : World) (v : Value) : Prop where
  foot : C = fun b => b = bo ∨ b = bl ∨ b = bc ∨ v.ownBlock = some b
  box : Bx X bo #[v]
  loads : Bx X bl #[vl]
  cuts : Bx X bc #[vc]
  own : X.ownsRow n₀ 3 1 v (pre.map (wt f n m c)).length ((pre.map (wt f n m c)).map vInt)
theorem own_but {w w' : World} {C : Nat → Prop} {base : Nat} {e : TypeId} {size n : Nat} {v : Value} {xs : List Value} (h : w.ownsRow base e size v n xs) (hg : But C w w') (hne : ∀ g, v.ownBlock = some g → ¬ C g) : w'.ownsRow base e size v n xs := by
  refine ⟨h.1, ?_⟩
  rcases h.2 with h' | ⟨g, cap, cur, rfl, hb, hh, rest⟩
  · exact .inl h'
  · refine .inr ⟨g, cap, cur, rfl, hb, ?_, rest⟩
    rw [hg.block g (own_lt h g rfl) (hne g rfl)]
    exact hh
theorem but_grown {C : Nat → Prop} {X Y Z : World} {row : Option Nat} (h : But C X Y) (hg : Y.grownBy Z row) (hr : ∀ g, row = some g → C g) : But C X Z :=
  ⟨hg.os.trans h.os, hg.tape.trans h.tape, hg.output.trans h.output, Nat.le_trans h.size hg.size, fun b hb hc => (hg.block b (Nat.lt_of_lt_of_le hb h.size) (fun e => hc (hr b e.symm))).trans (h.block b hb hc)⟩
theorem Bx.one {W : World} {b : Nat} {x0 y : Value} (h : Bx W b #[x0]) : Bx (W.setCell ⟨b, 0, none⟩ y) b #[y] := h.set_ 0 (by simp) y
theorem ww_stab {f : Nat → Int} {n m : Nat} {c : Nat → Int} {bo bl bc : Nat} {vl vc : Value} {n₀ n₁ : Nat} : Stab n₁ (fun pre C X => ∃ v, WW f n m c bo bl bc vl vc n₀ pre C X v) := by
  rintro pre C A B ⟨v, h⟩ hb
  have hf := h.foot
  subst hf
  exact ⟨v, rfl, h.box.but hb (fun h' => h'.2 (.inl rfl)), h.loads.but hb (fun h' => h'.2 (.inr (.inl rfl))), h.cuts.but hb (fun h' => h'.2 (.inr (.inr (.inl rfl)))), own_but h.own hb (fun g hg h' => h'.2 (.inr (.inr (.inr hg))))⟩
set_option maxRecDepth 100000 in
set_option maxHeartbeats 4000000 in
theorem share_weights (b off n ca m cc : Nat) (ac : Option Addr) (f c : Nat → Int) (w : World) (hn : n ≤ 64) (hf : okF n f) (hca : n ≤ ca) (hca2 : ca ≤ maxLen) (hc : validK n m c) (H : Sl w (some ⟨b, off, none⟩) n f) (HC : Sl w ac m c) :
    Calls Try.prog 51 #[.slice (some ⟨b, off, none⟩) n ca, .slice ac m cc] w fun e w' => ∃ v, e = .returned v ∧ w'.ownsRow w.heap.size 3 1 v (wtL f n m c (m + 1)).length ((wtL f n m c (m + 1)).map vInt) ∧ Below w.heap.size w w' := by
  obtain ⟨i0, hi, hz0, hz1, hz2⟩ := info_parts infoI
  have HV := hid hc
  have HF := hid hf
  clear hf
  refine callsIn_wide.1 (callsIn_of_wp_marks (F := Fence.wide) (n := 0) Try.func51 rfl trivial ?_ rfl)
  simp only [Try.ntmps51, List.size_toArray, List.length_cons, List.length_nil, Nat.reduceAdd, Nat.reduceSub, Array.replicate_succ, Array.replicate_zero, List.push_toArray, List.append_toArray, List.nil_append, List.cons_append]
  gi_wp2_with fail
  refine ⟨trivial, rfl, callsIn_wide.2 ((share_parts _ _ _ _ _ _ _).mono ?_)⟩
  rintro e w1 ⟨rfl, Xl, Xc, hsz, hb1⟩
  have Xo := (Bx.new w #[.slice none 0 0] 22).below hb1
  simp only [World.size_alloc] at Xl Xc hsz
  have hB1 : Below w.heap.size w w1 := bvia (below_alloc w (.cells #[.slice none 0 0] 22)) hb1
  gi_wp2_with fail
  have hit := parts_iter (w.heap.size + 1) (w.heap.size + 1 + 1) b off n ca m cc ac c w hn hca hca2 hc HC
  have hv0 : ∀ g, (Value.slice none 0 0).ownBlock = some g → False := fun g h => by cases h
  have W0 : WW f n m c w.heap.size (w.heap.size + 1) (w.heap.size + 1 + 1) (.slice (some ⟨b, off, none⟩) n ca) (.slice ac m cc) (w.heap.size + 1 + 1 + 1) [] (fun b => b = w.heap.size ∨ b = w.heap.size + 1 ∨ b = w.heap.size + 1 + 1 ∨ (Value.slice none 0 0).ownBlock = some b) w1 (.slice none 0 0) :=
    ⟨rfl, Xo, Xl, Xc, World.ownsRow_nil ..⟩
  clear Xo Xl Xc hb1
  refine wp_rangeR rfl ent_parts hit hB1 (fun _ => rfl) (fun pre C X => ∃ v, WW f n m c w.heap.size (w.heap.size + 1) (w.heap.size + 1 + 1) (.slice (some ⟨b, off, none⟩) n ca) (.slice ac m cc) (w.heap.size + 1 + 1 + 1) pre C X v) (fun _ _ _ _ => False)
    (fun b => b = w.heap.size ∨ b = w.heap.size + 1 ∨ b = w.heap.size + 1 + 1 ∨ (Value.slice none 0 0).ownBlock = some b) ?hRd ?hC ww_stab (fun c => fun _ _ _ _ h => h.elim) ⟨_, W0⟩ ?hround ?hdone ?hstop
  case hRd =>
    rintro pre C X ⟨v, h⟩
    exact ⟨h.loads, h.cuts⟩
  case hC =>
    rintro pre C X ⟨v, h⟩ b hb
    have l1 := h.box.lt; have l2 := h.loads.lt; have l3 := h.cuts.lt
    rw [h.foot] at hb
    rcases hb with rfl | rfl | rfl | hb
    · omega
    · omega
    · omega
    · have := own_base h.own b hb; have := own_lt h.own b hb; omega
  case hround =>
    rintro l pre x C X hl hl' hnl ⟨rec2, hrec2⟩ ⟨v, h⟩ hX hgC hpre
    unfold Round
    dsimp only [encS]
    gi_wp2_with fail
    refine ⟨Below.refl _ _, ?_⟩
    intro X₂ hb2 hs2 r2
    have hf := h.foot
    subst hf
    have l1 := h.box.lt; have l2 := h.loads.lt; have l3 := h.cuts.lt
    have hl0 : l ≠ w.heap.size ∧ l ≠ w.heap.size + 1 ∧ l ≠ w.heap.size + 1 + 1 ∧ v.ownBlock ≠ some l := ⟨fun e => hnl (.inl e), fun e => hnl (.inr (.inl e)), fun e => hnl (.inr (.inr (.inl e))), fun e => hnl (.inr (.inr (.inr e)))⟩
    obtain ⟨n1, n2, n3, n4⟩ := hl0
    have Xo := h.box.but hb2 (fun e => n1 e.symm); have Xl := h.loads.but hb2 (fun e => n2 e.symm); have Xc := h.cuts.but hb2 (fun e => n3 e.symm)
    have hown := own_but h.own hb2 (fun g hg e => n4 (by rw [← e]; exact hg))
    have hX2 : Below w.heap.size w X₂ := hX.trans ⟨hb2.os, hb2.tape, hb2.output, hb2.size, fun b hb => hb2.block b (by have := hX.size; omega) (by omega)⟩
    have hlen := hpre.length_le
    simp only [List.length_append, List.length_cons, List.length_nil, List.length_range, Nat.zero_add] at hlen
    have hm16 := HV.out.1
    obtain ⟨a', cp, hpv, Sp⟩ := part_sl (H.below hX2) HV.out x
    have hsum := fun W HS => share_sum a' (bd n m c (x + 1) - bd n m c x) cp (fun i => f (bd n m c x + i)) W (by have := bd_le HV.out (x + 1); omega) (fun k hk => HF.out _ (by have := bd_le HV.out (x + 1); omega)) HS
    rw [part_sum f n m c HV.out x] at hsum
    rw [hpv]
    have hlm : (pre.map (wt f n m c)).length = pre.length := by simp
    generalize bd n m c (x + 1) - bd n m c x = ln at Sp hsum
    have x0 := Xo.at_ 0 rfl
    have lo2 := Xo.lt; have lc2 := Xc.lt; have ll2 := Xl.lt
    have HS2 := hid hs2
    clear h hnl hgC hX hb2 r2 hpv hs2
    gi_upto_region 4 with (fail)
    refine wpIn_region_R (fun _ => True) (by kernel_rfl) ?_
    refine anyR_take (i := 1) (fun _ => trivial) rfl (by kernel_rfl) (fun _ _ _ h => h) (Or.inl ⟨by rfl, fun Y hYb => (by go_simp; rfl)⟩) trivial ?_
    simp only [Act.put, List.setIfInBounds_toArray]
    refine anyR_two (i := 0) (j := 2) (by kernel_rfl) rfl rfl (by rfl) (by rfl) (fun K hK => ?_) (fun K hK => ?_)
    · skip
      go_simp
      refine hK _ _ trivial ?_
      clear hK K
      refine anyR_one (i := 2) (by kernel_rfl) rfl (by rfl) (fun K hK => ?_)
      go_simp
      refine ⟨trivial, rfl, callsIn_of ((hsum _ (Sl.drew Sp)).mono ?_)⟩
      rintro e Y ⟨rfl, rfl⟩
      refine hK _ _ trivial ?_
      clear hK K
      refine anyR_one (i := 3) (by kernel_rfl) rfl (by rfl) (fun K hK => ?_)
      go_simp
      refine hK _ _ trivial ?_
      clear hK K
      refine anyR_one (i := 4) (by kernel_rfl) rfl (by rfl) (fun K hK => opIn_of (fun c h => by cases h) ?_)
      refine wp_append_lies _ _ _ 22 rfl (w.heap.size + 1 + 1 + 1) 3 i0 (.int .i64 0) 1 8 Try.underlying22 hi hz0 hz1 hz2 rfl (by decide) v _ _ rfl (hown.drew.alloc _) ⟨X₂.heap.size, 0, none⟩ 1 1 [.int .i64 (wt f n m c x)] rfl rfl (cell_one_new _ _ _) (by simp [Value.oneCell']) (by omega) (by simp [maxLen]; omega) (by omega) (by simp; omega) _ rfl ?_
      intro g cap w5 hown5 hgr hat hlt5
      rw [hlm] at hown5 ⊢
      have hC0 : But (fun b => b = w.heap.size ∨ b = w.heap.size + 1 ∨ b = w.heap.size + 1 + 1 ∨ v.ownBlock = some b) X₂ (X₂.drew.alloc (.cells #[.int .i64 (wt f n m c x)] 3)) := (But.refl _ X₂).drew.alloc _
      have hC5 := but_grown hC0 hgr (fun q hq => .inr (.inr (.inr hq)))
      have hg5 : ∀ q, q = w.heap.size ∨ q = w.heap.size + 1 ∨ q = w.heap.size + 1 + 1 → v.ownBlock ≠ some q := fun q hq e => by have := own_base hown q e; omega
      have Xo5 := ((Xo.drew).alloc (.cells #[.int .i64 (wt f n m c x)] 3)).grown hgr (fun e => hg5 _ (.inl rfl) e.symm)
      have Xl5 := ((Xl.drew).alloc (.cells #[.int .i64 (wt f n m c x)] 3)).grown hgr (fun e => hg5 _ (.inr (.inl rfl)) e.symm)
      have Xc5 := ((Xc.drew).alloc (.cells #[.int .i64 (wt f n m c x)] 3)).grown hgr (fun e => hg5 _ (.inr (.inr rfl)) e.symm)
      have y0 := Xo5.at_ 0 rfl; have yf := Xo5.free
      have hgb : w.heap.size + 1 + 1 < g := by
        rcases hat with h | h
        · have := own_base hown g h; omega
        · have h' : g = X₂.heap.size + 1 - 1 ∨ g = X₂.heap.size + 1 := by (try simp at h); omega
          omega
      refine hK _ _ trivial ?_
      clear hK K
      refine anyR_one (i := 5) (by kernel_rfl) rfl (by rfl) (fun K hK => ?_)
      go_simp
      refine hK _ _ trivial ?_
      clear hK K
      refine anyR_done (by kernel_rfl) ?_ _
      gi_wp2
      refine ⟨fun b => b = w.heap.size ∨ b = w.heap.size + 1 ∨ b = w.heap.size + 1 + 1 ∨ (Value.slice (some ⟨g, 0, none⟩) (pre.length + 1) cap).ownBlock = some b, hC5.set_ (.inl rfl) _, ?_, _, rfl, Xo5.one, Xl5.far (by dsimp only; omega) _, Xc5.far (by dsimp only; omega) _, ?_⟩
      · rintro b (h | h | h | h)
        · exact .inl (.inl h)
        · exact .inl (.inr (.inl h))
        · exact .inl (.inr (.inr (.inl h)))
        · have e : g = b := by injection h
          subst e
          rcases hat with h' | h'
          · exact .inl (.inr (.inr (.inr h')))
          · exact .inr (by (try simp at h'); omega)
      · have h5 : w5.ownsRow (w.heap.size + 1 + 1 + 1) 3 1 (.slice (some ⟨g, 0, none⟩) (pre.length + 1) cap) ((pre ++ [x]).map (wt f n m c)).length (((pre ++ [x]).map (wt f n m c)).map vInt) := by
          rw [List.map_append, List.length_append]
          have := own_snoc (xs := pre.map (wt f n m c)) (k := wt f n m c x) (by rw [hlm]; exact hown5)
          simpa using this
        exact own_but h5 ((But.refl (fun b => b = w.heap.size) w5).set_ rfl _) (fun q hq e => by have : g = q := (by injection hq); omega)
    · skip
      go_simp
      refine ⟨trivial, rfl, callsIn_of ((hsum _ (Sl.drew Sp)).mono ?_)⟩
      rintro e Y ⟨rfl, rfl⟩
      refine hK _ _ trivial ?_
      clear hK K
      refine anyR_two (i := 0) (j := 3) (by kernel_rfl) rfl rfl (by rfl) (by rfl) (fun K hK => ?_) (fun K hK => ?_)
      · skip
        go_simp
        refine hK _ _ trivial ?_
        clear hK K
        refine anyR_one (i := 3) (by kernel_rfl) rfl (by rfl) (fun K hK => ?_)
        go_simp
        refine hK _ _ trivial ?_
        clear hK K
        refine anyR_one (i := 4) (by kernel_rfl) rfl (by rfl) (fun K hK => opIn_of (fun c h => by cases h) ?_)
        refine wp_append_lies _ _ _ 22 rfl (w.heap.size + 1 + 1 + 1) 3 i0 (.int .i64 0) 1 8 Try.underlying22 hi hz0 hz1 hz2 rfl (by decide) v _ _ rfl (hown.drew.alloc _) ⟨X₂.heap.size, 0, none⟩ 1 1 [.int .i64 (wt f n m c x)] rfl rfl (cell_one_new _ _ _) (by simp [Value.oneCell']) (by omega) (by simp [maxLen]; omega) (by omega) (by simp; omega) _ rfl ?_
        intro g cap w5 hown5 hgr hat hlt5
        rw [hlm] at hown5 ⊢
        have hC0 : But (fun b => b = w.heap.size ∨ b = w.heap.size + 1 ∨ b = w.heap.size + 1 + 1 ∨ v.ownBlock = some b) X₂ (X₂.drew.alloc (.cells #[.int .i64 (wt f n m c x)] 3)) := (But.refl _ X₂).drew.alloc _
        have hC5 := but_grown hC0 hgr (fun q hq => .inr (.inr (.inr hq)))
        have hg5 : ∀ q, q = w.heap.size ∨ q = w.heap.size + 1 ∨ q = w.heap.size + 1 + 1 → v.ownBlock ≠ some q := fun q hq e => by have := own_base hown q e; omega
        have Xo5 := ((Xo.drew).alloc (.cells #[.int .i64 (wt f n m c x)] 3)).grown hgr (fun e => hg5 _ (.inl rfl) e.symm)
        have Xl5 := ((Xl.drew).alloc (.cells #[.int .i64 (wt f n m c x)] 3)).grown hgr (fun e => hg5 _ (.inr (.inl rfl)) e.symm)
        have Xc5 := ((Xc.drew).alloc (.cells #[.int .i64 (wt f n m c x)] 3)).grown hgr (fun e => hg5 _ (.inr (.inr rfl)) e.symm)
        have y0 := Xo5.at_ 0 rfl; have yf := Xo5.free
        have hgb : w.heap.size + 1 + 1 < g := by
          rcases hat with h | h
          · have := own_base hown g h; omega
          · have h' : g = X₂.heap.size + 1 - 1 ∨ g = X₂.heap.size + 1 := by (try simp at h); omega
            omega
        refine hK _ _ trivial ?_
        clear hK K
        refine anyR_one (i := 5) (by kernel_rfl) rfl (by rfl) (fun K hK => ?_)
        go_simp
        refine hK _ _ trivial ?_
        clear hK K
        refine anyR_done (by kernel_rfl) ?_ _
        gi_wp2
        refine ⟨fun b => b = w.heap.size ∨ b = w.heap.size + 1 ∨ b = w.heap.size + 1 + 1 ∨ (Value.slice (some ⟨g, 0, none⟩) (pre.length + 1) cap).ownBlock = some b, hC5.set_ (.inl rfl) _, ?_, _, rfl, Xo5.one, Xl5.far (by dsimp only; omega) _, Xc5.far (by dsimp only; omega) _, ?_⟩
        · rintro b (h | h | h | h)
          · exact .inl (.inl h)
          · exact .inl (.inr (.inl h))
          · exact .inl (.inr (.inr (.inl h)))
          · have e : g = b := by injection h
            subst e
            rcases hat with h' | h'
            · exact .inl (.inr (.inr (.inr h')))
            · exact .inr (by (try simp at h'); omega)
        · have h5 : w5.ownsRow (w.heap.size + 1 + 1 + 1) 3 1 (.slice (some ⟨g, 0, none⟩) (pre.length + 1) cap) ((pre ++ [x]).map (wt f n m c)).length (((pre ++ [x]).map (wt f n m c)).map vInt) := by
            rw [List.map_append, List.length_append]
            have := own_snoc (xs := pre.map (wt f n m c)) (k := wt f n m c x) (by rw [hlm]; exact hown5)
            simpa using this
          exact own_but h5 ((But.refl (fun b => b = w.heap.size) w5).set_ rfl _) (fun q hq e => by have : g = q := (by injection hq); omega)
      · skip
        go_simp
        refine hK _ _ trivial ?_
        clear hK K
        refine anyR_one (i := 0) (by kernel_rfl) rfl (by rfl) (fun K hK => ?_)
        go_simp
        refine hK _ _ trivial ?_
        clear hK K
        refine anyR_one (i := 4) (by kernel_rfl) rfl (by rfl) (fun K hK => opIn_of (fun c h => by cases h) ?_)
        refine wp_append_lies _ _ _ 22 rfl (w.heap.size + 1 + 1 + 1) 3 i0 (.int .i64 0) 1 8 Try.underlying22 hi hz0 hz1 hz2 rfl (by decide) v _ _ rfl (hown.drew.alloc _) ⟨X₂.heap.size, 0, none⟩ 1 1 [.int .i64 (wt f n m c x)] rfl rfl (cell_one_new _ _ _) (by simp [Value.oneCell']) (by omega) (by simp [maxLen]; omega) (by omega) (by simp; omega) _ rfl ?_
        intro g cap w5 hown5 hgr hat hlt5
        rw [hlm] at hown5 ⊢
        have hC0 : But (fun b => b = w.heap.size ∨ b = w.heap.size + 1 ∨ b = w.heap.size + 1 + 1 ∨ v.ownBlock = some b) X₂ (X₂.drew.alloc (.cells #[.int .i64 (wt f n m c x)] 3)) := (But.refl _ X₂).drew.alloc _
        have hC5 := but_grown hC0 hgr (fun q hq => .inr (.inr (.inr hq)))
        have hg5 : ∀ q, q = w.heap.size ∨ q = w.heap.size + 1 ∨ q = w.heap.size + 1 + 1 → v.ownBlock ≠ some q := fun q hq e => by have := own_base hown q e; omega
        have Xo5 := ((Xo.drew).alloc (.cells #[.int .i64 (wt f n m c x)] 3)).grown hgr (fun e => hg5 _ (.inl rfl) e.symm)
        have Xl5 := ((Xl.drew).alloc (.cells #[.int .i64 (wt f n m c x)] 3)).grown hgr (fun e => hg5 _ (.inr (.inl rfl)) e.symm)
        have Xc5 := ((Xc.drew).alloc (.cells #[.int .i64 (wt f n m c x)] 3)).grown hgr (fun e => hg5 _ (.inr (.inr rfl)) e.symm)
        have y0 := Xo5.at_ 0 rfl; have yf := Xo5.free
        have hgb : w.heap.size + 1 + 1 < g := by
          rcases hat with h | h
          · have := own_base hown g h; omega
          · have h' : g = X₂.heap.size + 1 - 1 ∨ g = X₂.heap.size + 1 := by (try simp at h); omega
            omega
        refine hK _ _ trivial ?_
        clear hK K
        refine anyR_one (i := 5) (by kernel_rfl) rfl (by rfl) (fun K hK => ?_)
        go_simp
        refine hK _ _ trivial ?_
        clear hK K
        refine anyR_done (by kernel_rfl) ?_ _
        gi_wp2
        refine ⟨fun b => b = w.heap.size ∨ b = w.heap.size + 1 ∨ b = w.heap.size + 1 + 1 ∨ (Value.slice (some ⟨g, 0, none⟩) (pre.length + 1) cap).ownBlock = some b, hC5.set_ (.inl rfl) _, ?_, _, rfl, Xo5.one, Xl5.far (by dsimp only; omega) _, Xc5.far (by dsimp only; omega) _, ?_⟩
        · rintro b (h | h | h | h)
          · exact .inl (.inl h)
          · exact .inl (.inr (.inl h))
          · exact .inl (.inr (.inr (.inl h)))
          · have e : g = b := by injection h
            subst e
            rcases hat with h' | h'
            · exact .inl (.inr (.inr (.inr h')))
            · exact .inr (by (try simp at h'); omega)
        · have h5 : w5.ownsRow (w.heap.size + 1 + 1 + 1) 3 1 (.slice (some ⟨g, 0, none⟩) (pre.length + 1) cap) ((pre ++ [x]).map (wt f n m c)).length (((pre ++ [x]).map (wt f n m c)).map vInt) := by
            rw [List.map_append, List.length_append]
            have := own_snoc (xs := pre.map (wt f n m c)) (k := wt f n m c x) (by rw [hlm]; exact hown5)
            simpa using this
          exact own_but h5 ((But.refl (fun b => b = w.heap.size) w5).set_ rfl _) (fun q hq e => by have : g = q := (by injection hq); omega)
  case hdone =>
    rintro Dd C X hDd hnD ⟨v, h⟩ hbut hgC hdef
    have hf := h.foot
    subst hf
    have x0 := h.box.at_ 0 rfl; have lx := h.box.lt
    have hs1 := hbut.size
    have hbel : Below w.heap.size w X := hB1.trans ⟨hbut.os, hbut.tape, hbut.output, hbut.size, fun b hb => hbut.block b (by omega) (fun h => by
      rcases h with h | h | h | h
      · omega
      · omega
      · omega
      · exact hv0 b h)⟩
    have hbp := but_putObj X Dd (.deferred none)
    have B6 := hbel.trans (⟨hbp.os, hbp.tape, hbp.output, hbp.size, fun b hb => hbp.block b (by have := hbel.size; omega) (by omega)⟩ : Below w.heap.size _ _)
    have O6 := own_but h.own hbp (fun g hg e => hnD (.inr (.inr (.inr (by rw [← e]; exact hg)))))
    gi_wp2
    refine ⟨by simp, .inl ⟨_, _, rfl, run_takeDeferred hdef, ?_⟩⟩
    exact ⟨v, by simp [results, Try.results51, go_sem], v, rfl, own_mono O6 (by omega), B6⟩
  case hstop =>
    rintro Dd c pre C X hDd hnD hpre h
    exact h.elim
end Go.Proofs.Ytgpcmkoimgnlbaa
