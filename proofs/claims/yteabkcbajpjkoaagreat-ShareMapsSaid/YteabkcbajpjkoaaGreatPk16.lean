/- Walks of the share layer: the weights of a share, of the program. -/
import Derived.Test.YteabkcbajpjkoaaGreatPk15
import Derived.Deep.AppendLies
import Derived.Test.YteabkcbajpjkoaaGreatPk2
import Derived.Deep.RegionHeld3
import Derived.Test.YteabkcbajpjkoaaGreatPk3
namespace Go.Proofs.YteabkcbajpjkoaaGreat
open Go Go.RowKit
attribute [local go_sem] Oper.semAt_some
set_option linter.unusedVariables false
theorem ent_parts : ∀ args w, (callFunc 90 args).run Tryz.prog w = .ok (.enter 90 args) w := Go.Proofs.enters_of Tryz.func90 (by kernel_rfl) rfl
set_option maxRecDepth 100000 in
theorem share_parts (al ac : Option Addr) (n ca m cc : Nat) (w : World) :
    Calls Tryz.prog 52 #[.slice al n ca, .slice ac m cc] w fun e w' => e = .returned (.func (.func 90) #[] #[.pointer (some ⟨w.heap.size + 1, 0, none⟩), .pointer (some ⟨w.heap.size, 0, none⟩)]) ∧ Bx w' w.heap.size #[.slice al n ca] ∧ Bx w' (w.heap.size + 1) #[.slice ac m cc] ∧ w'.heap.size = w.heap.size + 2 ∧ Below w.heap.size w w' := by
  go_enter Tryz.func52, Tryz.ntmps52
  go_wp2
  go_ret
  refine ⟨rfl, (Bx.new w _ _).alloc _, ?_, by simp, by (repeat' (first | with_reducible assumption | with_reducible exact Below.refl _ _ | with_reducible refine Below.drew ?_ | with_reducible refine below_drewN ?_ _ | with_reducible refine balloc ?_ _ | with_reducible refine bset ?_ ?_ _ | with_reducible refine Below.setCell ?_ ?_ _ | with_reducible refine Below.alloc ?_ ?_ _ | omega | (simp; done) | (simp; omega)))⟩
  have h := Bx.new (w.alloc (.cells #[.slice al n ca] 25)) #[.slice ac m cc] 25
  rw [World.size_alloc] at h
  exact h
section
variable {F : Fence} {n : Nat} {P : Program} {ops : Array Oper} {Q : Exit → Act → World → Prop} {md : Region.Mode} {S : World → Prop}
/-- two may come up -/
theorem anyR_two {i j : Nat} {oi oj : Oper} {fuel : Nat} {listed : Array Bool} {a : Act} {w : World} (hr : Region.ready md ops listed = [i, j]) (hi : ops[i]? = some oi) (hj : ops[j]? = some oj) (hw : Region.wanted oi (yielded ops a.tmps) = true) (hw2 : Region.wanted oj (yielded ops a.tmps) = true)
    (h1 : ∀ K : Act → World → Prop, (∀ a' w', S w' → anyR F n P md ops Q S fuel (listed.setIfInBounds i true) a' w' → K a' w') → Oper.wpIn F n P oi a w K Q)
    (h2 : ∀ K : Act → World → Prop, (∀ a' w', S w' → anyR F n P md ops Q S fuel (listed.setIfInBounds j true) a' w' → K a' w') → Oper.wpIn F n P oj a w K Q) : anyR F n P md ops Q S (fuel + 1) listed a w := by
  refine ⟨fun h0 => (by rw [h0] at hr; cases hr), fun k hk => ?_⟩
  rw [hr] at hk
  simp only [List.mem_cons, List.not_mem_nil, or_false] at hk
  rcases hk with rfl | rfl
  · unfold wpOpIn
    simp only [hi, hw, if_true]
    exact h1 _ (fun a' w' hs ha => ⟨hs, ha⟩)
  · unfold wpOpIn
    simp only [hj, hw2, if_true]
    exact h2 _ (fun a' w' hs ha => ⟨hs, ha⟩)
end
/-- the loads of a node, as a slice -/
theorem part_sl {X : World} {b off n m : Nat} {c f : Nat → Int} (H : Sl X (some ⟨b, off, none⟩) n f) (hc : validK n m c) (j : Nat) :
    ∃ (a' : Option Addr) (cp : Nat), partV b off n m c j = .slice a' (bd n m c (j + 1) - bd n m c j) cp ∧ Sl X a' (bd n m c (j + 1) - bd n m c j) (fun i => f (bd n m c j + i)) := by
  have h1 := bd_step hc j
  have h2 := bd_le hc (j + 1)
  unfold partV
  split
  · rename_i e
    rw [e, Nat.sub_self]
    exact ⟨_, _, rfl, fun k hk => by omega⟩
  · refine ⟨_, _, rfl, ?_⟩
    have h3 := H.sub (x := bd n m c j) (by omega)
    intro k hk
    exact h3 k (by omega)
theorem part_sum (f : Nat → Int) (n m : Nat) (c : Nat → Int) (hc : validK n m c) (j : Nat) : sumTo (fun i => f (bd n m c j + i)) (bd n m c (j + 1) - bd n m c j) = wt f n m c j := by
  rw [sumTo_shift, Nat.add_sub_of_le (bd_step hc j)]; rfl
def wtL (f : Nat → Int) (n m : Nat) (c : Nat → Int) (k : Nat) : List Int := (List.range k).map (wt f n m c)
theorem wtL_length (f : Nat → Int) (n m : Nat) (c : Nat → Int) (k : Nat) : (wtL f n m c k).length = k := by simp [wtL]
/-- the word between two rounds -/
structure WW (f : Nat → Int) (n m : Nat) (c : Nat → Int) (bo bl bc : Nat) (vl vc : Value) (n₀ : Nat) (pre : List Nat) (C : Nat → Prop) (X : World) (v : Value) : Prop where
  foot : C = fun b => b = bo ∨ b = bl ∨ b = bc ∨ v.ownBlock = some b
  box : Bx X bo #[v]
  loads : Bx X bl #[vl]
  cuts : Bx X bc #[vc]
  own : X.ownsRow n₀ 3 1 v (pre.map (wt f n m c)).length ((pre.map (wt f n m c)).map vInt)
theorem own_but {w w' : World} {C : Nat → Prop} {base : Nat} {e : TypeId} {size n : Nat} {v : Value} {xs : List Value} (h : w.ownsRow base e size v n xs) (hg : But C w w') (hne : ∀ g, v.ownBlock = some g → ¬ C g) : w'.ownsRow base e size v n xs := by
  refine ⟨h.1, ?_⟩
  rcases h.2 with h' | ⟨g, cap, cur, rfl, hb, hh, rest⟩
  · exact .inl h'
  · refine .inr ⟨g, cap, cur, rfl, hb, ?_, rest⟩
    rw [hg.block g (own_lt h g rfl) (hne g rfl)]
    exact hh
theorem but_grown {C : Nat → Prop} {X Y Z : World} {row : Option Nat} (h : But C X Y) (hg : Y.grownBy Z row) (hr : ∀ g, row = some g → C g) : But C X Z :=
  ⟨hg.os.trans h.os, hg.tape.trans h.tape, hg.output.trans h.output, Nat.le_trans h.size hg.size, fun b hb hc => (hg.block b (Nat.lt_of_lt_of_le hb h.size) (fun e => hc (hr b e.symm))).trans (h.block b hb hc)⟩
theorem Bx.one {W : World} {b : Nat} {x0 y : Value} (h : Bx W b #[x0]) : Bx (W.setCell ⟨b, 0, none⟩ y) b #[y] := h.set_ 0 (by simp) y
theorem ww_stab {f : Nat → Int} {n m : Nat} {c : Nat → Int} {bo bl bc : Nat} {vl vc : Value} {n₀ n₁ : Nat} : Stab n₁ (fun pre C X => ∃ v, WW f n m c bo bl bc vl vc n₀ pre C X v) := by
  rintro pre C A B ⟨v, h⟩ hb
  have hf := h.foot
  subst hf
  exact ⟨v, rfl, h.box.but hb (fun h' => h'.2 (.inl rfl)), h.loads.but hb (fun h' => h'.2 (.inr (.inl rfl))), h.cuts.but hb (fun h' => h'.2 (.inr (.inr (.inl rfl)))), own_but h.own hb (fun g hg h' => h'.2 (.inr (.inr (.inr hg))))⟩
set_option maxRecDepth 100000 in
set_option maxHeartbeats 4000000 in
theorem share_weights (b off n ca m cc : Nat) (ac : Option Addr) (f c : Nat → Int) (w : World) (hn : n ≤ 64) (hf : okF n f) (hca : n ≤ ca) (hca2 : ca ≤ maxLen) (hc : validK n m c) (H : Sl w (some ⟨b, off, none⟩) n f) (HC : Sl w ac m c) :
    Calls Tryz.prog 29 #[.slice (some ⟨b, off, none⟩) n ca, .slice ac m cc] w fun e w' => ∃ v, e = .returned v ∧ w'.ownsRow w.heap.size 3 1 v (wtL f n m c (m + 1)).length ((wtL f n m c (m + 1)).map vInt) ∧ Below w.heap.size w w' := by
  obtain ⟨i0, hi, hz0, hz1, hz2⟩ := info_parts infoI
  have HV := hid hc
  have HF := hid hf
  clear hf
  refine callsIn_wide.1 (callsIn_of_wp_marks (F := Fence.wide) (n := 0) Tryz.func29 rfl trivial ?_ rfl)
  simp only [Tryz.ntmps29, List.size_toArray, List.length_cons, List.length_nil, Nat.reduceAdd, Nat.reduceSub, Array.replicate_succ, Array.replicate_zero, List.push_toArray, List.append_toArray, List.nil_append, List.cons_append]
  gi_wp2_with fail
  refine ⟨trivial, rfl, callsIn_wide.2 ((share_parts _ _ _ _ _ _ _).mono ?_)⟩
  rintro e w1 ⟨rfl, Xl, Xc, hsz, hb1⟩
  have Xo := (Bx.new w #[.slice none 0 0] 25).below hb1
  simp only [World.size_alloc] at Xl Xc hsz
  have hB1 : Below w.heap.size w w1 := bvia (below_alloc w (.cells #[.slice none 0 0] 25)) hb1
  gi_wp2_with fail
  have hit := parts_iter (w.heap.size + 1) (w.heap.size + 1 + 1) b off n ca m cc ac c w hn hca hca2 hc HC
  have hv0 : ∀ g, (Value.slice none 0 0).ownBlock = some g → False := fun g h => by cases h
  have W0 : WW f n m c w.heap.size (w.heap.size + 1) (w.heap.size + 1 + 1) (.slice (some ⟨b, off, none⟩) n ca) (.slice ac m cc) (w.heap.size + 1 + 1 + 1) [] (fun b => b = w.heap.size ∨ b = w.heap.size + 1 ∨ b = w.heap.size + 1 + 1 ∨ (Value.slice none 0 0).ownBlock = some b) w1 (.slice none 0 0) :=
    ⟨rfl, Xo, Xl, Xc, World.ownsRow_nil ..⟩
  clear Xo Xl Xc hb1
  refine wp_rangeR rfl ent_parts hit hB1 (fun _ => rfl) (fun pre C X => ∃ v, WW f n m c w.heap.size (w.heap.size + 1) (w.heap.size + 1 + 1) (.slice (some ⟨b, off, none⟩) n ca) (.slice ac m cc) (w.heap.size + 1 + 1 + 1) pre C X v) (fun _ _ _ _ => False)
    (fun b => b = w.heap.size ∨ b = w.heap.size + 1 ∨ b = w.heap.size + 1 + 1 ∨ (Value.slice none 0 0).ownBlock = some b) ?hRd ?hC ww_stab (fun c => fun _ _ _ _ h => h.elim) ⟨_, W0⟩ ?hround ?hdone ?hstop
  case hRd =>
    rintro pre C X ⟨v, h⟩
    exact ⟨h.loads, h.cuts⟩
  case hC =>
    rintro pre C X ⟨v, h⟩ b hb
    have l1 := h.box.lt; have l2 := h.loads.lt; have l3 := h.cuts.lt
    rw [h.foot] at hb
    rcases hb with rfl | rfl | rfl | hb
    · omega
    · omega
    · omega
    · have := own_base h.own b hb; have := own_lt h.own b hb; omega
  case hround =>
    rintro l pre x C X hl hl' hnl ⟨rec2, hrec2⟩ ⟨v, h⟩ hX hgC hpre
    unfold Round
    dsimp only [encS]
    gi_wp2_with fail
    refine ⟨Below.refl _ _, ?_⟩
    intro X₂ hb2 hs2 r2
    have hf := h.foot
    subst hf
    have l1 := h.box.lt; have l2 := h.loads.lt; have l3 := h.cuts.lt
    have hl0 : l ≠ w.heap.size ∧ l ≠ w.heap.size + 1 ∧ l ≠ w.heap.size + 1 + 1 ∧ v.ownBlock ≠ some l := ⟨fun e => hnl (.inl e), fun e => hnl (.inr (.inl e)), fun e => hnl (.inr (.inr (.inl e))), fun e => hnl (.inr (.inr (.inr e)))⟩
    obtain ⟨n1, n2, n3, n4⟩ := hl0
    have Xo := h.box.but hb2 (fun e => n1 e.symm); have Xl := h.loads.but hb2 (fun e => n2 e.symm); have Xc := h.cuts.but hb2 (fun e => n3 e.symm)
    have hown := own_but h.own hb2 (fun g hg e => n4 (by rw [← e]; exact hg))
    have hX2 : Below w.heap.size w X₂ := hX.trans ⟨hb2.os, hb2.tape, hb2.output, hb2.size, fun b hb => hb2.block b (by have := hX.size; omega) (by omega)⟩
    have hlen := hpre.length_le
    simp only [List.length_append, List.length_cons, List.length_nil, List.length_range, Nat.zero_add] at hlen
    have hm16 := HV.out.1
    obtain ⟨a', cp, hpv, Sp⟩ := part_sl (H.below hX2) HV.out x
    have hsum := fun W HS => share_sum a' (bd n m c (x + 1) - bd n m c x) cp (fun i => f (bd n m c x + i)) W (by have := bd_le HV.out (x + 1); omega) (fun k hk => HF.out _ (by have := bd_le HV.out (x + 1); omega)) HS
    rw [part_sum f n m c HV.out x] at hsum
    rw [hpv]
    have hlm : (pre.map (wt f n m c)).length = pre.length := by simp
    generalize bd n m c (x + 1) - bd n m c x = ln at Sp hsum
    have x0 := Xo.at_ 0 rfl
    have lo2 := Xo.lt; have lc2 := Xc.lt; have ll2 := Xl.lt
    have HS2 := hid hs2
    clear h hnl hgC hX hb2 r2 hpv hs2
    gi_upto_region 4 with (fail)
    refine wpIn_region_R (fun _ => True) (by kernel_rfl) ?_
    refine anyR_take (i := 1) (fun _ => trivial) rfl (by kernel_rfl) (fun _ _ _ h => h) (Or.inl ⟨by rfl, fun Y hYb => (by go_simp; rfl)⟩) trivial ?_
    simp only [Act.put, List.setIfInBounds_toArray]
    refine anyR_two (i := 0) (j := 2) (by kernel_rfl) rfl rfl (by rfl) (by rfl) (fun K hK => ?_) (fun K hK => ?_)
    · skip
      go_simp
      refine hK _ _ trivial ?_
      clear hK K
      refine anyR_one (i := 2) (by kernel_rfl) rfl (by rfl) (fun K hK => ?_)
      go_simp
      refine ⟨trivial, rfl, callsIn_of ((hsum _ (Sl.drew Sp)).mono ?_)⟩
      rintro e Y ⟨rfl, rfl⟩
      refine hK _ _ trivial ?_
      clear hK K
      refine anyR_one (i := 3) (by kernel_rfl) rfl (by rfl) (fun K hK => ?_)
      go_simp
      refine hK _ _ trivial ?_
      clear hK K
      refine anyR_one (i := 4) (by kernel_rfl) rfl (by rfl) (fun K hK => opIn_of (fun c h => by cases h) ?_)
      refine wp_append_lies _ _ _ 25 rfl (w.heap.size + 1 + 1 + 1) 3 i0 (.int .i64 0) 1 8 Tryz.underlying25 hi hz0 hz1 hz2 rfl (by decide) v _ _ rfl (hown.drew.alloc _) ⟨X₂.heap.size, 0, none⟩ 1 1 [.int .i64 (wt f n m c x)] rfl rfl (cell_one_new _ _ _) (by simp [Value.oneCell']) (by omega) (by simp [maxLen]; omega) (by omega) (by simp; omega) _ rfl ?_
      intro g cap w5 hown5 hgr hat hlt5
      rw [hlm] at hown5 ⊢
      have hC0 : But (fun b => b = w.heap.size ∨ b = w.heap.size + 1 ∨ b = w.heap.size + 1 + 1 ∨ v.ownBlock = some b) X₂ (X₂.drew.alloc (.cells #[.int .i64 (wt f n m c x)] 3)) := (But.refl _ X₂).drew.alloc _
      have hC5 := but_grown hC0 hgr (fun q hq => .inr (.inr (.inr hq)))
      have hg5 : ∀ q, q = w.heap.size ∨ q = w.heap.size + 1 ∨ q = w.heap.size + 1 + 1 → v.ownBlock ≠ some q := fun q hq e => by have := own_base hown q e; omega
      have Xo5 := ((Xo.drew).alloc (.cells #[.int .i64 (wt f n m c x)] 3)).grown hgr (fun e => hg5 _ (.inl rfl) e.symm)
      have Xl5 := ((Xl.drew).alloc (.cells #[.int .i64 (wt f n m c x)] 3)).grown hgr (fun e => hg5 _ (.inr (.inl rfl)) e.symm)
      have Xc5 := ((Xc.drew).alloc (.cells #[.int .i64 (wt f n m c x)] 3)).grown hgr (fun e => hg5 _ (.inr (.inr rfl)) e.symm)
      have y0 := Xo5.at_ 0 rfl; have yf := Xo5.free
      have hgb : w.heap.size + 1 + 1 < g := by
        rcases hat with h | h
        · have := own_base hown g h; omega
        · have h' : g = X₂.heap.size + 1 - 1 ∨ g = X₂.heap.size + 1 := by (try simp at h); omega
          omega
      refine hK _ _ trivial ?_
      clear hK K
      refine anyR_one (i := 5) (by kernel_rfl) rfl (by rfl) (fun K hK => ?_)
      go_simp
      refine hK _ _ trivial ?_
      clear hK K
      refine anyR_done (by kernel_rfl) ?_ _
      gi_wp2
      refine ⟨fun b => b = w.heap.size ∨ b = w.heap.size + 1 ∨ b = w.heap.size + 1 + 1 ∨ (Value.slice (some ⟨g, 0, none⟩) (pre.length + 1) cap).ownBlock = some b, hC5.set_ (.inl rfl) _, ?_, _, rfl, Xo5.one, Xl5.far (by dsimp only; omega) _, Xc5.far (by dsimp only; omega) _, ?_⟩
      · rintro b (h | h | h | h)
        · exact .inl (.inl h)
        · exact .inl (.inr (.inl h))
        · exact .inl (.inr (.inr (.inl h)))
        · have e : g = b := by injection h
          subst e
          rcases hat with h' | h'
          · exact .inl (.inr (.inr (.inr h')))
          · exact .inr (by (try simp at h'); omega)
      · have h5 : w5.ownsRow (w.heap.size + 1 + 1 + 1) 3 1 (.slice (some ⟨g, 0, none⟩) (pre.length + 1) cap) ((pre ++ [x]).map (wt f n m c)).length (((pre ++ [x]).map (wt f n m c)).map vInt) := by
          rw [List.map_append, List.length_append]
          have := own_snoc (xs := pre.map (wt f n m c)) (k := wt f n m c x) (by rw [hlm]; exact hown5)
          simpa using this
        exact own_but h5 ((But.refl (fun b => b = w.heap.size) w5).set_ rfl _) (fun q hq e => by have : g = q := (by injection hq); omega)
    · skip
      go_simp
      refine ⟨trivial, rfl, callsIn_of ((hsum _ (Sl.drew Sp)).mono ?_)⟩
      rintro e Y ⟨rfl, rfl⟩
      refine hK _ _ trivial ?_
      clear hK K
      refine anyR_two (i := 0) (j := 3) (by kernel_rfl) rfl rfl (by rfl) (by rfl) (fun K hK => ?_) (fun K hK => ?_)
      · skip
        go_simp
        refine hK _ _ trivial ?_
        clear hK K
        refine anyR_one (i := 3) (by kernel_rfl) rfl (by rfl) (fun K hK => ?_)
        go_simp
        refine hK _ _ trivial ?_
        clear hK K
        refine anyR_one (i := 4) (by kernel_rfl) rfl (by rfl) (fun K hK => opIn_of (fun c h => by cases h) ?_)
        refine wp_append_lies _ _ _ 25 rfl (w.heap.size + 1 + 1 + 1) 3 i0 (.int .i64 0) 1 8 Tryz.underlying25 hi hz0 hz1 hz2 rfl (by decide) v _ _ rfl (hown.drew.alloc _) ⟨X₂.heap.size, 0, none⟩ 1 1 [.int .i64 (wt f n m c x)] rfl rfl (cell_one_new _ _ _) (by simp [Value.oneCell']) (by omega) (by simp [maxLen]; omega) (by omega) (by simp; omega) _ rfl ?_
        intro g cap w5 hown5 hgr hat hlt5
        rw [hlm] at hown5 ⊢
        have hC0 : But (fun b => b = w.heap.size ∨ b = w.heap.size + 1 ∨ b = w.heap.size + 1 + 1 ∨ v.ownBlock = some b) X₂ (X₂.drew.alloc (.cells #[.int .i64 (wt f n m c x)] 3)) := (But.refl _ X₂).drew.alloc _
        have hC5 := but_grown hC0 hgr (fun q hq => .inr (.inr (.inr hq)))
        have hg5 : ∀ q, q = w.heap.size ∨ q = w.heap.size + 1 ∨ q = w.heap.size + 1 + 1 → v.ownBlock ≠ some q := fun q hq e => by have := own_base hown q e; omega
        have Xo5 := ((Xo.drew).alloc (.cells #[.int .i64 (wt f n m c x)] 3)).grown hgr (fun e => hg5 _ (.inl rfl) e.symm)
        have Xl5 := ((Xl.drew).alloc (.cells #[.int .i64 (wt f n m c x)] 3)).grown hgr (fun e => hg5 _ (.inr (.inl rfl)) e.symm)
        have Xc5 := ((Xc.drew).alloc (.cells #[.int .i64 (wt f n m c x)] 3)).grown hgr (fun e => hg5 _ (.inr (.inr rfl)) e.symm)
        have y0 := Xo5.at_ 0 rfl; have yf := Xo5.free
        have hgb : w.heap.size + 1 + 1 < g := by
          rcases hat with h | h
          · have := own_base hown g h; omega
          · have h' : g = X₂.heap.size + 1 - 1 ∨ g = X₂.heap.size + 1 := by (try simp at h); omega
            omega
        refine hK _ _ trivial ?_
        clear hK K
        refine anyR_one (i := 5) (by kernel_rfl) rfl (by rfl) (fun K hK => ?_)
        go_simp
        refine hK _ _ trivial ?_
        clear hK K
        refine anyR_done (by kernel_rfl) ?_ _
        gi_wp2
        refine ⟨fun b => b = w.heap.size ∨ b = w.heap.size + 1 ∨ b = w.heap.size + 1 + 1 ∨ (Value.slice (some ⟨g, 0, none⟩) (pre.length + 1) cap).ownBlock = some b, hC5.set_ (.inl rfl) _, ?_, _, rfl, Xo5.one, Xl5.far (by dsimp only; omega) _, Xc5.far (by dsimp only; omega) _, ?_⟩
        · rintro b (h | h | h | h)
          · exact .inl (.inl h)
          · exact .inl (.inr (.inl h))
          · exact .inl (.inr (.inr (.inl h)))
          · have e : g = b := by injection h
            subst e
            rcases hat with h' | h'
            · exact .inl (.inr (.inr (.inr h')))
            · exact .inr (by (try simp at h'); omega)
        · have h5 : w5.ownsRow (w.heap.size + 1 + 1 + 1) 3 1 (.slice (some ⟨g, 0, none⟩) (pre.length + 1) cap) ((pre ++ [x]).map (wt f n m c)).length (((pre ++ [x]).map (wt f n m c)).map vInt) := by
            rw [List.map_append, List.length_append]
            have := own_snoc (xs := pre.map (wt f n m c)) (k := wt f n m c x) (by rw [hlm]; exact hown5)
            simpa using this
          exact own_but h5 ((But.refl (fun b => b = w.heap.size) w5).set_ rfl _) (fun q hq e => by have : g = q := (by injection hq); omega)
      · skip
        go_simp
        refine hK _ _ trivial ?_
        clear hK K
        refine anyR_one (i := 0) (by kernel_rfl) rfl (by rfl) (fun K hK => ?_)
        go_simp
        refine hK _ _ trivial ?_
        clear hK K
        refine anyR_one (i := 4) (by kernel_rfl) rfl (by rfl) (fun K hK => opIn_of (fun c h => by cases h) ?_)
        refine wp_append_lies _ _ _ 25 rfl (w.heap.size + 1 + 1 + 1) 3 i0 (.int .i64 0) 1 8 Tryz.underlying25 hi hz0 hz1 hz2 rfl (by decide) v _ _ rfl (hown.drew.alloc _) ⟨X₂.heap.size, 0, none⟩ 1 1 [.int .i64 (wt f n m c x)] rfl rfl (cell_one_new _ _ _) (by simp [Value.oneCell']) (by omega) (by simp [maxLen]; omega) (by omega) (by simp; omega) _ rfl ?_
        intro g cap w5 hown5 hgr hat hlt5
        rw [hlm] at hown5 ⊢
        have hC0 : But (fun b => b = w.heap.size ∨ b = w.heap.size + 1 ∨ b = w.heap.size + 1 + 1 ∨ v.ownBlock = some b) X₂ (X₂.drew.alloc (.cells #[.int .i64 (wt f n m c x)] 3)) := (But.refl _ X₂).drew.alloc _
        have hC5 := but_grown hC0 hgr (fun q hq => .inr (.inr (.inr hq)))
        have hg5 : ∀ q, q = w.heap.size ∨ q = w.heap.size + 1 ∨ q = w.heap.size + 1 + 1 → v.ownBlock ≠ some q := fun q hq e => by have := own_base hown q e; omega
        have Xo5 := ((Xo.drew).alloc (.cells #[.int .i64 (wt f n m c x)] 3)).grown hgr (fun e => hg5 _ (.inl rfl) e.symm)
        have Xl5 := ((Xl.drew).alloc (.cells #[.int .i64 (wt f n m c x)] 3)).grown hgr (fun e => hg5 _ (.inr (.inl rfl)) e.symm)
        have Xc5 := ((Xc.drew).alloc (.cells #[.int .i64 (wt f n m c x)] 3)).grown hgr (fun e => hg5 _ (.inr (.inr rfl)) e.symm)
        have y0 := Xo5.at_ 0 rfl; have yf := Xo5.free
        have hgb : w.heap.size + 1 + 1 < g := by
          rcases hat with h | h
          · have := own_base hown g h; omega
          · have h' : g = X₂.heap.size + 1 - 1 ∨ g = X₂.heap.size + 1 := by (try simp at h); omega
            omega
        refine hK _ _ trivial ?_
        clear hK K
        refine anyR_one (i := 5) (by kernel_rfl) rfl (by rfl) (fun K hK => ?_)
        go_simp
        refine hK _ _ trivial ?_
        clear hK K
        refine anyR_done (by kernel_rfl) ?_ _
        gi_wp2
        refine ⟨fun b => b = w.heap.size ∨ b = w.heap.size + 1 ∨ b = w.heap.size + 1 + 1 ∨ (Value.slice (some ⟨g, 0, none⟩) (pre.length + 1) cap).ownBlock = some b, hC5.set_ (.inl rfl) _, ?_, _, rfl, Xo5.one, Xl5.far (by dsimp only; omega) _, Xc5.far (by dsimp only; omega) _, ?_⟩
        · rintro b (h | h | h | h)
          · exact .inl (.inl h)
          · exact .inl (.inr (.inl h))
          · exact .inl (.inr (.inr (.inl h)))
          · have e : g = b := by injection h
            subst e
            rcases hat with h' | h'
            · exact .inl (.inr (.inr (.inr h')))
            · exact .inr (by (try simp at h'); omega)
        · have h5 : w5.ownsRow (w.heap.size + 1 + 1 + 1) 3 1 (.slice (some ⟨g, 0, none⟩) (pre.length + 1) cap) ((pre ++ [x]).map (wt f n m c)).length (((pre ++ [x]).map (wt f n m c)).map vInt) := by
            rw [List.map_append, List.length_append]
            have := own_snoc (xs := pre.map (wt f n m c)) (k := wt f n m c x) (by rw [hlm]; exact hown5)
            simpa using this
          exact own_but h5 ((But.refl (fun b => b = w.heap.size) w5).set_ rfl _) (fun q hq e => by have : g = q := (by injection hq); omega)
  case hdone =>
    rintro Dd C X hDd hnD ⟨v, h⟩ hbut hgC hdef
    have hf := h.foot
    subst hf
    have x0 := h.box.at_ 0 rfl; have lx := h.box.lt
    have hs1 := hbut.size
    have hbel : Below w.heap.size w X := hB1.trans ⟨hbut.os, hbut.tape, hbut.output, hbut.size, fun b hb => hbut.block b (by omega) (fun h => by
      rcases h with h | h | h | h
      · omega
      · omega
      · omega
      · exact hv0 b h)⟩
    have hbp := but_putObj X Dd (.deferred none)
    have B6 := hbel.trans (⟨hbp.os, hbp.tape, hbp.output, hbp.size, fun b hb => hbp.block b (by have := hbel.size; omega) (by omega)⟩ : Below w.heap.size _ _)
    have O6 := own_but h.own hbp (fun g hg e => hnD (.inr (.inr (.inr (by rw [← e]; exact hg)))))
    gi_wp2
    refine ⟨by simp, .inl ⟨_, _, rfl, run_takeDeferred hdef, ?_⟩⟩
    exact ⟨v, by simp [results, Tryz.results29, go_sem], v, rfl, own_mono O6 (by omega), B6⟩
  case hstop =>
    rintro Dd c pre C X hDd hnD hpre h
    exact h.elim
end Go.Proofs.YteabkcbajpjkoaaGreat
/- Walks of the share layer: Best, Fits, Greedy and Nodes of the program; Greedy and Nodes of the reference. -/
namespace Go.Proofs.YteabkcbajpjkoaaGreat
open Go Go.RowKit
set_option linter.unusedVariables false
/-- what Best gives -/
def besL (f : Nat → Int) (n : Nat) (k : Int) : List Int := if vL n f && within k 1 16 then bestL f n (leastL f n k.toNat) (k.toNat - 1) 0 else []
set_option maxRecDepth 100000 in
set_option maxHeartbeats 1000000 in
theorem share_Best (a : Option Addr) (n ca : Nat) (k : Int) (f : Nat → Int) (w : World) (hn : n ≤ 100000000) (hca : n ≤ ca) (hca2 : ca ≤ maxLen) (H : Sl w a n f) :
    Calls Tryz.prog 16 #[.slice a n ca, .int .i64 k] w (ListPost (besL f n k) (askS (vL n f) (within k 1 16)) w) := by
  cases hv : vL n f
  · have hE := hid (show besL f n k = [] by simp [besL, hv])
    go_enter Tryz.func16, Tryz.ntmps16
    go_wp2_with (go_at_call 44; refine (share_among a n ca k f _ hn H).mono ?_; rintro e w' ⟨rfl, rfl⟩; rw [hv])
    all_goals
      go_ret2
      rw [hE.out]
      exact listPost_nil (by (repeat' (first | with_reducible assumption | with_reducible exact Below.refl _ _ | with_reducible refine Below.drew ?_ | with_reducible refine below_drewN ?_ _ | with_reducible refine balloc ?_ _ | with_reducible refine bset ?_ ?_ _ | with_reducible refine Below.setCell ?_ ?_ _ | with_reducible refine Below.alloc ?_ ?_ _ | omega | (simp; done) | (simp; omega))))
  · cases hk : within k 1 16
    · have hE := hid (show besL f n k = [] by simp [besL, hk])
      go_enter Tryz.func16, Tryz.ntmps16
      go_wp2_with (go_at_call 44; refine (share_among a n ca k f _ hn H).mono ?_; rintro e w' ⟨rfl, rfl⟩; rw [hv, hk])
      go_ret2
      rw [hE.out]
      exact listPost_nil (by (repeat' (first | with_reducible assumption | with_reducible exact Below.refl _ _ | with_reducible refine Below.drew ?_ | with_reducible refine below_drewN ?_ _ | with_reducible refine balloc ?_ _ | with_reducible refine bset ?_ ?_ _ | with_reducible refine Below.setCell ?_ ?_ _ | with_reducible refine Below.alloc ?_ ?_ _ | omega | (simp; done) | (simp; omega))))
    · have hk2 := (within_iff _ _ _).1 hk
      obtain ⟨m, rfl⟩ : ∃ m : Nat, k = (m : Int) := ⟨k.toNat, by omega⟩
      have hE := hid (show besL f n m = bestL f n (leastL f n m) (m - 1) 0 by simp [besL, hv, hk])
      have hV := (vL_iff _ _).1 hv
      have hl := fun W H => share_best a n ca m f W hV (by omega) (by omega) hca hca2 H
      generalize bestL f n (leastL f n m) (m - 1) 0 = L at *
      go_enter Tryz.func16, Tryz.ntmps16
      go_wp2_with (first | (go_at_call 44; refine (share_among a n ca m f _ hn H).mono ?_; rintro e w' ⟨rfl, rfl⟩; rw [hv, hk]) | (go_at_call 46; refine (hl _ H).mono ?_; rintro e w1 ⟨v, rfl, hown, hb1⟩))
      go_ret2
      rw [hE.out]
      exact listPost_own hown hb1
end Go.Proofs.YteabkcbajpjkoaaGreat
/- Walks of the share layer: Peak, Weights and Nodes. -/
namespace Go.Proofs.YteabkcbajpjkoaaGreat
open Go Go.RowKit
set_option linter.unusedVariables false
theorem mxTo_one {f : Nat → Int} (h : 0 ≤ f 0) : mxTo f 1 = f 0 := by
  show (if (0 : Int) < f 0 then f 0 else 0) = f 0
  rcases Int.lt_or_le 0 (f 0) with h' | h'
  · rw [if_pos h']
  · rw [if_neg (by omega)]; omega
theorem mxTo_le2 {f : Nat → Int} {B : Int} {n : Nat} (hB : 0 ≤ B) (h : ∀ k, k < n → f k ≤ B) : ∀ k, k ≤ n → mxTo f k ≤ B := fun k hk => (mxTo_le hB k).2 fun i hi => h i (by omega)
set_option maxRecDepth 100000 in
theorem slices_max (a : Option Addr) (n ca : Nat) (f : Nat → Int) (w : World) (hn : n ≤ 100000) (h0 : 0 < n) (hf : ∀ k, k < n → 0 ≤ f k ∧ f k ≤ 64000000000) (H : Sl w a n f) : Calls Tryz.prog 28 #[.slice a n ca] w fun e w' => e = .returned (.int .i64 (mxTo f n)) ∧ w = w' := by
  obtain ⟨b, off, rfl, hb, hc0⟩ := H 0 h0
  rw [Nat.add_zero] at hc0
  have hf0 := hf 0 h0
  have h1 := hid (mxTo_one (f := f) hf0.1)
  have HF := hid hf; clear hf
  go_enter Tryz.func28, Tryz.ntmps28
  go_wp2
  go_loop [3, 4] (fun m i => ∃ k : Nat, 1 ≤ k ∧ k ≤ n ∧ i = .int .i64 k ∧ m = .int .i64 (mxTo f k)) (fun _ i => n - (intOf i).toNat)
  case atStart => exact ⟨1, by omega, h0, rfl, by rw [h1.out]⟩
  case round =>
    obtain ⟨k, hk1, hk, rfl, rfl⟩ := hrel
    by_cases hlt : k < n
    · obtain ⟨b2, off2, e2, hb2, hc⟩ := H k hlt
      injection e2 with e2; injection e2 with e21 e22 _
      subst e21 e22
      have hm : mxTo f (k + 1) = if mxTo f k < f k then f k else mxTo f k := rfl
      have HM := hid hm; clear hm
      generalize hx : mxTo f k = x at HM ⊢
      have HX := hid hx; clear hx
      go_wp2
      all_goals
        go_round
        case rel =>
          refine ⟨k + 1, by omega, by omega, by go_num, ?_⟩
          rw [HM.out] <;> first
            | rfl
            | (rw [if_pos (by omega)])
            | (rw [if_neg (by omega)])
            | (congr 1; split <;> omega)
        case measure => simp [intOf]; omega
    · obtain rfl : k = n := (by omega)
      go_wp2
      go_ret
      exact ⟨rfl, rfl⟩
theorem wtL_get (f : Nat → Int) (n m : Nat) (c : Nat → Int) (k : Nat) {j : Nat} (h : j < k) : (wtL f n m c k).getD j 0 = wt f n m c j := by
  simp [wtL, List.getD_eq_getElem?_getD, h]
end Go.Proofs.YteabkcbajpjkoaaGreat
/- Walks of the share layer: the reference's table of least peaks. -/
namespace Go.Proofs.YteabkcbajpjkoaaGreat
open Go Go.RowKit
set_option linter.unusedVariables false
def rowV (n : Nat) (g : Nat) : Value := .slice (some ⟨g, 0, none⟩) n n
/-- a list of k rows of n ints, made by append -/
def TB (F : Nat → Nat → Int) (n : Nat) (W : World) (base : Nat) (v : Value) (k : Nat) : Prop :=
  ∃ gs : List Nat, gs.length = k ∧ W.ownsRow base 25 1 v k (gs.map (rowV n)) ∧ ∀ j, j < k → Ro W (gs.getD j 0) n (F j) ∧ base ≤ gs.getD j 0 ∧ v.ownBlock ≠ some (gs.getD j 0)
theorem TB.below {F : Nat → Nat → Int} {n : Nat} {W W' : World} {base : Nat} {v : Value} {k : Nat} (h : TB F n W base v k) (hb : Below W.heap.size W W') : TB F n W' base v k := by
  obtain ⟨gs, h1, h2, h3⟩ := h
  exact ⟨gs, h1, own_below h2 hb, fun j hj => ⟨(h3 j hj).1.below hb, (h3 j hj).2⟩⟩
theorem TB.nil (F : Nat → Nat → Int) (n : Nat) (W : World) (base : Nat) : TB F n W base (.slice none 0 0) 0 :=
  ⟨[], rfl, World.ownsRow_nil .., fun j hj => by omega⟩
theorem TB.look {F : Nat → Nat → Int} {n : Nat} {W : World} {base : Nat} {v : Value} {k : Nat} (h : TB F n W base v k) (j : Nat) (hj : j < k) :
    ∃ gv cap g, v = .slice (some ⟨gv, 0, none⟩) k cap ∧ gv < W.heap.size ∧ W.cell? ⟨gv, j, none⟩ = some (.slice (some ⟨g, 0, none⟩) n n) ∧ Ro W g n (F j) := by
  obtain ⟨gs, h1, h2, h3⟩ := h
  obtain ⟨gv, cap, hv, hb, hlt⟩ := h2.form (by omega)
  refine ⟨gv, cap, gs.getD j 0, hv, hlt, ?_, (h3 j hj).1⟩
  subst hv
  rw [h2.cellAt j (by omega)]
  rw [List.getElem?_map, List.getElem?_eq_getElem (by omega)]
  simp [rowV, List.getD_eq_getElem?_getD, List.getElem?_eq_getElem (show j < gs.length by omega)]
theorem TB.own {F : Nat → Nat → Int} {n : Nat} {W : World} {base : Nat} {v : Value} {k : Nat} (h : TB F n W base v k) : ∀ g, v.ownBlock = some g → g < W.heap.size := by
  obtain ⟨gs, h1, h2, h3⟩ := h
  exact own_lt h2
theorem Ro.at_ {W : World} {b n : Nat} {f : Nat → Int} (h : Ro W b n f) (k : Nat) (hk : k < n) : W.cell? ⟨b, k, none⟩ = some (.int .i64 (f k)) := h.2 k hk
/-- the bounds of a total -/
theorem sg_most {f : Nat → Int} {n : Nat} (hn : n ≤ 64) (hf : ∀ k, k < n → 0 ≤ f k ∧ f k ≤ 1000000000) {x y : Nat} (hxy : x ≤ y) (hy : y ≤ n) : 0 ≤ sg f x y ∧ sg f x y ≤ 64000000000 := by
  have h1 := sg_nonneg (fun k hk => (hf k hk).1) hxy hy
  have h2 := (sumTo_most hf x (by omega)).1
  have h3 := (sumTo_most hf y hy).2
  refine ⟨h1, ?_⟩
  simp only [sg]; omega
end Go.Proofs.YteabkcbajpjkoaaGreat
/- Walks of the share layer: node, weights, greatest, Weights and Peak of the reference. -/
namespace Go.Proofs.YteabkcbajpjkoaaGreat
open Go Go.RowKit
set_option linter.unusedVariables false
theorem ref9_node (a : Option Addr) (m ca n x : Nat) (c : Nat → Int) (w : World) (hm : m ≤ 100000) (H : Sl w a m c) (hx : x ≤ 100000) (hK : validK n m c) :
    Calls Tryz.prog 25 #[.slice a m ca, .int .i64 (x : Int)] w fun e w' => (∃ j : Nat, IsNode m c x j ∧ e = .returned (.int .i64 (j : Int))) ∧ w = w' := by
  have HK := hid hK; clear hK
  go_enter Tryz.func25, Tryz.ntmps25
  go_wp2
  go_loop [5] (fun i => ∃ j : Nat, j ≤ m ∧ i = .int .i64 (j : Int) ∧ ∀ i, i < j → c i ≤ x) (fun i => m - (intOf i).toNat)
  case atStart => exact ⟨0, Nat.zero_le _, rfl, fun i hi => by omega⟩
  case round =>
    obtain ⟨j, hj, rfl, hle⟩ := hrel
    have HLE := hid hle; clear hle
    by_cases hlt : j < m
    · obtain ⟨b, off, rfl, hb, hc⟩ := H j hlt
      by_cases hcx : c j ≤ x
      · go_wp2
        go_round
        case rel => exact ⟨j + 1, by omega, by go_num, fun i hi => by
          rcases Nat.lt_succ_iff_lt_or_eq.1 hi with h | rfl
          · exact HLE.out i h
          · exact hcx⟩
        case measure => simp [intOf] <;> omega
      · go_wp2
        go_ret
        exact ⟨⟨j, ⟨by omega, HLE.out, fun _ => by omega⟩, rfl⟩, rfl⟩
    · obtain rfl : j = m := (by omega)
      go_wp2
      go_ret
      exact ⟨⟨j, ⟨by omega, HLE.out, fun h => by omega⟩, rfl⟩, rfl⟩
theorem isNode_ex (m : Nat) (c : Nat → Int) (x : Nat) : ∃ j, IsNode m c x j := by
  obtain ⟨a1, a2, a3, a4⟩ := firstN_spec (P := fun j => decide ((x : Int) < c j)) m 0
  refine ⟨firstN (fun j => decide ((x : Int) < c j)) m 0, by omega, fun i hi => ?_, fun h => ?_⟩
  · have := a3 i (Nat.zero_le _) hi
    have := of_decide_eq_false this
    omega
  · exact of_decide_eq_true (a4 (by omega))
theorem isNode_uniq {m : Nat} {c : Nat → Int} {x i j : Nat} (h : IsNode m c x i) (h' : IsNode m c x j) : i = j := by
  obtain ⟨a1, a2, a3⟩ := h
  obtain ⟨b1, b2, b3⟩ := h'
  rcases Nat.lt_trichotomy i j with h | h | h
  · have := b2 i h; have := a3 (by omega); omega
  · exact h
  · have := a2 j h; have := b3 (by omega); omega
theorem ref9_greatest (a : Option Addr) (n ca : Nat) (f : Nat → Int) (w : World) (hn : n ≤ 100000) (H : Sl w a n f) :
    Calls Tryz.prog 32 #[.slice a n ca] w fun e w' => e = .returned (.int .i64 (mxTo f n)) ∧ w = w' := by
  go_enter Tryz.func32, Tryz.ntmps32
  go_wp2
  go_loop [3, 4] (fun s i => ∃ j : Nat, j ≤ n ∧ i = .int .i64 (j : Int) ∧ s = .int .i64 (mxTo f j)) (fun _ i => n - (intOf i).toNat)
  case atStart => exact ⟨0, Nat.zero_le _, rfl, rfl⟩
  case round =>
    obtain ⟨j, hj, rfl, rfl⟩ := hrel
    by_cases hlt : j < n
    · obtain ⟨b, off, rfl, hb, hc⟩ := H j hlt
      have hs : mxTo f (j + 1) = if mxTo f j < f j then f j else mxTo f j := rfl
      generalize mxTo f j = S at *
      by_cases hcx : S < f j
      · rw [if_pos hcx] at hs
        have HS := hid hs; clear hs
        go_wp2
        go_round
        case rel => exact ⟨j + 1, by omega, by go_num, by rw [HS.out]⟩
        case measure => simp [intOf] <;> omega
      · rw [if_neg hcx] at hs
        have HS := hid hs; clear hs
        go_wp2
        go_round
        case rel => exact ⟨j + 1, by omega, by go_num, by rw [HS.out]⟩
        case measure => simp [intOf] <;> omega
    · obtain rfl : j = n := (by omega)
      go_wp2
      go_ret
      exact ⟨rfl, rfl⟩
set_option maxRecDepth 100000 in
set_option maxHeartbeats 4000000 in
theorem ref9_weights (a ac : Option Addr) (n m ca cc : Nat) (f c : Nat → Int) (w : World) (hV : validL n f) (hK : validK n m c) (H : Sl w a n f) (HC : Sl w ac m c) :
    Calls Tryz.prog 33 #[.slice a n ca, .slice ac m cc] w fun e w' => ∃ g, e = .returned (.slice (some ⟨g, 0, none⟩) (m + 1) (m + 1)) ∧ w.heap.size ≤ g ∧ Ro w' g (m + 1) (wt f n m c) ∧ Below w.heap.size w w' := by
  obtain ⟨i0, hi, hz0, hz1, hz2⟩ := info_parts infoI
  have hm16 := hK.1
  have v2 := hV.2.1
  have HV := hid hV; have HK := hid hK; clear hV hK
  have hmk := mk_ints (m + 1) ((m : Int) + 1) (by omega) (by omega) w
  have hro := ro_made w (m + 1)
  have hbr : Below w.heap.size w (w.alloc (.cells (zcells (m + 1)) 3)) := below_alloc _ _
  generalize hW0 : w.alloc (.cells (zcells (m + 1)) 3) = W0 at *
  have HW0 := hid hW0; clear hW0
  generalize hr : w.heap.size = r at *
  have HR := hid hr; clear hr
  go_enter Tryz.func33, Tryz.ntmps33
  go_wp2
  go_loopw [6] (fun i wr => ∃ x : Nat, x ≤ n ∧ i = .int .i64 x ∧ Ro wr r (m + 1) (fun j => wtTo f n m c x j) ∧ Below r w wr) (fun i _ => n - (intOf i).toNat)
  case atStart => exact ⟨0, Nat.zero_le _, rfl, by simp only [wtTo_zero]; exact hro, hbr⟩
  case round =>
    obtain ⟨x, hx, rfl, hrx, hb⟩ := hrel
    have hb' : Below w.heap.size w wr := by rw [HR.out]; exact hb
    by_cases hlt : x < n
    · obtain ⟨b, off, rfl, hbl, hcf⟩ := H x hlt
      rw [HR.out] at hbl
      obtain ⟨j, hjn⟩ := isNode_ex m c x
      have hjm := hjn.1
      have hlr := hrx.lt
      have hBW : ∀ W, But (fun b => b = r) wr W → Below r w W := fun W h => hb.trans ⟨h.os, h.tape, h.output, h.size, fun q hq => h.block q (by omega) (by omega)⟩
      have hnode : ∀ W, But (fun b => b = r) wr W → Calls Tryz.prog 25 #[.slice ac m cc, .int .i64 (x : Int)] W fun e w' => e = .returned (.int .i64 (j : Int)) ∧ W = w' := fun W hW =>
        (ref9_node ac m cc n x c W (by omega) (HC.below (by rw [HR.out]; exact hBW W hW)) (by omega) HK.out).mono fun e w' h => by
          obtain ⟨⟨j', h1, h2⟩, h3⟩ := h
          obtain rfl := isNode_uniq hjn h1
          exact ⟨h2, h3⟩
      have r1 : ∀ W, But (fun b => b = r) wr W → W.cell? ⟨b, off + x, none⟩ = some (.int .i64 (f x)) := fun W h => (bcell (hBW W h) _ _ hbl).trans hcf
      have hset := hrx.set_ j (wtTo f n m c x j + f x)
      have hset' := hset.congr (g := fun i => wtTo f n m c (x + 1) i) (fun i hi => by
        rw [wtTo_node HK.out hlt hjn i]; rfl)
      have row := hrx.at_ j (by omega)
      have fr := hrx.free
      have hfx := HV.out.2.2 x hlt
      have hw0 : 0 ≤ wtTo f n m c x j ∧ wtTo f n m c x j ≤ 64000000000 := sg_most v2 HV.out.2.2 (by have := bd_step HK.out j; omega) (by have := bd_le HK.out (j + 1); omega)
      have HS := hid hset'; have HJ := hid hjn
      clear hset hset' hjn
      generalize wtTo f n m c x j = S at *
      go_upto_region 5 with (fail)
      have hcr := r1 _ (But.refl _ _)
      have q0 : (0 : Int) ≤ (j : Int) := by omega
      have q1 : (j : Int) < (m : Int) + 1 := by omega
      refine wp_region_still_tail 12 (by kernel_rfl) (by kernel_rfl) ?_
      simp only [List.take_succ_cons, List.take_zero, List.drop_succ_cons, List.drop_zero]
      change wpStill _ _ wr.drew _ _ _
      repeat still_step
      refine wpStill_step (fun K hK => ?_)
      go_simp
      refine ⟨.int .i64 (j : Int), ?_, hK _ ?_⟩
      · exact (hnode _ (But.refl _ _).drew).mono fun e w' h => ⟨h.1, h.2.symm⟩
      clear hK K
      repeat still_step
      refine wpStill_nil ?_
      change wpList _ _ _ _ _ wr.drew
      go_wp2
      go_roundw
      case rel => exact ⟨x + 1, by omega, by go_num, HS.out.drew, (hb.setCell (Nat.le_refl _) _).drew⟩
      case measure => simp [intOf] <;> omega
    · obtain rfl : x = n := (by omega)
      have hfin := hrx.congr (fun j hj => wtTo_end HK.out j)
      have HF := hid hfin; clear hfin hrx
      go_wp2
      go_ret
      exact ⟨r, rfl, Nat.le_refl _, HF.out, hb⟩
/-- a row of its own that may be written, or none, and an error -/
def RowPost (L : List Int) (err : Int) (w : World) (e : Ending) (w' : World) : Prop :=
  ∃ v, e = .returned (.tuple #[v, .int .i64 err]) ∧ ((L = [] ∧ v = .slice none 0 0) ∨ ∃ g, v = .slice (some ⟨g, 0, none⟩) L.length L.length ∧ w.heap.size ≤ g ∧ Ro w' g L.length (fun k => L.getD k 0)) ∧ Below w.heap.size w w'
theorem RowPost.list {L : List Int} {err : Int} {w : World} {e : Ending} {w' : World} (h : RowPost L err w e w') : ListPost L err w e w' := by
  obtain ⟨v, rfl, h, hb⟩ := h
  rcases h with ⟨rfl, rfl⟩ | ⟨g, rfl, hg, hr⟩
  · exact listPost_nil hb
  · exact ⟨_, _, rfl, hr.sl, hb⟩
end Go.Proofs.YteabkcbajpjkoaaGreat
/- Plain words of the moves of shares: moved, even, rebalanced. -/
namespace Go.Proofs.YteabkcbajpjkoaaGreat
open Go Go.RowKit
set_option linter.unusedVariables false
/-! ### a move -/
/-! ### even -/
/-! ### rebalanced -/
def nodeOf (m : Nat) (c : Nat → Int) (x : Nat) : Nat := firstN (fun j => decide ((x : Int) < c j)) m 0
theorem nodeOf_is (m : Nat) (c : Nat → Int) (x : Nat) : IsNode m c x (nodeOf m c x) := by
  obtain ⟨a1, a2, a3, a4⟩ := firstN_spec (P := fun j => decide ((x : Int) < c j)) m 0
  refine ⟨by unfold nodeOf; omega, fun i hi => ?_, fun h => ?_⟩
  · have := a3 i (Nat.zero_le _) hi
    have := of_decide_eq_false this
    omega
  · exact of_decide_eq_true (a4 (by unfold nodeOf at h; omega))
end Go.Proofs.YteabkcbajpjkoaaGreat
/- Walks of the share layer: Proof of the program; SameInts, SamePairs. -/
namespace Go.Proofs.YteabkcbajpjkoaaGreat
open Go Go.RowKit
set_option linter.unusedVariables false
def idR (f : Nat → Int) (l : Int) (n : Nat) : Int := if indexOf f l n < n then (indexOf f l n : Int) else -1
theorem slices_index (a : Option Addr) (n ca : Nat) (f : Nat → Int) (l : Int) (w : World) (hn : n ≤ 100000000) (H : Sl w a n f) : Calls Tryz.prog 47 #[.slice a n ca, .int .i64 l] w fun e w' => e = .returned (.int .i64 (idR f l n)) ∧ w = w' := by
  obtain ⟨s1, s2, s3⟩ := indexOf_spec f l n
  have HS2 := hid s2; have HS3 := hid s3; clear s2 s3
  go_enter Tryz.func47, Tryz.ntmps47
  go_wp2
  go_loop [8] (fun i => ∃ k : Nat, k ≤ indexOf f l n ∧ i = .int .i64 k) (fun i => n - (intOf i).toNat)
  case atStart => exact ⟨0, Nat.zero_le _, rfl⟩
  case round =>
    obtain ⟨k, hk, rfl⟩ := hrel
    by_cases hlt : k < n
    · obtain ⟨b, off, rfl, hb, hc⟩ := H k hlt
      cases hw : (l == f k)
      · have hke : k + 1 ≤ indexOf f l n := by
          rcases Nat.eq_or_lt_of_le hk with e | h'
          · have := HS3.out (by omega); rw [← e] at this; simp [this] at hw
          · exact h'
        go_wp2
        go_round
        case rel => exact ⟨k + 1, hke, by go_num⟩
        case measure => simp [intOf]; omega
      · have hke : k = indexOf f l n := by
          rcases Nat.eq_or_lt_of_le hk with e | h'
          · exact e
          · have := HS2.out k h'; simp at hw; exact absurd hw.symm this
        have HKE := hid hke; clear hke
        go_wp2
        go_ret
        exact ⟨ret_int (by rw [idR, ← HKE.out, if_pos hlt]), rfl⟩
    · go_wp2
      go_ret
      exact ⟨ret_int (by rw [idR, if_neg (by omega)]), rfl⟩
/-- what Proof gives -/
def prL (f : Nat → Int) (n : Nat) (k : Int) : List (Int × Int) := if vL n f && within k 1 16 then (List.range (proofN f n k.toNat)).map (proofF f n k.toNat) else []
def prE (f : Nat → Int) (n : Nat) (k : Int) : Int := if vL n f then (if within k 1 16 then (if leastL f n k.toNat = 0 then 8 else 0) else 7) else 1
theorem prE_ask {f : Nat → Int} {n : Nat} {k : Int} (h : ¬ (vL n f && within k 1 16) = true) : askS (vL n f) (within k 1 16) = prE f n k ∧ prE f n k ≠ 0 := by
  unfold askS prE
  cases h1 : vL n f <;> cases h2 : within k 1 16 <;> simp [h1, h2] at h ⊢
theorem pmap_length (g : Nat → Int × Int) (k : Nat) : ((List.range k).map g).length = k := by simp
theorem pmap_succ (g : Nat → Int × Int) (k : Nat) : (List.range (k + 1)).map g = (List.range k).map g ++ [g k] := by rw [List.range_succ]; simp
set_option maxRecDepth 100000 in
set_option maxHeartbeats 4000000 in
theorem share_Proof (a : Option Addr) (n ca : Nat) (k : Int) (f : Nat → Int) (w : World) (hn : n ≤ 100000000) (H : Sl w a n f) :
    Calls Tryz.prog 17 #[.slice a n ca, .int .i64 k] w (PairPost (prL f n k) (prE f n k) w) := by
  obtain ⟨j0, hj, hy0, hy1, hy2⟩ := info_parts infoP
  by_cases hv : (vL n f && within k 1 16) = true
  · have hL := hid (show prL f n k = (List.range (proofN f n k.toNat)).map (proofF f n k.toNat) by rw [prL, if_pos hv])
    have hE := hid (show prE f n k = if leastL f n k.toNat = 0 then 8 else 0 by rw [Bool.and_eq_true] at hv; rw [prE, if_pos hv.1, if_pos hv.2])
    rw [Bool.and_eq_true] at hv
    obtain ⟨hv1, hv2⟩ := hv
    have hk2 := (within_iff _ _ _).1 hv2
    have hV := (vL_iff _ _).1 hv1
    obtain ⟨m, rfl⟩ : ∃ m : Nat, k = (m : Int) := ⟨k.toNat, by omega⟩
    rw [Int.toNat_natCast] at hL hE
    have hask := fun W H => share_among a n ca (m : Int) f W hn H
    have hE0 : askS (vL n f) (within (m : Int) 1 16) = 0 := by rw [hv1, hv2]; rfl
    rw [hE0] at hask
    have hl := fun W H => share_least a n ca m f W hV (by omega) H
    have hidx := fun W l H => slices_index a n ca f l W hn H
    have l0 := leastL_nonneg (validL_nonneg hV) (show 0 < m by omega)
    have l1 := leastL_le (validL_nonneg hV) (show 0 < m by omega)
    have l2 := (sumTo_most hV.2.2 n (Nat.le_refl _)).2
    have hp := proofN f n m
    have hN : proofN f n m = if leastL f n m = 0 then 0 else if indexOf f (leastL f n m) n < n then 1 else m := rfl
    have hF : ∀ t, proofF f n m t = if indexOf f (leastL f n m) n < n then ((indexOf f (leastL f n m) n : Int), (indexOf f (leastL f n m) n : Int)) else ((aN f (leastL f n m) n t : Int), (aN f (leastL f n m) n (t + 1) : Int)) := fun t => rfl
    have hch := chain_spec (f := f) (n := n) (k := m) (validL_nonneg hV) hV.1 (by omega)
    obtain ⟨v1, v2, hf⟩ := hV
    have HF := hid hf; have HCH := hid hch; have HN := hid hN; have HFF := hid hF
    clear hf hch hN hF hp hv1 hv2 hE0
    have k1 : 1 ≤ m := by omega
    have k2 : m ≤ 16 := by omega
    clear hk2
    obtain ⟨L, hLL⟩ : ∃ L, leastL f n m = L := ⟨_, rfl⟩
    rw [hLL] at hl l0 l1
    rw [hLL] at hE HN HCH
    simp only [hLL] at HFF
    have l3 : L ≤ 64000000000 := by omega
    clear l1 l2 hLL
    go_enter Tryz.func17, Tryz.ntmps17
    go_wp2_with fail
    refine (hask _ H).mono ?_
    rintro e w' ⟨rfl, rfl⟩
    go_wp2_with fail
    refine (hl _ H).mono ?_
    rintro e w1 ⟨rfl, hb1⟩
    replace H := H.below hb1
    by_cases hz : L = 0
    · subst hz
      go_wp2_with fail
      go_ret2
      rw [hL.out, hE.out, HN.out]
      exact pairPost_nil hb1
    · have hzb : (L == 0) = false := by simpa using hz
      have HZ := hid hz; clear hz
      go_wp2_with fail
      refine (hidx _ L H).mono ?_
      rintro e w' ⟨rfl, rfl⟩
      by_cases hix : indexOf f L n < n
      · have hid1 : idR f L n = (indexOf f L n : Int) := by rw [idR, if_pos hix]
        rw [hid1]
        have HIX := hid hix
        generalize indexOf f L n = i at *
        clear hid1
        go_wp2_with fail
        go_ret2
        rw [hL.out, hE.out, HN.out, if_neg HZ.out, if_neg HZ.out, if_pos HIX.out]
        have e1 : (List.range 1).map (proofF f n m) = [((i : Int), (i : Int))] := by
          have := HFF.out 0
          rw [if_pos HIX.out] at this
          simp [List.range_succ, this]
        rw [e1]
        have U := Bx.new w1 #[.int .i64 (i : Int), .int .i64 (i : Int)] 46
        refine ⟨some ⟨w1.heap.size, 0, none⟩, 1, rfl, fun k hk => ?_, by (repeat' (first | with_reducible assumption | with_reducible exact Below.refl _ _ | with_reducible refine Below.drew ?_ | with_reducible refine below_drewN ?_ _ | with_reducible refine balloc ?_ _ | with_reducible refine bset ?_ ?_ _ | with_reducible refine Below.setCell ?_ ?_ _ | with_reducible refine Below.alloc ?_ ?_ _ | omega | (simp; done) | (simp; omega)))⟩
        have hk0 : k = 0 := by simpa using hk
        subst hk0
        exact ⟨w1.heap.size, 0, rfl, U.lt, U.at_ 0 rfl, U.at_ 1 rfl⟩
      · have hid1 : idR f L n = -1 := by rw [idR, if_neg hix]
        rw [hid1]
        have HIX := hid hix
        have hne : ∀ i, i < n → f i ≠ L := fun i hi => (indexOf_spec f L n).2.1 i (by have := (indexOf_spec f L n).1; omega)
        have HC := hid (HCH.out (by have := l0; have := HZ.out; omega) hne)
        have hlast := hid (fun t (ht : aN f L n t ≤ n) => lastOf_spec (f := f) (l := L) (n := n) (x := aN f L n t) ht)
        clear hid1 hix hne
        go_wp2_with fail
        go_loopw [9, 10, 34] (fun v s10 i wr => ∃ t : Nat, t ≤ m ∧ i = .int .i64 t ∧ s10 = .int .i64 (aN f L n t : Nat) ∧ wr.ownsRow w1.heap.size 46 2 v ((List.range t).map (fun t => ((aN f L n t : Int), (aN f L n (t + 1) : Int)))).length (flatP ((List.range t).map (fun t => ((aN f L n t : Int), (aN f L n (t + 1) : Int))))) ∧ Below w1.heap.size w1 wr) (fun _ _ i _ => m - (intOf i).toNat)
        case atStart => exact ⟨0, Nat.zero_le _, rfl, rfl, World.ownsRow_nil .., Below.refl _ _⟩
        case round =>
          obtain ⟨t, ht, rfl, rfl, hown, hb⟩ := hrel
          have hzb2 := hb.size
          have hpl := pmap_length (fun t => ((aN f L n t : Int), (aN f L n (t + 1) : Int))) t
          have hps := hid (pmap_succ (fun t => ((aN f L n t : Int), (aN f L n (t + 1) : Int))) t)
          by_cases hlt : t < m
          · obtain ⟨c1, _, c3⟩ := HC.out t ht
            obtain ⟨d1, d2⟩ := c3 hlt
            obtain ⟨e1, _, _⟩ := HC.out (t + 1) (by omega)
            obtain ⟨_, _, g3, _⟩ := hlast.out t (by omega)
            have g4 : lastOf f L n (aN f L n t) = aN f L n (t + 1) := rfl
            rw [g4] at g3
            have hp0 : ((aN f L n t : Int), (aN f L n (t + 1) : Int)) = ((fun t => ((aN f L n t : Int), (aN f L n (t + 1) : Int))) t) := rfl
            clear c3 g4 hp0
            generalize (List.range t).map (fun t => ((aN f L n t : Int), (aN f L n (t + 1) : Int))) = ps at hown hpl hps
            obtain ⟨x, hx⟩ : ∃ x, aN f L n t = x := ⟨_, rfl⟩
            obtain ⟨y, hy⟩ : ∃ y, aN f L n (t + 1) = y := ⟨_, rfl⟩
            rw [hx] at c1 d1 d2 g3 ⊢
            rw [hy] at d1 d2 e1 g3
            have HX := hid hx; have HY := hid hy; have G3 := hid g3
            clear hx hy g3
            obtain ⟨b, off, rfl, hbl, hc0⟩ := (H.below hb) x c1
            have hs1 : sg f x (x + 1) = f x := by rw [sg_succ, sg_self]; omega
            have HS1 := hid hs1; clear hs1
            obtain ⟨f0, f1⟩ := HF.out x c1
            go_upto_region 14 with (fail)
            go_quiet (fail)
            rename_i nq
            have hown2 := own_below hown (below_drewN (Below.refl _ wr) nq)
            have hb2 : Below w1.heap.size w1 (wr.drewN nq) := below_drewN hb nq
            generalize wr.drewN nq = wd at hown2 hb2 ⊢
            clear hown hc0
            go_wp2_with fail
            go_loop [11, 12] (fun s11 s12 => ∃ z : Nat, x ≤ z ∧ z ≤ y ∧ s11 = .int .i64 z ∧ s12 = .int .i64 (sg f x (z + 1))) (fun s11 _ => y - (intOf s11).toNat)
            case atStart => exact ⟨x, Nat.le_refl _, by omega, rfl, by rw [HS1.out]⟩
            case round =>
              obtain ⟨z, z0, z1, rfl, rfl⟩ := hrel
              have hss := hid (sg_succ f x (z + 1))
              have q1 := sumTo_most HF.out (z + 1) (by omega)
              have q2 := sumTo_most HF.out x (by omega)
              have q3 : sg f x (z + 1) = sumTo f (z + 1) - sumTo f x := rfl
              have q4 := G3.out z z0
              obtain ⟨S, hS⟩ : ∃ S, sg f x (z + 1) = S := ⟨_, rfl⟩
              rw [hS] at q3 q4 hss ⊢
              have s0 : -64000000000 ≤ S ∧ S ≤ 64000000000 := by omega
              obtain ⟨s1, s2⟩ := s0
              have HS := hid hS
              clear q1 q2 q3 hS
              by_cases hzy : z < y
              · have hlt2 : S < L := q4 hzy
                clear q4
                obtain ⟨b3, off3, e3, hbl3, hc3⟩ := (H.below hb2) (z + 1) (by omega)
                injection e3 with e3; injection e3 with e31 e32 _
                subst e31 e32
                obtain ⟨f2, f3⟩ := HF.out (z + 1) (by omega)
                go_wp2_with fail
                go_round
                case rel => exact ⟨z + 1, by omega, by omega, by go_num, by rw [hss.out]⟩
                case measure => simp [intOf]; omega
              · obtain rfl : z = y := (by omega)
                have hge : L ≤ S := by rw [← HS.out]; exact d2
                clear q4 d2
                have hzb3 := hb2.size
                go_wp2_with (at_builtin; refine wpList_append_own _ rfl _ _ 42 rfl (w1.heap.size) 46 j0 (.agg #[.int .i64 0, .int .i64 0]) 2 16 Tryz.underlying42 hj hy0 hy1 hy2 rfl (by decide) _ _ _ rfl ((hown2).alloc _) ⟨wd.heap.size, 0, none⟩ 1 1 (prow (((x : Int), (z : Int)))) rfl rfl (pcells_new _ (((x : Int), (z : Int))) _) (by simp [prow, Value.oneCell']) (by simp [maxLen]; omega) (by omega) (by simp; omega) ?_; intro v' w5 hown' hgrow _)
                go_roundw
                case rel => exact ⟨t + 1, by omega, by go_num, by rw [HY.out], by rw [hps.out, HX.out, HY.out]; exact pown_snoc hown', (hb2.alloc hb2.size _).grown hgrow (by simp; omega) (own_base hown2)⟩
                case measure => simp [intOf]; omega
          · obtain rfl : t = m := (by omega)
            go_wp2_with fail
            go_ret2
            rw [hL.out, hE.out, HN.out, if_neg HZ.out, if_neg HZ.out, if_neg HIX.out]
            have e1 : (List.range t).map (proofF f n t) = (List.range t).map (fun t => ((aN f L n t : Int), (aN f L n (t + 1) : Int))) := by
              refine List.map_congr_left fun j _ => ?_
              rw [HFF.out j, if_neg HIX.out]
            rw [e1]
            exact pairPost_own hown (bvia hb1 hb)
  · obtain ⟨he1, he2⟩ := prE_ask hv
    have hE := hid (show prL f n k = [] by rw [prL, if_neg hv])
    have hask := fun W H => share_among a n ca k f W hn H
    rw [he1] at hask
    generalize prE f n k = er at *
    have hb : (er != 0) = true := by simpa using he2
    clear he1 he2 hv
    go_enter Tryz.func17, Tryz.ntmps17
    go_wp2_with fail
    refine (hask _ H).mono ?_
    rintro e w' ⟨rfl, rfl⟩
    go_wp2_with fail
    go_ret2
    rw [hE.out]
    exact pairPost_nil (by (repeat' (first | with_reducible assumption | with_reducible exact Below.refl _ _ | with_reducible refine Below.drew ?_ | with_reducible refine below_drewN ?_ _ | with_reducible refine balloc ?_ _ | with_reducible refine bset ?_ ?_ _ | with_reducible refine Below.setCell ?_ ?_ _ | with_reducible refine Below.alloc ?_ ?_ _ | omega | (simp; done) | (simp; omega))))
end Go.Proofs.YteabkcbajpjkoaaGreat
