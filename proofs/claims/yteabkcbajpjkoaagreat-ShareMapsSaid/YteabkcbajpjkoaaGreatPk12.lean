/- Plain words: a play of the nodes of a grid, step by step: each node's number of steps, its cells, the notes, how many acts, an error. Plain: what holds at each point of a play: each node at step t holds the grid's cells after t steps, as far as its own cells sent into them; the notes are exactly those that were sent and not yet used. Memory words: the sites of a play in an own list, of which one is stored anew at each act. Walk: slices.IndexFunc, which finds a node's site. -/
import Derived.Test.YteabkcbajpjkoaaGreatPk10
import Derived.Test.YteabkcbajpjkoaaGreatPk11
namespace Go.Proofs.YteabkcbajpjkoaaGreat
open Go Go.RowKit
set_option linter.unusedVariables false
/-- where a play stands; each cell is its owner's -/
structure Ply where
  st : Int → Int
  G : Nat → C4
  P : List N6
  cnt : Nat
  er : Int
/-- a node's site, by all nodes' steps and cells -/
def siteA (o : Nat → Int) (no : Nat) (st : Int → Int) (G : Nat → C4) (nd : Int) : SiteR := ⟨nd, st nd, none, (ownL o nd no).length, 0, none, (ownL o nd no).length, 0, fun j => (ownL o nd no).getD j 0, fun j => G ((ownL o nd no).getD j 0).toNat⟩
/-- a site holds that -/
def siteQ (o : Nat → Int) (no : Nat) (st : Int → Int) (G : Nat → C4) (nd : Int) (s : SiteR) : Prop :=
  s.nd = nd ∧ s.st = st nd ∧ s.ni = (ownL o nd no).length ∧ s.nc = s.ni ∧ ∀ j, j < s.ni → s.I j = (ownL o nd no).getD j 0 ∧ s.C j = G ((ownL o nd no).getD j 0).toNat
def pF (P : List N6) : Nat → N6 := fun k => P.getD k N6.zero
theorem layTo_congr2 {G : Nat → C4} {s s' : SiteR} : ∀ n, (∀ k, k < n → s.I k = s'.I k ∧ s.C k = s'.C k) → layTo G s n = layTo G s' n
  | 0, _ => rfl
  | n + 1, h => by simp only [layTo, layTo_congr2 n fun k hk => h k (by omega), (h n (by omega)).1, (h n (by omega)).2]
section
variable {W H : Nat} {o : Nat → Int} {no : Nat} {st : Int → Int} {G : Nat → C4} {nd : Int} {s : SiteR} {p : Nat → N6} {q : Nat} {ru : Int × Int}
theorem siteQ_got (h : siteQ o no st G nd s) : gotM s p q = gotM (siteA o no st G nd) p q := by
  obtain ⟨h1, h2, h3, h4, h5⟩ := h
  unfold gotM
  rw [h1, h2, h3, layTo_congr2 (s := s) (s' := siteA o no st G nd) _ fun k hk => h5 k (by omega)]
  rfl
theorem siteQ_mass (h : siteQ o no st G nd s) : massTo s.C s.ni = massTo (siteA o no st G nd).C (siteA o no st G nd).ni := by
  rw [h.2.2.1]
  exact massTo_congr fun k hk => (h.2.2.2.2 k (by rw [h.2.2.1]; exact hk)).2
theorem siteQ_actM (h : siteQ o no st G nd s) : actM s p q = actM (siteA o no st G nd) p q := by
  unfold actM
  rw [siteQ_mass h, h.1, h.2.1]
  rfl
theorem siteQ_col (h : siteQ o no st G nd s) : colM ru s p q = colM ru (siteA o no st G nd) p q := by
  unfold colM
  rw [siteQ_got h]
theorem siteQ_actC (h : siteQ o no st G nd s) : actC W H o ru s p q = actC W H o ru (siteA o no st G nd) p q := by
  unfold actC
  rw [siteQ_col h, h.1]
  rfl
theorem siteQ_actN (h : siteQ o no st G nd s) : actN W H o ru s p q = actN W H o ru (siteA o no st G nd) p q := by
  unfold actN
  rw [siteQ_col h, h.1, h.2.1]
  rfl
theorem siteQ_actE (h : siteQ o no st G nd s) : actE W H o ru s p q = actE W H o ru (siteA o no st G nd) p q := by
  unfold actE
  rw [siteQ_actM h, siteQ_actN h]
theorem siteQ_B (h : siteQ o no st G nd s) : siteB o no s = siteB o no (siteA o no st G nd) := by
  obtain ⟨h1, h2, h3, h4, h5⟩ := h
  rw [Bool.eq_iff_iff, siteB_iff, siteB_iff, h2, h4, sameL_iff, sameL_iff, massB_iff, massB_iff]
  have hm : massTo s.C s.nc = massTo (siteA o no st G nd).C (siteA o no st G nd).nc := by
    rw [h4, h3]
    exact massTo_congr fun k hk => (h5 k (by rw [h3]; exact hk)).2
  rw [h4] at hm
  rw [hm, h3, h1]
  constructor
  · rintro ⟨a, b, c, d, e⟩
    exact ⟨a, ⟨rfl, fun k hk => rfl⟩, rfl, fun k hk => by
      have := d k hk
      rw [(h5 k (by rw [h3]; exact hk)).2] at this
      exact this, e⟩
  · rintro ⟨a, b, c, d, e⟩
    exact ⟨a, ⟨rfl, fun k hk => (h5 k (by rw [h3]; exact hk)).1⟩, rfl, fun k hk => by
      rw [(h5 k (by rw [h3]; exact hk)).2]
      exact d k hk, e⟩
end
section
variable (W H : Nat) (o : Nat → Int) (no rn : Nat) (ru : Nat → Int × Int) (n : Int)
/-- whether a node goes on -/
def goesB (X : Ply) (nd : Int) : Bool := !decide (n ≤ X.st nd) && readyB W H o no X.P.length (pF X.P) nd (X.st nd)
/-- a turn of a node -/
def plyN (X : Ply) (nd : Int) : Ply :=
  if X.er ≠ 0 then X else if goesB W H o no n X nd = false then X
  else if actE W H o (ru ((X.st nd).toNat % rn)) (siteA o no X.st X.G nd) (pF X.P) X.P.length = 0 then
    ⟨fun k => if k = nd then X.st nd + 1 else X.st k, fun i => if o i = nd then actC W H o (ru ((X.st nd).toNat % rn)) (siteA o no X.st X.G nd) (pF X.P) X.P.length i else X.G i, sortN (actN W H o (ru ((X.st nd).toNat % rn)) (siteA o no X.st X.G nd) (pF X.P) X.P.length), X.cnt + 1, 0⟩
  else ⟨X.st, X.G, X.P, X.cnt, 4⟩
/-- turns in an order -/
def plyL (X : Ply) (L : List Int) : Ply := L.foldl (plyN W H o no rn ru n) X
end
/-- the start -/
def ply0 (g : Nat → C4) : Ply := ⟨fun _ => 0, g, [], 0, 0⟩
/-- a grid's cells after t steps -/
def gT (W H rn : Nat) (ru : Nat → Int × Int) (g : Nat → C4) : Nat → Nat → C4
  | 0 => g
  | t + 1 => flow W H fun i => coll (ru (t % rn)).1 (ru (t % rn)).2 (gT W H rn ru g t i)
section
variable {W H : Nat} {o : Nat → Int} {no rn : Nat} {ru : Nat → Int × Int} {n : Int}
theorem plyL_snoc (X : Ply) (L : List Int) (nd : Int) : plyL W H o no rn ru n X (L ++ [nd]) = plyN W H o no rn ru n (plyL W H o no rn ru n X L) nd := by simp [plyL]
theorem plyL_app (X : Ply) (L M : List Int) : plyL W H o no rn ru n X (L ++ M) = plyL W H o no rn ru n (plyL W H o no rn ru n X L) M := by simp [plyL]
theorem plyN_er {X : Ply} {nd : Int} (h : X.er ≠ 0) : plyN W H o no rn ru n X nd = X := if_pos h
theorem plyN_no {X : Ply} {nd : Int} (h : goesB W H o no n X nd = false) : plyN W H o no rn ru n X nd = X := by
  unfold plyN
  rw [h]
  simp
theorem plyL_er {X : Ply} (h : X.er ≠ 0) : ∀ L, plyL W H o no rn ru n X L = X
  | [] => rfl
  | nd :: L => by
    have e : plyL W H o no rn ru n X (nd :: L) = plyL W H o no rn ru n (plyN W H o no rn ru n X nd) L := rfl
    rw [e, plyN_er h]; exact plyL_er h L
end
end Go.Proofs.YteabkcbajpjkoaaGreat
namespace Go.Proofs.YteabkcbajpjkoaaGreat
open Go Go.RowKit
set_option linter.unusedVariables false
section
variable {W H : Nat} {o : Nat → Int} {no rn : Nat} {ru : Nat → Int × Int} {g : Nat → C4}
theorem gT_ok (h : (∀ i, i < W * H → validC (g i) = true) ∧ massTo g (W * H) ≤ 1000000000) : ∀ t, (∀ i, i < W * H → validC (gT W H rn ru g t i) = true) ∧ massTo (gT W H rn ru g t) (W * H) = massTo g (W * H)
  | 0 => ⟨h.1, rfl⟩
  | t + 1 => by
    have ih := gT_ok h t
    have hm : massTo (fun i => coll (ru (t % rn)).1 (ru (t % rn)).2 (gT W H rn ru g t i)) (W * H) = massTo g (W * H) := by
      rw [← ih.2]; exact massTo_masses fun i _ => coll_mass _ _ _
    refine ⟨flow_valid (fun i hi => coll_valid (ih.1 i hi)) (by rw [hm]; exact h.2), ?_⟩
    simp only [gT]
    rw [flow_mass, hm]
end
/-- what is sent at step t into cell i -/
def noteG (W H rn : Nat) (ru : Nat → Int × Int) (o : Nat → Int) (g : Nat → C4) (t i d : Nat) : N6 := ⟨t, o (nbT W H i d), o i, i, d, (gT W H rn ru g t i).get d⟩
structure PlyI (W H : Nat) (o : Nat → Int) (no rn : Nat) (ru : Nat → Int × Int) (g : Nat → C4) (n : Int) (X : Ply) : Prop where
  er : X.er = 0
  st0 : ∀ nd, 0 ≤ X.st nd
  stn : ∀ nd, X.st nd ≤ n
  stc : ∀ nd, X.st nd ≤ X.cnt
  val : ∀ i d, i < no → d < 4 → (X.G i).get d = if X.st (o i) = 0 then (g i).get d else if o (nbT W H i d) = o i then (gT W H rn ru g (X.st (o i)).toNat i).get d else 0
  note : ∀ x ∈ X.P, ∃ t i d : Nat, i < no ∧ d < 4 ∧ o (nbT W H i d) ≠ o i ∧ 1 ≤ t ∧ X.st (o i) ≤ t ∧ (t : Int) ≤ X.st (o (nbT W H i d)) ∧ x = noteG W H rn ru o g t i d
  lag : ∀ i d : Nat, i < no → d < 4 → o (nbT W H i d) ≠ o i → X.st (o i) ≤ X.st (o (nbT W H i d)) + 1
  has : ∀ t i d : Nat, i < no → d < 4 → o (nbT W H i d) ≠ o i → 1 ≤ t → X.st (o i) ≤ t → (t : Int) ≤ X.st (o (nbT W H i d)) → noteG W H rn ru o g t i d ∈ X.P
  dist : X.P.Nodup
  mass : massTo X.G no + coL X.P = massTo g no
  len : X.P.length ≤ 100000
  cntL : X.P.length ≤ 4 * no * X.cnt
theorem cntV_of {p : Nat → N6} {x : N6} {c : Int} : ∀ {k}, metB p x k = true → (∀ j, j < k → plcB (p j) x = true → (p j).co = c) → cntV p x k = c
  | 0, h, _ => by simp [metB] at h
  | k + 1, h, hc => by
    simp only [cntV]
    split
    · rename_i e; exact hc k (by omega) e
    · rename_i e
      simp only [metB, Bool.or_eq_true] at h
      exact cntV_of (h.resolve_right e) fun j hj => hc j (by omega)
theorem dueC_has {W H : Nat} {o : Nat → Int} {nd st : Int} {i d : Nat} (h : o (nbT W H i d) ≠ nd) : ∀ {e}, d < e → plN o W H nd st i d ∈ dueC W H o nd st i e
  | 0, he => by omega
  | e + 1, he => by
    simp only [dueC]
    by_cases hd : d = e
    · subst hd
      rw [if_neg h]
      exact List.mem_append.2 (.inr (List.mem_singleton.2 rfl))
    · split
      · exact dueC_has h (by omega)
      · exact List.mem_append.2 (.inl (dueC_has h (by omega)))
theorem dueL_has {W H : Nat} {o : Nat → Int} {nd st : Int} {i d : Nat} (ho : o i = nd) (hd : d < 4) (h : o (nbT W H i d) ≠ nd) : ∀ {n}, i < n → plN o W H nd st i d ∈ dueL W H o nd st n
  | 0, he => by omega
  | n + 1, he => by
    simp only [dueL]
    by_cases e : i = n
    · subst e
      rw [if_pos ho]
      exact List.mem_append.2 (.inr (dueC_has h hd))
    · split
      · exact List.mem_append.2 (.inl (dueL_has ho hd h (by omega)))
      · exact dueL_has ho hd h (by omega)
theorem dueC_pl {W H : Nat} {o : Nat → Int} {nd st : Int} {i : Nat} {x : N6} : ∀ {e}, x ∈ dueC W H o nd st i e → ∃ d, d < e ∧ o (nbT W H i d) ≠ nd ∧ x = plN o W H nd st i d
  | 0, h => by cases h
  | e + 1, h => by
    simp only [dueC] at h
    split at h
    · obtain ⟨d, h1, h2⟩ := dueC_pl h; exact ⟨d, by omega, h2⟩
    · rename_i hne
      rcases List.mem_append.1 h with h | h
      · obtain ⟨d, h1, h2⟩ := dueC_pl h; exact ⟨d, by omega, h2⟩
      · exact ⟨e, by omega, hne, List.mem_singleton.1 h⟩
theorem dueL_pl {W H : Nat} {o : Nat → Int} {nd st : Int} {x : N6} : ∀ {n}, x ∈ dueL W H o nd st n → ∃ i d, i < n ∧ d < 4 ∧ o i = nd ∧ o (nbT W H i d) ≠ nd ∧ x = plN o W H nd st i d
  | 0, h => by cases h
  | n + 1, h => by
    simp only [dueL] at h
    split at h
    · rename_i e
      rcases List.mem_append.1 h with h | h
      · obtain ⟨i, d, h1, h2⟩ := dueL_pl h; exact ⟨i, d, by omega, h2⟩
      · obtain ⟨d, h1, h2⟩ := dueC_pl h; exact ⟨n, d, by omega, h1, e, h2⟩
    · obtain ⟨i, d, h1, h2⟩ := dueL_pl h; exact ⟨i, d, by omega, h2⟩
theorem pF_mem {P : List N6} {k : Nat} (h : k < P.length) : pF P k ∈ P := by
  unfold pF
  rw [List.getD_eq_getElem?_getD, List.getElem?_eq_getElem h]
  exact List.getElem_mem _
theorem pF_ex {P : List N6} {x : N6} (h : x ∈ P) : ∃ k, k < P.length ∧ pF P k = x := by
  obtain ⟨j, hj⟩ := List.getElem?_of_mem h
  refine ⟨j, (List.getElem?_eq_some_iff.1 hj).1, ?_⟩
  unfold pF
  rw [List.getD_eq_getElem?_getD, hj]; rfl
theorem restL_iff {nd st : Int} {p : Nat → N6} {x : N6} : ∀ {q}, x ∈ restL nd st p q ↔ ∃ k, k < q ∧ mineB nd st (p k) = false ∧ p k = x
  | 0 => ⟨fun h => (by cases h), fun ⟨k, h, _⟩ => (by omega)⟩
  | q + 1 => by
    simp only [restL]
    split
    · rename_i e
      rw [restL_iff]
      constructor
      · rintro ⟨k, h1, h2⟩; exact ⟨k, by omega, h2⟩
      · rintro ⟨k, h1, h2, h3⟩
        have : k ≠ q := fun hk => by rw [hk, e] at h2; cases h2
        exact ⟨k, by omega, h2, h3⟩
    · rename_i e
      rw [List.mem_append, restL_iff, List.mem_singleton]
      constructor
      · rintro (⟨k, h1, h2⟩ | h)
        · exact ⟨k, by omega, h2⟩
        · exact ⟨q, by omega, by simpa using e, h.symm⟩
      · rintro ⟨k, h1, h2, h3⟩
        by_cases hk : k = q
        · exact .inr (hk ▸ h3.symm)
        · exact .inl ⟨k, by omega, h2, h3⟩
theorem restL_nodup {nd st : Int} {p : Nat → N6} : ∀ {q}, (∀ i j, i < q → j < q → p i = p j → i = j) → (restL nd st p q).Nodup
  | 0, _ => List.nodup_nil
  | q + 1, h => by
    simp only [restL]
    have ih := restL_nodup (nd := nd) (st := st) (q := q) fun i j hi hj => h i j (by omega) (by omega)
    split
    · exact ih
    · refine List.nodup_append.2 ⟨ih, List.pairwise_singleton _ _, ?_⟩
      intro a ha b hb hab
      obtain ⟨k, hk, _, rfl⟩ := restL_iff.1 ha
      rw [List.mem_singleton] at hb
      have := h k q (by omega) (by omega) (hab.trans hb)
      omega
theorem massOwn_le {o : Nat → Int} {nd : Int} {G : Nat → C4} : ∀ {n}, (∀ i, i < n → nnC (G i)) → massOwn o nd G n ≤ massTo G n
  | 0, _ => Int.le_refl _
  | n + 1, h => by
    have ih := massOwn_le (o := o) (nd := nd) (n := n) fun i hi => h i (by omega)
    have := nnC_mass (h n (by omega))
    simp only [massOwn, massTo]
    split <;> omega
theorem mass_turn {o : Nat → Int} {nd : Int} {F G : Nat → C4} : ∀ n, massTo (fun i => if o i = nd then F i else G i) n - massOwn o nd F n = massTo G n - massOwn o nd G n
  | 0 => rfl
  | n + 1 => by
    have ih := mass_turn (o := o) (nd := nd) (F := F) (G := G) n
    simp only [massOwn, massTo]
    by_cases e : o n = nd
    · rw [if_pos e, if_pos e, if_pos e]; omega
    · rw [if_neg e, if_neg e, if_neg e]; omega
theorem coL_pF (P : List N6) : coL P = coS (pF P) P.length := rfl
section
variable {W H : Nat} {o : Nat → Int} {no rn : Nat} {ru : Nat → Int × Int} {g : Nat → C4} {n : Int} {X : Ply}
theorem ply_start (hn : 0 ≤ n) : PlyI W H o no rn ru g n (ply0 g) where
  er := rfl
  st0 := fun _ => Int.le_refl _
  stn := fun _ => hn
  stc := fun _ => Int.le_refl _
  val := fun i d _ _ => (if_pos rfl).symm
  note := fun x hx => by cases hx
  lag := fun i d _ _ _ => by simp [ply0]
  has := fun t i d _ _ _ h1 _ h2 => by simp only [ply0] at h2; omega
  dist := List.nodup_nil
  mass := by simp [ply0, coL, sumTo]
  len := by simp [ply0]
  cntL := by simp [ply0]
theorem nodup_inj {α : Type} {l : List α} (h : l.Nodup) {i j : Nat} (hi : i < l.length) (hj : j < l.length) (e : l[i] = l[j]) : i = j := by
  have hp := List.pairwise_iff_getElem.1 h
  rcases Nat.lt_trichotomy i j with h1 | h1 | h1
  · exact absurd e (hp i j hi hj h1)
  · exact h1
  · exact absurd e.symm (hp j i hj hi h1)
theorem pF_inj (I : PlyI W H o no rn ru g n X) {i j : Nat} (hi : i < X.P.length) (hj : j < X.P.length) (h : pF X.P i = pF X.P j) : i = j := by
  unfold pF at h
  rw [List.getD_eq_getElem?_getD, List.getElem?_eq_getElem hi, List.getD_eq_getElem?_getD, List.getElem?_eq_getElem hj] at h
  exact nodup_inj I.dist hi hj (by simpa using h)
/-- a place's note, where it is there -/
theorem ply_at (I : PlyI W H o no rn ru g n X) {y x : N6} (hy : y ∈ X.P) {st : Int} {i d : Nat} (h : y.st = st ∧ y.ce = i ∧ y.di = d) : ∃ t : Nat, st = t ∧ i < no ∧ d < 4 ∧ o (nbT W H i d) ≠ o i ∧ 1 ≤ t ∧ X.st (o i) ≤ t ∧ (t : Int) ≤ X.st (o (nbT W H i d)) ∧ y = noteG W H rn ru o g t i d := by
  obtain ⟨t, i', d', h1, h2, h3, h4, h5, h6, rfl⟩ := I.note y hy
  obtain ⟨e1, e2, e3⟩ := h
  have e2' : i' = i := by have : (i' : Int) = i := e2; omega
  have e3' : d' = d := by have : (d' : Int) = d := e3; omega
  subst e2'; subst e3'
  exact ⟨t, e1.symm, h1, h2, h3, h4, h5, h6, rfl⟩
theorem ply_post (hno : no = W * H) (hg : (∀ i, i < W * H → validC (g i) = true) ∧ massTo g (W * H) ≤ 1000000000) (hn : n ≤ 1000000) (I : PlyI W H o no rn ru g n X) : postB W H o no X.P.length (pF X.P) = true := by
  refine postB_iff.2 ⟨I.len, fun k hk => ?_, fun k hk => ?_⟩
  · obtain ⟨t, i, d, h1, h2, h3, h4, h5, h6, e⟩ := I.note _ (pF_mem hk)
    rw [e]
    have hv := validC_get ((gT_ok (rn := rn) (ru := ru) hg t).1 i (by omega)) h2
    have h7 := I.stn (o (nbT W H i d))
    refine noteB_iff.2 ⟨noteR_iff.2 ⟨⟨?_, ?_⟩, ⟨?_, ?_⟩, ⟨?_, ?_⟩, hv⟩, ?_, ?_, h3⟩
    · show (1 : Int) ≤ t; omega
    · show (t : Int) ≤ 1000000; omega
    · show (0 : Int) ≤ i; omega
    · show (i : Int) ≤ no - 1; omega
    · show (0 : Int) ≤ d; omega
    · show (d : Int) ≤ 3; omega
    · show o i = o (i : Int).toNat; rw [Int.toNat_natCast]
    · show o (nbT W H i d) = o (nbT W H (i : Int).toNat (d : Int).toNat); rw [Int.toNat_natCast, Int.toNat_natCast]
  · cases hm : metB (pF X.P) (pF X.P k) k with
    | false => rfl
    | true =>
      obtain ⟨j, hj, hp⟩ := metB_iff.1 hm
      obtain ⟨t, i, d, h1, h2, h3, h4, h5, h6, e⟩ := I.note _ (pF_mem hk)
      rw [e] at hp
      obtain ⟨e1, e2, e3⟩ := plcB_iff.1 hp
      obtain ⟨t', q1, q2, q3, q4, q5, q6, q7, q8⟩ := ply_at (x := pF X.P j) I (pF_mem (P := X.P) (k := j) (by omega)) (st := (t : Int)) (i := i) (d := d) ⟨e1, e2, e3⟩
      have : t = t' := by omega
      subst this
      have := pF_inj I (i := j) (j := k) (by omega) hk (q8.trans e.symm)
      omega
theorem ply_nn (hno : no = W * H) (hg : (∀ i, i < W * H → validC (g i) = true) ∧ massTo g (W * H) ≤ 1000000000) (I : PlyI W H o no rn ru g n X) {i : Nat} (hi : i < no) : nnC (X.G i) := (nnC_iff _).2 fun d hd => by
  rw [I.val i d hi hd]
  split
  · exact (validC_get (hg.1 i (by omega)) hd).1
  · split
    · exact (validC_get ((gT_ok (rn := rn) (ru := ru) hg _).1 i (by omega)) hd).1
    · exact Int.le_refl _
theorem ply_site (hno : no = W * H) (hg : (∀ i, i < W * H → validC (g i) = true) ∧ massTo g (W * H) ≤ 1000000000) (hn : n ≤ 1000000) (I : PlyI W H o no rn ru g n X) (nd : Int) : siteB o no (siteA o no X.st X.G nd) = true := by
  have hp := ply_post hno hg hn I
  have hnn := fun i hi => ply_nn (i := i) hno hg I hi
  have hco : 0 ≤ coL X.P := by rw [coL_pF]; exact (coS_nonneg _ (post_fit hp)).1
  have hm := I.mass
  have hg2 := hg.2
  rw [← hno] at hg2
  have hle := massOwn_le (o := o) (nd := nd) hnn
  have hall := (nn_mass_le hnn).2
  refine siteB_iff.2 ⟨?_, sameL_iff.2 ⟨rfl, fun k hk => rfl⟩, rfl, (massB_iff _ _).2 ⟨fun k hk => ?_, ?_⟩⟩
  · have h1 := I.st0 nd; have h2 := I.stn nd
    show within (X.st nd) 0 1000000 = true
    simp only [within, Bool.and_eq_true, decide_eq_true_iff]
    omega
  · obtain ⟨i, e1, e2, e3⟩ := own_nat (o := o) (nd := nd) (no := no) (j := k) hk
    show validC (X.G ((ownL o nd no).getD k 0).toNat) = true
    rw [e1, Int.toNat_natCast]
    have := hall i e2
    exact nn_valid (hnn i e2) (by omega)
  · show massTo (fun j => X.G ((ownL o nd no).getD j 0).toNat) (ownL o nd no).length ≤ 1000000000
    rw [massOwn_list]; omega
theorem goesB_iff {nd : Int} : goesB W H o no n X nd = true ↔ X.st nd < n ∧ readyB W H o no X.P.length (pF X.P) nd (X.st nd) = true := by
  unfold goesB
  rw [Bool.and_eq_true, Bool.not_eq_true', decide_eq_false_iff_not]
  constructor
  · rintro ⟨a, b⟩; exact ⟨by omega, b⟩
  · rintro ⟨a, b⟩; exact ⟨by omega, b⟩
/-- a node goes where those that it waits for have come as far -/
theorem ply_goes (I : PlyI W H o no rn ru g n X) {nd : Int} (h1 : X.st nd < n) (h2 : ∀ i d, i < no → d < 4 → o i = nd → X.st nd ≤ X.st (o (nbT W H i d))) : goesB W H o no n X nd = true := by
  refine goesB_iff.2 ⟨h1, ?_⟩
  unfold readyB
  by_cases h0 : X.st nd = 0
  · rw [h0]; rfl
  rw [Bool.or_eq_true]
  refine .inr (List.all_eq_true.2 fun x hx => ?_)
  obtain ⟨i, d, hi, hd, ho, hne, rfl⟩ := dueL_pl hx
  have hs := I.st0 nd
  have hh := I.has (X.st nd).toNat i d hi hd (by rw [ho]; exact hne) (by omega) (by rw [ho]; omega) (by have := h2 i d hi hd ho; omega)
  obtain ⟨k, hk, e⟩ := pF_ex hh
  refine metB_iff.2 ⟨k, hk, plcB_pl.2 ?_⟩
  rw [e]
  exact ⟨by show ((X.st nd).toNat : Int) = X.st nd; omega, rfl, rfl⟩
/-- .. and, where it goes, they have -/
theorem goes_lift (I : PlyI W H o no rn ru g n X) {nd : Int} (h : goesB W H o no n X nd = true) (h0 : X.st nd ≠ 0) {i d : Nat} (hi : i < no) (hd : d < 4) (ho : o i = nd) (hne : o (nbT W H i d) ≠ nd) :
    metB (pF X.P) (plN o W H nd (X.st nd) i d) X.P.length = true := by
  have h2 := (goesB_iff.1 h).2
  unfold readyB at h2
  rw [Bool.or_eq_true] at h2
  rcases h2 with h2 | h2
  · exact absurd (by simpa using h2) h0
  · exact List.all_eq_true.1 h2 _ (dueL_has ho hd hne hi)
/-- what a node that goes has got is the grid -/
theorem ply_got (hno : no = W * H) (hg : (∀ i, i < W * H → validC (g i) = true) ∧ massTo g (W * H) ≤ 1000000000) (hn : n ≤ 1000000) (I : PlyI W H o no rn ru g n X) {nd : Int} (h : goesB W H o no n X nd = true) {i : Nat} (hi : i < no) (ho : o i = nd) :
    gotM (siteA o no X.st X.G nd) (pF X.P) X.P.length i = gT W H rn ru g (X.st nd).toNat i := C4.ext' fun d hd => by
  have hp := ply_post hno hg hn I
  have hs := ply_site hno hg hn I nd
  unfold gotM
  rw [addM_get (postB_iff.1 hp).2.1 (postB_iff.1 hp).2.2 i d hd]
  have hlay : layTo (fun _ => C4.zero) (siteA o no X.st X.G nd) (siteA o no X.st X.G nd).ni i = X.G i := by
    obtain ⟨r, hr, e⟩ := Lr_all hi ho
    have h1 := layTo_at (s := siteA o no X.st X.G nd) (k := r) (site_inj hs) (fun _ => C4.zero) (siteA o no X.st X.G nd).ni (Nat.le_refl _) hr
    have h2 : ((siteA o no X.st X.G nd).I r).toNat = i := e
    rw [h2] at h1
    rw [h1]
    show X.G (Lr o nd no r) = X.G i
    rw [e]
  rw [hlay, I.val i d hi hd, ho]
  have hmet : ∀ j, j < X.P.length → plcB (pF X.P j) (plN o W H nd (X.st nd) i d) = true → o (nbT W H i d) ≠ nd ∧ 1 ≤ X.st nd ∧ (pF X.P j).co = (gT W H rn ru g (X.st nd).toNat i).get d := fun j hj hpl => by
    obtain ⟨t, q1, q2, q3, q4, q5, q6, q7, q8⟩ := ply_at (x := pF X.P j) I (pF_mem hj) (plcB_pl.1 hpl)
    refine ⟨by rw [← ho]; exact q4, by omega, ?_⟩
    rw [q8, q1, Int.toNat_natCast]; rfl
  show _ + inV o W H nd (X.st nd) (pF X.P) X.P.length i d = _
  by_cases h0 : X.st nd = 0
  · rw [if_pos h0, h0]
    have : inV o W H nd (X.st nd) (pF X.P) X.P.length i d = 0 := by
      unfold inV
      refine if_neg fun ⟨_, hm⟩ => ?_
      obtain ⟨j, hj, hpl⟩ := metB_iff.1 hm
      have := (hmet j hj hpl).2.1
      omega
    rw [h0] at this
    rw [this, Int.add_zero]; rfl
  · rw [if_neg h0]
    by_cases hb : o (nbT W H i d) = nd
    · rw [if_pos hb]
      have : inV o W H nd (X.st nd) (pF X.P) X.P.length i d = 0 := by
        unfold inV
        refine if_neg fun ⟨_, hm⟩ => ?_
        obtain ⟨j, hj, hpl⟩ := metB_iff.1 hm
        exact (hmet j hj hpl).1 hb
      rw [this, Int.add_zero]
    · rw [if_neg hb, Int.zero_add]
      have hm := goes_lift I h h0 hi hd ho hb
      unfold inV
      rw [if_pos ⟨ho, hm⟩]
      exact cntV_of hm fun j hj hpl => (hmet j hj hpl).2.2
theorem ply_actM (hno : no = W * H) (hg : (∀ i, i < W * H → validC (g i) = true) ∧ massTo g (W * H) ≤ 1000000000) (hn : n ≤ 1000000) (I : PlyI W H o no rn ru g n X) {nd : Int} (h : goesB W H o no n X nd = true) : actM (siteA o no X.st X.G nd) (pF X.P) X.P.length ≤ 1000000000 := by
  have hk := gT_ok (rn := rn) (ru := ru) hg (X.st nd).toNat
  rw [← gotM_mass (W := W) (H := H) (ply_site hno hg hn I nd) (ply_post hno hg hn I)]
  rw [massOwn_congr (nd := (siteA o no X.st X.G nd).nd) (G := gotM (siteA o no X.st X.G nd) (pF X.P) X.P.length) (G' := gT W H rn ru g (X.st nd).toNat) fun i hi ho => ply_got hno hg hn I h hi ho]
  have h1 := massOwn_le (o := o) (nd := (siteA o no X.st X.G nd).nd) (G := gT W H rn ru g (X.st nd).toNat) (n := no) fun i hi => valid_nn (hk.1 i (by omega))
  have h2 := hk.2
  have h3 := hg.2
  rw [← hno] at h2 h3
  omega
theorem actN_len {ru : Int × Int} {s : SiteR} {p : Nat → N6} {q : Nat} : (actN W H o ru s p q).length ≤ q + 4 * (W * H) := by
  unfold actN
  rw [List.length_append]
  have h1 := restL_length (nd := s.nd) (st := s.st) (p := p) q
  have h2 := newN_length W H o s.nd (s.st + 1) (colM ru s p q) (W * H)
  omega
theorem ply_actE (hno : no = W * H) (hg : (∀ i, i < W * H → validC (g i) = true) ∧ massTo g (W * H) ≤ 1000000000) (hn : n ≤ 1000000) (I : PlyI W H o no rn ru g n X) {nd : Int} (h : goesB W H o no n X nd = true) (hc : 4 * no * (X.cnt + 1) ≤ 100000) (r : Int × Int) :
    actE W H o r (siteA o no X.st X.G nd) (pF X.P) X.P.length = 0 := by
  have h1 := actN_len (W := W) (H := H) (o := o) (ru := r) (s := siteA o no X.st X.G nd) (p := pF X.P) (q := X.P.length)
  have h2 := I.cntL
  rw [Nat.mul_add, Nat.mul_one] at hc
  exact actE_ok (ply_actM hno hg hn I h) (by rw [← hno] at h1; omega)
/-- .. and a turn keeps all that -/
theorem ply_next (hno : no = W * H) (hg : (∀ i, i < W * H → validC (g i) = true) ∧ massTo g (W * H) ≤ 1000000000) (hn : n ≤ 1000000) (I : PlyI W H o no rn ru g n X) {nd : Int} (h : goesB W H o no n X nd = true)
    (hE : actE W H o (ru ((X.st nd).toNat % rn)) (siteA o no X.st X.G nd) (pF X.P) X.P.length = 0) : PlyI W H o no rn ru g n (plyN W H o no rn ru n X nd) := by
  have hp := ply_post hno hg hn I
  have hs := ply_site hno hg hn I nd
  have h0 := I.st0 nd
  have hlt := (goesB_iff.1 h).1
  have hgot := fun i hi ho => ply_got (i := i) hno hg hn I h hi ho
  have hcol : ∀ i, i < no → o i = nd → colM (ru ((X.st nd).toNat % rn)) (siteA o no X.st X.G nd) (pF X.P) X.P.length i = coll (ru ((X.st nd).toNat % rn)).1 (ru ((X.st nd).toNat % rn)).2 (gT W H rn ru g (X.st nd).toNat i) := fun i hi ho => by
    unfold colM; rw [hgot i hi ho]
  have hnb : ∀ i d, i < no → d < 4 → nbT W H i d < no := fun i d hi hd => by rw [hno]; exact nbT_lt (by omega) hd
  have hstep : ∀ i d, i < no → d < 4 → o (nbT W H i d) = nd → (colM (ru ((X.st nd).toNat % rn)) (siteA o no X.st X.G nd) (pF X.P) X.P.length (nbT W H i d)).get d = (gT W H rn ru g ((X.st nd).toNat + 1) i).get d := fun i d hi hd ho => by
    rw [hcol _ (hnb i d hi hd) ho]
    rcases (by omega : d = 0 ∨ d = 1 ∨ d = 2 ∨ d = 3) with rfl | rfl | rfl | rfl <;> rfl
  have e : plyN W H o no rn ru n X nd = ⟨fun k => if k = nd then X.st nd + 1 else X.st k, fun i => if o i = nd then actC W H o (ru ((X.st nd).toNat % rn)) (siteA o no X.st X.G nd) (pF X.P) X.P.length i else X.G i, sortN (actN W H o (ru ((X.st nd).toNat % rn)) (siteA o no X.st X.G nd) (pF X.P) X.P.length), X.cnt + 1, 0⟩ := by
    unfold plyN
    rw [if_neg (fun hh => hh I.er), if_neg (by rw [h]; decide), if_pos hE]
  have hmem : ∀ x, x ∈ sortN (actN W H o (ru ((X.st nd).toNat % rn)) (siteA o no X.st X.G nd) (pF X.P) X.P.length) ↔ (x ∈ X.P ∧ ¬ (x.to = nd ∧ x.st = X.st nd)) ∨ ∃ i d : Nat, i < no ∧ d < 4 ∧ o i ≠ nd ∧ o (nbT W H i d) = nd ∧ x = noteG W H rn ru o g ((X.st nd).toNat + 1) i d := fun x => by
    rw [(sortN_perm _).mem_iff]
    unfold actN
    rw [List.mem_append, restL_iff, newN_mem]
    refine or_congr ?_ ?_
    · constructor
      · rintro ⟨k, hk, hm, rfl⟩
        refine ⟨pF_mem hk, fun hh => ?_⟩
        have : mineB nd (X.st nd) (pF X.P k) = true := by unfold mineB; rw [Bool.and_eq_true, decide_eq_true_iff, decide_eq_true_iff]; exact hh
        rw [show mineB (siteA o no X.st X.G nd).nd (siteA o no X.st X.G nd).st (pF X.P k) = mineB nd (X.st nd) (pF X.P k) from rfl, this] at hm
        cases hm
      · rintro ⟨hx, hh⟩
        obtain ⟨k, hk, rfl⟩ := pF_ex hx
        refine ⟨k, hk, ?_, rfl⟩
        show mineB nd (X.st nd) (pF X.P k) = false
        unfold mineB
        rw [Bool.and_eq_false_iff, decide_eq_false_iff_not, decide_eq_false_iff_not]
        by_cases a : (pF X.P k).to = nd
        · exact .inr fun b => hh ⟨a, b⟩
        · exact .inl a
    · constructor
      · rintro ⟨i, hi, ho, d, hd, hb, rfl⟩
        refine ⟨i, d, by omega, hd, ho, hb, ?_⟩
        unfold outN noteG
        rw [hstep i d (by omega) hd hb, hb]
        rw [N6.mk.injEq]
        exact ⟨by show X.st nd + 1 = ((X.st nd).toNat + 1 : Nat); omega, rfl, rfl, rfl, rfl, rfl⟩
      · rintro ⟨i, d, hi, hd, ho, hb, rfl⟩
        refine ⟨i, by omega, ho, d, hd, hb, ?_⟩
        unfold outN noteG
        rw [hstep i d (by omega) hd hb, hb]
        rw [N6.mk.injEq]
        exact ⟨by show (((X.st nd).toNat + 1 : Nat) : Int) = X.st nd + 1; omega, rfl, rfl, rfl, rfl, rfl⟩
  have hup : ∀ k, X.st k ≤ (if k = nd then X.st nd + 1 else X.st k) ∧ (k ≠ nd → (if k = nd then X.st nd + 1 else X.st k) = X.st k) ∧ (k = nd → (if k = nd then X.st nd + 1 else X.st k) = X.st nd + 1) := fun k => by
    by_cases ek : k = nd
    · subst ek; rw [if_pos rfl]; exact ⟨by omega, fun hh => absurd rfl hh, fun _ => rfl⟩
    · rw [if_neg ek]; exact ⟨Int.le_refl _, fun _ => rfl, fun hh => absurd hh ek⟩
  rw [e]
  refine ⟨rfl, fun k => ?_, fun k => ?_, fun k => ?_, fun i d hi hd => ?_, fun x hx => ?_, fun i d hi hd hne => ?_, fun t i d hi hd hne ht h1 h2 => ?_, ?_, ?_, ?_, ?_⟩
  · have := (hup k).1; have := I.st0 k
    show 0 ≤ (if k = nd then X.st nd + 1 else X.st k)
    omega
  · show (if k = nd then X.st nd + 1 else X.st k) ≤ n
    by_cases ek : k = nd
    · rw [if_pos ek]; omega
    · rw [if_neg ek]; exact I.stn k
  · show (if k = nd then X.st nd + 1 else X.st k) ≤ ((X.cnt + 1 : Nat) : Int)
    by_cases ek : k = nd
    · rw [if_pos ek]; have := I.stc nd; omega
    · rw [if_neg ek]; have := I.stc k; omega
  · show (if o i = nd then _ else X.G i : C4).get d = if (if o i = nd then X.st nd + 1 else X.st (o i)) = 0 then _ else if o (nbT W H i d) = o i then (gT W H rn ru g (if o i = nd then X.st nd + 1 else X.st (o i)).toNat i).get d else 0
    by_cases ho : o i = nd
    · rw [if_pos ho, if_pos ho, if_neg (by omega)]
      unfold actC
      rw [flowZ_get W H o _ _ i hd, ho]
      show (if o (nbT W H i d) = nd then _ else (0 : Int)) = _
      by_cases hb : o (nbT W H i d) = nd
      · rw [if_pos hb, if_pos hb, hstep i d hi hd hb]
        rw [show (X.st nd + 1).toNat = (X.st nd).toNat + 1 by omega]
      · rw [if_neg hb, if_neg hb]
    · rw [if_neg ho, if_neg ho]
      exact I.val i d hi hd
  · rcases (hmem x).1 hx with ⟨hx, hh⟩ | ⟨i, d, hi, hd, ho, hb, rfl⟩
    · obtain ⟨t, i, d, q1, q2, q3, q4, q5, q6, rfl⟩ := I.note x hx
      refine ⟨t, i, d, q1, q2, q3, q4, ?_, ?_, rfl⟩
      · show (if o i = nd then X.st nd + 1 else X.st (o i)) ≤ t
        by_cases ho : o i = nd
        · rw [if_pos ho]
          rw [ho] at q5
          have : (t : Int) ≠ X.st nd := fun hh2 => hh ⟨ho, hh2⟩
          omega
        · rw [if_neg ho]; exact q5
      · show (t : Int) ≤ (if o (nbT W H i d) = nd then X.st nd + 1 else X.st (o (nbT W H i d)))
        have := (hup (o (nbT W H i d))).1
        omega
    · refine ⟨(X.st nd).toNat + 1, i, d, hi, hd, by rw [hb]; exact fun hh => ho hh.symm, by omega, ?_, ?_, rfl⟩
      · show (if o i = nd then X.st nd + 1 else X.st (o i)) ≤ _
        rw [if_neg ho]
        have := I.lag i d hi hd (by rw [hb]; exact fun hh => ho hh.symm)
        rw [hb] at this
        omega
      · show (((X.st nd).toNat + 1 : Nat) : Int) ≤ (if o (nbT W H i d) = nd then X.st nd + 1 else X.st (o (nbT W H i d)))
        rw [if_pos hb]; omega
  · show (if o i = nd then X.st nd + 1 else X.st (o i)) ≤ (if o (nbT W H i d) = nd then X.st nd + 1 else X.st (o (nbT W H i d))) + 1
    have hu := (hup (o (nbT W H i d))).1
    by_cases ho : o i = nd
    · rw [if_pos ho]
      have hne2 : o (nbT W H i d) ≠ nd := by rw [← ho]; exact hne
      have : X.st nd ≤ X.st (o (nbT W H i d)) := by
        by_cases h00 : X.st nd = 0
        · rw [h00]; exact I.st0 _
        · obtain ⟨j, hj, hpl⟩ := metB_iff.1 (goes_lift I h h00 hi hd ho hne2)
          obtain ⟨t, q1, q2, q3, q4, q5, q6, q7, q8⟩ := ply_at (x := pF X.P j) I (pF_mem hj) (plcB_pl.1 hpl)
          omega
      omega
    · rw [if_neg ho]
      have := I.lag i d hi hd hne
      omega
  · refine (hmem _).2 ?_
    replace h1 : (if o i = nd then X.st nd + 1 else X.st (o i)) ≤ (t : Int) := h1
    replace h2 : (t : Int) ≤ (if o (nbT W H i d) = nd then X.st nd + 1 else X.st (o (nbT W H i d))) := h2
    by_cases hb : o (nbT W H i d) = nd
    · have ho : o i ≠ nd := fun hh => hne (hb.trans hh.symm)
      rw [if_pos hb] at h2
      rw [if_neg ho] at h1
      by_cases ht2 : (t : Int) = X.st nd + 1
      · exact .inr ⟨i, d, hi, hd, ho, hb, by rw [show t = (X.st nd).toNat + 1 by omega]⟩
      · exact .inl ⟨I.has t i d hi hd hne ht h1 (by rw [hb]; omega), fun hh => ho hh.1⟩
    · rw [if_neg hb] at h2
      by_cases ho : o i = nd
      · rw [if_pos ho] at h1
        exact .inl ⟨I.has t i d hi hd hne ht (by rw [ho]; omega) h2, fun hh => by have : (t : Int) = X.st nd := hh.2; omega⟩
      · rw [if_neg ho] at h1
        exact .inl ⟨I.has t i d hi hd hne ht h1 h2, fun hh => ho hh.1⟩
  · show (sortN _).Nodup
    rw [(sortN_perm _).nodup_iff]
    unfold actN
    refine List.nodup_append.2 ⟨restL_nodup fun i j hi hj => pF_inj I hi hj, newN_nodup _, ?_⟩
    intro a ha b hb hab
    subst hab
    obtain ⟨k, hk, hm, rfl⟩ := restL_iff.1 ha
    obtain ⟨i, hi, ho, d, hd, hbb, e2⟩ := newN_mem.1 hb
    obtain ⟨t, q1, q2, q3, q4, q5, q6, q7, q8⟩ := ply_at (x := pF X.P k) I (pF_mem hk) (st := X.st nd + 1) (i := i) (d := d) (by rw [e2]; exact ⟨rfl, rfl, rfl⟩)
    rw [show o (nbT W H i d) = nd from hbb] at q7
    omega
  · have h1 := act_mass (ru := ru ((X.st nd).toNat % rn)) hs hp hno
    have h2 := mass_turn (o := o) (nd := nd) (F := actC W H o (ru ((X.st nd).toNat % rn)) (siteA o no X.st X.G nd) (pF X.P) X.P.length) (G := X.G) no
    have h3 := massOwn_list o nd (actC W H o (ru ((X.st nd).toNat % rn)) (siteA o no X.st X.G nd) (pF X.P) X.P.length) no
    have h4 := massOwn_list o nd X.G no
    have h5 := I.mass
    have h6 := coL_pF X.P
    have h7 := coL_perm (sortN_perm (actN W H o (ru ((X.st nd).toNat % rn)) (siteA o no X.st X.G nd) (pF X.P) X.P.length))
    show massTo (fun i => if o i = nd then actC W H o (ru ((X.st nd).toNat % rn)) (siteA o no X.st X.G nd) (pF X.P) X.P.length i else X.G i) no + coL (sortN _) = massTo g no
    replace h1 : massTo (fun k => actC W H o (ru ((X.st nd).toNat % rn)) (siteA o no X.st X.G nd) (pF X.P) X.P.length ((ownL o nd no).getD k 0).toNat) (ownL o nd no).length + coL (actN W H o (ru ((X.st nd).toNat % rn)) (siteA o no X.st X.G nd) (pF X.P) X.P.length) = massTo (fun k => X.G ((ownL o nd no).getD k 0).toNat) (ownL o nd no).length + coS (pF X.P) X.P.length := h1
    rw [h7]
    omega
  · show (sortN _).length ≤ 100000
    rw [sortN_length]
    by_cases hh : (actN W H o (ru ((X.st nd).toNat % rn)) (siteA o no X.st X.G nd) (pF X.P) X.P.length).length ≤ 100000
    · exact hh
    · rw [actE_long (by omega)] at hE; cases hE
  · show (sortN _).length ≤ 4 * no * (X.cnt + 1)
    rw [sortN_length]
    have h1 := actN_len (W := W) (H := H) (o := o) (ru := ru ((X.st nd).toNat % rn)) (s := siteA o no X.st X.G nd) (p := pF X.P) (q := X.P.length)
    have h2 := I.cntL
    rw [Nat.mul_add, Nat.mul_one]
    rw [← hno] at h1
    omega
/-- all that holds, as long as no error comes -/
theorem ply_one (hno : no = W * H) (hg : (∀ i, i < W * H → validC (g i) = true) ∧ massTo g (W * H) ≤ 1000000000) (hn : n ≤ 1000000) (h : X.er = 0 → PlyI W H o no rn ru g n X) (nd : Int) : (plyN W H o no rn ru n X nd).er = 0 → PlyI W H o no rn ru g n (plyN W H o no rn ru n X nd) := by
  intro hz
  by_cases he : X.er = 0
  · have I := h he
    by_cases hb : goesB W H o no n X nd = false
    · rw [plyN_no hb]; exact I
    · have hb2 : goesB W H o no n X nd = true := by simpa using hb
      refine ply_next hno hg hn I hb2 ?_
      by_cases hE : actE W H o (ru ((X.st nd).toNat % rn)) (siteA o no X.st X.G nd) (pF X.P) X.P.length = 0
      · exact hE
      · unfold plyN at hz
        rw [if_neg (fun hh => hh he), if_neg hb, if_neg hE] at hz
        cases hz
  · rw [plyN_er he] at hz; exact absurd hz he
end
end Go.Proofs.YteabkcbajpjkoaaGreat
namespace Go.Proofs.YteabkcbajpjkoaaGreat
open Go Go.RowKit
set_option linter.unusedVariables false
set_option linter.unusedSimpArgs false
theorem flatS_set (xs : List SiteR) (i : Nat) (x : SiteR) (hi : i < xs.length) :
    ((((flatS xs).set (i * 4) (.int .i64 x.nd)).set (i * 4 + 1) (.int .i64 x.st)).set (i * 4 + 2) (.slice x.ix x.ni x.ci)).set (i * 4 + 3) (.slice x.cl x.nc x.cc) = flatS (xs.set i x) := by
  have hl := flatS_length xs
  apply List.ext_getElem?
  intro m
  by_cases hm : m < xs.length * 4
  · obtain ⟨k, j, hj, rfl⟩ : ∃ k j, j < 4 ∧ m = k * 4 + j := ⟨m / 4, m % 4, Nat.mod_lt _ (by omega), by omega⟩
    have hk : k < xs.length := by omega
    rw [flatS_at (xs.set i x) k j (by simpa using hk) hj]
    simp only [List.getElem?_set, List.length_set, hl]
    by_cases e : i = k
    · subst e
      have e2 : (xs.set i x).getD i SiteR.zero = x := by simp [List.getD_eq_getElem?_getD, hi]
      rw [e2]
      rcases (by omega : j = 0 ∨ j = 1 ∨ j = 2 ∨ j = 3) with rfl | rfl | rfl | rfl
      · rw [if_neg (by omega), if_neg (by omega), if_neg (by omega), if_pos (by omega), if_pos (by omega)]; rfl
      · rw [if_neg (by omega), if_neg (by omega), if_pos (by omega), if_pos (by omega)]; rfl
      · rw [if_neg (by omega), if_pos (by omega), if_pos (by omega)]; rfl
      · rw [if_pos (by omega), if_pos (by omega)]; rfl
    · have e2 : (xs.set i x).getD k SiteR.zero = xs.getD k SiteR.zero := by simp [List.getD_eq_getElem?_getD, List.getElem?_set, e]
      rw [e2, if_neg (by omega), if_neg (by omega), if_neg (by omega), if_neg (by omega)]
      exact flatS_at xs k j hk hj
  · rw [List.getElem?_eq_none (by simp only [List.length_set, hl]; omega), List.getElem?_eq_none (by rw [flatS_length, List.length_set]; omega)]
theorem ownS_set {w : World} {base g n cap : Nat} {xs : List SiteR} (h : OwnS w base (.slice (some ⟨g, 0, none⟩) n cap) xs) {i : Nat} (hi : i < xs.length) (x : SiteR) :
    OwnS ((((w.setCell ⟨g, i * 4, none⟩ (.int .i64 x.nd)).setCell ⟨g, i * 4 + 1, none⟩ (.int .i64 x.st)).setCell ⟨g, i * 4 + 2, none⟩ (.slice x.ix x.ni x.ci)).setCell ⟨g, i * 4 + 3, none⟩ (.slice x.cl x.nc x.cc)) base (.slice (some ⟨g, 0, none⟩) n cap) (xs.set i x) := by
  have hn : n = xs.length := by
    rcases h.2 with ⟨h', _⟩ | ⟨g', cap', cur, h', _⟩
    · cases h'
    · injection h'
  subst hn
  have h4 := (((World.ownsRow.stored h (i * 4) (.int .i64 x.nd)).1.stored (i * 4 + 1) (.int .i64 x.st)).1.stored (i * 4 + 2) (.slice x.ix x.ni x.ci)).1.stored (i * 4 + 3) (.slice x.cl x.nc x.cc)
  unfold OwnS
  rw [← flatS_set xs i x hi, List.length_set]
  exact h4.1
/-- the sites of a play's nodes, in an own list -/
def PlyOwn (o : Nat → Int) (no : Nat) (st : Int → Int) (G : Nat → C4) (L : List Int) (base : Nat) (W : World) (v : Value) (xs : List SiteR) : Prop :=
  OwnS W base v xs ∧ xs.length = L.length ∧ ∀ k, k < L.length → siteQ o no st G (L.getD k 0) (xs.getD k SiteR.zero) ∧ (xs.getD k SiteR.zero).lies W ∧ (∀ b of, ((xs.getD k SiteR.zero).ix = some ⟨b, of, none⟩ ∨ (xs.getD k SiteR.zero).cl = some ⟨b, of, none⟩) → base ≤ b ∧ b < W.heap.size) ∧ ∀ gb, v.ownBlock = some gb → (xs.getD k SiteR.zero).off gb
theorem ply_split {o : Nat → Int} {no : Nat} {g : Nat → C4} {L : List Int} {base : Nat} {W : World} {v : Value} {xs : List SiteR} (h : SplitOwn o no g L base W v xs) : PlyOwn o no (fun _ => 0) g L base W v xs := h
theorem PlyOwn.ss {o : Nat → Int} {no : Nat} {st : Int → Int} {G : Nat → C4} {L : List Int} {base : Nat} {W : World} {v : Value} {xs : List SiteR} (h : PlyOwn o no st G L base W v xs) : ∃ a c, v = .slice a xs.length c ∧ Ss W a xs.length (fun k => xs.getD k SiteR.zero) :=
  ss_of_own h.1 fun k hk => (h.2.2 k (by rw [← h.2.1]; exact hk)).2.1
theorem PlyOwn.ss2 {o : Nat → Int} {no : Nat} {st : Int → Int} {G : Nat → C4} {L : List Int} {base : Nat} {W : World} {v : Value} {xs : List SiteR} (h : PlyOwn o no st G L base W v xs) (hL : L ≠ []) : ∃ g c, v = .slice (some ⟨g, 0, none⟩) xs.length c ∧ Ss W (some ⟨g, 0, none⟩) xs.length (fun k => xs.getD k SiteR.zero) ∧ base ≤ g ∧ g < W.heap.size := by
  obtain ⟨a, c, rfl, hs⟩ := h.ss
  have h1 := h.1
  rcases h1.2 with ⟨h', h0⟩ | ⟨g, cap, cur, h', hb, hh, _⟩
  · have : L.length = 0 := by rw [← h.2.1]; exact h0
    exact absurd (List.length_eq_zero_iff.1 this) hL
  · injection h' with e1 e2 e3
    subst e1
    refine ⟨g, c, rfl, hs, hb, ?_⟩
    rcases Nat.lt_or_ge g W.heap.size with h' | h'
    · exact h'
    · rw [Array.getElem?_eq_none h'] at hh; cases hh
theorem PlyOwn.but {o : Nat → Int} {no : Nat} {st : Int → Int} {G : Nat → C4} {L : List Int} {base : Nat} {X Y : World} {v : Value} {xs : List SiteR} {C : Nat → Prop} (h : PlyOwn o no st G L base X v xs) (hb : But C X Y)
    (h1 : ∀ g, v.ownBlock = some g → ¬ C g) (h2 : ∀ k, k < L.length → ∀ b of, ((xs.getD k SiteR.zero).ix = some ⟨b, of, none⟩ ∨ (xs.getD k SiteR.zero).cl = some ⟨b, of, none⟩) → ¬ C b) : PlyOwn o no st G L base Y v xs :=
  ⟨own_butS h.1 hb h1, h.2.1, fun k hk => by
    obtain ⟨q1, q2, q3, q4⟩ := h.2.2 k hk
    exact ⟨q1, q2.but hb (h2 k hk), fun b of hh => ⟨(q3 b of hh).1, Nat.lt_of_lt_of_le (q3 b of hh).2 hb.size⟩, q4⟩⟩
theorem PlyOwn.below {o : Nat → Int} {no : Nat} {st : Int → Int} {G : Nat → C4} {L : List Int} {base : Nat} {X Y : World} {v : Value} {xs : List SiteR} (h : PlyOwn o no st G L base X v xs) (hb : Below X.heap.size X Y) : PlyOwn o no st G L base Y v xs :=
  ⟨own_below h.1 hb, h.2.1, fun k hk => by
    obtain ⟨q1, q2, q3, q4⟩ := h.2.2 k hk
    exact ⟨q1, q2.below hb, fun b of hh => ⟨(q3 b of hh).1, Nat.lt_of_lt_of_le (q3 b of hh).2 hb.size⟩, q4⟩⟩
theorem siteQ_own {o : Nat → Int} {no : Nat} {st st' : Int → Int} {G G' : Nat → C4} {nd : Int} {s : SiteR} (h : siteQ o no st G nd s) (h1 : st' nd = st nd) (h2 : ∀ i, i < no → o i = nd → G' i = G i) : siteQ o no st' G' nd s := by
  obtain ⟨q1, q2, q3, q4, q5⟩ := h
  refine ⟨q1, q2.trans h1.symm, q3, q4, fun j hj => ⟨(q5 j hj).1, ?_⟩⟩
  obtain ⟨i, e1, e2, e3⟩ := own_nat (o := o) (nd := nd) (no := no) (j := j) (by omega)
  rw [(q5 j hj).2, e1, Int.toNat_natCast, h2 i e2 e3]
/-- one site is stored anew -/
theorem PlyOwn.step {o : Nat → Int} {no : Nat} {st : Int → Int} {G Cn : Nat → C4} {L : List Int} {base g n cap : Nat} {W : World} {xs : List SiteR} (h : PlyOwn o no st G L base W (.slice (some ⟨g, 0, none⟩) n cap) xs) (hL : L.Nodup) {i : Nat} (hi : i < L.length) {s : SiteR} {t : Int}
    (hs : s.lies W) (h1 : s.nd = L.getD i 0) (h2 : s.st = t) (h3 : s.ni = (ownL o (L.getD i 0) no).length) (h4 : s.nc = (ownL o (L.getD i 0) no).length) (h5 : ∀ k, k < (ownL o (L.getD i 0) no).length → s.I k = (ownL o (L.getD i 0) no).getD k 0) (h6 : ∀ k, k < (ownL o (L.getD i 0) no).length → s.C k = Cn ((ownL o (L.getD i 0) no).getD k 0).toNat)
    (h7 : ∀ b off, (s.ix = some ⟨b, off, none⟩ ∨ s.cl = some ⟨b, off, none⟩) → g < b ∧ b < W.heap.size) :
    PlyOwn o no (fun k => if k = L.getD i 0 then t else st k) (fun j => if o j = L.getD i 0 then Cn j else G j) L base ((((W.setCell ⟨g, i * 4, none⟩ (.int .i64 s.nd)).setCell ⟨g, i * 4 + 1, none⟩ (.int .i64 s.st)).setCell ⟨g, i * 4 + 2, none⟩ (.slice s.ix s.ni s.ci)).setCell ⟨g, i * 4 + 3, none⟩ (.slice s.cl s.nc s.cc)) (.slice (some ⟨g, 0, none⟩) n cap) (xs.set i s) := by
  have hbut : But (fun z => z = g) W ((((W.setCell ⟨g, i * 4, none⟩ (.int .i64 s.nd)).setCell ⟨g, i * 4 + 1, none⟩ (.int .i64 s.st)).setCell ⟨g, i * 4 + 2, none⟩ (.slice s.ix s.ni s.ci)).setCell ⟨g, i * 4 + 3, none⟩ (.slice s.cl s.nc s.cc)) :=
    (((But.set_ (But.refl (fun z => z = g) W) (p := ⟨g, i * 4, none⟩) rfl _).set_ (p := ⟨g, i * 4 + 1, none⟩) rfl _).set_ (p := ⟨g, i * 4 + 2, none⟩) rfl _).set_ (p := ⟨g, i * 4 + 3, none⟩) rfl _
  have hg : base ≤ g := own_base h.1 g rfl
  refine ⟨ownS_set h.1 (by rw [h.2.1]; exact hi) s, by rw [List.length_set]; exact h.2.1, fun k hk => ?_⟩
  by_cases e : k = i
  · subst e
    have e2 : (xs.set k s).getD k SiteR.zero = s := by simp [List.getD_eq_getElem?_getD, h.2.1, hk]
    rw [e2]
    refine ⟨⟨h1, by rw [h2]; exact (if_pos rfl).symm, h3, by rw [h4, h3], fun j hj => ⟨h5 j (by omega), ?_⟩⟩, hs.but hbut fun b of hh => by have := (h7 b of hh).1; omega, fun b of hh => ?_, fun gb hgb => ?_⟩
    · obtain ⟨i', e3, e4, e5⟩ := own_nat (o := o) (nd := L.getD k 0) (no := no) (j := j) (by omega)
      rw [h6 j (by omega), e3, Int.toNat_natCast]
      exact (if_pos e5).symm
    · have := h7 b of hh; have := hbut.size; omega
    · have : gb = g := by simpa [Value.ownBlock] using hgb.symm
      subst this
      refine ⟨fun b of hh => ?_, fun b of hh => ?_⟩
      · have := (h7 b of (.inl hh)).1; omega
      · have := (h7 b of (.inr hh)).1; omega
  · have e2 : (xs.set i s).getD k SiteR.zero = xs.getD k SiteR.zero := by
      simp [List.getD_eq_getElem?_getD, List.getElem?_set, Ne.symm e]
    rw [e2]
    obtain ⟨q1, q2, q3, q4⟩ := h.2.2 k hk
    have hne : L.getD k 0 ≠ L.getD i 0 := fun hh => by
      rw [List.getD_eq_getElem?_getD, List.getElem?_eq_getElem hk, List.getD_eq_getElem?_getD, List.getElem?_eq_getElem hi] at hh
      exact e (nodup_inj hL hk hi (by simpa using hh))
    have hoff := q4 g rfl
    refine ⟨siteQ_own q1 (if_neg hne) fun i' _ hi' => if_neg (by rw [hi']; exact hne), q2.but hbut fun b of hh e3 => ?_, fun b of hh => ⟨(q3 b of hh).1, ?_⟩, q4⟩
    · subst e3
      rcases hh with hh | hh
      · exact hoff.1 _ of hh rfl
      · exact hoff.2 _ of hh rfl
    · have := (q3 b of hh).2; have := hbut.size; omega
set_option maxRecDepth 100000 in
set_option maxHeartbeats 1000000 in
theorem ply_is (s : SiteR) (b : Nat) (nd : Int) (w : World) (X : Bx w b #[.int .i64 nd]) : Calls Tryz.prog 70 #[.agg #[.int .i64 s.nd, .int .i64 s.st, .slice s.ix s.ni s.ci, .slice s.cl s.nc s.cc], .pointer (some ⟨b, 0, none⟩)] w fun e w' => e = .returned (.bool (s.nd == nd)) ∧ Below w.heap.size w w' := by
  have x0 := X.at_ 0 rfl
  have xl := X.lt
  go_enter Tryz.func70, Tryz.ntmps70
  go_wp2
  go_ret
  exact ⟨ret_bool rfl, by (repeat' (first | with_reducible assumption | with_reducible exact Below.refl _ _ | with_reducible refine Below.drew ?_ | with_reducible refine below_drewN ?_ _ | with_reducible refine balloc ?_ _ | with_reducible refine bset ?_ ?_ _ | with_reducible refine Below.setCell ?_ ?_ _ | with_reducible refine Below.alloc ?_ ?_ _ | omega | (simp; done) | (simp; omega)))⟩
theorem ent_play1 : ∀ args w, (callFunc 70 args).run Tryz.prog w = .ok (.enter 70 args) w := Go.Proofs.enters_of Tryz.func70 (by kernel_rfl) rfl
set_option maxRecDepth 100000 in
set_option maxHeartbeats 1000000 in
theorem sites_at (a : Option Addr) (n c b : Nat) (nd : Int) (f : Nat → SiteR) (w : World) (hn : n ≤ 100000000) (H : Ss w a n f) (X : Bx w b #[.int .i64 nd]) {i : Nat} (hi : i < n) (hnd : (f i).nd = nd) (hd : ∀ k, k < i → (f k).nd ≠ nd) :
    Calls Tryz.prog 69 #[.slice a n c, .func (.func 70) #[] #[.pointer (some ⟨b, 0, none⟩)]] w fun e w' => e = .returned (.int .i64 (i : Int)) ∧ Below w.heap.size w w' := by
  have hp : ∀ k W, Below w.heap.size w W → Calls Tryz.prog 70 #[.agg #[.int .i64 (f k).nd, .int .i64 (f k).st, .slice (f k).ix (f k).ni (f k).ci, .slice (f k).cl (f k).nc (f k).cc], .pointer (some ⟨b, 0, none⟩)] W fun e w' => e = .returned (.bool ((f k).nd == nd)) ∧ Below W.heap.size W w' := fun k W hW => ply_is (f k) b nd W (X.below hW)
  have eg := ent_play1
  go_enter Tryz.func69, Tryz.ntmps69
  go_wp2
  go_loopw [8] (fun i' wr => ∃ k : Nat, k ≤ i ∧ i' = .int .i64 k ∧ Below w.heap.size w wr) (fun i _ => n - (intOf i).toNat)
  case atStart => exact ⟨0, Nat.zero_le _, rfl, Below.refl _ _⟩
  case round =>
    obtain ⟨k, hk, rfl, hB⟩ := hrel
    have hlt : k < n := by omega
    obtain ⟨b1, o1, rfl, hb1, c0, c1, c2, c3, _⟩ := (H.below hB) k hlt
    have hpk := hp k wr hB
    clear hp
    go_wp2_with fail
    refine hpk.mono ?_
    rintro e w1 ⟨rfl, hb1⟩
    replace hB := bvia hB hb1
    by_cases hv : k = i
    · subst hv
      have hv2 : ((f k).nd == nd) = true := by rw [hnd]; simp
      rw [hv2]
      go_wp2_with fail
      go_ret
      exact ⟨rfl, hB⟩
    · have hv2 : ((f k).nd == nd) = false := by
        have := hd k (by omega)
        simpa using this
      rw [hv2]
      go_wp2_with fail
      go_roundw
      case rel => exact ⟨k + 1, by omega, by go_num, hB⟩
      case measure => simp [intOf]; omega
/-- what acting gives is a turn of the plain play -/
theorem act_turn {W H : Nat} {o : Nat → Int} {no rn : Nat} {ru : Nat → Int × Int} {n : Int} {X : Ply} {nd : Int} {s : SiteR} {w w' : World} {e : Ending} (h : siteQ o no X.st X.G nd s) (her : X.er = 0) (hg : goesB W H o no n X nd = true) (hS : ActS W H o (ru (s.st.toNat % rn)) no s (pF X.P) X.P.length w e w') :
    ∃ (E nd' t' : Int) (L' : List Int) (Cn : Nat → C4) (R : List N6), ActPost E nd' t' L' Cn R w e w' ∧ (plyN W H o no rn ru n X nd).er = E ∧ (E = 0 ∨ E = 4) ∧ (E = 0 → nd' = nd ∧ t' = X.st nd + 1 ∧ L' = ownL o nd no ∧ plyN W H o no rn ru n X nd = ⟨fun k => if k = nd then t' else X.st k, fun i => if o i = nd then Cn i else X.G i, R, X.cnt + 1, 0⟩) := by
  unfold ActS at hS
  rw [siteQ_actE h, siteQ_actC h, siteQ_actN h, h.1, h.2.1] at hS
  unfold plyN
  rw [if_neg (fun hh => hh her), if_neg (by rw [hg]; decide)]
  by_cases hE : actE W H o (ru ((X.st nd).toNat % rn)) (siteA o no X.st X.G nd) (pF X.P) X.P.length = 0
  · rw [if_pos hE] at hS
    exact ⟨0, _, _, _, _, _, hS, by rw [if_pos hE], .inl rfl, fun _ => ⟨rfl, rfl, rfl, by rw [if_pos hE]⟩⟩
  · rw [if_neg hE] at hS
    exact ⟨4, _, _, _, _, _, hS, by rw [if_neg hE], .inr rfl, fun hh => by cases hh⟩
theorem dup_act {X : Prop} {H G : World → Nat → SiteR → Value → Int → Prop} (main : (∀ w5 bx s v E, H w5 bx s v E → G w5 bx s v E) → X) (key : ∀ w5 bx s v E, H w5 bx s v E → G w5 bx s v E) : X := main key
/-- what a play leaves -/
def PlyPost (o : Nat → Int) (no : Nat) (Z : Ply) (w : World) (e : Ending) (w' : World) : Prop :=
  (Z.er = 0 ∧ ∃ vS xs vP, e = .returned (.tuple #[vS, vP, .int .i64 Z.cnt, .int .i64 0]) ∧ PlyOwn o no Z.st Z.G (nodeL o no 8) w.heap.size w' vS xs ∧ OwnN w' w.heap.size vP Z.P ∧ Below w.heap.size w w') ∨
  (Z.er = 4 ∧ e = .returned (.tuple #[.slice none 0 0, .slice none 0 0, .int .i64 0, .int .i64 4]) ∧ Below w.heap.size w w')
theorem node_has {o : Nat → Int} {no : Nat} (hob : ∀ k, k < no → 0 ≤ o k ∧ o k ≤ 7) {x : Int} (hx : ∃ i, i < no ∧ o i = x) : ∃ k, k < (nodeL o no 8).length ∧ (nodeL o no 8).getD k 0 = x ∧ (∀ j, j < (nodeL o no 8).length → j ≠ k → (nodeL o no 8).getD j 0 ≠ x) ∧ 0 < (ownL o x no).length ∧ 0 ≤ x ∧ x ≤ 7 := by
  obtain ⟨i, hi, rfl⟩ := hx
  have hb := hob i hi
  have hmem : o i ∈ nodeL o no 8 := nodeL_mem.2 ⟨(o i).toNat, by omega, by omega, fun hh => ownL_nil.1 hh i hi (by omega)⟩
  obtain ⟨k, hk⟩ := List.getElem?_of_mem hmem
  have hlt := (List.getElem?_eq_some_iff.1 hk).1
  have e : (nodeL o no 8).getD k 0 = o i := by rw [List.getD_eq_getElem?_getD, hk]; rfl
  have hnod : (nodeL o no 8).Nodup := (nodeL_sorted o no 8).imp fun hab => by omega
  refine ⟨k, hlt, e, fun j hj hjk hh => hjk ?_, ?_, hb.1, hb.2⟩
  · rw [← e, List.getD_eq_getElem?_getD, List.getElem?_eq_getElem hj, List.getD_eq_getElem?_getD, List.getElem?_eq_getElem hlt] at hh
    exact nodup_inj hnod hj hlt (by simpa using hh)
  · rcases Nat.eq_zero_or_pos (ownL o (o i) no).length with h0 | h0
    · exact absurd rfl (ownL_nil.1 (List.length_eq_zero_iff.1 h0) i hi)
    · exact h0
end Go.Proofs.YteabkcbajpjkoaaGreat
