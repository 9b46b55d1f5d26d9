/- Plain law: a due note's place is in a valid post just if the post has the note but for its count. Plain words and laws: what a node makes of its cells and of a post when it acts. No program in sight. Plain words and laws: the notes that a node sends when it acts, in both orders; masses. No program in sight. Plain words: the program's maps while a node acts, key by key; boxes of cells; what stays under changes elsewhere. Words for the walk of act: what stands while the due notes are gone through. Plain words and laws: what a node that acts makes of its site and of a post; the mass stays. No program in sight. Plain law: acting never changes the mass. No program in sight. Walk: the function that tells which notes are used; words for the last loops of act. Plain words and laws: the reference's way to lay the cells and the notes of a node that acts. No program in sight. A region that draws its order: operations that may come up in many orders, by a word on the operations that are done. Words for the region of the reference's act that makes the new site: what stands when some of its four operations are done. -/
import Derived.Test.YteabkcbajpjkoaaGreatPk7
import Derived.Test.YteabkcbajpjkoaaGreatPk6
import Derived.Test.YteabkcbajpjkoaaGreatPk1
import Derived.Test.YteabkcbajpjkoaaGreatPk5
import Derived.Test.YteabkcbajpjkoaaGreatPk8
import Derived.Test.YteabkcbajpjkoaaGreatPk9
import Derived.Test.YteabkcbajpjkoaaGreatPk4
namespace Go.Proofs.YteabkcbajpjkoaaGreat
open Go Go.RowKit
set_option linter.unusedVariables false
set_option linter.unusedSimpArgs false
theorem dueC_fr {W H : Nat} {o : Nat → Int} {nd st : Int} {i : Nat} : ∀ {d}, ∀ x ∈ dueC W H o nd st i d, x.fr = o (nbT W H x.ce.toNat x.di.toNat)
  | 0, x, h => by simp [dueC] at h
  | d + 1, x, h => by
    simp only [dueC] at h
    split at h
    · exact dueC_fr x h
    · rcases List.mem_append.1 h with h | h
      · exact dueC_fr x h
      · rw [List.mem_singleton] at h; subst h; simp
theorem dueL_fr {W H : Nat} {o : Nat → Int} {nd st : Int} : ∀ {n}, ∀ x ∈ dueL W H o nd st n, x.fr = o (nbT W H x.ce.toNat x.di.toNat) ∧ o x.ce.toNat = nd
  | 0, x, h => by simp [dueL] at h
  | n + 1, x, h => by
    simp only [dueL] at h
    split at h
    · rename_i hn
      rcases List.mem_append.1 h with h | h
      · exact dueL_fr x h
      · have h2 := (dueC_num x h).2.2.1
        exact ⟨dueC_fr x h, by rw [h2]; simpa using hn⟩
    · exact dueL_fr x h
end Go.Proofs.YteabkcbajpjkoaaGreat
namespace Go.Proofs.YteabkcbajpjkoaaGreat
open Go Go.RowKit
set_option linter.unusedVariables false
/-- is a note one that a node uses in its step? -/
def mineB (nd st : Int) (x : N6) : Bool := decide (x.to = nd) && decide (x.st = st)
/-- the counts of the first notes that a node uses, put into its cells -/
def addM (nd st : Int) (G : Nat → C4) (p : Nat → N6) : Nat → Nat → C4 | 0 => G | k + 1 => if mineB nd st (p k) = true then addC (addM nd st G p k) (p k) else addM nd st G p k
/-- .. their sum -/
def coM (nd st : Int) (p : Nat → N6) : Nat → Int | 0 => 0 | k + 1 => if mineB nd st (p k) = true then coM nd st p k + (p k).co else coM nd st p k
/-- the notes that it leaves -/
def restL (nd st : Int) (p : Nat → N6) : Nat → List N6 | 0 => [] | k + 1 => if mineB nd st (p k) = true then restL nd st p k else restL nd st p k ++ [p k]
/-- the program's way: the counts of the notes that are due -/
def addL (p : Nat → N6) (q : Nat) (G : Nat → C4) : List N6 → Nat → C4 := fun L => L.foldl (fun G x => if metB p x q = true then addC G ⟨x.st, x.fr, x.to, x.ce, x.di, cntV p x q⟩ else G) G
theorem addL_snoc (p : Nat → N6) (q : Nat) (G : Nat → C4) (L : List N6) (x : N6) : addL p q G (L ++ [x]) = if metB p x q = true then addC (addL p q G L) ⟨x.st, x.fr, x.to, x.ce, x.di, cntV p x q⟩ else addL p q G L := by
  simp only [addL, List.foldl_append, List.foldl_cons, List.foldl_nil]
theorem addC_get (G : Nat → C4) (x : N6) (i : Nat) {d : Nat} (hd : d < 4) (hx : x.di.toNat < 4) : (addC G x i).get d = (G i).get d + (if i = x.ce.toNat ∧ d = x.di.toNat then x.co else 0) := by
  simp only [addC, updC]
  by_cases h : i = x.ce.toNat
  · rw [if_pos h, C4.with_get _ _ hx hd]
    by_cases h2 : d = x.di.toNat
    · rw [if_pos h2, if_pos ⟨h, h2⟩, h, h2]
    · rw [if_neg h2, if_neg (fun h3 => h2 h3.2), h]; omega
  · rw [if_neg h, if_neg (fun h3 => h h3.1)]; omega
/-- a place, as a note without a count -/
def plN (o : Nat → Int) (W H : Nat) (nd st : Int) (i d : Nat) : N6 := ⟨st, o (nbT W H i d), nd, i, d, 0⟩
theorem plcB_pl {o : Nat → Int} {W H : Nat} {nd st : Int} {i d : Nat} {x : N6} : plcB x (plN o W H nd st i d) = true ↔ x.st = st ∧ x.ce = i ∧ x.di = d := plcB_iff
/-- what the notes bring into a cell in a direction -/
def inV (o : Nat → Int) (W H : Nat) (nd st : Int) (p : Nat → N6) (k i d : Nat) : Int := if o i = nd ∧ metB p (plN o W H nd st i d) k = true then cntV p (plN o W H nd st i d) k else 0
theorem addM_get {W H : Nat} {o : Nat → Int} {no : Nat} {nd st : Int} {G : Nat → C4} {p : Nat → N6} : ∀ {q}, (∀ k, k < q → noteB W H o no (p k) = true) → (∀ k, k < q → metB p (p k) k = false) → ∀ i d, d < 4 → (addM nd st G p q i).get d = (G i).get d + inV o W H nd st p q i d
  | 0, _, _, i, d, hd => by simp [addM, inV, metB]
  | q + 1, hn, hm, i, d, hd => by
    have ih := addM_get (G := G) (nd := nd) (st := st) (q := q) (fun k hk => hn k (by omega)) (fun k hk => hm k (by omega)) i d hd
    obtain ⟨h1, h2, h3, h4⟩ := noteB_iff.1 (hn q (by omega))
    obtain ⟨_, ⟨c1, c2⟩, ⟨c3, c4⟩, _⟩ := noteR_iff.1 h1
    have hmq := hm q (by omega)
    simp only [addM]
    cases hb : mineB nd st (p q)
    · rw [if_neg (by simp), ih]
      congr 1
      unfold inV
      simp only [metB, cntV]
      by_cases hp : plcB (p q) (plN o W H nd st i d) = true
      rotate_left
      · have hpf : plcB (p q) (plN o W H nd st i d) = false := by simpa using hp
        simp only [hpf, Bool.or_false]
        simp
      · obtain ⟨e1, e2, e3⟩ := plcB_pl.1 hp
        have hno : ¬ o i = nd := fun e => by
          have : mineB nd st (p q) = true := by
            unfold mineB
            rw [decide_eq_true (show (p q).to = nd by rw [h2, e2]; simpa using e), decide_eq_true e1]; rfl
          rw [hb] at this; cases this
        simp only [hno, false_and, if_false]
    · rw [if_pos rfl, addC_get _ _ _ hd (by omega), ih]
      unfold mineB at hb
      rw [Bool.and_eq_true, decide_eq_true_iff, decide_eq_true_iff] at hb
      obtain ⟨b1, b2⟩ := hb
      by_cases he : i = (p q).ce.toNat ∧ d = (p q).di.toNat
      · rw [if_pos he]
        obtain ⟨e1, e2⟩ := he
        have hp : plcB (p q) (plN o W H nd st i d) = true := plcB_pl.2 ⟨b2, by omega, by omega⟩
        have hsame : ∀ k, metB p (plN o W H nd st i d) k = metB p (p q) k := fun k => by
          rw [Bool.eq_iff_iff, metB_iff, metB_iff]
          constructor
          · rintro ⟨j, h1, h2⟩
            obtain ⟨x1, x2, x3⟩ := plcB_pl.1 h2
            exact ⟨j, h1, plcB_iff.2 ⟨by omega, by omega, by omega⟩⟩
          · rintro ⟨j, h1, h2⟩
            obtain ⟨x1, x2, x3⟩ := plcB_iff.1 h2
            exact ⟨j, h1, plcB_pl.2 ⟨by omega, by omega, by omega⟩⟩
        have hoi : o i = nd := by rw [e1, ← h2]; exact b1
        unfold inV
        rw [hsame q, hmq, if_neg (by simp), if_pos ⟨hoi, by simp [metB, hp]⟩]
        simp only [cntV, hp, if_true]; omega
      · rw [if_neg he]
        have hp : plcB (p q) (plN o W H nd st i d) = false := by
          rw [← Bool.not_eq_true, plcB_pl]
          rintro ⟨x1, x2, x3⟩
          exact he ⟨by omega, by omega⟩
        unfold inV
        simp only [metB, cntV, hp, Bool.or_false]
        simp
/-- .. by the notes that are due to the cell -/
theorem addL_dueC {W H : Nat} {o : Nat → Int} {nd st : Int} {G : Nat → C4} {p : Nat → N6} {q : Nat} (i : Nat) (j e : Nat) (he : e < 4) : ∀ d, d ≤ 4 → (addL p q G (dueC W H o nd st i d) j).get e = (G j).get e + (if j = i ∧ e < d ∧ o (nbT W H i e) ≠ nd ∧ metB p (plN o W H nd st i e) q = true then cntV p (plN o W H nd st i e) q else 0)
  | 0, _ => by simp [dueC, addL]
  | d + 1, hd => by
    have ih := addL_dueC (G := G) (p := p) (q := q) (W := W) (H := H) (o := o) (nd := nd) (st := st) i j e he d (by omega)
    simp only [dueC]
    by_cases hn : o (nbT W H i d) = nd
    · rw [if_pos hn, ih]
      congr 1
      by_cases h : j = i ∧ e < d ∧ o (nbT W H i e) ≠ nd ∧ metB p (plN o W H nd st i e) q = true
      · rw [if_pos h, if_pos ⟨h.1, by omega, h.2.2⟩]
      · rw [if_neg h, if_neg]
        rintro ⟨h1, h2, h3, h4⟩
        by_cases e1 : e = d
        · subst e1; exact h3 hn
        · exact h ⟨h1, by omega, h3, h4⟩
    · rw [if_neg hn, addL_snoc]
      have hpl : (⟨st, o (nbT W H i d), nd, (i : Int), (d : Int), 0⟩ : N6) = plN o W H nd st i d := rfl
      rw [hpl]
      cases hm : metB p (plN o W H nd st i d) q
      · rw [if_neg (by simp), ih]
        congr 1
        by_cases h : j = i ∧ e < d ∧ o (nbT W H i e) ≠ nd ∧ metB p (plN o W H nd st i e) q = true
        · rw [if_pos h, if_pos ⟨h.1, by omega, h.2.2⟩]
        · rw [if_neg h, if_neg]
          rintro ⟨h1, h2, h3, h4⟩
          by_cases e1 : e = d
          · subst e1; rw [hm] at h4; cases h4
          · exact h ⟨h1, by omega, h3, h4⟩
      · rw [if_pos rfl, addC_get _ _ _ he (by simp [plN]; omega), ih]
        dsimp only
        have hc1 : (plN o W H nd st i d).ce.toNat = i := Int.toNat_natCast i
        have hc2 : (plN o W H nd st i d).di.toNat = d := Int.toNat_natCast d
        rw [hc1, hc2]
        by_cases h : j = i ∧ e = d
        · obtain ⟨rfl, rfl⟩ := h
          rw [if_neg (by omega), if_pos ⟨rfl, rfl⟩, if_pos ⟨rfl, by omega, hn, hm⟩]; omega
        · rw [if_neg h]
          by_cases h2 : j = i ∧ e < d ∧ o (nbT W H i e) ≠ nd ∧ metB p (plN o W H nd st i e) q = true
          · rw [if_pos h2, if_pos ⟨h2.1, by omega, h2.2.2⟩]; omega
          · rw [if_neg h2, if_neg]
            · omega
            · rintro ⟨h3, h4, h5, h6⟩
              exact h2 ⟨h3, by by_cases e1 : e = d; (exact absurd ⟨h3, e1⟩ h); omega, h5, h6⟩
theorem addL_app (p : Nat → N6) (q : Nat) (G : Nat → C4) (L M : List N6) : addL p q G (L ++ M) = addL p q (addL p q G L) M := by simp only [addL, List.foldl_append]
theorem addL_get {W H : Nat} {o : Nat → Int} {nd st : Int} {G : Nat → C4} {p : Nat → N6} {q : Nat} (j e : Nat) (he : e < 4) : ∀ n, (addL p q G (dueL W H o nd st n) j).get e = (G j).get e + (if j < n ∧ o j = nd ∧ o (nbT W H j e) ≠ nd ∧ metB p (plN o W H nd st j e) q = true then cntV p (plN o W H nd st j e) q else 0)
  | 0 => by simp [dueL, addL]
  | n + 1 => by
    have ih := addL_get (G := G) (p := p) (q := q) (W := W) (H := H) (o := o) (nd := nd) (st := st) j e he n
    simp only [dueL]
    by_cases hn : o n = nd
    · rw [if_pos hn, addL_app, addL_dueC n j e he 4 (by omega), ih]
      by_cases e1 : j = n
      · subst e1
        rw [if_neg (show ¬ (j < j ∧ o j = nd ∧ o (nbT W H j e) ≠ nd ∧ metB p (plN o W H nd st j e) q = true) by omega)]
        by_cases h : o (nbT W H j e) ≠ nd ∧ metB p (plN o W H nd st j e) q = true
        · rw [if_pos ⟨rfl, he, h⟩, if_pos ⟨by omega, hn, h⟩]; omega
        · rw [if_neg (fun h2 => h h2.2.2), if_neg (fun h2 => h h2.2.2)]; omega
      · rw [if_neg (show ¬ (j = n ∧ e < 4 ∧ o (nbT W H n e) ≠ nd ∧ metB p (plN o W H nd st n e) q = true) from fun h => e1 h.1)]
        by_cases h : j < n ∧ o j = nd ∧ o (nbT W H j e) ≠ nd ∧ metB p (plN o W H nd st j e) q = true
        · rw [if_pos h, if_pos ⟨by omega, h.2⟩]; omega
        · rw [if_neg h, if_neg (fun h2 => h ⟨by omega, h2.2⟩)]; omega
    · rw [if_neg hn, ih]
      congr 1
      by_cases h : j < n ∧ o j = nd ∧ o (nbT W H j e) ≠ nd ∧ metB p (plN o W H nd st j e) q = true
      · rw [if_pos h, if_pos ⟨by omega, h.2⟩]
      · rw [if_neg h, if_neg]
        rintro ⟨h1, h2, h3⟩
        by_cases e1 : j = n
        · subst e1; exact hn h2
        · exact h ⟨by omega, h2, h3⟩
/-- both ways bring the same -/
theorem addL_addM {W H : Nat} {o : Nat → Int} {no q : Nat} {nd st : Int} {G : Nat → C4} {p : Nat → N6} (hn : ∀ k, k < q → noteB W H o no (p k) = true) (hm : ∀ k, k < q → metB p (p k) k = false) {j : Nat} (hj : j < no) : addL p q G (dueL W H o nd st no) j = addM nd st G p q j := by
  refine C4.ext' fun e he => ?_
  rw [addL_get j e he no, addM_get hn hm j e he]
  congr 1
  unfold inV
  by_cases h : o j = nd ∧ metB p (plN o W H nd st j e) q = true
  · rw [if_pos h, if_pos]
    refine ⟨hj, h.1, fun h2 => ?_, h.2⟩
    obtain ⟨k, hk, hp⟩ := metB_iff.1 h.2
    obtain ⟨x1, x2, x3⟩ := plcB_pl.1 hp
    obtain ⟨_, h5, h6, h7⟩ := noteB_iff.1 (hn k hk)
    apply h7
    rw [h5, h6, x2, x3, Int.toNat_natCast, Int.toNat_natCast, h2, h.1]
  · rw [if_neg h, if_neg (fun h2 => h ⟨h2.2.1, h2.2.2.2⟩)]
end Go.Proofs.YteabkcbajpjkoaaGreat
namespace Go.Proofs.YteabkcbajpjkoaaGreat
open Go Go.RowKit
set_option linter.unusedVariables false
section
variable (W H : Nat) (o : Nat → Int) (nd t : Int) (Y : Nat → C4)
/-- a note that is sent into cell i -/
def outN (i d : Nat) : N6 := ⟨t, nd, o i, i, d, (Y (nbT W H i d)).get d⟩
/-- the program's order: by the cells that are not its own -/
def newC (i : Nat) : Nat → List N6 | 0 => [] | d + 1 => if o (nbT W H i d) = nd then newC i d ++ [outN W H o nd t Y i d] else newC i d
def newN : Nat → List N6 | 0 => [] | i + 1 => if o i = nd then newN i else newN i ++ newC W H o nd t Y i 4
end
section
variable {W H : Nat} {o : Nat → Int} {nd t : Int} {Y : Nat → C4}
theorem newC_mem {i : Nat} {x : N6} : ∀ {d}, x ∈ newC W H o nd t Y i d ↔ ∃ e, e < d ∧ o (nbT W H i e) = nd ∧ x = outN W H o nd t Y i e
  | 0 => by simp [newC]
  | d + 1 => by
    simp only [newC]
    split
    · rename_i h
      rw [List.mem_append, newC_mem, List.mem_singleton]
      constructor
      · rintro (⟨e, h1, h2⟩ | h1)
        · exact ⟨e, by omega, h2⟩
        · exact ⟨d, by omega, h, h1⟩
      · rintro ⟨e, h1, h2⟩
        by_cases e1 : e = d
        · subst e1; exact .inr h2.2
        · exact .inl ⟨e, by omega, h2⟩
    · rename_i h
      rw [newC_mem]
      constructor
      · rintro ⟨e, h1, h2⟩; exact ⟨e, by omega, h2⟩
      · rintro ⟨e, h1, h2⟩
        by_cases e1 : e = d
        · subst e1; exact absurd h2.1 h
        · exact ⟨e, by omega, h2⟩
theorem newN_mem {x : N6} : ∀ {n}, x ∈ newN W H o nd t Y n ↔ ∃ i, i < n ∧ o i ≠ nd ∧ ∃ e, e < 4 ∧ o (nbT W H i e) = nd ∧ x = outN W H o nd t Y i e
  | 0 => by simp [newN]
  | n + 1 => by
    simp only [newN]
    split
    · rename_i h
      rw [newN_mem]
      constructor
      · rintro ⟨i, h1, h2⟩; exact ⟨i, by omega, h2⟩
      · rintro ⟨i, h1, h2⟩
        by_cases e1 : i = n
        · subst e1; exact absurd h h2.1
        · exact ⟨i, by omega, h2⟩
    · rename_i h
      rw [List.mem_append, newN_mem, newC_mem]
      constructor
      · rintro (⟨i, h1, h2⟩ | h1)
        · exact ⟨i, by omega, h2⟩
        · exact ⟨n, by omega, h, h1⟩
      · rintro ⟨i, h1, h2⟩
        by_cases e1 : i = n
        · subst e1; exact .inr h2.2
        · exact .inl ⟨i, by omega, h2⟩
theorem newC_nodup (i : Nat) : ∀ d, (newC W H o nd t Y i d).Nodup
  | 0 => by simp [newC]
  | d + 1 => by
    simp only [newC]
    split
    · rw [List.nodup_append]
      refine ⟨newC_nodup i d, by simp, fun x hx y hy => ?_⟩
      obtain ⟨e, h1, _, rfl⟩ := newC_mem.1 hx
      rw [List.mem_singleton.1 hy]
      intro h
      have := congrArg N6.di h
      simp only [outN] at this
      omega
    · exact newC_nodup i d
theorem newN_nodup : ∀ n, (newN W H o nd t Y n).Nodup
  | 0 => by simp [newN]
  | n + 1 => by
    simp only [newN]
    split
    · exact newN_nodup n
    · rw [List.nodup_append]
      refine ⟨newN_nodup n, newC_nodup n 4, fun x hx y hy => ?_⟩
      obtain ⟨i, h1, _, e, _, _, rfl⟩ := newN_mem.1 hx
      obtain ⟨e2, _, _, rfl⟩ := newC_mem.1 hy
      intro h
      have := congrArg N6.ce h
      simp only [outN] at this
      omega
end
/-- the mass of a node's own cells -/
def massOwn (o : Nat → Int) (nd : Int) (G : Nat → C4) : Nat → Int | 0 => 0 | i + 1 => if o i = nd then massOwn o nd G i + (G i).mass else massOwn o nd G i
theorem massOwn_congr {o : Nat → Int} {nd : Int} {G G' : Nat → C4} : ∀ {n}, (∀ i, i < n → o i = nd → G i = G' i) → massOwn o nd G n = massOwn o nd G' n
  | 0, _ => rfl
  | n + 1, h => by
    simp only [massOwn]
    rw [massOwn_congr (n := n) fun i hi => h i (by omega)]
    split
    · rename_i e; rw [h n (by omega) e]
    · rfl
/-- .. along its list of cells -/
theorem massOwn_list (o : Nat → Int) (nd : Int) (G : Nat → C4) : ∀ n, massTo (fun k => G ((ownL o nd n).getD k 0).toNat) (ownL o nd n).length = massOwn o nd G n
  | 0 => rfl
  | n + 1 => by
    have ih := massOwn_list o nd G n
    simp only [ownL, massOwn]
    split
    · rw [List.length_append, List.length_singleton]
      simp only [massTo]
      rw [← ih]
      congr 1
      · refine massTo_congr fun k hk => ?_
        rw [List.getD_eq_getElem?_getD, List.getElem?_append_left hk, ← List.getD_eq_getElem?_getD]
      · rw [List.getD_eq_getElem?_getD, List.getElem?_append_right (Nat.le_refl _), Nat.sub_self]
        simp
    · exact ih
/-- the counts that come in are added to the mass -/
theorem addM_mass {W H : Nat} {o : Nat → Int} {no : Nat} {nd st : Int} {G : Nat → C4} {p : Nat → N6} : ∀ {q}, (∀ k, k < q → noteB W H o no (p k) = true) → massOwn o nd (addM nd st G p q) no = massOwn o nd G no + coM nd st p q
  | 0, _ => by simp [addM, coM]
  | q + 1, hn => by
    have ih := addM_mass (G := G) (nd := nd) (st := st) (q := q) fun k hk => hn k (by omega)
    obtain ⟨h1, h2, h3, h4⟩ := noteB_iff.1 (hn q (by omega))
    obtain ⟨_, ⟨c1, c2⟩, ⟨c3, c4⟩, _⟩ := noteR_iff.1 h1
    simp only [addM, coM]
    by_cases hb : mineB nd st (p q) = true
    · rw [if_pos hb, if_pos hb]
      have hb2 := hb
      unfold mineB at hb2
      rw [Bool.and_eq_true, decide_eq_true_iff, decide_eq_true_iff] at hb2
      have key : ∀ (G : Nat → C4) n, massOwn o nd (addC G (p q)) n = massOwn o nd G n + if (p q).ce.toNat < n then (p q).co else 0 := by
        intro G n
        induction n with
        | zero => simp [massOwn]
        | succ n ih2 =>
          simp only [massOwn]
          by_cases e : n = (p q).ce.toNat
          · have ho : o n = nd := by rw [e, ← h2]; exact hb2.1
            rw [if_pos ho, if_pos ho, ih2, if_neg (show ¬ (p q).ce.toNat < n by omega), if_pos (show (p q).ce.toNat < n + 1 by omega)]
            simp only [addC, updC, if_pos e]
            rw [C4.with_mass _ _ (by omega), e]; omega
          · have hu : addC G (p q) n = G n := by simp only [addC, updC, if_neg e]
            rw [hu, ih2]
            by_cases h5 : (p q).ce.toNat < n
            · rw [if_pos h5, if_pos (show (p q).ce.toNat < n + 1 by omega)]; split <;> omega
            · rw [if_neg h5, if_neg (show ¬ (p q).ce.toNat < n + 1 by omega)]; split <;> omega
      rw [key, ih, if_pos (show (p q).ce.toNat < no by omega)]; omega
    · rw [if_neg hb, if_neg hb]; exact ih
def coL (l : List N6) : Int := sumTo (fun k => (l.getD k N6.zero).co) l.length
theorem coL_snoc (l : List N6) (x : N6) : coL (l ++ [x]) = coL l + x.co := by
  unfold coL
  rw [List.length_append, List.length_singleton]
  simp only [sumTo]
  congr 1
  · refine sumTo_congr fun i hi => ?_
    rw [List.getD_eq_getElem?_getD, List.getElem?_append_left hi, ← List.getD_eq_getElem?_getD]
  · rw [List.getD_eq_getElem?_getD, List.getElem?_append_right (Nat.le_refl _), Nat.sub_self]; rfl
/-- a node's cells alone -/
def ownZ (o : Nat → Int) (nd : Int) (Y : Nat → C4) (j : Nat) : C4 := if o j = nd then Y j else C4.zero
theorem flowZ_get (W H : Nat) (o : Nat → Int) (nd : Int) (Y : Nat → C4) (i : Nat) {d : Nat} (hd : d < 4) : (flow W H (ownZ o nd Y) i).get d = if o (nbT W H i d) = nd then (Y (nbT W H i d)).get d else 0 := by
  have h : (flow W H (ownZ o nd Y) i).get d = (ownZ o nd Y (nbT W H i d)).get d := by
    rcases (by omega : d = 0 ∨ d = 1 ∨ d = 2 ∨ d = 3) with rfl | rfl | rfl | rfl <;> rfl
  rw [h]
  unfold ownZ
  split
  · rfl
  · rcases (by omega : d = 0 ∨ d = 1 ∨ d = 2 ∨ d = 3) with rfl | rfl | rfl | rfl <;> rfl
theorem coL_app (l : List N6) : ∀ m : List N6, coL (l ++ m) = coL l + coL m := by
  intro m
  induction m generalizing l with
  | nil => simp [coL, sumTo]
  | cons x m ih =>
    have h1 : l ++ x :: m = (l ++ [x]) ++ m := by simp
    have h2 : x :: m = [x] ++ m := rfl
    rw [h1, ih, coL_snoc, h2, ih]
    have : coL [x] = x.co := by simp [coL, sumTo]
    omega
theorem newC_co (W H : Nat) (o : Nat → Int) (nd t : Int) (Y : Nat → C4) (i : Nat) : coL (newC W H o nd t Y i 4) = (flow W H (ownZ o nd Y) i).mass := by
  have h : ∀ d, d ≤ 4 → coL (newC W H o nd t Y i d) = sumTo (flow W H (ownZ o nd Y) i).get d := by
    intro d
    induction d with
    | zero => intro _; rfl
    | succ d ih =>
      intro hd
      simp only [newC, sumTo]
      rw [flowZ_get W H o nd Y i (by omega), ← ih (by omega)]
      split
      · rw [coL_snoc]; rfl
      · omega
  rw [h 4 (Nat.le_refl _), sumTo4]; rfl
/-- what stays and what is sent is what there was -/
theorem sent_mass (W H : Nat) (o : Nat → Int) (nd t : Int) (Y : Nat → C4) : massOwn o nd (flow W H (ownZ o nd Y)) (W * H) + coL (newN W H o nd t Y (W * H)) = massOwn o nd Y (W * H) := by
  have h1 : ∀ n, massOwn o nd (flow W H (ownZ o nd Y)) n + coL (newN W H o nd t Y n) = massTo (flow W H (ownZ o nd Y)) n := by
    intro n
    induction n with
    | zero => rfl
    | succ n ih =>
      simp only [massOwn, newN, massTo]
      split
      · omega
      · rw [coL_app, newC_co]; omega
  have h2 : ∀ n, massTo (ownZ o nd Y) n = massOwn o nd Y n := by
    intro n
    induction n with
    | zero => rfl
    | succ n ih =>
      simp only [massOwn, massTo, ih, ownZ]
      split
      · rfl
      · simp [C4.zero, C4.mass]
  rw [h1, flow_mass, h2]
theorem rest_co {nd st : Int} {p : Nat → N6} : ∀ q, coL (restL nd st p q) + coM nd st p q = coS p q
  | 0 => rfl
  | q + 1 => by
    have ih := rest_co (nd := nd) (st := st) (p := p) q
    have e : coS p (q + 1) = coS p q + (p q).co := rfl
    simp only [restL, coM]
    split
    · omega
    · rw [coL_snoc]; omega
theorem restL_length {nd st : Int} {p : Nat → N6} : ∀ q, (restL nd st p q).length ≤ q
  | 0 => by simp [restL]
  | q + 1 => by
    have := restL_length (nd := nd) (st := st) (p := p) q
    simp only [restL]
    split
    · omega
    · simp; omega
theorem newC_length (W H : Nat) (o : Nat → Int) (nd t : Int) (Y : Nat → C4) (i : Nat) : ∀ d, (newC W H o nd t Y i d).length ≤ d
  | 0 => by simp [newC]
  | d + 1 => by
    have := newC_length W H o nd t Y i d
    simp only [newC]
    split
    · simp; omega
    · omega
theorem newN_length (W H : Nat) (o : Nat → Int) (nd t : Int) (Y : Nat → C4) : ∀ n, (newN W H o nd t Y n).length ≤ 4 * n
  | 0 => by simp [newN]
  | n + 1 => by
    have := newN_length W H o nd t Y n
    have h2 := newC_length W H o nd t Y n 4
    simp only [newN]
    split
    · omega
    · simp; omega
end Go.Proofs.YteabkcbajpjkoaaGreat
namespace Go.Proofs.YteabkcbajpjkoaaGreat
open Go Go.RowKit
set_option linter.unusedVariables false
/-- the first k indexes of a site -/
def memI (I : Nat → Int) : Nat → Int → Bool | 0, _ => false | k + 1, j => memI I k j || I k == j
theorem memI_iff {I : Nat → Int} {j : Int} : ∀ {k}, memI I k j = true ↔ ∃ i, i < k ∧ I i = j
  | 0 => by simp [memI]
  | k + 1 => by
    simp only [memI, Bool.or_eq_true, memI_iff, beq_iff_eq]
    constructor
    · rintro (⟨i, h1, h2⟩ | h)
      · exact ⟨i, by omega, h2⟩
      · exact ⟨k, by omega, h⟩
    · rintro ⟨i, h1, h2⟩
      by_cases e : i = k
      · subst e; exact .inr h2
      · exact .inl ⟨i, by omega, h2⟩
/-- .. and their cells -/
def valI (I : Nat → Int) (C : Nat → C4) : Nat → Int → C4 | 0, _ => C4.zero | k + 1, j => if I k = j then C k else valI I C k j
theorem valI_lay {s : SiteR} {n : Nat} (hs : fitS n s) (i : Nat) : ∀ k, k ≤ s.ni → valI s.I s.C k i = layTo (fun _ => C4.zero) s k i
  | 0, _ => rfl
  | k + 1, hk => by
    obtain ⟨h1, h2⟩ := hs.2.1 k (by omega)
    simp only [valI, layTo, updC]
    rw [valI_lay hs i k (by omega)]
    by_cases e : s.I k = i
    · rw [if_pos e, if_pos (by omega)]
    · rw [if_neg e, if_neg (by omega)]
/-- a count that is put where a note's place is -/
def addV (V : Int → C4) (x : N6) (c : Int) : Int → C4 := fun j => if x.ce = j then (V x.ce).with x.di.toNat ((V x.ce).get x.di.toNat + c) else V j
def addI (p : Nat → N6) (q : Nat) (V : Int → C4) (L : List N6) : Int → C4 := L.foldl (fun V x => if metB p x q = true then addV V x (cntV p x q) else V) V
theorem addI_snoc (p : Nat → N6) (q : Nat) (V : Int → C4) (L : List N6) (x : N6) : addI p q V (L ++ [x]) = if metB p x q = true then addV (addI p q V L) x (cntV p x q) else addI p q V L := by
  simp only [addI, List.foldl_append, List.foldl_cons, List.foldl_nil]
theorem addI_addL {p : Nat → N6} {q : Nat} {V : Int → C4} {G : Nat → C4} : ∀ {L : List N6}, (∀ x ∈ L, 0 ≤ x.ce) → (∀ i : Nat, V i = G i) → ∀ i : Nat, addI p q V L i = addL p q G L i := by
  intro L
  induction L generalizing V G with
  | nil => intro _ h i; exact h i
  | cons x L ih =>
    intro hL h i
    have hx := hL x (List.mem_cons_self ..)
    show addI p q (if metB p x q = true then addV V x (cntV p x q) else V) L i = addL p q (if metB p x q = true then addC G ⟨x.st, x.fr, x.to, x.ce, x.di, cntV p x q⟩ else G) L i
    refine ih (fun y hy => hL y (List.mem_cons_of_mem _ hy)) (fun j => ?_) i
    split
    · simp only [addV, addC, updC]
      have hv : V x.ce = G x.ce.toNat := by rw [← h x.ce.toNat]; congr 1; omega
      by_cases e : x.ce = j
      · rw [if_pos e, if_pos (by omega), hv]
      · rw [if_neg e, if_neg (by omega)]; exact h j
    · exact h j
/-- the places whose notes are used -/
def usdB (p : Nat → N6) (q : Nat) (L : List N6) (y : N6) : Bool := L.any fun x => metB p x q && plcB x y
theorem usdB_snoc (p : Nat → N6) (q : Nat) (L : List N6) (x y : N6) : usdB p q (L ++ [x]) y = (usdB p q L y || (metB p x q && plcB x y)) := by simp [usdB]
/-- of a valid post's notes those are used that are the node's in its step -/
theorem used_mine {W H : Nat} {o : Nat → Int} {no q : Nat} {nd st : Int} {p : Nat → N6} (hno : no ≤ W * H) (hn : ∀ k, k < q → noteB W H o no (p k) = true) {k : Nat} (hk : k < q) : usdB p q (dueL W H o nd st no) (p k) = mineB nd st (p k) := by
  obtain ⟨h1, h2, h3, h4⟩ := noteB_iff.1 (hn k hk)
  obtain ⟨_, ⟨c1, c2⟩, ⟨c3, c4⟩, _⟩ := noteR_iff.1 h1
  rw [Bool.eq_iff_iff]
  unfold usdB mineB
  rw [List.any_eq_true, Bool.and_eq_true, decide_eq_true_iff, decide_eq_true_iff]
  constructor
  · rintro ⟨x, hx, h⟩
    rw [Bool.and_eq_true] at h
    obtain ⟨e1, e2, e3⟩ := plcB_iff.1 h.2
    obtain ⟨a1, a2, a3, a4, a5⟩ := dueL_num x hx
    obtain ⟨b1, b2⟩ := dueL_fr x hx
    refine ⟨?_, by omega⟩
    rw [h2, ← e2]; exact b2
  · rintro ⟨e1, e2⟩
    have hmem : (⟨st, (p k).fr, nd, (p k).ce, (p k).di, 0⟩ : N6) ∈ dueL W H o nd st no := by
      have key : ∀ n, (p k).ce.toNat < n → (⟨st, (p k).fr, nd, (p k).ce, (p k).di, 0⟩ : N6) ∈ dueL W H o nd st n := by
        intro n
        induction n with
        | zero => intro h; omega
        | succ n ih =>
          intro h
          simp only [dueL]
          by_cases e : (p k).ce.toNat = n
          · have ho : o n = nd := by rw [← e, ← h2]; exact e1
            rw [if_pos ho]
            refine List.mem_append.2 (.inr ?_)
            have keyC : ∀ d, (p k).di.toNat < d → (⟨st, (p k).fr, nd, (p k).ce, (p k).di, 0⟩ : N6) ∈ dueC W H o nd st n d := by
              intro d
              induction d with
              | zero => intro h; omega
              | succ d ihd =>
                intro hd
                simp only [dueC]
                by_cases ed : (p k).di.toNat = d
                · have hne : ¬ o (nbT W H n d) = nd := by
                    rw [← e, ← ed, ← h3, ← e1]; exact h4
                  rw [if_neg hne]
                  refine List.mem_append.2 (.inr (List.mem_singleton.2 ?_))
                  rw [N6.mk.injEq]
                  refine ⟨rfl, ?_, rfl, by omega, by omega, rfl⟩
                  rw [h3, e, ed]
                · split
                  · exact ihd (by omega)
                  · exact List.mem_append.2 (.inl (ihd (by omega)))
            exact keyC 4 (by omega)
          · split
            · exact List.mem_append.2 (.inl (ih (by omega)))
            · exact ih (by omega)
      exact key no (by omega)
    refine ⟨_, hmem, ?_⟩
    rw [Bool.and_eq_true]
    refine ⟨metB_iff.2 ⟨k, hk, plcB_iff.2 ⟨e2, rfl, rfl⟩⟩, plcB_iff.2 ⟨e2.symm, rfl, rfl⟩⟩
theorem rest_filter {nd st : Int} {p : Nat → N6} {P : N6 → Bool} : ∀ q, (∀ k, k < q → P (p k) = mineB nd st (p k)) → (lstN p q).filter (fun x => !P x) = restL nd st p q
  | 0, _ => rfl
  | q + 1, h => by
    have ih := rest_filter (nd := nd) (st := st) (p := p) (P := P) q fun k hk => h k (by omega)
    unfold lstN at *
    rw [List.range_succ, List.map_append, List.filter_append, ih]
    simp only [restL, List.map_cons, List.map_nil, List.filter_cons, List.filter_nil, h q (by omega)]
    cases mineB nd st (p q) <;> simp
/-! ### boxes of cells -/
theorem Bx.c4_at {W : World} {b : Nat} {c : C4} (h : Bx W b #[.int .i64 c.e, .int .i64 c.n, .int .i64 c.w, .int .i64 c.s]) {d : Nat} (hd : d < 4) : W.cell? ⟨b, d, none⟩ = some (.int .i64 (c.get d)) := by
  rcases (by omega : d = 0 ∨ d = 1 ∨ d = 2 ∨ d = 3) with rfl | rfl | rfl | rfl
  · exact h.at_ 0 rfl
  · exact h.at_ 1 rfl
  · exact h.at_ 2 rfl
  · exact h.at_ 3 rfl
theorem Bx.c4_set {W : World} {b : Nat} {c : C4} (h : Bx W b #[.int .i64 c.e, .int .i64 c.n, .int .i64 c.w, .int .i64 c.s]) {d : Nat} (hd : d < 4) (v : Int) : Bx (W.setCell ⟨b, d, none⟩ (.int .i64 v)) b #[.int .i64 (c.with d v).e, .int .i64 (c.with d v).n, .int .i64 (c.with d v).w, .int .i64 (c.with d v).s] := by
  have h2 := h.set_ d (by simpa using hd) (.int .i64 v)
  rcases (by omega : d = 0 ∨ d = 1 ∨ d = 2 ∨ d = 3) with rfl | rfl | rfl | rfl <;> exact h2
/-! ### what stays under changes elsewhere -/
theorem pcm_but {C : Nat → Prop} {X Y : World} {b n : Nat} {S : N6 → Bool} {V : N6 → Int} (h : PcM X b n S V) (hb : But C X Y) (hc : ¬ C b) : PcM Y b n S V := by
  have hl := pcm_lt h
  obtain ⟨D, ⟨es, clock, h1, h2⟩, hat⟩ := h
  exact ⟨D, ⟨es, clock, (hb.block b hl hc).trans h1, h2⟩, hat⟩
theorem plm_but {K : TypeId} {C : Nat → Prop} {X Y : World} {b n : Nat} {S : N6 → Bool} (h : PlM K X b n S) (hb : But C X Y) (hc : ¬ C b) : PlM K Y b n S := by
  have hl := plm_lt h
  obtain ⟨D, ⟨es, clock, h1, h2⟩, hat⟩ := h
  exact ⟨D, ⟨es, clock, (hb.block b hl hc).trans h1, h2⟩, hat⟩
theorem cmm_but {C : Nat → Prop} {X Y : World} {b n : Nat} {S : Int → Bool} {V : Int → C4} (h : CmM X b n S V) (hb : But C X Y) (hc : ¬ C b) : CmM Y b n S V := by
  have hl := cmm_lt h
  obtain ⟨D, ⟨es, clock, h1, h2⟩, hat⟩ := h
  exact ⟨D, ⟨es, clock, (hb.block b hl hc).trans h1, h2⟩, hat⟩
theorem but_turned {X Y : World} {b : Nat} (h : X.mapTurned Y b) : But (fun z => z = b) X Y := by
  have hg := h.grown
  exact ⟨hg.os, hg.tape, hg.output, hg.size, fun z hz hc => hg.block z hz (fun e => hc (by injection e))⟩
end Go.Proofs.YteabkcbajpjkoaaGreat
namespace Go.Proofs.YteabkcbajpjkoaaGreat
open Go Go.RowKit
set_option linter.unusedVariables false
theorem cntV_bnd {n q : Nat} {p : Nat → N6} (x : N6) : ∀ {k}, (∀ j, j < k → 0 ≤ (p j).co ∧ (p j).co ≤ 1000000000) → 0 ≤ cntV p x k ∧ cntV p x k ≤ 1000000000
  | 0, _ => by simp [cntV]
  | k + 1, h => by
    have ih := cntV_bnd (n := n) (q := q) x (k := k) fun j hj => h j (by omega)
    have := h k (by omega)
    simp only [cntV]
    split
    · exact this
    · exact ih
theorem addI_bnd {p : Nat → N6} {q : Nat} {B : Int} (hc : ∀ x, 0 ≤ cntV p x q ∧ cntV p x q ≤ B) : ∀ {L : List N6} {V : Int → C4} {A : Int}, 0 ≤ A → (∀ j d, d < 4 → 0 ≤ (V j).get d ∧ (V j).get d ≤ A) → (∀ x ∈ L, 0 ≤ x.di ∧ x.di < 4) → ∀ j d, d < 4 → 0 ≤ (addI p q V L j).get d ∧ (addI p q V L j).get d ≤ A + B * L.length
  | [], V, A, _, h, _, j, d, hd => by simpa [addI] using h j d hd
  | x :: L, V, A, hA, h, hx, j, d, hd => by
    have hB := hc x
    have hxd := hx x (List.mem_cons_self ..)
    have step : ∀ j d, d < 4 → 0 ≤ ((if metB p x q = true then addV V x (cntV p x q) else V) j).get d ∧ ((if metB p x q = true then addV V x (cntV p x q) else V) j).get d ≤ A + B := by
      intro j d hd
      have h1 := h j d hd
      split
      · simp only [addV]
        split
        · have h2 := h x.ce d hd; have h3 := h x.ce x.di.toNat (by omega)
          by_cases e : d = x.di.toNat
          · rw [C4.with_get _ _ (by omega) hd, if_pos e, ← e]; omega
          · rw [C4.with_get _ _ (by omega) hd, if_neg e]; omega
        · omega
      · omega
    have := addI_bnd (L := L) hc (V := if metB p x q = true then addV V x (cntV p x q) else V) (A := A + B) (by omega) step (fun y hy => hx y (List.mem_cons_of_mem _ hy)) j d hd
    rw [List.length_cons]
    have e1 : B * ((L.length + 1 : Nat) : Int) = B * L.length + B := by push_cast; rw [Int.mul_add, Int.mul_one]
    rw [e1]
    have e2 : addI p q V (x :: L) = addI p q (if metB p x q = true then addV V x (cntV p x q) else V) L := rfl
    rw [e2]
    omega
theorem validC_get {c : C4} (h : validC c = true) {d : Nat} (hd : d < 4) : 0 ≤ c.get d ∧ c.get d ≤ 1000000000 := by
  have h2 := h
  simp [validC] at h2
  rcases (by omega : d = 0 ∨ d = 1 ∨ d = 2 ∨ d = 3) with rfl | rfl | rfl | rfl <;> simp only [C4.get] <;> omega
theorem valI_bnd {I : Nat → Int} {C : Nat → C4} : ∀ {k}, (∀ i, i < k → ∀ d, d < 4 → 0 ≤ (C i).get d ∧ (C i).get d ≤ 1000000000) → ∀ j d, d < 4 → 0 ≤ (valI I C k j).get d ∧ (valI I C k j).get d ≤ 1000000000
  | 0, _, j, d, hd => by
    rcases (by omega : d = 0 ∨ d = 1 ∨ d = 2 ∨ d = 3) with rfl | rfl | rfl | rfl <;> simp [valI, C4.zero, C4.get]
  | k + 1, h, j, d, hd => by
    simp only [valI]
    split
    · exact h k (by omega) d hd
    · exact valI_bnd (fun i hi => h i (by omega)) j d hd
/-- the word of a range over a function that never ends early -/
def RA (w : World) (M : Nat) (K : List N6 → World → Prop) (pre : List N6) (C : Nat → Prop) (X : World) : Prop :=
  C = (fun b => w.heap.size ≤ b ∧ b < M) ∧ K pre X ∧ Below w.heap.size w X ∧ M ≤ X.heap.size
theorem ra_stab {w : World} {M : Nat} {K : List N6 → World → Prop} (hK : ∀ pre A B, K pre A → But (fun b => w.heap.size ≤ b ∧ ¬ (w.heap.size ≤ b ∧ b < M)) A B → K pre B) : Stab w.heap.size (RA w M K) := by
  rintro pre C A B ⟨rfl, h1, h2, h3⟩ hbut
  exact ⟨rfl, hK pre A B h1 hbut, below_but h2 hbut, Nat.le_trans h3 hbut.size⟩
/-- what stands while the due notes are gone through -/
structure KA (b0 b1 b2 b3 b4 b5 um cm bk bc bn bs : Nat) (v0 v1 v2 v3 v4 v5 cv : Array Value) (nd st : Int) (p : Nat → N6) (q ni : Nat) (S2 : Int → Bool) (V2 : Int → C4) (pre : List N6) (X : World) : Prop where
  x0 : Bx X b0 v0
  x1 : Bx X b1 v1
  x2 : Bx X b2 v2
  x3 : Bx X b3 v3
  x4 : Bx X b4 v4
  x5 : Bx X b5 v5
  rd : DueRd cv nd st bc bn bs X
  pc : PcM X bk q (fun y => metB p y q) (fun y => cntV p y q)
  us : ∃ m, m ≤ pre.length ∧ PlM 138 X um m (usdB p q pre)
  ce : ∃ m, m ≤ ni + pre.length ∧ CmM X cm m S2 (addI p q V2 pre)
theorem KA.but {b0 b1 b2 b3 b4 b5 um cm bk bc bn bs : Nat} {v0 v1 v2 v3 v4 v5 cv : Array Value} {nd st : Int} {p : Nat → N6} {q ni : Nat} {S2 : Int → Bool} {V2 : Int → C4} {pre : List N6} {A B : World} {C : Nat → Prop}
    (h : KA b0 b1 b2 b3 b4 b5 um cm bk bc bn bs v0 v1 v2 v3 v4 v5 cv nd st p q ni S2 V2 pre A) (hb : But C A B) (hn : ∀ b ∈ [b0, b1, b2, b3, b4, b5, um, cm, bk, bc, bn, bs], ¬ C b) : KA b0 b1 b2 b3 b4 b5 um cm bk bc bn bs v0 v1 v2 v3 v4 v5 cv nd st p q ni S2 V2 pre B := by
  obtain ⟨x0, x1, x2, x3, x4, x5, rd, pc, ⟨m, hm, us⟩, ⟨m', hm', ce⟩⟩ := h
  exact ⟨x0.but hb (hn _ (by simp)), x1.but hb (hn _ (by simp)), x2.but hb (hn _ (by simp)), x3.but hb (hn _ (by simp)), x4.but hb (hn _ (by simp)), x5.but hb (hn _ (by simp)),
    ⟨rd.1.but hb (hn _ (by simp)), rd.2.1.but hb (hn _ (by simp)), rd.2.2.but hb (hn _ (by simp))⟩, pcm_but pc hb (hn _ (by simp)), ⟨m, hm, plm_but us hb (hn _ (by simp))⟩, ⟨m', hm', cmm_but ce hb (hn _ (by simp))⟩⟩
section
variable {b0 b1 b2 b3 b4 b5 um cm bk bc bn bs : Nat} {v0 v1 v2 v3 v4 v5 cv : Array Value} {nd st : Int} {p : Nat → N6} {q ni : Nat} {S2 : Int → Bool} {V2 : Int → C4} {pre : List N6} {A B : World}
/-- a due note that is not there -/
theorem KA.no (h : KA b0 b1 b2 b3 b4 b5 um cm bk bc bn bs v0 v1 v2 v3 v4 v5 cv nd st p q ni S2 V2 pre A) {x : N6} (hx : metB p x q = false) : KA b0 b1 b2 b3 b4 b5 um cm bk bc bn bs v0 v1 v2 v3 v4 v5 cv nd st p q ni S2 V2 (pre ++ [x]) A := by
  obtain ⟨x0, x1, x2, x3, x4, x5, rd, pc, ⟨m, hm, us⟩, ⟨m', hm', ce⟩⟩ := h
  refine ⟨x0, x1, x2, x3, x4, x5, rd, pc, ⟨m, by simp; omega, plm_congr us fun y => by rw [usdB_snoc, hx]; simp⟩, ⟨m', by simp; omega, cmm_congr ce (fun _ => rfl) fun y => by rw [addI_snoc, hx, if_neg (by simp)]⟩⟩
/-- .. and one that is: the cells' map takes it, the used map too -/
theorem KA.yes (h : KA b0 b1 b2 b3 b4 b5 um cm bk bc bn bs v0 v1 v2 v3 v4 v5 cv nd st p q ni S2 V2 pre A) {x : N6} (hx : metB p x q = true) (hS : S2 x.ce = true) {C : Nat → Prop} (hb : But C A B) (hn : ∀ b ∈ [b0, b1, b2, b3, b4, b5, bk, bc, bn, bs], ¬ C b)
    {m m' : Nat} (hm : m ≤ pre.length) (hm' : m' ≤ ni + pre.length) (us : PlM 138 B um (m + 1) (fun y => usdB p q pre y || plcB x y))
    (ce : CmM B cm (m' + 1) (fun j => S2 j || x.ce == j) (fun j => if x.ce = j then (addI p q V2 pre x.ce).with x.di.toNat ((addI p q V2 pre x.ce).get x.di.toNat + cntV p x q) else addI p q V2 pre j)) :
    KA b0 b1 b2 b3 b4 b5 um cm bk bc bn bs v0 v1 v2 v3 v4 v5 cv nd st p q ni S2 V2 (pre ++ [x]) B := by
  obtain ⟨x0, x1, x2, x3, x4, x5, rd, pc, _, _⟩ := h
  refine ⟨x0.but hb (hn _ (by simp)), x1.but hb (hn _ (by simp)), x2.but hb (hn _ (by simp)), x3.but hb (hn _ (by simp)), x4.but hb (hn _ (by simp)), x5.but hb (hn _ (by simp)),
    ⟨rd.1.but hb (hn _ (by simp)), rd.2.1.but hb (hn _ (by simp)), rd.2.2.but hb (hn _ (by simp))⟩, pcm_but pc hb (hn _ (by simp)), ⟨m + 1, by simp; omega, plm_congr us fun y => by rw [usdB_snoc, hx]; simp⟩, ⟨m' + 1, by simp; omega, cmm_congr ce (fun j => ?_) fun y => by rw [addI_snoc, hx, if_pos rfl]; rfl⟩⟩
  by_cases e : x.ce = j
  · subst e; simp [hS]
  · simp [e]
end
/-- two ways that come to one goal: it is shown once -/
theorem dupV {X : Prop} {H G : World → Nat → Value → Prop} (main : (∀ w5 bx v, H w5 bx v → G w5 bx v) → X) (key : ∀ w5 bx v, H w5 bx v → G w5 bx v) : X := main key
/-- the new site: its box, and its own row of numbers -/
def SiN (N0 : Nat) (X : World) (nd st : Int) (n : Nat) (I : Nat → Int) (w5 : World) (bx : Nat) (v : Value) : Prop :=
  Bx w5 bx #[.int .i64 nd, .int .i64 st, v, .slice none 0 0] ∧ w5.ownsRow N0 3 1 v n ((List.range n).map fun k => .int .i64 (I k)) ∧ v ≠ .slice none 0 0 ∧ (∀ g, v.ownBlock = some g → g ≠ bx) ∧ N0 ≤ bx ∧ Below N0 X w5
theorem SiN.new {N0 : Nat} {X : World} {nd st : Int} {n : Nat} {I : Nat → Int} {w7 : World} {v : Value} {t : TypeId} (h : w7.ownsRow N0 3 1 v n ((List.range n).map fun k => .int .i64 (I k))) (hne : v ≠ .slice none 0 0) (hN : N0 ≤ w7.heap.size) (hb : Below N0 X w7) :
    SiN N0 X nd st n I (w7.alloc (.cells #[.int .i64 nd, .int .i64 st, v, .slice none 0 0] t)) w7.heap.size v :=
  ⟨Bx.new w7 _ _, own_below h (below_alloc _ _), hne, fun g hg => by have := own_lt h g hg; omega, hN, hb.trans ((below_alloc _ _).mono hN)⟩
theorem SiN.store {N0 bx : Nat} {X : World} {nd st : Int} {n : Nat} {I : Nat → Int} {w7 : World} {v a b c d : Value} (Z : Bx w7 bx #[a, b, c, d]) (h : w7.ownsRow (bx + 1) 3 1 v n ((List.range n).map fun k => .int .i64 (I k))) (hne : v ≠ .slice none 0 0) (hN : N0 ≤ bx) (hb : Below N0 X w7) (hX : X.heap.size ≤ N0) :
    SiN N0 X nd st n I ((((w7.setCell ⟨bx, 0, none⟩ (.int .i64 nd)).setCell ⟨bx, 1, none⟩ (.int .i64 st)).setCell ⟨bx, 2, none⟩ v).setCell ⟨bx, 3, none⟩ (.slice none 0 0)) bx v := by
  have hbut : But (fun z => z = bx) w7 ((((w7.setCell ⟨bx, 0, none⟩ (.int .i64 nd)).setCell ⟨bx, 1, none⟩ (.int .i64 st)).setCell ⟨bx, 2, none⟩ v).setCell ⟨bx, 3, none⟩ (.slice none 0 0)) :=
    (((But.set_ (But.refl (fun z => z = bx) w7) (p := ⟨bx, 0, none⟩) rfl _).set_ (p := ⟨bx, 1, none⟩) rfl _).set_ (p := ⟨bx, 2, none⟩) rfl _).set_ (p := ⟨bx, 3, none⟩) rfl _
  have hge : ∀ g, v.ownBlock = some g → bx + 1 ≤ g := fun g hg => own_base h g hg
  refine ⟨?_, own_mono (own_butN h hbut fun g hg => by have := hge g hg; omega) (by omega), hne, fun g hg => by have := hge g hg; omega, hN, ?_⟩
  · exact (((Z.set_ 0 (by simp) _).set_ 1 (by simp) _).set_ 2 (by simp) _).set_ 3 (by simp) _
  · exact hb.trans ⟨hbut.os, hbut.tape, hbut.output, hbut.size, fun z hz => hbut.block z (by have := Z.lt; omega) (by omega)⟩
theorem rowC_more (C : Nat → C4) (j : Nat) : rowC C (j + 1) = rowC C j ++ [.int .i64 (C j).e, .int .i64 (C j).n, .int .i64 (C j).w, .int .i64 (C j).s] := by
  unfold rowC
  rw [show (j + 1) * 4 = j * 4 + 1 + 1 + 1 + 1 by omega]
  simp only [List.range_succ, List.map_append, List.map_cons, List.map_nil, List.append_assoc, List.cons_append, List.nil_append]
  rw [flatC_at0, flatC_at1, show j * 4 + 1 + 1 = j * 4 + 2 by omega, flatC_at2, show j * 4 + 2 + 1 = j * 4 + 3 by omega, flatC_at3]
end Go.Proofs.YteabkcbajpjkoaaGreat
namespace Go.Proofs.YteabkcbajpjkoaaGreat
open Go Go.RowKit
set_option linter.unusedVariables false
/-- a node's cells with what the notes bring -/
def gotM (s : SiteR) (p : Nat → N6) (q : Nat) : Nat → C4 := addM s.nd s.st (layTo (fun _ => C4.zero) s s.ni) p q
/-- .. collided -/
def colM (ru : Int × Int) (s : SiteR) (p : Nat → N6) (q : Nat) : Nat → C4 := fun i => coll ru.1 ru.2 (gotM s p q i)
/-- its mass -/
def actM (s : SiteR) (p : Nat → N6) (q : Nat) : Int := massTo s.C s.ni + coM s.nd s.st p q
section
variable (W H : Nat) (o : Nat → Int) (ru : Int × Int) (s : SiteR) (p : Nat → N6) (q : Nat)
/-- the cells then -/
def actC : Nat → C4 := flow W H (ownZ o s.nd (colM ru s p q))
/-- the notes then, in the program's order; .. in the reference's -/
def actN : List N6 := restL s.nd s.st p q ++ newN W H o s.nd (s.st + 1) (colM ru s p q) (W * H)
/-- the error -/
def actE : Int := if 1000000000 < actM s p q ∨ 100000 < (actN W H o ru s p q).length then 4 else 0
end
theorem own_nat {o : Nat → Int} {nd : Int} {no j : Nat} (hj : j < (ownL o nd no).length) : ∃ i : Nat, (ownL o nd no).getD j 0 = i ∧ i < no ∧ o i = nd := by
  have hm : (ownL o nd no).getD j 0 ∈ ownL o nd no := by
    rw [List.getD_eq_getElem?_getD, List.getElem?_eq_getElem hj]; exact List.getElem_mem _
  obtain ⟨i, h1, h2, h3⟩ := ownL_mem.1 hm
  exact ⟨i, h2, h1, h3⟩
theorem own_inj {o : Nat → Int} {nd : Int} {no i j : Nat} (hi : i < (ownL o nd no).length) (hj : j < (ownL o nd no).length) (h : ((ownL o nd no).getD i 0).toNat = ((ownL o nd no).getD j 0).toNat) : i = j := by
  obtain ⟨a, ha, _, _⟩ := own_nat hi
  obtain ⟨b, hb, _, _⟩ := own_nat hj
  rw [ha, hb, Int.toNat_natCast, Int.toNat_natCast] at h
  have hp := List.pairwise_iff_getElem.1 (ownL_sorted o nd no)
  have gi : (ownL o nd no)[i] = (a : Int) := by rw [← ha, List.getD_eq_getElem?_getD, List.getElem?_eq_getElem hi]; rfl
  have gj : (ownL o nd no)[j] = (b : Int) := by rw [← hb, List.getD_eq_getElem?_getD, List.getElem?_eq_getElem hj]; rfl
  rcases Nat.lt_trichotomy i j with h1 | h1 | h1
  · have := hp i j hi hj h1; omega
  · exact h1
  · have := hp j i hj hi h1; omega
theorem layTo_at {s : SiteR} {k : Nat} (hI : ∀ i j, i < s.ni → j < s.ni → (s.I i).toNat = (s.I j).toNat → i = j) (G : Nat → C4) : ∀ n, n ≤ s.ni → k < n → layTo G s n (s.I k).toNat = s.C k
  | 0, _, hk => by omega
  | n + 1, hn, hk => by
    simp only [layTo, updC]
    by_cases e : (s.I k).toNat = (s.I n).toNat
    · rw [if_pos e, hI k n (by omega) (by omega) e]
    · rw [if_neg e]
      refine layTo_at hI G n (by omega) ?_
      by_cases e2 : k = n
      · subst e2; exact absurd rfl e
      · omega
section
variable {W H : Nat} {o : Nat → Int} {ru : Int × Int} {s : SiteR} {p : Nat → N6} {no q : Nat}
theorem site_I (hs : siteB o no s = true) : s.ni = (ownL o s.nd no).length ∧ s.nc = s.ni ∧ ∀ k, k < s.ni → s.I k = (ownL o s.nd no).getD k 0 := by
  obtain ⟨_, hsl, hc, _⟩ := siteB_iff.1 hs
  obtain ⟨h1, h2⟩ := sameL_iff.1 hsl
  exact ⟨h1, hc, h2⟩
theorem site_inj (hs : siteB o no s = true) : ∀ i j, i < s.ni → j < s.ni → (s.I i).toNat = (s.I j).toNat → i = j := fun i j hi hj h => by
  obtain ⟨h1, _, h2⟩ := site_I hs
  rw [h2 i hi, h2 j hj] at h
  exact own_inj (by omega) (by omega) h
theorem lay_own (hs : siteB o no s = true) : massOwn o s.nd (layTo (fun _ => C4.zero) s s.ni) no = massTo s.C s.ni := by
  obtain ⟨h1, _, h2⟩ := site_I hs
  rw [← massOwn_list, ← h1]
  refine massTo_congr fun k hk => ?_
  rw [← h2 k hk]
  exact layTo_at (site_inj hs) _ _ (Nat.le_refl _) hk
theorem gotM_mass (hs : siteB o no s = true) (hp : postB W H o no q p = true) : massOwn o s.nd (gotM s p q) no = actM s p q := by
  unfold gotM actM
  rw [addM_mass (postB_iff.1 hp).2.1, lay_own hs]
theorem inV_nonneg (hp : postB W H o no q p = true) (nd st : Int) (i d : Nat) : 0 ≤ inV o W H nd st p q i d := by
  unfold inV
  split
  · exact (cntV_bnd (n := 0) (q := 0) _ fun j hj => (noteR_iff.1 (noteB_iff.1 ((postB_iff.1 hp).2.1 j hj)).1).2.2.2).1
  · exact Int.le_refl _
theorem gotM_nn (hs : siteB o no s = true) (hp : postB W H o no q p = true) (i : Nat) : nnC (gotM s p q i) := (nnC_iff _).2 fun d hd => by
  unfold gotM
  rw [addM_get (postB_iff.1 hp).2.1 (postB_iff.1 hp).2.2 i d hd]
  have h1 := (nnC_iff _).1 (valid_nn (layTo_valid (site_fit hs) (G := fun _ => C4.zero) (fun _ => by decide) s.ni (Nat.le_refl _) i)) d hd
  have h2 := inV_nonneg hp s.nd s.st i d
  omega
theorem got_sum (hs : siteB o no s = true) (hp : postB W H o no q p = true) : massTo (fun k => gotM s p q (s.I k).toNat) s.ni = actM s p q := by
  obtain ⟨h1, _, h2⟩ := site_I hs
  rw [← gotM_mass hs hp, ← massOwn_list, ← h1]
  exact massTo_congr fun k hk => by rw [h2 k hk]
theorem got_massB (hs : siteB o no s = true) (hp : postB W H o no q p = true) : massB s.ni (fun k => gotM s p q (s.I k).toNat) = decide (actM s p q ≤ 1000000000) := by
  have e := got_sum hs hp
  rw [Bool.eq_iff_iff, massB_iff, e, decide_eq_true_iff]
  refine ⟨fun h => h.2, fun h => ⟨fun k hk => nn_valid (gotM_nn hs hp _) ?_, h⟩⟩
  have := (nn_mass_le (G := fun k => gotM s p q (s.I k).toNat) (n := s.ni) (fun i hi => gotM_nn hs hp _)).2 k hk
  rw [e] at this
  omega
/-- what the program's map holds of a cell -/
theorem act_V (hs : siteB o no s = true) (hp : postB W H o no q p = true) {i : Nat} (hi : i < no) : addI p q (valI s.I s.C s.ni) (dueL W H o s.nd s.st no) i = gotM s p q i := by
  rw [addI_addL (G := layTo (fun _ => C4.zero) s s.ni) (fun x hx => (dueL_num x hx).2.2.1) (fun j => valI_lay (site_fit hs) j s.ni (Nat.le_refl _)) i]
  exact addL_addM (postB_iff.1 hp).2.1 (postB_iff.1 hp).2.2 hi
theorem massB_congr {n : Nat} {f g : Nat → C4} (h : ∀ k, k < n → f k = g k) : massB n f = massB n g := by
  rw [Bool.eq_iff_iff, massB_iff, massB_iff, massTo_congr h]
  exact ⟨fun a => ⟨fun k hk => by rw [← h k hk]; exact a.1 k hk, a.2⟩, fun a => ⟨fun k hk => by rw [h k hk]; exact a.1 k hk, a.2⟩⟩
/-- .. and its mass -/
theorem act_massB (hs : siteB o no s = true) (hp : postB W H o no q p = true) : massB s.ni (fun j => addI p q (valI s.I s.C s.ni) (dueL W H o s.nd s.st no) (s.I j)) = decide (actM s p q ≤ 1000000000) := by
  rw [← got_massB hs hp]
  obtain ⟨h1, _, h2⟩ := site_I hs
  refine massB_congr fun k hk => ?_
  obtain ⟨i, e1, e2, _⟩ := own_nat (o := o) (nd := s.nd) (no := no) (j := k) (by omega)
  rw [h2 k hk, e1, act_V hs hp e2, Int.toNat_natCast]
/-- the mass stays -/
theorem act_mass (hs : siteB o no s = true) (hp : postB W H o no q p = true) (hno : no = W * H) :
    massTo (fun k => actC W H o ru s p q ((ownL o s.nd no).getD k 0).toNat) (ownL o s.nd no).length + coL (actN W H o ru s p q) = massTo s.C s.ni + coS p q := by
  subst hno
  have h1 := sent_mass W H o s.nd (s.st + 1) (colM ru s p q)
  have h2 := rest_co (nd := s.nd) (st := s.st) (p := p) q
  have h3 : ∀ n, massOwn o s.nd (colM ru s p q) n = massOwn o s.nd (gotM s p q) n := by
    intro n
    induction n with
    | zero => rfl
    | succ n ih =>
      simp only [massOwn, ih]
      split
      · unfold colM; rw [coll_mass]
      · rfl
  have h4 := gotM_mass hs hp
  rw [massOwn_list]
  unfold actN
  rw [coL_app]
  unfold actM at h4
  have h5 := h3 (W * H)
  have h6 : actC W H o ru s p q = flow W H (ownZ o s.nd (colM ru s p q)) := rfl
  rw [h6]
  omega
theorem actE_over (h : 1000000000 < actM s p q) : actE W H o ru s p q = 4 := if_pos (.inl h)
theorem actE_long (h : 100000 < (actN W H o ru s p q).length) : actE W H o ru s p q = 4 := if_pos (.inr h)
theorem actE_ok (h : actM s p q ≤ 1000000000) (h2 : (actN W H o ru s p q).length ≤ 100000) : actE W H o ru s p q = 0 := if_neg (by omega)
end
/-- cells of which some are collided already -/
def colS (S L : Int → Bool) (k b : Int) (V : Int → C4) : Int → C4 := fun j => if S j = true ∧ L j = false then coll k b (V j) else V j
theorem colS_start (S : Int → Bool) (k b : Int) (V : Int → C4) : colS S S k b V = V := by
  funext j
  unfold colS
  cases S j <;> simp
theorem colS_left {S L : Int → Bool} {k b : Int} {V : Int → C4} {i : Int} (h : L i = true) : colS S L k b V i = V i := by unfold colS; rw [h]; simp
theorem colS_next {S L : Int → Bool} {k b : Int} {V : Int → C4} {i : Int} (hS : S i = true) : (fun j => if i = j then coll k b (V i) else colS S L k b V j) = colS S (fun j => L j && !(j == i)) k b V := by
  funext j
  unfold colS
  by_cases e : i = j
  · subst e; simp [hS]
  · have : (j == i) = false := by rw [beq_eq_false_iff_ne]; omega
    simp [e, this]
theorem memS_next {S : Int → Bool} {i : Int} (hS : S i = true) : (fun j => S j || i == j) = S := by
  funext j
  by_cases e : i = j
  · subst e; simp [hS]
  · have : (i == j) = false := by rw [beq_eq_false_iff_ne]; exact e
    simp [this]
theorem but_grown1 {C : Nat → Prop} {X Y Z : World} {b : Nat} (h : But C X Y) (hg : Y.grownBy Z (some b)) (hc : C b) : But C X Z :=
  ⟨hg.os.trans h.os, hg.tape.trans h.tape, hg.output.trans h.output, Nat.le_trans h.size hg.size, fun a ha hn => (hg.block a (Nat.lt_of_lt_of_le ha h.size) (fun e => by injection e with e; subst e; exact hn hc)).trans (h.block a ha hn)⟩
/-- a site and a post, and an error -/
def ActPost (E nd t : Int) (L : List Int) (Cn : Nat → C4) (R : List N6) (w : World) (e : Ending) (w' : World) : Prop :=
  ∃ (s : SiteR) (v : Value), e = .returned (.tuple #[.agg s.cells, v, .int .i64 E]) ∧ s.lies w' ∧ (s.ix = none → s.ci = 0) ∧ s.nd = nd ∧ s.st = t ∧ s.ni = L.length ∧ s.nc = L.length ∧ (∀ k, k < L.length → s.I k = L.getD k 0) ∧ (∀ k, k < L.length → s.C k = Cn (L.getD k 0).toNat) ∧
    (∀ b off, (s.ix = some ⟨b, off, none⟩ ∨ s.cl = some ⟨b, off, none⟩) → w.heap.size ≤ b ∧ b < w'.heap.size) ∧ OwnN w' w.heap.size v R ∧ Below w.heap.size w w'
/-- what acting gives -/
def ActS (W H : Nat) (o : Nat → Int) (ru : Int × Int) (no : Nat) (s : SiteR) (p : Nat → N6) (q : Nat) (w : World) (e : Ending) (w' : World) : Prop :=
  if actE W H o ru s p q = 0 then ActPost 0 s.nd (s.st + 1) (ownL o s.nd no) (actC W H o ru s p q) (sortN (actN W H o ru s p q)) w e w' else ActPost 4 0 0 [] (fun _ => C4.zero) [] w e w'
theorem actS_fail {W H : Nat} {o : Nat → Int} {ru : Int × Int} {no : Nat} {s : SiteR} {p : Nat → N6} {q : Nat} {w w' : World} {e : Ending} (hE : actE W H o ru s p q = 4)
    (he : e = .returned (.tuple #[.agg #[.int .i64 0, .int .i64 0, .slice none 0 0, .slice none 0 0], .slice none 0 0, .int .i64 4])) (hb : Below w.heap.size w w') : ActS W H o ru no s p q w e w' := by
  unfold ActS
  rw [if_neg (by rw [hE]; decide)]
  exact ⟨SiteR.zero, .slice none 0 0, he, ⟨fun _ h => absurd h (Nat.not_lt_zero _), fun _ h => absurd h (Nat.not_lt_zero _), fun _ => rfl⟩, fun _ => rfl, rfl, rfl, rfl, rfl, fun _ h => absurd h (Nat.not_lt_zero _), fun _ h => absurd h (Nat.not_lt_zero _), fun b off h => by simp [SiteR.zero] at h, ownN_nil _ _, hb⟩
end Go.Proofs.YteabkcbajpjkoaaGreat
namespace Go.Proofs.YteabkcbajpjkoaaGreat
open Go Go.RowKit
set_option linter.unusedVariables false
theorem coL_cons (x : N6) (l : List N6) : coL (x :: l) = x.co + coL l := by
  have h : x :: l = [x] ++ l := rfl
  rw [h, coL_app]
  have : coL [x] = x.co := by simp [coL, sumTo]
  omega
theorem coL_perm {l m : List N6} (h : l.Perm m) : coL l = coL m := by
  induction h with
  | nil => rfl
  | cons x _ ih => rw [coL_cons, coL_cons, ih]
  | swap x y l => rw [coL_cons, coL_cons, coL_cons, coL_cons]; omega
  | trans _ _ ih1 ih2 => rw [ih1, ih2]
section
variable {W H : Nat} {o : Nat → Int} {ru : Int × Int} {s s' : SiteR} {p : Nat → N6} {no q : Nat}
end
end Go.Proofs.YteabkcbajpjkoaaGreat
namespace Go.Proofs.YteabkcbajpjkoaaGreat
open Go Go.RowKit
attribute [local go_sem] Oper.semAt_some
set_option linter.unusedVariables false
set_option linter.unusedSimpArgs false
theorem ent_act1 : ∀ args w, (callFunc 107 args).run Tryz.prog w = .ok (.enter 107 args) w := Go.Proofs.enters_of Tryz.func107 (by kernel_rfl) rfl
set_option maxRecDepth 100000 in
theorem act_used (x : N6) (b um n : Nat) (S : N6 → Bool) (w : World) (hx : wfN x) (X : Bx w b #[.map (some um)]) (M : PlM 138 w um n S) :
    Calls Tryz.prog 107 #[.agg #[.int .i64 x.st, .int .i64 x.fr, .int .i64 x.to, .int .i64 x.ce, .int .i64 x.di, .int .i64 x.co], .pointer (some ⟨b, 0, none⟩)] w fun e w' => e = .returned (.bool (S x)) ∧ Below w.heap.size w w' := by
  have hof := fun W => node_of x W
  go_enter Tryz.func107, Tryz.ntmps107
  go_upto_region 1 with (fail)
  have T := Bx.new w #[.int .i64 x.st, .int .i64 x.fr, .int .i64 x.to, .int .i64 x.ce, .int .i64 x.di, .int .i64 x.co] 106
  have hb0 : Below w.heap.size w (w.alloc (.cells #[.int .i64 x.st, .int .i64 x.fr, .int .i64 x.to, .int .i64 x.ce, .int .i64 x.di, .int .i64 x.co] 106)) := below_alloc _ _
  generalize w.alloc (.cells #[.int .i64 x.st, .int .i64 x.fr, .int .i64 x.to, .int .i64 x.ce, .int .i64 x.di, .int .i64 x.co] 106) = w1 at *
  have X1 := X.below hb0; have M1 := plm_below M hb0
  have r0 : ∀ Y, Below w1.heap.size w1 Y → Y.cell? ⟨b, 0, none⟩ = some (.map (some um)) := fun Y h => (X1.below h).at_ 0 rfl
  have u0 : ∀ Y, Below w1.heap.size w1 Y → Y.cell? ⟨w.heap.size, 0, none⟩ = some (.int .i64 x.st) := fun Y h => (T.below h).at_ 0 rfl
  have u1 : ∀ Y, Below w1.heap.size w1 Y → Y.cell? ⟨w.heap.size, 1, none⟩ = some (.int .i64 x.fr) := fun Y h => (T.below h).at_ 1 rfl
  have u2 : ∀ Y, Below w1.heap.size w1 Y → Y.cell? ⟨w.heap.size, 2, none⟩ = some (.int .i64 x.to) := fun Y h => (T.below h).at_ 2 rfl
  have u3 : ∀ Y, Below w1.heap.size w1 Y → Y.cell? ⟨w.heap.size, 3, none⟩ = some (.int .i64 x.ce) := fun Y h => (T.below h).at_ 3 rfl
  have u4 : ∀ Y, Below w1.heap.size w1 Y → Y.cell? ⟨w.heap.size, 4, none⟩ = some (.int .i64 x.di) := fun Y h => (T.below h).at_ 4 rfl
  have u5 : ∀ Y, Below w1.heap.size w1 Y → Y.cell? ⟨w.heap.size, 5, none⟩ = some (.int .i64 x.co) := fun Y h => (T.below h).at_ 5 rfl
  have hlk := fun Y (h : Below w1.heap.size w1 Y) => pl_look (plm_below M1 h) hx
  unfold plV at hlk
  clear X T X1 M M1
  refine wp_region_S (fun Y => Below w1.heap.size w1 Y) 4 (by kernel_rfl) ?_
  refine anyS_take (i := 0) rfl (by kernel_rfl) (fun _ _ _ h => h) (Or.inl ⟨by rfl, fun Y hYb => (by (try dsimp only at hYb); go_simp; rfl)⟩) (by repeat' (first | with_reducible assumption | with_reducible exact Below.refl _ _ | with_reducible refine Below.drew ?_ | with_reducible refine below_drewN ?_ _)) ?_
  refine anyS_take (i := 1) rfl (by kernel_rfl) (fun _ _ _ h => h) (Or.inl ⟨by rfl, fun Y hYb => (by (try dsimp only at hYb); go_simp; rfl)⟩) (by repeat' (first | with_reducible assumption | with_reducible exact Below.refl _ _ | with_reducible refine Below.drew ?_ | with_reducible refine below_drewN ?_ _)) ?_
  refine anyS_one (i := 2) (by kernel_rfl) rfl (by rfl) (fun K hK => ?_)
  go_simp
  refine (hof _).mono ?_
  rintro e w2 ⟨rfl, hb2⟩
  dsimp only
  have hS2 : Below w1.heap.size w1 w2 := bvia (Below.refl _ w1).drew hb2
  refine hK _ _ (fun _ _ => hS2) ?_
  clear hK K hb2
  refine anyS_take (i := 3) rfl (by kernel_rfl) (fun _ _ _ h => h) (Or.inl ⟨by rfl, fun Y hYb => (by (try dsimp only at hYb); go_simp; rfl)⟩) (by repeat' (first | with_reducible assumption | with_reducible exact Below.refl _ _ | with_reducible refine Below.drew ?_ | with_reducible refine below_drewN ?_ _)) ?_
  refine anyS_one (i := 4) (by kernel_rfl) rfl (by rfl) (fun K hK => ?_)
  go_simp
  refine hK _ _ (fun h _ => absurd h (by decide)) ?_
  clear hK K
  refine anyS_done (by kernel_rfl) ?_ _
  go_wp2
  go_ret
  exact ⟨rfl, bvia hb0 hS2⟩
theorem colS_end {S L : Int → Bool} {k b : Int} {V : Int → C4} {i : Int} (hS : S i = true) (hL : L i = false) : colS S L k b V i = coll k b (V i) := if_pos ⟨hS, hL⟩
theorem idx4e (c : C4) {d : Nat} (hd : d < 4) (w : World) : (Instr.index 49 (.agg #[.int .i64 c.e, .int .i64 c.n, .int .i64 c.w, .int .i64 c.s]) (.int .i64 (d : Int))).run Tryz.prog w = .ok (.int .i64 (c.get d)) w := by
  rcases (by omega : d = 0 ∨ d = 1 ∨ d = 2 ∨ d = 3) with rfl | rfl | rfl | rfl <;> kernel_rfl
theorem Sl.but2 {X Y : World} {C : Nat → Prop} {a : Option Addr} {n : Nat} {f : Nat → Int} (h : Sl X a n f) (hb : But C X Y) (hne : ∀ b o, a = some ⟨b, o, none⟩ → ¬ C b) : Sl Y a n f := fun k hk => by
  obtain ⟨b, off, e, hlt, c⟩ := h k hk
  exact ⟨b, off, e, Nat.lt_of_lt_of_le hlt hb.size, (World.cell?_of_block (hb.block b hlt (hne b off e))).trans c⟩
theorem Sc.but2 {X Y : World} {C : Nat → Prop} {a : Option Addr} {n : Nat} {f : Nat → C4} (h : Sc X a n f) (hb : But C X Y) (hne : ∀ b o, a = some ⟨b, o, none⟩ → ¬ C b) : Sc Y a n f := fun k hk => by
  obtain ⟨b, off, e, hlt, c0, c1, c2, c3⟩ := h k hk
  have hh : ∀ o, Y.cell? ⟨b, o, none⟩ = X.cell? ⟨b, o, none⟩ := fun o => World.cell?_of_block (hb.block b hlt (hne b off e))
  exact ⟨b, off, e, Nat.lt_of_lt_of_le hlt hb.size, (hh _).trans c0, (hh _).trans c1, (hh _).trans c2, (hh _).trans c3⟩
theorem own_but2 {C : Nat → Prop} {X Y : World} {base : Nat} {e : TypeId} {size n : Nat} {v : Value} {xs : List Value} (h : X.ownsRow base e size v n xs) (hb : But C X Y) (hne : ∀ g, v.ownBlock = some g → ¬ C g) : Y.ownsRow base e size v n xs := by
  refine ⟨h.1, ?_⟩
  rcases h.2 with h' | ⟨g, cap, cur, rfl, hbs, hh, rest⟩
  · exact .inl h'
  · refine .inr ⟨g, cap, cur, rfl, hbs, ?_, rest⟩
    rw [hb.block g (own_lt h g rfl) (hne g rfl)]
    exact hh
theorem rowC_snoc2 (C : Nat → C4) (j : Nat) : rowC C (j + 1) = rowC C j ++ [.int .i64 (C j).e, .int .i64 (C j).n, .int .i64 (C j).w, .int .i64 (C j).s] := by
  unfold rowC
  rw [show (j + 1) * 4 = j * 4 + 1 + 1 + 1 + 1 by omega]
  simp only [List.range_succ, List.map_append, List.map_cons, List.map_nil, List.append_assoc, List.cons_append, List.nil_append]
  rw [flatC_at0, flatC_at1, show j * 4 + 1 + 1 = j * 4 + 2 by omega, flatC_at2, show j * 4 + 2 + 1 = j * 4 + 3 by omega, flatC_at3]
/-- the row of a node's cells among the first k -/
def rowO (Fl : Nat → C4) (o : Nat → Int) (nd : Int) (k : Nat) : List Value := rowC (fun j => Fl ((ownL o nd k).getD j 0).toNat) (ownL o nd k).length
theorem rowC_congr {f g : Nat → C4} {n : Nat} (h : ∀ j, j < n → f j = g j) : rowC f n = rowC g n := by
  refine List.ext_getElem? fun i => ?_
  by_cases hi : i < n * 4
  · unfold rowC
    rw [List.getElem?_map, List.getElem?_map, List.getElem?_range hi]
    simp only [Option.map_some, flatC]
    rw [h (i / 4) (by omega)]
  · rw [List.getElem?_eq_none (by rw [rowC_length]; omega), List.getElem?_eq_none (by rw [rowC_length]; omega)]
theorem rowO_no {Fl : Nat → C4} {o : Nat → Int} {nd : Int} {k : Nat} (h : o k ≠ nd) : rowO Fl o nd (k + 1) = rowO Fl o nd k ∧ (ownL o nd (k + 1)).length = (ownL o nd k).length := by
  unfold rowO
  simp only [ownL, if_neg h]
  exact ⟨trivial, trivial⟩
theorem rowO_yes {Fl : Nat → C4} {o : Nat → Int} {nd : Int} {k : Nat} (h : o k = nd) : rowO Fl o nd (k + 1) = rowO Fl o nd k ++ [.int .i64 (Fl k).e, .int .i64 (Fl k).n, .int .i64 (Fl k).w, .int .i64 (Fl k).s] ∧ (ownL o nd (k + 1)).length = (ownL o nd k).length + 1 := by
  have hl : (ownL o nd (k + 1)).length = (ownL o nd k).length + 1 := by simp only [ownL, if_pos h]; simp
  refine ⟨?_, hl⟩
  unfold rowO
  rw [hl, rowC_snoc2]
  have e1 : (ownL o nd (k + 1)).getD (ownL o nd k).length 0 = (k : Int) := by
    simp only [ownL, if_pos h]
    rw [List.getD_eq_getElem?_getD, List.getElem?_append_right (Nat.le_refl _), Nat.sub_self]; rfl
  rw [e1, Int.toNat_natCast]
  congr 1
  refine rowC_congr fun j hj => ?_
  simp only [ownL, if_pos h]
  rw [List.getD_eq_getElem?_getD, List.getElem?_append_left hj, ← List.getD_eq_getElem?_getD]
section
variable {P : Program} {w : World}
/-- append at an operation -/
theorem wp_append_at2 {o : Oper} {a : Act} {K : Act → World → Prop} {Q : Exit → Act → World → Prop} (s x : Operand) (t : TypeId)
    (ho : o.op = .call { callee := .builtin .append, args := #[s, x], argTypes := #[t, t] })
    (base : Nat) (e : TypeId) (i : TypeInfo) (z : Value) (size bytes : Nat) (ht : P.underlying t = some (.slice e)) (hi : P.info? e = some i) (hz : i.zero = some z)
    (hsize : i.size = size) (hby : i.bytes = bytes) (hzs : z.cells.size = size) (hsz : 0 < size)
    (v : Value) (n : Nat) (xs : List Value) (hs : a.eval s = v) (hown : w.ownsRow base e size v n xs)
    (ad : Addr) (m c : Nat) (news : List Value) (hx : a.eval x = .slice (some ad) m c) (hl : news.length = m * size) (hnews : ∀ j u, news[j]? = some u → w.cell? (ad.add j) = some u) (h1 : ∀ u ∈ news, u.oneCell' = true)
    (h63 : n + m ≤ maxLen) (hbytes : (n + m) * bytes ≤ 140737488355328) (hbase : base ≤ w.heap.size)
    (h : ∀ v' w', w'.ownsRow base e size v' (n + m) (xs ++ news) → w.grownBy w' v.ownBlock → (v'.ownBlock = v.ownBlock ∨ v'.ownBlock = some w.heap.size) → K (a.put o.dst v') w') : o.wp P a w K Q := by
  obtain ⟨v', w', hr, h2, h3, _, h5⟩ := run_append_own_at (P := P) w base t o.type e i z size bytes ht hi hz hsize hby hzs hsz v n xs hown ad m c news hl hnews h1 h63 hbytes hbase
  unfold Oper.wp execOp
  simp only [ho, resolve, invoke, builtin, Sem.run_bind, Sem.run_pure, Result.andThen_ok, List.map_toArray, List.map_cons, List.map_nil, hs, hx, hr]
  exact h v' w' h2 h3 h5
end
/-- the first d numbers of a cell -/
def cutC (c : C4) (d : Nat) : C4 := ⟨if 0 < d then c.e else 0, if 1 < d then c.n else 0, if 2 < d then c.w else 0, if 3 < d then c.s else 0⟩
theorem cutC_put (c : C4) {d : Nat} (hd : d < 4) : (cutC c d).with d (c.get d) = cutC c (d + 1) := by
  rcases (by omega : d = 0 ∨ d = 1 ∨ d = 2 ∨ d = 3) with rfl | rfl | rfl | rfl <;> simp [cutC, C4.with, C4.get]
theorem cutC_skip {c : C4} {d : Nat} (hd : d < 4) (h : c.get d = 0) : cutC c d = cutC c (d + 1) := by
  rcases (by omega : d = 0 ∨ d = 1 ∨ d = 2 ∨ d = 3) with rfl | rfl | rfl | rfl <;> simp [C4.get] at h <;> simp [cutC, h]
theorem sl_of_row {w : World} {base n : Nat} {v : Value} {I : Nat → Int} (h : w.ownsRow base 3 1 v n ((List.range n).map fun k => .int .i64 (I k))) : ∃ a c, v = .slice a n c ∧ Sl w a n I := by
  have e : (List.range n).map (fun k => Value.int .i64 (I k)) = (ownersL I n).map vInt := by simp [ownersL, vInt, Function.comp_def]
  have h2 : w.ownsRow base 3 1 v (ownersL I n).length ((ownersL I n).map vInt) := by rw [ownersL_length, ← e]; exact h
  obtain ⟨a, c, rfl, S⟩ := sl_of_own h2
  refine ⟨a, c, by rw [ownersL_length], fun k hk => ?_⟩
  obtain ⟨b, off, e1, hb, hc⟩ := S k (by rw [ownersL_length]; exact hk)
  dsimp only at hc
  rw [List.getD_eq_getElem?_getD, ownersL, List.getElem?_map, List.getElem?_range hk] at hc
  exact ⟨b, off, e1, hb, hc⟩
section
variable {W H : Nat} {o : Nat → Int} {nd t : Int} {Y Fl : Nat → C4} {k d : Nat}
/-- the notes of a cell under way; .. its numbers -/
def exN (W H : Nat) (o : Nat → Int) (nd t : Int) (Y : Nat → C4) (k d : Nat) : List N6 := if o k = nd then [] else newC W H o nd t Y k d
def cuC (o : Nat → Int) (nd : Int) (Fl : Nat → C4) (k d : Nat) : C4 := if o k = nd then cutC (Fl k) d else C4.zero
theorem exN_zero : exN W H o nd t Y k 0 = [] := by unfold exN; split <;> rfl
theorem cuC_zero : cuC o nd Fl k 0 = C4.zero := by unfold cuC; split <;> rfl
theorem cuC_own (h : o k = nd) : cuC o nd Fl k 4 = Fl k := by unfold cuC; rw [if_pos h]; rfl
theorem ex_skip (h : o (nbT W H k d) ≠ nd) : exN W H o nd t Y k (d + 1) = exN W H o nd t Y k d := by unfold exN; split; rfl; simp only [newC, if_neg h]
theorem ex_own (h : o k = nd) : exN W H o nd t Y k (d + 1) = exN W H o nd t Y k d := by unfold exN; rw [if_pos h, if_pos h]
theorem ex_more (h : o k ≠ nd) (h2 : o (nbT W H k d) = nd) : exN W H o nd t Y k (d + 1) = exN W H o nd t Y k d ++ [outN W H o nd t Y k d] := by unfold exN; rw [if_neg h, if_neg h]; simp only [newC, if_pos h2]
theorem cu_skip (hd : d < 4) (hF : o k = nd → (Fl k).get d = 0) : cuC o nd Fl k (d + 1) = cuC o nd Fl k d := by
  unfold cuC
  split
  · rename_i h; exact (cutC_skip hd (hF h)).symm
  · rfl
theorem cu_put (hd : d < 4) (h : o k = nd) : (cuC o nd Fl k d).with d ((Fl k).get d) = cuC o nd Fl k (d + 1) := by unfold cuC; rw [if_pos h, if_pos h]; exact cutC_put _ hd
theorem cu_else (h : o k ≠ nd) : cuC o nd Fl k (d + 1) = cuC o nd Fl k d := by unfold cuC; rw [if_neg h, if_neg h]
theorem new_next : newN W H o nd t Y (k + 1) = newN W H o nd t Y k ++ exN W H o nd t Y k 4 := by
  unfold exN
  simp only [newN]
  split
  · rw [List.append_nil]
  · rfl
end
theorem actS_ok {W H : Nat} {o : Nat → Int} {ru : Int × Int} {no : Nat} {s : SiteR} {p : Nat → N6} {q : Nat} {w w' : World} {e : Ending} {Fl : Nat → C4} {aN : List N6} (hE : actE W H o ru s p q = 0) (hC : actC W H o ru s p q = Fl) (hN : aN = actN W H o ru s p q)
    (h : ActPost 0 s.nd (s.st + 1) (ownL o s.nd no) Fl (sortN aN) w e w') : ActS W H o ru no s p q w e w' := by
  unfold ActS
  rw [if_pos hE, hC, ← hN]
  exact h
theorem lstN_self (xs : List N6) : lstN (fun k => xs.getD k N6.zero) xs.length = xs := List.ext_getElem (by simp [lstN]) (fun i h1 h2 => by simp [lstN, List.getD_eq_getElem?_getD, h2])
end Go.Proofs.YteabkcbajpjkoaaGreat
namespace Go.Proofs.YteabkcbajpjkoaaGreat
open Go Go.RowKit
set_option linter.unusedVariables false
/-- a node's r-th cell -/
def Lr (o : Nat → Int) (nd : Int) (no r : Nat) : Nat := ((ownL o nd no).getD r 0).toNat
section
variable {W H : Nat} {o : Nat → Int} {nd t : Int} {Y : Nat → C4} {no : Nat}
theorem Lr_all {i : Nat} (h : i < no) (ho : o i = nd) : ∃ r, r < (ownL o nd no).length ∧ Lr o nd no r = i := by
  have hown : (i : Int) ∈ ownL o nd no := ownL_mem.2 ⟨i, h, rfl, ho⟩
  obtain ⟨j, hj⟩ := List.getElem?_of_mem hown
  refine ⟨j, (List.getElem?_eq_some_iff.1 hj).1, ?_⟩
  unfold Lr
  rw [List.getD_eq_getElem?_getD, hj]; rfl
end
end Go.Proofs.YteabkcbajpjkoaaGreat
namespace Go.Proofs.YteabkcbajpjkoaaGreat
open Go Go.RowKit
set_option linter.unusedVariables false
section
variable {P : Program} {ops : Array Oper} {Q : Exit → Act → World → Prop} {md : Region.Mode} {S : World → Prop} {T : Nat}
end
end Go.Proofs.YteabkcbajpjkoaaGreat
namespace Go.Proofs.YteabkcbajpjkoaaGreat
open Go Go.RowKit
set_option linter.unusedVariables false
structure RIv (wr : World) (ni : Nat) (I : Nat → Int) (b5 b8 b12 b14 : Bool) (e5 g c bo bx : Nat) (v106 v109 v113 v19 : Value) (Y : World) : Prop where
  bel : Below wr.heap.size wr Y
  h5 : b5 = true → v106 = .slice (some ⟨e5, 0, none⟩) 0 0 ∧ wr.heap.size ≤ e5 ∧ e5 < Y.heap.size ∧ (b8 = false → Y.ownsRow wr.heap.size 3 1 (.slice (some ⟨e5, 0, none⟩) 0 0) 0 [])
  h8 : b8 = true → v109 = .slice (some ⟨g, 0, none⟩) ni c ∧ wr.heap.size ≤ g ∧ g < Y.heap.size ∧ Sl Y (some ⟨g, 0, none⟩) ni I
  h12 : b12 = true → v113 = .slice (some ⟨bo, 0, none⟩) ni ni ∧ wr.heap.size ≤ bo ∧ Ro Y bo (ni * 4) (flatC fun _ => C4.zero)
  h14 : b14 = true → v19 = .pointer (some ⟨bx, 0, none⟩) ∧ wr.heap.size ≤ bx ∧ Bx Y bx #[.int .i64 0, .int .i64 0, .slice none 0 0, .slice none 0 0]
  d1 : b5 = true → b12 = true → e5 ≠ bo
  d2 : b5 = true → b14 = true → e5 ≠ bx
  d3 : b8 = true → b12 = true → g ≠ bo
  d4 : b8 = true → b14 = true → g ≠ bx
  d5 : b12 = true → b14 = true → bo ≠ bx
section
variable {wr Y Z : World} {ni : Nat} {I : Nat → Int} {b5 b8 b12 b14 : Bool} {e5 g c bo bx : Nat} {v106 v109 v113 v19 : Value}
theorem RIv.below (h : RIv wr ni I b5 b8 b12 b14 e5 g c bo bx v106 v109 v113 v19 Y) (hb : Below Y.heap.size Y Z) : RIv wr ni I b5 b8 b12 b14 e5 g c bo bx v106 v109 v113 v19 Z := by
  have hs := hb.size
  refine ⟨bvia h.bel hb, fun e => ?_, fun e => ?_, fun e => ?_, fun e => ?_, h.d1, h.d2, h.d3, h.d4, h.d5⟩
  · obtain ⟨a1, a2, a3, a4⟩ := h.h5 e; exact ⟨a1, a2, by omega, fun e => own_below (a4 e) hb⟩
  · obtain ⟨a1, a2, a3, a4⟩ := h.h8 e; exact ⟨a1, a2, by omega, a4.below hb⟩
  · obtain ⟨a1, a2, a3⟩ := h.h12 e; exact ⟨a1, a2, a3.below hb⟩
  · obtain ⟨a1, a2, a3⟩ := h.h14 e; exact ⟨a1, a2, a3.below hb⟩
end
end Go.Proofs.YteabkcbajpjkoaaGreat
