/- Walks: Mass, of the program and of the reference. Plain: of a play at any point: its sites and its post are valid, nothing is lost, the mass is the grid's; what both Plays leave, under one name. -/
import Derived.Test.YtmmjaobpoiofdaaGreatNMassP
import Derived.Test.YtmmjaobpoiofdaaGreatNValid
import Derived.Test.YtmmjaobpoiofdaaGreatSameG
import Derived.Test.YtmmjaobpoiofdaaGreatCRow
import Derived.Test.YtmmjaobpoiofdaaGreatNPlyM
import Derived.Test.YtmmjaobpoiofdaaGreatNLostW
namespace Go.Proofs.YtmmjaobpoiofdaaGreat
open Go Go.RowKit
set_option linter.unusedVariables false
theorem ply_siteM {o : Nat → Int} {no : Nat} {st : Int → Int} {G : Nat → C4} {F : Nat → SiteR} (ho : ∀ k, k < no → 0 ≤ o k ∧ o k ≤ 7) (h : ∀ j, j < (nodeL o no 8).length → siteQ o no st G ((nodeL o no 8).getD j 0) (F j)) : siteM F (nodeL o no 8).length = massTo G no := by
  have h2 := split_siteM (o := o) (no := no) (g := G) (F := fun j => { F j with st := 0 }) 8 fun j hj => by
    obtain ⟨q1, q2, q3, q4, q5⟩ := h j hj
    exact ⟨q1, rfl, q3, q4, q5⟩
  rw [selS_all ho] at h2
  have h3 : ∀ k, siteM (fun j => { F j with st := 0 }) k = siteM F k := by
    intro k
    induction k with
    | zero => rfl
    | succ k ih => simp only [siteM, ih]
  rw [h3] at h2
  exact h2
section
variable {W H : Nat} {o : Nat → Int} {no rn : Nat} {ru : Nat → Int × Int} {g : Nat → C4} {n : Int} {X : Ply} {F : Nat → SiteR}
theorem ply_sites (hno : no = W * H) (hg : (∀ i, i < W * H → validC (g i) = true) ∧ massTo g (W * H) ≤ 1000000000) (hn : n ≤ 1000000) (ho : ∀ k, k < no → 0 ≤ o k ∧ o k ≤ 7) (I : PlyI W H o no rn ru g n X) (h : ∀ j, j < (nodeL o no 8).length → siteQ o no X.st X.G ((nodeL o no 8).getD j 0) (F j)) : sitesB o no (nodeL o no 8).length F = true := by
  have hp := ply_post hno hg hn I
  have hco : 0 ≤ coL X.P := by rw [coL_pF]; exact (coS_nonneg _ (post_fit hp)).1
  have hm := I.mass
  have hg2 := hg.2
  rw [← hno] at hg2
  refine sitesB_iff.2 ⟨rfl, fun k hk => (h k hk).1, fun k hk => ?_, ?_⟩
  · rw [siteQ_B (h k hk)]; exact ply_site hno hg hn I _
  · rw [ply_siteM ho h]; omega
end
/-- what both Plays leave, by one error -/
def uE (E : Int) (Z : Ply) : Int := if E = 0 then Z.er else E
def uM (E : Int) (o : Nat → Int) (no : Nat) (Z : Ply) : Nat := if uE E Z = 0 then (nodeL o no 8).length else 0
def uR (E : Int) (Z : Ply) : List N6 := if uE E Z = 0 then Z.P else []
def uC (E : Int) (Z : Ply) : Int := if uE E Z = 0 then (Z.cnt : Int) else 0
def PlayU (E : Int) (o : Nat → Int) (no : Nat) (Z : Ply) (w : World) (e : Ending) (w' : World) : Prop :=
  ∃ aS cS F aP cP, e = .returned (.tuple #[.slice aS (uM E o no Z) cS, .slice aP (uR E Z).length cP, .int .i64 (uC E Z), .int .i64 (uE E Z)]) ∧ Ss w' aS (uM E o no Z) F ∧ (∀ k, k < uM E o no Z → siteQ o no Z.st Z.G ((nodeL o no 8).getD k 0) (F k)) ∧ Sn w' aP (uR E Z).length (fun k => (uR E Z).getD k N6.zero) ∧ (uR E Z).length ≤ cP ∧ (aP = none → cP = 0) ∧ Below w.heap.size w w'
theorem playU {E : Int} {o : Nat → Int} {no : Nat} {Z : Ply} {w w' : World} {e : Ending} (h : PlayR E o no Z w e w') : PlayU E o no Z w e w' := by
  rcases h with ⟨rfl, h⟩ | ⟨hE, rfl, hb⟩
  · have e0 : uE 0 Z = Z.er := if_pos rfl
    rcases h with ⟨h0, vS, xs, vP, rfl, h1, h2, h3⟩ | ⟨h4, rfl, hb⟩
    · have e1 : uM 0 o no Z = (nodeL o no 8).length := if_pos (e0.trans h0)
      have e2 : uR 0 Z = Z.P := if_pos (e0.trans h0)
      have e3 : uC 0 Z = Z.cnt := if_pos (e0.trans h0)
      obtain ⟨aS, cS, rfl, hs⟩ := h1.ss
      obtain ⟨aP, cP, rfl, hl, hac⟩ := listR_of_own2 h2
      unfold PlayU
      rw [e0, e1, e2, e3, h0, ← h1.2.1]
      exact ⟨aS, cS, _, aP, cP, rfl, hs, fun k hk => (h1.2.2 k (by rw [← h1.2.1]; exact hk)).1, hl.2.2, hl.2.1, hac, h3⟩
    · have e1 : uM 0 o no Z = 0 := if_neg (by rw [e0, h4]; decide)
      have e2 : uR 0 Z = [] := if_neg (by rw [e0, h4]; decide)
      have e3 : uC 0 Z = 0 := if_neg (by rw [e0, h4]; decide)
      unfold PlayU
      rw [e0, e1, e2, e3, h4]
      exact ⟨none, 0, fun _ => SiteR.zero, none, 0, rfl, fun k hk => absurd hk (by omega), fun k hk => absurd hk (by omega), fun k hk => absurd hk (by simp), Nat.le_refl _, fun _ => rfl, hb⟩
  · have e0 : uE E Z = E := if_neg hE
    have e1 : uM E o no Z = 0 := if_neg (by rw [e0]; exact hE)
    have e2 : uR E Z = [] := if_neg (by rw [e0]; exact hE)
    have e3 : uC E Z = 0 := if_neg (by rw [e0]; exact hE)
    unfold PlayU
    rw [e0, e1, e2, e3]
    exact ⟨none, 0, fun _ => SiteR.zero, none, 0, rfl, fun k hk => absurd hk (by omega), fun k hk => absurd hk (by omega), fun k hk => absurd hk (by simp), Nat.le_refl _, fun _ => rfl, hb⟩
end Go.Proofs.YtmmjaobpoiofdaaGreat
