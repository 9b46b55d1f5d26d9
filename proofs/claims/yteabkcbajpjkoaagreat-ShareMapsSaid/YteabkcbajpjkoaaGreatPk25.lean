/- Plain: rounds of all nodes let each go on; where all nodes have come as far, what they hold and what is in the post is the grid; a grid's cells after t steps are those of its run. Walks: the rounds of Run, as an iterator; Run, of the program: the grid after as many steps. Walks: the reference's run of a grid without walls: collided, step, runError, Run; and that of nodes. -/
import Derived.Test.YteabkcbajpjkoaaGreatPk12
import Derived.Test.YteabkcbajpjkoaaGreatPk18
import Derived.Test.YteabkcbajpjkoaaGreatPk23
import Derived.Test.YteabkcbajpjkoaaGreatPk13
import Derived.Test.YteabkcbajpjkoaaGreatPk24
import Derived.Test.YteabkcbajpjkoaaGreatPk20
import Derived.Test.YteabkcbajpjkoaaGreatPk16
import Derived.Test.YteabkcbajpjkoaaGreatPk17
namespace Go.Proofs.YteabkcbajpjkoaaGreat
open Go Go.RowKit
set_option linter.unusedVariables false
theorem gT_run {W H rn : Nat} {ru : Nat → Int × Int} {g : Nat → C4} : ∀ t, gT W H rn ru g t = runW W H (rlAt rn ru) (fun _ => 0) g 0 t
  | 0 => rfl
  | t + 1 => by
    simp only [gT, runW]
    rw [gT_run t, Nat.zero_add]
    rfl
/-- all nodes' turns, round by round -/
def roundsL (L : List Int) : Nat → List Int | 0 => [] | n + 1 => roundsL L n ++ L
theorem roundsL_len (L : List Int) : ∀ n, (roundsL L n).length = n * L.length
  | 0 => by simp [roundsL]
  | n + 1 => by simp only [roundsL, List.length_append, roundsL_len L n, Nat.add_mul]; omega
theorem roundsL_mem {L : List Int} {x : Int} : ∀ {n}, x ∈ roundsL L n → x ∈ L
  | 0, h => by cases h
  | n + 1, h => by
    simp only [roundsL] at h
    rcases List.mem_append.1 h with h | h
    · exact roundsL_mem h
    · exact h
section
variable {W H : Nat} {o : Nat → Int} {no rn : Nat} {ru : Nat → Int × Int} {g : Nat → C4} {n : Int} {X : Ply}
theorem node_ex (ho : ∀ k, k < no → 0 ≤ o k ∧ o k ≤ 7) {i : Nat} (hi : i < no) : ∃ k, k < (nodeL o no 8).length ∧ (nodeL o no 8).getD k 0 = o i := by
  obtain ⟨k, h1, h2, _⟩ := node_has ho (x := o i) ⟨i, hi, rfl⟩
  exact ⟨k, h1, h2⟩
/-- within a round: the first j have gone on -/
def RndI (W H : Nat) (o : Nat → Int) (no rn : Nat) (ru : Nat → Int × Int) (g : Nat → C4) (n : Int) (r j : Nat) (X : Ply) : Prop :=
  PlyI W H o no rn ru g n X ∧ X.cnt = r * (nodeL o no 8).length + j ∧ (∀ k, k < j → X.st ((nodeL o no 8).getD k 0) = r + 1) ∧ ∀ k, j ≤ k → k < (nodeL o no 8).length → X.st ((nodeL o no 8).getD k 0) = r
theorem rnd_next (hno : no = W * H) (hg : (∀ i, i < W * H → validC (g i) = true) ∧ massTo g (W * H) ≤ 1000000000) (hn : n ≤ 1000000) (ho : ∀ k, k < no → 0 ≤ o k ∧ o k ≤ 7) {r j : Nat} (hr : (r : Int) < n) (hj : j < (nodeL o no 8).length) (hc : 4 * no * (r * (nodeL o no 8).length + j + 1) ≤ 100000)
    (I : RndI W H o no rn ru g n r j X) : RndI W H o no rn ru g n r (j + 1) (plyN W H o no rn ru n X ((nodeL o no 8).getD j 0)) := by
  obtain ⟨hI, hcn, h1, h2⟩ := I
  have hst := h2 j (Nat.le_refl _) hj
  have hgo : goesB W H o no n X ((nodeL o no 8).getD j 0) = true := ply_goes hI (by rw [hst]; exact hr) fun i d hi hd hoi => by
    have hnb : nbT W H i d < no := by rw [hno]; exact nbT_lt (by omega) hd
    obtain ⟨k, hk, e⟩ := node_ex ho hnb
    rw [hst, ← e]
    by_cases hkj : k < j
    · rw [h1 k hkj]; omega
    · rw [h2 k (by omega) hk]; exact Int.le_refl _
  have hE := ply_actE hno hg hn hI hgo (by rw [hcn]; exact hc) (ru ((X.st ((nodeL o no 8).getD j 0)).toNat % rn))
  have hN := ply_next hno hg hn hI hgo hE
  have hnod : (nodeL o no 8).Nodup := (nodeL_sorted o no 8).imp fun hab => by omega
  have hinj : ∀ k, k < (nodeL o no 8).length → (nodeL o no 8).getD k 0 = (nodeL o no 8).getD j 0 → k = j := fun k hk e => by
    rw [List.getD_eq_getElem?_getD, List.getElem?_eq_getElem hk, List.getD_eq_getElem?_getD, List.getElem?_eq_getElem hj] at e
    exact nodup_inj hnod hk hj (by simpa using e)
  have e : plyN W H o no rn ru n X ((nodeL o no 8).getD j 0) = ⟨fun k => if k = (nodeL o no 8).getD j 0 then X.st ((nodeL o no 8).getD j 0) + 1 else X.st k, fun i => if o i = (nodeL o no 8).getD j 0 then actC W H o (ru ((X.st ((nodeL o no 8).getD j 0)).toNat % rn)) (siteA o no X.st X.G ((nodeL o no 8).getD j 0)) (pF X.P) X.P.length i else X.G i, sortN (actN W H o (ru ((X.st ((nodeL o no 8).getD j 0)).toNat % rn)) (siteA o no X.st X.G ((nodeL o no 8).getD j 0)) (pF X.P) X.P.length), X.cnt + 1, 0⟩ := by
    unfold plyN
    rw [if_neg (fun hh => hh hI.er), if_neg (by rw [hgo]; decide), if_pos hE]
  rw [e] at hN ⊢
  refine ⟨hN, ?_, fun k hk => ?_, fun k hk hk2 => ?_⟩
  · show X.cnt + 1 = _
    omega
  · show (if (nodeL o no 8).getD k 0 = (nodeL o no 8).getD j 0 then X.st ((nodeL o no 8).getD j 0) + 1 else X.st ((nodeL o no 8).getD k 0)) = _
    by_cases ek : k = j
    · subst ek; rw [if_pos rfl, hst]
    · rw [if_neg (fun hh => ek (hinj k (by omega) hh))]
      exact h1 k (by omega)
  · show (if (nodeL o no 8).getD k 0 = (nodeL o no 8).getD j 0 then X.st ((nodeL o no 8).getD j 0) + 1 else X.st ((nodeL o no 8).getD k 0)) = _
    rw [if_neg (fun hh => by have := hinj k hk2 hh; omega)]
    exact h2 k (by omega) hk2
theorem rnd_one (hno : no = W * H) (hg : (∀ i, i < W * H → validC (g i) = true) ∧ massTo g (W * H) ≤ 1000000000) (hn : n ≤ 1000000) (ho : ∀ k, k < no → 0 ≤ o k ∧ o k ≤ 7) {r : Nat} (hr : (r : Int) < n) (hc : 4 * no * ((r + 1) * (nodeL o no 8).length) ≤ 100000) (I : RndI W H o no rn ru g n r 0 X) :
    ∀ j, j ≤ (nodeL o no 8).length → RndI W H o no rn ru g n r j (plyL W H o no rn ru n X ((nodeL o no 8).take j))
  | 0, _ => by simpa [plyL] using I
  | j + 1, hj => by
    have ih := rnd_one hno hg hn ho hr hc I j (by omega)
    have e : (nodeL o no 8).take (j + 1) = (nodeL o no 8).take j ++ [(nodeL o no 8).getD j 0] := by
      rw [List.take_add_one, List.getD_eq_getElem?_getD, List.getElem?_eq_getElem (by omega : j < (nodeL o no 8).length)]; rfl
    rw [e, plyL_snoc]
    refine rnd_next hno hg hn ho hr (by omega) (Nat.le_trans (Nat.mul_le_mul_left _ ?_) hc) ih
    rw [Nat.add_mul]; omega
theorem rnd_all (hno : no = W * H) (hg : (∀ i, i < W * H → validC (g i) = true) ∧ massTo g (W * H) ≤ 1000000000) (hn0 : 0 ≤ n) (hn : n ≤ 1000000) (ho : ∀ k, k < no → 0 ≤ o k ∧ o k ≤ 7) {N : Nat} (hc : 4 * no * (N * (nodeL o no 8).length) ≤ 100000) :
    ∀ r, r ≤ N → (r : Int) ≤ n → RndI W H o no rn ru g n r 0 (plyL W H o no rn ru n (ply0 g) (roundsL (nodeL o no 8) r))
  | 0, _, _ => ⟨ply_start hn0, by simp [roundsL, plyL, ply0], fun k hk => by omega, fun k _ _ => rfl⟩
  | r + 1, hr, hrn => by
    have ih := rnd_all hno hg hn0 hn ho hc r (by omega) (by omega)
    simp only [roundsL]
    rw [plyL_app]
    have h1 := rnd_one hno hg hn ho (by omega : (r : Int) < n) (Nat.le_trans (Nat.mul_le_mul_left _ (Nat.mul_le_mul_right _ hr)) hc) ih (nodeL o no 8).length (Nat.le_refl _)
    rw [List.take_length] at h1
    obtain ⟨a1, a2, a3, a4⟩ := h1
    refine ⟨a1, by rw [a2, Nat.add_mul]; omega, fun k hk => by omega, fun k _ hk => ?_⟩
    rw [a3 k hk]; omega
/-- all nodes have come to n -/
theorem rnd_end (hno : no = W * H) (hg : (∀ i, i < W * H → validC (g i) = true) ∧ massTo g (W * H) ≤ 1000000000) (ho : ∀ k, k < no → 0 ≤ o k ∧ o k ≤ 7) {N : Nat} (hN : N ≤ 1000000) (hc : 4 * no * (N * (nodeL o no 8).length) ≤ 100000) :
    PlyI W H o no rn ru g N (plyL W H o no rn ru N (ply0 g) (roundsL (nodeL o no 8) N)) ∧ ∀ k, k < (nodeL o no 8).length → (plyL W H o no rn ru N (ply0 g) (roundsL (nodeL o no 8) N)).st ((nodeL o no 8).getD k 0) = N := by
  obtain ⟨a1, a2, a3, a4⟩ := rnd_all (rn := rn) (ru := ru) (n := (N : Int)) hno hg (by omega) (by omega) ho hc N (Nat.le_refl _) (Int.le_refl _)
  exact ⟨a1, fun k hk => a4 k (Nat.zero_le _) hk⟩
theorem addTo_at {p : Nat → N6} {nd st : Int} {G G' : Nat → C4} {i : Nat} (hG : G i = G' i) : ∀ {q}, (∀ k, k < q → (p k).ce.toNat = i → mineB nd st (p k) = true) → addTo G p q i = addM nd st G' p q i
  | 0, _ => hG
  | q + 1, h => by
    have ih := addTo_at hG (q := q) fun k hk => h k (by omega)
    simp only [addTo, addM]
    by_cases e : (p q).ce.toNat = i
    · rw [if_pos (h q (by omega) e)]
      unfold addC updC
      rw [if_pos e.symm, if_pos e.symm, e, ih]
    · have e2 : ¬ i = (p q).ce.toNat := fun hh => e hh.symm
      split
      · unfold addC updC
        rw [if_neg e2, if_neg e2]; exact ih
      · unfold addC updC
        rw [if_neg e2]; exact ih
/-- sites and post, put together, are the grid -/
theorem ply_grid {F : Nat → SiteR} {N : Nat} (hno : no = W * H) (hg : (∀ i, i < W * H → validC (g i) = true) ∧ massTo g (W * H) ≤ 1000000000) (hn : n ≤ 1000000) (ho : ∀ k, k < no → 0 ≤ o k ∧ o k ≤ 7) (I : PlyI W H o no rn ru g n X) (hst : ∀ k, k < (nodeL o no 8).length → X.st ((nodeL o no 8).getD k 0) = N)
    (h : ∀ j, j < (nodeL o no 8).length → siteQ o no X.st X.G ((nodeL o no 8).getD j 0) (F j)) {i : Nat} (hi : i < no) : addTo (layS F (nodeL o no 8).length) (pF X.P) X.P.length i = gT W H rn ru g N i := C4.ext' fun d hd => by
  have hp := ply_post hno hg hn I
  have hall : ∀ j, j < no → X.st (o j) = N := fun j hj => by
    obtain ⟨k, hk, e⟩ := node_ex ho hj
    rw [← e]; exact hst k hk
  have hlay : layS F (nodeL o no 8).length i = X.G i := by
    have h2 := layS_grid (o := o) (no := no) (g := X.G) (F := fun j => { F j with st := 0 }) ho rfl (fun j hj => by
      obtain ⟨q1, q2, q3, q4, q5⟩ := h j hj
      exact ⟨q1, rfl, q3, q4, q5⟩) i hi
    have h4 : ∀ (s : SiteR) (G : Nat → C4) k, layTo G { s with st := 0 } k = layTo G s k := by
      intro s G k
      induction k with
      | zero => rfl
      | succ k ih => simp only [layTo, ih]
    have h3 : ∀ k, layS (fun j => { F j with st := 0 }) k = layS F k := by
      intro k
      induction k with
      | zero => rfl
      | succ k ih => simp only [layS, ih, h4]
    rw [h3] at h2
    exact h2
  have hnb : nbT W H i d < no := by rw [hno]; exact nbT_lt (by omega) hd
  have hsi := hall i hi
  have hmine : ∀ k, k < X.P.length → (pF X.P k).ce.toNat = i → mineB (o i) N (pF X.P k) = true := fun k hk e => by
    obtain ⟨t, i', d', q1, q2, q3, q4, q5, q6, e2⟩ := I.note _ (pF_mem hk)
    rw [e2] at e ⊢
    have e3 : i' = i := by
      have : ((i' : Int)).toNat = i := e
      omega
    subst e3
    have hnb' : nbT W H i' d' < no := by rw [hno]; exact nbT_lt (by omega) q2
    rw [hall _ hi] at q5; rw [hall _ hnb'] at q6
    unfold mineB
    rw [Bool.and_eq_true, decide_eq_true_iff, decide_eq_true_iff]
    exact ⟨rfl, by show (t : Int) = N; omega⟩
  rw [addTo_at (nd := o i) (st := N) (G' := layS F (nodeL o no 8).length) rfl hmine, addM_get (postB_iff.1 hp).2.1 (postB_iff.1 hp).2.2 i d hd, hlay, I.val i d hi hd, hsi]
  have hmet : ∀ j, j < X.P.length → plcB (pF X.P j) (plN o W H (o i) N i d) = true → o (nbT W H i d) ≠ o i ∧ 1 ≤ N ∧ (pF X.P j).co = (gT W H rn ru g N i).get d := fun j hj hpl => by
    obtain ⟨t, q1, q2, q3, q4, q5, q6, q7, q8⟩ := ply_at (x := pF X.P j) I (pF_mem hj) (plcB_pl.1 hpl)
    have : N = t := by omega
    subst this
    refine ⟨q4, by omega, ?_⟩
    rw [q8]; rfl
  by_cases h0 : N = 0
  · subst h0
    rw [if_pos (show ((0 : Nat) : Int) = 0 from rfl)]
    have : inV o W H (o i) ((0 : Nat) : Int) (pF X.P) X.P.length i d = 0 := by
      unfold inV
      refine if_neg fun ⟨_, hm⟩ => ?_
      obtain ⟨j, hj, hpl⟩ := metB_iff.1 hm
      have := (hmet j hj hpl).2.1
      omega
    rw [this, Int.add_zero]; rfl
  · rw [if_neg (by omega)]
    by_cases hb : o (nbT W H i d) = o i
    · rw [if_pos hb]
      have : inV o W H (o i) (N : Int) (pF X.P) X.P.length i d = 0 := by
        unfold inV
        refine if_neg fun ⟨_, hm⟩ => ?_
        obtain ⟨j, hj, hpl⟩ := metB_iff.1 hm
        exact (hmet j hj hpl).1 hb
      rw [this, Int.add_zero, Int.toNat_natCast]
    · rw [if_neg hb, Int.zero_add]
      have hh := I.has N i d hi hd hb (by omega) (by rw [hsi]; exact Int.le_refl _) (by rw [hall _ hnb]; exact Int.le_refl _)
      obtain ⟨k, hk, e⟩ := pF_ex hh
      have hm : metB (pF X.P) (plN o W H (o i) N i d) X.P.length = true := metB_iff.2 ⟨k, hk, plcB_pl.2 (by rw [e]; exact ⟨rfl, rfl, rfl⟩)⟩
      unfold inV
      rw [if_pos ⟨rfl, hm⟩]
      exact cntV_of hm fun j hj hpl => (hmet j hj hpl).2.2
end
end Go.Proofs.YteabkcbajpjkoaaGreat
namespace Go.Proofs.YteabkcbajpjkoaaGreat
open Go Go.RowKit
attribute [local go_sem] Oper.semAt_some
set_option linter.unusedVariables false
set_option linter.unusedSimpArgs false
theorem ent_rounds : ∀ args w, (callFunc 37 args).run Tryz.prog w = .ok (.enter 37 args) w := Go.Proofs.enters_of Tryz.func37 (by kernel_rfl) rfl
theorem roundsL_pre (L : List Int) {r n k : Nat} (h : r < n) (hk : k < L.length) : (roundsL L r ++ L.take k) ++ [L.getD k 0] <+: roundsL L n := by
  have e : L.take k ++ [L.getD k 0] = L.take (k + 1) := by
    rw [List.take_add_one, List.getD_eq_getElem?_getD, List.getElem?_eq_getElem hk]; rfl
  rw [List.append_assoc, e]
  have h1 : roundsL L r ++ L.take (k + 1) <+: roundsL L (r + 1) := by
    simp only [roundsL]
    exact (List.prefix_append_right_inj _).2 (List.take_prefix _ _)
  have h2 : ∀ d, roundsL L (r + 1) <+: roundsL L (r + 1 + d) := by
    intro d
    induction d with
    | zero => exact List.prefix_refl _
    | succ d ih => exact ih.trans (List.prefix_append _ _)
  have h3 := h2 (n - (r + 1))
  rw [show r + 1 + (n - (r + 1)) = n by omega] at h3
  exact h1.trans h3
set_option maxRecDepth 100000 in
set_option maxHeartbeats 4000000 in
theorem rounds_iter (Wd Hd : Nat) (a ao : Option Addr) (n c no co bn bc N : Nat) (o : Nat → Int) (w₀ : World) (h0 : 0 < no) (hno : no ≤ 1024) (hN : N ≤ 1000) (ho : ∀ k, k < no → 0 ≤ o k ∧ o k ≤ 7) (HO : Sl w₀ ao no o) (XN : Bx w₀ bn #[.int .i64 N]) (XC : Bx w₀ bc #[.int .i64 (Wd : Int), .int .i64 (Hd : Int), .slice a n c, .slice ao no co]) :
    IterR Tryz.prog 37 #[.pointer (some ⟨bn, 0, none⟩), .pointer (some ⟨bc, 0, none⟩)] encI (roundsL (nodeL o no 8) N) w₀ (fun _ => True) := by
  intro l J Jx C₀ W hR0 hW hC hJ hJx hY h0'
  have hs0 := hW.size
  have hnd := fun W S => node_nodes (Wd : Int) (Hd : Int) a ao n c no co o W h0 (by omega) ho S
  unfold cluV at hnd
  have hpr := fun r k (h : r < N) hk => roundsL_pre (nodeL o no 8) (r := r) (n := N) (k := k) h hk
  have hm8 := nodeL_length o no 8
  have hsuc : ∀ r, roundsL (nodeL o no 8) (r + 1) = roundsL (nodeL o no 8) r ++ nodeL o no 8 := fun r => rfl
  have hz : roundsL (nodeL o no 8) 0 = [] := rfl
  have hn0 : ∀ k, k < (nodeL o no 8).length → 0 ≤ (nodeL o no 8).getD k 0 ∧ (nodeL o no 8).getD k 0 ≤ 7 := fun k hk => by
    have : (nodeL o no 8).getD k 0 ∈ nodeL o no 8 := by rw [List.getD_eq_getElem?_getD, List.getElem?_eq_getElem hk]; exact List.getElem_mem _
    obtain ⟨j, hj, e, _⟩ := nodeL_mem.1 this
    omega
  generalize nodeL o no 8 = L at *
  generalize roundsL L = RL at *
  have HSUC := hid hsuc; have HZ := hid hz; have HPR := hid hpr; have HN0 := hid hn0
  clear hsuc hz hpr hn0 ho
  have XN2 := XN.below hW
  have b0 := XN2.at_ 0 rfl; have bl := XN2.lt
  refine callsIn_wide.1 (callsIn_of_wp (F := Fence.wide) (n := 0) Tryz.func37 rfl trivial ?_)
  simp only [Tryz.ntmps37, List.size_toArray, List.length_cons, List.length_nil, Nat.reduceAdd, Nat.reduceSub, Array.replicate_succ, Array.replicate_zero, List.push_toArray, List.append_toArray, List.nil_append, List.cons_append]
  gi_wp2_with fail
  clear b0 bl XN2
  gi_loopw [7] (fun i wr => ∃ r : Nat, r ≤ N ∧ i = .int .i64 r ∧ ∃ C, J (RL r) C wr ∧ But C₀ W wr ∧ Grw C₀ C W ∧ Below w₀.heap.size w₀ wr ∧ W.heap.size ≤ wr.heap.size) (fun i _ => N - (intOf i).toNat)
  case atStart => exact ⟨0, Nat.zero_le _, rfl, C₀, by rw [HZ.out]; exact h0', But.refl _ _, Grw.refl _ _, hW, Nat.le_refl _⟩
  case round =>
    obtain ⟨wo, rfl⟩ : ∃ wo : World, wo = wr := ⟨_, rfl⟩
    obtain ⟨r, hr, rfl, C, hj, hbut, hg, hB, hz⟩ := hrel
    by_cases hlt : r < N
    · have XC2 := XC.below hB
      have c0 := XC2.at_ 0 rfl; have c1 := XC2.at_ 1 rfl; have c2 := XC2.at_ 2 rfl; have c3 := XC2.at_ 3 rfl; have cl := XC2.lt
      gi_wp2_with fail
      refine ⟨trivial, rfl, callsIn_wide.2 ((hnd _ (HO.below hB)).mono ?_)⟩
      rintro e w1 ⟨v, rfl, hown, hb1⟩
      obtain ⟨av, cv, rfl, _⟩ := sl_of_own hown
      have hj1 : J (RL r ++ L.take 0) C w1 := by
        rw [List.take_zero, List.append_nil]
        exact hJ _ _ _ _ hj (but_below hb1 (Nat.le_refl _))
      have hCo := hC _ _ _ hj
      have hne0 : ∀ g, (Value.slice av L.length cv).ownBlock = some g → ¬ C g := fun g hg' hc => by have := own_base hown g hg'; have := (hCo g hc).2; omega
      have hB1 : Below w₀.heap.size w₀ w1 := hB.trans (hb1.mono hB.size)
      have hs1 := hb1.size
      have hbut1 : But C₀ W w1 := hbut.trans (but_below hb1 (Nat.le_refl _))
      clear c0 c1 c2 c3 cl XC2 hj hbut hB hb1 hCo
      gi_wp2_with fail
      gi_loopw [12] (fun i wr => ∃ k : Nat, k ≤ L.length ∧ i = .int .i64 k ∧ wr.ownsRow wo.heap.size 3 1 (.slice av L.length cv) L.length (L.map vInt) ∧ ∃ C, J (RL r ++ L.take k) C wr ∧ But C₀ W wr ∧ Grw C₀ C W ∧ Below w₀.heap.size w₀ wr ∧ W.heap.size ≤ wr.heap.size ∧ (∀ g, (Value.slice av L.length cv).ownBlock = some g → ¬ C g)) (fun i _ => L.length - (intOf i).toNat)
      case atStart => exact ⟨0, Nat.zero_le _, rfl, hown, C, hj1, hbut1, hg, hB1, by omega, hne0⟩
      case round =>
        obtain ⟨k, hk, rfl, hown, C5, hj5, hbut5, hg5, hB5, hz5, hne5⟩ := hrel
        clear hj1 hbut1 hg hB1 hne0 hs1
        by_cases hlk : k < L.length
        · obtain ⟨av', cv', hv', Sv⟩ := sl_of_own hown
          injection hv' with hv1 hv2 hv3
          subst hv1
          subst hv3
          obtain ⟨bv, ov, rfl, hbv, cv0⟩ := Sv k hlk
          dsimp only at cv0
          clear hv2 Sv
          have hb7 := HN0.out k hlk
          have hpre := HPR.out r k hlt hlk
          have HT := hid (show L.take (k + 1) = L.take k ++ [L.getD k 0] from by
            rw [List.take_add_one, List.getD_eq_getElem?_getD, List.getElem?_eq_getElem hlk]; rfl)
          obtain ⟨fn, tmps, asg, bdy, hy, hR⟩ := hY (RL r ++ L.take k) (L.getD k 0) C5 wr hj5 hB5 hpre
          have HPRE := hid hpre; clear hpre
          dsimp only [encI] at hy
          generalize L.getD k 0 = x at *
          gi_wp2_with fail
          refine ⟨rfl, hR.mono ?_⟩
          rintro e W4 ⟨C', hbut4, hg4, (⟨rfl, hj4⟩ | ⟨rfl, hj4⟩)⟩
          · have hs4 := hbut4.size
            have hBw4 : Below w₀.heap.size w₀ W4 := hB5.trans ⟨hbut4.os, hbut4.tape, hbut4.output, hbut4.size, fun b hb => hbut4.block b (by have := hB5.size; omega) (fun h => by have := (hC _ _ _ hj5 b h).1; omega)⟩
            gi_wp2_with fail
            go_roundw
            case rel => exact ⟨k + 1, by omega, by go_num, own_butN hown hbut4 hne5, C', by rw [HT.out, ← List.append_assoc]; exact hj4, hbut5.trans' hbut4 hg5, fun b h => (hg4 b h).elim (hg5 b) (fun h2 => .inr (by omega)), hBw4, by omega, fun g hg' hc => (hg4 g hc).elim (hne5 g hg') (fun h2 => by have := own_lt hown g hg'; omega)⟩
            case measure => simp [intOf]; omega
          · gi_wp2_with fail
            refine bodyPost_ret (results_none rfl _ _ _) rfl ?_
            exact ⟨⟨_, rfl⟩, C', hbut5.trans' hbut4 hg5, fun b h => (hg4 b h).elim (hg5 b) (fun h2 => .inr (by omega)), .inr ⟨_, HPRE.out, hj4⟩⟩
        · obtain rfl : k = L.length := (by omega)
          rw [List.take_length] at hj5
          gi_wp2_with fail
          go_roundw
          case rel => exact ⟨r + 1, by omega, by go_num, C5, by rw [HSUC.out]; exact hj5, hbut5, hg5, hB5, hz5⟩
          case measure => simp [intOf]; omega
    · obtain rfl : r = N := (by omega)
      gi_wp2
      go_end0
      exact ⟨⟨_, rfl⟩, C, hbut, hg, .inl hj⟩
end Go.Proofs.YteabkcbajpjkoaaGreat
namespace Go.Proofs.YteabkcbajpjkoaaGreat
open Go Go.RowKit
attribute [local go_sem] Oper.semAt_some
set_option linter.unusedVariables false
set_option linter.unusedSimpArgs false
/-- the errors of Run -/
def runE (v r rg : Bool) : Int := if v && r then (if rg then 0 else 7) else 1
theorem gp_err {er e0 W H : Int} {n : Nat} {g : Nat → C4} {w w' : World} (h : er = e0) (hne : e0 ≠ 0) (hb : Below w.heap.size w w') : GridPost er (erZ er W) (erZ er H) (erN er n) g w (.returned (.tuple #[.agg #[.int .i64 0, .int .i64 0, .slice none 0 0], .int .i64 e0])) w' := by
  subst h; exact gridPost_none hne hb
set_option maxRecDepth 100000 in
set_option maxHeartbeats 8000000 in
theorem node_Run (wide high : Int) (a ao rl : Option Addr) (n no rn c co rc : Nat) (g : Nat → C4) (o : Nat → Int) (ru : Nat → Int × Int) (N : Int) (w : World) (hn : n ≤ 100000000) (hno : no ≤ 100000000) (hrn : rn ≤ 100000000) (hfew : within N 0 1000 = true → 4 * no * (N.toNat * 8) ≤ 100000) (H : Sc w a n g) (HO : Sl w ao no o) (HR : Sr w rl rn ru) :
    Calls Tryz.prog 12 #[.agg #[.int .i64 wide, .int .i64 high, .slice a n c], .slice ao no co, .slice rl rn rc, .int .i64 N] w
      (GridPost (runE (validM wide high n g no o) (rulesB rn ru) (within N 0 1000)) (erZ (runE (validM wide high n g no o) (rulesB rn ru) (within N 0 1000)) wide) (erZ (runE (validM wide high n g no o) (rulesB rn ru) (within N 0 1000)) high) (erN (runE (validM wide high n g no o) (rulesB rn ru) (within N 0 1000)) n) (gT wide.toNat high.toNat rn ru g N.toNat) w) := by
  have hV := fun W S SO => node_ValidMap wide high a ao n no c co g o W hn hno S SO
  have hRu := fun W S => cell_validRules rl rn rc ru W hrn S
  have X0 := ((Bx.new w #[.int .i64 wide, .int .i64 high, .slice a n c] 24).alloc (.cells #[.int .i64 N] 3)).alloc (.cells #[.int .i64 0, .int .i64 0, .slice none 0 0] 24)
  have X1 := (Bx.new (w.alloc (.cells #[.int .i64 wide, .int .i64 high, .slice a n c] 24)) #[.int .i64 N] 3).alloc (.cells #[.int .i64 0, .int .i64 0, .slice none 0 0] 24)
  have X2 := Bx.new ((w.alloc (.cells #[.int .i64 wide, .int .i64 high, .slice a n c] 24)).alloc (.cells #[.int .i64 N] 3)) #[.int .i64 0, .int .i64 0, .slice none 0 0] 24
  simp only [World.size_alloc] at X1 X2
  have hB0 : Below w.heap.size w (((w.alloc (.cells #[.int .i64 wide, .int .i64 high, .slice a n c] 24)).alloc (.cells #[.int .i64 N] 3)).alloc (.cells #[.int .i64 0, .int .i64 0, .slice none 0 0] 24)) := by (repeat' (first | with_reducible assumption | with_reducible exact Below.refl _ _ | with_reducible refine Below.drew ?_ | with_reducible refine below_drewN ?_ _ | with_reducible refine balloc ?_ _ | with_reducible refine bset ?_ ?_ _ | with_reducible refine Below.setCell ?_ ?_ _ | with_reducible refine Below.alloc ?_ ?_ _ | omega | (simp; done) | (simp; omega)))
  cases hv : validM wide high n g no o
  · rw [hv] at hV
    clear hfew
    go_enter Tryz.func12, Tryz.ntmps12
    go_wp2_with fail
    generalize (((w.alloc (.cells #[.int .i64 wide, .int .i64 high, .slice a n c] 24)).alloc (.cells #[.int .i64 N] 3)).alloc (.cells #[.int .i64 0, .int .i64 0, .slice none 0 0] 24)) = W0 at X0 X1 X2 hB0 ⊢
    have z0 := X0.lt
    have z1 := X1.lt
    have z2 := X2.lt
    refine (hV _ (H.below hB0) (HO.below hB0)).mono ?_
    rintro e w1 ⟨rfl, hb1⟩
    replace X2 := X2.below hb1
    have B1 := bvia hB0 hb1
    clear hV hb1 hRu
    have x0 := X2.at_ 0 rfl; have x1 := X2.at_ 1 rfl; have x2 := X2.at_ 2 rfl; have xf := X2.free; have xz := X2.lt
    go_wp2_with fail
    have TB : Below w.heap.size w (((w1.setCell ⟨w.heap.size + 1 + 1, 0, none⟩ (.int .i64 0)).setCell ⟨w.heap.size + 1 + 1, 1, none⟩ (.int .i64 0)).setCell ⟨w.heap.size + 1 + 1, 2, none⟩ (.slice none 0 0)) := by (repeat' (first | with_reducible assumption | with_reducible exact Below.refl _ _ | with_reducible refine Below.drew ?_ | with_reducible refine below_drewN ?_ _ | with_reducible refine balloc ?_ _ | with_reducible refine bset ?_ ?_ _ | with_reducible refine Below.setCell ?_ ?_ _ | with_reducible refine Below.alloc ?_ ?_ _ | omega | (simp; done) | (simp; omega)))
    have T2 := ((X2.set_ 0 (by simp) (.int .i64 0)).set_ 1 (by simp) (.int .i64 0)).set_ 2 (by simp) (.slice none 0 0)
    have c0 := T2.at_ 0 rfl; have c1 := T2.at_ 1 rfl; have c2 := T2.at_ 2 rfl
    generalize ((w1.setCell ⟨w.heap.size + 1 + 1, 0, none⟩ (.int .i64 0)).setCell ⟨w.heap.size + 1 + 1, 1, none⟩ (.int .i64 0)).setCell ⟨w.heap.size + 1 + 1, 2, none⟩ (.slice none 0 0) = Wf at *
    exact bodyPost_ret (v := .tuple #[.agg #[.int .i64 0, .int .i64 0, .slice none 0 0], .int .i64 1]) (by simp [results, Tryz.results12, go_sem, c0, c1, c2]) rfl (gp_err (show _ = (1 : Int) from rfl) (by decide) TB)
  cases hr : rulesB rn ru
  · rw [hv] at hV; rw [hr] at hRu
    clear hfew
    go_enter Tryz.func12, Tryz.ntmps12
    go_wp2_with fail
    generalize (((w.alloc (.cells #[.int .i64 wide, .int .i64 high, .slice a n c] 24)).alloc (.cells #[.int .i64 N] 3)).alloc (.cells #[.int .i64 0, .int .i64 0, .slice none 0 0] 24)) = W0 at X0 X1 X2 hB0 ⊢
    have z0 := X0.lt
    have z1 := X1.lt
    have z2 := X2.lt
    refine (hV _ (H.below hB0) (HO.below hB0)).mono ?_
    rintro e w1 ⟨rfl, hb1⟩
    replace X2 := X2.below hb1
    have B1 := bvia hB0 hb1
    clear hV hb1
    go_wp2_with fail
    refine (hRu _ (HR.below B1)).mono ?_
    rintro e w2 ⟨rfl, hb2⟩
    replace X2 := X2.below hb2
    have B2 := bvia B1 hb2
    clear hRu hb2
    have x0 := X2.at_ 0 rfl; have x1 := X2.at_ 1 rfl; have x2 := X2.at_ 2 rfl; have xf := X2.free; have xz := X2.lt
    go_wp2_with fail
    have TB : Below w.heap.size w (((w2.setCell ⟨w.heap.size + 1 + 1, 0, none⟩ (.int .i64 0)).setCell ⟨w.heap.size + 1 + 1, 1, none⟩ (.int .i64 0)).setCell ⟨w.heap.size + 1 + 1, 2, none⟩ (.slice none 0 0)) := by (repeat' (first | with_reducible assumption | with_reducible exact Below.refl _ _ | with_reducible refine Below.drew ?_ | with_reducible refine below_drewN ?_ _ | with_reducible refine balloc ?_ _ | with_reducible refine bset ?_ ?_ _ | with_reducible refine Below.setCell ?_ ?_ _ | with_reducible refine Below.alloc ?_ ?_ _ | omega | (simp; done) | (simp; omega)))
    have T2 := ((X2.set_ 0 (by simp) (.int .i64 0)).set_ 1 (by simp) (.int .i64 0)).set_ 2 (by simp) (.slice none 0 0)
    have c0 := T2.at_ 0 rfl; have c1 := T2.at_ 1 rfl; have c2 := T2.at_ 2 rfl
    generalize ((w2.setCell ⟨w.heap.size + 1 + 1, 0, none⟩ (.int .i64 0)).setCell ⟨w.heap.size + 1 + 1, 1, none⟩ (.int .i64 0)).setCell ⟨w.heap.size + 1 + 1, 2, none⟩ (.slice none 0 0) = Wf at *
    exact bodyPost_ret (v := .tuple #[.agg #[.int .i64 0, .int .i64 0, .slice none 0 0], .int .i64 1]) (by simp [results, Tryz.results12, go_sem, c0, c1, c2]) rfl (gp_err (show _ = (1 : Int) from rfl) (by decide) TB)
  cases hw : within N 0 1000
  · rw [hv] at hV; rw [hr] at hRu
    clear hfew
    go_enter Tryz.func12, Tryz.ntmps12
    go_wp2_with fail
    generalize (((w.alloc (.cells #[.int .i64 wide, .int .i64 high, .slice a n c] 24)).alloc (.cells #[.int .i64 N] 3)).alloc (.cells #[.int .i64 0, .int .i64 0, .slice none 0 0] 24)) = W0 at X0 X1 X2 hB0 ⊢
    have z0 := X0.lt
    have z1 := X1.lt
    have z2 := X2.lt
    refine (hV _ (H.below hB0) (HO.below hB0)).mono ?_
    rintro e w1 ⟨rfl, hb1⟩
    replace X1 := X1.below hb1; replace X2 := X2.below hb1
    have B1 := bvia hB0 hb1
    clear hV hb1
    go_wp2_with fail
    refine (hRu _ (HR.below B1)).mono ?_
    rintro e w2 ⟨rfl, hb2⟩
    replace X1 := X1.below hb2; replace X2 := X2.below hb2
    have B2 := bvia B1 hb2
    clear hRu hb2
    have n0 := X1.at_ 0 rfl; have nl := X1.lt
    have x0 := X2.at_ 0 rfl; have x1 := X2.at_ 1 rfl; have x2 := X2.at_ 2 rfl; have xf := X2.free; have xz := X2.lt
    go_wp2_with (go_at_call 36; refine (node_within_b hw _).mono ?_; rintro e w' ⟨rfl, rfl⟩)
    have TB : Below w.heap.size w (((w2.setCell ⟨w.heap.size + 1 + 1, 0, none⟩ (.int .i64 0)).setCell ⟨w.heap.size + 1 + 1, 1, none⟩ (.int .i64 0)).setCell ⟨w.heap.size + 1 + 1, 2, none⟩ (.slice none 0 0)) := by (repeat' (first | with_reducible assumption | with_reducible exact Below.refl _ _ | with_reducible refine Below.drew ?_ | with_reducible refine below_drewN ?_ _ | with_reducible refine balloc ?_ _ | with_reducible refine bset ?_ ?_ _ | with_reducible refine Below.setCell ?_ ?_ _ | with_reducible refine Below.alloc ?_ ?_ _ | omega | (simp; done) | (simp; omega)))
    have T2 := ((X2.set_ 0 (by simp) (.int .i64 0)).set_ 1 (by simp) (.int .i64 0)).set_ 2 (by simp) (.slice none 0 0)
    have c0 := T2.at_ 0 rfl; have c1 := T2.at_ 1 rfl; have c2 := T2.at_ 2 rfl
    generalize (((w2.setCell ⟨w.heap.size + 1 + 1, 0, none⟩ (.int .i64 0)).setCell ⟨w.heap.size + 1 + 1, 1, none⟩ (.int .i64 0)).setCell ⟨w.heap.size + 1 + 1, 2, none⟩ (.slice none 0 0)) = Wf at *
    exact bodyPost_ret (v := .tuple #[.agg #[.int .i64 0, .int .i64 0, .slice none 0 0], .int .i64 7]) (by simp [results, Tryz.results12, go_sem, c0, c1, c2]) rfl (gp_err (show _ = (7 : Int) from rfl) (by decide) TB)
  rw [hv] at hV; rw [hr] at hRu
  obtain ⟨Wd, Hd, rfl, rfl, p1, p2, u1, u2, hnn, hn4, hoo, hob, hgv, hgm⟩ := validM_sides hv
  simp only [Int.toNat_natCast]
  have hN := (within_iff _ _ _).1 hw
  obtain ⟨M, rfl⟩ : ∃ M : Nat, N = M := ⟨N.toNat, by omega⟩
  have hfew' := hfew hw
  simp only [Int.toNat_natCast] at hfew' ⊢
  have hnoE : no = Wd * Hd := by omega
  have hg' : (∀ i, i < Wd * Hd → validC (g i) = true) ∧ massTo g (Wd * Hd) ≤ 1000000000 := ⟨fun i hi => hgv i (by omega), by first | exact hgm | (rw [← hnn]; exact hgm)⟩
  have ho : ∀ k, k < no → 0 ≤ o k ∧ o k ≤ 7 := fun k hk => hob k (by omega)
  have h0 : 0 < no := by rw [hnoE]; exact Nat.mul_pos (by omega) (by omega)
  have hM : M ≤ 1000 := by omega
  have hend := rnd_end (rn := rn) (ru := ru) hnoE hg' ho (N := M) (by omega) (Nat.le_trans (Nat.mul_le_mul_left _ (Nat.mul_le_mul_left _ (nodeL_length o no 8))) hfew')
  have hLl : (roundsL (nodeL o no 8) M).length ≤ 1000000 := by
    rw [roundsL_len]
    have := Nat.mul_le_mul hM (nodeL_length o no 8)
    omega
  have hLo : ∀ x ∈ roundsL (nodeL o no 8) M, ∃ i, i < no ∧ o i = x := fun x hx => by
    obtain ⟨j, _, rfl, hj⟩ := nodeL_mem.1 (roundsL_mem hx)
    rcases Classical.em (∃ i, i < no ∧ o i = (j : Int)) with h | h
    · exact h
    · exact absurd (ownL_nil.2 fun k hk e => h ⟨k, hk, e⟩) hj
  have hpl := fun bn bc W S SO SR XN XC => node_play Wd Hd a ao rl n c no co rn rc 37 #[.pointer (some ⟨bn, 0, none⟩), .pointer (some ⟨bc, 0, none⟩)] (roundsL (nodeL o no 8) M) o ru g M W ⟨p1, p2⟩ ⟨u1, u2⟩ hn4 hnoE (by omega) hg' ho hr ⟨by omega, by omega⟩ hLl hLo S SO SR (rounds_iter Wd Hd a ao n c no co bn bc M o W h0 (by omega) hM ho SO XN XC) ent_rounds
  generalize plyL Wd Hd o no rn ru M (ply0 g) (roundsL (nodeL o no 8) M) = Z at *
  obtain ⟨hI, hst⟩ := hend
  have hmg := fun al cl (xs : List SiteR) ap cp W SO SS SP (hsi : ∀ j, j < (nodeL o no 8).length → siteQ o no Z.st Z.G ((nodeL o no 8).getD j 0) (xs.getD j SiteR.zero)) => node_merge Wd Hd a ao al ap n c no co (nodeL o no 8).length cl Z.P.length cp (fun k => xs.getD k SiteR.zero) (pF Z.P) o W (by omega) (by have := nodeL_length o no 8; omega) hI.len
    (fun k hk => site_fit (by rw [siteQ_B (hsi k hk)]; exact ply_site hnoE hg' (by omega) hI _)) (fun k hk => by rw [(hsi k hk).2.2.1]; have := ownL_length o ((nodeL o no 8).getD k 0) no; omega) (post_fit (ply_post hnoE hg' (by omega) hI)) SO SS SP
  have hGT := fun (xs : List SiteR) (hsi : ∀ j, j < (nodeL o no 8).length → siteQ o no Z.st Z.G ((nodeL o no 8).getD j 0) (xs.getD j SiteR.zero)) i hi => ply_grid (F := fun k => xs.getD k SiteR.zero) (i := i) hnoE hg' (by omega) ho hI hst hsi hi
  have herZ := hI.er
  have HNN := hid hnn; have HNE := hid hnoE; have HER := hid herZ; have HPL := hid hpl; have HMG := hid hmg; have HGT := hid hGT; have HL8 := hid (show 0 < (nodeL o no 8).length from by
    obtain ⟨k, hk, _⟩ := node_ex ho (i := 0) h0
    omega)
  clear hnn hnoE herZ hpl hmg hGT hI hst hLl hLo hg' ho hob hgv hgm hfew hfew' hv hr hoo
  have X0 := ((Bx.new w #[.int .i64 (Wd : Int), .int .i64 (Hd : Int), .slice a n c] 24).alloc (.cells #[.int .i64 (M : Int)] 3)).alloc (.cells #[.int .i64 0, .int .i64 0, .slice none 0 0] 24)
  have X1 := (Bx.new (w.alloc (.cells #[.int .i64 (Wd : Int), .int .i64 (Hd : Int), .slice a n c] 24)) #[.int .i64 (M : Int)] 3).alloc (.cells #[.int .i64 0, .int .i64 0, .slice none 0 0] 24)
  have X2 := Bx.new ((w.alloc (.cells #[.int .i64 (Wd : Int), .int .i64 (Hd : Int), .slice a n c] 24)).alloc (.cells #[.int .i64 (M : Int)] 3)) #[.int .i64 0, .int .i64 0, .slice none 0 0] 24
  simp only [World.size_alloc] at X1 X2
  have hB0 : Below w.heap.size w (((w.alloc (.cells #[.int .i64 (Wd : Int), .int .i64 (Hd : Int), .slice a n c] 24)).alloc (.cells #[.int .i64 (M : Int)] 3)).alloc (.cells #[.int .i64 0, .int .i64 0, .slice none 0 0] 24)) := by (repeat' (first | with_reducible assumption | with_reducible exact Below.refl _ _ | with_reducible refine Below.drew ?_ | with_reducible refine below_drewN ?_ _ | with_reducible refine balloc ?_ _ | with_reducible refine bset ?_ ?_ _ | with_reducible refine Below.setCell ?_ ?_ _ | with_reducible refine Below.alloc ?_ ?_ _ | omega | (simp; done) | (simp; omega)))
  go_enter Tryz.func12, Tryz.ntmps12
  go_wp2_with fail
  generalize (((w.alloc (.cells #[.int .i64 (Wd : Int), .int .i64 (Hd : Int), .slice a n c] 24)).alloc (.cells #[.int .i64 (M : Int)] 3)).alloc (.cells #[.int .i64 0, .int .i64 0, .slice none 0 0] 24)) = W0 at X0 X1 X2 hB0 ⊢
  have z0 := X0.lt
  have z1 := X1.lt
  have z2 := X2.lt
  refine (hV _ (H.below hB0) (HO.below hB0)).mono ?_
  rintro e w1 ⟨rfl, hb1⟩
  replace X0 := X0.below hb1; replace X1 := X1.below hb1; replace X2 := X2.below hb1
  have B1 := bvia hB0 hb1
  clear hV hb1 hB0
  go_wp2_with fail
  refine (hRu _ (HR.below B1)).mono ?_
  rintro e w2 ⟨rfl, hb2⟩
  replace X0 := X0.below hb2; replace X1 := X1.below hb2; replace X2 := X2.below hb2
  have B2 := bvia B1 hb2
  clear hRu hb2 B1
  have n0 := X1.at_ 0 rfl; have nl := X1.lt
  have y0 := X0.at_ 0 rfl; have y1 := X0.at_ 1 rfl; have y2 := X0.at_ 2 rfl; have yl := X0.lt
  have x2l := X2.lt
  go_wp2_with (go_at_call 36; refine (node_within_b hw _).mono ?_; rintro e w' ⟨rfl, rfl⟩)
  have hb23 : Below w2.heap.size w2 (w2.alloc (.cells #[.int .i64 (Wd : Int), .int .i64 (Hd : Int), .slice a n c, .slice ao no co] 62)) := below_alloc _ _
  have XC := Bx.new w2 #[.int .i64 (Wd : Int), .int .i64 (Hd : Int), .slice a n c, .slice ao no co] 62
  have B3 := bvia B2 hb23
  replace X1 := X1.below hb23; replace X2 := X2.below hb23
  have hplay := HPL.out (w.heap.size + 1) w2.heap.size _ (H.below B3) (HO.below B3) (HR.below B3) X1 XC
  unfold cluV at hplay
  refine hplay.mono ?_
  rintro e w4 hPP
  rcases hPP with ⟨_, vS, xs, vP, rfl, hS, hP, hb4⟩ | ⟨h4, _⟩
  rotate_left
  · rw [HER.out] at h4; cases h4
  obtain ⟨aS, cS, rfl, SS⟩ := hS.ss
  obtain ⟨aP, cP, rfl, SP⟩ := sn_of_own hP
  have hxl : xs.length = (nodeL o no 8).length := hS.2.1
  have hsi := hid (fun j (hj : j < (nodeL o no 8).length) => (hS.2.2 j hj).1)
  have hplow := hid (show w.heap.size + 1 + 1 < w4.heap.size from by have := X2.lt; have := hb4.size; omega)
  replace X2 := X2.below hb4; replace XC := XC.below hb4
  have B4 := bvia B3 hb4
  have hmerge := HMG.out aS cS xs aP cP w4 (HO.below B4) (by rw [← hxl]; exact SS) SP hsi.out
  rw [← hxl] at hmerge
  have HMR := hid hmerge; have HXL := hid hxl
  clear hplay hb4 hb23 B3 hS hP hxl hmerge SS X1 X0 B2 y0 y1 y2 yl n0 nl x2l
  have y0 := XC.at_ 0 rfl; have y1 := XC.at_ 1 rfl; have y2 := XC.at_ 2 rfl; have y3 := XC.at_ 3 rfl; have yl := XC.lt
  go_wp2_with fail
  have hmr := HMR.out
  unfold cluV at hmr
  refine hmr.mono ?_
  rintro e w5 ⟨b, rfl, hb, R, hb5⟩
  clear hmr y0 y1 y2 y3 yl XC
  replace X2 := X2.below hb5
  have B5 := bvia B4 hb5
  have hs4 := B4.size
  have x0 := X2.at_ 0 rfl; have x1 := X2.at_ 1 rfl; have x2 := X2.at_ 2 rfl; have xf := X2.free; have xz := X2.lt
  have hx4 : w.heap.size + 1 + 1 < b := by
    have := hplow.out
    omega
  go_wp2_with fail
  have TB : Below w.heap.size w (((w5.setCell ⟨w.heap.size + 1 + 1, 0, none⟩ (.int .i64 (Wd : Int))).setCell ⟨w.heap.size + 1 + 1, 1, none⟩ (.int .i64 (Hd : Int))).setCell ⟨w.heap.size + 1 + 1, 2, none⟩ (.slice (some ⟨b, 0, none⟩) no no)) := by (repeat' (first | with_reducible assumption | with_reducible exact Below.refl _ _ | with_reducible refine Below.drew ?_ | with_reducible refine below_drewN ?_ _ | with_reducible refine balloc ?_ _ | with_reducible refine bset ?_ ?_ _ | with_reducible refine Below.setCell ?_ ?_ _ | with_reducible refine Below.alloc ?_ ?_ _ | omega | (simp; done) | (simp; omega)))
  have T2 := ((X2.set_ 0 (by simp) (.int .i64 (Wd : Int))).set_ 1 (by simp) (.int .i64 (Hd : Int))).set_ 2 (by simp) (.slice (some ⟨b, 0, none⟩) no no)
  have hbne : w.heap.size + 1 + 1 ≠ b := by omega
  have RR : Ro (((w5.setCell ⟨w.heap.size + 1 + 1, 0, none⟩ (.int .i64 (Wd : Int))).setCell ⟨w.heap.size + 1 + 1, 1, none⟩ (.int .i64 (Hd : Int))).setCell ⟨w.heap.size + 1 + 1, 2, none⟩ (.slice (some ⟨b, 0, none⟩) no no)) b (no * 4) (flatC (addTo (layS (fun k => xs.getD k SiteR.zero) xs.length) (pF Z.P) Z.P.length)) := ((R.far (p := ⟨w.heap.size + 1 + 1, 0, none⟩) hbne (.int .i64 (Wd : Int))).far (p := ⟨w.heap.size + 1 + 1, 1, none⟩) hbne (.int .i64 (Hd : Int))).far (p := ⟨w.heap.size + 1 + 1, 2, none⟩) hbne (.slice (some ⟨b, 0, none⟩) no no)
  have c0 := T2.at_ 0 rfl; have c1 := T2.at_ 1 rfl; have c2 := T2.at_ 2 rfl
  generalize (((w5.setCell ⟨w.heap.size + 1 + 1, 0, none⟩ (.int .i64 (Wd : Int))).setCell ⟨w.heap.size + 1 + 1, 1, none⟩ (.int .i64 (Hd : Int))).setCell ⟨w.heap.size + 1 + 1, 2, none⟩ (.slice (some ⟨b, 0, none⟩) no no)) = Wf at *
  have hnn2 : n = no := by have := HNN.out; have := HNE.out; omega
  refine bodyPost_ret (v := .tuple #[.agg #[.int .i64 (Wd : Int), .int .i64 (Hd : Int), .slice (some ⟨b, 0, none⟩) no no], .int .i64 0]) (by simp [results, Tryz.results12, go_sem, c0, c1, c2]) rfl ⟨some ⟨b, 0, none⟩, no, ?_, ?_, fun b' off e => ?_, TB⟩
  · rw [hnn2]; rfl
  · intro k hk
    have hk' : k < no := by rw [hnn2] at hk; exact hk
    have hg := HGT.out xs hsi.out k hk'
    rw [← HXL.out] at hg
    rw [← hg]
    have h1 := RR.sc k hk'
    exact h1
  · injection e with e; injection e with e _ _
    omega
end Go.Proofs.YteabkcbajpjkoaaGreat
/- Walks: SameGrid of the reference, the example of chapter 9; the walk of the law TopShares. -/
namespace Go.Proofs.YteabkcbajpjkoaaGreat
open Go Go.RowKit
attribute [local go_sem] Oper.semAt_some
set_option linter.unusedVariables false
set_option linter.unusedSimpArgs false
set_option maxRecDepth 100000 in
set_option maxHeartbeats 1000000 in
theorem ref6_SameGrid (W H : Int) (a b : Option Addr) (n ca cb : Nat) (g h : Nat → C4) (w : World) (hn : n ≤ 100000000) (S : Sc w a n g) (S' : Sc w b n h) (he : ∀ k, k < n → g k = h k) :
    Calls Tryz.prog 14 #[.agg #[.int .i64 W, .int .i64 H, .slice a n ca], .agg #[.int .i64 W, .int .i64 H, .slice b n cb]] w fun e w' => e = .returned (.bool true) ∧ Below w.heap.size w w' := by
  have HE := hid he
  clear he
  have X0 := (Bx.new w #[.int .i64 W, .int .i64 H, .slice a n ca] 24).alloc (.cells #[.int .i64 W, .int .i64 H, .slice b n cb] 24)
  have X1 := Bx.new (w.alloc (.cells #[.int .i64 W, .int .i64 H, .slice a n ca] 24)) #[.int .i64 W, .int .i64 H, .slice b n cb] 24
  simp only [World.size_alloc] at X1
  have hB0 : Below w.heap.size w ((w.alloc (.cells #[.int .i64 W, .int .i64 H, .slice a n ca] 24)).alloc (.cells #[.int .i64 W, .int .i64 H, .slice b n cb] 24)) := by (repeat' (first | with_reducible assumption | with_reducible exact Below.refl _ _ | with_reducible refine Below.drew ?_ | with_reducible refine below_drewN ?_ _ | with_reducible refine balloc ?_ _ | with_reducible refine bset ?_ ?_ _ | with_reducible refine Below.setCell ?_ ?_ _ | with_reducible refine Below.alloc ?_ ?_ _ | omega | (simp; done) | (simp; omega)))
  go_enter Tryz.func14, Tryz.ntmps14
  go_wp2_with fail
  generalize ((w.alloc (.cells #[.int .i64 W, .int .i64 H, .slice a n ca] 24)).alloc (.cells #[.int .i64 W, .int .i64 H, .slice b n cb] 24)) = W0 at X0 X1 hB0 ⊢
  have z0 := X0.lt
  have z1 := X1.lt
  have hsz := hB0.size
  go_loopw [5] (fun i wr => ∃ k : Nat, k ≤ n ∧ i = .int .i64 k ∧ Below W0.heap.size W0 wr) (fun i _ => n - (intOf i).toNat)
  case atStart => exact ⟨0, Nat.zero_le _, rfl, Below.refl _ _⟩
  case round =>
    obtain ⟨k, hk, rfl, hB⟩ := hrel
    have Y0 := X0.below hB; have Y1 := X1.below hB
    have y2 := Y0.at_ 2 rfl; have z2 := Y1.at_ 2 rfl; have ly := Y0.lt; have lz := Y1.lt
    have hBw := bvia hB0 hB
    by_cases hlt : k < n
    · obtain ⟨b1, o1, rfl, _, c0, c1, c2, c3⟩ := (S.below hBw) k hlt
      obtain ⟨b2, o2, rfl, _, d0, d1, d2, d3⟩ := (S'.below hBw) k hlt
      rw [← HE.out k hlt] at d0 d1 d2 d3
      have hne := neq_cell (g k).e (g k).n (g k).w (g k).s (g k).e (g k).n (g k).w (g k).s
      simp only [beq_self_eq_true, Bool.and_self, Bool.not_true] at hne
      go_wp2_with fail
      go_quiet (fail)
      go_wp2_with fail
      go_roundw
      case rel => exact ⟨k + 1, by omega, by go_num, by (repeat' (first | with_reducible assumption | with_reducible exact Below.refl _ _ | with_reducible refine Below.drew ?_ | with_reducible refine below_drewN ?_ _ | with_reducible refine balloc ?_ _ | with_reducible refine bset ?_ ?_ _ | with_reducible refine Below.setCell ?_ ?_ _ | with_reducible refine Below.alloc ?_ ?_ _ | omega | (simp; done) | (simp; omega)))⟩
      case measure => simp [intOf]; omega
    · go_wp2_with fail
      go_ret
      exact ⟨rfl, hBw⟩
end Go.Proofs.YteabkcbajpjkoaaGreat
