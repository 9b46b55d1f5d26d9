/- Plain words and walk: valid sites, of the program. Walk: Valid, of the program. -/
import Derived.Test.YtmmjaobpoiofdaaGreatNSite
import Derived.Test.YtmmjaobpoiofdaaGreatNDueF
import Derived.Test.YtmmjaobpoiofdaaGreatCRow
import Derived.Maps.AppendAt
import Derived.Laws.AppendOwnNone
namespace Go.Proofs.YtmmjaobpoiofdaaGreat
open Go Go.RowKit
set_option linter.unusedVariables false
/-- the mass of the first sites -/
def siteM (f : Nat → SiteR) : Nat → Int | 0 => 0 | k + 1 => siteM f k + massTo (f k).C (f k).nc
/-- how many cells the first sites have -/
def siteN (f : Nat → SiteR) : Nat → Nat | 0 => 0 | k + 1 => siteN f k + (f k).nc
/-- valid sites of a valid map -/
def sitesB (o : Nat → Int) (no : Nat) (m : Nat) (f : Nat → SiteR) : Bool :=
  decide (m = (nodeL o no 8).length ∧ (∀ k, k < m → (f k).nd = (nodeL o no 8).getD k 0) ∧ (∀ k, k < m → siteB o no (f k) = true) ∧ siteM f m ≤ 1000000000)
theorem sitesB_iff {o : Nat → Int} {no m : Nat} {f : Nat → SiteR} : sitesB o no m f = true ↔ (m = (nodeL o no 8).length ∧ (∀ k, k < m → (f k).nd = (nodeL o no 8).getD k 0) ∧ (∀ k, k < m → siteB o no (f k) = true) ∧ siteM f m ≤ 1000000000) := by simp [sitesB]
theorem sitesB_no {o : Nat → Int} {no m : Nat} {f : Nat → SiteR} : sitesB o no m f = false ↔ ¬ (m = (nodeL o no 8).length ∧ (∀ k, k < m → (f k).nd = (nodeL o no 8).getD k 0) ∧ (∀ k, k < m → siteB o no (f k) = true) ∧ siteM f m ≤ 1000000000) := by rw [← sitesB_iff]; simp
/-- the cells of the first sites, one behind the other -/
def joinC (f : Nat → SiteR) : Nat → Nat → C4
  | 0, _ => C4.zero
  | k + 1, j => if j < siteN f k then joinC f k j else (f k).C (j - siteN f k)
theorem massTo_congr {g h : Nat → C4} : ∀ {n}, (∀ k, k < n → g k = h k) → massTo g n = massTo h n
  | 0, _ => rfl
  | n + 1, e => by simp only [massTo]; rw [massTo_congr fun k hk => e k (by omega), e n (by omega)]
theorem massTo_add (g : Nat → C4) (n : Nat) : ∀ m, massTo g (n + m) = massTo g n + massTo (fun k => g (n + k)) m
  | 0 => by simp [massTo]
  | m + 1 => by
    rw [← Nat.add_assoc]
    simp only [massTo]
    rw [massTo_add g n m]; omega
theorem joinC_mass (f : Nat → SiteR) : ∀ k, massTo (joinC f k) (siteN f k) = siteM f k
  | 0 => rfl
  | k + 1 => by
    simp only [siteN, siteM]
    rw [massTo_add]
    congr 1
    · rw [← joinC_mass f k]
      exact massTo_congr fun j hj => by simp only [joinC, if_pos hj]
    · exact massTo_congr fun j hj => by simp only [joinC]; rw [if_neg (by omega)]; congr 1; omega
theorem joinC_valid {f : Nat → SiteR} : ∀ {k}, (∀ i, i < k → ∀ j, j < (f i).nc → validC ((f i).C j) = true) → ∀ j, j < siteN f k → validC (joinC f k j) = true
  | 0, _, j, hj => by simp [siteN] at hj
  | k + 1, h, j, hj => by
    simp only [joinC]
    simp only [siteN] at hj
    split
    · rename_i h2; exact joinC_valid (fun i hi => h i (by omega)) j h2
    · exact h k (by omega) _ (by omega)
theorem site_mass {o : Nat → Int} {no : Nat} {s : SiteR} (h : siteB o no s = true) : (∀ j, j < s.nc → validC (s.C j) = true) ∧ massTo s.C s.nc ≤ 1000000000 := (massB_iff _ _).1 (siteB_iff.1 h).2.2.2
theorem join_massB {o : Nat → Int} {no m : Nat} {f : Nat → SiteR} (h : ∀ k, k < m → siteB o no (f k) = true) : massB (siteN f m) (joinC f m) = decide (siteM f m ≤ 1000000000) := by
  rw [Bool.eq_iff_iff, massB_iff, joinC_mass, decide_eq_true_iff]
  exact ⟨fun h => h.2, fun h2 => ⟨joinC_valid fun i hi => (site_mass (h i hi)).1, h2⟩⟩
theorem siteN_le {f : Nat → SiteR} {c : Nat} : ∀ {k}, (∀ i, i < k → (f i).nc ≤ c) → siteN f k ≤ k * c
  | 0, _ => by simp [siteN]
  | k + 1, h => by
    have := siteN_le (k := k) (fun i hi => h i (by omega))
    have := h k (by omega)
    simp only [siteN]; rw [Nat.add_mul]; omega
/-- an own list of cells -/
theorem rowC_app (f : Nat → SiteR) (k : Nat) : rowC (joinC f (k + 1)) (siteN f (k + 1)) = rowC (joinC f k) (siteN f k) ++ rowC (f k).C (f k).nc := by
  apply List.ext_getElem?
  intro j
  rw [List.getElem?_append, rowC_length]
  simp only [rowC, List.getElem?_map, siteN]
  by_cases h : j < siteN f k * 4
  · rw [if_pos h]
    simp only [List.getElem?_range h, List.getElem?_range (show j < (siteN f k + (f k).nc) * 4 by omega), Option.map_some]
    congr 2
    unfold flatC
    simp only [joinC]
    rw [if_pos (by omega)]
  · rw [if_neg h]
    by_cases h2 : j < (siteN f k + (f k).nc) * 4
    · simp only [List.getElem?_range h2, List.getElem?_range (show j - siteN f k * 4 < (f k).nc * 4 by omega), Option.map_some]
      congr 2
      unfold flatC
      simp only [joinC]
      rw [if_neg (by omega), show j / 4 - siteN f k = (j - siteN f k * 4) / 4 by omega, show (j - siteN f k * 4) % 4 = j % 4 by omega]
    · rw [List.getElem?_eq_none (by simp; omega), List.getElem?_eq_none (by simp; omega)]; rfl
theorem sc_of_own {W : World} {base n : Nat} {v : Value} {f : Nat → C4} (h : W.ownsRow base 80 4 v n (rowC f n)) : ∃ a c, v = .slice a n c ∧ Sc W a n f := by
  rcases h.2 with ⟨rfl, h0⟩ | ⟨g, cap, cur, rfl, hb, hh, hn, hm, hc, ht⟩
  · exact ⟨none, 0, by rw [h0], fun k hk => by omega⟩
  · by_cases h0 : 0 < n
    · obtain ⟨_, hr⟩ := roC_of_own h h0
      exact ⟨_, _, rfl, hr.sc⟩
    · exact ⟨_, _, rfl, fun k hk => by omega⟩
end Go.Proofs.YtmmjaobpoiofdaaGreat
namespace Go.Proofs.YtmmjaobpoiofdaaGreat
open Go Go.RowKit
set_option linter.unusedVariables false
theorem node_Valid1 (s : SiteR) (n : Int) (w : World) : Calls Tryz.prog 131 #[.agg #[.int .i64 s.nd, .int .i64 s.st, .slice s.ix s.ni s.ci, .slice s.cl s.nc s.cc], .int .i64 n] w fun e w' => e = .returned (.bool (s.nd == n)) ∧ Below w.heap.size w w' := by
  go_enter Tryz.func131, Tryz.ntmps131
  go_wp2
  go_ret
  exact ⟨rfl, by (repeat' (first | with_reducible assumption | with_reducible exact Below.refl _ _ | with_reducible refine Below.drew ?_ | with_reducible refine below_drewN ?_ _ | with_reducible refine balloc ?_ _ | with_reducible refine bset ?_ ?_ _ | with_reducible refine Below.setCell ?_ ?_ _ | with_reducible refine Below.alloc ?_ ?_ _ | omega | (simp; done) | (simp; omega)))⟩
theorem ent_Valid1 : ∀ args w, (callFunc 131 args).run Tryz.prog w = .ok (.enter 131 args) w := Go.Proofs.enters_of Tryz.func131 (by kernel_rfl) rfl
set_option maxRecDepth 100000 in
set_option maxHeartbeats 2000000 in
theorem sites_EqualFunc (al a : Option Addr) (m n cl c : Nat) (f : Nat → SiteR) (g : Nat → Int) (w : World) (hm : m ≤ 100000000) (hn : n ≤ 100000000) (H : Ss w al m f) (HG : Sl w a n g) :
    Calls Tryz.prog 130 #[.slice al m cl, .slice a n c, .func (.func 131) #[] #[]] w fun e w' => e = .returned (.bool (sameL m (fun k => (f k).nd) n g)) ∧ Below w.heap.size w w' := by
  have ent := ent_Valid1
  cases hne : ((m : Int) != n)
  · have hnm : m = n := by simp at hne; omega
    subst hnm
    go_enter Tryz.func130, Tryz.ntmps130
    go_wp2
    go_loopw [17] (fun i wr => ∃ k : Nat, k ≤ m ∧ i = .int .i64 k ∧ (∀ j, j < k → (f j).nd = g j) ∧ Below w.heap.size w wr) (fun i _ => m - (intOf i).toNat)
    case atStart => exact ⟨0, Nat.zero_le _, rfl, fun j hj => by omega, by (repeat' (first | with_reducible assumption | with_reducible exact Below.refl _ _ | with_reducible refine Below.drew ?_ | with_reducible refine below_drewN ?_ _ | with_reducible refine balloc ?_ _ | with_reducible refine bset ?_ ?_ _ | with_reducible refine Below.setCell ?_ ?_ _ | with_reducible refine Below.alloc ?_ ?_ _ | omega | (simp; done) | (simp; omega)))⟩
    case round =>
      obtain ⟨k, hk, rfl, hok, hB⟩ := hrel
      have HOK := hid hok; clear hok
      by_cases hlt : k < m
      · obtain ⟨b1, o1, rfl, hb1, c0, c1, c2, c3, _⟩ := (H.below hB) k hlt
        obtain ⟨b2, o2, rfl, hb2, d0⟩ := (HG.below hB) k hlt
        have hcall := fun W => node_Valid1 (f k) (g k) W
        cases he : ((f k).nd == g k)
        · have he' : ¬ (f k).nd = g k := by simpa using he
          have HE := hid he'; clear he'
          go_wp2_with fail
          refine (hcall _).mono ?_
          rintro e w1 ⟨rfl, hb⟩
          rw [he]
          go_wp2
          go_ret
          exact ⟨ret_bool (sameL_no.2 (fun h => HE.out (h.2 k hlt))).symm, bvia (by (repeat' (first | with_reducible assumption | with_reducible exact Below.refl _ _ | with_reducible refine Below.drew ?_ | with_reducible refine below_drewN ?_ _ | with_reducible refine balloc ?_ _ | with_reducible refine bset ?_ ?_ _ | with_reducible refine Below.setCell ?_ ?_ _ | with_reducible refine Below.alloc ?_ ?_ _ | omega | (simp; done) | (simp; omega)))) hb⟩
        · have he' : (f k).nd = g k := by simpa using he
          have HE := hid he'; clear he'
          go_wp2_with fail
          refine (hcall _).mono ?_
          rintro e w1 ⟨rfl, hb⟩
          rw [he]
          go_wp2_with fail
          go_roundw
          case rel => exact ⟨k + 1, by omega, by go_num, fun j hj => by
              rcases Nat.lt_succ_iff_lt_or_eq.1 hj with h' | rfl
              · exact HOK.out j h'
              · exact HE.out, bvia (by (repeat' (first | with_reducible assumption | with_reducible exact Below.refl _ _ | with_reducible refine Below.drew ?_ | with_reducible refine below_drewN ?_ _ | with_reducible refine balloc ?_ _ | with_reducible refine bset ?_ ?_ _ | with_reducible refine Below.setCell ?_ ?_ _ | with_reducible refine Below.alloc ?_ ?_ _ | omega | (simp; done) | (simp; omega)))) hb⟩
          case measure => simp [intOf]; omega
      · go_wp2
        go_ret
        obtain rfl : k = m := (by omega)
        exact ⟨ret_bool (sameL_iff.2 ⟨rfl, HOK.out⟩).symm, hB⟩
  · have hnm : ¬ m = n := by simp at hne; omega
    go_enter Tryz.func130, Tryz.ntmps130
    go_wp2
    go_ret
    exact ⟨ret_bool (sameL_no.2 (fun h => hnm h.1)).symm, by (repeat' (first | with_reducible assumption | with_reducible exact Below.refl _ _ | with_reducible refine Below.drew ?_ | with_reducible refine below_drewN ?_ _ | with_reducible refine balloc ?_ _ | with_reducible refine bset ?_ ?_ _ | with_reducible refine Below.setCell ?_ ?_ _ | with_reducible refine Below.alloc ?_ ?_ _ | omega | (simp; done) | (simp; omega)))⟩
theorem lies_nil {w : World} {s : SiteR} (h : s.lies w) (e : s.cl = none) : s.nc = 0 ∧ s.cc = 0 := by
  refine ⟨?_, h.2.2 e⟩
  rcases Nat.eq_zero_or_pos s.nc with h0 | h0
  · exact h0
  · obtain ⟨b, off, e2, _⟩ := h.2.1 0 h0
    rw [e] at e2; cases e2
set_option maxRecDepth 100000 in
set_option maxHeartbeats 4000000 in
theorem node_Valid (wide high : Int) (a ao al : Option Addr) (n no m c co cl : Nat) (g : Nat → C4) (o : Nat → Int) (f : Nat → SiteR) (w : World) (hn : n ≤ 100000000) (hno : no ≤ 100000000) (hm : m ≤ 1000) (hb : ∀ k, k < m → (f k).ni ≤ 10000 ∧ (f k).nc ≤ 10000) (H : Sc w a n g) (HO : Sl w ao no o) (HS : Ss w al m f) :
    Calls Tryz.prog 98 #[.agg #[.int .i64 wide, .int .i64 high, .slice a n c], .slice ao no co, .slice al m cl] w fun e w' => e = .returned (.bool (validM wide high n g no o && sitesB o no m f)) ∧ Below w.heap.size w w' := by
  obtain ⟨i0, hi, hz0, hz1, hz2⟩ := info_parts infoC
  have I := H.alloc (.cells #[.int .i64 wide, .int .i64 high, .slice a n c] 24)
  have IO := HO.alloc (.cells #[.int .i64 wide, .int .i64 high, .slice a n c] 24)
  have IS := HS.alloc (.cells #[.int .i64 wide, .int .i64 high, .slice a n c] 24)
  have X := Bx.new w #[.int .i64 wide, .int .i64 high, .slice a n c] 24
  cases hv : validM wide high n g no o
  · go_enter Tryz.func98, Tryz.ntmps98
    go_wp2_with (go_at_call 39; refine (node_ValidMap wide high _ _ n no _ _ g o _ hn hno I IO).mono ?_; rintro e w1 ⟨rfl, hb1⟩; rw [hv])
    go_ret
    exact ⟨rfl, bvia (by (repeat' (first | with_reducible assumption | with_reducible exact Below.refl _ _ | with_reducible refine Below.drew ?_ | with_reducible refine below_drewN ?_ _ | with_reducible refine balloc ?_ _ | with_reducible refine bset ?_ ?_ _ | with_reducible refine Below.setCell ?_ ?_ _ | with_reducible refine Below.alloc ?_ ?_ _ | omega | (simp; done) | (simp; omega)))) hb1⟩
  obtain ⟨Wd, Hd, rfl, rfl, p1, p2, u1, u2, hnn, hn4, hoo, hob, _, _⟩ := validM_sides hv
  have h0 : 0 < no := by rw [hoo, hnn]; exact Nat.mul_pos p1 u1
  have hno4 : no ≤ 1024 := by omega
  have hnd := fun W S => node_nodes (Wd : Int) (Hd : Int) a ao n c no co o W h0 (by omega) (fun k hk => hob k (by omega)) S
  have hsi := fun s W h1 h2 S L => node_site (Wd : Int) (Hd : Int) a ao n c no co o s W (by omega) h1 h2 S L
  unfold cluV at hnd hsi
  have HB := hid hb; clear hb
  have hnl := nodeL_length o no 8
  clear hnn hoo hob
  go_enter Tryz.func98, Tryz.ntmps98
  go_wp2_with fail
  refine (node_ValidMap _ _ _ _ n no _ _ g o _ hn hno I IO).mono ?_
  rintro e w1 ⟨rfl, hb1⟩
  rw [hv]
  clear hv
  have X1 := X.below hb1
  have x0 := X1.at_ 0 rfl; have x1 := X1.at_ 1 rfl; have x2 := X1.at_ 2 rfl; have lx := X1.lt
  have B1 := bvia (below_alloc w (.cells #[.int .i64 (Wd : Int), .int .i64 (Hd : Int), .slice a n c] 24)) hb1
  have O1 := IO.below hb1; have S1 := IS.below hb1
  clear hb1 I IO IS X
  go_wp2_with fail
  have X2 := Bx.new w1 #[.int .i64 (Wd : Int), .int .i64 (Hd : Int), .slice a n c, .slice ao no co] 67
  have B2 := balloc B1 (.cells #[.int .i64 (Wd : Int), .int .i64 (Hd : Int), .slice a n c, .slice ao no co] 67)
  have O2 := O1.alloc (.cells #[.int .i64 (Wd : Int), .int .i64 (Hd : Int), .slice a n c, .slice ao no co] 67)
  have S2 := S1.alloc (.cells #[.int .i64 (Wd : Int), .int .i64 (Hd : Int), .slice a n c, .slice ao no co] 67)
  obtain ⟨W2, hW2⟩ : ∃ W2, W2 = w1.alloc (.cells #[.int .i64 (Wd : Int), .int .i64 (Hd : Int), .slice a n c, .slice ao no co] 67) := ⟨_, rfl⟩
  have hs2 : W2.heap.size = w1.heap.size + 1 := by rw [hW2]; simp
  rw [← hW2] at X2 B2 O2 S2 ⊢
  have HS2 := hid hs2
  have zs2 : w1.heap.size < W2.heap.size := by omega
  clear hW2 hs2 O1 S1 x0 x1 x2 lx X1 B1
  go_loopw [8, 20] (fun v i wr => ∃ k : Nat, k ≤ m ∧ i = .int .i64 k ∧ (∀ j, j < k → siteB o no (f j) = true) ∧ wr.ownsRow W2.heap.size 80 4 v (siteN f k) (rowC (joinC f k) (siteN f k)) ∧ Below W2.heap.size W2 wr) (fun _ i _ => m - (intOf i).toNat)
  case atStart => exact ⟨0, Nat.zero_le _, rfl, fun j hj => by omega, World.ownsRow_nil .., Below.refl _ _⟩
  case round =>
    obtain ⟨k, hk, rfl, hok, hown, hC⟩ := hrel
    have hB : Below w.heap.size w wr := bvia B2 hC
    have HOK := hid hok; clear hok
    have X3 := X2.below hC
    have x0 := X3.at_ 0 rfl; have x1 := X3.at_ 1 rfl; have x2 := X3.at_ 2 rfl; have x3 := X3.at_ 3 rfl; have lx := X3.lt
    by_cases hlt : k < m
    · obtain ⟨b1, o1, rfl, hb1, c0, c1, c2, c3, hl⟩ := (S2.below hC) k hlt
      obtain ⟨m1, m2⟩ := HB.out k hlt
      have hln := siteN_le (f := f) (c := 10000) (k := k) (fun i hi => (HB.out i (by omega)).2)
      have hln2 : k * 10000 ≤ 1000 * 10000 := Nat.mul_le_mul (by omega) (Nat.le_refl _)
      have hcall := hsi (f k) (wr.alloc (.cells #[.int .i64 (f k).nd, .int .i64 (f k).st, .slice (f k).ix (f k).ni (f k).ci, .slice (f k).cl (f k).nc (f k).cc] 30)) (by omega) (by omega) ((O2.below hC).alloc _) (hl.alloc _)
      unfold SiteR.cells at hcall
      cases hs : siteB o no (f k)
      · rw [hs] at hcall
        have hF : sitesB o no m f = false := sitesB_no.2 (fun h => by have := h.2.2.1 k hlt; rw [hs] at this; cases this)
        have HF := hid hF; clear hF hs
        go_wp2_with fail
        refine hcall.mono ?_
        rintro e w3 ⟨rfl, hb3⟩
        go_wp2
        go_ret
        rw [HF.out]
        exact ⟨rfl, bvia (balloc hB _) hb3⟩
      · rw [hs] at hcall
        have HS' := hid hs
        have hr := rowC_app f k
        have HR := hid hr; clear hr hs
        have hl3 := hl.alloc (.cells #[.int .i64 (f k).nd, .int .i64 (f k).st, .slice (f k).ix (f k).ni (f k).ci, .slice (f k).cl (f k).nc (f k).cc] 30)
        have Xs := Bx.new wr #[.int .i64 (f k).nd, .int .i64 (f k).st, .slice (f k).ix (f k).ni (f k).ci, .slice (f k).cl (f k).nc (f k).cc] 30
        have hown3 := hown.alloc (.cells #[.int .i64 (f k).nd, .int .i64 (f k).st, .slice (f k).ix (f k).ni (f k).ci, .slice (f k).cl (f k).nc (f k).cc] 30)
        have C3 := balloc hC (.cells #[.int .i64 (f k).nd, .int .i64 (f k).st, .slice (f k).ix (f k).ni (f k).ci, .slice (f k).cl (f k).nc (f k).cc] 30)
        have hokk : ∀ j, j < k + 1 → siteB o no (f j) = true := fun j hj => by
          rcases Nat.lt_succ_iff_lt_or_eq.1 hj with h' | rfl
          · exact HOK.out j h'
          · exact HS'.out
        have HOK2 := hid hokk; clear hokk
        go_wp2_with fail
        refine hcall.mono ?_
        rintro e w3 ⟨rfl, hb3⟩
        have Xs3 := Xs.below hb3
        have y3 := Xs3.at_ 3 rfl; have ly := Xs3.lt
        have hl4 := hl3.below hb3
        have hown4 := own_below hown3 hb3
        have C4' := bvia C3 hb3
        have hsz3 := C4'.size
        clear hcall hl3 hl Xs hown3 hown C3 hb3 x0 x1 x2 x3 c0 c1 c2 c3
        cases hcn : (f k).cl with
        | none =>
          obtain ⟨z1, z2⟩ := lies_nil hl4 hcn
          rw [hcn, z1, z2] at y3
          have HZ1 := hid z1; clear z1 z2 hcn
          go_wp2_with (at_builtin; refine wpList_append_own_none rfl _ _ 22 rfl W2.heap.size 80 i0 4 Tryz.underlying22 hi _ _ _ rfl hown4 rfl ?_)
          go_roundw
          case rel => exact ⟨k + 1, by omega, by go_num, HOK2.out, by rw [HR.out]; simp only [siteN, HZ1.out, Nat.add_zero, rowC, Nat.zero_mul, List.range_zero, List.map_nil, List.append_nil]; exact hown4, C4'⟩
          case measure => simp [intOf]; omega
        | some ad =>
          have hcl : ∀ j u, (rowC (f k).C (f k).nc)[j]? = some u → w3.cell? (ad.add j) = some u := by
            intro j u hu
            obtain ⟨hj, _⟩ := rowC_at _ _ _ _ hu
            obtain ⟨b', o', e2, _⟩ := hl4.2.1 0 (by omega)
            rw [hcn] at e2
            injection e2 with e2
            subst e2
            have hl5 := hl4.2.1
            rw [hcn] at hl5
            exact sc_row hl5 j u hu
          have HCL := hid hcl; clear hcl
          rw [hcn] at y3
          clear hcn
          go_wp2_with (at_builtin; refine wpList_append_own _ rfl _ _ 22 rfl W2.heap.size 80 i0 _ 4 32 Tryz.underlying22 hi hz0 hz1 hz2 rfl (by decide) _ _ _ rfl hown4 ad (f k).nc (f k).cc (rowC (f k).C (f k).nc) rfl (rowC_length _ _) HCL.out (rowC_one _ _) (by simp [maxLen]; omega) (by omega) (by omega) ?_; intro v' w5 hown5 hgrow _)
          go_roundw
          case rel => exact ⟨k + 1, by omega, by go_num, HOK2.out, by rw [HR.out]; exact hown5, C4'.grown hgrow hsz3 (own_base hown4)⟩
          case measure => simp [intOf]; omega
    · obtain rfl : k = m := (by omega)
      have hjm := join_massB HOK.out
      have hsg := massV_sign (siteN f k) (joinC f k)
      rw [hjm] at hsg
      obtain ⟨av, cv, rfl, Sv⟩ := sc_of_own hown
      have hln := siteN_le (f := f) (c := 10000) (k := k) (fun i hi => (HB.out i (by omega)).2)
      have hln2 : k * 10000 ≤ 1000 * 10000 := Nat.mul_le_mul (by omega) (Nat.le_refl _)
      have hms := node_mass av (siteN f k) cv (joinC f k) wr (by omega) Sv
      clear hjm hown
      generalize massV (siteN f k) (joinC f k) = mv at *
      go_wp2_with fail
      refine hms.mono ?_
      rintro e w3 ⟨rfl, hb3⟩
      have X4 := X3.below hb3
      have B3 := bvia hB hb3
      have O3 := (O2.below hC).below hb3
      have S3 := (S2.below hC).below hb3
      clear hms x0 x1 x2 x3 lx X3 Sv
      have x0 := X4.at_ 0 rfl; have x1 := X4.at_ 1 rfl; have x2 := X4.at_ 2 rfl; have x3 := X4.at_ 3 rfl; have lx := X4.lt
      cases hle : decide (siteM f k ≤ 1000000000)
      · rw [hle] at hsg
        have hF : sitesB o no k f = false := sitesB_no.2 (fun h => by have := h.2.2.2; simp at hle; omega)
        have HF := hid hF; clear hF
        go_wp2
        go_ret
        rw [HF.out]
        exact ⟨rfl, B3⟩
      · rw [hle] at hsg
        have hF : sitesB o no k f = sameL k (fun j => (f j).nd) (nodeL o no 8).length (fun j => (nodeL o no 8).getD j 0) := by
          rw [Bool.eq_iff_iff, sitesB_iff, sameL_iff]
          exact ⟨fun h => ⟨h.1, h.2.1⟩, fun h => ⟨h.1, h.2, HOK.out, by simpa using hle⟩⟩
        have HF := hid hF; clear hF hle
        go_wp2_with fail
        refine (hnd _ O3).mono ?_
        rintro e w4 ⟨v, rfl, hown4, hb4⟩
        obtain ⟨an, cn, rfl, Sn4⟩ := sl_of_own hown4
        clear hnd
        have heq := sites_EqualFunc al an k (nodeL o no 8).length cl cn f (fun j => (nodeL o no 8).getD j 0) w4 (by omega) (by omega) (S3.below hb4) Sn4
        go_wp2_with fail
        refine heq.mono ?_
        rintro e w5 ⟨rfl, hb5⟩
        go_wp2
        go_ret
        rw [HF.out]
        exact ⟨rfl, bvia (bvia B3 hb4) hb5⟩
end Go.Proofs.YtmmjaobpoiofdaaGreat
