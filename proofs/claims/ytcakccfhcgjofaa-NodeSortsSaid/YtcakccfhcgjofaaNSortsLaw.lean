/- The walk of the law NodeSorts. -/
import Derived.Test.YtcakccfhcgjofaaNSorted2
import Derived.Test.YtcakccfhcgjofaaNRefSort
import Derived.Test.YtcakccfhcgjofaaNMassW
import Derived.Test.YtcakccfhcgjofaaNSame
import Derived.Test.YtcakccfhcgjofaaNAwake
namespace Go.Proofs.Ytcakccfhcgjofaa
open Go Go.RowKit
set_option linter.unusedVariables false
set_option linter.unusedSimpArgs false
theorem cellsI_length (C : Nat → C4) : ∀ n, (cellsI C n).length = 4 * n
  | 0 => rfl
  | n + 1 => by simp only [cellsI, List.length_append, cellsI_length C n, cL, List.length_cons, List.length_nil]; omega
theorem siteI_length {F : Nat → SiteR} {c : Nat} : ∀ {m}, (∀ k, k < m → (F k).nc ≤ c) → (siteI F m).length ≤ m * (4 * c)
  | 0, _ => by simp [siteI]
  | m + 1, h => by
    have h1 := siteI_length (m := m) fun k hk => h k (by omega)
    have h2 := h m (by omega)
    simp only [siteI, List.length_append, cellsI_length]
    have h3 : 4 * (F m).nc ≤ 4 * c := Nat.mul_le_mul_left 4 h2
    rw [Nat.add_mul, Nat.one_mul]
    omega
theorem postI_length (p : Nat → N6) : ∀ q, (postI p q).length = q
  | 0 => rfl
  | q + 1 => by simp only [postI, List.length_append, postI_length p q, List.length_cons, List.length_nil]
theorem allI_length {F : Nat → SiteR} {c m : Nat} (p : Nat → N6) (q : Nat) (h : ∀ k, k < m → (F k).nc ≤ c) : (allI F m p q).length ≤ m * (4 * c) + q := by
  have := siteI_length h
  simp only [allI, List.length_append, postI_length]; omega
theorem lstN_of (l : List N6) : lstN (fun k => l.getD k N6.zero) l.length = l := by
  apply List.ext_getElem?
  intro i
  unfold lstN
  rw [List.getElem?_map]
  by_cases h : i < l.length
  · rw [List.getElem?_range h, List.getElem?_eq_getElem h, Option.map_some, List.getD_eq_getElem?_getD, List.getElem?_eq_getElem h]; rfl
  · rw [List.getElem?_eq_none (by simpa using h), List.getElem?_eq_none (by omega)]; rfl
set_option maxRecDepth 100000 in
set_option maxHeartbeats 20000000 in
theorem walk_sorts (al ap : Option Addr) (m q cl cp : Nat) (f : Nat → SiteR) (p : Nat → N6) (w : World) (hm : m ≤ maxLen) (hq : q ≤ maxLen) (hqc : q ≤ cp) (hap : ap = none → cp = 0) (hf : ∀ k, k < m → (f k).ni ≤ maxLen ∧ (f k).nc ≤ maxLen) (HS : Ss w al m f) (HP : Sn w ap q p) :
    Calls Try.prog 9 #[.agg #[.slice al m cl, .slice ap q cp]] w fun e w' => e = .returned (.bool true) ∧ Below w.heap.size w w' := by
  unfold maxLen at hm hq hf
  have X0 := Bx.new w #[.slice al m cl, .slice ap q cp] 45
  have hB0 : Below w.heap.size w (w.alloc (.cells #[.slice al m cl, .slice ap q cp] 45)) := by (repeat' (first | with_reducible assumption | with_reducible exact Below.refl _ _ | with_reducible refine Below.drew ?_ | with_reducible refine below_drewN ?_ _ | with_reducible refine balloc ?_ _ | with_reducible refine bset ?_ ?_ _ | with_reducible refine Below.setCell ?_ ?_ _ | with_reducible refine Below.alloc ?_ ?_ _ | omega | (simp; done) | (simp; omega)))
  cases hs1 : decide ((20 : Int) < m)
  rotate_left
  · clear hf hqc hap
    go_enter Try.func9, Try.ntmps9
    go_wp2_with fail
    generalize (w.alloc (.cells #[.slice al m cl, .slice ap q cp] 45)) = W0 at X0 hB0 ⊢
    have z0 := X0.lt
    refine (awake_node _).mono ?_
    rintro e w2 ⟨rfl, hb2⟩
    go_wp2
    go_ret
    exact ⟨rfl, bvia hB0 hb2⟩
  cases hs2 : decide ((300 : Int) < q)
  rotate_left
  · clear hf hqc hap
    go_enter Try.func9, Try.ntmps9
    go_wp2_with fail
    generalize (w.alloc (.cells #[.slice al m cl, .slice ap q cp] 45)) = W0 at X0 hB0 ⊢
    have z0 := X0.lt
    refine (awake_node _).mono ?_
    rintro e w2 ⟨rfl, hb2⟩
    go_wp2
    go_ret
    exact ⟨rfl, bvia hB0 hb2⟩
  have m1 : m ≤ 20 := by have := of_decide_eq_false hs1; omega
  have m2 : q ≤ 300 := by have := of_decide_eq_false hs2; omega
  have HAP := hid hap; clear hap
  have HF := hid hf; clear hf
  go_enter Try.func9, Try.ntmps9
  go_wp2_with fail
  generalize (w.alloc (.cells #[.slice al m cl, .slice ap q cp] 45)) = W0 at X0 hB0 ⊢
  have z0 := X0.lt
  clear hs1 hs2
  go_loopw [3] (fun i wr => ∃ k : Nat, k ≤ m ∧ i = .int .i64 k ∧ (∀ j, j < k → (f j).nc ≤ 300) ∧ Below W0.heap.size W0 wr) (fun i _ => m - (intOf i).toNat)
  case atStart => exact ⟨0, Nat.zero_le _, rfl, fun j hj => by omega, Below.refl _ _⟩
  case round =>
    obtain ⟨k, hk, rfl, hok, hB⟩ := hrel
    have HOK := hid hok; clear hok
    have Y0 := X0.below hB
    have B1 := bvia hB0 hB
    have y0 := Y0.at_ 0 rfl; have y1 := Y0.at_ 1 rfl; have ly := Y0.lt
    by_cases hlt : k < m
    · obtain ⟨b1, o1, rfl, hb1, c0, c1, c2, c3, _⟩ := (HS.below B1) k hlt
      obtain ⟨_, hnc⟩ := HF.out k hlt
      have hst : (f k).nc ≤ 300 → ∀ j, j < k + 1 → (f j).nc ≤ 300 := fun h j hj => by
        rcases Nat.lt_succ_iff_lt_or_eq.1 hj with h' | rfl
        · exact HOK.out j h'
        · exact h
      have HST := hid hst; clear hst
      generalize f k = s at *
      cases hs1 : decide ((300 : Int) < s.nc)
      · have hle : s.nc ≤ 300 := by have := of_decide_eq_false hs1; omega
        go_wp2_with fail
        go_roundw
        case rel => exact ⟨k + 1, by omega, by go_num, HST.out hle, hB⟩
        case measure => simp [intOf]; omega
      · go_wp2_with fail
        refine (awake_node _).mono ?_
        rintro e w2 ⟨rfl, hb2⟩
        go_wp2
        go_ret
        exact ⟨rfl, bvia B1 hb2⟩
    · obtain rfl : k = m := (by omega)
      have hL := allI_length p q HOK.out
      have hL2 : k * (4 * 300) ≤ 20 * (4 * 300) := Nat.mul_le_mul_right _ m1
      have hM1 := fun W S SP => node_Mass al ap k q cl cp f p W (by omega) (fun j hj => by have := HOK.out j hj; omega) (by omega) (by omega) S SP
      have hM2 := fun W S SP => ref5_Mass al ap k q cl cp f p W (by omega) (fun j hj => by have := HOK.out j hj; omega) (by omega) (by omega) S SP
      have hSo := fun W S => node_Sorted ap q cp p W (by omega) S
      have hRS := fun W S => ref5_Sorted ap q cp p W (by omega) hqc HAP.out S
      have hll : (sortN (lstN p q)).length = q := (sortN_length _).trans (lstN_length p q)
      have hss := sortN_sortN (lstN p q)
      generalize mssL (allI f k p q) = M at *
      generalize sortN (lstN p q) = xs at *
      have HSS := hid hss; have HLL := hid hll
      clear hss hll hL hL2 HOK
      have HS1 := HS.below B1; have HP1 := HP.below B1
      go_wp2_with fail
      refine (hSo _ HP1).mono ?_
      rintro e W3 ⟨va, rfl, O1, hb3⟩
      have Z0 := Y0.below hb3
      have B3 := bvia B1 hb3
      replace HS1 := HS1.below hb3; replace HP1 := HP1.below hb3
      obtain ⟨pa, ca, rfl, L1⟩ := listR_of_own O1
      obtain ⟨_, hca, S1⟩ := L1
      have hll2 := HLL.out
      have hSo2 := fun W S => node_Sorted pa xs.length ca (fun k => xs.getD k N6.zero) W (by omega) S
      rw [lstN_of, HSS.out] at hSo2
      clear hSo Y0 hB hb3 y0 y1 ly O1 hll2
      have r0 : ∀ Y, Below W3.heap.size W3 Y → Y.cell? ⟨w.heap.size, 0, none⟩ = some (.slice al k cl) := fun Y h => (Z0.below h).at_ 0 rfl
      have r1 : ∀ Y, Below W3.heap.size W3 Y → Y.cell? ⟨w.heap.size, 1, none⟩ = some (.slice ap q cp) := fun Y h => (Z0.below h).at_ 1 rfl
      go_wp2_with fail
      refine wp_region_S (fun Y => Below W3.heap.size W3 Y) 28 (by kernel_rfl) ?_
      refine anyS_take (i := 0) rfl (by kernel_rfl) (fun _ _ _ h => h) (Or.inl ⟨by rfl, fun Y hYb => (by (try dsimp only at hYb); go_simp; rfl)⟩) (by repeat' (first | with_reducible assumption | with_reducible exact Below.refl _ _ | with_reducible refine Below.drew ?_ | with_reducible refine below_drewN ?_ _)) ?_
      simp only [List.getElem_toArray, List.getElem_cons_succ, List.getElem_cons_zero, Act.put, List.setIfInBounds_toArray, List.set_cons_zero, List.set_cons_succ]
      refine anyS_take (i := 1) rfl (by kernel_rfl) (fun _ _ _ h => h) (Or.inl ⟨by rfl, fun Y hYb => (by (try dsimp only at hYb); go_simp; rfl)⟩) (by repeat' (first | with_reducible assumption | with_reducible exact Below.refl _ _ | with_reducible refine Below.drew ?_ | with_reducible refine below_drewN ?_ _)) ?_
      simp only [List.getElem_toArray, List.getElem_cons_succ, List.getElem_cons_zero, Act.put, List.setIfInBounds_toArray, List.set_cons_zero, List.set_cons_succ]
      refine anyS_take (i := 2) rfl (by kernel_rfl) (fun _ _ _ h => h) (Or.inl ⟨by rfl, fun Y hYb => (by (try dsimp only at hYb); go_simp; rfl)⟩) (by repeat' (first | with_reducible assumption | with_reducible exact Below.refl _ _ | with_reducible refine Below.drew ?_ | with_reducible refine below_drewN ?_ _)) ?_
      simp only [List.getElem_toArray, List.getElem_cons_succ, List.getElem_cons_zero, Act.put, List.setIfInBounds_toArray, List.set_cons_zero, List.set_cons_succ]
      refine anyS_take (i := 3) rfl (by kernel_rfl) (fun _ _ _ h => h) (Or.inl ⟨by rfl, fun Y hYb => (by (try dsimp only at hYb); go_simp; rfl)⟩) (by repeat' (first | with_reducible assumption | with_reducible exact Below.refl _ _ | with_reducible refine Below.drew ?_ | with_reducible refine below_drewN ?_ _)) ?_
      simp only [List.getElem_toArray, List.getElem_cons_succ, List.getElem_cons_zero, Act.put, List.setIfInBounds_toArray, List.set_cons_zero, List.set_cons_succ]
      refine anyS_take (i := 5) rfl (by kernel_rfl) (fun _ _ _ h => h) (Or.inl ⟨by rfl, fun Y hYb => (by (try dsimp only at hYb); go_simp; rfl)⟩) (by repeat' (first | with_reducible assumption | with_reducible exact Below.refl _ _ | with_reducible refine Below.drew ?_ | with_reducible refine below_drewN ?_ _)) ?_
      simp only [List.getElem_toArray, List.getElem_cons_succ, List.getElem_cons_zero, Act.put, List.setIfInBounds_toArray, List.set_cons_zero, List.set_cons_succ]
      refine anyS_take (i := 6) rfl (by kernel_rfl) (fun _ _ _ h => h) (Or.inl ⟨by rfl, fun Y hYb => (by (try dsimp only at hYb); go_simp; rfl)⟩) (by repeat' (first | with_reducible assumption | with_reducible exact Below.refl _ _ | with_reducible refine Below.drew ?_ | with_reducible refine below_drewN ?_ _)) ?_
      simp only [List.getElem_toArray, List.getElem_cons_succ, List.getElem_cons_zero, Act.put, List.setIfInBounds_toArray, List.set_cons_zero, List.set_cons_succ]
      refine anyS_take (i := 7) rfl (by kernel_rfl) (fun _ _ _ h => h) (Or.inl ⟨by rfl, fun Y hYb => (by (try dsimp only at hYb); go_simp; rfl)⟩) (by repeat' (first | with_reducible assumption | with_reducible exact Below.refl _ _ | with_reducible refine Below.drew ?_ | with_reducible refine below_drewN ?_ _)) ?_
      simp only [List.getElem_toArray, List.getElem_cons_succ, List.getElem_cons_zero, Act.put, List.setIfInBounds_toArray, List.set_cons_zero, List.set_cons_succ]
      refine anyS_take (i := 8) rfl (by kernel_rfl) (fun _ _ _ h => h) (Or.inl ⟨by rfl, fun Y hYb => (by (try dsimp only at hYb); go_simp; rfl)⟩) (by repeat' (first | with_reducible assumption | with_reducible exact Below.refl _ _ | with_reducible refine Below.drew ?_ | with_reducible refine below_drewN ?_ _)) ?_
      simp only [List.getElem_toArray, List.getElem_cons_succ, List.getElem_cons_zero, Act.put, List.setIfInBounds_toArray, List.set_cons_zero, List.set_cons_succ]
      refine anyS_one (i := 4) (by kernel_rfl) rfl (by rfl) (fun K hK => ?_)
      go_simp
      refine (hM1 _ (HS1.below (by (repeat' (first | with_reducible assumption | with_reducible exact Below.refl _ _ | with_reducible refine Below.drew ?_ | with_reducible refine below_drewN ?_ _ | with_reducible refine balloc ?_ _ | with_reducible refine bset ?_ ?_ _ | with_reducible refine Below.setCell ?_ ?_ _ | with_reducible refine Below.alloc ?_ ?_ _ | omega | (simp; done) | (simp; omega))))) (HP1.below (by (repeat' (first | with_reducible assumption | with_reducible exact Below.refl _ _ | with_reducible refine Below.drew ?_ | with_reducible refine below_drewN ?_ _ | with_reducible refine balloc ?_ _ | with_reducible refine bset ?_ ?_ _ | with_reducible refine Below.setCell ?_ ?_ _ | with_reducible refine Below.alloc ?_ ?_ _ | omega | (simp; done) | (simp; omega)))))).mono ?_
      rintro e v4 ⟨rfl, hb4⟩
      have hS0 : Below W3.heap.size W3 W3.drew := by (repeat' (first | with_reducible assumption | with_reducible exact Below.refl _ _ | with_reducible refine Below.drew ?_ | with_reducible refine below_drewN ?_ _ | with_reducible refine balloc ?_ _ | with_reducible refine bset ?_ ?_ _ | with_reducible refine Below.setCell ?_ ?_ _ | with_reducible refine Below.alloc ?_ ?_ _ | omega | (simp; done) | (simp; omega)))
      dsimp only
      have hS4 : Below W3.heap.size W3 v4 := bvia hS0 hb4
      refine hK _ _ (fun _ _ => hS4) ?_
      clear hK K hb4
      refine anyS_one (i := 9) (by kernel_rfl) rfl (by rfl) (fun K hK => ?_)
      go_simp
      refine (hM2 _ (HS1.below hS4) (HP1.below hS4)).mono ?_
      rintro e v9 ⟨rfl, hb9⟩
      dsimp only
      have hS9 : Below W3.heap.size W3 v9 := bvia hS4 hb9
      refine hK _ _ (fun _ _ => hS9) ?_
      clear hK K hb9
      refine anyS_take (i := 10) rfl (by kernel_rfl) (fun _ _ _ h => h) (Or.inl ⟨by rfl, fun Y hYb => (by (try dsimp only at hYb); go_simp; rfl)⟩) (by repeat' (first | with_reducible assumption | with_reducible exact Below.refl _ _ | with_reducible refine Below.drew ?_ | with_reducible refine below_drewN ?_ _)) ?_
      simp only [List.getElem_toArray, List.getElem_cons_succ, List.getElem_cons_zero, Act.put, List.setIfInBounds_toArray, List.set_cons_zero, List.set_cons_succ]
      refine anyS_take (i := 11) rfl (by kernel_rfl) (fun _ _ _ h => h) (Or.inl ⟨by rfl, fun Y hYb => (by (try dsimp only at hYb); go_simp; rfl)⟩) (by repeat' (first | with_reducible assumption | with_reducible exact Below.refl _ _ | with_reducible refine Below.drew ?_ | with_reducible refine below_drewN ?_ _)) ?_
      simp only [List.getElem_toArray, List.getElem_cons_succ, List.getElem_cons_zero, Act.put, List.setIfInBounds_toArray, List.set_cons_zero, List.set_cons_succ]
      refine anyS_take (i := 12) rfl (by kernel_rfl) (fun _ _ _ h => h) (Or.inl ⟨by rfl, fun Y hYb => (by (try dsimp only at hYb); go_simp; rfl)⟩) (by repeat' (first | with_reducible assumption | with_reducible exact Below.refl _ _ | with_reducible refine Below.drew ?_ | with_reducible refine below_drewN ?_ _)) ?_
      simp only [List.getElem_toArray, List.getElem_cons_succ, List.getElem_cons_zero, Act.put, List.setIfInBounds_toArray, List.set_cons_zero, List.set_cons_succ]
      refine anyS_take (i := 13) rfl (by kernel_rfl) (fun _ _ _ h => h) (Or.inl ⟨by rfl, fun Y hYb => (by (try dsimp only at hYb); go_simp; rfl)⟩) (by repeat' (first | with_reducible assumption | with_reducible exact Below.refl _ _ | with_reducible refine Below.drew ?_ | with_reducible refine below_drewN ?_ _)) ?_
      simp only [List.getElem_toArray, List.getElem_cons_succ, List.getElem_cons_zero, Act.put, List.setIfInBounds_toArray, List.set_cons_zero, List.set_cons_succ]
      refine anyS_take (i := 14) rfl (by kernel_rfl) (fun _ _ _ h => h) (Or.inl ⟨by rfl, fun Y hYb => (by (try dsimp only at hYb); go_simp; rfl)⟩) (by repeat' (first | with_reducible assumption | with_reducible exact Below.refl _ _ | with_reducible refine Below.drew ?_ | with_reducible refine below_drewN ?_ _)) ?_
      simp only [List.getElem_toArray, List.getElem_cons_succ, List.getElem_cons_zero, Act.put, List.setIfInBounds_toArray, List.set_cons_zero, List.set_cons_succ]
      refine anyS_one (i := 15) (by kernel_rfl) rfl (by rfl) (fun K hK => ?_)
      go_simp
      refine (hRS _ (HP1.below hS9)).mono ?_
      rintro e v15 ⟨vb, rfl, O2, hb15⟩
      obtain ⟨pb, cb, rfl, L2⟩ := listR_of_own O2
      obtain ⟨_, _, S2⟩ := L2
      dsimp only
      have hS15 : Below W3.heap.size W3 v15 := bvia hS9 hb15
      refine hK _ _ (fun _ _ => hS15) ?_
      clear hK K hb15
      have hsm := fun W S S' => ref5_SameNotes pa pb xs.length xs.length ca cb (fun k => xs.getD k N6.zero) (fun k => xs.getD k N6.zero) W (by have := HLL.out; omega) (by have := HLL.out; omega) S S'
      have hsm2 := hsm _ (S1.below hS15) S2
      rw [sameN_self] at hsm2
      refine anyS_one (i := 16) (by kernel_rfl) rfl (by rfl) (fun K hK => ?_)
      go_simp
      refine hsm2.mono ?_
      rintro e v16 ⟨rfl, hb16⟩
      dsimp only
      have hS16 : Below W3.heap.size W3 v16 := bvia hS15 hb16
      refine hK _ _ (fun _ _ => hS16) ?_
      clear hK K hb16
      clear hsm hsm2
      refine anyS_take (i := 17) rfl (by kernel_rfl) (fun _ _ _ h => h) (Or.inl ⟨by rfl, fun Y hYb => (by (try dsimp only at hYb); go_simp; rfl)⟩) (by repeat' (first | with_reducible assumption | with_reducible exact Below.refl _ _ | with_reducible refine Below.drew ?_ | with_reducible refine below_drewN ?_ _)) ?_
      simp only [List.getElem_toArray, List.getElem_cons_succ, List.getElem_cons_zero, Act.put, List.setIfInBounds_toArray, List.set_cons_zero, List.set_cons_succ]
      refine anyS_take (i := 18) rfl (by kernel_rfl) (fun _ _ _ h => h) (Or.inl ⟨by rfl, fun Y hYb => (by (try dsimp only at hYb); go_simp; rfl)⟩) (by repeat' (first | with_reducible assumption | with_reducible exact Below.refl _ _ | with_reducible refine Below.drew ?_ | with_reducible refine below_drewN ?_ _)) ?_
      simp only [List.getElem_toArray, List.getElem_cons_succ, List.getElem_cons_zero, Act.put, List.setIfInBounds_toArray, List.set_cons_zero, List.set_cons_succ]
      refine anyS_take (i := 19) rfl (by kernel_rfl) (fun _ _ _ h => h) (Or.inl ⟨by rfl, fun Y hYb => (by (try dsimp only at hYb); go_simp; rfl)⟩) (by repeat' (first | with_reducible assumption | with_reducible exact Below.refl _ _ | with_reducible refine Below.drew ?_ | with_reducible refine below_drewN ?_ _)) ?_
      simp only [List.getElem_toArray, List.getElem_cons_succ, List.getElem_cons_zero, Act.put, List.setIfInBounds_toArray, List.set_cons_zero, List.set_cons_succ]
      refine anyS_take (i := 21) rfl (by kernel_rfl) (fun _ _ _ h => h) (Or.inl ⟨by rfl, fun Y hYb => (by (try dsimp only at hYb); go_simp; rfl)⟩) (by repeat' (first | with_reducible assumption | with_reducible exact Below.refl _ _ | with_reducible refine Below.drew ?_ | with_reducible refine below_drewN ?_ _)) ?_
      simp only [List.getElem_toArray, List.getElem_cons_succ, List.getElem_cons_zero, Act.put, List.setIfInBounds_toArray, List.set_cons_zero, List.set_cons_succ]
      refine anyS_one (i := 20) (by kernel_rfl) rfl (by rfl) (fun K hK => ?_)
      go_simp
      refine (hSo2 _ (S1.below hS16)).mono ?_
      rintro e v20 ⟨vc, rfl, O3, hb20⟩
      obtain ⟨pc, cc, rfl, L3⟩ := listR_of_own O3
      obtain ⟨_, _, S3⟩ := L3
      dsimp only
      have hS20 : Below W3.heap.size W3 v20 := bvia hS16 hb20
      refine hK _ _ (fun _ _ => hS20) ?_
      clear hK K hb20
      have hsm := fun W S S' => ref5_SameNotes pc pa xs.length xs.length cc ca (fun k => xs.getD k N6.zero) (fun k => xs.getD k N6.zero) W (by have := HLL.out; omega) (by have := HLL.out; omega) S S'
      have hsm2 := hsm _ S3 (S1.below hS20)
      rw [sameN_self] at hsm2
      refine anyS_one (i := 22) (by kernel_rfl) rfl (by rfl) (fun K hK => ?_)
      go_simp
      refine hsm2.mono ?_
      rintro e v22 ⟨rfl, hb22⟩
      dsimp only
      have hS22 : Below W3.heap.size W3 v22 := bvia hS20 hb22
      refine hK _ _ (fun _ _ => hS22) ?_
      clear hK K hb22
      refine anyS_take (i := 23) rfl (by kernel_rfl) (fun _ _ _ h => h) (Or.inl ⟨by rfl, fun Y hYb => (by (try dsimp only at hYb); go_simp; rfl)⟩) (by repeat' (first | with_reducible assumption | with_reducible exact Below.refl _ _ | with_reducible refine Below.drew ?_ | with_reducible refine below_drewN ?_ _)) ?_
      simp only [List.getElem_toArray, List.getElem_cons_succ, List.getElem_cons_zero, Act.put, List.setIfInBounds_toArray, List.set_cons_zero, List.set_cons_succ]
      refine anyS_take (i := 24) rfl (by kernel_rfl) (fun _ _ _ h => h) (Or.inl ⟨by rfl, fun Y hYb => (by (try dsimp only at hYb); go_simp; rfl)⟩) (by repeat' (first | with_reducible assumption | with_reducible exact Below.refl _ _ | with_reducible refine Below.drew ?_ | with_reducible refine below_drewN ?_ _)) ?_
      simp only [List.getElem_toArray, List.getElem_cons_succ, List.getElem_cons_zero, Act.put, List.setIfInBounds_toArray, List.set_cons_zero, List.set_cons_succ]
      refine anyS_one (i := 25) (by kernel_rfl) rfl (by rfl) (fun K hK => ?_)
      go_simp
      refine (awake_node _).mono ?_
      rintro e v25 ⟨rfl, hb25⟩
      dsimp only
      have hS25 : Below W3.heap.size W3 v25 := bvia hS22 hb25
      refine hK _ _ (fun _ _ => hS25) ?_
      clear hK K hb25
      refine anyS_take (i := 26) rfl (by kernel_rfl) (fun _ _ _ h => h) (Or.inl ⟨by rfl, fun Y hYb => (by (try dsimp only at hYb); go_simp; rfl)⟩) (by repeat' (first | with_reducible assumption | with_reducible exact Below.refl _ _ | with_reducible refine Below.drew ?_ | with_reducible refine below_drewN ?_ _)) ?_
      simp only [List.getElem_toArray, List.getElem_cons_succ, List.getElem_cons_zero, Act.put, List.setIfInBounds_toArray, List.set_cons_zero, List.set_cons_succ]
      refine anyS_take (i := 27) rfl (by kernel_rfl) (fun _ _ _ h => h) (Or.inl ⟨by rfl, fun Y hYb => (by (try dsimp only at hYb); go_simp; rfl)⟩) (by repeat' (first | with_reducible assumption | with_reducible exact Below.refl _ _ | with_reducible refine Below.drew ?_ | with_reducible refine below_drewN ?_ _)) ?_
      simp only [List.getElem_toArray, List.getElem_cons_succ, List.getElem_cons_zero, Act.put, List.setIfInBounds_toArray, List.set_cons_zero, List.set_cons_succ]
      refine anyS_done (by kernel_rfl) ?_ _
      go_wp2
      go_ret
      exact ⟨rfl, bvia B3 hS25⟩
end Go.Proofs.Ytcakccfhcgjofaa
