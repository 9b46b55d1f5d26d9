/- Plain words: sites, slices of sites; the mass of cells as the nodes reckon it. -/
import Derived.Test.YtcakccfhcgjofaaGreatNNotes
namespace Go.Proofs.YtcakccfhcgjofaaGreat
open Go Go.RowKit
set_option linter.unusedVariables false
/-- a site: its four cells, and what its two slices read as -/
structure SiteR where
  nd : Int
  st : Int
  ix : Option Addr
  ni : Nat
  ci : Nat
  cl : Option Addr
  nc : Nat
  cc : Nat
  I : Nat → Int
  C : Nat → C4
def SiteR.cells (s : SiteR) : Array Value := #[.int .i64 s.nd, .int .i64 s.st, .slice s.ix s.ni s.ci, .slice s.cl s.nc s.cc]
def SiteR.zero : SiteR := ⟨0, 0, none, 0, 0, none, 0, 0, fun _ => 0, fun _ => C4.zero⟩
/-- its slices lie in the world -/
def SiteR.lies (w : World) (s : SiteR) : Prop := Sl w s.ix s.ni s.I ∧ Sc w s.cl s.nc s.C ∧ (s.cl = none → s.cc = 0)
theorem SiteR.lies.below {w w' : World} {s : SiteR} (h : s.lies w) (hb : Below w.heap.size w w') : s.lies w' := ⟨h.1.below hb, h.2.1.below hb, h.2.2⟩
theorem SiteR.lies.alloc {w : World} {s : SiteR} (h : s.lies w) (o : Obj) : s.lies (w.alloc o) := ⟨h.1.alloc o, h.2.1.alloc o, h.2.2⟩
/-- a slice of sites -/
def Ss (w : World) (a : Option Addr) (n : Nat) (f : Nat → SiteR) : Prop :=
  ∀ k, k < n → ∃ b off, a = some ⟨b, off, none⟩ ∧ b < w.heap.size ∧ w.cell? ⟨b, off + k * 4, none⟩ = some (.int .i64 (f k).nd) ∧ w.cell? ⟨b, off + k * 4 + 1, none⟩ = some (.int .i64 (f k).st) ∧
    w.cell? ⟨b, off + k * 4 + 2, none⟩ = some (.slice (f k).ix (f k).ni (f k).ci) ∧ w.cell? ⟨b, off + k * 4 + 3, none⟩ = some (.slice (f k).cl (f k).nc (f k).cc) ∧ (f k).lies w
theorem Ss.below {w w' : World} {a : Option Addr} {n : Nat} {f : Nat → SiteR} (h : Ss w a n f) (hb : Below w.heap.size w w') : Ss w' a n f := fun k hkn => by
  obtain ⟨b, off, h1, h2, h3, h4, h5, h6, h7⟩ := h k hkn
  have hk := bcell hb
  exact ⟨b, off, h1, Nat.lt_of_lt_of_le h2 hb.size, (hk _ _ h2).trans h3, (hk _ _ h2).trans h4, (hk _ _ h2).trans h5, (hk _ _ h2).trans h6, h7.below hb⟩
theorem Ss.alloc {w : World} {a : Option Addr} {n : Nat} {f : Nat → SiteR} (h : Ss w a n f) (o : Obj) : Ss (w.alloc o) a n f := h.below ((Below.refl _ w).alloc (Nat.le_refl _) o)
theorem Ss.drewN {w : World} {a : Option Addr} {n : Nat} {f : Nat → SiteR} (h : Ss w a n f) (k : Nat) : Ss (w.drewN k) a n f := h
/-- is the mass of cells one that may be? -/
def massB (n : Nat) (g : Nat → C4) : Bool := decide ((∀ k, k < n → validC (g k) = true) ∧ massTo g n ≤ 1000000000)
theorem massB_iff (n : Nat) (g : Nat → C4) : massB n g = true ↔ ((∀ k, k < n → validC (g k) = true) ∧ massTo g n ≤ 1000000000) := by simp [massB]
theorem massB_no (n : Nat) (g : Nat → C4) : massB n g = false ↔ ¬ ((∀ k, k < n → validC (g k) = true) ∧ massTo g n ≤ 1000000000) := by rw [← massB_iff]; simp
def massV (n : Nat) (g : Nat → C4) : Int := if massB n g = true then massTo g n else -1
theorem massV_yes {n : Nat} {g : Nat → C4} (h : massB n g = true) : massV n g = massTo g n := if_pos h
theorem massV_no {n : Nat} {g : Nat → C4} (h : massB n g = false) : massV n g = -1 := by unfold massV; rw [h]; rfl
theorem massV_sign (n : Nat) (g : Nat → C4) : decide (0 ≤ massV n g) = massB n g := by
  cases h : massB n g
  · rw [massV_no h]; decide
  · rw [massV_yes h]
    have := massTo_nonneg g n (fun j hj => ((massB_iff _ _).1 h).1 j hj)
    simpa using this
set_option maxRecDepth 100000 in
set_option maxHeartbeats 1000000 in
theorem node_mass (a : Option Addr) (n c : Nat) (g : Nat → C4) (w : World) (hn : n ≤ 100000000) (H : Sc w a n g) : Calls Tryz.prog 93 #[.slice a n c] w fun e w' => e = .returned (.int .i64 (massV n g)) ∧ Below w.heap.size w w' := by
  go_enter Tryz.func93, Tryz.ntmps93
  go_wp2
  go_loopw [3, 10] (fun m i wr => ∃ k : Nat, k ≤ n ∧ i = .int .i64 k ∧ m = .int .i64 (massTo g k) ∧ (∀ j, j < k → validC (g j) = true) ∧ massTo g k ≤ 1000000000 ∧ Below w.heap.size w wr) (fun _ i _ => n - (intOf i).toNat)
  case atStart => exact ⟨0, Nat.zero_le _, rfl, rfl, fun j hj => by omega, by simp [massTo], by (repeat' (first | with_reducible assumption | with_reducible exact Below.refl _ _ | with_reducible refine Below.drew ?_ | with_reducible refine below_drewN ?_ _ | with_reducible refine balloc ?_ _ | with_reducible refine bset ?_ ?_ _ | with_reducible refine Below.setCell ?_ ?_ _ | with_reducible refine Below.alloc ?_ ?_ _ | omega | (simp; done) | (simp; omega)))⟩
  case round =>
    obtain ⟨k, hk, rfl, rfl, hok, hle, hB⟩ := hrel
    have h0 := massTo_nonneg g k hok
    by_cases hlt : k < n
    · obtain ⟨b, off, rfl, hb, c0, c1, c2, c3⟩ := (H.below hB) k hlt
      have HOK := hid hok; clear hok
      go_wp2_with fail
      refine (cell_mass _ _).mono ?_
      rintro e w1 ⟨rfl, hb1⟩
      have hB1 : Below w.heap.size w w1 := bvia (balloc hB _) hb1
      cases hv : validC (g k)
      · simp only [massR, errR, hv]
        have hr : massV n g = -1 := massV_no ((massB_no _ _).2 (fun h => by have := h.1 k hlt; rw [hv] at this; cases this))
        have HR := hid hr; clear hr
        go_wp2_with fail
        go_ret
        rw [HR.out]
        exact ⟨rfl, hB1⟩
      · simp only [massR, errR, hv]
        have b0 := (validC_iff _).1 hv
        have e1 : (g k).mass = (g k).e + (g k).n + (g k).w + (g k).s := rfl
        have b1 : 0 ≤ (g k).mass := by omega
        have b2 : (g k).mass ≤ 1000000000 := by omega
        clear e1 b0
        by_cases hs : 1000000000 < massTo g k + (g k).mass
        · have hr : massV n g = -1 := massV_no ((massB_no _ _).2 (fun h => by
            have hm1 := massTo_mono g (k := k + 1) (n := n) (by omega) h.1
            simp only [massTo] at hm1
            have := h.2
            omega))
          have HR := hid hr; clear hr
          go_wp2_with fail
          go_ret
          rw [HR.out]
          exact ⟨rfl, hB1⟩
        · go_wp2_with fail
          go_roundw
          case rel => exact ⟨k + 1, by omega, by go_num, rfl, fun j hj => by
            rcases Nat.lt_succ_iff_lt_or_eq.1 hj with h' | rfl
            · exact HOK.out j h'
            · exact hv, by simp only [massTo]; omega, hB1⟩
          case measure => simp [intOf]; omega
    · obtain rfl : k = n := (by omega)
      have hr : massV k g = massTo g k := massV_yes ((massB_iff _ _).2 ⟨hok, hle⟩)
      have HR := hid hr; clear hr
      go_wp2
      go_ret
      rw [HR.out]
      exact ⟨rfl, hB⟩
set_option maxRecDepth 100000 in
set_option maxHeartbeats 1000000 in
theorem ref5_weight (a : Option Addr) (n cap : Nat) (g : Nat → C4) (w : World) (hn : n ≤ 100000000) (H : Sc w a n g) (hv : ∀ k, k < n → validC (g k) = true) : Calls Tryz.prog 101 #[.slice a n cap] w
    fun e w' => e = .returned (.int .i64 (massTo g n)) ∧ Below w.heap.size w w' := by
  go_enter Tryz.func101, Tryz.ntmps101
  go_wp2
  go_loopw [3, 4] (fun m i wr => ∃ k : Nat, k ≤ n ∧ i = .int .i64 k ∧ m = .int .i64 (massTo g k) ∧ Below w.heap.size w wr) (fun _ i _ => n - (intOf i).toNat)
  case atStart => exact ⟨0, Nat.zero_le _, rfl, rfl, by (repeat' (first | with_reducible assumption | with_reducible exact Below.refl _ _ | with_reducible refine Below.drew ?_ | with_reducible refine below_drewN ?_ _ | with_reducible refine balloc ?_ _ | with_reducible refine bset ?_ ?_ _ | with_reducible refine Below.setCell ?_ ?_ _ | with_reducible refine Below.alloc ?_ ?_ _ | omega | (simp; done) | (simp; omega)))⟩
  case round =>
    obtain ⟨k, hk, rfl, rfl, hB⟩ := hrel
    have h0 := massTo_nonneg g k (fun j hj => hv j (by omega))
    have h1 := massTo_le g k (fun j hj => hv j (by omega))
    by_cases hlt : k < n
    · obtain ⟨b, off, rfl, hb, c0, c1, c2, c3⟩ := (H.below hB) k hlt
      have b0 := (validC_iff _).1 (hv k hlt)
      obtain ⟨b0, b1, b2, b3, b4⟩ := b0
      have HV := hid hv; clear hv
      go_wp2
      go_quiet (fail)
      go_wp2
      go_roundw
      case rel => exact ⟨k + 1, by omega, by go_num, congrArg (Value.int .i64) (by simp only [massTo, C4.mass]; omega), by (repeat' (first | with_reducible assumption | with_reducible exact Below.refl _ _ | with_reducible refine Below.drew ?_ | with_reducible refine below_drewN ?_ _ | with_reducible refine balloc ?_ _ | with_reducible refine bset ?_ ?_ _ | with_reducible refine Below.setCell ?_ ?_ _ | with_reducible refine Below.alloc ?_ ?_ _ | omega | (simp; done) | (simp; omega)))⟩
      case measure => simp [intOf]; omega
    · go_wp2
      go_ret
      obtain rfl : k = n := (by omega)
      exact ⟨rfl, hB⟩
end Go.Proofs.YtcakccfhcgjofaaGreat
