/- Walks of the share layer: sums, the greedy share, halving, the least peak of the program. -/
import Derived.Test.YtgpcmkoimgnlbaaSWalk2
namespace Go.Proofs.Ytgpcmkoimgnlbaa
open Go Go.RowKit
set_option linter.unusedVariables false
def okF (n : Nat) (f : Nat → Int) : Prop := ∀ k, k < n → 0 ≤ f k ∧ f k ≤ 1000000000
theorem okF_pos {n : Nat} {f : Nat → Int} (h : okF n f) : ∀ k, k < n → 0 ≤ f k := fun k hk => (h k hk).1
theorem share_sum (a : Option Addr) (n ca : Nat) (f : Nat → Int) (w : World) (hn : n ≤ 64) (hf : okF n f) (H : Sl w a n f) : Calls Try.prog 59 #[.slice a n ca] w fun e w' => e = .returned (.int .i64 (sumTo f n)) ∧ w = w' := by
  have HF := hid hf; clear hf
  go_enter Try.func59, Try.ntmps59
  go_wp2
  go_loop [3, 8] (fun t i => ∃ k : Nat, k ≤ n ∧ i = .int .i64 k ∧ t = .int .i64 (sumTo f k)) (fun _ i => n - (intOf i).toNat)
  case atStart => exact ⟨0, Nat.zero_le _, rfl, rfl⟩
  case round =>
    obtain ⟨k, hk, rfl, rfl⟩ := hrel
    obtain ⟨s0, s1⟩ := sumTo_most HF.out k hk
    by_cases hlt : k < n
    · obtain ⟨b, off, rfl, hb, hc⟩ := H k hlt
      obtain ⟨f0, f1⟩ := HF.out k hlt
      go_wp2
      go_round
      case rel => exact ⟨k + 1, by omega, by go_num, rfl⟩
      case measure => simp [intOf]; omega
    · obtain rfl : k = n := (by omega)
      go_wp2
      go_ret
      exact ⟨rfl, rfl⟩
theorem ref9_weight (a : Option Addr) (n ca x y : Nat) (f : Nat → Int) (w : World) (hn : n ≤ 64) (hf : okF n f) (H : Sl w a n f) (hxy : x ≤ y) (hy : y ≤ n) : Calls Try.prog 58 #[.slice a n ca, .int .i64 (x : Int), .int .i64 (y : Int)] w fun e w' => e = .returned (.int .i64 (sg f x y)) ∧ w = w' := by
  have HF := hid hf; clear hf
  go_enter Try.func58, Try.ntmps58
  go_wp2
  go_loop [7, 8] (fun t i => ∃ k : Nat, x ≤ k ∧ k ≤ y ∧ i = .int .i64 k ∧ t = .int .i64 (sg f x k)) (fun _ i => y - (intOf i).toNat)
  case atStart => exact ⟨x, Nat.le_refl _, hxy, rfl, by rw [sg_self]⟩
  case round =>
    obtain ⟨k, hxk, hk, rfl, rfl⟩ := hrel
    obtain ⟨s0, s1⟩ := sumTo_most HF.out k (by omega)
    obtain ⟨s2, s3⟩ := sumTo_most HF.out x (by omega)
    have s4 : sg f x k = sumTo f k - sumTo f x := rfl
    have HS := hid (sg_succ f x k)
    obtain ⟨S, hS⟩ : ∃ S, sg f x k = S := ⟨_, rfl⟩
    rw [hS] at s4 HS ⊢
    have HSS := hid hS; clear hS
    by_cases hlt : k < y
    · obtain ⟨b, off, rfl, hb, hc⟩ := H k (by omega)
      obtain ⟨f0, f1⟩ := HF.out k (by omega)
      have b1 : -64000000000 ≤ S ∧ S ≤ 64000000000 := by omega
      obtain ⟨b2, b3⟩ := b1
      clear s4
      go_wp2
      go_round
      case rel => exact ⟨k + 1, by omega, by omega, by go_num, by rw [HS.out]⟩
      case measure => simp [intOf]; omega
    · obtain rfl : k = y := (by omega)
      clear s4
      go_wp2
      go_ret
      exact ⟨ret_int HSS.out.symm, rfl⟩
/-- what greedy gives: a list and whether it goes -/
def grL (f : Nat → Int) (M : Int) (n : Nat) : List Int := match gr f M n with | none => [] | some (cs, _) => cs
def grB (f : Nat → Int) (M : Int) (n : Nat) : Bool := (gr f M n).isSome
def ListB (xs : List Int) (b : Bool) (w : World) (e : Ending) (w' : World) : Prop :=
  ∃ a c, e = .returned (.tuple #[.slice a xs.length c, .bool b]) ∧ Sl w' a xs.length (fun k => xs.getD k 0) ∧ Below w.heap.size w w'
theorem listB_own {w w' : World} {base : Nat} {v : Value} {xs : List Int} {b : Bool} (h : w'.ownsRow base 3 1 v xs.length (xs.map vInt)) (hb : Below w.heap.size w w') :
    ListB xs b w (.returned (.tuple #[v, .bool b])) w' := by
  obtain ⟨a, c, rfl, hs⟩ := sl_of_own h
  exact ⟨a, c, rfl, hs, hb⟩
theorem gr_fall {f : Nat → Int} {M : Int} {k : Nat} (h : gr f M k = none ∨ M < f k) : ∀ n, k < n → gr f M n = none
  | 0, hn => by omega
  | n + 1, hn => by
    rcases Nat.lt_succ_iff_lt_or_eq.1 hn with h' | rfl
    · simp only [gr, gr_fall h n h']
    · rcases h with h | h
      · simp only [gr, h]
      · simp only [gr]
        cases gr f M k with
        | none => rfl
        | some p => simp [h]
theorem gr_step {f : Nat → Int} {M now : Int} {k : Nat} {cs : List Int} (e : gr f M k = some (cs, now)) (hf : f k ≤ M) : gr f M (k + 1) = if M < now + f k then some (cs ++ [(k : Int)], f k) else some (cs, now + f k) := by
  simp only [gr, e]; rw [if_neg (by omega)]
set_option maxRecDepth 100000 in
set_option maxHeartbeats 1000000 in
theorem share_greedy (a : Option Addr) (n ca : Nat) (f : Nat → Int) (M : Int) (w : World) (hn : n ≤ 64) (hf : okF n f) (hM : 0 ≤ M) (hM2 : M ≤ 64000000000) (H : Sl w a n f) : Calls Try.prog 60 #[.slice a n ca, .int .i64 M] w (ListB (grL f M n) (grB f M n) w) := by
  obtain ⟨i0, hi, hz0, hz1, hz2⟩ := info_parts infoI
  have HF := hid hf; clear hf
  go_enter Try.func60, Try.ntmps60
  go_wp2
  go_loopw [6, 7, 12] (fun v t i wr => ∃ (k : Nat) (cs : List Int) (now : Int), k ≤ n ∧ i = .int .i64 k ∧ t = .int .i64 now ∧ wr.ownsRow w.heap.size 3 1 v cs.length (cs.map vInt) ∧ gr f M k = some (cs, now) ∧ Below w.heap.size w wr) (fun _ _ i _ => n - (intOf i).toNat)
  case atStart => exact ⟨0, [], 0, Nat.zero_le _, rfl, rfl, World.ownsRow_nil .., rfl, Below.refl _ _⟩
  case round =>
    obtain ⟨k, cs, now, hk, rfl, rfl, hown, hgr, hb⟩ := hrel
    obtain ⟨_, _, hl, hnow, hle, _, _⟩ := gr_inv (okF_pos HF.out) hM k hk cs now hgr
    have hn0 : 0 ≤ now := by rw [hnow]; exact sg_nonneg (okF_pos HF.out) (gr_inv (okF_pos HF.out) hM k hk cs now hgr).1 hk
    have HG := hid hgr
    clear hnow hgr
    by_cases hlt : k < n
    · obtain ⟨b, off, rfl, hbl, hc⟩ := (H.below hb) k hlt
      obtain ⟨f0, f1⟩ := HF.out k hlt
      by_cases hgt : M < f k
      · have hnone := gr_fall (.inr hgt) n hlt
        have HN := hid hnone; clear hnone
        go_wp2
        go_ret2
        have e1 : grL f M n = [] := by simp [grL, HN.out]
        have e2 : grB f M n = false := by simp [grB, HN.out]
        rw [e1, e2]
        exact ⟨none, 0, rfl, fun k hk => absurd hk (by simp), hb⟩
      · have hst := gr_step HG.out (by omega)
        by_cases hgt2 : M < now + f k
        · rw [if_pos hgt2] at hst
          have HST := hid hst; clear hst
          have hzb := hb.size
          go_wp2_with (at_builtin; refine wpList_append_own _ rfl _ _ 22 rfl (w.heap.size) 3 i0 (.int .i64 0) 1 8 Try.underlying22 hi hz0 hz1 hz2 rfl (by decide) _ _ _ rfl ((hown).alloc _) ⟨wr.heap.size, 0, none⟩ 1 1 [.int .i64 ((k : Int))] rfl rfl (cell_one_new _ _ _) (by simp [Value.oneCell']) (by simp [maxLen]; omega) (by omega) (by simp; omega) ?_; intro v' w1 hown' hgrow _)
          go_roundw
          case rel => exact ⟨k + 1, cs ++ [(k : Int)], f k, by omega, by go_num, by simp, own_snoc hown', HST.out, (hb.alloc hb.size _).grown hgrow (by have := hb.size; simp; omega) (own_base hown)⟩
          case measure => simp [intOf]; omega
        · rw [if_neg hgt2] at hst
          have HST := hid hst; clear hst
          go_wp2
          go_roundw
          case rel => exact ⟨k + 1, cs, now + f k, by omega, by go_num, rfl, hown, HST.out, hb⟩
          case measure => simp [intOf]; omega
    · obtain rfl : k = n := (by omega)
      go_wp2
      go_ret2
      have e1 : grL f M k = cs := by simp [grL, HG.out]
      have e2 : grB f M k = true := by simp [grB, HG.out]
      rw [e1, e2]
      exact listB_own hown hb
theorem fitsB_gr (f : Nat → Int) (n k : Nat) (M : Int) : fitsB f n k M = (grB f M n && decide ((grL f M n).length < k)) := by
  unfold fitsB grB grL
  split
  · rename_i e; simp [e]
  · rename_i e; simp [e]
set_option maxRecDepth 100000 in
theorem share_fits (a : Option Addr) (n ca k : Nat) (f : Nat → Int) (M : Int) (w : World) (hn : n ≤ 64) (hf : okF n f) (hM : 0 ≤ M) (hM2 : M ≤ 64000000000) (H : Sl w a n f) : Calls Try.prog 47 #[.slice a n ca, .int .i64 (k : Int), .int .i64 M] w fun e w' => e = .returned (.bool (fitsB f n k M)) ∧ Below w.heap.size w w' := by
  have hg := fun W H => share_greedy a n ca f M W hn hf hM hM2 H
  rw [fitsB_gr]
  cases hb : grB f M n
  · rw [hb] at hg
    go_enter Try.func47, Try.ntmps47
    go_wp2_with (go_at_call 60; refine (hg _ H).mono ?_; rintro e w1 ⟨a1, c1, rfl, S1, hb1⟩)
    go_ret
    exact ⟨rfl, hb1⟩
  · rw [hb] at hg
    by_cases hlt : (grL f M n).length < k
    · go_enter Try.func47, Try.ntmps47
      go_wp2_with (go_at_call 60; refine (hg _ H).mono ?_; rintro e w1 ⟨a1, c1, rfl, S1, hb1⟩)
      go_ret
      exact ⟨ret_bool (by simp; omega), hb1⟩
    · go_enter Try.func47, Try.ntmps47
      go_wp2_with (go_at_call 60; refine (hg _ H).mono ?_; rintro e w1 ⟨a1, c1, rfl, S1, hb1⟩)
      go_ret
      exact ⟨ret_bool (by simp; omega), hb1⟩
/-- halving: the least number at which something holds -/
def HalfPost (P : Int → Bool) (lo hi : Int) (w : World) (e : Ending) (w' : World) : Prop :=
  ∃ z : Int, e = .returned (.int .i64 z) ∧ lo ≤ z ∧ z ≤ hi ∧ (∀ y, lo ≤ y → y < z → P y = false) ∧ (z < hi → P z = true) ∧ Below w.heap.size w w'
set_option maxRecDepth 100000 in
set_option maxHeartbeats 1000000 in
theorem share_halved (P : Int → Bool) (lo hi : Int) (gf : Nat) (lb : Array Value) (w : World) (h0 : 0 ≤ lo) (h1 : lo ≤ hi) (h2 : hi ≤ 64000000000)
    (hmono : ∀ x y, lo ≤ x → x ≤ y → y < hi → P x = true → P y = true) (hf : ∀ n W, lo ≤ n → n < hi → Below w.heap.size w W → Calls Try.prog gf (#[.int .i64 n] ++ lb) W fun e W' => e = .returned (.bool (P n)) ∧ Below W.heap.size W W')
    (eg : ∀ args w, (callFunc gf args).run Try.prog w = .ok (.enter gf args) w) :
    Calls Try.prog 68 #[.int .i64 lo, .int .i64 hi, .func (.func gf) #[] lb] w (HalfPost P lo hi w) := by
  have HM := hid hmono; clear hmono
  go_enter Try.func68, Try.ntmps68
  go_wp2
  go_loopw [0, 1] (fun s0 s1 wr => ∃ l h : Int, s0 = .int .i64 l ∧ s1 = .int .i64 h ∧ lo ≤ l ∧ l ≤ h ∧ h ≤ hi ∧ (∀ y, lo ≤ y → y < l → P y = false) ∧ (h < hi → P h = true) ∧ Below w.heap.size w wr) (fun s0 s1 _ => (intOf s1 - intOf s0).toNat)
  case atStart => exact ⟨lo, hi, rfl, rfl, by omega, h1, by omega, fun y a b => by omega, fun h => by omega, Below.refl _ _⟩
  case round =>
    obtain ⟨l, h, rfl, rfl, g1, g2, g3, g4, g5, hb⟩ := hrel
    have G4 := hid g4; have G5 := hid g5; clear g4 g5
    by_cases hlt : l < h
    · have m1 : l ≤ (l + h) / 2 := by omega
      have m2 : (l + h) / 2 < h := by omega
      have hcall := hf ((l + h) / 2) wr (by omega) (by omega) hb
      obtain ⟨m, hm⟩ : ∃ m, (l + h) / 2 = m := ⟨_, rfl⟩
      rw [hm] at hcall m1 m2
      have HMM := hid hm
      cases hp : P m
      · rw [hp] at hcall
        have hfalse : ∀ y, lo ≤ y → y < m + 1 → P y = false := fun y a b => by
          cases hy : P y
          · rfl
          · have := HM.out y m a (by omega) (by omega) hy; rw [hp] at this; cases this
        have HFA := hid hfalse; clear hfalse hm
        go_wp2_with fail
        rw [HMM.out]
        refine hcall.mono ?_
        rintro e w1 ⟨rfl, hb1⟩
        go_wp2
        go_roundw
        case rel => exact ⟨m + 1, h, rfl, rfl, by omega, by omega, g3, HFA.out, G5.out, bvia hb hb1⟩
        case measure => have := HMM.out; simp [intOf]; omega
      · rw [hp] at hcall
        have HP := hid hp; clear hp hm
        go_wp2_with fail
        rw [HMM.out]
        refine hcall.mono ?_
        rintro e w1 ⟨rfl, hb1⟩
        go_wp2
        go_roundw
        case rel => exact ⟨l, m, rfl, rfl, g1, m1, by omega, G4.out, fun _ => HP.out, bvia hb hb1⟩
        case measure => have := HMM.out; simp [intOf]; omega
    · obtain rfl : l = h := (by omega)
      go_wp2
      go_ret
      exact ⟨l, rfl, g1, g3, G4.out, G5.out, hb⟩
end Go.Proofs.Ytgpcmkoimgnlbaa
