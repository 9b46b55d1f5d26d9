/- Walks: the map of columns, of the program and of the reference. -/
import Derived.Test.YtcakccfhcgjofaaNValid
namespace Go.Proofs.Ytcakccfhcgjofaa
open Go Go.RowKit
set_option linter.unusedVariables false
def cutOk (W : Int) (f : Nat → Int) (k : Nat) : Prop := 1 ≤ f k ∧ f k ≤ W - 1 ∧ (0 < k → f (k - 1) < f k)
/-- are these cuts those of a grid of W columns? -/
def cutsB (W : Int) (m : Nat) (f : Nat → Int) : Bool := decide (m ≤ 7 ∧ ∀ k, k < m → 1 ≤ f k ∧ f k ≤ W - 1 ∧ (0 < k → f (k - 1) < f k))
theorem cutsB_iff (W : Int) (m : Nat) (f : Nat → Int) : cutsB W m f = true ↔ (m ≤ 7 ∧ ∀ k, k < m → cutOk W f k) := by simp [cutsB, cutOk]
theorem cutsB_no (W : Int) (m : Nat) (f : Nat → Int) : cutsB W m f = false ↔ ¬ (m ≤ 7 ∧ ∀ k, k < m → cutOk W f k) := by rw [← cutsB_iff]; simp
/-- the node of a cell by the first m cuts -/
def colC (W : Int) (f : Nat → Int) (i : Nat) : Nat → Nat
  | 0 => 0
  | k + 1 => colC W f i k + if f k ≤ (i : Int) % W then 1 else 0
theorem colC_le (W : Int) (f : Nat → Int) (i : Nat) : ∀ m, colC W f i m ≤ m
  | 0 => Nat.le_refl _
  | m + 1 => by have := colC_le W f i m; simp only [colC]; split <;> omega
def colL (W : Int) (f : Nat → Int) (m : Nat) : Nat → List Int
  | 0 => []
  | i + 1 => colL W f m i ++ [(colC W f i m : Int)]
theorem colL_length (W : Int) (f : Nat → Int) (m : Nat) : ∀ n, (colL W f m n).length = n
  | 0 => rfl
  | n + 1 => by simp [colL, colL_length W f m n]
theorem colL_get (W : Int) (f : Nat → Int) (m i : Nat) : ∀ n, i < n → (colL W f m n).getD i 0 = (colC W f i m : Int)
  | 0, h => by omega
  | n + 1, h => by
    have hl := colL_length W f m n
    simp only [colL]
    by_cases e : i = n
    · subst e
      rw [List.getD_eq_getElem?_getD, List.getElem?_append_right (by omega), hl, Nat.sub_self]; rfl
    · have := colL_get W f m i n (by omega)
      rw [List.getD_eq_getElem?_getD] at *
      rw [List.getElem?_append_left (by omega)]; exact this
/-- what Columns gives -/
def colsL (wide high : Int) (n : Nat) (g : Nat → C4) (m : Nat) (f : Nat → Int) : List Int := if (validG wide high n g && cutsB wide m f) = true then colL wide f m n else []
def colsE (wide high : Int) (n : Nat) (g : Nat → C4) (m : Nat) (f : Nat → Int) : Int := if validG wide high n g = true then (if cutsB wide m f = true then 0 else 7) else 1
theorem validG_sides' {wide high : Int} {n : Nat} {g : Nat → C4} (h : validG wide high n g = true) : ∃ Wd : Nat, wide = Wd ∧ 1 ≤ Wd ∧ Wd ≤ 64 ∧ n ≤ 1024 ∧ 1 ≤ n := by
  obtain ⟨a1, a2, a3, a4, a5, a6, _⟩ := (validG_iff _ _ _ _).1 h
  have := Int.mul_le_mul a1 a3 (by omega) (by omega)
  exact ⟨wide.toNat, by omega, by omega, by omega, by omega, by omega⟩
theorem cutsB_no' {W : Int} {m : Nat} {f : Nat → Int} (h : ¬ (m ≤ 7 ∧ ∀ k, k < m → cutOk W f k)) : cutsB W m f = false := (cutsB_no _ _ _).2 h
theorem listPost_nil' {w w' : World} {xs : List Int} {err e0 : Int} (hx : xs = []) (he : err = e0) (hb : Below w.heap.size w w') : ListPost xs err w (.returned (.tuple #[.slice none 0 0, .int .i64 e0])) w' := by
  subst hx; subst he; exact listPost_nil hb
set_option maxRecDepth 100000 in
set_option maxHeartbeats 4000000 in
theorem node_Columns (wide high : Int) (a ac : Option Addr) (n m c cc : Nat) (g : Nat → C4) (f : Nat → Int) (w : World) (hn : n ≤ 100000000) (hm : m ≤ 100000000) (H : Sc w a n g) (HC : Sl w ac m f) :
    Calls Try.prog 11 #[.agg #[.int .i64 wide, .int .i64 high, .slice a n c], .slice ac m cc] w (ListPost (colsL wide high n g m f) (colsE wide high n g m f) w) := by
  obtain ⟨i0, hi, hz0, hz1, hz2⟩ := info_parts infoI
  have I := H.alloc (.cells #[.int .i64 wide, .int .i64 high, .slice a n c] 24)
  have X := Bx.new w #[.int .i64 wide, .int .i64 high, .slice a n c] 24
  cases hv : validG wide high n g
  · have HV := hid hv
    go_enter Try.func11, Try.ntmps11
    go_wp2_with (go_at_call 41; refine (grid_valid wide high _ n _ g _ hn I).mono ?_; rintro e w1 ⟨rfl, hb1⟩; rw [hv])
    go_ret2
    exact listPost_nil' (by simp [colsL, HV.out]) (by simp [colsE, HV.out]) (bvia (by (repeat' (first | with_reducible assumption | with_reducible exact Below.refl _ _ | with_reducible refine Below.drew ?_ | with_reducible refine below_drewN ?_ _ | with_reducible refine balloc ?_ _ | with_reducible refine bset ?_ ?_ _ | with_reducible refine Below.setCell ?_ ?_ _ | with_reducible refine Below.alloc ?_ ?_ _ | omega | (simp; done) | (simp; omega)))) hb1)
  · have HV := hid hv
    obtain ⟨Wd, rfl, p1, p2, hn4, hn1⟩ := validG_sides' hv
    go_enter Try.func11, Try.ntmps11
    go_wp2_with fail
    refine (grid_valid _ high _ n _ g _ hn I).mono ?_
    rintro e w1 ⟨rfl, hb1⟩
    rw [hv]
    clear hv
    have hB1 : Below w.heap.size w w1 := bvia (by (repeat' (first | with_reducible assumption | with_reducible exact Below.refl _ _ | with_reducible refine Below.drew ?_ | with_reducible refine below_drewN ?_ _ | with_reducible refine balloc ?_ _ | with_reducible refine bset ?_ ?_ _ | with_reducible refine Below.setCell ?_ ?_ _ | with_reducible refine Below.alloc ?_ ?_ _ | omega | (simp; done) | (simp; omega)))) hb1
    have X1 := X.below hb1
    have J := HC.below hB1
    have x0 := X1.at_ 0 rfl; have x1 := X1.at_ 1 rfl; have x2 := X1.at_ 2 rfl; have lx := X1.lt
    clear hb1 I X
    go_wp2_with fail
    go_loop [18] (fun i => ∃ k : Nat, k ≤ m ∧ i = .int .i64 k ∧ (∀ j, j < k → cutOk Wd f j)) (fun i => m - (intOf i).toNat)
    case atStart => exact ⟨0, Nat.zero_le _, rfl, fun j hj => by omega⟩
    case round =>
      obtain ⟨k, hk, rfl, hok⟩ := hrel
      have HOK := hid hok; clear hok
      by_cases hlt : k < m
      · obtain ⟨b1, o1, rfl, hb1, c1⟩ := J k hlt
        cases hw : within (f k) 1 ((Wd : Int) - 1)
        · go_wp2_with (go_at_call 42; refine (node_within _ _ _ _).mono ?_; rintro e w' ⟨rfl, rfl⟩; rw [hw])
          go_ret2
          have hno : cutsB (Wd : Int) m f = false := cutsB_no' (fun h => by have := h.2 k hlt; rw [within_no] at hw; exact hw ⟨this.1, this.2.1⟩)
          refine listPost_nil' ?_ ?_ ?_
          · simp [colsL, HV.out, hno]
          · simp [colsE, HV.out, hno]
          · exact hB1
        · obtain ⟨q1, q2⟩ := (within_iff _ _ _).1 hw
          by_cases hk0 : k = 0
          · subst hk0
            rw [Nat.add_zero] at c1
            go_wp2_with (go_at_call 42; refine (node_within _ _ _ _).mono ?_; rintro e w' ⟨rfl, rfl⟩; rw [hw])
            go_round
            case rel => exact ⟨0 + 1, by omega, by go_num, fun j hj => by
              obtain rfl : j = 0 := by omega
              exact ⟨q1, q2, fun h => by omega⟩⟩
            case measure => simp [intOf]; omega
          · have hkp : 0 < k := by omega
            obtain ⟨b2, o2, e2, _, c2⟩ := J (k - 1) (by omega)
            injection e2 with e2; injection e2 with e2 e3 _
            subst e2 e3
            cases hle : decide (f k ≤ f (k - 1))
            · have hnle : f (k - 1) < f k := by simpa using hle
              have HNL := hid hnle; clear hnle
              go_wp2_with (go_at_call 42; refine (node_within _ _ _ _).mono ?_; rintro e w' ⟨rfl, rfl⟩; rw [hw])
              go_round
              case rel => exact ⟨k + 1, by omega, by go_num, fun j hj => by
                rcases Nat.lt_succ_iff_lt_or_eq.1 hj with h' | rfl
                · exact HOK.out j h'
                · exact ⟨q1, q2, fun _ => HNL.out⟩⟩
              case measure => simp [intOf]; omega
            · have hnle : ¬ f (k - 1) < f k := by simp at hle; omega
              have HNL := hid hnle; clear hnle
              go_wp2_with (go_at_call 42; refine (node_within _ _ _ _).mono ?_; rintro e w' ⟨rfl, rfl⟩; rw [hw])
              go_ret2
              have hno : cutsB (Wd : Int) m f = false := cutsB_no' (fun h => by have h1 := HNL.out; have h2 := (h.2 k hlt).2.2 hkp; omega)
              refine listPost_nil' ?_ ?_ ?_
              · simp [colsL, HV.out, hno]
              · simp [colsE, HV.out, hno]
              · exact hB1
      · obtain rfl : k = m := (by omega)
        clear hlt
        by_cases h7 : k ≤ 7
        · have hcu : cutsB Wd k f = true := (cutsB_iff _ _ _).2 ⟨h7, HOK.out⟩
          have HCU := hid hcu; clear hcu
          go_wp2_with fail
          go_loopw [8, 49] (fun v i wr => ∃ i' : Nat, i' ≤ n ∧ i = .int .i64 i' ∧ wr.ownsRow (w.heap.size + 1) 3 1 v (colL Wd f k i').length ((colL Wd f k i').map vInt) ∧ Below w.heap.size w wr ∧ Bx wr w.heap.size #[.int .i64 Wd, .int .i64 high, .slice a n c]) (fun _ i _ => n - (intOf i).toNat)
          case atStart => exact ⟨0, Nat.zero_le _, rfl, World.ownsRow_nil .., hB1, X1⟩
          case round =>
            obtain ⟨m', hm'⟩ : ∃ m', m' = k := ⟨_, rfl⟩
            subst hm'
            clear X1 hB1 x0 x1 x2 lx J
            obtain ⟨k, hk', rfl, hown, hB, X1⟩ := hrel
            obtain ⟨wo, rfl⟩ : ∃ wo : World, wo = wr := ⟨_, rfl⟩
            have lx := X1.lt
            by_cases hlt : k < n
            · have hcl := colL_length Wd f m' k
              have hcs : colL Wd f m' (k + 1) = colL Wd f m' k ++ [(colC Wd f k m' : Int)] := rfl
              have HCS := hid hcs; clear hcs
              have HCL := hid hcl
              have J := HC.below hB
              have x0 := X1.at_ 0 rfl
              have hw0 : ¬ (Wd : Int) = 0 := by omega
              go_wp2_with fail
              go_loop [10, 54] (fun t ji => ∃ j : Nat, j ≤ m' ∧ ji = .int .i64 j ∧ t = .int .i64 (colC Wd f k j : Nat)) (fun _ ji => m' - (intOf ji).toNat)
              case atStart => exact ⟨0, Nat.zero_le _, rfl, rfl⟩
              case round =>
                obtain ⟨j, hj, rfl, rfl⟩ := hrel
                have hcb := colC_le Wd f k j
                by_cases hjl : j < m'
                · obtain ⟨b3, o3, rfl, hb3, c3⟩ := J j hjl
                  cases hge : decide (f j ≤ (k : Int) % (Wd : Int))
                  · have hcs : colC Wd f k (j + 1) = colC Wd f k j := by simp only [colC]; rw [if_neg (by simpa using hge)]; rfl
                    have HCS := hid hcs; clear hcs
                    go_wp2_with fail
                    go_round
                    case rel => exact ⟨j + 1, by omega, by go_num, by rw [HCS.out]⟩
                    case measure => simp [intOf]; omega
                  · have hcs : colC Wd f k (j + 1) = colC Wd f k j + 1 := by simp only [colC]; rw [if_pos (by simpa using hge)]
                    have HCS := hid hcs; clear hcs
                    go_wp2_with fail
                    go_round
                    case rel => exact ⟨j + 1, by omega, by go_num, by rw [HCS.out]; go_num⟩
                    case measure => simp [intOf]; omega
                · obtain rfl : j = m' := (by omega)
                  go_wp2_with (at_builtin; refine wpList_append_own _ rfl _ _ 25 rfl (w.heap.size + 1) 3 i0 (.int .i64 0) 1 8 Try.underlying25 hi hz0 hz1 hz2 rfl (by decide) _ _ _ rfl (hown.alloc _) ⟨wo.heap.size, 0, none⟩ 1 1 [.int .i64 (colC Wd f k j : Nat)] rfl rfl (cell_one_new _ _ _) (by simp [Value.oneCell']) (by simp [maxLen]; omega) (by omega) (by simp; omega) ?_; intro v' w1 hown' hgrow _)
                  go_roundw
                  case rel => exact ⟨k + 1, by omega, by go_num, by rw [HCS.out]; exact own_snoc hown', (hB.alloc hB.size _).grown hgrow (by have := hB.size; simp; omega) (fun g hg => by have := own_base hown g hg; omega), (X1.alloc _).grown hgrow (fun e => by have := own_base hown _ e.symm; omega)⟩
                  case measure => simp [intOf]; omega
            · obtain rfl : k = n := (by omega)
              go_wp2
              go_ret2
              have e1 : colsL Wd high k g m' f = colL Wd f m' k := by simp [colsL, HV.out, HCU.out]
              have e2 : colsE Wd high k g m' f = 0 := by simp [colsE, HV.out, HCU.out]
              rw [e1, e2]
              exact listPost_own hown hB
        · go_wp2_with fail
          go_ret2
          have hno : cutsB (Wd : Int) k f = false := cutsB_no' (fun h => h7 h.1)
          refine listPost_nil' ?_ ?_ ?_
          · simp [colsL, HV.out, hno]
          · simp [colsE, HV.out, hno]
          · exact hB1
end Go.Proofs.Ytcakccfhcgjofaa
