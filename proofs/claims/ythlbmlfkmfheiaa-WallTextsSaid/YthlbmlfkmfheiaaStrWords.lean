/- Walks: the reference's Words; the library's Cut at a mark of one byte. -/
import Derived.Test.YthlbmlfkmfheiaaStrBase
import Derived.Test.YthlbmlfkmfheiaaShelf
namespace Go.Proofs.Ythlbmlfkmfheiaa
open Go Go.RowKit
set_option linter.unusedVariables false
theorem drop_next {l : List UInt8} {i : Nat} (hi : i < l.length) : l.drop i = l.getD i 0 :: l.drop (i + 1) := by
  rw [List.drop_eq_getElem_cons hi, List.getD_eq_getElem?_getD, List.getElem?_eq_getElem hi]; rfl
def WordsPost (l : List UInt8) (m : UInt8) (w : World) (e : Ending) (w' : World) : Prop :=
  ∃ a c, e = .returned (.slice a (wordsL m l).length c) ∧ Ss w' a (wordsL m l).length (fun k => (wordsL m l).getD k []) ∧ Below w.heap.size w w'
theorem words_length (m : UInt8) : ∀ l : List UInt8, (wordsL m l).length ≤ l.length + 1
  | [] => by simp [wordsL]
  | c :: t => by
    have ih := words_length m t
    simp only [wordsL]
    split
    · simp; omega
    · cases h : wordsL m t with
      | nil => simp [consW]
      | cons w ws => rw [h] at ih; simp only [consW, List.length_cons] at *; omega
set_option maxRecDepth 100000 in
set_option maxHeartbeats 4000000 in
theorem ref1_words (l : List UInt8) (m : UInt8) (w : World) (hl : l.length ≤ 1000000) :
    Calls Try.prog 28 #[.string ⟨l.toArray⟩, .int .u8 (m.toNat : Int)] w (WordsPost l m w) := by
  obtain ⟨i0, hi, hz0, hz1, hz2⟩ := info_parts infoS
  have hwl := words_length m l
  go_enter Try.func28, Try.ntmps28
  go_wp2_with fail
  go_loopw [5, 6, 7] (fun v s6 s7 wr => ∃ (ws : List (List UInt8)) (p : List UInt8) (i : Nat), i ≤ l.length ∧ p.length ≤ i ∧ s7 = .int .i64 (i : Int) ∧ s6 = .int .i64 ((i - p.length : Nat) : Int) ∧ wr.ownsRow w.heap.size 9 1 v ws.length (ws.map vStr) ∧
    l.drop (i - p.length) = p ++ l.drop i ∧ (∀ c ∈ p, c ≠ m) ∧ wordsL m l = ws ++ wordsL m (p ++ l.drop i) ∧ Below w.heap.size w wr) (fun _ _ s7 _ => l.length - (intOf s7).toNat)
  case atStart => exact ⟨[], [], 0, Nat.zero_le _, Nat.zero_le _, rfl, rfl, World.ownsRow_nil .., rfl, by simp, by simp, Below.refl _ _⟩
  case round =>
    obtain ⟨ws, p, i, hil, hpi, rfl, rfl, hown, hdp, hnm, hws, hb⟩ := hrel
    have hsz := hb.size
    by_cases hlt : i < l.length
    · have hat := fun W => str_at l i hlt W
      have hdn := drop_next hlt
      have HDN := hid hdn; have HWS := hid hws; have HDP := hid hdp
      clear hdn hws hdp
      by_cases hc : l.getD i 0 = m
      · have hcut := fun W => str_cut l (i - p.length) i (by omega) (by omega) W
        have e : (l.drop (i - p.length)).take (i - (i - p.length)) = p := by rw [HDP.out, show i - (i - p.length) = p.length by omega, List.take_left]
        rw [e] at hcut
        rw [hc] at hat
        have hl2 : ws.length ≤ 1000001 := by
          have := congrArg List.length HWS.out
          rw [List.length_append] at this
          omega
        have i1 : (0 : Int) ≤ ((i - p.length : Nat) : Int) := by omega
        have i2 : ((i - p.length : Nat) : Int) ≤ (i : Int) := by omega
        have i3 : (i : Int) ≤ (l.length : Int) := by omega
        have i4 : (i : Int) < (l.length : Int) := by omega
        have hmm : ((m.toNat : Int) == (m.toNat : Int)) = true := by simp
        generalize i - p.length = f at *
        go_wp2_with (at_builtin; refine wpList_append_own _ rfl _ _ 70 rfl (w.heap.size) 9 i0 (.string ⟨#[]⟩) 1 16 Try.underlying70 hi hz0 hz1 hz2 rfl (by decide) _ _ _ rfl ((hown).alloc _) ⟨wr.heap.size, 0, none⟩ 1 1 [.string ⟨(p).toArray⟩] rfl rfl (cell_one_new _ _ _) (by simp [Value.oneCell']) (by simp [maxLen]; omega) (by omega) (by simp; omega) ?_; intro v' w1 hown' hgrow _)
        go_roundw
        case rel => exact ⟨ws ++ [p], [], i + 1, by omega, by simp, by go_num, by go_num, owns_snoc hown', rfl, by simp, (by
          rw [HWS.out, HDN.out, hc, words_mark hnm]; simp), (hb.alloc hsz _).grown hgrow (by simp; omega) (own_base hown)⟩
        case measure => simp [intOf]; omega
      · have hne : (((l.getD i 0).toNat : Int) == (m.toNat : Int)) = false := by
          rw [beq_eq_false_iff_ne]
          intro h
          exact hc (UInt8.toNat.inj (by omega))
        have i4 : (i : Int) < (l.length : Int) := by omega
        have HC := hid hc; clear hc
        generalize l.getD i 0 = x at *
        go_wp2_with fail
        go_roundw
        case rel => exact ⟨ws, p ++ [x], i + 1, by omega, (by rw [List.length_append]; show p.length + 1 ≤ i + 1; omega), by go_num, (by rw [List.length_append, show i + 1 - (p.length + [x].length) = i - p.length by (show i + 1 - (p.length + 1) = _; omega)]), hown, (by
          rw [List.length_append, show i + 1 - (p.length + [x].length) = i - p.length by (show i + 1 - (p.length + 1) = _; omega), HDP.out, HDN.out]; simp), (fun c hc => by
          rcases List.mem_append.1 hc with hc | hc
          · exact hnm c hc
          · rw [List.mem_singleton.1 hc]; exact HC.out), (by rw [HWS.out, HDN.out]; simp), hb⟩
        case measure => simp [intOf]; omega
    · obtain rfl : i = l.length := (by omega)
      have hfr := fun W => str_from l (l.length - p.length) (by omega) W
      have hd0 : l.drop l.length = [] := List.drop_length
      rw [hdp, hd0, List.append_nil] at hfr
      rw [hd0, List.append_nil, words_none hnm] at hws
      have hl2 : ws.length ≤ 1000001 := by
        have := congrArg List.length hws
        rw [List.length_append] at this
        omega
      have HWS := hid hws
      have i1 : (0 : Int) ≤ ((l.length - p.length : Nat) : Int) := by omega
      have i2 : ((l.length - p.length : Nat) : Int) ≤ (l.length : Int) := by omega
      clear hws hdp hd0
      generalize l.length - p.length = f at *
      go_wp2_with (at_builtin; refine wpList_append_own _ rfl _ _ 70 rfl (w.heap.size) 9 i0 (.string ⟨#[]⟩) 1 16 Try.underlying70 hi hz0 hz1 hz2 rfl (by decide) _ _ _ rfl ((hown).alloc _) ⟨wr.heap.size, 0, none⟩ 1 1 [.string ⟨(p).toArray⟩] rfl rfl (cell_one_new _ _ _) (by simp [Value.oneCell']) (by simp [maxLen]; omega) (by omega) (by simp; omega) ?_; intro v' w1 hown' hgrow _)
      go_ret
      have ho := owns_snoc hown'
      rw [← HWS.out] at ho
      obtain ⟨a, c, rfl, hs⟩ := ss_of_own ho
      exact ⟨a, c, rfl, hs, (hb.alloc hsz _).grown hgrow (by simp; omega) (own_base hown)⟩
theorem idx_none {m : UInt8} : ∀ {l : List UInt8}, (∀ c ∈ l, c ≠ m) → Lib.indexByte l m = -1
  | [], _ => rfl
  | c :: t, h => by
    have h1 : (c == m) = false := by rw [beq_eq_false_iff_ne]; exact h c (by simp)
    have ih := idx_none (m := m) (l := t) (fun x hx => h x (List.mem_cons_of_mem _ hx))
    simp [Lib.indexByte, h1, ih]
theorem idx_mark {m : UInt8} {t : List UInt8} : ∀ {p : List UInt8}, (∀ c ∈ p, c ≠ m) → Lib.indexByte (p ++ m :: t) m = (p.length : Int)
  | [], _ => by simp [Lib.indexByte]
  | c :: p, h => by
    have h1 : (c == m) = false := by rw [beq_eq_false_iff_ne]; exact h c (by simp)
    have ih := idx_mark (m := m) (t := t) (p := p) (fun x hx => h x (by simp [hx]))
    have h2 : ((p.length : Int) == -1) = false := by rw [beq_eq_false_iff_ne]; omega
    simp [Lib.indexByte, h1, ih, h2]
set_option maxRecDepth 100000 in
set_option maxHeartbeats 4000000 in
theorem stringslite_cut_no (l : List UInt8) (m : UInt8) (w : World) (h : ∀ c ∈ l, c ≠ m) :
    Calls Try.prog 49 #[.string ⟨l.toArray⟩, .string ⟨#[m]⟩] w fun e w' => e = .returned (.tuple #[.string ⟨l.toArray⟩, .string ⟨#[]⟩, .bool false]) ∧ Below w.heap.size w w' := by
  have hix := fun W => Try.stringslite_Index_one ⟨l.toArray⟩ m W
  rw [show (ByteArray.mk l.toArray).data.toList = l from rfl, idx_none h] at hix
  go_enter Try.func49, Try.ntmps49
  go_wp2_with fail
  refine (hix _).mono ?_
  rintro e w' ⟨rfl, rfl⟩
  go_wp2_with fail
  go_ret3
  exact ⟨rfl, Below.refl _ _⟩
set_option maxRecDepth 100000 in
set_option maxHeartbeats 4000000 in
theorem stringslite_cut_yes (p t : List UInt8) (m : UInt8) (w : World) (h : ∀ c ∈ p, c ≠ m) (hl : (p ++ m :: t).length ≤ 1000000000) :
    Calls Try.prog 49 #[.string ⟨(p ++ m :: t).toArray⟩, .string ⟨#[m]⟩] w fun e w' => e = .returned (.tuple #[.string ⟨p.toArray⟩, .string ⟨t.toArray⟩, .bool true]) ∧ Below w.heap.size w w' := by
  have hix := fun W => Try.stringslite_Index_one ⟨(p ++ m :: t).toArray⟩ m W
  rw [show (ByteArray.mk (p ++ m :: t).toArray).data.toList = p ++ m :: t from by simp, idx_mark h] at hix
  have hto := fun W => str_to (p ++ m :: t) p.length (by simp) W
  rw [List.take_left] at hto
  have hfr := fun W => str_from (p ++ m :: t) (p.length + 1) (by simp) W
  rw [show (p ++ m :: t).drop (p.length + 1) = t from by rw [← List.drop_drop, List.drop_left]; rfl, show (((p.length + 1 : Nat)) : Int) = (p.length : Int) + 1 from by omega] at hfr
  rw [List.length_append, List.length_cons] at hl
  have i1 : (0 : Int) ≤ (p.length : Int) := by omega
  have i2 : IntKind.i64.wrap ((p.length : Int) + 1) = (p.length : Int) + 1 := IntWalk.i64_in _ ⟨by omega, by omega⟩
  generalize hL : p ++ m :: t = L at *
  have i3 : (p.length : Int) ≤ (L.length : Int) := by rw [← hL]; simp; omega
  have i4 : (p.length : Int) + 1 ≤ (L.length : Int) := by rw [← hL]; simp; omega
  clear hL
  go_enter Try.func49, Try.ntmps49
  go_wp2_with fail
  refine (hix _).mono ?_
  rintro e w' ⟨rfl, rfl⟩
  go_upto_region 3 with (fail)
  go_region_held3 (fun Y => Below w'.heap.size w' Y) ((((repeat' (first | with_reducible assumption | with_reducible exact Below.refl _ _ | with_reducible refine Below.drew ?_ | with_reducible refine below_drewN ?_ _ | with_reducible refine balloc ?_ _ | with_reducible refine bset ?_ ?_ _ | with_reducible refine Below.setCell ?_ ?_ _ | with_reducible refine Below.alloc ?_ ?_ _ | omega | (simp; done) | (simp; omega)))))) ((fail))
  go_wp2_with fail
  go_ret3
  exact ⟨rfl, (Below.refl _ _).drew⟩
theorem strings_cut_no (l : List UInt8) (m : UInt8) (w : World) (h : ∀ c ∈ l, c ≠ m) :
    Calls Try.prog 25 #[.string ⟨l.toArray⟩, .string ⟨#[m]⟩] w fun e w' => e = .returned (.tuple #[.string ⟨l.toArray⟩, .string ⟨#[]⟩, .bool false]) ∧ Below w.heap.size w w' := by
  have hc := fun W => stringslite_cut_no l m W h
  go_enter Try.func25, Try.ntmps25
  go_wp2_with fail
  refine (hc _).mono ?_
  rintro e w' ⟨rfl, hb⟩
  go_wp2_with fail
  go_ret3
  exact ⟨rfl, hb⟩
theorem strings_cut_yes (p t : List UInt8) (m : UInt8) (w : World) (h : ∀ c ∈ p, c ≠ m) (hl : (p ++ m :: t).length ≤ 1000000000) :
    Calls Try.prog 25 #[.string ⟨(p ++ m :: t).toArray⟩, .string ⟨#[m]⟩] w fun e w' => e = .returned (.tuple #[.string ⟨p.toArray⟩, .string ⟨t.toArray⟩, .bool true]) ∧ Below w.heap.size w w' := by
  have hc := fun W => stringslite_cut_yes p t m W h hl
  generalize p ++ m :: t = L at *
  go_enter Try.func25, Try.ntmps25
  go_wp2_with fail
  refine (hc _).mono ?_
  rintro e w' ⟨rfl, hb⟩
  go_wp2_with fail
  go_ret3
  exact ⟨rfl, hb⟩
end Go.Proofs.Ythlbmlfkmfheiaa
