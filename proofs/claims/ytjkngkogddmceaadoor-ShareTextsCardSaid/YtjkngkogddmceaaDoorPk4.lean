/- Walks: the program's Parse of a share's text; plain words: what Parse answers. -/
import Derived.Test.YtjkngkogddmceaaDoorPk3
import Derived.Lib.SmallJoins
import Derived.Lib.AtoiAllMem
import Derived.Shelf.Abstract
import Derived.Deep.LoopGhost
namespace Go.Proofs.YtjkngkogddmceaaDoor
open Go Go.RowKit
set_option linter.unusedVariables false
def atoiV (l : List UInt8) : Int :=
  match Lib.atoiAll l with
  | .ok v => v
  | .range => Lib.atoiSat l
  | _ => 0
def outS (s : List UInt8) : List Int := (wordsL 32 s).map atoiV
def fmtLs (xs : List Int) : List UInt8 := fmtS xs.length (fun k => xs.getD k 0)
def prsE (s : List UInt8) : Int := if 65536 < s.length then 3 else if s = [] then 0 else if fmtLs (outS s) = s then 0 else 2
def prsL (s : List UInt8) : List Int := if 65536 < s.length then [] else if s = [] then [] else if fmtLs (outS s) = s then outS s else []
/-- what Atoi and Split read of the package variables -/
def EnvS (w : World) : Prop := (∃ tp p, w.var? Tryd.prog "strconv.ErrSyntax" = some #[.iface tp p]) ∧ (∃ tp p, w.var? Tryd.prog "strconv.ErrRange" = some #[.iface tp p]) ∧ ∃ m, w.cell? ⟨3, 0, none⟩ = some (.int .i64 m)
theorem var_belowS {P : Program} {w w' : World} {nm : String} {cs : Array Value} (h : w.var? P nm = some cs) (hb : Below w.heap.size w w') : w'.var? P nm = some cs := by
  unfold World.var? at *
  cases hg : P.globalNamed nm with
  | none => simp [hg] at h
  | some g =>
    simp only [hg, Option.bind_some] at h ⊢
    have hlt : g < w.heap.size := by
      rcases Nat.lt_or_ge g w.heap.size with h' | h'
      · exact h'
      · rw [Array.getElem?_eq_none h'] at h; cases h
    rw [hb.block g hlt]
    exact h
theorem cell_lt {w : World} {g i : Nat} {v : Value} (h : w.cell? ⟨g, i, none⟩ = some v) : g < w.heap.size := by
  rcases Nat.lt_or_ge g w.heap.size with h' | h'
  · exact h'
  · simp [World.cell?, Array.getElem?_eq_none h'] at h
theorem EnvS.below {w w' : World} (h : EnvS w) (hb : Below w.heap.size w w') : EnvS w' := by
  obtain ⟨⟨t1, p1, h1⟩, ⟨t2, p2, h2⟩, m, h3⟩ := h
  exact ⟨⟨t1, p1, var_belowS h1 hb⟩, ⟨t2, p2, var_belowS h2 hb⟩, m, (bcell hb _ _ (cell_lt h3)).trans h3⟩
theorem atoi_calls (x : List UInt8) (w : World) (hx : x.length ≤ 1000000) (HE : EnvS w) : Calls Tryd.prog 18 #[.string ⟨x.toArray⟩] w fun e w' => ∃ ev, e = .returned (.tuple #[.int .i64 (atoiV x), ev]) ∧ Below w.heap.size w w' := by
  obtain ⟨⟨t1, p1, h1⟩, ⟨t2, p2, h2⟩, m, h3⟩ := HE
  have hs := vStr_size x
  unfold atoiV
  cases ha : Lib.atoiAll x
  · rename_i v
    refine (Tryd.strconv_Atoi_ok ⟨x.toArray⟩ (by omega) v ha w).mono ?_
    rintro e w' ⟨rfl, rfl | ⟨t, rfl⟩⟩
    · exact ⟨_, rfl, Below.refl _ _⟩
    · exact ⟨_, rfl, Lib.bytesWorld_below _ _ _⟩
  · refine (Tryd.strconv_Atoi_syntax_var ⟨x.toArray⟩ (by omega) ha t1 p1 w h1).mono ?_
    rintro e w' ⟨N, rfl, _, _, hb⟩
    exact ⟨_, rfl, hb⟩
  · refine (Tryd.strconv_Atoi_range_var ⟨x.toArray⟩ (by omega) ha t2 p2 w h2).mono ?_
    rintro e w' ⟨N, rfl, _, _, hb⟩
    exact ⟨_, rfl, hb⟩
theorem split_calls (s : List UInt8) (w : World) (hs : s.length ≤ 1000000) (HE : EnvS w) : Calls Tryd.prog 17 #[.string ⟨s.toArray⟩, .string ⟨#[32]⟩] w (WordsPost s 32 w) := by
  obtain ⟨_, _, m, h3⟩ := HE
  have hz := vStr_size s
  refine (Tryd.strings_Split ⟨s.toArray⟩ ⟨#[32]⟩ m w (by omega) h3 (by decide)).mono ?_
  rintro e w' ⟨rfl, rfl⟩
  have hl := Lib.splitB_all ⟨#[32]⟩ (by decide) 0 _ ⟨s.toArray⟩ rfl
  have hd : (Lib.splitB ⟨#[32]⟩ 0 (Lib.countB ⟨s.toArray⟩ ⟨#[32]⟩) ⟨s.toArray⟩).map (·.data.toList) = wordsL 32 s := (Lib.splitB_data _ _ _ _).trans (split_words 32 s)
  rw [← hl]
  generalize Lib.splitB ⟨#[32]⟩ 0 (Lib.countB ⟨s.toArray⟩ ⟨#[32]⟩) ⟨s.toArray⟩ = xs at *
  have hlen : xs.length = (wordsL 32 s).length := by rw [← hd, List.length_map]
  refine ⟨some ⟨w.heap.size, 0, none⟩, xs.length, by rw [hlen], fun k hk => ⟨w.heap.size, 0, rfl, by simp, ?_⟩, below_alloc _ _⟩
  have hk' : k < xs.length := by omega
  have := cell_new w (xs.map Value.string).toArray 9 k (.string xs[k]) (by simp [hk'])
  rw [Nat.zero_add]
  refine this.trans ?_
  rw [← hd]
  simp [List.getD_eq_getElem?_getD, hk']
theorem words_le {m : UInt8} : ∀ {s : List UInt8} {x : List UInt8}, x ∈ wordsL m s → x.length ≤ s.length
  | [], x, h => by simp [wordsL] at h; subst h; simp
  | c :: t, x, h => by
    simp only [wordsL] at h
    split at h
    · rcases List.mem_cons.1 h with rfl | h
      · simp
      · have := words_le h; simp; omega
    · cases hw : wordsL m t with
      | nil => rw [hw] at h; simp [consW] at h; subst h; simp
      | cons y r =>
        rw [hw] at h
        simp only [consW] at h
        rcases List.mem_cons.1 h with rfl | h
        · have := words_le (m := m) (s := t) (x := y) (by rw [hw]; simp); simp; omega
        · have := words_le (m := m) (s := t) (x := x) (by rw [hw]; simp [h]); simp; omega
theorem take_map_snoc {α β : Type} (f : α → β) (ws : List α) {k : Nat} (hk : k < ws.length) : (ws.take (k + 1)).map f = (ws.take k).map f ++ [f ws[k]] := by
  rw [List.take_add_one, List.getElem?_eq_getElem hk, List.map_append]; rfl
set_option maxRecDepth 100000 in
set_option maxHeartbeats 4000000 in
theorem share_Parse (s : List UInt8) (w : World) (hs : s.length ≤ 1000000) (HE : EnvS w) : Calls Tryd.prog 6 #[.string ⟨s.toArray⟩] w (ListPost (prsL s) (prsE s) w) := by
  obtain ⟨i0, hi, hz0, hz1, hz2⟩ := info_parts infoI
  obtain ⟨E, hE⟩ : ∃ E, prsE s = E := ⟨_, rfl⟩
  obtain ⟨L, hL⟩ : ∃ L, prsL s = L := ⟨_, rfl⟩
  rw [hE, hL]
  unfold prsE at hE
  unfold prsL at hL
  have hsz := vStr_size s
  by_cases hlong : 65536 < s.length
  · rw [if_pos hlong] at hE hL
    obtain rfl : (3 : Int) = E := hE
    obtain rfl : [] = L := hL
    have il : (65536 : Int) < (s.length : Int) := by omega
    go_enter Tryd.func6, Tryd.ntmps6
    go_wp2_with fail
    go_ret2
    exact listPost_nil (Below.refl _ _)
  have il : ¬ (65536 : Int) < (s.length : Int) := by omega
  rw [if_neg hlong] at hE hL
  by_cases h0 : s = []
  · rw [if_pos h0] at hE hL
    obtain rfl : (0 : Int) = E := hE
    obtain rfl : [] = L := hL
    subst h0
    go_enter Tryd.func6, Tryd.ntmps6
    go_wp2_with fail
    go_ret2
    exact listPost_nil (Below.refl _ _)
  have hie : s.isEmpty = false := by cases s <;> simp_all
  rw [if_neg h0] at hE hL
  have HEL := hid (And.intro hE hL)
  clear hE hL h0
  have hsp := fun W HW => split_calls s W hs HW
  have hwl := words_length 32 s
  have hww := fun k (hk : k < (wordsL 32 s).length) => words_le (List.getElem_mem hk)
  have hlo : (outS s).length = (wordsL 32 s).length := by simp [outS]
  have hout : (wordsL 32 s).map atoiV = outS s := rfl
  unfold WordsPost at hsp
  generalize wordsL 32 s = ws at *
  have hwn : ws.length ≤ 1000001 := by omega
  have hat := fun k (hk : k < ws.length) W HW => atoi_calls ws[k] W (by have := hww k hk; omega) HW
  have hgd : ∀ k (hk : k < ws.length), ws.getD k [] = ws[k] := fun k hk => by rw [List.getD_eq_getElem?_getD, List.getElem?_eq_getElem hk]; rfl
  have hsn := fun k (hk : k < ws.length) => take_map_snoc atoiV ws hk
  have hln : ∀ k, k ≤ ws.length → ((ws.take k).map atoiV).length = k := fun k hk => by rw [List.length_map, List.length_take]; omega
  have hend : (ws.take ws.length).map atoiV = outS s := by rw [List.take_length]; exact hout
  have hfm := fun a c W HW => share_Format a (outS s).length c (fun k => (outS s).getD k 0) W (by omega) HW
  change ∀ a c W HW, Calls _ _ _ _ fun e w' => e = .returned (.string ⟨(fmtLs (outS s)).toArray⟩) ∧ _ at hfm
  have HAT := hid hat; have HGD := hid hgd; have HSN := hid hsn; have HLN := hid hln; have HEND := hid hend; have HFM := hid hfm
  have HLO := hid hlo
  clear hat hgd hsn hln hend hww hwl hout hfm hlo
  go_enter Tryd.func6, Tryd.ntmps6
  go_wp2_with (go_at_call 17; refine (hsp _ HE).mono ?_; rintro e w1 ⟨a, c, rfl, HS, hb1⟩)
  clear hsp
  have HE1 := HE.below hb1
  have hs1 := hb1.size
  go_loopw [4, 17] (fun v i wr => ∃ k : Nat, k ≤ ws.length ∧ i = .int .i64 (k : Int) ∧ wr.ownsRow w1.heap.size 3 1 v ((ws.take k).map atoiV).length (((ws.take k).map atoiV).map vInt) ∧ Below w1.heap.size w1 wr) (fun _ i _ => ws.length - (intOf i).toNat)
  case atStart => exact ⟨0, Nat.zero_le _, rfl, World.ownsRow_nil .., Below.refl _ _⟩
  case round =>
    obtain ⟨k, hk, rfl, hown, hB⟩ := hrel
    have hsz2 := hB.size
    by_cases hlt : k < ws.length
    · obtain ⟨b, off, rfl, hbl, hcl⟩ := HS k hlt
      have hck : wr.cell? ⟨b, off + k, none⟩ = some (.string ⟨(ws[k]).toArray⟩) := by rw [← HGD.out k hlt]; exact (bcell hB _ _ hbl).trans hcl
      have hln := HLN.out k hk
      have hd := HAT.out k hlt _ (HE1.below hB)
      have HSK := hid (HSN.out k hlt)
      obtain ⟨x, hx⟩ : ∃ x, ws[k] = x := ⟨_, rfl⟩
      rw [hx] at hck hd
      have HX := hid hx
      clear hcl hx
      go_wp2_with fail
      refine hd.mono ?_
      rintro e w2 ⟨ev, rfl, hb2⟩
      replace hown := own_below hown hb2
      have hB2 := bvia hB hb2
      have hsz3 := hb2.size
      clear hd
      obtain ⟨v, hv⟩ : ∃ v, atoiV x = v := ⟨_, rfl⟩
      rw [hv]
      have HV := hid hv; clear hv
      go_wp2_with (at_builtin; refine wpList_append_own _ rfl _ _ 22 rfl (w1.heap.size) 3 i0 (.int .i64 0) 1 8 Tryd.underlying22 hi hz0 hz1 hz2 rfl (by decide) _ _ _ rfl ((hown).alloc _) ⟨w2.heap.size, 0, none⟩ 1 1 [.int .i64 v] rfl rfl (cell_one_new _ _ _) (by simp [Value.oneCell']) (by simp [maxLen]; omega) (by omega) (by simp; omega) ?_; intro v' w3 hown' hgrow _)
      go_roundw
      case rel => exact ⟨k + 1, by omega, by go_num, (by rw [HSK.out, HX.out, HV.out]; exact own_snoc hown'), (hB2.alloc (by omega) _).grown hgrow (by simp; omega) (own_base hown)⟩
      case measure => simp [intOf]; omega
    · obtain rfl : k = ws.length := (by omega)
      rw [HEND.out] at hown
      obtain ⟨a', c', rfl, hsl⟩ := sl_of_own hown
      have hf := HFM.out a' c' _ hsl
      have hel := HEL.out
      have hBB := bvia hb1 hB
      obtain ⟨T, hT⟩ : ∃ T, fmtLs (outS s) = T := ⟨_, rfl⟩
      rw [hT] at hf hel
      by_cases heq : T = s
      · subst heq
        rw [if_pos rfl, if_pos rfl] at hel
        obtain ⟨rfl, rfl⟩ := hel
        clear hT
        go_wp2_with (go_at_call 5; refine hf.mono ?_; rintro e w2 ⟨rfl, hb2⟩)
        go_ret2
        exact ⟨a', c', rfl, hsl.below hb2, bvia hBB hb2⟩
      · rw [if_neg heq, if_neg heq] at hel
        obtain ⟨rfl, rfl⟩ := hel
        have hbe : (T == s) = false := by rw [beq_eq_false_iff_ne]; exact heq
        clear hT heq
        go_wp2_with (go_at_call 5; refine hf.mono ?_; rintro e w2 ⟨rfl, hb2⟩)
        go_ret2
        exact listPost_nil (bvia hBB hb2)
/-! ### plain law -/
theorem itsS_get {c : Nat → Int} {n k : Nat} (hk : k < n) : (itsS c n).getD k [] = Lib.itoa (c k) := by
  simp [itsS, List.getD_eq_getElem?_getD, hk]
theorem getD_ext {l r : List (List UInt8)} (hl : l.length = r.length) (h : ∀ k, k < l.length → l.getD k [] = r.getD k []) : l = r := by
  apply List.ext_getElem hl
  intro k h1 h2
  have := h k h1
  simpa [List.getD_eq_getElem?_getD, h1, h2] using this
theorem getD_extI {l r : List Int} (hl : l.length = r.length) (h : ∀ k, k < l.length → l.getD k 0 = r.getD k 0) : l = r := by
  apply List.ext_getElem hl
  intro k h1 h2
  have := h k h1
  simpa [List.getD_eq_getElem?_getD, h1, h2] using this
theorem atoiV_itoa {n : Int} (h : numB n) : atoiV (Lib.itoa n) = n := by
  unfold numB at h
  unfold atoiV
  rw [atoiAll_itoa n (by omega) (by omega)]
theorem outS_get {s : List UInt8} {k : Nat} (hk : k < (wordsL 32 s).length) : (outS s).getD k 0 = atoiV ((wordsL 32 s).getD k []) := by
  simp [outS, List.getD_eq_getElem?_getD, hk]
theorem outS_nums {s : List UInt8} {xs : List Int} (hn : xs.length = (wordsL 32 s).length) (h : ∀ k, k < (wordsL 32 s).length → numB (xs.getD k 0) ∧ (wordsL 32 s).getD k [] = Lib.itoa (xs.getD k 0)) : outS s = xs := by
  refine getD_extI (by simp [outS, hn]) fun k hk => ?_
  have hk' : k < (wordsL 32 s).length := by simpa [outS] using hk
  rw [outS_get hk', (h k hk').2, atoiV_itoa (h k hk').1]
theorem fmt_ok {s : List UInt8} {xs : List Int} (hn : xs.length = (wordsL 32 s).length) (h : ∀ k, k < (wordsL 32 s).length → numB (xs.getD k 0) ∧ (wordsL 32 s).getD k [] = Lib.itoa (xs.getD k 0)) (hv : vK 64 xs.length (fun k => xs.getD k 0) = true) : fmtLs xs = s := by
  unfold fmtLs fmtS
  rw [if_pos hv]
  have e : itsS (fun k => xs.getD k 0) xs.length = wordsL 32 s := getD_ext (by rw [itsS_length, hn]) fun k hk => by
    rw [itsS_length] at hk
    rw [itsS_get hk, (h k (by omega)).2]
  rw [e, unwords_words]
theorem fmt_no {s : List UInt8} {xs : List Int} (h0 : s ≠ []) (hv : vK 64 xs.length (fun k => xs.getD k 0) = false) : fmtLs xs ≠ s := by
  unfold fmtLs fmtS
  rw [hv]
  exact fun h => h0 h.symm
theorem fmt_words {s : List UInt8} {xs : List Int} (h0 : s ≠ []) (h : fmtLs xs = s) : vK 64 xs.length (fun k => xs.getD k 0) = true ∧ wordsL 32 s = itsS (fun k => xs.getD k 0) xs.length := by
  cases hv : vK 64 xs.length (fun k => xs.getD k 0)
  · exact absurd h (fmt_no h0 hv)
  · refine ⟨rfl, ?_⟩
    unfold fmtLs fmtS at h
    rw [if_pos hv] at h
    rw [← h]
    refine words_unwords ?_ ?_
    · intro e
      rw [e] at h
      exact h0 h.symm
    · intro x hx c hc
      obtain ⟨j, hj, rfl⟩ := List.mem_map.1 hx
      exact itoa_no (by decide) c hc
theorem fmt_bad {s : List UInt8} {k : Nat} (h0 : s ≠ []) (hk : k < (wordsL 32 s).length) (h : ∀ m, numB m → (wordsL 32 s).getD k [] ≠ Lib.itoa m) : fmtLs (outS s) ≠ s := fun e => by
  obtain ⟨h1, h2⟩ := fmt_words h0 e
  have hk2 : k < (outS s).length := by simpa [outS] using hk
  have h3' := ((vK_iff _ _ _).1 h1).2 k hk2
  have h3 : 0 ≤ (outS s).getD k 0 ∧ (outS s).getD k 0 ≤ 64 := ⟨h3'.1, h3'.2.1⟩
  refine h ((outS s).getD k 0) (by unfold numB; omega) ?_
  rw [h2, itsS_get hk2]
set_option maxRecDepth 100000 in
set_option maxHeartbeats 4000000 in
theorem ref9_Parse (s : List UInt8) (w : World) (hs : s.length ≤ 1000000) : Calls Tryd.prog 7 #[.string ⟨s.toArray⟩] w (ListPost (prsL s) (prsE s) w) := by
  obtain ⟨E, hE⟩ : ∃ E, prsE s = E := ⟨_, rfl⟩
  obtain ⟨L, hL⟩ : ∃ L, prsL s = L := ⟨_, rfl⟩
  rw [hE, hL]
  unfold prsE at hE
  unfold prsL at hL
  have hsz := vStr_size s
  by_cases hlong : 65536 < s.length
  · rw [if_pos hlong] at hE hL
    obtain rfl : (3 : Int) = E := hE
    obtain rfl : [] = L := hL
    have il : (65536 : Int) < (s.length : Int) := by omega
    go_enter Tryd.func7, Tryd.ntmps7
    go_wp2_with fail
    go_ret2
    exact listPost_nil (Below.refl _ _)
  have il : ¬ (65536 : Int) < (s.length : Int) := by omega
  rw [if_neg hlong] at hE hL
  by_cases h0 : s = []
  · rw [if_pos h0] at hE hL
    obtain rfl : (0 : Int) = E := hE
    obtain rfl : [] = L := hL
    subst h0
    go_enter Tryd.func7, Tryd.ntmps7
    go_wp2_with fail
    go_ret2
    exact listPost_nil (Below.refl _ _)
  have hie : s.isEmpty = false := by cases s <;> simp_all
  rw [if_neg h0] at hE hL
  have HEL := hid (And.intro hE hL)
  have H0 := hid h0
  clear hE hL h0
  have hcut := fun W => ref6_Cut s 32 W hs
  have hwl := words_length 32 s
  have hww := fun k (hk : k < (wordsL 32 s).length) => words_le (List.getElem_mem hk)
  have hnm := fun a c W HW => ref6_Numbers a (wordsL 32 s).length c (fun k => (wordsL 32 s).getD k []) W (by omega) (fun k hk => by
    have := hww k hk
    rw [List.getD_eq_getElem?_getD, List.getElem?_eq_getElem hk]
    show (wordsL 32 s)[k].length ≤ _
    omega) HW
  clear hww hwl
  go_enter Tryd.func7, Tryd.ntmps7
  go_wp2_with fail
  refine (hcut _).mono ?_
  rintro e w1 ⟨a, c, rfl, HS, hb1⟩
  go_wp2_with fail
  refine (hnm a c _ HS).mono ?_
  rintro e w2 (⟨xs, a', c', hxn, hall, rfl, hsl, hb2⟩ | ⟨rfl, ⟨k, hk, hbad⟩, hb2⟩)
  · have ho : outS s = xs := outS_nums hxn hall
    have hB := bvia hb1 hb2
    have hel := HEL.out
    have hsh := ref9_shared a' xs.length c' 64 (fun k => xs.getD k 0) w2 (by
      have := words_length 32 s
      omega) (by omega) hsl
    cases hv : vK 64 xs.length (fun k => xs.getD k 0)
    · rw [ho, if_neg (fmt_no H0.out hv), if_neg (fmt_no H0.out hv)] at hel
      obtain ⟨rfl, rfl⟩ := hel
      rw [hv] at hsh
      clear hall ho hv hxn hnm hcut
      go_wp2_with (go_at_call 21; refine hsh.mono ?_; rintro e w3 ⟨rfl, hb3⟩)
      go_ret2
      exact listPost_nil (bvia hB hb3)
    · rw [ho, if_pos (fmt_ok hxn hall hv), if_pos (fmt_ok hxn hall hv)] at hel
      obtain ⟨rfl, rfl⟩ := hel
      rw [hv] at hsh
      clear hall ho hv hxn hnm hcut
      go_wp2_with (go_at_call 21; refine hsh.mono ?_; rintro e w3 ⟨rfl, hb3⟩)
      go_ret2
      exact ⟨a', c', rfl, hsl.below hb3, bvia hB hb3⟩
  · have hB := bvia hb1 hb2
    have hel := HEL.out
    have hn := fmt_bad H0.out hk hbad
    rw [if_neg hn, if_neg hn] at hel
    obtain ⟨rfl, rfl⟩ := hel
    clear hn hbad hnm hcut hk
    go_wp2_with fail
    go_ret2
    exact listPost_nil hB
end Go.Proofs.YtjkngkogddmceaaDoor
/- Walks of the share layer: sums, the greedy share, halving, the least peak of the program. -/
namespace Go.Proofs.YtjkngkogddmceaaDoor
open Go Go.RowKit
set_option linter.unusedVariables false
def okF (n : Nat) (f : Nat → Int) : Prop := ∀ k, k < n → 0 ≤ f k ∧ f k ≤ 1000000000
theorem okF_pos {n : Nat} {f : Nat → Int} (h : okF n f) : ∀ k, k < n → 0 ≤ f k := fun k hk => (h k hk).1
theorem share_sum (a : Option Addr) (n ca : Nat) (f : Nat → Int) (w : World) (hn : n ≤ 64) (hf : okF n f) (H : Sl w a n f) : Calls Tryd.prog 39 #[.slice a n ca] w fun e w' => e = .returned (.int .i64 (sumTo f n)) ∧ w = w' := by
  have HF := hid hf; clear hf
  go_enter Tryd.func39, Tryd.ntmps39
  go_wp2
  go_loop [3, 8] (fun t i => ∃ k : Nat, k ≤ n ∧ i = .int .i64 k ∧ t = .int .i64 (sumTo f k)) (fun _ i => n - (intOf i).toNat)
  case atStart => exact ⟨0, Nat.zero_le _, rfl, rfl⟩
  case round =>
    obtain ⟨k, hk, rfl, rfl⟩ := hrel
    obtain ⟨s0, s1⟩ := sumTo_most HF.out k hk
    by_cases hlt : k < n
    · obtain ⟨b, off, rfl, hb, hc⟩ := H k hlt
      obtain ⟨f0, f1⟩ := HF.out k hlt
      go_wp2
      go_round
      case rel => exact ⟨k + 1, by omega, by go_num, rfl⟩
      case measure => simp [intOf]; omega
    · obtain rfl : k = n := (by omega)
      go_wp2
      go_ret
      exact ⟨rfl, rfl⟩
/-- what greedy gives: a list and whether it goes -/
def grL (f : Nat → Int) (M : Int) (n : Nat) : List Int := match gr f M n with | none => [] | some (cs, _) => cs
def grB (f : Nat → Int) (M : Int) (n : Nat) : Bool := (gr f M n).isSome
def ListB (xs : List Int) (b : Bool) (w : World) (e : Ending) (w' : World) : Prop :=
  ∃ a c, e = .returned (.tuple #[.slice a xs.length c, .bool b]) ∧ Sl w' a xs.length (fun k => xs.getD k 0) ∧ Below w.heap.size w w'
theorem listB_own {w w' : World} {base : Nat} {v : Value} {xs : List Int} {b : Bool} (h : w'.ownsRow base 3 1 v xs.length (xs.map vInt)) (hb : Below w.heap.size w w') :
    ListB xs b w (.returned (.tuple #[v, .bool b])) w' := by
  obtain ⟨a, c, rfl, hs⟩ := sl_of_own h
  exact ⟨a, c, rfl, hs, hb⟩
theorem gr_fall {f : Nat → Int} {M : Int} {k : Nat} (h : gr f M k = none ∨ M < f k) : ∀ n, k < n → gr f M n = none
  | 0, hn => by omega
  | n + 1, hn => by
    rcases Nat.lt_succ_iff_lt_or_eq.1 hn with h' | rfl
    · simp only [gr, gr_fall h n h']
    · rcases h with h | h
      · simp only [gr, h]
      · simp only [gr]
        cases gr f M k with
        | none => rfl
        | some p => simp [h]
theorem gr_step {f : Nat → Int} {M now : Int} {k : Nat} {cs : List Int} (e : gr f M k = some (cs, now)) (hf : f k ≤ M) : gr f M (k + 1) = if M < now + f k then some (cs ++ [(k : Int)], f k) else some (cs, now + f k) := by
  simp only [gr, e]; rw [if_neg (by omega)]
set_option maxRecDepth 100000 in
set_option maxHeartbeats 1000000 in
theorem share_greedy (a : Option Addr) (n ca : Nat) (f : Nat → Int) (M : Int) (w : World) (hn : n ≤ 64) (hf : okF n f) (hM : 0 ≤ M) (hM2 : M ≤ 64000000000) (H : Sl w a n f) : Calls Tryd.prog 57 #[.slice a n ca, .int .i64 M] w (ListB (grL f M n) (grB f M n) w) := by
  obtain ⟨i0, hi, hz0, hz1, hz2⟩ := info_parts infoI
  have HF := hid hf; clear hf
  go_enter Tryd.func57, Tryd.ntmps57
  go_wp2
  go_loopw [6, 7, 12] (fun v t i wr => ∃ (k : Nat) (cs : List Int) (now : Int), k ≤ n ∧ i = .int .i64 k ∧ t = .int .i64 now ∧ wr.ownsRow w.heap.size 3 1 v cs.length (cs.map vInt) ∧ gr f M k = some (cs, now) ∧ Below w.heap.size w wr) (fun _ _ i _ => n - (intOf i).toNat)
  case atStart => exact ⟨0, [], 0, Nat.zero_le _, rfl, rfl, World.ownsRow_nil .., rfl, Below.refl _ _⟩
  case round =>
    obtain ⟨k, cs, now, hk, rfl, rfl, hown, hgr, hb⟩ := hrel
    obtain ⟨_, _, hl, hnow, hle, _, _⟩ := gr_inv (okF_pos HF.out) hM k hk cs now hgr
    have hn0 : 0 ≤ now := by rw [hnow]; exact sg_nonneg (okF_pos HF.out) (gr_inv (okF_pos HF.out) hM k hk cs now hgr).1 hk
    have HG := hid hgr
    clear hnow hgr
    by_cases hlt : k < n
    · obtain ⟨b, off, rfl, hbl, hc⟩ := (H.below hb) k hlt
      obtain ⟨f0, f1⟩ := HF.out k hlt
      by_cases hgt : M < f k
      · have hnone := gr_fall (.inr hgt) n hlt
        have HN := hid hnone; clear hnone
        go_wp2
        go_ret2
        have e1 : grL f M n = [] := by simp [grL, HN.out]
        have e2 : grB f M n = false := by simp [grB, HN.out]
        rw [e1, e2]
        exact ⟨none, 0, rfl, fun k hk => absurd hk (by simp), hb⟩
      · have hst := gr_step HG.out (by omega)
        by_cases hgt2 : M < now + f k
        · rw [if_pos hgt2] at hst
          have HST := hid hst; clear hst
          have hzb := hb.size
          go_wp2_with (at_builtin; refine wpList_append_own _ rfl _ _ 22 rfl (w.heap.size) 3 i0 (.int .i64 0) 1 8 Tryd.underlying22 hi hz0 hz1 hz2 rfl (by decide) _ _ _ rfl ((hown).alloc _) ⟨wr.heap.size, 0, none⟩ 1 1 [.int .i64 ((k : Int))] rfl rfl (cell_one_new _ _ _) (by simp [Value.oneCell']) (by simp [maxLen]; omega) (by omega) (by simp; omega) ?_; intro v' w1 hown' hgrow _)
          go_roundw
          case rel => exact ⟨k + 1, cs ++ [(k : Int)], f k, by omega, by go_num, by simp, own_snoc hown', HST.out, (hb.alloc hb.size _).grown hgrow (by have := hb.size; simp; omega) (own_base hown)⟩
          case measure => simp [intOf]; omega
        · rw [if_neg hgt2] at hst
          have HST := hid hst; clear hst
          go_wp2
          go_roundw
          case rel => exact ⟨k + 1, cs, now + f k, by omega, by go_num, rfl, hown, HST.out, hb⟩
          case measure => simp [intOf]; omega
    · obtain rfl : k = n := (by omega)
      go_wp2
      go_ret2
      have e1 : grL f M k = cs := by simp [grL, HG.out]
      have e2 : grB f M k = true := by simp [grB, HG.out]
      rw [e1, e2]
      exact listB_own hown hb
theorem fitsB_gr (f : Nat → Int) (n k : Nat) (M : Int) : fitsB f n k M = (grB f M n && decide ((grL f M n).length < k)) := by
  unfold fitsB grB grL
  split
  · rename_i e; simp [e]
  · rename_i e; simp [e]
set_option maxRecDepth 100000 in
theorem share_fits (a : Option Addr) (n ca k : Nat) (f : Nat → Int) (M : Int) (w : World) (hn : n ≤ 64) (hf : okF n f) (hM : 0 ≤ M) (hM2 : M ≤ 64000000000) (H : Sl w a n f) : Calls Tryd.prog 41 #[.slice a n ca, .int .i64 (k : Int), .int .i64 M] w fun e w' => e = .returned (.bool (fitsB f n k M)) ∧ Below w.heap.size w w' := by
  have hg := fun W H => share_greedy a n ca f M W hn hf hM hM2 H
  rw [fitsB_gr]
  cases hb : grB f M n
  · rw [hb] at hg
    go_enter Tryd.func41, Tryd.ntmps41
    go_wp2_with (go_at_call 57; refine (hg _ H).mono ?_; rintro e w1 ⟨a1, c1, rfl, S1, hb1⟩)
    go_ret
    exact ⟨rfl, hb1⟩
  · rw [hb] at hg
    by_cases hlt : (grL f M n).length < k
    · go_enter Tryd.func41, Tryd.ntmps41
      go_wp2_with (go_at_call 57; refine (hg _ H).mono ?_; rintro e w1 ⟨a1, c1, rfl, S1, hb1⟩)
      go_ret
      exact ⟨ret_bool (by simp; omega), hb1⟩
    · go_enter Tryd.func41, Tryd.ntmps41
      go_wp2_with (go_at_call 57; refine (hg _ H).mono ?_; rintro e w1 ⟨a1, c1, rfl, S1, hb1⟩)
      go_ret
      exact ⟨ret_bool (by simp; omega), hb1⟩
/-- halving: the least number at which something holds -/
def HalfPost (P : Int → Bool) (lo hi : Int) (w : World) (e : Ending) (w' : World) : Prop :=
  ∃ z : Int, e = .returned (.int .i64 z) ∧ lo ≤ z ∧ z ≤ hi ∧ (∀ y, lo ≤ y → y < z → P y = false) ∧ (z < hi → P z = true) ∧ Below w.heap.size w w'
set_option maxRecDepth 100000 in
set_option maxHeartbeats 1000000 in
theorem share_halved (P : Int → Bool) (lo hi : Int) (gf : Nat) (lb : Array Value) (w : World) (h0 : 0 ≤ lo) (h1 : lo ≤ hi) (h2 : hi ≤ 64000000000)
    (hmono : ∀ x y, lo ≤ x → x ≤ y → y < hi → P x = true → P y = true) (hf : ∀ n W, lo ≤ n → n < hi → Below w.heap.size w W → Calls Tryd.prog gf (#[.int .i64 n] ++ lb) W fun e W' => e = .returned (.bool (P n)) ∧ Below W.heap.size W W')
    (eg : ∀ args w, (callFunc gf args).run Tryd.prog w = .ok (.enter gf args) w) :
    Calls Tryd.prog 38 #[.int .i64 lo, .int .i64 hi, .func (.func gf) #[] lb] w (HalfPost P lo hi w) := by
  have HM := hid hmono; clear hmono
  go_enter Tryd.func38, Tryd.ntmps38
  go_wp2
  go_loopw [0, 1] (fun s0 s1 wr => ∃ l h : Int, s0 = .int .i64 l ∧ s1 = .int .i64 h ∧ lo ≤ l ∧ l ≤ h ∧ h ≤ hi ∧ (∀ y, lo ≤ y → y < l → P y = false) ∧ (h < hi → P h = true) ∧ Below w.heap.size w wr) (fun s0 s1 _ => (intOf s1 - intOf s0).toNat)
  case atStart => exact ⟨lo, hi, rfl, rfl, by omega, h1, by omega, fun y a b => by omega, fun h => by omega, Below.refl _ _⟩
  case round =>
    obtain ⟨l, h, rfl, rfl, g1, g2, g3, g4, g5, hb⟩ := hrel
    have G4 := hid g4; have G5 := hid g5; clear g4 g5
    by_cases hlt : l < h
    · have m1 : l ≤ (l + h) / 2 := by omega
      have m2 : (l + h) / 2 < h := by omega
      have hcall := hf ((l + h) / 2) wr (by omega) (by omega) hb
      obtain ⟨m, hm⟩ : ∃ m, (l + h) / 2 = m := ⟨_, rfl⟩
      rw [hm] at hcall m1 m2
      have HMM := hid hm
      cases hp : P m
      · rw [hp] at hcall
        have hfalse : ∀ y, lo ≤ y → y < m + 1 → P y = false := fun y a b => by
          cases hy : P y
          · rfl
          · have := HM.out y m a (by omega) (by omega) hy; rw [hp] at this; cases this
        have HFA := hid hfalse; clear hfalse hm
        go_wp2_with fail
        rw [HMM.out]
        refine hcall.mono ?_
        rintro e w1 ⟨rfl, hb1⟩
        go_wp2
        go_roundw
        case rel => exact ⟨m + 1, h, rfl, rfl, by omega, by omega, g3, HFA.out, G5.out, bvia hb hb1⟩
        case measure => have := HMM.out; simp [intOf]; omega
      · rw [hp] at hcall
        have HP := hid hp; clear hp hm
        go_wp2_with fail
        rw [HMM.out]
        refine hcall.mono ?_
        rintro e w1 ⟨rfl, hb1⟩
        go_wp2
        go_roundw
        case rel => exact ⟨l, m, rfl, rfl, g1, m1, by omega, G4.out, fun _ => HP.out, bvia hb hb1⟩
        case measure => have := HMM.out; simp [intOf]; omega
    · obtain rfl : l = h := (by omega)
      go_wp2
      go_ret
      exact ⟨l, rfl, g1, g3, G4.out, G5.out, hb⟩
end Go.Proofs.YtjkngkogddmceaaDoor
/- Walks of the share layer: the least peak and the best share of the program. -/
namespace Go.Proofs.YtjkngkogddmceaaDoor
open Go Go.RowKit
set_option linter.unusedVariables false
theorem ent_least : ∀ args w, (callFunc 40 args).run Tryd.prog w = .ok (.enter 40 args) w := Go.Proofs.enters_of Tryd.func40 (by kernel_rfl) rfl
set_option maxRecDepth 100000 in
theorem share_least1 (n k ca bl bk : Nat) (a : Option Addr) (f : Nat → Int) (w₀ : World) (hn : n ≤ 64) (hf : okF n f) (Xl : Bx w₀ bl #[.slice a n ca]) (Xk : Bx w₀ bk #[.int .i64 (k : Int)]) (H : Sl w₀ a n f)
    (M : Int) (W : World) (hM : 0 ≤ M) (hM2 : M ≤ 64000000000) (hW : Below w₀.heap.size w₀ W) :
    Calls Tryd.prog 40 (#[.int .i64 M] ++ #[.pointer (some ⟨bl, 0, none⟩), .pointer (some ⟨bk, 0, none⟩)]) W fun e W' => e = .returned (.bool (fitsB f n k M)) ∧ Below W.heap.size W W' := by
  have l0 := (Xl.below hW).at_ 0 rfl
  have k0 := (Xk.below hW).at_ 0 rfl
  have HW := H.below hW
  show Calls Tryd.prog 40 #[.int .i64 M, .pointer (some ⟨bl, 0, none⟩), .pointer (some ⟨bk, 0, none⟩)] W _
  go_enter Tryd.func40, Tryd.ntmps40
  go_wp2_with (go_at_call 41; refine (share_fits a n ca k f M _ hn hf hM hM2 HW).mono ?_; rintro e w1 ⟨rfl, hb1⟩)
  go_ret
  exact ⟨rfl, hb1⟩
theorem fits_mono {f : Nat → Int} {n k : Nat} (hn : 0 < n) (h : ∀ k, k < n → 0 ≤ f k) {x y : Int} (h0 : 0 ≤ x) (hxy : x ≤ y) (hx : fitsB f n k x = true) : fitsB f n k y = true :=
  (fitsB_iff h (by omega) hn).2 (((fitsB_iff h h0 hn).1 hx).mono hxy)
theorem half_least {f : Nat → Int} {n k : Nat} (hn : 0 < n) (h : ∀ k, k < n → 0 ≤ f k) (hk : 0 < k) {z : Int} (z0 : 0 ≤ z) (z1 : z ≤ sumTo f n) (z2 : ∀ y, 0 ≤ y → y < z → fitsB f n k y = false) (z3 : z < sumTo f n → fitsB f n k z = true) : z = leastL f n k := by
  have l0 := leastL_nonneg h hk
  have l1 := leastL_le h hk
  rcases Int.lt_trichotomy z (leastL f n k) with h' | h' | h'
  · have := z3 (by omega)
    rw [fits_least h hn hk z0] at this
    have := of_decide_eq_true this
    omega
  · exact h'
  · have := z2 _ l0 h'
    rw [fits_least h hn hk l0] at this
    simp at this
set_option maxRecDepth 100000 in
set_option maxHeartbeats 1000000 in
theorem share_least (a : Option Addr) (n ca k : Nat) (f : Nat → Int) (w : World) (hv : validL n f) (hk : 0 < k) (H : Sl w a n f) :
    Calls Tryd.prog 24 #[.slice a n ca, .int .i64 (k : Int)] w fun e w' => e = .returned (.int .i64 (leastL f n k)) ∧ Below w.heap.size w w' := by
  obtain ⟨v1, v2, hf⟩ := hv
  obtain ⟨s0, s1⟩ := sumTo_most hf n (Nat.le_refl _)
  have hs0 := s0
  have X0 := (Bx.new w #[.slice a n ca] 22).alloc (.cells #[.int .i64 (k : Int)] 3)
  have X1 := Bx.new (w.alloc (.cells #[.slice a n ca] 22)) #[.int .i64 (k : Int)] 3
  simp only [World.size_alloc] at X1
  have hB0 : Below w.heap.size w ((w.alloc (.cells #[.slice a n ca] 22)).alloc (.cells #[.int .i64 (k : Int)] 3)) := by (repeat' (first | with_reducible assumption | with_reducible exact Below.refl _ _ | with_reducible refine Below.drew ?_ | with_reducible refine below_drewN ?_ _ | with_reducible refine balloc ?_ _ | with_reducible refine bset ?_ ?_ _ | with_reducible refine Below.setCell ?_ ?_ _ | with_reducible refine Below.alloc ?_ ?_ _ | omega | (simp; done) | (simp; omega)))
  have H0 := H.below hB0
  have hcall := fun M W => share_least1 n k ca w.heap.size (w.heap.size + 1) a f _ v2 hf X0 X1 H0 M W
  have hhalf := share_halved (fitsB f n k) 0 (sumTo f n) 40 #[.pointer (some ⟨w.heap.size, 0, none⟩), .pointer (some ⟨w.heap.size + 1, 0, none⟩)] ((w.alloc (.cells #[.slice a n ca] 22)).alloc (.cells #[.int .i64 (k : Int)] 3)) (by omega) s0 (by omega)
    (fun x y hx hxy _ h => fits_mono v1 (okF_pos hf) hx hxy h) (fun n W h0 h1 hW => hcall n W h0 (by omega) hW) ent_least
  clear hcall
  have HF := hid hf; clear hf
  go_enter Tryd.func24, Tryd.ntmps24
  go_wp2_with fail
  refine (share_sum a n ca f _ v2 HF.out H0).mono ?_
  rintro e w' ⟨rfl, rfl⟩
  go_wp2_with fail
  refine hhalf.mono ?_
  rintro e w2 ⟨z, rfl, z0, z1, z2, z3, hb2⟩
  have hz := half_least v1 (okF_pos HF.out) hk z0 z1 z2 z3
  have HZ := hid hz
  clear z2 z3 hz hhalf
  go_wp2_with fail
  go_ret
  exact ⟨ret_int HZ.out, bvia hB0 hb2⟩
/-- what Least gives -/
def leaR (f : Nat → Int) (n : Nat) (k : Int) : Int := if vL n f && within k 1 16 then leastL f n k.toNat else 0
set_option maxRecDepth 100000 in
set_option maxHeartbeats 1000000 in
theorem share_Least (a : Option Addr) (n ca : Nat) (k : Int) (f : Nat → Int) (w : World) (hn : n ≤ 100000000) (H : Sl w a n f) :
    Calls Tryd.prog 10 #[.slice a n ca, .int .i64 k] w fun e w' => e = .returned (.tuple #[.int .i64 (leaR f n k), .int .i64 (askS (vL n f) (within k 1 16))]) ∧ Below w.heap.size w w' := by
  cases hv : vL n f
  · have hE := hid (show leaR f n k = 0 by simp [leaR, hv])
    go_enter Tryd.func10, Tryd.ntmps10
    go_wp2_with (go_at_call 23; refine (share_among a n ca k f _ hn H).mono ?_; rintro e w' ⟨rfl, rfl⟩; rw [hv])
    all_goals
      go_ret2
      rw [hE.out]
      exact ⟨rfl, by (repeat' (first | with_reducible assumption | with_reducible exact Below.refl _ _ | with_reducible refine Below.drew ?_ | with_reducible refine below_drewN ?_ _ | with_reducible refine balloc ?_ _ | with_reducible refine bset ?_ ?_ _ | with_reducible refine Below.setCell ?_ ?_ _ | with_reducible refine Below.alloc ?_ ?_ _ | omega | (simp; done) | (simp; omega)))⟩
  · cases hk : within k 1 16
    · have hE := hid (show leaR f n k = 0 by simp [leaR, hk])
      go_enter Tryd.func10, Tryd.ntmps10
      go_wp2_with (go_at_call 23; refine (share_among a n ca k f _ hn H).mono ?_; rintro e w' ⟨rfl, rfl⟩; rw [hv, hk])
      go_ret2
      rw [hE.out]
      exact ⟨rfl, by (repeat' (first | with_reducible assumption | with_reducible exact Below.refl _ _ | with_reducible refine Below.drew ?_ | with_reducible refine below_drewN ?_ _ | with_reducible refine balloc ?_ _ | with_reducible refine bset ?_ ?_ _ | with_reducible refine Below.setCell ?_ ?_ _ | with_reducible refine Below.alloc ?_ ?_ _ | omega | (simp; done) | (simp; omega)))⟩
    · have hk2 := (within_iff _ _ _).1 hk
      obtain ⟨m, rfl⟩ : ∃ m : Nat, k = (m : Int) := ⟨k.toNat, by omega⟩
      have hE := hid (show leaR f n m = leastL f n m by simp [leaR, hv, hk])
      have hV := (vL_iff _ _).1 hv
      have hl := fun W H => share_least a n ca m f W hV (by omega) H
      generalize leastL f n m = L at *
      go_enter Tryd.func10, Tryd.ntmps10
      go_wp2_with (first | (go_at_call 23; refine (share_among a n ca m f _ hn H).mono ?_; rintro e w' ⟨rfl, rfl⟩; rw [hv, hk]) | (go_at_call 24; refine (hl _ H).mono ?_; rintro e w1 ⟨rfl, hb1⟩))
      go_ret2
      rw [hE.out]
      exact ⟨rfl, hb1⟩
end Go.Proofs.YtjkngkogddmceaaDoor
/- Walks of the share layer: the best share of the program. -/
namespace Go.Proofs.YtjkngkogddmceaaDoor
open Go Go.RowKit
set_option linter.unusedVariables false
theorem Sl.sub {w : World} {b off n x : Nat} {f : Nat → Int} (h : Sl w (some ⟨b, off, none⟩) n f) (hx : x ≤ n) : Sl w (some ⟨b, off + x, none⟩) (n - x) (fun i => f (x + i)) := fun k hk => by
  obtain ⟨b', o', e, h1, h2⟩ := h (x + k) (by omega)
  injection e with e; injection e with e1 e2 _
  subst e1 e2
  exact ⟨b, off + x, rfl, h1, by rw [Nat.add_assoc]; exact h2⟩
theorem ent_best : ∀ args w, (callFunc 42 args).run Tryd.prog w = .ok (.enter 42 args) w := Go.Proofs.enters_of Tryd.func42 (by kernel_rfl) rfl
set_option maxRecDepth 100000 in
set_option maxHeartbeats 1000000 in
theorem share_best1 (n ca left bl bk bm x : Nat) (a : Option Addr) (f : Nat → Int) (M : Int) (W : World) (hn : n ≤ 64) (hca : n ≤ ca) (hca2 : ca ≤ maxLen) (hf : okF n f) (hM : 0 ≤ M) (hM2 : M ≤ 64000000000) (Xl : Bx W bl #[.slice a n ca]) (Xk : Bx W bk #[.int .i64 (left : Int)]) (Xm : Bx W bm #[.int .i64 M]) (H : Sl W a n f) (hx : x ≤ n) :
    Calls Tryd.prog 42 (#[.int .i64 (x : Int)] ++ #[.pointer (some ⟨bl, 0, none⟩), .pointer (some ⟨bk, 0, none⟩), .pointer (some ⟨bm, 0, none⟩)]) W fun e W' => e = .returned (.bool (goB f n M left x)) ∧ Below W.heap.size W W' := by
  show Calls Tryd.prog 42 #[.int .i64 (x : Int), .pointer (some ⟨bl, 0, none⟩), .pointer (some ⟨bk, 0, none⟩), .pointer (some ⟨bm, 0, none⟩)] W _
  unfold maxLen at hca2
  by_cases hxn : x = n
  · subst hxn
    have l0 := Xl.at_ 0 rfl
    have hg : goB f x M left x = true := by simp [goB]
    have HG := hid hg; clear hg
    go_enter Tryd.func42, Tryd.ntmps42
    go_upto_region 1 with (fail)
    go_quiet (fail)
    go_wp2
    go_ret
    exact ⟨ret_bool HG.out.symm, by (repeat' (first | with_reducible assumption | with_reducible exact Below.refl _ _ | with_reducible refine Below.drew ?_ | with_reducible refine below_drewN ?_ _ | with_reducible refine balloc ?_ _ | with_reducible refine bset ?_ ?_ _ | with_reducible refine Below.setCell ?_ ?_ _ | with_reducible refine Below.alloc ?_ ?_ _ | omega | (simp; done) | (simp; omega)))⟩
  · have hlt : x < n := by omega
    obtain ⟨b, off, rfl, hb, hc0⟩ := H x hlt
    have HS := H.sub hx
    have hg : goB f n M left x = fitsB (fun i => f (x + i)) (n - x) left M := by simp [goB, hxn]
    rw [hg]
    have hfit := fun Y (hY : Below W.heap.size W Y) => share_fits (some ⟨b, off + x, none⟩) (n - x) (ca - x) left (fun i => f (x + i)) M Y (by omega) (fun k hk => hf (x + k) (by omega)) hM hM2 (HS.below hY)
    generalize fitsB (fun i => f (x + i)) (n - x) left M = v at *
    have r0 : ∀ Y, Below W.heap.size W Y → Y.cell? ⟨bl, 0, none⟩ = some (.slice (some ⟨b, off, none⟩) n ca) := fun Y h => (Xl.below h).at_ 0 rfl
    have r1 : ∀ Y, Below W.heap.size W Y → Y.cell? ⟨bk, 0, none⟩ = some (.int .i64 (left : Int)) := fun Y h => (Xk.below h).at_ 0 rfl
    have r2 : ∀ Y, Below W.heap.size W Y → Y.cell? ⟨bm, 0, none⟩ = some (.int .i64 M) := fun Y h => (Xm.below h).at_ 0 rfl
    have hne : ((x : Int) == (n : Int)) = false := by simp; omega
    have hd1 : (0 : Int) ≤ (x : Int) := by omega
    have hd2 : (x : Int) ≤ (n : Int) := by omega
    have hd3 : (n : Int) ≤ (ca : Int) := by omega
    have hd4 : ¬ ca = x := by omega
    clear hg HS hc0 Xl Xk Xm H hf
    go_enter Tryd.func42, Tryd.ntmps42
    go_upto_region 1 with (fail)
    go_region_held3 (fun Y => Below W.heap.size W Y) ((repeat' (first | with_reducible assumption | with_reducible exact Below.refl _ _ | with_reducible refine Below.drew ?_ | with_reducible refine below_drewN ?_ _ | with_reducible refine balloc ?_ _ | with_reducible refine bset ?_ ?_ _ | with_reducible refine Below.setCell ?_ ?_ _ | with_reducible refine Below.alloc ?_ ?_ _ | omega | (simp; done) | (simp; omega))))
      ((first
        | (go_at_call 41; refine (hfit _ (by (repeat' (first | with_reducible assumption | with_reducible exact Below.refl _ _ | with_reducible refine Below.drew ?_ | with_reducible refine below_drewN ?_ _ | with_reducible refine balloc ?_ _ | with_reducible refine bset ?_ ?_ _ | with_reducible refine Below.setCell ?_ ?_ _ | with_reducible refine Below.alloc ?_ ?_ _ | omega | (simp; done) | (simp; omega))))).mono ?_; rintro e w1 ⟨rfl, hb1⟩; have hB1 : Below W.heap.size W w1 := bvia (by (repeat' (first | with_reducible assumption | with_reducible exact Below.refl _ _ | with_reducible refine Below.drew ?_ | with_reducible refine below_drewN ?_ _ | with_reducible refine balloc ?_ _ | with_reducible refine bset ?_ ?_ _ | with_reducible refine Below.setCell ?_ ?_ _ | with_reducible refine Below.alloc ?_ ?_ _ | omega | (simp; done) | (simp; omega)))) hb1)
        | fail))
    all_goals
      go_wp2_with fail
      go_ret
      exact ⟨rfl, by (repeat' (first | with_reducible assumption | with_reducible exact Below.refl _ _ | with_reducible refine Below.drew ?_ | with_reducible refine below_drewN ?_ _ | with_reducible refine balloc ?_ _ | with_reducible refine bset ?_ ?_ _ | with_reducible refine Below.setCell ?_ ?_ _ | with_reducible refine Below.alloc ?_ ?_ _ | omega | (simp; done) | (simp; omega)))⟩
theorem goB_mono {f : Nat → Int} {n : Nat} {M : Int} (h : ∀ k, k < n → 0 ≤ f k) (hM : 0 ≤ M) {left x y : Nat} (hl : 0 < left) (hxy : x ≤ y) (hy : y ≤ n) (hx : goB f n M left x = true) : goB f n M left y = true := by
  obtain ⟨m, rfl⟩ : ∃ m, left = m + 1 := ⟨left - 1, by omega⟩
  exact (goB_iff h hM hy).2 (((goB_iff h hM (by omega)).1 hx).left h hxy hy (Nat.le_refl _) hM)
theorem best_next {f : Nat → Int} {n left x : Nat} {M : Int} {cs L : List Int} (h : cs ++ bestL f n M (left + 1) x = L) : (cs ++ [(cutN f n M (left + 1) x : Int)]) ++ bestL f n M left (cutN f n M (left + 1) x) = L := by
  rw [← h]; simp [bestL]
theorem append_le {cs t L : List Int} (h : cs ++ t = L) : cs.length ≤ L.length := by rw [← h]; simp
set_option maxRecDepth 100000 in
set_option maxHeartbeats 4000000 in
theorem share_best (a : Option Addr) (n ca k : Nat) (f : Nat → Int) (w : World) (hv : validL n f) (hk : 0 < k) (hk2 : k ≤ 16) (hca : n ≤ ca) (hca2 : ca ≤ maxLen) (H : Sl w a n f) :
    Calls Tryd.prog 25 #[.slice a n ca, .int .i64 (k : Int)] w fun e w' => ∃ v, e = .returned v ∧ w'.ownsRow w.heap.size 3 1 v (bestL f n (leastL f n k) (k - 1) 0).length ((bestL f n (leastL f n k) (k - 1) 0).map vInt) ∧ Below w.heap.size w w' := by
  obtain ⟨i0, hi, hz0, hz1, hz2⟩ := info_parts infoI
  have hll := hid (bestL_length f n (leastL f n k) (k - 1) 0)
  have HR := hid ((leastL_iff (validL_nonneg hv) hk (leastL_nonneg (validL_nonneg hv) hk)).1 (Int.le_refl _))
  have l0 := leastL_nonneg (validL_nonneg hv) hk
  have l1 := leastL_le (validL_nonneg hv) hk
  have l2 := (sumTo_most hv.2.2 n (Nat.le_refl _)).2
  have hl := fun W H => share_least a n ca k f W hv hk H
  obtain ⟨v1, v2, hf⟩ := hv
  obtain ⟨L, hL⟩ : ∃ L, leastL f n k = L := ⟨_, rfl⟩
  rw [hL] at hll HR l0 l1 hl
  have l3 : L ≤ 64000000000 := by omega
  clear l1 l2
  have HL := hid hL; clear hL
  have HF := hid hf; clear hf
  have X0 := Bx.new w #[.slice a n ca] 22
  have hB0 : Below w.heap.size w (w.alloc (.cells #[.slice a n ca] 22)) := by (repeat' (first | with_reducible assumption | with_reducible exact Below.refl _ _ | with_reducible refine Below.drew ?_ | with_reducible refine below_drewN ?_ _ | with_reducible refine balloc ?_ _ | with_reducible refine bset ?_ ?_ _ | with_reducible refine Below.setCell ?_ ?_ _ | with_reducible refine Below.alloc ?_ ?_ _ | omega | (simp; done) | (simp; omega)))
  go_enter Tryd.func25, Tryd.ntmps25
  go_wp2_with fail
  generalize (w.alloc (.cells #[.slice a n ca] 22)) = W0 at X0 hB0 ⊢
  have z0 := X0.lt
  have hB := hB0
  clear hB0
  replace H := H.below hB
  refine (hl _ H).mono ?_
  rintro e w1 ⟨rfl, hb1⟩
  replace X0 := X0.below hb1
  replace H := H.below hb1
  replace hB := bvia hB hb1
  clear hb1
  replace X0 := X0.alloc (.cells #[.int .i64 L] 3)
  replace H := H.alloc (.cells #[.int .i64 L] 3)
  have XM := Bx.new w1 #[.int .i64 L] 3
  replace hB := balloc hB (.cells #[.int .i64 L] 3)
  obtain ⟨w2, hw2⟩ : ∃ w2, w1.alloc (.cells #[.int .i64 L] 3) = w2 := ⟨_, rfl⟩
  have XK := Bx.new w2 #[.int .i64 ((k : Int) - 1)] 3
  have hbk : Below w2.heap.size w2 (w2.alloc (.cells #[.int .i64 ((k : Int) - 1)] 3)) := below_alloc _ _
  have hs2 : w2.heap.size = w1.heap.size + 1 := by rw [← hw2]; simp
  rw [hw2] at X0 H XM hB
  go_wp2_with fail
  have hkk : (k : Int) - 1 = ((k - 1 : Nat) : Int) := by omega
  generalize w2.alloc (.cells #[.int .i64 ((k : Int) - 1)] 3) = w3 at XK hbk ⊢
  rw [hkk] at XK
  obtain ⟨m, hm⟩ : ∃ m, k - 1 = m := ⟨_, rfl⟩
  have hk16 : m ≤ 15 := by omega
  have hk17 : k = m + 1 := by omega
  rw [hm] at XK hll
  rw [hk17] at HR
  have HMK := hid hm; clear hm hk17
  have hzz : w1.heap.size + 1 = w2.heap.size := hs2.symm
  clear hw2 hs2 hkk
  go_loopg [6, 7, 8] m (fun left v s7 s8 wr => ∃ (x : Nat) (cs : List Int) (bl : Nat), s7 = .int .i64 (x : Int) ∧ s8 = .pointer (some ⟨bl, 0, none⟩) ∧ w2.heap.size ≤ bl ∧ Bx wr bl #[.int .i64 (left : Int)] ∧ (∀ g, v.ownBlock = some g → g ≠ bl) ∧ wr.ownsRow w2.heap.size 3 1 v cs.length (cs.map vInt) ∧ cs ++ bestL f n L left x = bestL f n L m 0 ∧ Rk f L (left + 1) x n ∧ x ≤ n ∧ Below w2.heap.size w2 wr)
  case atStart => exact ⟨0, [], w1.heap.size + 1, rfl, rfl, by omega, by rw [hzz]; exact XK, fun g hg => (by cases hg), World.ownsRow_nil .., by simp, HR.out, Nat.zero_le _, hbk⟩
  case round =>
    clear XK hbk
    obtain ⟨x, cs, bl, rfl, rfl, hbl, XB, hne, hown, hcs, hr, hx, hb⟩ := hrel
    have U0 := X0.below hb; have UM := XM.below hb; have HU := H.below hb
    have hzb := hb.size
    have hcl := append_le hcs
    rw [hll.out] at hcl
    have HNE := hid hne; clear hne
    rcases Nat.eq_zero_or_pos gk with h0 | h0
    · subst h0
      have hc : cs = bestL f n L m 0 := by rw [← hcs]; simp [bestL]
      have HC := hid hc; clear hc hcs
      have b0 := XB.at_ 0 rfl
      go_wp2_with fail
      go_ret
      rw [HL.out, HMK.out, ← HC.out]
      exact ⟨_, rfl, own_mono hown (by have := hB.size; omega), bvia hB hb⟩
    · obtain ⟨j, rfl⟩ : ∃ j, gk = j + 1 := ⟨gk - 1, by omega⟩
      have hj15 : j ≤ 15 := by
        have h := congrArg List.length hcs
        rw [List.length_append, bestL_length, bestL_length] at h
        omega
      have HCS := hid hcs; have HRR := hid hr; clear hcs hr
      have hcall := share_halved (fun y => goB f n L (j + 1) y.toNat) (x : Int) (n : Int) 42 #[.pointer (some ⟨w.heap.size, 0, none⟩), .pointer (some ⟨bl, 0, none⟩), .pointer (some ⟨w1.heap.size, 0, none⟩)] wr (by omega) (by omega) (by omega)
        (fun y z hy hyz hz h => goB_mono (okF_pos HF.out) l0 (by omega) (by omega) (by omega) h)
        (fun nn W h0 h1 hW => by
          have h := share_best1 n ca (j + 1) w.heap.size bl w1.heap.size nn.toNat a f L W v2 hca hca2 HF.out l0 l3 (U0.below hW) (XB.below hW) (UM.below hW) (HU.below hW) (by omega)
          rw [Int.toNat_of_nonneg (by omega)] at h
          exact h) ent_best
      have u0 := U0.at_ 0 rfl; have b0 := XB.at_ 0 rfl
      go_wp2_with fail
      refine hcall.mono ?_
      rintro e w4 ⟨z, rfl, z0, z1, z2, z3, hb4⟩
      have hz : cutN f n L (j + 1) x = z.toNat := firstN_unique hx (by omega) (by omega) (fun y h1 h2 => by have := z2 y (by omega) (by omega); simpa using this) (fun h => z3 (by omega))
      obtain ⟨d1, d2, d3, d4, d5⟩ := cutN_spec (okF_pos HF.out) l0 hx HRR.out
      obtain ⟨y, rfl⟩ : ∃ y : Nat, z = (y : Int) := ⟨z.toNat, by omega⟩
      rw [Int.toNat_natCast] at hz
      have hnext := best_next HCS.out
      rw [hz] at d1 d2 d4 hnext
      have hle2 := append_le hnext
      rw [hll.out] at hle2
      simp only [List.length_append, List.length_cons, List.length_nil] at hle2
      have HN := hid hnext; have HD := hid d4
      clear z2 z3 hz d3 d4 d5 hnext hcall u0 b0 hcl
      have hown4 := own_below hown hb4
      have XB4 := XB.below hb4
      have hbw4 := hb.trans (hb4.mono hzb)
      have hz4 := hb4.size
      have hlt4 := XB4.lt
      go_upto_region 8 with (fail)
      go_wp2_with ((at_builtin; refine wpList_append_own _ rfl _ _ 22 rfl (w2.heap.size) 3 i0 (.int .i64 0) 1 8 Tryd.underlying22 hi hz0 hz1 hz2 rfl (by decide) _ _ _ rfl ((hown4).alloc _) ⟨w4.heap.size, 0, none⟩ 1 1 [.int .i64 ((y : Int))] rfl rfl (cell_one_new _ _ _) (by simp [Value.oneCell']) (by simp [maxLen]; omega) (by omega) (by simp; omega) ?_; intro v' w5 hown' hgrow _); have XB5 := (XB4.alloc (.cells #[.int .i64 (y : Int)] 3)).grown hgrow (fun e => HNE.out bl e.symm rfl); have b5 := XB5.at_ 0 rfl)
      have hb5 : Below w2.heap.size w2 w5 := (hbw4.alloc (by omega) _).grown hgrow (by simp; omega) (own_base hown)
      have hz5 := hb5.size
      have hlt5 := own_lt hown'
      go_roundg j
      case measure => omega
      case rel =>
        refine ⟨y, cs ++ [(y : Int)], w5.heap.size, rfl, rfl, by omega, ?_, fun g hg => by have := hlt5 g hg; omega, (own_snoc hown').alloc _, HN.out, HD.out, by omega, hb5.alloc (by omega) _⟩
        first
          | exact Bx.new w5 _ _
          | (have e : ((j : Int) + 1 - 1) = (j : Int) := (by omega); have h := Bx.new w5 #[.int .i64 ((j : Int) + 1 - 1)] 3; rw [e] at h; exact h)
end Go.Proofs.YtjkngkogddmceaaDoor
