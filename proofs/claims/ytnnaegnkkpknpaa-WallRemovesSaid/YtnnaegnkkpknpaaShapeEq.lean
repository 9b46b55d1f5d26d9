/- Plain law: the bricks that the program puts in and the shape that the reference puts in are the same. -/
import Derived.Test.YtnnaegnkkpknpaaWSlope
namespace Go.Proofs.Ytnnaegnkkpknpaa
open Go Go.RowKit
set_option linter.unusedVariables false
structure Agree (wide high : Int) (L : List Brick) (s : Nat → Int) (n : Nat) : Prop where
  one : ∀ b, b ∈ L → bOn wide high b = true → bIdx wide b < n ∧ s (bIdx wide b) = b.2 ∧ b.2 ≠ 0
  two : ∀ j, j < n → s j ≠ 0 → ∃ b, b ∈ L ∧ bOn wide high b = true ∧ bIdx wide b = j
theorem putLK_no {wide high : Int} {K : Nat → Int} {j : Nat} : ∀ L, (∀ b, b ∈ L → bOn wide high b = true → bIdx wide b ≠ j) → putLK wide high L K j = K j := by
  refine snoc_ind (fun _ => rfl) (fun L b ih h => ?_)
  rw [putLK_snoc]
  have ih' := ih (fun x hx => h x (by simp [hx]))
  split
  · rename_i hon
    unfold upd; rw [if_neg (fun e => h b (by simp) hon e.symm)]; exact ih'
  · exact ih'
theorem putLK_yes {wide high : Int} {K : Nat → Int} {j : Nat} {v : Int} : ∀ L, (∀ b, b ∈ L → bOn wide high b = true → bIdx wide b = j → b.2 = v) → (∃ b, b ∈ L ∧ bOn wide high b = true ∧ bIdx wide b = j) → putLK wide high L K j = v := by
  refine snoc_ind (fun _ ⟨b, hb, _⟩ => by cases hb) (fun L b ih h he => ?_)
  rw [putLK_snoc]
  by_cases hc : bOn wide high b = true ∧ bIdx wide b = j
  · rw [if_pos hc.1]; unfold upd; rw [if_pos hc.2.symm]; exact h b (by simp) hc.1 hc.2
  · obtain ⟨x, hx, h1, h2⟩ := he
    have hxL : x ∈ L := by
      rcases List.mem_append.1 hx with h' | h'
      · exact h'
      · rw [List.mem_singleton.1 h'] at h1 h2; exact absurd ⟨h1, h2⟩ hc
    have ih' := ih (fun x hx => h x (by simp [hx])) ⟨x, hxL, h1, h2⟩
    split
    · rename_i hon
      unfold upd; rw [if_neg (fun e => hc ⟨hon, e.symm⟩)]; exact ih'
    · exact ih'
theorem putLB_eq (wide high body : Int) (L : List Brick) (B : Nat → Int) : putLB wide high body L B = putLK wide high (L.map fun b => (b.1, body)) B := by
  unfold putLB putLK
  rw [List.foldl_map]
  rfl
section
variable {wide high body : Int} {L : List Brick} {s K B : Nat → Int} {n : Nat}
theorem Agree.atK (h : Agree wide high L s n) {j : Nat} (hj : j < n) : putLK wide high L K j = putTo s K s n j := by
  unfold putTo
  by_cases hs : s j ≠ 0
  · rw [if_pos ⟨hj, hs⟩]
    exact putLK_yes L (fun b hb h1 h2 => by rw [← h2]; exact ((h.one b hb h1).2.1).symm) (h.two j hj hs)
  · rw [if_neg (fun h' => hs h'.2)]
    refine putLK_no L (fun b hb h1 h2 => ?_)
    have := h.one b hb h1
    rw [h2] at this
    exact hs (by rw [this.2.1]; exact this.2.2)
theorem Agree.atB (h : Agree wide high L s n) {j : Nat} (hj : j < n) : putLB wide high body L B j = putTo s B (fun _ => body) n j := by
  rw [putLB_eq]
  unfold putTo
  by_cases hs : s j ≠ 0
  · rw [if_pos ⟨hj, hs⟩]
    refine putLK_yes _ (fun b hb _ _ => ?_) ?_
    · obtain ⟨c, _, rfl⟩ := List.mem_map.1 hb; rfl
    · obtain ⟨b, hb, h1, h2⟩ := h.two j hj hs
      exact ⟨(b.1, body), List.mem_map.2 ⟨b, hb, rfl⟩, h1, h2⟩
  · rw [if_neg (fun h' => hs h'.2)]
    refine putLK_no _ (fun b hb h1 h2 => ?_)
    obtain ⟨c, hc, rfl⟩ := List.mem_map.1 hb
    have := h.one c hc h1
    rw [show bIdx wide c = j from h2] at this
    exact hs (by rw [this.2.1]; exact this.2.2)
theorem Agree.bad (h : Agree wide high L s n) : (∃ b, b ∈ L ∧ bBad wide high body B b) ↔ putBad s B body n = true := by
  unfold putBad bBad
  simp only [decide_eq_true_eq]
  constructor
  · rintro ⟨b, hb, h1, h2, h3⟩
    have := h.one b hb h1
    exact ⟨_, this.1, by rw [this.2.1]; exact this.2.2, h2, h3⟩
  · rintro ⟨j, hj, h1, h2, h3⟩
    obtain ⟨b, hb, h4, h5⟩ := h.two j hj h1
    exact ⟨b, hb, h4, by rw [h5]; exact h2, by rw [h5]; exact h3⟩
theorem Agree.err (h : Agree wide high L s n) : lErr wide high body B L = putErr s B body n := by
  unfold lErr putErr
  by_cases hb : putBad s B body n = true
  · rw [if_pos (h.bad.2 hb), if_pos hb]
  · rw [if_neg (fun h' => hb (h.bad.1 h')), if_neg hb]
theorem Agree.len (h : Agree wide high L s n) : lLen wide high body B L n = putLen s B body n := by
  unfold lLen putLen
  by_cases hb : putBad s B body n = true
  · rw [if_pos (h.bad.2 hb), if_pos hb]
  · rw [if_neg (fun h' => hb (h.bad.1 h')), if_neg hb]
end
theorem Sl.congr {w : World} {a : Option Addr} {n : Nat} {f g : Nat → Int} (h : Sl w a n f) (e : ∀ k, k < n → f k = g k) : Sl w a n g := fun k hk => by
  obtain ⟨b, o, h1, h2, h3⟩ := h k hk
  exact ⟨b, o, h1, h2, by rw [← e k hk]; exact h3⟩
theorem putLen_le (s B : Nat → Int) (body : Int) (n : Nat) : putLen s B body n ≤ n := by unfold putLen; split <;> omega
theorem shape_of_brick {e0 wide high body : Int} {L : List Brick} {s K B : Nat → Int} {n : Nat} {w w' : World} {e : Ending} (h : BrickPost e0 wide high body L n K B w e w') (ha : e0 = 0 → Agree wide high L s n) : ShapePost e0 s body n K B w e w' := by
  refine ⟨fun h0 => ?_, h.2⟩
  have A := ha h0
  obtain ⟨a, a', c, c', he, s1, s2, hb⟩ := h.1 h0
  rw [A.err, A.len] at he
  rw [A.len] at s1 s2
  have hl := putLen_le s B body n
  exact ⟨a, a', c, c', he, s1.congr (fun k hk => A.atK (by omega)), s2.congr (fun k hk => A.atB (by omega)), hb⟩
theorem mem_places {wide : Int} {f : Int → Int → Bool} {q : Int × Int} : ∀ {n : Nat}, q ∈ placesTo wide f n ↔ ∃ k : Nat, k < n ∧ f ((k : Int) % wide) ((k : Int) / wide) = true ∧ q = ((k : Int) % wide, (k : Int) / wide)
  | 0 => by simp [placesTo]
  | n + 1 => by
    have ih := mem_places (wide := wide) (f := f) (q := q) (n := n)
    simp only [placesTo]
    split
    · rename_i hf
      rw [List.mem_append, ih, List.mem_singleton]
      constructor
      · rintro (⟨k, hk, h⟩ | rfl)
        · exact ⟨k, by omega, h⟩
        · exact ⟨n, by omega, hf, rfl⟩
      · rintro ⟨k, hk, h1, h2⟩
        rcases Nat.lt_succ_iff_lt_or_eq.1 hk with h' | rfl
        · exact .inl ⟨k, h', h1, h2⟩
        · exact .inr h2
    · rename_i hf
      rw [ih]
      constructor
      · rintro ⟨k, hk, h⟩; exact ⟨k, by omega, h⟩
      · rintro ⟨k, hk, h1, h2⟩
        rcases Nat.lt_succ_iff_lt_or_eq.1 hk with h' | rfl
        · exact ⟨k, h', h1, h2⟩
        · exact absurd h1 hf
/-- a place of a valid grid -/
theorem place_on {wide high : Int} {n k : Nat} (v1 : 1 ≤ wide) (hn : (n : Int) = wide * high) (hk : k < n) : onB wide high ((k : Int) % wide) ((k : Int) / wide) = true ∧ ((k : Int) % wide + wide * ((k : Int) / wide)).toNat = k := by
  have a := Int.emod_nonneg (k : Int) (show wide ≠ 0 by omega)
  have b := Int.emod_lt_of_pos (k : Int) (show 0 < wide by omega)
  have c : 0 ≤ (k : Int) / wide := Int.ediv_nonneg (by omega) (by omega)
  have e := Int.emod_add_mul_ediv (k : Int) wide
  have d : (k : Int) / wide < high := Int.ediv_lt_of_lt_mul (by omega) (by rw [Int.mul_comm]; omega)
  exact ⟨onB_iff.2 ⟨⟨a, by omega⟩, c, by omega⟩, by rw [e]; simp⟩
theorem box_agree {wide high kind : Int} {p q : Int × Int} {n : Nat} (v1 : 1 ≤ wide) (hn : (n : Int) = wide * high) (hk : kind ≠ 0) : Agree wide high (boxBricks wide p q kind n) (boxS wide p q kind) n := by
  constructor
  · intro b hb _
    obtain ⟨c, hc, rfl⟩ := List.mem_map.1 hb
    obtain ⟨k, hkn, hf, rfl⟩ := mem_places.1 hc
    obtain ⟨_, h2⟩ := place_on v1 hn hkn
    have hi : bIdx wide (mkK (fun _ _ => kind) ((k : Int) % wide, (k : Int) / wide)) = k := h2
    rw [hi]
    exact ⟨hkn, by unfold boxS; exact if_pos hf, hk⟩
  · intro j hj hs
    obtain ⟨h1, h2⟩ := place_on v1 hn hj
    refine ⟨mkK (fun _ _ => kind) ((j : Int) % wide, (j : Int) / wide), List.mem_map.2 ⟨_, mem_places.2 ⟨j, hj, ?_, rfl⟩, rfl⟩, h1, h2⟩
    unfold boxS at hs
    unfold boxF
    split at hs
    · assumption
    · exact absurd rfl hs
theorem mem_slPts {p : Int × Int} {up : Bool} {q : Int × Int} : ∀ {m : Nat}, q ∈ slPts p up m ↔ ∃ k : Nat, k < m ∧ q = (p.1 + k, slY p up k)
  | 0 => by simp [slPts]
  | m + 1 => by
    rw [slPts, List.mem_append, mem_slPts (m := m), List.mem_singleton]
    constructor
    · rintro (⟨k, hk, h⟩ | rfl)
      · exact ⟨k, by omega, h⟩
      · exact ⟨m, by omega, rfl⟩
    · rintro ⟨k, hk, h⟩
      rcases Nat.lt_succ_iff_lt_or_eq.1 hk with h' | rfl
      · exact .inl ⟨k, h', h⟩
      · exact .inr h
theorem slKind_ne (up : Bool) : slKind up ≠ 0 := by cases up <;> simp [slKind]
theorem slTo_iff (wide high : Int) (p : Int × Int) (up : Bool) (j : Nat) : ∀ m, ((∃ k : Nat, k < m ∧ onB wide high (p.1 + k) (slY p up k) = true ∧ (p.1 + k + wide * slY p up k).toNat = j) → slTo wide high p up m j = slKind up) ∧ ((¬ ∃ k : Nat, k < m ∧ onB wide high (p.1 + k) (slY p up k) = true ∧ (p.1 + k + wide * slY p up k).toNat = j) → slTo wide high p up m j = 0)
  | 0 => ⟨fun ⟨k, hk, _⟩ => by omega, fun _ => rfl⟩
  | m + 1 => by
    obtain ⟨h1, h2⟩ := slTo_iff wide high p up j m
    by_cases hc : onB wide high (p.1 + m) (slY p up m) = true ∧ (p.1 + m + wide * slY p up m).toNat = j
    · have : slTo wide high p up (m + 1) j = slKind up := by simp only [slTo, if_pos hc.1, upd]; rw [if_pos hc.2.symm]
      exact ⟨fun _ => this, fun h => absurd ⟨m, by omega, hc⟩ h⟩
    · have : slTo wide high p up (m + 1) j = slTo wide high p up m j := by
        simp only [slTo]
        split
        · rename_i hon
          unfold upd; rw [if_neg (fun e => hc ⟨hon, e.symm⟩)]
        · rfl
      rw [this]
      have e : (∃ k : Nat, k < m + 1 ∧ onB wide high (p.1 + k) (slY p up k) = true ∧ (p.1 + k + wide * slY p up k).toNat = j) ↔ ∃ k : Nat, k < m ∧ onB wide high (p.1 + k) (slY p up k) = true ∧ (p.1 + k + wide * slY p up k).toNat = j := by
        constructor
        · rintro ⟨k, hk, h⟩
          rcases Nat.lt_succ_iff_lt_or_eq.1 hk with h' | rfl
          · exact ⟨k, h', h⟩
          · exact absurd h hc
        · rintro ⟨k, hk, h⟩; exact ⟨k, by omega, h⟩
      rw [e]
      exact ⟨h1, h2⟩
theorem slope_agree {wide high m : Int} {up : Bool} {p : Int × Int} {n : Nat} (v1 : 1 ≤ wide) (hn : (n : Int) = wide * high) : Agree wide high (slBricks p up m) (slS wide high p m up) n := by
  constructor
  · intro b hb hon
    obtain ⟨c, hc, rfl⟩ := List.mem_map.1 hb
    obtain ⟨k, hkn, rfl⟩ := mem_slPts.1 hc
    have hon' : onB wide high (p.1 + k) (slY p up k) = true := hon
    obtain ⟨⟨x0, x1⟩, y0, y1⟩ := onB_iff.1 hon'
    obtain ⟨J, hJ, hJn, _, _⟩ := idx_lt v1 hn x0 x1 y0 y1
    have hi : bIdx wide (mkK (fun _ _ => slKind up) (p.1 + (k : Int), slY p up k)) = J := by simp [bIdx, mkK, hJ]
    rw [hi]
    refine ⟨hJn, ?_, slKind_ne up⟩
    exact (slTo_iff wide high p up J m.toNat).1 ⟨k, hkn, hon', by rw [hJ]; simp⟩
  · intro j hj hs
    by_cases he : ∃ k : Nat, k < m.toNat ∧ onB wide high (p.1 + k) (slY p up k) = true ∧ (p.1 + k + wide * slY p up k).toNat = j
    · obtain ⟨k, hk, h1, h2⟩ := he
      exact ⟨mkK (fun _ _ => slKind up) (p.1 + (k : Int), slY p up k), List.mem_map.2 ⟨_, mem_slPts.2 ⟨k, hk, rfl⟩, rfl⟩, h1, h2⟩
    · exact absurd ((slTo_iff wide high p up j m.toNat).2 he) hs
end Go.Proofs.Ytnnaegnkkpknpaa
