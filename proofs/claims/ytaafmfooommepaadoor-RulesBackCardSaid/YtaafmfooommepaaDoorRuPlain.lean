/- Rules as text, in plain words. -/
import Derived.WalkKit
import Derived.Lib.Bytealg
import Derived.Lib.LastIndexByte
set_option linter.unusedVariables false
set_option linter.unusedSimpArgs false
namespace Go.Proofs.YtaafmfooommepaaDoor
/-- the byte at a place; -1 at the end -/
def ch (s : ByteArray) (p : Nat) : Int := if h : p < s.size then (s[p].toNat : Int) else -1
theorem ch_in {s : ByteArray} {p : Nat} (h : p < s.size) : ch s p = (s[p].toNat : Int) := by unfold ch; rw [dif_pos h]
theorem ch_end {s : ByteArray} {p : Nat} (h : s.size ≤ p) : ch s p = -1 := by unfold ch; rw [dif_neg (by omega)]
theorem ch_lt (s : ByteArray) (p : Nat) : -1 ≤ ch s p ∧ ch s p < 256 := by
  unfold ch; split
  · have := s[p].toNat_lt; omega
  · omega
theorem ch_ge {s : ByteArray} {p : Nat} (h : 0 ≤ ch s p) : p < s.size := by
  rcases Nat.lt_or_ge p s.size with h1 | h1
  · exact h1
  · rw [ch_end h1] at h; omega
theorem ch_pos {s : ByteArray} {p : Nat} (h : p < s.size) : 0 ≤ ch s p := by rw [ch_in h]; omega
theorem ch_ext {s : ByteArray} {a b p : Nat} (hb : b ≤ s.size) : ch (s.extract a b) p = if a + p < b then ch s (a + p) else -1 := by
  have hz : (s.extract a b).size = b - a := by rw [ByteArray.size_extract]; omega
  by_cases h : a + p < b
  · rw [if_pos h, ch_in (by omega), ch_in (by omega)]
    have e : (s.extract a b)[p] = s[a + p] := by simp [ByteArray.getElem_extract]
    rw [e]
  · rw [if_neg h, ch_end (by omega)]
theorem ext_size {s : ByteArray} {a b : Nat} (hb : b ≤ s.size) : (s.extract a b).size = b - a := by rw [ByteArray.size_extract]; omega
theorem ext_all (s : ByteArray) : s.extract 0 s.size = s := by simp
theorem ext_ext (s : ByteArray) (a b c d : Nat) : (s.extract a b).extract c d = s.extract (a + c) (min (a + d) b) := by
  rw [ByteArray.extract_extract]
/-- the lines of a text, from a place on -/
inductive Lines (s : ByteArray) : Nat → List ByteArray → Prop
  | last {p} : p ≤ s.size → (∀ i, p ≤ i → ch s i ≠ 10) → Lines s p [s.extract p s.size]
  | more {p i L} : p ≤ i → ch s i = 10 → (∀ j, p ≤ j → j < i → ch s j ≠ 10) → Lines s (i + 1) L → Lines s p (s.extract p i :: L)
theorem Lines.det {s : ByteArray} {p : Nat} {L : List ByteArray} (h : Lines s p L) : ∀ L', Lines s p L' → L = L' := by
  induction h with
  | last h h1 =>
    intro L' h'
    cases h' with
    | last => rfl
    | more h2 h3 => exact absurd h3 (h1 _ h2)
  | @more p i L h h1 h2 h3 ih =>
    intro L' h'
    cases h' with
    | last g g1 => exact absurd h1 (g1 _ h)
    | @more _ i' L2 g g1 g2 g3 =>
      have e : i = i' := by
        rcases Nat.lt_trichotomy i i' with e | e | e
        · exact absurd h1 (g2 _ h e)
        · exact e
        · exact absurd g1 (h2 _ g e)
      subst e
      rw [ih _ g3]
/-- no line is longer than the text; there are no more than bytes and one -/
theorem Lines.le {s : ByteArray} {p : Nat} {L : List ByteArray} (h : Lines s p L) : L ≠ [] ∧ L.length ≤ s.size - p + 1 ∧ ∀ l ∈ L, l.size ≤ s.size := by
  induction h with
  | @last p h h1 => exact ⟨by simp, by simp, fun l hl => by rw [List.mem_singleton] at hl; subst hl; rw [ByteArray.size_extract]; omega⟩
  | @more p i L h h1 h2 h3 ih =>
    have hi := ch_ge (s := s) (p := i) (by omega)
    refine ⟨by simp, by rw [List.length_cons]; omega, fun l hl => ?_⟩
    rcases List.mem_cons.1 hl with rfl | hl
    · rw [ByteArray.size_extract]; omega
    · exact ih.2.2 l hl
/-- where a byte stands first, and last; -1: nowhere -/
def Fst (s : ByteArray) (c : Int) (r : Int) : Prop := (r = -1 ∧ ∀ i, ch s i ≠ c) ∨ (∃ i : Nat, r = i ∧ ch s i = c ∧ ∀ j, j < i → ch s j ≠ c)
def Lst (s : ByteArray) (c : Int) (r : Int) : Prop := (r = -1 ∧ ∀ i, ch s i ≠ c) ∨ (∃ i : Nat, r = i ∧ ch s i = c ∧ ∀ j, i < j → ch s j ≠ c)
theorem Fst.det {s : ByteArray} {c r r' : Int} (h : Fst s c r) (h' : Fst s c r') : r = r' := by
  rcases h with ⟨rfl, h⟩ | ⟨i, rfl, h1, h2⟩ <;> rcases h' with ⟨rfl, g⟩ | ⟨k, rfl, g1, g2⟩
  · rfl
  · exact absurd g1 (h _)
  · exact absurd h1 (g _)
  · have e : i = k := by
      rcases Nat.lt_trichotomy i k with e | e | e
      · exact absurd h1 (g2 _ e)
      · exact e
      · exact absurd g1 (h2 _ e)
    rw [e]
theorem Lst.det {s : ByteArray} {c r r' : Int} (h : Lst s c r) (h' : Lst s c r') : r = r' := by
  rcases h with ⟨rfl, h⟩ | ⟨i, rfl, h1, h2⟩ <;> rcases h' with ⟨rfl, g⟩ | ⟨k, rfl, g1, g2⟩
  · rfl
  · exact absurd g1 (h _)
  · exact absurd h1 (g _)
  · have e : i = k := by
      rcases Nat.lt_trichotomy i k with e | e | e
      · exact absurd g1 (h2 _ e)
      · exact e
      · exact absurd h1 (g2 _ e)
    rw [e]
theorem indexByte_at (l : List UInt8) (c : UInt8) : (Lib.indexByte l c = -1 ∧ ∀ i : Nat, l[i]? ≠ some c) ∨ (∃ i : Nat, Lib.indexByte l c = i ∧ l[i]? = some c ∧ ∀ j : Nat, j < i → l[j]? ≠ some c) := by
  induction l with
  | nil => exact .inl ⟨rfl, fun i => by simp⟩
  | cons b l ih =>
    unfold Lib.indexByte
    by_cases hb : b = c
    · subst hb
      rw [if_pos (by simp)]
      exact .inr ⟨0, rfl, rfl, fun j hj => by omega⟩
    · rw [if_neg (by simpa using hb)]
      rcases ih with ⟨e, h⟩ | ⟨i, e, h1, h2⟩
      · rw [e, if_pos (by decide)]
        refine .inl ⟨rfl, fun i => ?_⟩
        cases i with
        | zero => simpa using hb
        | succ i => simpa using h i
      · rw [e, if_neg (by simp <;> omega)]
        refine .inr ⟨i + 1, by omega, by simpa using h1, fun j hj => ?_⟩
        cases j with
        | zero => simpa using hb
        | succ j => simpa using h2 j (by omega)
theorem ch_at (s : ByteArray) (c : Nat) (hc : c < 256) (i : Nat) : s.data.toList[i]? = some c.toUInt8 ↔ ch s i = (c : Int) := by
  by_cases h : i < s.size
  · have h2 : i < s.data.toList.length := by simpa using h
    rw [ch_in h, List.getElem?_eq_getElem h2]
    have e : s.data.toList[i] = s[i] := rfl
    rw [e]
    constructor
    · intro h3
      injection h3 with h3
      rw [h3]
      simp; omega
    · intro h3
      congr 1
      apply UInt8.toNat_inj.1
      simp; omega
  · rw [ch_end (by omega), List.getElem?_eq_none (by simpa using h)]
    constructor
    · intro h; cases h
    · intro h; omega
theorem fst_ix (s : ByteArray) (c : Nat) (hc : c < 256) : Fst s c (Lib.indexByte s.data.toList c.toUInt8) := by
  rcases indexByte_at s.data.toList c.toUInt8 with ⟨e, h⟩ | ⟨i, e, h1, h2⟩
  · exact .inl ⟨e, fun i hi => h i ((ch_at s c hc i).2 hi)⟩
  · exact .inr ⟨i, e, (ch_at s c hc i).1 h1, fun j hj hcj => h2 j hj ((ch_at s c hc j).2 hcj)⟩
/-- how many newlines stand from a place on -/
def cnl (s : ByteArray) (p : Nat) : Nat := Lib.countByte (s.data.toList.drop p) 10
theorem cnl_here {s : ByteArray} {p : Nat} (h : ch s p = 10) : cnl s p = cnl s (p + 1) + 1 := by
  have hp := ch_ge (s := s) (p := p) (by omega)
  have h2 : p < s.data.toList.length := by simpa using hp
  have h3 := (ch_at s 10 (by decide) p).2 h
  unfold cnl Lib.countByte
  rw [List.drop_eq_getElem_cons h2, List.count_cons]
  rw [List.getElem?_eq_getElem h2] at h3
  injection h3 with h3
  rw [h3]
  rfl
theorem cnl_not {s : ByteArray} {p : Nat} (h : ch s p ≠ 10) : cnl s p = cnl s (p + 1) := by
  unfold cnl Lib.countByte
  by_cases hp : p < s.size
  · have h2 : p < s.data.toList.length := by simpa using hp
    rw [List.drop_eq_getElem_cons h2, List.count_cons]
    have h3 : ¬ s.data.toList[p] = 10 := fun e => h ((ch_at s 10 (by decide) p).1 (by rw [List.getElem?_eq_getElem h2, e]; rfl))
    rw [beq_eq_false_iff_ne.2 h3]
    rfl
  · rw [List.drop_of_length_le (by simpa using hp), List.drop_of_length_le (by simp; omega)]
theorem cnl_skip {s : ByteArray} {p i : Nat} (hi : p ≤ i) (h : ∀ j, p ≤ j → j < i → ch s j ≠ 10) : cnl s p = cnl s i := by
  obtain ⟨k, rfl⟩ := Nat.exists_eq_add_of_le hi
  clear hi
  induction k with
  | zero => rfl
  | succ k ih =>
    rw [ih (fun j h1 h2 => h j h1 (by omega)), cnl_not (h (p + k) (by omega) (by omega))]
    rfl
theorem cnl_zero {s : ByteArray} {p : Nat} (h : cnl s p = 0) : ∀ i, p ≤ i → ch s i ≠ 10 := by
  intro i hi h10
  have : ∀ k, p ≤ k → k ≤ i → cnl s k = 0 := by
    intro k hk
    obtain ⟨m, rfl⟩ := Nat.exists_eq_add_of_le hk
    clear hk
    induction m with
    | zero => exact fun _ => h
    | succ m ih =>
      intro hm
      have h1 := ih (by omega)
      by_cases h2 : ch s (p + m) = 10
      · have := cnl_here h2; omega
      · have := cnl_not h2
        rw [h1] at this
        exact this.symm
  have h1 := this i hi (Nat.le_refl _)
  have := cnl_here h10
  omega
theorem cnl_pos {s : ByteArray} {p : Nat} (h : cnl s p ≠ 0) : ∃ i, p ≤ i ∧ ch s i = 10 ∧ ∀ j, p ≤ j → j < i → ch s j ≠ 10 := by
  by_cases hh : ∀ i, p ≤ i → ch s i ≠ 10
  · exfalso
    have := cnl_skip (s := s) (p := p) (i := p + s.size) (by omega) (fun j h1 _ => hh j h1)
    have e : cnl s (p + s.size) = 0 := by unfold cnl Lib.countByte; rw [List.drop_of_length_le (by simp)]; rfl
    omega
  · simp only [Classical.not_forall] at hh
    obtain ⟨i, hi, h10⟩ := hh
    have h10 := Classical.not_not.1 h10
    -- the least one
    have : ∀ n k, p + n = k → (∃ i, p ≤ i ∧ i ≤ k ∧ ch s i = 10) → ∃ i, p ≤ i ∧ ch s i = 10 ∧ ∀ j, p ≤ j → j < i → ch s j ≠ 10 := by
      intro n
      induction n with
      | zero =>
        rintro k rfl ⟨i, h1, h2, h3⟩
        exact ⟨i, h1, h3, fun j _ _ => by omega⟩
      | succ n ih =>
        rintro k rfl ⟨i, h1, h2, h3⟩
        by_cases hx : ∃ i, p ≤ i ∧ i ≤ p + n ∧ ch s i = 10
        · exact ih _ rfl hx
        · exact ⟨i, h1, h3, fun j g1 g2 g3 => hx ⟨j, g1, by omega, g3⟩⟩
    exact this (i - p) i (by omega) ⟨i, hi, Nat.le_refl _, h10⟩
theorem cnl_le (s : ByteArray) : cnl s 0 ≤ s.size := by
  unfold cnl Lib.countByte
  have := List.count_le_length (a := (10 : UInt8)) (l := s.data.toList)
  rw [List.drop_zero]
  simpa using this
/-! ### a rule -/
structure Rl where
  name : ByteArray
  pat : ByteArray
  luhn : Bool
def okc (c : Int) : Prop := (97 ≤ c ∧ c ≤ 122) ∨ (48 ≤ c ∧ c ≤ 57) ∨ c = 45 ∨ c = 95
/-- is it a rule's name? -/
def Nm (s : ByteArray) : Prop := 1 ≤ s.size ∧ s.size ≤ 16 ∧ ∀ p, p < s.size → okc (ch s p)
def luhnS : ByteArray := { data := #[108, 117, 104, 110] }
def plainS : ByteArray := { data := #[112, 108, 97, 105, 110] }
/-- a line's rule, its first and its last space standing at f and l -/
def RuleAt (s : ByteArray) (f l : Int) (r : Rl) : Prop := ∃ i k : Nat, f = i ∧ l = k ∧ i + 2 ≤ k ∧ k < s.size ∧ r.name = s.extract 0 i ∧ r.pat = s.extract (i + 1) k ∧ Nm r.name ∧
  ((r.luhn = true ∧ s.extract (k + 1) s.size = luhnS) ∨ (r.luhn = false ∧ s.extract (k + 1) s.size = plainS))
def RuleIs (s : ByteArray) (r : Rl) : Prop := ∃ f l, Fst s 32 f ∧ Lst s 32 l ∧ RuleAt s f l r
theorem RuleIs.det {s : ByteArray} {r r' : Rl} (h : RuleIs s r) (h' : RuleIs s r') : r = r' := by
  obtain ⟨f, l, h1, h2, i, k, e1, e2, _, _, h3, h4, _, h5⟩ := h
  obtain ⟨f', l', g1, g2, i', k', e3, e4, _, _, g3, g4, _, g5⟩ := h'
  have e5 := h1.det g1
  have e6 := h2.det g2
  obtain rfl : i = i' := by omega
  obtain rfl : k = k' := by omega
  obtain ⟨n, p, b⟩ := r
  obtain ⟨n', p', b'⟩ := r'
  dsimp only at *
  have hd : luhnS ≠ plainS := by decide
  rw [h3, h4, g3, g4]
  rcases h5 with ⟨rfl, h5⟩ | ⟨rfl, h5⟩ <;> rcases g5 with ⟨rfl, g5⟩ | ⟨rfl, g5⟩
  · rfl
  · exact absurd (h5.symm.trans g5) hd
  · exact absurd (g5.symm.trans h5) hd
  · rfl
/-- a line that tells nothing -/
def Blank (l : ByteArray) : Prop := l.size = 0 ∨ ch l 0 = 35
inductive Res where
  | ok (out : List Rl)
  | no (c : Int) (x : Nat)
/-- lines, from the one with number i on, when out has been read -/
inductive Rd : List ByteArray → Nat → List Rl → Res → Prop
  | done {i out} : Rd [] i out (.ok out)
  | skip {l ls i out R} : Blank l → Rd ls (i + 1) out R → Rd (l :: ls) i out R
  | bad {l ls i out} : ¬ Blank l → (∀ r, ¬ RuleIs l r) → Rd (l :: ls) i out (.no 2 i)
  | twice {l ls i out r} : ¬ Blank l → RuleIs l r → (∃ x ∈ out, x.name = r.name) → Rd (l :: ls) i out (.no 8 i)
  | large {l ls i out r} : ¬ Blank l → RuleIs l r → (∀ x ∈ out, x.name ≠ r.name) → out.length = 8 → Rd (l :: ls) i out (.no 4 i)
  | next {l ls i out r R} : ¬ Blank l → RuleIs l r → (∀ x ∈ out, x.name ≠ r.name) → out.length ≠ 8 → Rd ls (i + 1) (out ++ [r]) R → Rd (l :: ls) i out R
theorem Rd.det {L : List ByteArray} {i : Nat} {out : List Rl} {R : Res} (h : Rd L i out R) : ∀ R', Rd L i out R' → R = R' := by
  induction h with
  | done => intro R' h'; cases h'; rfl
  | skip h h1 ih =>
    intro R' h'
    cases h' with
    | skip g g1 => exact ih _ g1
    | bad g => exact absurd h g
    | twice g => exact absurd h g
    | large g => exact absurd h g
    | next g => exact absurd h g
  | bad h h1 =>
    intro R' h'
    cases h' with
    | skip g g1 => exact absurd g h
    | bad g => rfl
    | twice g g1 => exact absurd g1 (h1 _)
    | large g g1 => exact absurd g1 (h1 _)
    | next g g1 => exact absurd g1 (h1 _)
  | twice h h1 h2 =>
    intro R' h'
    cases h' with
    | skip g g1 => exact absurd g h
    | bad g g1 => exact absurd h1 (g1 _)
    | twice g g1 => rfl
    | large g g1 g2 => obtain rfl := h1.det g1; obtain ⟨x, hx, e⟩ := h2; exact absurd e (g2 x hx)
    | next g g1 g2 => obtain rfl := h1.det g1; obtain ⟨x, hx, e⟩ := h2; exact absurd e (g2 x hx)
  | large h h1 h2 h3 =>
    intro R' h'
    cases h' with
    | skip g g1 => exact absurd g h
    | bad g g1 => exact absurd h1 (g1 _)
    | twice g g1 g2 => obtain rfl := h1.det g1; obtain ⟨x, hx, e⟩ := g2; exact absurd e (h2 x hx)
    | large g g1 g2 => rfl
    | next g g1 g2 g3 => exact absurd h3 g3
  | next h h1 h2 h3 h4 ih =>
    intro R' h'
    cases h' with
    | skip g g1 => exact absurd g h
    | bad g g1 => exact absurd h1 (g1 _)
    | twice g g1 g2 => obtain rfl := h1.det g1; obtain ⟨x, hx, e⟩ := g2; exact absurd e (h2 x hx)
    | large g g1 g2 g3 => exact absurd g3 h3
    | next g g1 g2 g3 g4 => obtain rfl := h1.det g1; exact ih _ g4
/-- what a text is -/
def RuRes (s : ByteArray) (R : Res) : Prop := (4000 < s.size ∧ R = .no 4 0) ∨ (s.size ≤ 4000 ∧ ∃ L, Lines s 0 L ∧ Rd L 0 [] R)
theorem RuRes.det {s : ByteArray} {R R' : Res} (h : RuRes s R) (h' : RuRes s R') : R = R' := by
  rcases h with ⟨h, rfl⟩ | ⟨h, L, h1, h2⟩ <;> rcases h' with ⟨g, rfl⟩ | ⟨g, L', g1, g2⟩
  · rfl
  · omega
  · omega
  · obtain rfl := h1.det _ g1
    exact h2.det _ g2
end Go.Proofs.YtaafmfooommepaaDoor
