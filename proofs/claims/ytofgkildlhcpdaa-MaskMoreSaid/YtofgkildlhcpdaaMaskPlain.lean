/- What rules cover, in plain words. -/
import Derived.Test.YtofgkildlhcpdaaLangMem
set_option linter.unusedVariables false
set_option linter.unusedSimpArgs false
namespace Go.Proofs.Ytofgkildlhcpdaa
open Luhn
/-- a rule: a pattern, and whether the digits are checked -/
abbrev Rul := Pat × Bool
/-- the bytes from a up to b -/
def sub (xs : List Int) (a b : Nat) : List Int := (xs.drop a).take (b - a)
theorem sub_len (xs : List Int) (a b : Nat) (h : b ≤ xs.length) : (sub xs a b).length = b - a := by
  unfold sub; rw [List.length_take, List.length_drop]; omega
theorem sub_get (xs : List Int) (a b c : Nat) (h : c < b - a) : (sub xs a b).getD c 0 = xs.getD (c + a) 0 := by
  unfold sub
  rw [List.getD_eq_getElem?_getD, List.getD_eq_getElem?_getD, List.getElem?_take, if_pos h, List.getElem?_drop, Nat.add_comm a c]
theorem sub_byt (xs : List Int) (a b c : Nat) (h : c < b - a) : byt (sub xs a b) c = byt xs (c + a) := by
  unfold byt; rw [sub_get xs a b c h]
theorem sub_all (xs : List Int) : sub xs 0 xs.length = xs := by unfold sub; simp
/-- a rule fits the bytes from a up to b -/
def fitsAt (xs : List Int) (r : Rul) (a b : Nat) : Prop := Mt (byt xs) xs.length r.1 a b ∧ (r.2 = true → okB (sub xs a b) = true)
theorem mt_sub (xs : List Int) (p : Pat) (a b : Nat) (hab : a ≤ b) (hb : b ≤ xs.length) : Mt (byt (sub xs a b)) (sub xs a b).length p 0 (sub xs a b).length ↔ Mt (byt xs) xs.length p a b := by
  have hl := sub_len xs a b hb
  rw [hl]
  constructor
  · intro h
    have := mt_move (byt (sub xs a b)) (byt xs) (b - a) xs.length a p 0 (b - a) h (fun c _ h2 => (sub_byt xs a b c h2).symm) (by omega)
    rw [show 0 + a = a from by omega, show b - a + a = b from by omega] at this
    exact this
  · intro h
    have := mt_down (b := byt xs) (b' := byt (sub xs a b)) (n := xs.length) (n' := b - a) (d := a) (p := p) a b h (Nat.le_refl _) (fun c h1 h2 => by rw [sub_byt xs a b (c - a) (by omega), show c - a + a = c from by omega]) (Nat.le_refl _)
    rw [show a - a = 0 from by omega] at this
    exact this
/-- whether one of the rules fits -/
def fitsOne (rs : List Rul) (xs : List Int) (a b : Nat) : Prop := ∃ r ∈ rs, fitsAt xs r a b
/-- what is covered -/
def cov (rs : List Rul) (lam : Int) (xs : List Int) (i : Nat) : Prop := ∃ a b, a ≤ i ∧ i < b ∧ b ≤ xs.length ∧ ((b : Int) - (a : Int) ≤ lam) ∧ fitsOne rs xs a b
/-- the same, of a place from which on is looked -/
def covA (rs : List Rul) (lam : Int) (xs : List Int) (a i : Nat) : Prop := a ≤ i ∧ ∃ b, i < b ∧ b ≤ xs.length ∧ ((b : Int) - (a : Int) ≤ lam) ∧ fitsOne rs xs a b
theorem cov_iff (rs : List Rul) (lam : Int) (xs : List Int) (i : Nat) : cov rs lam xs i ↔ ∃ a, a < xs.length ∧ covA rs lam xs a i :=
  ⟨fun ⟨a, b, h1, h2, h3, h4, h5⟩ => ⟨a, by omega, h1, b, h2, h3, h4, h5⟩, fun ⟨a, _, h1, b, h2, h3, h4, h5⟩ => ⟨a, b, h1, h2, h3, h4, h5⟩⟩
/-- the longest one covers all -/
theorem covA_long {rs : List Rul} {lam : Int} {xs : List Int} {a b i : Nat} (hb : b ≤ xs.length) (hl : (b : Int) - (a : Int) ≤ lam) (hf : fitsOne rs xs a b)
    (hn : ∀ c, b < c → c ≤ xs.length → ¬ ((c : Int) - (a : Int) ≤ lam ∧ fitsOne rs xs a c)) : covA rs lam xs a i ↔ a ≤ i ∧ i < b := by
  constructor
  · rintro ⟨h1, c, h2, h3, h4, h5⟩
    rcases Nat.lt_or_ge b c with h | h
    · exact absurd ⟨h4, h5⟩ (hn c h h3)
    · exact ⟨h1, by omega⟩
  · rintro ⟨h1, h2⟩; exact ⟨h1, b, h2, hb, hl, hf⟩
theorem covA_none {rs : List Rul} {lam : Int} {xs : List Int} {a i : Nat} (hn : ∀ c, a < c → c ≤ xs.length → ¬ ((c : Int) - (a : Int) ≤ lam ∧ fitsOne rs xs a c)) : ¬ covA rs lam xs a i := by
  rintro ⟨h1, c, h2, h3, h4, h5⟩
  exact hn c (by omega) h3 ⟨h4, h5⟩
/-- the least and the greatest length ask for nothing more -/
theorem fits_len {xs : List Int} {r : Rul} {a b : Nat} (h : fitsAt xs r a b) : leastP r.1 ≤ b - a ∧ (b - a ≤ mostP r.1 ∨ mostP r.1 = 1000) := by
  have h1 := mt_len _ _ _ _ _ h.1
  have h2 := mostP_le r.1
  omega
/-- hidden -/
def hide (f : Nat → Bool) (m : Int) (xs : List Int) : List Int := (List.range xs.length).map fun i => if f i then m else xs.getD i 0
theorem hide_len (f : Nat → Bool) (m : Int) (xs : List Int) : (hide f m xs).length = xs.length := by unfold hide; simp
theorem hide_get (f : Nat → Bool) (m : Int) (xs : List Int) (i : Nat) (h : i < xs.length) : (hide f m xs).getD i 0 = if f i then m else xs.getD i 0 := by
  unfold hide
  rw [List.getD_eq_getElem?_getD, List.getElem?_map, List.getElem?_range h]; rfl
theorem hide_ext {f g : Nat → Bool} (m : Int) (xs : List Int) (h : ∀ i, i < xs.length → f i = g i) : hide f m xs = hide g m xs := by
  unfold hide
  apply List.map_congr_left
  intro i hi
  rw [h i (List.mem_range.1 hi)]
/-- a rule fits bytes -/
def fitR (xs : List Int) (r : Rul) : Prop := Mt (byt xs) xs.length r.1 0 xs.length ∧ (r.2 = true → okB xs = true)
theorem fit_sub {xs : List Int} {r : Rul} {a b : Nat} (hab : a ≤ b) (hb : b ≤ xs.length) : fitR (sub xs a b) r ↔ fitsAt xs r a b := by
  unfold fitR fitsAt
  rw [mt_sub xs r.1 a b hab hb]
theorem fitR_len {xs : List Int} {r : Rul} (h : fitR xs r) : leastP r.1 ≤ xs.length ∧ (xs.length ≤ mostP r.1 ∨ mostP r.1 = 1000) := by
  have h1 := mt_len _ _ _ _ _ h.1
  have h2 := mostP_le r.1
  omega
theorem clsB (Q : Prop) : ∃ b : Bool, (b = true ↔ Q) := by
  by_cases h : Q
  · exact ⟨true, ⟨fun _ => h, fun _ => rfl⟩⟩
  · exact ⟨false, ⟨(fun h' => by cases h'), fun h' => absurd h' h⟩⟩
theorem clsG (Q : Nat → Prop) : ∃ f : Nat → Bool, ∀ i, (f i = true ↔ Q i) := ⟨fun i => (clsB (Q i)).choose, fun i => (clsB (Q i)).choose_spec⟩
theorem b_eq {Q : Prop} {b r : Bool} (h1 : b = true ↔ Q) (h2 : r = true ↔ Q) : r = b := by
  have := h2.trans h1.symm
  cases r <;> cases b <;> simp_all
end Go.Proofs.Ytofgkildlhcpdaa
