/- Words of patterns that are put together, in plain words. -/
import Derived.Test.YtofgkildlhcpdaaK7
set_option linter.unusedVariables false
namespace Go.Proofs.Ytofgkildlhcpdaa
theorem it_move {R R' : Nat → Nat → Prop} {b b' : Nat → Nat} {n' d : Nat} (hR : ∀ j i, R j i → j ≤ i)
    (h : ∀ j i, R j i → (∀ c, j ≤ c → c < i → b' (c + d) = b c) → i + d ≤ n' → R' (j + d) (i + d)) (t : Nat) :
    ∀ j i, It R t j i → j ≤ i ∧ ((∀ c, j ≤ c → c < i → b' (c + d) = b c) → i + d ≤ n' → It R' t (j + d) (i + d)) := by
  induction t with
  | zero => intro j i e; cases e; exact ⟨Nat.le_refl _, fun _ _ => rfl⟩
  | succ t ih =>
    rintro j i ⟨k, h1, h2⟩
    have a := ih j k h1
    have e := hR k i h2
    exact ⟨by omega, fun hb hi => ⟨k + d, a.2 (fun c h3 h4 => hb c h3 (by omega)) (by omega), h k i h2 (fun c h3 h4 => hb c (by omega) h4) hi⟩⟩
/-- the same bytes elsewhere are a word, too -/
theorem mt_move (b b' : Nat → Nat) (n n' d : Nat) (p : Pat) : ∀ j i, Mt b n p j i → (∀ c, j ≤ c → c < i → b' (c + d) = b c) → i + d ≤ n' → Mt b' n' p (j + d) (i + d) := by
  refine Pat.rec (motive_1 := fun p => ∀ j i, Mt b n p j i → (∀ c, j ≤ c → c < i → b' (c + d) = b c) → i + d ≤ n' → Mt b' n' p (j + d) (i + d))
    (motive_2 := fun l => (∀ j i, MtC b n l j i → j ≤ i ∧ ((∀ c, j ≤ c → c < i → b' (c + d) = b c) → i + d ≤ n' → MtC b' n' l (j + d) (i + d))) ∧ (∀ j i, MtA b n l j i → (∀ c, j ≤ c → c < i → b' (c + d) = b c) → i + d ≤ n' → MtA b' n' l (j + d) (i + d))) ?_ ?_ ?_ ?_ ?_ ?_ p
  · intro s j i h hb hi
    rw [Mt] at h ⊢
    obtain ⟨rfl, h1, h2⟩ := h
    exact ⟨by omega, by omega, by rw [hb j (Nat.le_refl _) (by omega)]; exact h2⟩
  · intro l ih j i h hb hi
    rw [Mt] at h ⊢
    exact (ih.1 j i h).2 hb hi
  · intro l ih j i h hb hi
    rw [Mt] at h ⊢
    exact ih.2 j i h hb hi
  · intro mn mx p ih j i h hb hi
    rw [Mt] at h ⊢
    obtain ⟨t, h1, h2, h3⟩ := h
    exact ⟨t, h1, h2, (it_move (fun j i h => (mt_len b n p j i h).1) ih t j i h3).2 hb hi⟩
  · refine ⟨fun j i h => ?_, fun j i h => ?_⟩
    · rw [MtC] at h; subst h; exact ⟨Nat.le_refl _, fun _ _ => by rw [MtC]⟩
    · rw [MtA] at h; exact h.elim
  · intro p l ih ih2
    refine ⟨fun j i h => ?_, fun j i h hb hi => ?_⟩
    · rw [MtC] at h
      obtain ⟨k, h1, h2⟩ := h
      have a := (mt_len b n p j k h1).1
      have c := ih2.1 k i h2
      exact ⟨by omega, fun hb hi => by
        rw [MtC]
        exact ⟨k + d, ih j k h1 (fun x h3 h4 => hb x h3 (by omega)) (by omega), c.2 (fun x h3 h4 => hb x (by omega) h4) hi⟩⟩
    · rw [MtA] at h ⊢
      exact h.imp (fun h => ih j i h hb hi) (fun h => ih2.2 j i h hb hi)
theorem mt_same {b b' : Nat → Nat} {n n' : Nat} {p : Pat} {j i : Nat} (h : Mt b n p j i) (hb : ∀ c, j ≤ c → c < i → b' c = b c) (hi : i ≤ n') : Mt b' n' p j i := by
  have := mt_move b b' n n' 0 p j i h (fun c h1 h2 => by simpa using hb c h1 h2) (by omega)
  simpa using this
/-- one behind the other -/
theorem mt_cat2 {b1 b2 b : Nat → Nat} {n m : Nat} {p q : Pat} (h1 : Mt b1 n p 0 n) (h2 : Mt b2 m q 0 m) (e1 : ∀ c, c < n → b c = b1 c) (e2 : ∀ c, c < m → b (n + c) = b2 c) : Mt b (n + m) (.cat [p, q]) 0 (n + m) := by
  rw [Mt, MtC]
  refine ⟨n, mt_same h1 (fun c _ h => e1 c h) (by omega), ?_⟩
  rw [MtC]
  refine ⟨n + m, ?_, by rw [MtC]⟩
  have := mt_move b2 b m (n + m) n q 0 m h2 (fun c _ h => by rw [Nat.add_comm]; exact e2 c h) (by omega)
  simpa [Nat.add_comm] using this
theorem mt_alt1 {b : Nat → Nat} {n : Nat} {p q : Pat} {j i : Nat} (h : Mt b n p j i) : Mt b n (.alt [p, q]) j i := by
  rw [Mt, MtA]; exact .inl h
theorem mt_alt2 {b : Nat → Nat} {n : Nat} {p q : Pat} {j i : Nat} (h : Mt b n q j i) : Mt b n (.alt [p, q]) j i := by
  rw [Mt, MtA, MtA]; exact .inr (.inl h)
theorem mt_once {b : Nat → Nat} {n : Nat} {p : Pat} {j i : Nat} (h : Mt b n p j i) : Mt b n (.rep 1 2 p) j i := by
  rw [Mt]; exact ⟨1, by omega, by omega, j, rfl, h⟩
theorem mt_twice {b1 b : Nat → Nat} {n : Nat} {p : Pat} (h : Mt b1 n p 0 n) (e1 : ∀ c, c < n → b c = b1 c) (e2 : ∀ c, c < n → b (n + c) = b1 c) : Mt b (n + n) (.rep 1 2 p) 0 (n + n) := by
  rw [Mt]
  refine ⟨2, by omega, by omega, n, ⟨0, rfl, mt_same h (fun c _ h => e1 c h) (by omega)⟩, ?_⟩
  have := mt_move b1 b n (n + n) n p 0 n h (fun c _ h => by rw [Nat.add_comm]; exact e2 c h) (by omega)
  simpa using this
theorem it_down {R R' : Nat → Nat → Prop} {b b' : Nat → Nat} {n' d : Nat} (hR : ∀ j i, R j i → j ≤ i)
    (h : ∀ j i, R j i → d ≤ j → (∀ c, j ≤ c → c < i → b' (c - d) = b c) → i - d ≤ n' → R' (j - d) (i - d)) (t : Nat) :
    ∀ j i, It R t j i → j ≤ i ∧ (d ≤ j → (∀ c, j ≤ c → c < i → b' (c - d) = b c) → i - d ≤ n' → It R' t (j - d) (i - d)) := by
  induction t with
  | zero => intro j i e; cases e; exact ⟨Nat.le_refl _, fun _ _ _ => rfl⟩
  | succ t ih =>
    rintro j i ⟨k, h1, h2⟩
    have a := ih j k h1
    have e := hR k i h2
    exact ⟨by omega, fun hd hb hi => ⟨k - d, a.2 hd (fun c h3 h4 => hb c h3 (by omega)) (by omega), h k i h2 (by omega) (fun c h3 h4 => hb c (by omega) h4) hi⟩⟩
/-- the same bytes further ahead -/
theorem mt_down {b b' : Nat → Nat} {n n' d : Nat} {p : Pat} : ∀ j i, Mt b n p j i → d ≤ j → (∀ c, j ≤ c → c < i → b' (c - d) = b c) → i - d ≤ n' → Mt b' n' p (j - d) (i - d) := by
  refine Pat.rec (motive_1 := fun p => ∀ j i, Mt b n p j i → d ≤ j → (∀ c, j ≤ c → c < i → b' (c - d) = b c) → i - d ≤ n' → Mt b' n' p (j - d) (i - d))
    (motive_2 := fun l => (∀ j i, MtC b n l j i → j ≤ i ∧ (d ≤ j → (∀ c, j ≤ c → c < i → b' (c - d) = b c) → i - d ≤ n' → MtC b' n' l (j - d) (i - d))) ∧ (∀ j i, MtA b n l j i → d ≤ j → (∀ c, j ≤ c → c < i → b' (c - d) = b c) → i - d ≤ n' → MtA b' n' l (j - d) (i - d))) ?_ ?_ ?_ ?_ ?_ ?_ p
  · intro s j i h hd hb hi
    rw [Mt] at h ⊢
    obtain ⟨rfl, h1, h2⟩ := h
    exact ⟨by omega, by omega, by rw [hb j (Nat.le_refl _) (by omega)]; exact h2⟩
  · intro l ih j i h hd hb hi
    rw [Mt] at h ⊢
    exact (ih.1 j i h).2 hd hb hi
  · intro l ih j i h hd hb hi
    rw [Mt] at h ⊢
    exact ih.2 j i h hd hb hi
  · intro mn mx p ih j i h hd hb hi
    rw [Mt] at h ⊢
    obtain ⟨t, h1, h2, h3⟩ := h
    exact ⟨t, h1, h2, (it_down (fun j i h => (mt_len b n p j i h).1) ih t j i h3).2 hd hb hi⟩
  · refine ⟨fun j i h => ?_, fun j i h => ?_⟩
    · rw [MtC] at h; subst h; exact ⟨Nat.le_refl _, fun _ _ _ => by rw [MtC]⟩
    · rw [MtA] at h; exact h.elim
  · intro p l ih ih2
    refine ⟨fun j i h => ?_, fun j i h hd hb hi => ?_⟩
    · rw [MtC] at h
      obtain ⟨k, h1, h2⟩ := h
      have a := (mt_len b n p j k h1).1
      have c := ih2.1 k i h2
      exact ⟨by omega, fun hd hb hi => by
        rw [MtC]
        exact ⟨k - d, ih j k h1 hd (fun x h3 h4 => hb x h3 (by omega)) (by omega), c.2 (by omega) (fun x h3 h4 => hb x (by omega) h4) hi⟩⟩
    · rw [MtA] at h ⊢
      exact h.imp (fun h => ih j i h hd hb hi) (fun h => ih2.2 j i h hd hb hi)
end Go.Proofs.Ytofgkildlhcpdaa
