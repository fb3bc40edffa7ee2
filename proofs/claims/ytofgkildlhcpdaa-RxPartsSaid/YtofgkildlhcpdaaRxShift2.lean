/- Patterns put together: in brackets, with a bar between, so many times. -/
import Derived.Test.YtofgkildlhcpdaaRxShift
set_option linter.unusedVariables false
set_option linter.unusedSimpArgs false
namespace Go.Proofs.Ytofgkildlhcpdaa
open Go.RowKit
def Tree.op : Tree → Int | .node op _ _ _ _ => op
def Tree.kids : Tree → List Tree | .node _ _ _ _ kids => kids
/-- a pattern's parts -/
def altsF (t : Tree) : List Tree := if t.op = 3 then t.kids else [t]
/-- where one stops -/
theorem P.stop {s : ByteArray} {Q : Q} {o p : Nat} {r : Re Tree} (h : P s Q o p r) : ∀ t q, r = .ok t q → match Q with
    | .part => ¬ goes s o q | .partL _ => ¬ goes s o q | .pat => ¬ goes s o q ∧ ch s q ≠ 124 | .patL _ => ¬ goes s o p → ¬ goes s o q ∧ ch s q ≠ 124 | _ => True := by
  induction h with
  | plain h => intro t q hr; trivial
  | deep h h1 => intro t q hr; trivial
  | sub h h1 h2 ih => intro t q hr; trivial
  | pieceNo h ih => intro t q hr; trivial
  | pieceOk h h1 ih ih1 => intro t q hr; trivial
  | opt h h1 ih => intro t q hr; trivial
  | times h h1 h2 ih => intro t q hr; trivial
  | timesNo h h1 => intro t q hr; trivial
  | pieceEnd h h1 => intro t q hr; trivial
  | partNo h ih => intro t q hr; cases hr
  | partOk h h1 ih ih1 => intro t q hr; exact ih1 t q hr
  | partMore h h1 h2 ih ih1 => intro t q hr; exact ih1 t q hr
  | partBad h h1 ih => intro t q hr; cases hr
  | partEnd h => intro t q hr; injection hr with e1 e2; subst e2; exact h
  | patNo h ih => intro t q hr; cases hr
  | patOk h h1 ih ih1 => intro t q hr; exact ih1 t q hr (ih _ _ rfl)
  | patMore h h1 h2 ih ih1 => intro t q hr; exact fun _ => ih1 t q hr (ih _ _ rfl)
  | patBad h h1 ih => intro t q hr; cases hr
  | patEnd h => intro t q hr; injection hr with e1 e2; subst e2; exact fun h1 => ⟨h1, h⟩
theorem pat_size {s : ByteArray} {a : Tree} {q : Nat} (h : P s .pat 0 0 (.ok a q)) : q = s.size := by
  have h1 := h.stop _ _ rfl
  have h2 := P.in h (Nat.zero_le _)
  have h3 := h2.2
  dsimp only at h1
  rcases Nat.lt_or_ge q s.size with h4 | h4
  · exfalso
    refine h1.1 ⟨?_, h1.2, .inr rfl⟩
    exact ch_pos h4
  · omega
theorem emb_mid (x s y : ByteArray) (hy : ch y 0 = 41 ∨ ch y 0 = 124 ∨ ch y 0 = -1) : Emb s (x ++ s ++ y) x.size := by
  refine ⟨fun p hp => ?_, by rw [ByteArray.size_append, ByteArray.size_append]; omega, ?_⟩
  · rw [ch_left (by rw [ByteArray.size_append]; omega), ch_right]
  · have : ch (x ++ s ++ y) (s.size + x.size) = ch y 0 := by
      have := ch_right (a := x ++ s) (b := y) (p := 0)
      rw [ByteArray.size_append, Nat.zero_add] at this
      rw [Nat.add_comm]; exact this
    rw [this]; exact hy
/-- a pattern in brackets is the pattern, or too deep: which of both doesn't hang on what stands around it -/
theorem in_par {s : ByteArray} {a : Tree} {q : Nat} (h : P s .pat 0 0 (.ok a q)) : ∃ b : Bool, ∀ u p, ch u p = 40 → Emb s u (p + 1) → ch u (s.size + (p + 1)) = 41 →
    ∃ r', P u .atom 0 p r' ∧ (if b then r' = .ok a (s.size + p + 2) else ∃ x, r' = .no 4 x) := by
  have hq := pat_size h
  subst hq
  obtain ⟨b, _, H⟩ := h.shift 1 a _ rfl (Nat.zero_le _)
  refine ⟨b, fun u p h40 E h41 => ?_⟩
  obtain ⟨r', hP, hr'⟩ := H u (p + 1) E (fun h => by omega) (fun _ => .inr (by rw [h41]; decide))
  rw [Nat.zero_add, Nat.zero_add] at hP
  refine ⟨_, P.sub h40 (by decide) hP, ?_⟩
  cases b with
  | true =>
    rw [if_pos rfl] at hr' ⊢
    subst hr'
    rw [closeF, if_pos h41]
    rfl
  | false =>
    rw [if_neg (by decide)] at hr' ⊢
    obtain ⟨x, rfl⟩ := hr'
    exact ⟨x, rfl⟩
/-- an atom that is all there is -/
theorem atom_all {u : ByteArray} {q : Nat} {r : Re Tree} {a : Tree} (h : P u .piece 0 0 (.ok a q)) (he : ch u q = -1) : P u .pat 0 0 (.ok a q) := by
  have a4 : P u (.partL [a]) 0 q (.ok a q) := P.partEnd (s := u) (o := 0) (p := q) (l := [a]) (fun h => by have := h.1; rw [he] at this; omega)
  have e : P u (.patL [a]) 0 q (.ok a q) := P.patEnd (s := u) (o := 0) (p := q) (l := [a]) (by rw [he]; decide)
  exact P.patOk (P.partOk h a4) e
def parS (s : ByteArray) : ByteArray := ⟨#[40]⟩ ++ s ++ ⟨#[41]⟩
theorem ch0 (x s : ByteArray) : ch (⟨#[40]⟩ ++ s ++ x) 0 = 40 := by
  rw [ch_left (by rw [ByteArray.size_append]; have : (⟨#[40]⟩ : ByteArray).size = 1 := rfl; omega), ch_left (by decide)]
  rfl
theorem sz_par (s : ByteArray) : (⟨#[40]⟩ ++ s : ByteArray).size = s.size + 1 := by rw [ByteArray.size_append, Nat.add_comm]; rfl
theorem ch_behind {x y : ByteArray} {p i n : Nat} (h : x.size = n) (hp : p = n + i) : ch (x ++ y) p = ch y i := by
  subst h; subst hp
  rw [Nat.add_comm]; exact ch_right
/-- the pattern s in brackets, at the head of a text -/
theorem par_head {s : ByteArray} {a : Tree} {q : Nat} (h : P s .pat 0 0 (.ok a q)) : ∃ b : Bool, ∀ y, ch y 0 = 41 →
    ∃ r', P (⟨#[40]⟩ ++ s ++ y) .atom 0 0 r' ∧ (if b then r' = .ok a (s.size + 2) else ∃ x, r' = .no 4 x) := by
  obtain ⟨b, H⟩ := in_par h
  refine ⟨b, fun y hy => ?_⟩
  exact H _ 0 (ch0 y s) (emb_mid ⟨#[40]⟩ s y (.inl hy)) (by rw [ch_behind (sz_par s) (i := 0) (by omega)]; exact hy)
/-- (s) -/
theorem par_P {s y : ByteArray} {a : Tree} {b : Bool} (hy : y = ⟨#[41]⟩) (h : ∃ r', P (⟨#[40]⟩ ++ s ++ y) .atom 0 0 r' ∧ (if b then r' = .ok a (s.size + 2) else ∃ x, r' = .no 4 x)) :
    ∃ r', P (⟨#[40]⟩ ++ s ++ y) .pat 0 0 r' ∧ (if b then r' = .ok a (s.size + 2) else ∃ x, r' = .no 4 x) := by
  obtain ⟨r', hP, hr'⟩ := h
  have he : ch (⟨#[40]⟩ ++ s ++ y) (s.size + 2) = -1 := by
    rw [ch_behind (sz_par s) (i := 1) (by omega), hy]; decide
  cases b with
  | true =>
    rw [if_pos rfl] at hr'
    subst hr'
    exact ⟨_, atom_all (r := .no 0 0) (P.pieceOk hP (P.pieceEnd (by rw [he]; decide) (by rw [he]; decide))) he, rfl⟩
  | false =>
    rw [if_neg (by decide)] at hr'
    obtain ⟨x, rfl⟩ := hr'
    exact ⟨_, P.patNo (P.partNo (P.pieceNo hP)), x, rfl⟩
/-- (s)? -/
theorem opt_P {s y : ByteArray} {a : Tree} (hy : y = ⟨#[41, 63]⟩) (h : P (⟨#[40]⟩ ++ s ++ y) .atom 0 0 (.ok a (s.size + 2))) : ∃ q, P (⟨#[40]⟩ ++ s ++ y) .pat 0 0 (.ok (repT 0 1 a) q) := by
  have h63 : ch (⟨#[40]⟩ ++ s ++ y) (s.size + 2) = 63 := by
    rw [ch_behind (sz_par s) (i := 1) (by omega), hy]; decide
  have he : ch (⟨#[40]⟩ ++ s ++ y) (s.size + 2 + 1) = -1 := by
    rw [ch_behind (sz_par s) (i := 2) (by omega), hy]; decide
  exact ⟨_, atom_all (r := .no 0 0) (P.pieceOk h (P.opt h63 (P.pieceEnd (by rw [he]; decide) (by rw [he]; decide)))) he⟩
/-- (s)|(t) -/
theorem bar_P {s t : ByteArray} {a b : Tree} (U : ByteArray) (q1 q2 : Nat) (h1 : P U .atom 0 0 (.ok a q1)) (hb : ch U q1 = 124) (h2 : P U .atom 0 (q1 + 1) (.ok b q2)) (he : ch U q2 = -1) : P U .pat 0 0 (.ok (altT [a, b]) q2) := by
  have p1 : P U .piece 0 0 (.ok a q1) := P.pieceOk h1 (P.pieceEnd (by rw [hb]; decide) (by rw [hb]; decide))
  have p2 : P U .piece 0 (q1 + 1) (.ok b q2) := P.pieceOk h2 (P.pieceEnd (by rw [he]; decide) (by rw [he]; decide))
  have a1 : P U (.partL [a]) 0 q1 (.ok a q1) := P.partEnd (s := U) (o := 0) (p := q1) (l := [a]) (fun h => h.2.1 hb)
  have a2 : P U (.partL [b]) 0 q2 (.ok b q2) := P.partEnd (s := U) (o := 0) (p := q2) (l := [b]) (fun h => by have := h.1; rw [he] at this; omega)
  have e : P U (.patL [a, b]) 0 q2 (.ok (altT [a, b]) q2) := P.patEnd (s := U) (o := 0) (p := q2) (l := [a, b]) (by rw [he]; decide)
  exact P.patOk (P.partOk p1 a1) (P.patMore hb (P.partOk p2 a2) e)
/-- a number from 0 to 99, in digits -/
def dgS (m : Nat) : ByteArray := if m < 10 then ⟨#[(48 + m).toUInt8]⟩ else ⟨#[(48 + m / 10).toUInt8, (48 + m % 10).toUInt8]⟩
theorem dg_one : ∀ m : Fin 33, m.val < 10 → (dgS m.val).size = 1 ∧ ch (dgS m.val) 0 = 48 + (m.val : Int) := by decide
theorem dg_two : ∀ m : Fin 33, 10 ≤ m.val → (dgS m.val).size = 2 ∧ 48 ≤ ch (dgS m.val) 0 ∧ ch (dgS m.val) 0 ≤ 57 ∧ 48 ≤ ch (dgS m.val) 1 ∧ ch (dgS m.val) 1 ≤ 57 ∧ 10 * (ch (dgS m.val) 0 - 48) + ch (dgS m.val) 1 - 48 = (m.val : Int) := by decide
theorem num_at {u : ByteArray} {p m : Nat} (hm : m < 33) (h : ∀ i, i < (dgS m).size → ch u (p + i) = ch (dgS m) i) (he : ch u (p + (dgS m).size) < 48) : numF u p = .ok (m : Int) (p + (dgS m).size) := by
  rcases Nat.lt_or_ge m 10 with h1 | h1
  · obtain ⟨h2, h3⟩ := dg_one ⟨m, hm⟩ h1
    dsimp only at h2 h3
    rw [h2] at h he ⊢
    have h4 := h 0 (by omega)
    rw [Nat.add_zero, h3] at h4
    unfold numF
    rw [h4, if_neg (by omega), if_neg (by omega), show (48 : Int) + m - 48 = m from by omega]
  · obtain ⟨h2, h3, h4, h5, h6, h7⟩ := dg_two ⟨m, hm⟩ h1
    dsimp only at h2 h3 h4 h5 h6 h7
    rw [h2] at h he ⊢
    have e0 := h 0 (by omega)
    have e1 := h 1 (by omega)
    rw [Nat.add_zero] at e0
    unfold numF
    rw [e0, e1, if_neg (by omega), if_pos ⟨h5, h6⟩, h7]
theorem dg_size {m : Nat} (hm : m < 33) : 1 ≤ (dgS m).size ∧ (dgS m).size ≤ 2 := by
  rcases Nat.lt_or_ge m 10 with h1 | h1
  · have := (dg_one ⟨m, hm⟩ h1).1; dsimp only at this; omega
  · have := (dg_two ⟨m, hm⟩ h1).1; dsimp only at this; omega
/-- (s){m,n} -/
theorem times_P {X : ByteArray} {a : Tree} {m n p : Nat} (hm : m ≤ n) (hn1 : 1 ≤ n) (hn : n ≤ 32) (hX : X.size = p + 1)
    (h : P (X ++ dgS m ++ ⟨#[44]⟩ ++ dgS n ++ ⟨#[125]⟩) .atom 0 0 (.ok a p)) (h123 : ch (X ++ dgS m ++ ⟨#[44]⟩ ++ dgS n ++ ⟨#[125]⟩) p = 123) : ∃ q, P (X ++ dgS m ++ ⟨#[44]⟩ ++ dgS n ++ ⟨#[125]⟩) .pat 0 0 (.ok (repT m n a) q) := by
  obtain ⟨U, hU⟩ : ∃ U, U = X ++ dgS m ++ ⟨#[44]⟩ ++ dgS n ++ ⟨#[125]⟩ := ⟨_, rfl⟩
  rw [← hU] at h h123 ⊢
  obtain ⟨hs1, hs2⟩ := dg_size (m := m) (by omega)
  obtain ⟨hs3, hs4⟩ := dg_size (m := n) (by omega)
  have z1 : (X ++ dgS m).size = p + 1 + (dgS m).size := by rw [ByteArray.size_append, hX]
  have z2 : (X ++ dgS m ++ ⟨#[44]⟩).size = p + 1 + (dgS m).size + 1 := by rw [ByteArray.size_append, z1]; rfl
  have z3 : (X ++ dgS m ++ ⟨#[44]⟩ ++ dgS n).size = p + 1 + (dgS m).size + 1 + (dgS n).size := by rw [ByteArray.size_append, z2]
  have c1 : ∀ i, i < (dgS m).size → ch U (p + 1 + i) = ch (dgS m) i := fun i hi => by
    rw [hU, ch_left (by omega), ch_left (by omega), ch_left (by omega), ch_behind hX rfl]
  have c2 : ch U (p + 1 + (dgS m).size) = 44 := by
    rw [hU, ch_left (by omega), ch_left (by omega), ch_behind z1 (i := 0) (by omega)]; decide
  have c3 : ∀ i, i < (dgS n).size → ch U (p + 1 + (dgS m).size + 1 + i) = ch (dgS n) i := fun i hi => by
    rw [hU, ch_left (by omega), ch_behind z2 rfl]
  have c4 : ch U (p + 1 + (dgS m).size + 1 + (dgS n).size) = 125 := by
    rw [hU, ch_behind z3 (i := 0) (by omega)]; decide
  have c5 : ch U (p + 1 + (dgS m).size + 1 + (dgS n).size + 1) = -1 := by
    rw [hU, ch_behind z3 (i := 1) (by omega)]; decide
  -- what behind the high number stands is no digit, though it is more than 57
  have n1 := num_at (u := U) (p := p + 1) (m := m) (by omega) c1 (by rw [c2]; decide)
  have n2 : numF U (p + 1 + (dgS m).size + 1) = .ok (n : Int) (p + 1 + (dgS m).size + 1 + (dgS n).size) := by
    generalize hP : p + 1 + (dgS m).size + 1 = w at c3 c4 c5
    rcases Nat.lt_or_ge n 10 with h1 | h1
    · obtain ⟨h2, h3⟩ := dg_one ⟨n, by omega⟩ h1
      dsimp only at h2 h3
      rw [h2] at c3 c4 ⊢
      have h4 := c3 0 (by omega)
      rw [Nat.add_zero, h3] at h4
      unfold numF
      rw [h4, c4, if_neg (by omega), if_neg (by omega), show (48 : Int) + n - 48 = n from by omega]
    · obtain ⟨h2, h3, h4, h5, h6, h7⟩ := dg_two ⟨n, by omega⟩ h1
      dsimp only at h2 h3 h4 h5 h6 h7
      rw [h2] at c3 c4 ⊢
      have e0 := c3 0 (by omega)
      have e1 := c3 1 (by omega)
      rw [Nat.add_zero] at e0
      unfold numF
      rw [e0, e1, if_neg (by omega), if_pos ⟨h5, h6⟩, h7]
  have hT : timesF U (p + 1) = .ok ((m : Int), (n : Int)) (p + 1 + (dgS m).size + 1 + (dgS n).size + 1) := by
    unfold timesF
    rw [n1]
    dsimp only
    rw [if_pos c2, n2, timesE, c4, if_neg (by omega)]
  exact ⟨_, atom_all (r := .no 0 0) (P.pieceOk h (P.times h123 hT (P.pieceEnd (by rw [c5]; decide) (by rw [c5]; decide)))) c5⟩
end Go.Proofs.Ytofgkildlhcpdaa
