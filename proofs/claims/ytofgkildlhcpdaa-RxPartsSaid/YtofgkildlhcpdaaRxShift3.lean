/- Two patterns without brackets, with a bar between. -/
import Derived.Test.YtofgkildlhcpdaaRxShift2
set_option linter.unusedVariables false
set_option linter.unusedSimpArgs false
namespace Go.Proofs.Ytofgkildlhcpdaa
open Go.RowKit
theorem atomF_op {s : ByteArray} {p : Nat} {t : Tree} {q : Nat} (h : atomF s p = .ok t q) : t.op = 1 := by
  unfold atomF at h
  split at h
  · cases h
  split at h
  · cases hm : classF s (p + 1) with
    | no c x => rw [hm] at h; cases h
    | ok g r => rw [hm] at h; unfold Re.map at h; dsimp only at h; injection h with h4 h5; rw [← h4]; rfl
  split at h
  · injection h with h4 h5; rw [← h4]; rfl
  split at h
  · cases hw : wideF (ch s (p + 1)) with
    | some g => rw [hw] at h; dsimp only at h; injection h with h4 h5; rw [← h4]; rfl
    | none =>
      rw [hw] at h
      dsimp only at h
      cases hm : escF s (p + 1) with
      | no c x => rw [hm] at h; cases h
      | ok a r => rw [hm] at h; unfold Re.map at h; dsimp only at h; injection h with h4 h5; rw [← h4]; rfl
  split at h
  · cases h
  split at h
  · cases h
  injection h with h4 h5; rw [← h4]; rfl
/-- without brackets no part is a choice -/
theorem P.bare {s : ByteArray} (hb : ∀ p, ch s p ≠ 40) {Q : Q} {o p : Nat} {r : Re Tree} (h : P s Q o p r) : ∀ t q, r = .ok t q → match Q with
    | .atom => t.op ≠ 3 | .piece => t.op ≠ 3 | .pieceL a => a.op ≠ 3 → t.op ≠ 3 | .part => t.op ≠ 3 | .partL l => (∀ x ∈ l, x.op ≠ 3) → t.op ≠ 3 | _ => True := by
  induction h with
  | plain h => intro t q hr; have := atomF_op hr; show t.op ≠ 3; omega
  | deep h h1 => exact absurd h (hb _)
  | sub h h1 h2 ih => exact absurd h (hb _)
  | pieceNo h ih => intro t q hr; cases hr
  | pieceOk h h1 ih ih1 => intro t q hr; exact ih1 t q hr (ih _ _ rfl)
  | opt h h1 ih => intro t q hr; exact fun _ => ih t q hr (by show (4 : Int) ≠ 3; decide)
  | times h h1 h2 ih => intro t q hr; exact fun _ => ih t q hr (by show (4 : Int) ≠ 3; decide)
  | timesNo h h1 => intro t q hr; cases hr
  | pieceEnd h h1 => intro t q hr; injection hr with e1 e2; subst e1; exact fun h => h
  | partNo h ih => intro t q hr; cases hr
  | partOk h h1 ih ih1 => intro t q hr; exact ih1 t q hr (fun x hx => by rw [List.mem_singleton] at hx; subst hx; exact ih _ _ rfl)
  | partMore h h1 h2 ih ih1 => intro t q hr; exact fun hl => ih1 t q hr (fun x hx => by
      rcases List.mem_append.1 hx with h | h
      · exact hl x h
      · rw [List.mem_singleton] at h; subst h; exact ih _ _ rfl)
  | partBad h h1 ih => intro t q hr; cases hr
  | @partEnd o p l h =>
    intro t q hr
    injection hr with e1 e2
    subst e1
    intro hl
    match l, hl with
    | [], _ => show (2 : Int) ≠ 3; decide
    | [x], hl => exact hl x (List.mem_singleton.2 rfl)
    | x :: y :: l, _ => show (2 : Int) ≠ 3; decide
  | patNo h ih => intro t q hr; trivial
  | patOk h h1 ih ih1 => intro t q hr; trivial
  | patMore h h1 h2 ih ih1 => intro t q hr; trivial
  | patBad h h1 ih => intro t q hr; trivial
  | patEnd h => intro t q hr; trivial
/-- the parts one behind the other, in a greater text -/
theorem patL_go {s : ByteArray} {Q : Q} {o p : Nat} {r : Re Tree} (h : P s Q o p r) : ∀ l t q, Q = .patL l → r = .ok t q → p ≤ s.size → ∃ L, t = many 3 (l ++ L) ∧
    ∀ u d, Emb s u d → (o = 0 → ch u (s.size + d) ≠ 41) → ∀ l' R, P u (.patL (l' ++ L)) o (q + d) R → P u (.patL l') o (p + d) R := by
  induction h with
  | plain h => intro l t q hQ; cases hQ
  | deep h h1 => intro l t q hQ; cases hQ
  | sub h h1 h2 ih => intro l t q hQ; cases hQ
  | pieceNo h ih => intro l t q hQ; cases hQ
  | pieceOk h h1 ih ih1 => intro l t q hQ; cases hQ
  | opt h h1 ih => intro l t q hQ; cases hQ
  | times h h1 h2 ih => intro l t q hQ; cases hQ
  | timesNo h h1 => intro l t q hQ; cases hQ
  | pieceEnd h h1 => intro l t q hQ; cases hQ
  | partNo h ih => intro l t q hQ; cases hQ
  | partOk h h1 ih ih1 => intro l t q hQ; cases hQ
  | partMore h h1 h2 ih ih1 => intro l t q hQ; cases hQ
  | partBad h h1 ih => intro l t q hQ; cases hQ
  | partEnd h => intro l t q hQ; cases hQ
  | patNo h ih => intro l t q hQ; cases hQ
  | patOk h h1 ih ih1 => intro l t q hQ; cases hQ
  | @patMore o p l0 t1 q1 r h h1 h2 ih ih1 =>
    intro l t q hQ hr hp
    injection hQ with e; subst e
    have hp1 := ch_ge (s := s) (p := p) (by omega)
    have hin := P.in h1 hp1
    obtain ⟨L, hL, H⟩ := ih1 _ t q rfl hr hin.2
    obtain ⟨b, hb, HS⟩ := h1.shift 0 t1 q1 rfl hp1
    obtain rfl := hb rfl
    refine ⟨t1 :: L, by rw [hL, List.append_assoc]; rfl, fun u d E he l' R hR => ?_⟩
    obtain ⟨r', hP, hr'⟩ := HS u d E he (fun h => h.elim)
    rw [if_pos rfl] at hr'; subst hr'
    rw [show p + 1 + d = p + d + 1 from by omega] at hP
    exact P.patMore (E.pos h (by decide)).1 hP (H u d E he _ R (by rw [List.append_assoc]; exact hR))
  | patBad h h1 ih => intro l t q hQ hr; cases hr
  | @patEnd o p l0 h =>
    intro l t q hQ hr hp
    injection hQ with e; subst e
    injection hr with e1 e2
    subst e1; subst e2
    exact ⟨[], by rw [List.append_nil], fun u d E he l' R hR => by rw [List.append_nil] at hR; exact hR⟩
theorem altsF_many {t : Tree} {L : List Tree} (h : t.op ≠ 3) : altsF (many 3 (t :: L)) = t :: L := by
  cases L with
  | nil => show altsF t = [t]; unfold altsF; rw [if_neg h]
  | cons x L => rfl
/-- s|t -/
theorem both_P {s t : ByteArray} {a b : Tree} {q1 q2 : Nat} (h1 : P s .pat 0 0 (.ok a q1)) (h2 : P t .pat 0 0 (.ok b q2)) (hb1 : ∀ p, ch s p ≠ 40) (hb2 : ∀ p, ch t p ≠ 40) :
    2 ≤ (altsF a ++ altsF b).length ∧ ∃ q, P (s ++ ⟨#[124]⟩ ++ t) .pat 0 0 (.ok (altT (altsF a ++ altsF b)) q) := by
  have e1 := pat_size h1
  have e2 := pat_size h2
  subst e1; subst e2
  obtain ⟨U, hU⟩ : ∃ U, U = s ++ ⟨#[124]⟩ ++ t := ⟨_, rfl⟩
  have zs : (s ++ ⟨#[124]⟩ : ByteArray).size = s.size + 1 := by rw [ByteArray.size_append]; rfl
  have zu : U.size = s.size + 1 + t.size := by rw [hU, ByteArray.size_append, zs]
  have c1 : ch U s.size = 124 := by
    rw [hU, ch_left (by omega), ch_behind rfl (i := 0) (by omega)]; decide
  have E1 : Emb s U 0 := ⟨fun p hp => by rw [hU, Nat.add_zero, ch_left (by omega), ch_left hp], by omega, .inr (.inl c1)⟩
  have c2 : ch U (t.size + (s.size + 1)) = -1 := ch_end (by omega)
  have E2 : Emb t U (s.size + 1) := ⟨fun p hp => by rw [hU, ch_behind zs (i := p) (by omega)], by omega, .inr (.inr c2)⟩
  rw [← hU]
  generalize hr1 : Re.ok a s.size = r1 at h1
  cases h1 with
  | patNo h => cases hr1
  | @patOk _ _ t1 q1 _ h h1 =>
    subst hr1
    have n1 := h.bare hb1 _ _ rfl
    have i1 := P.in h (Nat.zero_le _)
    obtain ⟨L1, hL1, H1⟩ := patL_go h1 _ _ _ rfl rfl i1.2
    obtain ⟨b1, hbb1, HS1⟩ := h.shift 0 _ _ rfl (Nat.zero_le _)
    obtain rfl := hbb1 rfl
    obtain ⟨r', hP1, hr'⟩ := HS1 U 0 E1 (fun _ => by rw [Nat.add_zero, c1]; decide) (fun h => h.elim)
    rw [if_pos rfl] at hr'; subst hr'
    generalize hr2 : Re.ok b t.size = r2 at h2
    cases h2 with
    | patNo h => cases hr2
    | @patOk _ _ t2 q2 _ g g1 =>
      subst hr2
      have n2 := g.bare hb2 _ _ rfl
      have i2 := P.in g (Nat.zero_le _)
      obtain ⟨L2, hL2, H2⟩ := patL_go g1 _ _ _ rfl rfl i2.2
      obtain ⟨b2, hbb2, HS2⟩ := g.shift 0 _ _ rfl (Nat.zero_le _)
      obtain rfl := hbb2 rfl
      obtain ⟨r', hP2, hr'⟩ := HS2 U (s.size + 1) E2 (fun _ => by rw [c2]; decide) (fun h => h.elim)
      rw [if_pos rfl] at hr'; subst hr'
      have a1 : altsF a = t1 :: L1 := by rw [hL1]; exact altsF_many n1
      have a2 : altsF b = t2 :: L2 := by rw [hL2]; exact altsF_many n2
      rw [a1, a2]
      refine ⟨by simp; omega, t.size + (s.size + 1), ?_⟩
      refine P.patOk hP1 (H1 U 0 E1 (fun _ => by rw [Nat.add_zero, c1]; decide) [t1] _ ?_)
      have hP2' : P U .part 0 (s.size + 0 + 1) (.ok t2 (q2 + (s.size + 1))) := by
        have e : 0 + (s.size + 1) = s.size + 0 + 1 := by omega
        rw [e] at hP2; exact hP2
      refine P.patMore (by rw [Nat.add_zero]; exact c1) hP2' (H2 U (s.size + 1) E2 (fun _ => by rw [c2]; decide) _ _ ?_)
      have e : many 3 ([t1] ++ L1 ++ [t2] ++ L2) = altT (t1 :: L1 ++ t2 :: L2) := by
        cases L1 <;> simp [many, altT]
      rw [← e]
      exact P.patEnd (by rw [c2]; decide)
end Go.Proofs.Ytofgkildlhcpdaa
