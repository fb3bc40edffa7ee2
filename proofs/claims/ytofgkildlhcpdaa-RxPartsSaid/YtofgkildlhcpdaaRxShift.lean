/- A pattern's text inside a greater one: what is read is the same. -/
import Derived.Test.YtofgkildlhcpdaaRx16
set_option linter.unusedVariables false
set_option linter.unusedSimpArgs false
namespace Go.Proofs.Ytofgkildlhcpdaa
open Go.RowKit
theorem ch_left {a b : ByteArray} {p : Nat} (h : p < a.size) : ch (a ++ b) p = ch a p := by
  unfold ch
  have h2 : p < (a ++ b).size := by rw [ByteArray.size_append]; omega
  rw [dif_pos h2, dif_pos h, ByteArray.getElem_append_left h]
theorem ch_right {a b : ByteArray} {p : Nat} : ch (a ++ b) (p + a.size) = ch b p := by
  unfold ch
  by_cases h : p < b.size
  · have h2 : p + a.size < (a ++ b).size := by rw [ByteArray.size_append]; omega
    rw [dif_pos h2, dif_pos h, ByteArray.getElem_append_right (by omega)]
    simp
  · have h2 : ¬ p + a.size < (a ++ b).size := by rw [ByteArray.size_append]; omega
    rw [dif_neg h2, dif_neg h]
/-- the text s stands in u from place d on; behind it a bracket that closes, a bar, or nothing -/
structure Emb (s u : ByteArray) (d : Nat) : Prop where
  at_ : ∀ p, p < s.size → ch u (p + d) = ch s p
  sz : s.size + d ≤ u.size
  end_ : ch u (s.size + d) = 41 ∨ ch u (s.size + d) = 124 ∨ ch u (s.size + d) = -1
section
variable {s u : ByteArray} {d : Nat} (E : Emb s u d)
include E
theorem Emb.pos {p : Nat} {c : Int} (h : ch s p = c) (h0 : 0 ≤ c) : ch u (p + d) = c ∧ p < s.size := by
  have := ch_ge (s := s) (p := p) (by omega)
  exact ⟨(E.at_ p this).trans h, this⟩
/-- what isn't there isn't there in the greater text -/
theorem Emb.ne {p : Nat} (hp : p ≤ s.size) {c : Int} (h : ch s p ≠ c) (h0 : c ≠ 41) (h1 : c ≠ 124) (h2 : c ≠ -1) : ch u (p + d) ≠ c := by
  rcases Nat.lt_or_ge p s.size with h3 | h3
  · rw [E.at_ p h3]; exact h
  · obtain rfl : p = s.size := by omega
    rcases E.end_ with h | h | h <;> rw [h] <;> omega
theorem emb_esc {p a q : Nat} (h : escF s p = .ok a q) : escF u (p + d) = .ok a (q + d) := by
  unfold escF at h ⊢
  split at h
  · rename_i h1; rw [(E.pos h1 (by decide)).1, if_pos rfl]; injection h with h2 h3; rw [← h2, ← h3]; congr 1; omega
  rename_i n1
  split at h
  · rename_i h1; rw [(E.pos h1 (by decide)).1, if_neg (by decide), if_pos rfl]; injection h with h2 h3; rw [← h2, ← h3]; congr 1; omega
  rename_i n2
  split at h
  · rename_i h1
    have h0 : 0 ≤ ch s p := by
      have := h1
      unfold spc at this; simp only [List.mem_cons, List.not_mem_nil, or_false] at this; omega
    rw [(E.pos rfl h0).1, if_neg n1, if_neg n2, if_pos h1]
    injection h with h2 h3; rw [← h2, ← h3]; congr 1; omega
  · cases h
theorem emb_member {p a q : Nat} (h : memberF s p = .ok a q) : memberF u (p + d) = .ok a (q + d) := by
  unfold memberF at h ⊢
  split at h
  · cases h
  rename_i n0
  rw [(E.pos rfl (by omega)).1, if_neg n0]
  split at h
  · cases h
  rename_i n1
  rw [if_neg n1]
  split at h
  · rename_i h1
    rw [if_pos h1, show p + d + 1 = p + 1 + d from by omega]
    exact emb_esc E h
  · rename_i n2
    rw [if_neg n2]
    injection h with h2 h3; rw [← h2, ← h3]; congr 1; omega
theorem emb_itemE {r : Re Nat} {r' : Re Nat} {f : Nat → Bool} {q' : Nat} (hr : ∀ lo q, r = .ok lo q → r' = .ok lo (q + d) ∧ q ≤ s.size) (h : itemE s r = .ok f q') : itemE u r' = .ok f (q' + d) := by
  cases r with
  | no c x => cases h
  | ok lo q =>
    obtain ⟨rfl, hq⟩ := hr lo q rfl
    rw [itemE] at h ⊢
    split at h
    · rename_i h1
      rw [if_pos (E.pos h1 (by decide)).1, show q + d + 1 = q + 1 + d from by omega]
      cases hm : memberF s (q + 1) with
      | no c x => rw [hm] at h; cases h
      | ok hi r =>
        rw [hm] at h
        rw [emb_member E hm]
        dsimp only at h ⊢
        split at h
        · cases h
        · rename_i n1
          rw [if_neg n1]
          injection h with h2 h3; rw [← h2, ← h3]
    · rename_i n1
      rw [if_neg (E.ne hq n1 (by decide) (by decide) (by decide))]
      injection h with h2 h3; rw [← h2, ← h3]
theorem emb_item {p q : Nat} {f : Nat → Bool} (hp : p ≤ s.size) (h : itemF s p = .ok f q) : itemF u (p + d) = .ok f (q + d) := by
  have hM : ∀ lo q, memberF s p = .ok lo q → memberF u (p + d) = .ok lo (q + d) ∧ q ≤ s.size := fun lo q hm => by
    refine ⟨emb_member E hm, ?_⟩
    have := (memberF_in s p hp).1
    rw [hm] at this; exact this.2
  unfold itemF at h ⊢
  split at h
  · rename_i h1
    have h2 := E.pos h1.1 (by decide)
    rw [if_pos ⟨h2.1, by have := E.sz; omega⟩, show p + d + 1 = p + 1 + d from by omega, E.at_ (p + 1) h1.2]
    cases hw : wideF (ch s (p + 1)) with
    | some g =>
      rw [hw] at h
      dsimp only at h ⊢
      injection h with h3 h4; rw [← h3, ← h4]; congr 1; omega
    | none =>
      rw [hw] at h
      exact emb_itemE E hM h
  · rename_i n1
    by_cases h92 : ch s p = 92
    · exfalso
      have : memberF s p = .no 2 (p + 1) := by
        unfold memberF
        rw [h92, if_neg (by decide), if_neg (by decide), if_pos rfl]
        have hs : s.size ≤ p + 1 := by
          rcases Nat.lt_or_ge (p + 1) s.size with h | h
          · exact absurd ⟨h92, h⟩ n1
          · exact h
        unfold escF
        rw [ch_end hs, if_neg (by decide), if_neg (by decide), if_neg (by decide)]
      rw [this] at h
      cases h
    · rw [if_neg (fun h => E.ne hp h92 (by decide) (by decide) (by decide) h.1)]
      exact emb_itemE E hM h
theorem emb_cls {K K' : Nat} (hK : K ≤ K') : ∀ {p q : Nat} {f g : Nat → Bool}, p ≤ s.size → clsF s K f p = .ok g q → clsF u K' f (p + d) = .ok g (q + d) := by
  induction K generalizing K' with
  | zero => intro p q f g hp h; cases h
  | succ K ih =>
    intro p q f g hp h
    obtain ⟨K', rfl⟩ : ∃ j, K' = j + 1 := ⟨K' - 1, by omega⟩
    rw [clsF] at h ⊢
    split at h
    · rename_i h1
      rw [if_pos (E.pos h1 (by decide)).1]
      injection h with h2 h3; rw [← h2, ← h3]; congr 1; omega
    · rename_i n1
      rw [if_neg (E.ne hp n1 (by decide) (by decide) (by decide))]
      have hin := itemF_in s p hp
      cases hm : itemF s p with
      | no c x => rw [hm] at h; cases h
      | ok e r =>
        rw [hm] at h hin
        rw [emb_item E hp hm]
        dsimp only at h ⊢
        exact ih (by omega) hin.2 h
theorem emb_clsE {neg : Bool} {r r' : Re (Nat → Bool)} {g : Nat → Bool} {q' : Nat} (hr : ∀ f q, r = .ok f q → r' = .ok f (q + d) ∧ q ≤ s.size) (h : clsE s neg r = .ok g q') : clsE u neg r' = .ok g (q' + d) := by
  cases r with
  | no c x => cases h
  | ok f q =>
    obtain ⟨rfl, hq⟩ := hr f q rfl
    rw [clsE] at h ⊢
    cases hm : clsF s (s.size + 1) f q with
    | no c x => rw [hm] at h; cases h
    | ok e r =>
      rw [hm] at h
      rw [emb_cls E (K' := u.size + 1) (by have := E.sz; omega) hq hm]
      unfold Re.map at h ⊢
      dsimp only at h ⊢
      injection h with h2 h3; rw [← h2, ← h3]
theorem emb_class {p q : Nat} {g : Nat → Bool} (hp : p ≤ s.size) (h : classF s p = .ok g q) : classF u (p + d) = .ok g (q + d) := by
  unfold classF at h ⊢
  split at h
  · rename_i h1
    have h2 := E.pos h1 (by decide)
    rw [if_pos h2.1, show p + d + 1 = p + 1 + d from by omega]
    refine emb_clsE E (fun f q hm => ⟨emb_item E (by omega) hm, ?_⟩) h
    have := itemF_in s (p + 1) (by omega)
    rw [hm] at this; exact this.2
  · rename_i n1
    rw [if_neg (E.ne hp n1 (by decide) (by decide) (by decide))]
    refine emb_clsE E (fun f q hm => ⟨emb_item E hp hm, ?_⟩) h
    have := itemF_in s p hp
    rw [hm] at this; exact this.2
theorem emb_num {p q : Nat} {a : Int} (h : numF s p = .ok a q) : numF u (p + d) = .ok a (q + d) := by
  unfold numF at h ⊢
  split at h
  · cases h
  rename_i n1
  obtain ⟨h1, h2⟩ := E.pos (p := p) rfl (by omega)
  rw [h1, if_neg n1]
  have e : p + d + 1 = p + 1 + d := by omega
  rw [e]
  split at h
  · rename_i h3
    rw [(E.pos (p := p + 1) rfl (by omega)).1, if_pos h3]
    injection h with h4 h5; rw [← h4, ← h5]; congr 1; omega
  · rename_i n3
    have n4 : ¬ (48 ≤ ch u (p + 1 + d) ∧ ch u (p + 1 + d) ≤ 57) := by
      rcases Nat.lt_or_ge (p + 1) s.size with h3 | h3
      · rw [E.at_ _ h3]; exact n3
      · rw [show p + 1 = s.size from by omega]
        rcases E.end_ with h | h | h <;> rw [h] <;> omega
    rw [if_neg n4]
    injection h with h4 h5; rw [← h4, ← h5]
theorem emb_timesE {low : Int} {r r' : Re Int} {m n : Int} {q' : Nat} (hr : ∀ a q, r = .ok a q → r' = .ok a (q + d)) (h : timesE s low r = .ok (m, n) q') : timesE u low r' = .ok (m, n) (q' + d) := by
  cases r with
  | no c x => cases h
  | ok a q =>
    rw [hr a q rfl]
    rw [timesE] at h ⊢
    split at h
    · cases h
    · rename_i n1
      rw [(E.pos (p := q) (c := 125) (by omega) (by decide)).1, if_neg (by omega)]
      injection h with h2 h3; rw [h2, ← h3, show q + d + 1 = q + 1 + d from by omega]
theorem emb_times {p q : Nat} {m n : Int} (hp : p ≤ s.size) (h : timesF s p = .ok (m, n) q) : timesF u (p + d) = .ok (m, n) (q + d) := by
  unfold timesF at h ⊢
  have hin := (numF_in s p hp).1
  cases hm : numF s p with
  | no c x => rw [hm] at h; cases h
  | ok low q1 =>
    rw [hm] at h hin
    rw [emb_num E hm]
    dsimp only at h ⊢
    refine emb_timesE E (fun a q h2 => ?_) h
    split at h2
    · rename_i h3
      rw [if_pos (E.pos h3 (by decide)).1, show q1 + d + 1 = q1 + 1 + d from by omega]
      exact emb_num E h2
    · rename_i n3
      rw [if_neg (E.ne hin.2 n3 (by decide) (by decide) (by decide))]
      injection h2 with h4 h5; rw [h4, h5]
theorem emb_atom {p q : Nat} {t : Tree} (h : atomF s p = .ok t q) : atomF u (p + d) = .ok t (q + d) := by
  unfold atomF at h ⊢
  split at h
  · cases h
  rename_i n0
  obtain ⟨h1, h2⟩ := E.pos (p := p) rfl (by omega)
  rw [h1, if_neg n0]
  have e : p + d + 1 = p + 1 + d := by omega
  have e2 : p + d + 2 = p + 2 + d := by omega
  rw [e, e2]
  split at h
  · rename_i h3
    rw [if_pos h3]
    cases hm : classF s (p + 1) with
    | no c x => rw [hm] at h; cases h
    | ok g r =>
      rw [hm] at h
      rw [emb_class E (by omega) hm]
      unfold Re.map at h ⊢
      dsimp only at h ⊢
      injection h with h4 h5; rw [← h4, ← h5]
  rename_i n1
  rw [if_neg n1]
  split at h
  · rename_i h3
    rw [if_pos h3]
    injection h with h4 h5; rw [← h4, ← h5]
  rename_i n2
  rw [if_neg n2]
  split at h
  · rename_i h3
    rw [if_pos h3]
    cases hw : wideF (ch s (p + 1)) with
    | some g =>
      rw [hw] at h
      have h0 : 0 ≤ ch s (p + 1) := by
        unfold wideF at hw
        split at hw
        · omega
        · split at hw
          · omega
          · cases hw
      rw [(E.pos (p := p + 1) rfl h0).1, hw]
      dsimp only at h ⊢
      injection h with h4 h5; rw [← h4, ← h5]
    | none =>
      rw [hw] at h
      dsimp only at h
      cases hm : escF s (p + 1) with
      | no c x => rw [hm] at h; cases h
      | ok a r =>
        rw [hm] at h
        have h0 : p + 1 < s.size := by
          rcases Nat.lt_or_ge (p + 1) s.size with h | h
          · exact h
          · exfalso
            unfold escF at hm
            rw [ch_end h, if_neg (by decide), if_neg (by decide), if_neg (by decide)] at hm
            cases hm
        rw [E.at_ _ h0, hw]
        dsimp only
        rw [emb_esc E hm]
        unfold Re.map at h ⊢
        dsimp only at h ⊢
        injection h with h4 h5; rw [← h4, ← h5]
  rename_i n3
  rw [if_neg n3]
  split at h
  · cases h
  rename_i n4
  rw [if_neg n4]
  split at h
  · cases h
  rename_i n5
  rw [if_neg n5]
  injection h with h4 h5; rw [← h4, ← h5]
theorem emb_close {r : Re Tree} {t : Tree} {q : Nat} {r' : Re Tree} (hr : ∀ t q, r = .ok t q → r' = .ok t (q + d)) (h : closeF s r = .ok t q) : closeF u r' = .ok t (q + d) := by
  cases r with
  | no c x => cases h
  | ok a q1 =>
    rw [hr a q1 rfl]
    rw [closeF] at h ⊢
    split at h
    · rename_i h1
      rw [if_pos (E.pos h1 (by decide)).1]
      injection h with h4 h5; rw [← h4, ← h5]; congr 1; omega
    · cases h
end
/-- no pattern begins with a bracket that closes -/
theorem atom_not41 {s : ByteArray} {o p q : Nat} {t : Tree} (h : P s .atom o p (.ok t q)) : ch s p ≠ 41 := by
  intro h41
  generalize hr : Re.ok t q = r at h
  cases h with
  | plain h1 =>
    unfold atomF at hr
    rw [h41, if_neg (by decide), if_neg (by decide), if_neg (by decide), if_neg (by decide), if_neg (by decide), if_pos (by decide)] at hr
    cases hr
  | deep h1 => cases hr
  | sub h1 => rw [h41] at h1; cases h1
theorem piece_not41 {s : ByteArray} {o p q : Nat} {t : Tree} (h : P s .piece o p (.ok t q)) : ch s p ≠ 41 := by
  generalize hr : Re.ok t q = r at h
  cases h with
  | pieceNo h1 => cases hr
  | pieceOk h1 h2 => exact atom_not41 h1
def Q.isPat : Q → Prop | .pat => True | .patL _ => True | _ => False
/-- what is read in the lesser text is read in the greater one, k brackets further in: or it is too deep there, wherever it stands -/
theorem P.shift {s : ByteArray} {Q : Q} {o p : Nat} {r : Re Tree} (h : P s Q o p r) (k : Nat) : ∀ t q, r = .ok t q → p ≤ s.size → ∃ b : Bool, (k = 0 → b = true) ∧ ∀ u d, Emb s u d → (o + k = 0 → ch u (s.size + d) ≠ 41) → (Q.isPat → q < s.size ∨ ch u (s.size + d) ≠ 124) →
    ∃ r', P u Q (o + k) (p + d) r' ∧ (if b then r' = .ok t (q + d) else ∃ x, r' = .no 4 x) := by
  induction h with
  | @plain o p h =>
    intro t q hr hp
    refine ⟨true, fun _ => rfl, fun u d E he _ => ⟨_, P.plain ?_, emb_atom E hr⟩⟩
    exact E.ne hp h (by decide) (by decide) (by decide)
  | deep h h1 => intro t q hr hp; cases hr
  | @sub o p r h h1 h2 ih =>
    intro t q hr hp
    have hps := ch_ge (s := s) (p := p) (by omega)
    cases r with
    | no c x => cases hr
    | ok t1 q1 =>
      have hr2 := hr
      rw [closeF] at hr
      split at hr
      · rename_i h41
        injection hr with e1 e2
        subst e1; subst e2
        have hq1 := ch_ge (s := s) (p := q1) (by omega)
        obtain ⟨b, hb, H⟩ := ih t1 q1 rfl hps
        by_cases h20 : o + k = 20
        · refine ⟨false, fun hk => by omega, fun u d E he _ => ⟨_, P.deep (E.pos h (by decide)).1 h20, _, rfl⟩⟩
        refine ⟨b, hb, fun u d E he _ => ?_⟩
        obtain ⟨r', hP, hr'⟩ := H u d E (fun h => by omega) (fun _ => .inl hq1)
        rw [show o + 1 + k = o + k + 1 from by omega, show p + 1 + d = p + d + 1 from by omega] at hP
        refine ⟨_, P.sub (E.pos h (by decide)).1 h20 hP, ?_⟩
        cases b with
        | true =>
          rw [if_pos rfl] at hr' ⊢
          subst hr'
          exact emb_close E (r := .ok t1 q1) (fun t q e => by injection e with e1 e2; rw [e1, e2]) hr2
        | false =>
          rw [if_neg (by decide)] at hr' ⊢
          obtain ⟨x, rfl⟩ := hr'
          exact ⟨x, rfl⟩
      · cases hr
  | pieceNo h ih => intro t q hr hp; cases hr
  | @pieceOk o p t1 q1 r h h1 ih ih1 =>
    intro t q hr hp
    have hin := P.in h hp
    obtain ⟨b, hb, H⟩ := ih t1 q1 rfl hp
    obtain ⟨b1, hb1, H1⟩ := ih1 t q hr hin.2
    refine ⟨b && b1, fun hk => by rw [hb hk, hb1 hk]; rfl, fun u d E he _ => ?_⟩
    obtain ⟨r', hP, hr'⟩ := H u d E he (fun h => h.elim)
    obtain ⟨r1', hP1, hr1'⟩ := H1 u d E he (fun h => h.elim)
    cases b with
    | true =>
      rw [if_pos rfl] at hr'; subst hr'
      exact ⟨r1', P.pieceOk hP hP1, hr1'⟩
    | false =>
      rw [if_neg (by decide)] at hr'
      obtain ⟨x, rfl⟩ := hr'
      exact ⟨_, P.pieceNo hP, x, rfl⟩
  | @opt o p t1 r h h1 ih =>
    intro t q hr hp
    obtain ⟨b1, hb1, H1⟩ := ih t q hr (ch_ge (s := s) (p := p) (by omega))
    refine ⟨b1, hb1, fun u d E he _ => ?_⟩
    obtain ⟨r1', hP1, hr1'⟩ := H1 u d E he (fun h => h.elim)
    rw [show p + 1 + d = p + d + 1 from by omega] at hP1
    exact ⟨r1', P.opt (E.pos h (by decide)).1 hP1, hr1'⟩
  | @times o p t1 m n q1 r h h1 h2 ih =>
    intro t q hr hp
    have hp1 := ch_ge (s := s) (p := p) (by omega)
    have hin := (timesF_in s (p + 1) hp1).1
    rw [h1] at hin
    obtain ⟨b1, hb1, H1⟩ := ih t q hr hin.2
    refine ⟨b1, hb1, fun u d E he _ => ?_⟩
    obtain ⟨r1', hP1, hr1'⟩ := H1 u d E he (fun h => h.elim)
    have := emb_times E hp1 h1
    rw [show p + 1 + d = p + d + 1 from by omega] at this
    exact ⟨r1', P.times (E.pos h (by decide)).1 this hP1, hr1'⟩
  | timesNo h h1 => intro t q hr hp; cases hr
  | @pieceEnd o p t1 h h1 =>
    intro t q hr hp
    injection hr with e1 e2
    subst e1; subst e2
    exact ⟨true, fun _ => rfl, fun u d E he _ => ⟨_, P.pieceEnd (E.ne hp h (by decide) (by decide) (by decide)) (E.ne hp h1 (by decide) (by decide) (by decide)), rfl⟩⟩
  | partNo h ih => intro t q hr hp; cases hr
  | @partOk o p t1 q1 r h h1 ih ih1 =>
    intro t q hr hp
    have hin := P.in h hp
    obtain ⟨b, hb, H⟩ := ih t1 q1 rfl hp
    obtain ⟨b1, hb1, H1⟩ := ih1 t q hr hin.2
    refine ⟨b && b1, fun hk => by rw [hb hk, hb1 hk]; rfl, fun u d E he _ => ?_⟩
    obtain ⟨r', hP, hr'⟩ := H u d E he (fun h => h.elim)
    obtain ⟨r1', hP1, hr1'⟩ := H1 u d E he (fun h => h.elim)
    cases b with
    | true =>
      rw [if_pos rfl] at hr'; subst hr'
      exact ⟨r1', P.partOk hP hP1, hr1'⟩
    | false =>
      rw [if_neg (by decide)] at hr'
      obtain ⟨x, rfl⟩ := hr'
      exact ⟨_, P.partNo hP, x, rfl⟩
  | @partMore o p l t1 q1 r h h1 h2 ih ih1 =>
    intro t q hr hp
    have hin := P.in h1 hp
    obtain ⟨b, hb, H⟩ := ih t1 q1 rfl hp
    obtain ⟨b1, hb1, H1⟩ := ih1 t q hr hin.2
    refine ⟨b && b1, fun hk => by rw [hb hk, hb1 hk]; rfl, fun u d E he _ => ?_⟩
    obtain ⟨r', hP, hr'⟩ := H u d E he (fun h => h.elim)
    obtain ⟨r1', hP1, hr1'⟩ := H1 u d E he (fun h => h.elim)
    have hc := E.pos (p := p) rfl h.1
    have hg : goes u (o + k) (p + d) := by
      unfold goes
      rw [hc.1]
      exact ⟨h.1, h.2.1, .inl (piece_not41 h1)⟩
    cases b with
    | true =>
      rw [if_pos rfl] at hr'; subst hr'
      exact ⟨r1', P.partMore hg hP hP1, hr1'⟩
    | false =>
      rw [if_neg (by decide)] at hr'
      obtain ⟨x, rfl⟩ := hr'
      exact ⟨_, P.partBad hg hP, x, rfl⟩
  | partBad h h1 ih => intro t q hr hp; cases hr
  | @partEnd o p l h =>
    intro t q hr hp
    injection hr with e1 e2
    subst e1; subst e2
    refine ⟨true, fun _ => rfl, fun u d E he _ => ⟨_, P.partEnd (fun hg => ?_), rfl⟩⟩
    rcases Nat.lt_or_ge p s.size with h3 | h3
    · unfold goes at h hg
      rw [E.at_ p h3] at hg
      refine h ⟨hg.1, hg.2.1, ?_⟩
      rcases hg.2.2 with h | h
      · exact .inl h
      · exact .inr (by omega)
    · obtain rfl : p = s.size := by omega
      unfold goes at hg
      rcases E.end_ with h | h | h
      · have h0 : o + k ≠ 0 := fun e => he e h
        rcases hg.2.2 with h | h <;> omega
      · exact hg.2.1 h
      · have := hg.1; omega
  | patNo h ih => intro t q hr hp; cases hr
  | @patOk o p t1 q1 r h h1 ih ih1 =>
    intro t q hr hp
    have hin := P.in h hp
    obtain ⟨b, hb, H⟩ := ih t1 q1 rfl hp
    obtain ⟨b1, hb1, H1⟩ := ih1 t q hr hin.2
    refine ⟨b && b1, fun hk => by rw [hb hk, hb1 hk]; rfl, fun u d E he hq => ?_⟩
    obtain ⟨r', hP, hr'⟩ := H u d E he (fun h => h.elim)
    obtain ⟨r1', hP1, hr1'⟩ := H1 u d E he hq
    cases b with
    | true =>
      rw [if_pos rfl] at hr'; subst hr'
      exact ⟨r1', P.patOk hP hP1, hr1'⟩
    | false =>
      rw [if_neg (by decide)] at hr'
      obtain ⟨x, rfl⟩ := hr'
      exact ⟨_, P.patNo hP, x, rfl⟩
  | @patMore o p l t1 q1 r h h1 h2 ih ih1 =>
    intro t q hr hp
    have hp1 := ch_ge (s := s) (p := p) (by omega)
    have hin := P.in h1 hp1
    obtain ⟨b, hb, H⟩ := ih t1 q1 rfl hp1
    obtain ⟨b1, hb1, H1⟩ := ih1 t q hr hin.2
    refine ⟨b && b1, fun hk => by rw [hb hk, hb1 hk]; rfl, fun u d E he hq => ?_⟩
    obtain ⟨r', hP, hr'⟩ := H u d E he (fun h => h.elim)
    obtain ⟨r1', hP1, hr1'⟩ := H1 u d E he hq
    rw [show p + 1 + d = p + d + 1 from by omega] at hP
    have hc := (E.pos h (by decide)).1
    cases b with
    | true =>
      rw [if_pos rfl] at hr'; subst hr'
      exact ⟨r1', P.patMore hc hP hP1, hr1'⟩
    | false =>
      rw [if_neg (by decide)] at hr'
      obtain ⟨x, rfl⟩ := hr'
      exact ⟨_, P.patBad hc hP, x, rfl⟩
  | patBad h h1 ih => intro t q hr hp; cases hr
  | @patEnd o p l h =>
    intro t q hr hp
    injection hr with e1 e2
    subst e1; subst e2
    refine ⟨true, fun _ => rfl, fun u d E he hq => ⟨_, P.patEnd (fun hc => ?_), rfl⟩⟩
    rcases Nat.lt_or_ge p s.size with h3 | h3
    · rw [E.at_ p h3] at hc; exact h hc
    · obtain rfl : p = s.size := by omega
      rcases hq trivial with h | h
      · omega
      · exact h hc
end Go.Proofs.Ytofgkildlhcpdaa
