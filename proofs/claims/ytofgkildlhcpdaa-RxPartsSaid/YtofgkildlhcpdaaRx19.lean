/- The texts of RxParts, put together; what the program's Parse makes of them. -/
import Derived.Test.YtofgkildlhcpdaaRx18
set_option linter.unusedVariables false
set_option linter.unusedSimpArgs false
namespace Go.Proofs.Ytofgkildlhcpdaa
open Go.RowKit Bt
abbrev c40 : ByteArray := { data := #[40] }
theorem in_head {s : ByteArray} {a : Tree} {b : Bool} (H : ∀ u p, ch u p = 40 → Emb s u (p + 1) → ch u (s.size + (p + 1)) = 41 → ∃ r', P u .atom 0 p r' ∧ (if b then r' = .ok a (s.size + p + 2) else ∃ x, r' = .no 4 x)) (y : ByteArray) (hy : ch y 0 = 41) :
    ∃ r', P (c40 ++ s ++ y) .atom 0 0 r' ∧ (if b then r' = .ok a (s.size + 2) else ∃ x, r' = .no 4 x) :=
  H _ 0 (ch0 y s) (emb_mid c40 s y (.inl hy)) (by rw [ch_behind (sz_par s) (i := 0) (by omega)]; exact hy)
theorem ba_app (a b c : ByteArray) : a ++ b ++ c = a ++ (b ++ c) := ByteArray.append_assoc
/-- (s)|(t) -/
theorem both_par {s t : ByteArray} {a b : Tree} (H1 : ∀ u p, ch u p = 40 → Emb s u (p + 1) → ch u (s.size + (p + 1)) = 41 → ∃ r', P u .atom 0 p r' ∧ (if true then r' = .ok a (s.size + p + 2) else ∃ x, r' = .no 4 x))
    (H2 : ∀ u p, ch u p = 40 → Emb t u (p + 1) → ch u (t.size + (p + 1)) = 41 → ∃ r', P u .atom 0 p r' ∧ (if true then r' = .ok b (t.size + p + 2) else ∃ x, r' = .no 4 x)) :
    ∃ q, P (c40 ++ s ++ ⟨#[41, 124, 40]⟩ ++ t ++ ⟨#[41]⟩) .pat 0 0 (.ok (altT [a, b]) q) := by
  obtain ⟨U, hU⟩ : ∃ U, U = c40 ++ s ++ ⟨#[41, 124, 40]⟩ ++ t ++ ⟨#[41]⟩ := ⟨_, rfl⟩
  have hU2 : U = c40 ++ s ++ (⟨#[41, 124, 40]⟩ ++ t ++ ⟨#[41]⟩) := by rw [hU]; simp only [ba_app]
  have z1 : (c40 ++ s ++ ⟨#[41, 124, 40]⟩ : ByteArray).size = s.size + 4 := by rw [ByteArray.size_append, sz_par]; rfl
  have z2 : (c40 ++ s ++ ⟨#[41, 124, 40]⟩ ++ t : ByteArray).size = s.size + 4 + t.size := by rw [ByteArray.size_append, z1]
  have zu : U.size = s.size + 4 + t.size + 1 := by rw [hU, ByteArray.size_append, z2]; rfl
  have d0 : ∀ i, i < 3 → ch (⟨#[41, 124, 40]⟩ ++ t ++ ⟨#[41]⟩ : ByteArray) i = ch ⟨#[41, 124, 40]⟩ i := fun i hi => by
    have e : (⟨#[41, 124, 40]⟩ : ByteArray).size = 3 := rfl
    rw [ch_left (by rw [ByteArray.size_append]; omega), ch_left (by omega)]
  have c1 : ∀ i, i < 3 → ch U (s.size + 1 + i) = ch ⟨#[41, 124, 40]⟩ i := fun i hi => by
    rw [hU2, ch_behind (sz_par s) (i := i) rfl, d0 i hi]
  have c41 : ch U (s.size + 1) = 41 := by have := c1 0 (by omega); rw [Nat.add_zero] at this; rw [this]; decide
  have c124 : ch U (s.size + 2) = 124 := by have := c1 1 (by omega); rw [show s.size + 1 + 1 = s.size + 2 from rfl] at this; rw [this]; decide
  have c40' : ch U (s.size + 3) = 40 := by have := c1 2 (by omega); rw [show s.size + 1 + 2 = s.size + 3 from rfl] at this; rw [this]; decide
  have e41 : ch U (s.size + 4 + t.size) = 41 := by rw [hU, ch_behind z2 (i := 0) (by omega)]; decide
  have eE : ch U (s.size + 4 + t.size + 1) = -1 := ch_end (by omega)
  rw [← hU]
  obtain ⟨r1, p1, h1⟩ := H1 U 0 (by rw [hU2]; exact ch0 _ _) (by rw [hU2]; exact emb_mid c40 s _ (.inl (by rw [d0 0 (by omega)]; decide))) (by rw [Nat.zero_add]; exact c41)
  rw [if_pos rfl] at h1; subst h1
  have E2 : Emb t U (s.size + 3 + 1) := by
    rw [hU, show s.size + 3 + 1 = (c40 ++ s ++ ⟨#[41, 124, 40]⟩ : ByteArray).size from by rw [z1]]
    exact emb_mid _ t _ (.inl (by decide))
  obtain ⟨r2, p2, h2⟩ := H2 U (s.size + 3) c40' E2 (by rw [← e41]; congr 1; omega)
  rw [if_pos rfl] at h2; subst h2
  exact ⟨_, bar_P (s := s) (t := t) U _ _ p1 (by rw [Nat.add_zero]; exact c124) p2 (by rw [← eE]; congr 1; omega)⟩
/-- what becomes of two patterns that are put together -/
theorem parts_plain {s t : ByteArray} {a b : Tree} {q1 q2 : Nat} (h1 : P s .pat 0 0 (.ok a q1)) (h2 : P t .pat 0 0 (.ok b q2)) : ∃ b1 b2 : Bool,
    (∃ r', P (c40 ++ s ++ ⟨#[41]⟩) .pat 0 0 r' ∧ (if b1 then r' = .ok a (s.size + 2) else ∃ x, r' = .no 4 x)) ∧
    (∃ r', P (c40 ++ t ++ ⟨#[41]⟩) .pat 0 0 r' ∧ (if b2 then r' = .ok b (t.size + 2) else ∃ x, r' = .no 4 x)) ∧
    (b1 = true → b2 = true → ∃ q, P (c40 ++ s ++ ⟨#[41, 124, 40]⟩ ++ t ++ ⟨#[41]⟩) .pat 0 0 (.ok (altT [a, b]) q)) ∧
    (b1 = true → ∀ m n : Nat, m ≤ n → 1 ≤ n → n ≤ 32 → ∃ q, P (c40 ++ s ++ ⟨#[41, 123]⟩ ++ dgS m ++ ⟨#[44]⟩ ++ dgS n ++ ⟨#[125]⟩) .pat 0 0 (.ok (repT m n a) q)) ∧
    (b1 = true → ∃ q, P (c40 ++ s ++ ⟨#[41, 63]⟩) .pat 0 0 (.ok (repT 0 1 a) q)) := by
  obtain ⟨b1, H1⟩ := in_par h1
  obtain ⟨b2, H2⟩ := in_par h2
  refine ⟨b1, b2, par_P rfl (in_head H1 _ (by decide)), par_P rfl (in_head H2 _ (by decide)), ?_, ?_, ?_⟩
  · rintro rfl rfl
    exact both_par H1 H2
  · rintro rfl m n hm hn1 hn
    have zx : (c40 ++ s ++ ⟨#[41, 123]⟩ : ByteArray).size = s.size + 2 + 1 := by rw [ByteArray.size_append, sz_par]; rfl
    have hU2 : (c40 ++ s ++ ⟨#[41, 123]⟩ ++ dgS m ++ ⟨#[44]⟩ ++ dgS n ++ ⟨#[125]⟩ : ByteArray) = c40 ++ s ++ (⟨#[41, 123]⟩ ++ (dgS m ++ (⟨#[44]⟩ ++ (dgS n ++ ⟨#[125]⟩)))) := by
      simp only [ba_app]
    have hy : ∀ i, i < 2 → ch (⟨#[41, 123]⟩ ++ (dgS m ++ (⟨#[44]⟩ ++ (dgS n ++ ⟨#[125]⟩))) : ByteArray) i = ch ⟨#[41, 123]⟩ i := fun i hi => ch_left (by have e : (⟨#[41, 123]⟩ : ByteArray).size = 2 := rfl; omega)
    obtain ⟨r', hP, hr⟩ := in_head H1 (⟨#[41, 123]⟩ ++ (dgS m ++ (⟨#[44]⟩ ++ (dgS n ++ ⟨#[125]⟩)))) (by rw [hy 0 (by omega)]; decide)
    rw [if_pos rfl] at hr; subst hr
    rw [← hU2] at hP
    exact times_P hm hn1 hn zx hP (by rw [hU2, ch_behind (sz_par s) (i := 1) (by omega), hy 1 (by omega)]; decide)
  · rintro rfl
    obtain ⟨r', hP, hr⟩ := in_head H1 ⟨#[41, 63]⟩ (by decide)
    rw [if_pos rfl] at hr; subst hr
    exact opt_P rfl hP
/-- the kids of a choice of two, of a repetition -/
theorem kids_two {w : World} {a b : Tree} {A : Option Addr} {n c : Nat} (h : NAt w (altT [a, b]) (.slice A n c)) : n = 2 ∧ ∃ k o, A = some ⟨k, o, none⟩ ∧ 2 ≤ c ∧
    ∃ op f mn mx l ka kc op' f' mn' mx' l' ka' kc', a = .node op f mn mx l ∧ b = .node op' f' mn' mx' l' ∧ Cell8 w k o op f mn mx (.slice ka l.length kc) ∧ Cell8 w k (o + 8) op' f' mn' mx' (.slice ka' l'.length kc') ∧ NAt w a (.slice ka l.length kc) ∧ NAt w b (.slice ka' l'.length kc') := by
  obtain ⟨k, o, cap, he, hc, op, f, mn, mx, l, ka, kc, ht, h8, hn⟩ := kid_at (j := 0) h rfl
  obtain ⟨k', o', cap', he', hc', op', f', mn', mx', l', ka', kc', ht', h8', hn'⟩ := kid_at (j := 1) h rfl
  injection he with e1 e2 e3
  subst e1
  injection he' with e4 e5 e6
  injection e4 with e4
  injection e4 with e7 e8
  subst e7; subst e8
  refine ⟨e2, k, o, rfl, by rw [e3]; exact hc, op, f, mn, mx, l, ka, kc, op', f', mn', mx', l', ka', kc', ht, ht', ?_, ?_, hn, hn'⟩
  · have := h8; rwa [Nat.zero_mul, Nat.add_zero] at this
  · have := h8'; rwa [Nat.one_mul] at this
theorem kids_one {w : World} {a : Tree} {mn mx : Int} {A : Option Addr} {n c : Nat} (h : NAt w (repT mn mx a) (.slice A n c)) : n = 1 ∧ ∃ k o, A = some ⟨k, o, none⟩ ∧ 1 ≤ c ∧
    ∃ op f mn mx l ka kc, a = .node op f mn mx l ∧ Cell8 w k o op f mn mx (.slice ka l.length kc) ∧ NAt w a (.slice ka l.length kc) := by
  obtain ⟨k, o, cap, he, hc, op, f, mn, mx, l, ka, kc, ht, h8, hn⟩ := kid_at (j := 0) h rfl
  injection he with e1 e2 e3
  subst e1
  refine ⟨e2, k, o, rfl, by rw [e3]; exact hc, op, f, mn, mx, l, ka, kc, ht, ?_, hn⟩
  have := h8; rwa [Nat.zero_mul, Nat.add_zero] at this
theorem flatN_cells {D : Nat → Prop} {w : World} : ∀ (ps : List (Tree × Value)), (∀ x ∈ ps, KAt D w x.1 x.2) → ∀ y ∈ flatN ps, y.oneCell' = true
  | [], _, y, hy => by simp [flatN] at hy
  | (t, kv) :: ps, h, y, hy => by
    have e : flatN ((t, kv) :: ps) = nodeL t kv ++ flatN ps := by unfold flatN; rw [List.flatMap_cons]
    rw [e] at hy
    rcases List.mem_append.1 hy with hy | hy
    · obtain ⟨op, f, mn, mx, kids⟩ := t
      obtain ⟨a, c, hkv⟩ := KAt.slice (h (.node op f mn mx kids, kv) (List.mem_cons_self ..))
      dsimp only at hkv
      subst hkv
      unfold nodeL at hy
      simp only [List.mem_cons, List.not_mem_nil, or_false] at hy
      rcases hy with rfl | rfl | rfl | rfl | rfl | rfl | rfl | rfl <;> rfl
    · exact flatN_cells ps (fun x hx => h x (List.mem_cons_of_mem _ hx)) y hy
theorem flatN_app (p q : List (Tree × Value)) : flatN (p ++ q) = flatN p ++ flatN q := by unfold flatN; rw [List.flatMap_append]
theorem own_empty8 {w : World} {base g T : Nat} (h : AtG w g T #[]) (hb : base ≤ g) : w.ownsRow base T 8 (.slice (some ⟨g, 0, none⟩) 0 0) 0 [] :=
  ⟨rfl, .inr ⟨g, 0, #[], rfl, hb, h, Nat.le_refl _, by decide, rfl, rfl⟩⟩
theorem kat_row {w : World} {L : List Tree} {b c : Nat} (hne : L ≠ []) (hl : L.length ≤ 1000) (hc : L.length ≤ c) (h : KRow (fun _ => True) w L b 0) : NAt w (altT L) (.slice (some ⟨b, 0, none⟩) L.length c) := by
  unfold NAt altT
  rw [KAt]
  exact .inr ⟨hne, hl, b, 0, c, rfl, hc, trivial, h⟩
theorem nat_len {w : World} {op : Int} {f : Nat → Bool} {mn mx : Int} {L : List Tree} {kv : Value} (h : NAt w (.node op f mn mx L) kv) : L.length ≤ 1000 := by
  unfold NAt at h
  rw [KAt] at h
  rcases h with ⟨h, _⟩ | ⟨_, h, _⟩
  · rw [h]; simp
  · exact h
end Go.Proofs.Ytofgkildlhcpdaa
