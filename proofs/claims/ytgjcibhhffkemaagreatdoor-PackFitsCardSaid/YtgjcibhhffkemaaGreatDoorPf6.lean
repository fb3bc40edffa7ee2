/- The packs' patterns, in plain words; a tree is one pattern's alone. -/
import Derived.Test.YtgjcibhhffkemaaGreatDoorPf5
import Derived.KernelRfl
import Derived.Test.YtgjcibhhffkemaaGreatDoorRows
import Derived.Test.YtgjcibhhffkemaaGreatDoorCards
import Derived.Test.YtgjcibhhffkemaaGreatDoorTie
import Derived.LaidLaws
import Derived.LaidHandle
import Derived.WalkKit
import Derived.ProofKit
import Derived.OpenShut
import Derived.ShutString
import Derived.ChangeOld
import Derived.Below
import Derived.SizedLaws
import Derived.Lib.SmallJoins
import Derived.Lay
import Derived.LaidMore
import Derived.SevenTiedAt
import Derived.Stop.Joined
set_option linter.unusedVariables false
set_option linter.unusedSimpArgs false
namespace Go.Proofs.YtgjcibhhffkemaaGreatDoor.Ve
theorem trees_inj : ∀ l l' : List Pat, (∀ p ∈ l, ∀ p', p.tree = p'.tree → p = p') → Pat.trees l = Pat.trees l' → l = l'
  | [], [], _, _ => rfl
  | [], a :: b, _, h => by rw [Pat.trees, Pat.trees] at h; cases h
  | a :: b, [], _, h => by rw [Pat.trees, Pat.trees] at h; cases h
  | a :: b, c :: d, ih, h => by
    rw [Pat.trees, Pat.trees] at h
    injection h with h1 h2
    rw [ih a (by simp) c h1, trees_inj b d (fun p hp => ih p (by simp [hp])) h2]
theorem tree_inj : ∀ p p' : Pat, p.tree = p'.tree → p = p' := by
  intro p
  induction p using Pat.ind with
  | h1 f =>
    intro p' h
    cases p' with
    | one g => rw [Pat.tree, Pat.tree] at h; injection h with _ h; rw [h]
    | cat l => rw [Pat.tree, Pat.tree] at h; unfold catT at h; injection h with h; exact absurd h (by decide)
    | alt l => rw [Pat.tree, Pat.tree] at h; unfold altT at h; injection h with h; exact absurd h (by decide)
    | rep a b q => rw [Pat.tree, Pat.tree] at h; unfold repT at h; injection h with h; exact absurd h (by decide)
  | h2 l ih =>
    intro p' h
    cases p' with
    | one g => rw [Pat.tree, Pat.tree] at h; unfold catT at h; injection h with h; exact absurd h (by decide)
    | cat l' =>
      rw [Pat.tree, Pat.tree] at h; unfold catT at h
      injection h with _ _ _ _ h
      congr 1
      exact trees_inj l l' ih h
    | alt l' => rw [Pat.tree, Pat.tree] at h; unfold catT altT at h; injection h with h; exact absurd h (by decide)
    | rep a b q => rw [Pat.tree, Pat.tree] at h; unfold catT repT at h; injection h with h; exact absurd h (by decide)
  | h3 l ih =>
    intro p' h
    cases p' with
    | one g => rw [Pat.tree, Pat.tree] at h; unfold altT at h; injection h with h; exact absurd h (by decide)
    | cat l' => rw [Pat.tree, Pat.tree] at h; unfold altT catT at h; injection h with h; exact absurd h (by decide)
    | alt l' =>
      rw [Pat.tree, Pat.tree] at h; unfold altT at h
      injection h with _ _ _ _ h
      congr 1
      exact trees_inj l l' ih h
    | rep a b q => rw [Pat.tree, Pat.tree] at h; unfold altT repT at h; injection h with h; exact absurd h (by decide)
  | h4 mn mx q ih =>
    intro p' h
    cases p' with
    | one g => rw [Pat.tree, Pat.tree] at h; unfold repT at h; injection h with h; exact absurd h (by decide)
    | cat l' => rw [Pat.tree, Pat.tree] at h; unfold repT catT at h; injection h with h; exact absurd h (by decide)
    | alt l' => rw [Pat.tree, Pat.tree] at h; unfold repT altT at h; injection h with h; exact absurd h (by decide)
    | rep a b q' =>
      rw [Pat.tree, Pat.tree] at h; unfold repT at h
      injection h with _ _ h3 h4 h5
      injection h5 with h5
      rw [ih q' h5, show mn = a from by omega, show mx = b from by omega]
/-! ### pieces without brackets -/
theorem one_piece {s : ByteArray} {p q : Nat} {t : Tree} (h : ch s p ≠ 40) (ha : atomF s p = .ok t q) (h1 : ch s q ≠ 63) (h2 : ch s q ≠ 123) : P s .piece 0 p (.ok t q) :=
  .pieceOk (ha ▸ .plain h) (.pieceEnd h1 h2)
theorem many_piece {s : ByteArray} {p q r : Nat} {t : Tree} {m n : Int} (h : ch s p ≠ 40) (ha : atomF s p = .ok t q) (hq : ch s q = 123) (ht : timesF s (q + 1) = .ok (m, n) r) (h1 : ch s r ≠ 63) (h2 : ch s r ≠ 123) : P s .piece 0 p (.ok (repT m n t) r) :=
  .pieceOk (ha ▸ .plain h) (.times hq ht (.pieceEnd h1 h2))
theorem pat_one {s : ByteArray} {q : Nat} {t : Tree} (h : P s .piece 0 0 (.ok t q)) (he : ch s q = -1) : P s .pat 0 0 (.ok t q) :=
  .patOk (.partOk h (.partEnd (fun g => by have := g.1; omega))) (.patEnd (by omega))
theorem part_step {s : ByteArray} {l : List Tree} {t : Tree} {p q : Nat} {r : Re Tree} (hg : 0 ≤ ch s p ∧ ch s p ≠ 124) (h : P s .piece 0 p (.ok t q)) (hr : P s (.partL (l ++ [t])) 0 q r) : P s (.partL l) 0 p r :=
  .partMore ⟨hg.1, hg.2, .inr rfl⟩ h hr
theorem part_stop {s : ByteArray} {l : List Tree} {p : Nat} (he : ch s p = -1) : P s (.partL l) 0 p (.ok (many 2 l) p) := .partEnd (fun g => by have := g.1; omega)
/-! ### the packs' patterns -/
def cardB : ByteArray := { data := #[92, 100, 123, 49, 51, 44, 49, 54, 125] }
def skB : ByteArray := { data := #[115, 107, 45, 91, 97, 45, 122, 48, 45, 57, 93, 123, 49, 50, 125] }
def pkB : ByteArray := { data := #[112, 107, 45, 91, 97, 45, 122, 48, 45, 57, 93, 123, 49, 50, 125] }
def tokB : ByteArray := { data := #[116, 111, 107, 95, 92, 119, 123, 56, 44, 49, 54, 125] }
/-- the set of an atom -/
def atomS (s : ByteArray) (p : Nat) : Nat → Bool := match atomF s p with | .ok (.node _ f _ _ _) _ => f | _ => fun _ => false
def oneAt (s : ByteArray) (p : Nat) : Pat := .one (atomS s p)
def cardP : Pat := .rep 13 16 (oneAt cardB 0)
def skP : Pat := .cat [oneAt skB 0, oneAt skB 1, oneAt skB 2, .rep 12 12 (oneAt skB 3)]
def pkP : Pat := .cat [oneAt pkB 0, oneAt pkB 1, oneAt pkB 2, .rep 12 12 (oneAt pkB 3)]
def tokP : Pat := .cat [oneAt tokB 0, oneAt tokB 1, oneAt tokB 2, oneAt tokB 3, .rep 8 16 (oneAt tokB 4)]
theorem cardP_read : P cardB .pat 0 0 (.ok cardP.tree 9) := pat_one (many_piece (by decide) (q := 2) (by rfl) (by decide) (by rfl) (by decide) (by decide)) (by decide)
theorem skP_read : P skB .pat 0 0 (.ok skP.tree 15) :=
  .patOk (.partOk (one_piece (by decide) (q := 1) (by rfl) (by decide) (by decide))
    (part_step (by decide) (one_piece (by decide) (q := 2) (by rfl) (by decide) (by decide))
    (part_step (by decide) (one_piece (by decide) (q := 3) (by rfl) (by decide) (by decide))
    (part_step (by decide) (many_piece (by decide) (q := 11) (by rfl) (by decide) (by rfl) (by decide) (by decide)) (part_stop (by decide)))))) (.patEnd (by decide))
theorem pkP_read : P pkB .pat 0 0 (.ok pkP.tree 15) :=
  .patOk (.partOk (one_piece (by decide) (q := 1) (by rfl) (by decide) (by decide))
    (part_step (by decide) (one_piece (by decide) (q := 2) (by rfl) (by decide) (by decide))
    (part_step (by decide) (one_piece (by decide) (q := 3) (by rfl) (by decide) (by decide))
    (part_step (by decide) (many_piece (by decide) (q := 11) (by rfl) (by decide) (by rfl) (by decide) (by decide)) (part_stop (by decide)))))) (.patEnd (by decide))
theorem tokP_read : P tokB .pat 0 0 (.ok tokP.tree 12) :=
  .patOk (.partOk (one_piece (by decide) (q := 1) (by rfl) (by decide) (by decide))
    (part_step (by decide) (one_piece (by decide) (q := 2) (by rfl) (by decide) (by decide))
    (part_step (by decide) (one_piece (by decide) (q := 3) (by rfl) (by decide) (by decide))
    (part_step (by decide) (one_piece (by decide) (q := 4) (by rfl) (by decide) (by decide))
    (part_step (by decide) (many_piece (by decide) (q := 6) (by rfl) (by decide) (by rfl) (by decide) (by decide)) (part_stop (by decide))))))) (.patEnd (by decide))
theorem wf_one (s : ByteArray) (p : Nat) : Wf (oneAt s p) := .one _
theorem cardP_wf : Wf cardP := .rep _ _ _ (wf_one _ _) (by decide) (by decide) (by decide)
theorem wf_four (a b c d : Pat) (ha : Wf a) (hb : Wf b) (hc : Wf c) (hd : Wf d) : Wf (.cat [a, b, c, d]) := .cat _ (by simp only [List.mem_cons, List.not_mem_nil, or_false]; rintro p (rfl | rfl | rfl | rfl) <;> assumption) (by simp) (by simp)
theorem skP_wf : Wf skP := wf_four _ _ _ _ (wf_one _ _) (wf_one _ _) (wf_one _ _) (.rep _ _ _ (wf_one _ _) (by decide) (by decide) (by decide))
theorem pkP_wf : Wf pkP := wf_four _ _ _ _ (wf_one _ _) (wf_one _ _) (wf_one _ _) (.rep _ _ _ (wf_one _ _) (by decide) (by decide) (by decide))
theorem tokP_wf : Wf tokP := .cat _ (by
  simp only [List.mem_cons, List.not_mem_nil, or_false]
  rintro p (rfl | rfl | rfl | rfl | rfl)
  · exact wf_one _ _
  · exact wf_one _ _
  · exact wf_one _ _
  · exact wf_one _ _
  · exact .rep _ _ _ (wf_one _ _) (by decide) (by decide) (by decide)) (by decide) (by decide)
theorem cardP_most : mostP cardP = 16 ∧ leastP cardP = 13 := ⟨by rfl, by rfl⟩
theorem skP_most : mostP skP = 15 ∧ leastP skP = 15 := ⟨by rfl, by rfl⟩
theorem pkP_most : mostP pkP = 15 ∧ leastP pkP = 15 := ⟨by rfl, by rfl⟩
theorem tokP_most : mostP tokP = 20 ∧ leastP tokP = 12 := ⟨by rfl, by rfl⟩
theorem cardP_any : anyP cardP 42 = false := by kernel_rfl
theorem skP_any : anyP skP 42 = false := by kernel_rfl
theorem pkP_any : anyP pkP 42 = false := by kernel_rfl
theorem tokP_any : anyP tokP 42 = false := by kernel_rfl
theorem no_empty {p : Pat} (h : 0 < leastP p) (b : Nat → Nat) : ¬ Mt b 0 p 0 0 := fun hm => by have := (mt_len b 0 p 0 0 hm).2.1; omega
end Go.Proofs.YtgjcibhhffkemaaGreatDoor.Ve
/- One answer for a text and a configuration; the packs' answers. -/
set_option linter.unusedVariables false
set_option linter.unusedSimpArgs false
namespace Go.Proofs.YtgjcibhhffkemaaGreatDoor.Ve
open Go.RowKit Bt Fl
theorem ok_same {s : ByteArray} {p p' : Pat} {q q' : Nat} (h : RxRes s (.ok p.tree q)) (h' : RxRes s (.ok p'.tree q')) : p = p' := by
  have e := h.det h'
  injection e with e _
  exact tree_inj _ _ e
theorem ok_no {s : ByteArray} {p : Pat} {q : Nat} {c : Int} {x : Nat} (h : RxRes s (.ok p.tree q)) (h' : RxRes s (.no c x)) : False := by
  have e := h.det h'
  cases e
theorem Vd.det {L M : Int} {l : List Ru.Rl} {i : Nat} {out : List (Pat × Bool)} {R} (h : Vd L M l i out R) : ∀ R', Vd L M l i out R' → R = R' := by
  induction h with
  | done => intro R' h'; cases h'; rfl
  | bad h =>
    intro R' h'
    cases h' with
    | bad g => have e := h.det g; cases e; rfl
    | amiss g => exact (ok_no g h).elim
    | next g => exact (ok_no g h).elim
  | amiss h h1 h2 h3 =>
    intro R' h'
    cases h' with
    | bad g => exact (ok_no h g).elim
    | amiss g g1 g2 g3 => obtain rfl := ok_same h g; rw [h2.det g2]
    | next g g1 g2 => obtain rfl := ok_same h g; exact absurd (h2.det g2) h3
  | next h h1 h2 h3 ih =>
    intro R' h'
    cases h' with
    | bad g => exact (ok_no h g).elim
    | amiss g g1 g2 g3 => obtain rfl := ok_same h g; exact absurd (g2.det h2) g3
    | next g g1 g2 g3 => obtain rfl := ok_same h g; exact ih _ g3
theorem CkRes.det {s : ByteArray} {L Q C : Int} {R : Nat} {M : Int} : ∀ {V V' : Ck}, CkRes s L Q C R M V → CkRes s L Q C R M V' → V = V'
  | .arg, .arg, _, _ => rfl
  | .arg, .no _ _, h, h' => absurd h'.1 h
  | .arg, .ok _, h, h' => absurd h'.1 h
  | .no _ _, .arg, h, h' => absurd h.1 h'
  | .ok _, .arg, h, h' => absurd h.1 h'
  | .no c x, .no c' x', ⟨_, h⟩, ⟨_, h'⟩ => by
    rcases h with h | ⟨l, h, h1⟩ <;> rcases h' with h' | ⟨l', h', h1'⟩
    · have e := h.det h'; cases e; rfl
    · have e := h.det h'; cases e
    · have e := h.det h'; cases e
    · have e := h.det h'; cases e; have e := h1.det _ h1'; cases e; rfl
  | .no c x, .ok o, ⟨_, h⟩, ⟨_, l', h', h1'⟩ => by
    rcases h with h | ⟨l, h, h1⟩
    · have e := h.det h'; cases e
    · have e := h.det h'; cases e; have e := h1.det _ h1'; cases e
  | .ok o, .no c x, ⟨_, l', h', h1'⟩, ⟨_, h⟩ => by
    rcases h with h | ⟨l, h, h1⟩
    · have e := h.det h'; cases e
    · have e := h.det h'; cases e; have e := h1.det _ h1'; cases e
  | .ok o, .ok o', ⟨_, l, h, h1⟩, ⟨_, l', h', h1'⟩ => by
    have e := h.det h'; cases e; have e := h1.det _ h1'; cases e; rfl
/-! ### the packs -/
def cardS : ByteArray := ⟨#[99, 97, 114, 100, 32, 92, 100, 123, 49, 51, 44, 49, 54, 125, 32, 108, 117, 104, 110, 10]⟩
def keyS : ByteArray := ⟨#[107, 101, 121, 32, 115, 107, 45, 91, 97, 45, 122, 48, 45, 57, 93, 123, 49, 50, 125, 32, 112, 108, 97, 105, 110, 10, 112, 117, 98, 32, 112, 107, 45, 91, 97, 45, 122, 48, 45, 57, 93, 123, 49, 50, 125, 32, 112, 108, 97, 105, 110, 10]⟩
def tokS : ByteArray := ⟨#[116, 111, 107, 101, 110, 32, 116, 111, 107, 95, 92, 119, 123, 56, 44, 49, 54, 125, 32, 112, 108, 97, 105, 110, 10]⟩
def cardR : Ru.Rl := ⟨{ data := #[99, 97, 114, 100] }, cardB, true⟩
def skR : Ru.Rl := ⟨{ data := #[107, 101, 121] }, skB, false⟩
def pkR : Ru.Rl := ⟨{ data := #[112, 117, 98] }, pkB, false⟩
def tokR : Ru.Rl := ⟨{ data := #[116, 111, 107, 101, 110] }, tokB, false⟩
def cardL : ByteArray := ⟨#[99, 97, 114, 100, 32, 92, 100, 123, 49, 51, 44, 49, 54, 125, 32, 108, 117, 104, 110]⟩
def skL : ByteArray := ⟨#[107, 101, 121, 32, 115, 107, 45, 91, 97, 45, 122, 48, 45, 57, 93, 123, 49, 50, 125, 32, 112, 108, 97, 105, 110]⟩
def pkL : ByteArray := ⟨#[112, 117, 98, 32, 112, 107, 45, 91, 97, 45, 122, 48, 45, 57, 93, 123, 49, 50, 125, 32, 112, 108, 97, 105, 110]⟩
def tokL : ByteArray := ⟨#[116, 111, 107, 101, 110, 32, 116, 111, 107, 95, 92, 119, 123, 56, 44, 49, 54, 125, 32, 112, 108, 97, 105, 110]⟩
theorem not_blank {l : ByteArray} (h : (decide (l.size ≠ 0 ∧ Ru.ch l 0 ≠ 35)) = true) : ¬ Ru.Blank l := by
  have h := of_decide_eq_true h
  rintro (h1 | h1)
  · exact h.1 h1
  · exact h.2 h1
theorem card_rule : Ru.RuleIs cardL cardR := ⟨4, 14, Ru.fst_by (by kernel_rfl) (by kernel_rfl), Ru.lst_by (by decide) (by kernel_rfl) (by kernel_rfl), 4, 14, rfl, rfl, by decide, by decide, by kernel_rfl, by kernel_rfl, Ru.nm_by (by kernel_rfl), .inl ⟨rfl, by kernel_rfl⟩⟩
theorem sk_rule : Ru.RuleIs skL skR := ⟨3, 19, Ru.fst_by (by kernel_rfl) (by kernel_rfl), Ru.lst_by (by decide) (by kernel_rfl) (by kernel_rfl), 3, 19, rfl, rfl, by decide, by decide, by kernel_rfl, by kernel_rfl, Ru.nm_by (by kernel_rfl), .inr ⟨rfl, by kernel_rfl⟩⟩
theorem pk_rule : Ru.RuleIs pkL pkR := ⟨3, 19, Ru.fst_by (by kernel_rfl) (by kernel_rfl), Ru.lst_by (by decide) (by kernel_rfl) (by kernel_rfl), 3, 19, rfl, rfl, by decide, by decide, by kernel_rfl, by kernel_rfl, Ru.nm_by (by kernel_rfl), .inr ⟨rfl, by kernel_rfl⟩⟩
theorem tok_rule : Ru.RuleIs tokL tokR := ⟨5, 18, Ru.fst_by (by kernel_rfl) (by kernel_rfl), Ru.lst_by (by decide) (by kernel_rfl) (by kernel_rfl), 5, 18, rfl, rfl, by decide, by decide, by kernel_rfl, by kernel_rfl, Ru.nm_by (by kernel_rfl), .inr ⟨rfl, by kernel_rfl⟩⟩
theorem card_res : Ru.RuRes cardS (.ok [cardR]) := by
  refine .inr ⟨by decide, [cardL, ByteArray.empty], ?_, .next (not_blank (by kernel_rfl)) card_rule (by simp) (by simp) (.skip (.inl rfl) .done)⟩
  have h := Ru.lines_by (s := cardS) (p := 0) (i := 19) (by decide) (by kernel_rfl) (by kernel_rfl) (Ru.last_by (by decide) (by kernel_rfl))
  have e0 : cardS.extract 0 19 = cardL := by kernel_rfl
  have e1 : cardS.extract 20 cardS.size = ByteArray.empty := by kernel_rfl
  rw [e0, e1] at h
  exact h
theorem tok_res : Ru.RuRes tokS (.ok [tokR]) := by
  refine .inr ⟨by decide, [tokL, ByteArray.empty], ?_, .next (not_blank (by kernel_rfl)) tok_rule (by simp) (by simp) (.skip (.inl rfl) .done)⟩
  have h := Ru.lines_by (s := tokS) (p := 0) (i := 24) (by decide) (by kernel_rfl) (by kernel_rfl) (Ru.last_by (by decide) (by kernel_rfl))
  have e0 : tokS.extract 0 24 = tokL := by kernel_rfl
  have e1 : tokS.extract 25 tokS.size = ByteArray.empty := by kernel_rfl
  rw [e0, e1] at h
  exact h
theorem key_res : Ru.RuRes keyS (.ok [skR, pkR]) := by
  refine .inr ⟨by decide, [skL, pkL, ByteArray.empty], ?_, .next (not_blank (by kernel_rfl)) sk_rule (by simp) (by simp) (.next (not_blank (by kernel_rfl)) pk_rule ?_ (by simp) (.skip (.inl rfl) .done))⟩
  · have h := Ru.lines_by (s := keyS) (p := 0) (i := 25) (by decide) (by kernel_rfl) (by kernel_rfl) (Ru.lines_by (p := 26) (i := 51) (by decide) (by kernel_rfl) (by kernel_rfl) (Ru.last_by (by decide) (by kernel_rfl)))
    have e0 : keyS.extract 0 25 = skL := by kernel_rfl
    have e1 : keyS.extract 26 51 = pkL := by kernel_rfl
    have e2 : keyS.extract 52 keyS.size = ByteArray.empty := by kernel_rfl
    rw [e0, e1, e2] at h
    exact h
  · intro x hx
    simp at hx
    subst hx
    exact fun e => absurd (congrArg ByteArray.data e) (by decide)
theorem nil_res : Ru.RuRes ByteArray.empty (.ok []) := by
  refine .inr ⟨by decide, [ByteArray.empty], ?_, .skip (.inl rfl) .done⟩
  have h := Ru.last_by (s := ByteArray.empty) (p := 0) (by decide) (by kernel_rfl)
  have e0 : ByteArray.empty.extract 0 ByteArray.empty.size = ByteArray.empty := by kernel_rfl
  rw [e0] at h
  exact h
/-- one rule whose pattern has no empty word and no mask -/
theorem one_am {p : Pat} {L M : Int} (h : 0 < leastP p) (ha : anyP p M.toNat = false) : (L < mostP p → AmRes p L M 6) ∧ (¬ L < mostP p → AmRes p L M 0) :=
  ⟨fun hl => .inr (.inl ⟨no_empty h _, hl, rfl⟩), fun hl => .inr (.inr (.inr ⟨no_empty h _, hl, ha, rfl⟩))⟩
/-- a pack whose longest word has m bytes -/
def PackOf (s : ByteArray) (m : Int) : Prop := s.size ≤ 10000 ∧ ∃ l, Ru.RuRes s (.ok l) ∧ ∀ L : Int, (L < m → ∃ c x, Vd L 42 l 0 [] (.inr (c, x))) ∧ (¬ L < m → ∃ out, out ≠ [] ∧ Vd L 42 l 0 [] (.inl out))
theorem card_pack : PackOf cardS 16 := ⟨by decide, _, card_res, fun L => by
  obtain ⟨h1, h2⟩ := cardP_most
  obtain ⟨g1, g2⟩ := one_am (p := cardP) (L := L) (M := 42) (by omega) cardP_any
  rw [h1] at g1 g2
  have hr : RxRes cardR.pat (.ok cardP.tree 9) := .inr ⟨by decide, cardP_read⟩
  exact ⟨fun h => ⟨6, 0, .amiss hr cardP_wf (g1 h) (by decide)⟩, fun h => ⟨_, by simp, .next hr cardP_wf (g2 h) .done⟩⟩⟩
theorem tok_pack : PackOf tokS 20 := ⟨by decide, _, tok_res, fun L => by
  obtain ⟨h1, h2⟩ := tokP_most
  obtain ⟨g1, g2⟩ := one_am (p := tokP) (L := L) (M := 42) (by omega) tokP_any
  rw [h1] at g1 g2
  have hr : RxRes tokR.pat (.ok tokP.tree 12) := .inr ⟨by decide, tokP_read⟩
  exact ⟨fun h => ⟨6, 0, .amiss hr tokP_wf (g1 h) (by decide)⟩, fun h => ⟨_, by simp, .next hr tokP_wf (g2 h) .done⟩⟩⟩
theorem key_pack : PackOf keyS 15 := ⟨by decide, _, key_res, fun L => by
  obtain ⟨h1, h2⟩ := skP_most
  obtain ⟨h3, h4⟩ := pkP_most
  obtain ⟨g1, g2⟩ := one_am (p := skP) (L := L) (M := 42) (by omega) skP_any
  obtain ⟨g3, g4⟩ := one_am (p := pkP) (L := L) (M := 42) (by omega) pkP_any
  rw [h1] at g1 g2
  rw [h3] at g3 g4
  have hr : RxRes skR.pat (.ok skP.tree 15) := .inr ⟨by decide, skP_read⟩
  have hr2 : RxRes pkR.pat (.ok pkP.tree 15) := .inr ⟨by decide, pkP_read⟩
  exact ⟨fun h => ⟨6, 0, .amiss hr skP_wf (g1 h) (by decide)⟩, fun h => ⟨_, by simp, .next hr skP_wf (g2 h) (.next hr2 pkP_wf (g4 h) .done)⟩⟩⟩
/-- what Check tells of a pack, and of no text -/
theorem pack_ck {s : ByteArray} {m : Int} (h : PackOf s m) {L Q C : Int} {R : Nat} {V : Ck} (hV : CkRes s L Q C R 42 V) : (¬ CfgOk L Q C R ∧ V = .arg) ∨ (CfgOk L Q C R ∧ L < m ∧ ∃ c x, V = .no c x) ∨ (CfgOk L Q C R ∧ ¬ L < m ∧ ∃ out, out ≠ [] ∧ V = .ok out) := by
  obtain ⟨_, l, h1, h2⟩ := h
  by_cases hc : CfgOk L Q C R
  · refine .inr ?_
    by_cases hl : L < m
    · obtain ⟨c, x, h3⟩ := (h2 L).1 hl
      exact .inl ⟨hc, hl, c, x, hV.det (V' := .no c x) ⟨hc, .inr ⟨l, h1, h3⟩⟩⟩
    · obtain ⟨out, h3, h4⟩ := (h2 L).2 hl
      exact .inr ⟨hc, hl, out, h3, hV.det (V' := .ok out) ⟨hc, l, h1, h4⟩⟩
  · exact .inl ⟨hc, hV.det (V' := .arg) hc⟩
theorem nil_ck {L Q C : Int} {R : Nat} {M : Int} {V : Ck} (hV : CkRes ByteArray.empty L Q C R M V) : (¬ CfgOk L Q C R ∧ V = .arg) ∨ (CfgOk L Q C R ∧ V = .ok []) := by
  by_cases hc : CfgOk L Q C R
  · exact .inr ⟨hc, hV.det (V' := .ok []) ⟨hc, [], nil_res, .done⟩⟩
  · exact .inl ⟨hc, hV.det (V' := .arg) hc⟩
end Go.Proofs.YtgjcibhhffkemaaGreatDoor.Ve
/- snafflelaw00.Pick. -/
set_option linter.unusedVariables false
set_option linter.unusedSimpArgs false
namespace Go.Proofs.YtgjcibhhffkemaaGreatDoor
open Go.RowKit
theorem pick_any (n by' : Int) (w : World) (hn : -9223372036854775808 ≤ n ∧ n ≤ 9223372036854775807) (h0 : 1 ≤ by') (h1 : by' ≤ 200000) : Calls Tryz.prog 14 #[.int .i64 n, .int .i64 by'] w fun e w' => e = .returned (.int .i64 (n % by')) ∧ w' = w := by
  have hne : (by' == 0) = false := by rw [beq_eq_false_iff_ne]; omega
  have hne2 : ¬ by' = 0 := by omega
  by_cases h : 0 ≤ n
  · have e : n.tmod by' = n % by' := Int.tmod_eq_emod_of_nonneg h
    have e2 : 0 ≤ n % by' := Int.emod_nonneg _ (by omega)
    have e3 : n % by' < by' := Int.emod_lt_of_pos _ (by omega)
    generalize n % by' = z at e e2 e3 ⊢
    have e4 : ¬ z < 0 := by omega
    go_enter Tryz.func14, Tryz.ntmps14
    go_wp2_with fail
    go_returns
    exact ⟨by first | rfl | (rw [e]; rfl), rfl⟩
  · have hneg : (-n).tmod by' = (-n) % by' := Int.tmod_eq_emod_of_nonneg (by omega)
    have e : n.tmod by' = -((-n) % by') := by rw [← hneg, Int.neg_tmod, Int.neg_neg]
    have e2 : 0 ≤ (-n) % by' := Int.emod_nonneg _ (by omega)
    have e3 : (-n) % by' < by' := Int.emod_lt_of_pos _ (by omega)
    have e5 : n % by' = if (-n) % by' = 0 then 0 else by' - (-n) % by' := by
      have h5 := Int.emod_emod_of_dvd n (Int.dvd_refl by')
      have h6 : n = -(-n) := by omega
      split
      · rename_i hz
        have : by' ∣ -n := Int.dvd_of_emod_eq_zero hz
        exact Int.emod_eq_zero_of_dvd ((Int.dvd_neg).1 this)
      · rename_i hz
        have h7 : n = by' * (-((-n) / by') - 1) + (by' - (-n) % by') := by
          have := Int.mul_ediv_add_emod (-n) by'
          rw [Int.mul_sub, Int.mul_neg]; omega
        have h8 : n % by' = (by' - (-n) % by') % by' := by
          conv => lhs; rw [h7]
          rw [Int.add_comm, Int.add_mul_emod_self_left]
        rw [h8, Int.emod_eq_of_lt (by omega) (by omega)]
    generalize (-n) % by' = z at e e2 e3 e5
    by_cases hz : z = 0
    · subst hz
      rw [if_pos rfl] at e5
      rw [e5]
      have e' : n.tmod by' = 0 := by rw [e]; rfl
      clear e e5 hneg
      go_enter Tryz.func14, Tryz.ntmps14
      go_wp2_with fail
      go_returns
      exact ⟨rfl, rfl⟩
    · rw [if_neg hz] at e5
      rw [e5]
      have e4 : -z < 0 := by omega
      have e6 : -z + by' = by' - z := by omega
      have e7 : 0 ≤ by' - z := by omega
      rw [← e6]
      clear e5 hneg e6
      go_enter Tryz.func14, Tryz.ntmps14
      go_wp2_with fail
      go_returns
      exact ⟨rfl, rfl⟩
end Go.Proofs.YtgjcibhhffkemaaGreatDoor
/- The walk of PackFits. -/
set_option linter.unusedVariables false
set_option linter.unusedSimpArgs false
namespace Go.Proofs.YtgjcibhhffkemaaGreatDoor.Ve
open Go.RowKit Bt Fl
def namesC : Array Value := #[.string ⟨#[99, 97, 114, 100]⟩, .string ⟨#[107, 101, 121]⟩, .string ⟨#[116, 111, 107, 101, 110]⟩]
set_option maxRecDepth 100000 in
theorem names_any (w : World) : Calls Tryz.prog 12 #[] w fun e w' => ∃ b, e = .returned (.slice (some ⟨b, 0, none⟩) 3 3) ∧ Below w.heap.size w w' ∧ AtG w' b 9 namesC := by
  go_enter Tryz.func12, Tryz.ntmps12
  go_wp2
  go_returns
  exact ⟨_, rfl, by go_grown, AtG.new _ _ _⟩
set_option maxRecDepth 100000 in
theorem up19_any (w : World) : Calls Tryz.prog 11 #[] w fun e w' => e = .returned (.bool true) ∧ Below w.heap.size w w' := by
  go_enter Tryz.func11, Tryz.ntmps11
  go_wp2_with fail
  refine (names_any _).mono ?_
  rintro e w1 ⟨b, rfl, hb, hn⟩
  have c0 : w1.cell? ⟨b, 0, none⟩ = some (.string ⟨#[99, 97, 114, 100]⟩) := hn.cell 0 _ rfl
  have c1 : w1.cell? ⟨b, 1, none⟩ = some (.string ⟨#[107, 101, 121]⟩) := hn.cell 1 _ rfl
  have c2 : w1.cell? ⟨b, 2, none⟩ = some (.string ⟨#[116, 111, 107, 101, 110]⟩) := hn.cell 2 _ rfl
  clear hn
  go_wp2_with fail
  go_returns
  exact ⟨rfl, hb⟩
set_option maxRecDepth 100000 in
theorem text_0 (w : World) : Calls Tryz.prog 13 #[.string ⟨#[99, 97, 114, 100]⟩] w fun e w' => e = .returned (.tuple #[.string cardS, .bool true]) ∧ w' = w := by
  go_enter Tryz.func13, Tryz.ntmps13
  go_wp2
  go_returns
  exact ⟨rfl, rfl⟩
set_option maxRecDepth 100000 in
theorem text_1 (w : World) : Calls Tryz.prog 13 #[.string ⟨#[107, 101, 121]⟩] w fun e w' => e = .returned (.tuple #[.string keyS, .bool true]) ∧ w' = w := by
  go_enter Tryz.func13, Tryz.ntmps13
  go_wp2
  go_returns
  exact ⟨rfl, rfl⟩
set_option maxRecDepth 100000 in
theorem text_2 (w : World) : Calls Tryz.prog 13 #[.string ⟨#[116, 111, 107, 101, 110]⟩] w fun e w' => e = .returned (.tuple #[.string tokS, .bool true]) ∧ w' = w := by
  go_enter Tryz.func13, Tryz.ntmps13
  go_wp2
  go_returns
  exact ⟨rfl, rfl⟩
/-- what Check gives for a pack: the error is nil or not, and then how many rules there are -/
def PkE (ok : Prop) (e : Ending) : Prop := (ok ∧ ∃ a n c k, 0 < n ∧ e = .returned (.tuple #[.slice a n c, .int .i64 k, .nilIface])) ∨ (¬ ok ∧ ∃ x, ((∃ b, x = spotV b) ∨ x = errCode 1) ∧ e = .returned (.tuple #[.slice none 0 0, .int .i64 0, x]))
theorem pack_any {s : ByteArray} {m : Int} (h : PackOf s m) (L Q C : Int) (R : Nat) (hR : R < 18446744073709551616) (w : World) (he : ErrAt w) : Calls Tryz.prog 7 #[.string s, cfgV L Q C R 42] w fun e w' => Below w.heap.size w w' ∧ PkE (CfgOk L Q C R ∧ ¬ L < m) e :=
  (ckX s L Q C R 42 hR (by decide) (by decide) h.1 w he).mono (by
    rintro e w' ⟨hb, V, hV, hv⟩
    refine ⟨hb, ?_⟩
    rcases pack_ck h hV with ⟨h1, rfl⟩ | ⟨h1, h2, c, x, rfl⟩ | ⟨h1, h2, out, h3, rfl⟩
    · exact .inr ⟨fun h => h1 h.1, _, .inr rfl, hv⟩
    · obtain ⟨b, hv, _⟩ := hv
      exact .inr ⟨fun h => h.2 h2, _, .inl ⟨b, rfl⟩, hv⟩
    · obtain ⟨v, hv, ho⟩ := hv
      obtain ⟨a, c, rfl⟩ := ho.form
      exact .inl ⟨⟨h1, h2⟩, a, _, c, _, List.length_pos_iff.2 h3, hv⟩)
theorem nil_any (L Q C : Int) (R : Nat) (hR : R < 18446744073709551616) (w : World) (he : ErrAt w) : Calls Tryz.prog 7 #[.string ByteArray.empty, cfgV L Q C R 42] w fun e w' => Below w.heap.size w w' ∧
    ((CfgOk L Q C R ∧ ∃ a n c k, e = .returned (.tuple #[.slice a n c, .int .i64 k, .nilIface])) ∨ (¬ CfgOk L Q C R ∧ e = .returned (.tuple #[.slice none 0 0, .int .i64 0, errCode 1]))) :=
  (ckX ByteArray.empty L Q C R 42 hR (by decide) (by decide) (by decide) w he).mono (by
    rintro e w' ⟨hb, V, hV, hv⟩
    refine ⟨hb, ?_⟩
    rcases nil_ck hV with ⟨h1, rfl⟩ | ⟨h1, rfl⟩
    · exact .inr ⟨h1, hv⟩
    · obtain ⟨v, hv, ho⟩ := hv
      obtain ⟨a, c, rfl⟩ := ho.form
      exact .inl ⟨h1, a, _, c, _, hv⟩)
end Go.Proofs.YtgjcibhhffkemaaGreatDoor.Ve
/- The walk of PackFits. -/
set_option linter.unusedVariables false
set_option linter.unusedSimpArgs false
namespace Go.Proofs.YtgjcibhhffkemaaGreatDoor.Ve
open Go.RowKit Bt Fl
theorem ok_lam {lam q c : Int} {R : Nat} (h : CfgOk 32 q c R) (h1 : 1 ≤ lam) (h2 : lam ≤ 32) : CfgOk lam q c R := ⟨h1, h2, h.2.2⟩
def longC : Array Value := #[.int .i64 16, .int .i64 15, .int .i64 20]
set_option maxRecDepth 100000 in
set_option maxHeartbeats 8000000 in
theorem packFits_walk (k lam q most : Int) (R : Nat) (hk : -9223372036854775808 ≤ k ∧ k ≤ 9223372036854775807) (hR : R < 18446744073709551616) (w : World) (he : ErrAt w) :
    Calls Tryz.prog 4 #[.int .i64 k, .int .i64 lam, .int .i64 q, .int .i64 most, .int .u64 (R : Int)] w fun e w' => e = .returned (.bool true) ∧ Below w.heap.size w w' := by
  have HE := Lib.hid he
  have HPI : Hid (∀ w, Calls Tryz.prog 14 #[.int .i64 k, .int .i64 3] w fun e w' => e = .returned (.int .i64 (k % 3)) ∧ Below w.heap.size w w') := Lib.hid (fun w => (pick_any k 3 w hk (by decide) (by decide)).mono (by rintro e w' ⟨rfl, rfl⟩; exact ⟨rfl, Below.refl _ _⟩))
  have HNI := Lib.hid (fun w (he : ErrAt w) => nil_any 32 q most R hR w he)
  have hT : ∃ (z : Int) (nm s : ByteArray) (m : Int), k % 3 = z ∧ ((z = 0 ∧ nm = ⟨#[99, 97, 114, 100]⟩ ∧ m = 16) ∨ (z = 1 ∧ nm = ⟨#[107, 101, 121]⟩ ∧ m = 15) ∨ (z = 2 ∧ nm = ⟨#[116, 111, 107, 101, 110]⟩ ∧ m = 20)) ∧
      Hid (∀ w, Calls Tryz.prog 13 #[.string nm] w fun e w' => e = .returned (.tuple #[.string s, .bool true]) ∧ w' = w) ∧ Hid (PackOf s m) := by
    rcases (show k % 3 = 0 ∨ k % 3 = 1 ∨ k % 3 = 2 by omega) with h | h | h
    · exact ⟨_, _, cardS, _, h, .inl ⟨rfl, rfl, rfl⟩, Lib.hid text_0, Lib.hid card_pack⟩
    · exact ⟨_, _, keyS, _, h, .inr (.inl ⟨rfl, rfl, rfl⟩), Lib.hid text_1, Lib.hid key_pack⟩
    · exact ⟨_, _, tokS, _, h, .inr (.inr ⟨rfl, rfl, rfl⟩), Lib.hid text_2, Lib.hid tok_pack⟩
  obtain ⟨z, nm, s, m, hz, hznm, HT, HP⟩ := hT
  have HM : Hid (m ≤ 32) := Lib.hid (by omega)
  have HPK := Lib.hid (fun (L : Int) w (he : ErrAt w) => pack_any HP.out L q most R hR w he)
  rw [hz] at HPI
  have g1 : ∀ w, (binOp BinOp.eql 28 .nilIface .nilIface).run Tryz.prog w = .ok (.bool true) w := fun w => by rfl
  have g2 : ∀ (w : World) (c : Int), (binOp BinOp.eql 28 (.iface 71 (.int .i64 c)) .nilIface).run Tryz.prog w = .ok (.bool false) w := fun w c => by rfl
  have g3 : ∀ (w : World) (b : Nat), (binOp BinOp.eql 28 (.iface 68 (.pointer (some ⟨b, 0, none⟩))) .nilIface).run Tryz.prog w = .ok (.bool false) w := fun w b => by rfl
  have g4 : ∀ w, (binOp BinOp.neq 28 .nilIface .nilIface).run Tryz.prog w = .ok (.bool false) w := fun w => by rfl
  have g5 : ∀ (w : World) (c : Int), (binOp BinOp.neq 28 (.iface 71 (.int .i64 c)) .nilIface).run Tryz.prog w = .ok (.bool true) w := fun w c => by rfl
  clear he hk hR hz
  unfold cfgV at HNI HPK
  unfold errCode at HNI
  go_enter Tryz.func4, Tryz.ntmps4
  go_wp2_with fail
  refine (up19_any _).mono ?_
  rintro e9 w1 ⟨rfl, hb1⟩
  have HB1 := Lib.hid hb1
  clear hb1
  go_wp2_with fail
  refine (names_any _).mono ?_
  rintro e9 w2 ⟨nb, rfl, hb2, hn2⟩
  have HB2 := Lib.hid (HB1.out.trans (hb2.mono HB1.out.size))
  have n0 : w2.cell? ⟨nb, 0, none⟩ = some (.string ⟨#[99, 97, 114, 100]⟩) := hn2.cell 0 _ rfl
  have n1 : w2.cell? ⟨nb, 1, none⟩ = some (.string ⟨#[107, 101, 121]⟩) := hn2.cell 1 _ rfl
  have n2 : w2.cell? ⟨nb, 2, none⟩ = some (.string ⟨#[116, 111, 107, 101, 110]⟩) := hn2.cell 2 _ rfl
  clear hb2 hn2 HB1
  rcases hznm with ⟨rfl, rfl, rfl⟩ | ⟨rfl, rfl, rfl⟩ | ⟨rfl, rfl, rfl⟩
  all_goals
    go_wp2_with fail
    refine (HPI.out _).mono ?_
    rintro e9 w3 ⟨rfl, hb3⟩
    have HB3 := Lib.hid (HB2.out.trans (hb3.mono HB2.out.size))
    have n0' := (hb3.cell (World.block_lt_of_cell? _ _ n0)).trans n0
    have n1' := (hb3.cell (World.block_lt_of_cell? _ _ n1)).trans n1
    have n2' := (hb3.cell (World.block_lt_of_cell? _ _ n2)).trans n2
    clear hb3 HB2 n0 n1 n2
    have HB2 := HB3
    clear HB3
    go_wp2_with fail
    refine (HT.out _).mono ?_
    rintro e9 w3 ⟨rfl, hw3⟩; subst hw3
    clear n0' n1' n2'
    go_upto_region 10 with (fail)
    refine (show ∀ W : World, W = (w3.alloc (.cells longC 3)).alloc (.cells (cfgC 32 q most R 42) 24) → _ from fun W hW => ?_) _ rfl
    have HLG : Hid (AtG W w3.heap.size 3 longC) := Lib.hid (by rw [hW]; exact (AtG.new _ _ _).alloc _)
    have HCF : Hid (AtG W (w3.heap.size + 1) 24 (cfgC 32 q most R 42)) := Lib.hid (by
      rw [hW]
      have := AtG.new (w3.alloc (.cells longC 3)) 24 (cfgC 32 q most R 42)
      simpa using this)
    have HBW : Hid (Below w.heap.size w W) := Lib.hid (HB2.out.trans ((show Below w3.heap.size w3 W by rw [hW]; go_grown).mono HB2.out.size))
    obtain ⟨lb, hlb⟩ : ∃ lb, lb = w3.heap.size := ⟨_, rfl⟩
    rw [← hlb] at HLG HCF ⊢
    have HLB : Hid (w.heap.size ≤ lb) := Lib.hid (by have := HB2.out.size; omega)
    clear hW HB2 hlb
    have c0 : W.cell? ⟨lb + 1, 0, none⟩ = some (.int .i64 32) := HCF.out.cell 0 _ rfl
    have c1 : W.cell? ⟨lb + 1, 1, none⟩ = some (.int .i64 q) := HCF.out.cell 1 _ rfl
    have c2 : W.cell? ⟨lb + 1, 2, none⟩ = some (.int .i64 most) := HCF.out.cell 2 _ rfl
    have c3 : W.cell? ⟨lb + 1, 3, none⟩ = some (.int .u64 (R : Int)) := HCF.out.cell 3 _ rfl
    have c4 : W.cell? ⟨lb + 1, 4, none⟩ = some (.int .u8 42) := HCF.out.cell 4 _ rfl
    go_wp2_with fail
    refine (HNI.out _ (HE.out.below HBW.out)).mono ?_
    rintro e9 w4 ⟨hb4, hni⟩
    have HLG4 := Lib.hid (HLG.out.below hb4); have HCF4 := Lib.hid (HCF.out.below hb4); have HB4 := Lib.hid (HBW.out.trans (hb4.mono HBW.out.size))
    clear hb4 HLG HCF HBW c0 c1 c2 c3 c4 HNI
    have c0 : w4.cell? ⟨lb + 1, 0, none⟩ = some (.int .i64 32) := HCF4.out.cell 0 _ rfl
    have c1 : w4.cell? ⟨lb + 1, 1, none⟩ = some (.int .i64 q) := HCF4.out.cell 1 _ rfl
    have c2 : w4.cell? ⟨lb + 1, 2, none⟩ = some (.int .i64 most) := HCF4.out.cell 2 _ rfl
    have c3 : w4.cell? ⟨lb + 1, 3, none⟩ = some (.int .u64 (R : Int)) := HCF4.out.cell 3 _ rfl
    have c4 : w4.cell? ⟨lb + 1, 4, none⟩ = some (.int .u8 42) := HCF4.out.cell 4 _ rfl
    rcases hni with ⟨hok, a, n, c, kk, rfl⟩ | ⟨hno, rfl⟩
    · have HOK := Lib.hid hok
      clear hok
      go_wp2_with fail
      refine (HPK.out 32 _ (HE.out.below HB4.out)).mono ?_
      rintro e9 w5 ⟨hb5, hpk⟩
      have HLG5 := Lib.hid (HLG4.out.below hb5); have HCF5 := Lib.hid (HCF4.out.below hb5); have HB5 := Lib.hid (HB4.out.trans (hb5.mono HB4.out.size))
      clear hb5 HLG4 HCF4 HB4 c0 c1 c2 c3 c4
      rcases hpk with ⟨_, a5, n5, c5, k5, hn5, rfl⟩ | ⟨hno, _⟩
      rotate_left
      · exact absurd ⟨HOK.out, by omega⟩ hno
      have hn5' : ¬ (n5 : Int) = 0 := by omega
      have hn6 : ((n5 : Int) == 0) = false := beq_eq_false_iff_ne.2 hn5'
      have k0 : w5.cell? ⟨lb, 0, none⟩ = some (.int .i64 16) := HLG5.out.cell 0 _ rfl
      have k1 : w5.cell? ⟨lb, 1, none⟩ = some (.int .i64 15) := HLG5.out.cell 1 _ rfl
      have k2 : w5.cell? ⟨lb, 2, none⟩ = some (.int .i64 20) := HLG5.out.cell 2 _ rfl
      clear hn5
      go_upto_region 12 with (fail)
      go_region
      all_goals
        first | (refine (show ∀ w6 : World, w6 = w5.drew → _ from fun w6 hw6 => ?_) _ rfl; have HLG6 : Hid (AtG w6 lb 3 longC) := Lib.hid (by rw [hw6]; exact HLG5.out.drew); have HCF6 : Hid (AtG w6 (lb + 1) 24 (cfgC 32 q most R 42)) := Lib.hid (by rw [hw6]; exact HCF5.out.drew); have HB6 : Hid (Below w.heap.size w w6) := Lib.hid (by rw [hw6]; exact HB5.out.drew); clear hw6 HLG5 HCF5 HB5)
        have z0 : w6.cell? ⟨lb + 1, 0, none⟩ = some (.int .i64 32) := HCF6.out.cell 0 _ rfl
        have z1 := HCF6.out.frozen 0
        clear k0 k1 k2 HT
        by_cases l1 : lam < 1
        · go_wp2
          go_returns
          exact ⟨rfl, HB6.out⟩
        by_cases l2 : 32 < lam
        · go_wp2
          go_returns
          exact ⟨rfl, HB6.out⟩
        go_upto_region 17 with (fail)
        refine (show ∀ w7 : World, w7 = w6.setCell ⟨lb + 1, 0, none⟩ (.int .i64 lam) → _ from fun w7 hw7 => ?_) _ rfl
        have HLG7 : Hid (AtG w7 lb 3 longC) := Lib.hid (by rw [hw7]; exact HLG6.out.only (Only.set (S := fun k => k = lb + 1) _ (lb + 1) 0 _ rfl) (fun h => by omega))
        have HCF7 : Hid (AtG w7 (lb + 1) 24 (cfgC lam q most R 42)) := Lib.hid (by rw [hw7]; exact HCF6.out.set 0 _)
        have HB7 : Hid (Below w.heap.size w w7) := Lib.hid (by rw [hw7]; exact HB6.out.trans ((Only.set (S := fun k => k = lb + 1) _ (lb + 1) 0 _ rfl).below HB6.out.size (fun k hk => by subst hk; have := HLB.out; omega)))
        have HOKL := Lib.hid (ok_lam HOK.out (Int.not_lt.1 l1) (Int.not_lt.1 l2))
        clear hw7 HLG6 HCF6 HB6 z0 z1
        have c0 : w7.cell? ⟨lb + 1, 0, none⟩ = some (.int .i64 lam) := HCF7.out.cell 0 _ rfl
        have c1 : w7.cell? ⟨lb + 1, 1, none⟩ = some (.int .i64 q) := HCF7.out.cell 1 _ rfl
        have c2 : w7.cell? ⟨lb + 1, 2, none⟩ = some (.int .i64 most) := HCF7.out.cell 2 _ rfl
        have c3 : w7.cell? ⟨lb + 1, 3, none⟩ = some (.int .u64 (R : Int)) := HCF7.out.cell 3 _ rfl
        have c4 : w7.cell? ⟨lb + 1, 4, none⟩ = some (.int .u8 42) := HCF7.out.cell 4 _ rfl
        go_wp2_with fail
        refine (HPK.out lam _ (HE.out.below HB7.out)).mono ?_
        rintro e9 w8 ⟨hb8, hpk⟩
        have HB8 := Lib.hid (HB7.out.trans (hb8.mono HB7.out.size))
        have hl8 := HLG7.out.below hb8
        clear hb8 c0 c1 c2 c3 c4 HLG7 HCF7 HPK
        have HL8 := Lib.hid hl8
        have gg := hpk
        clear hl8
        rcases hpk with ⟨hok8, a8, n8, c8, k8, hn8, rfl⟩ | ⟨hno8, x, hx, rfl⟩
        · have hge := hok8.2
          clear gg hn8 hok8
          go_upto_region 18 with (fail)
          refine Rg.wp_region_each (by kernel_rfl) (fun w' => AtG w' lb 3 longC ∧ Below w.heap.size w w') (fun w1 w2 h hb => ⟨h.1.below hb, h.2.trans (hb.mono h.2.size)⟩) (by kernel_rfl) (by kernel_rfl) (⟨HL8.out, HB8.out⟩) ?_
          show Rg.Build _ _ _ _ _ 0 [_, _, _, _, _, _, _, _, _, _, _, _, _, _] []
          refine Rg.build_cons (m := 1) (r := Rg.eq _) (Rg.one_plain (by rfl) (by (intro ax wx hk Kx hK; have k11 := hk.base 11 _ rfl rfl; have hj := hk.j; clear hk; go_simp; refine hK _ _ ?_ (Below.refl _ _); apply Rg.mk))) ?_ rfl
          refine Rg.build_cons (m := 2) (r := Rg.eq _) (Rg.one_plain (by rfl) (by (intro ax wx hk Kx hK; obtain ⟨v94, k94, h94⟩ := hk.dep 0 94 _ rfl rfl rfl; (first | (cases (h94 : v94 = _)) | (obtain ⟨rfl, h94⟩ := h94) | skip); have hj := hk.j; clear hk; go_simp; refine hK _ _ ?_ (Below.refl _ _); apply Rg.mk))) ?_ rfl
          first
            | refine Rg.build_cons (m := 3) (Rg.one_no 1 95 true (by rfl) (by rfl) (by rfl) (by rfl)) ?_ rfl
            | refine Rg.build_cons (m := 3) (Rg.one_und 1 95 true (by rfl) (by rfl) (by rfl) (by rfl)) ?_ rfl
            | refine Rg.build_cons (m := 3) (r := Rg.eq _) (Rg.one_yes 1 95 true (by rfl) (by rfl) (by rfl) (by rfl) (by (intro ax wx hk Kx hK; have k25 := hk.base 25 _ rfl rfl; have hj := hk.j; clear hk; go_simp; refine hK _ _ ?_ (Below.refl _ _); apply Rg.mk))) ?_ rfl
          first
            | refine Rg.build_cons (m := 4) (Rg.one_no 1 95 true (by rfl) (by rfl) (by rfl) (by rfl)) ?_ rfl
            | refine Rg.build_cons (m := 4) (Rg.one_und 1 95 true (by rfl) (by rfl) (by rfl) (by rfl)) ?_ rfl
            | refine Rg.build_cons (m := 4) (r := Rg.eq _) (Rg.one_yes 1 95 true (by rfl) (by rfl) (by rfl) (by rfl) (by (intro ax wx hk Kx hK; obtain ⟨v96, k96, h96⟩ := hk.dep 2 96 _ rfl rfl rfl; (first | (cases (h96 : v96 = _)) | (obtain ⟨rfl, h96⟩ := h96) | skip); have hj := hk.j; clear hk; go_simp; refine hK _ _ ?_ (Below.refl _ _); apply Rg.mk))) ?_ rfl
          first
            | refine Rg.build_cons (m := 5) (Rg.one_no 1 95 true (by rfl) (by rfl) (by rfl) (by rfl)) ?_ rfl
            | refine Rg.build_cons (m := 5) (Rg.one_und 1 95 true (by rfl) (by rfl) (by rfl) (by rfl)) ?_ rfl
            | refine Rg.build_cons (m := 5) (r := Rg.eq _) (Rg.one_yes 1 95 true (by rfl) (by rfl) (by rfl) (by rfl) (by (intro ax wx hk Kx hK; have k1 := hk.base 1 _ rfl rfl; have hj := hk.j; clear hk; go_simp; refine hK _ _ ?_ (Below.refl _ _); apply Rg.mk))) ?_ rfl
          first
            | refine Rg.build_cons (m := 6) (Rg.one_no 1 95 true (by rfl) (by rfl) (by rfl) (by rfl)) ?_ rfl
            | refine Rg.build_cons (m := 6) (Rg.one_und 1 95 true (by rfl) (by rfl) (by rfl) (by rfl)) ?_ rfl
            | refine Rg.build_cons (m := 6) (r := Rg.eq _) (Rg.one_yes 1 95 true (by rfl) (by rfl) (by rfl) (by rfl) (by (intro ax wx hk Kx hK; have k15 := hk.base 15 _ rfl rfl; have hj := hk.j; clear hk; go_simp; refine hK _ _ ?_ (Below.refl _ _); apply Rg.mk))) ?_ rfl
          first
            | refine Rg.build_cons (m := 7) (Rg.one_no 1 95 true (by rfl) (by rfl) (by rfl) (by rfl)) ?_ rfl
            | refine Rg.build_cons (m := 7) (Rg.one_und 1 95 true (by rfl) (by rfl) (by rfl) (by rfl)) ?_ rfl
            | refine Rg.build_cons (m := 7) (r := Rg.eq _) (Rg.one_yes 1 95 true (by rfl) (by rfl) (by rfl) (by rfl) (by (intro ax wx hk Kx hK; have k0 := hk.base 0 _ rfl rfl; have hj := hk.j; clear hk; go_simp; refine hK _ _ ?_ (Below.refl _ _); apply Rg.mk))) ?_ rfl
          first
            | refine Rg.build_cons (m := 8) (Rg.one_no 1 95 true (by rfl) (by rfl) (by rfl) (by rfl)) ?_ rfl
            | refine Rg.build_cons (m := 8) (Rg.one_und 1 95 true (by rfl) (by rfl) (by rfl) (by rfl)) ?_ rfl
            | refine Rg.build_cons (m := 8) (r := Rg.eq _) (Rg.one_yes 1 95 true (by rfl) (by rfl) (by rfl) (by rfl) (by (intro ax wx hk Kx hK; obtain ⟨v100, k100, h100⟩ := hk.dep 6 100 _ rfl rfl rfl; (first | (cases (h100 : v100 = _)) | (obtain ⟨rfl, h100⟩ := h100) | skip); have hj := hk.j; clear hk; go_simp; refine (HPI.out _).mono ?_; rintro e w' ⟨rfl, hb⟩; refine hK _ _ ?_ hb; apply Rg.mk))) ?_ rfl
          first
            | refine Rg.build_cons (m := 9) (Rg.one_no 1 95 true (by rfl) (by rfl) (by rfl) (by rfl)) ?_ rfl
            | refine Rg.build_cons (m := 9) (Rg.one_und 1 95 true (by rfl) (by rfl) (by rfl) (by rfl)) ?_ rfl
            | refine Rg.build_cons (m := 9) (r := Rg.eq _) (Rg.one_yes 1 95 true (by rfl) (by rfl) (by rfl) (by rfl) (by (intro ax wx hk Kx hK; obtain ⟨v99, k99, h99⟩ := hk.dep 5 99 _ rfl rfl rfl; (first | (cases (h99 : v99 = _)) | (obtain ⟨rfl, h99⟩ := h99) | skip); obtain ⟨v101, k101, h101⟩ := hk.dep 7 101 _ rfl rfl rfl; (first | (cases (h101 : v101 = _)) | (obtain ⟨rfl, h101⟩ := h101) | skip); have hj := hk.j; clear hk; go_simp; refine hK _ _ ?_ (Below.refl _ _); apply Rg.mk))) ?_ rfl
          first
            | refine Rg.build_cons (m := 10) (Rg.one_no 1 95 true (by rfl) (by rfl) (by rfl) (by rfl)) ?_ rfl
            | refine Rg.build_cons (m := 10) (Rg.one_und 1 95 true (by rfl) (by rfl) (by rfl) (by rfl)) ?_ rfl
            | refine Rg.build_cons (m := 10) (r := Rg.eq _) (Rg.one_yes 1 95 true (by rfl) (by rfl) (by rfl) (by rfl) (by (intro ax wx hk Kx hK; obtain ⟨v102, k102, h102⟩ := hk.dep 8 102 _ rfl rfl rfl; (first | (cases (h102 : v102 = _)) | (obtain ⟨rfl, h102⟩ := h102) | skip); have hj := hk.j; clear hk; have q0 := hj.1.cell 0 _ rfl; have q1 := hj.1.cell 1 _ rfl; have q2 := hj.1.cell 2 _ rfl; go_simp; refine hK _ _ ?_ (Below.refl _ _); apply Rg.mk))) ?_ rfl
          first
            | refine Rg.build_cons (m := 11) (Rg.one_no 1 95 true (by rfl) (by rfl) (by rfl) (by rfl)) ?_ rfl
            | refine Rg.build_cons (m := 11) (Rg.one_und 1 95 true (by rfl) (by rfl) (by rfl) (by rfl)) ?_ rfl
            | refine Rg.build_cons (m := 11) (r := Rg.eq _) (Rg.one_yes 1 95 true (by rfl) (by rfl) (by rfl) (by rfl) (by (intro ax wx hk Kx hK; obtain ⟨v98, k98, h98⟩ := hk.dep 4 98 _ rfl rfl rfl; (first | (cases (h98 : v98 = _)) | (obtain ⟨rfl, h98⟩ := h98) | skip); obtain ⟨v103, k103, h103⟩ := hk.dep 9 103 _ rfl rfl rfl; (first | (cases (h103 : v103 = _)) | (obtain ⟨rfl, h103⟩ := h103) | skip); have hj := hk.j; clear hk; go_simp; refine hK _ _ ?_ (Below.refl _ _); apply Rg.mk))) ?_ rfl
          first
            | refine Rg.build_cons (m := 12) (Rg.one_no 1 95 true (by rfl) (by rfl) (by rfl) (by rfl)) ?_ rfl
            | refine Rg.build_cons (m := 12) (Rg.one_und 1 95 true (by rfl) (by rfl) (by rfl) (by rfl)) ?_ rfl
            | refine Rg.build_cons (m := 12) (r := Rg.eq _) (Rg.one_yes 1 95 true (by rfl) (by rfl) (by rfl) (by rfl) (by (intro ax wx hk Kx hK; obtain ⟨v97, k97, h97⟩ := hk.dep 3 97 _ rfl rfl rfl; (first | (cases (h97 : v97 = _)) | (obtain ⟨rfl, h97⟩ := h97) | skip); obtain ⟨v104, k104, h104⟩ := hk.dep 10 104 _ rfl rfl rfl; (first | (cases (h104 : v104 = _)) | (obtain ⟨rfl, h104⟩ := h104) | skip); have hj := hk.j; clear hk; go_simp; refine hK _ _ ?_ (Below.refl _ _); apply Rg.mk))) ?_ rfl
          refine Rg.build_cons (m := 13) (r := Rg.eq _) (Rg.one_plain (by rfl) (by (intro ax wx hk Kx hK; obtain ⟨v95, k95, h95⟩ := hk.dep 1 95 _ rfl rfl rfl; (first | (cases (h95 : v95 = _)) | (obtain ⟨rfl, h95⟩ := h95) | skip); obtain ⟨v105, k105, h105⟩ := hk.dep 11 105 _ rfl rfl rfl; (first | (cases (h105 : v105 = _)) | (obtain ⟨rfl, h105⟩ := h105) | skip); have hj := hk.j; clear hk; go_simp; refine hK _ _ ?_ (Below.refl _ _); apply Rg.mk))) ?_ rfl
          refine Rg.build_cons (m := 14) (r := Rg.eq _) (Rg.one_plain (by rfl) (by (intro ax wx hk Kx hK; obtain ⟨v106, k106, h106⟩ := hk.dep 12 106 _ rfl rfl rfl; (first | (cases (h106 : v106 = _)) | (obtain ⟨rfl, h106⟩ := h106) | skip); have hj := hk.j; clear hk; go_simp; refine hK _ _ ?_ (Below.refl _ _); apply Rg.mk))) ?_ rfl
          refine Rg.build_end fun wx hj => ?_
          refine Rg.fin_eq rfl ?_
          refine Rg.fin_eq rfl ?_
          refine Rg.fin_eq rfl ?_
          refine Rg.fin_eq rfl ?_
          refine Rg.fin_eq rfl ?_
          refine Rg.fin_eq rfl ?_
          refine Rg.fin_eq rfl ?_
          refine Rg.fin_eq rfl ?_
          refine Rg.fin_eq rfl ?_
          refine Rg.fin_eq rfl ?_
          refine Rg.fin_eq rfl ?_
          refine Rg.fin_eq rfl ?_
          refine Rg.fin_eq rfl ?_
          refine Rg.fin_eq rfl ?_
          refine Rg.fin_nil ?_
          simp only [List.set_cons_zero, List.set_cons_succ]
          go_wp2
          go_returns
          exact ⟨rfl, hj.2⟩
        · have hge := not_and.1 hno8 HOKL.out
          have hlt := Int.not_le.1 hge
          unfold spotV errCode at hx
          clear gg hno8
          rcases hx with ⟨b, rfl⟩ | rfl
          all_goals
            go_upto_region 18 with (fail)
            refine Rg.wp_region_each (by kernel_rfl) (fun w' => AtG w' lb 3 longC ∧ Below w.heap.size w w') (fun w1 w2 h hb => ⟨h.1.below hb, h.2.trans (hb.mono h.2.size)⟩) (by kernel_rfl) (by kernel_rfl) (⟨HL8.out, HB8.out⟩) ?_
            show Rg.Build _ _ _ _ _ 0 [_, _, _, _, _, _, _, _, _, _, _, _, _, _] []
            refine Rg.build_cons (m := 1) (r := Rg.eq _) (Rg.one_plain (by rfl) (by (intro ax wx hk Kx hK; have k11 := hk.base 11 _ rfl rfl; have hj := hk.j; clear hk; go_simp; refine hK _ _ ?_ (Below.refl _ _); apply Rg.mk))) ?_ rfl
            refine Rg.build_cons (m := 2) (r := Rg.eq _) (Rg.one_plain (by rfl) (by (intro ax wx hk Kx hK; obtain ⟨v94, k94, h94⟩ := hk.dep 0 94 _ rfl rfl rfl; (first | (cases (h94 : v94 = _)) | (obtain ⟨rfl, h94⟩ := h94) | skip); have hj := hk.j; clear hk; go_simp; refine hK _ _ ?_ (Below.refl _ _); apply Rg.mk))) ?_ rfl
            first
              | refine Rg.build_cons (m := 3) (Rg.one_no 1 95 true (by rfl) (by rfl) (by rfl) (by rfl)) ?_ rfl
              | refine Rg.build_cons (m := 3) (Rg.one_und 1 95 true (by rfl) (by rfl) (by rfl) (by rfl)) ?_ rfl
              | refine Rg.build_cons (m := 3) (r := Rg.eq _) (Rg.one_yes 1 95 true (by rfl) (by rfl) (by rfl) (by rfl) (by (intro ax wx hk Kx hK; have k25 := hk.base 25 _ rfl rfl; have hj := hk.j; clear hk; go_simp; refine hK _ _ ?_ (Below.refl _ _); apply Rg.mk))) ?_ rfl
            first
              | refine Rg.build_cons (m := 4) (Rg.one_no 1 95 true (by rfl) (by rfl) (by rfl) (by rfl)) ?_ rfl
              | refine Rg.build_cons (m := 4) (Rg.one_und 1 95 true (by rfl) (by rfl) (by rfl) (by rfl)) ?_ rfl
              | refine Rg.build_cons (m := 4) (r := Rg.eq _) (Rg.one_yes 1 95 true (by rfl) (by rfl) (by rfl) (by rfl) (by (intro ax wx hk Kx hK; obtain ⟨v96, k96, h96⟩ := hk.dep 2 96 _ rfl rfl rfl; (first | (cases (h96 : v96 = _)) | (obtain ⟨rfl, h96⟩ := h96) | skip); have hj := hk.j; clear hk; go_simp; refine hK _ _ ?_ (Below.refl _ _); apply Rg.mk))) ?_ rfl
            first
              | refine Rg.build_cons (m := 5) (Rg.one_no 1 95 true (by rfl) (by rfl) (by rfl) (by rfl)) ?_ rfl
              | refine Rg.build_cons (m := 5) (Rg.one_und 1 95 true (by rfl) (by rfl) (by rfl) (by rfl)) ?_ rfl
              | refine Rg.build_cons (m := 5) (r := Rg.eq _) (Rg.one_yes 1 95 true (by rfl) (by rfl) (by rfl) (by rfl) (by (intro ax wx hk Kx hK; have k1 := hk.base 1 _ rfl rfl; have hj := hk.j; clear hk; go_simp; refine hK _ _ ?_ (Below.refl _ _); apply Rg.mk))) ?_ rfl
            first
              | refine Rg.build_cons (m := 6) (Rg.one_no 1 95 true (by rfl) (by rfl) (by rfl) (by rfl)) ?_ rfl
              | refine Rg.build_cons (m := 6) (Rg.one_und 1 95 true (by rfl) (by rfl) (by rfl) (by rfl)) ?_ rfl
              | refine Rg.build_cons (m := 6) (r := Rg.eq _) (Rg.one_yes 1 95 true (by rfl) (by rfl) (by rfl) (by rfl) (by (intro ax wx hk Kx hK; have k15 := hk.base 15 _ rfl rfl; have hj := hk.j; clear hk; go_simp; refine hK _ _ ?_ (Below.refl _ _); apply Rg.mk))) ?_ rfl
            first
              | refine Rg.build_cons (m := 7) (Rg.one_no 1 95 true (by rfl) (by rfl) (by rfl) (by rfl)) ?_ rfl
              | refine Rg.build_cons (m := 7) (Rg.one_und 1 95 true (by rfl) (by rfl) (by rfl) (by rfl)) ?_ rfl
              | refine Rg.build_cons (m := 7) (r := Rg.eq _) (Rg.one_yes 1 95 true (by rfl) (by rfl) (by rfl) (by rfl) (by (intro ax wx hk Kx hK; have k0 := hk.base 0 _ rfl rfl; have hj := hk.j; clear hk; go_simp; refine hK _ _ ?_ (Below.refl _ _); apply Rg.mk))) ?_ rfl
            first
              | refine Rg.build_cons (m := 8) (Rg.one_no 1 95 true (by rfl) (by rfl) (by rfl) (by rfl)) ?_ rfl
              | refine Rg.build_cons (m := 8) (Rg.one_und 1 95 true (by rfl) (by rfl) (by rfl) (by rfl)) ?_ rfl
              | refine Rg.build_cons (m := 8) (r := Rg.eq _) (Rg.one_yes 1 95 true (by rfl) (by rfl) (by rfl) (by rfl) (by (intro ax wx hk Kx hK; obtain ⟨v100, k100, h100⟩ := hk.dep 6 100 _ rfl rfl rfl; (first | (cases (h100 : v100 = _)) | (obtain ⟨rfl, h100⟩ := h100) | skip); have hj := hk.j; clear hk; go_simp; refine (HPI.out _).mono ?_; rintro e w' ⟨rfl, hb⟩; refine hK _ _ ?_ hb; apply Rg.mk))) ?_ rfl
            first
              | refine Rg.build_cons (m := 9) (Rg.one_no 1 95 true (by rfl) (by rfl) (by rfl) (by rfl)) ?_ rfl
              | refine Rg.build_cons (m := 9) (Rg.one_und 1 95 true (by rfl) (by rfl) (by rfl) (by rfl)) ?_ rfl
              | refine Rg.build_cons (m := 9) (r := Rg.eq _) (Rg.one_yes 1 95 true (by rfl) (by rfl) (by rfl) (by rfl) (by (intro ax wx hk Kx hK; obtain ⟨v99, k99, h99⟩ := hk.dep 5 99 _ rfl rfl rfl; (first | (cases (h99 : v99 = _)) | (obtain ⟨rfl, h99⟩ := h99) | skip); obtain ⟨v101, k101, h101⟩ := hk.dep 7 101 _ rfl rfl rfl; (first | (cases (h101 : v101 = _)) | (obtain ⟨rfl, h101⟩ := h101) | skip); have hj := hk.j; clear hk; go_simp; refine hK _ _ ?_ (Below.refl _ _); apply Rg.mk))) ?_ rfl
            first
              | refine Rg.build_cons (m := 10) (Rg.one_no 1 95 true (by rfl) (by rfl) (by rfl) (by rfl)) ?_ rfl
              | refine Rg.build_cons (m := 10) (Rg.one_und 1 95 true (by rfl) (by rfl) (by rfl) (by rfl)) ?_ rfl
              | refine Rg.build_cons (m := 10) (r := Rg.eq _) (Rg.one_yes 1 95 true (by rfl) (by rfl) (by rfl) (by rfl) (by (intro ax wx hk Kx hK; obtain ⟨v102, k102, h102⟩ := hk.dep 8 102 _ rfl rfl rfl; (first | (cases (h102 : v102 = _)) | (obtain ⟨rfl, h102⟩ := h102) | skip); have hj := hk.j; clear hk; have q0 := hj.1.cell 0 _ rfl; have q1 := hj.1.cell 1 _ rfl; have q2 := hj.1.cell 2 _ rfl; go_simp; refine hK _ _ ?_ (Below.refl _ _); apply Rg.mk))) ?_ rfl
            first
              | refine Rg.build_cons (m := 11) (Rg.one_no 1 95 true (by rfl) (by rfl) (by rfl) (by rfl)) ?_ rfl
              | refine Rg.build_cons (m := 11) (Rg.one_und 1 95 true (by rfl) (by rfl) (by rfl) (by rfl)) ?_ rfl
              | refine Rg.build_cons (m := 11) (r := Rg.eq _) (Rg.one_yes 1 95 true (by rfl) (by rfl) (by rfl) (by rfl) (by (intro ax wx hk Kx hK; obtain ⟨v98, k98, h98⟩ := hk.dep 4 98 _ rfl rfl rfl; (first | (cases (h98 : v98 = _)) | (obtain ⟨rfl, h98⟩ := h98) | skip); obtain ⟨v103, k103, h103⟩ := hk.dep 9 103 _ rfl rfl rfl; (first | (cases (h103 : v103 = _)) | (obtain ⟨rfl, h103⟩ := h103) | skip); have hj := hk.j; clear hk; go_simp; refine hK _ _ ?_ (Below.refl _ _); apply Rg.mk))) ?_ rfl
            first
              | refine Rg.build_cons (m := 12) (Rg.one_no 1 95 true (by rfl) (by rfl) (by rfl) (by rfl)) ?_ rfl
              | refine Rg.build_cons (m := 12) (Rg.one_und 1 95 true (by rfl) (by rfl) (by rfl) (by rfl)) ?_ rfl
              | refine Rg.build_cons (m := 12) (r := Rg.eq _) (Rg.one_yes 1 95 true (by rfl) (by rfl) (by rfl) (by rfl) (by (intro ax wx hk Kx hK; obtain ⟨v97, k97, h97⟩ := hk.dep 3 97 _ rfl rfl rfl; (first | (cases (h97 : v97 = _)) | (obtain ⟨rfl, h97⟩ := h97) | skip); obtain ⟨v104, k104, h104⟩ := hk.dep 10 104 _ rfl rfl rfl; (first | (cases (h104 : v104 = _)) | (obtain ⟨rfl, h104⟩ := h104) | skip); have hj := hk.j; clear hk; go_simp; refine hK _ _ ?_ (Below.refl _ _); apply Rg.mk))) ?_ rfl
            refine Rg.build_cons (m := 13) (r := Rg.eq _) (Rg.one_plain (by rfl) (by (intro ax wx hk Kx hK; obtain ⟨v95, k95, h95⟩ := hk.dep 1 95 _ rfl rfl rfl; (first | (cases (h95 : v95 = _)) | (obtain ⟨rfl, h95⟩ := h95) | skip); obtain ⟨v105, k105, h105⟩ := hk.dep 11 105 _ rfl rfl rfl; (first | (cases (h105 : v105 = _)) | (obtain ⟨rfl, h105⟩ := h105) | skip); have hj := hk.j; clear hk; go_simp; refine hK _ _ ?_ (Below.refl _ _); apply Rg.mk))) ?_ rfl
            refine Rg.build_cons (m := 14) (r := Rg.eq _) (Rg.one_plain (by rfl) (by (intro ax wx hk Kx hK; obtain ⟨v106, k106, h106⟩ := hk.dep 12 106 _ rfl rfl rfl; (first | (cases (h106 : v106 = _)) | (obtain ⟨rfl, h106⟩ := h106) | skip); have hj := hk.j; clear hk; go_simp; refine hK _ _ ?_ (Below.refl _ _); apply Rg.mk))) ?_ rfl
            refine Rg.build_end fun wx hj => ?_
            refine Rg.fin_eq rfl ?_
            refine Rg.fin_eq rfl ?_
            refine Rg.fin_eq rfl ?_
            refine Rg.fin_eq rfl ?_
            refine Rg.fin_eq rfl ?_
            refine Rg.fin_eq rfl ?_
            refine Rg.fin_eq rfl ?_
            refine Rg.fin_eq rfl ?_
            refine Rg.fin_eq rfl ?_
            refine Rg.fin_eq rfl ?_
            refine Rg.fin_eq rfl ?_
            refine Rg.fin_eq rfl ?_
            refine Rg.fin_eq rfl ?_
            refine Rg.fin_eq rfl ?_
            refine Rg.fin_nil ?_
            simp only [List.set_cons_zero, List.set_cons_succ]
            go_wp2
            go_returns
            first | exact ⟨rfl, hj.2⟩ | (refine ⟨?_, hj.2⟩; simp [hge, hlt])
    · have HNO := Lib.hid hno
      clear hno
      go_wp2_with fail
      refine (HPK.out 32 _ (HE.out.below HB4.out)).mono ?_
      rintro e9 w5 ⟨hb5, hpk⟩
      have HB5 := Lib.hid (HB4.out.trans (hb5.mono HB4.out.size))
      clear hb5 HLG4 HCF4 HB4 c0 c1 c2 c3 c4
      rcases hpk with ⟨hok, _⟩ | ⟨_, x, hx, rfl⟩
      · exact absurd hok.1 HNO.out
      unfold spotV errCode at hx
      rcases hx with ⟨b, rfl⟩ | rfl
      all_goals
        go_upto_region 12 with (fail)
        go_region
        all_goals
          go_wp2
          go_returns
          first | exact ⟨rfl, HB5.out⟩ | exact ⟨rfl, HB5.out.drew⟩
end Go.Proofs.YtgjcibhhffkemaaGreatDoor.Ve
/- The row of PackFits: for every input it returns true, and each argument reads as it did; out of its walk. No condition. -/
namespace Go.Proofs.YtgjcibhhffkemaaGreatDoor.packFits
open Go.ChangeShapes Go.WideShapes Go.ChangeAt Go.RowKit Go.Joins
open Go.ChangeMaps (open_string shut_string)
set_option linter.unusedVariables false
theorem own : ownKnob Tryz.prog.godebug = none := by kernel_rfl
theorem laidOut : laidOutB Tryz.prog = true := by kernel_rfl
def laid : List (String × DataW Unit) := [("unicode/utf8.acceptRanges", Rows.laid_unicode_utf8_acceptRanges), ("errors.errorType", Rows.laid_errors_errorType), ("unicode/utf8.first", Rows.laid_unicode_utf8_first)]
theorem et : Tryz.prog.globalNamed "errors.errorType" = some 0 := by kernel_rfl
theorem rt : (Tryz.prog.cutTypes.find? (·.1 == "internal/reflectlite.rtype")).map (·.2) = some 129 := by kernel_rfl
theorem oneRow : ((List.range 209).filter fun t => Tryz.prog.rowNamed t [101, 114, 114, 111, 114]) = [28] := by kernel_rfl
theorem tsize : Tryz.prog.types.size = 209 := by kernel_rfl
theorem handle_of_laid {W : World} (h : laidMetH Tryz.prog laid W) : W.cell? ⟨0, 0, none⟩ = some (.iface 129 (.agg #[.pointer (some ⟨5, 28, none⟩)])) := by
  have h' : laidMet Tryz.prog (laid.filter fun x => x.2.handleName?.isNone) W ∧ handlesMet Tryz.prog [("errors.errorType", Rows.laid_errors_errorType)] W := h
  obtain ⟨name, u, ty, e1, e2, e3, e4, e5⟩ := h'.2 _ (List.mem_singleton.2 rfl)
  have en : name = [101, 114, 114, 111, 114] := (Option.some.inj e1).symm
  subst en
  obtain rfl := Option.some.inj (rt.symm.trans e2)
  have hm : ty ∈ (List.range 209).filter fun t => Tryz.prog.rowNamed t [101, 114, 114, 111, 114] := List.mem_filter.2 ⟨List.mem_range.2 (by rw [← tsize]; exact e3), e4⟩
  rw [oneRow] at hm
  obtain rfl := List.mem_singleton.1 hm
  have hh : typeHandle Tryz.prog 28 = .pointer (some ⟨5, 28, none⟩) := by kernel_rfl
  rw [hh] at e5
  simpa using World.var?_cell et e5 0
noncomputable def laidW (os : Os) : World :=
  let w0 := World.laidAll Tryz.prog os (laid.filter fun x => x.2.handleName?.isNone)
  { w0 with heap := w0.heap.modify 0 fun
      | .cells _ t frozen => .cells #[.iface 129 (.agg #[.pointer (some ⟨5, 28, none⟩)])] t frozen
      | o => o }
set_option maxRecDepth 100000 in
set_option maxHeartbeats 1000000 in
theorem lifted (os : Os) (started : os.Started) (H : Type) (enc : TypeId × Value → H) :
    ReturnsInHanded {} Tryz.checked os 4 .any (fun w args => (Rows.packFitsSpec.pre enc Tryz.prog Tryz.f4 [] false w args ∧ laidMetH Tryz.prog laid w) ∧ sizedMet enc Tryz.prog Tryz.f4 (OpenSpec.ofChange Rows.packFitsSpec) false w args) (Rows.packFitsSpec.post enc Tryz.prog Tryz.f4 false true false false) := by
  refine returnsInHanded_of_change_and (C := Tryz.checked) (X := fun w _ => laidMetH Tryz.prog laid w) (fun _ _ _ hh h => h.of_heap hh) own started (by kernel_rfl) Tryz.func4
    (ChangeSpec.witness_shaped (enc := enc) (C := Tryz.checked) (os := os) (X := fun w _ => laidMetH Tryz.prog laid w) false (laidW os) #[.int .i64 0, .int .i64 0, .int .i64 0, .int .i64 0, .int .u64 0] 8 (World.laidAll_os _ _ _)
      (World.shaped_of_ZipB (by kernel_rfl) (by kernel_rfl)) (by kernel_rfl) (by kernel_rfl) (by kernel_rfl)
      (laidMetH_of_parts (laidMet_of_run' 40 (by kernel_rfl) (by kernel_rfl)) (by kernel_rfl))) ?_
  intro W base args ds gs before hval0 hW hcnd hsz0 hL _
  have hsz : (DataW.weightsEach Tryz.prog (Tryz.f4.params.toList ++ Rows.packFitsSpec.plain.varTypes Tryz.prog) (ds ++ gs)).all (· ≤ reachBytes) = true := hsz0
  have hval : ∀ (j : Nat) t v, Tryz.f4.params[j]? = some t → args[j]? = some v → Value.okWide Tryz.prog W .any base t v := hval0
  have hW' := hW
  obtain ⟨p, q, hA0, hV, rfl, hfz, hnd⟩ := hW
  have hA : DataW.TrodAll enc Tryz.prog W 0 (fun _ => true) true Tryz.f4.params.toList args.toList ds p := hA0
  rw [Tryz.params4] at hA hval hsz
  obtain ⟨v0, vs0, d0, ds0, p0, q0, hargs, rfl, rfl, h0, r0⟩ := trodAll_cons hA
  obtain ⟨v1, vs1, d1, ds1, p1, q1, rfl, rfl, rfl, h1, r1⟩ := trodAll_cons r0
  obtain ⟨v2, vs2, d2, ds2, p2, q2, rfl, rfl, rfl, h2, r2⟩ := trodAll_cons r1
  obtain ⟨v3, vs3, d3, ds3, p3, q3, rfl, rfl, rfl, h3, r3⟩ := trodAll_cons r2
  obtain ⟨v4, vs4, d4, ds4, p4, q4, rfl, rfl, rfl, h4, r4⟩ := trodAll_cons r3
  obtain ⟨rfl, rfl, rfl⟩ := trodAll_nil r4
  obtain rfl : args = #[v0, v1, v2, v3, v4] := by cases args; simp_all
  obtain ⟨rfl, rfl⟩ := trodVars_none hV
  obtain ⟨a0, rfl, rfl, rfl, w0⟩ := open_int Tryz.underlying3 (hval 0 3 v0 rfl rfl) h0
  obtain ⟨a1, rfl, rfl, rfl, w1⟩ := open_int Tryz.underlying3 (hval 1 3 v1 rfl rfl) h1
  obtain ⟨a2, rfl, rfl, rfl, w2⟩ := open_int Tryz.underlying3 (hval 2 3 v2 rfl rfl) h2
  obtain ⟨a3, rfl, rfl, rfl, w3⟩ := open_int Tryz.underlying3 (hval 3 3 v3 rfl rfl) h3
  obtain ⟨a4, rfl, rfl, rfl, w4⟩ := open_int Tryz.underlying22 (hval 4 22 v4 rfl rfl) h4
  have he := handle_of_laid hL
  obtain ⟨n4, rfl⟩ : ∃ n : Nat, a4 = (n : Int) := ⟨a4.toNat, by have h := w4; simp [Lit.wf, IntKind.min, IntKind.max, IntKind.signed, IntKind.bits] at h; omega⟩
  clear hA0 hval0 hsz0 hsz
  refine (Ve.packFits_walk a0 a1 a2 a3 n4 (by simpa [Lit.wf, IntKind.min, IntKind.max, IntKind.signed, IntKind.bits] using w0) (by have h := w4; simp [Lit.wf, IntKind.min, IntKind.max, IntKind.signed, IntKind.bits] at h; omega) W he).mono fun e W' ⟨he, bel⟩ => ?_
  subst he
  exact ⟨_, rfl, _, _, _, [], _, [], hW', trodAll_mk1 (shut_bool Tryz.underlying4 _), (trodAll_cons_mk (shut_int Tryz.underlying3 w0) (trodAll_cons_mk (shut_int Tryz.underlying3 w1) (trodAll_cons_mk (shut_int Tryz.underlying3 w2) (trodAll_cons_mk (shut_int Tryz.underlying3 w3) (trodAll_cons_mk (shut_int Tryz.underlying22 w4) trodAll_mk0))))), rfl, bel.frame _, fun h => by cases h⟩
theorem over : Rows.packFitsRow.holds Tryz.pinned (OpenSpec.ofChange Rows.packFitsSpec) :=
  OpenClaim.holds_of_wide 4 Tryz.f4 rfl rfl rfl rfl rfl rfl rfl ⟨rfl, rfl, rfl, rfl, rfl⟩ rfl rfl rfl rfl rfl (by kernel_rfl) Tryz.func4 (by kernel_rfl)
    (of_decide_eq_true (by kernel_rfl)) (by unfold Func.isWrapper; first | (rw [if_pos (by decide +kernel)]; kernel_rfl) | (rw [if_neg (by decide +kernel)]; exact ⟨rfl, rfl⟩))
    (fun os started H enc _ => lifted os started H enc)
set_option maxRecDepth 100000 in
theorem card_holds : Claim7.holds Tryz.pinned (.plain (OpenSpec.ofChange Rows.packFitsSpec)) Rows.packFitsCard :=
  Claim7.holds_tied_plain_at .later [] [.data, .handle, .pinned] true (true, "222d176d14b0ad36ababa9cc0c4aab037bc55a31280a875daa467cdae0875825") true over (fun _ h => by cases h) (by kernel_rfl) (fun _ h => by cases h) packFits_row_tie rfl ⟨rfl, rfl⟩ (by kernel_rfl) rfl
    (fun f fn hf hfn => by
      obtain rfl : f = 4 := Option.some.inj ((show Tryz.prog.funcNamed "snaffle/snafflelaw19.PackFits" = some 4 by kernel_rfl).symm.trans hf) |>.symm
      obtain rfl : fn = Tryz.f4 := (Option.some.inj (Tryz.func4.symm.trans hfn)).symm
      exact ⟨by kernel_rfl, fun j t ht => by
        rw [Tryz.params4] at ht
        have hm : t ∈ [3, 3, 3, 3, 22] := by simpa using Array.mem_of_getElem? ht
        have hall : ([3, 3, 3, 3, 22].all fun u => !Tryz.prog.wantsStandIn u) = true := by kernel_rfl
        exact (show Tryz.prog.wantsStandIn t = false by simpa using List.all_eq_true.1 hall t hm)⟩)
    (by kernel_rfl)
end Go.Proofs.YtgjcibhhffkemaaGreatDoor.packFits
namespace Go.Proofs.YtgjcibhhffkemaaGreatDoor
theorem packFits_holds : Rows.PackFitsCardSaid := packFits.card_holds
end Go.Proofs.YtgjcibhhffkemaaGreatDoor
