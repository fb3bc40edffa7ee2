/- Both Parses, in one form. -/
import Derived.Test.YtofgkildlhcpdaaRx14
set_option linter.unusedVariables false
set_option linter.unusedSimpArgs false
namespace Go.Proofs.Ytofgkildlhcpdaa
open Go.RowKit Bt
def zT : Tree := .node 0 emp 0 0 []
theorem zeroN_eq : zeroN = nodeV zT (.slice none 0 0) := by
  unfold zeroN zT nodeV; dsimp only; rw [wd_emp, wd_emp, wd_emp, wd_emp]
theorem nat_zero (w : World) : NAt w zT (.slice none 0 0) := by unfold NAt; exact kat_one _ w 0 emp 0 0
def treeR : Re Tree → Tree | .ok t _ => t | .no _ _ => zT
def codeR : Re Tree → Int | .ok _ _ => 0 | .no c _ => c
def spotR : Re Tree → Int | .ok _ _ => 0 | .no _ x => (x : Int)
/-- a tree's kids stand at a slice -/
theorem nat_sl {w : World} {t : Tree} {kv : Value} (h : NAt w t kv) : ∃ a n c, kv = .slice a n c := by
  obtain ⟨op, f, mn, mx, kids⟩ := t
  obtain ⟨a, c, rfl⟩ := KAt.slice h
  exact ⟨a, _, c, rfl⟩
theorem parseR (s : ByteArray) (w : World) : Calls Try.prog 31 #[.string s] w fun e w' => Below w.heap.size w w' ∧ ∃ R er a n c, RxRes s R ∧ e = .returned (.tuple #[nodeV (treeR R) (.slice a n c), er]) ∧ NAt w' (treeR R) (.slice a n c) ∧
    (∀ w2, Below w'.heap.size w' w2 → Calls Try.prog 33 #[er] w2 fun e w3 => e = .returned (.tuple #[.int .i64 (codeR R), .int .i64 (spotR R)]) ∧ Below w2.heap.size w2 w3) ∧
    match R with | .ok _ _ => er = .nilIface | .no _ _ => ∃ b, er = spotV b :=
  (parseX s w).mono (by
    rintro e w' ⟨hb, R, hR, h⟩
    cases R with
    | ok t q =>
      obtain ⟨kv, rfl, hk⟩ := h
      obtain ⟨a, n, c, rfl⟩ := nat_sl (NAt.of hk)
      exact ⟨hb, _, .nilIface, a, n, c, hR, rfl, NAt.of hk, fun w2 hb2 => (spot_nil w2).mono (by rintro e w' ⟨rfl, rfl⟩; exact ⟨rfl, Below.refl _ _⟩), rfl⟩
    | no cd x =>
      obtain ⟨b, rfl, hx⟩ := h
      exact ⟨hb, _, spotV b, none, 0, 0, hR, by rw [zeroN_eq]; rfl, nat_zero _, fun w2 hb2 => spot_some b _ _ w2 (hx.below hb2), b, rfl⟩)
theorem refR (s : ByteArray) (w : World) : Calls Try.prog 32 #[.string s] w fun e w' => Below w.heap.size w w' ∧ ∃ R a n c, RxRes s R ∧ e = .returned (.tuple #[nodeV (treeR R) (.slice a n c), .int .i64 (codeR R), .int .i64 (spotR R)]) ∧ NAt w' (treeR R) (.slice a n c) := by
  by_cases hl : 200 < s.size
  · exact (parse_long s w hl).mono (by
      rintro e w' ⟨rfl, hb⟩
      exact ⟨hb, .no 4 0, none, 0, 0, .inl ⟨hl, rfl⟩, by rw [zeroN_eq]; rfl, nat_zero _⟩)
  · exact (parse_any s w (by omega)).mono (by
      rintro e w' ⟨hb, r, hP, hr⟩
      cases r with
      | ok t q =>
        obtain ⟨kv, rfl, hk⟩ := hr
        obtain ⟨a, n, c, rfl⟩ := nat_sl (NAt.of hk)
        exact ⟨hb, _, a, n, c, .inr ⟨by omega, hP⟩, rfl, NAt.of hk⟩
      | no cd x =>
        obtain rfl := hr
        exact ⟨hb, _, none, 0, 0, .inr ⟨by omega, hP⟩, by rw [zeroN_eq]; rfl, nat_zero _⟩)
/-- the document's example -/
def abcS : ByteArray := ⟨#[97, 124, 98, 99]⟩
def chT (c : Nat) : Tree := one fun y => y == c
def abcT : Tree := altT [chT 97, catT [chT 98, chT 99]]
theorem atom_ch (s : ByteArray) (o p c : Nat) (h : ch s p = (c : Int)) (hc : 97 ≤ c ∧ c ≤ 122) : P s .atom o p (.ok (chT c) (p + 1)) := by
  have h1 : atomF s p = .ok (chT c) (p + 1) := by
    unfold atomF
    rw [h, if_neg (by omega), if_neg (by omega), if_neg (by omega), if_neg (by omega), if_neg (by omega), if_neg (by unfold brk; simp only [List.mem_cons, List.not_mem_nil, or_false]; omega)]
    rfl
  have := P.plain (s := s) (o := o) (p := p) (by rw [h]; omega)
  rw [h1] at this; exact this
theorem abc_P : P abcS .pat 0 0 (.ok abcT 4) := by
  have c0 : ch abcS 0 = ((97 : Nat) : Int) := by decide
  have c1 : ch abcS 1 = 124 := by decide
  have c2 : ch abcS 2 = ((98 : Nat) : Int) := by decide
  have c3 : ch abcS 3 = ((99 : Nat) : Int) := by decide
  have c4 : ch abcS 4 = -1 := by decide
  have a1 := atom_ch abcS 0 0 97 c0 (by decide)
  have b1 := atom_ch abcS 0 2 98 c2 (by decide)
  have d1 := atom_ch abcS 0 3 99 c3 (by decide)
  have a2 : P abcS .piece 0 0 (.ok (chT 97) 1) := P.pieceOk a1 (P.pieceEnd (by rw [c1]; decide) (by rw [c1]; decide))
  have b2 : P abcS .piece 0 2 (.ok (chT 98) 3) := P.pieceOk b1 (P.pieceEnd (by rw [c3]; decide) (by rw [c3]; decide))
  have d2 : P abcS .piece 0 3 (.ok (chT 99) 4) := P.pieceOk d1 (P.pieceEnd (by rw [c4]; decide) (by rw [c4]; decide))
  have g3 : goes abcS 0 3 := ⟨by rw [c3]; decide, by rw [c3]; decide, .inr rfl⟩
  have a4 : P abcS (.partL [chT 97]) 0 1 (.ok (chT 97) 1) := P.partEnd (s := abcS) (o := 0) (p := 1) (l := [chT 97]) (fun h => by have := h.2.1; rw [c1] at this; exact this rfl)
  have d4 : P abcS (.partL [chT 98, chT 99]) 0 4 (.ok (catT [chT 98, chT 99]) 4) := P.partEnd (s := abcS) (o := 0) (p := 4) (l := [chT 98, chT 99]) (fun h => by have := h.1; rw [c4] at this; omega)
  have a5 : P abcS .part 0 0 (.ok (chT 97) 1) := P.partOk a2 a4
  have b5 : P abcS .part 0 2 (.ok (catT [chT 98, chT 99]) 4) := P.partOk b2 (P.partMore g3 d2 d4)
  have e : P abcS (.patL [chT 97, catT [chT 98, chT 99]]) 0 4 (.ok abcT 4) := P.patEnd (s := abcS) (o := 0) (p := 4) (l := [chT 97, catT [chT 98, chT 99]]) (by rw [c4]; decide)
  exact P.patOk a5 (P.patMore c1 b5 e)
def aS : ByteArray := ⟨#[97, 42]⟩
theorem a_P : P aS .pat 0 0 (.no 3 1) := by
  have c0 : ch aS 0 = ((97 : Nat) : Int) := by decide
  have c1 : ch aS 1 = 42 := by decide
  have a1 := atom_ch aS 0 0 97 c0 (by decide)
  have a2 : P aS .piece 0 0 (.ok (chT 97) 1) := P.pieceOk a1 (P.pieceEnd (by rw [c1]; decide) (by rw [c1]; decide))
  have h1 : atomF aS 1 = .no 3 1 := by
    unfold atomF
    rw [c1, if_neg (by decide), if_neg (by decide), if_neg (by decide), if_neg (by decide), if_pos (by decide)]
  have b1 : P aS .atom 0 1 (.no 3 1) := by
    have := P.plain (s := aS) (o := 0) (p := 1) (by rw [c1]; decide)
    rw [h1] at this; exact this
  have g1 : goes aS 0 1 := ⟨by rw [c1]; decide, by rw [c1]; decide, .inr rfl⟩
  exact P.patNo (P.partOk a2 (P.partBad g1 (P.pieceNo b1)))
end Go.Proofs.Ytofgkildlhcpdaa
