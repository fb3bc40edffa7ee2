/- The document's machine: May and what it asks. -/
import Derived.Test.YtpikoijohfmnaaaCtMem
import Derived.Laws.BitsAllLaws
set_option linter.unusedVariables false
set_option linter.unusedSimpArgs false
namespace Go.Proofs.Ytpikoijohfmnaaa
open Go.RowKit
/-- cells of a map, as its keys tell -/
def mapF (m : Int → Option Int) : Lit → Option Int
  | .int .i64 c => m c
  | _ => none
/-- the document's machine in memory -/
structure RfM (w : World) (g mp : Nat) (lv : Value) (n s : Nat) (q : Int → Option Int) (tr : List Ins) : Prop where
  m : AtG w g 43 #[.int .i64 n, .map (some mp), lv]
  c : OwnF w Try.prog 3 29 .u64 mp s (mapF q)
  t : w.ownsRow 0 35 6 lv tr.length (flat6 tr)
  v : ∀ c, 0 ≤ (q c).getD 0 ∧ (q c).getD 0 < 18446744073709551616
def rfS (g mp : Nat) (lv : Value) (k : Nat) : Prop := k = g ∨ k = mp ∨ lv.ownBlock = some k
namespace RfM
variable {w w1 : World} {g mp n s : Nat} {lv : Value} {q : Int → Option Int} {tr : List Ins}
theorem only {S : Nat → Prop} (h : RfM w g mp lv n s q tr) (ho : Only S w w1) (hS : ∀ k, rfS g mp lv k → ¬ S k) : RfM w1 g mp lv n s q tr :=
  ⟨h.m.only ho (hS g (.inl rfl)), h.c.only ho (hS mp (.inr (.inl rfl))), own_only h.t ho (fun k hk => hS k (.inr (.inr hk))), h.v⟩
theorem lt (h : RfM w g mp lv n s q tr) : ∀ k, rfS g mp lv k → k < w.heap.size := by
  rintro k (rfl | rfl | hk)
  · exact h.m.lt
  · exact h.c.lt
  · obtain ⟨cur, hc⟩ := own_type h.t hk; exact (Array.getElem?_eq_some_iff.1 hc).1
theorem below (h : RfM w g mp lv n s q tr) (hb : Below w.heap.size w w1) : RfM w1 g mp lv n s q tr :=
  h.only (S := fun _ => False) (Only.of_below hb) (fun _ _ => id)
end RfM
theorem truth_any (p : Bool) (w : World) : Calls Try.prog 27 #[.bool p] w fun e w' => e = .returned (.int .u64 (if p then 1 else 0)) ∧ w' = w := by
  cases p
  all_goals
    go_enter Try.func27, Try.ntmps27
    go_wp2
    go_returns
    exact ⟨rfl, rfl⟩
/-- is a cell there? -/
def cellP (n : Int) (c : Int) : Bool := decide (0 ≤ c) && decide (c < n)
theorem There_any (c : Int) (n g : Nat) (w : World) (hm : w.cell? ⟨g, 0, none⟩ = some (.int .i64 (n : Int))) :
    Calls Try.prog 32 #[.pointer (some ⟨g, 0, none⟩), .int .i64 c] w fun e w' => e = .returned (.bool (cellP n c)) ∧ w' = w := by
  unfold cellP
  by_cases h : 0 ≤ c
  · have e : decide (0 ≤ c) = true := by simpa using h
    rw [e]
    obtain ⟨q, hq⟩ : ∃ q, decide (c < (n : Int)) = q := ⟨_, rfl⟩
    rw [hq]
    go_enter Try.func32, Try.ntmps32
    go_wp2
    go_returns
    exact ⟨by first | rfl | (simp [hq]), rfl⟩
  · have e : decide (0 ≤ c) = false := by simpa using h
    rw [e]
    go_enter Try.func32, Try.ntmps32
    go_wp2
    go_returns
    exact ⟨rfl, rfl⟩
/-- what the document's May tells -/
def mayR (n : Int) (x : Ins) : Bool :=
  if x.op = 0 ∨ x.op = 10 then cellP n x.d
  else if x.op = 1 then cellP n x.d && cellP n x.a && cellP n x.b && cellP n x.c
  else if x.op = 2 ∨ x.op = 3 ∨ x.op = 4 ∨ x.op = 5 ∨ x.op = 8 ∨ x.op = 9 then cellP n x.d && cellP n x.a && cellP n x.b
  else if x.op = 6 ∨ x.op = 7 then cellP n x.d && cellP n x.a && decide (x.n ≤ 63)
  else if x.op = 11 then cellP n x.a
  else false
theorem mayR_eq (n : Int) (x : Ins) : mayR n x = mayP n x := by
  obtain ⟨op, d, a, b, c, k⟩ := x
  unfold mayR mayP thereP cellP isS isD isA isB isC
  dsimp only
  by_cases h : op = 0 ∨ op = 10 ∨ op = 1 ∨ op = 2 ∨ op = 3 ∨ op = 4 ∨ op = 5 ∨ op = 8 ∨ op = 9 ∨ op = 6 ∨ op = 7 ∨ op = 11
  · rcases h with rfl | rfl | rfl | rfl | rfl | rfl | rfl | rfl | rfl | rfl | rfl | rfl <;> simp
  · have e : decide (0 ≤ op ∧ op ≤ 11) = false := by rw [decide_eq_false_iff_not]; omega
    rw [e, if_neg (by omega), if_neg (by omega), if_neg (by omega), if_neg (by omega), if_neg (by omega)]
    rfl
end Go.Proofs.Ytpikoijohfmnaaa
