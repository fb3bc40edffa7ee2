/- Two arrays of whole numbers, compared. -/
import Derived.Laws.StructEq
import Derived.ChangeKeysEq
import Derived.WalkKit
set_option linter.unusedVariables false
set_option linter.unusedSimpArgs false
namespace Go.Proofs.Ytklpjlcphikfaaa
open Go.RowKit
section
variable {P : Program} (w : World)
theorem plainKey_int {e : TypeId} {k : IntKind} (he : P.underlying e = some (.int k)) : P.plainKey e = true := by unfold Program.plainKey; rw [he]
theorem run_eqInts (d : Nat) (e : TypeId) (k : IntKind) (he : P.underlying e = some (.int k)) (xs ys : Array Value) (f g : Nat → Int) :
    ∀ (l : List Nat), (∀ i ∈ l, xs[i]? = some (.int k (f i)) ∧ ys[i]? = some (.int k (g i))) → (Op.eqItems (d + 1) e 1 xs ys l).run P w = .ok (decide (∀ i ∈ l, f i = g i)) w
  | [], _ => by simp [Op.eqItems]
  | i :: l, h => by
    obtain ⟨h1, h2⟩ := h i (by simp)
    have ih := run_eqInts d e k he xs ys f g l fun j hj => h j (by simp [hj])
    have p1 := run_part_plain (P := P) w (plainKey_int he) h1
    have p2 := run_part_plain (P := P) w (plainKey_int he) h2
    simp only [Op.eqItems, Sem.run_bind, Nat.mul_one, p1, p2, Result.andThen_ok, run_equalIn_int w d e k k (f i) (g i) he, Sem.run_ite]
    by_cases hfg : f i = g i
    · simp [hfg, ih]
    · simp [hfg]
theorem run_eql_ints {t e : TypeId} {n : Nat} {i : TypeInfo} (k : IntKind) (ht : P.underlying t = some (.array n e)) (hi : P.info? e = some i) (hc : P.cellsOf e = 1) (he : P.underlying e = some (.int k)) (xs ys : Array Value) (f g : Nat → Int)
    (hx : ∀ i, i < n → xs[i]? = some (.int k (f i)) ∧ ys[i]? = some (.int k (g i))) : (binOp .eql t (.agg xs) (.agg ys)).run P w = .ok (.bool (decide (∀ i, i < n → f i = g i))) w := by
  rw [run_eql_struct, run_equalIn_array w 9999 xs ys ht hi, hc, run_eqInts w 9998 e k he xs ys f g (List.range n) (fun i hi => hx i (List.mem_range.1 hi))]
  simp
theorem run_neq_ints {t e : TypeId} {n : Nat} {i : TypeInfo} (k : IntKind) (ht : P.underlying t = some (.array n e)) (hi : P.info? e = some i) (hc : P.cellsOf e = 1) (he : P.underlying e = some (.int k)) (xs ys : Array Value) (f g : Nat → Int)
    (hx : ∀ i, i < n → xs[i]? = some (.int k (f i)) ∧ ys[i]? = some (.int k (g i))) : (binOp .neq t (.agg xs) (.agg ys)).run P w = .ok (.bool (!decide (∀ i, i < n → f i = g i))) w := by
  rw [run_neq_struct, run_equalIn_array w 9999 xs ys ht hi, hc, run_eqInts w 9998 e k he xs ys f g (List.range n) (fun i hi => hx i (List.mem_range.1 hi))]
  simp
end
end Go.Proofs.Ytklpjlcphikfaaa
