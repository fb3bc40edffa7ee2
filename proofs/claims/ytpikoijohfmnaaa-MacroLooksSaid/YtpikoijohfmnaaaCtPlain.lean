/- Instructions, and what they come to, in plain words. -/
import Derived.WalkKit
set_option linter.unusedVariables false
set_option linter.unusedSimpArgs false
namespace Go.Proofs.Ytpikoijohfmnaaa
/-- an instruction -/
structure Ins where
  op : Int
  d : Int
  a : Int
  b : Int
  c : Int
  n : Int
namespace Ins
/-- its numbers are of their kinds -/
def ok (x : Ins) : Prop := (-9223372036854775808 ≤ x.op ∧ x.op ≤ 9223372036854775807) ∧ (-9223372036854775808 ≤ x.d ∧ x.d ≤ 9223372036854775807) ∧ (-9223372036854775808 ≤ x.a ∧ x.a ≤ 9223372036854775807) ∧
  (-9223372036854775808 ≤ x.b ∧ x.b ≤ 9223372036854775807) ∧ (-9223372036854775808 ≤ x.c ∧ x.c ≤ 9223372036854775807) ∧ (0 ≤ x.n ∧ x.n ≤ 18446744073709551615)
def cells (x : Ins) : Array Value := #[.int .i64 x.op, .int .i64 x.d, .int .i64 x.a, .int .i64 x.b, .int .i64 x.c, .int .u64 x.n]
def val (x : Ins) : Value := .agg x.cells
/-- as it stands in the trace -/
def seen (x : Ins) : Ins := if x.op = 10 then { x with n := 0 } else x
end Ins
/-- which of D, A, B, C an Op names -/
def isD (op : Int) : Bool := decide (0 ≤ op ∧ op ≤ 10)
def isA (op : Int) : Bool := !(op == 0 || op == 10)
def isB (op : Int) : Bool := decide (1 ≤ op ∧ op ≤ 5 ∨ op = 8 ∨ op = 9)
def isC (op : Int) : Bool := op == 1
/-- is a cell there, if it is named? -/
def thereP (k : Int) (is : Bool) (c : Int) : Bool := !is || (decide (0 ≤ c) && decide (c < k))
/-- is it a shift? -/
def isS (op : Int) : Bool := op == 6 || op == 7
/-- may an instruction be? -/
def mayP (k : Int) (x : Ins) : Bool :=
  decide (0 ≤ x.op ∧ x.op ≤ 11) && (thereP k (isD x.op) x.d && thereP k (isA x.op) x.a && thereP k (isB x.op) x.b && thereP k (isC x.op) x.c && (!isS x.op || decide (x.n ≤ 63)))
/-- what an instruction makes of its cells -/
def valP (op a b c n : Int) : Int :=
  if op = 1 then (if a = 0 then c else b)
  else if op = 2 then (if a = b then 1 else 0)
  else if op = 3 then (if a < b then 1 else 0)
  else if op = 4 then (a + b) % 18446744073709551616
  else if op = 5 then (if a < b then a else a - b)
  else if op = 6 then a * 2 ^ n.toNat % 18446744073709551616
  else if op = 7 then a / 2 ^ n.toNat
  else if op = 8 then bits .and .u64 a b
  else if op = 9 then bits .or .u64 a b
  else n
end Go.Proofs.Ytpikoijohfmnaaa
