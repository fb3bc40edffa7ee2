/- math/bits.OnesCount64 and set.Count. -/
import Derived.Test.YtklpjlcphikfaaaPopPlain
import Derived.Test.YtklpjlcphikfaaaSet
import Derived.Laws.Bits128
set_option linter.unusedVariables false
set_option linter.unusedSimpArgs false
namespace Go.Proofs.Ytklpjlcphikfaaa
open Go.RowKit Bt
def p1 (x : Int) : Int := IntKind.u64.wrap (bits BinOp.and IntKind.u64 (x / 2) 6148914691236517205 + bits BinOp.and IntKind.u64 x 6148914691236517205)
def p2 (x : Int) : Int := IntKind.u64.wrap (bits BinOp.and IntKind.u64 (x / 4) 3689348814741910323 + bits BinOp.and IntKind.u64 x 3689348814741910323)
def p3 (x : Int) : Int := bits BinOp.and IntKind.u64 (IntKind.u64.wrap (x / 16 + x)) 1085102592571150095
def p4 (x : Int) : Int := IntKind.u64.wrap (x + x / 256)
def p5 (x : Int) : Int := IntKind.u64.wrap (x + x / 65536)
def p6 (x : Int) : Int := IntKind.u64.wrap (x + x / 4294967296)
set_option maxHeartbeats 800000 in
theorem pop_core (n : Nat) (hn : n < 18446744073709551616) (w : World) :
    Calls Try.prog 61 #[.int .u64 n] w fun e w' => e = .returned (.int .i64 (bits BinOp.and IntKind.i64 (wrap64 (p6 (p5 (p4 (p3 (p2 (p1 n))))))) 127)) ∧ w' = w := by
  go_enter Try.func61, Try.ntmps61
  go_wp2
  go_returns
  exact ⟨rfl, rfl⟩
theorem u64_wrap_nat (n : Nat) (h : n < 18446744073709551616) : IntKind.u64.wrap (n : Int) = n := by
  simp [IntKind.wrap, IntKind.signed, IntKind.bits]; omega
theorem land_lt (a b : Nat) (h : b < 18446744073709551616) : a &&& b < 18446744073709551616 := Nat.lt_of_le_of_lt Nat.and_le_right h
theorem add_lt (a b m : Nat) (h : m < 9223372036854775808) : (a &&& m) + (b &&& m) < 18446744073709551616 := by
  have := Nat.and_le_right (n := a) (m := m); have := Nat.and_le_right (n := b) (m := m); omega
theorem p1_nat (n : Nat) (hn : n < 18446744073709551616) : p1 n = (S1 8 n : Nat) ∧ S1 8 n < 18446744073709551616 := by
  have h := add_lt (n / 2) n 6148914691236517205 (by decide)
  have e : S1 8 n = (n / 2 &&& 6148914691236517205) + (n &&& 6148914691236517205) := rfl
  rw [e]
  refine ⟨?_, h⟩
  unfold p1
  rw [show ((n : Int) / 2) = ((n / 2 : Nat) : Int) from by omega, show (6148914691236517205 : Int) = ((6148914691236517205 : Nat) : Int) from rfl, u64_and_nat _ _ (by omega) (by decide), u64_and_nat _ _ hn (by decide), ← Int.natCast_add, u64_wrap_nat _ h]
theorem p2_nat (n : Nat) (hn : n < 18446744073709551616) : p2 n = (S2 8 n : Nat) ∧ S2 8 n < 18446744073709551616 := by
  have h := add_lt (n / 4) n 3689348814741910323 (by decide)
  have e : S2 8 n = (n / 4 &&& 3689348814741910323) + (n &&& 3689348814741910323) := rfl
  rw [e]
  refine ⟨?_, h⟩
  unfold p2
  rw [show ((n : Int) / 4) = ((n / 4 : Nat) : Int) from by omega, show (3689348814741910323 : Int) = ((3689348814741910323 : Nat) : Int) from rfl, u64_and_nat _ _ (by omega) (by decide), u64_and_nat _ _ hn (by decide), ← Int.natCast_add, u64_wrap_nat _ h]
theorem p3_nat (n : Nat) (hs : n / 16 + n < 18446744073709551616) : p3 n = (S3 8 n : Nat) ∧ S3 8 n < 18446744073709551616 := by
  have e : S3 8 n = (n / 16 + n) &&& 1085102592571150095 := rfl
  rw [e]
  refine ⟨?_, land_lt _ _ (by decide)⟩
  unfold p3
  rw [show ((n : Int) / 16 + n) = ((n / 16 + n : Nat) : Int) from by omega, u64_wrap_nat _ hs, show (1085102592571150095 : Int) = ((1085102592571150095 : Nat) : Int) from rfl, u64_and_nat _ _ hs (by decide)]
theorem p4_nat (n : Nat) (hs : n + n / 256 < 18446744073709551616) : p4 n = ((n + n / 256 : Nat) : Int) := by
  unfold p4; rw [show ((n : Int) + n / 256) = ((n + n / 256 : Nat) : Int) from by omega, u64_wrap_nat _ hs]
theorem p5_nat (n : Nat) (hs : n + n / 65536 < 18446744073709551616) : p5 n = ((n + n / 65536 : Nat) : Int) := by
  unfold p5; rw [show ((n : Int) + n / 65536) = ((n + n / 65536 : Nat) : Int) from by omega, u64_wrap_nat _ hs]
theorem p6_nat (n : Nat) (hs : n + n / 4294967296 < 18446744073709551616) : p6 n = ((n + n / 4294967296 : Nat) : Int) := by
  unfold p6; rw [show ((n : Int) + n / 4294967296) = ((n + n / 4294967296 : Nat) : Int) from by omega, u64_wrap_nat _ hs]
/-- S2's values are small enough for the third sum -/
theorem S2_small (n : Nat) : S2 8 n ≤ 7378697629483820646 := by
  have e : S2 8 n = (n / 4 &&& 3689348814741910323) + (n &&& 3689348814741910323) := rfl
  have := Nat.and_le_right (n := n / 4) (m := 3689348814741910323); have := Nat.and_le_right (n := n) (m := 3689348814741910323); omega
theorem wrap_mod (z : Nat) : wrap64 (z : Int) % 128 = ((z % 128 : Nat) : Int) := by unfold wrap64; omega
theorem pop_val (n c : Nat) (hn : n < 18446744073709551616) (hc : ∃ y, P 8 n = y ∧ y + y / 256 < 18446744073709551616 ∧ (y + y / 256) + (y + y / 256) / 65536 < 18446744073709551616 ∧
    (y + y / 256) + (y + y / 256) / 65536 + ((y + y / 256) + (y + y / 256) / 65536) / 4294967296 < 18446744073709551616 ∧
    ((y + y / 256) + (y + y / 256) / 65536 + ((y + y / 256) + (y + y / 256) / 65536) / 4294967296) % 128 = c) :
    bits BinOp.and IntKind.i64 (wrap64 (p6 (p5 (p4 (p3 (p2 (p1 n))))))) 127 = c := by
  obtain ⟨y, hy, k4, k5, k6, hc⟩ := hc
  obtain ⟨q1, l1⟩ := p1_nat n hn
  obtain ⟨q2, l2⟩ := p2_nat (S1 8 n) l1
  have hs := S2_small (S1 8 n)
  obtain ⟨q3, l3⟩ := p3_nat (S2 8 (S1 8 n)) (by omega)
  have hy' : S3 8 (S2 8 (S1 8 n)) = y := hy
  rw [q1, q2, q3, hy', p4_nat y k4, p5_nat _ k5, p6_nat _ k6, i64_and127, wrap_mod, hc]
theorem pop_any (n : Nat) (hn : n < 18446744073709551616) (w : World) :
    Calls Try.prog 61 #[.int .u64 n] w fun e w' => e = .returned (.int .i64 (cnt n.testBit 64)) ∧ w' = w := by
  have h := pop_val n _ hn (pop64 n hn)
  generalize cnt n.testBit 64 = c at *
  refine (pop_core n hn w).mono fun e w' ⟨he, hw⟩ => ⟨?_, hw⟩
  rw [he, h]
end Go.Proofs.Ytklpjlcphikfaaa
