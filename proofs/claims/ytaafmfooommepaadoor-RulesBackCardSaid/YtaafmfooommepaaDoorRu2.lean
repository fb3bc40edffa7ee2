/- Where a byte stands first, and last (the library's). -/
import Derived.Test.YtaafmfooommepaaDoorRu1
import Derived.Lib.Bytealg
set_option linter.unusedVariables false
set_option linter.unusedSimpArgs false
namespace Go.Proofs.YtaafmfooommepaaDoor
open Go.RowKit Go.Lib
theorem run_ixs (s : ByteArray) (c : Int) (w : World) : (callFunc 37 #[.string s, .int .u8 c]).run Tryd.prog w = .ok (.value (.int .i64 (indexByte s.data.toList c.toNat.toUInt8))) w := by
  rw [run_callFunc_extern (P := Tryd.prog) (f := 37) (fn := Tryd.f37) (e := Extern.BytealgIndexByte.indexByte) (by kernel_rfl) (by kernel_rfl) (by kernel_rfl) (by kernel_rfl) (by kernel_rfl), run_indexByteString]
  rfl
theorem ixL (s : ByteArray) (c : Int) (w : World) : Calls Tryd.prog 30 #[.string s, .int .u8 c] w fun e w' => e = .returned (.int .i64 (indexByte s.data.toList c.toNat.toUInt8)) ∧ w' = w := by
  have hd := run_ixs s c w
  generalize indexByte s.data.toList c.toNat.toUInt8 = r at *
  go_enter Tryd.func30, Tryd.ntmps30
  go_wp2
  go_returns
  exact ⟨rfl, rfl⟩
theorem ixS (s : ByteArray) (c : Int) (w : World) : Calls Tryd.prog 22 #[.string s, .int .u8 c] w fun e w' => e = .returned (.int .i64 (indexByte s.data.toList c.toNat.toUInt8)) ∧ w' = w := by
  have hd := Lib.hid (ixL s c w)
  generalize indexByte s.data.toList c.toNat.toUInt8 = r at *
  go_enter Tryd.func22, Tryd.ntmps22
  go_wp2_with fail
  refine (hd.out).mono ?_
  rintro e9 w9 ⟨rfl, hw9⟩; subst hw9
  go_wp2_with fail
  go_returns
  exact ⟨rfl, rfl⟩
def IxPost (Q : Int → Prop) (w : World) (e : Ending) (w' : World) : Prop := ∃ r : Int, e = .returned (.int .i64 r) ∧ w = w' ∧ Q r
/-- the first place -/
theorem firstS (s : ByteArray) (c : Nat) (hc : c < 256) (w : World) : Calls Tryd.prog 22 #[.string s, .int .u8 c] w (IxPost (Fst s c) w) := by
  refine (ixS s c w).mono ?_
  rintro e w' ⟨rfl, rfl⟩
  exact ⟨_, rfl, rfl, fst_ix s c hc⟩
set_option maxRecDepth 100000 in
set_option maxHeartbeats 1600000 in
theorem lastL (s : ByteArray) (c : Int) (hc : 0 ≤ c) (w : World) (hs : s.size ≤ 10000) : Calls Tryd.prog 31 #[.string s, .int .u8 c] w (IxPost (Lst s c) w) := by
  have hsI : (s.size : Int) ≤ 10000 := by omega
  have HC := Lib.hid hc
  go_enter Tryd.func31, Tryd.ntmps31
  go_wp2
  clear hc hs
  go_loopw [5] (fun i wr => ∃ j : Nat, j ≤ s.size ∧ i = .int .i64 ((j : Int) - 1) ∧ w = wr ∧ Hid (∀ p, j ≤ p → ch s p ≠ c)) (fun i _ => (intOf i + 1).toNat)
  case atStart => exact ⟨s.size, Nat.le_refl _, rfl, rfl, Lib.hid (fun p h => by rw [ch_end h]; have := HC.out; omega)⟩
  case round =>
    obtain ⟨j, hj, rfl, rfl, hr⟩ := hrel
    rcases Nat.eq_zero_or_pos j with h0 | h0
    · subst h0
      have HR : Hid (Lst s c (-1)) := Lib.hid (.inl ⟨rfl, fun p => hr.out p (Nat.zero_le _)⟩)
      clear hr hj
      go_wp2
      go_returns
      exact ⟨_, rfl, rfl, HR.out⟩
    · obtain ⟨k, rfl⟩ : ∃ k, j = k + 1 := ⟨j - 1, by omega⟩
      have e1 : ((k + 1 : Nat) : Int) - 1 = (k : Int) := by omega
      rw [e1]
      have hk : k < s.size := by omega
      have hkI : (k : Int) < s.size := by omega
      have hk0 : 0 ≤ (k : Int) := by omega
      have HK := Lib.hid (ch_in hk)
      have HB := Lib.hid hj
      clear h0 hj e1
      go_upto_region 4 with (fail)
      by_cases he : (s[k].toNat : Int) = c
      · have HR : Hid (Lst s c k) := Lib.hid (.inr ⟨k, rfl, HK.out.trans he, fun q hq => hr.out q hq⟩)
        have eb : ((s[k].toNat : Int) == c) = true := beq_iff_eq.2 he
        clear hr HK he
        go_wp2
        go_returns
        exact ⟨_, rfl, rfl, HR.out⟩
      · have HR : Hid (∀ p, k ≤ p → ch s p ≠ c) := Lib.hid (fun p hp => by
          rcases Nat.eq_or_lt_of_le hp with rfl | h
          · rw [HK.out]; exact he
          · exact hr.out p h)
        have eb : ((s[k].toNat : Int) == c) = false := beq_eq_false_iff_ne.2 he
        clear hr HK he
        go_wp2
        exact ⟨⟨k, by omega, by go_num, by first | trivial | rfl, HR⟩, by simp [intOf]; try omega⟩
theorem lastS (s : ByteArray) (c : Int) (hc : 0 ≤ c) (w : World) (hs : s.size ≤ 10000) : Calls Tryd.prog 23 #[.string s, .int .u8 c] w (IxPost (Lst s c) w) := by
  have hd := Lib.hid (lastL s c hc w hs)
  clear hc hs
  go_enter Tryd.func23, Tryd.ntmps23
  go_wp2_with fail
  refine (hd.out).mono ?_
  rintro e9 w9 ⟨r, rfl, hw9, hr⟩; subst hw9
  have HR := Lib.hid hr
  clear hr hd
  go_wp2_with fail
  go_returns
  exact ⟨_, rfl, rfl, HR.out⟩
end Go.Proofs.YtaafmfooommepaaDoor
