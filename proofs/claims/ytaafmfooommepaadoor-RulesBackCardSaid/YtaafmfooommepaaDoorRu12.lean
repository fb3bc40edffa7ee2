/- The library's Builder: copyCheck, WriteString, String. -/
import Derived.Test.YtaafmfooommepaaDoorRu11
import Derived.Lib.Builder
import Derived.Lib.AppendStr
import Derived.Lib.UnsafeStr
set_option linter.unusedVariables false
set_option linter.unusedSimpArgs false
namespace Go.Proofs.YtaafmfooommepaaDoor
open Go.RowKit
theorem info_bld : ∃ j, Tryd.prog.info? 55 = some j ∧ j.size = 2 := by
  have h : (Tryd.prog.info? 55).map (·.size) = some 2 := by kernel_rfl
  exact Option.map_eq_some_iff.1 h
set_option maxRecDepth 100000 in
theorem cc_used (b : Nat) (w : World) (h0 : w.cell? ⟨b, 0, none⟩ = some (.pointer (some ⟨b, 0, none⟩))) : Calls Tryd.prog 26 #[.pointer (some ⟨b, 0, none⟩)] w fun e w' => e = .returned (.tuple #[]) ∧ w' = w := by
  obtain ⟨j, hj, -⟩ := info_bld
  have h1 := Lib.run_neq_ptr_same (P := Tryd.prog) w ⟨b, 0, none⟩ Tryd.underlying52 hj
  have h2 : (binOp .eql 52 (.pointer (some ⟨b, 0, none⟩)) (.pointer none)).run Tryd.prog w = .ok (.bool false) w := by rfl
  go_enter Tryd.func26, Tryd.ntmps26
  go_wp2
  go_end0
  exact ⟨rfl, rfl⟩
theorem run_noesc (x : Value) (w : World) : (callFunc 32 #[x]).run Tryd.prog w = .ok (.value x) w := by
  rw [run_callFunc_extern (P := Tryd.prog) (f := 32) (fn := Tryd.f32) (e := Extern.AbiNoEscape.same) (by kernel_rfl) (by kernel_rfl) (by kernel_rfl) (by kernel_rfl) (by kernel_rfl), Lib.run_noEscape]
  rfl
set_option maxRecDepth 100000 in
theorem cc_fresh (b : Nat) (w : World) (h0 : w.cell? ⟨b, 0, none⟩ = some (.pointer none)) (hsh : w.shape? b = some (55, 2)) (hfz : w.frozen? ⟨b, 0, none⟩ = false) : Calls Tryd.prog 26 #[.pointer (some ⟨b, 0, none⟩)] w fun e w' => e = .returned (.tuple #[]) ∧ w' = w.setCell ⟨b, 0, none⟩ (.pointer (some ⟨b, 0, none⟩)) := by
  obtain ⟨j, hj, hjs⟩ := info_bld
  have h1 := Lib.run_to_unsafe (P := Tryd.prog) w ⟨b, 0, none⟩ Tryd.underlying52 Tryd.underlying64 hj (by rw [hjs]; decide) hsh (Nat.zero_lt_succ 1)
  have h2 := run_noesc (.pointer (some ⟨b, 0, none⟩)) w
  have h3 := Lib.run_from_unsafe (P := Tryd.prog) w ⟨b, 0, none⟩ Tryd.underlying64 Tryd.underlying52 hj hsh (by kernel_rfl)
  have h4 : (binOp .eql 52 (.pointer none) (.pointer none)).run Tryd.prog w = .ok (.bool true) w := by rfl
  clear hsh
  go_enter Tryd.func26, Tryd.ntmps26
  go_wp2
  go_end0
  exact ⟨rfl, rfl⟩
abbrev BldAt := Lib.BuilderAt 55 5
abbrev IsBld := Lib.IsBuilder 55 5
theorem cc_any (B b : Nat) (bs : List Value) (w : World) (h : IsBld B b bs w) : Calls Tryd.prog 26 #[.pointer (some ⟨b, 0, none⟩)] w fun e w' => e = .returned (.tuple #[]) ∧ BldAt B b (.pointer (some ⟨b, 0, none⟩)) bs w' ∧ Below B w w' := by
  rcases h with h | h
  · refine (cc_fresh b w h.cell0 h.shape h.frozen0).mono ?_
    rintro e w' ⟨rfl, rfl⟩
    exact ⟨rfl, h.used _, (Below.refl B w).setCell (p := ⟨b, 0, none⟩) h.1 _⟩
  · refine (cc_used b w h.cell0).mono ?_
    rintro e w' ⟨rfl, rfl⟩
    exact ⟨rfl, h, Below.refl B _⟩
theorem infoU8 : (Tryd.prog.info? 5).map (fun i => (i.zero, i.size, i.bytes)) = some (some (.int .u8 0), 1, 1) := by kernel_rfl
set_option maxRecDepth 100000 in
set_option maxHeartbeats 1600000 in
theorem writeS (B b : Nat) (bs : List Value) (s : ByteArray) (w : World) (h : IsBld B b bs w) (hlen : bs.length + s.size ≤ 1000000) (hBw : B ≤ w.heap.size) :
    Calls Tryd.prog 19 #[.pointer (some ⟨b, 0, none⟩), .string s] w fun e w' => e = .returned (.tuple #[.int .i64 s.size, .nilIface]) ∧ BldAt B b (.pointer (some ⟨b, 0, none⟩)) (bs ++ Lib.strCells s) w' ∧ Below B w w' := by
  obtain ⟨i0, hi, hz0, hz1, hz2⟩ := info_parts infoU8
  have HC := Lib.hid (cc_any B b bs w h)
  have HLEN := Lib.hid hlen
  clear h hlen
  go_enter Tryd.func19, Tryd.ntmps19
  go_wp2_with fail
  refine (HC.out).mono ?_
  rintro e w1 ⟨rfl, h1, hb1⟩
  obtain ⟨hB, v, hbk, hown, hne⟩ := h1
  have c0 : w1.cell? ⟨b, 0, none⟩ = some (.pointer (some ⟨b, 0, none⟩)) := by rw [Lib.cell_of_heap hbk]; rfl
  have c1 : w1.cell? ⟨b, 1, none⟩ = some v := by rw [Lib.cell_of_heap hbk]; rfl
  have HO := Lib.hid hown; have HNE := Lib.hid hne; have HBK := Lib.hid hbk; have HB1 := Lib.hid hb1; have HI := Lib.hid (And.intro hi (And.intro hz0 (And.intro hz1 hz2)))
  have HLT : Hid (b < w1.heap.size) := Lib.hid (AtG.lt (T := 55) hbk)
  clear hown hne hbk hb1 HC hi hz0 hz1 hz2
  go_wp2_with ((at_builtin; refine Lib.wpList_append_own_string _ rfl (.tmp 12) (.tmp 13) 53 9 rfl B 5 i0 Tryd.underlying53 Tryd.underlying9 HI.out.1 HI.out.2.1 HI.out.2.2.1 HI.out.2.2.2 _ _ _ rfl HO.out s rfl (by have := HLEN.out; unfold maxLen; omega) (by have := HLEN.out; omega) (by have := HB1.out.size; omega) ?_; intro v' w2 hown' hgrow _; obtain ⟨ao, n', cap, rfl⟩ := own_any hown'; have hb2 : w2.heap[b]? = some (.cells #[.pointer (some ⟨b, 0, none⟩), v] 55 (0, 0)) := (hgrow.block b HLT.out (fun e => HNE.out e.symm)).trans HBK.out; have d1 : w2.cell? ⟨b, 1, none⟩ = some v := (by rw [Lib.cell_of_heap hb2]; rfl); have f1 : w2.frozen? ⟨b, 1, none⟩ = false := Lib.frozen_of_heap hb2 1; have HB2 := Lib.hid hb2; have HO2 := Lib.hid hown'; have HG2 := Lib.hid hgrow; clear hb2 hown' hgrow))
  go_returns
  refine ⟨rfl, ?_, ?_⟩
  · exact Lib.BuilderAt.put (T := 55) (e := 5) hB HB2.out (bs' := bs ++ Lib.strCells s) (by simpa [Lib.strCells_length] using HO2.out) (by decide)
  · exact (HB1.out.grown HG2.out (by have := HB1.out.size; omega) (fun k hk => (own_base HO.out k hk))).setCell (p := ⟨b, 1, none⟩) hB _
end Go.Proofs.YtaafmfooommepaaDoor
