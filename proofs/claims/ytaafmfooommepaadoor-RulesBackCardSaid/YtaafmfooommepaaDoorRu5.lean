/- A text's lines (the reference's). -/
import Derived.Test.YtaafmfooommepaaDoorRu3
import Derived.Test.YtaafmfooommepaaDoorAppX
import Derived.Test.YtaafmfooommepaaDoorOnly
set_option linter.unusedVariables false
set_option linter.unusedSimpArgs false
namespace Go.Proofs.YtaafmfooommepaaDoor
open Go.RowKit
theorem infoStr : (Tryd.prog.info? 9).map (fun i => (i.zero, i.size, i.bytes)) = some (some (.string ByteArray.empty), 1, 16) := by kernel_rfl
/-- the lines, read in memory -/
def LinesAt (B : Nat) (w : World) (v : Value) (L : List ByteArray) : Prop := ∃ g c, B ≤ g ∧ v = .slice (some ⟨g, 0, none⟩) L.length c ∧ L.length ≤ c ∧ ∀ j l, L[j]? = some l → w.cell? ⟨g, j, none⟩ = some (.string l)
def LinesPost (s : ByteArray) (w : World) (e : Ending) (w' : World) : Prop := Below w.heap.size w w' ∧ ∃ v L, e = .returned v ∧ Lines s 0 L ∧ LinesAt w.heap.size w' v L
theorem LinesAt.below {B : Nat} {w w' : World} {v : Value} {L : List ByteArray} (h : LinesAt B w v L) (hb : Below w.heap.size w w') : LinesAt B w' v L := by
  obtain ⟨g, c, h0, h1, h2, h3⟩ := h
  exact ⟨g, c, h0, h1, h2, fun j l hj => (hb.cell (World.block_lt_of_cell? _ _ (h3 j l hj))).trans (h3 j l hj)⟩
theorem LinesAt.only {B : Nat} {S : Nat → Prop} {w w' : World} {v : Value} {L : List ByteArray} (h : LinesAt B w v L) (ho : Only S w w') (hS : ∀ k, S k → k < B) : LinesAt B w' v L := by
  obtain ⟨g, c, h0, h1, h2, h3⟩ := h
  exact ⟨g, c, h0, h1, h2, fun j l hj => (World.cell?_of_block (w := w) (a := ⟨g, j, none⟩) (ho.block g (World.block_lt_of_cell? _ _ (h3 j l hj)) (fun hk => by have := hS g hk; omega))).trans (h3 j l hj)⟩
theorem linesAt_own {w : World} {base n : Nat} {v : Value} {L : List ByteArray} (h : w.ownsRow base 9 1 v n (L.map Value.string)) (hL : L ≠ []) : LinesAt base w v L := by
  rcases own_cells h with ⟨-, h1⟩ | ⟨g, cap, h1, h2, h3, h4, h5, h6⟩
  · simp at h1; exact absurd h1 hL
  · exact ⟨g, cap, h4, by rw [h1, List.length_map], by simpa using h2, fun j l hj => h6 j _ (by rw [List.getElem?_map, hj]; rfl)⟩
theorem own_any {w : World} {base n : Nat} {e size : Nat} {v : Value} {xs : List Value} (h : w.ownsRow base e size v n xs) : ∃ a l c, v = .slice a l c := by
  rcases h.2 with ⟨rfl, _⟩ | ⟨g, cap, cur, rfl, _⟩
  · exact ⟨_, _, _, rfl⟩
  · exact ⟨_, _, _, rfl⟩
theorem strs_snoc (L : List ByteArray) (x : ByteArray) : (L ++ [x]).map Value.string = L.map Value.string ++ [Value.string x] := by simp
set_option maxRecDepth 100000 in
set_option maxHeartbeats 1600000 in
theorem linesR (s : ByteArray) (w : World) (hs : s.size ≤ 10000) : Calls Tryd.prog 16 #[.string s] w (LinesPost s w) := by
  have HSZ := Lib.hid hs
  have hsI : (s.size : Int) ≤ 10000 := by omega
  clear hs
  go_enter Tryd.func16, Tryd.ntmps16
  go_wp2
  go_loopw [3, 4, 5] (fun o f i wr => ∃ (j p : Nat) (D : List ByteArray) (va : Option Addr) (vn vc : Nat), p ≤ j ∧ j ≤ s.size ∧ o = .slice va vn vc ∧ f = .int .i64 p ∧ i = .int .i64 j ∧ Hid (wr.ownsRow w.heap.size 9 1 (.slice va vn vc) D.length (D.map Value.string)) ∧ Hid (Below w.heap.size w wr) ∧ Hid (D.length ≤ p ∧ (∀ q, p ≤ q → q < j → ch s q ≠ 10) ∧ ∀ L, Lines s p L → Lines s 0 (D ++ L))) (fun o f i _ => s.size - (intOf i).toNat)
  case atStart => exact ⟨0, 0, [], none, 0, 0, Nat.zero_le _, Nat.zero_le _, rfl, rfl, rfl, Lib.hid (own_nil _ _ _ _), Lib.hid (Below.refl _ _), Lib.hid ⟨Nat.le_refl _, fun q h1 h2 => by omega, fun L h => h⟩⟩
  case round =>
    obtain ⟨j, p, D, va, vn, vc, hpj, hj, rfl, rfl, rfl, HO, HB, HD⟩ := hrel
    by_cases hlt : j < s.size
    · have hltI : (j : Int) < s.size := by omega
      have HC := Lib.hid (ch_in hlt)
      have HLT := Lib.hid hlt
      have HPJ := Lib.hid hpj
      clear hj
      go_upto_region 6 with (fail)
      by_cases h10 : (s[j].toNat : Int) = 10
      · have eb : ((s[j].toNat : Int) == 10) = true := beq_iff_eq.2 h10
        have HD2 : Hid ((D ++ [s.extract p j]).length ≤ j + 1 ∧ (∀ q, j + 1 ≤ q → q < j + 1 → ch s q ≠ 10) ∧ ∀ L, Lines s (j + 1) L → Lines s 0 (D ++ [s.extract p j] ++ L)) := Lib.hid (by
          obtain ⟨h1, h2, h3⟩ := HD.out
          refine ⟨by simp; omega, fun q a b => by omega, fun L hL => ?_⟩
          rw [List.append_assoc]
          exact h3 _ (.more hpj (HC.out.trans h10) (fun q a b => h2 q a b) hL))
        have HDL : Hid (D.length ≤ 10000) := Lib.hid (by have := HD.out.1; have := HSZ.out; omega)
        have hsl := sl_both s p j hpj (by omega)
        generalize s.extract p j = x at *
        clear HD HC h10 hpj
        go_wp2_with (at_builtin; go_must (refine wpList_appRow rfl (.tmp 16) (.tmp 21) 45 rfl w.heap.size 9 _ 1 16 Tryd.underlying45 infoStr rfl (by decide) _ _ D.length 1 _ _ (own_below HO.out ((Below.refl _ _).alloc (Nat.le_refl _) _)) (src_at (AtG.new _ 9 _) 1) rfl rfl rfl (fun y hy => by simp at hy; subst hy; rfl) (by have := HDL.out; omega) (by decide) (by have := HB.out.size; simp; omega) ?_); intro v5 w5 ho5 hg5; obtain ⟨va5, vn5, vc5, rfl⟩ := own_any ho5; have HV5 := Lib.hid ho5; have HB5 := Lib.hid ((HB.out.alloc HB.out.size _).grown hg5 (by have := HB.out.size; simp; omega) (fun k hk => own_base HO.out k hk)); clear ho5 hg5)
        exact ⟨⟨j + 1, j + 1, D ++ [x], va5, vn5, vc5, Nat.le_refl _, HLT.out, rfl, by go_num, by go_num, by rw [strs_snoc, List.length_append]; exact HV5, HB5, HD2⟩, by have := HLT.out; simp [intOf]; try omega⟩
      · have eb : ((s[j].toNat : Int) == 10) = false := beq_eq_false_iff_ne.2 h10
        have HD2 : Hid (D.length ≤ p ∧ (∀ q, p ≤ q → q < j + 1 → ch s q ≠ 10) ∧ ∀ L, Lines s p L → Lines s 0 (D ++ L)) := Lib.hid ⟨HD.out.1, fun q a b => by
          rcases Nat.lt_succ_iff_lt_or_eq.1 b with c | rfl
          · exact HD.out.2.1 q a c
          · rw [HC.out]; exact h10, HD.out.2.2⟩
        clear HD HC h10
        go_wp2
        exact ⟨⟨j + 1, p, D, va, vn, vc, by have := HPJ.out; omega, HLT.out, rfl, rfl, by go_num, HO, HB, HD2⟩, by have := HLT.out; simp [intOf]; try omega⟩
    · obtain rfl : j = s.size := by omega
      have HL : Hid (Lines s 0 (D ++ [s.extract p s.size])) := Lib.hid (HD.out.2.2 _ (.last hpj (fun q a => by
        rcases Nat.lt_or_ge q s.size with h | h
        · exact HD.out.2.1 q a h
        · rw [ch_end h]; decide)))
      have HDL : Hid (D.length ≤ 10000) := Lib.hid (by have := HD.out.1; have := HSZ.out; omega)
      have hsl := sl_from s p hpj
      generalize s.extract p s.size = x at *
      clear HD hpj hlt hj
      go_wp2_with (at_builtin; go_must (refine wpList_appRow rfl (.tmp 25) (.tmp 29) 45 rfl w.heap.size 9 _ 1 16 Tryd.underlying45 infoStr rfl (by decide) _ _ D.length 1 _ _ (own_below HO.out ((Below.refl _ _).alloc (Nat.le_refl _) _)) (src_at (AtG.new _ 9 _) 1) rfl rfl rfl (fun y hy => by simp at hy; subst hy; rfl) (by have := HDL.out; omega) (by decide) (by have := HB.out.size; simp; omega) ?_); intro v5 w5 ho5 hg5; have HV5 := Lib.hid ho5; have HB5 := Lib.hid ((HB.out.alloc HB.out.size _).grown hg5 (by have := HB.out.size; simp; omega) (fun k hk => own_base HO.out k hk)); clear ho5 hg5)
      go_returns
      refine ⟨HB5.out, _, _, rfl, HL.out, linesAt_own (base := w.heap.size) (n := D.length + 1) ?_ (by simp)⟩
      rw [strs_snoc]; exact HV5.out
end Go.Proofs.YtaafmfooommepaaDoor
