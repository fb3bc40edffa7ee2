/- A text's lines (the library's Split). -/
import Derived.Test.YtaafmfooommepaaDoorRu5
import Derived.Test.YtaafmfooommepaaDoorMake
set_option linter.unusedVariables false
set_option linter.unusedSimpArgs false
namespace Go.Proofs.YtaafmfooommepaaDoor
open Go.RowKit Go.Lib
def nlS : ByteArray := { data := #[10] }
theorem nlS_list : nlS.toList = [10] := by rw [ByteArray.toList_eq]; rfl
theorem run_cts (s : ByteArray) (c : Int) (w : World) : (callFunc 35 #[.string s, .int .u8 c]).run Tryd.prog w = .ok (.value (.int .i64 (countByte s.data.toList c.toNat.toUInt8))) w := by
  rw [run_callFunc_extern (P := Tryd.prog) (f := 35) (fn := Tryd.f35) (e := Extern.BytealgCount.count) (by kernel_rfl) (by kernel_rfl) (by kernel_rfl) (by kernel_rfl) (by kernel_rfl), run_countString]
  rfl
theorem nl0 : (({ data := #[10] } : ByteArray)[0]'(by decide)).toNat = 10 := rfl
theorem countS (s : ByteArray) (w : World) : Calls Tryd.prog 28 #[.string s, .string nlS] w fun e w' => e = .returned (.int .i64 (cnl s 0 : Nat)) ∧ w' = w := by
  have hd : (callFunc 35 #[.string s, .int .u8 10]).run Tryd.prog w = .ok (.value (.int .i64 (cnl s 0 : Nat))) w := run_cts s 10 w
  have h10 := nl0
  generalize cnl s 0 = n at *
  unfold nlS
  go_enter Tryd.func28, Tryd.ntmps28
  go_wp2
  go_returns
  exact ⟨rfl, rfl⟩
theorem indexL (s : ByteArray) (w : World) : Calls Tryd.prog 36 #[.string s, .string nlS] w (IxPost (Fst s 10) w) := by
  have hd := Lib.hid (ixL s 10 w)
  have hf : Hid (Fst s 10 (indexByte s.data.toList (10 : Int).toNat.toUInt8)) := Lib.hid (fst_ix s 10 (by decide))
  have h10 := nl0
  by_cases hs : nlS = s
  · have HF : Hid (Fst s 10 0) := Lib.hid (.inr ⟨0, rfl, by rw [← hs]; rfl, fun j hj => by omega⟩)
    have he : ((nlS.toList == s.toList) = true) := (str_eq _ _).2 hs
    rw [nlS_list] at he
    clear hs hd hf
    unfold nlS
    go_enter Tryd.func36, Tryd.ntmps36
    go_wp2
    go_returns
    exact ⟨0, rfl, rfl, HF.out⟩
  · have he : (nlS.toList == s.toList) = false := by
      cases h : nlS.toList == s.toList
      · rfl
      · exact absurd ((str_eq _ _).1 h) hs
    rw [nlS_list] at he
    clear hs
    generalize indexByte s.data.toList (10 : Int).toNat.toUInt8 = r at *
    unfold nlS
    go_enter Tryd.func36, Tryd.ntmps36
    go_wp2_with fail
    refine (hd.out).mono ?_
    rintro e9 w9 ⟨rfl, hw9⟩; subst hw9
    go_wp2_with fail
    go_returns
    exact ⟨_, rfl, rfl, hf.out⟩
theorem indexS (s : ByteArray) (w : World) : Calls Tryd.prog 29 #[.string s, .string nlS] w (IxPost (Fst s 10) w) := by
  have hd := Lib.hid (indexL s w)
  generalize nlS = n at *
  go_enter Tryd.func29, Tryd.ntmps29
  go_wp2_with fail
  refine (hd.out).mono ?_
  rintro e9 w9 ⟨r, rfl, hw9, hr⟩; subst hw9
  have HR := Lib.hid hr
  clear hr hd
  go_wp2_with fail
  go_returns
  exact ⟨_, rfl, rfl, HR.out⟩
/-- the lines that stand already -/
def Cut (s : ByteArray) (p : Nat) (D : List ByteArray) : Prop := p ≤ s.size ∧ D.length + cnl s p = cnl s 0 ∧ ∀ L, Lines s p L → Lines s 0 (D ++ L)
theorem cut_next {s : ByteArray} {p : Nat} {D : List ByteArray} {m : Int} (h : Cut s p D) (hD : D.length < cnl s 0) (hm : Fst (s.extract p s.size) 10 m) : ∃ k : Nat, m = k ∧ p + k < s.size ∧ (s.extract p s.size).size = s.size - p ∧ (s.extract p s.size).extract 0 k = s.extract p (p + k) ∧ (s.extract p s.size).extract (k + 1) (s.extract p s.size).size = s.extract (p + k + 1) s.size ∧ Cut s (p + k + 1) (D ++ [s.extract p (p + k)]) := by
  obtain ⟨h1, h2, h3⟩ := h
  have hz : (s.extract p s.size).size = s.size - p := ext_size (Nat.le_refl _)
  rcases hm with ⟨rfl, hm⟩ | ⟨k, rfl, hk, hkn⟩
  · obtain ⟨i, hi, h10, -⟩ := cnl_pos (s := s) (p := p) (by omega)
    have hi2 := ch_ge (s := s) (p := i) (by omega)
    exfalso
    have := hm (i - p)
    rw [ch_ext (Nat.le_refl _), if_pos (by omega), show p + (i - p) = i from by omega] at this
    exact this h10
  · have hk1 := ch_ge (s := s.extract p s.size) (p := k) (by omega)
    have hks : p + k < s.size := by omega
    rw [ch_ext (Nat.le_refl _), if_pos hks] at hk
    have hno : ∀ j, p ≤ j → j < p + k → ch s j ≠ 10 := fun j a b hj => by
      have := hkn (j - p) (by omega)
      rw [ch_ext (Nat.le_refl _), if_pos (by omega), show p + (j - p) = j from by omega] at this
      exact this hj
    refine ⟨k, rfl, hks, hz, ?_, ?_, by omega, ?_, fun L hL => ?_⟩
    · rw [ext_ext]; congr 1; omega
    · rw [ext_ext, hz]; congr 1; omega
    · have e1 := cnl_skip (s := s) (p := p) (i := p + k) (by omega) hno
      have e2 := cnl_here hk
      simp; omega
    · rw [List.append_assoc]
      exact h3 _ (.more (by omega) hk hno hL)
theorem cut_end {s : ByteArray} {p : Nat} {D : List ByteArray} (h : Cut s p D) (hD : ¬ D.length < cnl s 0) : D.length = cnl s 0 ∧ Lines s 0 (D ++ [s.extract p s.size]) := by
  obtain ⟨h1, h2, h3⟩ := h
  exact ⟨by omega, h3 _ (.last h1 (cnl_zero (by omega)))⟩
/-- a row of strings that is being filled -/
def Fill (w : World) (g n : Nat) (D : List ByteArray) : Prop := ∃ cs : Array Value, AtG w g 9 cs ∧ cs.size = n ∧ (∀ i, i < n → ∃ l, cs[i]? = some (Value.string l)) ∧ ∀ (i : Nat) (l : ByteArray), D[i]? = some l → cs[i]? = some (Value.string l)
theorem Fill.cell {w : World} {g n i : Nat} {D : List ByteArray} (h : Fill w g n D) (hi : i < n) : (∃ l, w.cell? ⟨g, i, none⟩ = some (Value.string l)) ∧ w.frozen? ⟨g, i, none⟩ = false := by
  obtain ⟨cs, h1, h2, h3, h4⟩ := h
  obtain ⟨l, hl⟩ := h3 i hi
  exact ⟨⟨l, h1.cell i _ hl⟩, h1.frozen i⟩
theorem Fill.put {w : World} {g n : Nat} {D : List ByteArray} {x : ByteArray} (h : Fill w g n D) (hD : D.length < n) : Fill (w.setCell ⟨g, D.length, none⟩ (.string x)) g n (D ++ [x]) := by
  obtain ⟨cs, h1, h2, h3, h4⟩ := h
  refine ⟨_, h1.set D.length (.string x), by simpa using h2, fun i hi => ?_, fun i l hi => ?_⟩
  · by_cases e : D.length = i
    · subst e; exact ⟨x, Array.getElem?_setIfInBounds_self_of_lt (by omega)⟩
    · rw [Array.getElem?_setIfInBounds_ne e]; exact h3 i hi
  · by_cases e : D.length = i
    · subst e
      rw [List.getElem?_append_right (Nat.le_refl _)] at hi
      simp at hi
      subst hi
      exact Array.getElem?_setIfInBounds_self_of_lt (by omega)
    · rw [Array.getElem?_setIfInBounds_ne e]
      refine h4 i l ?_
      have hlt := (List.getElem?_eq_some_iff.1 hi).1
      rw [List.getElem?_append_left (by simp at hlt; omega)] at hi
      exact hi
theorem Fill.new (w : World) (n : Nat) : Fill (w.alloc (.cells (Array.replicate n (Value.string ByteArray.empty)) 9)) w.heap.size n [] :=
  ⟨_, AtG.new _ _ _, by simp, fun i hi => ⟨ByteArray.empty, by simp [hi]⟩, fun i l h => by simp at h⟩
theorem Fill.lines {w : World} {g n : Nat} {L : List ByteArray} (h : Fill w g n L) (hn : L.length = n) : LinesAt g w (.slice (some ⟨g, 0, none⟩) n n) L := by
  obtain ⟨cs, h1, h2, h3, h4⟩ := h
  exact ⟨g, n, Nat.le_refl _, by rw [hn], by omega, fun j l hj => h1.cell j _ (h4 j l hj)⟩
set_option maxRecDepth 100000 in
set_option maxHeartbeats 1600000 in
theorem genX (s : ByteArray) (w : World) (hs : s.size ≤ 10000) : Calls Tryd.prog 21 #[.string s, .string nlS, .int .i64 0, .int .i64 (-1)] w (LinesPost s w) := by
  have HSZ := Lib.hid hs
  have hsI : (s.size : Int) ≤ 10000 := by omega
  have hcnt := Lib.hid (countS s w)
  have HIX := Lib.hid indexS
  have hn0 : (cnl s 0 : Int) ≤ s.size := by have := cnl_le s; omega
  have HCUT : Hid (Cut s 0 []) := Lib.hid ⟨Nat.zero_le _, by simp, fun L h => h⟩
  obtain ⟨N, hN⟩ : ∃ N, N = cnl s 0 := ⟨_, rfl⟩
  rw [← hN] at hcnt hn0
  have HN := Lib.hid hN
  clear hs hN
  have hmin : min ((N : Int) + 1) ((s.size : Int) + 1) = (N : Int) + 1 := by omega
  have hmk := make_one (P := Tryd.prog) 45 9 (.string ByteArray.empty) 16 Tryd.underlying45 infoStr rfl .i64 .i64 (N + 1) (by omega) (by omega)
  rw [show ((N + 1 : Nat) : Int) = (N : Int) + 1 from by omega] at hmk
  have he : (nlS.toList == []) = false := by rw [nlS_list]; rfl
  have hz : nlS.size = 1 := rfl
  generalize nlS = nl at *
  go_enter Tryd.func21, Tryd.ntmps21
  go_wp2_with fail
  refine (hcnt.out).mono ?_
  rintro e9 w9 ⟨rfl, hw9⟩; subst hw9
  clear hcnt
  go_wp2_with fail
  clear hmin hmk he
  go_loopw [0, 10] (fun s0 i wr => ∃ (p : Nat) (D : List ByteArray), s0 = .string (s.extract p s.size) ∧ i = .int .i64 (D.length : Nat) ∧ Hid (Cut s p D) ∧ Hid (Fill wr w9.heap.size (N + 1) D) ∧ Hid (Below w9.heap.size w9 wr)) (fun s0 i _ => N - (intOf i).toNat)
  case atStart => exact ⟨0, [], by rw [ext_all], rfl, HCUT, Lib.hid (Fill.new _ _), Lib.hid ((Below.refl _ _).alloc (Nat.le_refl _) _)⟩
  case round =>
    obtain ⟨p, D, rfl, rfl, HC, HF, HB⟩ := hrel
    by_cases hlt : D.length < N
    · have hltI : (D.length : Int) < N := by omega
      have HLT := Lib.hid hlt
      have HCN := Lib.hid (fun m hm => cut_next (m := m) HC.out (by rw [← HN.out]; exact hlt) hm)
      have hpz : (s.extract p s.size).size = s.size - p := ext_size (Nat.le_refl _)
      have HPZ := Lib.hid hpz
      clear hlt HC hpz
      generalize s.extract p s.size = rs at *
      go_upto_region 12 with (fail)
      go_wp2_with fail
      refine (HIX.out _ _).mono ?_
      rintro e8 w8 ⟨m, rfl, hw8, hm⟩; subst hw8
      obtain ⟨k, rfl, h1, h2, h3, h4, h5⟩ := HCN.out m hm
      have HK := Lib.hid (And.intro h1 h2)
      have hk0 : ¬ (k : Int) < 0 := by omega
      have hk1 : (k : Int) + 1 ≤ rs.size := by omega
      have hk2 : (k : Int) ≤ rs.size := by omega
      have hk3 : (k : Int) < 10000 := by omega
      have hs1 := sl_to rs k (by omega)
      have hs2 := sl_from rs (k + 1) (by omega)
      rw [show ((k + 1 : Nat) : Int) = (k : Int) + 1 from by omega] at hs2
      rw [h3] at hs1
      rw [h4] at hs2
      have HC2 := Lib.hid h5
      clear h1 h2 h3 h4 h5 hm HCN
      obtain ⟨⟨l0, hc0⟩, hf0⟩ := HF.out.cell (i := D.length) (by have := HLT.out; omega)
      generalize s.extract p (p + k) = x at *
      go_wp2_with fail
      exact ⟨⟨_, D ++ [x], rfl, by simp, HC2, Lib.hid (HF.out.put (by have := HLT.out; omega)), Lib.hid (HB.out.setCell (Nat.le_refl _) _)⟩, by have := HLT.out; simp [intOf]; try omega⟩
    · obtain ⟨h1, h2⟩ := cut_end HC.out (by rw [← HN.out]; exact hlt)
      rw [← HN.out] at h1
      have HL := Lib.hid h2
      generalize s.extract p s.size = x at *
      obtain ⟨⟨l0, hc0⟩, hf0⟩ := HF.out.cell (i := D.length) (by omega)
      have HD := Lib.hid h1
      have hNI : (D.length : Int) = N := by omega
      clear h1 h2 hlt HC
      rw [hNI]
      have HF2 := Lib.hid (HF.out.put (x := x) (by have := HD.out; omega))
      rw [HD.out] at HF2 hc0 hf0
      have hsl : (N : Int) + 1 ≤ ((N + 1 : Nat) : Int) := by omega
      go_wp2_with fail
      go_returns
      exact ⟨HB.out.setCell (Nat.le_refl _) _, _, D ++ [x], rfl, HL.out, HF2.out.lines (by simp [HD.out])⟩
theorem splitX (s : ByteArray) (w : World) (hs : s.size ≤ 10000) : Calls Tryd.prog 14 #[.string s, .string nlS] w (LinesPost s w) := by
  have hd := Lib.hid (genX s w hs)
  clear hs
  generalize nlS = n at *
  go_enter Tryd.func14, Tryd.ntmps14
  go_wp2_with fail
  refine (hd.out).mono ?_
  rintro e9 w9 ⟨hb, v, L, rfl, hL, hv⟩
  have HR : Hid (LinesPost s w (.returned v) w9) := Lib.hid ⟨hb, v, L, rfl, hL, hv⟩
  clear hd hb hL hv
  go_wp2_with fail
  go_returns
  exact HR.out
end Go.Proofs.YtaafmfooommepaaDoor
