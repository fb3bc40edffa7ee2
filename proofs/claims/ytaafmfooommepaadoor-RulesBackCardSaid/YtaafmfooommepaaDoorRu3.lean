/- A line's rule (the program's). -/
import Derived.Test.YtaafmfooommepaaDoorRu2
import Derived.Test.YtaafmfooommepaaDoorReg3
set_option linter.unusedVariables false
set_option linter.unusedSimpArgs false
namespace Go.Proofs.YtaafmfooommepaaDoor
open Go.RowKit
theorem str_eq (a b : ByteArray) : ((a.toList == b.toList) = true) ↔ a = b := by
  rw [beq_iff_eq, ByteArray.toList_eq, ByteArray.toList_eq]
  exact ⟨fun h => ByteArray.ext (Array.toList_inj.mp h), fun h => by rw [h]⟩
theorem luhnS_list : luhnS.toList = [108, 117, 104, 110] := by rw [ByteArray.toList_eq]; rfl
theorem plainS_list : plainS.toList = [112, 108, 97, 105, 110] := by rw [ByteArray.toList_eq]; rfl
/-- a rule in memory -/
def rlC (a b : ByteArray) (c : Bool) : Array Value := #[.string a, .string b, .bool c]
def rlA (a b : ByteArray) (c : Bool) : Value := .agg #[.string a, .string b, .bool c]
def put3 (w : World) (g : Nat) (a b : ByteArray) (c : Bool) : World := ((w.setCell ⟨g, 0, none⟩ (.string a)).setCell ⟨g, 1, none⟩ (.string b)).setCell ⟨g, 2, none⟩ (.bool c)
section
variable {w w0 : World} {g T : Nat} {a b a' b' : ByteArray} {c c' : Bool}
theorem put3_at (h : AtG w g T (rlC a b c)) : AtG (put3 w g a' b' c') g T (rlC a' b' c') := ((h.set 0 (.string a')).set 1 (.string b')).set 2 (.bool c')
theorem put3_far {k : Nat} {cs : Array Value} (h : AtG w k T cs) (hk : k ≠ g) : AtG (put3 w g a b c) k T cs := ((h.far (p := ⟨g, 0, none⟩) hk _).far (p := ⟨g, 1, none⟩) hk _).far (p := ⟨g, 2, none⟩) hk _
theorem put3_below {B : Nat} (h : Below B w0 w) (hB : B ≤ g) : Below B w0 (put3 w g a b c) := ((h.setCell (p := ⟨g, 0, none⟩) hB _).setCell (p := ⟨g, 1, none⟩) hB _).setCell (p := ⟨g, 2, none⟩) hB _
theorem rl_cells (h : AtG w g T (rlC a b c)) : w.cell? ⟨g, 0, none⟩ = some (.string a) ∧ w.cell? ⟨g, 1, none⟩ = some (.string b) ∧ w.cell? ⟨g, 2, none⟩ = some (.bool c) ∧ w.frozen? ⟨g, 0, none⟩ = false ∧ w.frozen? ⟨g, 1, none⟩ = false ∧ w.frozen? ⟨g, 2, none⟩ = false :=
  ⟨h.cell 0 _ rfl, h.cell 1 _ rfl, h.cell 2 _ rfl, h.frozen 0, h.frozen 1, h.frozen 2⟩
end
theorem sl_to (s : ByteArray) (i : Nat) (h : i ≤ s.size) (w : World) : (Instr.slice 9 (.string s) none (some (.int .i64 (i : Int))) none).run Tryd.prog w = .ok (.string (s.extract 0 i)) w := by
  rw [run_slice_string_to_if (P := Tryd.prog) w 9 s .i64 (i : Int) Tryd.underlying9, if_pos ⟨by omega, by omega⟩]; rfl
theorem sl_from (s : ByteArray) (i : Nat) (h : i ≤ s.size) (w : World) : (Instr.slice 9 (.string s) (some (.int .i64 (i : Int))) none none).run Tryd.prog w = .ok (.string (s.extract i s.size)) w := by
  rw [run_slice_string_from_if (P := Tryd.prog) w 9 s .i64 (i : Int) Tryd.underlying9, if_pos ⟨by omega, by omega⟩]; rfl
theorem sl_both (s : ByteArray) (i j : Nat) (h : i ≤ j) (hj : j ≤ s.size) (w : World) : (Instr.slice 9 (.string s) (some (.int .i64 (i : Int))) (some (.int .i64 (j : Int))) none).run Tryd.prog w = .ok (.string (s.extract i j)) w := by
  rw [run_slice_string_if (P := Tryd.prog) w 9 s .i64 .i64 (i : Int) (j : Int) Tryd.underlying9, if_pos ⟨by omega, by omega⟩, if_pos ⟨by omega, by omega⟩]; rfl
/-- what a rule's call leaves: the rule, and whether the line is one -/
def RulePost (s : ByteArray) (w : World) (e : Ending) (w' : World) : Prop := Below w.heap.size w w' ∧ ((∃ r : Rl, RuleIs s r ∧ e = .returned (.tuple #[rlA r.name r.pat r.luhn, .bool true])) ∨ ((∀ r, ¬ RuleIs s r) ∧ ∃ a b c, e = .returned (.tuple #[rlA a b c, .bool false])))
theorem no_rule {s : ByteArray} {f l : Int} (hf : Fst s 32 f) (hl : Lst s 32 l) (h : ∀ r, ¬ RuleAt s f l r) (r : Rl) : ¬ RuleIs s r := by
  rintro ⟨f', l', h1, h2, h3⟩
  obtain rfl := hf.det h1
  obtain rfl := hl.det h2
  exact h r h3
/-- the first space stands no later than the last one -/
theorem fst_lst {s : ByteArray} {c f l : Int} (hf : Fst s c f) (hl : Lst s c l) (hc : 0 ≤ c) : (f = -1 ∧ l = -1) ∨ ∃ i k : Nat, f = i ∧ l = k ∧ i ≤ k ∧ k < s.size := by
  rcases hf with ⟨rfl, h⟩ | ⟨i, rfl, h1, h2⟩ <;> rcases hl with ⟨rfl, g⟩ | ⟨k, rfl, g1, g2⟩
  · exact .inl ⟨rfl, rfl⟩
  · exact absurd g1 (h _)
  · exact absurd h1 (g _)
  · refine .inr ⟨i, k, rfl, rfl, ?_, ch_ge (by omega)⟩
    rcases Nat.lt_or_ge k i with h | h
    · exact absurd h1 (g2 _ h)
    · exact h
set_option maxRecDepth 100000 in
set_option maxHeartbeats 1600000 in
theorem ruleX (s : ByteArray) (w : World) (hs : s.size ≤ 10000) : Calls Tryd.prog 15 #[.string s] w (RulePost s w) := by
  have HI := Lib.hid (fun w => firstS s 32 (by decide) w)
  have HL := Lib.hid (fun w => lastS s 32 (by decide) w hs)
  have HSZ := Lib.hid hs
  have hsI : (s.size : Int) ≤ 10000 := by omega
  clear hs
  go_enter Tryd.func15, Tryd.ntmps15
  go_wp2_with fail
  refine (HI.out _).mono ?_
  rintro e9 w1 ⟨f, rfl, hw1, hf⟩
  have HF : Hid (Fst s 32 f) := Lib.hid hf
  have HZ : Hid (AtG w1 w.heap.size 35 (rlC ByteArray.empty ByteArray.empty false)) := Lib.hid (by rw [← hw1]; exact AtG.new _ _ _)
  have HB : Hid (Below w.heap.size w w1) := Lib.hid (by rw [← hw1]; exact (Below.refl _ _).alloc (Nat.le_refl _) _)
  clear hf hw1 HI
  go_wp2_with fail
  refine (HL.out _).mono ?_
  rintro e9 w2 ⟨l, rfl, hw2, hl⟩
  have HLL := Lib.hid hl
  subst hw2
  clear hl HL
  rcases fst_lst HF.out HLL.out (by decide) with ⟨rfl, rfl⟩ | ⟨i, k, rfl, rfl, hik, hk⟩
  · have HNO := Lib.hid (no_rule HF.out HLL.out (fun r h => by obtain ⟨i, k, h1, h2, h3⟩ := h; omega))
    have hz := HZ.out
    obtain ⟨c0, c1, c2, f0, f1, f2⟩ := rl_cells hz
    clear hz
    go_wp2_with fail
    have hA2 := put3_at (a' := ByteArray.empty) (b' := ByteArray.empty) (c' := false) HZ.out
    have HB2 := Lib.hid (put3_below (g := w.heap.size) (a := ByteArray.empty) (b := ByteArray.empty) (c := false) HB.out (Nat.le_refl _))
    refine (show ∀ W2 : World, W2 = put3 w1 w.heap.size (ByteArray.empty) (ByteArray.empty) (false) → bodyPost Tryd.prog Tryd.f15 (RulePost s w) Exit.ret _ W2 from fun W2 hW2 => ?_) _ rfl
    rw [← hW2] at hA2 HB2
    obtain ⟨d0, d1, d2, -, -, -⟩ := rl_cells hA2
    clear hW2 hA2
    refine bodyPost_ret (v := .tuple #[rlA (ByteArray.empty) (ByteArray.empty) (false), .bool false]) (by unfold rlA; simp [results, Tryd.results15, go_sem, d0, d1, d2]; try rfl) rfl ?_
    exact ⟨HB2.out, .inr ⟨HNO.out, _, _, _, rfl⟩⟩
  have HNK := Lib.hid (And.intro hik hk)
  by_cases hlt : i + 2 ≤ k
  · have hi0 : ¬ (i : Int) < 0 := by omega
    have hi1 : (i : Int) ≤ 10000 := by have := HSZ.out; omega
    have hk1 : (k : Int) ≤ 10000 := by have := HSZ.out; omega
    have hkI : ¬ (k : Int) ≤ i + 1 := by omega
    have HNS : Hid ((s.extract 0 i).size ≤ 10000) := Lib.hid (by rw [ext_size (by omega)]; have := HSZ.out; omega)
    have S0 := Lib.hid (sl_to s i (by omega))
    have S1 := Lib.hid (sl_both s (i + 1) k (by omega) (by omega))
    have S2 := Lib.hid (sl_from s (k + 1) (by omega))
    rw [show ((i + 1 : Nat) : Int) = (i : Int) + 1 from by omega] at S1
    rw [show ((k + 1 : Nat) : Int) = (k : Int) + 1 from by omega] at S2
    have HAT : Hid (∀ (nm lu pl : Bool), (nm = true ↔ Nm (s.extract 0 i)) → (lu = true ↔ s.extract (k + 1) s.size = luhnS) → (pl = true ↔ s.extract (k + 1) s.size = plainS) → (nm = true ∧ (lu = true ∨ pl = true) → RuleIs s ⟨s.extract 0 i, s.extract (i + 1) k, lu⟩) ∧ ((nm = false ∨ (lu = false ∧ pl = false)) → ∀ r, ¬ RuleIs s r)) := Lib.hid (by
      intro nm lu pl h1 h2 h3
      refine ⟨fun ⟨a, b⟩ => ⟨_, _, HF.out, HLL.out, i, k, rfl, rfl, hlt, hk, rfl, rfl, h1.1 a, ?_⟩, fun h r hr => ?_⟩
      · cases lu
        · exact .inr ⟨rfl, h3.1 (by rcases b with b | b; cases b; exact b)⟩
        · exact .inl ⟨rfl, h2.1 rfl⟩
      · obtain ⟨f', l', g1, g2, i', k', e1, e2, e3, e4, e5, e6, e7, e8⟩ := hr
        have e9 := HF.out.det g1
        have e10 := HLL.out.det g2
        obtain rfl : i = i' := by omega
        obtain rfl : k = k' := by omega
        rw [e5] at e7
        rcases h with rfl | ⟨rfl, rfl⟩
        · exact absurd (h1.2 e7) (by simp)
        · rcases e8 with ⟨-, e8⟩ | ⟨-, e8⟩
          · exact absurd (h2.2 e8) (by simp)
          · exact absurd (h3.2 e8) (by simp))
    generalize s.extract 0 i = nm at *
    generalize s.extract (i + 1) k = pt at *
    generalize s.extract (k + 1) s.size = tl at *
    obtain ⟨lu, hlu⟩ : ∃ lu, lu = (tl.toList == [108, 117, 104, 110]) := ⟨_, rfl⟩
    obtain ⟨pl, hpl⟩ : ∃ pl, pl = (tl.toList == [112, 108, 97, 105, 110]) := ⟨_, rfl⟩
    have HAT := Lib.hid (fun nb h => HAT.out nb lu pl h (by rw [hlu, ← luhnS_list]; exact str_eq _ _) (by rw [hpl, ← plainS_list]; exact str_eq _ _))
    have HLU := Lib.hid hlu; have HPL := Lib.hid hpl
    clear hlt hk hik HF HLL hlu hpl
    have wi : IntKind.i64.wrap ((i : Int) + 1) = (i : Int) + 1 := by rw [IntKind.wrap_i64]; omega
    have wk : IntKind.i64.wrap ((k : Int) + 1) = (k : Int) + 1 := by rw [IntKind.wrap_i64]; omega
    go_upto_region 4 with (fail)
    refine RgX.start (by kernel_rfl) [(15, fun w5 w6 => ∃ gg, w.heap.size < gg ∧ w6 = put3 w5 gg nm pt lu)] [⟨fun w5 => AtG w5 w.heap.size 35 (rlC ByteArray.empty ByteArray.empty false) ∧ Below w.heap.size w w5, none⟩] ⟨⟨fun _ _ h hb => ⟨h.1.below hb, h.2.trans (hb.mono h.2.size)⟩, ⟨fun _ _ _ _ => (fun w5 w6 h he => by obtain ⟨gg, h1, rfl⟩ := he; exact ⟨put3_far h.1 (by omega), put3_below h.2 (by omega)⟩), trivial⟩⟩, trivial⟩ (by kernel_rfl) (by kernel_rfl) ⟨⟨HZ.out.drew, HB.out.drew⟩, trivial⟩ ?_
    show RgX.Build _ _ _ _ _ _ 0 [_, _, _, _, _, _, _, _, _, _, _, _, _, _, _, _] []
    refine RgX.build_cons (m := 1) (r := RgX.eq _) (RgX.one_plain (by rfl) (by (intro ax wx hk Kx hK; have k0 := hk.base 0 _ rfl rfl; have hL := hk.fact 0 0 _ rfl rfl; (try dsimp only at hL); clear hk; go_simp; refine hK _ _ (fun h => by cases h) (fun _ _ => ?_) (Below.refl _ _); apply RgX.mk))) ?_ rfl RgX.keep_eq (fun _ h => by cases h)
    refine RgX.build_cons (m := 2) (r := RgX.eq _) (RgX.one_plain (by rfl) (by (intro ax wx hk Kx hK; have k4 := hk.base 4 _ rfl rfl; have hL := hk.fact 0 0 _ rfl rfl; (try dsimp only at hL); clear hk; go_simp; refine hK _ _ (fun h => by cases h) (fun _ _ => ?_) (Below.refl _ _); apply RgX.mk))) ?_ rfl RgX.keep_eq (fun _ h => by cases h)
    refine RgX.build_cons (m := 3) (r := RgX.eq (.string nm)) (RgX.one_plain (by rfl) (by (intro ax wx hk Kx hK; obtain ⟨v20, k20, h20⟩ := hk.dep 0 0 20 _ rfl rfl rfl; (first | (replace h20 := h20 9 undef rfl rfl; first | (cases (h20 : v20 = _)) | (obtain ⟨rfl, h20⟩ := h20) | skip) | skip); obtain ⟨v21, k21, h21⟩ := hk.dep 0 1 21 _ rfl rfl rfl; (first | (replace h21 := h21 9 undef rfl rfl; first | (cases (h21 : v21 = _)) | (obtain ⟨rfl, h21⟩ := h21) | skip) | skip); have hL := hk.fact 0 0 _ rfl rfl; (try dsimp only at hL); clear hk; (have hx := S0.out; go_simp; refine hK _ _ (fun h => by cases h) (fun _ _ => ?_) (Below.refl _ _); apply RgX.mk)))) ?_ rfl RgX.keep_eq (fun _ h => by cases h)
    refine RgX.build_cons (m := 4) (r := RgX.eq _) (RgX.one_plain (by rfl) (by (intro ax wx hk Kx hK; have k0 := hk.base 0 _ rfl rfl; have hL := hk.fact 0 0 _ rfl rfl; (try dsimp only at hL); clear hk; go_simp; refine hK _ _ (fun h => by cases h) (fun _ _ => ?_) (Below.refl _ _); apply RgX.mk))) ?_ rfl RgX.keep_eq (fun _ h => by cases h)
    refine RgX.build_cons (m := 5) (r := RgX.eq _) (RgX.one_plain (by rfl) (by (intro ax wx hk Kx hK; have k4 := hk.base 4 _ rfl rfl; have hL := hk.fact 0 0 _ rfl rfl; (try dsimp only at hL); clear hk; go_simp; refine hK _ _ (fun h => by cases h) (fun _ _ => ?_) (Below.refl _ _); apply RgX.mk))) ?_ rfl RgX.keep_eq (fun _ h => by cases h)
    refine RgX.build_cons (m := 6) (r := RgX.eq _) (RgX.one_plain (by rfl) (by (intro ax wx hk Kx hK; obtain ⟨v24, k24, h24⟩ := hk.dep 0 4 24 _ rfl rfl rfl; (first | (replace h24 := h24 9 undef rfl rfl; first | (cases (h24 : v24 = _)) | (obtain ⟨rfl, h24⟩ := h24) | skip) | skip); have hL := hk.fact 0 0 _ rfl rfl; (try dsimp only at hL); clear hk; go_simp; refine hK _ _ (fun h => by cases h) (fun _ _ => ?_) (Below.refl _ _); apply RgX.mk))) ?_ rfl RgX.keep_eq (fun _ h => by cases h)
    refine RgX.build_cons (m := 7) (r := RgX.eq _) (RgX.one_plain (by rfl) (by (intro ax wx hk Kx hK; have k5 := hk.base 5 _ rfl rfl; have hL := hk.fact 0 0 _ rfl rfl; (try dsimp only at hL); clear hk; go_simp; refine hK _ _ (fun h => by cases h) (fun _ _ => ?_) (Below.refl _ _); apply RgX.mk))) ?_ rfl RgX.keep_eq (fun _ h => by cases h)
    refine RgX.build_cons (m := 8) (r := RgX.eq (.string pt)) (RgX.one_plain (by rfl) (by (intro ax wx hk Kx hK; obtain ⟨v23, k23, h23⟩ := hk.dep 0 3 23 _ rfl rfl rfl; (first | (replace h23 := h23 9 undef rfl rfl; first | (cases (h23 : v23 = _)) | (obtain ⟨rfl, h23⟩ := h23) | skip) | skip); obtain ⟨v25, k25, h25⟩ := hk.dep 0 5 25 _ rfl rfl rfl; (first | (replace h25 := h25 9 undef rfl rfl; first | (cases (h25 : v25 = _)) | (obtain ⟨rfl, h25⟩ := h25) | skip) | skip); obtain ⟨v26, k26, h26⟩ := hk.dep 0 6 26 _ rfl rfl rfl; (first | (replace h26 := h26 9 undef rfl rfl; first | (cases (h26 : v26 = _)) | (obtain ⟨rfl, h26⟩ := h26) | skip) | skip); have hL := hk.fact 0 0 _ rfl rfl; (try dsimp only at hL); clear hk; (have hx := S1.out; go_simp; refine hK _ _ (fun h => by cases h) (fun _ _ => ?_) (Below.refl _ _); apply RgX.mk)))) ?_ rfl RgX.keep_eq (fun _ h => by cases h)
    refine RgX.build_cons (m := 9) (r := RgX.eq _) (RgX.one_plain (by rfl) (by (intro ax wx hk Kx hK; have k0 := hk.base 0 _ rfl rfl; have hL := hk.fact 0 0 _ rfl rfl; (try dsimp only at hL); clear hk; go_simp; refine hK _ _ (fun h => by cases h) (fun _ _ => ?_) (Below.refl _ _); apply RgX.mk))) ?_ rfl RgX.keep_eq (fun _ h => by cases h)
    refine RgX.build_cons (m := 10) (r := RgX.eq _) (RgX.one_plain (by rfl) (by (intro ax wx hk Kx hK; have k5 := hk.base 5 _ rfl rfl; have hL := hk.fact 0 0 _ rfl rfl; (try dsimp only at hL); clear hk; go_simp; refine hK _ _ (fun h => by cases h) (fun _ _ => ?_) (Below.refl _ _); apply RgX.mk))) ?_ rfl RgX.keep_eq (fun _ h => by cases h)
    refine RgX.build_cons (m := 11) (r := RgX.eq _) (RgX.one_plain (by rfl) (by (intro ax wx hk Kx hK; obtain ⟨v29, k29, h29⟩ := hk.dep 0 9 29 _ rfl rfl rfl; (first | (replace h29 := h29 9 undef rfl rfl; first | (cases (h29 : v29 = _)) | (obtain ⟨rfl, h29⟩ := h29) | skip) | skip); have hL := hk.fact 0 0 _ rfl rfl; (try dsimp only at hL); clear hk; go_simp; refine hK _ _ (fun h => by cases h) (fun _ _ => ?_) (Below.refl _ _); apply RgX.mk))) ?_ rfl RgX.keep_eq (fun _ h => by cases h)
    refine RgX.build_cons (m := 12) (r := RgX.eq (.string tl)) (RgX.one_plain (by rfl) (by (intro ax wx hk Kx hK; obtain ⟨v28, k28, h28⟩ := hk.dep 0 8 28 _ rfl rfl rfl; (first | (replace h28 := h28 9 undef rfl rfl; first | (cases (h28 : v28 = _)) | (obtain ⟨rfl, h28⟩ := h28) | skip) | skip); obtain ⟨v30, k30, h30⟩ := hk.dep 0 10 30 _ rfl rfl rfl; (first | (replace h30 := h30 9 undef rfl rfl; first | (cases (h30 : v30 = _)) | (obtain ⟨rfl, h30⟩ := h30) | skip) | skip); have hL := hk.fact 0 0 _ rfl rfl; (try dsimp only at hL); clear hk; (have hx := S2.out; go_simp; refine hK _ _ (fun h => by cases h) (fun _ _ => ?_) (Below.refl _ _); apply RgX.mk)))) ?_ rfl RgX.keep_eq (fun _ h => by cases h)
    refine RgX.build_cons (m := 13) (r := RgX.eq (.bool lu)) (RgX.one_plain (by rfl) (by (intro ax wx hk Kx hK; obtain ⟨v31, k31, h31⟩ := hk.dep 0 11 31 _ rfl rfl rfl; (first | (replace h31 := h31 9 undef rfl rfl; first | (cases (h31 : v31 = _)) | (obtain ⟨rfl, h31⟩ := h31) | skip) | skip); have hL := hk.fact 0 0 _ rfl rfl; (try dsimp only at hL); clear hk; (go_simp; refine hK _ _ (fun h => by cases h) (fun _ _ => ?_) (Below.refl _ _); show Value.bool _ = Value.bool lu; rw [HLU.out])))) ?_ rfl RgX.keep_eq (fun _ h => by cases h)
    refine RgX.build_cons (m := 14) (r := RgX.eq _) (RgX.one_plain (by rfl) (by (intro ax wx hk Kx hK; obtain ⟨v22, k22, h22⟩ := hk.dep 0 2 22 _ rfl rfl rfl; (first | (replace h22 := h22 9 undef rfl rfl; first | (cases (h22 : v22 = _)) | (obtain ⟨rfl, h22⟩ := h22) | skip) | skip); obtain ⟨v27, k27, h27⟩ := hk.dep 0 7 27 _ rfl rfl rfl; (first | (replace h27 := h27 9 undef rfl rfl; first | (cases (h27 : v27 = _)) | (obtain ⟨rfl, h27⟩ := h27) | skip) | skip); obtain ⟨v32, k32, h32⟩ := hk.dep 0 12 32 _ rfl rfl rfl; (first | (replace h32 := h32 9 undef rfl rfl; first | (cases (h32 : v32 = _)) | (obtain ⟨rfl, h32⟩ := h32) | skip) | skip); have hL := hk.fact 0 0 _ rfl rfl; (try dsimp only at hL); clear hk; go_simp; refine hK _ _ (fun h => by cases h) (fun _ _ => ?_) (Below.refl _ _); apply RgX.mk))) ?_ rfl RgX.keep_eq (fun _ h => by cases h)
    refine RgX.build_cons (m := 15) (r := (⟨fun v _ w5 => ∃ gg, v = .pointer (some ⟨gg, 0, none⟩) ∧ w.heap.size < gg ∧ AtG w5 gg 35 (rlC ByteArray.empty ByteArray.empty false), some 15, none⟩ : RgX.Rl)) (RgX.one_plain (by rfl) (by (intro ax wx hk Kx hK; have hL := hk.fact 0 0 _ rfl rfl; (try dsimp only at hL); clear hk; (go_simp; exact hK _ _ (fun h => by cases h) (fun u _ => ⟨wx.heap.size, rfl, hL.1.lt, AtG.new _ _ _⟩) ((Below.refl _ _).alloc (Nat.le_refl _) _))))) ?_ rfl (RgX.keep_r (fun _ _ _ _ h hb => by obtain ⟨gg, h1, h2, h4⟩ := h; exact ⟨gg, h1, h2, h4.below hb⟩) (fun _ _ => ⟨fun _ h _ _ => absurd rfl h, trivial⟩)) (fun _ h => by cases h)
    refine RgX.build_cons (m := 16) (r := (⟨fun _ u w5 => ∃ gg, u = .pointer (some ⟨gg, 0, none⟩) ∧ w.heap.size < gg ∧ AtG w5 gg 35 (rlC nm pt lu), none, some 14⟩ : RgX.Rl)) (RgX.one_plain (by rfl) (by (intro ax wx hk Kx hK; obtain ⟨v6, k6, h6⟩ := hk.dep 0 14 6 _ rfl rfl rfl; (first | (replace h6 := h6 9 undef rfl rfl; first | (cases (h6 : v6 = _)) | (obtain ⟨rfl, h6⟩ := h6) | skip) | skip); obtain ⟨v33, k33, h33⟩ := hk.dep 0 13 33 _ rfl rfl rfl; (first | (replace h33 := h33 9 undef rfl rfl; first | (cases (h33 : v33 = _)) | (obtain ⟨rfl, h33⟩ := h33) | skip) | skip); have hL := hk.fact 0 0 _ rfl rfl; (try dsimp only at hL); clear hk; (obtain ⟨gg, rfl, hg0, hg2⟩ := h6; obtain ⟨d0, d1, d2, f0, f1, f2⟩ := rl_cells hg2; go_simp; refine hK undef (put3 wx gg nm pt lu) (fun _ => rfl) (fun u hu => ?_) ⟨gg, hg0, rfl⟩; obtain ⟨t, ht, hu⟩ := hu; cases ht; rw [k6] at hu; cases hu; exact ⟨gg, rfl, hg0, put3_at hg2⟩)))) ?_ rfl (RgX.keep_r (fun _ _ _ _ h hb => by obtain ⟨gg, h1, h2, h4⟩ := h; exact ⟨gg, h1, h2, h4.below hb⟩) (fun _ _ => ⟨fun h _ _ _ => absurd rfl h, trivial⟩)) (fun j h => by cases h; exact ⟨0, rfl⟩)
    refine RgX.build_end fun wx hj => ?_
    have hL := hj 0 _ rfl rfl
    clear hj
    refine RgX.fin_eq rfl ?_
    refine RgX.fin_eq rfl ?_
    refine RgX.fin_eq rfl ?_
    refine RgX.fin_eq rfl ?_
    refine RgX.fin_eq rfl ?_
    refine RgX.fin_eq rfl ?_
    refine RgX.fin_eq rfl ?_
    refine RgX.fin_eq rfl ?_
    refine RgX.fin_eq rfl ?_
    refine RgX.fin_eq rfl ?_
    refine RgX.fin_eq rfl ?_
    refine RgX.fin_eq rfl ?_
    refine RgX.fin_eq rfl ?_
    refine RgX.fin_eq rfl ?_
    first | refine RgX.fin_eq rfl ?_ | refine RgX.fin_any rfl fun v6 h6 => ?_
    refine RgX.fin_none rfl fun s15 => ?_
    refine RgX.fin_nil ?_
    simp only [List.set_cons_zero, List.set_cons_succ]
    obtain ⟨gg, rfl, hg0, hg2⟩ := s15 rfl v6 ⟨6, by kernel_rfl, by kernel_rfl⟩
    have HA2 := Lib.hid hL.1; have HB2 := Lib.hid hL.2; have HG2 := Lib.hid hg2; have HG0 := Lib.hid hg0
    clear s15 h6 hL hg2 hg0 S0 S1 HZ HB HLU
    go_upto_region 5 with (fail)
    by_cases hnm : Nm nm
    · have HNX : Hid (∀ w, Calls Tryd.prog 24 #[.string nm] w (fun e w' => e = .returned (.bool true) ∧ Below w.heap.size w w')) := Lib.hid (fun w => (namedX nm w HNS.out).mono (by
        rintro e w' ⟨r, h1, h2, h3⟩
        rcases h3 with ⟨rfl, -⟩ | ⟨-, h3⟩
        · exact ⟨h1, h2⟩
        · exact absurd hnm h3))
      have HAT2 := Lib.hid (HAT.out true ⟨fun _ => hnm, fun _ => rfl⟩)
      clear hnm HAT
      cases lu
      · skip
        refine RgX.start (by kernel_rfl) [(15, fun w5 w6 => w6 = put3 w5 w.heap.size nm pt false)] [⟨fun w5 => AtG w5 gg 35 (rlC nm pt false) ∧ Below w.heap.size w w5, none⟩, ⟨fun w5 => AtG w5 w.heap.size 35 (rlC ByteArray.empty ByteArray.empty false), some 15⟩] ⟨⟨fun _ _ h hb => ⟨h.1.below hb, h.2.trans (hb.mono h.2.size)⟩, ⟨fun _ _ _ _ => (fun w5 w6 h he => by subst he; exact ⟨put3_far h.1 (by have := HG0.out; omega), put3_below h.2 (Nat.le_refl _)⟩), trivial⟩⟩, ⟨fun _ _ h hb => h.below hb, ⟨fun _ h _ _ => absurd rfl h, trivial⟩⟩, trivial⟩ (by kernel_rfl) (by kernel_rfl) ⟨⟨HG2.out.drew, HB2.out.drew⟩, HA2.out.drew, trivial⟩ ?_
        show RgX.Build _ _ _ _ _ _ 0 [_, _, _, _, _, _, _, _, _, _, _, _, _, _, _, _, _] []
        refine RgX.build_cons (m := 1) (r := RgX.eq _) (RgX.one_plain (by rfl) (by (intro ax wx hk Kx hK; have k6 := hk.base 6 _ rfl rfl; have hL := hk.fact 0 0 _ rfl rfl; (try dsimp only at hL); have hz := hk.fact 1 1 _ rfl rfl; (try dsimp only at hz); clear hk; obtain ⟨d0, d1, d2, -, -, -⟩ := rl_cells hL.1; go_simp; refine hK _ _ (fun h => by cases h) (fun _ _ => ?_) (Below.refl _ _); apply RgX.mk))) ?_ rfl RgX.keep_eq (fun _ h => by cases h)
        refine RgX.build_cons (m := 2) (r := RgX.eq _) (RgX.one_plain (by rfl) (by (intro ax wx hk Kx hK; have k6 := hk.base 6 _ rfl rfl; have hL := hk.fact 0 0 _ rfl rfl; (try dsimp only at hL); have hz := hk.fact 1 5 _ rfl rfl; (try dsimp only at hz); clear hk; obtain ⟨d0, d1, d2, -, -, -⟩ := rl_cells hL.1; go_simp; refine hK _ _ (fun h => by cases h) (fun _ _ => ?_) (Below.refl _ _); apply RgX.mk))) ?_ rfl RgX.keep_eq (fun _ h => by cases h)
        refine RgX.build_cons (m := 3) (r := RgX.eq _) (RgX.one_plain (by rfl) (by (intro ax wx hk Kx hK; obtain ⟨v35, k35, h35⟩ := hk.dep 0 1 35 _ rfl rfl rfl; (first | (replace h35 := h35 9 undef rfl rfl; first | (cases (h35 : v35 = _)) | (obtain ⟨rfl, h35⟩ := h35) | skip) | skip); have hL := hk.fact 0 0 _ rfl rfl; (try dsimp only at hL); have hz := hk.fact 1 4 _ rfl rfl; (try dsimp only at hz); clear hk; obtain ⟨d0, d1, d2, -, -, -⟩ := rl_cells hL.1; go_simp; refine hK _ _ (fun h => by cases h) (fun _ _ => ?_) (Below.refl _ _); apply RgX.mk))) ?_ rfl RgX.keep_eq (fun _ h => by cases h)
        refine RgX.build_cons (m := 4) (r := RgX.eq _) (RgX.one_plain (by rfl) (by (intro ax wx hk Kx hK; obtain ⟨v36, k36, h36⟩ := hk.dep 0 2 36 _ rfl rfl rfl; (first | (replace h36 := h36 9 undef rfl rfl; first | (cases (h36 : v36 = _)) | (obtain ⟨rfl, h36⟩ := h36) | skip) | skip); have hL := hk.fact 0 0 _ rfl rfl; (try dsimp only at hL); have hz := hk.fact 1 3 _ rfl rfl; (try dsimp only at hz); clear hk; obtain ⟨d0, d1, d2, -, -, -⟩ := rl_cells hL.1; go_simp; refine (HNX.out _).mono ?_; rintro e w' ⟨rfl, hb⟩; refine hK _ _ (fun h => by cases h) (fun _ _ => ?_) hb; apply RgX.mk))) ?_ rfl RgX.keep_eq (fun _ h => by cases h)
        refine RgX.build_cons (m := 5) (r := RgX.eq _) (RgX.one_plain (by rfl) (by (intro ax wx hk Kx hK; obtain ⟨v37, k37, h37⟩ := hk.dep 0 3 37 _ rfl rfl rfl; (first | (replace h37 := h37 9 undef rfl rfl; first | (cases (h37 : v37 = _)) | (obtain ⟨rfl, h37⟩ := h37) | skip) | skip); have hL := hk.fact 0 0 _ rfl rfl; (try dsimp only at hL); have hz := hk.fact 1 2 _ rfl rfl; (try dsimp only at hz); clear hk; obtain ⟨d0, d1, d2, -, -, -⟩ := rl_cells hL.1; go_simp; refine hK _ _ (fun h => by cases h) (fun _ _ => ?_) (Below.refl _ _); apply RgX.mk))) ?_ rfl RgX.keep_eq (fun _ h => by cases h)
        first
          | refine RgX.build_cons (m := 6) (RgX.one_no 4 38 true (by rfl) (by rfl) (by rfl) (by rfl)) ?_ rfl RgX.keep_eq (fun _ h => by cases h)
          | refine RgX.build_cons (m := 6) (RgX.one_und 4 38 true (by rfl) (by rfl) (by rfl) (by rfl)) ?_ rfl RgX.keep_eq (fun _ h => by cases h)
          | refine RgX.build_cons (m := 6) (r := RgX.eq _) (RgX.one_yes 4 38 true (by rfl) (by rfl) (by rfl) (by rfl) (by (intro ax wx hk Kx hK; have k6 := hk.base 6 _ rfl rfl; have hL := hk.fact 0 0 _ rfl rfl; (try dsimp only at hL); have hz := hk.fact 1 3 _ rfl rfl; (try dsimp only at hz); clear hk; obtain ⟨d0, d1, d2, -, -, -⟩ := rl_cells hL.1; go_simp; refine hK _ _ (fun h => by cases h) (fun _ _ => ?_) (Below.refl _ _); apply RgX.mk))) ?_ rfl RgX.keep_eq (fun _ h => by cases h)
        first
          | refine RgX.build_cons (m := 7) (RgX.one_no 4 38 true (by rfl) (by rfl) (by rfl) (by rfl)) ?_ rfl RgX.keep_eq (fun _ h => by cases h)
          | refine RgX.build_cons (m := 7) (RgX.one_und 4 38 true (by rfl) (by rfl) (by rfl) (by rfl)) ?_ rfl RgX.keep_eq (fun _ h => by cases h)
          | refine RgX.build_cons (m := 7) (r := RgX.eq _) (RgX.one_yes 4 38 true (by rfl) (by rfl) (by rfl) (by rfl) (by (intro ax wx hk Kx hK; obtain ⟨v39, k39, h39⟩ := hk.dep 0 5 39 _ rfl rfl rfl; (first | (replace h39 := h39 9 undef rfl rfl; first | (cases (h39 : v39 = _)) | (obtain ⟨rfl, h39⟩ := h39) | skip) | skip); have hL := hk.fact 0 0 _ rfl rfl; (try dsimp only at hL); have hz := hk.fact 1 2 _ rfl rfl; (try dsimp only at hz); clear hk; obtain ⟨d0, d1, d2, -, -, -⟩ := rl_cells hL.1; go_simp; refine hK _ _ (fun h => by cases h) (fun _ _ => ?_) (Below.refl _ _); apply RgX.mk))) ?_ rfl RgX.keep_eq (fun _ h => by cases h)
        first
          | refine RgX.build_cons (m := 8) (RgX.one_no 4 38 true (by rfl) (by rfl) (by rfl) (by rfl)) ?_ rfl RgX.keep_eq (fun _ h => by cases h)
          | refine RgX.build_cons (m := 8) (RgX.one_und 4 38 true (by rfl) (by rfl) (by rfl) (by rfl)) ?_ rfl RgX.keep_eq (fun _ h => by cases h)
          | refine RgX.build_cons (m := 8) (r := RgX.eq _) (RgX.one_yes 4 38 true (by rfl) (by rfl) (by rfl) (by rfl) (by (intro ax wx hk Kx hK; obtain ⟨v40, k40, h40⟩ := hk.dep 0 6 40 _ rfl rfl rfl; (first | (replace h40 := h40 9 undef rfl rfl; first | (cases (h40 : v40 = _)) | (obtain ⟨rfl, h40⟩ := h40) | skip) | skip); have hL := hk.fact 0 0 _ rfl rfl; (try dsimp only at hL); have hz := hk.fact 1 1 _ rfl rfl; (try dsimp only at hz); clear hk; obtain ⟨d0, d1, d2, -, -, -⟩ := rl_cells hL.1; go_simp; refine hK _ _ (fun h => by cases h) (fun _ _ => ?_) (Below.refl _ _); apply RgX.mk))) ?_ rfl RgX.keep_eq (fun _ h => by cases h)
        first
          | refine RgX.build_cons (m := 9) (RgX.one_no 7 41 false (by rfl) (by rfl) (by rfl) (by rfl)) ?_ rfl RgX.keep_eq (fun _ h => by cases h)
          | refine RgX.build_cons (m := 9) (RgX.one_und 7 41 false (by rfl) (by rfl) (by rfl) (by rfl)) ?_ rfl RgX.keep_eq (fun _ h => by cases h)
          | refine RgX.build_cons (m := 9) (r := RgX.eq _) (RgX.one_yes 7 41 false (by rfl) (by rfl) (by rfl) (by rfl) (by (intro ax wx hk Kx hK; have k0 := hk.base 0 _ rfl rfl; have hL := hk.fact 0 0 _ rfl rfl; (try dsimp only at hL); clear hk; obtain ⟨d0, d1, d2, -, -, -⟩ := rl_cells hL.1; go_simp; refine hK _ _ (fun h => by cases h) (fun _ _ => ?_) (Below.refl _ _); apply RgX.mk))) ?_ rfl RgX.keep_eq (fun _ h => by cases h)
        first
          | refine RgX.build_cons (m := 10) (RgX.one_no 7 41 false (by rfl) (by rfl) (by rfl) (by rfl)) ?_ rfl RgX.keep_eq (fun _ h => by cases h)
          | refine RgX.build_cons (m := 10) (RgX.one_und 7 41 false (by rfl) (by rfl) (by rfl) (by rfl)) ?_ rfl RgX.keep_eq (fun _ h => by cases h)
          | refine RgX.build_cons (m := 10) (r := RgX.eq _) (RgX.one_yes 7 41 false (by rfl) (by rfl) (by rfl) (by rfl) (by (intro ax wx hk Kx hK; have k5 := hk.base 5 _ rfl rfl; have hL := hk.fact 0 0 _ rfl rfl; (try dsimp only at hL); clear hk; obtain ⟨d0, d1, d2, -, -, -⟩ := rl_cells hL.1; go_simp; refine hK _ _ (fun h => by cases h) (fun _ _ => ?_) (Below.refl _ _); apply RgX.mk))) ?_ rfl RgX.keep_eq (fun _ h => by cases h)
        first
          | refine RgX.build_cons (m := 11) (RgX.one_no 7 41 false (by rfl) (by rfl) (by rfl) (by rfl)) ?_ rfl RgX.keep_eq (fun _ h => by cases h)
          | refine RgX.build_cons (m := 11) (RgX.one_und 7 41 false (by rfl) (by rfl) (by rfl) (by rfl)) ?_ rfl RgX.keep_eq (fun _ h => by cases h)
          | refine RgX.build_cons (m := 11) (r := RgX.eq _) (RgX.one_yes 7 41 false (by rfl) (by rfl) (by rfl) (by rfl) (by (intro ax wx hk Kx hK; obtain ⟨v43, k43, h43⟩ := hk.dep 0 9 43 _ rfl rfl rfl; (first | (replace h43 := h43 9 undef rfl rfl; first | (cases (h43 : v43 = _)) | (obtain ⟨rfl, h43⟩ := h43) | skip) | skip); have hL := hk.fact 0 0 _ rfl rfl; (try dsimp only at hL); clear hk; obtain ⟨d0, d1, d2, -, -, -⟩ := rl_cells hL.1; go_simp; refine hK _ _ (fun h => by cases h) (fun _ _ => ?_) (Below.refl _ _); apply RgX.mk))) ?_ rfl RgX.keep_eq (fun _ h => by cases h)
        first
          | refine RgX.build_cons (m := 12) (RgX.one_no 7 41 false (by rfl) (by rfl) (by rfl) (by rfl)) ?_ rfl RgX.keep_eq (fun _ h => by cases h)
          | refine RgX.build_cons (m := 12) (RgX.one_und 7 41 false (by rfl) (by rfl) (by rfl) (by rfl)) ?_ rfl RgX.keep_eq (fun _ h => by cases h)
          | refine RgX.build_cons (m := 12) (r := RgX.eq (.string tl)) (RgX.one_yes 7 41 false (by rfl) (by rfl) (by rfl) (by rfl) (by (intro ax wx hk Kx hK; obtain ⟨v42, k42, h42⟩ := hk.dep 0 8 42 _ rfl rfl rfl; (first | (replace h42 := h42 9 undef rfl rfl; first | (cases (h42 : v42 = _)) | (obtain ⟨rfl, h42⟩ := h42) | skip) | skip); obtain ⟨v44, k44, h44⟩ := hk.dep 0 10 44 _ rfl rfl rfl; (first | (replace h44 := h44 9 undef rfl rfl; first | (cases (h44 : v44 = _)) | (obtain ⟨rfl, h44⟩ := h44) | skip) | skip); have hL := hk.fact 0 0 _ rfl rfl; (try dsimp only at hL); clear hk; obtain ⟨d0, d1, d2, -, -, -⟩ := rl_cells hL.1; (have hx := S2.out; go_simp; refine hK _ _ (fun h => by cases h) (fun _ _ => ?_) (Below.refl _ _); apply RgX.mk)))) ?_ rfl RgX.keep_eq (fun _ h => by cases h)
        first
          | refine RgX.build_cons (m := 13) (RgX.one_no 7 41 false (by rfl) (by rfl) (by rfl) (by rfl)) ?_ rfl RgX.keep_eq (fun _ h => by cases h)
          | refine RgX.build_cons (m := 13) (RgX.one_und 7 41 false (by rfl) (by rfl) (by rfl) (by rfl)) ?_ rfl RgX.keep_eq (fun _ h => by cases h)
          | refine RgX.build_cons (m := 13) (r := RgX.eq (.bool pl)) (RgX.one_yes 7 41 false (by rfl) (by rfl) (by rfl) (by rfl) (by (intro ax wx hk Kx hK; obtain ⟨v45, k45, h45⟩ := hk.dep 0 11 45 _ rfl rfl rfl; (first | (replace h45 := h45 9 undef rfl rfl; first | (cases (h45 : v45 = _)) | (obtain ⟨rfl, h45⟩ := h45) | skip) | skip); have hL := hk.fact 0 0 _ rfl rfl; (try dsimp only at hL); clear hk; obtain ⟨d0, d1, d2, -, -, -⟩ := rl_cells hL.1; (go_simp; refine hK _ _ (fun h => by cases h) (fun _ _ => ?_) (Below.refl _ _); show Value.bool _ = Value.bool pl; rw [HPL.out])))) ?_ rfl RgX.keep_eq (fun _ h => by cases h)
        first
          | refine RgX.build_cons (m := 14) (RgX.one_no 4 38 true (by rfl) (by rfl) (by rfl) (by rfl)) ?_ rfl RgX.keep_eq (fun _ h => by cases h)
          | refine RgX.build_cons (m := 14) (RgX.one_und 4 38 true (by rfl) (by rfl) (by rfl) (by rfl)) ?_ rfl RgX.keep_eq (fun _ h => by cases h)
          | refine RgX.build_cons (m := 14) (r := RgX.eq _) (RgX.one_yes 4 38 true (by rfl) (by rfl) (by rfl) (by rfl) (by (intro ax wx hk Kx hK; obtain ⟨v41, k41, h41⟩ := hk.dep 0 7 41 _ rfl rfl rfl; (first | (replace h41 := h41 9 undef rfl rfl; first | (cases (h41 : v41 = _)) | (obtain ⟨rfl, h41⟩ := h41) | skip) | skip); obtain ⟨v46, k46, h46⟩ := hk.dep 0 12 46 _ rfl rfl rfl; (first | (replace h46 := h46 9 undef rfl rfl; first | (cases (h46 : v46 = _)) | (obtain ⟨rfl, h46⟩ := h46) | skip) | skip); have hL := hk.fact 0 0 _ rfl rfl; (try dsimp only at hL); clear hk; obtain ⟨d0, d1, d2, -, -, -⟩ := rl_cells hL.1; go_simp; refine hK _ _ (fun h => by cases h) (fun _ _ => ?_) (Below.refl _ _); apply RgX.mk))) ?_ rfl RgX.keep_eq (fun _ h => by cases h)
        refine RgX.build_cons (m := 15) (r := RgX.eq _) (RgX.one_plain (by rfl) (by (intro ax wx hk Kx hK; obtain ⟨v38, k38, h38⟩ := hk.dep 0 4 38 _ rfl rfl rfl; (first | (replace h38 := h38 9 undef rfl rfl; first | (cases (h38 : v38 = _)) | (obtain ⟨rfl, h38⟩ := h38) | skip) | skip); obtain ⟨v47, k47, h47⟩ := hk.dep 0 13 47 _ rfl rfl rfl; (first | (replace h47 := h47 9 undef rfl rfl; first | (cases (h47 : v47 = _)) | (obtain ⟨rfl, h47⟩ := h47) | skip) | skip); have hL := hk.fact 0 0 _ rfl rfl; (try dsimp only at hL); clear hk; obtain ⟨d0, d1, d2, -, -, -⟩ := rl_cells hL.1; go_simp; refine hK _ _ (fun h => by cases h) (fun _ _ => ?_) (Below.refl _ _); apply RgX.mk))) ?_ rfl RgX.keep_eq (fun _ h => by cases h)
        refine RgX.build_cons (m := 16) (r := (⟨fun _ _ w5 => AtG w5 w.heap.size 35 (rlC nm pt false), none, none⟩ : RgX.Rl)) (RgX.one_plain (by rfl) (by (intro ax wx hk Kx hK; have k2 := hk.base 2 _ rfl rfl; obtain ⟨v34, k34, h34⟩ := hk.dep 0 0 34 _ rfl rfl rfl; (first | (replace h34 := h34 9 undef rfl rfl; first | (cases (h34 : v34 = _)) | (obtain ⟨rfl, h34⟩ := h34) | skip) | skip); have hL := hk.fact 0 0 _ rfl rfl; (try dsimp only at hL); have hz := hk.fact 1 0 _ rfl rfl; (try dsimp only at hz); clear hk; obtain ⟨d0, d1, d2, -, -, -⟩ := rl_cells hL.1; (obtain ⟨e0, e1, e2, f0, f1, f2⟩ := rl_cells hz; go_simp; exact hK undef (put3 wx w.heap.size nm pt false) (fun _ => rfl) (fun u hu => put3_at hz) rfl)))) ?_ rfl (RgX.keep_r (fun _ _ _ _ h hb => h.below hb) (fun _ _ => ⟨fun h _ _ _ => absurd rfl h, trivial⟩)) (fun _ h => by cases h)
        refine RgX.build_cons (m := 17) (r := RgX.eq _) (RgX.one_plain (by rfl) (by (intro ax wx hk Kx hK; obtain ⟨v48, k48, h48⟩ := hk.dep 0 14 48 _ rfl rfl rfl; (first | (replace h48 := h48 9 undef rfl rfl; first | (cases (h48 : v48 = _)) | (obtain ⟨rfl, h48⟩ := h48) | skip) | skip); have hL := hk.fact 0 0 _ rfl rfl; (try dsimp only at hL); clear hk; obtain ⟨d0, d1, d2, -, -, -⟩ := rl_cells hL.1; go_simp; refine hK _ _ (fun h => by cases h) (fun _ _ => ?_) (Below.refl _ _); apply RgX.mk))) ?_ rfl RgX.keep_eq (fun _ h => by cases h)
        refine RgX.build_end fun wx hj => ?_
        have hL := hj 0 _ rfl rfl
        clear hj
        refine RgX.fin_eq rfl ?_
        refine RgX.fin_eq rfl ?_
        refine RgX.fin_eq rfl ?_
        refine RgX.fin_eq rfl ?_
        refine RgX.fin_eq rfl ?_
        refine RgX.fin_eq rfl ?_
        refine RgX.fin_eq rfl ?_
        refine RgX.fin_eq rfl ?_
        refine RgX.fin_eq rfl ?_
        refine RgX.fin_eq rfl ?_
        refine RgX.fin_eq rfl ?_
        refine RgX.fin_eq rfl ?_
        refine RgX.fin_eq rfl ?_
        refine RgX.fin_eq rfl ?_
        refine RgX.fin_eq rfl ?_
        refine RgX.fin_none rfl fun s15 => ?_
        refine RgX.fin_eq rfl ?_
        refine RgX.fin_nil ?_
        simp only [List.set_cons_zero, List.set_cons_succ]
        have hz3 := s15 rfl undef rfl
        have HB3 := Lib.hid hL.2
        clear s15 hL
        obtain ⟨d0, d1, d2, -, -, -⟩ := rl_cells hz3
        clear hz3
        have HRES : Hid (RulePost s w (.returned (.tuple #[rlA nm pt false, .bool pl])) wx) := Lib.hid ⟨HB3.out, by
          cases pl
          · exact .inr ⟨HAT2.out.2 (.inr ⟨rfl, rfl⟩), _, _, _, rfl⟩
          · exact .inl ⟨_, HAT2.out.1 ⟨rfl, .inr rfl⟩, rfl⟩⟩
        clear HA2 HB2 HG2 HG0 HAT2 HPL HB3 HNX S2
        go_wp2_with fail
        refine bodyPost_ret (v := .tuple #[rlA nm pt false, .bool pl]) (by unfold rlA; simp [results, Tryd.results15, go_sem, d0, d1, d2]; try rfl) rfl ?_
        exact HRES.out
      · skip
        refine RgX.start (by kernel_rfl) [(15, fun w5 w6 => w6 = put3 w5 w.heap.size nm pt true)] [⟨fun w5 => AtG w5 gg 35 (rlC nm pt true) ∧ Below w.heap.size w w5, none⟩, ⟨fun w5 => AtG w5 w.heap.size 35 (rlC ByteArray.empty ByteArray.empty false), some 15⟩] ⟨⟨fun _ _ h hb => ⟨h.1.below hb, h.2.trans (hb.mono h.2.size)⟩, ⟨fun _ _ _ _ => (fun w5 w6 h he => by subst he; exact ⟨put3_far h.1 (by have := HG0.out; omega), put3_below h.2 (Nat.le_refl _)⟩), trivial⟩⟩, ⟨fun _ _ h hb => h.below hb, ⟨fun _ h _ _ => absurd rfl h, trivial⟩⟩, trivial⟩ (by kernel_rfl) (by kernel_rfl) ⟨⟨HG2.out.drew, HB2.out.drew⟩, HA2.out.drew, trivial⟩ ?_
        show RgX.Build _ _ _ _ _ _ 0 [_, _, _, _, _, _, _, _, _, _, _, _, _, _, _, _, _] []
        refine RgX.build_cons (m := 1) (r := RgX.eq _) (RgX.one_plain (by rfl) (by (intro ax wx hk Kx hK; have k6 := hk.base 6 _ rfl rfl; have hL := hk.fact 0 0 _ rfl rfl; (try dsimp only at hL); have hz := hk.fact 1 1 _ rfl rfl; (try dsimp only at hz); clear hk; obtain ⟨d0, d1, d2, -, -, -⟩ := rl_cells hL.1; go_simp; refine hK _ _ (fun h => by cases h) (fun _ _ => ?_) (Below.refl _ _); apply RgX.mk))) ?_ rfl RgX.keep_eq (fun _ h => by cases h)
        refine RgX.build_cons (m := 2) (r := RgX.eq _) (RgX.one_plain (by rfl) (by (intro ax wx hk Kx hK; have k6 := hk.base 6 _ rfl rfl; have hL := hk.fact 0 0 _ rfl rfl; (try dsimp only at hL); have hz := hk.fact 1 5 _ rfl rfl; (try dsimp only at hz); clear hk; obtain ⟨d0, d1, d2, -, -, -⟩ := rl_cells hL.1; go_simp; refine hK _ _ (fun h => by cases h) (fun _ _ => ?_) (Below.refl _ _); apply RgX.mk))) ?_ rfl RgX.keep_eq (fun _ h => by cases h)
        refine RgX.build_cons (m := 3) (r := RgX.eq _) (RgX.one_plain (by rfl) (by (intro ax wx hk Kx hK; obtain ⟨v35, k35, h35⟩ := hk.dep 0 1 35 _ rfl rfl rfl; (first | (replace h35 := h35 9 undef rfl rfl; first | (cases (h35 : v35 = _)) | (obtain ⟨rfl, h35⟩ := h35) | skip) | skip); have hL := hk.fact 0 0 _ rfl rfl; (try dsimp only at hL); have hz := hk.fact 1 4 _ rfl rfl; (try dsimp only at hz); clear hk; obtain ⟨d0, d1, d2, -, -, -⟩ := rl_cells hL.1; go_simp; refine hK _ _ (fun h => by cases h) (fun _ _ => ?_) (Below.refl _ _); apply RgX.mk))) ?_ rfl RgX.keep_eq (fun _ h => by cases h)
        refine RgX.build_cons (m := 4) (r := RgX.eq _) (RgX.one_plain (by rfl) (by (intro ax wx hk Kx hK; obtain ⟨v36, k36, h36⟩ := hk.dep 0 2 36 _ rfl rfl rfl; (first | (replace h36 := h36 9 undef rfl rfl; first | (cases (h36 : v36 = _)) | (obtain ⟨rfl, h36⟩ := h36) | skip) | skip); have hL := hk.fact 0 0 _ rfl rfl; (try dsimp only at hL); have hz := hk.fact 1 3 _ rfl rfl; (try dsimp only at hz); clear hk; obtain ⟨d0, d1, d2, -, -, -⟩ := rl_cells hL.1; go_simp; refine (HNX.out _).mono ?_; rintro e w' ⟨rfl, hb⟩; refine hK _ _ (fun h => by cases h) (fun _ _ => ?_) hb; apply RgX.mk))) ?_ rfl RgX.keep_eq (fun _ h => by cases h)
        refine RgX.build_cons (m := 5) (r := RgX.eq _) (RgX.one_plain (by rfl) (by (intro ax wx hk Kx hK; obtain ⟨v37, k37, h37⟩ := hk.dep 0 3 37 _ rfl rfl rfl; (first | (replace h37 := h37 9 undef rfl rfl; first | (cases (h37 : v37 = _)) | (obtain ⟨rfl, h37⟩ := h37) | skip) | skip); have hL := hk.fact 0 0 _ rfl rfl; (try dsimp only at hL); have hz := hk.fact 1 2 _ rfl rfl; (try dsimp only at hz); clear hk; obtain ⟨d0, d1, d2, -, -, -⟩ := rl_cells hL.1; go_simp; refine hK _ _ (fun h => by cases h) (fun _ _ => ?_) (Below.refl _ _); apply RgX.mk))) ?_ rfl RgX.keep_eq (fun _ h => by cases h)
        first
          | refine RgX.build_cons (m := 6) (RgX.one_no 4 38 true (by rfl) (by rfl) (by rfl) (by rfl)) ?_ rfl RgX.keep_eq (fun _ h => by cases h)
          | refine RgX.build_cons (m := 6) (RgX.one_und 4 38 true (by rfl) (by rfl) (by rfl) (by rfl)) ?_ rfl RgX.keep_eq (fun _ h => by cases h)
          | refine RgX.build_cons (m := 6) (r := RgX.eq _) (RgX.one_yes 4 38 true (by rfl) (by rfl) (by rfl) (by rfl) (by (intro ax wx hk Kx hK; have k6 := hk.base 6 _ rfl rfl; have hL := hk.fact 0 0 _ rfl rfl; (try dsimp only at hL); have hz := hk.fact 1 3 _ rfl rfl; (try dsimp only at hz); clear hk; obtain ⟨d0, d1, d2, -, -, -⟩ := rl_cells hL.1; go_simp; refine hK _ _ (fun h => by cases h) (fun _ _ => ?_) (Below.refl _ _); apply RgX.mk))) ?_ rfl RgX.keep_eq (fun _ h => by cases h)
        first
          | refine RgX.build_cons (m := 7) (RgX.one_no 4 38 true (by rfl) (by rfl) (by rfl) (by rfl)) ?_ rfl RgX.keep_eq (fun _ h => by cases h)
          | refine RgX.build_cons (m := 7) (RgX.one_und 4 38 true (by rfl) (by rfl) (by rfl) (by rfl)) ?_ rfl RgX.keep_eq (fun _ h => by cases h)
          | refine RgX.build_cons (m := 7) (r := RgX.eq _) (RgX.one_yes 4 38 true (by rfl) (by rfl) (by rfl) (by rfl) (by (intro ax wx hk Kx hK; obtain ⟨v39, k39, h39⟩ := hk.dep 0 5 39 _ rfl rfl rfl; (first | (replace h39 := h39 9 undef rfl rfl; first | (cases (h39 : v39 = _)) | (obtain ⟨rfl, h39⟩ := h39) | skip) | skip); have hL := hk.fact 0 0 _ rfl rfl; (try dsimp only at hL); have hz := hk.fact 1 2 _ rfl rfl; (try dsimp only at hz); clear hk; obtain ⟨d0, d1, d2, -, -, -⟩ := rl_cells hL.1; go_simp; refine hK _ _ (fun h => by cases h) (fun _ _ => ?_) (Below.refl _ _); apply RgX.mk))) ?_ rfl RgX.keep_eq (fun _ h => by cases h)
        first
          | refine RgX.build_cons (m := 8) (RgX.one_no 4 38 true (by rfl) (by rfl) (by rfl) (by rfl)) ?_ rfl RgX.keep_eq (fun _ h => by cases h)
          | refine RgX.build_cons (m := 8) (RgX.one_und 4 38 true (by rfl) (by rfl) (by rfl) (by rfl)) ?_ rfl RgX.keep_eq (fun _ h => by cases h)
          | refine RgX.build_cons (m := 8) (r := RgX.eq _) (RgX.one_yes 4 38 true (by rfl) (by rfl) (by rfl) (by rfl) (by (intro ax wx hk Kx hK; obtain ⟨v40, k40, h40⟩ := hk.dep 0 6 40 _ rfl rfl rfl; (first | (replace h40 := h40 9 undef rfl rfl; first | (cases (h40 : v40 = _)) | (obtain ⟨rfl, h40⟩ := h40) | skip) | skip); have hL := hk.fact 0 0 _ rfl rfl; (try dsimp only at hL); have hz := hk.fact 1 1 _ rfl rfl; (try dsimp only at hz); clear hk; obtain ⟨d0, d1, d2, -, -, -⟩ := rl_cells hL.1; go_simp; refine hK _ _ (fun h => by cases h) (fun _ _ => ?_) (Below.refl _ _); apply RgX.mk))) ?_ rfl RgX.keep_eq (fun _ h => by cases h)
        first
          | refine RgX.build_cons (m := 9) (RgX.one_no 7 41 false (by rfl) (by rfl) (by rfl) (by rfl)) ?_ rfl RgX.keep_eq (fun _ h => by cases h)
          | refine RgX.build_cons (m := 9) (RgX.one_und 7 41 false (by rfl) (by rfl) (by rfl) (by rfl)) ?_ rfl RgX.keep_eq (fun _ h => by cases h)
          | refine RgX.build_cons (m := 9) (r := RgX.eq _) (RgX.one_yes 7 41 false (by rfl) (by rfl) (by rfl) (by rfl) (by (intro ax wx hk Kx hK; have k0 := hk.base 0 _ rfl rfl; have hL := hk.fact 0 0 _ rfl rfl; (try dsimp only at hL); clear hk; obtain ⟨d0, d1, d2, -, -, -⟩ := rl_cells hL.1; go_simp; refine hK _ _ (fun h => by cases h) (fun _ _ => ?_) (Below.refl _ _); apply RgX.mk))) ?_ rfl RgX.keep_eq (fun _ h => by cases h)
        first
          | refine RgX.build_cons (m := 10) (RgX.one_no 7 41 false (by rfl) (by rfl) (by rfl) (by rfl)) ?_ rfl RgX.keep_eq (fun _ h => by cases h)
          | refine RgX.build_cons (m := 10) (RgX.one_und 7 41 false (by rfl) (by rfl) (by rfl) (by rfl)) ?_ rfl RgX.keep_eq (fun _ h => by cases h)
          | refine RgX.build_cons (m := 10) (r := RgX.eq _) (RgX.one_yes 7 41 false (by rfl) (by rfl) (by rfl) (by rfl) (by (intro ax wx hk Kx hK; have k5 := hk.base 5 _ rfl rfl; have hL := hk.fact 0 0 _ rfl rfl; (try dsimp only at hL); clear hk; obtain ⟨d0, d1, d2, -, -, -⟩ := rl_cells hL.1; go_simp; refine hK _ _ (fun h => by cases h) (fun _ _ => ?_) (Below.refl _ _); apply RgX.mk))) ?_ rfl RgX.keep_eq (fun _ h => by cases h)
        first
          | refine RgX.build_cons (m := 11) (RgX.one_no 7 41 false (by rfl) (by rfl) (by rfl) (by rfl)) ?_ rfl RgX.keep_eq (fun _ h => by cases h)
          | refine RgX.build_cons (m := 11) (RgX.one_und 7 41 false (by rfl) (by rfl) (by rfl) (by rfl)) ?_ rfl RgX.keep_eq (fun _ h => by cases h)
          | refine RgX.build_cons (m := 11) (r := RgX.eq _) (RgX.one_yes 7 41 false (by rfl) (by rfl) (by rfl) (by rfl) (by (intro ax wx hk Kx hK; obtain ⟨v43, k43, h43⟩ := hk.dep 0 9 43 _ rfl rfl rfl; (first | (replace h43 := h43 9 undef rfl rfl; first | (cases (h43 : v43 = _)) | (obtain ⟨rfl, h43⟩ := h43) | skip) | skip); have hL := hk.fact 0 0 _ rfl rfl; (try dsimp only at hL); clear hk; obtain ⟨d0, d1, d2, -, -, -⟩ := rl_cells hL.1; go_simp; refine hK _ _ (fun h => by cases h) (fun _ _ => ?_) (Below.refl _ _); apply RgX.mk))) ?_ rfl RgX.keep_eq (fun _ h => by cases h)
        first
          | refine RgX.build_cons (m := 12) (RgX.one_no 7 41 false (by rfl) (by rfl) (by rfl) (by rfl)) ?_ rfl RgX.keep_eq (fun _ h => by cases h)
          | refine RgX.build_cons (m := 12) (RgX.one_und 7 41 false (by rfl) (by rfl) (by rfl) (by rfl)) ?_ rfl RgX.keep_eq (fun _ h => by cases h)
          | refine RgX.build_cons (m := 12) (r := RgX.eq (.string tl)) (RgX.one_yes 7 41 false (by rfl) (by rfl) (by rfl) (by rfl) (by (intro ax wx hk Kx hK; obtain ⟨v42, k42, h42⟩ := hk.dep 0 8 42 _ rfl rfl rfl; (first | (replace h42 := h42 9 undef rfl rfl; first | (cases (h42 : v42 = _)) | (obtain ⟨rfl, h42⟩ := h42) | skip) | skip); obtain ⟨v44, k44, h44⟩ := hk.dep 0 10 44 _ rfl rfl rfl; (first | (replace h44 := h44 9 undef rfl rfl; first | (cases (h44 : v44 = _)) | (obtain ⟨rfl, h44⟩ := h44) | skip) | skip); have hL := hk.fact 0 0 _ rfl rfl; (try dsimp only at hL); clear hk; obtain ⟨d0, d1, d2, -, -, -⟩ := rl_cells hL.1; (have hx := S2.out; go_simp; refine hK _ _ (fun h => by cases h) (fun _ _ => ?_) (Below.refl _ _); apply RgX.mk)))) ?_ rfl RgX.keep_eq (fun _ h => by cases h)
        first
          | refine RgX.build_cons (m := 13) (RgX.one_no 7 41 false (by rfl) (by rfl) (by rfl) (by rfl)) ?_ rfl RgX.keep_eq (fun _ h => by cases h)
          | refine RgX.build_cons (m := 13) (RgX.one_und 7 41 false (by rfl) (by rfl) (by rfl) (by rfl)) ?_ rfl RgX.keep_eq (fun _ h => by cases h)
          | refine RgX.build_cons (m := 13) (r := RgX.eq (.bool pl)) (RgX.one_yes 7 41 false (by rfl) (by rfl) (by rfl) (by rfl) (by (intro ax wx hk Kx hK; obtain ⟨v45, k45, h45⟩ := hk.dep 0 11 45 _ rfl rfl rfl; (first | (replace h45 := h45 9 undef rfl rfl; first | (cases (h45 : v45 = _)) | (obtain ⟨rfl, h45⟩ := h45) | skip) | skip); have hL := hk.fact 0 0 _ rfl rfl; (try dsimp only at hL); clear hk; obtain ⟨d0, d1, d2, -, -, -⟩ := rl_cells hL.1; (go_simp; refine hK _ _ (fun h => by cases h) (fun _ _ => ?_) (Below.refl _ _); show Value.bool _ = Value.bool pl; rw [HPL.out])))) ?_ rfl RgX.keep_eq (fun _ h => by cases h)
        first
          | refine RgX.build_cons (m := 14) (RgX.one_no 4 38 true (by rfl) (by rfl) (by rfl) (by rfl)) ?_ rfl RgX.keep_eq (fun _ h => by cases h)
          | refine RgX.build_cons (m := 14) (RgX.one_und 4 38 true (by rfl) (by rfl) (by rfl) (by rfl)) ?_ rfl RgX.keep_eq (fun _ h => by cases h)
          | refine RgX.build_cons (m := 14) (r := RgX.eq _) (RgX.one_yes 4 38 true (by rfl) (by rfl) (by rfl) (by rfl) (by (intro ax wx hk Kx hK; obtain ⟨v41, k41, h41⟩ := hk.dep 0 7 41 _ rfl rfl rfl; (first | (replace h41 := h41 9 undef rfl rfl; first | (cases (h41 : v41 = _)) | (obtain ⟨rfl, h41⟩ := h41) | skip) | skip); obtain ⟨v46, k46, h46⟩ := hk.dep 0 12 46 _ rfl rfl rfl; (first | (replace h46 := h46 9 undef rfl rfl; first | (cases (h46 : v46 = _)) | (obtain ⟨rfl, h46⟩ := h46) | skip) | skip); have hL := hk.fact 0 0 _ rfl rfl; (try dsimp only at hL); clear hk; obtain ⟨d0, d1, d2, -, -, -⟩ := rl_cells hL.1; go_simp; refine hK _ _ (fun h => by cases h) (fun _ _ => ?_) (Below.refl _ _); apply RgX.mk))) ?_ rfl RgX.keep_eq (fun _ h => by cases h)
        refine RgX.build_cons (m := 15) (r := RgX.eq _) (RgX.one_plain (by rfl) (by (intro ax wx hk Kx hK; obtain ⟨v38, k38, h38⟩ := hk.dep 0 4 38 _ rfl rfl rfl; (first | (replace h38 := h38 9 undef rfl rfl; first | (cases (h38 : v38 = _)) | (obtain ⟨rfl, h38⟩ := h38) | skip) | skip); obtain ⟨v47, k47, h47⟩ := hk.dep 0 13 47 _ rfl rfl rfl; (first | (replace h47 := h47 9 undef rfl rfl; first | (cases (h47 : v47 = _)) | (obtain ⟨rfl, h47⟩ := h47) | skip) | skip); have hL := hk.fact 0 0 _ rfl rfl; (try dsimp only at hL); clear hk; obtain ⟨d0, d1, d2, -, -, -⟩ := rl_cells hL.1; go_simp; refine hK _ _ (fun h => by cases h) (fun _ _ => ?_) (Below.refl _ _); apply RgX.mk))) ?_ rfl RgX.keep_eq (fun _ h => by cases h)
        refine RgX.build_cons (m := 16) (r := (⟨fun _ _ w5 => AtG w5 w.heap.size 35 (rlC nm pt true), none, none⟩ : RgX.Rl)) (RgX.one_plain (by rfl) (by (intro ax wx hk Kx hK; have k2 := hk.base 2 _ rfl rfl; obtain ⟨v34, k34, h34⟩ := hk.dep 0 0 34 _ rfl rfl rfl; (first | (replace h34 := h34 9 undef rfl rfl; first | (cases (h34 : v34 = _)) | (obtain ⟨rfl, h34⟩ := h34) | skip) | skip); have hL := hk.fact 0 0 _ rfl rfl; (try dsimp only at hL); have hz := hk.fact 1 0 _ rfl rfl; (try dsimp only at hz); clear hk; obtain ⟨d0, d1, d2, -, -, -⟩ := rl_cells hL.1; (obtain ⟨e0, e1, e2, f0, f1, f2⟩ := rl_cells hz; go_simp; exact hK undef (put3 wx w.heap.size nm pt true) (fun _ => rfl) (fun u hu => put3_at hz) rfl)))) ?_ rfl (RgX.keep_r (fun _ _ _ _ h hb => h.below hb) (fun _ _ => ⟨fun h _ _ _ => absurd rfl h, trivial⟩)) (fun _ h => by cases h)
        refine RgX.build_cons (m := 17) (r := RgX.eq _) (RgX.one_plain (by rfl) (by (intro ax wx hk Kx hK; obtain ⟨v48, k48, h48⟩ := hk.dep 0 14 48 _ rfl rfl rfl; (first | (replace h48 := h48 9 undef rfl rfl; first | (cases (h48 : v48 = _)) | (obtain ⟨rfl, h48⟩ := h48) | skip) | skip); have hL := hk.fact 0 0 _ rfl rfl; (try dsimp only at hL); clear hk; obtain ⟨d0, d1, d2, -, -, -⟩ := rl_cells hL.1; go_simp; refine hK _ _ (fun h => by cases h) (fun _ _ => ?_) (Below.refl _ _); apply RgX.mk))) ?_ rfl RgX.keep_eq (fun _ h => by cases h)
        refine RgX.build_end fun wx hj => ?_
        have hL := hj 0 _ rfl rfl
        clear hj
        refine RgX.fin_eq rfl ?_
        refine RgX.fin_eq rfl ?_
        refine RgX.fin_eq rfl ?_
        refine RgX.fin_eq rfl ?_
        refine RgX.fin_eq rfl ?_
        refine RgX.fin_eq rfl ?_
        refine RgX.fin_eq rfl ?_
        refine RgX.fin_eq rfl ?_
        refine RgX.fin_eq rfl ?_
        refine RgX.fin_eq rfl ?_
        refine RgX.fin_eq rfl ?_
        refine RgX.fin_eq rfl ?_
        refine RgX.fin_eq rfl ?_
        refine RgX.fin_eq rfl ?_
        refine RgX.fin_eq rfl ?_
        refine RgX.fin_none rfl fun s15 => ?_
        refine RgX.fin_eq rfl ?_
        refine RgX.fin_nil ?_
        simp only [List.set_cons_zero, List.set_cons_succ]
        have hz3 := s15 rfl undef rfl
        have HB3 := Lib.hid hL.2
        clear s15 hL
        obtain ⟨d0, d1, d2, -, -, -⟩ := rl_cells hz3
        clear hz3
        have HRES : Hid (RulePost s w (.returned (.tuple #[rlA nm pt true, .bool true])) wx) := Lib.hid ⟨HB3.out, .inl ⟨_, HAT2.out.1 ⟨rfl, .inl rfl⟩, rfl⟩⟩
        clear HA2 HB2 HG2 HG0 HAT2 HPL HB3 HNX S2
        go_wp2_with fail
        refine bodyPost_ret (v := .tuple #[rlA nm pt true, .bool true]) (by unfold rlA; simp [results, Tryd.results15, go_sem, d0, d1, d2]; try rfl) rfl ?_
        exact HRES.out
    · have HNX : Hid (∀ w, Calls Tryd.prog 24 #[.string nm] w (fun e w' => e = .returned (.bool false) ∧ Below w.heap.size w w')) := Lib.hid (fun w => (namedX nm w HNS.out).mono (by
        rintro e w' ⟨r, h1, h2, h3⟩
        rcases h3 with ⟨-, h3⟩ | ⟨rfl, -⟩
        · exact absurd h3 hnm
        · exact ⟨h1, h2⟩))
      have HAT2 := Lib.hid (HAT.out false ⟨fun h => absurd h (by simp), fun h => absurd h hnm⟩)
      clear hnm HAT
      refine RgX.start (by kernel_rfl) [(15, fun w5 w6 => w6 = put3 w5 w.heap.size nm pt lu)] [⟨fun w5 => AtG w5 gg 35 (rlC nm pt lu) ∧ Below w.heap.size w w5, none⟩, ⟨fun w5 => AtG w5 w.heap.size 35 (rlC ByteArray.empty ByteArray.empty false), some 15⟩] ⟨⟨fun _ _ h hb => ⟨h.1.below hb, h.2.trans (hb.mono h.2.size)⟩, ⟨fun _ _ _ _ => (fun w5 w6 h he => by subst he; exact ⟨put3_far h.1 (by have := HG0.out; omega), put3_below h.2 (Nat.le_refl _)⟩), trivial⟩⟩, ⟨fun _ _ h hb => h.below hb, ⟨fun _ h _ _ => absurd rfl h, trivial⟩⟩, trivial⟩ (by kernel_rfl) (by kernel_rfl) ⟨⟨HG2.out.drew, HB2.out.drew⟩, HA2.out.drew, trivial⟩ ?_
      show RgX.Build _ _ _ _ _ _ 0 [_, _, _, _, _, _, _, _, _, _, _, _, _, _, _, _, _] []
      refine RgX.build_cons (m := 1) (r := RgX.eq _) (RgX.one_plain (by rfl) (by (intro ax wx hk Kx hK; have k6 := hk.base 6 _ rfl rfl; have hL := hk.fact 0 0 _ rfl rfl; (try dsimp only at hL); have hz := hk.fact 1 1 _ rfl rfl; (try dsimp only at hz); clear hk; obtain ⟨d0, d1, d2, -, -, -⟩ := rl_cells hL.1; go_simp; refine hK _ _ (fun h => by cases h) (fun _ _ => ?_) (Below.refl _ _); apply RgX.mk))) ?_ rfl RgX.keep_eq (fun _ h => by cases h)
      refine RgX.build_cons (m := 2) (r := RgX.eq _) (RgX.one_plain (by rfl) (by (intro ax wx hk Kx hK; have k6 := hk.base 6 _ rfl rfl; have hL := hk.fact 0 0 _ rfl rfl; (try dsimp only at hL); have hz := hk.fact 1 5 _ rfl rfl; (try dsimp only at hz); clear hk; obtain ⟨d0, d1, d2, -, -, -⟩ := rl_cells hL.1; go_simp; refine hK _ _ (fun h => by cases h) (fun _ _ => ?_) (Below.refl _ _); apply RgX.mk))) ?_ rfl RgX.keep_eq (fun _ h => by cases h)
      refine RgX.build_cons (m := 3) (r := RgX.eq _) (RgX.one_plain (by rfl) (by (intro ax wx hk Kx hK; obtain ⟨v35, k35, h35⟩ := hk.dep 0 1 35 _ rfl rfl rfl; (first | (replace h35 := h35 9 undef rfl rfl; first | (cases (h35 : v35 = _)) | (obtain ⟨rfl, h35⟩ := h35) | skip) | skip); have hL := hk.fact 0 0 _ rfl rfl; (try dsimp only at hL); have hz := hk.fact 1 4 _ rfl rfl; (try dsimp only at hz); clear hk; obtain ⟨d0, d1, d2, -, -, -⟩ := rl_cells hL.1; go_simp; refine hK _ _ (fun h => by cases h) (fun _ _ => ?_) (Below.refl _ _); apply RgX.mk))) ?_ rfl RgX.keep_eq (fun _ h => by cases h)
      refine RgX.build_cons (m := 4) (r := RgX.eq _) (RgX.one_plain (by rfl) (by (intro ax wx hk Kx hK; obtain ⟨v36, k36, h36⟩ := hk.dep 0 2 36 _ rfl rfl rfl; (first | (replace h36 := h36 9 undef rfl rfl; first | (cases (h36 : v36 = _)) | (obtain ⟨rfl, h36⟩ := h36) | skip) | skip); have hL := hk.fact 0 0 _ rfl rfl; (try dsimp only at hL); have hz := hk.fact 1 3 _ rfl rfl; (try dsimp only at hz); clear hk; obtain ⟨d0, d1, d2, -, -, -⟩ := rl_cells hL.1; go_simp; refine (HNX.out _).mono ?_; rintro e w' ⟨rfl, hb⟩; refine hK _ _ (fun h => by cases h) (fun _ _ => ?_) hb; apply RgX.mk))) ?_ rfl RgX.keep_eq (fun _ h => by cases h)
      refine RgX.build_cons (m := 5) (r := RgX.eq _) (RgX.one_plain (by rfl) (by (intro ax wx hk Kx hK; obtain ⟨v37, k37, h37⟩ := hk.dep 0 3 37 _ rfl rfl rfl; (first | (replace h37 := h37 9 undef rfl rfl; first | (cases (h37 : v37 = _)) | (obtain ⟨rfl, h37⟩ := h37) | skip) | skip); have hL := hk.fact 0 0 _ rfl rfl; (try dsimp only at hL); have hz := hk.fact 1 2 _ rfl rfl; (try dsimp only at hz); clear hk; obtain ⟨d0, d1, d2, -, -, -⟩ := rl_cells hL.1; go_simp; refine hK _ _ (fun h => by cases h) (fun _ _ => ?_) (Below.refl _ _); apply RgX.mk))) ?_ rfl RgX.keep_eq (fun _ h => by cases h)
      first
        | refine RgX.build_cons (m := 6) (RgX.one_no 4 38 true (by rfl) (by rfl) (by rfl) (by rfl)) ?_ rfl RgX.keep_eq (fun _ h => by cases h)
        | refine RgX.build_cons (m := 6) (RgX.one_und 4 38 true (by rfl) (by rfl) (by rfl) (by rfl)) ?_ rfl RgX.keep_eq (fun _ h => by cases h)
        | refine RgX.build_cons (m := 6) (r := RgX.eq _) (RgX.one_yes 4 38 true (by rfl) (by rfl) (by rfl) (by rfl) (by (intro ax wx hk Kx hK; have k6 := hk.base 6 _ rfl rfl; have hL := hk.fact 0 0 _ rfl rfl; (try dsimp only at hL); have hz := hk.fact 1 3 _ rfl rfl; (try dsimp only at hz); clear hk; obtain ⟨d0, d1, d2, -, -, -⟩ := rl_cells hL.1; go_simp; refine hK _ _ (fun h => by cases h) (fun _ _ => ?_) (Below.refl _ _); apply RgX.mk))) ?_ rfl RgX.keep_eq (fun _ h => by cases h)
      first
        | refine RgX.build_cons (m := 7) (RgX.one_no 4 38 true (by rfl) (by rfl) (by rfl) (by rfl)) ?_ rfl RgX.keep_eq (fun _ h => by cases h)
        | refine RgX.build_cons (m := 7) (RgX.one_und 4 38 true (by rfl) (by rfl) (by rfl) (by rfl)) ?_ rfl RgX.keep_eq (fun _ h => by cases h)
        | refine RgX.build_cons (m := 7) (r := RgX.eq _) (RgX.one_yes 4 38 true (by rfl) (by rfl) (by rfl) (by rfl) (by (intro ax wx hk Kx hK; obtain ⟨v39, k39, h39⟩ := hk.dep 0 5 39 _ rfl rfl rfl; (first | (replace h39 := h39 9 undef rfl rfl; first | (cases (h39 : v39 = _)) | (obtain ⟨rfl, h39⟩ := h39) | skip) | skip); have hL := hk.fact 0 0 _ rfl rfl; (try dsimp only at hL); have hz := hk.fact 1 2 _ rfl rfl; (try dsimp only at hz); clear hk; obtain ⟨d0, d1, d2, -, -, -⟩ := rl_cells hL.1; go_simp; refine hK _ _ (fun h => by cases h) (fun _ _ => ?_) (Below.refl _ _); apply RgX.mk))) ?_ rfl RgX.keep_eq (fun _ h => by cases h)
      first
        | refine RgX.build_cons (m := 8) (RgX.one_no 4 38 true (by rfl) (by rfl) (by rfl) (by rfl)) ?_ rfl RgX.keep_eq (fun _ h => by cases h)
        | refine RgX.build_cons (m := 8) (RgX.one_und 4 38 true (by rfl) (by rfl) (by rfl) (by rfl)) ?_ rfl RgX.keep_eq (fun _ h => by cases h)
        | refine RgX.build_cons (m := 8) (r := RgX.eq _) (RgX.one_yes 4 38 true (by rfl) (by rfl) (by rfl) (by rfl) (by (intro ax wx hk Kx hK; obtain ⟨v40, k40, h40⟩ := hk.dep 0 6 40 _ rfl rfl rfl; (first | (replace h40 := h40 9 undef rfl rfl; first | (cases (h40 : v40 = _)) | (obtain ⟨rfl, h40⟩ := h40) | skip) | skip); have hL := hk.fact 0 0 _ rfl rfl; (try dsimp only at hL); have hz := hk.fact 1 1 _ rfl rfl; (try dsimp only at hz); clear hk; obtain ⟨d0, d1, d2, -, -, -⟩ := rl_cells hL.1; go_simp; refine hK _ _ (fun h => by cases h) (fun _ _ => ?_) (Below.refl _ _); apply RgX.mk))) ?_ rfl RgX.keep_eq (fun _ h => by cases h)
      first
        | refine RgX.build_cons (m := 9) (RgX.one_no 7 41 false (by rfl) (by rfl) (by rfl) (by rfl)) ?_ rfl RgX.keep_eq (fun _ h => by cases h)
        | refine RgX.build_cons (m := 9) (RgX.one_und 7 41 false (by rfl) (by rfl) (by rfl) (by rfl)) ?_ rfl RgX.keep_eq (fun _ h => by cases h)
        | refine RgX.build_cons (m := 9) (r := RgX.eq _) (RgX.one_yes 7 41 false (by rfl) (by rfl) (by rfl) (by rfl) (by (intro ax wx hk Kx hK; have k0 := hk.base 0 _ rfl rfl; have hL := hk.fact 0 0 _ rfl rfl; (try dsimp only at hL); clear hk; obtain ⟨d0, d1, d2, -, -, -⟩ := rl_cells hL.1; go_simp; refine hK _ _ (fun h => by cases h) (fun _ _ => ?_) (Below.refl _ _); apply RgX.mk))) ?_ rfl RgX.keep_eq (fun _ h => by cases h)
      first
        | refine RgX.build_cons (m := 10) (RgX.one_no 7 41 false (by rfl) (by rfl) (by rfl) (by rfl)) ?_ rfl RgX.keep_eq (fun _ h => by cases h)
        | refine RgX.build_cons (m := 10) (RgX.one_und 7 41 false (by rfl) (by rfl) (by rfl) (by rfl)) ?_ rfl RgX.keep_eq (fun _ h => by cases h)
        | refine RgX.build_cons (m := 10) (r := RgX.eq _) (RgX.one_yes 7 41 false (by rfl) (by rfl) (by rfl) (by rfl) (by (intro ax wx hk Kx hK; have k5 := hk.base 5 _ rfl rfl; have hL := hk.fact 0 0 _ rfl rfl; (try dsimp only at hL); clear hk; obtain ⟨d0, d1, d2, -, -, -⟩ := rl_cells hL.1; go_simp; refine hK _ _ (fun h => by cases h) (fun _ _ => ?_) (Below.refl _ _); apply RgX.mk))) ?_ rfl RgX.keep_eq (fun _ h => by cases h)
      first
        | refine RgX.build_cons (m := 11) (RgX.one_no 7 41 false (by rfl) (by rfl) (by rfl) (by rfl)) ?_ rfl RgX.keep_eq (fun _ h => by cases h)
        | refine RgX.build_cons (m := 11) (RgX.one_und 7 41 false (by rfl) (by rfl) (by rfl) (by rfl)) ?_ rfl RgX.keep_eq (fun _ h => by cases h)
        | refine RgX.build_cons (m := 11) (r := RgX.eq _) (RgX.one_yes 7 41 false (by rfl) (by rfl) (by rfl) (by rfl) (by (intro ax wx hk Kx hK; obtain ⟨v43, k43, h43⟩ := hk.dep 0 9 43 _ rfl rfl rfl; (first | (replace h43 := h43 9 undef rfl rfl; first | (cases (h43 : v43 = _)) | (obtain ⟨rfl, h43⟩ := h43) | skip) | skip); have hL := hk.fact 0 0 _ rfl rfl; (try dsimp only at hL); clear hk; obtain ⟨d0, d1, d2, -, -, -⟩ := rl_cells hL.1; go_simp; refine hK _ _ (fun h => by cases h) (fun _ _ => ?_) (Below.refl _ _); apply RgX.mk))) ?_ rfl RgX.keep_eq (fun _ h => by cases h)
      first
        | refine RgX.build_cons (m := 12) (RgX.one_no 7 41 false (by rfl) (by rfl) (by rfl) (by rfl)) ?_ rfl RgX.keep_eq (fun _ h => by cases h)
        | refine RgX.build_cons (m := 12) (RgX.one_und 7 41 false (by rfl) (by rfl) (by rfl) (by rfl)) ?_ rfl RgX.keep_eq (fun _ h => by cases h)
        | refine RgX.build_cons (m := 12) (r := RgX.eq (.string tl)) (RgX.one_yes 7 41 false (by rfl) (by rfl) (by rfl) (by rfl) (by (intro ax wx hk Kx hK; obtain ⟨v42, k42, h42⟩ := hk.dep 0 8 42 _ rfl rfl rfl; (first | (replace h42 := h42 9 undef rfl rfl; first | (cases (h42 : v42 = _)) | (obtain ⟨rfl, h42⟩ := h42) | skip) | skip); obtain ⟨v44, k44, h44⟩ := hk.dep 0 10 44 _ rfl rfl rfl; (first | (replace h44 := h44 9 undef rfl rfl; first | (cases (h44 : v44 = _)) | (obtain ⟨rfl, h44⟩ := h44) | skip) | skip); have hL := hk.fact 0 0 _ rfl rfl; (try dsimp only at hL); clear hk; obtain ⟨d0, d1, d2, -, -, -⟩ := rl_cells hL.1; (have hx := S2.out; go_simp; refine hK _ _ (fun h => by cases h) (fun _ _ => ?_) (Below.refl _ _); apply RgX.mk)))) ?_ rfl RgX.keep_eq (fun _ h => by cases h)
      first
        | refine RgX.build_cons (m := 13) (RgX.one_no 7 41 false (by rfl) (by rfl) (by rfl) (by rfl)) ?_ rfl RgX.keep_eq (fun _ h => by cases h)
        | refine RgX.build_cons (m := 13) (RgX.one_und 7 41 false (by rfl) (by rfl) (by rfl) (by rfl)) ?_ rfl RgX.keep_eq (fun _ h => by cases h)
        | refine RgX.build_cons (m := 13) (r := RgX.eq (.bool pl)) (RgX.one_yes 7 41 false (by rfl) (by rfl) (by rfl) (by rfl) (by (intro ax wx hk Kx hK; obtain ⟨v45, k45, h45⟩ := hk.dep 0 11 45 _ rfl rfl rfl; (first | (replace h45 := h45 9 undef rfl rfl; first | (cases (h45 : v45 = _)) | (obtain ⟨rfl, h45⟩ := h45) | skip) | skip); have hL := hk.fact 0 0 _ rfl rfl; (try dsimp only at hL); clear hk; obtain ⟨d0, d1, d2, -, -, -⟩ := rl_cells hL.1; (go_simp; refine hK _ _ (fun h => by cases h) (fun _ _ => ?_) (Below.refl _ _); show Value.bool _ = Value.bool pl; rw [HPL.out])))) ?_ rfl RgX.keep_eq (fun _ h => by cases h)
      first
        | refine RgX.build_cons (m := 14) (RgX.one_no 4 38 true (by rfl) (by rfl) (by rfl) (by rfl)) ?_ rfl RgX.keep_eq (fun _ h => by cases h)
        | refine RgX.build_cons (m := 14) (RgX.one_und 4 38 true (by rfl) (by rfl) (by rfl) (by rfl)) ?_ rfl RgX.keep_eq (fun _ h => by cases h)
        | refine RgX.build_cons (m := 14) (r := RgX.eq _) (RgX.one_yes 4 38 true (by rfl) (by rfl) (by rfl) (by rfl) (by (intro ax wx hk Kx hK; obtain ⟨v41, k41, h41⟩ := hk.dep 0 7 41 _ rfl rfl rfl; (first | (replace h41 := h41 9 undef rfl rfl; first | (cases (h41 : v41 = _)) | (obtain ⟨rfl, h41⟩ := h41) | skip) | skip); obtain ⟨v46, k46, h46⟩ := hk.dep 0 12 46 _ rfl rfl rfl; (first | (replace h46 := h46 9 undef rfl rfl; first | (cases (h46 : v46 = _)) | (obtain ⟨rfl, h46⟩ := h46) | skip) | skip); have hL := hk.fact 0 0 _ rfl rfl; (try dsimp only at hL); clear hk; obtain ⟨d0, d1, d2, -, -, -⟩ := rl_cells hL.1; go_simp; refine hK _ _ (fun h => by cases h) (fun _ _ => ?_) (Below.refl _ _); apply RgX.mk))) ?_ rfl RgX.keep_eq (fun _ h => by cases h)
      refine RgX.build_cons (m := 15) (r := RgX.eq _) (RgX.one_plain (by rfl) (by (intro ax wx hk Kx hK; obtain ⟨v38, k38, h38⟩ := hk.dep 0 4 38 _ rfl rfl rfl; (first | (replace h38 := h38 9 undef rfl rfl; first | (cases (h38 : v38 = _)) | (obtain ⟨rfl, h38⟩ := h38) | skip) | skip); obtain ⟨v47, k47, h47⟩ := hk.dep 0 13 47 _ rfl rfl rfl; (first | (replace h47 := h47 9 undef rfl rfl; first | (cases (h47 : v47 = _)) | (obtain ⟨rfl, h47⟩ := h47) | skip) | skip); have hL := hk.fact 0 0 _ rfl rfl; (try dsimp only at hL); clear hk; obtain ⟨d0, d1, d2, -, -, -⟩ := rl_cells hL.1; go_simp; refine hK _ _ (fun h => by cases h) (fun _ _ => ?_) (Below.refl _ _); apply RgX.mk))) ?_ rfl RgX.keep_eq (fun _ h => by cases h)
      refine RgX.build_cons (m := 16) (r := (⟨fun _ _ w5 => AtG w5 w.heap.size 35 (rlC nm pt lu), none, none⟩ : RgX.Rl)) (RgX.one_plain (by rfl) (by (intro ax wx hk Kx hK; have k2 := hk.base 2 _ rfl rfl; obtain ⟨v34, k34, h34⟩ := hk.dep 0 0 34 _ rfl rfl rfl; (first | (replace h34 := h34 9 undef rfl rfl; first | (cases (h34 : v34 = _)) | (obtain ⟨rfl, h34⟩ := h34) | skip) | skip); have hL := hk.fact 0 0 _ rfl rfl; (try dsimp only at hL); have hz := hk.fact 1 0 _ rfl rfl; (try dsimp only at hz); clear hk; obtain ⟨d0, d1, d2, -, -, -⟩ := rl_cells hL.1; (obtain ⟨e0, e1, e2, f0, f1, f2⟩ := rl_cells hz; go_simp; exact hK undef (put3 wx w.heap.size nm pt lu) (fun _ => rfl) (fun u hu => put3_at hz) rfl)))) ?_ rfl (RgX.keep_r (fun _ _ _ _ h hb => h.below hb) (fun _ _ => ⟨fun h _ _ _ => absurd rfl h, trivial⟩)) (fun _ h => by cases h)
      refine RgX.build_cons (m := 17) (r := RgX.eq _) (RgX.one_plain (by rfl) (by (intro ax wx hk Kx hK; obtain ⟨v48, k48, h48⟩ := hk.dep 0 14 48 _ rfl rfl rfl; (first | (replace h48 := h48 9 undef rfl rfl; first | (cases (h48 : v48 = _)) | (obtain ⟨rfl, h48⟩ := h48) | skip) | skip); have hL := hk.fact 0 0 _ rfl rfl; (try dsimp only at hL); clear hk; obtain ⟨d0, d1, d2, -, -, -⟩ := rl_cells hL.1; go_simp; refine hK _ _ (fun h => by cases h) (fun _ _ => ?_) (Below.refl _ _); apply RgX.mk))) ?_ rfl RgX.keep_eq (fun _ h => by cases h)
      refine RgX.build_end fun wx hj => ?_
      have hL := hj 0 _ rfl rfl
      clear hj
      refine RgX.fin_eq rfl ?_
      refine RgX.fin_eq rfl ?_
      refine RgX.fin_eq rfl ?_
      refine RgX.fin_eq rfl ?_
      refine RgX.fin_eq rfl ?_
      refine RgX.fin_eq rfl ?_
      refine RgX.fin_eq rfl ?_
      refine RgX.fin_eq rfl ?_
      refine RgX.fin_eq rfl ?_
      refine RgX.fin_eq rfl ?_
      refine RgX.fin_eq rfl ?_
      refine RgX.fin_eq rfl ?_
      refine RgX.fin_eq rfl ?_
      refine RgX.fin_eq rfl ?_
      refine RgX.fin_eq rfl ?_
      refine RgX.fin_none rfl fun s15 => ?_
      refine RgX.fin_eq rfl ?_
      refine RgX.fin_nil ?_
      simp only [List.set_cons_zero, List.set_cons_succ]
      have hz3 := s15 rfl undef rfl
      have HB3 := Lib.hid hL.2
      clear s15 hL
      obtain ⟨d0, d1, d2, -, -, -⟩ := rl_cells hz3
      clear hz3
      have HRES : Hid (RulePost s w (.returned (.tuple #[rlA nm pt lu, .bool false])) wx) := Lib.hid ⟨HB3.out, .inr ⟨HAT2.out.2 (.inl rfl), _, _, _, rfl⟩⟩
      clear HA2 HB2 HG2 HG0 HAT2 HPL HB3 HNX S2
      go_wp2_with fail
      refine bodyPost_ret (v := .tuple #[rlA nm pt lu, .bool false]) (by unfold rlA; simp [results, Tryd.results15, go_sem, d0, d1, d2]; try rfl) rfl ?_
      exact HRES.out
  · have hkI : (k : Int) ≤ i + 1 := by omega
    have hi0 : ¬ (i : Int) < 0 := by omega
    have hi1 : (i : Int) ≤ 10000 := by have := HSZ.out; omega
    have HNO := Lib.hid (no_rule HF.out HLL.out (fun r h => by obtain ⟨i, k, h1, h2, h3⟩ := h; omega))
    have hz := HZ.out
    obtain ⟨c0, c1, c2, f0, f1, f2⟩ := rl_cells hz
    clear hz hlt hk hik
    go_wp2_with fail
    have hA2 := put3_at (a' := ByteArray.empty) (b' := ByteArray.empty) (c' := false) HZ.out
    have HB2 := Lib.hid (put3_below (g := w.heap.size) (a := ByteArray.empty) (b := ByteArray.empty) (c := false) HB.out (Nat.le_refl _))
    refine (show ∀ W2 : World, W2 = put3 w1 w.heap.size (ByteArray.empty) (ByteArray.empty) (false) → bodyPost Tryd.prog Tryd.f15 (RulePost s w) Exit.ret _ W2 from fun W2 hW2 => ?_) _ rfl
    rw [← hW2] at hA2 HB2
    obtain ⟨d0, d1, d2, -, -, -⟩ := rl_cells hA2
    clear hW2 hA2
    refine bodyPost_ret (v := .tuple #[rlA (ByteArray.empty) (ByteArray.empty) (false), .bool false]) (by unfold rlA; simp [results, Tryd.results15, go_sem, d0, d1, d2]; try rfl) rfl ?_
    exact ⟨HB2.out, .inr ⟨HNO.out, _, _, _, rfl⟩⟩
end Go.Proofs.YtaafmfooommepaaDoor
