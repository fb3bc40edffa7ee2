/- A line's rule (the reference's). -/
import Derived.Test.YtaafmfooommepaaDoorRu3
set_option linter.unusedVariables false
set_option linter.unusedSimpArgs false
namespace Go.Proofs.YtaafmfooommepaaDoor
open Go.RowKit
/-- the same of the bytes ahead of a place -/
def FstTo (s : ByteArray) (c : Int) (j : Nat) (r : Int) : Prop := (r = -1 ∧ ∀ p, p < j → ch s p ≠ c) ∨ (∃ i : Nat, i < j ∧ r = i ∧ ch s i = c ∧ ∀ q, q < i → ch s q ≠ c)
def LstTo (s : ByteArray) (c : Int) (j : Nat) (r : Int) : Prop := (r = -1 ∧ ∀ p, p < j → ch s p ≠ c) ∨ (∃ i : Nat, i < j ∧ r = i ∧ ch s i = c ∧ ∀ q, i < q → q < j → ch s q ≠ c)
theorem FstTo.end {s : ByteArray} {c r : Int} (hc : 0 ≤ c) (h : FstTo s c s.size r) : Fst s c r := by
  rcases h with ⟨rfl, h⟩ | ⟨i, h1, rfl, h2, h3⟩
  · refine .inl ⟨rfl, fun p hp => ?_⟩
    rcases Nat.lt_or_ge p s.size with h1 | h1
    · exact h p h1 hp
    · rw [ch_end h1] at hp; omega
  · exact .inr ⟨i, rfl, h2, h3⟩
theorem LstTo.end {s : ByteArray} {c r : Int} (hc : 0 ≤ c) (h : LstTo s c s.size r) : Lst s c r := by
  rcases h with ⟨rfl, h⟩ | ⟨i, h1, rfl, h2, h3⟩
  · refine .inl ⟨rfl, fun p hp => ?_⟩
    rcases Nat.lt_or_ge p s.size with h1 | h1
    · exact h p h1 hp
    · rw [ch_end h1] at hp; omega
  · refine .inr ⟨i, rfl, h2, fun q hq hqc => ?_⟩
    rcases Nat.lt_or_ge q s.size with h4 | h4
    · exact h3 q hq h4 hqc
    · rw [ch_end h4] at hqc; omega
theorem FstTo.not {s : ByteArray} {c r : Int} {j : Nat} (h : FstTo s c j r) (hj : ch s j ≠ c) : FstTo s c (j + 1) r := by
  rcases h with ⟨rfl, h⟩ | ⟨i, h1, rfl, h2, h3⟩
  · exact .inl ⟨rfl, fun p hp => by rcases Nat.lt_succ_iff_lt_or_eq.1 hp with h1 | rfl; exact h p h1; exact hj⟩
  · exact .inr ⟨i, by omega, rfl, h2, h3⟩
theorem LstTo.not {s : ByteArray} {c r : Int} {j : Nat} (h : LstTo s c j r) (hj : ch s j ≠ c) : LstTo s c (j + 1) r := by
  rcases h with ⟨rfl, h⟩ | ⟨i, h1, rfl, h2, h3⟩
  · exact .inl ⟨rfl, fun p hp => by rcases Nat.lt_succ_iff_lt_or_eq.1 hp with h1 | rfl; exact h p h1; exact hj⟩
  · exact .inr ⟨i, by omega, rfl, h2, fun q hq hq1 => by rcases Nat.lt_succ_iff_lt_or_eq.1 hq1 with h4 | rfl; exact h3 q hq h4; exact hj⟩
theorem FstTo.here {s : ByteArray} {c : Int} {j : Nat} (h : FstTo s c j (-1)) (hj : ch s j = c) : FstTo s c (j + 1) j := by
  rcases h with ⟨-, h⟩ | ⟨i, h1, e, h2, h3⟩
  · exact .inr ⟨j, by omega, rfl, hj, h⟩
  · omega
theorem FstTo.had {s : ByteArray} {c r : Int} {j : Nat} (h : FstTo s c j r) (hr : ¬ r < 0) : FstTo s c (j + 1) r := by
  rcases h with ⟨rfl, h⟩ | ⟨i, h1, rfl, h2, h3⟩
  · omega
  · exact .inr ⟨i, by omega, rfl, h2, h3⟩
theorem LstTo.here {s : ByteArray} {c : Int} {j : Nat} (hj : ch s j = c) : LstTo s c (j + 1) j := .inr ⟨j, by omega, rfl, hj, fun q h1 h2 => by omega⟩
theorem FstTo.ge {s : ByteArray} {c r : Int} {j : Nat} (h : FstTo s c j r) : r = -1 ∨ (¬ r < 0 ∧ r < j) := by
  rcases h with ⟨rfl, h⟩ | ⟨i, h1, rfl, h2, h3⟩
  · exact .inl rfl
  · exact .inr ⟨by omega, by omega⟩
set_option maxRecDepth 100000 in
set_option maxHeartbeats 1600000 in
theorem ruleR (s : ByteArray) (w : World) (hs : s.size ≤ 10000) : Calls Tryd.prog 17 #[.string s] w (RulePost s w) := by
  have HSZ := Lib.hid hs
  have hsI : (s.size : Int) ≤ 10000 := by omega
  clear hs
  go_enter Tryd.func17, Tryd.ntmps17
  go_wp2
  have HZ : Hid (AtG (w.alloc (.cells (rlC ByteArray.empty ByteArray.empty false) 35)) w.heap.size 35 (rlC ByteArray.empty ByteArray.empty false)) := Lib.hid (AtG.new _ _ _)
  have HB : Hid (Below w.heap.size w (w.alloc (.cells (rlC ByteArray.empty ByteArray.empty false) 35))) := Lib.hid ((Below.refl _ _).alloc (Nat.le_refl _) _)
  refine (show ∀ w1 : World, Hid (AtG w1 w.heap.size 35 (rlC ByteArray.empty ByteArray.empty false)) → Hid (Below w.heap.size w w1) → _ from fun w1 HZ HB => ?_) (w.alloc (.cells (rlC ByteArray.empty ByteArray.empty false) 35)) HZ HB
  go_loopw [4, 5, 6] (fun f l i wr => ∃ (j : Nat) (fi li : Int), j ≤ s.size ∧ f = .int .i64 fi ∧ l = .int .i64 li ∧ i = .int .i64 j ∧ w1 = wr ∧ Hid (FstTo s 32 j fi) ∧ Hid (LstTo s 32 j li)) (fun f l i _ => s.size - (intOf i).toNat)
  case atStart => exact ⟨0, -1, -1, Nat.zero_le _, rfl, rfl, rfl, rfl, Lib.hid (.inl ⟨rfl, fun p h => by omega⟩), Lib.hid (.inl ⟨rfl, fun p h => by omega⟩)⟩
  case round =>
    obtain ⟨j, fi, li, hj, rfl, rfl, rfl, rfl, hf, hl⟩ := hrel
    by_cases hlt : j < s.size
    · have hltI : (j : Int) < s.size := by omega
      have HC := Lib.hid (ch_in hlt)
      have HLT := Lib.hid hlt
      clear hj
      go_upto_region 6 with (fail)
      by_cases h32 : (s[j].toNat : Int) = 32
      · have eb : ((s[j].toNat : Int) == 32) = true := beq_iff_eq.2 h32
        have HL2 := Lib.hid (LstTo.here (HC.out.trans h32))
        rcases hf.out.ge with rfl | ⟨hn, hn2⟩
        · have HF2 := Lib.hid (hf.out.here (HC.out.trans h32))
          clear hf hl HC h32
          go_wp2
          exact ⟨⟨j + 1, _, _, HLT.out, rfl, rfl, by go_num, by first | trivial | rfl, HF2, HL2⟩, by have := HLT.out; simp [intOf]; try omega⟩
        · have HF2 := Lib.hid (hf.out.had hn)
          clear hf hl HC h32 hn2
          go_wp2
          exact ⟨⟨j + 1, _, _, HLT.out, rfl, rfl, by go_num, by first | trivial | rfl, HF2, HL2⟩, by have := HLT.out; simp [intOf]; try omega⟩
      · have eb : ((s[j].toNat : Int) == 32) = false := beq_eq_false_iff_ne.2 h32
        have HF2 := Lib.hid (hf.out.not (by rw [HC.out]; exact h32))
        have HL2 := Lib.hid (hl.out.not (by rw [HC.out]; exact h32))
        clear hf hl HC h32
        go_wp2
        exact ⟨⟨j + 1, _, _, HLT.out, rfl, rfl, by go_num, by first | trivial | rfl, HF2, HL2⟩, by have := HLT.out; simp [intOf]; try omega⟩
    · obtain rfl : j = s.size := by omega
      have HF := Lib.hid (hf.out.end (by decide))
      have HLL := Lib.hid (hl.out.end (by decide))
      clear hf hl hlt hj
      rcases fst_lst HF.out HLL.out (by decide) with ⟨rfl, rfl⟩ | ⟨i, k, rfl, rfl, hik, hk⟩
      · have HNO := Lib.hid (no_rule HF.out HLL.out (fun r h => by obtain ⟨i, k, h1, h2, h3⟩ := h; omega))
        have hz := HZ.out
        obtain ⟨c0, c1, c2, f0, f1, f2⟩ := rl_cells hz
        clear hz
        go_wp2_with fail
        have hA2 := put3_at (a' := ByteArray.empty) (b' := ByteArray.empty) (c' := false) HZ.out
        have HB2 := Lib.hid (put3_below (g := w.heap.size) (a := ByteArray.empty) (b := ByteArray.empty) (c := false) HB.out (Nat.le_refl _))
        refine (show ∀ W2 : World, W2 = put3 w1 w.heap.size (ByteArray.empty) (ByteArray.empty) (false) → bodyPost Tryd.prog Tryd.f17 (RulePost s w) Exit.ret _ W2 from fun W2 hW2 => ?_) _ rfl
        rw [← hW2] at hA2 HB2
        obtain ⟨d0, d1, d2, -, -, -⟩ := rl_cells hA2
        clear hW2 hA2
        refine bodyPost_ret (v := .tuple #[rlA (ByteArray.empty) (ByteArray.empty) (false), .bool false]) (by unfold rlA; simp [results, Tryd.results17, go_sem, d0, d1, d2]; try rfl) rfl ?_
        exact ⟨HB2.out, .inr ⟨HNO.out, _, _, _, rfl⟩⟩
      have HNK := Lib.hid (And.intro hik hk)
      by_cases hlt : i + 2 ≤ k
      · have hi0 : ¬ (i : Int) < 0 := by omega
        have hi1 : (i : Int) ≤ 10000 := by have := HSZ.out; omega
        have hk1 : (k : Int) ≤ 10000 := by have := HSZ.out; omega
        have hkI : ¬ (k : Int) < i + 2 := by omega
        have HNS : Hid ((s.extract 0 i).size ≤ 10000) := Lib.hid (by rw [ext_size (by omega)]; have := HSZ.out; omega)
        have S0 := Lib.hid (sl_to s i (by omega))
        have S1 := Lib.hid (sl_both s (i + 1) k (by omega) (by omega))
        have S2 := Lib.hid (sl_from s (k + 1) (by omega))
        rw [show ((i + 1 : Nat) : Int) = (i : Int) + 1 from by omega] at S1
        rw [show ((k + 1 : Nat) : Int) = (k : Int) + 1 from by omega] at S2
        have HAT : Hid (∀ (nm lu pl : Bool), (nm = true ↔ Nm (s.extract 0 i)) → (lu = true ↔ s.extract (k + 1) s.size = luhnS) → (pl = true ↔ s.extract (k + 1) s.size = plainS) → (nm = true ∧ (lu = true ∨ pl = true) → RuleIs s ⟨s.extract 0 i, s.extract (i + 1) k, lu⟩) ∧ ((nm = false ∨ (lu = false ∧ pl = false)) → ∀ r, ¬ RuleIs s r)) := Lib.hid (by
          intro nm lu pl h1 h2 h3
          refine ⟨fun ⟨a, b⟩ => ⟨_, _, HF.out, HLL.out, i, k, rfl, rfl, hlt, hk, rfl, rfl, h1.1 a, ?_⟩, fun h r hr => ?_⟩
          · cases lu
            · exact .inr ⟨rfl, h3.1 (by rcases b with b | b; cases b; exact b)⟩
            · exact .inl ⟨rfl, h2.1 rfl⟩
          · obtain ⟨f', l', g1, g2, i', k', e1, e2, e3, e4, e5, e6, e7, e8⟩ := hr
            have e9 := HF.out.det g1
            have e10 := HLL.out.det g2
            obtain rfl : i = i' := by omega
            obtain rfl : k = k' := by omega
            rw [e5] at e7
            rcases h with rfl | ⟨rfl, rfl⟩
            · exact absurd (h1.2 e7) (by simp)
            · rcases e8 with ⟨-, e8⟩ | ⟨-, e8⟩
              · exact absurd (h2.2 e8) (by simp)
              · exact absurd (h3.2 e8) (by simp))
        generalize s.extract 0 i = nm at *
        generalize s.extract (i + 1) k = pt at *
        generalize s.extract (k + 1) s.size = tl at *
        obtain ⟨lu, hlu⟩ : ∃ lu, lu = (tl.toList == [108, 117, 104, 110]) := ⟨_, rfl⟩
        obtain ⟨pl, hpl⟩ : ∃ pl, pl = (tl.toList == [112, 108, 97, 105, 110]) := ⟨_, rfl⟩
        have HAT := Lib.hid (fun nb h => HAT.out nb lu pl h (by rw [hlu, ← luhnS_list]; exact str_eq _ _) (by rw [hpl, ← plainS_list]; exact str_eq _ _))
        have HLU := Lib.hid hlu; have HPL := Lib.hid hpl
        clear hlt hk hik HF HLL hlu hpl
        have wi : IntKind.i64.wrap ((i : Int) + 1) = (i : Int) + 1 := by rw [IntKind.wrap_i64]; omega
        have wk : IntKind.i64.wrap ((k : Int) + 1) = (k : Int) + 1 := by rw [IntKind.wrap_i64]; omega
        go_upto_region 12 with (fail)
        refine RgX.start (by kernel_rfl) [(15, fun w5 w6 => ∃ gg, w.heap.size < gg ∧ w6 = put3 w5 gg nm pt lu)] [⟨fun w5 => AtG w5 w.heap.size 35 (rlC ByteArray.empty ByteArray.empty false) ∧ Below w.heap.size w w5, none⟩] ⟨⟨fun _ _ h hb => ⟨h.1.below hb, h.2.trans (hb.mono h.2.size)⟩, ⟨fun _ _ _ _ => (fun w5 w6 h he => by obtain ⟨gg, h1, rfl⟩ := he; exact ⟨put3_far h.1 (by omega), put3_below h.2 (by omega)⟩), trivial⟩⟩, trivial⟩ (by kernel_rfl) (by kernel_rfl) ⟨⟨HZ.out.drew, HB.out.drew⟩, trivial⟩ ?_
        show RgX.Build _ _ _ _ _ _ 0 [_, _, _, _, _, _, _, _, _, _, _, _, _, _, _, _] []
        refine RgX.build_cons (m := 1) (r := RgX.eq _) (RgX.one_plain (by rfl) (by (intro ax wx hk Kx hK; have k0 := hk.base 0 _ rfl rfl; have hL := hk.fact 0 0 _ rfl rfl; (try dsimp only at hL); clear hk; go_simp; refine hK _ _ (fun h => by cases h) (fun _ _ => ?_) (Below.refl _ _); apply RgX.mk))) ?_ rfl RgX.keep_eq (fun _ h => by cases h)
        refine RgX.build_cons (m := 2) (r := RgX.eq _) (RgX.one_plain (by rfl) (by (intro ax wx hk Kx hK; have k4 := hk.base 4 _ rfl rfl; have hL := hk.fact 0 0 _ rfl rfl; (try dsimp only at hL); clear hk; go_simp; refine hK _ _ (fun h => by cases h) (fun _ _ => ?_) (Below.refl _ _); apply RgX.mk))) ?_ rfl RgX.keep_eq (fun _ h => by cases h)
        refine RgX.build_cons (m := 3) (r := RgX.eq (.string nm)) (RgX.one_plain (by rfl) (by (intro ax wx hk Kx hK; obtain ⟨v32, k32, h32⟩ := hk.dep 0 0 32 _ rfl rfl rfl; (first | (replace h32 := h32 9 undef rfl rfl; first | (cases (h32 : v32 = _)) | (obtain ⟨rfl, h32⟩ := h32) | skip) | skip); obtain ⟨v33, k33, h33⟩ := hk.dep 0 1 33 _ rfl rfl rfl; (first | (replace h33 := h33 9 undef rfl rfl; first | (cases (h33 : v33 = _)) | (obtain ⟨rfl, h33⟩ := h33) | skip) | skip); have hL := hk.fact 0 0 _ rfl rfl; (try dsimp only at hL); clear hk; (have hx := S0.out; go_simp; refine hK _ _ (fun h => by cases h) (fun _ _ => ?_) (Below.refl _ _); apply RgX.mk)))) ?_ rfl RgX.keep_eq (fun _ h => by cases h)
        refine RgX.build_cons (m := 4) (r := RgX.eq _) (RgX.one_plain (by rfl) (by (intro ax wx hk Kx hK; have k0 := hk.base 0 _ rfl rfl; have hL := hk.fact 0 0 _ rfl rfl; (try dsimp only at hL); clear hk; go_simp; refine hK _ _ (fun h => by cases h) (fun _ _ => ?_) (Below.refl _ _); apply RgX.mk))) ?_ rfl RgX.keep_eq (fun _ h => by cases h)
        refine RgX.build_cons (m := 5) (r := RgX.eq _) (RgX.one_plain (by rfl) (by (intro ax wx hk Kx hK; have k4 := hk.base 4 _ rfl rfl; have hL := hk.fact 0 0 _ rfl rfl; (try dsimp only at hL); clear hk; go_simp; refine hK _ _ (fun h => by cases h) (fun _ _ => ?_) (Below.refl _ _); apply RgX.mk))) ?_ rfl RgX.keep_eq (fun _ h => by cases h)
        refine RgX.build_cons (m := 6) (r := RgX.eq _) (RgX.one_plain (by rfl) (by (intro ax wx hk Kx hK; obtain ⟨v36, k36, h36⟩ := hk.dep 0 4 36 _ rfl rfl rfl; (first | (replace h36 := h36 9 undef rfl rfl; first | (cases (h36 : v36 = _)) | (obtain ⟨rfl, h36⟩ := h36) | skip) | skip); have hL := hk.fact 0 0 _ rfl rfl; (try dsimp only at hL); clear hk; go_simp; refine hK _ _ (fun h => by cases h) (fun _ _ => ?_) (Below.refl _ _); apply RgX.mk))) ?_ rfl RgX.keep_eq (fun _ h => by cases h)
        refine RgX.build_cons (m := 7) (r := RgX.eq _) (RgX.one_plain (by rfl) (by (intro ax wx hk Kx hK; have k5 := hk.base 5 _ rfl rfl; have hL := hk.fact 0 0 _ rfl rfl; (try dsimp only at hL); clear hk; go_simp; refine hK _ _ (fun h => by cases h) (fun _ _ => ?_) (Below.refl _ _); apply RgX.mk))) ?_ rfl RgX.keep_eq (fun _ h => by cases h)
        refine RgX.build_cons (m := 8) (r := RgX.eq (.string pt)) (RgX.one_plain (by rfl) (by (intro ax wx hk Kx hK; obtain ⟨v35, k35, h35⟩ := hk.dep 0 3 35 _ rfl rfl rfl; (first | (replace h35 := h35 9 undef rfl rfl; first | (cases (h35 : v35 = _)) | (obtain ⟨rfl, h35⟩ := h35) | skip) | skip); obtain ⟨v37, k37, h37⟩ := hk.dep 0 5 37 _ rfl rfl rfl; (first | (replace h37 := h37 9 undef rfl rfl; first | (cases (h37 : v37 = _)) | (obtain ⟨rfl, h37⟩ := h37) | skip) | skip); obtain ⟨v38, k38, h38⟩ := hk.dep 0 6 38 _ rfl rfl rfl; (first | (replace h38 := h38 9 undef rfl rfl; first | (cases (h38 : v38 = _)) | (obtain ⟨rfl, h38⟩ := h38) | skip) | skip); have hL := hk.fact 0 0 _ rfl rfl; (try dsimp only at hL); clear hk; (have hx := S1.out; go_simp; refine hK _ _ (fun h => by cases h) (fun _ _ => ?_) (Below.refl _ _); apply RgX.mk)))) ?_ rfl RgX.keep_eq (fun _ h => by cases h)
        refine RgX.build_cons (m := 9) (r := RgX.eq _) (RgX.one_plain (by rfl) (by (intro ax wx hk Kx hK; have k0 := hk.base 0 _ rfl rfl; have hL := hk.fact 0 0 _ rfl rfl; (try dsimp only at hL); clear hk; go_simp; refine hK _ _ (fun h => by cases h) (fun _ _ => ?_) (Below.refl _ _); apply RgX.mk))) ?_ rfl RgX.keep_eq (fun _ h => by cases h)
        refine RgX.build_cons (m := 10) (r := RgX.eq _) (RgX.one_plain (by rfl) (by (intro ax wx hk Kx hK; have k5 := hk.base 5 _ rfl rfl; have hL := hk.fact 0 0 _ rfl rfl; (try dsimp only at hL); clear hk; go_simp; refine hK _ _ (fun h => by cases h) (fun _ _ => ?_) (Below.refl _ _); apply RgX.mk))) ?_ rfl RgX.keep_eq (fun _ h => by cases h)
        refine RgX.build_cons (m := 11) (r := RgX.eq _) (RgX.one_plain (by rfl) (by (intro ax wx hk Kx hK; obtain ⟨v41, k41, h41⟩ := hk.dep 0 9 41 _ rfl rfl rfl; (first | (replace h41 := h41 9 undef rfl rfl; first | (cases (h41 : v41 = _)) | (obtain ⟨rfl, h41⟩ := h41) | skip) | skip); have hL := hk.fact 0 0 _ rfl rfl; (try dsimp only at hL); clear hk; go_simp; refine hK _ _ (fun h => by cases h) (fun _ _ => ?_) (Below.refl _ _); apply RgX.mk))) ?_ rfl RgX.keep_eq (fun _ h => by cases h)
        refine RgX.build_cons (m := 12) (r := RgX.eq (.string tl)) (RgX.one_plain (by rfl) (by (intro ax wx hk Kx hK; obtain ⟨v40, k40, h40⟩ := hk.dep 0 8 40 _ rfl rfl rfl; (first | (replace h40 := h40 9 undef rfl rfl; first | (cases (h40 : v40 = _)) | (obtain ⟨rfl, h40⟩ := h40) | skip) | skip); obtain ⟨v42, k42, h42⟩ := hk.dep 0 10 42 _ rfl rfl rfl; (first | (replace h42 := h42 9 undef rfl rfl; first | (cases (h42 : v42 = _)) | (obtain ⟨rfl, h42⟩ := h42) | skip) | skip); have hL := hk.fact 0 0 _ rfl rfl; (try dsimp only at hL); clear hk; (have hx := S2.out; go_simp; refine hK _ _ (fun h => by cases h) (fun _ _ => ?_) (Below.refl _ _); apply RgX.mk)))) ?_ rfl RgX.keep_eq (fun _ h => by cases h)
        refine RgX.build_cons (m := 13) (r := RgX.eq (.bool lu)) (RgX.one_plain (by rfl) (by (intro ax wx hk Kx hK; obtain ⟨v43, k43, h43⟩ := hk.dep 0 11 43 _ rfl rfl rfl; (first | (replace h43 := h43 9 undef rfl rfl; first | (cases (h43 : v43 = _)) | (obtain ⟨rfl, h43⟩ := h43) | skip) | skip); have hL := hk.fact 0 0 _ rfl rfl; (try dsimp only at hL); clear hk; (go_simp; refine hK _ _ (fun h => by cases h) (fun _ _ => ?_) (Below.refl _ _); show Value.bool _ = Value.bool lu; rw [HLU.out])))) ?_ rfl RgX.keep_eq (fun _ h => by cases h)
        refine RgX.build_cons (m := 14) (r := RgX.eq _) (RgX.one_plain (by rfl) (by (intro ax wx hk Kx hK; obtain ⟨v34, k34, h34⟩ := hk.dep 0 2 34 _ rfl rfl rfl; (first | (replace h34 := h34 9 undef rfl rfl; first | (cases (h34 : v34 = _)) | (obtain ⟨rfl, h34⟩ := h34) | skip) | skip); obtain ⟨v39, k39, h39⟩ := hk.dep 0 7 39 _ rfl rfl rfl; (first | (replace h39 := h39 9 undef rfl rfl; first | (cases (h39 : v39 = _)) | (obtain ⟨rfl, h39⟩ := h39) | skip) | skip); obtain ⟨v44, k44, h44⟩ := hk.dep 0 12 44 _ rfl rfl rfl; (first | (replace h44 := h44 9 undef rfl rfl; first | (cases (h44 : v44 = _)) | (obtain ⟨rfl, h44⟩ := h44) | skip) | skip); have hL := hk.fact 0 0 _ rfl rfl; (try dsimp only at hL); clear hk; go_simp; refine hK _ _ (fun h => by cases h) (fun _ _ => ?_) (Below.refl _ _); apply RgX.mk))) ?_ rfl RgX.keep_eq (fun _ h => by cases h)
        refine RgX.build_cons (m := 15) (r := (⟨fun v _ w5 => ∃ gg, v = .pointer (some ⟨gg, 0, none⟩) ∧ w.heap.size < gg ∧ AtG w5 gg 35 (rlC ByteArray.empty ByteArray.empty false), some 15, none⟩ : RgX.Rl)) (RgX.one_plain (by rfl) (by (intro ax wx hk Kx hK; have hL := hk.fact 0 0 _ rfl rfl; (try dsimp only at hL); clear hk; (go_simp; exact hK _ _ (fun h => by cases h) (fun u _ => ⟨wx.heap.size, rfl, hL.1.lt, AtG.new _ _ _⟩) ((Below.refl _ _).alloc (Nat.le_refl _) _))))) ?_ rfl (RgX.keep_r (fun _ _ _ _ h hb => by obtain ⟨gg, h1, h2, h4⟩ := h; exact ⟨gg, h1, h2, h4.below hb⟩) (fun _ _ => ⟨fun _ h _ _ => absurd rfl h, trivial⟩)) (fun _ h => by cases h)
        refine RgX.build_cons (m := 16) (r := (⟨fun _ u w5 => ∃ gg, u = .pointer (some ⟨gg, 0, none⟩) ∧ w.heap.size < gg ∧ AtG w5 gg 35 (rlC nm pt lu), none, some 14⟩ : RgX.Rl)) (RgX.one_plain (by rfl) (by (intro ax wx hk Kx hK; obtain ⟨v7, k7, h7⟩ := hk.dep 0 14 7 _ rfl rfl rfl; (first | (replace h7 := h7 9 undef rfl rfl; first | (cases (h7 : v7 = _)) | (obtain ⟨rfl, h7⟩ := h7) | skip) | skip); obtain ⟨v45, k45, h45⟩ := hk.dep 0 13 45 _ rfl rfl rfl; (first | (replace h45 := h45 9 undef rfl rfl; first | (cases (h45 : v45 = _)) | (obtain ⟨rfl, h45⟩ := h45) | skip) | skip); have hL := hk.fact 0 0 _ rfl rfl; (try dsimp only at hL); clear hk; (obtain ⟨gg, rfl, hg0, hg2⟩ := h7; obtain ⟨d0, d1, d2, f0, f1, f2⟩ := rl_cells hg2; go_simp; refine hK undef (put3 wx gg nm pt lu) (fun _ => rfl) (fun u hu => ?_) ⟨gg, hg0, rfl⟩; obtain ⟨t, ht, hu⟩ := hu; cases ht; rw [k7] at hu; cases hu; exact ⟨gg, rfl, hg0, put3_at hg2⟩)))) ?_ rfl (RgX.keep_r (fun _ _ _ _ h hb => by obtain ⟨gg, h1, h2, h4⟩ := h; exact ⟨gg, h1, h2, h4.below hb⟩) (fun _ _ => ⟨fun h _ _ _ => absurd rfl h, trivial⟩)) (fun j h => by cases h; exact ⟨0, rfl⟩)
        refine RgX.build_end fun wx hj => ?_
        have hL := hj 0 _ rfl rfl
        clear hj
        refine RgX.fin_eq rfl ?_
        refine RgX.fin_eq rfl ?_
        refine RgX.fin_eq rfl ?_
        refine RgX.fin_eq rfl ?_
        refine RgX.fin_eq rfl ?_
        refine RgX.fin_eq rfl ?_
        refine RgX.fin_eq rfl ?_
        refine RgX.fin_eq rfl ?_
        refine RgX.fin_eq rfl ?_
        refine RgX.fin_eq rfl ?_
        refine RgX.fin_eq rfl ?_
        refine RgX.fin_eq rfl ?_
        refine RgX.fin_eq rfl ?_
        refine RgX.fin_eq rfl ?_
        first | refine RgX.fin_eq rfl ?_ | refine RgX.fin_any rfl fun v7 h7 => ?_
        refine RgX.fin_none rfl fun s15 => ?_
        refine RgX.fin_nil ?_
        simp only [List.set_cons_zero, List.set_cons_succ]
        obtain ⟨gg, rfl, hg0, hg2⟩ := s15 rfl v7 ⟨7, by kernel_rfl, by kernel_rfl⟩
        have HA2 := Lib.hid hL.1; have HB2 := Lib.hid hL.2; have HG2 := Lib.hid hg2; have HG0 := Lib.hid hg0
        clear s15 h7 hL hg2 hg0 S0 S1 HZ HB HLU
        obtain ⟨d0, d1, d2, -, -, -⟩ := rl_cells HG2.out
        go_wp2_with fail
        refine (namedR nm _ HNS.out).mono ?_
        rintro e9 w9 hnp
        clear d0 d1 d2
        rcases hnp with ⟨rfl, hw9, hnm⟩ | ⟨rfl, hw9, hnm⟩ <;> subst hw9
        · go_upto_region 14 with (fail)
          have HAT2 := Lib.hid (HAT.out true ⟨fun _ => hnm, fun _ => rfl⟩)
          clear hnm HAT
          cases lu
          · skip
            refine RgX.start (by kernel_rfl) [(13, fun w5 w6 => w6 = put3 w5 w.heap.size nm pt false)] [⟨fun w5 => AtG w5 gg 35 (rlC nm pt false) ∧ Below w.heap.size w w5, none⟩, ⟨fun w5 => AtG w5 w.heap.size 35 (rlC ByteArray.empty ByteArray.empty false), some 13⟩] ⟨⟨fun _ _ h hb => ⟨h.1.below hb, h.2.trans (hb.mono h.2.size)⟩, ⟨fun _ _ _ _ => (fun w5 w6 h he => by subst he; exact ⟨put3_far h.1 (by have := HG0.out; omega), put3_below h.2 (Nat.le_refl _)⟩), trivial⟩⟩, ⟨fun _ _ h hb => h.below hb, ⟨fun _ h _ _ => absurd rfl h, trivial⟩⟩, trivial⟩ (by kernel_rfl) (by kernel_rfl) ⟨⟨HG2.out.drew, HB2.out.drew⟩, HA2.out.drew, trivial⟩ ?_
            show RgX.Build _ _ _ _ _ _ 0 [_, _, _, _, _, _, _, _, _, _, _, _, _, _, _] []
            refine RgX.build_cons (m := 1) (r := RgX.eq _) (RgX.one_plain (by rfl) (by (intro ax wx hk Kx hK; have k7 := hk.base 7 _ rfl rfl; have hL := hk.fact 0 0 _ rfl rfl; (try dsimp only at hL); have hz := hk.fact 1 1 _ rfl rfl; (try dsimp only at hz); clear hk; obtain ⟨d0, d1, d2, -, -, -⟩ := rl_cells hL.1; go_simp; refine hK _ _ (fun h => by cases h) (fun _ _ => ?_) (Below.refl _ _); apply RgX.mk))) ?_ rfl RgX.keep_eq (fun _ h => by cases h)
            refine RgX.build_cons (m := 2) (r := RgX.eq _) (RgX.one_plain (by rfl) (by (intro ax wx hk Kx hK; have k8 := hk.base 8 _ rfl rfl; have hL := hk.fact 0 0 _ rfl rfl; (try dsimp only at hL); have hz := hk.fact 1 3 _ rfl rfl; (try dsimp only at hz); clear hk; obtain ⟨d0, d1, d2, -, -, -⟩ := rl_cells hL.1; go_simp; refine hK _ _ (fun h => by cases h) (fun _ _ => ?_) (Below.refl _ _); apply RgX.mk))) ?_ rfl RgX.keep_eq (fun _ h => by cases h)
            refine RgX.build_cons (m := 3) (r := RgX.eq _) (RgX.one_plain (by rfl) (by (intro ax wx hk Kx hK; obtain ⟨v50, k50, h50⟩ := hk.dep 0 1 50 _ rfl rfl rfl; (first | (replace h50 := h50 9 undef rfl rfl; first | (cases (h50 : v50 = _)) | (obtain ⟨rfl, h50⟩ := h50) | skip) | skip); have hL := hk.fact 0 0 _ rfl rfl; (try dsimp only at hL); have hz := hk.fact 1 2 _ rfl rfl; (try dsimp only at hz); clear hk; obtain ⟨d0, d1, d2, -, -, -⟩ := rl_cells hL.1; go_simp; refine hK _ _ (fun h => by cases h) (fun _ _ => ?_) (Below.refl _ _); apply RgX.mk))) ?_ rfl RgX.keep_eq (fun _ h => by cases h)
            first
              | refine RgX.build_cons (m := 4) (RgX.one_no 2 51 true (by rfl) (by rfl) (by rfl) (by rfl)) ?_ rfl RgX.keep_eq (fun _ h => by cases h)
              | refine RgX.build_cons (m := 4) (RgX.one_und 2 51 true (by rfl) (by rfl) (by rfl) (by rfl)) ?_ rfl RgX.keep_eq (fun _ h => by cases h)
              | refine RgX.build_cons (m := 4) (r := RgX.eq _) (RgX.one_yes 2 51 true (by rfl) (by rfl) (by rfl) (by rfl) (by (intro ax wx hk Kx hK; have k7 := hk.base 7 _ rfl rfl; have hL := hk.fact 0 0 _ rfl rfl; (try dsimp only at hL); have hz := hk.fact 1 3 _ rfl rfl; (try dsimp only at hz); clear hk; obtain ⟨d0, d1, d2, -, -, -⟩ := rl_cells hL.1; go_simp; refine hK _ _ (fun h => by cases h) (fun _ _ => ?_) (Below.refl _ _); apply RgX.mk))) ?_ rfl RgX.keep_eq (fun _ h => by cases h)
            first
              | refine RgX.build_cons (m := 5) (RgX.one_no 2 51 true (by rfl) (by rfl) (by rfl) (by rfl)) ?_ rfl RgX.keep_eq (fun _ h => by cases h)
              | refine RgX.build_cons (m := 5) (RgX.one_und 2 51 true (by rfl) (by rfl) (by rfl) (by rfl)) ?_ rfl RgX.keep_eq (fun _ h => by cases h)
              | refine RgX.build_cons (m := 5) (r := RgX.eq _) (RgX.one_yes 2 51 true (by rfl) (by rfl) (by rfl) (by rfl) (by (intro ax wx hk Kx hK; obtain ⟨v52, k52, h52⟩ := hk.dep 0 3 52 _ rfl rfl rfl; (first | (replace h52 := h52 9 undef rfl rfl; first | (cases (h52 : v52 = _)) | (obtain ⟨rfl, h52⟩ := h52) | skip) | skip); have hL := hk.fact 0 0 _ rfl rfl; (try dsimp only at hL); have hz := hk.fact 1 2 _ rfl rfl; (try dsimp only at hz); clear hk; obtain ⟨d0, d1, d2, -, -, -⟩ := rl_cells hL.1; go_simp; refine hK _ _ (fun h => by cases h) (fun _ _ => ?_) (Below.refl _ _); apply RgX.mk))) ?_ rfl RgX.keep_eq (fun _ h => by cases h)
            first
              | refine RgX.build_cons (m := 6) (RgX.one_no 2 51 true (by rfl) (by rfl) (by rfl) (by rfl)) ?_ rfl RgX.keep_eq (fun _ h => by cases h)
              | refine RgX.build_cons (m := 6) (RgX.one_und 2 51 true (by rfl) (by rfl) (by rfl) (by rfl)) ?_ rfl RgX.keep_eq (fun _ h => by cases h)
              | refine RgX.build_cons (m := 6) (r := RgX.eq _) (RgX.one_yes 2 51 true (by rfl) (by rfl) (by rfl) (by rfl) (by (intro ax wx hk Kx hK; obtain ⟨v53, k53, h53⟩ := hk.dep 0 4 53 _ rfl rfl rfl; (first | (replace h53 := h53 9 undef rfl rfl; first | (cases (h53 : v53 = _)) | (obtain ⟨rfl, h53⟩ := h53) | skip) | skip); have hL := hk.fact 0 0 _ rfl rfl; (try dsimp only at hL); have hz := hk.fact 1 1 _ rfl rfl; (try dsimp only at hz); clear hk; obtain ⟨d0, d1, d2, -, -, -⟩ := rl_cells hL.1; go_simp; refine hK _ _ (fun h => by cases h) (fun _ _ => ?_) (Below.refl _ _); apply RgX.mk))) ?_ rfl RgX.keep_eq (fun _ h => by cases h)
            first
              | refine RgX.build_cons (m := 7) (RgX.one_no 5 54 false (by rfl) (by rfl) (by rfl) (by rfl)) ?_ rfl RgX.keep_eq (fun _ h => by cases h)
              | refine RgX.build_cons (m := 7) (RgX.one_und 5 54 false (by rfl) (by rfl) (by rfl) (by rfl)) ?_ rfl RgX.keep_eq (fun _ h => by cases h)
              | refine RgX.build_cons (m := 7) (r := RgX.eq _) (RgX.one_yes 5 54 false (by rfl) (by rfl) (by rfl) (by rfl) (by (intro ax wx hk Kx hK; have k0 := hk.base 0 _ rfl rfl; have hL := hk.fact 0 0 _ rfl rfl; (try dsimp only at hL); clear hk; obtain ⟨d0, d1, d2, -, -, -⟩ := rl_cells hL.1; go_simp; refine hK _ _ (fun h => by cases h) (fun _ _ => ?_) (Below.refl _ _); apply RgX.mk))) ?_ rfl RgX.keep_eq (fun _ h => by cases h)
            first
              | refine RgX.build_cons (m := 8) (RgX.one_no 5 54 false (by rfl) (by rfl) (by rfl) (by rfl)) ?_ rfl RgX.keep_eq (fun _ h => by cases h)
              | refine RgX.build_cons (m := 8) (RgX.one_und 5 54 false (by rfl) (by rfl) (by rfl) (by rfl)) ?_ rfl RgX.keep_eq (fun _ h => by cases h)
              | refine RgX.build_cons (m := 8) (r := RgX.eq _) (RgX.one_yes 5 54 false (by rfl) (by rfl) (by rfl) (by rfl) (by (intro ax wx hk Kx hK; have k5 := hk.base 5 _ rfl rfl; have hL := hk.fact 0 0 _ rfl rfl; (try dsimp only at hL); clear hk; obtain ⟨d0, d1, d2, -, -, -⟩ := rl_cells hL.1; go_simp; refine hK _ _ (fun h => by cases h) (fun _ _ => ?_) (Below.refl _ _); apply RgX.mk))) ?_ rfl RgX.keep_eq (fun _ h => by cases h)
            first
              | refine RgX.build_cons (m := 9) (RgX.one_no 5 54 false (by rfl) (by rfl) (by rfl) (by rfl)) ?_ rfl RgX.keep_eq (fun _ h => by cases h)
              | refine RgX.build_cons (m := 9) (RgX.one_und 5 54 false (by rfl) (by rfl) (by rfl) (by rfl)) ?_ rfl RgX.keep_eq (fun _ h => by cases h)
              | refine RgX.build_cons (m := 9) (r := RgX.eq _) (RgX.one_yes 5 54 false (by rfl) (by rfl) (by rfl) (by rfl) (by (intro ax wx hk Kx hK; obtain ⟨v56, k56, h56⟩ := hk.dep 0 7 56 _ rfl rfl rfl; (first | (replace h56 := h56 9 undef rfl rfl; first | (cases (h56 : v56 = _)) | (obtain ⟨rfl, h56⟩ := h56) | skip) | skip); have hL := hk.fact 0 0 _ rfl rfl; (try dsimp only at hL); clear hk; obtain ⟨d0, d1, d2, -, -, -⟩ := rl_cells hL.1; go_simp; refine hK _ _ (fun h => by cases h) (fun _ _ => ?_) (Below.refl _ _); apply RgX.mk))) ?_ rfl RgX.keep_eq (fun _ h => by cases h)
            first
              | refine RgX.build_cons (m := 10) (RgX.one_no 5 54 false (by rfl) (by rfl) (by rfl) (by rfl)) ?_ rfl RgX.keep_eq (fun _ h => by cases h)
              | refine RgX.build_cons (m := 10) (RgX.one_und 5 54 false (by rfl) (by rfl) (by rfl) (by rfl)) ?_ rfl RgX.keep_eq (fun _ h => by cases h)
              | refine RgX.build_cons (m := 10) (r := RgX.eq (.string tl)) (RgX.one_yes 5 54 false (by rfl) (by rfl) (by rfl) (by rfl) (by (intro ax wx hk Kx hK; obtain ⟨v55, k55, h55⟩ := hk.dep 0 6 55 _ rfl rfl rfl; (first | (replace h55 := h55 9 undef rfl rfl; first | (cases (h55 : v55 = _)) | (obtain ⟨rfl, h55⟩ := h55) | skip) | skip); obtain ⟨v57, k57, h57⟩ := hk.dep 0 8 57 _ rfl rfl rfl; (first | (replace h57 := h57 9 undef rfl rfl; first | (cases (h57 : v57 = _)) | (obtain ⟨rfl, h57⟩ := h57) | skip) | skip); have hL := hk.fact 0 0 _ rfl rfl; (try dsimp only at hL); clear hk; obtain ⟨d0, d1, d2, -, -, -⟩ := rl_cells hL.1; (have hx := S2.out; go_simp; refine hK _ _ (fun h => by cases h) (fun _ _ => ?_) (Below.refl _ _); apply RgX.mk)))) ?_ rfl RgX.keep_eq (fun _ h => by cases h)
            first
              | refine RgX.build_cons (m := 11) (RgX.one_no 5 54 false (by rfl) (by rfl) (by rfl) (by rfl)) ?_ rfl RgX.keep_eq (fun _ h => by cases h)
              | refine RgX.build_cons (m := 11) (RgX.one_und 5 54 false (by rfl) (by rfl) (by rfl) (by rfl)) ?_ rfl RgX.keep_eq (fun _ h => by cases h)
              | refine RgX.build_cons (m := 11) (r := RgX.eq (.bool pl)) (RgX.one_yes 5 54 false (by rfl) (by rfl) (by rfl) (by rfl) (by (intro ax wx hk Kx hK; obtain ⟨v58, k58, h58⟩ := hk.dep 0 9 58 _ rfl rfl rfl; (first | (replace h58 := h58 9 undef rfl rfl; first | (cases (h58 : v58 = _)) | (obtain ⟨rfl, h58⟩ := h58) | skip) | skip); have hL := hk.fact 0 0 _ rfl rfl; (try dsimp only at hL); clear hk; obtain ⟨d0, d1, d2, -, -, -⟩ := rl_cells hL.1; (go_simp; refine hK _ _ (fun h => by cases h) (fun _ _ => ?_) (Below.refl _ _); show Value.bool _ = Value.bool pl; rw [HPL.out])))) ?_ rfl RgX.keep_eq (fun _ h => by cases h)
            first
              | refine RgX.build_cons (m := 12) (RgX.one_no 2 51 true (by rfl) (by rfl) (by rfl) (by rfl)) ?_ rfl RgX.keep_eq (fun _ h => by cases h)
              | refine RgX.build_cons (m := 12) (RgX.one_und 2 51 true (by rfl) (by rfl) (by rfl) (by rfl)) ?_ rfl RgX.keep_eq (fun _ h => by cases h)
              | refine RgX.build_cons (m := 12) (r := RgX.eq _) (RgX.one_yes 2 51 true (by rfl) (by rfl) (by rfl) (by rfl) (by (intro ax wx hk Kx hK; obtain ⟨v54, k54, h54⟩ := hk.dep 0 5 54 _ rfl rfl rfl; (first | (replace h54 := h54 9 undef rfl rfl; first | (cases (h54 : v54 = _)) | (obtain ⟨rfl, h54⟩ := h54) | skip) | skip); obtain ⟨v59, k59, h59⟩ := hk.dep 0 10 59 _ rfl rfl rfl; (first | (replace h59 := h59 9 undef rfl rfl; first | (cases (h59 : v59 = _)) | (obtain ⟨rfl, h59⟩ := h59) | skip) | skip); have hL := hk.fact 0 0 _ rfl rfl; (try dsimp only at hL); clear hk; obtain ⟨d0, d1, d2, -, -, -⟩ := rl_cells hL.1; go_simp; refine hK _ _ (fun h => by cases h) (fun _ _ => ?_) (Below.refl _ _); apply RgX.mk))) ?_ rfl RgX.keep_eq (fun _ h => by cases h)
            refine RgX.build_cons (m := 13) (r := RgX.eq _) (RgX.one_plain (by rfl) (by (intro ax wx hk Kx hK; obtain ⟨v51, k51, h51⟩ := hk.dep 0 2 51 _ rfl rfl rfl; (first | (replace h51 := h51 9 undef rfl rfl; first | (cases (h51 : v51 = _)) | (obtain ⟨rfl, h51⟩ := h51) | skip) | skip); obtain ⟨v60, k60, h60⟩ := hk.dep 0 11 60 _ rfl rfl rfl; (first | (replace h60 := h60 9 undef rfl rfl; first | (cases (h60 : v60 = _)) | (obtain ⟨rfl, h60⟩ := h60) | skip) | skip); have hL := hk.fact 0 0 _ rfl rfl; (try dsimp only at hL); clear hk; obtain ⟨d0, d1, d2, -, -, -⟩ := rl_cells hL.1; go_simp; refine hK _ _ (fun h => by cases h) (fun _ _ => ?_) (Below.refl _ _); apply RgX.mk))) ?_ rfl RgX.keep_eq (fun _ h => by cases h)
            refine RgX.build_cons (m := 14) (r := (⟨fun _ _ w5 => AtG w5 w.heap.size 35 (rlC nm pt false), none, none⟩ : RgX.Rl)) (RgX.one_plain (by rfl) (by (intro ax wx hk Kx hK; have k2 := hk.base 2 _ rfl rfl; obtain ⟨v49, k49, h49⟩ := hk.dep 0 0 49 _ rfl rfl rfl; (first | (replace h49 := h49 9 undef rfl rfl; first | (cases (h49 : v49 = _)) | (obtain ⟨rfl, h49⟩ := h49) | skip) | skip); have hL := hk.fact 0 0 _ rfl rfl; (try dsimp only at hL); have hz := hk.fact 1 0 _ rfl rfl; (try dsimp only at hz); clear hk; obtain ⟨d0, d1, d2, -, -, -⟩ := rl_cells hL.1; (obtain ⟨e0, e1, e2, f0, f1, f2⟩ := rl_cells hz; go_simp; exact hK undef (put3 wx w.heap.size nm pt false) (fun _ => rfl) (fun u hu => put3_at hz) rfl)))) ?_ rfl (RgX.keep_r (fun _ _ _ _ h hb => h.below hb) (fun _ _ => ⟨fun h _ _ _ => absurd rfl h, trivial⟩)) (fun _ h => by cases h)
            refine RgX.build_cons (m := 15) (r := RgX.eq _) (RgX.one_plain (by rfl) (by (intro ax wx hk Kx hK; obtain ⟨v61, k61, h61⟩ := hk.dep 0 12 61 _ rfl rfl rfl; (first | (replace h61 := h61 9 undef rfl rfl; first | (cases (h61 : v61 = _)) | (obtain ⟨rfl, h61⟩ := h61) | skip) | skip); have hL := hk.fact 0 0 _ rfl rfl; (try dsimp only at hL); clear hk; obtain ⟨d0, d1, d2, -, -, -⟩ := rl_cells hL.1; go_simp; refine hK _ _ (fun h => by cases h) (fun _ _ => ?_) (Below.refl _ _); apply RgX.mk))) ?_ rfl RgX.keep_eq (fun _ h => by cases h)
            refine RgX.build_end fun wx hj => ?_
            have hL := hj 0 _ rfl rfl
            clear hj
            refine RgX.fin_eq rfl ?_
            refine RgX.fin_eq rfl ?_
            refine RgX.fin_eq rfl ?_
            refine RgX.fin_eq rfl ?_
            refine RgX.fin_eq rfl ?_
            refine RgX.fin_eq rfl ?_
            refine RgX.fin_eq rfl ?_
            refine RgX.fin_eq rfl ?_
            refine RgX.fin_eq rfl ?_
            refine RgX.fin_eq rfl ?_
            refine RgX.fin_eq rfl ?_
            refine RgX.fin_eq rfl ?_
            refine RgX.fin_eq rfl ?_
            refine RgX.fin_none rfl fun s13 => ?_
            refine RgX.fin_eq rfl ?_
            refine RgX.fin_nil ?_
            simp only [List.set_cons_zero, List.set_cons_succ]
            have hz3 := s13 rfl undef rfl
            have HB3 := Lib.hid hL.2
            clear s13 hL
            obtain ⟨d0, d1, d2, -, -, -⟩ := rl_cells hz3
            clear hz3
            have HRES : Hid (RulePost s w (.returned (.tuple #[rlA nm pt false, .bool pl])) wx) := Lib.hid ⟨HB3.out, by
              cases pl
              · exact .inr ⟨HAT2.out.2 (.inr ⟨rfl, rfl⟩), _, _, _, rfl⟩
              · exact .inl ⟨_, HAT2.out.1 ⟨rfl, .inr rfl⟩, rfl⟩⟩
            clear HA2 HB2 HG2 HG0 HAT2 HPL HB3 S2
            go_wp2_with fail
            refine bodyPost_ret (v := .tuple #[rlA nm pt false, .bool pl]) (by unfold rlA; simp [results, Tryd.results17, go_sem, d0, d1, d2]; try rfl) rfl ?_
            exact HRES.out
          · skip
            refine RgX.start (by kernel_rfl) [(13, fun w5 w6 => w6 = put3 w5 w.heap.size nm pt true)] [⟨fun w5 => AtG w5 gg 35 (rlC nm pt true) ∧ Below w.heap.size w w5, none⟩, ⟨fun w5 => AtG w5 w.heap.size 35 (rlC ByteArray.empty ByteArray.empty false), some 13⟩] ⟨⟨fun _ _ h hb => ⟨h.1.below hb, h.2.trans (hb.mono h.2.size)⟩, ⟨fun _ _ _ _ => (fun w5 w6 h he => by subst he; exact ⟨put3_far h.1 (by have := HG0.out; omega), put3_below h.2 (Nat.le_refl _)⟩), trivial⟩⟩, ⟨fun _ _ h hb => h.below hb, ⟨fun _ h _ _ => absurd rfl h, trivial⟩⟩, trivial⟩ (by kernel_rfl) (by kernel_rfl) ⟨⟨HG2.out.drew, HB2.out.drew⟩, HA2.out.drew, trivial⟩ ?_
            show RgX.Build _ _ _ _ _ _ 0 [_, _, _, _, _, _, _, _, _, _, _, _, _, _, _] []
            refine RgX.build_cons (m := 1) (r := RgX.eq _) (RgX.one_plain (by rfl) (by (intro ax wx hk Kx hK; have k7 := hk.base 7 _ rfl rfl; have hL := hk.fact 0 0 _ rfl rfl; (try dsimp only at hL); have hz := hk.fact 1 1 _ rfl rfl; (try dsimp only at hz); clear hk; obtain ⟨d0, d1, d2, -, -, -⟩ := rl_cells hL.1; go_simp; refine hK _ _ (fun h => by cases h) (fun _ _ => ?_) (Below.refl _ _); apply RgX.mk))) ?_ rfl RgX.keep_eq (fun _ h => by cases h)
            refine RgX.build_cons (m := 2) (r := RgX.eq _) (RgX.one_plain (by rfl) (by (intro ax wx hk Kx hK; have k8 := hk.base 8 _ rfl rfl; have hL := hk.fact 0 0 _ rfl rfl; (try dsimp only at hL); have hz := hk.fact 1 3 _ rfl rfl; (try dsimp only at hz); clear hk; obtain ⟨d0, d1, d2, -, -, -⟩ := rl_cells hL.1; go_simp; refine hK _ _ (fun h => by cases h) (fun _ _ => ?_) (Below.refl _ _); apply RgX.mk))) ?_ rfl RgX.keep_eq (fun _ h => by cases h)
            refine RgX.build_cons (m := 3) (r := RgX.eq _) (RgX.one_plain (by rfl) (by (intro ax wx hk Kx hK; obtain ⟨v50, k50, h50⟩ := hk.dep 0 1 50 _ rfl rfl rfl; (first | (replace h50 := h50 9 undef rfl rfl; first | (cases (h50 : v50 = _)) | (obtain ⟨rfl, h50⟩ := h50) | skip) | skip); have hL := hk.fact 0 0 _ rfl rfl; (try dsimp only at hL); have hz := hk.fact 1 2 _ rfl rfl; (try dsimp only at hz); clear hk; obtain ⟨d0, d1, d2, -, -, -⟩ := rl_cells hL.1; go_simp; refine hK _ _ (fun h => by cases h) (fun _ _ => ?_) (Below.refl _ _); apply RgX.mk))) ?_ rfl RgX.keep_eq (fun _ h => by cases h)
            first
              | refine RgX.build_cons (m := 4) (RgX.one_no 2 51 true (by rfl) (by rfl) (by rfl) (by rfl)) ?_ rfl RgX.keep_eq (fun _ h => by cases h)
              | refine RgX.build_cons (m := 4) (RgX.one_und 2 51 true (by rfl) (by rfl) (by rfl) (by rfl)) ?_ rfl RgX.keep_eq (fun _ h => by cases h)
              | refine RgX.build_cons (m := 4) (r := RgX.eq _) (RgX.one_yes 2 51 true (by rfl) (by rfl) (by rfl) (by rfl) (by (intro ax wx hk Kx hK; have k7 := hk.base 7 _ rfl rfl; have hL := hk.fact 0 0 _ rfl rfl; (try dsimp only at hL); have hz := hk.fact 1 3 _ rfl rfl; (try dsimp only at hz); clear hk; obtain ⟨d0, d1, d2, -, -, -⟩ := rl_cells hL.1; go_simp; refine hK _ _ (fun h => by cases h) (fun _ _ => ?_) (Below.refl _ _); apply RgX.mk))) ?_ rfl RgX.keep_eq (fun _ h => by cases h)
            first
              | refine RgX.build_cons (m := 5) (RgX.one_no 2 51 true (by rfl) (by rfl) (by rfl) (by rfl)) ?_ rfl RgX.keep_eq (fun _ h => by cases h)
              | refine RgX.build_cons (m := 5) (RgX.one_und 2 51 true (by rfl) (by rfl) (by rfl) (by rfl)) ?_ rfl RgX.keep_eq (fun _ h => by cases h)
              | refine RgX.build_cons (m := 5) (r := RgX.eq _) (RgX.one_yes 2 51 true (by rfl) (by rfl) (by rfl) (by rfl) (by (intro ax wx hk Kx hK; obtain ⟨v52, k52, h52⟩ := hk.dep 0 3 52 _ rfl rfl rfl; (first | (replace h52 := h52 9 undef rfl rfl; first | (cases (h52 : v52 = _)) | (obtain ⟨rfl, h52⟩ := h52) | skip) | skip); have hL := hk.fact 0 0 _ rfl rfl; (try dsimp only at hL); have hz := hk.fact 1 2 _ rfl rfl; (try dsimp only at hz); clear hk; obtain ⟨d0, d1, d2, -, -, -⟩ := rl_cells hL.1; go_simp; refine hK _ _ (fun h => by cases h) (fun _ _ => ?_) (Below.refl _ _); apply RgX.mk))) ?_ rfl RgX.keep_eq (fun _ h => by cases h)
            first
              | refine RgX.build_cons (m := 6) (RgX.one_no 2 51 true (by rfl) (by rfl) (by rfl) (by rfl)) ?_ rfl RgX.keep_eq (fun _ h => by cases h)
              | refine RgX.build_cons (m := 6) (RgX.one_und 2 51 true (by rfl) (by rfl) (by rfl) (by rfl)) ?_ rfl RgX.keep_eq (fun _ h => by cases h)
              | refine RgX.build_cons (m := 6) (r := RgX.eq _) (RgX.one_yes 2 51 true (by rfl) (by rfl) (by rfl) (by rfl) (by (intro ax wx hk Kx hK; obtain ⟨v53, k53, h53⟩ := hk.dep 0 4 53 _ rfl rfl rfl; (first | (replace h53 := h53 9 undef rfl rfl; first | (cases (h53 : v53 = _)) | (obtain ⟨rfl, h53⟩ := h53) | skip) | skip); have hL := hk.fact 0 0 _ rfl rfl; (try dsimp only at hL); have hz := hk.fact 1 1 _ rfl rfl; (try dsimp only at hz); clear hk; obtain ⟨d0, d1, d2, -, -, -⟩ := rl_cells hL.1; go_simp; refine hK _ _ (fun h => by cases h) (fun _ _ => ?_) (Below.refl _ _); apply RgX.mk))) ?_ rfl RgX.keep_eq (fun _ h => by cases h)
            first
              | refine RgX.build_cons (m := 7) (RgX.one_no 5 54 false (by rfl) (by rfl) (by rfl) (by rfl)) ?_ rfl RgX.keep_eq (fun _ h => by cases h)
              | refine RgX.build_cons (m := 7) (RgX.one_und 5 54 false (by rfl) (by rfl) (by rfl) (by rfl)) ?_ rfl RgX.keep_eq (fun _ h => by cases h)
              | refine RgX.build_cons (m := 7) (r := RgX.eq _) (RgX.one_yes 5 54 false (by rfl) (by rfl) (by rfl) (by rfl) (by (intro ax wx hk Kx hK; have k0 := hk.base 0 _ rfl rfl; have hL := hk.fact 0 0 _ rfl rfl; (try dsimp only at hL); clear hk; obtain ⟨d0, d1, d2, -, -, -⟩ := rl_cells hL.1; go_simp; refine hK _ _ (fun h => by cases h) (fun _ _ => ?_) (Below.refl _ _); apply RgX.mk))) ?_ rfl RgX.keep_eq (fun _ h => by cases h)
            first
              | refine RgX.build_cons (m := 8) (RgX.one_no 5 54 false (by rfl) (by rfl) (by rfl) (by rfl)) ?_ rfl RgX.keep_eq (fun _ h => by cases h)
              | refine RgX.build_cons (m := 8) (RgX.one_und 5 54 false (by rfl) (by rfl) (by rfl) (by rfl)) ?_ rfl RgX.keep_eq (fun _ h => by cases h)
              | refine RgX.build_cons (m := 8) (r := RgX.eq _) (RgX.one_yes 5 54 false (by rfl) (by rfl) (by rfl) (by rfl) (by (intro ax wx hk Kx hK; have k5 := hk.base 5 _ rfl rfl; have hL := hk.fact 0 0 _ rfl rfl; (try dsimp only at hL); clear hk; obtain ⟨d0, d1, d2, -, -, -⟩ := rl_cells hL.1; go_simp; refine hK _ _ (fun h => by cases h) (fun _ _ => ?_) (Below.refl _ _); apply RgX.mk))) ?_ rfl RgX.keep_eq (fun _ h => by cases h)
            first
              | refine RgX.build_cons (m := 9) (RgX.one_no 5 54 false (by rfl) (by rfl) (by rfl) (by rfl)) ?_ rfl RgX.keep_eq (fun _ h => by cases h)
              | refine RgX.build_cons (m := 9) (RgX.one_und 5 54 false (by rfl) (by rfl) (by rfl) (by rfl)) ?_ rfl RgX.keep_eq (fun _ h => by cases h)
              | refine RgX.build_cons (m := 9) (r := RgX.eq _) (RgX.one_yes 5 54 false (by rfl) (by rfl) (by rfl) (by rfl) (by (intro ax wx hk Kx hK; obtain ⟨v56, k56, h56⟩ := hk.dep 0 7 56 _ rfl rfl rfl; (first | (replace h56 := h56 9 undef rfl rfl; first | (cases (h56 : v56 = _)) | (obtain ⟨rfl, h56⟩ := h56) | skip) | skip); have hL := hk.fact 0 0 _ rfl rfl; (try dsimp only at hL); clear hk; obtain ⟨d0, d1, d2, -, -, -⟩ := rl_cells hL.1; go_simp; refine hK _ _ (fun h => by cases h) (fun _ _ => ?_) (Below.refl _ _); apply RgX.mk))) ?_ rfl RgX.keep_eq (fun _ h => by cases h)
            first
              | refine RgX.build_cons (m := 10) (RgX.one_no 5 54 false (by rfl) (by rfl) (by rfl) (by rfl)) ?_ rfl RgX.keep_eq (fun _ h => by cases h)
              | refine RgX.build_cons (m := 10) (RgX.one_und 5 54 false (by rfl) (by rfl) (by rfl) (by rfl)) ?_ rfl RgX.keep_eq (fun _ h => by cases h)
              | refine RgX.build_cons (m := 10) (r := RgX.eq (.string tl)) (RgX.one_yes 5 54 false (by rfl) (by rfl) (by rfl) (by rfl) (by (intro ax wx hk Kx hK; obtain ⟨v55, k55, h55⟩ := hk.dep 0 6 55 _ rfl rfl rfl; (first | (replace h55 := h55 9 undef rfl rfl; first | (cases (h55 : v55 = _)) | (obtain ⟨rfl, h55⟩ := h55) | skip) | skip); obtain ⟨v57, k57, h57⟩ := hk.dep 0 8 57 _ rfl rfl rfl; (first | (replace h57 := h57 9 undef rfl rfl; first | (cases (h57 : v57 = _)) | (obtain ⟨rfl, h57⟩ := h57) | skip) | skip); have hL := hk.fact 0 0 _ rfl rfl; (try dsimp only at hL); clear hk; obtain ⟨d0, d1, d2, -, -, -⟩ := rl_cells hL.1; (have hx := S2.out; go_simp; refine hK _ _ (fun h => by cases h) (fun _ _ => ?_) (Below.refl _ _); apply RgX.mk)))) ?_ rfl RgX.keep_eq (fun _ h => by cases h)
            first
              | refine RgX.build_cons (m := 11) (RgX.one_no 5 54 false (by rfl) (by rfl) (by rfl) (by rfl)) ?_ rfl RgX.keep_eq (fun _ h => by cases h)
              | refine RgX.build_cons (m := 11) (RgX.one_und 5 54 false (by rfl) (by rfl) (by rfl) (by rfl)) ?_ rfl RgX.keep_eq (fun _ h => by cases h)
              | refine RgX.build_cons (m := 11) (r := RgX.eq (.bool pl)) (RgX.one_yes 5 54 false (by rfl) (by rfl) (by rfl) (by rfl) (by (intro ax wx hk Kx hK; obtain ⟨v58, k58, h58⟩ := hk.dep 0 9 58 _ rfl rfl rfl; (first | (replace h58 := h58 9 undef rfl rfl; first | (cases (h58 : v58 = _)) | (obtain ⟨rfl, h58⟩ := h58) | skip) | skip); have hL := hk.fact 0 0 _ rfl rfl; (try dsimp only at hL); clear hk; obtain ⟨d0, d1, d2, -, -, -⟩ := rl_cells hL.1; (go_simp; refine hK _ _ (fun h => by cases h) (fun _ _ => ?_) (Below.refl _ _); show Value.bool _ = Value.bool pl; rw [HPL.out])))) ?_ rfl RgX.keep_eq (fun _ h => by cases h)
            first
              | refine RgX.build_cons (m := 12) (RgX.one_no 2 51 true (by rfl) (by rfl) (by rfl) (by rfl)) ?_ rfl RgX.keep_eq (fun _ h => by cases h)
              | refine RgX.build_cons (m := 12) (RgX.one_und 2 51 true (by rfl) (by rfl) (by rfl) (by rfl)) ?_ rfl RgX.keep_eq (fun _ h => by cases h)
              | refine RgX.build_cons (m := 12) (r := RgX.eq _) (RgX.one_yes 2 51 true (by rfl) (by rfl) (by rfl) (by rfl) (by (intro ax wx hk Kx hK; obtain ⟨v54, k54, h54⟩ := hk.dep 0 5 54 _ rfl rfl rfl; (first | (replace h54 := h54 9 undef rfl rfl; first | (cases (h54 : v54 = _)) | (obtain ⟨rfl, h54⟩ := h54) | skip) | skip); obtain ⟨v59, k59, h59⟩ := hk.dep 0 10 59 _ rfl rfl rfl; (first | (replace h59 := h59 9 undef rfl rfl; first | (cases (h59 : v59 = _)) | (obtain ⟨rfl, h59⟩ := h59) | skip) | skip); have hL := hk.fact 0 0 _ rfl rfl; (try dsimp only at hL); clear hk; obtain ⟨d0, d1, d2, -, -, -⟩ := rl_cells hL.1; go_simp; refine hK _ _ (fun h => by cases h) (fun _ _ => ?_) (Below.refl _ _); apply RgX.mk))) ?_ rfl RgX.keep_eq (fun _ h => by cases h)
            refine RgX.build_cons (m := 13) (r := RgX.eq _) (RgX.one_plain (by rfl) (by (intro ax wx hk Kx hK; obtain ⟨v51, k51, h51⟩ := hk.dep 0 2 51 _ rfl rfl rfl; (first | (replace h51 := h51 9 undef rfl rfl; first | (cases (h51 : v51 = _)) | (obtain ⟨rfl, h51⟩ := h51) | skip) | skip); obtain ⟨v60, k60, h60⟩ := hk.dep 0 11 60 _ rfl rfl rfl; (first | (replace h60 := h60 9 undef rfl rfl; first | (cases (h60 : v60 = _)) | (obtain ⟨rfl, h60⟩ := h60) | skip) | skip); have hL := hk.fact 0 0 _ rfl rfl; (try dsimp only at hL); clear hk; obtain ⟨d0, d1, d2, -, -, -⟩ := rl_cells hL.1; go_simp; refine hK _ _ (fun h => by cases h) (fun _ _ => ?_) (Below.refl _ _); apply RgX.mk))) ?_ rfl RgX.keep_eq (fun _ h => by cases h)
            refine RgX.build_cons (m := 14) (r := (⟨fun _ _ w5 => AtG w5 w.heap.size 35 (rlC nm pt true), none, none⟩ : RgX.Rl)) (RgX.one_plain (by rfl) (by (intro ax wx hk Kx hK; have k2 := hk.base 2 _ rfl rfl; obtain ⟨v49, k49, h49⟩ := hk.dep 0 0 49 _ rfl rfl rfl; (first | (replace h49 := h49 9 undef rfl rfl; first | (cases (h49 : v49 = _)) | (obtain ⟨rfl, h49⟩ := h49) | skip) | skip); have hL := hk.fact 0 0 _ rfl rfl; (try dsimp only at hL); have hz := hk.fact 1 0 _ rfl rfl; (try dsimp only at hz); clear hk; obtain ⟨d0, d1, d2, -, -, -⟩ := rl_cells hL.1; (obtain ⟨e0, e1, e2, f0, f1, f2⟩ := rl_cells hz; go_simp; exact hK undef (put3 wx w.heap.size nm pt true) (fun _ => rfl) (fun u hu => put3_at hz) rfl)))) ?_ rfl (RgX.keep_r (fun _ _ _ _ h hb => h.below hb) (fun _ _ => ⟨fun h _ _ _ => absurd rfl h, trivial⟩)) (fun _ h => by cases h)
            refine RgX.build_cons (m := 15) (r := RgX.eq _) (RgX.one_plain (by rfl) (by (intro ax wx hk Kx hK; obtain ⟨v61, k61, h61⟩ := hk.dep 0 12 61 _ rfl rfl rfl; (first | (replace h61 := h61 9 undef rfl rfl; first | (cases (h61 : v61 = _)) | (obtain ⟨rfl, h61⟩ := h61) | skip) | skip); have hL := hk.fact 0 0 _ rfl rfl; (try dsimp only at hL); clear hk; obtain ⟨d0, d1, d2, -, -, -⟩ := rl_cells hL.1; go_simp; refine hK _ _ (fun h => by cases h) (fun _ _ => ?_) (Below.refl _ _); apply RgX.mk))) ?_ rfl RgX.keep_eq (fun _ h => by cases h)
            refine RgX.build_end fun wx hj => ?_
            have hL := hj 0 _ rfl rfl
            clear hj
            refine RgX.fin_eq rfl ?_
            refine RgX.fin_eq rfl ?_
            refine RgX.fin_eq rfl ?_
            refine RgX.fin_eq rfl ?_
            refine RgX.fin_eq rfl ?_
            refine RgX.fin_eq rfl ?_
            refine RgX.fin_eq rfl ?_
            refine RgX.fin_eq rfl ?_
            refine RgX.fin_eq rfl ?_
            refine RgX.fin_eq rfl ?_
            refine RgX.fin_eq rfl ?_
            refine RgX.fin_eq rfl ?_
            refine RgX.fin_eq rfl ?_
            refine RgX.fin_none rfl fun s13 => ?_
            refine RgX.fin_eq rfl ?_
            refine RgX.fin_nil ?_
            simp only [List.set_cons_zero, List.set_cons_succ]
            have hz3 := s13 rfl undef rfl
            have HB3 := Lib.hid hL.2
            clear s13 hL
            obtain ⟨d0, d1, d2, -, -, -⟩ := rl_cells hz3
            clear hz3
            have HRES : Hid (RulePost s w (.returned (.tuple #[rlA nm pt true, .bool true])) wx) := Lib.hid ⟨HB3.out, .inl ⟨_, HAT2.out.1 ⟨rfl, .inl rfl⟩, rfl⟩⟩
            clear HA2 HB2 HG2 HG0 HAT2 HPL HB3 S2
            go_wp2_with fail
            refine bodyPost_ret (v := .tuple #[rlA nm pt true, .bool true]) (by unfold rlA; simp [results, Tryd.results17, go_sem, d0, d1, d2]; try rfl) rfl ?_
            exact HRES.out
        · go_upto_region 14 with (fail)
          have HAT2 := Lib.hid (HAT.out false ⟨fun h => absurd h (by simp), fun h => absurd h hnm⟩)
          clear hnm HAT
          refine RgX.start (by kernel_rfl) [(13, fun w5 w6 => w6 = put3 w5 w.heap.size nm pt lu)] [⟨fun w5 => AtG w5 gg 35 (rlC nm pt lu) ∧ Below w.heap.size w w5, none⟩, ⟨fun w5 => AtG w5 w.heap.size 35 (rlC ByteArray.empty ByteArray.empty false), some 13⟩] ⟨⟨fun _ _ h hb => ⟨h.1.below hb, h.2.trans (hb.mono h.2.size)⟩, ⟨fun _ _ _ _ => (fun w5 w6 h he => by subst he; exact ⟨put3_far h.1 (by have := HG0.out; omega), put3_below h.2 (Nat.le_refl _)⟩), trivial⟩⟩, ⟨fun _ _ h hb => h.below hb, ⟨fun _ h _ _ => absurd rfl h, trivial⟩⟩, trivial⟩ (by kernel_rfl) (by kernel_rfl) ⟨⟨HG2.out.drew, HB2.out.drew⟩, HA2.out.drew, trivial⟩ ?_
          show RgX.Build _ _ _ _ _ _ 0 [_, _, _, _, _, _, _, _, _, _, _, _, _, _, _] []
          refine RgX.build_cons (m := 1) (r := RgX.eq _) (RgX.one_plain (by rfl) (by (intro ax wx hk Kx hK; have k7 := hk.base 7 _ rfl rfl; have hL := hk.fact 0 0 _ rfl rfl; (try dsimp only at hL); have hz := hk.fact 1 1 _ rfl rfl; (try dsimp only at hz); clear hk; obtain ⟨d0, d1, d2, -, -, -⟩ := rl_cells hL.1; go_simp; refine hK _ _ (fun h => by cases h) (fun _ _ => ?_) (Below.refl _ _); apply RgX.mk))) ?_ rfl RgX.keep_eq (fun _ h => by cases h)
          refine RgX.build_cons (m := 2) (r := RgX.eq _) (RgX.one_plain (by rfl) (by (intro ax wx hk Kx hK; have k8 := hk.base 8 _ rfl rfl; have hL := hk.fact 0 0 _ rfl rfl; (try dsimp only at hL); have hz := hk.fact 1 3 _ rfl rfl; (try dsimp only at hz); clear hk; obtain ⟨d0, d1, d2, -, -, -⟩ := rl_cells hL.1; go_simp; refine hK _ _ (fun h => by cases h) (fun _ _ => ?_) (Below.refl _ _); apply RgX.mk))) ?_ rfl RgX.keep_eq (fun _ h => by cases h)
          refine RgX.build_cons (m := 3) (r := RgX.eq _) (RgX.one_plain (by rfl) (by (intro ax wx hk Kx hK; obtain ⟨v50, k50, h50⟩ := hk.dep 0 1 50 _ rfl rfl rfl; (first | (replace h50 := h50 9 undef rfl rfl; first | (cases (h50 : v50 = _)) | (obtain ⟨rfl, h50⟩ := h50) | skip) | skip); have hL := hk.fact 0 0 _ rfl rfl; (try dsimp only at hL); have hz := hk.fact 1 2 _ rfl rfl; (try dsimp only at hz); clear hk; obtain ⟨d0, d1, d2, -, -, -⟩ := rl_cells hL.1; go_simp; refine hK _ _ (fun h => by cases h) (fun _ _ => ?_) (Below.refl _ _); apply RgX.mk))) ?_ rfl RgX.keep_eq (fun _ h => by cases h)
          first
            | refine RgX.build_cons (m := 4) (RgX.one_no 2 51 true (by rfl) (by rfl) (by rfl) (by rfl)) ?_ rfl RgX.keep_eq (fun _ h => by cases h)
            | refine RgX.build_cons (m := 4) (RgX.one_und 2 51 true (by rfl) (by rfl) (by rfl) (by rfl)) ?_ rfl RgX.keep_eq (fun _ h => by cases h)
            | refine RgX.build_cons (m := 4) (r := RgX.eq _) (RgX.one_yes 2 51 true (by rfl) (by rfl) (by rfl) (by rfl) (by (intro ax wx hk Kx hK; have k7 := hk.base 7 _ rfl rfl; have hL := hk.fact 0 0 _ rfl rfl; (try dsimp only at hL); have hz := hk.fact 1 3 _ rfl rfl; (try dsimp only at hz); clear hk; obtain ⟨d0, d1, d2, -, -, -⟩ := rl_cells hL.1; go_simp; refine hK _ _ (fun h => by cases h) (fun _ _ => ?_) (Below.refl _ _); apply RgX.mk))) ?_ rfl RgX.keep_eq (fun _ h => by cases h)
          first
            | refine RgX.build_cons (m := 5) (RgX.one_no 2 51 true (by rfl) (by rfl) (by rfl) (by rfl)) ?_ rfl RgX.keep_eq (fun _ h => by cases h)
            | refine RgX.build_cons (m := 5) (RgX.one_und 2 51 true (by rfl) (by rfl) (by rfl) (by rfl)) ?_ rfl RgX.keep_eq (fun _ h => by cases h)
            | refine RgX.build_cons (m := 5) (r := RgX.eq _) (RgX.one_yes 2 51 true (by rfl) (by rfl) (by rfl) (by rfl) (by (intro ax wx hk Kx hK; obtain ⟨v52, k52, h52⟩ := hk.dep 0 3 52 _ rfl rfl rfl; (first | (replace h52 := h52 9 undef rfl rfl; first | (cases (h52 : v52 = _)) | (obtain ⟨rfl, h52⟩ := h52) | skip) | skip); have hL := hk.fact 0 0 _ rfl rfl; (try dsimp only at hL); have hz := hk.fact 1 2 _ rfl rfl; (try dsimp only at hz); clear hk; obtain ⟨d0, d1, d2, -, -, -⟩ := rl_cells hL.1; go_simp; refine hK _ _ (fun h => by cases h) (fun _ _ => ?_) (Below.refl _ _); apply RgX.mk))) ?_ rfl RgX.keep_eq (fun _ h => by cases h)
          first
            | refine RgX.build_cons (m := 6) (RgX.one_no 2 51 true (by rfl) (by rfl) (by rfl) (by rfl)) ?_ rfl RgX.keep_eq (fun _ h => by cases h)
            | refine RgX.build_cons (m := 6) (RgX.one_und 2 51 true (by rfl) (by rfl) (by rfl) (by rfl)) ?_ rfl RgX.keep_eq (fun _ h => by cases h)
            | refine RgX.build_cons (m := 6) (r := RgX.eq _) (RgX.one_yes 2 51 true (by rfl) (by rfl) (by rfl) (by rfl) (by (intro ax wx hk Kx hK; obtain ⟨v53, k53, h53⟩ := hk.dep 0 4 53 _ rfl rfl rfl; (first | (replace h53 := h53 9 undef rfl rfl; first | (cases (h53 : v53 = _)) | (obtain ⟨rfl, h53⟩ := h53) | skip) | skip); have hL := hk.fact 0 0 _ rfl rfl; (try dsimp only at hL); have hz := hk.fact 1 1 _ rfl rfl; (try dsimp only at hz); clear hk; obtain ⟨d0, d1, d2, -, -, -⟩ := rl_cells hL.1; go_simp; refine hK _ _ (fun h => by cases h) (fun _ _ => ?_) (Below.refl _ _); apply RgX.mk))) ?_ rfl RgX.keep_eq (fun _ h => by cases h)
          first
            | refine RgX.build_cons (m := 7) (RgX.one_no 5 54 false (by rfl) (by rfl) (by rfl) (by rfl)) ?_ rfl RgX.keep_eq (fun _ h => by cases h)
            | refine RgX.build_cons (m := 7) (RgX.one_und 5 54 false (by rfl) (by rfl) (by rfl) (by rfl)) ?_ rfl RgX.keep_eq (fun _ h => by cases h)
            | refine RgX.build_cons (m := 7) (r := RgX.eq _) (RgX.one_yes 5 54 false (by rfl) (by rfl) (by rfl) (by rfl) (by (intro ax wx hk Kx hK; have k0 := hk.base 0 _ rfl rfl; have hL := hk.fact 0 0 _ rfl rfl; (try dsimp only at hL); clear hk; obtain ⟨d0, d1, d2, -, -, -⟩ := rl_cells hL.1; go_simp; refine hK _ _ (fun h => by cases h) (fun _ _ => ?_) (Below.refl _ _); apply RgX.mk))) ?_ rfl RgX.keep_eq (fun _ h => by cases h)
          first
            | refine RgX.build_cons (m := 8) (RgX.one_no 5 54 false (by rfl) (by rfl) (by rfl) (by rfl)) ?_ rfl RgX.keep_eq (fun _ h => by cases h)
            | refine RgX.build_cons (m := 8) (RgX.one_und 5 54 false (by rfl) (by rfl) (by rfl) (by rfl)) ?_ rfl RgX.keep_eq (fun _ h => by cases h)
            | refine RgX.build_cons (m := 8) (r := RgX.eq _) (RgX.one_yes 5 54 false (by rfl) (by rfl) (by rfl) (by rfl) (by (intro ax wx hk Kx hK; have k5 := hk.base 5 _ rfl rfl; have hL := hk.fact 0 0 _ rfl rfl; (try dsimp only at hL); clear hk; obtain ⟨d0, d1, d2, -, -, -⟩ := rl_cells hL.1; go_simp; refine hK _ _ (fun h => by cases h) (fun _ _ => ?_) (Below.refl _ _); apply RgX.mk))) ?_ rfl RgX.keep_eq (fun _ h => by cases h)
          first
            | refine RgX.build_cons (m := 9) (RgX.one_no 5 54 false (by rfl) (by rfl) (by rfl) (by rfl)) ?_ rfl RgX.keep_eq (fun _ h => by cases h)
            | refine RgX.build_cons (m := 9) (RgX.one_und 5 54 false (by rfl) (by rfl) (by rfl) (by rfl)) ?_ rfl RgX.keep_eq (fun _ h => by cases h)
            | refine RgX.build_cons (m := 9) (r := RgX.eq _) (RgX.one_yes 5 54 false (by rfl) (by rfl) (by rfl) (by rfl) (by (intro ax wx hk Kx hK; obtain ⟨v56, k56, h56⟩ := hk.dep 0 7 56 _ rfl rfl rfl; (first | (replace h56 := h56 9 undef rfl rfl; first | (cases (h56 : v56 = _)) | (obtain ⟨rfl, h56⟩ := h56) | skip) | skip); have hL := hk.fact 0 0 _ rfl rfl; (try dsimp only at hL); clear hk; obtain ⟨d0, d1, d2, -, -, -⟩ := rl_cells hL.1; go_simp; refine hK _ _ (fun h => by cases h) (fun _ _ => ?_) (Below.refl _ _); apply RgX.mk))) ?_ rfl RgX.keep_eq (fun _ h => by cases h)
          first
            | refine RgX.build_cons (m := 10) (RgX.one_no 5 54 false (by rfl) (by rfl) (by rfl) (by rfl)) ?_ rfl RgX.keep_eq (fun _ h => by cases h)
            | refine RgX.build_cons (m := 10) (RgX.one_und 5 54 false (by rfl) (by rfl) (by rfl) (by rfl)) ?_ rfl RgX.keep_eq (fun _ h => by cases h)
            | refine RgX.build_cons (m := 10) (r := RgX.eq (.string tl)) (RgX.one_yes 5 54 false (by rfl) (by rfl) (by rfl) (by rfl) (by (intro ax wx hk Kx hK; obtain ⟨v55, k55, h55⟩ := hk.dep 0 6 55 _ rfl rfl rfl; (first | (replace h55 := h55 9 undef rfl rfl; first | (cases (h55 : v55 = _)) | (obtain ⟨rfl, h55⟩ := h55) | skip) | skip); obtain ⟨v57, k57, h57⟩ := hk.dep 0 8 57 _ rfl rfl rfl; (first | (replace h57 := h57 9 undef rfl rfl; first | (cases (h57 : v57 = _)) | (obtain ⟨rfl, h57⟩ := h57) | skip) | skip); have hL := hk.fact 0 0 _ rfl rfl; (try dsimp only at hL); clear hk; obtain ⟨d0, d1, d2, -, -, -⟩ := rl_cells hL.1; (have hx := S2.out; go_simp; refine hK _ _ (fun h => by cases h) (fun _ _ => ?_) (Below.refl _ _); apply RgX.mk)))) ?_ rfl RgX.keep_eq (fun _ h => by cases h)
          first
            | refine RgX.build_cons (m := 11) (RgX.one_no 5 54 false (by rfl) (by rfl) (by rfl) (by rfl)) ?_ rfl RgX.keep_eq (fun _ h => by cases h)
            | refine RgX.build_cons (m := 11) (RgX.one_und 5 54 false (by rfl) (by rfl) (by rfl) (by rfl)) ?_ rfl RgX.keep_eq (fun _ h => by cases h)
            | refine RgX.build_cons (m := 11) (r := RgX.eq (.bool pl)) (RgX.one_yes 5 54 false (by rfl) (by rfl) (by rfl) (by rfl) (by (intro ax wx hk Kx hK; obtain ⟨v58, k58, h58⟩ := hk.dep 0 9 58 _ rfl rfl rfl; (first | (replace h58 := h58 9 undef rfl rfl; first | (cases (h58 : v58 = _)) | (obtain ⟨rfl, h58⟩ := h58) | skip) | skip); have hL := hk.fact 0 0 _ rfl rfl; (try dsimp only at hL); clear hk; obtain ⟨d0, d1, d2, -, -, -⟩ := rl_cells hL.1; (go_simp; refine hK _ _ (fun h => by cases h) (fun _ _ => ?_) (Below.refl _ _); show Value.bool _ = Value.bool pl; rw [HPL.out])))) ?_ rfl RgX.keep_eq (fun _ h => by cases h)
          first
            | refine RgX.build_cons (m := 12) (RgX.one_no 2 51 true (by rfl) (by rfl) (by rfl) (by rfl)) ?_ rfl RgX.keep_eq (fun _ h => by cases h)
            | refine RgX.build_cons (m := 12) (RgX.one_und 2 51 true (by rfl) (by rfl) (by rfl) (by rfl)) ?_ rfl RgX.keep_eq (fun _ h => by cases h)
            | refine RgX.build_cons (m := 12) (r := RgX.eq _) (RgX.one_yes 2 51 true (by rfl) (by rfl) (by rfl) (by rfl) (by (intro ax wx hk Kx hK; obtain ⟨v54, k54, h54⟩ := hk.dep 0 5 54 _ rfl rfl rfl; (first | (replace h54 := h54 9 undef rfl rfl; first | (cases (h54 : v54 = _)) | (obtain ⟨rfl, h54⟩ := h54) | skip) | skip); obtain ⟨v59, k59, h59⟩ := hk.dep 0 10 59 _ rfl rfl rfl; (first | (replace h59 := h59 9 undef rfl rfl; first | (cases (h59 : v59 = _)) | (obtain ⟨rfl, h59⟩ := h59) | skip) | skip); have hL := hk.fact 0 0 _ rfl rfl; (try dsimp only at hL); clear hk; obtain ⟨d0, d1, d2, -, -, -⟩ := rl_cells hL.1; go_simp; refine hK _ _ (fun h => by cases h) (fun _ _ => ?_) (Below.refl _ _); apply RgX.mk))) ?_ rfl RgX.keep_eq (fun _ h => by cases h)
          refine RgX.build_cons (m := 13) (r := RgX.eq _) (RgX.one_plain (by rfl) (by (intro ax wx hk Kx hK; obtain ⟨v51, k51, h51⟩ := hk.dep 0 2 51 _ rfl rfl rfl; (first | (replace h51 := h51 9 undef rfl rfl; first | (cases (h51 : v51 = _)) | (obtain ⟨rfl, h51⟩ := h51) | skip) | skip); obtain ⟨v60, k60, h60⟩ := hk.dep 0 11 60 _ rfl rfl rfl; (first | (replace h60 := h60 9 undef rfl rfl; first | (cases (h60 : v60 = _)) | (obtain ⟨rfl, h60⟩ := h60) | skip) | skip); have hL := hk.fact 0 0 _ rfl rfl; (try dsimp only at hL); clear hk; obtain ⟨d0, d1, d2, -, -, -⟩ := rl_cells hL.1; go_simp; refine hK _ _ (fun h => by cases h) (fun _ _ => ?_) (Below.refl _ _); apply RgX.mk))) ?_ rfl RgX.keep_eq (fun _ h => by cases h)
          refine RgX.build_cons (m := 14) (r := (⟨fun _ _ w5 => AtG w5 w.heap.size 35 (rlC nm pt lu), none, none⟩ : RgX.Rl)) (RgX.one_plain (by rfl) (by (intro ax wx hk Kx hK; have k2 := hk.base 2 _ rfl rfl; obtain ⟨v49, k49, h49⟩ := hk.dep 0 0 49 _ rfl rfl rfl; (first | (replace h49 := h49 9 undef rfl rfl; first | (cases (h49 : v49 = _)) | (obtain ⟨rfl, h49⟩ := h49) | skip) | skip); have hL := hk.fact 0 0 _ rfl rfl; (try dsimp only at hL); have hz := hk.fact 1 0 _ rfl rfl; (try dsimp only at hz); clear hk; obtain ⟨d0, d1, d2, -, -, -⟩ := rl_cells hL.1; (obtain ⟨e0, e1, e2, f0, f1, f2⟩ := rl_cells hz; go_simp; exact hK undef (put3 wx w.heap.size nm pt lu) (fun _ => rfl) (fun u hu => put3_at hz) rfl)))) ?_ rfl (RgX.keep_r (fun _ _ _ _ h hb => h.below hb) (fun _ _ => ⟨fun h _ _ _ => absurd rfl h, trivial⟩)) (fun _ h => by cases h)
          refine RgX.build_cons (m := 15) (r := RgX.eq _) (RgX.one_plain (by rfl) (by (intro ax wx hk Kx hK; obtain ⟨v61, k61, h61⟩ := hk.dep 0 12 61 _ rfl rfl rfl; (first | (replace h61 := h61 9 undef rfl rfl; first | (cases (h61 : v61 = _)) | (obtain ⟨rfl, h61⟩ := h61) | skip) | skip); have hL := hk.fact 0 0 _ rfl rfl; (try dsimp only at hL); clear hk; obtain ⟨d0, d1, d2, -, -, -⟩ := rl_cells hL.1; go_simp; refine hK _ _ (fun h => by cases h) (fun _ _ => ?_) (Below.refl _ _); apply RgX.mk))) ?_ rfl RgX.keep_eq (fun _ h => by cases h)
          refine RgX.build_end fun wx hj => ?_
          have hL := hj 0 _ rfl rfl
          clear hj
          refine RgX.fin_eq rfl ?_
          refine RgX.fin_eq rfl ?_
          refine RgX.fin_eq rfl ?_
          refine RgX.fin_eq rfl ?_
          refine RgX.fin_eq rfl ?_
          refine RgX.fin_eq rfl ?_
          refine RgX.fin_eq rfl ?_
          refine RgX.fin_eq rfl ?_
          refine RgX.fin_eq rfl ?_
          refine RgX.fin_eq rfl ?_
          refine RgX.fin_eq rfl ?_
          refine RgX.fin_eq rfl ?_
          refine RgX.fin_eq rfl ?_
          refine RgX.fin_none rfl fun s13 => ?_
          refine RgX.fin_eq rfl ?_
          refine RgX.fin_nil ?_
          simp only [List.set_cons_zero, List.set_cons_succ]
          have hz3 := s13 rfl undef rfl
          have HB3 := Lib.hid hL.2
          clear s13 hL
          obtain ⟨d0, d1, d2, -, -, -⟩ := rl_cells hz3
          clear hz3
          have HRES : Hid (RulePost s w (.returned (.tuple #[rlA nm pt lu, .bool false])) wx) := Lib.hid ⟨HB3.out, .inr ⟨HAT2.out.2 (.inl rfl), _, _, _, rfl⟩⟩
          clear HA2 HB2 HG2 HG0 HAT2 HPL HB3 S2
          go_wp2_with fail
          refine bodyPost_ret (v := .tuple #[rlA nm pt lu, .bool false]) (by unfold rlA; simp [results, Tryd.results17, go_sem, d0, d1, d2]; try rfl) rfl ?_
          exact HRES.out
      · have hkI : (k : Int) < i + 2 := by omega
        have hi0 : ¬ (i : Int) < 0 := by omega
        have hi1 : (i : Int) ≤ 10000 := by have := HSZ.out; omega
        have HNO := Lib.hid (no_rule HF.out HLL.out (fun r h => by obtain ⟨i, k, h1, h2, h3⟩ := h; omega))
        have hz := HZ.out
        obtain ⟨c0, c1, c2, f0, f1, f2⟩ := rl_cells hz
        clear hz hlt hk hik
        go_wp2_with fail
        have hA2 := put3_at (a' := ByteArray.empty) (b' := ByteArray.empty) (c' := false) HZ.out
        have HB2 := Lib.hid (put3_below (g := w.heap.size) (a := ByteArray.empty) (b := ByteArray.empty) (c := false) HB.out (Nat.le_refl _))
        refine (show ∀ W2 : World, W2 = put3 w1 w.heap.size (ByteArray.empty) (ByteArray.empty) (false) → bodyPost Tryd.prog Tryd.f17 (RulePost s w) Exit.ret _ W2 from fun W2 hW2 => ?_) _ rfl
        rw [← hW2] at hA2 HB2
        obtain ⟨d0, d1, d2, -, -, -⟩ := rl_cells hA2
        clear hW2 hA2
        refine bodyPost_ret (v := .tuple #[rlA (ByteArray.empty) (ByteArray.empty) (false), .bool false]) (by unfold rlA; simp [results, Tryd.results17, go_sem, d0, d1, d2]; try rfl) rfl ?_
        exact ⟨HB2.out, .inr ⟨HNO.out, _, _, _, rfl⟩⟩
end Go.Proofs.YtaafmfooommepaaDoor
