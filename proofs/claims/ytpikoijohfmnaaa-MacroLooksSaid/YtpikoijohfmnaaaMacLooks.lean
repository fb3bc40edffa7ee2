/- The walk of MacroLooks. -/
import Derived.Test.YtpikoijohfmnaaaMacLaw
import Derived.Test.YtpikoijohfmnaaaMacTells2
set_option linter.unusedVariables false
set_option linter.unusedSimpArgs false
namespace Go.Proofs.Ytpikoijohfmnaaa
open Go.RowKit
theorem rdW_cell {w : World} {b o n c : Nat} {xs : List Int} (h : RdK .u64 w (.slice (some ⟨b, o, none⟩) n c) xs) (j : Nat) (hj : j < xs.length) : w.cell? ⟨b, o + j, none⟩ = some (.int .u64 (xs.getD j 0)) := by
  rcases h with ⟨rfl, _⟩ | ⟨b', o', c', heq, _, _, h3, h4⟩
  · cases hj
  · injection heq with e1 e2 e3
    injection e1 with e1
    injection e1 with e1 e4
    subst e1; subst e4
    exact h3 j hj
theorem rdW_in {w : World} {v : Value} {xs : List Int} (h : RdK .u64 w v xs) (j : Nat) (hj : j < xs.length) : 0 ≤ xs.getD j 0 ∧ xs.getD j 0 ≤ 18446744073709551615 := by
  rcases h with ⟨rfl, _⟩ | ⟨b', o', c', heq, _, _, h3, h4⟩
  · cases hj
  · have hw := h4 (xs.getD j 0) (by rw [List.getD_eq_getElem?_getD, List.getElem?_eq_getElem hj]; exact List.getElem_mem hj)
    generalize xs.getD j 0 = v at hw ⊢
    simp [Lit.wf, IntKind.min, IntKind.max, IntKind.signed, IntKind.bits] at hw
    omega
theorem src_ownN {w : World} {base n size : Nat} {e : TypeId} {v : Value} {xs : List Value} (h : w.ownsRow base e size v n xs) : SrcRow w v n xs := by
  obtain ⟨hl, h⟩ := h
  rcases h with ⟨rfl, h0⟩ | ⟨g, cap, cur, rfl, hb, hh, hnc, hcm, hcs, hct⟩
  · exact .inl ⟨rfl, List.eq_nil_of_length_eq_zero (by rw [hl, h0, Nat.zero_mul]), h0⟩
  · refine .inr ⟨⟨g, 0, none⟩, cap, rfl, fun j y hy => ?_⟩
    have e1 : (⟨g, 0, none⟩ : Addr).add j = ⟨g, j, none⟩ := by unfold Addr.add; split <;> simp_all
    rw [e1]
    rw [← hct] at hy
    have : cur[j]? = some y := by
      rw [List.getElem?_take] at hy
      split at hy
      · simpa using hy
      · cases hy
    simp [World.cell?, hh, this]
theorem macroLooks_out (key step k : Int) (a : Option Addr) (m c : Nat) (w : World) (h : 100 < m) :
    Calls Try.prog 5 #[.slice a m c, .int .u64 key, .int .i64 step, .int .i64 k] w fun e w' => e = .returned (.bool true) ∧ Below w.heap.size w w' := by
  have h1 : 100 < (m : Int) := by omega
  clear h
  go_enter Try.func5, Try.ntmps5
  go_wp2_with fail
  refine (up11_any _).mono ?_; rintro e9 w1 ⟨rfl, hb1⟩
  have HB1 := Lib.hid hb1; clear hb1
  go_wp2_with fail
  go_returns
  exact ⟨rfl, HB1.out⟩
theorem ins2_one (a b c d e f a' b' c' d' e' f' : Int) : ∀ y ∈ (#[Value.int .i64 a, .int .i64 b, .int .i64 c, .int .i64 d, .int .i64 e, .int .u64 f, .int .i64 a', .int .i64 b', .int .i64 c', .int .i64 d', .int .i64 e', .int .u64 f'] : Array Value).toList, y.oneCell' = true := by
  intro y hy; simp at hy; rcases hy with rfl | rfl | rfl | rfl | rfl | rfl | rfl | rfl | rfl | rfl | rfl | rfl <;> rfl
set_option maxRecDepth 100000 in
set_option maxHeartbeats 8000000 in
theorem macroLooks_in (key step k : Int) (vt : Value) (ts : List Int) (w : World) (hm : ts.length ≤ 100) (hr : RdK .u64 w vt ts) (hk : 0 ≤ key ∧ key ≤ 18446744073709551615) :
    Calls Try.prog 5 #[vt, .int .u64 key, .int .i64 step, .int .i64 k] w fun e w' => e = .returned (.bool true) ∧ Below w.heap.size w w' := by
  obtain ⟨a1, c1, rfl, hA⟩ : ∃ a c, vt = .slice a ts.length c ∧ (ts.length = 0 ∨ ∃ b o, a = some ⟨b, o, none⟩) := by
    rcases hr with ⟨rfl, a, c, rfl⟩ | ⟨b, o, c, rfl, _⟩
    · exact ⟨a, c, rfl, .inl rfl⟩
    · exact ⟨_, c, rfl, .inr ⟨b, o, rfl⟩⟩
  have HIN := Lib.hid (rdW_in hr)
  obtain ⟨n, hn⟩ : ∃ n, ts.length = n := ⟨_, rfl⟩
  rw [hn] at hr hm hA ⊢
  have i0 : ¬ 100 < (n : Int) := by omega
  have i1 : (n : Int) ≤ 100 := by omega
  have HM100 := Lib.hid hm; have HH := Lib.hid hr; have HA := Lib.hid hA; have HN := Lib.hid hn; have HK := Lib.hid hk
  clear hr hm hA hn hk
  have E10 : Hid ((10 + (n : Int)) = ((10 + n : Nat) : Int)) := Lib.hid (by omega)
  go_enter Try.func5, Try.ntmps5
  go_wp2_with fail
  refine (up11_any _).mono ?_; rintro e9 w1 ⟨rfl, hb1⟩
  have HB1 := Lib.hid hb1; clear hb1
  go_wp2_with fail
  rw [E10.out]
  refine (ctNew_yes (10 + n) _ (by omega) (by have := HM100.out; omega)).mono ?_; rintro e9 w7 ⟨g, gc, rfl, hg, hgc, hM, hb⟩
  have HM := Lib.hid hM; have HG := Lib.hid hg; have HGC := Lib.hid hgc; have HB7 := Lib.hid (HB1.out.trans (hb.mono HB1.out.size))
  clear hM hg hgc hb E10
  go_wp2_with fail
  go_loopw [11, 12] (fun v i wr => ∃ j : Nat, j ≤ n ∧ i = .int .i64 j ∧ wr.ownsRow w7.heap.size 35 6 v j (flat6 (heads (fun i => ts.getD i 0) j)) ∧ Below w7.heap.size w7 wr) (fun _ i _ => n - (intOf i).toNat)
  case atStart => exact ⟨0, by omega, rfl, own_nil _ _ _ _, Below.refl _ _⟩
  case round =>
    obtain ⟨j, hj, rfl, ho, hbl⟩ := hrel
    obtain ⟨va, vc, rfl⟩ := own_form ho
    have HO := Lib.hid ho; have HBL := Lib.hid hbl; clear ho hbl
    by_cases hjn : j < n
    · rcases HA.out with h0 | ⟨b1, o1, rfl⟩
      · exact absurd h0 (by omega)
      have hj2 : j < ts.length := by rw [HN.out]; exact hjn
      have hc0 := rdW_cell HH.out j hj2
      have hlt := block_lt_of_cell hc0
      have z0 := (HBL.out.cell (p := ⟨b1, o1 + j, none⟩) (by have := HB7.out.size; show b1 < _; have h2 : b1 < w.heap.size := hlt; omega)).trans ((HB7.out.cell (p := ⟨b1, o1 + j, none⟩) hlt).trans hc0)
      have hs := heads_succ (fun i => ts.getD i 0) j
      have HS := Lib.hid hs
      clear hc0 hlt hs
      generalize hu : ts.getD j 0 = u at z0
      have HU := Lib.hid hu; clear hu
      go_wp2_with (at_builtin; go_must (refine wpList_appRow rfl (.tmp 34) (.tmp 42) 22 rfl w7.heap.size 35 _ 6 48 Try.underlying22 infoIns rfl (by decide) _ _ j 1 _ _ (own_below HO.out ((Below.refl _ _).alloc (Nat.le_refl _) _)) (src_at (AtG.new _ 35 _) 1) rfl rfl rfl (ins1_one _ _ _ _ _ _) (by omega) (by decide) (by have := HBL.out.size; simp; omega) ?_); intro v2 w3 ho2 hg2; have HO2 := Lib.hid ho2; have HB2 := Lib.hid ((HBL.out.alloc HBL.out.size _).grown hg2 (by have := HBL.out.size; simp; omega) (fun q hq => own_base HO.out q hq)); clear ho2 hg2 z0)
      refine ⟨⟨j + 1, by omega, by go_num, ?_, HB2.out⟩, by simp [intOf]; omega⟩
      rw [HS.out, flat6_append]
      have := HO2.out
      rw [← HU.out] at this
      exact this
    · obtain rfl : j = n := by omega
      rcases (show j = 0 ∨ (0 < (j : Int) ∧ k < 0) ∨ (0 < (j : Int) ∧ 0 ≤ k ∧ ¬ k < j) ∨ (0 < (j : Int) ∧ 0 ≤ k ∧ k < j) by omega) with h | ⟨h1, h2⟩ | ⟨h1, h2, h3⟩ | ⟨h1, h2, h3⟩
      · have h1 : ¬ 0 < (j : Int) := by omega
        clear h
        go_upto_region 14 with (fail)
        go_wp2_with (at_builtin; go_must (refine wpList_appRow rfl (.tmp 62) (.tmp 66) 22 rfl w7.heap.size 35 _ 6 48 Try.underlying22 infoIns rfl (by decide) _ _ j 2 _ _ (own_below HO.out ((Below.refl _ _).alloc (Nat.le_refl _) _)) (src_at (AtG.new _ 35 _) 2) rfl rfl rfl (ins2_one _ _ _ _ _ _ _ _ _ _ _ _) (by omega) (by decide) (by have := HBL.out.size; simp; omega) ?_); intro v2 w8 ho2 hg2; have HO2 := Lib.hid ho2; have HB2 := Lib.hid ((HBL.out.alloc HBL.out.size _).grown hg2 (by have := HBL.out.size; simp; omega) (fun q hq => own_base HO.out q hq)); obtain ⟨a2, c2, rfl⟩ := own_form ho2; clear ho2 hg2)
        refine (look_yes 2 1 10 step 3 j _ (by have := HM100.out; omega)).mono ?_
        rintro e9 w9 ⟨v9, rfl, ho9, hb9⟩
        obtain ⟨a9, c9, rfl⟩ := own_form ho9
        have S9 := Lib.hid (src_ownN ho9); have HO3 := Lib.hid (own_below HO2.out hb9); have HB3 := Lib.hid (HB2.out.trans (hb9.mono HB2.out.size))
        clear ho9 hb9
        go_wp2_with (at_builtin; go_must (refine wpList_appRow rfl (.tmp 68) (.tmp 72) 22 rfl w7.heap.size 35 _ 6 48 Try.underlying22 infoIns rfl (by decide) _ _ (j + 2) (1 + j * 3) _ _ HO3.out S9.out rfl rfl (by rw [flat6_len, lookN_len]) (flat6_one _) (by omega) (by decide) HB3.out.size ?_); intro v3 w10 ho4 hg4; have HO4 := Lib.hid ho4; have HB4 := Lib.hid (HB3.out.grown hg4 HB3.out.size (fun q hq => own_base HO3.out q hq)); obtain ⟨a3, c3, rfl⟩ := own_form ho4; clear ho4 hg4)
        refine (copy_any 4 2 _).mono ?_
        rintro e9 w11 ⟨v11, rfl, ho11, hb11⟩
        obtain ⟨a11, c11, rfl⟩ := own_form ho11
        have S11 := Lib.hid (src_ownN ho11); have HO5 := Lib.hid (own_below HO4.out hb11); have HB5 := Lib.hid (HB4.out.trans (hb11.mono HB4.out.size))
        clear ho11 hb11
        go_wp2_with (first
          | (at_builtin; refine wpList_appRow rfl (.tmp 74) (.tmp 75) 22 rfl w7.heap.size 35 _ 6 48 Try.underlying22 infoIns rfl (by decide) _ _ (j + 2 + (1 + j * 3)) 1 _ _ HO5.out S11.out rfl rfl rfl (flat6_one _) (by omega) (by decide) HB5.out.size ?_; intro v5 w12 ho6 hg6; have HO6 := Lib.hid ho6; have HB6 := Lib.hid (HB5.out.grown hg6 HB5.out.size (fun q hq => own_base HO5.out q hq)); obtain ⟨a5, c5, rfl⟩ := own_form ho6; clear ho6 hg6)
          | (at_builtin; refine wpList_appRow rfl (.tmp 77) (.tmp 80) 22 rfl w7.heap.size 35 _ 6 48 Try.underlying22 infoIns rfl (by decide) _ _ (j + 2 + (1 + j * 3) + 1) 2 _ _ (own_below HO6.out ((Below.refl _ _).alloc (Nat.le_refl _) _)) (src_at (AtG.new _ 35 _) 2) rfl rfl rfl (ins2_one _ _ _ _ _ _ _ _ _ _ _ _) (by omega) (by decide) (by have := HB6.out.size; simp; omega) ?_; intro v6 w13 ho7 hg7; have HO7 := Lib.hid ho7; have HB7b := Lib.hid ((HB6.out.alloc HB6.out.size _).grown hg7 (by have := HB6.out.size; simp; omega) (fun q hq => own_base HO6.out q hq)); obtain ⟨a6, c6, rfl⟩ := own_form ho7; clear ho7 hg7))
        have hfull : w13.ownsRow w7.heap.size 35 6 (.slice a6 (j + 2 + (1 + j * 3) + 1 + 2) c6) (j + 2 + (1 + j * 3) + 1 + 2) (flat6 (fullP (fun i => ts.getD i 0) key step j)) := by
          unfold fullP
          rw [flat6_append, flat6_append, flat6_append, flat6_append]
          exact HO7.out
        have HF := Lib.hid hfull
        clear hfull
        have hrun := run_at g gc (10 + j) (fullP (fun i => ts.getD i 0) key step j).length _ _ (fullP (fun i => ts.getD i 0) key step j) [] _ w13 (full_stop _ _ _ _ HM100.out) (HM.out.below HB7b.out) (fun w' ho => rdIns_own (own_only HF.out ho (fun q hq hk => by have := own_base HF.out q hq; have := HM.out.lt q hk; omega)) (by rw [full_len]; have := HM100.out; omega)) (full_ok _ _ _ _ HM100.out (fun i hi => HIN.out i (by rw [HN.out]; exact hi)) HK.out) (by rw [full_len]; have := HM100.out; omega) (by simp) (by have := HM100.out; omega)
        rw [full_outs _ _ _ _ HM100.out, show errP (fullP (fun i => ts.getD i 0) key step j) (fullP (fun i => ts.getD i 0) key step j).length = .nilIface from if_pos rfl] at hrun
        have HRUN := Lib.hid hrun
        clear hrun
        refine HRUN.out.mono ?_
        rintro e9 w14 ⟨tv1, a14, c14, rfl, hV, -, hO14, -⟩
        have hBE : Below w.heap.size w w14 := by
          have b1 := HB7.out
          have b2 := b1.trans (HB7b.out.mono b1.size)
          refine b2.trans (hO14.below b2.size (fun q hq => ?_))
          have := HB1.out.size
          have := HG.out
          have := HGC.out
          rcases hq with rfl | rfl | hq
          · omega
          · omega
          · cases hq
        have A14 := Lib.hid (own_at hV)
        have HBE := Lib.hid hBE
        clear hV hO14 hBE HRUN
        go_wp2_with fail
        go_loopw [15, 16] (fun v i wr => ∃ p : Nat, p ≤ j ∧ i = .int .i64 p ∧ v = .int .u64 (wantP (fun i => ts.getD i 0) key step p) ∧ wr = w14) (fun _ i _ => j - (intOf i).toNat)
        case atStart => exact ⟨0, by omega, rfl, rfl, rfl⟩
        case round =>
          obtain ⟨p, hp, rfl, rfl, hwr⟩ := hrel
          subst hwr
          by_cases hpj : p < j
          · rcases HA.out with h0 | ⟨b1, o1, rfl⟩
            · exact absurd h0 (by omega)
            have hp2 : p < ts.length := by rw [HN.out]; exact hpj
            have hc0 := rdW_cell HH.out p hp2
            have hlt := block_lt_of_cell hc0
            have z0 := (HBE.out.cell (p := ⟨b1, o1 + p, none⟩) hlt).trans hc0
            have hs := want_succ (fun i => ts.getD i 0) key step p
            rw [← wrap_mul] at hs
            clear hc0 hlt
            generalize ts.getD p 0 = u at z0 hs
            generalize wantP (fun i => ts.getD i 0) key step p = W0 at hs ⊢
            by_cases hq : IntKind.u64.wrap ((p : Int) * IntKind.u64.wrap step) = key
            · rw [if_pos hq] at hs
              have HS := Lib.hid hs; clear hs
              have eq1 : (IntKind.u64.wrap ((p : Int) * IntKind.u64.wrap step) == key) = true := by rw [beq_iff_eq]; exact hq
              go_wp2_with fail
              all_goals exact ⟨⟨p + 1, by omega, by go_num, by rw [HS.out], by first | rfl | trivial⟩, by simp [intOf]; omega⟩
            · rw [if_neg hq] at hs
              have HS := Lib.hid hs; clear hs
              have eq1 : (IntKind.u64.wrap ((p : Int) * IntKind.u64.wrap step) == key) = false := by rw [beq_eq_false_iff_ne]; exact hq
              go_wp2_with fail
              all_goals exact ⟨⟨p + 1, by omega, by go_num, by rw [HS.out], by first | rfl | trivial⟩, by simp [intOf]; omega⟩
          · obtain rfl : p = j := by omega
            rcases A14.out with h0 | ⟨g1, rfl, hl1, hc1⟩
            · cases h0
            have z0 := hc1 0 _ rfl
            have z1 := hc1 1 _ rfl
            clear hc1 hl1
            generalize wantP (fun i => ts.getD i 0) key step p = W0 at z0 z1 ⊢
            go_wp2_with fail
            go_returns
            exact ⟨rfl, HBE.out⟩
      · go_upto_region 14 with (fail)
        go_wp2_with (at_builtin; go_must (refine wpList_appRow rfl (.tmp 62) (.tmp 66) 22 rfl w7.heap.size 35 _ 6 48 Try.underlying22 infoIns rfl (by decide) _ _ j 2 _ _ (own_below HO.out ((Below.refl _ _).alloc (Nat.le_refl _) _)) (src_at (AtG.new _ 35 _) 2) rfl rfl rfl (ins2_one _ _ _ _ _ _ _ _ _ _ _ _) (by omega) (by decide) (by have := HBL.out.size; simp; omega) ?_); intro v2 w8 ho2 hg2; have HO2 := Lib.hid ho2; have HB2 := Lib.hid ((HBL.out.alloc HBL.out.size _).grown hg2 (by have := HBL.out.size; simp; omega) (fun q hq => own_base HO.out q hq)); obtain ⟨a2, c2, rfl⟩ := own_form ho2; clear ho2 hg2)
        refine (look_yes 2 1 10 step 3 j _ (by have := HM100.out; omega)).mono ?_
        rintro e9 w9 ⟨v9, rfl, ho9, hb9⟩
        obtain ⟨a9, c9, rfl⟩ := own_form ho9
        have S9 := Lib.hid (src_ownN ho9); have HO3 := Lib.hid (own_below HO2.out hb9); have HB3 := Lib.hid (HB2.out.trans (hb9.mono HB2.out.size))
        clear ho9 hb9
        go_wp2_with (at_builtin; go_must (refine wpList_appRow rfl (.tmp 68) (.tmp 72) 22 rfl w7.heap.size 35 _ 6 48 Try.underlying22 infoIns rfl (by decide) _ _ (j + 2) (1 + j * 3) _ _ HO3.out S9.out rfl rfl (by rw [flat6_len, lookN_len]) (flat6_one _) (by omega) (by decide) HB3.out.size ?_); intro v3 w10 ho4 hg4; have HO4 := Lib.hid ho4; have HB4 := Lib.hid (HB3.out.grown hg4 HB3.out.size (fun q hq => own_base HO3.out q hq)); obtain ⟨a3, c3, rfl⟩ := own_form ho4; clear ho4 hg4)
        refine (copy_any 4 2 _).mono ?_
        rintro e9 w11 ⟨v11, rfl, ho11, hb11⟩
        obtain ⟨a11, c11, rfl⟩ := own_form ho11
        have S11 := Lib.hid (src_ownN ho11); have HO5 := Lib.hid (own_below HO4.out hb11); have HB5 := Lib.hid (HB4.out.trans (hb11.mono HB4.out.size))
        clear ho11 hb11
        go_wp2_with (first
          | (at_builtin; refine wpList_appRow rfl (.tmp 74) (.tmp 75) 22 rfl w7.heap.size 35 _ 6 48 Try.underlying22 infoIns rfl (by decide) _ _ (j + 2 + (1 + j * 3)) 1 _ _ HO5.out S11.out rfl rfl rfl (flat6_one _) (by omega) (by decide) HB5.out.size ?_; intro v5 w12 ho6 hg6; have HO6 := Lib.hid ho6; have HB6 := Lib.hid (HB5.out.grown hg6 HB5.out.size (fun q hq => own_base HO5.out q hq)); obtain ⟨a5, c5, rfl⟩ := own_form ho6; clear ho6 hg6)
          | (at_builtin; refine wpList_appRow rfl (.tmp 77) (.tmp 80) 22 rfl w7.heap.size 35 _ 6 48 Try.underlying22 infoIns rfl (by decide) _ _ (j + 2 + (1 + j * 3) + 1) 2 _ _ (own_below HO6.out ((Below.refl _ _).alloc (Nat.le_refl _) _)) (src_at (AtG.new _ 35 _) 2) rfl rfl rfl (ins2_one _ _ _ _ _ _ _ _ _ _ _ _) (by omega) (by decide) (by have := HB6.out.size; simp; omega) ?_; intro v6 w13 ho7 hg7; have HO7 := Lib.hid ho7; have HB7b := Lib.hid ((HB6.out.alloc HB6.out.size _).grown hg7 (by have := HB6.out.size; simp; omega) (fun q hq => own_base HO6.out q hq)); obtain ⟨a6, c6, rfl⟩ := own_form ho7; clear ho7 hg7))
        have hfull : w13.ownsRow w7.heap.size 35 6 (.slice a6 (j + 2 + (1 + j * 3) + 1 + 2) c6) (j + 2 + (1 + j * 3) + 1 + 2) (flat6 (fullP (fun i => ts.getD i 0) key step j)) := by
          unfold fullP
          rw [flat6_append, flat6_append, flat6_append, flat6_append]
          exact HO7.out
        have HF := Lib.hid hfull
        clear hfull
        have hrun := run_at g gc (10 + j) (fullP (fun i => ts.getD i 0) key step j).length _ _ (fullP (fun i => ts.getD i 0) key step j) [] _ w13 (full_stop _ _ _ _ HM100.out) (HM.out.below HB7b.out) (fun w' ho => rdIns_own (own_only HF.out ho (fun q hq hk => by have := own_base HF.out q hq; have := HM.out.lt q hk; omega)) (by rw [full_len]; have := HM100.out; omega)) (full_ok _ _ _ _ HM100.out (fun i hi => HIN.out i (by rw [HN.out]; exact hi)) HK.out) (by rw [full_len]; have := HM100.out; omega) (by simp) (by have := HM100.out; omega)
        rw [full_outs _ _ _ _ HM100.out, show errP (fullP (fun i => ts.getD i 0) key step j) (fullP (fun i => ts.getD i 0) key step j).length = .nilIface from if_pos rfl] at hrun
        have HRUN := Lib.hid hrun
        clear hrun
        refine HRUN.out.mono ?_
        rintro e9 w14 ⟨tv1, a14, c14, rfl, hV, -, hO14, -⟩
        have hBE : Below w.heap.size w w14 := by
          have b1 := HB7.out
          have b2 := b1.trans (HB7b.out.mono b1.size)
          refine b2.trans (hO14.below b2.size (fun q hq => ?_))
          have := HB1.out.size
          have := HG.out
          have := HGC.out
          rcases hq with rfl | rfl | hq
          · omega
          · omega
          · cases hq
        have A14 := Lib.hid (own_at hV)
        have HBE := Lib.hid hBE
        clear hV hO14 hBE HRUN
        go_wp2_with fail
        go_loopw [15, 16] (fun v i wr => ∃ p : Nat, p ≤ j ∧ i = .int .i64 p ∧ v = .int .u64 (wantP (fun i => ts.getD i 0) key step p) ∧ wr = w14) (fun _ i _ => j - (intOf i).toNat)
        case atStart => exact ⟨0, by omega, rfl, rfl, rfl⟩
        case round =>
          obtain ⟨p, hp, rfl, rfl, hwr⟩ := hrel
          subst hwr
          by_cases hpj : p < j
          · rcases HA.out with h0 | ⟨b1, o1, rfl⟩
            · exact absurd h0 (by omega)
            have hp2 : p < ts.length := by rw [HN.out]; exact hpj
            have hc0 := rdW_cell HH.out p hp2
            have hlt := block_lt_of_cell hc0
            have z0 := (HBE.out.cell (p := ⟨b1, o1 + p, none⟩) hlt).trans hc0
            have hs := want_succ (fun i => ts.getD i 0) key step p
            rw [← wrap_mul] at hs
            clear hc0 hlt
            generalize ts.getD p 0 = u at z0 hs
            generalize wantP (fun i => ts.getD i 0) key step p = W0 at hs ⊢
            by_cases hq : IntKind.u64.wrap ((p : Int) * IntKind.u64.wrap step) = key
            · rw [if_pos hq] at hs
              have HS := Lib.hid hs; clear hs
              have eq1 : (IntKind.u64.wrap ((p : Int) * IntKind.u64.wrap step) == key) = true := by rw [beq_iff_eq]; exact hq
              go_wp2_with fail
              all_goals exact ⟨⟨p + 1, by omega, by go_num, by rw [HS.out], by first | rfl | trivial⟩, by simp [intOf]; omega⟩
            · rw [if_neg hq] at hs
              have HS := Lib.hid hs; clear hs
              have eq1 : (IntKind.u64.wrap ((p : Int) * IntKind.u64.wrap step) == key) = false := by rw [beq_eq_false_iff_ne]; exact hq
              go_wp2_with fail
              all_goals exact ⟨⟨p + 1, by omega, by go_num, by rw [HS.out], by first | rfl | trivial⟩, by simp [intOf]; omega⟩
          · obtain rfl : p = j := by omega
            rcases A14.out with h0 | ⟨g1, rfl, hl1, hc1⟩
            · cases h0
            have z0 := hc1 0 _ rfl
            have z1 := hc1 1 _ rfl
            clear hc1 hl1
            generalize wantP (fun i => ts.getD i 0) key step p = W0 at z0 z1 ⊢
            go_wp2_with fail
            go_returns
            exact ⟨rfl, HBE.out⟩
      · go_upto_region 14 with (fail)
        go_wp2_with (at_builtin; go_must (refine wpList_appRow rfl (.tmp 62) (.tmp 66) 22 rfl w7.heap.size 35 _ 6 48 Try.underlying22 infoIns rfl (by decide) _ _ j 2 _ _ (own_below HO.out ((Below.refl _ _).alloc (Nat.le_refl _) _)) (src_at (AtG.new _ 35 _) 2) rfl rfl rfl (ins2_one _ _ _ _ _ _ _ _ _ _ _ _) (by omega) (by decide) (by have := HBL.out.size; simp; omega) ?_); intro v2 w8 ho2 hg2; have HO2 := Lib.hid ho2; have HB2 := Lib.hid ((HBL.out.alloc HBL.out.size _).grown hg2 (by have := HBL.out.size; simp; omega) (fun q hq => own_base HO.out q hq)); obtain ⟨a2, c2, rfl⟩ := own_form ho2; clear ho2 hg2)
        refine (look_yes 2 1 10 step 3 j _ (by have := HM100.out; omega)).mono ?_
        rintro e9 w9 ⟨v9, rfl, ho9, hb9⟩
        obtain ⟨a9, c9, rfl⟩ := own_form ho9
        have S9 := Lib.hid (src_ownN ho9); have HO3 := Lib.hid (own_below HO2.out hb9); have HB3 := Lib.hid (HB2.out.trans (hb9.mono HB2.out.size))
        clear ho9 hb9
        go_wp2_with (at_builtin; go_must (refine wpList_appRow rfl (.tmp 68) (.tmp 72) 22 rfl w7.heap.size 35 _ 6 48 Try.underlying22 infoIns rfl (by decide) _ _ (j + 2) (1 + j * 3) _ _ HO3.out S9.out rfl rfl (by rw [flat6_len, lookN_len]) (flat6_one _) (by omega) (by decide) HB3.out.size ?_); intro v3 w10 ho4 hg4; have HO4 := Lib.hid ho4; have HB4 := Lib.hid (HB3.out.grown hg4 HB3.out.size (fun q hq => own_base HO3.out q hq)); obtain ⟨a3, c3, rfl⟩ := own_form ho4; clear ho4 hg4)
        refine (copy_any 4 2 _).mono ?_
        rintro e9 w11 ⟨v11, rfl, ho11, hb11⟩
        obtain ⟨a11, c11, rfl⟩ := own_form ho11
        have S11 := Lib.hid (src_ownN ho11); have HO5 := Lib.hid (own_below HO4.out hb11); have HB5 := Lib.hid (HB4.out.trans (hb11.mono HB4.out.size))
        clear ho11 hb11
        go_wp2_with (first
          | (at_builtin; refine wpList_appRow rfl (.tmp 74) (.tmp 75) 22 rfl w7.heap.size 35 _ 6 48 Try.underlying22 infoIns rfl (by decide) _ _ (j + 2 + (1 + j * 3)) 1 _ _ HO5.out S11.out rfl rfl rfl (flat6_one _) (by omega) (by decide) HB5.out.size ?_; intro v5 w12 ho6 hg6; have HO6 := Lib.hid ho6; have HB6 := Lib.hid (HB5.out.grown hg6 HB5.out.size (fun q hq => own_base HO5.out q hq)); obtain ⟨a5, c5, rfl⟩ := own_form ho6; clear ho6 hg6)
          | (at_builtin; refine wpList_appRow rfl (.tmp 77) (.tmp 80) 22 rfl w7.heap.size 35 _ 6 48 Try.underlying22 infoIns rfl (by decide) _ _ (j + 2 + (1 + j * 3) + 1) 2 _ _ (own_below HO6.out ((Below.refl _ _).alloc (Nat.le_refl _) _)) (src_at (AtG.new _ 35 _) 2) rfl rfl rfl (ins2_one _ _ _ _ _ _ _ _ _ _ _ _) (by omega) (by decide) (by have := HB6.out.size; simp; omega) ?_; intro v6 w13 ho7 hg7; have HO7 := Lib.hid ho7; have HB7b := Lib.hid ((HB6.out.alloc HB6.out.size _).grown hg7 (by have := HB6.out.size; simp; omega) (fun q hq => own_base HO6.out q hq)); obtain ⟨a6, c6, rfl⟩ := own_form ho7; clear ho7 hg7))
        have hfull : w13.ownsRow w7.heap.size 35 6 (.slice a6 (j + 2 + (1 + j * 3) + 1 + 2) c6) (j + 2 + (1 + j * 3) + 1 + 2) (flat6 (fullP (fun i => ts.getD i 0) key step j)) := by
          unfold fullP
          rw [flat6_append, flat6_append, flat6_append, flat6_append]
          exact HO7.out
        have HF := Lib.hid hfull
        clear hfull
        have hrun := run_at g gc (10 + j) (fullP (fun i => ts.getD i 0) key step j).length _ _ (fullP (fun i => ts.getD i 0) key step j) [] _ w13 (full_stop _ _ _ _ HM100.out) (HM.out.below HB7b.out) (fun w' ho => rdIns_own (own_only HF.out ho (fun q hq hk => by have := own_base HF.out q hq; have := HM.out.lt q hk; omega)) (by rw [full_len]; have := HM100.out; omega)) (full_ok _ _ _ _ HM100.out (fun i hi => HIN.out i (by rw [HN.out]; exact hi)) HK.out) (by rw [full_len]; have := HM100.out; omega) (by simp) (by have := HM100.out; omega)
        rw [full_outs _ _ _ _ HM100.out, show errP (fullP (fun i => ts.getD i 0) key step j) (fullP (fun i => ts.getD i 0) key step j).length = .nilIface from if_pos rfl] at hrun
        have HRUN := Lib.hid hrun
        clear hrun
        refine HRUN.out.mono ?_
        rintro e9 w14 ⟨tv1, a14, c14, rfl, hV, -, hO14, -⟩
        have hBE : Below w.heap.size w w14 := by
          have b1 := HB7.out
          have b2 := b1.trans (HB7b.out.mono b1.size)
          refine b2.trans (hO14.below b2.size (fun q hq => ?_))
          have := HB1.out.size
          have := HG.out
          have := HGC.out
          rcases hq with rfl | rfl | hq
          · omega
          · omega
          · cases hq
        have A14 := Lib.hid (own_at hV)
        have HBE := Lib.hid hBE
        clear hV hO14 hBE HRUN
        go_wp2_with fail
        go_loopw [15, 16] (fun v i wr => ∃ p : Nat, p ≤ j ∧ i = .int .i64 p ∧ v = .int .u64 (wantP (fun i => ts.getD i 0) key step p) ∧ wr = w14) (fun _ i _ => j - (intOf i).toNat)
        case atStart => exact ⟨0, by omega, rfl, rfl, rfl⟩
        case round =>
          obtain ⟨p, hp, rfl, rfl, hwr⟩ := hrel
          subst hwr
          by_cases hpj : p < j
          · rcases HA.out with h0 | ⟨b1, o1, rfl⟩
            · exact absurd h0 (by omega)
            have hp2 : p < ts.length := by rw [HN.out]; exact hpj
            have hc0 := rdW_cell HH.out p hp2
            have hlt := block_lt_of_cell hc0
            have z0 := (HBE.out.cell (p := ⟨b1, o1 + p, none⟩) hlt).trans hc0
            have hs := want_succ (fun i => ts.getD i 0) key step p
            rw [← wrap_mul] at hs
            clear hc0 hlt
            generalize ts.getD p 0 = u at z0 hs
            generalize wantP (fun i => ts.getD i 0) key step p = W0 at hs ⊢
            by_cases hq : IntKind.u64.wrap ((p : Int) * IntKind.u64.wrap step) = key
            · rw [if_pos hq] at hs
              have HS := Lib.hid hs; clear hs
              have eq1 : (IntKind.u64.wrap ((p : Int) * IntKind.u64.wrap step) == key) = true := by rw [beq_iff_eq]; exact hq
              go_wp2_with fail
              all_goals exact ⟨⟨p + 1, by omega, by go_num, by rw [HS.out], by first | rfl | trivial⟩, by simp [intOf]; omega⟩
            · rw [if_neg hq] at hs
              have HS := Lib.hid hs; clear hs
              have eq1 : (IntKind.u64.wrap ((p : Int) * IntKind.u64.wrap step) == key) = false := by rw [beq_eq_false_iff_ne]; exact hq
              go_wp2_with fail
              all_goals exact ⟨⟨p + 1, by omega, by go_num, by rw [HS.out], by first | rfl | trivial⟩, by simp [intOf]; omega⟩
          · obtain rfl : p = j := by omega
            rcases A14.out with h0 | ⟨g1, rfl, hl1, hc1⟩
            · cases h0
            have z0 := hc1 0 _ rfl
            have z1 := hc1 1 _ rfl
            clear hc1 hl1
            generalize wantP (fun i => ts.getD i 0) key step p = W0 at z0 z1 ⊢
            go_wp2_with fail
            go_returns
            exact ⟨rfl, HBE.out⟩
      · go_upto_region 14 with (fail)
        have hb2 : 0 ≤ IntKind.u64.wrap (k * IntKind.u64.wrap step) ∧ IntKind.u64.wrap (k * IntKind.u64.wrap step) ≤ 18446744073709551615 := by rw [IntKind.wrap_u64]; omega
        generalize IntKind.u64.wrap (k * IntKind.u64.wrap step) = key2 at hb2 ⊢
        have HK2 := Lib.hid hb2; clear hb2
        go_wp2_with (at_builtin; go_must (refine wpList_appRow rfl (.tmp 62) (.tmp 66) 22 rfl w7.heap.size 35 _ 6 48 Try.underlying22 infoIns rfl (by decide) _ _ j 2 _ _ (own_below HO.out ((Below.refl _ _).alloc (Nat.le_refl _) _)) (src_at (AtG.new _ 35 _) 2) rfl rfl rfl (ins2_one _ _ _ _ _ _ _ _ _ _ _ _) (by omega) (by decide) (by have := HBL.out.size; simp; omega) ?_); intro v2 w8 ho2 hg2; have HO2 := Lib.hid ho2; have HB2 := Lib.hid ((HBL.out.alloc HBL.out.size _).grown hg2 (by have := HBL.out.size; simp; omega) (fun q hq => own_base HO.out q hq)); obtain ⟨a2, c2, rfl⟩ := own_form ho2; clear ho2 hg2)
        refine (look_yes 2 1 10 step 3 j _ (by have := HM100.out; omega)).mono ?_
        rintro e9 w9 ⟨v9, rfl, ho9, hb9⟩
        obtain ⟨a9, c9, rfl⟩ := own_form ho9
        have S9 := Lib.hid (src_ownN ho9); have HO3 := Lib.hid (own_below HO2.out hb9); have HB3 := Lib.hid (HB2.out.trans (hb9.mono HB2.out.size))
        clear ho9 hb9
        go_wp2_with (at_builtin; go_must (refine wpList_appRow rfl (.tmp 68) (.tmp 72) 22 rfl w7.heap.size 35 _ 6 48 Try.underlying22 infoIns rfl (by decide) _ _ (j + 2) (1 + j * 3) _ _ HO3.out S9.out rfl rfl (by rw [flat6_len, lookN_len]) (flat6_one _) (by omega) (by decide) HB3.out.size ?_); intro v3 w10 ho4 hg4; have HO4 := Lib.hid ho4; have HB4 := Lib.hid (HB3.out.grown hg4 HB3.out.size (fun q hq => own_base HO3.out q hq)); obtain ⟨a3, c3, rfl⟩ := own_form ho4; clear ho4 hg4)
        refine (copy_any 4 2 _).mono ?_
        rintro e9 w11 ⟨v11, rfl, ho11, hb11⟩
        obtain ⟨a11, c11, rfl⟩ := own_form ho11
        have S11 := Lib.hid (src_ownN ho11); have HO5 := Lib.hid (own_below HO4.out hb11); have HB5 := Lib.hid (HB4.out.trans (hb11.mono HB4.out.size))
        clear ho11 hb11
        go_wp2_with (first
          | (at_builtin; refine wpList_appRow rfl (.tmp 74) (.tmp 75) 22 rfl w7.heap.size 35 _ 6 48 Try.underlying22 infoIns rfl (by decide) _ _ (j + 2 + (1 + j * 3)) 1 _ _ HO5.out S11.out rfl rfl rfl (flat6_one _) (by omega) (by decide) HB5.out.size ?_; intro v5 w12 ho6 hg6; have HO6 := Lib.hid ho6; have HB6 := Lib.hid (HB5.out.grown hg6 HB5.out.size (fun q hq => own_base HO5.out q hq)); obtain ⟨a5, c5, rfl⟩ := own_form ho6; clear ho6 hg6)
          | (at_builtin; refine wpList_appRow rfl (.tmp 77) (.tmp 80) 22 rfl w7.heap.size 35 _ 6 48 Try.underlying22 infoIns rfl (by decide) _ _ (j + 2 + (1 + j * 3) + 1) 2 _ _ (own_below HO6.out ((Below.refl _ _).alloc (Nat.le_refl _) _)) (src_at (AtG.new _ 35 _) 2) rfl rfl rfl (ins2_one _ _ _ _ _ _ _ _ _ _ _ _) (by omega) (by decide) (by have := HB6.out.size; simp; omega) ?_; intro v6 w13 ho7 hg7; have HO7 := Lib.hid ho7; have HB7b := Lib.hid ((HB6.out.alloc HB6.out.size _).grown hg7 (by have := HB6.out.size; simp; omega) (fun q hq => own_base HO6.out q hq)); obtain ⟨a6, c6, rfl⟩ := own_form ho7; clear ho7 hg7))
        have hfull : w13.ownsRow w7.heap.size 35 6 (.slice a6 (j + 2 + (1 + j * 3) + 1 + 2) c6) (j + 2 + (1 + j * 3) + 1 + 2) (flat6 (fullP (fun i => ts.getD i 0) key2 step j)) := by
          unfold fullP
          rw [flat6_append, flat6_append, flat6_append, flat6_append]
          exact HO7.out
        have HF := Lib.hid hfull
        clear hfull
        have hrun := run_at g gc (10 + j) (fullP (fun i => ts.getD i 0) key2 step j).length _ _ (fullP (fun i => ts.getD i 0) key2 step j) [] _ w13 (full_stop _ _ _ _ HM100.out) (HM.out.below HB7b.out) (fun w' ho => rdIns_own (own_only HF.out ho (fun q hq hk => by have := own_base HF.out q hq; have := HM.out.lt q hk; omega)) (by rw [full_len]; have := HM100.out; omega)) (full_ok _ _ _ _ HM100.out (fun i hi => HIN.out i (by rw [HN.out]; exact hi)) HK2.out) (by rw [full_len]; have := HM100.out; omega) (by simp) (by have := HM100.out; omega)
        rw [full_outs _ _ _ _ HM100.out, show errP (fullP (fun i => ts.getD i 0) key2 step j) (fullP (fun i => ts.getD i 0) key2 step j).length = .nilIface from if_pos rfl] at hrun
        have HRUN := Lib.hid hrun
        clear hrun
        refine HRUN.out.mono ?_
        rintro e9 w14 ⟨tv1, a14, c14, rfl, hV, -, hO14, -⟩
        have hBE : Below w.heap.size w w14 := by
          have b1 := HB7.out
          have b2 := b1.trans (HB7b.out.mono b1.size)
          refine b2.trans (hO14.below b2.size (fun q hq => ?_))
          have := HB1.out.size
          have := HG.out
          have := HGC.out
          rcases hq with rfl | rfl | hq
          · omega
          · omega
          · cases hq
        have A14 := Lib.hid (own_at hV)
        have HBE := Lib.hid hBE
        clear hV hO14 hBE HRUN
        go_wp2_with fail
        go_loopw [15, 16] (fun v i wr => ∃ p : Nat, p ≤ j ∧ i = .int .i64 p ∧ v = .int .u64 (wantP (fun i => ts.getD i 0) key2 step p) ∧ wr = w14) (fun _ i _ => j - (intOf i).toNat)
        case atStart => exact ⟨0, by omega, rfl, rfl, rfl⟩
        case round =>
          obtain ⟨p, hp, rfl, rfl, hwr⟩ := hrel
          subst hwr
          by_cases hpj : p < j
          · rcases HA.out with h0 | ⟨b1, o1, rfl⟩
            · exact absurd h0 (by omega)
            have hp2 : p < ts.length := by rw [HN.out]; exact hpj
            have hc0 := rdW_cell HH.out p hp2
            have hlt := block_lt_of_cell hc0
            have z0 := (HBE.out.cell (p := ⟨b1, o1 + p, none⟩) hlt).trans hc0
            have hs := want_succ (fun i => ts.getD i 0) key2 step p
            rw [← wrap_mul] at hs
            clear hc0 hlt
            generalize ts.getD p 0 = u at z0 hs
            generalize wantP (fun i => ts.getD i 0) key2 step p = W0 at hs ⊢
            by_cases hq : IntKind.u64.wrap ((p : Int) * IntKind.u64.wrap step) = key2
            · rw [if_pos hq] at hs
              have HS := Lib.hid hs; clear hs
              have eq1 : (IntKind.u64.wrap ((p : Int) * IntKind.u64.wrap step) == key2) = true := by rw [beq_iff_eq]; exact hq
              go_wp2_with fail
              all_goals exact ⟨⟨p + 1, by omega, by go_num, by rw [HS.out], by first | rfl | trivial⟩, by simp [intOf]; omega⟩
            · rw [if_neg hq] at hs
              have HS := Lib.hid hs; clear hs
              have eq1 : (IntKind.u64.wrap ((p : Int) * IntKind.u64.wrap step) == key2) = false := by rw [beq_eq_false_iff_ne]; exact hq
              go_wp2_with fail
              all_goals exact ⟨⟨p + 1, by omega, by go_num, by rw [HS.out], by first | rfl | trivial⟩, by simp [intOf]; omega⟩
          · obtain rfl : p = j := by omega
            rcases A14.out with h0 | ⟨g1, rfl, hl1, hc1⟩
            · cases h0
            have z0 := hc1 0 _ rfl
            have z1 := hc1 1 _ rfl
            clear hc1 hl1
            generalize wantP (fun i => ts.getD i 0) key2 step p = W0 at z0 z1 ⊢
            go_wp2_with fail
            go_returns
            exact ⟨rfl, HBE.out⟩
theorem macroLooks_walk (key step k : Int) (vt : Value) (ts : List Int) (w : World) (hr : RdK .u64 w vt ts) (hk : 0 ≤ key ∧ key ≤ 18446744073709551615) :
    Calls Try.prog 5 #[vt, .int .u64 key, .int .i64 step, .int .i64 k] w fun e w' => e = .returned (.bool true) ∧ Below w.heap.size w w' := by
  by_cases hm : ts.length ≤ 100
  · exact macroLooks_in key step k vt ts w hm hr hk
  · obtain ⟨a, c, rfl⟩ : ∃ a c, vt = .slice a ts.length c := by
      rcases hr with ⟨rfl, a, c, rfl⟩ | ⟨b, o, c, rfl, _⟩
      · exact ⟨a, c, rfl⟩
      · exact ⟨_, c, rfl⟩
    exact macroLooks_out key step k a ts.length c w (by omega)
end Go.Proofs.Ytpikoijohfmnaaa
