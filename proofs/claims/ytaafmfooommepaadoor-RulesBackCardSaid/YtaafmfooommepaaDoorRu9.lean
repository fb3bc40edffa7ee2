/- The reference's Rules. -/
import Derived.Test.YtaafmfooommepaaDoorRu8
set_option linter.unusedVariables false
set_option linter.unusedSimpArgs false
namespace Go.Proofs.YtaafmfooommepaaDoor
open Go.RowKit
set_option maxRecDepth 100000 in
set_option maxHeartbeats 3200000 in
theorem rulesR (s : ByteArray) (w : World) (hs : s.size ≤ 10000) : Calls Tryd.prog 8 #[.string s] w (RulesR s w) := by
  have HSZ := Lib.hid hs
  by_cases hl : 4000 < s.size
  · have hlI : (4000 : Int) < (s.size : Int) := by omega
    have HR := Lib.hid (show RuRes s (.no 4 0) from .inl ⟨hl, rfl⟩)
    clear hl hs
    go_enter Tryd.func8, Tryd.ntmps8
    go_wp2
    go_returns
    exact ⟨Below.refl _ _, _, HR.out, rfl⟩
  have hlI : ¬ (4000 : Int) < (s.size : Int) := by omega
  have HS4 := Lib.hid (show s.size ≤ 4000 by omega)
  have hsI : (s.size : Int) ≤ 4000 := by omega
  clear hl hs
  have HSP := Lib.hid (linesR s w HSZ.out)
  go_enter Tryd.func8, Tryd.ntmps8
  go_wp2_with fail
  refine (HSP.out).mono ?_
  rintro e9 w4 ⟨hb4, v, L, rfl, hL, hv⟩
  obtain ⟨g, c, hg0, rfl, hlc, hcell⟩ := hv
  have HL := Lib.hid hL
  have HLN : Hid (LinesAt w.heap.size w4 (.slice (some ⟨g, 0, none⟩) L.length c) L) := Lib.hid ⟨g, c, hg0, rfl, hlc, hcell⟩
  have HB4 := Lib.hid hb4
  have hlen : L.length ≤ s.size + 1 := by have := hL.le.2.1; omega
  have hlenI : (L.length : Int) ≤ 4001 := by have := HS4.out; omega
  have HLL : Hid (∀ l ∈ L, l.size ≤ 4000) := Lib.hid (fun l h => by have := hL.le.2.2 l h; have := HS4.out; omega)
  clear hb4 hL hcell hlen HSP hg0 hlc
  go_wp2_with fail
  go_loopw [5, 7] (fun o i wr => ∃ (j : Nat) (out : List Rl) (va : Option Addr) (vc : Nat), j ≤ L.length ∧ o = .slice va out.length vc ∧ i = .int .i64 j ∧ Hid (wr.ownsRow w4.heap.size 35 3 (.slice va out.length vc) out.length (flatR out)) ∧ Hid (Below w4.heap.size w4 wr) ∧ Hid (out.length ≤ 8 ∧ ∀ R, Rd (L.drop j) j out R → Rd L 0 [] R)) (fun o i _ => L.length - (intOf i).toNat)
  case atStart => exact ⟨0, [], none, 0, Nat.zero_le _, rfl, rfl, Lib.hid (own_nil _ _ _ _), Lib.hid (Below.refl _ _), Lib.hid ⟨by simp, fun R h => h⟩⟩
  case round =>
    obtain ⟨j, out, va, vc, hj, rfl, rfl, HO, HY, HD⟩ := hrel
    by_cases hlt : j < L.length
    · have hltI : (j : Int) < L.length := by omega
      have HLT := Lib.hid hlt
      have hdr : L.drop j = L[j] :: L.drop (j + 1) := List.drop_eq_getElem_cons hlt
      have hcj : wr.cell? ⟨g, j, none⟩ = some (.string L[j]) := by
        obtain ⟨g', c', h0, h1, h2, h3⟩ := HLN.out.below HY.out
        cases h1
        exact h3 j _ (List.getElem?_eq_getElem hlt)
      have HD1 : Hid (out.length ≤ 8 ∧ ∀ R, Rd (L[j] :: L.drop (j + 1)) j out R → Rd L 0 [] R) := Lib.hid ⟨HD.out.1, fun R h => HD.out.2 R (by rw [hdr]; exact h)⟩
      have HLS := Lib.hid (HLL.out L[j] (List.getElem_mem hlt))
      generalize L[j] = l at *
      clear hdr HD hj
      have he := empty_iff l
      by_cases hz : l.size = 0
      · rw [decide_eq_true hz] at he
        have HD2 : Hid (out.length ≤ 8 ∧ ∀ R, Rd (L.drop (j + 1)) (j + 1) out R → Rd L 0 [] R) := Lib.hid ⟨HD1.out.1, fun R h => HD1.out.2 R (.skip (.inl hz) h)⟩
        clear HD1 hz
        go_wp2
        exact ⟨⟨j + 1, out, va, vc, HLT.out, rfl, by go_num, HO, HY, HD2⟩, by have := HLT.out; simp [intOf]; try omega⟩
      · rw [decide_eq_false hz] at he
        have hz0 : 0 < l.size := by omega
        have hzI : (0 : Int) < l.size := by omega
        have hch := ch_in hz0
        by_cases h35 : (l[0].toNat : Int) = 35
        · have HD2 : Hid (out.length ≤ 8 ∧ ∀ R, Rd (L.drop (j + 1)) (j + 1) out R → Rd L 0 [] R) := Lib.hid ⟨HD1.out.1, fun R h => HD1.out.2 R (.skip (.inr (hch.trans h35)) h)⟩
          have eb : ((l[0].toNat : Int) == 35) = true := beq_iff_eq.2 h35
          clear HD1 hz h35 hch
          go_wp2
          exact ⟨⟨j + 1, out, va, vc, HLT.out, rfl, by go_num, HO, HY, HD2⟩, by have := HLT.out; simp [intOf]; try omega⟩
        · have eb : ((l[0].toNat : Int) == 35) = false := beq_eq_false_iff_ne.2 h35
          have HNB : Hid (¬ Blank l) := Lib.hid (by rintro (h | h); exact hz h; exact h35 (hch.symm.trans h))
          have HRX := Lib.hid (ruleR l wr (by have := HLS.out; omega))
          clear hz hch h35
          go_wp2_with fail
          refine (HRX.out).mono ?_
          rintro e9 w5 ⟨hb5, hr5⟩
          have HO5 := Lib.hid (own_below HO.out hb5)
          have HY5 := Lib.hid (HY.out.trans (hb5.mono HY.out.size))
          clear hb5 HO HY hcj HRX
          rcases hr5 with ⟨r, hr, rfl⟩ | ⟨hno, a, b, cc, rfl⟩
          · have HR := Lib.hid hr
            clear hr
            unfold rlA
            go_upto_region 11 with (fail)
            refine (show ∀ w6 : World, w6 = w5.alloc (.cells (rlC r.name r.pat r.luhn) 35) → _ from fun w6 hw6 => ?_) _ rfl
            have HA6 : Hid (AtG w6 w5.heap.size 35 (rlC r.name r.pat r.luhn)) := Lib.hid (by rw [hw6]; exact AtG.new _ _ _)
            have HO6 : Hid (w6.ownsRow w4.heap.size 35 3 (.slice va out.length vc) out.length (flatR out)) := Lib.hid (by rw [hw6]; exact own_below HO5.out ((Below.refl _ _).alloc (Nat.le_refl _) _))
            have HY6 : Hid (Below w4.heap.size w4 w6) := Lib.hid (by rw [hw6]; exact HY5.out.alloc HY5.out.size _)
            have HN6 : Hid ((Value.slice va out.length vc).ownBlock ≠ some w5.heap.size) := Lib.hid (fun e => by have := own_lt HO5.out _ e; omega)
            clear hw6 HO5 HY5
            have hln : out.length ≤ 8 := HD1.out.1
            have hlnI : (out.length : Int) ≤ 8 := by omega
            have HSRC := Lib.hid (rulesAt_own HO6.out)
            clear hln
            go_upto_region 13 with (fail)
            go_wp2_with fail
            go_loopw [10] (fun i wy => ∃ k : Nat, k ≤ out.length ∧ i = .int .i64 k ∧ Hid (Below w6.heap.size w6 wy) ∧ Hid (∀ x, x < k → ∀ q, out[x]? = some q → q.name ≠ r.name)) (fun i _ => out.length - (intOf i).toNat)
            case atStart => exact ⟨0, Nat.zero_le _, rfl, Lib.hid (Below.refl _ _), Lib.hid (fun x h => by omega)⟩
            case round =>
              obtain ⟨k, hk, rfl, HBY, HNO⟩ := hrel
              by_cases hkl : k < out.length
              · have hkI : (k : Int) < out.length := by omega
                obtain ⟨q, hq⟩ : ∃ q, out[k]? = some q := ⟨_, List.getElem?_eq_getElem hkl⟩
                have HQ := Lib.hid hq
                have HKL := Lib.hid hkl
                obtain ⟨h0, -⟩ | ⟨ga, ca, hb0, h1, h2, h3⟩ := HSRC.out
                · rw [h0] at hkl; exact absurd hkl (by simp)
                cases h1
                have hcq := (HBY.out.cell (p := ⟨ga, k * 3, none⟩) (World.block_lt_of_cell? _ _ (h3 k q hq).1)).trans (h3 k q hq).1
                have hcr := (HA6.out.below HBY.out).cell 0 _ rfl
                have HCQ := Lib.hid hcq; have HCR := Lib.hid hcr
                clear hk hb0 h2 h3 hq hcq hcr hkl
                go_upto_region 16 with (fail)
                refine Rg.wp_region_each (by kernel_rfl) (fun w' => w'.cell? ⟨ga, k * 3, none⟩ = some (.string q.name) ∧ w'.cell? ⟨w5.heap.size, 0, none⟩ = some (.string r.name) ∧ Below w6.heap.size w6 w') (fun w1 w2 h hb => ⟨(hb.cell (World.block_lt_of_cell? _ _ h.1)).trans h.1, (hb.cell (World.block_lt_of_cell? _ _ h.2.1)).trans h.2.1, h.2.2.trans (hb.mono h.2.2.size)⟩) (by kernel_rfl) (by kernel_rfl) (⟨HCQ.out, HCR.out, HBY.out⟩) ?_
                show Rg.Build _ _ _ _ _ 0 [_, _, _, _, _, _, _, _] []
                refine Rg.build_cons (m := 1) (r := Rg.eq _) (Rg.one_plain (by rfl) (by (intro ax wx hk Kx hK; have k5 := hk.base 5 _ rfl rfl; have hj := hk.j; clear hk; obtain ⟨hcq, hcr, -⟩ := hj; go_simp; refine hK _ _ ?_ (Below.refl _ _); apply Rg.mk))) ?_ rfl
                refine Rg.build_cons (m := 2) (r := Rg.eq _) (Rg.one_plain (by rfl) (by (intro ax wx hk Kx hK; have k10 := hk.base 10 _ rfl rfl; have hj := hk.j; clear hk; obtain ⟨hcq, hcr, -⟩ := hj; go_simp; refine hK _ _ ?_ (Below.refl _ _); apply Rg.mk))) ?_ rfl
                refine Rg.build_cons (m := 3) (r := Rg.eq _) (Rg.one_plain (by rfl) (by (intro ax wx hk Kx hK; obtain ⟨v50, k50, h50⟩ := hk.dep 0 50 _ rfl rfl rfl; (first | (cases (h50 : v50 = _)) | (obtain ⟨rfl, h50⟩ := h50) | skip); obtain ⟨v51, k51, h51⟩ := hk.dep 1 51 _ rfl rfl rfl; (first | (cases (h51 : v51 = _)) | (obtain ⟨rfl, h51⟩ := h51) | skip); have hj := hk.j; clear hk; obtain ⟨hcq, hcr, -⟩ := hj; go_simp; refine hK _ _ ?_ (Below.refl _ _); apply Rg.mk))) ?_ rfl
                refine Rg.build_cons (m := 4) (r := Rg.eq _) (Rg.one_plain (by rfl) (by (intro ax wx hk Kx hK; obtain ⟨v52, k52, h52⟩ := hk.dep 2 52 _ rfl rfl rfl; (first | (cases (h52 : v52 = _)) | (obtain ⟨rfl, h52⟩ := h52) | skip); have hj := hk.j; clear hk; obtain ⟨hcq, hcr, -⟩ := hj; go_simp; refine hK _ _ ?_ (Below.refl _ _); apply Rg.mk))) ?_ rfl
                refine Rg.build_cons (m := 5) (r := Rg.eq _) (Rg.one_plain (by rfl) (by (intro ax wx hk Kx hK; obtain ⟨v53, k53, h53⟩ := hk.dep 3 53 _ rfl rfl rfl; (first | (cases (h53 : v53 = _)) | (obtain ⟨rfl, h53⟩ := h53) | skip); have hj := hk.j; clear hk; obtain ⟨hcq, hcr, -⟩ := hj; go_simp; refine hK _ _ ?_ (Below.refl _ _); apply Rg.mk))) ?_ rfl
                refine Rg.build_cons (m := 6) (r := Rg.eq _) (Rg.one_plain (by rfl) (by (intro ax wx hk Kx hK; have k8 := hk.base 8 _ rfl rfl; have hj := hk.j; clear hk; obtain ⟨hcq, hcr, -⟩ := hj; go_simp; refine hK _ _ ?_ (Below.refl _ _); apply Rg.mk))) ?_ rfl
                refine Rg.build_cons (m := 7) (r := Rg.eq _) (Rg.one_plain (by rfl) (by (intro ax wx hk Kx hK; obtain ⟨v55, k55, h55⟩ := hk.dep 5 55 _ rfl rfl rfl; (first | (cases (h55 : v55 = _)) | (obtain ⟨rfl, h55⟩ := h55) | skip); have hj := hk.j; clear hk; obtain ⟨hcq, hcr, -⟩ := hj; go_simp; refine hK _ _ ?_ (Below.refl _ _); apply Rg.mk))) ?_ rfl
                refine Rg.build_cons (m := 8) (r := Rg.eq _) (Rg.one_plain (by rfl) (by (intro ax wx hk Kx hK; obtain ⟨v54, k54, h54⟩ := hk.dep 4 54 _ rfl rfl rfl; (first | (cases (h54 : v54 = _)) | (obtain ⟨rfl, h54⟩ := h54) | skip); obtain ⟨v56, k56, h56⟩ := hk.dep 6 56 _ rfl rfl rfl; (first | (cases (h56 : v56 = _)) | (obtain ⟨rfl, h56⟩ := h56) | skip); have hj := hk.j; clear hk; obtain ⟨hcq, hcr, -⟩ := hj; go_simp; refine hK _ _ ?_ (Below.refl _ _); apply Rg.mk))) ?_ rfl
                refine Rg.build_end fun wx hj => ?_
                refine Rg.fin_eq rfl ?_
                refine Rg.fin_eq rfl ?_
                refine Rg.fin_eq rfl ?_
                refine Rg.fin_eq rfl ?_
                refine Rg.fin_eq rfl ?_
                refine Rg.fin_eq rfl ?_
                refine Rg.fin_eq rfl ?_
                refine Rg.fin_eq rfl ?_
                refine Rg.fin_nil ?_
                simp only [List.set_cons_zero, List.set_cons_succ]
                have HBY2 := Lib.hid hj.2.2
                clear hj HCQ HCR HBY
                have HE := Lib.hid (str_eq q.name r.name)
                generalize (q.name.toList == r.name.toList) = eb at *
                cases eb
                rotate_left
                · have hqr := HE.out.1 rfl
                  have HRD := Lib.hid (HD1.out.2 _ (.twice HNB.out HR.out ⟨q, List.mem_of_getElem? HQ.out, hqr⟩))
                  clear hqr HNO HE
                  go_wp2_with fail
                  go_returns
                  refine ⟨?_, _, .inr ⟨HS4.out, L, HL.out, HRD.out⟩, rfl⟩
                  exact HB4.out.trans ((HY6.out.trans (HBY2.out.mono HY6.out.size)).mono HB4.out.size)
                · have hqr : ¬ q.name = r.name := fun h => by have := HE.out.2 h; cases this
                  have HNO2 : Hid (∀ x, x < k + 1 → ∀ p, out[x]? = some p → p.name ≠ r.name) := Lib.hid (fun x hx p hp => by
                    rcases Nat.lt_succ_iff_lt_or_eq.1 hx with h | rfl
                    · exact HNO.out x h p hp
                    · rw [HQ.out] at hp; cases hp; exact hqr)
                  clear hqr HNO HE
                  go_wp2_with fail
                  exact ⟨⟨k + 1, HKL.out, by go_num, HBY2, HNO2⟩, by have := HKL.out; simp [intOf]; try omega⟩
              · obtain rfl : k = out.length := by omega
                have hd' : ∀ x ∈ out, x.name ≠ r.name := fun x hx => by
                  obtain ⟨i, hi⟩ := List.mem_iff_getElem?.1 hx
                  exact HNO.out i (List.getElem?_eq_some_iff.1 hi).1 x hi
                have HYA := Lib.hid (HY6.out.trans (HBY.out.mono HY6.out.size))
                have HOA := Lib.hid (own_below HO6.out HBY.out)
                obtain ⟨d0, d1, d2, -, -, -⟩ := rl_cells (HA6.out.below HBY.out)
                by_cases h8 : out.length = 8
                · have HRD := Lib.hid (HD1.out.2 _ (.large HNB.out HR.out hd' h8))
                  have e8 : ((out.length : Int) == 8) = true := beq_iff_eq.2 (by omega)
                  clear hd' h8 HD1 HNO hk hkl
                  go_wp2_with fail
                  go_returns
                  refine ⟨?_, _, .inr ⟨HS4.out, L, HL.out, HRD.out⟩, rfl⟩
                  exact HB4.out.trans (HYA.out.mono HB4.out.size)
                · have e8 : ((out.length : Int) == 8) = false := beq_eq_false_iff_ne.2 (by omega)
                  have HD2 : Hid ((out ++ [r]).length ≤ 8 ∧ ∀ R, Rd (L.drop (j + 1)) (j + 1) (out ++ [r]) R → Rd L 0 [] R) := Lib.hid ⟨by have := HD1.out.1; simp; omega, fun R h => HD1.out.2 R (.next HNB.out HR.out hd' h8 h)⟩
                  have HL8 : Hid (out.length ≤ 8) := Lib.hid HD1.out.1
                  clear hd' h8 HD1 HNO hk hkl
                  go_wp2_with ((at_builtin; refine wpList_appRow rfl (.tmp 63) (.tmp 65) 23 rfl w4.heap.size 35 _ 3 40 Tryd.underlying23 infoRule rfl (by decide) _ _ out.length 1 _ (rlL r) (own_below HOA.out ((Below.refl _ _).alloc (Nat.le_refl _) _)) (src_at (AtG.new _ 35 _) 1) rfl rfl rfl (rl_one _) (by have := HL8.out; omega) (by decide) (by have := HYA.out.size; simp; omega) ?_; intro v8 w8 ho8 hg8; obtain ⟨va8, vc8, rfl⟩ := own_form ho8; have HO8 := Lib.hid ho8; have HG8 := Lib.hid hg8; clear ho8 hg8))
                  have hO8 := HO8.out
                  rw [← flatR_snoc] at hO8
                  refine ⟨⟨j + 1, out ++ [r], va8, vc8, HLT.out, by simp, by go_num, Lib.hid (by simpa using hO8), Lib.hid ?_, HD2⟩, by have := HLT.out; simp [intOf]; try omega⟩
                  exact (HYA.out.alloc HYA.out.size _).grown HG8.out (by have := HYA.out.size; simp; omega) (fun k hk => own_base HOA.out k hk)
          · have HRD := Lib.hid (HD1.out.2 _ (.bad HNB.out hno))
            unfold rlA
            go_wp2_with fail
            go_returns
            refine ⟨?_, _, .inr ⟨HS4.out, L, HL.out, HRD.out⟩, rfl⟩
            have h1 := HB4.out.trans (HY5.out.mono HB4.out.size)
            exact h1.alloc h1.size _
    · obtain rfl : j = L.length := by omega
      have HRD := Lib.hid (HD.out.2 (.ok out) (by rw [List.drop_length]; exact .done))
      clear hlt hj HD
      go_wp2
      go_returns
      refine ⟨?_, _, .inr ⟨HS4.out, L, HL.out, HRD.out⟩, _, rfl, ?_⟩
      · exact HB4.out.trans (HY.out.mono HB4.out.size)
      · exact (rulesAt_own HO.out).lower HB4.out.size
end Go.Proofs.YtaafmfooommepaaDoor
