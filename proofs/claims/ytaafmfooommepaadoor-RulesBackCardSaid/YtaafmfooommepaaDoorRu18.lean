/- The walk of RulesBack. -/
import Derived.Test.YtaafmfooommepaaDoorRu15
import Derived.Test.YtaafmfooommepaaDoorRuBack
set_option linter.unusedVariables false
set_option linter.unusedSimpArgs false
namespace Go.Proofs.YtaafmfooommepaaDoor
open Go.RowKit
theorem pick_any (n by' : Int) (w : World) (hn : -9223372036854775808 ≤ n ∧ n ≤ 9223372036854775807) (h0 : 1 ≤ by') (h1 : by' ≤ 200000) : Calls Tryd.prog 13 #[.int .i64 n, .int .i64 by'] w fun e w' => e = .returned (.int .i64 (n % by')) ∧ w' = w := by
  have hne : (by' == 0) = false := by rw [beq_eq_false_iff_ne]; omega
  have hne2 : ¬ by' = 0 := by omega
  by_cases h : 0 ≤ n
  · have e : n.tmod by' = n % by' := Int.tmod_eq_emod_of_nonneg h
    have e2 : 0 ≤ n % by' := Int.emod_nonneg _ (by omega)
    have e3 : n % by' < by' := Int.emod_lt_of_pos _ (by omega)
    generalize n % by' = z at e e2 e3 ⊢
    have e4 : ¬ z < 0 := by omega
    go_enter Tryd.func13, Tryd.ntmps13
    go_wp2_with fail
    go_returns
    exact ⟨by first | rfl | (rw [e]; rfl), rfl⟩
  · have hneg : (-n).tmod by' = (-n) % by' := Int.tmod_eq_emod_of_nonneg (by omega)
    have e : n.tmod by' = -((-n) % by') := by rw [← hneg, Int.neg_tmod, Int.neg_neg]
    have e2 : 0 ≤ (-n) % by' := Int.emod_nonneg _ (by omega)
    have e3 : (-n) % by' < by' := Int.emod_lt_of_pos _ (by omega)
    have e5 : n % by' = if (-n) % by' = 0 then 0 else by' - (-n) % by' := by
      have h5 := Int.emod_emod_of_dvd n (Int.dvd_refl by')
      have h6 : n = -(-n) := by omega
      split
      · rename_i hz
        have : by' ∣ -n := Int.dvd_of_emod_eq_zero hz
        exact Int.emod_eq_zero_of_dvd ((Int.dvd_neg).1 this)
      · rename_i hz
        have h7 : n = by' * (-((-n) / by') - 1) + (by' - (-n) % by') := by
          have := Int.mul_ediv_add_emod (-n) by'
          rw [Int.mul_sub, Int.mul_neg]; omega
        have h8 : n % by' = (by' - (-n) % by') % by' := by
          conv => lhs; rw [h7]
          rw [Int.add_comm, Int.add_mul_emod_self_left]
        rw [h8, Int.emod_eq_of_lt (by omega) (by omega)]
    generalize (-n) % by' = z at e e2 e3 e5
    by_cases hz : z = 0
    · subst hz
      rw [if_pos rfl] at e5
      rw [e5]
      have e' : n.tmod by' = 0 := by rw [e]; rfl
      clear e e5 hneg
      go_enter Tryd.func13, Tryd.ntmps13
      go_wp2_with fail
      go_returns
      exact ⟨rfl, rfl⟩
    · rw [if_neg hz] at e5
      rw [e5]
      have e4 : -z < 0 := by omega
      have e6 : -z + by' = by' - z := by omega
      have e7 : 0 ≤ by' - z := by omega
      rw [← e6]
      clear e5 hneg e6
      go_enter Tryd.func13, Tryd.ntmps13
      go_wp2_with fail
      go_returns
      exact ⟨rfl, rfl⟩
theorem Rd.place {L : List ByteArray} {i : Nat} {out : List Rl} {R : Res} (h : Rd L i out R) : ∀ c x, R = .no c x → x ≤ i + L.length := by
  induction h with
  | done => intro c x e; cases e
  | skip _ _ ih => intro c x e; have := ih c x e; rw [List.length_cons]; omega
  | bad => intro c x e; cases e; omega
  | twice => intro c x e; cases e; omega
  | large => intro c x e; cases e; omega
  | next _ _ _ _ _ ih => intro c x e; have := ih c x e; rw [List.length_cons]; omega
theorem RuRes.place {s : ByteArray} {c : Int} {x : Nat} (h : RuRes s (.no c x)) (hs : s.size ≤ 3000) : x ≤ 3001 := by
  rcases h with ⟨h, _⟩ | ⟨_, L, hL, h⟩
  · omega
  · have := h.place c x rfl
    have := hL.le.2.1
    omega
set_option maxRecDepth 100000 in
set_option maxHeartbeats 3200000 in
theorem rulesBack_walk (s : ByteArray) (more : Int) (w : World) (hm : -9223372036854775808 ≤ more ∧ more ≤ 9223372036854775807) : Calls Tryd.prog 5 #[.string s, .int .i64 more] w fun e w' => e = .returned (.bool true) ∧ Below w.heap.size w w' := by
  by_cases hl : 3000 < s.size
  · have hlI : (3000 : Int) < s.size := by omega
    clear hl
    go_enter Tryd.func5, Tryd.ntmps5
    go_wp2_with fail
    refine (up_any _).mono ?_
    rintro e9 w1 ⟨rfl, hb1⟩
    have HB1 := Lib.hid hb1
    clear hb1
    go_wp2_with fail
    go_returns
    exact ⟨rfl, HB1.out⟩
  have hlI : ¬ (3000 : Int) < s.size := by omega
  have hsI : (s.size : Int) ≤ 3000 := by omega
  have HS := Lib.hid (show s.size ≤ 3000 by omega)
  have HPX := Lib.hid (fun w => parseX s w (by omega))
  have HPK := Lib.hid (fun w => pick_any more 9 w hm (by decide) (by decide))
  obtain ⟨n, hn⟩ : ∃ n : Nat, more % 9 = (n : Int) := ⟨(more % 9).toNat, by have := Int.emod_nonneg more (b := 9) (by decide); omega⟩
  have hn8 : (n : Int) ≤ 8 := by have := Int.emod_lt_of_pos more (b := 9) (by decide); omega
  rw [hn] at HPK
  have HN := Lib.hid (show n ≤ 8 by omega)
  have HPG := Lib.hid (fun w => parseX (gapS n ++ s) w (by rw [ByteArray.size_append, gap_size]; omega))
  have h1 : ∀ w, (binOp BinOp.neq 25 .nilIface .nilIface).run Tryd.prog w = .ok (.bool false) w := fun w => by rfl
  have h2 : ∀ (w : World) (b : Nat), (binOp BinOp.neq 25 (.iface 40 (.pointer (some ⟨b, 0, none⟩))) .nilIface).run Tryd.prog w = .ok (.bool true) w := fun w b => by rfl
  clear hl hm hn
  go_enter Tryd.func5, Tryd.ntmps5
  go_wp2_with fail
  refine (up_any _).mono ?_
  rintro e9 w1 ⟨rfl, hb1⟩
  have HB1 := Lib.hid hb1
  clear hb1
  go_wp2_with fail
  refine (HPX.out _).mono ?_
  rintro e9 w2 ⟨hb2, R, hR, hr⟩
  have HB2 := Lib.hid (HB1.out.trans (hb2.mono HB1.out.size)); have HR := Lib.hid hR
  have HRG := Lib.hid (hR.gap HS.out n HN.out)
  clear hb2 hR HB1 HPX
  cases R with
  | no c x =>
    obtain ⟨b, rfl, hx⟩ := hr
    have HX := Lib.hid hx
    have HXP := Lib.hid (HR.out.place HS.out)
    clear hx
    unfold spotV
    go_wp2_with fail
    go_loopw [8, 9] (fun g i wr => ∃ j : Nat, j ≤ n ∧ g = .string (gapS j) ∧ i = .int .i64 j ∧ w2 = wr) (fun g i _ => n - (intOf i).toNat)
    case atStart => exact ⟨0, Nat.zero_le _, rfl, rfl, rfl⟩
    case round =>
      obtain ⟨j, hj, rfl, rfl, hwr⟩ := hrel
      subst hwr
      by_cases hlt : j < n
      · have hltI : (j : Int) < n := by omega
        have hgz : (gapS j).size ≤ 32 := by rw [gap_size]; have := HN.out; omega
        have HLT := Lib.hid hlt
        have HGE : Hid (gapS (j + 1) = gapS j ++ { data := #[10, 35, 120, 10] }) := Lib.hid rfl
        obtain ⟨gj, hgj⟩ : ∃ gj, gapS j = gj := ⟨_, rfl⟩
        rw [hgj] at hgz HGE ⊢
        clear hj hlt hgj
        go_wp2_with fail
        refine (HPK.out _).mono ?_
        rintro e9 w9 ⟨rfl, hw9⟩; subst hw9
        go_wp2_with fail
        exact ⟨⟨j + 1, HLT.out, by rw [HGE.out], by go_num, by first | trivial | rfl⟩, by have := HLT.out; simp [intOf]; try omega⟩
      obtain rfl : j = n := by omega
      have hgz : (gapS j).size ≤ 32 := by rw [gap_size]; have := HN.out; omega
      have HGZ := Lib.hid hgz
      generalize gapS j = gj at *
      clear hj hlt
      go_wp2_with fail
      refine (HPK.out _).mono ?_
      rintro e9 w9 ⟨rfl, hw9⟩; subst hw9
      go_wp2_with fail
      refine (HPK.out _).mono ?_
      rintro e9 w9 ⟨rfl, hw9⟩; subst hw9
      go_wp2_with fail
      refine (HPG.out _).mono ?_
      rintro e9 w3 ⟨hb3, R3, hR3, hr3⟩
      obtain rfl := hR3.det HRG.out
      clear hR3 HPG HPK HRG
      obtain ⟨b', rfl, hx'⟩ := hr3
      have HX' := Lib.hid hx'
      clear hx'
      unfold spotV
      have HSP := Lib.hid (spot_some b x c w3 (HX.out.below hb3))
      have HSP' := Lib.hid (fun w4 (hb : Below w3.heap.size w3 w4) => spot_some b' (x + 2 * j : Nat) c w4 (HX'.out.below hb))
      have HB3 := Lib.hid (HB2.out.trans (hb3.mono HB2.out.size))
      have hxI : (x : Int) ≤ 3001 := by have := HXP.out; omega
      unfold spotV at HSP HSP'
      rw [show ((x + 2 * j : Nat) : Int) = (x : Int) + 2 * (j : Int) from by omega] at HSP'
      clear hb3 HX HX' HB2
      go_wp2_with fail
      refine (HSP.out).mono ?_
      rintro e9 w4 ⟨rfl, hb4⟩
      have HB4 := Lib.hid (HB3.out.trans (hb4.mono HB3.out.size))
      have HSQ := Lib.hid (HSP'.out w4 hb4)
      clear hb4 HB3 HSP HSP'
      go_wp2_with fail
      refine (HSQ.out).mono ?_
      rintro e9 w5 ⟨rfl, hb5⟩
      have HB5 := Lib.hid (HB4.out.trans (hb5.mono HB4.out.size))
      clear hb5 HB4 HSQ
      go_wp2_with fail
      go_returns
      exact ⟨rfl, HB5.out⟩
  | ok out =>
    obtain ⟨v, rfl, hv⟩ := hr
    have HV := Lib.hid hv
    clear hv
    go_wp2_with fail
    go_loopw [8, 9] (fun g i wr => ∃ j : Nat, j ≤ n ∧ g = .string (gapS j) ∧ i = .int .i64 j ∧ w2 = wr) (fun g i _ => n - (intOf i).toNat)
    case atStart => exact ⟨0, Nat.zero_le _, rfl, rfl, rfl⟩
    case round =>
      obtain ⟨j, hj, rfl, rfl, hwr⟩ := hrel
      subst hwr
      by_cases hlt : j < n
      · have hltI : (j : Int) < n := by omega
        have hgz : (gapS j).size ≤ 32 := by rw [gap_size]; have := HN.out; omega
        have HLT := Lib.hid hlt
        have HGE : Hid (gapS (j + 1) = gapS j ++ { data := #[10, 35, 120, 10] }) := Lib.hid rfl
        obtain ⟨gj, hgj⟩ : ∃ gj, gapS j = gj := ⟨_, rfl⟩
        rw [hgj] at hgz HGE ⊢
        clear hj hlt hgj
        go_wp2_with fail
        refine (HPK.out _).mono ?_
        rintro e9 w9 ⟨rfl, hw9⟩; subst hw9
        go_wp2_with fail
        exact ⟨⟨j + 1, HLT.out, by rw [HGE.out], by go_num, by first | trivial | rfl⟩, by have := HLT.out; simp [intOf]; try omega⟩
      obtain rfl : j = n := by omega
      have hgz : (gapS j).size ≤ 32 := by rw [gap_size]; have := HN.out; omega
      have HGZ := Lib.hid hgz
      generalize gapS j = gj at *
      clear hj hlt
      go_wp2_with fail
      refine (HPK.out _).mono ?_
      rintro e9 w9 ⟨rfl, hw9⟩; subst hw9
      go_wp2_with fail
      refine (HPK.out _).mono ?_
      rintro e9 w9 ⟨rfl, hw9⟩; subst hw9
      go_wp2_with fail
      refine (HPG.out _).mono ?_
      rintro e9 w3 ⟨hb3, R3, hR3, hr3⟩
      obtain rfl := hR3.det HRG.out
      clear hR3 HPG HPK HRG
      obtain ⟨v', rfl, hv'⟩ := hr3
      obtain ⟨hrs, hz, hap⟩ := HR.out.show HS.out
      have HAP := Lib.hid hap
      have HLE := Lib.hid HR.out.len
      have HG : Hid (∀ r ∈ out, r.name.size + r.pat.size ≤ 5000) := Lib.hid (fun r hr => by
        have := mem_show hr
        rw [lineS_size] at this
        split at this <;> omega)
      have hvf := hv'
      obtain ⟨a', c', rfl⟩ := hvf.form
      have hvg := HV.out
      obtain ⟨a, c, rfl⟩ := hvg.form
      have HV2 := Lib.hid (HV.out.below hb3); have HV' := Lib.hid hv'
      have HB3 := Lib.hid (HB2.out.trans (hb3.mono HB2.out.size))
      have HSH := Lib.hid (showX out _ w3 (rdRl_at HV2.out) (by have := HLE.out; omega) HG.out)
      have HPS := Lib.hid (fun w => parseX (showS out) w (by omega))
      have HRS := Lib.hid hrs
      clear hb3 hv' HV HB2 hrs hz hap hvf hvg
      generalize showS out = so at *
      go_wp2_with fail
      refine (HSH.out).mono ?_
      rintro e9 w4 ⟨rfl, hb4⟩
      have HB4 := Lib.hid (HB3.out.trans (hb4.mono HB3.out.size))
      have HV4 := Lib.hid (HV2.out.below hb4); have HV4' := Lib.hid (HV'.out.below hb4)
      clear hb4 HB3 HV2 HV' HSH
      go_wp2_with fail
      refine (HPS.out _).mono ?_
      rintro e9 w5 ⟨hb5, R5, hR5, hr5⟩
      obtain rfl := hR5.det HRS.out
      obtain ⟨v5, rfl, hv5⟩ := hr5
      obtain ⟨a5, c5, rfl⟩ := hv5.form
      have HB5 := Lib.hid (HB4.out.trans (hb5.mono HB4.out.size))
      have HV5 := Lib.hid (HV4.out.below hb5); have HV5' := Lib.hid (HV4'.out.below hb5); have HV5'' := Lib.hid hv5
      have HSM := Lib.hid (sameX w5 _ _ out HV5.out HV5'.out (by have := HLE.out; omega))
      have HSN := Lib.hid (fun w6 (hb : Below w5.heap.size w5 w6) => sameX w6 _ _ out (HV5.out.below hb) (HV5''.out.below hb) (by have := HLE.out; omega))
      have hlI8 : (out.length : Int) ≤ 8 := by have := HLE.out; omega
      clear hb5 hR5 HB4 HV4 HV4' HPS HRS hv5
      go_wp2_with fail
      refine (HSM.out).mono ?_
      rintro e9 w6 ⟨rfl, hb6⟩
      have HSO := Lib.hid (HSN.out _ hb6)
      have HB6 := Lib.hid (HB5.out.trans (hb6.mono HB5.out.size)); have HV6 := Lib.hid (HV5.out.below hb6)
      clear hb6 HSM HSN HB5 HV5 HV5' HV5''
      go_wp2_with fail
      refine (HSO.out).mono ?_
      rintro e9 w7 ⟨rfl, hb7⟩
      have HB7 := Lib.hid (HB6.out.trans (hb7.mono HB6.out.size)); have HV7 := Lib.hid (HV6.out.below hb7)
      clear hb7 HSO HB6 HV6
      go_wp2_with fail
      go_loopw [19] (fun i wr => ∃ p : Nat, p ≤ out.length ∧ i = .int .i64 p ∧ Hid (Below w7.heap.size w7 wr)) (fun i _ => out.length - (intOf i).toNat)
      case atStart => exact ⟨0, Nat.zero_le _, rfl, Lib.hid (Below.refl _ _)⟩
      case round =>
        obtain ⟨p, hp, rfl, HBP⟩ := hrel
        by_cases hlt : p < out.length
        · have hltI : (p : Int) < out.length := by omega
          have HLT := Lib.hid hlt
          obtain ⟨q, hq⟩ : ∃ q, out[p]? = some q := ⟨_, List.getElem?_eq_getElem hlt⟩
          obtain ⟨ga, rfl, -, z0, z1, z2⟩ := HV7.out.get hq
          have HZ0 := Lib.hid z0; have HQ := Lib.hid hq
          obtain ⟨w8, hw8⟩ : ∃ w8, w8 = wr := ⟨_, rfl⟩
          clear hp hlt hq z0 z1 z2
          subst hw8
          go_upto_region 22 with (fail)
          go_wp2_with fail
          go_loopw [20] (fun i wr => ∃ k : Nat, k ≤ p ∧ i = .int .i64 k ∧ Hid (Below w7.heap.size w7 wr)) (fun i _ => p - (intOf i).toNat)
          case atStart => exact ⟨0, Nat.zero_le _, rfl, HBP⟩
          case round =>
            obtain ⟨k, hk, rfl, HBK⟩ := hrel
            by_cases hkl : k < p
            · have hklI : (k : Int) < p := by omega
              have hkn : (k : Int) < out.length := by omega
              have HKL := Lib.hid hkl
              obtain ⟨u, hu⟩ : ∃ u, out[k]? = some u := ⟨_, List.getElem?_eq_getElem (by have := HLT.out; omega)⟩
              obtain ⟨gb, e1, -, y0, y1, y2⟩ := HV7.out.get hu
              cases e1
              have hne : (q.name.toList == u.name.toList) = false := by
                cases h : q.name.toList == u.name.toList
                · rfl
                · exfalso
                  have e := (str_eq _ _).1 h
                  obtain ⟨hk2, e2⟩ := List.getElem?_eq_some_iff.1 hu
                  obtain ⟨hp2, e3⟩ := List.getElem?_eq_some_iff.1 HQ.out
                  have := List.pairwise_iff_getElem.1 HAP.out k p hk2 hp2 hkl
                  rw [e2, e3] at this
                  exact this e.symm
              have t0 := (HBK.out.drew.cell (World.block_lt_of_cell? _ _ HZ0.out)).trans HZ0.out
              have t1 := (HBK.out.drew.cell (World.block_lt_of_cell? _ _ y0)).trans y0
              have t2 := (HBK.out.cell (World.block_lt_of_cell? _ _ HZ0.out)).trans HZ0.out
              have t3 := (HBK.out.cell (World.block_lt_of_cell? _ _ y0)).trans y0
              have HNE := Lib.hid hne
              clear hk hkl hu y0 y1 y2 hne
              go_upto_region 25 with (fail)
              go_region
              all_goals (rw [HNE.out]; go_wp2; exact ⟨⟨k + 1, HKL.out, by go_num, Lib.hid HBK.out.drew⟩, by have := HKL.out; simp [intOf]; try omega⟩)
            · obtain rfl : k = p := by omega
              clear hk hkl
              go_wp2
              exact ⟨⟨k + 1, HLT.out, by go_num, HBK⟩, by have := HLT.out; simp [intOf]; try omega⟩
        · obtain rfl : p = out.length := by omega
          clear hp hlt
          go_wp2
          go_returns
          exact ⟨rfl, HB7.out.trans (HBP.out.mono HB7.out.size)⟩
end Go.Proofs.YtaafmfooommepaaDoor
