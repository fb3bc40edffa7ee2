/- The walk of RxParts. -/
import Derived.Test.YtofgkildlhcpdaaRx19
set_option linter.unusedVariables false
set_option linter.unusedSimpArgs false
namespace Go.Proofs.Ytofgkildlhcpdaa
open Go.RowKit Bt
/-- two patterns in memory, their nodes in blocks -/
structure Two (w W : World) (ga gb : Nat) (oa ob : Int) (fa fb : Nat → Bool) (ma mb xa xb : Int) (la lb : List Tree) (ka kb : Value) : Prop where
  bel : Below w.heap.size w W
  na : NAt W (.node oa fa ma xa la) ka
  nb : NAt W (.node ob fb mb xb lb) kb
  ata : AtG W ga 29 (nodeC oa fa ma xa ka)
  atb : AtG W gb 29 (nodeC ob fb mb xb kb)
theorem Two.below {w W W' : World} {ga gb : Nat} {oa ob : Int} {fa fb : Nat → Bool} {ma mb xa xb : Int} {la lb : List Tree} {ka kb : Value} (h : Two w W ga gb oa ob fa fb ma mb xa xb la lb ka kb) (hb : Below W.heap.size W W') : Two w W' ga gb oa ob fa fb ma mb xa xb la lb ka kb :=
  ⟨h.bel.trans (hb.mono h.bel.size), h.na.below hb, h.nb.below hb, h.ata.below hb, h.atb.below hb⟩
theorem Two.alloc {w W : World} {ga gb : Nat} {oa ob : Int} {fa fb : Nat → Bool} {ma mb xa xb : Int} {la lb : List Tree} {ka kb : Value} (h : Two w W ga gb oa ob fa fb ma mb xa xb la lb ka kb) (o : Obj) : Two w (W.alloc o) ga gb oa ob fa fb ma mb xa xb la lb ka kb :=
  h.below ((Below.refl _ _).alloc (Nat.le_refl _) o)
set_option maxRecDepth 100000 in
set_option maxHeartbeats 1600000 in
theorem rxParts_walk (s t : ByteArray) (m n : Int) (w : World) : Calls Try.prog 8 #[.string s, .string t, .int .i64 m, .int .i64 n] w fun e w' => e = .returned (.bool true) ∧ Below w.heap.size w w' := by
  have HU := Lib.hid up02_any; have HP := Lib.hid (parseR s); have HQ := Lib.hid (parseR t)
  have e0 : ∀ w, (binOp BinOp.neq 59 .nilIface .nilIface).run Try.prog w = .ok (.bool false) w := fun w => by rfl
  have e1 : ∀ (b : Nat) w, (binOp BinOp.neq 59 (spotV b) .nilIface).run Try.prog w = .ok (.bool true) w := fun b w => by rfl
  have e2 : ∀ (b : Nat) w, (binOp BinOp.eql 59 (spotV b) .nilIface).run Try.prog w = .ok (.bool false) w := fun b w => by rfl
  have e3 : ∀ w, (binOp BinOp.eql 59 .nilIface .nilIface).run Try.prog w = .ok (.bool true) w := fun w => by rfl
  have E0 := Lib.hid e0; have E1 := Lib.hid e1; have E2 := Lib.hid e2; have E3 := Lib.hid e3
  clear e0 e1 e2 e3
  go_enter Try.func8, Try.ntmps8
  go_wp2_with fail
  refine (HU.out _).mono ?_
  rintro e9 w1 ⟨rfl, hb1⟩
  have HB1 := Lib.hid hb1
  clear hb1
  by_cases hl : 60 < (s.size : Int)
  · go_wp2_with fail
    go_returns
    exact ⟨rfl, HB1.out⟩
  by_cases hl2 : 60 < (t.size : Int)
  · go_wp2_with fail
    go_returns
    exact ⟨rfl, HB1.out⟩
  go_wp2_with fail
  refine (HP.out _).mono ?_
  rintro e9 w2 ⟨hb2, R, er, aa, an, ac, hR, rfl, hk, hsp, her⟩
  have HB2 := Lib.hid (HB1.out.trans (hb2.mono HB1.out.size)); have HK2 := Lib.hid hk; have HRR := Lib.hid hR; have HER := Lib.hid her
  clear hb2 hk hsp hR her
  obtain ⟨ta, hta⟩ : ∃ x, x = treeR R := ⟨_, rfl⟩
  rw [← hta] at HK2 ⊢
  obtain ⟨oa, fa, ma, xa, la⟩ := ta
  have HTA := Lib.hid hta
  clear hta
  unfold nodeV
  dsimp only
  go_upto_region 5 with (fail)
  obtain ⟨V1, hV1⟩ : ∃ V : World, V = w2.alloc (.cells (nodeC oa fa ma xa (.slice aa an ac)) 29) := ⟨_, rfl⟩
  have hV1' : w2.alloc (.cells #[.int .i64 oa, .int .u64 ((wd fa 0 : Nat) : Int), .int .u64 ((wd fa 1 : Nat) : Int), .int .u64 ((wd fa 2 : Nat) : Int), .int .u64 ((wd fa 3 : Nat) : Int), .int .i64 ma, .int .i64 xa, .slice aa an ac] 29) = V1 := hV1.symm
  rw [hV1']
  have HBV1 : Hid (Below w.heap.size w V1) := Lib.hid (by rw [hV1]; exact HB2.out.alloc HB2.out.size _)
  have HKV1 : Hid (NAt V1 (.node oa fa ma xa la) (.slice aa an ac)) := Lib.hid (by rw [hV1]; exact HK2.out.alloc _)
  have HAV1 : Hid (AtG V1 w2.heap.size 29 (nodeC oa fa ma xa (.slice aa an ac))) := Lib.hid (by rw [hV1]; exact AtG.new _ _ _)
  generalize w2.heap.size = ga at *
  clear hV1 hV1' HB2 HK2
  go_wp2_with fail
  refine (HQ.out _).mono ?_
  rintro e9 w3 ⟨hb3, R', er', ba, bn, bc, hR', rfl, hk', hsp', her'⟩
  have HB3 := Lib.hid (HBV1.out.trans (hb3.mono HBV1.out.size)); have HK3 := Lib.hid hk'; have HRR' := Lib.hid hR'; have HER' := Lib.hid her'; have HKA3 := Lib.hid (HKV1.out.below hb3); have HAA3 := Lib.hid (HAV1.out.below hb3)
  clear hb3 hk' hsp' hR' her' HBV1 HKV1 HAV1
  obtain ⟨tb, htb⟩ : ∃ x, x = treeR R' := ⟨_, rfl⟩
  rw [← htb] at HK3 ⊢
  obtain ⟨ob, fb, mb, xb, lb⟩ := tb
  have HTB := Lib.hid htb
  clear htb
  unfold nodeV
  dsimp only
  go_upto_region 6 with (fail)
  obtain ⟨W, hW⟩ : ∃ V : World, V = w3.alloc (.cells (nodeC ob fb mb xb (.slice ba bn bc)) 29) := ⟨_, rfl⟩
  have hW' : w3.alloc (.cells #[.int .i64 ob, .int .u64 ((wd fb 0 : Nat) : Int), .int .u64 ((wd fb 1 : Nat) : Int), .int .u64 ((wd fb 2 : Nat) : Int), .int .u64 ((wd fb 3 : Nat) : Int), .int .i64 mb, .int .i64 xb, .slice ba bn bc] 29) = W := hW.symm
  rw [hW']
  have H : Hid (Two w W ga w3.heap.size oa ob fa fb ma mb xa xb la lb (.slice aa an ac) (.slice ba bn bc)) := Lib.hid (by
    rw [hW]
    exact ⟨HB3.out.alloc HB3.out.size _, HKA3.out.alloc _, HK3.out.alloc _, HAA3.out.alloc _, AtG.new _ _ _⟩)
  generalize w3.heap.size = gb at *
  clear hW hW' HB3 HKA3 HK3 HAA3 HP HQ HU HB1
  cases R with
  | no c x =>
    obtain ⟨b, rfl⟩ := HER.out
    have e1 := E1.out b W
    unfold spotV at e1 ⊢
    go_wp2_with fail
    go_returns
    exact ⟨rfl, H.out.bel⟩
  | ok a' qa =>
    obtain rfl := HER.out
    cases R' with
    | no c x =>
      obtain ⟨b, rfl⟩ := HER'.out
      have e1 := E1.out b W
      have e0 := E0.out W
      unfold spotV at e1 ⊢
      go_wp2_with fail
      go_returns
      exact ⟨rfl, H.out.bel⟩
    | ok b' qb =>
      obtain rfl := HER'.out
      have hPs : P s .pat 0 0 (.ok (.node oa fa ma xa la) qa) := by
        rcases HRR.out with ⟨_, h⟩ | ⟨_, h⟩
        · cases h
        · have := HTA.out; rw [treeR] at this; rw [this]; exact h
      have hPt : P t .pat 0 0 (.ok (.node ob fb mb xb lb) qb) := by
        rcases HRR'.out with ⟨_, h⟩ | ⟨_, h⟩
        · cases h
        · have := HTB.out; rw [treeR] at this; rw [this]; exact h
      have hgs := good_op (by omega) hPs
      have hgt := good_op (by omega) hPt
      obtain ⟨b1, b2, f1, f2, f3, f4, f5⟩ := parts_plain hPs hPt
      have HPS := Lib.hid hPs; have HPT := Lib.hid hPt; have HGS := Lib.hid hgs; have HGT := Lib.hid hgt
      have F1 := Lib.hid f1; have F2 := Lib.hid f2; have F3 := Lib.hid f3; have F4 := Lib.hid f4; have F5 := Lib.hid f5
      clear hPs hPt hgs hgt f1 f2 f3 f4 f5 HER HER' HTA HTB HRR HRR'
      have HLS := Lib.hid (show s.size ≤ 60 by omega)
      have HLT := Lib.hid (show t.size ≤ 60 by omega)
      have e0 := E0.out W
      have PB : ∀ (w : World), ∃ B : Bool, B = b1 := fun _ => ⟨_, rfl⟩
      clear PB
      -- (s)
      have HC : Hid (∀ w, Calls Try.prog 31 #[.string ({ data := #[40] } ++ s ++ { data := #[41] })] w fun e w' => Below w.heap.size w w' ∧ ∃ T a n c er, e = .returned (.tuple #[nodeV T (.slice a n c), er]) ∧ NAt w' T (.slice a n c) ∧
          (if b1 then T = .node oa fa ma xa la ∧ er = .nilIface else T = zT ∧ ∃ b, er = spotV b ∧ ∃ x : Nat, AtG w' b 82 #[.int .i64 (x : Int), .int .i64 4])) := Lib.hid (fun w => by
        obtain ⟨r', hP, hr⟩ := F1.out
        have hsz : ({ data := #[40] } ++ s ++ { data := #[41] } : ByteArray).size ≤ 200 := by
          have := HLS.out
          rw [ByteArray.size_append, ByteArray.size_append]
          have e : (⟨#[40]⟩ : ByteArray).size = 1 := rfl
          have e' : (⟨#[41]⟩ : ByteArray).size = 1 := rfl
          omega
        cases b1 with
        | true =>
          rw [if_pos rfl] at hr; subst hr
          exact (parse_ok hsz hP w).mono (by
            rintro e w' ⟨hb, a, n, c, rfl, hk⟩
            exact ⟨hb, _, a, n, c, _, rfl, hk, rfl, rfl⟩)
        | false =>
          rw [if_neg (by decide)] at hr
          obtain ⟨x, rfl⟩ := hr
          exact (parse_no hsz hP w).mono (by
            rintro e w' ⟨hb, b, rfl, hx⟩
            exact ⟨hb, zT, none, 0, 0, _, rfl, nat_zero _, rfl, b, rfl, x, hx⟩))
      have HD : Hid (∀ w, Calls Try.prog 31 #[.string ({ data := #[40] } ++ t ++ { data := #[41] })] w fun e w' => Below w.heap.size w w' ∧ ∃ T a n c er, e = .returned (.tuple #[nodeV T (.slice a n c), er]) ∧
          (if b2 then er = .nilIface else ∃ b, er = spotV b)) := Lib.hid (fun w => by
        obtain ⟨r', hP, hr⟩ := F2.out
        have hsz : ({ data := #[40] } ++ t ++ { data := #[41] } : ByteArray).size ≤ 200 := by
          have := HLT.out
          rw [ByteArray.size_append, ByteArray.size_append]
          have e : (⟨#[40]⟩ : ByteArray).size = 1 := rfl
          have e' : (⟨#[41]⟩ : ByteArray).size = 1 := rfl
          omega
        cases b2 with
        | true =>
          rw [if_pos rfl] at hr; subst hr
          exact (parse_ok hsz hP w).mono (by
            rintro e w' ⟨hb, a, n, c, rfl, hk⟩
            exact ⟨hb, _, a, n, c, _, rfl, rfl⟩)
        | false =>
          rw [if_neg (by decide)] at hr
          obtain ⟨x, rfl⟩ := hr
          exact (parse_no hsz hP w).mono (by
            rintro e w' ⟨hb, b, rfl, hx⟩
            exact ⟨hb, zT, none, 0, 0, _, rfl, b, rfl⟩))
      have HSM := Lib.hid (same_any (.node oa fa ma xa la) H.out.na)
      have HSMB := Lib.hid (same_any (.node ob fb mb xb lb) H.out.nb)
      clear F1 F2
      go_wp2_with fail
      refine (HC.out _).mono ?_
      rintro e9 w4 ⟨hb4, T, ca, cn, cc, er, rfl, hkc, hT⟩
      have HKC := Lib.hid hkc; have HT := Lib.hid hT; have H4 := Lib.hid (H.out.below hb4)
      clear hb4 hkc hT H e0 HC
      obtain ⟨oc, fc, mc, xc, lc⟩ := T
      unfold nodeV
      dsimp only
      go_upto_region 9 with (fail)
      obtain ⟨V2, hV2⟩ : ∃ V : World, V = w4.alloc (.cells (nodeC oc fc mc xc (.slice ca cn cc)) 29) := ⟨_, rfl⟩
      have hV2' : w4.alloc (.cells #[.int .i64 oc, .int .u64 ((wd fc 0 : Nat) : Int), .int .u64 ((wd fc 1 : Nat) : Int), .int .u64 ((wd fc 2 : Nat) : Int), .int .u64 ((wd fc 3 : Nat) : Int), .int .i64 mc, .int .i64 xc, .slice ca cn cc] 29) = V2 := hV2.symm
      rw [hV2']
      have HV2 : Hid (Two w V2 ga gb oa ob fa fb ma mb xa xb la lb (.slice aa an ac) (.slice ba bn bc)) := Lib.hid (by rw [hV2]; exact H4.out.alloc _)
      have HKV2 : Hid (NAt V2 (.node oc fc mc xc lc) (.slice ca cn cc)) := Lib.hid (by rw [hV2]; exact HKC.out.alloc _)
      have HAV2 : Hid (AtG V2 w4.heap.size 29 (nodeC oc fc mc xc (.slice ca cn cc))) := Lib.hid (by rw [hV2]; exact AtG.new _ _ _)
      have HSP2 : Hid (Below w4.heap.size w4 V2) := Lib.hid (by rw [hV2]; go_grown)
      clear hV2 hV2' HKC H4
      go_wp2_with fail
      refine (HD.out _).mono ?_
      rintro e9 w5 ⟨hb5, Td, da, dn, dc, er2, rfl, her2⟩
      have HER2 := Lib.hid her2; have H5 := Lib.hid (HV2.out.below hb5); have HKC5 := Lib.hid (HKV2.out.below hb5); have HAC5 := Lib.hid (HAV2.out.below hb5)
      have HSP5 := Lib.hid (HSP2.out.trans (hb5.mono HSP2.out.size))
      clear hb5 her2 HV2 HKV2 HAV2 HSP2 HD
      obtain ⟨od, fd, md, xd, ld⟩ := Td
      unfold nodeV
      dsimp only
      go_upto_region 10 with (fail)
      obtain ⟨V3, hV3⟩ : ∃ V : World, V = w5.alloc (.cells (nodeC od fd md xd (.slice da dn dc)) 29) := ⟨_, rfl⟩
      have hV3' : w5.alloc (.cells #[.int .i64 od, .int .u64 ((wd fd 0 : Nat) : Int), .int .u64 ((wd fd 1 : Nat) : Int), .int .u64 ((wd fd 2 : Nat) : Int), .int .u64 ((wd fd 3 : Nat) : Int), .int .i64 md, .int .i64 xd, .slice da dn dc] 29) = V3 := hV3.symm
      rw [hV3']
      have HV3 : Hid (Two w V3 ga gb oa ob fa fb ma mb xa xb la lb (.slice aa an ac) (.slice ba bn bc)) := Lib.hid (by rw [hV3]; exact H5.out.alloc _)
      have HKV3 : Hid (NAt V3 (.node oc fc mc xc lc) (.slice ca cn cc)) := Lib.hid (by rw [hV3]; exact HKC5.out.alloc _)
      have HAV3 : Hid (AtG V3 w4.heap.size 29 (nodeC oc fc mc xc (.slice ca cn cc))) := Lib.hid (by rw [hV3]; exact HAC5.out.alloc _)
      have HSP3 : Hid (Below w4.heap.size w4 V3) := Lib.hid (by rw [hV3]; exact HSP5.out.alloc HSP5.out.size _)
      clear hV3 hV3' HKC5 HAC5 H5 HSP5
      obtain ⟨cd, hcd⟩ : ∃ cd : Int, cd = if b1 then 0 else 4 := ⟨_, rfl⟩
      have HCD := Lib.hid hcd
      have HSPOT : Hid (Calls Try.prog 33 #[er] V3 fun e w3 => ∃ x : Int, e = .returned (.tuple #[.int .i64 cd, .int .i64 x]) ∧ Below V3.heap.size V3 w3) := Lib.hid (by
        have hT := HT.out
        rw [hcd]
        cases b1 with
        | true =>
          rw [if_pos rfl] at hT
          obtain ⟨_, rfl⟩ := hT
          exact (spot_nil _).mono (by rintro e w' ⟨rfl, rfl⟩; exact ⟨0, rfl, Below.refl _ _⟩)
        | false =>
          rw [if_neg (by decide)] at hT
          obtain ⟨_, b, rfl, x, hx⟩ := hT
          exact (spot_some b _ _ _ (hx.below HSP3.out)).mono (by rintro e w' ⟨rfl, hb⟩; exact ⟨x, rfl, hb⟩))
      clear hcd
      go_wp2_with fail
      refine (HSPOT.out).mono ?_
      rintro e9 w6 ⟨x6, rfl, hb6⟩
      have H6 := Lib.hid (HV3.out.below hb6); have HK6 := Lib.hid (HKV3.out.below hb6); have HA6 := Lib.hid (HAV3.out.below hb6)
      clear hb6 HV3 HKV3 HAV3 HSPOT HSP3
      generalize w4.heap.size = gc at *
      have k0 : (w6).cell? ⟨ga, 0, none⟩ = some (.int .i64 oa) := (H6.out.ata).cell 0 _ rfl
      have k1 : (w6).cell? ⟨ga, 1, none⟩ = some (.int .u64 ((wd fa 0 : Nat) : Int)) := (H6.out.ata).cell 1 _ rfl
      have k2 : (w6).cell? ⟨ga, 2, none⟩ = some (.int .u64 ((wd fa 1 : Nat) : Int)) := (H6.out.ata).cell 2 _ rfl
      have k3 : (w6).cell? ⟨ga, 3, none⟩ = some (.int .u64 ((wd fa 2 : Nat) : Int)) := (H6.out.ata).cell 3 _ rfl
      have k4 : (w6).cell? ⟨ga, 4, none⟩ = some (.int .u64 ((wd fa 3 : Nat) : Int)) := (H6.out.ata).cell 4 _ rfl
      have k5 : (w6).cell? ⟨ga, 5, none⟩ = some (.int .i64 ma) := (H6.out.ata).cell 5 _ rfl
      have k6 : (w6).cell? ⟨ga, 6, none⟩ = some (.int .i64 xa) := (H6.out.ata).cell 6 _ rfl
      have k7 : (w6).cell? ⟨ga, 7, none⟩ = some (.slice aa an ac) := (H6.out.ata).cell 7 _ rfl
      have m0 : (w6).cell? ⟨gc, 0, none⟩ = some (.int .i64 oc) := (HA6.out).cell 0 _ rfl
      have m1 : (w6).cell? ⟨gc, 1, none⟩ = some (.int .u64 ((wd fc 0 : Nat) : Int)) := (HA6.out).cell 1 _ rfl
      have m2 : (w6).cell? ⟨gc, 2, none⟩ = some (.int .u64 ((wd fc 1 : Nat) : Int)) := (HA6.out).cell 2 _ rfl
      have m3 : (w6).cell? ⟨gc, 3, none⟩ = some (.int .u64 ((wd fc 2 : Nat) : Int)) := (HA6.out).cell 3 _ rfl
      have m4 : (w6).cell? ⟨gc, 4, none⟩ = some (.int .u64 ((wd fc 3 : Nat) : Int)) := (HA6.out).cell 4 _ rfl
      have m5 : (w6).cell? ⟨gc, 5, none⟩ = some (.int .i64 mc) := (HA6.out).cell 5 _ rfl
      have m6 : (w6).cell? ⟨gc, 6, none⟩ = some (.int .i64 xc) := (HA6.out).cell 6 _ rfl
      have m7 : (w6).cell? ⟨gc, 7, none⟩ = some (.slice ca cn cc) := (HA6.out).cell 7 _ rfl
      have HSAME : Hid (Calls Try.prog 34 #[nodeV (.node oa fa ma xa la) (.slice aa an ac), nodeV (.node oc fc mc xc lc) (.slice ca cn cc)] w6 fun e w' => e = .returned (.bool b1) ∧ Below w6.heap.size w6 w') := Lib.hid (by
        have hT := HT.out
        cases b1 with
        | true =>
          rw [if_pos rfl] at hT
          rw [hT.1]
          have hk := HK6.out
          rw [hT.1] at hk
          exact HSM.out _ _ _ H6.out.na hk
        | false =>
          rw [if_neg (by decide)] at hT
          rw [hT.1]
          exact same_ne _ _ _ _ _ _ _ _ _ HGS.out.1)
      unfold nodeV at HSAME
      dsimp only at HSAME
      go_wp2_with fail
      refine (HSAME.out).mono ?_
      rintro e9 w7 ⟨rfl, hb7⟩
      have H7 := Lib.hid (H6.out.below hb7)
      have HT7 : Hid (if b1 then er = .nilIface else ∃ b, er = spotV b) := Lib.hid (by
        have hT := HT.out
        cases b1 with
        | true => rw [if_pos rfl] at hT ⊢; exact hT.2
        | false => rw [if_neg (by decide)] at hT ⊢; obtain ⟨_, b, h, _⟩ := hT; exact ⟨b, h⟩)
      clear k0 k1 k2 k3 k4 k5 k6 k7 m0 m1 m2 m3 m4 m5 m6 m7 hb7 H6 HK6 HA6 HT HSAME
      cases b1 with
      | false =>
        obtain rfl : cd = 4 := HCD.out
        obtain ⟨b, rfl⟩ : ∃ b, er = spotV b := by have := HT7.out; rwa [if_neg (by decide)] at this
        have e1 := E1.out b w7; have e2 := E2.out b w7
        unfold spotV at e1 e2 ⊢
        go_wp2_with fail
        refine (bare_any s HLS.out _).mono ?_
        rintro e9 w8 ⟨r1, rfl, hw8, hr1⟩
        subst hw8
        have HR1 := Lib.hid hr1
        clear hr1
        cases r1 with
        | false =>
          have e1' := E1.out b w7
          unfold spotV at e1'
          go_wp2_with fail
          go_returns
          exact ⟨rfl, (H7).out.bel⟩
        | true =>
          have HRs := Lib.hid (HR1.out rfl)
          clear HR1
          go_wp2_with fail
          refine (bare_any t HLT.out _).mono ?_
          rintro e9 w8 ⟨r2, rfl, hw8, hr2⟩
          subst hw8
          have HR2 := Lib.hid hr2
          clear hr2
          cases r2 with
          | false =>
            have e1' := E1.out b w7
            unfold spotV at e1'
            go_wp2_with fail
            go_returns
            exact ⟨rfl, (H7).out.bel⟩
          | true =>
            have hbp := both_P HPS.out HPT.out HRs.out (HR2.out rfl)
            obtain ⟨L, hL⟩ : ∃ L, L = altsF (.node oa fa ma xa la) ++ altsF (.node ob fb mb xb lb) := ⟨_, rfl⟩
            rw [← hL] at hbp
            have HL := Lib.hid hL
            have HPB : Hid (∀ w, Calls Try.prog 31 #[.string (s ++ { data := #[124] } ++ t)] w fun e w' => Below w.heap.size w w' ∧ ∃ a n c, e = .returned (.tuple #[nodeV (altT L) (.slice a n c), .nilIface]) ∧ NAt w' (altT L) (.slice a n c)) := Lib.hid (fun w => parse_ok (by
              have := HLS.out; have := HLT.out
              rw [ByteArray.size_append, ByteArray.size_append]
              have e : (⟨#[124]⟩ : ByteArray).size = 1 := rfl
              omega) hbp.2.choose_spec w)
            have HL2 := Lib.hid hbp.1
            clear hL hbp HRs HR2
            go_wp2_with fail
            refine (HPB.out _).mono ?_
            rintro e9 w9 ⟨hb9, da2, dn2, dc2, rfl, hkd⟩
            obtain ⟨da3, dc3, hdk⟩ := KAt.slice hkd
            injection hdk with hd1 hd2 hd3
            subst hd1; subst hd3
            obtain ⟨lk, hlk⟩ : ∃ k, k = L.length := ⟨_, rfl⟩
            rw [← hlk] at hd2
            subst hd2
            have HLK := Lib.hid hlk
            have hlk1 : dn2 ≤ 1000 := by rw [hlk]; exact nat_len hkd
            have H9 := Lib.hid ((H7).out.below hb9)
            have HKD := Lib.hid hkd
            clear hb9 hkd hlk HPB H7
            unfold altT
            rw [nodeV_emp3]
            go_upto_region 16 with (fail)
            obtain ⟨X, hX⟩ : ∃ V : World, V = w9.alloc (.cells #[.int .i64 3, .int .u64 0, .int .u64 0, .int .u64 0, .int .u64 0, .int .i64 0, .int .i64 0, .slice da2 dn2 dc2] 29) := ⟨_, rfl⟩
            rw [← hX]
            have HX : Hid (Two w X ga gb oa ob fa fb ma mb xa xb la lb (.slice aa an ac) (.slice ba bn bc)) := Lib.hid (by rw [hX]; exact H9.out.alloc _)
            have HKX : Hid (NAt X (altT L) (.slice da2 dn2 dc2)) := Lib.hid (by rw [hX]; exact HKD.out.alloc _)
            have HAX : Hid (AtG X w9.heap.size 29 #[.int .i64 3, .int .u64 0, .int .u64 0, .int .u64 0, .int .u64 0, .int .i64 0, .int .i64 0, .slice da2 dn2 dc2]) := Lib.hid (by rw [hX]; exact AtG.new _ _ _)
            generalize w9.heap.size = gd at *
            clear hX H9 HKD
            obtain ⟨psA, hpa, hka, hca⟩ := alts_src _ _ _ _ _ HX.out.na HGS.out.2
            obtain ⟨psB, hpb, hkb, hcb⟩ := alts_src _ _ _ _ _ HX.out.nb HGT.out.2
            unfold nodeV at hca hcb
            dsimp only at hca hcb
            obtain ⟨nA, hnA⟩ : ∃ x, x = psA.length := ⟨_, rfl⟩
            obtain ⟨nB, hnB⟩ : ∃ x, x = psB.length := ⟨_, rfl⟩
            rw [← hnA] at hca; rw [← hnB] at hcb
            have hab : nA + nB = dn2 := by
              rw [HLK.out, HL.out, ← hpa, ← hpb, List.length_append, List.length_map, List.length_map, hnA, hnB]
            have HCA := Lib.hid hca; have HCB := Lib.hid hcb
            have HFA := Lib.hid (show (flatN psA).length = nA * 8 ∧ ∀ y ∈ flatN psA, y.oneCell' = true from ⟨by rw [flatN_len, hnA], flatN_cells psA hka⟩)
            have HFB := Lib.hid (show (flatN psB).length = nB * 8 ∧ ∀ y ∈ flatN psB, y.oneCell' = true from ⟨by rw [flatN_len, hnB], flatN_cells psB hkb⟩)
            have HPS2 := Lib.hid (show (psA ++ psB).map (·.1) = L from by rw [List.map_append, hpa, hpb, HL.out])
            have HKS : Hid (AllK (fun b => b < X.heap.size) X (psA ++ psB)) := Lib.hid (fun x hx => (List.mem_append.1 hx).elim (hka x) (hkb x))
            clear hpa hpb hka hkb hca hcb hnA hnB
            refine RgX.start (by kernel_rfl) [(3, fun w5 w6 => ∃ k, X.heap.size ≤ k ∧ AtG w5 k 29 #[] ∧ w5.grownBy w6 (some k)), (6, fun w5 w6 => Below X.heap.size w5 w6)] [⟨fun w5 => Below X.heap.size X w5, none⟩] ⟨⟨fun _ _ h hb => h.trans (hb.mono h.size), ⟨fun _ _ _ _ => (fun w5 w6 h he => by obtain ⟨k, hk, -, hg⟩ := he; exact Below.grown h hg h.size (fun q hq => by cases hq; exact hk)), fun _ _ _ _ => (fun w5 w6 h he => h.trans he), trivial⟩⟩, trivial⟩ (by kernel_rfl) (by kernel_rfl) ⟨(Below.refl _ _).drew, trivial⟩ ?_
            show RgX.Build _ _ _ _ _ _ 0 [_, _, _, _, _, _, _, _] []
            refine RgX.build_cons (m := 1) (r := (⟨fun v _ w5 => ∃ k, v = .slice (some ⟨k, 0, none⟩) 0 0 ∧ X.heap.size ≤ k ∧ AtG w5 k 29 #[], some 3, none⟩ : RgX.Rl)) (RgX.one_plain (by rfl) (by (intro ax wx hk Kx hK; have hB := hk.fact 0 0 _ rfl rfl; (try dsimp only at hB); clear hk; (go_simp; exact hK _ _ (fun h => by cases h) (fun u _ => ⟨wx.heap.size, rfl, hB.size, AtG.new _ _ _⟩) ((Below.refl _ _).alloc (Nat.le_refl _) _))))) ?_ rfl (RgX.keep_r (fun _ _ _ _ h hb => by obtain ⟨k, h1, h2, h3⟩ := h; exact ⟨k, h1, h2, h3.below hb⟩) (fun _ _ => ⟨fun _ h _ _ => absurd rfl h, fun _ _ h _ => absurd ⟨3, 1, rfl, rfl⟩ h, trivial⟩)) (fun _ h => by cases h)
            refine RgX.build_cons (m := 2) (r := RgX.eq _) (RgX.one_plain (by rfl) (by (intro ax wx hk Kx hK; have k10 := hk.base 10 _ rfl rfl; have hB := hk.fact 0 0 _ rfl rfl; (try dsimp only at hB); clear hk; have hq := HX.out.ata.below hB; have c0 := hq.cell 0 _ rfl; have c1 := hq.cell 1 _ rfl; have c2 := hq.cell 2 _ rfl; have c3 := hq.cell 3 _ rfl; have c4 := hq.cell 4 _ rfl; have c5 := hq.cell 5 _ rfl; have c6 := hq.cell 6 _ rfl; have c7 := hq.cell 7 _ rfl; clear hq; go_simp; refine hK _ _ (fun h => by cases h) (fun _ _ => ?_) (Below.refl _ _); apply RgX.mk))) ?_ rfl RgX.keep_eq (fun _ h => by cases h)
            refine RgX.build_cons (m := 3) (r := (⟨fun v _ w5 => ∀ _ : Unit, SrcRow w5 v nA (flatN psA), some 3, none⟩ : RgX.Rl)) (RgX.one_plain (by rfl) (by (intro ax wx hk Kx hK; obtain ⟨v114, k114, h114⟩ := hk.dep 0 1 114 _ rfl rfl rfl; (first | (replace h114 := h114 9 undef rfl rfl; first | (cases (h114 : v114 = _)) | (obtain ⟨rfl, h114⟩ := h114) | skip) | skip); have hB := hk.fact 0 0 _ rfl rfl; (try dsimp only at hB); clear hk; go_simp; refine (HCA.out _ hB).mono ?_; rintro e w' ⟨hb, v, rfl, hs⟩; exact hK _ _ (fun h => by cases h) (fun u _ _ => hs) hb))) ?_ rfl (RgX.keep_r (fun _ _ _ _ h hb _ => src_below (h ()) hb) (fun _ _ => ⟨fun _ h _ _ => absurd rfl h, fun _ _ h _ => absurd ⟨3, 1, rfl, rfl⟩ h, trivial⟩)) (fun _ h => by cases h)
            refine RgX.build_cons (m := 4) (r := (⟨fun v _ w5 => w5.ownsRow X.heap.size 29 8 v (0 + nA) ([] ++ flatN psA), some 6, none⟩ : RgX.Rl)) (RgX.one_plain (by rfl) (by (intro ax wx hk Kx hK; obtain ⟨v113, k113, h113⟩ := hk.dep 0 0 113 _ rfl rfl rfl; (first | (replace h113 := h113 9 undef rfl rfl; first | (cases (h113 : v113 = _)) | (obtain ⟨rfl, h113⟩ := h113) | skip) | skip); obtain ⟨v115, k115, h115⟩ := hk.dep 0 2 115 _ rfl rfl rfl; (first | (replace h115 := h115 9 undef rfl rfl; first | (cases (h115 : v115 = _)) | (obtain ⟨rfl, h115⟩ := h115) | skip) | skip); have hB := hk.fact 0 0 _ rfl rfl; (try dsimp only at hB); clear hk; (obtain ⟨k, rfl, hk0, hk1⟩ := h113; refine wp_appRow (.tmp 113) (.tmp 115) 27 rfl X.heap.size 29 _ 8 80 Try.underlying27 infoNode rfl (by decide) _ _ 0 nA [] (flatN psA) (own_empty8 hk1 hk0) (h115 ()) (by simp [Act.eval, k113]) (by simp [Act.eval, k115]) HFA.out.1 HFA.out.2 (by omega) (by decide) hB.size ?_; intro v' w' ho hg; exact hK _ _ (fun h => by cases h) (fun u _ => ho) ⟨k, hk0, hk1, hg⟩)))) ?_ rfl (RgX.keep_r (fun _ _ _ _ h hb => own_below h hb) (fun _ _ => ⟨fun h _ _ _ => absurd rfl h, fun _ h _ _ => absurd rfl h, trivial⟩)) (fun _ h => by cases h)
            refine RgX.build_cons (m := 5) (r := RgX.eq _) (RgX.one_plain (by rfl) (by (intro ax wx hk Kx hK; have k12 := hk.base 12 _ rfl rfl; have hB := hk.fact 0 0 _ rfl rfl; (try dsimp only at hB); clear hk; have hq := HX.out.atb.below hB; have c0 := hq.cell 0 _ rfl; have c1 := hq.cell 1 _ rfl; have c2 := hq.cell 2 _ rfl; have c3 := hq.cell 3 _ rfl; have c4 := hq.cell 4 _ rfl; have c5 := hq.cell 5 _ rfl; have c6 := hq.cell 6 _ rfl; have c7 := hq.cell 7 _ rfl; clear hq; go_simp; refine hK _ _ (fun h => by cases h) (fun _ _ => ?_) (Below.refl _ _); apply RgX.mk))) ?_ rfl RgX.keep_eq (fun _ h => by cases h)
            refine RgX.build_cons (m := 6) (r := (⟨fun v _ w5 => ∀ _ : Unit, SrcRow w5 v nB (flatN psB), some 6, none⟩ : RgX.Rl)) (RgX.one_plain (by rfl) (by (intro ax wx hk Kx hK; obtain ⟨v117, k117, h117⟩ := hk.dep 0 4 117 _ rfl rfl rfl; (first | (replace h117 := h117 9 undef rfl rfl; first | (cases (h117 : v117 = _)) | (obtain ⟨rfl, h117⟩ := h117) | skip) | skip); have hB := hk.fact 0 0 _ rfl rfl; (try dsimp only at hB); clear hk; go_simp; refine (HCB.out _ hB).mono ?_; rintro e w' ⟨hb, v, rfl, hs⟩; exact hK _ _ (fun h => by cases h) (fun u _ _ => hs) hb))) ?_ rfl (RgX.keep_r (fun _ _ _ _ h hb _ => src_below (h ()) hb) (fun _ _ => ⟨fun _ _ _ h => absurd ⟨1, rfl⟩ h, fun _ h _ _ => absurd rfl h, trivial⟩)) (fun _ h => by cases h)
            refine RgX.build_cons (m := 7) (r := (⟨fun v _ w5 => w5.ownsRow X.heap.size 29 8 v (0 + nA + nB) ([] ++ flatN psA ++ flatN psB), none, none⟩ : RgX.Rl)) (RgX.one_plain (by rfl) (by (intro ax wx hk Kx hK; obtain ⟨v116, k116, h116⟩ := hk.dep 0 3 116 _ rfl rfl rfl; (first | (replace h116 := h116 9 undef rfl rfl; first | (cases (h116 : v116 = _)) | (obtain ⟨rfl, h116⟩ := h116) | skip) | skip); obtain ⟨v118, k118, h118⟩ := hk.dep 0 5 118 _ rfl rfl rfl; (first | (replace h118 := h118 9 undef rfl rfl; first | (cases (h118 : v118 = _)) | (obtain ⟨rfl, h118⟩ := h118) | skip) | skip); have hB := hk.fact 0 0 _ rfl rfl; (try dsimp only at hB); clear hk; (refine wp_appRow (.tmp 116) (.tmp 118) 27 rfl X.heap.size 29 _ 8 80 Try.underlying27 infoNode rfl (by decide) _ _ (0 + nA) nB _ (flatN psB) h116 (h118 ()) (by simp [Act.eval, k116]) (by simp [Act.eval, k118]) HFB.out.1 HFB.out.2 (by omega) (by decide) hB.size ?_; intro v' w' ho hg; exact hK _ _ (fun h => by cases h) (fun u _ => ho) ((Below.refl _ _).grown hg hB.size (fun q hq => own_base h116 q hq)))))) ?_ rfl (RgX.keep_r (fun _ _ _ _ h hb => own_below h hb) (fun _ _ => ⟨fun _ _ _ h => absurd ⟨1, rfl⟩ h, fun h _ _ _ => absurd rfl h, trivial⟩)) (fun _ h => by cases h)
            refine RgX.build_cons (m := 8) (r := (⟨fun v _ w5 => w5.ownsRow X.heap.size 29 8 v (0 + nA + nB) ([] ++ flatN psA ++ flatN psB), none, none⟩ : RgX.Rl)) (RgX.one_plain (by rfl) (by (intro ax wx hk Kx hK; obtain ⟨v119, k119, h119⟩ := hk.dep 0 6 119 _ rfl rfl rfl; (first | (replace h119 := h119 9 undef rfl rfl; first | (cases (h119 : v119 = _)) | (obtain ⟨rfl, h119⟩ := h119) | skip) | skip); have hB := hk.fact 0 0 _ rfl rfl; (try dsimp only at hB); clear hk; (go_simp; exact hK _ _ (fun h => by cases h) (fun u _ => h119) (Below.refl _ _))))) ?_ rfl (RgX.keep_r (fun _ _ _ _ h hb => own_below h hb) (fun _ _ => ⟨fun _ _ _ h => absurd ⟨1, rfl⟩ h, fun _ _ _ h => absurd ⟨1, rfl⟩ h, trivial⟩)) (fun _ h => by cases h)
            refine RgX.build_end fun wx hj => ?_
            have hB := hj 0 _ rfl rfl
            clear hj
            first | refine RgX.fin_eq rfl ?_ | refine RgX.fin_any rfl fun v113 h113 => ?_
            refine RgX.fin_eq rfl ?_
            first | refine RgX.fin_eq rfl ?_ | refine RgX.fin_any rfl fun v115 h115 => ?_
            first | refine RgX.fin_eq rfl ?_ | refine RgX.fin_any rfl fun v116 h116 => ?_
            refine RgX.fin_eq rfl ?_
            first | refine RgX.fin_eq rfl ?_ | refine RgX.fin_any rfl fun v118 h118 => ?_
            first | refine RgX.fin_eq rfl ?_ | refine RgX.fin_any rfl fun v119 h119 => ?_
            first | refine RgX.fin_eq rfl ?_ | refine RgX.fin_any rfl fun v23 h23 => ?_
            refine RgX.fin_nil ?_
            simp only [List.set_cons_zero, List.set_cons_succ]
            have ho := h23 rfl undef rfl
            have HBX := Lib.hid hB
            have hox : wx.ownsRow X.heap.size 29 8 v23 dn2 (flatN (psA ++ psB)) := by
              rw [flatN_app]
              have e : 0 + nA + nB = dn2 := by omega
              rw [e, List.nil_append] at ho
              exact ho
            have HL3 : Hid (2 ≤ dn2) := Lib.hid (by rw [HLK.out]; exact HL2.out)
            have hpn : psA ++ psB ≠ [] := fun e => by
              have h1 := HL3.out
              have h2 := HPS2.out
              rw [e] at h2
              rw [HLK.out, ← h2] at h1
              simp at h1
            obtain ⟨xb2, xc2, hv23, hxc, -, -, -, hxr⟩ := own_kids hox (fun x hx => KAt.keep (D' := fun _ => True) (fun b hb => HBX.out.block b hb) (fun _ _ => trivial) x.1 x.2 (HKS.out x hx)) hpn
            have hpl : (psA ++ psB).length = dn2 := by
              rw [HLK.out, ← HPS2.out, List.length_map]
            rw [hpl] at hv23 hxc
            subst hv23
            rw [HPS2.out] at hxr
            have HXR : Hid (NAt wx (altT L) (.slice (some ⟨xb2, 0, none⟩) dn2 xc2)) := Lib.hid (by
              have h1 : L ≠ [] := fun e => by
                have h2 := HL3.out
                rw [HLK.out, e] at h2
                simp at h2
              have h2 := HLK.out
              have := kat_row (c := xc2) h1 (by omega) (by omega) hxr
              rw [← h2] at this
              exact this)
            have HHX := Lib.hid (HX.out.below HBX.out); have HKDX := Lib.hid (HKX.out.below HBX.out); have HADX := Lib.hid (HAX.out.below HBX.out)
            clear ho hox hB hxr hpn hpl HX HKX HAX h23 h113 h115 h116 h118 h119 HCA HCB HFA HFB HPS2 HKS hab HBX
            have z0 : wx.cell? ⟨gd, 0, none⟩ = some (.int .i64 3) := HADX.out.cell 0 _ rfl
            have z7 : wx.cell? ⟨gd, 7, none⟩ = some (.slice da2 dn2 dc2) := HADX.out.cell 7 _ rfl
            have e0 := E0.out wx
            go_wp2_with fail
            clear z0 z7 e0
            go_loopw [24] (fun i wr => ∃ j : Nat, j ≤ dn2 ∧ i = .int .i64 j ∧ Below wx.heap.size wx wr) (fun i _ => dn2 - (intOf i).toNat)
            case atStart => exact ⟨0, Nat.zero_le _, rfl, Below.refl _ _⟩
            case round =>
              obtain ⟨j, hj, rfl, hb⟩ := hrel
              have HBr := Lib.hid hb
              clear hb
              by_cases hlt : j < dn2
              · have hltI : (j : Int) < dn2 := by omega
                have hlk : j < L.length := by have := HLK.out; omega
                obtain ⟨p1, o1, c1, he1, hc1, op', f', mn', mx', kids', xa9, xc9, ht, h8, hn1⟩ := kid_at HXR.out (List.getElem?_eq_getElem hlk)
                obtain ⟨p2, o2, c2, he2, hc2, op2, f2, mn2, mx2, kids2, xa8, xc8, ht2, g8, hn2⟩ := kid_at HKDX.out (List.getElem?_eq_getElem hlk)
                injection he1 with i1 i2 i3
                injection i1 with i1
                injection i1 with i4 i5
                subst i4; subst i5; subst i3
                injection he2 with i1 i6 i3
                subst i1; subst i3
                rw [ht] at ht2
                injection ht2 with i1 i2 i3 i4 i5
                subst i1; subst i2; subst i3; subst i4; subst i5
                rw [ht] at hn1 hn2
                have HI := Lib.hid (fun (w1 : World) (hb : Below wx.heap.size wx w1) => same_any _ hn1 w1 _ _ (hn1.below hb) (hn2.below hb))
                unfold nodeV at HI
                dsimp only at HI
                have HPRE : Hid (∀ wy : World, Below wx.heap.size wx wy → Cell8 wy xb2 (0 + j * 8) op' f' mn' mx' (.slice xa9 kids'.length xc9) ∧ Cell8 wy p2 (o2 + j * 8) op' f' mn' mx' (.slice xa8 kids'.length xc8) ∧ wy.cell? ⟨gd, 7, none⟩ = some (.slice (some ⟨p2, o2, none⟩) dn2 dc2)) := Lib.hid (fun wy hb =>
                  ⟨h8.below hb, g8.below hb, (HADX.out.below hb).cell 7 _ rfl⟩)
                obtain ⟨kn, hkn⟩ : ∃ kn, kn = kids'.length := ⟨_, rfl⟩
                rw [← hkn] at HPRE HI
                have hc2' : dn2 ≤ dc2 := by have := HLK.out; omega
                clear hkn ht hn1 hn2 h8 g8 hc1 hc2 i2 i6
                rw [Nat.zero_add] at HPRE
                go_upto_region 22 with (fail)
                refine Rg.wp_region_each (by kernel_rfl) (fun w' => Below wx.heap.size wx w') (fun w1 w2 h hb => h.trans (hb.mono h.size)) (by kernel_rfl) (by kernel_rfl) (HBr.out) ?_
                show Rg.Build _ _ _ _ _ 0 [_, _, _, _, _, _, _, _, _, _, _] []
                refine Rg.build_cons (m := 1) (r := Rg.eq _) (Rg.one_plain (by rfl) (by (intro ax wx hk Kx hK; have k23 := hk.base 23 _ rfl rfl; have hj := hk.j; clear hk; go_simp; refine hK _ _ ?_ (Below.refl _ _); apply Rg.mk))) ?_ rfl
                refine Rg.build_cons (m := 2) (r := Rg.eq _) (Rg.one_plain (by rfl) (by (intro ax wx hk Kx hK; have k24 := hk.base 24 _ rfl rfl; have hj := hk.j; clear hk; go_simp; refine hK _ _ ?_ (Below.refl _ _); apply Rg.mk))) ?_ rfl
                refine Rg.build_cons (m := 3) (r := Rg.eq _) (Rg.one_plain (by rfl) (by (intro ax wx hk Kx hK; obtain ⟨v141, k141, h141⟩ := hk.dep 0 141 _ rfl rfl rfl; (first | (cases (h141 : v141 = _)) | (obtain ⟨rfl, h141⟩ := h141) | skip); obtain ⟨v142, k142, h142⟩ := hk.dep 1 142 _ rfl rfl rfl; (first | (cases (h142 : v142 = _)) | (obtain ⟨rfl, h142⟩ := h142) | skip); have hj := hk.j; clear hk; go_simp; refine hK _ _ ?_ (Below.refl _ _); apply Rg.mk))) ?_ rfl
                refine Rg.build_cons (m := 4) (r := Rg.eq _) (Rg.one_plain (by rfl) (by (intro ax wx hk Kx hK; obtain ⟨v143, k143, h143⟩ := hk.dep 2 143 _ rfl rfl rfl; (first | (cases (h143 : v143 = _)) | (obtain ⟨rfl, h143⟩ := h143) | skip); have hj := hk.j; clear hk; obtain ⟨⟨q0, q1, q2, q3, q4, q5, q6, q7⟩, ⟨g0, g1, g2, g3, g4, g5, g6, g7⟩, r1⟩ := HPRE.out wx hj; go_simp; refine hK _ _ ?_ (Below.refl _ _); apply Rg.mk))) ?_ rfl
                refine Rg.build_cons (m := 5) (r := Rg.eq _) (Rg.one_plain (by rfl) (by (intro ax wx hk Kx hK; have k21 := hk.base 21 _ rfl rfl; have hj := hk.j; clear hk; go_simp; refine hK _ _ ?_ (Below.refl _ _); apply Rg.mk))) ?_ rfl
                refine Rg.build_cons (m := 6) (r := Rg.eq _) (Rg.one_plain (by rfl) (by (intro ax wx hk Kx hK; obtain ⟨v145, k145, h145⟩ := hk.dep 4 145 _ rfl rfl rfl; (first | (cases (h145 : v145 = _)) | (obtain ⟨rfl, h145⟩ := h145) | skip); have hj := hk.j; clear hk; obtain ⟨⟨q0, q1, q2, q3, q4, q5, q6, q7⟩, ⟨g0, g1, g2, g3, g4, g5, g6, g7⟩, r1⟩ := HPRE.out wx hj; go_simp; refine hK _ _ ?_ (Below.refl _ _); apply Rg.mk))) ?_ rfl
                refine Rg.build_cons (m := 7) (r := Rg.eq _) (Rg.one_plain (by rfl) (by (intro ax wx hk Kx hK; have k24 := hk.base 24 _ rfl rfl; have hj := hk.j; clear hk; go_simp; refine hK _ _ ?_ (Below.refl _ _); apply Rg.mk))) ?_ rfl
                refine Rg.build_cons (m := 8) (r := Rg.eq _) (Rg.one_plain (by rfl) (by (intro ax wx hk Kx hK; obtain ⟨v146, k146, h146⟩ := hk.dep 5 146 _ rfl rfl rfl; (first | (cases (h146 : v146 = _)) | (obtain ⟨rfl, h146⟩ := h146) | skip); obtain ⟨v147, k147, h147⟩ := hk.dep 6 147 _ rfl rfl rfl; (first | (cases (h147 : v147 = _)) | (obtain ⟨rfl, h147⟩ := h147) | skip); have hj := hk.j; clear hk; go_simp; refine hK _ _ ?_ (Below.refl _ _); apply Rg.mk))) ?_ rfl
                refine Rg.build_cons (m := 9) (r := Rg.eq _) (Rg.one_plain (by rfl) (by (intro ax wx hk Kx hK; obtain ⟨v148, k148, h148⟩ := hk.dep 7 148 _ rfl rfl rfl; (first | (cases (h148 : v148 = _)) | (obtain ⟨rfl, h148⟩ := h148) | skip); have hj := hk.j; clear hk; obtain ⟨⟨q0, q1, q2, q3, q4, q5, q6, q7⟩, ⟨g0, g1, g2, g3, g4, g5, g6, g7⟩, r1⟩ := HPRE.out wx hj; go_simp; refine hK _ _ ?_ (Below.refl _ _); apply Rg.mk))) ?_ rfl
                refine Rg.build_cons (m := 10) (r := Rg.eq _) (Rg.one_plain (by rfl) (by (intro ax wx hk Kx hK; obtain ⟨v144, k144, h144⟩ := hk.dep 3 144 _ rfl rfl rfl; (first | (cases (h144 : v144 = _)) | (obtain ⟨rfl, h144⟩ := h144) | skip); obtain ⟨v149, k149, h149⟩ := hk.dep 8 149 _ rfl rfl rfl; (first | (cases (h149 : v149 = _)) | (obtain ⟨rfl, h149⟩ := h149) | skip); have hj := hk.j; clear hk; go_simp; refine (HI.out _ hj).mono ?_; rintro e w' ⟨rfl, hb⟩; refine hK _ _ ?_ hb; apply Rg.mk))) ?_ rfl
                refine Rg.build_cons (m := 11) (r := Rg.eq _) (Rg.one_plain (by rfl) (by (intro ax wx hk Kx hK; obtain ⟨v150, k150, h150⟩ := hk.dep 9 150 _ rfl rfl rfl; (first | (cases (h150 : v150 = _)) | (obtain ⟨rfl, h150⟩ := h150) | skip); have hj := hk.j; clear hk; go_simp; refine hK _ _ ?_ (Below.refl _ _); apply Rg.mk))) ?_ rfl
                refine Rg.build_end fun wx hj => ?_
                refine Rg.fin_eq rfl ?_
                refine Rg.fin_eq rfl ?_
                refine Rg.fin_eq rfl ?_
                refine Rg.fin_eq rfl ?_
                refine Rg.fin_eq rfl ?_
                refine Rg.fin_eq rfl ?_
                refine Rg.fin_eq rfl ?_
                refine Rg.fin_eq rfl ?_
                refine Rg.fin_eq rfl ?_
                refine Rg.fin_eq rfl ?_
                refine Rg.fin_eq rfl ?_
                refine Rg.fin_nil ?_
                simp only [List.set_cons_zero, List.set_cons_succ]
                have HJ := Lib.hid hj
                clear hj
                go_wp2_with fail
                exact ⟨⟨j + 1, by omega, by go_num, HJ.out⟩, by simp [intOf]; omega⟩
              · obtain rfl : j = dn2 := by omega
                have HHR : Hid (Two w wr ga gb oa ob fa fb ma mb xa xb la lb (.slice aa an ac) (.slice ba bn bc)) := Lib.hid (HHX.out.below HBr.out)
                clear HHX HKDX HADX HXR HBr
                have e1' := E1.out b wr
                unfold spotV at e1'
                go_wp2_with fail
                go_returns
                exact ⟨rfl, (HHR).out.bel⟩
      | true =>
        obtain rfl : cd = 0 := HCD.out
        have G3 := Lib.hid (F3.out rfl); have G4 := Lib.hid (F4.out rfl); have G5 := Lib.hid (F5.out rfl)
        clear F3 F4 F5
        obtain rfl : er = .nilIface := by have := HT7.out; rwa [if_pos rfl] at this
        have e1 := E0.out w7; have e2 := E3.out w7
        go_wp2_with fail
        refine (bare_any s HLS.out _).mono ?_
        rintro e9 w8 ⟨r1, rfl, hw8, hr1⟩
        subst hw8
        have HR1 := Lib.hid hr1
        clear hr1
        cases r1 with
        | false =>
          cases b2 with
          | false =>
            obtain ⟨b, rfl⟩ : ∃ b, er2 = spotV b := by have := HER2.out; rwa [if_neg (by decide)] at this
            have e0 := E0.out w7; have e1 := E1.out b w7
            unfold spotV at e1 ⊢
            go_wp2_with fail
            go_returns
            exact ⟨rfl, (H7).out.bel⟩
          | true =>
            obtain rfl : er2 = .nilIface := by have := HER2.out; rwa [if_pos rfl] at this
            have HBO : Hid (∀ w, Calls Try.prog 31 #[.string ({ data := #[40] } ++ s ++ { data := #[41, 124, 40] } ++ t ++ { data := #[41] })] w fun e w' => Below w.heap.size w w' ∧ ∃ a n c, e = .returned (.tuple #[nodeV (altT [.node oa fa ma xa la, .node ob fb mb xb lb]) (.slice a n c), .nilIface]) ∧ NAt w' (altT [.node oa fa ma xa la, .node ob fb mb xb lb]) (.slice a n c)) := Lib.hid (fun w => by
              obtain ⟨q, hq⟩ := G3.out rfl
              refine parse_ok ?_ hq w
              have := HLS.out; have := HLT.out
              simp only [ByteArray.size_append]
              have e0 : c40.size = 1 := rfl
              have e : (⟨#[40]⟩ : ByteArray).size = 1 := rfl
              have e' : (⟨#[41]⟩ : ByteArray).size = 1 := rfl
              have e'' : (⟨#[41, 124, 40]⟩ : ByteArray).size = 3 := rfl
              omega)
            have e0 := E0.out w7
            go_wp2_with fail
            refine (HBO.out _).mono ?_
            rintro e9 wA ⟨hbA, yA, yn, yc, rfl, hkA⟩
            obtain ⟨hyn, yk, yo, hyA, hyc, o3, f3, m3, x3, l3, ka3, kc3, o4, f4, m4, x4, l4, ka4, kc4, i3, i4, h83, h84, hn3, hn4⟩ := kids_two hkA
            subst hyn; subst hyA
            injection i3 with j1 j2 j3 j4 j5
            subst j1; subst j2; subst j3; subst j4; subst j5
            injection i4 with j1 j2 j3 j4 j5
            subst j1; subst j2; subst j3; subst j4; subst j5
            have HA := Lib.hid ((H7).out.below hbA)
            have HPA : Hid (∀ wy, Below wA.heap.size wA wy → Cell8 wy yk yo oa fa ma xa (.slice ka3 la.length kc3) ∧ Cell8 wy yk (yo + 8) ob fb mb xb (.slice ka4 lb.length kc4) ∧ NAt wy (.node oa fa ma xa la) (.slice ka3 la.length kc3) ∧ NAt wy (.node ob fb mb xb lb) (.slice ka4 lb.length kc4)) := Lib.hid (fun wy hb => ⟨h83.below hb, h84.below hb, hn3.below hb, hn4.below hb⟩)
            clear hbA hkA h83 h84 hn3 hn4 e0 HBO
            generalize la.length = na3 at HPA
            generalize lb.length = nb3 at HPA
            unfold altT
            rw [nodeV_emp3]
            go_upto_region 28 with (fail)
            obtain ⟨Y, hY⟩ : ∃ V : World, V = wA.alloc (.cells #[.int .i64 3, .int .u64 0, .int .u64 0, .int .u64 0, .int .u64 0, .int .i64 0, .int .i64 0, .slice (some ⟨yk, yo, none⟩) 2 yc] 29) := ⟨_, rfl⟩
            rw [← hY]
            have HY : Hid (Two w Y ga gb oa ob fa fb ma mb xa xb la lb (.slice aa an ac) (.slice ba bn bc)) := Lib.hid (by rw [hY]; exact HA.out.alloc _)
            have HYB : Hid (Below wA.heap.size wA Y) := Lib.hid (by rw [hY]; go_grown)
            have HPY : Hid (∀ wy, Below Y.heap.size Y wy → Cell8 wy yk yo oa fa ma xa (.slice ka3 na3 kc3) ∧ Cell8 wy yk (yo + 8) ob fb mb xb (.slice ka4 nb3 kc4) ∧ NAt wy (.node oa fa ma xa la) (.slice ka3 na3 kc3) ∧ NAt wy (.node ob fb mb xb lb) (.slice ka4 nb3 kc4)) := Lib.hid (fun wy hb => HPA.out wy (HYB.out.trans (hb.mono HYB.out.size)))
            have HYA : Hid (AtG Y wA.heap.size 29 #[.int .i64 3, .int .u64 0, .int .u64 0, .int .u64 0, .int .u64 0, .int .i64 0, .int .i64 0, .slice (some ⟨yk, yo, none⟩) 2 yc]) := Lib.hid (by rw [hY]; exact AtG.new _ _ _)
            clear hY HA HPA HYB
            generalize wA.heap.size = gy at *
            have z0 : Y.cell? ⟨gy, 0, none⟩ = some (.int .i64 3) := HYA.out.cell 0 _ rfl
            have z7 : Y.cell? ⟨gy, 7, none⟩ = some (.slice (some ⟨yk, yo, none⟩) 2 yc) := HYA.out.cell 7 _ rfl
            have e0 := E0.out Y
            go_upto_region 30 with (fail)
            clear z0 z7 e0
            have HSA := Lib.hid (fun w kv kv' h1 h2 => HSM.out w kv kv' h1 h2)
            have HSB := Lib.hid (fun w kv kv' h1 h2 => HSMB.out w kv kv' h1 h2)
            unfold nodeV at HSA HSB
            dsimp only at HSA HSB
            refine Rg.wp_region_each (by kernel_rfl) (fun w' => Below Y.heap.size Y w') (fun w1 w2 h hb => h.trans (hb.mono h.size)) (by kernel_rfl) (by kernel_rfl) (Below.refl _ _) ?_
            show Rg.Build _ _ _ _ _ 0 [_, _, _, _, _, _, _] []
            refine Rg.build_cons (m := 1) (r := Rg.eq _) (Rg.one_plain (by rfl) (by (intro ax wx hk Kx hK; have k26 := hk.base 26 _ rfl rfl; have hj := hk.j; clear hk; go_simp; refine hK _ _ ?_ (Below.refl _ _); apply Rg.mk))) ?_ rfl
            refine Rg.build_cons (m := 2) (r := Rg.eq _) (Rg.one_plain (by rfl) (by (intro ax wx hk Kx hK; obtain ⟨v183, k183, h183⟩ := hk.dep 0 183 _ rfl rfl rfl; (first | (cases (h183 : v183 = _)) | (obtain ⟨rfl, h183⟩ := h183) | skip); have hj := hk.j; clear hk; obtain ⟨⟨q0, q1, q2, q3, q4, q5, q6, q7⟩, -, -, -⟩ := HPY.out wx hj; have z7 := (HYA.out.below hj).cell 7 _ rfl; have hq := HY.out.ata.below hj; have c0 := hq.cell 0 _ rfl; have c1 := hq.cell 1 _ rfl; have c2 := hq.cell 2 _ rfl; have c3 := hq.cell 3 _ rfl; have c4 := hq.cell 4 _ rfl; have c5 := hq.cell 5 _ rfl; have c6 := hq.cell 6 _ rfl; have c7 := hq.cell 7 _ rfl; clear hq; go_simp; refine hK _ _ ?_ (Below.refl _ _); apply Rg.mk))) ?_ rfl
            refine Rg.build_cons (m := 3) (r := Rg.eq _) (Rg.one_plain (by rfl) (by (intro ax wx hk Kx hK; obtain ⟨v184, k184, h184⟩ := hk.dep 1 184 _ rfl rfl rfl; (first | (cases (h184 : v184 = _)) | (obtain ⟨rfl, h184⟩ := h184) | skip); have hj := hk.j; clear hk; go_simp; refine hK _ _ ?_ (Below.refl _ _); apply Rg.mk))) ?_ rfl
            refine Rg.build_cons (m := 4) (r := Rg.eq _) (Rg.one_plain (by rfl) (by (intro ax wx hk Kx hK; obtain ⟨v185, k185, h185⟩ := hk.dep 2 185 _ rfl rfl rfl; (first | (cases (h185 : v185 = _)) | (obtain ⟨rfl, h185⟩ := h185) | skip); have hj := hk.j; clear hk; obtain ⟨⟨q0, q1, q2, q3, q4, q5, q6, q7⟩, -, -, -⟩ := HPY.out wx hj; have z7 := (HYA.out.below hj).cell 7 _ rfl; have hq := HY.out.ata.below hj; have c0 := hq.cell 0 _ rfl; have c1 := hq.cell 1 _ rfl; have c2 := hq.cell 2 _ rfl; have c3 := hq.cell 3 _ rfl; have c4 := hq.cell 4 _ rfl; have c5 := hq.cell 5 _ rfl; have c6 := hq.cell 6 _ rfl; have c7 := hq.cell 7 _ rfl; clear hq; go_simp; refine hK _ _ ?_ (Below.refl _ _); apply Rg.mk))) ?_ rfl
            refine Rg.build_cons (m := 5) (r := Rg.eq _) (Rg.one_plain (by rfl) (by (intro ax wx hk Kx hK; have k10 := hk.base 10 _ rfl rfl; have hj := hk.j; clear hk; obtain ⟨⟨q0, q1, q2, q3, q4, q5, q6, q7⟩, -, -, -⟩ := HPY.out wx hj; have z7 := (HYA.out.below hj).cell 7 _ rfl; have hq := HY.out.ata.below hj; have c0 := hq.cell 0 _ rfl; have c1 := hq.cell 1 _ rfl; have c2 := hq.cell 2 _ rfl; have c3 := hq.cell 3 _ rfl; have c4 := hq.cell 4 _ rfl; have c5 := hq.cell 5 _ rfl; have c6 := hq.cell 6 _ rfl; have c7 := hq.cell 7 _ rfl; clear hq; go_simp; refine hK _ _ ?_ (Below.refl _ _); apply Rg.mk))) ?_ rfl
            refine Rg.build_cons (m := 6) (r := Rg.eq _) (Rg.one_plain (by rfl) (by (intro ax wx hk Kx hK; obtain ⟨v186, k186, h186⟩ := hk.dep 3 186 _ rfl rfl rfl; (first | (cases (h186 : v186 = _)) | (obtain ⟨rfl, h186⟩ := h186) | skip); obtain ⟨v187, k187, h187⟩ := hk.dep 4 187 _ rfl rfl rfl; (first | (cases (h187 : v187 = _)) | (obtain ⟨rfl, h187⟩ := h187) | skip); have hj := hk.j; clear hk; go_simp; refine (HSA.out _ _ _ (HPY.out _ hj).2.2.1 (HY.out.na.below hj)).mono ?_; rintro e w' ⟨rfl, hb⟩; refine hK _ _ ?_ hb; apply Rg.mk))) ?_ rfl
            refine Rg.build_cons (m := 7) (r := Rg.eq _) (Rg.one_plain (by rfl) (by (intro ax wx hk Kx hK; obtain ⟨v188, k188, h188⟩ := hk.dep 5 188 _ rfl rfl rfl; (first | (cases (h188 : v188 = _)) | (obtain ⟨rfl, h188⟩ := h188) | skip); have hj := hk.j; clear hk; go_simp; refine hK _ _ ?_ (Below.refl _ _); apply Rg.mk))) ?_ rfl
            refine Rg.build_end fun wx hj => ?_
            refine Rg.fin_eq rfl ?_
            refine Rg.fin_eq rfl ?_
            refine Rg.fin_eq rfl ?_
            refine Rg.fin_eq rfl ?_
            refine Rg.fin_eq rfl ?_
            refine Rg.fin_eq rfl ?_
            refine Rg.fin_eq rfl ?_
            refine Rg.fin_nil ?_
            simp only [List.set_cons_zero, List.set_cons_succ]
            have HJ1 := Lib.hid hj
            clear hj
            go_upto_region 31 with (fail)
            refine Rg.wp_region_each (by kernel_rfl) (fun w' => Below Y.heap.size Y w') (fun w1 w2 h hb => h.trans (hb.mono h.size)) (by kernel_rfl) (by kernel_rfl) (HJ1.out) ?_
            show Rg.Build _ _ _ _ _ 0 [_, _, _, _, _, _, _] []
            refine Rg.build_cons (m := 1) (r := Rg.eq _) (Rg.one_plain (by rfl) (by (intro ax wx hk Kx hK; have k26 := hk.base 26 _ rfl rfl; have hj := hk.j; clear hk; go_simp; refine hK _ _ ?_ (Below.refl _ _); apply Rg.mk))) ?_ rfl
            refine Rg.build_cons (m := 2) (r := Rg.eq _) (Rg.one_plain (by rfl) (by (intro ax wx hk Kx hK; obtain ⟨v189, k189, h189⟩ := hk.dep 0 189 _ rfl rfl rfl; (first | (cases (h189 : v189 = _)) | (obtain ⟨rfl, h189⟩ := h189) | skip); have hj := hk.j; clear hk; obtain ⟨-, ⟨q0, q1, q2, q3, q4, q5, q6, q7⟩, -, -⟩ := HPY.out wx hj; have z7 := (HYA.out.below hj).cell 7 _ rfl; have hq := HY.out.atb.below hj; have c0 := hq.cell 0 _ rfl; have c1 := hq.cell 1 _ rfl; have c2 := hq.cell 2 _ rfl; have c3 := hq.cell 3 _ rfl; have c4 := hq.cell 4 _ rfl; have c5 := hq.cell 5 _ rfl; have c6 := hq.cell 6 _ rfl; have c7 := hq.cell 7 _ rfl; clear hq; go_simp; refine hK _ _ ?_ (Below.refl _ _); apply Rg.mk))) ?_ rfl
            refine Rg.build_cons (m := 3) (r := Rg.eq _) (Rg.one_plain (by rfl) (by (intro ax wx hk Kx hK; obtain ⟨v190, k190, h190⟩ := hk.dep 1 190 _ rfl rfl rfl; (first | (cases (h190 : v190 = _)) | (obtain ⟨rfl, h190⟩ := h190) | skip); have hj := hk.j; clear hk; go_simp; refine hK _ _ ?_ (Below.refl _ _); apply Rg.mk))) ?_ rfl
            refine Rg.build_cons (m := 4) (r := Rg.eq _) (Rg.one_plain (by rfl) (by (intro ax wx hk Kx hK; obtain ⟨v191, k191, h191⟩ := hk.dep 2 191 _ rfl rfl rfl; (first | (cases (h191 : v191 = _)) | (obtain ⟨rfl, h191⟩ := h191) | skip); have hj := hk.j; clear hk; obtain ⟨-, ⟨q0, q1, q2, q3, q4, q5, q6, q7⟩, -, -⟩ := HPY.out wx hj; have z7 := (HYA.out.below hj).cell 7 _ rfl; have hq := HY.out.atb.below hj; have c0 := hq.cell 0 _ rfl; have c1 := hq.cell 1 _ rfl; have c2 := hq.cell 2 _ rfl; have c3 := hq.cell 3 _ rfl; have c4 := hq.cell 4 _ rfl; have c5 := hq.cell 5 _ rfl; have c6 := hq.cell 6 _ rfl; have c7 := hq.cell 7 _ rfl; clear hq; go_simp; refine hK _ _ ?_ (Below.refl _ _); apply Rg.mk))) ?_ rfl
            refine Rg.build_cons (m := 5) (r := Rg.eq _) (Rg.one_plain (by rfl) (by (intro ax wx hk Kx hK; have k12 := hk.base 12 _ rfl rfl; have hj := hk.j; clear hk; obtain ⟨-, ⟨q0, q1, q2, q3, q4, q5, q6, q7⟩, -, -⟩ := HPY.out wx hj; have z7 := (HYA.out.below hj).cell 7 _ rfl; have hq := HY.out.atb.below hj; have c0 := hq.cell 0 _ rfl; have c1 := hq.cell 1 _ rfl; have c2 := hq.cell 2 _ rfl; have c3 := hq.cell 3 _ rfl; have c4 := hq.cell 4 _ rfl; have c5 := hq.cell 5 _ rfl; have c6 := hq.cell 6 _ rfl; have c7 := hq.cell 7 _ rfl; clear hq; go_simp; refine hK _ _ ?_ (Below.refl _ _); apply Rg.mk))) ?_ rfl
            refine Rg.build_cons (m := 6) (r := Rg.eq _) (Rg.one_plain (by rfl) (by (intro ax wx hk Kx hK; obtain ⟨v192, k192, h192⟩ := hk.dep 3 192 _ rfl rfl rfl; (first | (cases (h192 : v192 = _)) | (obtain ⟨rfl, h192⟩ := h192) | skip); obtain ⟨v193, k193, h193⟩ := hk.dep 4 193 _ rfl rfl rfl; (first | (cases (h193 : v193 = _)) | (obtain ⟨rfl, h193⟩ := h193) | skip); have hj := hk.j; clear hk; go_simp; refine (HSB.out _ _ _ (HPY.out _ hj).2.2.2 (HY.out.nb.below hj)).mono ?_; rintro e w' ⟨rfl, hb⟩; refine hK _ _ ?_ hb; apply Rg.mk))) ?_ rfl
            refine Rg.build_cons (m := 7) (r := Rg.eq _) (Rg.one_plain (by rfl) (by (intro ax wx hk Kx hK; obtain ⟨v194, k194, h194⟩ := hk.dep 5 194 _ rfl rfl rfl; (first | (cases (h194 : v194 = _)) | (obtain ⟨rfl, h194⟩ := h194) | skip); have hj := hk.j; clear hk; go_simp; refine hK _ _ ?_ (Below.refl _ _); apply Rg.mk))) ?_ rfl
            refine Rg.build_end fun wx hj => ?_
            refine Rg.fin_eq rfl ?_
            refine Rg.fin_eq rfl ?_
            refine Rg.fin_eq rfl ?_
            refine Rg.fin_eq rfl ?_
            refine Rg.fin_eq rfl ?_
            refine Rg.fin_eq rfl ?_
            refine Rg.fin_eq rfl ?_
            refine Rg.fin_nil ?_
            simp only [List.set_cons_zero, List.set_cons_succ]
            have HZ := Lib.hid (HY.out.below hj)
            clear hj HPY HYA HJ1 HY HSB
            go_upto_region 34 with (fail)
            by_cases hm0 : m < 0
            · go_wp2_with fail
              go_returns
              exact ⟨rfl, HZ.out.bel⟩
            by_cases hmn : n < m
            · go_wp2_with fail
              go_returns
              exact ⟨rfl, HZ.out.bel⟩
            by_cases hn1 : n < 1
            · go_wp2_with fail
              go_returns
              exact ⟨rfl, HZ.out.bel⟩
            by_cases hn32 : 32 < n
            · go_wp2_with fail
              go_returns
              exact ⟨rfl, HZ.out.bel⟩
            obtain ⟨m', rfl⟩ := Int.eq_ofNat_of_zero_le (Int.not_lt.1 hm0)
            obtain ⟨n', rfl⟩ := Int.eq_ofNat_of_zero_le (a := n) (by omega)
            have hm33 : m' < 33 := by omega
            have hn33 : n' < 33 := by omega
            have HRE : Hid (∀ w, Calls Try.prog 31 #[.string ({ data := #[40] } ++ s ++ { data := #[41, 123] } ++ dgS m' ++ { data := #[44] } ++ dgS n' ++ { data := #[125] })] w fun e w' => Below w.heap.size w w' ∧ ∃ a n c, e = .returned (.tuple #[nodeV (repT (m' : Int) (n' : Int) (.node oa fa ma xa la)) (.slice a n c), .nilIface]) ∧ NAt w' (repT (m' : Int) (n' : Int) (.node oa fa ma xa la)) (.slice a n c)) := Lib.hid (fun w => by
              obtain ⟨q, hq⟩ := G4.out m' n' (by omega) (by omega) (by omega)
              refine parse_ok ?_ hq w
              have := HLS.out
              have z1 := dg_size hm33
              have z2 := dg_size hn33
              simp only [ByteArray.size_append]
              have e0 : c40.size = 1 := rfl
              have e : (⟨#[44]⟩ : ByteArray).size = 1 := rfl
              have e' : (⟨#[125]⟩ : ByteArray).size = 1 := rfl
              have e'' : (⟨#[41, 123]⟩ : ByteArray).size = 2 := rfl
              omega)
            have HOP : Hid (∀ w, Calls Try.prog 31 #[.string ({ data := #[40] } ++ s ++ { data := #[41, 63] })] w fun e w' => Below w.heap.size w w' ∧ ∃ a n c, e = .returned (.tuple #[nodeV (repT 0 1 (.node oa fa ma xa la)) (.slice a n c), .nilIface]) ∧ NAt w' (repT 0 1 (.node oa fa ma xa la)) (.slice a n c)) := Lib.hid (fun w => by
              obtain ⟨q, hq⟩ := G5.out
              refine parse_ok ?_ hq w
              have := HLS.out
              simp only [ByteArray.size_append]
              have e0 : c40.size = 1 := rfl
              have e'' : (⟨#[41, 63]⟩ : ByteArray).size = 2 := rfl
              omega)
            clear G3 G4 G5
            have zm := (dg_size hm33).2
            have zn := (dg_size hn33).2
            go_wp2_with fail
            refine (dgs_any m' hm33 _).mono ?_
            rintro e9 wB ⟨rfl, hbB⟩
            have HZB := Lib.hid (HZ.out.below hbB)
            clear hbB HZ
            go_wp2_with fail
            refine (dgs_any n' hn33 _).mono ?_
            rintro e9 wC ⟨rfl, hbC⟩
            have HZC := Lib.hid (HZB.out.below hbC)
            clear hbC HZB
            go_wp2_with fail
            refine (HRE.out _).mono ?_
            rintro e9 wD ⟨hbD, rA, rn, rc, rfl, hkD⟩
            obtain ⟨hrn, rk, ro, hrA, hrc, o5, f5, m5, x5, l5, ka5, kc5, i5, h85, hn5⟩ := kids_one hkD
            subst hrn; subst hrA
            injection i5 with j1 j2 j3 j4 j5
            subst j1; subst j2; subst j3; subst j4; subst j5
            have HZD := Lib.hid (HZC.out.below hbD)
            have HPD : Hid (∀ wy, Below wD.heap.size wD wy → Cell8 wy rk ro oa fa ma xa (.slice ka5 la.length kc5) ∧ NAt wy (.node oa fa ma xa la) (.slice ka5 la.length kc5)) := Lib.hid (fun wy hb => ⟨h85.below hb, hn5.below hb⟩)
            clear hbD hkD h85 hn5 HRE HZC
            generalize la.length = na5 at HPD
            unfold repT
            rw [nodeV_emp3]
            go_upto_region 37 with (fail)
            obtain ⟨U, hU⟩ : ∃ V : World, V = wD.alloc (.cells #[.int .i64 4, .int .u64 0, .int .u64 0, .int .u64 0, .int .u64 0, .int .i64 (m' : Int), .int .i64 (n' : Int), .slice (some ⟨rk, ro, none⟩) 1 rc] 29) := ⟨_, rfl⟩
            rw [← hU]
            have HU : Hid (Two w U ga gb oa ob fa fb ma mb xa xb la lb (.slice aa an ac) (.slice ba bn bc)) := Lib.hid (by rw [hU]; exact HZD.out.alloc _)
            have HPU : Hid (∀ wy, Below U.heap.size U wy → Cell8 wy rk ro oa fa ma xa (.slice ka5 na5 kc5) ∧ NAt wy (.node oa fa ma xa la) (.slice ka5 na5 kc5)) := Lib.hid (fun wy hb => HPD.out wy (by
              have h1 : Below wD.heap.size wD U := by rw [hU]; go_grown
              exact h1.trans (hb.mono h1.size)))
            have HAU : Hid (AtG U wD.heap.size 29 #[.int .i64 4, .int .u64 0, .int .u64 0, .int .u64 0, .int .u64 0, .int .i64 (m' : Int), .int .i64 (n' : Int), .slice (some ⟨rk, ro, none⟩) 1 rc]) := Lib.hid (by rw [hU]; exact AtG.new _ _ _)
            clear hU HZD HPD
            generalize wD.heap.size = gr at *
            go_wp2_with fail
            refine (HOP.out _).mono ?_
            rintro e9 wE ⟨hbE, qA, qn, qc, rfl, hkE⟩
            obtain ⟨hqn, qk, qo, hqA, hqc, o6, f6, m6, x6', l6, ka6, kc6, i6, h86, hn6⟩ := kids_one hkE
            subst hqn; subst hqA
            injection i6 with j1 j2 j3 j4 j5
            subst j1; subst j2; subst j3; subst j4; subst j5
            have HZE := Lib.hid (HU.out.below hbE)
            have HPE : Hid (∀ wy, Below wE.heap.size wE wy → (Cell8 wy qk qo oa fa ma xa (.slice ka6 la.length kc6) ∧ NAt wy (.node oa fa ma xa la) (.slice ka6 la.length kc6)) ∧ (Cell8 wy rk ro oa fa ma xa (.slice ka5 na5 kc5) ∧ NAt wy (.node oa fa ma xa la) (.slice ka5 na5 kc5)) ∧ AtG wy gr 29 #[.int .i64 4, .int .u64 0, .int .u64 0, .int .u64 0, .int .u64 0, .int .i64 (m' : Int), .int .i64 (n' : Int), .slice (some ⟨rk, ro, none⟩) 1 rc]) := Lib.hid (fun wy hb => ⟨⟨h86.below hb, hn6.below hb⟩, HPU.out wy (hbE.trans (hb.mono hbE.size)), (HAU.out.below hbE).below hb⟩)
            clear hbE hkE h86 hn6 HOP HU HPU HAU
            generalize la.length = na6 at HPE
            unfold repT
            rw [nodeV_emp3]
            go_upto_region 38 with (fail)
            obtain ⟨F, hF⟩ : ∃ V : World, V = wE.alloc (.cells #[.int .i64 4, .int .u64 0, .int .u64 0, .int .u64 0, .int .u64 0, .int .i64 0, .int .i64 1, .slice (some ⟨qk, qo, none⟩) 1 qc] 29) := ⟨_, rfl⟩
            rw [← hF]
            have HF : Hid (Two w F ga gb oa ob fa fb ma mb xa xb la lb (.slice aa an ac) (.slice ba bn bc)) := Lib.hid (by rw [hF]; exact HZE.out.alloc _)
            have HAF : Hid (AtG F wE.heap.size 29 #[.int .i64 4, .int .u64 0, .int .u64 0, .int .u64 0, .int .u64 0, .int .i64 0, .int .i64 1, .slice (some ⟨qk, qo, none⟩) 1 qc]) := Lib.hid (by rw [hF]; exact AtG.new _ _ _)
            have HPF : Hid (∀ wy, Below F.heap.size F wy → (Cell8 wy qk qo oa fa ma xa (.slice ka6 na6 kc6) ∧ NAt wy (.node oa fa ma xa la) (.slice ka6 na6 kc6)) ∧ (Cell8 wy rk ro oa fa ma xa (.slice ka5 na5 kc5) ∧ NAt wy (.node oa fa ma xa la) (.slice ka5 na5 kc5)) ∧ AtG wy gr 29 #[.int .i64 4, .int .u64 0, .int .u64 0, .int .u64 0, .int .u64 0, .int .i64 (m' : Int), .int .i64 (n' : Int), .slice (some ⟨rk, ro, none⟩) 1 rc]) := Lib.hid (fun wy hb => HPE.out wy (by
              have h1 : Below wE.heap.size wE F := by rw [hF]; go_grown
              exact h1.trans (hb.mono h1.size)))
            clear hF HZE HPE
            generalize wE.heap.size = gq at *
            have e0 := E0.out F
            have z0 : F.cell? ⟨gr, 0, none⟩ = some (.int .i64 4) := (HPF.out F (Below.refl _ _)).2.2.cell 0 _ rfl
            have z7 : F.cell? ⟨gr, 7, none⟩ = some (.slice (some ⟨rk, ro, none⟩) 1 rc) := (HPF.out F (Below.refl _ _)).2.2.cell 7 _ rfl
            have y0 : F.cell? ⟨gq, 0, none⟩ = some (.int .i64 4) := HAF.out.cell 0 _ rfl
            have y7 : F.cell? ⟨gq, 7, none⟩ = some (.slice (some ⟨qk, qo, none⟩) 1 qc) := HAF.out.cell 7 _ rfl
            go_upto_region 40 with (fail)
            clear z0 z7 y0 y7 e0
            refine Rg.wp_region_each (by kernel_rfl) (fun w' => Below F.heap.size F w') (fun w1 w2 h hb => h.trans (hb.mono h.size)) (by kernel_rfl) (by kernel_rfl) (Below.refl _ _) ?_
            show Rg.Build _ _ _ _ _ 0 [_, _, _, _, _, _, _] []
            refine Rg.build_cons (m := 1) (r := Rg.eq _) (Rg.one_plain (by rfl) (by (intro ax wx hk Kx hK; have k30 := hk.base 30 _ rfl rfl; have hj := hk.j; clear hk; go_simp; refine hK _ _ ?_ (Below.refl _ _); apply Rg.mk))) ?_ rfl
            refine Rg.build_cons (m := 2) (r := Rg.eq _) (Rg.one_plain (by rfl) (by (intro ax wx hk Kx hK; obtain ⟨v267, k267, h267⟩ := hk.dep 0 267 _ rfl rfl rfl; (first | (cases (h267 : v267 = _)) | (obtain ⟨rfl, h267⟩ := h267) | skip); have hj := hk.j; clear hk; obtain ⟨-, ⟨⟨q0, q1, q2, q3, q4, q5, q6, q7⟩, -⟩, hr⟩ := HPF.out wx hj; have z7 := hr.cell 7 _ rfl; have hq := HF.out.ata.below hj; have c0 := hq.cell 0 _ rfl; have c1 := hq.cell 1 _ rfl; have c2 := hq.cell 2 _ rfl; have c3 := hq.cell 3 _ rfl; have c4 := hq.cell 4 _ rfl; have c5 := hq.cell 5 _ rfl; have c6 := hq.cell 6 _ rfl; have c7 := hq.cell 7 _ rfl; clear hq hr; go_simp; refine hK _ _ ?_ (Below.refl _ _); apply Rg.mk))) ?_ rfl
            refine Rg.build_cons (m := 3) (r := Rg.eq _) (Rg.one_plain (by rfl) (by (intro ax wx hk Kx hK; obtain ⟨v268, k268, h268⟩ := hk.dep 1 268 _ rfl rfl rfl; (first | (cases (h268 : v268 = _)) | (obtain ⟨rfl, h268⟩ := h268) | skip); have hj := hk.j; clear hk; go_simp; refine hK _ _ ?_ (Below.refl _ _); apply Rg.mk))) ?_ rfl
            refine Rg.build_cons (m := 4) (r := Rg.eq _) (Rg.one_plain (by rfl) (by (intro ax wx hk Kx hK; obtain ⟨v269, k269, h269⟩ := hk.dep 2 269 _ rfl rfl rfl; (first | (cases (h269 : v269 = _)) | (obtain ⟨rfl, h269⟩ := h269) | skip); have hj := hk.j; clear hk; obtain ⟨-, ⟨⟨q0, q1, q2, q3, q4, q5, q6, q7⟩, -⟩, hr⟩ := HPF.out wx hj; have z7 := hr.cell 7 _ rfl; have hq := HF.out.ata.below hj; have c0 := hq.cell 0 _ rfl; have c1 := hq.cell 1 _ rfl; have c2 := hq.cell 2 _ rfl; have c3 := hq.cell 3 _ rfl; have c4 := hq.cell 4 _ rfl; have c5 := hq.cell 5 _ rfl; have c6 := hq.cell 6 _ rfl; have c7 := hq.cell 7 _ rfl; clear hq hr; go_simp; refine hK _ _ ?_ (Below.refl _ _); apply Rg.mk))) ?_ rfl
            refine Rg.build_cons (m := 5) (r := Rg.eq _) (Rg.one_plain (by rfl) (by (intro ax wx hk Kx hK; have k10 := hk.base 10 _ rfl rfl; have hj := hk.j; clear hk; obtain ⟨-, ⟨⟨q0, q1, q2, q3, q4, q5, q6, q7⟩, -⟩, hr⟩ := HPF.out wx hj; have z7 := hr.cell 7 _ rfl; have hq := HF.out.ata.below hj; have c0 := hq.cell 0 _ rfl; have c1 := hq.cell 1 _ rfl; have c2 := hq.cell 2 _ rfl; have c3 := hq.cell 3 _ rfl; have c4 := hq.cell 4 _ rfl; have c5 := hq.cell 5 _ rfl; have c6 := hq.cell 6 _ rfl; have c7 := hq.cell 7 _ rfl; clear hq hr; go_simp; refine hK _ _ ?_ (Below.refl _ _); apply Rg.mk))) ?_ rfl
            refine Rg.build_cons (m := 6) (r := Rg.eq _) (Rg.one_plain (by rfl) (by (intro ax wx hk Kx hK; obtain ⟨v270, k270, h270⟩ := hk.dep 3 270 _ rfl rfl rfl; (first | (cases (h270 : v270 = _)) | (obtain ⟨rfl, h270⟩ := h270) | skip); obtain ⟨v271, k271, h271⟩ := hk.dep 4 271 _ rfl rfl rfl; (first | (cases (h271 : v271 = _)) | (obtain ⟨rfl, h271⟩ := h271) | skip); have hj := hk.j; clear hk; go_simp; refine (HSA.out _ _ _ (HPF.out _ hj).2.1.2 (HF.out.na.below hj)).mono ?_; rintro e w' ⟨rfl, hb⟩; refine hK _ _ ?_ hb; apply Rg.mk))) ?_ rfl
            refine Rg.build_cons (m := 7) (r := Rg.eq _) (Rg.one_plain (by rfl) (by (intro ax wx hk Kx hK; obtain ⟨v272, k272, h272⟩ := hk.dep 5 272 _ rfl rfl rfl; (first | (cases (h272 : v272 = _)) | (obtain ⟨rfl, h272⟩ := h272) | skip); have hj := hk.j; clear hk; go_simp; refine hK _ _ ?_ (Below.refl _ _); apply Rg.mk))) ?_ rfl
            refine Rg.build_end fun wx hj => ?_
            refine Rg.fin_eq rfl ?_
            refine Rg.fin_eq rfl ?_
            refine Rg.fin_eq rfl ?_
            refine Rg.fin_eq rfl ?_
            refine Rg.fin_eq rfl ?_
            refine Rg.fin_eq rfl ?_
            refine Rg.fin_eq rfl ?_
            refine Rg.fin_nil ?_
            simp only [List.set_cons_zero, List.set_cons_succ]
            have HJ1 := Lib.hid hj
            clear hj
            go_upto_region 41 with (fail)
            refine Rg.wp_region_each (by kernel_rfl) (fun w' => Below F.heap.size F w') (fun w1 w2 h hb => h.trans (hb.mono h.size)) (by kernel_rfl) (by kernel_rfl) (HJ1.out) ?_
            show Rg.Build _ _ _ _ _ 0 [_, _, _, _, _, _, _] []
            refine Rg.build_cons (m := 1) (r := Rg.eq _) (Rg.one_plain (by rfl) (by (intro ax wx hk Kx hK; have k32 := hk.base 32 _ rfl rfl; have hj := hk.j; clear hk; go_simp; refine hK _ _ ?_ (Below.refl _ _); apply Rg.mk))) ?_ rfl
            refine Rg.build_cons (m := 2) (r := Rg.eq _) (Rg.one_plain (by rfl) (by (intro ax wx hk Kx hK; obtain ⟨v273, k273, h273⟩ := hk.dep 0 273 _ rfl rfl rfl; (first | (cases (h273 : v273 = _)) | (obtain ⟨rfl, h273⟩ := h273) | skip); have hj := hk.j; clear hk; obtain ⟨⟨⟨q0, q1, q2, q3, q4, q5, q6, q7⟩, -⟩, -, -⟩ := HPF.out wx hj; have z7 := (HAF.out.below hj).cell 7 _ rfl; have hq := HF.out.ata.below hj; have c0 := hq.cell 0 _ rfl; have c1 := hq.cell 1 _ rfl; have c2 := hq.cell 2 _ rfl; have c3 := hq.cell 3 _ rfl; have c4 := hq.cell 4 _ rfl; have c5 := hq.cell 5 _ rfl; have c6 := hq.cell 6 _ rfl; have c7 := hq.cell 7 _ rfl; clear hq; go_simp; refine hK _ _ ?_ (Below.refl _ _); apply Rg.mk))) ?_ rfl
            refine Rg.build_cons (m := 3) (r := Rg.eq _) (Rg.one_plain (by rfl) (by (intro ax wx hk Kx hK; obtain ⟨v274, k274, h274⟩ := hk.dep 1 274 _ rfl rfl rfl; (first | (cases (h274 : v274 = _)) | (obtain ⟨rfl, h274⟩ := h274) | skip); have hj := hk.j; clear hk; go_simp; refine hK _ _ ?_ (Below.refl _ _); apply Rg.mk))) ?_ rfl
            refine Rg.build_cons (m := 4) (r := Rg.eq _) (Rg.one_plain (by rfl) (by (intro ax wx hk Kx hK; obtain ⟨v275, k275, h275⟩ := hk.dep 2 275 _ rfl rfl rfl; (first | (cases (h275 : v275 = _)) | (obtain ⟨rfl, h275⟩ := h275) | skip); have hj := hk.j; clear hk; obtain ⟨⟨⟨q0, q1, q2, q3, q4, q5, q6, q7⟩, -⟩, -, -⟩ := HPF.out wx hj; have z7 := (HAF.out.below hj).cell 7 _ rfl; have hq := HF.out.ata.below hj; have c0 := hq.cell 0 _ rfl; have c1 := hq.cell 1 _ rfl; have c2 := hq.cell 2 _ rfl; have c3 := hq.cell 3 _ rfl; have c4 := hq.cell 4 _ rfl; have c5 := hq.cell 5 _ rfl; have c6 := hq.cell 6 _ rfl; have c7 := hq.cell 7 _ rfl; clear hq; go_simp; refine hK _ _ ?_ (Below.refl _ _); apply Rg.mk))) ?_ rfl
            refine Rg.build_cons (m := 5) (r := Rg.eq _) (Rg.one_plain (by rfl) (by (intro ax wx hk Kx hK; have k10 := hk.base 10 _ rfl rfl; have hj := hk.j; clear hk; obtain ⟨⟨⟨q0, q1, q2, q3, q4, q5, q6, q7⟩, -⟩, -, -⟩ := HPF.out wx hj; have z7 := (HAF.out.below hj).cell 7 _ rfl; have hq := HF.out.ata.below hj; have c0 := hq.cell 0 _ rfl; have c1 := hq.cell 1 _ rfl; have c2 := hq.cell 2 _ rfl; have c3 := hq.cell 3 _ rfl; have c4 := hq.cell 4 _ rfl; have c5 := hq.cell 5 _ rfl; have c6 := hq.cell 6 _ rfl; have c7 := hq.cell 7 _ rfl; clear hq; go_simp; refine hK _ _ ?_ (Below.refl _ _); apply Rg.mk))) ?_ rfl
            refine Rg.build_cons (m := 6) (r := Rg.eq _) (Rg.one_plain (by rfl) (by (intro ax wx hk Kx hK; obtain ⟨v276, k276, h276⟩ := hk.dep 3 276 _ rfl rfl rfl; (first | (cases (h276 : v276 = _)) | (obtain ⟨rfl, h276⟩ := h276) | skip); obtain ⟨v277, k277, h277⟩ := hk.dep 4 277 _ rfl rfl rfl; (first | (cases (h277 : v277 = _)) | (obtain ⟨rfl, h277⟩ := h277) | skip); have hj := hk.j; clear hk; go_simp; refine (HSA.out _ _ _ (HPF.out _ hj).1.2 (HF.out.na.below hj)).mono ?_; rintro e w' ⟨rfl, hb⟩; refine hK _ _ ?_ hb; apply Rg.mk))) ?_ rfl
            refine Rg.build_cons (m := 7) (r := Rg.eq _) (Rg.one_plain (by rfl) (by (intro ax wx hk Kx hK; obtain ⟨v278, k278, h278⟩ := hk.dep 5 278 _ rfl rfl rfl; (first | (cases (h278 : v278 = _)) | (obtain ⟨rfl, h278⟩ := h278) | skip); have hj := hk.j; clear hk; go_simp; refine hK _ _ ?_ (Below.refl _ _); apply Rg.mk))) ?_ rfl
            refine Rg.build_end fun wx hj => ?_
            refine Rg.fin_eq rfl ?_
            refine Rg.fin_eq rfl ?_
            refine Rg.fin_eq rfl ?_
            refine Rg.fin_eq rfl ?_
            refine Rg.fin_eq rfl ?_
            refine Rg.fin_eq rfl ?_
            refine Rg.fin_eq rfl ?_
            refine Rg.fin_nil ?_
            simp only [List.set_cons_zero, List.set_cons_succ]
            have z5 : wx.cell? ⟨gr, 5, none⟩ = some (.int .i64 (m' : Int)) := (HPF.out wx hj).2.2.cell 5 _ rfl
            have z6 : wx.cell? ⟨gr, 6, none⟩ = some (.int .i64 (n' : Int)) := (HPF.out wx hj).2.2.cell 6 _ rfl
            have y5 : wx.cell? ⟨gq, 5, none⟩ = some (.int .i64 0) := (HAF.out.below hj).cell 5 _ rfl
            have y6 : wx.cell? ⟨gq, 6, none⟩ = some (.int .i64 1) := (HAF.out.below hj).cell 6 _ rfl
            have HEND := Lib.hid (HF.out.below hj)
            clear hj HJ1 HPF HAF HF
            go_wp2_with fail
            go_returns
            exact ⟨rfl, HEND.out.bel⟩
        | true =>
          have HRs := Lib.hid (HR1.out rfl)
          clear HR1
          go_wp2_with fail
          refine (bare_any t HLT.out _).mono ?_
          rintro e9 w8 ⟨r2, rfl, hw8, hr2⟩
          subst hw8
          have HR2 := Lib.hid hr2
          clear hr2
          cases r2 with
          | false =>
            cases b2 with
            | false =>
              obtain ⟨b, rfl⟩ : ∃ b, er2 = spotV b := by have := HER2.out; rwa [if_neg (by decide)] at this
              have e0 := E0.out w7; have e1 := E1.out b w7
              unfold spotV at e1 ⊢
              go_wp2_with fail
              go_returns
              exact ⟨rfl, (H7).out.bel⟩
            | true =>
              obtain rfl : er2 = .nilIface := by have := HER2.out; rwa [if_pos rfl] at this
              have HBO : Hid (∀ w, Calls Try.prog 31 #[.string ({ data := #[40] } ++ s ++ { data := #[41, 124, 40] } ++ t ++ { data := #[41] })] w fun e w' => Below w.heap.size w w' ∧ ∃ a n c, e = .returned (.tuple #[nodeV (altT [.node oa fa ma xa la, .node ob fb mb xb lb]) (.slice a n c), .nilIface]) ∧ NAt w' (altT [.node oa fa ma xa la, .node ob fb mb xb lb]) (.slice a n c)) := Lib.hid (fun w => by
                obtain ⟨q, hq⟩ := G3.out rfl
                refine parse_ok ?_ hq w
                have := HLS.out; have := HLT.out
                simp only [ByteArray.size_append]
                have e0 : c40.size = 1 := rfl
                have e : (⟨#[40]⟩ : ByteArray).size = 1 := rfl
                have e' : (⟨#[41]⟩ : ByteArray).size = 1 := rfl
                have e'' : (⟨#[41, 124, 40]⟩ : ByteArray).size = 3 := rfl
                omega)
              have e0 := E0.out w7
              go_wp2_with fail
              refine (HBO.out _).mono ?_
              rintro e9 wA ⟨hbA, yA, yn, yc, rfl, hkA⟩
              obtain ⟨hyn, yk, yo, hyA, hyc, o3, f3, m3, x3, l3, ka3, kc3, o4, f4, m4, x4, l4, ka4, kc4, i3, i4, h83, h84, hn3, hn4⟩ := kids_two hkA
              subst hyn; subst hyA
              injection i3 with j1 j2 j3 j4 j5
              subst j1; subst j2; subst j3; subst j4; subst j5
              injection i4 with j1 j2 j3 j4 j5
              subst j1; subst j2; subst j3; subst j4; subst j5
              have HA := Lib.hid ((H7).out.below hbA)
              have HPA : Hid (∀ wy, Below wA.heap.size wA wy → Cell8 wy yk yo oa fa ma xa (.slice ka3 la.length kc3) ∧ Cell8 wy yk (yo + 8) ob fb mb xb (.slice ka4 lb.length kc4) ∧ NAt wy (.node oa fa ma xa la) (.slice ka3 la.length kc3) ∧ NAt wy (.node ob fb mb xb lb) (.slice ka4 lb.length kc4)) := Lib.hid (fun wy hb => ⟨h83.below hb, h84.below hb, hn3.below hb, hn4.below hb⟩)
              clear hbA hkA h83 h84 hn3 hn4 e0 HBO
              generalize la.length = na3 at HPA
              generalize lb.length = nb3 at HPA
              unfold altT
              rw [nodeV_emp3]
              go_upto_region 28 with (fail)
              obtain ⟨Y, hY⟩ : ∃ V : World, V = wA.alloc (.cells #[.int .i64 3, .int .u64 0, .int .u64 0, .int .u64 0, .int .u64 0, .int .i64 0, .int .i64 0, .slice (some ⟨yk, yo, none⟩) 2 yc] 29) := ⟨_, rfl⟩
              rw [← hY]
              have HY : Hid (Two w Y ga gb oa ob fa fb ma mb xa xb la lb (.slice aa an ac) (.slice ba bn bc)) := Lib.hid (by rw [hY]; exact HA.out.alloc _)
              have HYB : Hid (Below wA.heap.size wA Y) := Lib.hid (by rw [hY]; go_grown)
              have HPY : Hid (∀ wy, Below Y.heap.size Y wy → Cell8 wy yk yo oa fa ma xa (.slice ka3 na3 kc3) ∧ Cell8 wy yk (yo + 8) ob fb mb xb (.slice ka4 nb3 kc4) ∧ NAt wy (.node oa fa ma xa la) (.slice ka3 na3 kc3) ∧ NAt wy (.node ob fb mb xb lb) (.slice ka4 nb3 kc4)) := Lib.hid (fun wy hb => HPA.out wy (HYB.out.trans (hb.mono HYB.out.size)))
              have HYA : Hid (AtG Y wA.heap.size 29 #[.int .i64 3, .int .u64 0, .int .u64 0, .int .u64 0, .int .u64 0, .int .i64 0, .int .i64 0, .slice (some ⟨yk, yo, none⟩) 2 yc]) := Lib.hid (by rw [hY]; exact AtG.new _ _ _)
              clear hY HA HPA HYB
              generalize wA.heap.size = gy at *
              have z0 : Y.cell? ⟨gy, 0, none⟩ = some (.int .i64 3) := HYA.out.cell 0 _ rfl
              have z7 : Y.cell? ⟨gy, 7, none⟩ = some (.slice (some ⟨yk, yo, none⟩) 2 yc) := HYA.out.cell 7 _ rfl
              have e0 := E0.out Y
              go_upto_region 30 with (fail)
              clear z0 z7 e0
              have HSA := Lib.hid (fun w kv kv' h1 h2 => HSM.out w kv kv' h1 h2)
              have HSB := Lib.hid (fun w kv kv' h1 h2 => HSMB.out w kv kv' h1 h2)
              unfold nodeV at HSA HSB
              dsimp only at HSA HSB
              refine Rg.wp_region_each (by kernel_rfl) (fun w' => Below Y.heap.size Y w') (fun w1 w2 h hb => h.trans (hb.mono h.size)) (by kernel_rfl) (by kernel_rfl) (Below.refl _ _) ?_
              show Rg.Build _ _ _ _ _ 0 [_, _, _, _, _, _, _] []
              refine Rg.build_cons (m := 1) (r := Rg.eq _) (Rg.one_plain (by rfl) (by (intro ax wx hk Kx hK; have k26 := hk.base 26 _ rfl rfl; have hj := hk.j; clear hk; go_simp; refine hK _ _ ?_ (Below.refl _ _); apply Rg.mk))) ?_ rfl
              refine Rg.build_cons (m := 2) (r := Rg.eq _) (Rg.one_plain (by rfl) (by (intro ax wx hk Kx hK; obtain ⟨v183, k183, h183⟩ := hk.dep 0 183 _ rfl rfl rfl; (first | (cases (h183 : v183 = _)) | (obtain ⟨rfl, h183⟩ := h183) | skip); have hj := hk.j; clear hk; obtain ⟨⟨q0, q1, q2, q3, q4, q5, q6, q7⟩, -, -, -⟩ := HPY.out wx hj; have z7 := (HYA.out.below hj).cell 7 _ rfl; have hq := HY.out.ata.below hj; have c0 := hq.cell 0 _ rfl; have c1 := hq.cell 1 _ rfl; have c2 := hq.cell 2 _ rfl; have c3 := hq.cell 3 _ rfl; have c4 := hq.cell 4 _ rfl; have c5 := hq.cell 5 _ rfl; have c6 := hq.cell 6 _ rfl; have c7 := hq.cell 7 _ rfl; clear hq; go_simp; refine hK _ _ ?_ (Below.refl _ _); apply Rg.mk))) ?_ rfl
              refine Rg.build_cons (m := 3) (r := Rg.eq _) (Rg.one_plain (by rfl) (by (intro ax wx hk Kx hK; obtain ⟨v184, k184, h184⟩ := hk.dep 1 184 _ rfl rfl rfl; (first | (cases (h184 : v184 = _)) | (obtain ⟨rfl, h184⟩ := h184) | skip); have hj := hk.j; clear hk; go_simp; refine hK _ _ ?_ (Below.refl _ _); apply Rg.mk))) ?_ rfl
              refine Rg.build_cons (m := 4) (r := Rg.eq _) (Rg.one_plain (by rfl) (by (intro ax wx hk Kx hK; obtain ⟨v185, k185, h185⟩ := hk.dep 2 185 _ rfl rfl rfl; (first | (cases (h185 : v185 = _)) | (obtain ⟨rfl, h185⟩ := h185) | skip); have hj := hk.j; clear hk; obtain ⟨⟨q0, q1, q2, q3, q4, q5, q6, q7⟩, -, -, -⟩ := HPY.out wx hj; have z7 := (HYA.out.below hj).cell 7 _ rfl; have hq := HY.out.ata.below hj; have c0 := hq.cell 0 _ rfl; have c1 := hq.cell 1 _ rfl; have c2 := hq.cell 2 _ rfl; have c3 := hq.cell 3 _ rfl; have c4 := hq.cell 4 _ rfl; have c5 := hq.cell 5 _ rfl; have c6 := hq.cell 6 _ rfl; have c7 := hq.cell 7 _ rfl; clear hq; go_simp; refine hK _ _ ?_ (Below.refl _ _); apply Rg.mk))) ?_ rfl
              refine Rg.build_cons (m := 5) (r := Rg.eq _) (Rg.one_plain (by rfl) (by (intro ax wx hk Kx hK; have k10 := hk.base 10 _ rfl rfl; have hj := hk.j; clear hk; obtain ⟨⟨q0, q1, q2, q3, q4, q5, q6, q7⟩, -, -, -⟩ := HPY.out wx hj; have z7 := (HYA.out.below hj).cell 7 _ rfl; have hq := HY.out.ata.below hj; have c0 := hq.cell 0 _ rfl; have c1 := hq.cell 1 _ rfl; have c2 := hq.cell 2 _ rfl; have c3 := hq.cell 3 _ rfl; have c4 := hq.cell 4 _ rfl; have c5 := hq.cell 5 _ rfl; have c6 := hq.cell 6 _ rfl; have c7 := hq.cell 7 _ rfl; clear hq; go_simp; refine hK _ _ ?_ (Below.refl _ _); apply Rg.mk))) ?_ rfl
              refine Rg.build_cons (m := 6) (r := Rg.eq _) (Rg.one_plain (by rfl) (by (intro ax wx hk Kx hK; obtain ⟨v186, k186, h186⟩ := hk.dep 3 186 _ rfl rfl rfl; (first | (cases (h186 : v186 = _)) | (obtain ⟨rfl, h186⟩ := h186) | skip); obtain ⟨v187, k187, h187⟩ := hk.dep 4 187 _ rfl rfl rfl; (first | (cases (h187 : v187 = _)) | (obtain ⟨rfl, h187⟩ := h187) | skip); have hj := hk.j; clear hk; go_simp; refine (HSA.out _ _ _ (HPY.out _ hj).2.2.1 (HY.out.na.below hj)).mono ?_; rintro e w' ⟨rfl, hb⟩; refine hK _ _ ?_ hb; apply Rg.mk))) ?_ rfl
              refine Rg.build_cons (m := 7) (r := Rg.eq _) (Rg.one_plain (by rfl) (by (intro ax wx hk Kx hK; obtain ⟨v188, k188, h188⟩ := hk.dep 5 188 _ rfl rfl rfl; (first | (cases (h188 : v188 = _)) | (obtain ⟨rfl, h188⟩ := h188) | skip); have hj := hk.j; clear hk; go_simp; refine hK _ _ ?_ (Below.refl _ _); apply Rg.mk))) ?_ rfl
              refine Rg.build_end fun wx hj => ?_
              refine Rg.fin_eq rfl ?_
              refine Rg.fin_eq rfl ?_
              refine Rg.fin_eq rfl ?_
              refine Rg.fin_eq rfl ?_
              refine Rg.fin_eq rfl ?_
              refine Rg.fin_eq rfl ?_
              refine Rg.fin_eq rfl ?_
              refine Rg.fin_nil ?_
              simp only [List.set_cons_zero, List.set_cons_succ]
              have HJ1 := Lib.hid hj
              clear hj
              go_upto_region 31 with (fail)
              refine Rg.wp_region_each (by kernel_rfl) (fun w' => Below Y.heap.size Y w') (fun w1 w2 h hb => h.trans (hb.mono h.size)) (by kernel_rfl) (by kernel_rfl) (HJ1.out) ?_
              show Rg.Build _ _ _ _ _ 0 [_, _, _, _, _, _, _] []
              refine Rg.build_cons (m := 1) (r := Rg.eq _) (Rg.one_plain (by rfl) (by (intro ax wx hk Kx hK; have k26 := hk.base 26 _ rfl rfl; have hj := hk.j; clear hk; go_simp; refine hK _ _ ?_ (Below.refl _ _); apply Rg.mk))) ?_ rfl
              refine Rg.build_cons (m := 2) (r := Rg.eq _) (Rg.one_plain (by rfl) (by (intro ax wx hk Kx hK; obtain ⟨v189, k189, h189⟩ := hk.dep 0 189 _ rfl rfl rfl; (first | (cases (h189 : v189 = _)) | (obtain ⟨rfl, h189⟩ := h189) | skip); have hj := hk.j; clear hk; obtain ⟨-, ⟨q0, q1, q2, q3, q4, q5, q6, q7⟩, -, -⟩ := HPY.out wx hj; have z7 := (HYA.out.below hj).cell 7 _ rfl; have hq := HY.out.atb.below hj; have c0 := hq.cell 0 _ rfl; have c1 := hq.cell 1 _ rfl; have c2 := hq.cell 2 _ rfl; have c3 := hq.cell 3 _ rfl; have c4 := hq.cell 4 _ rfl; have c5 := hq.cell 5 _ rfl; have c6 := hq.cell 6 _ rfl; have c7 := hq.cell 7 _ rfl; clear hq; go_simp; refine hK _ _ ?_ (Below.refl _ _); apply Rg.mk))) ?_ rfl
              refine Rg.build_cons (m := 3) (r := Rg.eq _) (Rg.one_plain (by rfl) (by (intro ax wx hk Kx hK; obtain ⟨v190, k190, h190⟩ := hk.dep 1 190 _ rfl rfl rfl; (first | (cases (h190 : v190 = _)) | (obtain ⟨rfl, h190⟩ := h190) | skip); have hj := hk.j; clear hk; go_simp; refine hK _ _ ?_ (Below.refl _ _); apply Rg.mk))) ?_ rfl
              refine Rg.build_cons (m := 4) (r := Rg.eq _) (Rg.one_plain (by rfl) (by (intro ax wx hk Kx hK; obtain ⟨v191, k191, h191⟩ := hk.dep 2 191 _ rfl rfl rfl; (first | (cases (h191 : v191 = _)) | (obtain ⟨rfl, h191⟩ := h191) | skip); have hj := hk.j; clear hk; obtain ⟨-, ⟨q0, q1, q2, q3, q4, q5, q6, q7⟩, -, -⟩ := HPY.out wx hj; have z7 := (HYA.out.below hj).cell 7 _ rfl; have hq := HY.out.atb.below hj; have c0 := hq.cell 0 _ rfl; have c1 := hq.cell 1 _ rfl; have c2 := hq.cell 2 _ rfl; have c3 := hq.cell 3 _ rfl; have c4 := hq.cell 4 _ rfl; have c5 := hq.cell 5 _ rfl; have c6 := hq.cell 6 _ rfl; have c7 := hq.cell 7 _ rfl; clear hq; go_simp; refine hK _ _ ?_ (Below.refl _ _); apply Rg.mk))) ?_ rfl
              refine Rg.build_cons (m := 5) (r := Rg.eq _) (Rg.one_plain (by rfl) (by (intro ax wx hk Kx hK; have k12 := hk.base 12 _ rfl rfl; have hj := hk.j; clear hk; obtain ⟨-, ⟨q0, q1, q2, q3, q4, q5, q6, q7⟩, -, -⟩ := HPY.out wx hj; have z7 := (HYA.out.below hj).cell 7 _ rfl; have hq := HY.out.atb.below hj; have c0 := hq.cell 0 _ rfl; have c1 := hq.cell 1 _ rfl; have c2 := hq.cell 2 _ rfl; have c3 := hq.cell 3 _ rfl; have c4 := hq.cell 4 _ rfl; have c5 := hq.cell 5 _ rfl; have c6 := hq.cell 6 _ rfl; have c7 := hq.cell 7 _ rfl; clear hq; go_simp; refine hK _ _ ?_ (Below.refl _ _); apply Rg.mk))) ?_ rfl
              refine Rg.build_cons (m := 6) (r := Rg.eq _) (Rg.one_plain (by rfl) (by (intro ax wx hk Kx hK; obtain ⟨v192, k192, h192⟩ := hk.dep 3 192 _ rfl rfl rfl; (first | (cases (h192 : v192 = _)) | (obtain ⟨rfl, h192⟩ := h192) | skip); obtain ⟨v193, k193, h193⟩ := hk.dep 4 193 _ rfl rfl rfl; (first | (cases (h193 : v193 = _)) | (obtain ⟨rfl, h193⟩ := h193) | skip); have hj := hk.j; clear hk; go_simp; refine (HSB.out _ _ _ (HPY.out _ hj).2.2.2 (HY.out.nb.below hj)).mono ?_; rintro e w' ⟨rfl, hb⟩; refine hK _ _ ?_ hb; apply Rg.mk))) ?_ rfl
              refine Rg.build_cons (m := 7) (r := Rg.eq _) (Rg.one_plain (by rfl) (by (intro ax wx hk Kx hK; obtain ⟨v194, k194, h194⟩ := hk.dep 5 194 _ rfl rfl rfl; (first | (cases (h194 : v194 = _)) | (obtain ⟨rfl, h194⟩ := h194) | skip); have hj := hk.j; clear hk; go_simp; refine hK _ _ ?_ (Below.refl _ _); apply Rg.mk))) ?_ rfl
              refine Rg.build_end fun wx hj => ?_
              refine Rg.fin_eq rfl ?_
              refine Rg.fin_eq rfl ?_
              refine Rg.fin_eq rfl ?_
              refine Rg.fin_eq rfl ?_
              refine Rg.fin_eq rfl ?_
              refine Rg.fin_eq rfl ?_
              refine Rg.fin_eq rfl ?_
              refine Rg.fin_nil ?_
              simp only [List.set_cons_zero, List.set_cons_succ]
              have HZ := Lib.hid (HY.out.below hj)
              clear hj HPY HYA HJ1 HY HSB
              go_upto_region 34 with (fail)
              by_cases hm0 : m < 0
              · go_wp2_with fail
                go_returns
                exact ⟨rfl, HZ.out.bel⟩
              by_cases hmn : n < m
              · go_wp2_with fail
                go_returns
                exact ⟨rfl, HZ.out.bel⟩
              by_cases hn1 : n < 1
              · go_wp2_with fail
                go_returns
                exact ⟨rfl, HZ.out.bel⟩
              by_cases hn32 : 32 < n
              · go_wp2_with fail
                go_returns
                exact ⟨rfl, HZ.out.bel⟩
              obtain ⟨m', rfl⟩ := Int.eq_ofNat_of_zero_le (Int.not_lt.1 hm0)
              obtain ⟨n', rfl⟩ := Int.eq_ofNat_of_zero_le (a := n) (by omega)
              have hm33 : m' < 33 := by omega
              have hn33 : n' < 33 := by omega
              have HRE : Hid (∀ w, Calls Try.prog 31 #[.string ({ data := #[40] } ++ s ++ { data := #[41, 123] } ++ dgS m' ++ { data := #[44] } ++ dgS n' ++ { data := #[125] })] w fun e w' => Below w.heap.size w w' ∧ ∃ a n c, e = .returned (.tuple #[nodeV (repT (m' : Int) (n' : Int) (.node oa fa ma xa la)) (.slice a n c), .nilIface]) ∧ NAt w' (repT (m' : Int) (n' : Int) (.node oa fa ma xa la)) (.slice a n c)) := Lib.hid (fun w => by
                obtain ⟨q, hq⟩ := G4.out m' n' (by omega) (by omega) (by omega)
                refine parse_ok ?_ hq w
                have := HLS.out
                have z1 := dg_size hm33
                have z2 := dg_size hn33
                simp only [ByteArray.size_append]
                have e0 : c40.size = 1 := rfl
                have e : (⟨#[44]⟩ : ByteArray).size = 1 := rfl
                have e' : (⟨#[125]⟩ : ByteArray).size = 1 := rfl
                have e'' : (⟨#[41, 123]⟩ : ByteArray).size = 2 := rfl
                omega)
              have HOP : Hid (∀ w, Calls Try.prog 31 #[.string ({ data := #[40] } ++ s ++ { data := #[41, 63] })] w fun e w' => Below w.heap.size w w' ∧ ∃ a n c, e = .returned (.tuple #[nodeV (repT 0 1 (.node oa fa ma xa la)) (.slice a n c), .nilIface]) ∧ NAt w' (repT 0 1 (.node oa fa ma xa la)) (.slice a n c)) := Lib.hid (fun w => by
                obtain ⟨q, hq⟩ := G5.out
                refine parse_ok ?_ hq w
                have := HLS.out
                simp only [ByteArray.size_append]
                have e0 : c40.size = 1 := rfl
                have e'' : (⟨#[41, 63]⟩ : ByteArray).size = 2 := rfl
                omega)
              clear G3 G4 G5
              have zm := (dg_size hm33).2
              have zn := (dg_size hn33).2
              go_wp2_with fail
              refine (dgs_any m' hm33 _).mono ?_
              rintro e9 wB ⟨rfl, hbB⟩
              have HZB := Lib.hid (HZ.out.below hbB)
              clear hbB HZ
              go_wp2_with fail
              refine (dgs_any n' hn33 _).mono ?_
              rintro e9 wC ⟨rfl, hbC⟩
              have HZC := Lib.hid (HZB.out.below hbC)
              clear hbC HZB
              go_wp2_with fail
              refine (HRE.out _).mono ?_
              rintro e9 wD ⟨hbD, rA, rn, rc, rfl, hkD⟩
              obtain ⟨hrn, rk, ro, hrA, hrc, o5, f5, m5, x5, l5, ka5, kc5, i5, h85, hn5⟩ := kids_one hkD
              subst hrn; subst hrA
              injection i5 with j1 j2 j3 j4 j5
              subst j1; subst j2; subst j3; subst j4; subst j5
              have HZD := Lib.hid (HZC.out.below hbD)
              have HPD : Hid (∀ wy, Below wD.heap.size wD wy → Cell8 wy rk ro oa fa ma xa (.slice ka5 la.length kc5) ∧ NAt wy (.node oa fa ma xa la) (.slice ka5 la.length kc5)) := Lib.hid (fun wy hb => ⟨h85.below hb, hn5.below hb⟩)
              clear hbD hkD h85 hn5 HRE HZC
              generalize la.length = na5 at HPD
              unfold repT
              rw [nodeV_emp3]
              go_upto_region 37 with (fail)
              obtain ⟨U, hU⟩ : ∃ V : World, V = wD.alloc (.cells #[.int .i64 4, .int .u64 0, .int .u64 0, .int .u64 0, .int .u64 0, .int .i64 (m' : Int), .int .i64 (n' : Int), .slice (some ⟨rk, ro, none⟩) 1 rc] 29) := ⟨_, rfl⟩
              rw [← hU]
              have HU : Hid (Two w U ga gb oa ob fa fb ma mb xa xb la lb (.slice aa an ac) (.slice ba bn bc)) := Lib.hid (by rw [hU]; exact HZD.out.alloc _)
              have HPU : Hid (∀ wy, Below U.heap.size U wy → Cell8 wy rk ro oa fa ma xa (.slice ka5 na5 kc5) ∧ NAt wy (.node oa fa ma xa la) (.slice ka5 na5 kc5)) := Lib.hid (fun wy hb => HPD.out wy (by
                have h1 : Below wD.heap.size wD U := by rw [hU]; go_grown
                exact h1.trans (hb.mono h1.size)))
              have HAU : Hid (AtG U wD.heap.size 29 #[.int .i64 4, .int .u64 0, .int .u64 0, .int .u64 0, .int .u64 0, .int .i64 (m' : Int), .int .i64 (n' : Int), .slice (some ⟨rk, ro, none⟩) 1 rc]) := Lib.hid (by rw [hU]; exact AtG.new _ _ _)
              clear hU HZD HPD
              generalize wD.heap.size = gr at *
              go_wp2_with fail
              refine (HOP.out _).mono ?_
              rintro e9 wE ⟨hbE, qA, qn, qc, rfl, hkE⟩
              obtain ⟨hqn, qk, qo, hqA, hqc, o6, f6, m6, x6', l6, ka6, kc6, i6, h86, hn6⟩ := kids_one hkE
              subst hqn; subst hqA
              injection i6 with j1 j2 j3 j4 j5
              subst j1; subst j2; subst j3; subst j4; subst j5
              have HZE := Lib.hid (HU.out.below hbE)
              have HPE : Hid (∀ wy, Below wE.heap.size wE wy → (Cell8 wy qk qo oa fa ma xa (.slice ka6 la.length kc6) ∧ NAt wy (.node oa fa ma xa la) (.slice ka6 la.length kc6)) ∧ (Cell8 wy rk ro oa fa ma xa (.slice ka5 na5 kc5) ∧ NAt wy (.node oa fa ma xa la) (.slice ka5 na5 kc5)) ∧ AtG wy gr 29 #[.int .i64 4, .int .u64 0, .int .u64 0, .int .u64 0, .int .u64 0, .int .i64 (m' : Int), .int .i64 (n' : Int), .slice (some ⟨rk, ro, none⟩) 1 rc]) := Lib.hid (fun wy hb => ⟨⟨h86.below hb, hn6.below hb⟩, HPU.out wy (hbE.trans (hb.mono hbE.size)), (HAU.out.below hbE).below hb⟩)
              clear hbE hkE h86 hn6 HOP HU HPU HAU
              generalize la.length = na6 at HPE
              unfold repT
              rw [nodeV_emp3]
              go_upto_region 38 with (fail)
              obtain ⟨F, hF⟩ : ∃ V : World, V = wE.alloc (.cells #[.int .i64 4, .int .u64 0, .int .u64 0, .int .u64 0, .int .u64 0, .int .i64 0, .int .i64 1, .slice (some ⟨qk, qo, none⟩) 1 qc] 29) := ⟨_, rfl⟩
              rw [← hF]
              have HF : Hid (Two w F ga gb oa ob fa fb ma mb xa xb la lb (.slice aa an ac) (.slice ba bn bc)) := Lib.hid (by rw [hF]; exact HZE.out.alloc _)
              have HAF : Hid (AtG F wE.heap.size 29 #[.int .i64 4, .int .u64 0, .int .u64 0, .int .u64 0, .int .u64 0, .int .i64 0, .int .i64 1, .slice (some ⟨qk, qo, none⟩) 1 qc]) := Lib.hid (by rw [hF]; exact AtG.new _ _ _)
              have HPF : Hid (∀ wy, Below F.heap.size F wy → (Cell8 wy qk qo oa fa ma xa (.slice ka6 na6 kc6) ∧ NAt wy (.node oa fa ma xa la) (.slice ka6 na6 kc6)) ∧ (Cell8 wy rk ro oa fa ma xa (.slice ka5 na5 kc5) ∧ NAt wy (.node oa fa ma xa la) (.slice ka5 na5 kc5)) ∧ AtG wy gr 29 #[.int .i64 4, .int .u64 0, .int .u64 0, .int .u64 0, .int .u64 0, .int .i64 (m' : Int), .int .i64 (n' : Int), .slice (some ⟨rk, ro, none⟩) 1 rc]) := Lib.hid (fun wy hb => HPE.out wy (by
                have h1 : Below wE.heap.size wE F := by rw [hF]; go_grown
                exact h1.trans (hb.mono h1.size)))
              clear hF HZE HPE
              generalize wE.heap.size = gq at *
              have e0 := E0.out F
              have z0 : F.cell? ⟨gr, 0, none⟩ = some (.int .i64 4) := (HPF.out F (Below.refl _ _)).2.2.cell 0 _ rfl
              have z7 : F.cell? ⟨gr, 7, none⟩ = some (.slice (some ⟨rk, ro, none⟩) 1 rc) := (HPF.out F (Below.refl _ _)).2.2.cell 7 _ rfl
              have y0 : F.cell? ⟨gq, 0, none⟩ = some (.int .i64 4) := HAF.out.cell 0 _ rfl
              have y7 : F.cell? ⟨gq, 7, none⟩ = some (.slice (some ⟨qk, qo, none⟩) 1 qc) := HAF.out.cell 7 _ rfl
              go_upto_region 40 with (fail)
              clear z0 z7 y0 y7 e0
              refine Rg.wp_region_each (by kernel_rfl) (fun w' => Below F.heap.size F w') (fun w1 w2 h hb => h.trans (hb.mono h.size)) (by kernel_rfl) (by kernel_rfl) (Below.refl _ _) ?_
              show Rg.Build _ _ _ _ _ 0 [_, _, _, _, _, _, _] []
              refine Rg.build_cons (m := 1) (r := Rg.eq _) (Rg.one_plain (by rfl) (by (intro ax wx hk Kx hK; have k30 := hk.base 30 _ rfl rfl; have hj := hk.j; clear hk; go_simp; refine hK _ _ ?_ (Below.refl _ _); apply Rg.mk))) ?_ rfl
              refine Rg.build_cons (m := 2) (r := Rg.eq _) (Rg.one_plain (by rfl) (by (intro ax wx hk Kx hK; obtain ⟨v267, k267, h267⟩ := hk.dep 0 267 _ rfl rfl rfl; (first | (cases (h267 : v267 = _)) | (obtain ⟨rfl, h267⟩ := h267) | skip); have hj := hk.j; clear hk; obtain ⟨-, ⟨⟨q0, q1, q2, q3, q4, q5, q6, q7⟩, -⟩, hr⟩ := HPF.out wx hj; have z7 := hr.cell 7 _ rfl; have hq := HF.out.ata.below hj; have c0 := hq.cell 0 _ rfl; have c1 := hq.cell 1 _ rfl; have c2 := hq.cell 2 _ rfl; have c3 := hq.cell 3 _ rfl; have c4 := hq.cell 4 _ rfl; have c5 := hq.cell 5 _ rfl; have c6 := hq.cell 6 _ rfl; have c7 := hq.cell 7 _ rfl; clear hq hr; go_simp; refine hK _ _ ?_ (Below.refl _ _); apply Rg.mk))) ?_ rfl
              refine Rg.build_cons (m := 3) (r := Rg.eq _) (Rg.one_plain (by rfl) (by (intro ax wx hk Kx hK; obtain ⟨v268, k268, h268⟩ := hk.dep 1 268 _ rfl rfl rfl; (first | (cases (h268 : v268 = _)) | (obtain ⟨rfl, h268⟩ := h268) | skip); have hj := hk.j; clear hk; go_simp; refine hK _ _ ?_ (Below.refl _ _); apply Rg.mk))) ?_ rfl
              refine Rg.build_cons (m := 4) (r := Rg.eq _) (Rg.one_plain (by rfl) (by (intro ax wx hk Kx hK; obtain ⟨v269, k269, h269⟩ := hk.dep 2 269 _ rfl rfl rfl; (first | (cases (h269 : v269 = _)) | (obtain ⟨rfl, h269⟩ := h269) | skip); have hj := hk.j; clear hk; obtain ⟨-, ⟨⟨q0, q1, q2, q3, q4, q5, q6, q7⟩, -⟩, hr⟩ := HPF.out wx hj; have z7 := hr.cell 7 _ rfl; have hq := HF.out.ata.below hj; have c0 := hq.cell 0 _ rfl; have c1 := hq.cell 1 _ rfl; have c2 := hq.cell 2 _ rfl; have c3 := hq.cell 3 _ rfl; have c4 := hq.cell 4 _ rfl; have c5 := hq.cell 5 _ rfl; have c6 := hq.cell 6 _ rfl; have c7 := hq.cell 7 _ rfl; clear hq hr; go_simp; refine hK _ _ ?_ (Below.refl _ _); apply Rg.mk))) ?_ rfl
              refine Rg.build_cons (m := 5) (r := Rg.eq _) (Rg.one_plain (by rfl) (by (intro ax wx hk Kx hK; have k10 := hk.base 10 _ rfl rfl; have hj := hk.j; clear hk; obtain ⟨-, ⟨⟨q0, q1, q2, q3, q4, q5, q6, q7⟩, -⟩, hr⟩ := HPF.out wx hj; have z7 := hr.cell 7 _ rfl; have hq := HF.out.ata.below hj; have c0 := hq.cell 0 _ rfl; have c1 := hq.cell 1 _ rfl; have c2 := hq.cell 2 _ rfl; have c3 := hq.cell 3 _ rfl; have c4 := hq.cell 4 _ rfl; have c5 := hq.cell 5 _ rfl; have c6 := hq.cell 6 _ rfl; have c7 := hq.cell 7 _ rfl; clear hq hr; go_simp; refine hK _ _ ?_ (Below.refl _ _); apply Rg.mk))) ?_ rfl
              refine Rg.build_cons (m := 6) (r := Rg.eq _) (Rg.one_plain (by rfl) (by (intro ax wx hk Kx hK; obtain ⟨v270, k270, h270⟩ := hk.dep 3 270 _ rfl rfl rfl; (first | (cases (h270 : v270 = _)) | (obtain ⟨rfl, h270⟩ := h270) | skip); obtain ⟨v271, k271, h271⟩ := hk.dep 4 271 _ rfl rfl rfl; (first | (cases (h271 : v271 = _)) | (obtain ⟨rfl, h271⟩ := h271) | skip); have hj := hk.j; clear hk; go_simp; refine (HSA.out _ _ _ (HPF.out _ hj).2.1.2 (HF.out.na.below hj)).mono ?_; rintro e w' ⟨rfl, hb⟩; refine hK _ _ ?_ hb; apply Rg.mk))) ?_ rfl
              refine Rg.build_cons (m := 7) (r := Rg.eq _) (Rg.one_plain (by rfl) (by (intro ax wx hk Kx hK; obtain ⟨v272, k272, h272⟩ := hk.dep 5 272 _ rfl rfl rfl; (first | (cases (h272 : v272 = _)) | (obtain ⟨rfl, h272⟩ := h272) | skip); have hj := hk.j; clear hk; go_simp; refine hK _ _ ?_ (Below.refl _ _); apply Rg.mk))) ?_ rfl
              refine Rg.build_end fun wx hj => ?_
              refine Rg.fin_eq rfl ?_
              refine Rg.fin_eq rfl ?_
              refine Rg.fin_eq rfl ?_
              refine Rg.fin_eq rfl ?_
              refine Rg.fin_eq rfl ?_
              refine Rg.fin_eq rfl ?_
              refine Rg.fin_eq rfl ?_
              refine Rg.fin_nil ?_
              simp only [List.set_cons_zero, List.set_cons_succ]
              have HJ1 := Lib.hid hj
              clear hj
              go_upto_region 41 with (fail)
              refine Rg.wp_region_each (by kernel_rfl) (fun w' => Below F.heap.size F w') (fun w1 w2 h hb => h.trans (hb.mono h.size)) (by kernel_rfl) (by kernel_rfl) (HJ1.out) ?_
              show Rg.Build _ _ _ _ _ 0 [_, _, _, _, _, _, _] []
              refine Rg.build_cons (m := 1) (r := Rg.eq _) (Rg.one_plain (by rfl) (by (intro ax wx hk Kx hK; have k32 := hk.base 32 _ rfl rfl; have hj := hk.j; clear hk; go_simp; refine hK _ _ ?_ (Below.refl _ _); apply Rg.mk))) ?_ rfl
              refine Rg.build_cons (m := 2) (r := Rg.eq _) (Rg.one_plain (by rfl) (by (intro ax wx hk Kx hK; obtain ⟨v273, k273, h273⟩ := hk.dep 0 273 _ rfl rfl rfl; (first | (cases (h273 : v273 = _)) | (obtain ⟨rfl, h273⟩ := h273) | skip); have hj := hk.j; clear hk; obtain ⟨⟨⟨q0, q1, q2, q3, q4, q5, q6, q7⟩, -⟩, -, -⟩ := HPF.out wx hj; have z7 := (HAF.out.below hj).cell 7 _ rfl; have hq := HF.out.ata.below hj; have c0 := hq.cell 0 _ rfl; have c1 := hq.cell 1 _ rfl; have c2 := hq.cell 2 _ rfl; have c3 := hq.cell 3 _ rfl; have c4 := hq.cell 4 _ rfl; have c5 := hq.cell 5 _ rfl; have c6 := hq.cell 6 _ rfl; have c7 := hq.cell 7 _ rfl; clear hq; go_simp; refine hK _ _ ?_ (Below.refl _ _); apply Rg.mk))) ?_ rfl
              refine Rg.build_cons (m := 3) (r := Rg.eq _) (Rg.one_plain (by rfl) (by (intro ax wx hk Kx hK; obtain ⟨v274, k274, h274⟩ := hk.dep 1 274 _ rfl rfl rfl; (first | (cases (h274 : v274 = _)) | (obtain ⟨rfl, h274⟩ := h274) | skip); have hj := hk.j; clear hk; go_simp; refine hK _ _ ?_ (Below.refl _ _); apply Rg.mk))) ?_ rfl
              refine Rg.build_cons (m := 4) (r := Rg.eq _) (Rg.one_plain (by rfl) (by (intro ax wx hk Kx hK; obtain ⟨v275, k275, h275⟩ := hk.dep 2 275 _ rfl rfl rfl; (first | (cases (h275 : v275 = _)) | (obtain ⟨rfl, h275⟩ := h275) | skip); have hj := hk.j; clear hk; obtain ⟨⟨⟨q0, q1, q2, q3, q4, q5, q6, q7⟩, -⟩, -, -⟩ := HPF.out wx hj; have z7 := (HAF.out.below hj).cell 7 _ rfl; have hq := HF.out.ata.below hj; have c0 := hq.cell 0 _ rfl; have c1 := hq.cell 1 _ rfl; have c2 := hq.cell 2 _ rfl; have c3 := hq.cell 3 _ rfl; have c4 := hq.cell 4 _ rfl; have c5 := hq.cell 5 _ rfl; have c6 := hq.cell 6 _ rfl; have c7 := hq.cell 7 _ rfl; clear hq; go_simp; refine hK _ _ ?_ (Below.refl _ _); apply Rg.mk))) ?_ rfl
              refine Rg.build_cons (m := 5) (r := Rg.eq _) (Rg.one_plain (by rfl) (by (intro ax wx hk Kx hK; have k10 := hk.base 10 _ rfl rfl; have hj := hk.j; clear hk; obtain ⟨⟨⟨q0, q1, q2, q3, q4, q5, q6, q7⟩, -⟩, -, -⟩ := HPF.out wx hj; have z7 := (HAF.out.below hj).cell 7 _ rfl; have hq := HF.out.ata.below hj; have c0 := hq.cell 0 _ rfl; have c1 := hq.cell 1 _ rfl; have c2 := hq.cell 2 _ rfl; have c3 := hq.cell 3 _ rfl; have c4 := hq.cell 4 _ rfl; have c5 := hq.cell 5 _ rfl; have c6 := hq.cell 6 _ rfl; have c7 := hq.cell 7 _ rfl; clear hq; go_simp; refine hK _ _ ?_ (Below.refl _ _); apply Rg.mk))) ?_ rfl
              refine Rg.build_cons (m := 6) (r := Rg.eq _) (Rg.one_plain (by rfl) (by (intro ax wx hk Kx hK; obtain ⟨v276, k276, h276⟩ := hk.dep 3 276 _ rfl rfl rfl; (first | (cases (h276 : v276 = _)) | (obtain ⟨rfl, h276⟩ := h276) | skip); obtain ⟨v277, k277, h277⟩ := hk.dep 4 277 _ rfl rfl rfl; (first | (cases (h277 : v277 = _)) | (obtain ⟨rfl, h277⟩ := h277) | skip); have hj := hk.j; clear hk; go_simp; refine (HSA.out _ _ _ (HPF.out _ hj).1.2 (HF.out.na.below hj)).mono ?_; rintro e w' ⟨rfl, hb⟩; refine hK _ _ ?_ hb; apply Rg.mk))) ?_ rfl
              refine Rg.build_cons (m := 7) (r := Rg.eq _) (Rg.one_plain (by rfl) (by (intro ax wx hk Kx hK; obtain ⟨v278, k278, h278⟩ := hk.dep 5 278 _ rfl rfl rfl; (first | (cases (h278 : v278 = _)) | (obtain ⟨rfl, h278⟩ := h278) | skip); have hj := hk.j; clear hk; go_simp; refine hK _ _ ?_ (Below.refl _ _); apply Rg.mk))) ?_ rfl
              refine Rg.build_end fun wx hj => ?_
              refine Rg.fin_eq rfl ?_
              refine Rg.fin_eq rfl ?_
              refine Rg.fin_eq rfl ?_
              refine Rg.fin_eq rfl ?_
              refine Rg.fin_eq rfl ?_
              refine Rg.fin_eq rfl ?_
              refine Rg.fin_eq rfl ?_
              refine Rg.fin_nil ?_
              simp only [List.set_cons_zero, List.set_cons_succ]
              have z5 : wx.cell? ⟨gr, 5, none⟩ = some (.int .i64 (m' : Int)) := (HPF.out wx hj).2.2.cell 5 _ rfl
              have z6 : wx.cell? ⟨gr, 6, none⟩ = some (.int .i64 (n' : Int)) := (HPF.out wx hj).2.2.cell 6 _ rfl
              have y5 : wx.cell? ⟨gq, 5, none⟩ = some (.int .i64 0) := (HAF.out.below hj).cell 5 _ rfl
              have y6 : wx.cell? ⟨gq, 6, none⟩ = some (.int .i64 1) := (HAF.out.below hj).cell 6 _ rfl
              have HEND := Lib.hid (HF.out.below hj)
              clear hj HJ1 HPF HAF HF
              go_wp2_with fail
              go_returns
              exact ⟨rfl, HEND.out.bel⟩
          | true =>
            have hbp := both_P HPS.out HPT.out HRs.out (HR2.out rfl)
            obtain ⟨L, hL⟩ : ∃ L, L = altsF (.node oa fa ma xa la) ++ altsF (.node ob fb mb xb lb) := ⟨_, rfl⟩
            rw [← hL] at hbp
            have HL := Lib.hid hL
            have HPB : Hid (∀ w, Calls Try.prog 31 #[.string (s ++ { data := #[124] } ++ t)] w fun e w' => Below w.heap.size w w' ∧ ∃ a n c, e = .returned (.tuple #[nodeV (altT L) (.slice a n c), .nilIface]) ∧ NAt w' (altT L) (.slice a n c)) := Lib.hid (fun w => parse_ok (by
              have := HLS.out; have := HLT.out
              rw [ByteArray.size_append, ByteArray.size_append]
              have e : (⟨#[124]⟩ : ByteArray).size = 1 := rfl
              omega) hbp.2.choose_spec w)
            have HL2 := Lib.hid hbp.1
            clear hL hbp HRs HR2
            go_wp2_with fail
            refine (HPB.out _).mono ?_
            rintro e9 w9 ⟨hb9, da2, dn2, dc2, rfl, hkd⟩
            obtain ⟨da3, dc3, hdk⟩ := KAt.slice hkd
            injection hdk with hd1 hd2 hd3
            subst hd1; subst hd3
            obtain ⟨lk, hlk⟩ : ∃ k, k = L.length := ⟨_, rfl⟩
            rw [← hlk] at hd2
            subst hd2
            have HLK := Lib.hid hlk
            have hlk1 : dn2 ≤ 1000 := by rw [hlk]; exact nat_len hkd
            have H9 := Lib.hid ((H7).out.below hb9)
            have HKD := Lib.hid hkd
            clear hb9 hkd hlk HPB H7
            unfold altT
            rw [nodeV_emp3]
            go_upto_region 16 with (fail)
            obtain ⟨X, hX⟩ : ∃ V : World, V = w9.alloc (.cells #[.int .i64 3, .int .u64 0, .int .u64 0, .int .u64 0, .int .u64 0, .int .i64 0, .int .i64 0, .slice da2 dn2 dc2] 29) := ⟨_, rfl⟩
            rw [← hX]
            have HX : Hid (Two w X ga gb oa ob fa fb ma mb xa xb la lb (.slice aa an ac) (.slice ba bn bc)) := Lib.hid (by rw [hX]; exact H9.out.alloc _)
            have HKX : Hid (NAt X (altT L) (.slice da2 dn2 dc2)) := Lib.hid (by rw [hX]; exact HKD.out.alloc _)
            have HAX : Hid (AtG X w9.heap.size 29 #[.int .i64 3, .int .u64 0, .int .u64 0, .int .u64 0, .int .u64 0, .int .i64 0, .int .i64 0, .slice da2 dn2 dc2]) := Lib.hid (by rw [hX]; exact AtG.new _ _ _)
            generalize w9.heap.size = gd at *
            clear hX H9 HKD
            obtain ⟨psA, hpa, hka, hca⟩ := alts_src _ _ _ _ _ HX.out.na HGS.out.2
            obtain ⟨psB, hpb, hkb, hcb⟩ := alts_src _ _ _ _ _ HX.out.nb HGT.out.2
            unfold nodeV at hca hcb
            dsimp only at hca hcb
            obtain ⟨nA, hnA⟩ : ∃ x, x = psA.length := ⟨_, rfl⟩
            obtain ⟨nB, hnB⟩ : ∃ x, x = psB.length := ⟨_, rfl⟩
            rw [← hnA] at hca; rw [← hnB] at hcb
            have hab : nA + nB = dn2 := by
              rw [HLK.out, HL.out, ← hpa, ← hpb, List.length_append, List.length_map, List.length_map, hnA, hnB]
            have HCA := Lib.hid hca; have HCB := Lib.hid hcb
            have HFA := Lib.hid (show (flatN psA).length = nA * 8 ∧ ∀ y ∈ flatN psA, y.oneCell' = true from ⟨by rw [flatN_len, hnA], flatN_cells psA hka⟩)
            have HFB := Lib.hid (show (flatN psB).length = nB * 8 ∧ ∀ y ∈ flatN psB, y.oneCell' = true from ⟨by rw [flatN_len, hnB], flatN_cells psB hkb⟩)
            have HPS2 := Lib.hid (show (psA ++ psB).map (·.1) = L from by rw [List.map_append, hpa, hpb, HL.out])
            have HKS : Hid (AllK (fun b => b < X.heap.size) X (psA ++ psB)) := Lib.hid (fun x hx => (List.mem_append.1 hx).elim (hka x) (hkb x))
            clear hpa hpb hka hkb hca hcb hnA hnB
            refine RgX.start (by kernel_rfl) [(3, fun w5 w6 => ∃ k, X.heap.size ≤ k ∧ AtG w5 k 29 #[] ∧ w5.grownBy w6 (some k)), (6, fun w5 w6 => Below X.heap.size w5 w6)] [⟨fun w5 => Below X.heap.size X w5, none⟩] ⟨⟨fun _ _ h hb => h.trans (hb.mono h.size), ⟨fun _ _ _ _ => (fun w5 w6 h he => by obtain ⟨k, hk, -, hg⟩ := he; exact Below.grown h hg h.size (fun q hq => by cases hq; exact hk)), fun _ _ _ _ => (fun w5 w6 h he => h.trans he), trivial⟩⟩, trivial⟩ (by kernel_rfl) (by kernel_rfl) ⟨(Below.refl _ _).drew, trivial⟩ ?_
            show RgX.Build _ _ _ _ _ _ 0 [_, _, _, _, _, _, _, _] []
            refine RgX.build_cons (m := 1) (r := (⟨fun v _ w5 => ∃ k, v = .slice (some ⟨k, 0, none⟩) 0 0 ∧ X.heap.size ≤ k ∧ AtG w5 k 29 #[], some 3, none⟩ : RgX.Rl)) (RgX.one_plain (by rfl) (by (intro ax wx hk Kx hK; have hB := hk.fact 0 0 _ rfl rfl; (try dsimp only at hB); clear hk; (go_simp; exact hK _ _ (fun h => by cases h) (fun u _ => ⟨wx.heap.size, rfl, hB.size, AtG.new _ _ _⟩) ((Below.refl _ _).alloc (Nat.le_refl _) _))))) ?_ rfl (RgX.keep_r (fun _ _ _ _ h hb => by obtain ⟨k, h1, h2, h3⟩ := h; exact ⟨k, h1, h2, h3.below hb⟩) (fun _ _ => ⟨fun _ h _ _ => absurd rfl h, fun _ _ h _ => absurd ⟨3, 1, rfl, rfl⟩ h, trivial⟩)) (fun _ h => by cases h)
            refine RgX.build_cons (m := 2) (r := RgX.eq _) (RgX.one_plain (by rfl) (by (intro ax wx hk Kx hK; have k10 := hk.base 10 _ rfl rfl; have hB := hk.fact 0 0 _ rfl rfl; (try dsimp only at hB); clear hk; have hq := HX.out.ata.below hB; have c0 := hq.cell 0 _ rfl; have c1 := hq.cell 1 _ rfl; have c2 := hq.cell 2 _ rfl; have c3 := hq.cell 3 _ rfl; have c4 := hq.cell 4 _ rfl; have c5 := hq.cell 5 _ rfl; have c6 := hq.cell 6 _ rfl; have c7 := hq.cell 7 _ rfl; clear hq; go_simp; refine hK _ _ (fun h => by cases h) (fun _ _ => ?_) (Below.refl _ _); apply RgX.mk))) ?_ rfl RgX.keep_eq (fun _ h => by cases h)
            refine RgX.build_cons (m := 3) (r := (⟨fun v _ w5 => ∀ _ : Unit, SrcRow w5 v nA (flatN psA), some 3, none⟩ : RgX.Rl)) (RgX.one_plain (by rfl) (by (intro ax wx hk Kx hK; obtain ⟨v114, k114, h114⟩ := hk.dep 0 1 114 _ rfl rfl rfl; (first | (replace h114 := h114 9 undef rfl rfl; first | (cases (h114 : v114 = _)) | (obtain ⟨rfl, h114⟩ := h114) | skip) | skip); have hB := hk.fact 0 0 _ rfl rfl; (try dsimp only at hB); clear hk; go_simp; refine (HCA.out _ hB).mono ?_; rintro e w' ⟨hb, v, rfl, hs⟩; exact hK _ _ (fun h => by cases h) (fun u _ _ => hs) hb))) ?_ rfl (RgX.keep_r (fun _ _ _ _ h hb _ => src_below (h ()) hb) (fun _ _ => ⟨fun _ h _ _ => absurd rfl h, fun _ _ h _ => absurd ⟨3, 1, rfl, rfl⟩ h, trivial⟩)) (fun _ h => by cases h)
            refine RgX.build_cons (m := 4) (r := (⟨fun v _ w5 => w5.ownsRow X.heap.size 29 8 v (0 + nA) ([] ++ flatN psA), some 6, none⟩ : RgX.Rl)) (RgX.one_plain (by rfl) (by (intro ax wx hk Kx hK; obtain ⟨v113, k113, h113⟩ := hk.dep 0 0 113 _ rfl rfl rfl; (first | (replace h113 := h113 9 undef rfl rfl; first | (cases (h113 : v113 = _)) | (obtain ⟨rfl, h113⟩ := h113) | skip) | skip); obtain ⟨v115, k115, h115⟩ := hk.dep 0 2 115 _ rfl rfl rfl; (first | (replace h115 := h115 9 undef rfl rfl; first | (cases (h115 : v115 = _)) | (obtain ⟨rfl, h115⟩ := h115) | skip) | skip); have hB := hk.fact 0 0 _ rfl rfl; (try dsimp only at hB); clear hk; (obtain ⟨k, rfl, hk0, hk1⟩ := h113; refine wp_appRow (.tmp 113) (.tmp 115) 27 rfl X.heap.size 29 _ 8 80 Try.underlying27 infoNode rfl (by decide) _ _ 0 nA [] (flatN psA) (own_empty8 hk1 hk0) (h115 ()) (by simp [Act.eval, k113]) (by simp [Act.eval, k115]) HFA.out.1 HFA.out.2 (by omega) (by decide) hB.size ?_; intro v' w' ho hg; exact hK _ _ (fun h => by cases h) (fun u _ => ho) ⟨k, hk0, hk1, hg⟩)))) ?_ rfl (RgX.keep_r (fun _ _ _ _ h hb => own_below h hb) (fun _ _ => ⟨fun h _ _ _ => absurd rfl h, fun _ h _ _ => absurd rfl h, trivial⟩)) (fun _ h => by cases h)
            refine RgX.build_cons (m := 5) (r := RgX.eq _) (RgX.one_plain (by rfl) (by (intro ax wx hk Kx hK; have k12 := hk.base 12 _ rfl rfl; have hB := hk.fact 0 0 _ rfl rfl; (try dsimp only at hB); clear hk; have hq := HX.out.atb.below hB; have c0 := hq.cell 0 _ rfl; have c1 := hq.cell 1 _ rfl; have c2 := hq.cell 2 _ rfl; have c3 := hq.cell 3 _ rfl; have c4 := hq.cell 4 _ rfl; have c5 := hq.cell 5 _ rfl; have c6 := hq.cell 6 _ rfl; have c7 := hq.cell 7 _ rfl; clear hq; go_simp; refine hK _ _ (fun h => by cases h) (fun _ _ => ?_) (Below.refl _ _); apply RgX.mk))) ?_ rfl RgX.keep_eq (fun _ h => by cases h)
            refine RgX.build_cons (m := 6) (r := (⟨fun v _ w5 => ∀ _ : Unit, SrcRow w5 v nB (flatN psB), some 6, none⟩ : RgX.Rl)) (RgX.one_plain (by rfl) (by (intro ax wx hk Kx hK; obtain ⟨v117, k117, h117⟩ := hk.dep 0 4 117 _ rfl rfl rfl; (first | (replace h117 := h117 9 undef rfl rfl; first | (cases (h117 : v117 = _)) | (obtain ⟨rfl, h117⟩ := h117) | skip) | skip); have hB := hk.fact 0 0 _ rfl rfl; (try dsimp only at hB); clear hk; go_simp; refine (HCB.out _ hB).mono ?_; rintro e w' ⟨hb, v, rfl, hs⟩; exact hK _ _ (fun h => by cases h) (fun u _ _ => hs) hb))) ?_ rfl (RgX.keep_r (fun _ _ _ _ h hb _ => src_below (h ()) hb) (fun _ _ => ⟨fun _ _ _ h => absurd ⟨1, rfl⟩ h, fun _ h _ _ => absurd rfl h, trivial⟩)) (fun _ h => by cases h)
            refine RgX.build_cons (m := 7) (r := (⟨fun v _ w5 => w5.ownsRow X.heap.size 29 8 v (0 + nA + nB) ([] ++ flatN psA ++ flatN psB), none, none⟩ : RgX.Rl)) (RgX.one_plain (by rfl) (by (intro ax wx hk Kx hK; obtain ⟨v116, k116, h116⟩ := hk.dep 0 3 116 _ rfl rfl rfl; (first | (replace h116 := h116 9 undef rfl rfl; first | (cases (h116 : v116 = _)) | (obtain ⟨rfl, h116⟩ := h116) | skip) | skip); obtain ⟨v118, k118, h118⟩ := hk.dep 0 5 118 _ rfl rfl rfl; (first | (replace h118 := h118 9 undef rfl rfl; first | (cases (h118 : v118 = _)) | (obtain ⟨rfl, h118⟩ := h118) | skip) | skip); have hB := hk.fact 0 0 _ rfl rfl; (try dsimp only at hB); clear hk; (refine wp_appRow (.tmp 116) (.tmp 118) 27 rfl X.heap.size 29 _ 8 80 Try.underlying27 infoNode rfl (by decide) _ _ (0 + nA) nB _ (flatN psB) h116 (h118 ()) (by simp [Act.eval, k116]) (by simp [Act.eval, k118]) HFB.out.1 HFB.out.2 (by omega) (by decide) hB.size ?_; intro v' w' ho hg; exact hK _ _ (fun h => by cases h) (fun u _ => ho) ((Below.refl _ _).grown hg hB.size (fun q hq => own_base h116 q hq)))))) ?_ rfl (RgX.keep_r (fun _ _ _ _ h hb => own_below h hb) (fun _ _ => ⟨fun _ _ _ h => absurd ⟨1, rfl⟩ h, fun h _ _ _ => absurd rfl h, trivial⟩)) (fun _ h => by cases h)
            refine RgX.build_cons (m := 8) (r := (⟨fun v _ w5 => w5.ownsRow X.heap.size 29 8 v (0 + nA + nB) ([] ++ flatN psA ++ flatN psB), none, none⟩ : RgX.Rl)) (RgX.one_plain (by rfl) (by (intro ax wx hk Kx hK; obtain ⟨v119, k119, h119⟩ := hk.dep 0 6 119 _ rfl rfl rfl; (first | (replace h119 := h119 9 undef rfl rfl; first | (cases (h119 : v119 = _)) | (obtain ⟨rfl, h119⟩ := h119) | skip) | skip); have hB := hk.fact 0 0 _ rfl rfl; (try dsimp only at hB); clear hk; (go_simp; exact hK _ _ (fun h => by cases h) (fun u _ => h119) (Below.refl _ _))))) ?_ rfl (RgX.keep_r (fun _ _ _ _ h hb => own_below h hb) (fun _ _ => ⟨fun _ _ _ h => absurd ⟨1, rfl⟩ h, fun _ _ _ h => absurd ⟨1, rfl⟩ h, trivial⟩)) (fun _ h => by cases h)
            refine RgX.build_end fun wx hj => ?_
            have hB := hj 0 _ rfl rfl
            clear hj
            first | refine RgX.fin_eq rfl ?_ | refine RgX.fin_any rfl fun v113 h113 => ?_
            refine RgX.fin_eq rfl ?_
            first | refine RgX.fin_eq rfl ?_ | refine RgX.fin_any rfl fun v115 h115 => ?_
            first | refine RgX.fin_eq rfl ?_ | refine RgX.fin_any rfl fun v116 h116 => ?_
            refine RgX.fin_eq rfl ?_
            first | refine RgX.fin_eq rfl ?_ | refine RgX.fin_any rfl fun v118 h118 => ?_
            first | refine RgX.fin_eq rfl ?_ | refine RgX.fin_any rfl fun v119 h119 => ?_
            first | refine RgX.fin_eq rfl ?_ | refine RgX.fin_any rfl fun v23 h23 => ?_
            refine RgX.fin_nil ?_
            simp only [List.set_cons_zero, List.set_cons_succ]
            have ho := h23 rfl undef rfl
            have HBX := Lib.hid hB
            have hox : wx.ownsRow X.heap.size 29 8 v23 dn2 (flatN (psA ++ psB)) := by
              rw [flatN_app]
              have e : 0 + nA + nB = dn2 := by omega
              rw [e, List.nil_append] at ho
              exact ho
            have HL3 : Hid (2 ≤ dn2) := Lib.hid (by rw [HLK.out]; exact HL2.out)
            have hpn : psA ++ psB ≠ [] := fun e => by
              have h1 := HL3.out
              have h2 := HPS2.out
              rw [e] at h2
              rw [HLK.out, ← h2] at h1
              simp at h1
            obtain ⟨xb2, xc2, hv23, hxc, -, -, -, hxr⟩ := own_kids hox (fun x hx => KAt.keep (D' := fun _ => True) (fun b hb => HBX.out.block b hb) (fun _ _ => trivial) x.1 x.2 (HKS.out x hx)) hpn
            have hpl : (psA ++ psB).length = dn2 := by
              rw [HLK.out, ← HPS2.out, List.length_map]
            rw [hpl] at hv23 hxc
            subst hv23
            rw [HPS2.out] at hxr
            have HXR : Hid (NAt wx (altT L) (.slice (some ⟨xb2, 0, none⟩) dn2 xc2)) := Lib.hid (by
              have h1 : L ≠ [] := fun e => by
                have h2 := HL3.out
                rw [HLK.out, e] at h2
                simp at h2
              have h2 := HLK.out
              have := kat_row (c := xc2) h1 (by omega) (by omega) hxr
              rw [← h2] at this
              exact this)
            have HHX := Lib.hid (HX.out.below HBX.out); have HKDX := Lib.hid (HKX.out.below HBX.out); have HADX := Lib.hid (HAX.out.below HBX.out)
            clear ho hox hB hxr hpn hpl HX HKX HAX h23 h113 h115 h116 h118 h119 HCA HCB HFA HFB HPS2 HKS hab HBX
            have z0 : wx.cell? ⟨gd, 0, none⟩ = some (.int .i64 3) := HADX.out.cell 0 _ rfl
            have z7 : wx.cell? ⟨gd, 7, none⟩ = some (.slice da2 dn2 dc2) := HADX.out.cell 7 _ rfl
            have e0 := E0.out wx
            go_wp2_with fail
            clear z0 z7 e0
            go_loopw [24] (fun i wr => ∃ j : Nat, j ≤ dn2 ∧ i = .int .i64 j ∧ Below wx.heap.size wx wr) (fun i _ => dn2 - (intOf i).toNat)
            case atStart => exact ⟨0, Nat.zero_le _, rfl, Below.refl _ _⟩
            case round =>
              obtain ⟨j, hj, rfl, hb⟩ := hrel
              have HBr := Lib.hid hb
              clear hb
              by_cases hlt : j < dn2
              · have hltI : (j : Int) < dn2 := by omega
                have hlk : j < L.length := by have := HLK.out; omega
                obtain ⟨p1, o1, c1, he1, hc1, op', f', mn', mx', kids', xa9, xc9, ht, h8, hn1⟩ := kid_at HXR.out (List.getElem?_eq_getElem hlk)
                obtain ⟨p2, o2, c2, he2, hc2, op2, f2, mn2, mx2, kids2, xa8, xc8, ht2, g8, hn2⟩ := kid_at HKDX.out (List.getElem?_eq_getElem hlk)
                injection he1 with i1 i2 i3
                injection i1 with i1
                injection i1 with i4 i5
                subst i4; subst i5; subst i3
                injection he2 with i1 i6 i3
                subst i1; subst i3
                rw [ht] at ht2
                injection ht2 with i1 i2 i3 i4 i5
                subst i1; subst i2; subst i3; subst i4; subst i5
                rw [ht] at hn1 hn2
                have HI := Lib.hid (fun (w1 : World) (hb : Below wx.heap.size wx w1) => same_any _ hn1 w1 _ _ (hn1.below hb) (hn2.below hb))
                unfold nodeV at HI
                dsimp only at HI
                have HPRE : Hid (∀ wy : World, Below wx.heap.size wx wy → Cell8 wy xb2 (0 + j * 8) op' f' mn' mx' (.slice xa9 kids'.length xc9) ∧ Cell8 wy p2 (o2 + j * 8) op' f' mn' mx' (.slice xa8 kids'.length xc8) ∧ wy.cell? ⟨gd, 7, none⟩ = some (.slice (some ⟨p2, o2, none⟩) dn2 dc2)) := Lib.hid (fun wy hb =>
                  ⟨h8.below hb, g8.below hb, (HADX.out.below hb).cell 7 _ rfl⟩)
                obtain ⟨kn, hkn⟩ : ∃ kn, kn = kids'.length := ⟨_, rfl⟩
                rw [← hkn] at HPRE HI
                have hc2' : dn2 ≤ dc2 := by have := HLK.out; omega
                clear hkn ht hn1 hn2 h8 g8 hc1 hc2 i2 i6
                rw [Nat.zero_add] at HPRE
                go_upto_region 22 with (fail)
                refine Rg.wp_region_each (by kernel_rfl) (fun w' => Below wx.heap.size wx w') (fun w1 w2 h hb => h.trans (hb.mono h.size)) (by kernel_rfl) (by kernel_rfl) (HBr.out) ?_
                show Rg.Build _ _ _ _ _ 0 [_, _, _, _, _, _, _, _, _, _, _] []
                refine Rg.build_cons (m := 1) (r := Rg.eq _) (Rg.one_plain (by rfl) (by (intro ax wx hk Kx hK; have k23 := hk.base 23 _ rfl rfl; have hj := hk.j; clear hk; go_simp; refine hK _ _ ?_ (Below.refl _ _); apply Rg.mk))) ?_ rfl
                refine Rg.build_cons (m := 2) (r := Rg.eq _) (Rg.one_plain (by rfl) (by (intro ax wx hk Kx hK; have k24 := hk.base 24 _ rfl rfl; have hj := hk.j; clear hk; go_simp; refine hK _ _ ?_ (Below.refl _ _); apply Rg.mk))) ?_ rfl
                refine Rg.build_cons (m := 3) (r := Rg.eq _) (Rg.one_plain (by rfl) (by (intro ax wx hk Kx hK; obtain ⟨v141, k141, h141⟩ := hk.dep 0 141 _ rfl rfl rfl; (first | (cases (h141 : v141 = _)) | (obtain ⟨rfl, h141⟩ := h141) | skip); obtain ⟨v142, k142, h142⟩ := hk.dep 1 142 _ rfl rfl rfl; (first | (cases (h142 : v142 = _)) | (obtain ⟨rfl, h142⟩ := h142) | skip); have hj := hk.j; clear hk; go_simp; refine hK _ _ ?_ (Below.refl _ _); apply Rg.mk))) ?_ rfl
                refine Rg.build_cons (m := 4) (r := Rg.eq _) (Rg.one_plain (by rfl) (by (intro ax wx hk Kx hK; obtain ⟨v143, k143, h143⟩ := hk.dep 2 143 _ rfl rfl rfl; (first | (cases (h143 : v143 = _)) | (obtain ⟨rfl, h143⟩ := h143) | skip); have hj := hk.j; clear hk; obtain ⟨⟨q0, q1, q2, q3, q4, q5, q6, q7⟩, ⟨g0, g1, g2, g3, g4, g5, g6, g7⟩, r1⟩ := HPRE.out wx hj; go_simp; refine hK _ _ ?_ (Below.refl _ _); apply Rg.mk))) ?_ rfl
                refine Rg.build_cons (m := 5) (r := Rg.eq _) (Rg.one_plain (by rfl) (by (intro ax wx hk Kx hK; have k21 := hk.base 21 _ rfl rfl; have hj := hk.j; clear hk; go_simp; refine hK _ _ ?_ (Below.refl _ _); apply Rg.mk))) ?_ rfl
                refine Rg.build_cons (m := 6) (r := Rg.eq _) (Rg.one_plain (by rfl) (by (intro ax wx hk Kx hK; obtain ⟨v145, k145, h145⟩ := hk.dep 4 145 _ rfl rfl rfl; (first | (cases (h145 : v145 = _)) | (obtain ⟨rfl, h145⟩ := h145) | skip); have hj := hk.j; clear hk; obtain ⟨⟨q0, q1, q2, q3, q4, q5, q6, q7⟩, ⟨g0, g1, g2, g3, g4, g5, g6, g7⟩, r1⟩ := HPRE.out wx hj; go_simp; refine hK _ _ ?_ (Below.refl _ _); apply Rg.mk))) ?_ rfl
                refine Rg.build_cons (m := 7) (r := Rg.eq _) (Rg.one_plain (by rfl) (by (intro ax wx hk Kx hK; have k24 := hk.base 24 _ rfl rfl; have hj := hk.j; clear hk; go_simp; refine hK _ _ ?_ (Below.refl _ _); apply Rg.mk))) ?_ rfl
                refine Rg.build_cons (m := 8) (r := Rg.eq _) (Rg.one_plain (by rfl) (by (intro ax wx hk Kx hK; obtain ⟨v146, k146, h146⟩ := hk.dep 5 146 _ rfl rfl rfl; (first | (cases (h146 : v146 = _)) | (obtain ⟨rfl, h146⟩ := h146) | skip); obtain ⟨v147, k147, h147⟩ := hk.dep 6 147 _ rfl rfl rfl; (first | (cases (h147 : v147 = _)) | (obtain ⟨rfl, h147⟩ := h147) | skip); have hj := hk.j; clear hk; go_simp; refine hK _ _ ?_ (Below.refl _ _); apply Rg.mk))) ?_ rfl
                refine Rg.build_cons (m := 9) (r := Rg.eq _) (Rg.one_plain (by rfl) (by (intro ax wx hk Kx hK; obtain ⟨v148, k148, h148⟩ := hk.dep 7 148 _ rfl rfl rfl; (first | (cases (h148 : v148 = _)) | (obtain ⟨rfl, h148⟩ := h148) | skip); have hj := hk.j; clear hk; obtain ⟨⟨q0, q1, q2, q3, q4, q5, q6, q7⟩, ⟨g0, g1, g2, g3, g4, g5, g6, g7⟩, r1⟩ := HPRE.out wx hj; go_simp; refine hK _ _ ?_ (Below.refl _ _); apply Rg.mk))) ?_ rfl
                refine Rg.build_cons (m := 10) (r := Rg.eq _) (Rg.one_plain (by rfl) (by (intro ax wx hk Kx hK; obtain ⟨v144, k144, h144⟩ := hk.dep 3 144 _ rfl rfl rfl; (first | (cases (h144 : v144 = _)) | (obtain ⟨rfl, h144⟩ := h144) | skip); obtain ⟨v149, k149, h149⟩ := hk.dep 8 149 _ rfl rfl rfl; (first | (cases (h149 : v149 = _)) | (obtain ⟨rfl, h149⟩ := h149) | skip); have hj := hk.j; clear hk; go_simp; refine (HI.out _ hj).mono ?_; rintro e w' ⟨rfl, hb⟩; refine hK _ _ ?_ hb; apply Rg.mk))) ?_ rfl
                refine Rg.build_cons (m := 11) (r := Rg.eq _) (Rg.one_plain (by rfl) (by (intro ax wx hk Kx hK; obtain ⟨v150, k150, h150⟩ := hk.dep 9 150 _ rfl rfl rfl; (first | (cases (h150 : v150 = _)) | (obtain ⟨rfl, h150⟩ := h150) | skip); have hj := hk.j; clear hk; go_simp; refine hK _ _ ?_ (Below.refl _ _); apply Rg.mk))) ?_ rfl
                refine Rg.build_end fun wx hj => ?_
                refine Rg.fin_eq rfl ?_
                refine Rg.fin_eq rfl ?_
                refine Rg.fin_eq rfl ?_
                refine Rg.fin_eq rfl ?_
                refine Rg.fin_eq rfl ?_
                refine Rg.fin_eq rfl ?_
                refine Rg.fin_eq rfl ?_
                refine Rg.fin_eq rfl ?_
                refine Rg.fin_eq rfl ?_
                refine Rg.fin_eq rfl ?_
                refine Rg.fin_eq rfl ?_
                refine Rg.fin_nil ?_
                simp only [List.set_cons_zero, List.set_cons_succ]
                have HJ := Lib.hid hj
                clear hj
                go_wp2_with fail
                exact ⟨⟨j + 1, by omega, by go_num, HJ.out⟩, by simp [intOf]; omega⟩
              · obtain rfl : j = dn2 := by omega
                have HHR : Hid (Two w wr ga gb oa ob fa fb ma mb xa xb la lb (.slice aa an ac) (.slice ba bn bc)) := Lib.hid (HHX.out.below HBr.out)
                clear HHX HKDX HADX HXR HBr
                cases b2 with
                | false =>
                  obtain ⟨b, rfl⟩ : ∃ b, er2 = spotV b := by have := HER2.out; rwa [if_neg (by decide)] at this
                  have e0 := E0.out wr; have e1 := E1.out b wr
                  unfold spotV at e1 ⊢
                  go_wp2_with fail
                  go_returns
                  exact ⟨rfl, (HHR).out.bel⟩
                | true =>
                  obtain rfl : er2 = .nilIface := by have := HER2.out; rwa [if_pos rfl] at this
                  have HBO : Hid (∀ w, Calls Try.prog 31 #[.string ({ data := #[40] } ++ s ++ { data := #[41, 124, 40] } ++ t ++ { data := #[41] })] w fun e w' => Below w.heap.size w w' ∧ ∃ a n c, e = .returned (.tuple #[nodeV (altT [.node oa fa ma xa la, .node ob fb mb xb lb]) (.slice a n c), .nilIface]) ∧ NAt w' (altT [.node oa fa ma xa la, .node ob fb mb xb lb]) (.slice a n c)) := Lib.hid (fun w => by
                    obtain ⟨q, hq⟩ := G3.out rfl
                    refine parse_ok ?_ hq w
                    have := HLS.out; have := HLT.out
                    simp only [ByteArray.size_append]
                    have e0 : c40.size = 1 := rfl
                    have e : (⟨#[40]⟩ : ByteArray).size = 1 := rfl
                    have e' : (⟨#[41]⟩ : ByteArray).size = 1 := rfl
                    have e'' : (⟨#[41, 124, 40]⟩ : ByteArray).size = 3 := rfl
                    omega)
                  have e0 := E0.out wr
                  go_wp2_with fail
                  refine (HBO.out _).mono ?_
                  rintro e9 wA ⟨hbA, yA, yn, yc, rfl, hkA⟩
                  obtain ⟨hyn, yk, yo, hyA, hyc, o3, f3, m3, x3, l3, ka3, kc3, o4, f4, m4, x4, l4, ka4, kc4, i3, i4, h83, h84, hn3, hn4⟩ := kids_two hkA
                  subst hyn; subst hyA
                  injection i3 with j1 j2 j3 j4 j5
                  subst j1; subst j2; subst j3; subst j4; subst j5
                  injection i4 with j1 j2 j3 j4 j5
                  subst j1; subst j2; subst j3; subst j4; subst j5
                  have HA := Lib.hid ((HHR).out.below hbA)
                  have HPA : Hid (∀ wy, Below wA.heap.size wA wy → Cell8 wy yk yo oa fa ma xa (.slice ka3 la.length kc3) ∧ Cell8 wy yk (yo + 8) ob fb mb xb (.slice ka4 lb.length kc4) ∧ NAt wy (.node oa fa ma xa la) (.slice ka3 la.length kc3) ∧ NAt wy (.node ob fb mb xb lb) (.slice ka4 lb.length kc4)) := Lib.hid (fun wy hb => ⟨h83.below hb, h84.below hb, hn3.below hb, hn4.below hb⟩)
                  clear hbA hkA h83 h84 hn3 hn4 e0 HBO
                  generalize la.length = na3 at HPA
                  generalize lb.length = nb3 at HPA
                  unfold altT
                  rw [nodeV_emp3]
                  go_upto_region 28 with (fail)
                  obtain ⟨Y, hY⟩ : ∃ V : World, V = wA.alloc (.cells #[.int .i64 3, .int .u64 0, .int .u64 0, .int .u64 0, .int .u64 0, .int .i64 0, .int .i64 0, .slice (some ⟨yk, yo, none⟩) 2 yc] 29) := ⟨_, rfl⟩
                  rw [← hY]
                  have HY : Hid (Two w Y ga gb oa ob fa fb ma mb xa xb la lb (.slice aa an ac) (.slice ba bn bc)) := Lib.hid (by rw [hY]; exact HA.out.alloc _)
                  have HYB : Hid (Below wA.heap.size wA Y) := Lib.hid (by rw [hY]; go_grown)
                  have HPY : Hid (∀ wy, Below Y.heap.size Y wy → Cell8 wy yk yo oa fa ma xa (.slice ka3 na3 kc3) ∧ Cell8 wy yk (yo + 8) ob fb mb xb (.slice ka4 nb3 kc4) ∧ NAt wy (.node oa fa ma xa la) (.slice ka3 na3 kc3) ∧ NAt wy (.node ob fb mb xb lb) (.slice ka4 nb3 kc4)) := Lib.hid (fun wy hb => HPA.out wy (HYB.out.trans (hb.mono HYB.out.size)))
                  have HYA : Hid (AtG Y wA.heap.size 29 #[.int .i64 3, .int .u64 0, .int .u64 0, .int .u64 0, .int .u64 0, .int .i64 0, .int .i64 0, .slice (some ⟨yk, yo, none⟩) 2 yc]) := Lib.hid (by rw [hY]; exact AtG.new _ _ _)
                  clear hY HA HPA HYB
                  generalize wA.heap.size = gy at *
                  have z0 : Y.cell? ⟨gy, 0, none⟩ = some (.int .i64 3) := HYA.out.cell 0 _ rfl
                  have z7 : Y.cell? ⟨gy, 7, none⟩ = some (.slice (some ⟨yk, yo, none⟩) 2 yc) := HYA.out.cell 7 _ rfl
                  have e0 := E0.out Y
                  go_upto_region 30 with (fail)
                  clear z0 z7 e0
                  have HSA := Lib.hid (fun w kv kv' h1 h2 => HSM.out w kv kv' h1 h2)
                  have HSB := Lib.hid (fun w kv kv' h1 h2 => HSMB.out w kv kv' h1 h2)
                  unfold nodeV at HSA HSB
                  dsimp only at HSA HSB
                  refine Rg.wp_region_each (by kernel_rfl) (fun w' => Below Y.heap.size Y w') (fun w1 w2 h hb => h.trans (hb.mono h.size)) (by kernel_rfl) (by kernel_rfl) (Below.refl _ _) ?_
                  show Rg.Build _ _ _ _ _ 0 [_, _, _, _, _, _, _] []
                  refine Rg.build_cons (m := 1) (r := Rg.eq _) (Rg.one_plain (by rfl) (by (intro ax wx hk Kx hK; have k26 := hk.base 26 _ rfl rfl; have hj := hk.j; clear hk; go_simp; refine hK _ _ ?_ (Below.refl _ _); apply Rg.mk))) ?_ rfl
                  refine Rg.build_cons (m := 2) (r := Rg.eq _) (Rg.one_plain (by rfl) (by (intro ax wx hk Kx hK; obtain ⟨v183, k183, h183⟩ := hk.dep 0 183 _ rfl rfl rfl; (first | (cases (h183 : v183 = _)) | (obtain ⟨rfl, h183⟩ := h183) | skip); have hj := hk.j; clear hk; obtain ⟨⟨q0, q1, q2, q3, q4, q5, q6, q7⟩, -, -, -⟩ := HPY.out wx hj; have z7 := (HYA.out.below hj).cell 7 _ rfl; have hq := HY.out.ata.below hj; have c0 := hq.cell 0 _ rfl; have c1 := hq.cell 1 _ rfl; have c2 := hq.cell 2 _ rfl; have c3 := hq.cell 3 _ rfl; have c4 := hq.cell 4 _ rfl; have c5 := hq.cell 5 _ rfl; have c6 := hq.cell 6 _ rfl; have c7 := hq.cell 7 _ rfl; clear hq; go_simp; refine hK _ _ ?_ (Below.refl _ _); apply Rg.mk))) ?_ rfl
                  refine Rg.build_cons (m := 3) (r := Rg.eq _) (Rg.one_plain (by rfl) (by (intro ax wx hk Kx hK; obtain ⟨v184, k184, h184⟩ := hk.dep 1 184 _ rfl rfl rfl; (first | (cases (h184 : v184 = _)) | (obtain ⟨rfl, h184⟩ := h184) | skip); have hj := hk.j; clear hk; go_simp; refine hK _ _ ?_ (Below.refl _ _); apply Rg.mk))) ?_ rfl
                  refine Rg.build_cons (m := 4) (r := Rg.eq _) (Rg.one_plain (by rfl) (by (intro ax wx hk Kx hK; obtain ⟨v185, k185, h185⟩ := hk.dep 2 185 _ rfl rfl rfl; (first | (cases (h185 : v185 = _)) | (obtain ⟨rfl, h185⟩ := h185) | skip); have hj := hk.j; clear hk; obtain ⟨⟨q0, q1, q2, q3, q4, q5, q6, q7⟩, -, -, -⟩ := HPY.out wx hj; have z7 := (HYA.out.below hj).cell 7 _ rfl; have hq := HY.out.ata.below hj; have c0 := hq.cell 0 _ rfl; have c1 := hq.cell 1 _ rfl; have c2 := hq.cell 2 _ rfl; have c3 := hq.cell 3 _ rfl; have c4 := hq.cell 4 _ rfl; have c5 := hq.cell 5 _ rfl; have c6 := hq.cell 6 _ rfl; have c7 := hq.cell 7 _ rfl; clear hq; go_simp; refine hK _ _ ?_ (Below.refl _ _); apply Rg.mk))) ?_ rfl
                  refine Rg.build_cons (m := 5) (r := Rg.eq _) (Rg.one_plain (by rfl) (by (intro ax wx hk Kx hK; have k10 := hk.base 10 _ rfl rfl; have hj := hk.j; clear hk; obtain ⟨⟨q0, q1, q2, q3, q4, q5, q6, q7⟩, -, -, -⟩ := HPY.out wx hj; have z7 := (HYA.out.below hj).cell 7 _ rfl; have hq := HY.out.ata.below hj; have c0 := hq.cell 0 _ rfl; have c1 := hq.cell 1 _ rfl; have c2 := hq.cell 2 _ rfl; have c3 := hq.cell 3 _ rfl; have c4 := hq.cell 4 _ rfl; have c5 := hq.cell 5 _ rfl; have c6 := hq.cell 6 _ rfl; have c7 := hq.cell 7 _ rfl; clear hq; go_simp; refine hK _ _ ?_ (Below.refl _ _); apply Rg.mk))) ?_ rfl
                  refine Rg.build_cons (m := 6) (r := Rg.eq _) (Rg.one_plain (by rfl) (by (intro ax wx hk Kx hK; obtain ⟨v186, k186, h186⟩ := hk.dep 3 186 _ rfl rfl rfl; (first | (cases (h186 : v186 = _)) | (obtain ⟨rfl, h186⟩ := h186) | skip); obtain ⟨v187, k187, h187⟩ := hk.dep 4 187 _ rfl rfl rfl; (first | (cases (h187 : v187 = _)) | (obtain ⟨rfl, h187⟩ := h187) | skip); have hj := hk.j; clear hk; go_simp; refine (HSA.out _ _ _ (HPY.out _ hj).2.2.1 (HY.out.na.below hj)).mono ?_; rintro e w' ⟨rfl, hb⟩; refine hK _ _ ?_ hb; apply Rg.mk))) ?_ rfl
                  refine Rg.build_cons (m := 7) (r := Rg.eq _) (Rg.one_plain (by rfl) (by (intro ax wx hk Kx hK; obtain ⟨v188, k188, h188⟩ := hk.dep 5 188 _ rfl rfl rfl; (first | (cases (h188 : v188 = _)) | (obtain ⟨rfl, h188⟩ := h188) | skip); have hj := hk.j; clear hk; go_simp; refine hK _ _ ?_ (Below.refl _ _); apply Rg.mk))) ?_ rfl
                  refine Rg.build_end fun wx hj => ?_
                  refine Rg.fin_eq rfl ?_
                  refine Rg.fin_eq rfl ?_
                  refine Rg.fin_eq rfl ?_
                  refine Rg.fin_eq rfl ?_
                  refine Rg.fin_eq rfl ?_
                  refine Rg.fin_eq rfl ?_
                  refine Rg.fin_eq rfl ?_
                  refine Rg.fin_nil ?_
                  simp only [List.set_cons_zero, List.set_cons_succ]
                  have HJ1 := Lib.hid hj
                  clear hj
                  go_upto_region 31 with (fail)
                  refine Rg.wp_region_each (by kernel_rfl) (fun w' => Below Y.heap.size Y w') (fun w1 w2 h hb => h.trans (hb.mono h.size)) (by kernel_rfl) (by kernel_rfl) (HJ1.out) ?_
                  show Rg.Build _ _ _ _ _ 0 [_, _, _, _, _, _, _] []
                  refine Rg.build_cons (m := 1) (r := Rg.eq _) (Rg.one_plain (by rfl) (by (intro ax wx hk Kx hK; have k26 := hk.base 26 _ rfl rfl; have hj := hk.j; clear hk; go_simp; refine hK _ _ ?_ (Below.refl _ _); apply Rg.mk))) ?_ rfl
                  refine Rg.build_cons (m := 2) (r := Rg.eq _) (Rg.one_plain (by rfl) (by (intro ax wx hk Kx hK; obtain ⟨v189, k189, h189⟩ := hk.dep 0 189 _ rfl rfl rfl; (first | (cases (h189 : v189 = _)) | (obtain ⟨rfl, h189⟩ := h189) | skip); have hj := hk.j; clear hk; obtain ⟨-, ⟨q0, q1, q2, q3, q4, q5, q6, q7⟩, -, -⟩ := HPY.out wx hj; have z7 := (HYA.out.below hj).cell 7 _ rfl; have hq := HY.out.atb.below hj; have c0 := hq.cell 0 _ rfl; have c1 := hq.cell 1 _ rfl; have c2 := hq.cell 2 _ rfl; have c3 := hq.cell 3 _ rfl; have c4 := hq.cell 4 _ rfl; have c5 := hq.cell 5 _ rfl; have c6 := hq.cell 6 _ rfl; have c7 := hq.cell 7 _ rfl; clear hq; go_simp; refine hK _ _ ?_ (Below.refl _ _); apply Rg.mk))) ?_ rfl
                  refine Rg.build_cons (m := 3) (r := Rg.eq _) (Rg.one_plain (by rfl) (by (intro ax wx hk Kx hK; obtain ⟨v190, k190, h190⟩ := hk.dep 1 190 _ rfl rfl rfl; (first | (cases (h190 : v190 = _)) | (obtain ⟨rfl, h190⟩ := h190) | skip); have hj := hk.j; clear hk; go_simp; refine hK _ _ ?_ (Below.refl _ _); apply Rg.mk))) ?_ rfl
                  refine Rg.build_cons (m := 4) (r := Rg.eq _) (Rg.one_plain (by rfl) (by (intro ax wx hk Kx hK; obtain ⟨v191, k191, h191⟩ := hk.dep 2 191 _ rfl rfl rfl; (first | (cases (h191 : v191 = _)) | (obtain ⟨rfl, h191⟩ := h191) | skip); have hj := hk.j; clear hk; obtain ⟨-, ⟨q0, q1, q2, q3, q4, q5, q6, q7⟩, -, -⟩ := HPY.out wx hj; have z7 := (HYA.out.below hj).cell 7 _ rfl; have hq := HY.out.atb.below hj; have c0 := hq.cell 0 _ rfl; have c1 := hq.cell 1 _ rfl; have c2 := hq.cell 2 _ rfl; have c3 := hq.cell 3 _ rfl; have c4 := hq.cell 4 _ rfl; have c5 := hq.cell 5 _ rfl; have c6 := hq.cell 6 _ rfl; have c7 := hq.cell 7 _ rfl; clear hq; go_simp; refine hK _ _ ?_ (Below.refl _ _); apply Rg.mk))) ?_ rfl
                  refine Rg.build_cons (m := 5) (r := Rg.eq _) (Rg.one_plain (by rfl) (by (intro ax wx hk Kx hK; have k12 := hk.base 12 _ rfl rfl; have hj := hk.j; clear hk; obtain ⟨-, ⟨q0, q1, q2, q3, q4, q5, q6, q7⟩, -, -⟩ := HPY.out wx hj; have z7 := (HYA.out.below hj).cell 7 _ rfl; have hq := HY.out.atb.below hj; have c0 := hq.cell 0 _ rfl; have c1 := hq.cell 1 _ rfl; have c2 := hq.cell 2 _ rfl; have c3 := hq.cell 3 _ rfl; have c4 := hq.cell 4 _ rfl; have c5 := hq.cell 5 _ rfl; have c6 := hq.cell 6 _ rfl; have c7 := hq.cell 7 _ rfl; clear hq; go_simp; refine hK _ _ ?_ (Below.refl _ _); apply Rg.mk))) ?_ rfl
                  refine Rg.build_cons (m := 6) (r := Rg.eq _) (Rg.one_plain (by rfl) (by (intro ax wx hk Kx hK; obtain ⟨v192, k192, h192⟩ := hk.dep 3 192 _ rfl rfl rfl; (first | (cases (h192 : v192 = _)) | (obtain ⟨rfl, h192⟩ := h192) | skip); obtain ⟨v193, k193, h193⟩ := hk.dep 4 193 _ rfl rfl rfl; (first | (cases (h193 : v193 = _)) | (obtain ⟨rfl, h193⟩ := h193) | skip); have hj := hk.j; clear hk; go_simp; refine (HSB.out _ _ _ (HPY.out _ hj).2.2.2 (HY.out.nb.below hj)).mono ?_; rintro e w' ⟨rfl, hb⟩; refine hK _ _ ?_ hb; apply Rg.mk))) ?_ rfl
                  refine Rg.build_cons (m := 7) (r := Rg.eq _) (Rg.one_plain (by rfl) (by (intro ax wx hk Kx hK; obtain ⟨v194, k194, h194⟩ := hk.dep 5 194 _ rfl rfl rfl; (first | (cases (h194 : v194 = _)) | (obtain ⟨rfl, h194⟩ := h194) | skip); have hj := hk.j; clear hk; go_simp; refine hK _ _ ?_ (Below.refl _ _); apply Rg.mk))) ?_ rfl
                  refine Rg.build_end fun wx hj => ?_
                  refine Rg.fin_eq rfl ?_
                  refine Rg.fin_eq rfl ?_
                  refine Rg.fin_eq rfl ?_
                  refine Rg.fin_eq rfl ?_
                  refine Rg.fin_eq rfl ?_
                  refine Rg.fin_eq rfl ?_
                  refine Rg.fin_eq rfl ?_
                  refine Rg.fin_nil ?_
                  simp only [List.set_cons_zero, List.set_cons_succ]
                  have HZ := Lib.hid (HY.out.below hj)
                  clear hj HPY HYA HJ1 HY HSB
                  go_upto_region 34 with (fail)
                  by_cases hm0 : m < 0
                  · go_wp2_with fail
                    go_returns
                    exact ⟨rfl, HZ.out.bel⟩
                  by_cases hmn : n < m
                  · go_wp2_with fail
                    go_returns
                    exact ⟨rfl, HZ.out.bel⟩
                  by_cases hn1 : n < 1
                  · go_wp2_with fail
                    go_returns
                    exact ⟨rfl, HZ.out.bel⟩
                  by_cases hn32 : 32 < n
                  · go_wp2_with fail
                    go_returns
                    exact ⟨rfl, HZ.out.bel⟩
                  obtain ⟨m', rfl⟩ := Int.eq_ofNat_of_zero_le (Int.not_lt.1 hm0)
                  obtain ⟨n', rfl⟩ := Int.eq_ofNat_of_zero_le (a := n) (by omega)
                  have hm33 : m' < 33 := by omega
                  have hn33 : n' < 33 := by omega
                  have HRE : Hid (∀ w, Calls Try.prog 31 #[.string ({ data := #[40] } ++ s ++ { data := #[41, 123] } ++ dgS m' ++ { data := #[44] } ++ dgS n' ++ { data := #[125] })] w fun e w' => Below w.heap.size w w' ∧ ∃ a n c, e = .returned (.tuple #[nodeV (repT (m' : Int) (n' : Int) (.node oa fa ma xa la)) (.slice a n c), .nilIface]) ∧ NAt w' (repT (m' : Int) (n' : Int) (.node oa fa ma xa la)) (.slice a n c)) := Lib.hid (fun w => by
                    obtain ⟨q, hq⟩ := G4.out m' n' (by omega) (by omega) (by omega)
                    refine parse_ok ?_ hq w
                    have := HLS.out
                    have z1 := dg_size hm33
                    have z2 := dg_size hn33
                    simp only [ByteArray.size_append]
                    have e0 : c40.size = 1 := rfl
                    have e : (⟨#[44]⟩ : ByteArray).size = 1 := rfl
                    have e' : (⟨#[125]⟩ : ByteArray).size = 1 := rfl
                    have e'' : (⟨#[41, 123]⟩ : ByteArray).size = 2 := rfl
                    omega)
                  have HOP : Hid (∀ w, Calls Try.prog 31 #[.string ({ data := #[40] } ++ s ++ { data := #[41, 63] })] w fun e w' => Below w.heap.size w w' ∧ ∃ a n c, e = .returned (.tuple #[nodeV (repT 0 1 (.node oa fa ma xa la)) (.slice a n c), .nilIface]) ∧ NAt w' (repT 0 1 (.node oa fa ma xa la)) (.slice a n c)) := Lib.hid (fun w => by
                    obtain ⟨q, hq⟩ := G5.out
                    refine parse_ok ?_ hq w
                    have := HLS.out
                    simp only [ByteArray.size_append]
                    have e0 : c40.size = 1 := rfl
                    have e'' : (⟨#[41, 63]⟩ : ByteArray).size = 2 := rfl
                    omega)
                  clear G3 G4 G5
                  have zm := (dg_size hm33).2
                  have zn := (dg_size hn33).2
                  go_wp2_with fail
                  refine (dgs_any m' hm33 _).mono ?_
                  rintro e9 wB ⟨rfl, hbB⟩
                  have HZB := Lib.hid (HZ.out.below hbB)
                  clear hbB HZ
                  go_wp2_with fail
                  refine (dgs_any n' hn33 _).mono ?_
                  rintro e9 wC ⟨rfl, hbC⟩
                  have HZC := Lib.hid (HZB.out.below hbC)
                  clear hbC HZB
                  go_wp2_with fail
                  refine (HRE.out _).mono ?_
                  rintro e9 wD ⟨hbD, rA, rn, rc, rfl, hkD⟩
                  obtain ⟨hrn, rk, ro, hrA, hrc, o5, f5, m5, x5, l5, ka5, kc5, i5, h85, hn5⟩ := kids_one hkD
                  subst hrn; subst hrA
                  injection i5 with j1 j2 j3 j4 j5
                  subst j1; subst j2; subst j3; subst j4; subst j5
                  have HZD := Lib.hid (HZC.out.below hbD)
                  have HPD : Hid (∀ wy, Below wD.heap.size wD wy → Cell8 wy rk ro oa fa ma xa (.slice ka5 la.length kc5) ∧ NAt wy (.node oa fa ma xa la) (.slice ka5 la.length kc5)) := Lib.hid (fun wy hb => ⟨h85.below hb, hn5.below hb⟩)
                  clear hbD hkD h85 hn5 HRE HZC
                  generalize la.length = na5 at HPD
                  unfold repT
                  rw [nodeV_emp3]
                  go_upto_region 37 with (fail)
                  obtain ⟨U, hU⟩ : ∃ V : World, V = wD.alloc (.cells #[.int .i64 4, .int .u64 0, .int .u64 0, .int .u64 0, .int .u64 0, .int .i64 (m' : Int), .int .i64 (n' : Int), .slice (some ⟨rk, ro, none⟩) 1 rc] 29) := ⟨_, rfl⟩
                  rw [← hU]
                  have HU : Hid (Two w U ga gb oa ob fa fb ma mb xa xb la lb (.slice aa an ac) (.slice ba bn bc)) := Lib.hid (by rw [hU]; exact HZD.out.alloc _)
                  have HPU : Hid (∀ wy, Below U.heap.size U wy → Cell8 wy rk ro oa fa ma xa (.slice ka5 na5 kc5) ∧ NAt wy (.node oa fa ma xa la) (.slice ka5 na5 kc5)) := Lib.hid (fun wy hb => HPD.out wy (by
                    have h1 : Below wD.heap.size wD U := by rw [hU]; go_grown
                    exact h1.trans (hb.mono h1.size)))
                  have HAU : Hid (AtG U wD.heap.size 29 #[.int .i64 4, .int .u64 0, .int .u64 0, .int .u64 0, .int .u64 0, .int .i64 (m' : Int), .int .i64 (n' : Int), .slice (some ⟨rk, ro, none⟩) 1 rc]) := Lib.hid (by rw [hU]; exact AtG.new _ _ _)
                  clear hU HZD HPD
                  generalize wD.heap.size = gr at *
                  go_wp2_with fail
                  refine (HOP.out _).mono ?_
                  rintro e9 wE ⟨hbE, qA, qn, qc, rfl, hkE⟩
                  obtain ⟨hqn, qk, qo, hqA, hqc, o6, f6, m6, x6', l6, ka6, kc6, i6, h86, hn6⟩ := kids_one hkE
                  subst hqn; subst hqA
                  injection i6 with j1 j2 j3 j4 j5
                  subst j1; subst j2; subst j3; subst j4; subst j5
                  have HZE := Lib.hid (HU.out.below hbE)
                  have HPE : Hid (∀ wy, Below wE.heap.size wE wy → (Cell8 wy qk qo oa fa ma xa (.slice ka6 la.length kc6) ∧ NAt wy (.node oa fa ma xa la) (.slice ka6 la.length kc6)) ∧ (Cell8 wy rk ro oa fa ma xa (.slice ka5 na5 kc5) ∧ NAt wy (.node oa fa ma xa la) (.slice ka5 na5 kc5)) ∧ AtG wy gr 29 #[.int .i64 4, .int .u64 0, .int .u64 0, .int .u64 0, .int .u64 0, .int .i64 (m' : Int), .int .i64 (n' : Int), .slice (some ⟨rk, ro, none⟩) 1 rc]) := Lib.hid (fun wy hb => ⟨⟨h86.below hb, hn6.below hb⟩, HPU.out wy (hbE.trans (hb.mono hbE.size)), (HAU.out.below hbE).below hb⟩)
                  clear hbE hkE h86 hn6 HOP HU HPU HAU
                  generalize la.length = na6 at HPE
                  unfold repT
                  rw [nodeV_emp3]
                  go_upto_region 38 with (fail)
                  obtain ⟨F, hF⟩ : ∃ V : World, V = wE.alloc (.cells #[.int .i64 4, .int .u64 0, .int .u64 0, .int .u64 0, .int .u64 0, .int .i64 0, .int .i64 1, .slice (some ⟨qk, qo, none⟩) 1 qc] 29) := ⟨_, rfl⟩
                  rw [← hF]
                  have HF : Hid (Two w F ga gb oa ob fa fb ma mb xa xb la lb (.slice aa an ac) (.slice ba bn bc)) := Lib.hid (by rw [hF]; exact HZE.out.alloc _)
                  have HAF : Hid (AtG F wE.heap.size 29 #[.int .i64 4, .int .u64 0, .int .u64 0, .int .u64 0, .int .u64 0, .int .i64 0, .int .i64 1, .slice (some ⟨qk, qo, none⟩) 1 qc]) := Lib.hid (by rw [hF]; exact AtG.new _ _ _)
                  have HPF : Hid (∀ wy, Below F.heap.size F wy → (Cell8 wy qk qo oa fa ma xa (.slice ka6 na6 kc6) ∧ NAt wy (.node oa fa ma xa la) (.slice ka6 na6 kc6)) ∧ (Cell8 wy rk ro oa fa ma xa (.slice ka5 na5 kc5) ∧ NAt wy (.node oa fa ma xa la) (.slice ka5 na5 kc5)) ∧ AtG wy gr 29 #[.int .i64 4, .int .u64 0, .int .u64 0, .int .u64 0, .int .u64 0, .int .i64 (m' : Int), .int .i64 (n' : Int), .slice (some ⟨rk, ro, none⟩) 1 rc]) := Lib.hid (fun wy hb => HPE.out wy (by
                    have h1 : Below wE.heap.size wE F := by rw [hF]; go_grown
                    exact h1.trans (hb.mono h1.size)))
                  clear hF HZE HPE
                  generalize wE.heap.size = gq at *
                  have e0 := E0.out F
                  have z0 : F.cell? ⟨gr, 0, none⟩ = some (.int .i64 4) := (HPF.out F (Below.refl _ _)).2.2.cell 0 _ rfl
                  have z7 : F.cell? ⟨gr, 7, none⟩ = some (.slice (some ⟨rk, ro, none⟩) 1 rc) := (HPF.out F (Below.refl _ _)).2.2.cell 7 _ rfl
                  have y0 : F.cell? ⟨gq, 0, none⟩ = some (.int .i64 4) := HAF.out.cell 0 _ rfl
                  have y7 : F.cell? ⟨gq, 7, none⟩ = some (.slice (some ⟨qk, qo, none⟩) 1 qc) := HAF.out.cell 7 _ rfl
                  go_upto_region 40 with (fail)
                  clear z0 z7 y0 y7 e0
                  refine Rg.wp_region_each (by kernel_rfl) (fun w' => Below F.heap.size F w') (fun w1 w2 h hb => h.trans (hb.mono h.size)) (by kernel_rfl) (by kernel_rfl) (Below.refl _ _) ?_
                  show Rg.Build _ _ _ _ _ 0 [_, _, _, _, _, _, _] []
                  refine Rg.build_cons (m := 1) (r := Rg.eq _) (Rg.one_plain (by rfl) (by (intro ax wx hk Kx hK; have k30 := hk.base 30 _ rfl rfl; have hj := hk.j; clear hk; go_simp; refine hK _ _ ?_ (Below.refl _ _); apply Rg.mk))) ?_ rfl
                  refine Rg.build_cons (m := 2) (r := Rg.eq _) (Rg.one_plain (by rfl) (by (intro ax wx hk Kx hK; obtain ⟨v267, k267, h267⟩ := hk.dep 0 267 _ rfl rfl rfl; (first | (cases (h267 : v267 = _)) | (obtain ⟨rfl, h267⟩ := h267) | skip); have hj := hk.j; clear hk; obtain ⟨-, ⟨⟨q0, q1, q2, q3, q4, q5, q6, q7⟩, -⟩, hr⟩ := HPF.out wx hj; have z7 := hr.cell 7 _ rfl; have hq := HF.out.ata.below hj; have c0 := hq.cell 0 _ rfl; have c1 := hq.cell 1 _ rfl; have c2 := hq.cell 2 _ rfl; have c3 := hq.cell 3 _ rfl; have c4 := hq.cell 4 _ rfl; have c5 := hq.cell 5 _ rfl; have c6 := hq.cell 6 _ rfl; have c7 := hq.cell 7 _ rfl; clear hq hr; go_simp; refine hK _ _ ?_ (Below.refl _ _); apply Rg.mk))) ?_ rfl
                  refine Rg.build_cons (m := 3) (r := Rg.eq _) (Rg.one_plain (by rfl) (by (intro ax wx hk Kx hK; obtain ⟨v268, k268, h268⟩ := hk.dep 1 268 _ rfl rfl rfl; (first | (cases (h268 : v268 = _)) | (obtain ⟨rfl, h268⟩ := h268) | skip); have hj := hk.j; clear hk; go_simp; refine hK _ _ ?_ (Below.refl _ _); apply Rg.mk))) ?_ rfl
                  refine Rg.build_cons (m := 4) (r := Rg.eq _) (Rg.one_plain (by rfl) (by (intro ax wx hk Kx hK; obtain ⟨v269, k269, h269⟩ := hk.dep 2 269 _ rfl rfl rfl; (first | (cases (h269 : v269 = _)) | (obtain ⟨rfl, h269⟩ := h269) | skip); have hj := hk.j; clear hk; obtain ⟨-, ⟨⟨q0, q1, q2, q3, q4, q5, q6, q7⟩, -⟩, hr⟩ := HPF.out wx hj; have z7 := hr.cell 7 _ rfl; have hq := HF.out.ata.below hj; have c0 := hq.cell 0 _ rfl; have c1 := hq.cell 1 _ rfl; have c2 := hq.cell 2 _ rfl; have c3 := hq.cell 3 _ rfl; have c4 := hq.cell 4 _ rfl; have c5 := hq.cell 5 _ rfl; have c6 := hq.cell 6 _ rfl; have c7 := hq.cell 7 _ rfl; clear hq hr; go_simp; refine hK _ _ ?_ (Below.refl _ _); apply Rg.mk))) ?_ rfl
                  refine Rg.build_cons (m := 5) (r := Rg.eq _) (Rg.one_plain (by rfl) (by (intro ax wx hk Kx hK; have k10 := hk.base 10 _ rfl rfl; have hj := hk.j; clear hk; obtain ⟨-, ⟨⟨q0, q1, q2, q3, q4, q5, q6, q7⟩, -⟩, hr⟩ := HPF.out wx hj; have z7 := hr.cell 7 _ rfl; have hq := HF.out.ata.below hj; have c0 := hq.cell 0 _ rfl; have c1 := hq.cell 1 _ rfl; have c2 := hq.cell 2 _ rfl; have c3 := hq.cell 3 _ rfl; have c4 := hq.cell 4 _ rfl; have c5 := hq.cell 5 _ rfl; have c6 := hq.cell 6 _ rfl; have c7 := hq.cell 7 _ rfl; clear hq hr; go_simp; refine hK _ _ ?_ (Below.refl _ _); apply Rg.mk))) ?_ rfl
                  refine Rg.build_cons (m := 6) (r := Rg.eq _) (Rg.one_plain (by rfl) (by (intro ax wx hk Kx hK; obtain ⟨v270, k270, h270⟩ := hk.dep 3 270 _ rfl rfl rfl; (first | (cases (h270 : v270 = _)) | (obtain ⟨rfl, h270⟩ := h270) | skip); obtain ⟨v271, k271, h271⟩ := hk.dep 4 271 _ rfl rfl rfl; (first | (cases (h271 : v271 = _)) | (obtain ⟨rfl, h271⟩ := h271) | skip); have hj := hk.j; clear hk; go_simp; refine (HSA.out _ _ _ (HPF.out _ hj).2.1.2 (HF.out.na.below hj)).mono ?_; rintro e w' ⟨rfl, hb⟩; refine hK _ _ ?_ hb; apply Rg.mk))) ?_ rfl
                  refine Rg.build_cons (m := 7) (r := Rg.eq _) (Rg.one_plain (by rfl) (by (intro ax wx hk Kx hK; obtain ⟨v272, k272, h272⟩ := hk.dep 5 272 _ rfl rfl rfl; (first | (cases (h272 : v272 = _)) | (obtain ⟨rfl, h272⟩ := h272) | skip); have hj := hk.j; clear hk; go_simp; refine hK _ _ ?_ (Below.refl _ _); apply Rg.mk))) ?_ rfl
                  refine Rg.build_end fun wx hj => ?_
                  refine Rg.fin_eq rfl ?_
                  refine Rg.fin_eq rfl ?_
                  refine Rg.fin_eq rfl ?_
                  refine Rg.fin_eq rfl ?_
                  refine Rg.fin_eq rfl ?_
                  refine Rg.fin_eq rfl ?_
                  refine Rg.fin_eq rfl ?_
                  refine Rg.fin_nil ?_
                  simp only [List.set_cons_zero, List.set_cons_succ]
                  have HJ1 := Lib.hid hj
                  clear hj
                  go_upto_region 41 with (fail)
                  refine Rg.wp_region_each (by kernel_rfl) (fun w' => Below F.heap.size F w') (fun w1 w2 h hb => h.trans (hb.mono h.size)) (by kernel_rfl) (by kernel_rfl) (HJ1.out) ?_
                  show Rg.Build _ _ _ _ _ 0 [_, _, _, _, _, _, _] []
                  refine Rg.build_cons (m := 1) (r := Rg.eq _) (Rg.one_plain (by rfl) (by (intro ax wx hk Kx hK; have k32 := hk.base 32 _ rfl rfl; have hj := hk.j; clear hk; go_simp; refine hK _ _ ?_ (Below.refl _ _); apply Rg.mk))) ?_ rfl
                  refine Rg.build_cons (m := 2) (r := Rg.eq _) (Rg.one_plain (by rfl) (by (intro ax wx hk Kx hK; obtain ⟨v273, k273, h273⟩ := hk.dep 0 273 _ rfl rfl rfl; (first | (cases (h273 : v273 = _)) | (obtain ⟨rfl, h273⟩ := h273) | skip); have hj := hk.j; clear hk; obtain ⟨⟨⟨q0, q1, q2, q3, q4, q5, q6, q7⟩, -⟩, -, -⟩ := HPF.out wx hj; have z7 := (HAF.out.below hj).cell 7 _ rfl; have hq := HF.out.ata.below hj; have c0 := hq.cell 0 _ rfl; have c1 := hq.cell 1 _ rfl; have c2 := hq.cell 2 _ rfl; have c3 := hq.cell 3 _ rfl; have c4 := hq.cell 4 _ rfl; have c5 := hq.cell 5 _ rfl; have c6 := hq.cell 6 _ rfl; have c7 := hq.cell 7 _ rfl; clear hq; go_simp; refine hK _ _ ?_ (Below.refl _ _); apply Rg.mk))) ?_ rfl
                  refine Rg.build_cons (m := 3) (r := Rg.eq _) (Rg.one_plain (by rfl) (by (intro ax wx hk Kx hK; obtain ⟨v274, k274, h274⟩ := hk.dep 1 274 _ rfl rfl rfl; (first | (cases (h274 : v274 = _)) | (obtain ⟨rfl, h274⟩ := h274) | skip); have hj := hk.j; clear hk; go_simp; refine hK _ _ ?_ (Below.refl _ _); apply Rg.mk))) ?_ rfl
                  refine Rg.build_cons (m := 4) (r := Rg.eq _) (Rg.one_plain (by rfl) (by (intro ax wx hk Kx hK; obtain ⟨v275, k275, h275⟩ := hk.dep 2 275 _ rfl rfl rfl; (first | (cases (h275 : v275 = _)) | (obtain ⟨rfl, h275⟩ := h275) | skip); have hj := hk.j; clear hk; obtain ⟨⟨⟨q0, q1, q2, q3, q4, q5, q6, q7⟩, -⟩, -, -⟩ := HPF.out wx hj; have z7 := (HAF.out.below hj).cell 7 _ rfl; have hq := HF.out.ata.below hj; have c0 := hq.cell 0 _ rfl; have c1 := hq.cell 1 _ rfl; have c2 := hq.cell 2 _ rfl; have c3 := hq.cell 3 _ rfl; have c4 := hq.cell 4 _ rfl; have c5 := hq.cell 5 _ rfl; have c6 := hq.cell 6 _ rfl; have c7 := hq.cell 7 _ rfl; clear hq; go_simp; refine hK _ _ ?_ (Below.refl _ _); apply Rg.mk))) ?_ rfl
                  refine Rg.build_cons (m := 5) (r := Rg.eq _) (Rg.one_plain (by rfl) (by (intro ax wx hk Kx hK; have k10 := hk.base 10 _ rfl rfl; have hj := hk.j; clear hk; obtain ⟨⟨⟨q0, q1, q2, q3, q4, q5, q6, q7⟩, -⟩, -, -⟩ := HPF.out wx hj; have z7 := (HAF.out.below hj).cell 7 _ rfl; have hq := HF.out.ata.below hj; have c0 := hq.cell 0 _ rfl; have c1 := hq.cell 1 _ rfl; have c2 := hq.cell 2 _ rfl; have c3 := hq.cell 3 _ rfl; have c4 := hq.cell 4 _ rfl; have c5 := hq.cell 5 _ rfl; have c6 := hq.cell 6 _ rfl; have c7 := hq.cell 7 _ rfl; clear hq; go_simp; refine hK _ _ ?_ (Below.refl _ _); apply Rg.mk))) ?_ rfl
                  refine Rg.build_cons (m := 6) (r := Rg.eq _) (Rg.one_plain (by rfl) (by (intro ax wx hk Kx hK; obtain ⟨v276, k276, h276⟩ := hk.dep 3 276 _ rfl rfl rfl; (first | (cases (h276 : v276 = _)) | (obtain ⟨rfl, h276⟩ := h276) | skip); obtain ⟨v277, k277, h277⟩ := hk.dep 4 277 _ rfl rfl rfl; (first | (cases (h277 : v277 = _)) | (obtain ⟨rfl, h277⟩ := h277) | skip); have hj := hk.j; clear hk; go_simp; refine (HSA.out _ _ _ (HPF.out _ hj).1.2 (HF.out.na.below hj)).mono ?_; rintro e w' ⟨rfl, hb⟩; refine hK _ _ ?_ hb; apply Rg.mk))) ?_ rfl
                  refine Rg.build_cons (m := 7) (r := Rg.eq _) (Rg.one_plain (by rfl) (by (intro ax wx hk Kx hK; obtain ⟨v278, k278, h278⟩ := hk.dep 5 278 _ rfl rfl rfl; (first | (cases (h278 : v278 = _)) | (obtain ⟨rfl, h278⟩ := h278) | skip); have hj := hk.j; clear hk; go_simp; refine hK _ _ ?_ (Below.refl _ _); apply Rg.mk))) ?_ rfl
                  refine Rg.build_end fun wx hj => ?_
                  refine Rg.fin_eq rfl ?_
                  refine Rg.fin_eq rfl ?_
                  refine Rg.fin_eq rfl ?_
                  refine Rg.fin_eq rfl ?_
                  refine Rg.fin_eq rfl ?_
                  refine Rg.fin_eq rfl ?_
                  refine Rg.fin_eq rfl ?_
                  refine Rg.fin_nil ?_
                  simp only [List.set_cons_zero, List.set_cons_succ]
                  have z5 : wx.cell? ⟨gr, 5, none⟩ = some (.int .i64 (m' : Int)) := (HPF.out wx hj).2.2.cell 5 _ rfl
                  have z6 : wx.cell? ⟨gr, 6, none⟩ = some (.int .i64 (n' : Int)) := (HPF.out wx hj).2.2.cell 6 _ rfl
                  have y5 : wx.cell? ⟨gq, 5, none⟩ = some (.int .i64 0) := (HAF.out.below hj).cell 5 _ rfl
                  have y6 : wx.cell? ⟨gq, 6, none⟩ = some (.int .i64 1) := (HAF.out.below hj).cell 6 _ rfl
                  have HEND := Lib.hid (HF.out.below hj)
                  clear hj HJ1 HPF HAF HF
                  go_wp2_with fail
                  go_returns
                  exact ⟨rfl, HEND.out.bel⟩
end Go.Proofs.Ytofgkildlhcpdaa
