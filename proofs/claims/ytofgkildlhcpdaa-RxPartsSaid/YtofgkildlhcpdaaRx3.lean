/- The program's reader of patterns: number, times. -/
import Derived.Test.YtofgkildlhcpdaaRx2
set_option linter.unusedVariables false
set_option linter.unusedSimpArgs false
namespace Go.Proofs.Ytofgkildlhcpdaa
open Go.RowKit Bt
set_option maxRecDepth 100000 in
set_option maxHeartbeats 800000 in
theorem numX (g : Nat) (s : ByteArray) (p o : Nat) (w : World) (h : AtG w g 85 (rxr s p o)) (hp : p ≤ s.size) (hs : s.size ≤ 900) :
    Calls Try.prog 93 #[.pointer (some ⟨g, 0, none⟩)] w (RxP g s o w (numF s p) (fun n => .int .i64 n)) := by
  by_cases hlt : p < s.size
  · have HN := Lib.hid (nextX_in g s p o w h hlt (by omega))
    have HP1 := Lib.hid (fun (w1 : World) (h1 : AtG w1 g 85 (rxr s ((p + 1 : Nat) : Int) o)) (hq : p + 1 < s.size) => peekX_in g s (p + 1) o w1 h1 hq)
    have HP2 := Lib.hid (fun (w1 : World) (h1 : AtG w1 g 85 (rxr s ((p + 1 : Nat) : Int) o)) (hq : p + 1 = s.size) => peekX_end g s (p + 1) o w1 h1 hq)
    have HF := Lib.hid (show numF s p = if ch s p < 48 ∨ 57 < ch s p then .no 2 p else if 48 ≤ ch s (p + 1) ∧ ch s (p + 1) ≤ 57 then .ok (10 * (ch s p - 48) + ch s (p + 1) - 48) (p + 2) else .ok (ch s p - 48) (p + 1) from rfl)
    have HE := Lib.hid (fun (hq : p + 1 = s.size) => ch_end (s := s) (p := p + 1) (by omega))
    have hpI : (p : Int) < 1000 := by omega
    have hl1 := ch_lt s (p + 1)
    have hl0 := ch_pos hlt
    have hl2 := (ch_lt s p).2
    generalize numF s p = R at *
    generalize ch s (p + 1) = d1 at *
    generalize ch s p = d at *
    have HD := Lib.hid (digitX d)
    clear h
    go_enter Try.func93, Try.ntmps93
    go_wp2_with fail
    refine (HN.out).mono ?_
    rintro e9 w1 ⟨rfl, ho, ha⟩
    have HO := Lib.hid ho; have HA := Lib.hid ha
    clear ho ha HN
    go_wp2_with fail
    refine (HD.out _).mono ?_
    rintro e9 w9 ⟨rfl, hw9⟩; subst hw9
    by_cases hd : 48 ≤ d ∧ d ≤ 57
    · rw [decide_eq_true hd]
      have HR := Lib.hid (HF.out.trans (if_neg (by omega)))
      obtain ⟨d48, d57⟩ := hd
      clear HF
      by_cases hq : p + 1 < s.size
      · have HPQ := Lib.hid (HP1.out w9 HA.out hq)
        have HD1 := Lib.hid (digitX d1)
        go_wp2_with fail
        refine (HPQ.out).mono ?_
        rintro e9 w2 ⟨rfl, hb⟩
        have HO2 := Lib.hid (HO.out.tb hb); have HA2 := Lib.hid (HA.out.below hb)
        clear hb HP1 HP2 HPQ
        go_wp2_with fail
        refine (HD1.out _).mono ?_
        rintro e9 w8 ⟨rfl, hw8⟩; subst hw8
        by_cases he : 48 ≤ d1 ∧ d1 ≤ 57
        · rw [decide_eq_true he]
          have HR2 := Lib.hid (HR.out.trans (if_pos he))
          obtain ⟨e48, e57⟩ := he
          have z1 : w8.cell? ⟨g, 1, none⟩ = some (.int .i64 ((p + 1 : Nat) : Int)) := HA2.out.cell 1 _ rfl
          rw [show ((p + 1 : Nat) : Int) = (p : Int) + 1 from by omega] at z1
          have f1 := HA2.out.frozen 1
          clear HR HE
          go_wp2_with fail
          refine bodyPost_ret (v := .int .i64 (10 * (d - 48) + d1 - 48)) (by simp [results, Try.results93, go_sem]; try omega) rfl ?_
          rw [HR2.out]
          refine ⟨HO2.out.st _ _ _ (.inl rfl), rfl, ?_⟩
          have := HA2.out.set 1 (.int .i64 ((p : Int) + 1 + 1))
          rw [show ((p + 2 : Nat) : Int) = (p : Int) + 1 + 1 from by omega]
          exact this
        · rw [decide_eq_false he]
          have HR2 := Lib.hid (HR.out.trans (if_neg he))
          clear HR HE he
          go_wp2_with fail
          refine bodyPost_ret (v := .int .i64 (d - 48)) (by simp [results, Try.results93, go_sem]; try omega) rfl ?_
          rw [HR2.out]
          exact ⟨HO2.out, rfl, HA2.out⟩
      · have hqe : p + 1 = s.size := by omega
        have HPQ := Lib.hid (HP2.out w9 HA.out hqe)
        have HR2 := Lib.hid (HR.out.trans (if_neg (by have := HE.out hqe; omega)))
        clear HR HE HP1 HP2 hqe hq hp hlt
        go_wp2_with fail
        refine (HPQ.out).mono ?_
        rintro e9 w2 ⟨rfl, hb⟩
        have HO2 := Lib.hid (HO.out.tb hb); have HA2 := Lib.hid (HA.out.below hb)
        clear hb HPQ
        go_wp2_with fail
        refine bodyPost_ret (v := .int .i64 (d - 48)) (by simp [results, Try.results93, go_sem]; try omega) rfl ?_
        rw [HR2.out]
        exact ⟨HO2.out, rfl, HA2.out⟩
    · rw [decide_eq_false hd]
      have HR := Lib.hid (HF.out.trans (if_pos (by omega)))
      have z1 : w9.cell? ⟨g, 1, none⟩ = some (.int .i64 ((p + 1 : Nat) : Int)) := HA.out.cell 1 _ rfl
      rw [show ((p + 1 : Nat) : Int) = (p : Int) + 1 from by omega] at z1
      clear HF HE HP1 HP2 hd
      go_wp2_with fail
      refine (failX g p 2 _).mono ?_
      rintro e9 w2 ⟨hb2, b, rfl, hx⟩
      refine ⟨rfl, ?_⟩
      rw [HR.out]
      exact ⟨HO.out.tb hb2, b, rfl, hx⟩
  · have hpe : p = s.size := by omega
    have HN := Lib.hid (nextX_end g s p o w h hpe)
    have HR := Lib.hid (show numF s p = .no 2 p from by unfold numF; rw [if_pos (.inl (by rw [ch_end (by omega)]; decide))])
    clear h hpe hlt hp
    generalize numF s p = R at *
    go_enter Try.func93, Try.ntmps93
    go_wp2_with fail
    refine (HN.out).mono ?_
    rintro e9 w1 ⟨ho, b, rfl, hx⟩
    refine ⟨rfl, ?_⟩
    rw [HR.out]
    exact ⟨ho, b, rfl, hx⟩
set_option maxRecDepth 100000 in
set_option maxHeartbeats 800000 in
theorem timesX (g : Nat) (s : ByteArray) (p o : Nat) (w : World) (h : AtG w g 85 (rxr s p o)) (hp : p ≤ s.size) (hs : s.size ≤ 900) :
    Calls Try.prog 77 #[.pointer (some ⟨g, 0, none⟩)] w (RxP g s o w (timesF s p) (fun n => .tuple #[.int .i64 n.1, .int .i64 n.2])) := by
  have HN := Lib.hid (numX g s p o w h hp hs)
  have HIN := Lib.hid (numF_in s p hp)
  have HF := Lib.hid (show timesF s p = match numF s p with | .no c x => .no c x | .ok low q => timesE s low (if ch s q = 44 then numF s (q + 1) else .ok low q) from rfl)
  generalize timesF s p = R at *
  clear h
  go_enter Try.func77, Try.ntmps77
  go_wp2_with fail
  refine (HN.out).mono ?_
  cases hn : numF s p with
  | no c x =>
    rw [hn] at HF
    rintro e9 w1 ⟨ho, b, rfl, hx⟩
    refine ⟨rfl, ?_⟩
    rw [HF.out]
    exact ⟨ho, b, rfl, hx⟩
  | ok low q =>
    rw [hn] at HF HIN
    have hq : p + 1 ≤ q ∧ q ≤ s.size := HIN.out.1
    have hlow := HIN.out.2 low q rfl
    obtain ⟨lo0, lo1⟩ := hlow
    rintro e9 w1 ⟨ho, rfl, ha⟩
    have HO := Lib.hid ho; have HA := Lib.hid ha
    have HRS0 := Lib.hid hq.2
    have HI := isX g s q o 44 w1 ha hq.2 (by decide)
    dsimp only at HF
    clear ho ha HN HIN hn
    by_cases h44 : ch s q = 44
    · have HR0 := Lib.hid (show R = timesE s low (numF s (q + 1)) by rw [HF.out, if_pos h44])
      have hqlt : q < s.size := ch_ge (by omega)
      rw [decide_eq_true h44] at HI
      have HI := Lib.hid HI
      have HIN2 := Lib.hid (numF_in s (q + 1) hqlt)
      have hqI : (q : Int) < 1000 := by omega
      have HQL := Lib.hid hqlt
      clear HF h44 hqlt hq
      go_wp2_with fail
      refine (HI.out).mono ?_
      rintro e9 w2 ⟨rfl, hb⟩
      have HO2 := Lib.hid ((HO.out.tb hb).st g 1 (.int .i64 ((q : Int) + 1)) (.inl rfl)); have HA2 := Lib.hid (HA.out.below hb)
      have z1 : w2.cell? ⟨g, 1, none⟩ = some (.int .i64 (q : Int)) := HA2.out.cell 1 _ rfl
      have f1 := HA2.out.frozen 1
      have HA3 : Hid (AtG (w2.setCell ⟨g, 1, none⟩ (.int .i64 ((q : Int) + 1))) g 85 (rxr s ((q + 1 : Nat) : Int) o)) := Lib.hid (by
        rw [show ((q + 1 : Nat) : Int) = (q : Int) + 1 from by omega]; exact HA2.out.set 1 _)
      have HN2 := Lib.hid (numX g s (q + 1) o _ HA3.out HQL.out hs)
      clear hb HI
      go_wp2_with fail
      refine (HN2.out).mono ?_
      cases hn : numF s (q + 1) with
      | no c x =>
        rw [hn] at HR0
        have HR := Lib.hid (HR0.out.trans (show timesE s low (.no c x) = .no c x from rfl))
        rintro e9 w3 ⟨ho, b, rfl, hx⟩
        refine ⟨rfl, ?_⟩
        rw [HR.out]
        exact ⟨HO2.out.tr ho, b, rfl, hx⟩
      | ok high r =>
        rw [hn] at HR0 HIN2
        have HR := Lib.hid HR0.out
        have hr : q + 1 + 1 ≤ r ∧ r ≤ s.size := HIN2.out.1
        obtain ⟨hi0, hi1⟩ := HIN2.out.2 high r rfl
        have HRS := Lib.hid hr.2
        rintro e9 w3 ⟨ho, rfl, ha⟩
        have HO4 := Lib.hid (HO2.out.tr ho); have HA4 := Lib.hid ha
        clear ho ha HN2 HR0 HIN2 hn hr HO HA HA2 HA3 z1 f1 HO2
        have HWT := Lib.hid (wantX g s r o 125 w3 HA4.out HRS.out (by omega) (by decide))
        have HWF := Lib.hid (show wantF s 125 r = if ch s r = 125 then .ok () (r + 1) else .no 2 r from rfl)
        have HTE := Lib.hid (show timesE s low (.ok high r) = if ch s r ≠ 125 ∨ high < 1 ∨ 32 < high ∨ high < low then .no 2 r else .ok (low, high) (r + 1) from rfl)
        have hrI : (r : Int) < 1000 := by have := HRS.out; omega
        generalize wantF s 125 r = WR at *
        generalize timesE s low (.ok high r) = TR at *
        generalize ch s r = dr at *
        go_wp2_with fail
        refine (HWT.out).mono ?_
        by_cases hdr : dr = 125
        · have HWR := Lib.hid (HWF.out.trans (if_pos hdr))
          rw [HWR.out]
          rintro e9 wt ⟨ho, rfl, ha⟩
          have HOt := Lib.hid (HO4.out.tr ho); have HAt := Lib.hid ha
          clear ho ha
          by_cases hbad : high < 1 ∨ 32 < high ∨ high < low
          · have HTR := Lib.hid (HTE.out.trans (if_pos (.inr hbad)))
            have z1 : wt.cell? ⟨g, 1, none⟩ = some (.int .i64 ((r + 1 : Nat) : Int)) := HAt.out.cell 1 _ rfl
            rw [show ((r + 1 : Nat) : Int) = (r : Int) + 1 from by omega] at z1
            clear HTE HWF HWR HWT hdr
            have HBD := Lib.hid hbad
            by_cases b1 : high < 1
            · clear hbad
              go_wp2_with fail
              refine (failX g r 2 _).mono ?_
              rintro e9 w2 ⟨hb2, b, rfl, hx⟩
              refine ⟨rfl, ?_⟩
              rw [HR.out, HTR.out]
              exact ⟨HOt.out.tb hb2, b, rfl, hx⟩
            · by_cases b2 : 32 < high
              · clear hbad
                go_wp2_with fail
                refine (failX g r 2 _).mono ?_
                rintro e9 w2 ⟨hb2, b, rfl, hx⟩
                refine ⟨rfl, ?_⟩
                rw [HR.out, HTR.out]
                exact ⟨HOt.out.tb hb2, b, rfl, hx⟩
              · have b3 : high < low := by omega
                try (exfalso; omega)
                all_goals clear hbad
                all_goals (go_wp2_with fail)
                all_goals (refine (failX g r 2 _).mono ?_; rintro e9 w2 ⟨hb2, b, rfl, hx⟩; refine ⟨rfl, ?_⟩; rw [HR.out, HTR.out]; exact ⟨HOt.out.tb hb2, b, rfl, hx⟩)
          · have HTR := Lib.hid (HTE.out.trans (if_neg (by omega)))
            have b1 : ¬ high < 1 := by omega
            have b2 : ¬ 32 < high := by omega
            have b3 : ¬ high < low := by omega
            clear HTE HWF HWR HWT hdr hbad
            go_wp2_with fail
            refine bodyPost_ret (v := .tuple #[.int .i64 low, .int .i64 high]) (by simp [results, Try.results77, go_sem]; try rfl) rfl ?_
            rw [HR.out, HTR.out]
            exact ⟨HOt.out, rfl, HAt.out⟩
        · have HWR := Lib.hid (HWF.out.trans (if_neg hdr))
          have HTR := Lib.hid (HTE.out.trans (if_pos (.inl hdr)))
          rw [HWR.out]
          rintro e9 wt ⟨ho, b, rfl, hx⟩
          refine ⟨rfl, ?_⟩
          rw [HR.out, HTR.out]
          exact ⟨HO4.out.tr ho, b, rfl, hx⟩
    · have HR := Lib.hid (show R = timesE s low (.ok low q) by rw [HF.out, if_neg h44])
      rw [decide_eq_false h44] at HI
      have HI := Lib.hid HI
      have HRS := Lib.hid hq.2
      clear HF h44 hq
      go_wp2_with fail
      refine (HI.out).mono ?_
      rintro e9 w2 ⟨rfl, hb⟩
      have HO4 := Lib.hid (HO.out.tb hb); have HA4 := Lib.hid (HA.out.below hb)
      clear hb HI HO HA
      have HWT := Lib.hid (wantX g s q o 125 w2 HA4.out HRS.out (by omega) (by decide))
      have HWF := Lib.hid (show wantF s 125 q = if ch s q = 125 then .ok () (q + 1) else .no 2 q from rfl)
      have HTE := Lib.hid (show timesE s low (.ok low q) = if ch s q ≠ 125 ∨ low < 1 ∨ 32 < low ∨ low < low then .no 2 q else .ok (low, low) (q + 1) from rfl)
      have hrI : (q : Int) < 1000 := by have := HRS.out; omega
      generalize wantF s 125 q = WR at *
      generalize timesE s low (.ok low q) = TR at *
      generalize ch s q = dr at *
      go_wp2_with fail
      refine (HWT.out).mono ?_
      by_cases hdr : dr = 125
      · have HWR := Lib.hid (HWF.out.trans (if_pos hdr))
        rw [HWR.out]
        rintro e9 wt ⟨ho, rfl, ha⟩
        have HOt := Lib.hid (HO4.out.tr ho); have HAt := Lib.hid ha
        clear ho ha
        by_cases hbad : low < 1 ∨ 32 < low ∨ low < low
        · have HTR := Lib.hid (HTE.out.trans (if_pos (.inr hbad)))
          have z1 : wt.cell? ⟨g, 1, none⟩ = some (.int .i64 ((q + 1 : Nat) : Int)) := HAt.out.cell 1 _ rfl
          rw [show ((q + 1 : Nat) : Int) = (q : Int) + 1 from by omega] at z1
          clear HTE HWF HWR HWT hdr
          have HBD := Lib.hid hbad
          by_cases b1 : low < 1
          · clear hbad
            go_wp2_with fail
            refine (failX g q 2 _).mono ?_
            rintro e9 w2 ⟨hb2, b, rfl, hx⟩
            refine ⟨rfl, ?_⟩
            rw [HR.out, HTR.out]
            exact ⟨HOt.out.tb hb2, b, rfl, hx⟩
          · by_cases b2 : 32 < low
            · clear hbad
              go_wp2_with fail
              refine (failX g q 2 _).mono ?_
              rintro e9 w2 ⟨hb2, b, rfl, hx⟩
              refine ⟨rfl, ?_⟩
              rw [HR.out, HTR.out]
              exact ⟨HOt.out.tb hb2, b, rfl, hx⟩
            · have b3 : low < low := by omega
              try (exfalso; omega)
              all_goals clear hbad
              all_goals (go_wp2_with fail)
              all_goals (refine (failX g q 2 _).mono ?_; rintro e9 w2 ⟨hb2, b, rfl, hx⟩; refine ⟨rfl, ?_⟩; rw [HR.out, HTR.out]; exact ⟨HOt.out.tb hb2, b, rfl, hx⟩)
        · have HTR := Lib.hid (HTE.out.trans (if_neg (by omega)))
          have b1 : ¬ low < 1 := by omega
          have b2 : ¬ 32 < low := by omega
          have b3 : ¬ low < low := by omega
          clear HTE HWF HWR HWT hdr hbad
          go_wp2_with fail
          refine bodyPost_ret (v := .tuple #[.int .i64 low, .int .i64 low]) (by simp [results, Try.results77, go_sem]; try rfl) rfl ?_
          rw [HR.out, HTR.out]
          exact ⟨HOt.out, rfl, HAt.out⟩
      · have HWR := Lib.hid (HWF.out.trans (if_neg hdr))
        have HTR := Lib.hid (HTE.out.trans (if_pos (.inl hdr)))
        rw [HWR.out]
        rintro e9 wt ⟨ho, b, rfl, hx⟩
        refine ⟨rfl, ?_⟩
        rw [HR.out, HTR.out]
        exact ⟨HO4.out.tr ho, b, rfl, hx⟩
end Go.Proofs.Ytofgkildlhcpdaa
