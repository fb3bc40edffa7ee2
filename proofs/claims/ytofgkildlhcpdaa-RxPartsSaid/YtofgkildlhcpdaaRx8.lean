/- The program's reader of patterns: atoms but those in brackets. -/
import Derived.Test.YtofgkildlhcpdaaRx7
set_option linter.unusedVariables false
set_option linter.unusedSimpArgs false
namespace Go.Proofs.Ytofgkildlhcpdaa
open Go.RowKit Bt
/-- what a part of the reader that tells a node leaves -/
def RxN (g : Nat) (s : ByteArray) (o : Nat) (w : World) (R : Re Tree) (e : Ending) (w' : World) : Prop :=
  Only (fun k => k = g) w w' ∧ match R with
    | .ok t q => ∃ kv, e = .returned (nodeV t kv) ∧ KAt (Iv w.heap.size w'.heap.size) w' t kv ∧ AtG w' g 85 (rxr s (q : Int) (o : Int))
    | .no c x => RxNo c x e w'
theorem rxn_post {s : ByteArray} {g o q : Nat} {w wn : World} {op : Int} {f : Nat → Bool} {mn mx : Int} {kids : List Tree} {kv : Value}
    (hO : Only (fun k => k = g) w wn) (hA : AtG wn g 85 (rxr s (q : Int) (o : Int))) (hg : ¬ w.heap.size = g) (hl : w.heap.size < wn.heap.size) (hK : KAt (Iv (w.heap.size + 1) wn.heap.size) wn (.node op f mn mx kids) kv) :
    RxN g s o w (.ok (.node op f mn mx kids) q) (.returned (nodeV (.node op f mn mx kids) kv)) (putN wn w.heap.size op f mn mx kv) := by
  refine ⟨hO.pN _ (.inr (Nat.le_refl _)) _ _ _ _ _, kv, rfl, ?_, putN_far hA (fun e => hg e.symm) _ _ _ _ _⟩
  rw [putN_size]
  exact KAt.keep (fun b hb => putN_block _ _ _ _ _ _ _ b (by have := hb.1; omega) hb.2) (fun b hb => ⟨by have := hb.1; omega, hb.2⟩) _ _ hK
set_option maxRecDepth 100000 in
theorem oneX (f : Nat → Bool) (w : World) : Calls Try.prog 86 #[setOf f] w fun e w' => e = .returned (nodeV (one f) (.slice none 0 0)) ∧ Below w.heap.size w w' := by
  unfold setOf
  go_enter Try.func86, Try.ntmps86
  go_wp2
  go_returns
  exact ⟨rfl, by go_grown⟩
set_option maxRecDepth 100000 in
set_option maxHeartbeats 3200000 in
theorem atomX (g : Nat) (s : ByteArray) (p o : Nat) (w : World) (h : AtG w g 85 (rxr s p o)) (hp : p ≤ s.size) (hs : s.size ≤ 900) (h40 : ¬ ch s p = 40) :
    Calls Try.prog 76 #[.pointer (some ⟨g, 0, none⟩)] w (RxN g s o w (atomF s p)) := by
  have HS := Lib.hid hs
  have HG := Lib.hid (show ¬ w.heap.size = g by have := h.lt; omega)
  have HA0 := Lib.hid (h.alloc (.cells nodeZ 29))
  have HZ0 := Lib.hid (AtG.new w 29 nodeZ)
  have HO0 := Lib.hid ((Only.refl (S := fun k => k = g) w).al (.cells nodeZ 29))
  by_cases hlt : p < s.size
  · have hl0 := ch_pos hlt
    have hl2 := (ch_lt s p).2
    have hpI : (p : Int) < 1000 := by omega
    have HPL := Lib.hid hlt
    have HN := Lib.hid (nextX_in g s p o _ HA0.out hlt (by omega))
    have HF := Lib.hid (show atomF s p = if ch s p = 91 then (classF s (p + 1)).map one
  else if ch s p = 46 then .ok (one fun y => !(y == 10)) (p + 1)
  else if ch s p = 92 then (match wideF (ch s (p + 1)) with | some f => .ok (one f) (p + 2) | none => (escF s (p + 1)).map fun c => one (fun y => y == c))
  else if ch s p = 42 ∨ ch s p = 43 then .no 3 p
  else if ch s p ∈ brk then .no 2 p
  else .ok (one fun y => y == (ch s p).toNat) (p + 1) from by unfold atomF; rw [if_neg (by omega)]; rfl)
    generalize atomF s p = R at *
    generalize ch s p = d at *
    have e40 : (d == 40) = false := by rw [beq_eq_false_iff_ne]; exact h40
    clear h hlt hp
    go_enter Try.func76, Try.ntmps76
    go_wp2_with fail
    refine (HN.out).mono ?_
    rintro e9 w1 ⟨rfl, ho, ha⟩
    have HA1 := Lib.hid ha; have HZ1 := Lib.hid (HZ0.out.only ho HG.out); have HO1 := Lib.hid (HO0.out.tr ho)
    clear ho ha HN HA0 HZ0 HO0
    by_cases h91 : d = 91
    · have HR1 := Lib.hid (HF.out.trans (if_pos h91))
      have HC := Lib.hid (classX g s (p + 1) o w1 HA1.out HPL.out HS.out)
      subst h91
      clear HF e40
      go_wp2_with fail
      refine (HC.out).mono ?_
      cases hcf : classF s (p + 1) with
      | no c x =>
        rw [hcf] at HR1
        rintro e9 w2 ⟨ho, b, rfl, hx⟩
        refine ⟨rfl, ?_⟩
        rw [HR1.out]
        exact ⟨HO1.out.tr ho, b, rfl, hx⟩
      | ok F q =>
        rw [hcf] at HR1
        have HR := Lib.hid (show R = .ok (one F) q from HR1.out)
        rintro e9 w2 ⟨ho, rfl, ha⟩
        have HA2 := Lib.hid ha; have HZ2 := Lib.hid (HZ1.out.only ho HG.out); have HO2 := Lib.hid (HO1.out.tr ho)
        clear ho ha hcf HC HR1 HA1 HZ1 HO1
        go_wp2_with fail
        refine (oneX (F) _).mono ?_
        rintro e9 wn ⟨rfl, hb⟩
        have HAn := Lib.hid (HA2.out.below hb); have HZn := Lib.hid (HZ2.out.below hb); have HOn := Lib.hid (HO2.out.tb hb)
        have HSZ := Lib.hid (show w.heap.size < wn.heap.size from HZn.out.lt)
        clear hb
        have d0 : wn.cell? ⟨w.heap.size, 0, none⟩ = some (.int .i64 0) := (HZn.out).cell 0 _ rfl
        have d1 : wn.cell? ⟨w.heap.size, 1, none⟩ = some (.int .u64 0) := (HZn.out).cell 1 _ rfl
        have d2 : wn.cell? ⟨w.heap.size, 2, none⟩ = some (.int .u64 0) := (HZn.out).cell 2 _ rfl
        have d3 : wn.cell? ⟨w.heap.size, 3, none⟩ = some (.int .u64 0) := (HZn.out).cell 3 _ rfl
        have d4 : wn.cell? ⟨w.heap.size, 4, none⟩ = some (.int .u64 0) := (HZn.out).cell 4 _ rfl
        have d5 : wn.cell? ⟨w.heap.size, 5, none⟩ = some (.int .i64 0) := (HZn.out).cell 5 _ rfl
        have d6 : wn.cell? ⟨w.heap.size, 6, none⟩ = some (.int .i64 0) := (HZn.out).cell 6 _ rfl
        have d7 : wn.cell? ⟨w.heap.size, 7, none⟩ = some (.slice none 0 0) := (HZn.out).cell 7 _ rfl
        have f0 := (HZn.out).frozen 0; have f1 := (HZn.out).frozen 1; have f2 := (HZn.out).frozen 2; have f3 := (HZn.out).frozen 3
        have f4 := (HZn.out).frozen 4; have f5 := (HZn.out).frozen 5; have f6 := (HZn.out).frozen 6; have f7 := (HZn.out).frozen 7
        unfold nodeV one
        dsimp only
        go_wp2_with fail
        refine bodyPost_ret (v := nodeV (one (F)) (.slice none 0 0)) (by simp [results, Try.results76, go_sem, d0, d1, d2, d3, d4, d5, d6, d7]; try rfl) rfl ?_
        rw [HR.out]
        exact rxn_post HOn.out HAn.out HG.out HSZ.out (kat_one _ _ _ _ _ _)
    have e91 : (d == 91) = false := by rw [beq_eq_false_iff_ne]; exact h91
    have HF1 := Lib.hid (HF.out.trans (if_neg h91))
    clear HF
    by_cases h46 : d = 46
    · have HR := Lib.hid (HF1.out.trans (if_pos h46))
      subst h46
      clear HF1 e40 e91
      have HOF := Lib.hid (ofP _ (w1).heap.size (10) (by decide) (by decide) (AtG.new (w1) 5 #[.int .u8 (10)]))
      go_wp2_with fail
      refine (HOF.out).mono ?_
      rintro e9 wo ⟨rfl, hb⟩
      have HAo := Lib.hid ((HA1.out.alloc _).below hb); have HZo := Lib.hid ((HZ1.out.alloc _).below hb); have HOo := Lib.hid ((HO1.out.al (.cells #[.int .u8 (10)] 5)).tb hb)
      clear hb HOF
      go_wp2_with fail
      refine (not_any _ _).mono ?_
      rintro e9 wp ⟨rfl, hb⟩
      have HAp := Lib.hid (HAo.out.below hb); have HZp := Lib.hid (HZo.out.below hb); have HOp := Lib.hid (HOo.out.tb hb)
      clear hb HAo HZo HOo
      go_wp2_with fail
      refine (oneX (fun y => !(y == 10)) _).mono ?_
      rintro e9 wn ⟨rfl, hb⟩
      have HAn := Lib.hid (HAp.out.below hb); have HZn := Lib.hid (HZp.out.below hb); have HOn := Lib.hid (HOp.out.tb hb)
      have HSZ := Lib.hid (show w.heap.size < wn.heap.size from HZn.out.lt)
      clear hb
      have d0 : wn.cell? ⟨w.heap.size, 0, none⟩ = some (.int .i64 0) := (HZn.out).cell 0 _ rfl
      have d1 : wn.cell? ⟨w.heap.size, 1, none⟩ = some (.int .u64 0) := (HZn.out).cell 1 _ rfl
      have d2 : wn.cell? ⟨w.heap.size, 2, none⟩ = some (.int .u64 0) := (HZn.out).cell 2 _ rfl
      have d3 : wn.cell? ⟨w.heap.size, 3, none⟩ = some (.int .u64 0) := (HZn.out).cell 3 _ rfl
      have d4 : wn.cell? ⟨w.heap.size, 4, none⟩ = some (.int .u64 0) := (HZn.out).cell 4 _ rfl
      have d5 : wn.cell? ⟨w.heap.size, 5, none⟩ = some (.int .i64 0) := (HZn.out).cell 5 _ rfl
      have d6 : wn.cell? ⟨w.heap.size, 6, none⟩ = some (.int .i64 0) := (HZn.out).cell 6 _ rfl
      have d7 : wn.cell? ⟨w.heap.size, 7, none⟩ = some (.slice none 0 0) := (HZn.out).cell 7 _ rfl
      have f0 := (HZn.out).frozen 0; have f1 := (HZn.out).frozen 1; have f2 := (HZn.out).frozen 2; have f3 := (HZn.out).frozen 3
      have f4 := (HZn.out).frozen 4; have f5 := (HZn.out).frozen 5; have f6 := (HZn.out).frozen 6; have f7 := (HZn.out).frozen 7
      unfold nodeV one
      dsimp only
      go_wp2_with fail
      refine bodyPost_ret (v := nodeV (one (fun y => !(y == 10))) (.slice none 0 0)) (by simp [results, Try.results76, go_sem, d0, d1, d2, d3, d4, d5, d6, d7]; try rfl) rfl ?_
      rw [HR.out]
      exact rxn_post HOn.out HAn.out HG.out HSZ.out (kat_one _ _ _ _ _ _)
    have e46 : (d == 46) = false := by rw [beq_eq_false_iff_ne]; exact h46
    have HF2 := Lib.hid (HF1.out.trans (if_neg h46))
    clear HF1
    by_cases h92 : d = 92
    · have HR1 := Lib.hid (HF2.out.trans (if_pos h92))
      subst h92
      clear HF2 e40 e91 e46
      by_cases hq : p + 1 < s.size
      · have HPK := Lib.hid (peekX_in g s (p + 1) o w1 HA1.out hq)
        have HWD := Lib.hid (wideX (ch s (p + 1)))
        cases hwd : wideF (ch s (p + 1)) with
        | some F =>
          have hwv : wideV (ch s (p + 1)) = .tuple #[setOf F, .bool true] := by unfold wideV; rw [hwd]
          rw [hwv] at HWD
          rw [hwd] at HR1
          have HR := Lib.hid (show R = .ok (one F) (p + 2) from HR1.out)
          generalize ch s (p + 1) = c1 at *
          clear hwd hwv HR1 hq
          go_wp2_with fail
          refine (HPK.out).mono ?_
          rintro e9 w2 ⟨rfl, hb⟩
          have HA2 := Lib.hid (HA1.out.below hb); have HZ2 := Lib.hid (HZ1.out.below hb); have HO2 := Lib.hid (HO1.out.tb hb)
          clear hb HPK HA1 HZ1 HO1
          go_wp2_with fail
          refine (HWD.out _).mono ?_
          rintro e9 w3 ⟨rfl, hb⟩
          have HA3 := Lib.hid (HA2.out.below hb); have HZ3 := Lib.hid (HZ2.out.below hb); have HO3 := Lib.hid (HO2.out.tb hb)
          clear hb HWD HA2 HZ2 HO2
          unfold setOf
          go_upto_region 14 with (fail)
          obtain ⟨W, hW⟩ : ∃ W : World, W = w3.alloc (.cells (cellsOf F) 26) := ⟨_, rfl⟩
          have hW' : w3.alloc (.cells #[.int .u64 ((wd F 0 : Nat) : Int), .int .u64 ((wd F 1 : Nat) : Int), .int .u64 ((wd F 2 : Nat) : Int), .int .u64 ((wd F 3 : Nat) : Int)] 26) = W := hW.symm
          have HSW : Hid (AtG W w3.heap.size 26 (cellsOf F)) := Lib.hid (by rw [hW]; exact AtG.new _ _ _)
          have HAW : Hid (AtG W g 85 (rxr s ((p + 1 : Nat) : Int) (o : Int))) := Lib.hid (by rw [hW]; exact HA3.out.alloc _)
          have HZW : Hid (AtG W w.heap.size 29 nodeZ) := Lib.hid (by rw [hW]; exact HZ3.out.alloc _)
          have HOW : Hid (Only (fun k => k = g) w W) := Lib.hid (by rw [hW]; exact HO3.out.al _)
          have HGW : Hid (w3.heap.size ≠ g) := Lib.hid (by have := HA3.out.lt; omega)
          rw [hW']
          clear hW hW' HA3 HZ3 HO3
          have z1 : W.cell? ⟨g, 1, none⟩ = some (.int .i64 ((p + 1 : Nat) : Int)) := HAW.out.cell 1 _ rfl
          rw [show ((p + 1 : Nat) : Int) = (p : Int) + 1 from by omega] at z1
          have y1 := HAW.out.frozen 1
          have HA4 : Hid (AtG (W.setCell ⟨g, 1, none⟩ (.int .i64 ((p : Int) + 1 + 1))) g 85 (rxr s ((p + 2 : Nat) : Int) o)) := Lib.hid (by
            rw [show ((p + 2 : Nat) : Int) = (p : Int) + 1 + 1 from by omega]; exact HAW.out.set 1 _)
          have HZ4 := Lib.hid (HZW.out.far (p := ⟨g, 1, none⟩) (fun e => HG.out e) (.int .i64 ((p : Int) + 1 + 1)))
          have HS4 := Lib.hid (HSW.out.far (p := ⟨g, 1, none⟩) (fun e => HGW.out e) (.int .i64 ((p : Int) + 1 + 1)))
          have HO4 := Lib.hid (HOW.out.st g 1 (.int .i64 ((p : Int) + 1 + 1)) (.inl rfl))
          go_upto_region 15 with (fail)
          have hst : ∀ x : Int, x = (p : Int) + 1 + 1 → W.setCell ⟨g, 1, none⟩ (.int .i64 x) = W.setCell ⟨g, 1, none⟩ (.int .i64 ((p : Int) + 1 + 1)) := fun x hx => by rw [hx]
          obtain ⟨wq, hwq⟩ : ∃ wq : World, wq = W.setCell ⟨g, 1, none⟩ (.int .i64 ((p : Int) + 1 + 1)) := ⟨_, rfl⟩
          first | rw [← hwq] | (rw [hst _ (by omega), ← hwq])
          rw [← hwq] at HA4 HZ4 HS4 HO4
          clear hwq hst z1 y1 HAW HZW HSW HOW
          have t0 : wq.cell? ⟨w3.heap.size, 0, none⟩ = some (.int .u64 ((wd F 0 : Nat) : Int)) := HS4.out.cell 0 _ rfl
          have t1 : wq.cell? ⟨w3.heap.size, 1, none⟩ = some (.int .u64 ((wd F 1 : Nat) : Int)) := HS4.out.cell 1 _ rfl
          have t2 : wq.cell? ⟨w3.heap.size, 2, none⟩ = some (.int .u64 ((wd F 2 : Nat) : Int)) := HS4.out.cell 2 _ rfl
          have t3 : wq.cell? ⟨w3.heap.size, 3, none⟩ = some (.int .u64 ((wd F 3 : Nat) : Int)) := HS4.out.cell 3 _ rfl
          go_wp2_with fail
          refine (oneX (F) _).mono ?_
          rintro e9 wn ⟨rfl, hb⟩
          have HAn := Lib.hid (HA4.out.below hb); have HZn := Lib.hid (HZ4.out.below hb); have HOn := Lib.hid (HO4.out.tb hb)
          have HSZ := Lib.hid (show w.heap.size < wn.heap.size from HZn.out.lt)
          clear hb
          have d0 : wn.cell? ⟨w.heap.size, 0, none⟩ = some (.int .i64 0) := (HZn.out).cell 0 _ rfl
          have d1 : wn.cell? ⟨w.heap.size, 1, none⟩ = some (.int .u64 0) := (HZn.out).cell 1 _ rfl
          have d2 : wn.cell? ⟨w.heap.size, 2, none⟩ = some (.int .u64 0) := (HZn.out).cell 2 _ rfl
          have d3 : wn.cell? ⟨w.heap.size, 3, none⟩ = some (.int .u64 0) := (HZn.out).cell 3 _ rfl
          have d4 : wn.cell? ⟨w.heap.size, 4, none⟩ = some (.int .u64 0) := (HZn.out).cell 4 _ rfl
          have d5 : wn.cell? ⟨w.heap.size, 5, none⟩ = some (.int .i64 0) := (HZn.out).cell 5 _ rfl
          have d6 : wn.cell? ⟨w.heap.size, 6, none⟩ = some (.int .i64 0) := (HZn.out).cell 6 _ rfl
          have d7 : wn.cell? ⟨w.heap.size, 7, none⟩ = some (.slice none 0 0) := (HZn.out).cell 7 _ rfl
          have f0 := (HZn.out).frozen 0; have f1 := (HZn.out).frozen 1; have f2 := (HZn.out).frozen 2; have f3 := (HZn.out).frozen 3
          have f4 := (HZn.out).frozen 4; have f5 := (HZn.out).frozen 5; have f6 := (HZn.out).frozen 6; have f7 := (HZn.out).frozen 7
          unfold nodeV one
          dsimp only
          go_wp2_with fail
          refine bodyPost_ret (v := nodeV (one (F)) (.slice none 0 0)) (by simp [results, Try.results76, go_sem, d0, d1, d2, d3, d4, d5, d6, d7]; try rfl) rfl ?_
          rw [HR.out]
          exact rxn_post HOn.out HAn.out HG.out HSZ.out (kat_one _ _ _ _ _ _)
        | none =>
          have hwv : wideV (ch s (p + 1)) = .tuple #[setOf emp, .bool false] := by unfold wideV; rw [hwd]
          rw [hwv] at HWD
          rw [hwd] at HR1
          dsimp only at HR1
          generalize ch s (p + 1) = c1 at *
          clear hwd hwv hq
          go_wp2_with fail
          refine (HPK.out).mono ?_
          rintro e9 w2 ⟨rfl, hb⟩
          have HA2 := Lib.hid (HA1.out.below hb); have HZ2 := Lib.hid (HZ1.out.below hb); have HO2 := Lib.hid (HO1.out.tb hb)
          clear hb HPK HA1 HZ1 HO1
          go_wp2_with fail
          refine (HWD.out _).mono ?_
          rintro e9 w3 ⟨rfl, hb⟩
          have HA3 := Lib.hid (HA2.out.below hb); have HZ3 := Lib.hid (HZ2.out.below hb); have HO3 := Lib.hid (HO2.out.tb hb)
          clear hb HWD HA2 HZ2 HO2
          unfold setOf
          go_upto_region 16 with (fail)
          obtain ⟨W, hW⟩ : ∃ W : World, W = w3.alloc (.cells (cellsOf emp) 26) := ⟨_, rfl⟩
          have hW' : w3.alloc (.cells #[.int .u64 ((wd emp 0 : Nat) : Int), .int .u64 ((wd emp 1 : Nat) : Int), .int .u64 ((wd emp 2 : Nat) : Int), .int .u64 ((wd emp 3 : Nat) : Int)] 26) = W := hW.symm
          have HAW : Hid (AtG W g 85 (rxr s ((p + 1 : Nat) : Int) (o : Int))) := Lib.hid (by rw [hW]; exact HA3.out.alloc _)
          have HZW : Hid (AtG W w.heap.size 29 nodeZ) := Lib.hid (by rw [hW]; exact HZ3.out.alloc _)
          have HOW : Hid (Only (fun k => k = g) w W) := Lib.hid (by rw [hW]; exact HO3.out.al _)
          rw [hW']
          clear hW hW' HA3 HZ3 HO3
          have HEC := Lib.hid (escX g s (p + 1) o W HAW.out HPL.out HS.out)
          go_wp2_with fail
          refine (HEC.out).mono ?_
          cases hef : escF s (p + 1) with
          | no c x =>
            rw [hef] at HR1
            rintro e9 w3 ⟨ho, b, rfl, hx⟩
            refine ⟨rfl, ?_⟩
            rw [HR1.out]
            exact ⟨HOW.out.tr ho, b, rfl, hx⟩
          | ok c q =>
            rw [hef] at HR1
            have HR := Lib.hid (show R = .ok (one fun y => y == c) q from HR1.out)
            have hin := escF_in s (p + 1) HPL.out
            rw [hef] at hin
            have hc : c < 256 := hin.2 c q rfl
            have hcI : (c : Int) < 256 := by omega
            rintro e9 w3 ⟨ho, rfl, ha⟩
            have HA3 := Lib.hid ha; have HZ3 := Lib.hid (HZW.out.only ho HG.out); have HO3 := Lib.hid (HOW.out.tr ho)
            clear ho ha hin hef HEC HR1 hc
            have HOF := Lib.hid (ofP _ w3.heap.size (c : Int) (by omega) hcI (AtG.new w3 5 #[.int .u8 (c : Int)]))
            rw [Int.toNat_natCast] at HOF
            go_wp2_with fail
            refine (HOF.out).mono ?_
            rintro e9 wo ⟨rfl, hb⟩
            have HAo := Lib.hid ((HA3.out.alloc _).below hb); have HZo := Lib.hid ((HZ3.out.alloc _).below hb); have HOo := Lib.hid ((HO3.out.al (.cells #[.int .u8 (c : Int)] 5)).tb hb)
            clear hb HOF
            go_wp2_with fail
            refine (oneX (fun y => y == c) _).mono ?_
            rintro e9 wn ⟨rfl, hb⟩
            have HAn := Lib.hid (HAo.out.below hb); have HZn := Lib.hid (HZo.out.below hb); have HOn := Lib.hid (HOo.out.tb hb)
            have HSZ := Lib.hid (show w.heap.size < wn.heap.size from HZn.out.lt)
            clear hb
            have d0 : wn.cell? ⟨w.heap.size, 0, none⟩ = some (.int .i64 0) := (HZn.out).cell 0 _ rfl
            have d1 : wn.cell? ⟨w.heap.size, 1, none⟩ = some (.int .u64 0) := (HZn.out).cell 1 _ rfl
            have d2 : wn.cell? ⟨w.heap.size, 2, none⟩ = some (.int .u64 0) := (HZn.out).cell 2 _ rfl
            have d3 : wn.cell? ⟨w.heap.size, 3, none⟩ = some (.int .u64 0) := (HZn.out).cell 3 _ rfl
            have d4 : wn.cell? ⟨w.heap.size, 4, none⟩ = some (.int .u64 0) := (HZn.out).cell 4 _ rfl
            have d5 : wn.cell? ⟨w.heap.size, 5, none⟩ = some (.int .i64 0) := (HZn.out).cell 5 _ rfl
            have d6 : wn.cell? ⟨w.heap.size, 6, none⟩ = some (.int .i64 0) := (HZn.out).cell 6 _ rfl
            have d7 : wn.cell? ⟨w.heap.size, 7, none⟩ = some (.slice none 0 0) := (HZn.out).cell 7 _ rfl
            have f0 := (HZn.out).frozen 0; have f1 := (HZn.out).frozen 1; have f2 := (HZn.out).frozen 2; have f3 := (HZn.out).frozen 3
            have f4 := (HZn.out).frozen 4; have f5 := (HZn.out).frozen 5; have f6 := (HZn.out).frozen 6; have f7 := (HZn.out).frozen 7
            unfold nodeV one
            dsimp only
            go_wp2_with fail
            refine bodyPost_ret (v := nodeV (one (fun y => y == c)) (.slice none 0 0)) (by simp [results, Try.results76, go_sem, d0, d1, d2, d3, d4, d5, d6, d7]; try rfl) rfl ?_
            rw [HR.out]
            exact rxn_post HOn.out HAn.out HG.out HSZ.out (kat_one _ _ _ _ _ _)
      · have hqe : p + 1 = s.size := by have := HPL.out; omega
        have HPK := Lib.hid (peekX_end g s (p + 1) o w1 HA1.out hqe)
        have hwd : wideF (ch s (p + 1)) = none := by rw [ch_end (by omega)]; rfl
        rw [hwd] at HR1
        dsimp only at HR1
        clear hwd hq hqe
        go_wp2_with fail
        refine (HPK.out).mono ?_
        rintro e9 w2 ⟨rfl, hb⟩
        have HA2 := Lib.hid (HA1.out.below hb); have HZ2 := Lib.hid (HZ1.out.below hb); have HO2 := Lib.hid (HO1.out.tb hb)
        clear hb HPK HA1 HZ1 HO1
        have HEC := Lib.hid (escX g s (p + 1) o w2 HA2.out HPL.out HS.out)
        go_wp2_with fail
        refine (HEC.out).mono ?_
        cases hef : escF s (p + 1) with
        | no c x =>
          rw [hef] at HR1
          rintro e9 w3 ⟨ho, b, rfl, hx⟩
          refine ⟨rfl, ?_⟩
          rw [HR1.out]
          exact ⟨HO2.out.tr ho, b, rfl, hx⟩
        | ok c q =>
          rw [hef] at HR1
          have HR := Lib.hid (show R = .ok (one fun y => y == c) q from HR1.out)
          have hin := escF_in s (p + 1) HPL.out
          rw [hef] at hin
          have hc : c < 256 := hin.2 c q rfl
          have hcI : (c : Int) < 256 := by omega
          rintro e9 w3 ⟨ho, rfl, ha⟩
          have HA3 := Lib.hid ha; have HZ3 := Lib.hid (HZ2.out.only ho HG.out); have HO3 := Lib.hid (HO2.out.tr ho)
          clear ho ha hin hef HEC HR1 hc
          have HOF := Lib.hid (ofP _ w3.heap.size (c : Int) (by omega) hcI (AtG.new w3 5 #[.int .u8 (c : Int)]))
          rw [Int.toNat_natCast] at HOF
          go_wp2_with fail
          refine (HOF.out).mono ?_
          rintro e9 wo ⟨rfl, hb⟩
          have HAo := Lib.hid ((HA3.out.alloc _).below hb); have HZo := Lib.hid ((HZ3.out.alloc _).below hb); have HOo := Lib.hid ((HO3.out.al (.cells #[.int .u8 (c : Int)] 5)).tb hb)
          clear hb HOF
          go_wp2_with fail
          refine (oneX (fun y => y == c) _).mono ?_
          rintro e9 wn ⟨rfl, hb⟩
          have HAn := Lib.hid (HAo.out.below hb); have HZn := Lib.hid (HZo.out.below hb); have HOn := Lib.hid (HOo.out.tb hb)
          have HSZ := Lib.hid (show w.heap.size < wn.heap.size from HZn.out.lt)
          clear hb
          have d0 : wn.cell? ⟨w.heap.size, 0, none⟩ = some (.int .i64 0) := (HZn.out).cell 0 _ rfl
          have d1 : wn.cell? ⟨w.heap.size, 1, none⟩ = some (.int .u64 0) := (HZn.out).cell 1 _ rfl
          have d2 : wn.cell? ⟨w.heap.size, 2, none⟩ = some (.int .u64 0) := (HZn.out).cell 2 _ rfl
          have d3 : wn.cell? ⟨w.heap.size, 3, none⟩ = some (.int .u64 0) := (HZn.out).cell 3 _ rfl
          have d4 : wn.cell? ⟨w.heap.size, 4, none⟩ = some (.int .u64 0) := (HZn.out).cell 4 _ rfl
          have d5 : wn.cell? ⟨w.heap.size, 5, none⟩ = some (.int .i64 0) := (HZn.out).cell 5 _ rfl
          have d6 : wn.cell? ⟨w.heap.size, 6, none⟩ = some (.int .i64 0) := (HZn.out).cell 6 _ rfl
          have d7 : wn.cell? ⟨w.heap.size, 7, none⟩ = some (.slice none 0 0) := (HZn.out).cell 7 _ rfl
          have f0 := (HZn.out).frozen 0; have f1 := (HZn.out).frozen 1; have f2 := (HZn.out).frozen 2; have f3 := (HZn.out).frozen 3
          have f4 := (HZn.out).frozen 4; have f5 := (HZn.out).frozen 5; have f6 := (HZn.out).frozen 6; have f7 := (HZn.out).frozen 7
          unfold nodeV one
          dsimp only
          go_wp2_with fail
          refine bodyPost_ret (v := nodeV (one (fun y => y == c)) (.slice none 0 0)) (by simp [results, Try.results76, go_sem, d0, d1, d2, d3, d4, d5, d6, d7]; try rfl) rfl ?_
          rw [HR.out]
          exact rxn_post HOn.out HAn.out HG.out HSZ.out (kat_one _ _ _ _ _ _)
    have e92 : (d == 92) = false := by rw [beq_eq_false_iff_ne]; exact h92
    have HF3 := Lib.hid (HF2.out.trans (if_neg h92))
    clear HF2
    have z1 : w1.cell? ⟨g, 1, none⟩ = some (.int .i64 ((p + 1 : Nat) : Int)) := HA1.out.cell 1 _ rfl
    rw [show ((p + 1 : Nat) : Int) = (p : Int) + 1 from by omega] at z1
    by_cases h42 : d = 42
    · have HR := Lib.hid (HF3.out.trans (if_pos (.inl h42)))
      subst h42
      clear HF3 e40 e91 e46 e92
      go_wp2_with fail
      refine (failX g p 3 _).mono ?_
      rintro e9 w2 ⟨hb2, b, rfl, hx⟩
      refine ⟨rfl, ?_⟩
      rw [HR.out]
      exact ⟨HO1.out.tb hb2, b, rfl, hx⟩
    by_cases h43 : d = 43
    · have HR := Lib.hid (HF3.out.trans (if_pos (.inr h43)))
      subst h43
      clear HF3 e40 e91 e46 e92
      go_wp2_with fail
      refine (failX g p 3 _).mono ?_
      rintro e9 w2 ⟨hb2, b, rfl, hx⟩
      refine ⟨rfl, ?_⟩
      rw [HR.out]
      exact ⟨HO1.out.tb hb2, b, rfl, hx⟩
    have e42 : (d == 42) = false := by rw [beq_eq_false_iff_ne]; exact h42
    have e43 : (d == 43) = false := by rw [beq_eq_false_iff_ne]; exact h43
    have HF4 := Lib.hid (HF3.out.trans (if_neg (fun h => h.elim h42 h43)))
    clear HF3
    by_cases hbk : d ∈ brk
    · have HR := Lib.hid (HF4.out.trans (if_pos hbk))
      have hbk' : d = 93 ∨ d = 41 ∨ d = 125 ∨ d = 123 ∨ d = 124 ∨ d = 63 ∨ d = 94 ∨ d = 36 := by unfold brk at hbk; simpa using hbk
      clear HF4 hbk
      rcases hbk' with rfl | rfl | rfl | rfl | rfl | rfl | rfl | rfl
      all_goals (go_wp2_with fail; refine (failX g p 2 _).mono ?_; rintro e9 w2 ⟨hb2, b, rfl, hx⟩; refine ⟨rfl, ?_⟩; rw [HR.out]; exact ⟨HO1.out.tb hb2, b, rfl, hx⟩)
    · have HR := Lib.hid (HF4.out.trans (if_neg hbk))
      have hbk' : ¬ d = 93 ∧ ¬ d = 41 ∧ ¬ d = 125 ∧ ¬ d = 123 ∧ ¬ d = 124 ∧ ¬ d = 63 ∧ ¬ d = 94 ∧ ¬ d = 36 := by unfold brk at hbk; simpa using hbk
      obtain ⟨b1, b2, b3, b4, b5, b6, b7, b8⟩ := hbk'
      have c1 : (d == 93) = false := by rw [beq_eq_false_iff_ne]; exact b1
      have c2 : (d == 41) = false := by rw [beq_eq_false_iff_ne]; exact b2
      have c3 : (d == 125) = false := by rw [beq_eq_false_iff_ne]; exact b3
      have c4 : (d == 123) = false := by rw [beq_eq_false_iff_ne]; exact b4
      have c5 : (d == 124) = false := by rw [beq_eq_false_iff_ne]; exact b5
      have c6 : (d == 63) = false := by rw [beq_eq_false_iff_ne]; exact b6
      have c7 : (d == 94) = false := by rw [beq_eq_false_iff_ne]; exact b7
      have c8 : (d == 36) = false := by rw [beq_eq_false_iff_ne]; exact b8
      clear HF4 hbk z1
      have HOF := Lib.hid (ofP _ (w1).heap.size (d) (hl0) (hl2) (AtG.new (w1) 5 #[.int .u8 (d)]))
      go_wp2_with fail
      refine (HOF.out).mono ?_
      rintro e9 wo ⟨rfl, hb⟩
      have HAo := Lib.hid ((HA1.out.alloc _).below hb); have HZo := Lib.hid ((HZ1.out.alloc _).below hb); have HOo := Lib.hid ((HO1.out.al (.cells #[.int .u8 (d)] 5)).tb hb)
      clear hb HOF
      go_wp2_with fail
      refine (oneX (fun y => y == d.toNat) _).mono ?_
      rintro e9 wn ⟨rfl, hb⟩
      have HAn := Lib.hid (HAo.out.below hb); have HZn := Lib.hid (HZo.out.below hb); have HOn := Lib.hid (HOo.out.tb hb)
      have HSZ := Lib.hid (show w.heap.size < wn.heap.size from HZn.out.lt)
      clear hb
      have d0 : wn.cell? ⟨w.heap.size, 0, none⟩ = some (.int .i64 0) := (HZn.out).cell 0 _ rfl
      have d1 : wn.cell? ⟨w.heap.size, 1, none⟩ = some (.int .u64 0) := (HZn.out).cell 1 _ rfl
      have d2 : wn.cell? ⟨w.heap.size, 2, none⟩ = some (.int .u64 0) := (HZn.out).cell 2 _ rfl
      have d3 : wn.cell? ⟨w.heap.size, 3, none⟩ = some (.int .u64 0) := (HZn.out).cell 3 _ rfl
      have d4 : wn.cell? ⟨w.heap.size, 4, none⟩ = some (.int .u64 0) := (HZn.out).cell 4 _ rfl
      have d5 : wn.cell? ⟨w.heap.size, 5, none⟩ = some (.int .i64 0) := (HZn.out).cell 5 _ rfl
      have d6 : wn.cell? ⟨w.heap.size, 6, none⟩ = some (.int .i64 0) := (HZn.out).cell 6 _ rfl
      have d7 : wn.cell? ⟨w.heap.size, 7, none⟩ = some (.slice none 0 0) := (HZn.out).cell 7 _ rfl
      have f0 := (HZn.out).frozen 0; have f1 := (HZn.out).frozen 1; have f2 := (HZn.out).frozen 2; have f3 := (HZn.out).frozen 3
      have f4 := (HZn.out).frozen 4; have f5 := (HZn.out).frozen 5; have f6 := (HZn.out).frozen 6; have f7 := (HZn.out).frozen 7
      unfold nodeV one
      dsimp only
      go_wp2_with fail
      refine bodyPost_ret (v := nodeV (one (fun y => y == d.toNat)) (.slice none 0 0)) (by simp [results, Try.results76, go_sem, d0, d1, d2, d3, d4, d5, d6, d7]; try rfl) rfl ?_
      rw [HR.out]
      exact rxn_post HOn.out HAn.out HG.out HSZ.out (kat_one _ _ _ _ _ _)
  · have hpe : p = s.size := by omega
    have HN := Lib.hid (nextX_end g s p o _ HA0.out hpe)
    have HR := Lib.hid (show atomF s p = .no 2 p from by unfold atomF; rw [if_pos (by rw [ch_end (by omega)]; decide)])
    clear h hpe hlt hp h40
    generalize atomF s p = R at *
    go_enter Try.func76, Try.ntmps76
    go_wp2_with fail
    refine (HN.out).mono ?_
    rintro e9 w1 ⟨ho, b, rfl, hx⟩
    refine ⟨rfl, ?_⟩
    rw [HR.out]
    exact ⟨HO0.out.tr ho, b, rfl, hx⟩
end Go.Proofs.Ytofgkildlhcpdaa
