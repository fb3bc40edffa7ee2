/- The program's reader of patterns: escaped, member, wide. -/
import Derived.Test.YtgjcibhhffkemaaGreatDoorPf3
import Derived.Lib.Bytealg
import Derived.Deep.RegionWith
import Derived.Defers
import Derived.Recover
import Derived.Laws.Pointers
set_option linter.unusedVariables false
set_option linter.unusedSimpArgs false
namespace Go.Proofs.YtgjcibhhffkemaaGreatDoor
open Go.RowKit Bt Go.Lib
def spcX : ByteArray := ⟨#[92, 46, 91, 93, 40, 41, 123, 125, 124, 63, 42, 43, 94, 36, 45, 47]⟩
theorem spc_all : (List.range 256).all (fun n => (decide (indexByte spcX.data.toList n.toUInt8 < 0) == !decide ((n : Int) ∈ spc)) && decide (indexByte spcX.data.toList n.toUInt8 < 100)) = true := by kernel_rfl
theorem spc_ix (c : Int) (h0 : 0 ≤ c) (h1 : c < 256) : (indexByte spcX.data.toList c.toNat.toUInt8 < 0 ↔ c ∉ spc) := by
  have h := List.all_eq_true.1 spc_all c.toNat (List.mem_range.2 (by omega))
  rw [Bool.and_eq_true, beq_iff_eq, Int.toNat_of_nonneg h0] at h
  have h2 := h.1
  by_cases hc : c ∈ spc
  · rw [decide_eq_true hc] at h2
    exact ⟨(fun h => by rw [decide_eq_true h] at h2; cases h2), fun h => absurd hc h⟩
  · rw [decide_eq_false hc] at h2
    exact ⟨fun _ => hc, fun _ => of_decide_eq_true h2⟩
theorem run_ixs (s : ByteArray) (c : Int) (w : World) : (callFunc 93 #[.string s, .int .u8 c]).run Tryz.prog w = .ok (.value (.int .i64 (indexByte s.data.toList c.toNat.toUInt8))) w := by
  rw [run_callFunc_extern (P := Tryz.prog) (f := 93) (fn := Tryz.f93) (e := Extern.BytealgIndexByte.indexByte) (by kernel_rfl) (by kernel_rfl) (by kernel_rfl) (by kernel_rfl) (by kernel_rfl), run_indexByteString]
  rfl
theorem ixL (s : ByteArray) (c : Int) (w : World) : Calls Tryz.prog 81 #[.string s, .int .u8 c] w fun e w' => e = .returned (.int .i64 (indexByte s.data.toList c.toNat.toUInt8)) ∧ w' = w := by
  have hd := run_ixs s c w
  generalize indexByte s.data.toList c.toNat.toUInt8 = r at *
  go_enter Tryz.func81, Tryz.ntmps81
  go_wp2
  go_returns
  exact ⟨rfl, rfl⟩
theorem ixS (s : ByteArray) (c : Int) (w : World) : Calls Tryz.prog 59 #[.string s, .int .u8 c] w fun e w' => e = .returned (.int .i64 (indexByte s.data.toList c.toNat.toUInt8)) ∧ w' = w := by
  have hd := Lib.hid (ixL s c w)
  generalize indexByte s.data.toList c.toNat.toUInt8 = r at *
  go_enter Tryz.func59, Tryz.ntmps59
  go_wp2_with fail
  refine (hd.out).mono ?_
  rintro e9 w9 ⟨rfl, hw9⟩; subst hw9
  go_wp2_with fail
  go_returns
  exact ⟨rfl, rfl⟩
set_option maxRecDepth 100000 in
set_option maxHeartbeats 800000 in
theorem escX (g : Nat) (s : ByteArray) (p o : Nat) (w : World) (h : AtG w g 94 (rxr s p o)) (hp : p ≤ s.size) (hs : s.size ≤ 900) :
    Calls Tryz.prog 124 #[.pointer (some ⟨g, 0, none⟩)] w (RxP g s o w (escF s p) (fun n => .int .u8 (n : Int))) := by
  by_cases hlt : p < s.size
  · have HN := Lib.hid (nextX_in g s p o w h hlt (by omega))
    have HF := Lib.hid (show escF s p = if ch s p = 110 then .ok 10 (p + 1) else if ch s p = 116 then .ok 9 (p + 1) else if ch s p ∈ spc then .ok (ch s p).toNat (p + 1) else .no 2 p from rfl)
    have hpI : (p : Int) < 1000 := by omega
    have hl0 := ch_pos hlt
    have hl2 := (ch_lt s p).2
    generalize escF s p = R at *
    generalize ch s p = d at *
    have HIX := Lib.hid (ixS spcX d)
    have HSP := Lib.hid (spc_ix d hl0 hl2)
    generalize indexByte spcX.data.toList d.toNat.toUInt8 = ix at *
    clear h
    go_enter Tryz.func124, Tryz.ntmps124
    go_wp2_with fail
    refine (HN.out).mono ?_
    rintro e9 w1 ⟨rfl, ho, ha⟩
    have HO := Lib.hid ho; have HA := Lib.hid ha
    clear ho ha HN
    by_cases h1 : d = 110
    · have HR := Lib.hid (HF.out.trans (if_pos h1))
      subst h1
      clear HF HIX HSP
      go_wp2_with fail
      refine bodyPost_ret (v := .int .u8 10) (by simp [results, Tryz.results124, go_sem]; try rfl) rfl ?_
      rw [HR.out]
      exact ⟨HO.out, rfl, HA.out⟩
    · have HF1 := Lib.hid (HF.out.trans (if_neg h1))
      have e1 : (d == 110) = false := by rw [beq_eq_false_iff_ne]; exact h1
      by_cases h2 : d = 116
      · have HR := Lib.hid (HF1.out.trans (if_pos h2))
        subst h2
        clear HF HF1 HIX HSP
        go_wp2_with fail
        refine bodyPost_ret (v := .int .u8 9) (by simp [results, Tryz.results124, go_sem]; try rfl) rfl ?_
        rw [HR.out]
        exact ⟨HO.out, rfl, HA.out⟩
      · have HF2 := Lib.hid (HF1.out.trans (if_neg h2))
        have e2 : (d == 116) = false := by rw [beq_eq_false_iff_ne]; exact h2
        clear HF HF1
        go_wp2_with fail
        refine (HIX.out _).mono ?_
        rintro e9 w9 ⟨rfl, hw9⟩; subst hw9
        by_cases h3 : d ∈ spc
        · have HR := Lib.hid (HF2.out.trans (if_pos h3))
          have h4 : ¬ ix < 0 := fun h => (HSP.out.1 h) h3
          clear HF2 HSP h3
          go_wp2_with fail
          refine bodyPost_ret (v := .int .u8 d) (by simp [results, Tryz.results124, go_sem]; try rfl) rfl ?_
          rw [HR.out]
          refine ⟨HO.out, ?_, HA.out⟩
          show Ending.returned (.int .u8 d) = Ending.returned (.int .u8 ((d.toNat : Nat) : Int))
          rw [Int.toNat_of_nonneg hl0]
        · have HR := Lib.hid (HF2.out.trans (if_neg h3))
          have h4 : ix < 0 := HSP.out.2 h3
          have z1 : w9.cell? ⟨g, 1, none⟩ = some (.int .i64 ((p + 1 : Nat) : Int)) := HA.out.cell 1 _ rfl
          rw [show ((p + 1 : Nat) : Int) = (p : Int) + 1 from by omega] at z1
          clear HF2 HSP h3
          go_wp2_with fail
          refine (failX g p 2 _).mono ?_
          rintro e9 w2 ⟨hb2, b, rfl, hx⟩
          refine ⟨rfl, ?_⟩
          rw [HR.out]
          exact ⟨HO.out.tb hb2, b, rfl, hx⟩
  · have hpe : p = s.size := by omega
    have HN := Lib.hid (nextX_end g s p o w h hpe)
    have HR := Lib.hid (show escF s p = .no 2 p from by unfold escF; rw [ch_end (by omega), if_neg (by decide), if_neg (by decide), if_neg (by decide)])
    clear h hpe hlt hp
    generalize escF s p = R at *
    go_enter Tryz.func124, Tryz.ntmps124
    go_wp2_with fail
    refine (HN.out).mono ?_
    rintro e9 w1 ⟨ho, b, rfl, hx⟩
    refine ⟨rfl, ?_⟩
    rw [HR.out]
    exact ⟨ho, b, rfl, hx⟩
set_option maxRecDepth 100000 in
set_option maxHeartbeats 800000 in
theorem memX (g : Nat) (s : ByteArray) (p o : Nat) (w : World) (h : AtG w g 94 (rxr s p o)) (hp : p ≤ s.size) (hs : s.size ≤ 900) :
    Calls Tryz.prog 136 #[.pointer (some ⟨g, 0, none⟩)] w (RxP g s o w (memberF s p) (fun n => .int .u8 (n : Int))) := by
  by_cases hlt : p < s.size
  · have HN := Lib.hid (nextX_in g s p o w h hlt (by omega))
    have HES := Lib.hid (fun (w1 : World) (h1 : AtG w1 g 94 (rxr s ((p + 1 : Nat) : Int) o)) => escX g s (p + 1) o w1 h1 hlt hs)
    have hpI : (p : Int) < 1000 := by omega
    have hl0 := ch_pos hlt
    have HF := Lib.hid (show memberF s p = if ch s p = 93 then .no 2 p else if ch s p = 92 then escF s (p + 1) else .ok (ch s p).toNat (p + 1) from by unfold memberF; rw [if_neg (by omega)])
    generalize memberF s p = R at *
    generalize escF s (p + 1) = E at *
    generalize ch s p = d at *
    clear h
    go_enter Tryz.func136, Tryz.ntmps136
    go_wp2_with fail
    refine (HN.out).mono ?_
    rintro e9 w1 ⟨rfl, ho, ha⟩
    have HO := Lib.hid ho; have HA := Lib.hid ha
    clear ho ha HN
    by_cases h1 : d = 93
    · have HR := Lib.hid (HF.out.trans (if_pos h1))
      have z1 : w1.cell? ⟨g, 1, none⟩ = some (.int .i64 ((p + 1 : Nat) : Int)) := HA.out.cell 1 _ rfl
      rw [show ((p + 1 : Nat) : Int) = (p : Int) + 1 from by omega] at z1
      subst h1
      clear HF HES
      go_wp2_with fail
      refine (failX g p 2 _).mono ?_
      rintro e9 w2 ⟨hb2, b, rfl, hx⟩
      refine ⟨rfl, ?_⟩
      rw [HR.out]
      exact ⟨HO.out.tb hb2, b, rfl, hx⟩
    · have HF1 := Lib.hid (HF.out.trans (if_neg h1))
      have e1 : (d == 93) = false := by rw [beq_eq_false_iff_ne]; exact h1
      by_cases h2 : d = 92
      · have HR := Lib.hid (HF1.out.trans (if_pos h2))
        have HEC := Lib.hid (HES.out w1 HA.out)
        subst h2
        clear HF HF1 HES
        go_wp2_with fail
        refine (HEC.out).mono ?_
        cases E with
        | no c x =>
          rintro e9 w2 ⟨ho, b, rfl, hx⟩
          refine ⟨rfl, ?_⟩
          rw [HR.out]
          exact ⟨HO.out.tr ho, b, rfl, hx⟩
        | ok a q =>
          rintro e9 w2 ⟨ho, rfl, ha⟩
          have HO2 := Lib.hid (HO.out.tr ho); have HA2 := Lib.hid ha
          clear ho ha HEC
          go_wp2_with fail
          refine bodyPost_ret (v := .int .u8 (a : Int)) (by simp [results, Tryz.results136, go_sem]; try rfl) rfl ?_
          rw [HR.out]
          exact ⟨HO2.out, rfl, HA2.out⟩
      · have HR := Lib.hid (HF1.out.trans (if_neg h2))
        have e2 : (d == 92) = false := by rw [beq_eq_false_iff_ne]; exact h2
        clear HF HF1 HES
        go_wp2_with fail
        refine bodyPost_ret (v := .int .u8 d) (by simp [results, Tryz.results136, go_sem]; try rfl) rfl ?_
        rw [HR.out]
        refine ⟨HO.out, ?_, HA.out⟩
        show Ending.returned (.int .u8 d) = Ending.returned (.int .u8 ((d.toNat : Nat) : Int))
        rw [Int.toNat_of_nonneg hl0]
  · have hpe : p = s.size := by omega
    have HN := Lib.hid (nextX_end g s p o w h hpe)
    have HR := Lib.hid (show memberF s p = .no 2 p from by unfold memberF; rw [if_pos (by rw [ch_end (by omega)]; decide)])
    clear h hpe hlt hp
    generalize memberF s p = R at *
    go_enter Tryz.func136, Tryz.ntmps136
    go_wp2_with fail
    refine (HN.out).mono ?_
    rintro e9 w1 ⟨ho, b, rfl, hx⟩
    refine ⟨rfl, ?_⟩
    rw [HR.out]
    exact ⟨ho, b, rfl, hx⟩
end Go.Proofs.YtgjcibhhffkemaaGreatDoor
/- The program's reader of patterns: wide. -/
set_option linter.unusedVariables false
set_option linter.unusedSimpArgs false
namespace Go.Proofs.YtgjcibhhffkemaaGreatDoor
open Go.RowKit Bt
theorem rangeP (a b : Nat) (w : World) (ha : a < 256) (hb : b < 256) :
    Calls Tryz.prog 132 #[.int .u8 (a : Int), .int .u8 (b : Int)] w fun e w' => e = .returned (setOf (spanF a (b + 1))) ∧ Below w.heap.size w w' := by
  have := range_any (a : Int) (b : Int) w (by omega) (by omega) (by omega) (by omega)
  rw [Int.toNat_natCast, Int.toNat_natCast] at this
  exact this
theorem ofP (w : World) (g : Nat) (c : Int) (h0 : 0 ≤ c) (h1 : c < 256) (h : AtG w g 5 #[.int .u8 c]) :
    Calls Tryz.prog 122 #[.slice (some ⟨g, 0, none⟩) 1 1] w fun e w' => e = .returned (setOf fun y => y == c.toNat) ∧ Below w.heap.size w w' := by
  have hr : RdB w (.slice (some ⟨g, 0, none⟩) 1 1) [c] := rdB_cells [c] h (Nat.le_refl _) (by simp) (by intro x hx; simp at hx; subst hx; omega)
  have := of_any _ _ w hr
  rw [show setOf (memF [c]) = setOf (fun y => y == c.toNat) from setOf_ext fun x hx => by
    unfold memF; rw [Bool.eq_iff_iff]; simp; omega] at this
  exact this
theorem ofPv {w : World} {v : Value} {B : Nat} {c : Int} (h0 : 0 ≤ c) (h1 : c < 256) (h : ∃ kk, v = .slice (some ⟨kk, 0, none⟩) 1 1 ∧ AtG w kk 5 #[.int .u8 c] ∧ kk ≠ B) :
    Calls Tryz.prog 122 #[v] w fun e w' => e = .returned (setOf fun y => y == c.toNat) ∧ Below w.heap.size w w' := by
  obtain ⟨kk, rfl, ha, _⟩ := h
  exact ofP w kk c h0 h1 ha
set_option maxRecDepth 100000 in
set_option maxHeartbeats 1600000 in
theorem wideX (c : Int) (w : World) : Calls Tryz.prog 123 #[.int .u8 c] w fun e w' => e = .returned (wideV c) ∧ Below w.heap.size w w' := by
  have HD := Lib.hid (fun w => rangeP 48 57 w (by decide) (by decide))
  rw [show setOf (spanF 48 (57 + 1)) = setOf digF from rfl] at HD
  have HA := Lib.hid (AtG.new w 38 (setC 0 0 0 0))
  have HB := Lib.hid ((Below.refl w.heap.size w).alloc (Nat.le_refl _) (.cells (setC 0 0 0 0) 38))
  by_cases h1 : c = 100
  · subst h1
    go_enter Tryz.func123, Tryz.ntmps123
    go_wp2_with fail
    refine (HD.out _).mono ?_
    rintro e9 w1 ⟨rfl, hw⟩
    have HA1 := Lib.hid (HA.out.below hw)
    have HB1 := Lib.hid (HB.out.trans (hw.mono HB.out.size))
    clear hw HA HB
    unfold setOf
    go_upto_region 2 with (fail)
    obtain ⟨W, hW⟩ : ∃ W : World, W = w1.alloc (.cells (cellsOf digF) 38) := ⟨_, rfl⟩
    have hW' : w1.alloc (.cells #[.int .u64 ((wd digF 0 : Nat) : Int), .int .u64 ((wd digF 1 : Nat) : Int), .int .u64 ((wd digF 2 : Nat) : Int), .int .u64 ((wd digF 3 : Nat) : Int)] 38) = W := hW.symm
    rw [hW']
    have HA2 : Hid (AtG W w.heap.size 38 (setC 0 0 0 0)) := Lib.hid (by rw [hW]; exact HA1.out.alloc _)
    have HG2 : Hid (AtG W w1.heap.size 38 (cellsOf digF)) := Lib.hid (by rw [hW]; exact AtG.new _ _ _)
    have HB2 : Hid (Below w.heap.size w W) := Lib.hid (by rw [hW]; exact HB1.out.alloc HB1.out.size _)
    have hne : ¬ w1.heap.size = w.heap.size := by have := HA1.out.lt; omega
    clear hW hW' HA1 HB1
    have z0 : W.cell? ⟨w1.heap.size, 0, none⟩ = some (.int .u64 ((wd digF 0 : Nat) : Int)) := HG2.out.cell 0 _ rfl
    have z1 : W.cell? ⟨w1.heap.size, 1, none⟩ = some (.int .u64 ((wd digF 1 : Nat) : Int)) := HG2.out.cell 1 _ rfl
    have z2 : W.cell? ⟨w1.heap.size, 2, none⟩ = some (.int .u64 ((wd digF 2 : Nat) : Int)) := HG2.out.cell 2 _ rfl
    have z3 : W.cell? ⟨w1.heap.size, 3, none⟩ = some (.int .u64 ((wd digF 3 : Nat) : Int)) := HG2.out.cell 3 _ rfl
    have d0 := (HA2.out).cell 0 _ rfl; have d1 := (HA2.out).cell 1 _ rfl; have d2 := (HA2.out).cell 2 _ rfl; have d3 := (HA2.out).cell 3 _ rfl
    have f0 := (HA2.out).frozen 0; have f1 := (HA2.out).frozen 1; have f2 := (HA2.out).frozen 2; have f3 := (HA2.out).frozen 3
    go_wp2_with fail
    refine bodyPost_ret (v := wideV 100) (by simp [results, Tryz.results123, go_sem, d0, d1, d2, d3]; try rfl) rfl ⟨rfl, ?_⟩
    exact below_set4 HB2.out _ (Nat.le_refl _) _ _ _ _
  by_cases h2 : c = 119
  · subst h2
    have HF1 := Lib.hid (fun w => rangeP 97 122 w (by decide) (by decide))
    have HF2 := Lib.hid (fun w => rangeP 65 90 w (by decide) (by decide))
    go_enter Tryz.func123, Tryz.ntmps123
    go_wp2_with fail
    refine (HD.out _).mono ?_
    rintro e9 w1 ⟨rfl, hw⟩
    have HA1 := Lib.hid (HA.out.below hw)
    have HB1 := Lib.hid (HB.out.trans (hw.mono HB.out.size))
    clear hw HA HB
    unfold setOf
    go_upto_region 2 with (fail)
    obtain ⟨W, hW⟩ : ∃ W : World, W = w1.alloc (.cells (cellsOf digF) 38) := ⟨_, rfl⟩
    have hW' : w1.alloc (.cells #[.int .u64 ((wd digF 0 : Nat) : Int), .int .u64 ((wd digF 1 : Nat) : Int), .int .u64 ((wd digF 2 : Nat) : Int), .int .u64 ((wd digF 3 : Nat) : Int)] 38) = W := hW.symm
    rw [hW']
    have HA2 : Hid (AtG W w.heap.size 38 (setC 0 0 0 0)) := Lib.hid (by rw [hW]; exact HA1.out.alloc _)
    have HG2 : Hid (AtG W w1.heap.size 38 (cellsOf digF)) := Lib.hid (by rw [hW]; exact AtG.new _ _ _)
    have HB2 : Hid (Below w.heap.size w W) := Lib.hid (by rw [hW]; exact HB1.out.alloc HB1.out.size _)
    have hne : w1.heap.size ≠ w.heap.size := by have := HA1.out.lt; omega
    clear hW hW' HA1 HB1
    go_upto_region 6 with (fail)
    refine RgX.start (by kernel_rfl) [(8, fun w5 w6 => ∃ f, w6 = putS w5 w.heap.size f)] [⟨fun w5 => AtG w5 w1.heap.size 38 (cellsOf digF) ∧ Below w.heap.size w w5, none⟩, ⟨fun w5 => AtG w5 w.heap.size 38 (setC 0 0 0 0), some 8⟩] ⟨⟨fun _ _ h hb => ⟨h.1.below hb, h.2.trans (hb.mono h.2.size)⟩, ⟨fun _ _ _ _ => (fun w5 w6 h he => by obtain ⟨f, rfl⟩ := he; exact ⟨putS_far h.1 hne _, putS_below h.2 (Nat.le_refl _) _⟩), trivial⟩⟩, ⟨fun _ _ h hb => h.below hb, ⟨fun _ h _ _ => absurd rfl h, trivial⟩⟩, trivial⟩ (by kernel_rfl) (by kernel_rfl) ⟨⟨HG2.out.drew, HB2.out.drew⟩, HA2.out.drew, trivial⟩ ?_
    show RgX.Build _ _ _ _ _ _ 0 [_, _, _, _, _, _, _, _, _, _] []
    refine RgX.build_cons (m := 1) (r := RgX.eq _) (RgX.one_plain (by rfl) (by (intro ax wx hk Kx hK; have k4 := hk.base 4 _ rfl rfl; have hg := hk.fact 0 0 _ rfl rfl; (try dsimp only at hg); have ha := hk.fact 1 1 _ rfl rfl; (try dsimp only at ha); clear hk; have z0 := hg.1.cell 0 _ rfl; have z1 := hg.1.cell 1 _ rfl; have z2 := hg.1.cell 2 _ rfl; have z3 := hg.1.cell 3 _ rfl; go_simp; refine hK _ _ (fun h => by cases h) (fun _ _ => ?_) (Below.refl _ _); apply RgX.mk))) ?_ rfl RgX.keep_eq (fun _ h => by cases h)
    refine RgX.build_cons (m := 2) (r := (⟨fun v _ w5 => ∃ kk, v = .slice (some ⟨kk, 0, none⟩) 1 1 ∧ AtG w5 kk 5 #[.int .u8 95] ∧ kk ≠ w.heap.size, none, none⟩ : RgX.Rl)) (RgX.one_plain (by rfl) (by (intro ax wx hk Kx hK; have hg := hk.fact 0 0 _ rfl rfl; (try dsimp only at hg); have ha := hk.fact 1 1 _ rfl rfl; (try dsimp only at ha); clear hk; (go_simp; exact hK _ _ (fun h => by cases h) (fun u _ => ⟨wx.heap.size, rfl, AtG.new _ _ _, by have := ha.lt; omega⟩) ((Below.refl _ _).alloc (Nat.le_refl _) _))))) ?_ rfl (RgX.keep_r (fun _ _ _ _ h hb => by obtain ⟨kk, h1, h2, h3⟩ := h; exact ⟨kk, h1, h2.below hb, h3⟩) (fun _ _ => ⟨fun _ _ _ _ => (fun w5 w6 h he => by obtain ⟨f, rfl⟩ := he; obtain ⟨kk, h1, h2, h3⟩ := h; exact ⟨kk, h1, putS_far h2 h3 _, h3⟩), trivial⟩)) (fun _ h => by cases h)
    refine RgX.build_cons (m := 3) (r := RgX.eq _) (RgX.one_plain (by rfl) (by (intro ax wx hk Kx hK; obtain ⟨v13, k13, h13⟩ := hk.dep 0 1 13 _ rfl rfl rfl; (first | (replace h13 := h13 9 undef rfl rfl; first | (cases (h13 : v13 = _)) | (obtain ⟨rfl, h13⟩ := h13) | skip) | skip); have hg := hk.fact 0 0 _ rfl rfl; (try dsimp only at hg); have ha := hk.fact 1 1 _ rfl rfl; (try dsimp only at ha); clear hk; go_simp; refine (ofPv (by decide) (by decide) h13).mono ?_; rintro e w' ⟨rfl, hb⟩; refine hK _ _ (fun h => by cases h) (fun _ _ => ?_) hb; apply RgX.mk))) ?_ rfl RgX.keep_eq (fun _ h => by cases h)
    refine RgX.build_cons (m := 4) (r := RgX.eq _) (RgX.one_plain (by rfl) (by (intro ax wx hk Kx hK; obtain ⟨v12, k12, h12⟩ := hk.dep 0 0 12 _ rfl rfl rfl; (first | (replace h12 := h12 9 undef rfl rfl; first | (cases (h12 : v12 = _)) | (obtain ⟨rfl, h12⟩ := h12) | skip) | skip); obtain ⟨v14, k14, h14⟩ := hk.dep 0 2 14 _ rfl rfl rfl; (first | (replace h14 := h14 9 undef rfl rfl; first | (cases (h14 : v14 = _)) | (obtain ⟨rfl, h14⟩ := h14) | skip) | skip); have hg := hk.fact 0 0 _ rfl rfl; (try dsimp only at hg); have ha := hk.fact 1 1 _ rfl rfl; (try dsimp only at ha); clear hk; go_simp; refine (or_any digF (fun y => y == 95) _).mono ?_; rintro e w' ⟨rfl, hb⟩; refine hK _ _ (fun h => by cases h) (fun _ _ => ?_) hb; apply RgX.mk))) ?_ rfl RgX.keep_eq (fun _ h => by cases h)
    refine RgX.build_cons (m := 5) (r := RgX.eq _) (RgX.one_plain (by rfl) (by (intro ax wx hk Kx hK; have hg := hk.fact 0 0 _ rfl rfl; (try dsimp only at hg); have ha := hk.fact 1 1 _ rfl rfl; (try dsimp only at ha); clear hk; go_simp; refine (HF1.out _).mono ?_; rintro e w' ⟨rfl, hb⟩; refine hK _ _ (fun h => by cases h) (fun _ _ => ?_) hb; apply RgX.mk))) ?_ rfl RgX.keep_eq (fun _ h => by cases h)
    refine RgX.build_cons (m := 6) (r := RgX.eq _) (RgX.one_plain (by rfl) (by (intro ax wx hk Kx hK; have hg := hk.fact 0 0 _ rfl rfl; (try dsimp only at hg); have ha := hk.fact 1 1 _ rfl rfl; (try dsimp only at ha); clear hk; go_simp; refine (HF2.out _).mono ?_; rintro e w' ⟨rfl, hb⟩; refine hK _ _ (fun h => by cases h) (fun _ _ => ?_) hb; apply RgX.mk))) ?_ rfl RgX.keep_eq (fun _ h => by cases h)
    refine RgX.build_cons (m := 7) (r := RgX.eq _) (RgX.one_plain (by rfl) (by (intro ax wx hk Kx hK; obtain ⟨v16, k16, h16⟩ := hk.dep 0 4 16 _ rfl rfl rfl; (first | (replace h16 := h16 9 undef rfl rfl; first | (cases (h16 : v16 = _)) | (obtain ⟨rfl, h16⟩ := h16) | skip) | skip); obtain ⟨v17, k17, h17⟩ := hk.dep 0 5 17 _ rfl rfl rfl; (first | (replace h17 := h17 9 undef rfl rfl; first | (cases (h17 : v17 = _)) | (obtain ⟨rfl, h17⟩ := h17) | skip) | skip); have hg := hk.fact 0 0 _ rfl rfl; (try dsimp only at hg); have ha := hk.fact 1 1 _ rfl rfl; (try dsimp only at ha); clear hk; go_simp; refine (or_any (spanF 97 123) (spanF 65 91) _).mono ?_; rintro e w' ⟨rfl, hb⟩; refine hK _ _ (fun h => by cases h) (fun _ _ => ?_) hb; apply RgX.mk))) ?_ rfl RgX.keep_eq (fun _ h => by cases h)
    refine RgX.build_cons (m := 8) (r := RgX.eq _) (RgX.one_plain (by rfl) (by (intro ax wx hk Kx hK; obtain ⟨v15, k15, h15⟩ := hk.dep 0 3 15 _ rfl rfl rfl; (first | (replace h15 := h15 9 undef rfl rfl; first | (cases (h15 : v15 = _)) | (obtain ⟨rfl, h15⟩ := h15) | skip) | skip); obtain ⟨v18, k18, h18⟩ := hk.dep 0 6 18 _ rfl rfl rfl; (first | (replace h18 := h18 9 undef rfl rfl; first | (cases (h18 : v18 = _)) | (obtain ⟨rfl, h18⟩ := h18) | skip) | skip); have hg := hk.fact 0 0 _ rfl rfl; (try dsimp only at hg); have ha := hk.fact 1 1 _ rfl rfl; (try dsimp only at ha); clear hk; go_simp; refine (or_any (fun y => digF y || y == 95) (fun y => spanF 97 123 y || spanF 65 91 y) _).mono ?_; rintro e w' ⟨rfl, hb⟩; refine hK _ _ (fun h => by cases h) (fun _ _ => ?_) hb; apply RgX.mk))) ?_ rfl RgX.keep_eq (fun _ h => by cases h)
    refine RgX.build_cons (m := 9) (r := (⟨fun _ _ w5 => AtG w5 w.heap.size 38 (cellsOf wordF), none, none⟩ : RgX.Rl)) (RgX.one_plain (by rfl) (by (intro ax wx hk Kx hK; have k2 := hk.base 2 _ rfl rfl; obtain ⟨v19, k19, h19⟩ := hk.dep 0 7 19 _ rfl rfl rfl; (first | (replace h19 := h19 9 undef rfl rfl; first | (cases (h19 : v19 = _)) | (obtain ⟨rfl, h19⟩ := h19) | skip) | skip); have hg := hk.fact 0 0 _ rfl rfl; (try dsimp only at hg); have ha := hk.fact 1 0 _ rfl rfl; (try dsimp only at ha); clear hk; (have d0 := ha.cell 0 _ rfl; have d1 := ha.cell 1 _ rfl; have d2 := ha.cell 2 _ rfl; have d3 := ha.cell 3 _ rfl; have f0 := ha.frozen 0; have f1 := ha.frozen 1; have f2 := ha.frozen 2; have f3 := ha.frozen 3; unfold setOf at k19; go_simp; exact hK undef _ (fun _ => rfl) (fun u hu => putS_at ha wordF) ⟨wordF, rfl⟩)))) ?_ rfl (RgX.keep_r (fun _ _ _ _ h hb => h.below hb) (fun _ _ => ⟨fun h _ _ _ => absurd rfl h, trivial⟩)) (fun _ h => by cases h)
    refine RgX.build_cons (m := 10) (r := RgX.eq _) (RgX.one_plain (by rfl) (by (intro ax wx hk Kx hK; have hg := hk.fact 0 0 _ rfl rfl; (try dsimp only at hg); clear hk; go_simp; refine hK _ _ (fun h => by cases h) (fun _ _ => ?_) (Below.refl _ _); apply RgX.mk))) ?_ rfl RgX.keep_eq (fun _ h => by cases h)
    refine RgX.build_end fun wx hj => ?_
    have hg := hj 0 _ rfl rfl
    clear hj
    refine RgX.fin_eq rfl ?_
    first | refine RgX.fin_eq rfl ?_ | refine RgX.fin_any rfl fun v13 h13 => ?_
    refine RgX.fin_eq rfl ?_
    refine RgX.fin_eq rfl ?_
    refine RgX.fin_eq rfl ?_
    refine RgX.fin_eq rfl ?_
    refine RgX.fin_eq rfl ?_
    refine RgX.fin_eq rfl ?_
    refine RgX.fin_none rfl fun s8 => ?_
    refine RgX.fin_eq rfl ?_
    refine RgX.fin_nil ?_
    simp only [List.set_cons_zero, List.set_cons_succ]
    have hA := s8 rfl undef rfl
    have hB := hg.2
    have d0 := (hA).cell 0 _ rfl; have d1 := (hA).cell 1 _ rfl; have d2 := (hA).cell 2 _ rfl; have d3 := (hA).cell 3 _ rfl
    have f0 := (hA).frozen 0; have f1 := (hA).frozen 1; have f2 := (hA).frozen 2; have f3 := (hA).frozen 3
    clear s8 hg
    go_wp2_with fail
    refine bodyPost_ret (v := wideV 119) (by simp [results, Tryz.results123, go_sem, d0, d1, d2, d3]; try rfl) rfl ⟨rfl, ?_⟩
    exact hB
  · have e1 : (c == 100) = false := by rw [beq_eq_false_iff_ne]; exact h1
    have e2 : (c == 119) = false := by rw [beq_eq_false_iff_ne]; exact h2
    have hv : wideV c = .tuple #[setV 0 0 0 0, .bool false] := by
      have : wideF c = none := by unfold wideF; rw [if_neg h1, if_neg h2]
      unfold wideV; rw [this]; simp only [setOf_emp]
    have HV := Lib.hid hv
    generalize wideV c = WV at *
    clear h1 h2 hv
    go_enter Tryz.func123, Tryz.ntmps123
    go_wp2_with fail
    refine (HD.out _).mono ?_
    rintro e9 w1 ⟨rfl, hw⟩
    have HA1 := Lib.hid (HA.out.below hw)
    have HB1 := Lib.hid (HB.out.trans (hw.mono HB.out.size))
    clear hw HA HB
    unfold setOf
    go_upto_region 2 with (fail)
    obtain ⟨W, hW⟩ : ∃ W : World, W = w1.alloc (.cells (cellsOf digF) 38) := ⟨_, rfl⟩
    have hW' : w1.alloc (.cells #[.int .u64 ((wd digF 0 : Nat) : Int), .int .u64 ((wd digF 1 : Nat) : Int), .int .u64 ((wd digF 2 : Nat) : Int), .int .u64 ((wd digF 3 : Nat) : Int)] 38) = W := hW.symm
    rw [hW']
    have HA2 : Hid (AtG W w.heap.size 38 (setC 0 0 0 0)) := Lib.hid (by rw [hW]; exact HA1.out.alloc _)
    have HB2 : Hid (Below w.heap.size w W) := Lib.hid (by rw [hW]; exact HB1.out.alloc HB1.out.size _)
    clear hW hW' HA1 HB1
    have d0 := (HA2.out).cell 0 _ rfl; have d1 := (HA2.out).cell 1 _ rfl; have d2 := (HA2.out).cell 2 _ rfl; have d3 := (HA2.out).cell 3 _ rfl
    have f0 := (HA2.out).frozen 0; have f1 := (HA2.out).frozen 1; have f2 := (HA2.out).frozen 2; have f3 := (HA2.out).frozen 3
    go_wp2_with fail
    refine bodyPost_ret (v := WV) (by rw [HV.out]; simp [results, Tryz.results123, go_sem, d0, d1, d2, d3]; try rfl) rfl ⟨rfl, ?_⟩
    exact below_set4 HB2.out _ (Nat.le_refl _) _ _ _ _
end Go.Proofs.YtgjcibhhffkemaaGreatDoor
/- The program's reader of patterns: item. -/
set_option linter.unusedVariables false
set_option linter.unusedSimpArgs false
namespace Go.Proofs.YtgjcibhhffkemaaGreatDoor
open Go.RowKit Bt
theorem set_one (n : Nat) : setOf (fun y => y == n) = setOf (spanF n (n + 1)) := setOf_ext fun x _ => by
  unfold spanF; rw [Bool.eq_iff_iff]; simp; omega
set_option maxRecDepth 100000 in
set_option maxHeartbeats 1600000 in
theorem itemX_no (g : Nat) (s : ByteArray) (p o : Nat) (w : World) (h : AtG w g 94 (rxr s p o)) (hp : p ≤ s.size) (hs : s.size ≤ 900) (h92 : ¬ ch s p = 92) :
    Calls Tryz.prog 131 #[.pointer (some ⟨g, 0, none⟩)] w (RxP g s o w (itemF s p) (fun f => setOf f)) := by
  have HS := Lib.hid hs; have HPS := Lib.hid hp
  have HG := Lib.hid (show ¬ w.heap.size = g by have := h.lt; omega)
  have HA0 := Lib.hid (h.alloc (.cells (setC 0 0 0 0) 38))
  have HZ0 := Lib.hid (AtG.new w 38 (setC 0 0 0 0))
  have HO0 := Lib.hid ((Only.refl (S := fun k => k = g) w).al (.cells (setC 0 0 0 0) 38))
  have hwp : IntKind.i64.wrap ((p : Int) + 1) = (p : Int) + 1 := by rw [IntKind.wrap_i64]; omega
  have HX := Lib.hid (show itemF s p = itemE s (memberF s p) from if_neg (fun h => h92 h.1))
  have HIS := Lib.hid (fun (w1 : World) (h1 : AtG w1 g 94 (rxr s p o)) => isX g s p o 92 w1 h1 hp (by decide))
  rw [decide_eq_false h92] at HIS
  have hnI : True := trivial
  generalize itemF s p = R at *
  clear h92 h hp
  go_enter Tryz.func131, Tryz.ntmps131
  go_upto_region 1 with (fail)
  refine Rg.wp_region_each (by kernel_rfl) (fun w' => AtG w' g 94 (rxr s p o) ∧ AtG w' w.heap.size 38 (setC 0 0 0 0) ∧ Only (fun k => k = g) w w') (fun w1 w2 h hb => ⟨h.1.below hb, h.2.1.below hb, h.2.2.tb hb⟩) (by kernel_rfl) (by kernel_rfl) (⟨HA0.out, HZ0.out, HO0.out⟩) ?_
  show Rg.Build _ _ _ _ _ 0 [_, _, _, _, _, _, _, _, _, _, _, _, _, _, _] []
  refine Rg.build_cons (m := 1) (r := Rg.eq _) (Rg.one_plain (by rfl) (by (intro ax wx hk Kx hK; have k0 := hk.base 0 _ rfl rfl; have hj := hk.j; clear hk; have z1 : wx.cell? ⟨g, 1, none⟩ = some (.int .i64 (p : Int)) := hj.1.cell 1 _ rfl; have z0 : wx.cell? ⟨g, 0, none⟩ = some (.string s) := hj.1.cell 0 _ rfl; go_simp; refine hK _ _ ?_ (Below.refl _ _); apply Rg.mk))) ?_ rfl
  refine Rg.build_cons (m := 2) (r := Rg.eq _) (Rg.one_plain (by rfl) (by (intro ax wx hk Kx hK; obtain ⟨v7, k7, h7⟩ := hk.dep 0 7 _ rfl rfl rfl; (first | (cases (h7 : v7 = _)) | (obtain ⟨rfl, h7⟩ := h7) | skip); have hj := hk.j; clear hk; have z1 : wx.cell? ⟨g, 1, none⟩ = some (.int .i64 (p : Int)) := hj.1.cell 1 _ rfl; have z0 : wx.cell? ⟨g, 0, none⟩ = some (.string s) := hj.1.cell 0 _ rfl; go_simp; refine (HIS.out _ hj.1).mono ?_; rintro e w' ⟨rfl, hb⟩; refine hK _ _ ?_ hb; apply Rg.mk))) ?_ rfl
  refine Rg.build_cons (m := 3) (r := Rg.eq _) (Rg.one_plain (by rfl) (by (intro ax wx hk Kx hK; obtain ⟨v8, k8, h8⟩ := hk.dep 1 8 _ rfl rfl rfl; (first | (cases (h8 : v8 = _)) | (obtain ⟨rfl, h8⟩ := h8) | skip); have hj := hk.j; clear hk; have z1 : wx.cell? ⟨g, 1, none⟩ = some (.int .i64 (p : Int)) := hj.1.cell 1 _ rfl; have z0 : wx.cell? ⟨g, 0, none⟩ = some (.string s) := hj.1.cell 0 _ rfl; go_simp; refine hK _ _ ?_ (Below.refl _ _); apply Rg.mk))) ?_ rfl
  first
    | refine Rg.build_cons (m := 4) (Rg.one_no 2 9 true (by rfl) (by rfl) (by rfl) (by rfl)) ?_ rfl
    | refine Rg.build_cons (m := 4) (Rg.one_und 2 9 true (by rfl) (by rfl) (by rfl) (by rfl)) ?_ rfl
    | refine Rg.build_cons (m := 4) (r := Rg.eq _) (Rg.one_yes 2 9 true (by rfl) (by rfl) (by rfl) (by rfl) (by (intro ax wx hk Kx hK; have k0 := hk.base 0 _ rfl rfl; have hj := hk.j; clear hk; have z1 : wx.cell? ⟨g, 1, none⟩ = some (.int .i64 (p : Int)) := hj.1.cell 1 _ rfl; have z0 : wx.cell? ⟨g, 0, none⟩ = some (.string s) := hj.1.cell 0 _ rfl; go_simp; refine hK _ _ ?_ (Below.refl _ _); apply Rg.mk))) ?_ rfl
  first
    | refine Rg.build_cons (m := 5) (Rg.one_no 2 9 true (by rfl) (by rfl) (by rfl) (by rfl)) ?_ rfl
    | refine Rg.build_cons (m := 5) (Rg.one_und 2 9 true (by rfl) (by rfl) (by rfl) (by rfl)) ?_ rfl
    | refine Rg.build_cons (m := 5) (r := Rg.eq _) (Rg.one_yes 2 9 true (by rfl) (by rfl) (by rfl) (by rfl) (by (intro ax wx hk Kx hK; obtain ⟨v10, k10, h10⟩ := hk.dep 3 10 _ rfl rfl rfl; (first | (cases (h10 : v10 = _)) | (obtain ⟨rfl, h10⟩ := h10) | skip); have hj := hk.j; clear hk; have z1 : wx.cell? ⟨g, 1, none⟩ = some (.int .i64 (p : Int)) := hj.1.cell 1 _ rfl; have z0 : wx.cell? ⟨g, 0, none⟩ = some (.string s) := hj.1.cell 0 _ rfl; go_simp; refine hK _ _ ?_ (Below.refl _ _); apply Rg.mk))) ?_ rfl
  first
    | refine Rg.build_cons (m := 6) (Rg.one_no 2 9 true (by rfl) (by rfl) (by rfl) (by rfl)) ?_ rfl
    | refine Rg.build_cons (m := 6) (Rg.one_und 2 9 true (by rfl) (by rfl) (by rfl) (by rfl)) ?_ rfl
    | refine Rg.build_cons (m := 6) (r := Rg.eq _) (Rg.one_yes 2 9 true (by rfl) (by rfl) (by rfl) (by rfl) (by (intro ax wx hk Kx hK; obtain ⟨v11, k11, h11⟩ := hk.dep 4 11 _ rfl rfl rfl; (first | (cases (h11 : v11 = _)) | (obtain ⟨rfl, h11⟩ := h11) | skip); have hj := hk.j; clear hk; have z1 : wx.cell? ⟨g, 1, none⟩ = some (.int .i64 (p : Int)) := hj.1.cell 1 _ rfl; have z0 : wx.cell? ⟨g, 0, none⟩ = some (.string s) := hj.1.cell 0 _ rfl; go_simp; refine hK _ _ ?_ (Below.refl _ _); apply Rg.mk))) ?_ rfl
  first
    | refine Rg.build_cons (m := 7) (Rg.one_no 2 9 true (by rfl) (by rfl) (by rfl) (by rfl)) ?_ rfl
    | refine Rg.build_cons (m := 7) (Rg.one_und 2 9 true (by rfl) (by rfl) (by rfl) (by rfl)) ?_ rfl
    | refine Rg.build_cons (m := 7) (r := Rg.eq _) (Rg.one_yes 2 9 true (by rfl) (by rfl) (by rfl) (by rfl) (by (intro ax wx hk Kx hK; obtain ⟨v12, k12, h12⟩ := hk.dep 5 12 _ rfl rfl rfl; (first | (cases (h12 : v12 = _)) | (obtain ⟨rfl, h12⟩ := h12) | skip); have hj := hk.j; clear hk; have z1 : wx.cell? ⟨g, 1, none⟩ = some (.int .i64 (p : Int)) := hj.1.cell 1 _ rfl; have z0 : wx.cell? ⟨g, 0, none⟩ = some (.string s) := hj.1.cell 0 _ rfl; go_simp; refine hK _ _ ?_ (Below.refl _ _); apply Rg.mk))) ?_ rfl
  first
    | refine Rg.build_cons (m := 8) (Rg.one_no 2 9 true (by rfl) (by rfl) (by rfl) (by rfl)) ?_ rfl
    | refine Rg.build_cons (m := 8) (Rg.one_und 2 9 true (by rfl) (by rfl) (by rfl) (by rfl)) ?_ rfl
    | refine Rg.build_cons (m := 8) (r := Rg.eq (.int .i64 ((p : Int) + 1))) (Rg.one_yes 2 9 true (by rfl) (by rfl) (by rfl) (by rfl) (by (intro ax wx hk Kx hK; obtain ⟨v13, k13, h13⟩ := hk.dep 6 13 _ rfl rfl rfl; (first | (cases (h13 : v13 = _)) | (obtain ⟨rfl, h13⟩ := h13) | skip); have hj := hk.j; clear hk; have z1 : wx.cell? ⟨g, 1, none⟩ = some (.int .i64 (p : Int)) := hj.1.cell 1 _ rfl; have z0 : wx.cell? ⟨g, 0, none⟩ = some (.string s) := hj.1.cell 0 _ rfl; (go_simp; refine hK _ _ ?_ (Below.refl _ _); simp [Rg.eq, hwp])))) ?_ rfl
  first
    | refine Rg.build_cons (m := 9) (Rg.one_no 2 9 true (by rfl) (by rfl) (by rfl) (by rfl)) ?_ rfl
    | refine Rg.build_cons (m := 9) (Rg.one_und 2 9 true (by rfl) (by rfl) (by rfl) (by rfl)) ?_ rfl
    | refine Rg.build_cons (m := 9) (r := Rg.eq _) (Rg.one_yes 2 9 true (by rfl) (by rfl) (by rfl) (by rfl) (by (intro ax wx hk Kx hK; have k0 := hk.base 0 _ rfl rfl; have hj := hk.j; clear hk; have z1 : wx.cell? ⟨g, 1, none⟩ = some (.int .i64 (p : Int)) := hj.1.cell 1 _ rfl; have z0 : wx.cell? ⟨g, 0, none⟩ = some (.string s) := hj.1.cell 0 _ rfl; go_simp; refine hK _ _ ?_ (Below.refl _ _); apply Rg.mk))) ?_ rfl
  first
    | refine Rg.build_cons (m := 10) (Rg.one_no 2 9 true (by rfl) (by rfl) (by rfl) (by rfl)) ?_ rfl
    | refine Rg.build_cons (m := 10) (Rg.one_und 2 9 true (by rfl) (by rfl) (by rfl) (by rfl)) ?_ rfl
    | refine Rg.build_cons (m := 10) (r := Rg.eq _) (Rg.one_yes 2 9 true (by rfl) (by rfl) (by rfl) (by rfl) (by (intro ax wx hk Kx hK; obtain ⟨v15, k15, h15⟩ := hk.dep 8 15 _ rfl rfl rfl; (first | (cases (h15 : v15 = _)) | (obtain ⟨rfl, h15⟩ := h15) | skip); have hj := hk.j; clear hk; have z1 : wx.cell? ⟨g, 1, none⟩ = some (.int .i64 (p : Int)) := hj.1.cell 1 _ rfl; have z0 : wx.cell? ⟨g, 0, none⟩ = some (.string s) := hj.1.cell 0 _ rfl; go_simp; refine hK _ _ ?_ (Below.refl _ _); apply Rg.mk))) ?_ rfl
  first
    | refine Rg.build_cons (m := 11) (Rg.one_no 2 9 true (by rfl) (by rfl) (by rfl) (by rfl)) ?_ rfl
    | refine Rg.build_cons (m := 11) (Rg.one_und 2 9 true (by rfl) (by rfl) (by rfl) (by rfl)) ?_ rfl
    | refine Rg.build_cons (m := 11) (r := Rg.eq _) (Rg.one_yes 2 9 true (by rfl) (by rfl) (by rfl) (by rfl) (by (intro ax wx hk Kx hK; obtain ⟨v16, k16, h16⟩ := hk.dep 9 16 _ rfl rfl rfl; (first | (cases (h16 : v16 = _)) | (obtain ⟨rfl, h16⟩ := h16) | skip); have hj := hk.j; clear hk; have z1 : wx.cell? ⟨g, 1, none⟩ = some (.int .i64 (p : Int)) := hj.1.cell 1 _ rfl; have z0 : wx.cell? ⟨g, 0, none⟩ = some (.string s) := hj.1.cell 0 _ rfl; go_simp; refine hK _ _ ?_ (Below.refl _ _); apply Rg.mk))) ?_ rfl
  first
    | refine Rg.build_cons (m := 12) (Rg.one_no 2 9 true (by rfl) (by rfl) (by rfl) (by rfl)) ?_ rfl
    | refine Rg.build_cons (m := 12) (Rg.one_und 2 9 true (by rfl) (by rfl) (by rfl) (by rfl)) ?_ rfl
    | refine Rg.build_cons (m := 12) (r := Rg.eq _) (Rg.one_yes 2 9 true (by rfl) (by rfl) (by rfl) (by rfl) (by (intro ax wx hk Kx hK; obtain ⟨v17, k17, h17⟩ := hk.dep 10 17 _ rfl rfl rfl; (first | (cases (h17 : v17 = _)) | (obtain ⟨rfl, h17⟩ := h17) | skip); have hj := hk.j; clear hk; have z1 : wx.cell? ⟨g, 1, none⟩ = some (.int .i64 (p : Int)) := hj.1.cell 1 _ rfl; have z0 : wx.cell? ⟨g, 0, none⟩ = some (.string s) := hj.1.cell 0 _ rfl; go_simp; refine hK _ _ ?_ (Below.refl _ _); apply Rg.mk))) ?_ rfl
  first
    | refine Rg.build_cons (m := 13) (Rg.one_no 2 9 true (by rfl) (by rfl) (by rfl) (by rfl)) ?_ rfl
    | refine Rg.build_cons (m := 13) (Rg.one_und 2 9 true (by rfl) (by rfl) (by rfl) (by rfl)) ?_ rfl
    | refine Rg.build_cons (m := 13) (r := Rg.eq _) (Rg.one_yes 2 9 true (by rfl) (by rfl) (by rfl) (by rfl) (by (intro ax wx hk Kx hK; obtain ⟨v18, k18, h18⟩ := hk.dep 11 18 _ rfl rfl rfl; (first | (cases (h18 : v18 = _)) | (obtain ⟨rfl, h18⟩ := h18) | skip); have hj := hk.j; clear hk; have z1 : wx.cell? ⟨g, 1, none⟩ = some (.int .i64 (p : Int)) := hj.1.cell 1 _ rfl; have z0 : wx.cell? ⟨g, 0, none⟩ = some (.string s) := hj.1.cell 0 _ rfl; go_simp; refine hK _ _ ?_ (Below.refl _ _); apply Rg.mk))) ?_ rfl
  first
    | refine Rg.build_cons (m := 14) (Rg.one_no 2 9 true (by rfl) (by rfl) (by rfl) (by rfl)) ?_ rfl
    | refine Rg.build_cons (m := 14) (Rg.one_und 2 9 true (by rfl) (by rfl) (by rfl) (by rfl)) ?_ rfl
    | refine Rg.build_cons (m := 14) (r := Rg.eq (.bool true)) (Rg.one_yes 2 9 true (by rfl) (by rfl) (by rfl) (by rfl) (by (intro ax wx hk Kx hK; obtain ⟨v14, k14, h14⟩ := hk.dep 7 14 _ rfl rfl rfl; (first | (cases (h14 : v14 = _)) | (obtain ⟨rfl, h14⟩ := h14) | skip); obtain ⟨v19, k19, h19⟩ := hk.dep 12 19 _ rfl rfl rfl; (first | (cases (h19 : v19 = _)) | (obtain ⟨rfl, h19⟩ := h19) | skip); have hj := hk.j; clear hk; have z1 : wx.cell? ⟨g, 1, none⟩ = some (.int .i64 (p : Int)) := hj.1.cell 1 _ rfl; have z0 : wx.cell? ⟨g, 0, none⟩ = some (.string s) := hj.1.cell 0 _ rfl; (go_simp; refine hK _ _ ?_ (Below.refl _ _); first | (simp [Rg.eq, hnI]; done) | (simp [Rg.eq]; omega))))) ?_ rfl
  refine Rg.build_cons (m := 15) (r := Rg.eq _) (Rg.one_plain (by rfl) (by (intro ax wx hk Kx hK; obtain ⟨v9, k9, h9⟩ := hk.dep 2 9 _ rfl rfl rfl; (first | (cases (h9 : v9 = _)) | (obtain ⟨rfl, h9⟩ := h9) | skip); obtain ⟨v20, k20, h20⟩ := hk.dep 13 20 _ rfl rfl rfl; (first | (cases (h20 : v20 = _)) | (obtain ⟨rfl, h20⟩ := h20) | skip); have hj := hk.j; clear hk; have z1 : wx.cell? ⟨g, 1, none⟩ = some (.int .i64 (p : Int)) := hj.1.cell 1 _ rfl; have z0 : wx.cell? ⟨g, 0, none⟩ = some (.string s) := hj.1.cell 0 _ rfl; go_simp; refine hK _ _ ?_ (Below.refl _ _); apply Rg.mk))) ?_ rfl
  refine Rg.build_end fun wx hj => ?_
  refine Rg.fin_eq rfl ?_
  refine Rg.fin_eq rfl ?_
  refine Rg.fin_eq rfl ?_
  refine Rg.fin_eq rfl ?_
  refine Rg.fin_eq rfl ?_
  refine Rg.fin_eq rfl ?_
  refine Rg.fin_eq rfl ?_
  first | refine Rg.fin_eq rfl ?_ | refine Rg.fin_any rfl fun v14 h14 => ?_
  refine Rg.fin_eq rfl ?_
  refine Rg.fin_eq rfl ?_
  refine Rg.fin_eq rfl ?_
  refine Rg.fin_eq rfl ?_
  refine Rg.fin_eq rfl ?_
  first | refine Rg.fin_eq rfl ?_ | refine Rg.fin_any rfl fun v20 h20 => ?_
  refine Rg.fin_eq rfl ?_
  refine Rg.fin_nil ?_
  simp only [List.set_cons_zero, List.set_cons_succ]
  have HA1 := Lib.hid hj.1; have HZ1 := Lib.hid hj.2.1; have HO1 := Lib.hid hj.2.2
  clear hj
  obtain ⟨wA, hwA⟩ : ∃ wA : World, wA = wx := ⟨_, rfl⟩
  rw [← hwA] at HA1 HZ1 HO1 ⊢
  clear hwA
  have HM1 := Lib.hid (memX g s p o wA (HA1.out) HPS.out HS.out)
  go_wp2_with fail
  refine (HM1.out).mono ?_
  cases hmf : memberF s p with
  | no c x =>
    rw [hmf] at HX
    have HR := Lib.hid (HX.out.trans (show itemE s (.no c x) = .no c x from rfl))
    rintro e9 w2 ⟨ho, b, rfl, hx⟩
    refine ⟨rfl, ?_⟩
    rw [HR.out]
    exact ⟨HO1.out.tr ho, b, rfl, hx⟩
  | ok lo q =>
    rw [hmf] at HX
    have hin := memberF_in s p HPS.out
    rw [hmf] at hin
    have hlo : lo < 256 := hin.2 lo q rfl
    have hq : p + 1 ≤ q ∧ q ≤ s.size := hin.1
    rintro e9 w2 ⟨ho, rfl, ha⟩
    have HO2 := Lib.hid (HO1.out.tr ho); have HA2 := Lib.hid ha; have HZ2 := Lib.hid (HZ1.out.only ho HG.out)
    have HI := isX g s q o 45 w2 ha hq.2 (by decide)
    have hloI : (lo : Int) < 256 := by omega
    have HLO := Lib.hid hlo; have HQ := Lib.hid hq
    clear ho ha hin hmf HM1 hlo hq
    by_cases h45 : ch s q = 45
    · have HX1 := Lib.hid (HX.out.trans (show itemE s (.ok lo q) = (match memberF s (q + 1) with | .no c x => .no c x | .ok hi r => if hi < lo then .no 2 (r - 1) else .ok (spanF lo (hi + 1)) r) from if_pos h45))
      have hqlt : q < s.size := ch_ge (by omega)
      rw [decide_eq_true h45] at HI
      have HIH := Lib.hid HI
      have HQL := Lib.hid hqlt
      have hqI : (q : Int) < 1000 := by have := HS.out; omega
      clear HX HI h45 hqlt
      go_wp2_with fail
      refine (HIH.out).mono ?_
      rintro e9 w3 ⟨rfl, hb⟩
      have HO3 := Lib.hid ((HO2.out.tb hb).st g 1 (.int .i64 ((q : Int) + 1)) (.inl rfl)); have HA3 := Lib.hid (HA2.out.below hb)
      have HZ3 := Lib.hid ((HZ2.out.below hb).far (p := ⟨g, 1, none⟩) (fun e => HG.out e) (.int .i64 ((q : Int) + 1)))
      have z1 : w3.cell? ⟨g, 1, none⟩ = some (.int .i64 (q : Int)) := HA3.out.cell 1 _ rfl
      have f1 := HA3.out.frozen 1
      have HA4 : Hid (AtG (w3.setCell ⟨g, 1, none⟩ (.int .i64 ((q : Int) + 1))) g 94 (rxr s ((q + 1 : Nat) : Int) o)) := Lib.hid (by
        rw [show ((q + 1 : Nat) : Int) = (q : Int) + 1 from by omega]; exact HA3.out.set 1 _)
      have HM2 := Lib.hid (memX g s (q + 1) o _ HA4.out HQL.out HS.out)
      clear hb HIH
      go_wp2_with fail
      refine (HM2.out).mono ?_
      cases hmf : memberF s (q + 1) with
      | no c x =>
        rw [hmf] at HX1
        dsimp only at HX1
        rintro e9 w4 ⟨ho, b, rfl, hx⟩
        refine ⟨rfl, ?_⟩
        rw [HX1.out]
        exact ⟨HO3.out.tr ho, b, rfl, hx⟩
      | ok hi r =>
        rw [hmf] at HX1
        dsimp only at HX1
        have hin := memberF_in s (q + 1) HQL.out
        rw [hmf] at hin
        have hhi : hi < 256 := hin.2 hi r rfl
        have hr : q + 1 + 1 ≤ r ∧ r ≤ s.size := hin.1
        rintro e9 w4 ⟨ho, rfl, ha⟩
        have HO4 := Lib.hid (HO3.out.tr ho); have HA5 := Lib.hid ha; have HZ4 := Lib.hid (HZ3.out.only ho HG.out)
        have hhiI : (hi : Int) < 256 := by omega
        clear ho ha hin hmf HM2 z1 f1 HA3 HA4
        by_cases hlt : hi < lo
        · have HR := Lib.hid (HX1.out.trans (if_pos hlt))
          have hltI : (hi : Int) < (lo : Int) := by omega
          obtain ⟨rp, hrp⟩ : ∃ rp, r = rp + 1 := ⟨r - 1, by omega⟩
          subst hrp
          rw [show rp + 1 - 1 = rp from rfl] at HR
          have z1 : w4.cell? ⟨g, 1, none⟩ = some (.int .i64 ((rp + 1 : Nat) : Int)) := HA5.out.cell 1 _ rfl
          rw [show ((rp + 1 : Nat) : Int) = (rp : Int) + 1 from by omega] at z1
          have hrI : (rp : Int) < 1000 := by have := HS.out; omega
          clear HX1 hlt hr hhi
          go_wp2_with fail
          refine (failX g rp 2 _).mono ?_
          rintro e9 w5 ⟨hb2, b, rfl, hx⟩
          refine ⟨rfl, ?_⟩
          rw [HR.out]
          exact ⟨HO4.out.tb hb2, b, rfl, hx⟩
        · have HR := Lib.hid (HX1.out.trans (if_neg hlt))
          have hltI : ¬ (hi : Int) < (lo : Int) := by omega
          have HRG := Lib.hid (rangeP lo hi w4 HLO.out hhi)
          clear HX1 hlt hr hhi
          go_wp2_with fail
          refine (HRG.out).mono ?_
          rintro e9 w5 ⟨rfl, hb⟩
          have HO5 := Lib.hid (HO4.out.tb hb); have HA6 := Lib.hid (HA5.out.below hb); have HZ5 := Lib.hid (HZ4.out.below hb)
          clear hb HRG HA5 HZ4
          have d0 := (HZ5.out).cell 0 _ rfl; have d1 := (HZ5.out).cell 1 _ rfl; have d2 := (HZ5.out).cell 2 _ rfl; have d3 := (HZ5.out).cell 3 _ rfl
          have f0 := (HZ5.out).frozen 0; have f1 := (HZ5.out).frozen 1; have f2 := (HZ5.out).frozen 2; have f3 := (HZ5.out).frozen 3
          unfold setOf
          go_wp2_with fail
          refine bodyPost_ret (v := setOf (spanF lo (hi + 1))) (by simp [results, Tryz.results131, go_sem, d0, d1, d2, d3]; try rfl) rfl ?_
          rw [HR.out]
          exact ⟨HO5.out.pS _ _ (.inr (Nat.le_refl _)), rfl, putS_far HA6.out (fun e => HG.out e.symm) _⟩
    · have HR := Lib.hid (HX.out.trans (show itemE s (.ok lo q) = .ok (spanF lo (lo + 1)) q from if_neg h45))
      rw [decide_eq_false h45] at HI
      have HIH := Lib.hid HI
      clear HX HI h45
      go_wp2_with fail
      refine (HIH.out).mono ?_
      rintro e9 w3 ⟨rfl, hb⟩
      have HO3 := Lib.hid (HO2.out.tb hb); have HA3 := Lib.hid (HA2.out.below hb); have HZ3 := Lib.hid (HZ2.out.below hb)
      have HOF := Lib.hid (ofP _ w3.heap.size (lo : Int) (by omega) hloI (AtG.new w3 5 #[.int .u8 (lo : Int)]))
      rw [Int.toNat_natCast, set_one] at HOF
      clear hb HIH
      go_wp2_with fail
      refine (HOF.out).mono ?_
      rintro e9 w5 ⟨rfl, hb⟩
      have HO5 := Lib.hid ((HO3.out.al (.cells #[.int .u8 (lo : Int)] 5)).tb hb); have HA6 := Lib.hid ((HA3.out.alloc _).below hb); have HZ5 := Lib.hid ((HZ3.out.alloc _).below hb)
      clear hb HOF HA3 HZ3
      have d0 := (HZ5.out).cell 0 _ rfl; have d1 := (HZ5.out).cell 1 _ rfl; have d2 := (HZ5.out).cell 2 _ rfl; have d3 := (HZ5.out).cell 3 _ rfl
      have f0 := (HZ5.out).frozen 0; have f1 := (HZ5.out).frozen 1; have f2 := (HZ5.out).frozen 2; have f3 := (HZ5.out).frozen 3
      unfold setOf
      go_wp2_with fail
      refine bodyPost_ret (v := setOf (spanF lo (lo + 1))) (by simp [results, Tryz.results131, go_sem, d0, d1, d2, d3]; try rfl) rfl ?_
      rw [HR.out]
      exact ⟨HO5.out.pS _ _ (.inr (Nat.le_refl _)), rfl, putS_far HA6.out (fun e => HG.out e.symm) _⟩
set_option maxRecDepth 100000 in
set_option maxHeartbeats 1600000 in
theorem itemX_end (g : Nat) (s : ByteArray) (p o : Nat) (w : World) (h : AtG w g 94 (rxr s p o)) (hp : p ≤ s.size) (hs : s.size ≤ 900) (h92 : ch s p = 92) (hn : ¬ p + 1 < s.size) :
    Calls Tryz.prog 131 #[.pointer (some ⟨g, 0, none⟩)] w (RxP g s o w (itemF s p) (fun f => setOf f)) := by
  have HS := Lib.hid hs; have HPS := Lib.hid hp
  have HG := Lib.hid (show ¬ w.heap.size = g by have := h.lt; omega)
  have HA0 := Lib.hid (h.alloc (.cells (setC 0 0 0 0) 38))
  have HZ0 := Lib.hid (AtG.new w 38 (setC 0 0 0 0))
  have HO0 := Lib.hid ((Only.refl (S := fun k => k = g) w).al (.cells (setC 0 0 0 0) 38))
  have hwp : IntKind.i64.wrap ((p : Int) + 1) = (p : Int) + 1 := by rw [IntKind.wrap_i64]; omega
  have HX := Lib.hid (show itemF s p = itemE s (memberF s p) from if_neg (fun h => hn h.2))
  have HIS := Lib.hid (fun (w1 : World) (h1 : AtG w1 g 94 (rxr s p o)) => isX g s p o 92 w1 h1 hp (by decide))
  rw [decide_eq_true h92] at HIS
  have hnI : ¬ (p : Int) + 1 < (s.size : Int) := by omega
  generalize itemF s p = R at *
  clear h92 h hp hn
  go_enter Tryz.func131, Tryz.ntmps131
  go_upto_region 1 with (fail)
  refine Rg.wp_region_each (by kernel_rfl) (fun w' => AtG w' g 94 (rxr s p o) ∧ AtG w' w.heap.size 38 (setC 0 0 0 0) ∧ Only (fun k => k = g) w w') (fun w1 w2 h hb => ⟨h.1.below hb, h.2.1.below hb, h.2.2.tb hb⟩) (by kernel_rfl) (by kernel_rfl) (⟨HA0.out, HZ0.out, HO0.out⟩) ?_
  show Rg.Build _ _ _ _ _ 0 [_, _, _, _, _, _, _, _, _, _, _, _, _, _, _] []
  refine Rg.build_cons (m := 1) (r := Rg.eq _) (Rg.one_plain (by rfl) (by (intro ax wx hk Kx hK; have k0 := hk.base 0 _ rfl rfl; have hj := hk.j; clear hk; have z1 : wx.cell? ⟨g, 1, none⟩ = some (.int .i64 (p : Int)) := hj.1.cell 1 _ rfl; have z0 : wx.cell? ⟨g, 0, none⟩ = some (.string s) := hj.1.cell 0 _ rfl; go_simp; refine hK _ _ ?_ (Below.refl _ _); apply Rg.mk))) ?_ rfl
  refine Rg.build_cons (m := 2) (r := Rg.eq _) (Rg.one_plain (by rfl) (by (intro ax wx hk Kx hK; obtain ⟨v7, k7, h7⟩ := hk.dep 0 7 _ rfl rfl rfl; (first | (cases (h7 : v7 = _)) | (obtain ⟨rfl, h7⟩ := h7) | skip); have hj := hk.j; clear hk; have z1 : wx.cell? ⟨g, 1, none⟩ = some (.int .i64 (p : Int)) := hj.1.cell 1 _ rfl; have z0 : wx.cell? ⟨g, 0, none⟩ = some (.string s) := hj.1.cell 0 _ rfl; go_simp; refine (HIS.out _ hj.1).mono ?_; rintro e w' ⟨rfl, hb⟩; refine hK _ _ ?_ hb; apply Rg.mk))) ?_ rfl
  refine Rg.build_cons (m := 3) (r := Rg.eq _) (Rg.one_plain (by rfl) (by (intro ax wx hk Kx hK; obtain ⟨v8, k8, h8⟩ := hk.dep 1 8 _ rfl rfl rfl; (first | (cases (h8 : v8 = _)) | (obtain ⟨rfl, h8⟩ := h8) | skip); have hj := hk.j; clear hk; have z1 : wx.cell? ⟨g, 1, none⟩ = some (.int .i64 (p : Int)) := hj.1.cell 1 _ rfl; have z0 : wx.cell? ⟨g, 0, none⟩ = some (.string s) := hj.1.cell 0 _ rfl; go_simp; refine hK _ _ ?_ (Below.refl _ _); apply Rg.mk))) ?_ rfl
  first
    | refine Rg.build_cons (m := 4) (Rg.one_no 2 9 true (by rfl) (by rfl) (by rfl) (by rfl)) ?_ rfl
    | refine Rg.build_cons (m := 4) (Rg.one_und 2 9 true (by rfl) (by rfl) (by rfl) (by rfl)) ?_ rfl
    | refine Rg.build_cons (m := 4) (r := Rg.eq _) (Rg.one_yes 2 9 true (by rfl) (by rfl) (by rfl) (by rfl) (by (intro ax wx hk Kx hK; have k0 := hk.base 0 _ rfl rfl; have hj := hk.j; clear hk; have z1 : wx.cell? ⟨g, 1, none⟩ = some (.int .i64 (p : Int)) := hj.1.cell 1 _ rfl; have z0 : wx.cell? ⟨g, 0, none⟩ = some (.string s) := hj.1.cell 0 _ rfl; go_simp; refine hK _ _ ?_ (Below.refl _ _); apply Rg.mk))) ?_ rfl
  first
    | refine Rg.build_cons (m := 5) (Rg.one_no 2 9 true (by rfl) (by rfl) (by rfl) (by rfl)) ?_ rfl
    | refine Rg.build_cons (m := 5) (Rg.one_und 2 9 true (by rfl) (by rfl) (by rfl) (by rfl)) ?_ rfl
    | refine Rg.build_cons (m := 5) (r := Rg.eq _) (Rg.one_yes 2 9 true (by rfl) (by rfl) (by rfl) (by rfl) (by (intro ax wx hk Kx hK; obtain ⟨v10, k10, h10⟩ := hk.dep 3 10 _ rfl rfl rfl; (first | (cases (h10 : v10 = _)) | (obtain ⟨rfl, h10⟩ := h10) | skip); have hj := hk.j; clear hk; have z1 : wx.cell? ⟨g, 1, none⟩ = some (.int .i64 (p : Int)) := hj.1.cell 1 _ rfl; have z0 : wx.cell? ⟨g, 0, none⟩ = some (.string s) := hj.1.cell 0 _ rfl; go_simp; refine hK _ _ ?_ (Below.refl _ _); apply Rg.mk))) ?_ rfl
  first
    | refine Rg.build_cons (m := 6) (Rg.one_no 2 9 true (by rfl) (by rfl) (by rfl) (by rfl)) ?_ rfl
    | refine Rg.build_cons (m := 6) (Rg.one_und 2 9 true (by rfl) (by rfl) (by rfl) (by rfl)) ?_ rfl
    | refine Rg.build_cons (m := 6) (r := Rg.eq _) (Rg.one_yes 2 9 true (by rfl) (by rfl) (by rfl) (by rfl) (by (intro ax wx hk Kx hK; obtain ⟨v11, k11, h11⟩ := hk.dep 4 11 _ rfl rfl rfl; (first | (cases (h11 : v11 = _)) | (obtain ⟨rfl, h11⟩ := h11) | skip); have hj := hk.j; clear hk; have z1 : wx.cell? ⟨g, 1, none⟩ = some (.int .i64 (p : Int)) := hj.1.cell 1 _ rfl; have z0 : wx.cell? ⟨g, 0, none⟩ = some (.string s) := hj.1.cell 0 _ rfl; go_simp; refine hK _ _ ?_ (Below.refl _ _); apply Rg.mk))) ?_ rfl
  first
    | refine Rg.build_cons (m := 7) (Rg.one_no 2 9 true (by rfl) (by rfl) (by rfl) (by rfl)) ?_ rfl
    | refine Rg.build_cons (m := 7) (Rg.one_und 2 9 true (by rfl) (by rfl) (by rfl) (by rfl)) ?_ rfl
    | refine Rg.build_cons (m := 7) (r := Rg.eq _) (Rg.one_yes 2 9 true (by rfl) (by rfl) (by rfl) (by rfl) (by (intro ax wx hk Kx hK; obtain ⟨v12, k12, h12⟩ := hk.dep 5 12 _ rfl rfl rfl; (first | (cases (h12 : v12 = _)) | (obtain ⟨rfl, h12⟩ := h12) | skip); have hj := hk.j; clear hk; have z1 : wx.cell? ⟨g, 1, none⟩ = some (.int .i64 (p : Int)) := hj.1.cell 1 _ rfl; have z0 : wx.cell? ⟨g, 0, none⟩ = some (.string s) := hj.1.cell 0 _ rfl; go_simp; refine hK _ _ ?_ (Below.refl _ _); apply Rg.mk))) ?_ rfl
  first
    | refine Rg.build_cons (m := 8) (Rg.one_no 2 9 true (by rfl) (by rfl) (by rfl) (by rfl)) ?_ rfl
    | refine Rg.build_cons (m := 8) (Rg.one_und 2 9 true (by rfl) (by rfl) (by rfl) (by rfl)) ?_ rfl
    | refine Rg.build_cons (m := 8) (r := Rg.eq (.int .i64 ((p : Int) + 1))) (Rg.one_yes 2 9 true (by rfl) (by rfl) (by rfl) (by rfl) (by (intro ax wx hk Kx hK; obtain ⟨v13, k13, h13⟩ := hk.dep 6 13 _ rfl rfl rfl; (first | (cases (h13 : v13 = _)) | (obtain ⟨rfl, h13⟩ := h13) | skip); have hj := hk.j; clear hk; have z1 : wx.cell? ⟨g, 1, none⟩ = some (.int .i64 (p : Int)) := hj.1.cell 1 _ rfl; have z0 : wx.cell? ⟨g, 0, none⟩ = some (.string s) := hj.1.cell 0 _ rfl; (go_simp; refine hK _ _ ?_ (Below.refl _ _); simp [Rg.eq, hwp])))) ?_ rfl
  first
    | refine Rg.build_cons (m := 9) (Rg.one_no 2 9 true (by rfl) (by rfl) (by rfl) (by rfl)) ?_ rfl
    | refine Rg.build_cons (m := 9) (Rg.one_und 2 9 true (by rfl) (by rfl) (by rfl) (by rfl)) ?_ rfl
    | refine Rg.build_cons (m := 9) (r := Rg.eq _) (Rg.one_yes 2 9 true (by rfl) (by rfl) (by rfl) (by rfl) (by (intro ax wx hk Kx hK; have k0 := hk.base 0 _ rfl rfl; have hj := hk.j; clear hk; have z1 : wx.cell? ⟨g, 1, none⟩ = some (.int .i64 (p : Int)) := hj.1.cell 1 _ rfl; have z0 : wx.cell? ⟨g, 0, none⟩ = some (.string s) := hj.1.cell 0 _ rfl; go_simp; refine hK _ _ ?_ (Below.refl _ _); apply Rg.mk))) ?_ rfl
  first
    | refine Rg.build_cons (m := 10) (Rg.one_no 2 9 true (by rfl) (by rfl) (by rfl) (by rfl)) ?_ rfl
    | refine Rg.build_cons (m := 10) (Rg.one_und 2 9 true (by rfl) (by rfl) (by rfl) (by rfl)) ?_ rfl
    | refine Rg.build_cons (m := 10) (r := Rg.eq _) (Rg.one_yes 2 9 true (by rfl) (by rfl) (by rfl) (by rfl) (by (intro ax wx hk Kx hK; obtain ⟨v15, k15, h15⟩ := hk.dep 8 15 _ rfl rfl rfl; (first | (cases (h15 : v15 = _)) | (obtain ⟨rfl, h15⟩ := h15) | skip); have hj := hk.j; clear hk; have z1 : wx.cell? ⟨g, 1, none⟩ = some (.int .i64 (p : Int)) := hj.1.cell 1 _ rfl; have z0 : wx.cell? ⟨g, 0, none⟩ = some (.string s) := hj.1.cell 0 _ rfl; go_simp; refine hK _ _ ?_ (Below.refl _ _); apply Rg.mk))) ?_ rfl
  first
    | refine Rg.build_cons (m := 11) (Rg.one_no 2 9 true (by rfl) (by rfl) (by rfl) (by rfl)) ?_ rfl
    | refine Rg.build_cons (m := 11) (Rg.one_und 2 9 true (by rfl) (by rfl) (by rfl) (by rfl)) ?_ rfl
    | refine Rg.build_cons (m := 11) (r := Rg.eq _) (Rg.one_yes 2 9 true (by rfl) (by rfl) (by rfl) (by rfl) (by (intro ax wx hk Kx hK; obtain ⟨v16, k16, h16⟩ := hk.dep 9 16 _ rfl rfl rfl; (first | (cases (h16 : v16 = _)) | (obtain ⟨rfl, h16⟩ := h16) | skip); have hj := hk.j; clear hk; have z1 : wx.cell? ⟨g, 1, none⟩ = some (.int .i64 (p : Int)) := hj.1.cell 1 _ rfl; have z0 : wx.cell? ⟨g, 0, none⟩ = some (.string s) := hj.1.cell 0 _ rfl; go_simp; refine hK _ _ ?_ (Below.refl _ _); apply Rg.mk))) ?_ rfl
  first
    | refine Rg.build_cons (m := 12) (Rg.one_no 2 9 true (by rfl) (by rfl) (by rfl) (by rfl)) ?_ rfl
    | refine Rg.build_cons (m := 12) (Rg.one_und 2 9 true (by rfl) (by rfl) (by rfl) (by rfl)) ?_ rfl
    | refine Rg.build_cons (m := 12) (r := Rg.eq _) (Rg.one_yes 2 9 true (by rfl) (by rfl) (by rfl) (by rfl) (by (intro ax wx hk Kx hK; obtain ⟨v17, k17, h17⟩ := hk.dep 10 17 _ rfl rfl rfl; (first | (cases (h17 : v17 = _)) | (obtain ⟨rfl, h17⟩ := h17) | skip); have hj := hk.j; clear hk; have z1 : wx.cell? ⟨g, 1, none⟩ = some (.int .i64 (p : Int)) := hj.1.cell 1 _ rfl; have z0 : wx.cell? ⟨g, 0, none⟩ = some (.string s) := hj.1.cell 0 _ rfl; go_simp; refine hK _ _ ?_ (Below.refl _ _); apply Rg.mk))) ?_ rfl
  first
    | refine Rg.build_cons (m := 13) (Rg.one_no 2 9 true (by rfl) (by rfl) (by rfl) (by rfl)) ?_ rfl
    | refine Rg.build_cons (m := 13) (Rg.one_und 2 9 true (by rfl) (by rfl) (by rfl) (by rfl)) ?_ rfl
    | refine Rg.build_cons (m := 13) (r := Rg.eq _) (Rg.one_yes 2 9 true (by rfl) (by rfl) (by rfl) (by rfl) (by (intro ax wx hk Kx hK; obtain ⟨v18, k18, h18⟩ := hk.dep 11 18 _ rfl rfl rfl; (first | (cases (h18 : v18 = _)) | (obtain ⟨rfl, h18⟩ := h18) | skip); have hj := hk.j; clear hk; have z1 : wx.cell? ⟨g, 1, none⟩ = some (.int .i64 (p : Int)) := hj.1.cell 1 _ rfl; have z0 : wx.cell? ⟨g, 0, none⟩ = some (.string s) := hj.1.cell 0 _ rfl; go_simp; refine hK _ _ ?_ (Below.refl _ _); apply Rg.mk))) ?_ rfl
  first
    | refine Rg.build_cons (m := 14) (Rg.one_no 2 9 true (by rfl) (by rfl) (by rfl) (by rfl)) ?_ rfl
    | refine Rg.build_cons (m := 14) (Rg.one_und 2 9 true (by rfl) (by rfl) (by rfl) (by rfl)) ?_ rfl
    | refine Rg.build_cons (m := 14) (r := Rg.eq (.bool false)) (Rg.one_yes 2 9 true (by rfl) (by rfl) (by rfl) (by rfl) (by (intro ax wx hk Kx hK; obtain ⟨v14, k14, h14⟩ := hk.dep 7 14 _ rfl rfl rfl; (first | (cases (h14 : v14 = _)) | (obtain ⟨rfl, h14⟩ := h14) | skip); obtain ⟨v19, k19, h19⟩ := hk.dep 12 19 _ rfl rfl rfl; (first | (cases (h19 : v19 = _)) | (obtain ⟨rfl, h19⟩ := h19) | skip); have hj := hk.j; clear hk; have z1 : wx.cell? ⟨g, 1, none⟩ = some (.int .i64 (p : Int)) := hj.1.cell 1 _ rfl; have z0 : wx.cell? ⟨g, 0, none⟩ = some (.string s) := hj.1.cell 0 _ rfl; (go_simp; refine hK _ _ ?_ (Below.refl _ _); first | (simp [Rg.eq, hnI]; done) | (simp [Rg.eq]; omega))))) ?_ rfl
  refine Rg.build_cons (m := 15) (r := Rg.eq _) (Rg.one_plain (by rfl) (by (intro ax wx hk Kx hK; obtain ⟨v9, k9, h9⟩ := hk.dep 2 9 _ rfl rfl rfl; (first | (cases (h9 : v9 = _)) | (obtain ⟨rfl, h9⟩ := h9) | skip); obtain ⟨v20, k20, h20⟩ := hk.dep 13 20 _ rfl rfl rfl; (first | (cases (h20 : v20 = _)) | (obtain ⟨rfl, h20⟩ := h20) | skip); have hj := hk.j; clear hk; have z1 : wx.cell? ⟨g, 1, none⟩ = some (.int .i64 (p : Int)) := hj.1.cell 1 _ rfl; have z0 : wx.cell? ⟨g, 0, none⟩ = some (.string s) := hj.1.cell 0 _ rfl; go_simp; refine hK _ _ ?_ (Below.refl _ _); apply Rg.mk))) ?_ rfl
  refine Rg.build_end fun wx hj => ?_
  refine Rg.fin_eq rfl ?_
  refine Rg.fin_eq rfl ?_
  refine Rg.fin_eq rfl ?_
  refine Rg.fin_eq rfl ?_
  refine Rg.fin_eq rfl ?_
  refine Rg.fin_eq rfl ?_
  refine Rg.fin_eq rfl ?_
  first | refine Rg.fin_eq rfl ?_ | refine Rg.fin_any rfl fun v14 h14 => ?_
  refine Rg.fin_eq rfl ?_
  refine Rg.fin_eq rfl ?_
  refine Rg.fin_eq rfl ?_
  refine Rg.fin_eq rfl ?_
  refine Rg.fin_eq rfl ?_
  first | refine Rg.fin_eq rfl ?_ | refine Rg.fin_any rfl fun v20 h20 => ?_
  refine Rg.fin_eq rfl ?_
  refine Rg.fin_nil ?_
  simp only [List.set_cons_zero, List.set_cons_succ]
  have HA1 := Lib.hid hj.1; have HZ1 := Lib.hid hj.2.1; have HO1 := Lib.hid hj.2.2
  clear hj
  obtain ⟨wA, hwA⟩ : ∃ wA : World, wA = wx := ⟨_, rfl⟩
  rw [← hwA] at HA1 HZ1 HO1 ⊢
  clear hwA
  have HM1 := Lib.hid (memX g s p o wA (HA1.out) HPS.out HS.out)
  go_wp2_with fail
  refine (HM1.out).mono ?_
  cases hmf : memberF s p with
  | no c x =>
    rw [hmf] at HX
    have HR := Lib.hid (HX.out.trans (show itemE s (.no c x) = .no c x from rfl))
    rintro e9 w2 ⟨ho, b, rfl, hx⟩
    refine ⟨rfl, ?_⟩
    rw [HR.out]
    exact ⟨HO1.out.tr ho, b, rfl, hx⟩
  | ok lo q =>
    rw [hmf] at HX
    have hin := memberF_in s p HPS.out
    rw [hmf] at hin
    have hlo : lo < 256 := hin.2 lo q rfl
    have hq : p + 1 ≤ q ∧ q ≤ s.size := hin.1
    rintro e9 w2 ⟨ho, rfl, ha⟩
    have HO2 := Lib.hid (HO1.out.tr ho); have HA2 := Lib.hid ha; have HZ2 := Lib.hid (HZ1.out.only ho HG.out)
    have HI := isX g s q o 45 w2 ha hq.2 (by decide)
    have hloI : (lo : Int) < 256 := by omega
    have HLO := Lib.hid hlo; have HQ := Lib.hid hq
    clear ho ha hin hmf HM1 hlo hq
    by_cases h45 : ch s q = 45
    · have HX1 := Lib.hid (HX.out.trans (show itemE s (.ok lo q) = (match memberF s (q + 1) with | .no c x => .no c x | .ok hi r => if hi < lo then .no 2 (r - 1) else .ok (spanF lo (hi + 1)) r) from if_pos h45))
      have hqlt : q < s.size := ch_ge (by omega)
      rw [decide_eq_true h45] at HI
      have HIH := Lib.hid HI
      have HQL := Lib.hid hqlt
      have hqI : (q : Int) < 1000 := by have := HS.out; omega
      clear HX HI h45 hqlt
      go_wp2_with fail
      refine (HIH.out).mono ?_
      rintro e9 w3 ⟨rfl, hb⟩
      have HO3 := Lib.hid ((HO2.out.tb hb).st g 1 (.int .i64 ((q : Int) + 1)) (.inl rfl)); have HA3 := Lib.hid (HA2.out.below hb)
      have HZ3 := Lib.hid ((HZ2.out.below hb).far (p := ⟨g, 1, none⟩) (fun e => HG.out e) (.int .i64 ((q : Int) + 1)))
      have z1 : w3.cell? ⟨g, 1, none⟩ = some (.int .i64 (q : Int)) := HA3.out.cell 1 _ rfl
      have f1 := HA3.out.frozen 1
      have HA4 : Hid (AtG (w3.setCell ⟨g, 1, none⟩ (.int .i64 ((q : Int) + 1))) g 94 (rxr s ((q + 1 : Nat) : Int) o)) := Lib.hid (by
        rw [show ((q + 1 : Nat) : Int) = (q : Int) + 1 from by omega]; exact HA3.out.set 1 _)
      have HM2 := Lib.hid (memX g s (q + 1) o _ HA4.out HQL.out HS.out)
      clear hb HIH
      go_wp2_with fail
      refine (HM2.out).mono ?_
      cases hmf : memberF s (q + 1) with
      | no c x =>
        rw [hmf] at HX1
        dsimp only at HX1
        rintro e9 w4 ⟨ho, b, rfl, hx⟩
        refine ⟨rfl, ?_⟩
        rw [HX1.out]
        exact ⟨HO3.out.tr ho, b, rfl, hx⟩
      | ok hi r =>
        rw [hmf] at HX1
        dsimp only at HX1
        have hin := memberF_in s (q + 1) HQL.out
        rw [hmf] at hin
        have hhi : hi < 256 := hin.2 hi r rfl
        have hr : q + 1 + 1 ≤ r ∧ r ≤ s.size := hin.1
        rintro e9 w4 ⟨ho, rfl, ha⟩
        have HO4 := Lib.hid (HO3.out.tr ho); have HA5 := Lib.hid ha; have HZ4 := Lib.hid (HZ3.out.only ho HG.out)
        have hhiI : (hi : Int) < 256 := by omega
        clear ho ha hin hmf HM2 z1 f1 HA3 HA4
        by_cases hlt : hi < lo
        · have HR := Lib.hid (HX1.out.trans (if_pos hlt))
          have hltI : (hi : Int) < (lo : Int) := by omega
          obtain ⟨rp, hrp⟩ : ∃ rp, r = rp + 1 := ⟨r - 1, by omega⟩
          subst hrp
          rw [show rp + 1 - 1 = rp from rfl] at HR
          have z1 : w4.cell? ⟨g, 1, none⟩ = some (.int .i64 ((rp + 1 : Nat) : Int)) := HA5.out.cell 1 _ rfl
          rw [show ((rp + 1 : Nat) : Int) = (rp : Int) + 1 from by omega] at z1
          have hrI : (rp : Int) < 1000 := by have := HS.out; omega
          clear HX1 hlt hr hhi
          go_wp2_with fail
          refine (failX g rp 2 _).mono ?_
          rintro e9 w5 ⟨hb2, b, rfl, hx⟩
          refine ⟨rfl, ?_⟩
          rw [HR.out]
          exact ⟨HO4.out.tb hb2, b, rfl, hx⟩
        · have HR := Lib.hid (HX1.out.trans (if_neg hlt))
          have hltI : ¬ (hi : Int) < (lo : Int) := by omega
          have HRG := Lib.hid (rangeP lo hi w4 HLO.out hhi)
          clear HX1 hlt hr hhi
          go_wp2_with fail
          refine (HRG.out).mono ?_
          rintro e9 w5 ⟨rfl, hb⟩
          have HO5 := Lib.hid (HO4.out.tb hb); have HA6 := Lib.hid (HA5.out.below hb); have HZ5 := Lib.hid (HZ4.out.below hb)
          clear hb HRG HA5 HZ4
          have d0 := (HZ5.out).cell 0 _ rfl; have d1 := (HZ5.out).cell 1 _ rfl; have d2 := (HZ5.out).cell 2 _ rfl; have d3 := (HZ5.out).cell 3 _ rfl
          have f0 := (HZ5.out).frozen 0; have f1 := (HZ5.out).frozen 1; have f2 := (HZ5.out).frozen 2; have f3 := (HZ5.out).frozen 3
          unfold setOf
          go_wp2_with fail
          refine bodyPost_ret (v := setOf (spanF lo (hi + 1))) (by simp [results, Tryz.results131, go_sem, d0, d1, d2, d3]; try rfl) rfl ?_
          rw [HR.out]
          exact ⟨HO5.out.pS _ _ (.inr (Nat.le_refl _)), rfl, putS_far HA6.out (fun e => HG.out e.symm) _⟩
    · have HR := Lib.hid (HX.out.trans (show itemE s (.ok lo q) = .ok (spanF lo (lo + 1)) q from if_neg h45))
      rw [decide_eq_false h45] at HI
      have HIH := Lib.hid HI
      clear HX HI h45
      go_wp2_with fail
      refine (HIH.out).mono ?_
      rintro e9 w3 ⟨rfl, hb⟩
      have HO3 := Lib.hid (HO2.out.tb hb); have HA3 := Lib.hid (HA2.out.below hb); have HZ3 := Lib.hid (HZ2.out.below hb)
      have HOF := Lib.hid (ofP _ w3.heap.size (lo : Int) (by omega) hloI (AtG.new w3 5 #[.int .u8 (lo : Int)]))
      rw [Int.toNat_natCast, set_one] at HOF
      clear hb HIH
      go_wp2_with fail
      refine (HOF.out).mono ?_
      rintro e9 w5 ⟨rfl, hb⟩
      have HO5 := Lib.hid ((HO3.out.al (.cells #[.int .u8 (lo : Int)] 5)).tb hb); have HA6 := Lib.hid ((HA3.out.alloc _).below hb); have HZ5 := Lib.hid ((HZ3.out.alloc _).below hb)
      clear hb HOF HA3 HZ3
      have d0 := (HZ5.out).cell 0 _ rfl; have d1 := (HZ5.out).cell 1 _ rfl; have d2 := (HZ5.out).cell 2 _ rfl; have d3 := (HZ5.out).cell 3 _ rfl
      have f0 := (HZ5.out).frozen 0; have f1 := (HZ5.out).frozen 1; have f2 := (HZ5.out).frozen 2; have f3 := (HZ5.out).frozen 3
      unfold setOf
      go_wp2_with fail
      refine bodyPost_ret (v := setOf (spanF lo (lo + 1))) (by simp [results, Tryz.results131, go_sem, d0, d1, d2, d3]; try rfl) rfl ?_
      rw [HR.out]
      exact ⟨HO5.out.pS _ _ (.inr (Nat.le_refl _)), rfl, putS_far HA6.out (fun e => HG.out e.symm) _⟩
set_option maxRecDepth 100000 in
set_option maxHeartbeats 1600000 in
theorem itemX_some (g : Nat) (s : ByteArray) (p o : Nat) (w : World) (h : AtG w g 94 (rxr s p o)) (hp : p ≤ s.size) (hs : s.size ≤ 900) (h92 : ch s p = 92) (hn : p + 1 < s.size) (F : Nat → Bool) (hwd : wideF (ch s (p + 1)) = some F) :
    Calls Tryz.prog 131 #[.pointer (some ⟨g, 0, none⟩)] w (RxP g s o w (itemF s p) (fun f => setOf f)) := by
  have HS := Lib.hid hs; have HPS := Lib.hid hp
  have HG := Lib.hid (show ¬ w.heap.size = g by have := h.lt; omega)
  have HA0 := Lib.hid (h.alloc (.cells (setC 0 0 0 0) 38))
  have HZ0 := Lib.hid (AtG.new w 38 (setC 0 0 0 0))
  have HO0 := Lib.hid ((Only.refl (S := fun k => k = g) w).al (.cells (setC 0 0 0 0) 38))
  have hwp : IntKind.i64.wrap ((p : Int) + 1) = (p : Int) + 1 := by rw [IntKind.wrap_i64]; omega
  have HX := Lib.hid (show itemF s p = .ok F (p + 2) from by unfold itemF; rw [if_pos ⟨h92, hn⟩, hwd])
  have HIS := Lib.hid (fun (w1 : World) (h1 : AtG w1 g 94 (rxr s p o)) => isX g s p o 92 w1 h1 hp (by decide))
  rw [decide_eq_true h92] at HIS
  have hnI : (p : Int) + 1 < (s.size : Int) := by omega
  have hwv : wideV (ch s (p + 1)) = .tuple #[setOf F, .bool true] := by unfold wideV; rw [hwd]
  have HWD := Lib.hid (wideX (ch s (p + 1)))
  rw [hwv] at HWD
  obtain ⟨c1, hc1⟩ : ∃ c1, c1 = ch s (p + 1) := ⟨_, rfl⟩
  have hch : ((s[p + 1].toNat : Nat) : Int) = c1 := by rw [hc1, ch_in hn]
  rw [← hc1] at HWD
  generalize itemF s p = R at *
  clear h92 h hp hwd hwv hc1
  go_enter Tryz.func131, Tryz.ntmps131
  go_upto_region 1 with (fail)
  refine Rg.wp_region_each (by kernel_rfl) (fun w' => AtG w' g 94 (rxr s p o) ∧ AtG w' w.heap.size 38 (setC 0 0 0 0) ∧ Only (fun k => k = g) w w') (fun w1 w2 h hb => ⟨h.1.below hb, h.2.1.below hb, h.2.2.tb hb⟩) (by kernel_rfl) (by kernel_rfl) (⟨HA0.out, HZ0.out, HO0.out⟩) ?_
  show Rg.Build _ _ _ _ _ 0 [_, _, _, _, _, _, _, _, _, _, _, _, _, _, _] []
  refine Rg.build_cons (m := 1) (r := Rg.eq _) (Rg.one_plain (by rfl) (by (intro ax wx hk Kx hK; have k0 := hk.base 0 _ rfl rfl; have hj := hk.j; clear hk; have z1 : wx.cell? ⟨g, 1, none⟩ = some (.int .i64 (p : Int)) := hj.1.cell 1 _ rfl; have z0 : wx.cell? ⟨g, 0, none⟩ = some (.string s) := hj.1.cell 0 _ rfl; go_simp; refine hK _ _ ?_ (Below.refl _ _); apply Rg.mk))) ?_ rfl
  refine Rg.build_cons (m := 2) (r := Rg.eq _) (Rg.one_plain (by rfl) (by (intro ax wx hk Kx hK; obtain ⟨v7, k7, h7⟩ := hk.dep 0 7 _ rfl rfl rfl; (first | (cases (h7 : v7 = _)) | (obtain ⟨rfl, h7⟩ := h7) | skip); have hj := hk.j; clear hk; have z1 : wx.cell? ⟨g, 1, none⟩ = some (.int .i64 (p : Int)) := hj.1.cell 1 _ rfl; have z0 : wx.cell? ⟨g, 0, none⟩ = some (.string s) := hj.1.cell 0 _ rfl; go_simp; refine (HIS.out _ hj.1).mono ?_; rintro e w' ⟨rfl, hb⟩; refine hK _ _ ?_ hb; apply Rg.mk))) ?_ rfl
  refine Rg.build_cons (m := 3) (r := Rg.eq _) (Rg.one_plain (by rfl) (by (intro ax wx hk Kx hK; obtain ⟨v8, k8, h8⟩ := hk.dep 1 8 _ rfl rfl rfl; (first | (cases (h8 : v8 = _)) | (obtain ⟨rfl, h8⟩ := h8) | skip); have hj := hk.j; clear hk; have z1 : wx.cell? ⟨g, 1, none⟩ = some (.int .i64 (p : Int)) := hj.1.cell 1 _ rfl; have z0 : wx.cell? ⟨g, 0, none⟩ = some (.string s) := hj.1.cell 0 _ rfl; go_simp; refine hK _ _ ?_ (Below.refl _ _); apply Rg.mk))) ?_ rfl
  first
    | refine Rg.build_cons (m := 4) (Rg.one_no 2 9 true (by rfl) (by rfl) (by rfl) (by rfl)) ?_ rfl
    | refine Rg.build_cons (m := 4) (Rg.one_und 2 9 true (by rfl) (by rfl) (by rfl) (by rfl)) ?_ rfl
    | refine Rg.build_cons (m := 4) (r := Rg.eq _) (Rg.one_yes 2 9 true (by rfl) (by rfl) (by rfl) (by rfl) (by (intro ax wx hk Kx hK; have k0 := hk.base 0 _ rfl rfl; have hj := hk.j; clear hk; have z1 : wx.cell? ⟨g, 1, none⟩ = some (.int .i64 (p : Int)) := hj.1.cell 1 _ rfl; have z0 : wx.cell? ⟨g, 0, none⟩ = some (.string s) := hj.1.cell 0 _ rfl; go_simp; refine hK _ _ ?_ (Below.refl _ _); apply Rg.mk))) ?_ rfl
  first
    | refine Rg.build_cons (m := 5) (Rg.one_no 2 9 true (by rfl) (by rfl) (by rfl) (by rfl)) ?_ rfl
    | refine Rg.build_cons (m := 5) (Rg.one_und 2 9 true (by rfl) (by rfl) (by rfl) (by rfl)) ?_ rfl
    | refine Rg.build_cons (m := 5) (r := Rg.eq _) (Rg.one_yes 2 9 true (by rfl) (by rfl) (by rfl) (by rfl) (by (intro ax wx hk Kx hK; obtain ⟨v10, k10, h10⟩ := hk.dep 3 10 _ rfl rfl rfl; (first | (cases (h10 : v10 = _)) | (obtain ⟨rfl, h10⟩ := h10) | skip); have hj := hk.j; clear hk; have z1 : wx.cell? ⟨g, 1, none⟩ = some (.int .i64 (p : Int)) := hj.1.cell 1 _ rfl; have z0 : wx.cell? ⟨g, 0, none⟩ = some (.string s) := hj.1.cell 0 _ rfl; go_simp; refine hK _ _ ?_ (Below.refl _ _); apply Rg.mk))) ?_ rfl
  first
    | refine Rg.build_cons (m := 6) (Rg.one_no 2 9 true (by rfl) (by rfl) (by rfl) (by rfl)) ?_ rfl
    | refine Rg.build_cons (m := 6) (Rg.one_und 2 9 true (by rfl) (by rfl) (by rfl) (by rfl)) ?_ rfl
    | refine Rg.build_cons (m := 6) (r := Rg.eq _) (Rg.one_yes 2 9 true (by rfl) (by rfl) (by rfl) (by rfl) (by (intro ax wx hk Kx hK; obtain ⟨v11, k11, h11⟩ := hk.dep 4 11 _ rfl rfl rfl; (first | (cases (h11 : v11 = _)) | (obtain ⟨rfl, h11⟩ := h11) | skip); have hj := hk.j; clear hk; have z1 : wx.cell? ⟨g, 1, none⟩ = some (.int .i64 (p : Int)) := hj.1.cell 1 _ rfl; have z0 : wx.cell? ⟨g, 0, none⟩ = some (.string s) := hj.1.cell 0 _ rfl; go_simp; refine hK _ _ ?_ (Below.refl _ _); apply Rg.mk))) ?_ rfl
  first
    | refine Rg.build_cons (m := 7) (Rg.one_no 2 9 true (by rfl) (by rfl) (by rfl) (by rfl)) ?_ rfl
    | refine Rg.build_cons (m := 7) (Rg.one_und 2 9 true (by rfl) (by rfl) (by rfl) (by rfl)) ?_ rfl
    | refine Rg.build_cons (m := 7) (r := Rg.eq _) (Rg.one_yes 2 9 true (by rfl) (by rfl) (by rfl) (by rfl) (by (intro ax wx hk Kx hK; obtain ⟨v12, k12, h12⟩ := hk.dep 5 12 _ rfl rfl rfl; (first | (cases (h12 : v12 = _)) | (obtain ⟨rfl, h12⟩ := h12) | skip); have hj := hk.j; clear hk; have z1 : wx.cell? ⟨g, 1, none⟩ = some (.int .i64 (p : Int)) := hj.1.cell 1 _ rfl; have z0 : wx.cell? ⟨g, 0, none⟩ = some (.string s) := hj.1.cell 0 _ rfl; go_simp; refine hK _ _ ?_ (Below.refl _ _); apply Rg.mk))) ?_ rfl
  first
    | refine Rg.build_cons (m := 8) (Rg.one_no 2 9 true (by rfl) (by rfl) (by rfl) (by rfl)) ?_ rfl
    | refine Rg.build_cons (m := 8) (Rg.one_und 2 9 true (by rfl) (by rfl) (by rfl) (by rfl)) ?_ rfl
    | refine Rg.build_cons (m := 8) (r := Rg.eq (.int .i64 ((p : Int) + 1))) (Rg.one_yes 2 9 true (by rfl) (by rfl) (by rfl) (by rfl) (by (intro ax wx hk Kx hK; obtain ⟨v13, k13, h13⟩ := hk.dep 6 13 _ rfl rfl rfl; (first | (cases (h13 : v13 = _)) | (obtain ⟨rfl, h13⟩ := h13) | skip); have hj := hk.j; clear hk; have z1 : wx.cell? ⟨g, 1, none⟩ = some (.int .i64 (p : Int)) := hj.1.cell 1 _ rfl; have z0 : wx.cell? ⟨g, 0, none⟩ = some (.string s) := hj.1.cell 0 _ rfl; (go_simp; refine hK _ _ ?_ (Below.refl _ _); simp [Rg.eq, hwp])))) ?_ rfl
  first
    | refine Rg.build_cons (m := 9) (Rg.one_no 2 9 true (by rfl) (by rfl) (by rfl) (by rfl)) ?_ rfl
    | refine Rg.build_cons (m := 9) (Rg.one_und 2 9 true (by rfl) (by rfl) (by rfl) (by rfl)) ?_ rfl
    | refine Rg.build_cons (m := 9) (r := Rg.eq _) (Rg.one_yes 2 9 true (by rfl) (by rfl) (by rfl) (by rfl) (by (intro ax wx hk Kx hK; have k0 := hk.base 0 _ rfl rfl; have hj := hk.j; clear hk; have z1 : wx.cell? ⟨g, 1, none⟩ = some (.int .i64 (p : Int)) := hj.1.cell 1 _ rfl; have z0 : wx.cell? ⟨g, 0, none⟩ = some (.string s) := hj.1.cell 0 _ rfl; go_simp; refine hK _ _ ?_ (Below.refl _ _); apply Rg.mk))) ?_ rfl
  first
    | refine Rg.build_cons (m := 10) (Rg.one_no 2 9 true (by rfl) (by rfl) (by rfl) (by rfl)) ?_ rfl
    | refine Rg.build_cons (m := 10) (Rg.one_und 2 9 true (by rfl) (by rfl) (by rfl) (by rfl)) ?_ rfl
    | refine Rg.build_cons (m := 10) (r := Rg.eq _) (Rg.one_yes 2 9 true (by rfl) (by rfl) (by rfl) (by rfl) (by (intro ax wx hk Kx hK; obtain ⟨v15, k15, h15⟩ := hk.dep 8 15 _ rfl rfl rfl; (first | (cases (h15 : v15 = _)) | (obtain ⟨rfl, h15⟩ := h15) | skip); have hj := hk.j; clear hk; have z1 : wx.cell? ⟨g, 1, none⟩ = some (.int .i64 (p : Int)) := hj.1.cell 1 _ rfl; have z0 : wx.cell? ⟨g, 0, none⟩ = some (.string s) := hj.1.cell 0 _ rfl; go_simp; refine hK _ _ ?_ (Below.refl _ _); apply Rg.mk))) ?_ rfl
  first
    | refine Rg.build_cons (m := 11) (Rg.one_no 2 9 true (by rfl) (by rfl) (by rfl) (by rfl)) ?_ rfl
    | refine Rg.build_cons (m := 11) (Rg.one_und 2 9 true (by rfl) (by rfl) (by rfl) (by rfl)) ?_ rfl
    | refine Rg.build_cons (m := 11) (r := Rg.eq _) (Rg.one_yes 2 9 true (by rfl) (by rfl) (by rfl) (by rfl) (by (intro ax wx hk Kx hK; obtain ⟨v16, k16, h16⟩ := hk.dep 9 16 _ rfl rfl rfl; (first | (cases (h16 : v16 = _)) | (obtain ⟨rfl, h16⟩ := h16) | skip); have hj := hk.j; clear hk; have z1 : wx.cell? ⟨g, 1, none⟩ = some (.int .i64 (p : Int)) := hj.1.cell 1 _ rfl; have z0 : wx.cell? ⟨g, 0, none⟩ = some (.string s) := hj.1.cell 0 _ rfl; go_simp; refine hK _ _ ?_ (Below.refl _ _); apply Rg.mk))) ?_ rfl
  first
    | refine Rg.build_cons (m := 12) (Rg.one_no 2 9 true (by rfl) (by rfl) (by rfl) (by rfl)) ?_ rfl
    | refine Rg.build_cons (m := 12) (Rg.one_und 2 9 true (by rfl) (by rfl) (by rfl) (by rfl)) ?_ rfl
    | refine Rg.build_cons (m := 12) (r := Rg.eq _) (Rg.one_yes 2 9 true (by rfl) (by rfl) (by rfl) (by rfl) (by (intro ax wx hk Kx hK; obtain ⟨v17, k17, h17⟩ := hk.dep 10 17 _ rfl rfl rfl; (first | (cases (h17 : v17 = _)) | (obtain ⟨rfl, h17⟩ := h17) | skip); have hj := hk.j; clear hk; have z1 : wx.cell? ⟨g, 1, none⟩ = some (.int .i64 (p : Int)) := hj.1.cell 1 _ rfl; have z0 : wx.cell? ⟨g, 0, none⟩ = some (.string s) := hj.1.cell 0 _ rfl; go_simp; refine hK _ _ ?_ (Below.refl _ _); apply Rg.mk))) ?_ rfl
  first
    | refine Rg.build_cons (m := 13) (Rg.one_no 2 9 true (by rfl) (by rfl) (by rfl) (by rfl)) ?_ rfl
    | refine Rg.build_cons (m := 13) (Rg.one_und 2 9 true (by rfl) (by rfl) (by rfl) (by rfl)) ?_ rfl
    | refine Rg.build_cons (m := 13) (r := Rg.eq _) (Rg.one_yes 2 9 true (by rfl) (by rfl) (by rfl) (by rfl) (by (intro ax wx hk Kx hK; obtain ⟨v18, k18, h18⟩ := hk.dep 11 18 _ rfl rfl rfl; (first | (cases (h18 : v18 = _)) | (obtain ⟨rfl, h18⟩ := h18) | skip); have hj := hk.j; clear hk; have z1 : wx.cell? ⟨g, 1, none⟩ = some (.int .i64 (p : Int)) := hj.1.cell 1 _ rfl; have z0 : wx.cell? ⟨g, 0, none⟩ = some (.string s) := hj.1.cell 0 _ rfl; go_simp; refine hK _ _ ?_ (Below.refl _ _); apply Rg.mk))) ?_ rfl
  first
    | refine Rg.build_cons (m := 14) (Rg.one_no 2 9 true (by rfl) (by rfl) (by rfl) (by rfl)) ?_ rfl
    | refine Rg.build_cons (m := 14) (Rg.one_und 2 9 true (by rfl) (by rfl) (by rfl) (by rfl)) ?_ rfl
    | refine Rg.build_cons (m := 14) (r := Rg.eq (.bool true)) (Rg.one_yes 2 9 true (by rfl) (by rfl) (by rfl) (by rfl) (by (intro ax wx hk Kx hK; obtain ⟨v14, k14, h14⟩ := hk.dep 7 14 _ rfl rfl rfl; (first | (cases (h14 : v14 = _)) | (obtain ⟨rfl, h14⟩ := h14) | skip); obtain ⟨v19, k19, h19⟩ := hk.dep 12 19 _ rfl rfl rfl; (first | (cases (h19 : v19 = _)) | (obtain ⟨rfl, h19⟩ := h19) | skip); have hj := hk.j; clear hk; have z1 : wx.cell? ⟨g, 1, none⟩ = some (.int .i64 (p : Int)) := hj.1.cell 1 _ rfl; have z0 : wx.cell? ⟨g, 0, none⟩ = some (.string s) := hj.1.cell 0 _ rfl; (go_simp; refine hK _ _ ?_ (Below.refl _ _); first | (simp [Rg.eq, hnI]; done) | (simp [Rg.eq]; omega))))) ?_ rfl
  refine Rg.build_cons (m := 15) (r := Rg.eq _) (Rg.one_plain (by rfl) (by (intro ax wx hk Kx hK; obtain ⟨v9, k9, h9⟩ := hk.dep 2 9 _ rfl rfl rfl; (first | (cases (h9 : v9 = _)) | (obtain ⟨rfl, h9⟩ := h9) | skip); obtain ⟨v20, k20, h20⟩ := hk.dep 13 20 _ rfl rfl rfl; (first | (cases (h20 : v20 = _)) | (obtain ⟨rfl, h20⟩ := h20) | skip); have hj := hk.j; clear hk; have z1 : wx.cell? ⟨g, 1, none⟩ = some (.int .i64 (p : Int)) := hj.1.cell 1 _ rfl; have z0 : wx.cell? ⟨g, 0, none⟩ = some (.string s) := hj.1.cell 0 _ rfl; go_simp; refine hK _ _ ?_ (Below.refl _ _); apply Rg.mk))) ?_ rfl
  refine Rg.build_end fun wx hj => ?_
  refine Rg.fin_eq rfl ?_
  refine Rg.fin_eq rfl ?_
  refine Rg.fin_eq rfl ?_
  refine Rg.fin_eq rfl ?_
  refine Rg.fin_eq rfl ?_
  refine Rg.fin_eq rfl ?_
  refine Rg.fin_eq rfl ?_
  first | refine Rg.fin_eq rfl ?_ | refine Rg.fin_any rfl fun v14 h14 => ?_
  refine Rg.fin_eq rfl ?_
  refine Rg.fin_eq rfl ?_
  refine Rg.fin_eq rfl ?_
  refine Rg.fin_eq rfl ?_
  refine Rg.fin_eq rfl ?_
  first | refine Rg.fin_eq rfl ?_ | refine Rg.fin_any rfl fun v20 h20 => ?_
  refine Rg.fin_eq rfl ?_
  refine Rg.fin_nil ?_
  simp only [List.set_cons_zero, List.set_cons_succ]
  have HA1 := Lib.hid hj.1; have HZ1 := Lib.hid hj.2.1; have HO1 := Lib.hid hj.2.2
  clear hj
  obtain ⟨wA, hwA⟩ : ∃ wA : World, wA = wx := ⟨_, rfl⟩
  rw [← hwA] at HA1 HZ1 HO1 ⊢
  clear hwA
  go_upto_region 2 with (fail)
  have HZL := Lib.hid HZ1.out.lt
  refine RgX.start (by kernel_rfl) [(15, fun w5 w6 => ∃ gg f, w.heap.size < gg ∧ gg ≠ g ∧ w6 = putS w5 gg f)] [⟨fun w' => AtG w' g 94 (rxr s p o) ∧ AtG w' w.heap.size 38 (setC 0 0 0 0) ∧ Only (fun k => k = g) w w', none⟩] ⟨⟨fun _ _ h hb => ⟨h.1.below hb, h.2.1.below hb, h.2.2.tb hb⟩, ⟨fun _ _ _ _ => (fun w5 w6 h he => by obtain ⟨gg, f, h1, h2, rfl⟩ := he; exact ⟨putS_far h.1 (fun e => h2 e.symm) _, putS_far h.2.1 (by omega) _, h.2.2.pS _ _ (.inr (by omega))⟩), trivial⟩⟩, trivial⟩ (by kernel_rfl) (by kernel_rfl) ⟨⟨HA1.out.drew, HZ1.out.drew, HO1.out.drew⟩, trivial⟩ ?_
  show RgX.Build _ _ _ _ _ _ 0 [_, _, _, _, _, _, _, _, _, _, _, _, _, _, _, _, _] []
  refine RgX.build_cons (m := 1) (r := RgX.eq _) (RgX.one_plain (by rfl) (by (intro ax wx hk Kx hK; have k0 := hk.base 0 _ rfl rfl; have hL := hk.fact 0 0 _ rfl rfl; (try dsimp only at hL); clear hk; have z1 : wx.cell? ⟨g, 1, none⟩ = some (.int .i64 (p : Int)) := hL.1.cell 1 _ rfl; have z0 : wx.cell? ⟨g, 0, none⟩ = some (.string s) := hL.1.cell 0 _ rfl; go_simp; refine hK _ _ (fun h => by cases h) (fun _ _ => ?_) (Below.refl _ _); apply RgX.mk))) ?_ rfl RgX.keep_eq (fun _ h => by cases h)
  refine RgX.build_cons (m := 2) (r := RgX.eq _) (RgX.one_plain (by rfl) (by (intro ax wx hk Kx hK; obtain ⟨v23, k23, h23⟩ := hk.dep 0 0 23 _ rfl rfl rfl; (first | (replace h23 := h23 9 undef rfl rfl; first | (cases (h23 : v23 = _)) | (obtain ⟨rfl, h23⟩ := h23) | skip) | skip); have hL := hk.fact 0 0 _ rfl rfl; (try dsimp only at hL); clear hk; have z1 : wx.cell? ⟨g, 1, none⟩ = some (.int .i64 (p : Int)) := hL.1.cell 1 _ rfl; have z0 : wx.cell? ⟨g, 0, none⟩ = some (.string s) := hL.1.cell 0 _ rfl; go_simp; refine hK _ _ (fun h => by cases h) (fun _ _ => ?_) (Below.refl _ _); apply RgX.mk))) ?_ rfl RgX.keep_eq (fun _ h => by cases h)
  refine RgX.build_cons (m := 3) (r := RgX.eq _) (RgX.one_plain (by rfl) (by (intro ax wx hk Kx hK; obtain ⟨v24, k24, h24⟩ := hk.dep 0 1 24 _ rfl rfl rfl; (first | (replace h24 := h24 9 undef rfl rfl; first | (cases (h24 : v24 = _)) | (obtain ⟨rfl, h24⟩ := h24) | skip) | skip); have hL := hk.fact 0 0 _ rfl rfl; (try dsimp only at hL); clear hk; have z1 : wx.cell? ⟨g, 1, none⟩ = some (.int .i64 (p : Int)) := hL.1.cell 1 _ rfl; have z0 : wx.cell? ⟨g, 0, none⟩ = some (.string s) := hL.1.cell 0 _ rfl; go_simp; refine hK _ _ (fun h => by cases h) (fun _ _ => ?_) (Below.refl _ _); apply RgX.mk))) ?_ rfl RgX.keep_eq (fun _ h => by cases h)
  refine RgX.build_cons (m := 4) (r := RgX.eq _) (RgX.one_plain (by rfl) (by (intro ax wx hk Kx hK; obtain ⟨v25, k25, h25⟩ := hk.dep 0 2 25 _ rfl rfl rfl; (first | (replace h25 := h25 9 undef rfl rfl; first | (cases (h25 : v25 = _)) | (obtain ⟨rfl, h25⟩ := h25) | skip) | skip); have hL := hk.fact 0 0 _ rfl rfl; (try dsimp only at hL); clear hk; have z1 : wx.cell? ⟨g, 1, none⟩ = some (.int .i64 (p : Int)) := hL.1.cell 1 _ rfl; have z0 : wx.cell? ⟨g, 0, none⟩ = some (.string s) := hL.1.cell 0 _ rfl; go_simp; refine hK _ _ (fun h => by cases h) (fun _ _ => ?_) (Below.refl _ _); apply RgX.mk))) ?_ rfl RgX.keep_eq (fun _ h => by cases h)
  refine RgX.build_cons (m := 5) (r := RgX.eq _) (RgX.one_plain (by rfl) (by (intro ax wx hk Kx hK; have k0 := hk.base 0 _ rfl rfl; have hL := hk.fact 0 0 _ rfl rfl; (try dsimp only at hL); clear hk; have z1 : wx.cell? ⟨g, 1, none⟩ = some (.int .i64 (p : Int)) := hL.1.cell 1 _ rfl; have z0 : wx.cell? ⟨g, 0, none⟩ = some (.string s) := hL.1.cell 0 _ rfl; go_simp; refine hK _ _ (fun h => by cases h) (fun _ _ => ?_) (Below.refl _ _); apply RgX.mk))) ?_ rfl RgX.keep_eq (fun _ h => by cases h)
  refine RgX.build_cons (m := 6) (r := RgX.eq _) (RgX.one_plain (by rfl) (by (intro ax wx hk Kx hK; obtain ⟨v27, k27, h27⟩ := hk.dep 0 4 27 _ rfl rfl rfl; (first | (replace h27 := h27 9 undef rfl rfl; first | (cases (h27 : v27 = _)) | (obtain ⟨rfl, h27⟩ := h27) | skip) | skip); have hL := hk.fact 0 0 _ rfl rfl; (try dsimp only at hL); clear hk; have z1 : wx.cell? ⟨g, 1, none⟩ = some (.int .i64 (p : Int)) := hL.1.cell 1 _ rfl; have z0 : wx.cell? ⟨g, 0, none⟩ = some (.string s) := hL.1.cell 0 _ rfl; go_simp; refine hK _ _ (fun h => by cases h) (fun _ _ => ?_) (Below.refl _ _); apply RgX.mk))) ?_ rfl RgX.keep_eq (fun _ h => by cases h)
  refine RgX.build_cons (m := 7) (r := RgX.eq _) (RgX.one_plain (by rfl) (by (intro ax wx hk Kx hK; obtain ⟨v28, k28, h28⟩ := hk.dep 0 5 28 _ rfl rfl rfl; (first | (replace h28 := h28 9 undef rfl rfl; first | (cases (h28 : v28 = _)) | (obtain ⟨rfl, h28⟩ := h28) | skip) | skip); have hL := hk.fact 0 0 _ rfl rfl; (try dsimp only at hL); clear hk; have z1 : wx.cell? ⟨g, 1, none⟩ = some (.int .i64 (p : Int)) := hL.1.cell 1 _ rfl; have z0 : wx.cell? ⟨g, 0, none⟩ = some (.string s) := hL.1.cell 0 _ rfl; go_simp; refine hK _ _ (fun h => by cases h) (fun _ _ => ?_) (Below.refl _ _); apply RgX.mk))) ?_ rfl RgX.keep_eq (fun _ h => by cases h)
  refine RgX.build_cons (m := 8) (r := RgX.eq _) (RgX.one_plain (by rfl) (by (intro ax wx hk Kx hK; obtain ⟨v29, k29, h29⟩ := hk.dep 0 6 29 _ rfl rfl rfl; (first | (replace h29 := h29 9 undef rfl rfl; first | (cases (h29 : v29 = _)) | (obtain ⟨rfl, h29⟩ := h29) | skip) | skip); have hL := hk.fact 0 0 _ rfl rfl; (try dsimp only at hL); clear hk; have z1 : wx.cell? ⟨g, 1, none⟩ = some (.int .i64 (p : Int)) := hL.1.cell 1 _ rfl; have z0 : wx.cell? ⟨g, 0, none⟩ = some (.string s) := hL.1.cell 0 _ rfl; go_simp; refine hK _ _ (fun h => by cases h) (fun _ _ => ?_) (Below.refl _ _); apply RgX.mk))) ?_ rfl RgX.keep_eq (fun _ h => by cases h)
  refine RgX.build_cons (m := 9) (r := RgX.eq (.int .i64 ((p : Int) + 1))) (RgX.one_plain (by rfl) (by (intro ax wx hk Kx hK; obtain ⟨v30, k30, h30⟩ := hk.dep 0 7 30 _ rfl rfl rfl; (first | (replace h30 := h30 9 undef rfl rfl; first | (cases (h30 : v30 = _)) | (obtain ⟨rfl, h30⟩ := h30) | skip) | skip); have hL := hk.fact 0 0 _ rfl rfl; (try dsimp only at hL); clear hk; have z1 : wx.cell? ⟨g, 1, none⟩ = some (.int .i64 (p : Int)) := hL.1.cell 1 _ rfl; have z0 : wx.cell? ⟨g, 0, none⟩ = some (.string s) := hL.1.cell 0 _ rfl; (go_simp; refine hK _ _ (fun h => by cases h) (fun _ _ => ?_) (Below.refl _ _); simp [RgX.eq, hwp])))) ?_ rfl RgX.keep_eq (fun _ h => by cases h)
  refine RgX.build_cons (m := 10) (r := RgX.eq (.int .u8 (c1))) (RgX.one_plain (by rfl) (by (intro ax wx hk Kx hK; obtain ⟨v26, k26, h26⟩ := hk.dep 0 3 26 _ rfl rfl rfl; (first | (replace h26 := h26 9 undef rfl rfl; first | (cases (h26 : v26 = _)) | (obtain ⟨rfl, h26⟩ := h26) | skip) | skip); obtain ⟨v31, k31, h31⟩ := hk.dep 0 8 31 _ rfl rfl rfl; (first | (replace h31 := h31 9 undef rfl rfl; first | (cases (h31 : v31 = _)) | (obtain ⟨rfl, h31⟩ := h31) | skip) | skip); have hL := hk.fact 0 0 _ rfl rfl; (try dsimp only at hL); clear hk; have z1 : wx.cell? ⟨g, 1, none⟩ = some (.int .i64 (p : Int)) := hL.1.cell 1 _ rfl; have z0 : wx.cell? ⟨g, 0, none⟩ = some (.string s) := hL.1.cell 0 _ rfl; (go_simp; refine hK _ _ (fun h => by cases h) (fun _ _ => ?_) (Below.refl _ _); simp [RgX.eq, hch])))) ?_ rfl RgX.keep_eq (fun _ h => by cases h)
  refine RgX.build_cons (m := 11) (r := RgX.eq _) (RgX.one_plain (by rfl) (by (intro ax wx hk Kx hK; obtain ⟨v32, k32, h32⟩ := hk.dep 0 9 32 _ rfl rfl rfl; (first | (replace h32 := h32 9 undef rfl rfl; first | (cases (h32 : v32 = _)) | (obtain ⟨rfl, h32⟩ := h32) | skip) | skip); have hL := hk.fact 0 0 _ rfl rfl; (try dsimp only at hL); clear hk; have z1 : wx.cell? ⟨g, 1, none⟩ = some (.int .i64 (p : Int)) := hL.1.cell 1 _ rfl; have z0 : wx.cell? ⟨g, 0, none⟩ = some (.string s) := hL.1.cell 0 _ rfl; go_simp; refine (HWD.out _).mono ?_; rintro e w' ⟨rfl, hb⟩; refine hK _ _ (fun h => by cases h) (fun _ _ => ?_) hb; apply RgX.mk))) ?_ rfl RgX.keep_eq (fun _ h => by cases h)
  refine RgX.build_cons (m := 12) (r := RgX.eq _) (RgX.one_plain (by rfl) (by (intro ax wx hk Kx hK; obtain ⟨v33, k33, h33⟩ := hk.dep 0 10 33 _ rfl rfl rfl; (first | (replace h33 := h33 9 undef rfl rfl; first | (cases (h33 : v33 = _)) | (obtain ⟨rfl, h33⟩ := h33) | skip) | skip); have hL := hk.fact 0 0 _ rfl rfl; (try dsimp only at hL); clear hk; have z1 : wx.cell? ⟨g, 1, none⟩ = some (.int .i64 (p : Int)) := hL.1.cell 1 _ rfl; have z0 : wx.cell? ⟨g, 0, none⟩ = some (.string s) := hL.1.cell 0 _ rfl; go_simp; refine hK _ _ (fun h => by cases h) (fun _ _ => ?_) (Below.refl _ _); apply RgX.mk))) ?_ rfl RgX.keep_eq (fun _ h => by cases h)
  refine RgX.build_cons (m := 13) (r := RgX.eq _) (RgX.one_plain (by rfl) (by (intro ax wx hk Kx hK; obtain ⟨v22, k22, h22⟩ := hk.dep 0 11 22 _ rfl rfl rfl; (first | (replace h22 := h22 9 undef rfl rfl; first | (cases (h22 : v22 = _)) | (obtain ⟨rfl, h22⟩ := h22) | skip) | skip); have hL := hk.fact 0 0 _ rfl rfl; (try dsimp only at hL); clear hk; have z1 : wx.cell? ⟨g, 1, none⟩ = some (.int .i64 (p : Int)) := hL.1.cell 1 _ rfl; have z0 : wx.cell? ⟨g, 0, none⟩ = some (.string s) := hL.1.cell 0 _ rfl; go_simp; refine hK _ _ (fun h => by cases h) (fun _ _ => ?_) (Below.refl _ _); apply RgX.mk))) ?_ rfl RgX.keep_eq (fun _ h => by cases h)
  refine RgX.build_cons (m := 14) (r := RgX.eq _) (RgX.one_plain (by rfl) (by (intro ax wx hk Kx hK; obtain ⟨v22, k22, h22⟩ := hk.dep 0 11 22 _ rfl rfl rfl; (first | (replace h22 := h22 9 undef rfl rfl; first | (cases (h22 : v22 = _)) | (obtain ⟨rfl, h22⟩ := h22) | skip) | skip); have hL := hk.fact 0 0 _ rfl rfl; (try dsimp only at hL); clear hk; have z1 : wx.cell? ⟨g, 1, none⟩ = some (.int .i64 (p : Int)) := hL.1.cell 1 _ rfl; have z0 : wx.cell? ⟨g, 0, none⟩ = some (.string s) := hL.1.cell 0 _ rfl; go_simp; refine hK _ _ (fun h => by cases h) (fun _ _ => ?_) (Below.refl _ _); apply RgX.mk))) ?_ rfl RgX.keep_eq (fun _ h => by cases h)
  refine RgX.build_cons (m := 15) (r := (⟨fun v _ w5 => ∃ gg, v = .pointer (some ⟨gg, 0, none⟩) ∧ w.heap.size < gg ∧ gg ≠ g ∧ AtG w5 gg 38 (setC 0 0 0 0), some 15, none⟩ : RgX.Rl)) (RgX.one_plain (by rfl) (by (intro ax wx hk Kx hK; have hL := hk.fact 0 0 _ rfl rfl; (try dsimp only at hL); clear hk; have z1 : wx.cell? ⟨g, 1, none⟩ = some (.int .i64 (p : Int)) := hL.1.cell 1 _ rfl; have z0 : wx.cell? ⟨g, 0, none⟩ = some (.string s) := hL.1.cell 0 _ rfl; (go_simp; exact hK _ _ (fun h => by cases h) (fun u _ => ⟨wx.heap.size, rfl, hL.2.1.lt, by have := hL.1.lt; omega, AtG.new _ _ _⟩) ((Below.refl _ _).alloc (Nat.le_refl _) _))))) ?_ rfl (RgX.keep_r (fun _ _ _ _ h hb => by obtain ⟨gg, h1, h2, h3, h4⟩ := h; exact ⟨gg, h1, h2, h3, h4.below hb⟩) (fun _ _ => ⟨fun _ h _ _ => absurd rfl h, trivial⟩)) (fun _ h => by cases h)
  refine RgX.build_cons (m := 16) (r := (⟨fun _ u w5 => ∃ gg, u = .pointer (some ⟨gg, 0, none⟩) ∧ w.heap.size < gg ∧ gg ≠ g ∧ AtG w5 gg 38 (cellsOf F), none, some 14⟩ : RgX.Rl)) (RgX.one_plain (by rfl) (by (intro ax wx hk Kx hK; obtain ⟨v3, k3, h3⟩ := hk.dep 0 14 3 _ rfl rfl rfl; (first | (replace h3 := h3 9 undef rfl rfl; first | (cases (h3 : v3 = _)) | (obtain ⟨rfl, h3⟩ := h3) | skip) | skip); obtain ⟨v34, k34, h34⟩ := hk.dep 0 12 34 _ rfl rfl rfl; (first | (replace h34 := h34 9 undef rfl rfl; first | (cases (h34 : v34 = _)) | (obtain ⟨rfl, h34⟩ := h34) | skip) | skip); have hL := hk.fact 0 0 _ rfl rfl; (try dsimp only at hL); clear hk; have z1 : wx.cell? ⟨g, 1, none⟩ = some (.int .i64 (p : Int)) := hL.1.cell 1 _ rfl; have z0 : wx.cell? ⟨g, 0, none⟩ = some (.string s) := hL.1.cell 0 _ rfl; (obtain ⟨gg, rfl, hg0, hg1, hg2⟩ := h3; have d0 := hg2.cell 0 _ rfl; have d1 := hg2.cell 1 _ rfl; have d2 := hg2.cell 2 _ rfl; have d3 := hg2.cell 3 _ rfl; have f0 := hg2.frozen 0; have f1 := hg2.frozen 1; have f2 := hg2.frozen 2; have f3 := hg2.frozen 3; unfold setOf at k34; go_simp; refine hK undef (putS wx gg F) (fun _ => rfl) (fun u hu => ?_) ⟨gg, F, hg0, hg1, rfl⟩; obtain ⟨t, ht, hu⟩ := hu; cases ht; rw [k3] at hu; cases hu; exact ⟨gg, rfl, hg0, hg1, putS_at hg2 F⟩)))) ?_ rfl (RgX.keep_r (fun _ _ _ _ h hb => by obtain ⟨gg, h1, h2, h3, h4⟩ := h; exact ⟨gg, h1, h2, h3, h4.below hb⟩) (fun _ _ => ⟨fun h _ _ _ => absurd rfl h, trivial⟩)) (fun j h => by cases h; exact ⟨0, rfl⟩)
  refine RgX.build_cons (m := 17) (r := RgX.eq _) (RgX.one_plain (by rfl) (by (intro ax wx hk Kx hK; obtain ⟨v35, k35, h35⟩ := hk.dep 0 13 35 _ rfl rfl rfl; (first | (replace h35 := h35 9 undef rfl rfl; first | (cases (h35 : v35 = _)) | (obtain ⟨rfl, h35⟩ := h35) | skip) | skip); have hL := hk.fact 0 0 _ rfl rfl; (try dsimp only at hL); clear hk; have z1 : wx.cell? ⟨g, 1, none⟩ = some (.int .i64 (p : Int)) := hL.1.cell 1 _ rfl; have z0 : wx.cell? ⟨g, 0, none⟩ = some (.string s) := hL.1.cell 0 _ rfl; go_simp; refine hK _ _ (fun h => by cases h) (fun _ _ => ?_) (Below.refl _ _); apply RgX.mk))) ?_ rfl RgX.keep_eq (fun _ h => by cases h)
  refine RgX.build_end fun wx hj => ?_
  have hL := hj 0 _ rfl rfl
  clear hj
  refine RgX.fin_eq rfl ?_
  refine RgX.fin_eq rfl ?_
  refine RgX.fin_eq rfl ?_
  refine RgX.fin_eq rfl ?_
  refine RgX.fin_eq rfl ?_
  refine RgX.fin_eq rfl ?_
  refine RgX.fin_eq rfl ?_
  refine RgX.fin_eq rfl ?_
  refine RgX.fin_eq rfl ?_
  refine RgX.fin_eq rfl ?_
  refine RgX.fin_eq rfl ?_
  refine RgX.fin_eq rfl ?_
  refine RgX.fin_eq rfl ?_
  refine RgX.fin_eq rfl ?_
  first | refine RgX.fin_eq rfl ?_ | refine RgX.fin_any rfl fun v3 h3 => ?_
  refine RgX.fin_none rfl fun s15 => ?_
  refine RgX.fin_eq rfl ?_
  refine RgX.fin_nil ?_
  simp only [List.set_cons_zero, List.set_cons_succ]
  clear h3
  obtain ⟨gg, rfl, hg0, hg1, hg2⟩ := s15 rfl v3 ⟨3, by kernel_rfl, by kernel_rfl⟩
  have HA2 := Lib.hid hL.1; have HZ2 := Lib.hid hL.2.1; have HO2 := Lib.hid hL.2.2
  clear hL s15
  have hwp2 : IntKind.i64.wrap ((p : Int) + 2) = (p : Int) + 2 := by rw [IntKind.wrap_i64]; omega
  obtain ⟨wB, hwB⟩ : ∃ wB : World, wB = wx := ⟨_, rfl⟩
  rw [← hwB] at HA2 HZ2 HO2 hg2 ⊢
  have HGG := Lib.hid hg2; have HG0 := Lib.hid (show gg ≠ w.heap.size by omega)
  clear hwB
  have z1 : wB.cell? ⟨g, 1, none⟩ = some (.int .i64 (p : Int)) := HA2.out.cell 1 _ rfl
  have y1 := HA2.out.frozen 1
  have c0 : wB.cell? ⟨gg, 0, none⟩ = some (.int .u64 ((wd F 0 : Nat) : Int)) := hg2.cell 0 _ rfl
  have c2 : wB.cell? ⟨gg, 1, none⟩ = some (.int .u64 ((wd F 1 : Nat) : Int)) := hg2.cell 1 _ rfl
  have c3 : wB.cell? ⟨gg, 2, none⟩ = some (.int .u64 ((wd F 2 : Nat) : Int)) := hg2.cell 2 _ rfl
  have c4 : wB.cell? ⟨gg, 3, none⟩ = some (.int .u64 ((wd F 3 : Nat) : Int)) := hg2.cell 3 _ rfl
  have d0 := (HZ2.out).cell 0 _ rfl; have d1 := (HZ2.out).cell 1 _ rfl; have d2 := (HZ2.out).cell 2 _ rfl; have d3 := (HZ2.out).cell 3 _ rfl
  have f0 := (HZ2.out).frozen 0; have f1 := (HZ2.out).frozen 1; have f2 := (HZ2.out).frozen 2; have f3 := (HZ2.out).frozen 3
  have hn1 := HG.out
  have hn2 : ¬ g = w.heap.size := fun e => HG.out e.symm
  clear hg2
  go_wp2_with fail
  refine bodyPost_ret (v := setOf F) (by simp [results, Tryz.results131, go_sem, d0, d1, d2, d3, hn1, hn2]; try rfl) rfl ?_
  rw [HX.out]
  refine ⟨(HO2.out.st g 1 (.int .i64 ((p : Int) + 2)) (.inl rfl)).pS _ F (.inr (Nat.le_refl _)), rfl, ?_⟩
  rw [show ((p + 2 : Nat) : Int) = (p : Int) + 2 from by omega]
  exact putS_far (HA2.out.set 1 _) hn2 F
set_option maxRecDepth 100000 in
set_option maxHeartbeats 1600000 in
theorem itemX_none (g : Nat) (s : ByteArray) (p o : Nat) (w : World) (h : AtG w g 94 (rxr s p o)) (hp : p ≤ s.size) (hs : s.size ≤ 900) (h92 : ch s p = 92) (hn : p + 1 < s.size) (hwd : wideF (ch s (p + 1)) = none) :
    Calls Tryz.prog 131 #[.pointer (some ⟨g, 0, none⟩)] w (RxP g s o w (itemF s p) (fun f => setOf f)) := by
  have HS := Lib.hid hs; have HPS := Lib.hid hp
  have HG := Lib.hid (show ¬ w.heap.size = g by have := h.lt; omega)
  have HA0 := Lib.hid (h.alloc (.cells (setC 0 0 0 0) 38))
  have HZ0 := Lib.hid (AtG.new w 38 (setC 0 0 0 0))
  have HO0 := Lib.hid ((Only.refl (S := fun k => k = g) w).al (.cells (setC 0 0 0 0) 38))
  have hwp : IntKind.i64.wrap ((p : Int) + 1) = (p : Int) + 1 := by rw [IntKind.wrap_i64]; omega
  have HX := Lib.hid (show itemF s p = itemE s (memberF s p) from by unfold itemF; rw [if_pos ⟨h92, hn⟩, hwd])
  have HIS := Lib.hid (fun (w1 : World) (h1 : AtG w1 g 94 (rxr s p o)) => isX g s p o 92 w1 h1 hp (by decide))
  rw [decide_eq_true h92] at HIS
  have hnI : (p : Int) + 1 < (s.size : Int) := by omega
  have hwv : wideV (ch s (p + 1)) = .tuple #[setOf emp, .bool false] := by unfold wideV; rw [hwd]
  have HWD := Lib.hid (wideX (ch s (p + 1)))
  rw [hwv] at HWD
  obtain ⟨c1, hc1⟩ : ∃ c1, c1 = ch s (p + 1) := ⟨_, rfl⟩
  have hch : ((s[p + 1].toNat : Nat) : Int) = c1 := by rw [hc1, ch_in hn]
  rw [← hc1] at HWD
  generalize itemF s p = R at *
  clear h92 h hp hwd hwv hc1
  go_enter Tryz.func131, Tryz.ntmps131
  go_upto_region 1 with (fail)
  refine Rg.wp_region_each (by kernel_rfl) (fun w' => AtG w' g 94 (rxr s p o) ∧ AtG w' w.heap.size 38 (setC 0 0 0 0) ∧ Only (fun k => k = g) w w') (fun w1 w2 h hb => ⟨h.1.below hb, h.2.1.below hb, h.2.2.tb hb⟩) (by kernel_rfl) (by kernel_rfl) (⟨HA0.out, HZ0.out, HO0.out⟩) ?_
  show Rg.Build _ _ _ _ _ 0 [_, _, _, _, _, _, _, _, _, _, _, _, _, _, _] []
  refine Rg.build_cons (m := 1) (r := Rg.eq _) (Rg.one_plain (by rfl) (by (intro ax wx hk Kx hK; have k0 := hk.base 0 _ rfl rfl; have hj := hk.j; clear hk; have z1 : wx.cell? ⟨g, 1, none⟩ = some (.int .i64 (p : Int)) := hj.1.cell 1 _ rfl; have z0 : wx.cell? ⟨g, 0, none⟩ = some (.string s) := hj.1.cell 0 _ rfl; go_simp; refine hK _ _ ?_ (Below.refl _ _); apply Rg.mk))) ?_ rfl
  refine Rg.build_cons (m := 2) (r := Rg.eq _) (Rg.one_plain (by rfl) (by (intro ax wx hk Kx hK; obtain ⟨v7, k7, h7⟩ := hk.dep 0 7 _ rfl rfl rfl; (first | (cases (h7 : v7 = _)) | (obtain ⟨rfl, h7⟩ := h7) | skip); have hj := hk.j; clear hk; have z1 : wx.cell? ⟨g, 1, none⟩ = some (.int .i64 (p : Int)) := hj.1.cell 1 _ rfl; have z0 : wx.cell? ⟨g, 0, none⟩ = some (.string s) := hj.1.cell 0 _ rfl; go_simp; refine (HIS.out _ hj.1).mono ?_; rintro e w' ⟨rfl, hb⟩; refine hK _ _ ?_ hb; apply Rg.mk))) ?_ rfl
  refine Rg.build_cons (m := 3) (r := Rg.eq _) (Rg.one_plain (by rfl) (by (intro ax wx hk Kx hK; obtain ⟨v8, k8, h8⟩ := hk.dep 1 8 _ rfl rfl rfl; (first | (cases (h8 : v8 = _)) | (obtain ⟨rfl, h8⟩ := h8) | skip); have hj := hk.j; clear hk; have z1 : wx.cell? ⟨g, 1, none⟩ = some (.int .i64 (p : Int)) := hj.1.cell 1 _ rfl; have z0 : wx.cell? ⟨g, 0, none⟩ = some (.string s) := hj.1.cell 0 _ rfl; go_simp; refine hK _ _ ?_ (Below.refl _ _); apply Rg.mk))) ?_ rfl
  first
    | refine Rg.build_cons (m := 4) (Rg.one_no 2 9 true (by rfl) (by rfl) (by rfl) (by rfl)) ?_ rfl
    | refine Rg.build_cons (m := 4) (Rg.one_und 2 9 true (by rfl) (by rfl) (by rfl) (by rfl)) ?_ rfl
    | refine Rg.build_cons (m := 4) (r := Rg.eq _) (Rg.one_yes 2 9 true (by rfl) (by rfl) (by rfl) (by rfl) (by (intro ax wx hk Kx hK; have k0 := hk.base 0 _ rfl rfl; have hj := hk.j; clear hk; have z1 : wx.cell? ⟨g, 1, none⟩ = some (.int .i64 (p : Int)) := hj.1.cell 1 _ rfl; have z0 : wx.cell? ⟨g, 0, none⟩ = some (.string s) := hj.1.cell 0 _ rfl; go_simp; refine hK _ _ ?_ (Below.refl _ _); apply Rg.mk))) ?_ rfl
  first
    | refine Rg.build_cons (m := 5) (Rg.one_no 2 9 true (by rfl) (by rfl) (by rfl) (by rfl)) ?_ rfl
    | refine Rg.build_cons (m := 5) (Rg.one_und 2 9 true (by rfl) (by rfl) (by rfl) (by rfl)) ?_ rfl
    | refine Rg.build_cons (m := 5) (r := Rg.eq _) (Rg.one_yes 2 9 true (by rfl) (by rfl) (by rfl) (by rfl) (by (intro ax wx hk Kx hK; obtain ⟨v10, k10, h10⟩ := hk.dep 3 10 _ rfl rfl rfl; (first | (cases (h10 : v10 = _)) | (obtain ⟨rfl, h10⟩ := h10) | skip); have hj := hk.j; clear hk; have z1 : wx.cell? ⟨g, 1, none⟩ = some (.int .i64 (p : Int)) := hj.1.cell 1 _ rfl; have z0 : wx.cell? ⟨g, 0, none⟩ = some (.string s) := hj.1.cell 0 _ rfl; go_simp; refine hK _ _ ?_ (Below.refl _ _); apply Rg.mk))) ?_ rfl
  first
    | refine Rg.build_cons (m := 6) (Rg.one_no 2 9 true (by rfl) (by rfl) (by rfl) (by rfl)) ?_ rfl
    | refine Rg.build_cons (m := 6) (Rg.one_und 2 9 true (by rfl) (by rfl) (by rfl) (by rfl)) ?_ rfl
    | refine Rg.build_cons (m := 6) (r := Rg.eq _) (Rg.one_yes 2 9 true (by rfl) (by rfl) (by rfl) (by rfl) (by (intro ax wx hk Kx hK; obtain ⟨v11, k11, h11⟩ := hk.dep 4 11 _ rfl rfl rfl; (first | (cases (h11 : v11 = _)) | (obtain ⟨rfl, h11⟩ := h11) | skip); have hj := hk.j; clear hk; have z1 : wx.cell? ⟨g, 1, none⟩ = some (.int .i64 (p : Int)) := hj.1.cell 1 _ rfl; have z0 : wx.cell? ⟨g, 0, none⟩ = some (.string s) := hj.1.cell 0 _ rfl; go_simp; refine hK _ _ ?_ (Below.refl _ _); apply Rg.mk))) ?_ rfl
  first
    | refine Rg.build_cons (m := 7) (Rg.one_no 2 9 true (by rfl) (by rfl) (by rfl) (by rfl)) ?_ rfl
    | refine Rg.build_cons (m := 7) (Rg.one_und 2 9 true (by rfl) (by rfl) (by rfl) (by rfl)) ?_ rfl
    | refine Rg.build_cons (m := 7) (r := Rg.eq _) (Rg.one_yes 2 9 true (by rfl) (by rfl) (by rfl) (by rfl) (by (intro ax wx hk Kx hK; obtain ⟨v12, k12, h12⟩ := hk.dep 5 12 _ rfl rfl rfl; (first | (cases (h12 : v12 = _)) | (obtain ⟨rfl, h12⟩ := h12) | skip); have hj := hk.j; clear hk; have z1 : wx.cell? ⟨g, 1, none⟩ = some (.int .i64 (p : Int)) := hj.1.cell 1 _ rfl; have z0 : wx.cell? ⟨g, 0, none⟩ = some (.string s) := hj.1.cell 0 _ rfl; go_simp; refine hK _ _ ?_ (Below.refl _ _); apply Rg.mk))) ?_ rfl
  first
    | refine Rg.build_cons (m := 8) (Rg.one_no 2 9 true (by rfl) (by rfl) (by rfl) (by rfl)) ?_ rfl
    | refine Rg.build_cons (m := 8) (Rg.one_und 2 9 true (by rfl) (by rfl) (by rfl) (by rfl)) ?_ rfl
    | refine Rg.build_cons (m := 8) (r := Rg.eq (.int .i64 ((p : Int) + 1))) (Rg.one_yes 2 9 true (by rfl) (by rfl) (by rfl) (by rfl) (by (intro ax wx hk Kx hK; obtain ⟨v13, k13, h13⟩ := hk.dep 6 13 _ rfl rfl rfl; (first | (cases (h13 : v13 = _)) | (obtain ⟨rfl, h13⟩ := h13) | skip); have hj := hk.j; clear hk; have z1 : wx.cell? ⟨g, 1, none⟩ = some (.int .i64 (p : Int)) := hj.1.cell 1 _ rfl; have z0 : wx.cell? ⟨g, 0, none⟩ = some (.string s) := hj.1.cell 0 _ rfl; (go_simp; refine hK _ _ ?_ (Below.refl _ _); simp [Rg.eq, hwp])))) ?_ rfl
  first
    | refine Rg.build_cons (m := 9) (Rg.one_no 2 9 true (by rfl) (by rfl) (by rfl) (by rfl)) ?_ rfl
    | refine Rg.build_cons (m := 9) (Rg.one_und 2 9 true (by rfl) (by rfl) (by rfl) (by rfl)) ?_ rfl
    | refine Rg.build_cons (m := 9) (r := Rg.eq _) (Rg.one_yes 2 9 true (by rfl) (by rfl) (by rfl) (by rfl) (by (intro ax wx hk Kx hK; have k0 := hk.base 0 _ rfl rfl; have hj := hk.j; clear hk; have z1 : wx.cell? ⟨g, 1, none⟩ = some (.int .i64 (p : Int)) := hj.1.cell 1 _ rfl; have z0 : wx.cell? ⟨g, 0, none⟩ = some (.string s) := hj.1.cell 0 _ rfl; go_simp; refine hK _ _ ?_ (Below.refl _ _); apply Rg.mk))) ?_ rfl
  first
    | refine Rg.build_cons (m := 10) (Rg.one_no 2 9 true (by rfl) (by rfl) (by rfl) (by rfl)) ?_ rfl
    | refine Rg.build_cons (m := 10) (Rg.one_und 2 9 true (by rfl) (by rfl) (by rfl) (by rfl)) ?_ rfl
    | refine Rg.build_cons (m := 10) (r := Rg.eq _) (Rg.one_yes 2 9 true (by rfl) (by rfl) (by rfl) (by rfl) (by (intro ax wx hk Kx hK; obtain ⟨v15, k15, h15⟩ := hk.dep 8 15 _ rfl rfl rfl; (first | (cases (h15 : v15 = _)) | (obtain ⟨rfl, h15⟩ := h15) | skip); have hj := hk.j; clear hk; have z1 : wx.cell? ⟨g, 1, none⟩ = some (.int .i64 (p : Int)) := hj.1.cell 1 _ rfl; have z0 : wx.cell? ⟨g, 0, none⟩ = some (.string s) := hj.1.cell 0 _ rfl; go_simp; refine hK _ _ ?_ (Below.refl _ _); apply Rg.mk))) ?_ rfl
  first
    | refine Rg.build_cons (m := 11) (Rg.one_no 2 9 true (by rfl) (by rfl) (by rfl) (by rfl)) ?_ rfl
    | refine Rg.build_cons (m := 11) (Rg.one_und 2 9 true (by rfl) (by rfl) (by rfl) (by rfl)) ?_ rfl
    | refine Rg.build_cons (m := 11) (r := Rg.eq _) (Rg.one_yes 2 9 true (by rfl) (by rfl) (by rfl) (by rfl) (by (intro ax wx hk Kx hK; obtain ⟨v16, k16, h16⟩ := hk.dep 9 16 _ rfl rfl rfl; (first | (cases (h16 : v16 = _)) | (obtain ⟨rfl, h16⟩ := h16) | skip); have hj := hk.j; clear hk; have z1 : wx.cell? ⟨g, 1, none⟩ = some (.int .i64 (p : Int)) := hj.1.cell 1 _ rfl; have z0 : wx.cell? ⟨g, 0, none⟩ = some (.string s) := hj.1.cell 0 _ rfl; go_simp; refine hK _ _ ?_ (Below.refl _ _); apply Rg.mk))) ?_ rfl
  first
    | refine Rg.build_cons (m := 12) (Rg.one_no 2 9 true (by rfl) (by rfl) (by rfl) (by rfl)) ?_ rfl
    | refine Rg.build_cons (m := 12) (Rg.one_und 2 9 true (by rfl) (by rfl) (by rfl) (by rfl)) ?_ rfl
    | refine Rg.build_cons (m := 12) (r := Rg.eq _) (Rg.one_yes 2 9 true (by rfl) (by rfl) (by rfl) (by rfl) (by (intro ax wx hk Kx hK; obtain ⟨v17, k17, h17⟩ := hk.dep 10 17 _ rfl rfl rfl; (first | (cases (h17 : v17 = _)) | (obtain ⟨rfl, h17⟩ := h17) | skip); have hj := hk.j; clear hk; have z1 : wx.cell? ⟨g, 1, none⟩ = some (.int .i64 (p : Int)) := hj.1.cell 1 _ rfl; have z0 : wx.cell? ⟨g, 0, none⟩ = some (.string s) := hj.1.cell 0 _ rfl; go_simp; refine hK _ _ ?_ (Below.refl _ _); apply Rg.mk))) ?_ rfl
  first
    | refine Rg.build_cons (m := 13) (Rg.one_no 2 9 true (by rfl) (by rfl) (by rfl) (by rfl)) ?_ rfl
    | refine Rg.build_cons (m := 13) (Rg.one_und 2 9 true (by rfl) (by rfl) (by rfl) (by rfl)) ?_ rfl
    | refine Rg.build_cons (m := 13) (r := Rg.eq _) (Rg.one_yes 2 9 true (by rfl) (by rfl) (by rfl) (by rfl) (by (intro ax wx hk Kx hK; obtain ⟨v18, k18, h18⟩ := hk.dep 11 18 _ rfl rfl rfl; (first | (cases (h18 : v18 = _)) | (obtain ⟨rfl, h18⟩ := h18) | skip); have hj := hk.j; clear hk; have z1 : wx.cell? ⟨g, 1, none⟩ = some (.int .i64 (p : Int)) := hj.1.cell 1 _ rfl; have z0 : wx.cell? ⟨g, 0, none⟩ = some (.string s) := hj.1.cell 0 _ rfl; go_simp; refine hK _ _ ?_ (Below.refl _ _); apply Rg.mk))) ?_ rfl
  first
    | refine Rg.build_cons (m := 14) (Rg.one_no 2 9 true (by rfl) (by rfl) (by rfl) (by rfl)) ?_ rfl
    | refine Rg.build_cons (m := 14) (Rg.one_und 2 9 true (by rfl) (by rfl) (by rfl) (by rfl)) ?_ rfl
    | refine Rg.build_cons (m := 14) (r := Rg.eq (.bool true)) (Rg.one_yes 2 9 true (by rfl) (by rfl) (by rfl) (by rfl) (by (intro ax wx hk Kx hK; obtain ⟨v14, k14, h14⟩ := hk.dep 7 14 _ rfl rfl rfl; (first | (cases (h14 : v14 = _)) | (obtain ⟨rfl, h14⟩ := h14) | skip); obtain ⟨v19, k19, h19⟩ := hk.dep 12 19 _ rfl rfl rfl; (first | (cases (h19 : v19 = _)) | (obtain ⟨rfl, h19⟩ := h19) | skip); have hj := hk.j; clear hk; have z1 : wx.cell? ⟨g, 1, none⟩ = some (.int .i64 (p : Int)) := hj.1.cell 1 _ rfl; have z0 : wx.cell? ⟨g, 0, none⟩ = some (.string s) := hj.1.cell 0 _ rfl; (go_simp; refine hK _ _ ?_ (Below.refl _ _); first | (simp [Rg.eq, hnI]; done) | (simp [Rg.eq]; omega))))) ?_ rfl
  refine Rg.build_cons (m := 15) (r := Rg.eq _) (Rg.one_plain (by rfl) (by (intro ax wx hk Kx hK; obtain ⟨v9, k9, h9⟩ := hk.dep 2 9 _ rfl rfl rfl; (first | (cases (h9 : v9 = _)) | (obtain ⟨rfl, h9⟩ := h9) | skip); obtain ⟨v20, k20, h20⟩ := hk.dep 13 20 _ rfl rfl rfl; (first | (cases (h20 : v20 = _)) | (obtain ⟨rfl, h20⟩ := h20) | skip); have hj := hk.j; clear hk; have z1 : wx.cell? ⟨g, 1, none⟩ = some (.int .i64 (p : Int)) := hj.1.cell 1 _ rfl; have z0 : wx.cell? ⟨g, 0, none⟩ = some (.string s) := hj.1.cell 0 _ rfl; go_simp; refine hK _ _ ?_ (Below.refl _ _); apply Rg.mk))) ?_ rfl
  refine Rg.build_end fun wx hj => ?_
  refine Rg.fin_eq rfl ?_
  refine Rg.fin_eq rfl ?_
  refine Rg.fin_eq rfl ?_
  refine Rg.fin_eq rfl ?_
  refine Rg.fin_eq rfl ?_
  refine Rg.fin_eq rfl ?_
  refine Rg.fin_eq rfl ?_
  first | refine Rg.fin_eq rfl ?_ | refine Rg.fin_any rfl fun v14 h14 => ?_
  refine Rg.fin_eq rfl ?_
  refine Rg.fin_eq rfl ?_
  refine Rg.fin_eq rfl ?_
  refine Rg.fin_eq rfl ?_
  refine Rg.fin_eq rfl ?_
  first | refine Rg.fin_eq rfl ?_ | refine Rg.fin_any rfl fun v20 h20 => ?_
  refine Rg.fin_eq rfl ?_
  refine Rg.fin_nil ?_
  simp only [List.set_cons_zero, List.set_cons_succ]
  have HA1 := Lib.hid hj.1; have HZ1 := Lib.hid hj.2.1; have HO1 := Lib.hid hj.2.2
  clear hj
  obtain ⟨wA, hwA⟩ : ∃ wA : World, wA = wx := ⟨_, rfl⟩
  rw [← hwA] at HA1 HZ1 HO1 ⊢
  clear hwA
  go_upto_region 2 with (fail)
  have HZL := Lib.hid HZ1.out.lt
  refine RgX.start (by kernel_rfl) [(15, fun w5 w6 => ∃ gg f, w.heap.size < gg ∧ gg ≠ g ∧ w6 = putS w5 gg f)] [⟨fun w' => AtG w' g 94 (rxr s p o) ∧ AtG w' w.heap.size 38 (setC 0 0 0 0) ∧ Only (fun k => k = g) w w', none⟩] ⟨⟨fun _ _ h hb => ⟨h.1.below hb, h.2.1.below hb, h.2.2.tb hb⟩, ⟨fun _ _ _ _ => (fun w5 w6 h he => by obtain ⟨gg, f, h1, h2, rfl⟩ := he; exact ⟨putS_far h.1 (fun e => h2 e.symm) _, putS_far h.2.1 (by omega) _, h.2.2.pS _ _ (.inr (by omega))⟩), trivial⟩⟩, trivial⟩ (by kernel_rfl) (by kernel_rfl) ⟨⟨HA1.out.drew, HZ1.out.drew, HO1.out.drew⟩, trivial⟩ ?_
  show RgX.Build _ _ _ _ _ _ 0 [_, _, _, _, _, _, _, _, _, _, _, _, _, _, _, _, _] []
  refine RgX.build_cons (m := 1) (r := RgX.eq _) (RgX.one_plain (by rfl) (by (intro ax wx hk Kx hK; have k0 := hk.base 0 _ rfl rfl; have hL := hk.fact 0 0 _ rfl rfl; (try dsimp only at hL); clear hk; have z1 : wx.cell? ⟨g, 1, none⟩ = some (.int .i64 (p : Int)) := hL.1.cell 1 _ rfl; have z0 : wx.cell? ⟨g, 0, none⟩ = some (.string s) := hL.1.cell 0 _ rfl; go_simp; refine hK _ _ (fun h => by cases h) (fun _ _ => ?_) (Below.refl _ _); apply RgX.mk))) ?_ rfl RgX.keep_eq (fun _ h => by cases h)
  refine RgX.build_cons (m := 2) (r := RgX.eq _) (RgX.one_plain (by rfl) (by (intro ax wx hk Kx hK; obtain ⟨v23, k23, h23⟩ := hk.dep 0 0 23 _ rfl rfl rfl; (first | (replace h23 := h23 9 undef rfl rfl; first | (cases (h23 : v23 = _)) | (obtain ⟨rfl, h23⟩ := h23) | skip) | skip); have hL := hk.fact 0 0 _ rfl rfl; (try dsimp only at hL); clear hk; have z1 : wx.cell? ⟨g, 1, none⟩ = some (.int .i64 (p : Int)) := hL.1.cell 1 _ rfl; have z0 : wx.cell? ⟨g, 0, none⟩ = some (.string s) := hL.1.cell 0 _ rfl; go_simp; refine hK _ _ (fun h => by cases h) (fun _ _ => ?_) (Below.refl _ _); apply RgX.mk))) ?_ rfl RgX.keep_eq (fun _ h => by cases h)
  refine RgX.build_cons (m := 3) (r := RgX.eq _) (RgX.one_plain (by rfl) (by (intro ax wx hk Kx hK; obtain ⟨v24, k24, h24⟩ := hk.dep 0 1 24 _ rfl rfl rfl; (first | (replace h24 := h24 9 undef rfl rfl; first | (cases (h24 : v24 = _)) | (obtain ⟨rfl, h24⟩ := h24) | skip) | skip); have hL := hk.fact 0 0 _ rfl rfl; (try dsimp only at hL); clear hk; have z1 : wx.cell? ⟨g, 1, none⟩ = some (.int .i64 (p : Int)) := hL.1.cell 1 _ rfl; have z0 : wx.cell? ⟨g, 0, none⟩ = some (.string s) := hL.1.cell 0 _ rfl; go_simp; refine hK _ _ (fun h => by cases h) (fun _ _ => ?_) (Below.refl _ _); apply RgX.mk))) ?_ rfl RgX.keep_eq (fun _ h => by cases h)
  refine RgX.build_cons (m := 4) (r := RgX.eq _) (RgX.one_plain (by rfl) (by (intro ax wx hk Kx hK; obtain ⟨v25, k25, h25⟩ := hk.dep 0 2 25 _ rfl rfl rfl; (first | (replace h25 := h25 9 undef rfl rfl; first | (cases (h25 : v25 = _)) | (obtain ⟨rfl, h25⟩ := h25) | skip) | skip); have hL := hk.fact 0 0 _ rfl rfl; (try dsimp only at hL); clear hk; have z1 : wx.cell? ⟨g, 1, none⟩ = some (.int .i64 (p : Int)) := hL.1.cell 1 _ rfl; have z0 : wx.cell? ⟨g, 0, none⟩ = some (.string s) := hL.1.cell 0 _ rfl; go_simp; refine hK _ _ (fun h => by cases h) (fun _ _ => ?_) (Below.refl _ _); apply RgX.mk))) ?_ rfl RgX.keep_eq (fun _ h => by cases h)
  refine RgX.build_cons (m := 5) (r := RgX.eq _) (RgX.one_plain (by rfl) (by (intro ax wx hk Kx hK; have k0 := hk.base 0 _ rfl rfl; have hL := hk.fact 0 0 _ rfl rfl; (try dsimp only at hL); clear hk; have z1 : wx.cell? ⟨g, 1, none⟩ = some (.int .i64 (p : Int)) := hL.1.cell 1 _ rfl; have z0 : wx.cell? ⟨g, 0, none⟩ = some (.string s) := hL.1.cell 0 _ rfl; go_simp; refine hK _ _ (fun h => by cases h) (fun _ _ => ?_) (Below.refl _ _); apply RgX.mk))) ?_ rfl RgX.keep_eq (fun _ h => by cases h)
  refine RgX.build_cons (m := 6) (r := RgX.eq _) (RgX.one_plain (by rfl) (by (intro ax wx hk Kx hK; obtain ⟨v27, k27, h27⟩ := hk.dep 0 4 27 _ rfl rfl rfl; (first | (replace h27 := h27 9 undef rfl rfl; first | (cases (h27 : v27 = _)) | (obtain ⟨rfl, h27⟩ := h27) | skip) | skip); have hL := hk.fact 0 0 _ rfl rfl; (try dsimp only at hL); clear hk; have z1 : wx.cell? ⟨g, 1, none⟩ = some (.int .i64 (p : Int)) := hL.1.cell 1 _ rfl; have z0 : wx.cell? ⟨g, 0, none⟩ = some (.string s) := hL.1.cell 0 _ rfl; go_simp; refine hK _ _ (fun h => by cases h) (fun _ _ => ?_) (Below.refl _ _); apply RgX.mk))) ?_ rfl RgX.keep_eq (fun _ h => by cases h)
  refine RgX.build_cons (m := 7) (r := RgX.eq _) (RgX.one_plain (by rfl) (by (intro ax wx hk Kx hK; obtain ⟨v28, k28, h28⟩ := hk.dep 0 5 28 _ rfl rfl rfl; (first | (replace h28 := h28 9 undef rfl rfl; first | (cases (h28 : v28 = _)) | (obtain ⟨rfl, h28⟩ := h28) | skip) | skip); have hL := hk.fact 0 0 _ rfl rfl; (try dsimp only at hL); clear hk; have z1 : wx.cell? ⟨g, 1, none⟩ = some (.int .i64 (p : Int)) := hL.1.cell 1 _ rfl; have z0 : wx.cell? ⟨g, 0, none⟩ = some (.string s) := hL.1.cell 0 _ rfl; go_simp; refine hK _ _ (fun h => by cases h) (fun _ _ => ?_) (Below.refl _ _); apply RgX.mk))) ?_ rfl RgX.keep_eq (fun _ h => by cases h)
  refine RgX.build_cons (m := 8) (r := RgX.eq _) (RgX.one_plain (by rfl) (by (intro ax wx hk Kx hK; obtain ⟨v29, k29, h29⟩ := hk.dep 0 6 29 _ rfl rfl rfl; (first | (replace h29 := h29 9 undef rfl rfl; first | (cases (h29 : v29 = _)) | (obtain ⟨rfl, h29⟩ := h29) | skip) | skip); have hL := hk.fact 0 0 _ rfl rfl; (try dsimp only at hL); clear hk; have z1 : wx.cell? ⟨g, 1, none⟩ = some (.int .i64 (p : Int)) := hL.1.cell 1 _ rfl; have z0 : wx.cell? ⟨g, 0, none⟩ = some (.string s) := hL.1.cell 0 _ rfl; go_simp; refine hK _ _ (fun h => by cases h) (fun _ _ => ?_) (Below.refl _ _); apply RgX.mk))) ?_ rfl RgX.keep_eq (fun _ h => by cases h)
  refine RgX.build_cons (m := 9) (r := RgX.eq (.int .i64 ((p : Int) + 1))) (RgX.one_plain (by rfl) (by (intro ax wx hk Kx hK; obtain ⟨v30, k30, h30⟩ := hk.dep 0 7 30 _ rfl rfl rfl; (first | (replace h30 := h30 9 undef rfl rfl; first | (cases (h30 : v30 = _)) | (obtain ⟨rfl, h30⟩ := h30) | skip) | skip); have hL := hk.fact 0 0 _ rfl rfl; (try dsimp only at hL); clear hk; have z1 : wx.cell? ⟨g, 1, none⟩ = some (.int .i64 (p : Int)) := hL.1.cell 1 _ rfl; have z0 : wx.cell? ⟨g, 0, none⟩ = some (.string s) := hL.1.cell 0 _ rfl; (go_simp; refine hK _ _ (fun h => by cases h) (fun _ _ => ?_) (Below.refl _ _); simp [RgX.eq, hwp])))) ?_ rfl RgX.keep_eq (fun _ h => by cases h)
  refine RgX.build_cons (m := 10) (r := RgX.eq (.int .u8 (c1))) (RgX.one_plain (by rfl) (by (intro ax wx hk Kx hK; obtain ⟨v26, k26, h26⟩ := hk.dep 0 3 26 _ rfl rfl rfl; (first | (replace h26 := h26 9 undef rfl rfl; first | (cases (h26 : v26 = _)) | (obtain ⟨rfl, h26⟩ := h26) | skip) | skip); obtain ⟨v31, k31, h31⟩ := hk.dep 0 8 31 _ rfl rfl rfl; (first | (replace h31 := h31 9 undef rfl rfl; first | (cases (h31 : v31 = _)) | (obtain ⟨rfl, h31⟩ := h31) | skip) | skip); have hL := hk.fact 0 0 _ rfl rfl; (try dsimp only at hL); clear hk; have z1 : wx.cell? ⟨g, 1, none⟩ = some (.int .i64 (p : Int)) := hL.1.cell 1 _ rfl; have z0 : wx.cell? ⟨g, 0, none⟩ = some (.string s) := hL.1.cell 0 _ rfl; (go_simp; refine hK _ _ (fun h => by cases h) (fun _ _ => ?_) (Below.refl _ _); simp [RgX.eq, hch])))) ?_ rfl RgX.keep_eq (fun _ h => by cases h)
  refine RgX.build_cons (m := 11) (r := RgX.eq _) (RgX.one_plain (by rfl) (by (intro ax wx hk Kx hK; obtain ⟨v32, k32, h32⟩ := hk.dep 0 9 32 _ rfl rfl rfl; (first | (replace h32 := h32 9 undef rfl rfl; first | (cases (h32 : v32 = _)) | (obtain ⟨rfl, h32⟩ := h32) | skip) | skip); have hL := hk.fact 0 0 _ rfl rfl; (try dsimp only at hL); clear hk; have z1 : wx.cell? ⟨g, 1, none⟩ = some (.int .i64 (p : Int)) := hL.1.cell 1 _ rfl; have z0 : wx.cell? ⟨g, 0, none⟩ = some (.string s) := hL.1.cell 0 _ rfl; go_simp; refine (HWD.out _).mono ?_; rintro e w' ⟨rfl, hb⟩; refine hK _ _ (fun h => by cases h) (fun _ _ => ?_) hb; apply RgX.mk))) ?_ rfl RgX.keep_eq (fun _ h => by cases h)
  refine RgX.build_cons (m := 12) (r := RgX.eq _) (RgX.one_plain (by rfl) (by (intro ax wx hk Kx hK; obtain ⟨v33, k33, h33⟩ := hk.dep 0 10 33 _ rfl rfl rfl; (first | (replace h33 := h33 9 undef rfl rfl; first | (cases (h33 : v33 = _)) | (obtain ⟨rfl, h33⟩ := h33) | skip) | skip); have hL := hk.fact 0 0 _ rfl rfl; (try dsimp only at hL); clear hk; have z1 : wx.cell? ⟨g, 1, none⟩ = some (.int .i64 (p : Int)) := hL.1.cell 1 _ rfl; have z0 : wx.cell? ⟨g, 0, none⟩ = some (.string s) := hL.1.cell 0 _ rfl; go_simp; refine hK _ _ (fun h => by cases h) (fun _ _ => ?_) (Below.refl _ _); apply RgX.mk))) ?_ rfl RgX.keep_eq (fun _ h => by cases h)
  refine RgX.build_cons (m := 13) (r := RgX.eq _) (RgX.one_plain (by rfl) (by (intro ax wx hk Kx hK; obtain ⟨v22, k22, h22⟩ := hk.dep 0 11 22 _ rfl rfl rfl; (first | (replace h22 := h22 9 undef rfl rfl; first | (cases (h22 : v22 = _)) | (obtain ⟨rfl, h22⟩ := h22) | skip) | skip); have hL := hk.fact 0 0 _ rfl rfl; (try dsimp only at hL); clear hk; have z1 : wx.cell? ⟨g, 1, none⟩ = some (.int .i64 (p : Int)) := hL.1.cell 1 _ rfl; have z0 : wx.cell? ⟨g, 0, none⟩ = some (.string s) := hL.1.cell 0 _ rfl; go_simp; refine hK _ _ (fun h => by cases h) (fun _ _ => ?_) (Below.refl _ _); apply RgX.mk))) ?_ rfl RgX.keep_eq (fun _ h => by cases h)
  refine RgX.build_cons (m := 14) (r := RgX.eq _) (RgX.one_plain (by rfl) (by (intro ax wx hk Kx hK; obtain ⟨v22, k22, h22⟩ := hk.dep 0 11 22 _ rfl rfl rfl; (first | (replace h22 := h22 9 undef rfl rfl; first | (cases (h22 : v22 = _)) | (obtain ⟨rfl, h22⟩ := h22) | skip) | skip); have hL := hk.fact 0 0 _ rfl rfl; (try dsimp only at hL); clear hk; have z1 : wx.cell? ⟨g, 1, none⟩ = some (.int .i64 (p : Int)) := hL.1.cell 1 _ rfl; have z0 : wx.cell? ⟨g, 0, none⟩ = some (.string s) := hL.1.cell 0 _ rfl; go_simp; refine hK _ _ (fun h => by cases h) (fun _ _ => ?_) (Below.refl _ _); apply RgX.mk))) ?_ rfl RgX.keep_eq (fun _ h => by cases h)
  refine RgX.build_cons (m := 15) (r := (⟨fun v _ w5 => ∃ gg, v = .pointer (some ⟨gg, 0, none⟩) ∧ w.heap.size < gg ∧ gg ≠ g ∧ AtG w5 gg 38 (setC 0 0 0 0), some 15, none⟩ : RgX.Rl)) (RgX.one_plain (by rfl) (by (intro ax wx hk Kx hK; have hL := hk.fact 0 0 _ rfl rfl; (try dsimp only at hL); clear hk; have z1 : wx.cell? ⟨g, 1, none⟩ = some (.int .i64 (p : Int)) := hL.1.cell 1 _ rfl; have z0 : wx.cell? ⟨g, 0, none⟩ = some (.string s) := hL.1.cell 0 _ rfl; (go_simp; exact hK _ _ (fun h => by cases h) (fun u _ => ⟨wx.heap.size, rfl, hL.2.1.lt, by have := hL.1.lt; omega, AtG.new _ _ _⟩) ((Below.refl _ _).alloc (Nat.le_refl _) _))))) ?_ rfl (RgX.keep_r (fun _ _ _ _ h hb => by obtain ⟨gg, h1, h2, h3, h4⟩ := h; exact ⟨gg, h1, h2, h3, h4.below hb⟩) (fun _ _ => ⟨fun _ h _ _ => absurd rfl h, trivial⟩)) (fun _ h => by cases h)
  refine RgX.build_cons (m := 16) (r := (⟨fun _ u w5 => ∃ gg, u = .pointer (some ⟨gg, 0, none⟩) ∧ w.heap.size < gg ∧ gg ≠ g ∧ AtG w5 gg 38 (cellsOf emp), none, some 14⟩ : RgX.Rl)) (RgX.one_plain (by rfl) (by (intro ax wx hk Kx hK; obtain ⟨v3, k3, h3⟩ := hk.dep 0 14 3 _ rfl rfl rfl; (first | (replace h3 := h3 9 undef rfl rfl; first | (cases (h3 : v3 = _)) | (obtain ⟨rfl, h3⟩ := h3) | skip) | skip); obtain ⟨v34, k34, h34⟩ := hk.dep 0 12 34 _ rfl rfl rfl; (first | (replace h34 := h34 9 undef rfl rfl; first | (cases (h34 : v34 = _)) | (obtain ⟨rfl, h34⟩ := h34) | skip) | skip); have hL := hk.fact 0 0 _ rfl rfl; (try dsimp only at hL); clear hk; have z1 : wx.cell? ⟨g, 1, none⟩ = some (.int .i64 (p : Int)) := hL.1.cell 1 _ rfl; have z0 : wx.cell? ⟨g, 0, none⟩ = some (.string s) := hL.1.cell 0 _ rfl; (obtain ⟨gg, rfl, hg0, hg1, hg2⟩ := h3; have d0 := hg2.cell 0 _ rfl; have d1 := hg2.cell 1 _ rfl; have d2 := hg2.cell 2 _ rfl; have d3 := hg2.cell 3 _ rfl; have f0 := hg2.frozen 0; have f1 := hg2.frozen 1; have f2 := hg2.frozen 2; have f3 := hg2.frozen 3; unfold setOf at k34; go_simp; refine hK undef (putS wx gg emp) (fun _ => rfl) (fun u hu => ?_) ⟨gg, emp, hg0, hg1, rfl⟩; obtain ⟨t, ht, hu⟩ := hu; cases ht; rw [k3] at hu; cases hu; exact ⟨gg, rfl, hg0, hg1, putS_at hg2 emp⟩)))) ?_ rfl (RgX.keep_r (fun _ _ _ _ h hb => by obtain ⟨gg, h1, h2, h3, h4⟩ := h; exact ⟨gg, h1, h2, h3, h4.below hb⟩) (fun _ _ => ⟨fun h _ _ _ => absurd rfl h, trivial⟩)) (fun j h => by cases h; exact ⟨0, rfl⟩)
  refine RgX.build_cons (m := 17) (r := RgX.eq _) (RgX.one_plain (by rfl) (by (intro ax wx hk Kx hK; obtain ⟨v35, k35, h35⟩ := hk.dep 0 13 35 _ rfl rfl rfl; (first | (replace h35 := h35 9 undef rfl rfl; first | (cases (h35 : v35 = _)) | (obtain ⟨rfl, h35⟩ := h35) | skip) | skip); have hL := hk.fact 0 0 _ rfl rfl; (try dsimp only at hL); clear hk; have z1 : wx.cell? ⟨g, 1, none⟩ = some (.int .i64 (p : Int)) := hL.1.cell 1 _ rfl; have z0 : wx.cell? ⟨g, 0, none⟩ = some (.string s) := hL.1.cell 0 _ rfl; go_simp; refine hK _ _ (fun h => by cases h) (fun _ _ => ?_) (Below.refl _ _); apply RgX.mk))) ?_ rfl RgX.keep_eq (fun _ h => by cases h)
  refine RgX.build_end fun wx hj => ?_
  have hL := hj 0 _ rfl rfl
  clear hj
  refine RgX.fin_eq rfl ?_
  refine RgX.fin_eq rfl ?_
  refine RgX.fin_eq rfl ?_
  refine RgX.fin_eq rfl ?_
  refine RgX.fin_eq rfl ?_
  refine RgX.fin_eq rfl ?_
  refine RgX.fin_eq rfl ?_
  refine RgX.fin_eq rfl ?_
  refine RgX.fin_eq rfl ?_
  refine RgX.fin_eq rfl ?_
  refine RgX.fin_eq rfl ?_
  refine RgX.fin_eq rfl ?_
  refine RgX.fin_eq rfl ?_
  refine RgX.fin_eq rfl ?_
  first | refine RgX.fin_eq rfl ?_ | refine RgX.fin_any rfl fun v3 h3 => ?_
  refine RgX.fin_none rfl fun s15 => ?_
  refine RgX.fin_eq rfl ?_
  refine RgX.fin_nil ?_
  simp only [List.set_cons_zero, List.set_cons_succ]
  clear h3
  obtain ⟨gg, rfl, hg0, hg1, hg2⟩ := s15 rfl v3 ⟨3, by kernel_rfl, by kernel_rfl⟩
  have HA2 := Lib.hid hL.1; have HZ2 := Lib.hid hL.2.1; have HO2 := Lib.hid hL.2.2
  clear hL s15
  obtain ⟨wB, hwB⟩ : ∃ wB : World, wB = wx := ⟨_, rfl⟩
  rw [← hwB] at HA2 HZ2 HO2 hg2 ⊢
  clear hwB hg2 hg0 hg1 hch hnI hwp hn
  have HM1 := Lib.hid (memX g s p o wB (HA2.out) HPS.out HS.out)
  go_wp2_with fail
  refine (HM1.out).mono ?_
  cases hmf : memberF s p with
  | no c x =>
    rw [hmf] at HX
    have HR := Lib.hid (HX.out.trans (show itemE s (.no c x) = .no c x from rfl))
    rintro e9 w2 ⟨ho, b, rfl, hx⟩
    refine ⟨rfl, ?_⟩
    rw [HR.out]
    exact ⟨HO2.out.tr ho, b, rfl, hx⟩
  | ok lo q =>
    rw [hmf] at HX
    have hin := memberF_in s p HPS.out
    rw [hmf] at hin
    have hlo : lo < 256 := hin.2 lo q rfl
    have hq : p + 1 ≤ q ∧ q ≤ s.size := hin.1
    rintro e9 w2 ⟨ho, rfl, ha⟩
    have HO2 := Lib.hid (HO2.out.tr ho); have HA2 := Lib.hid ha; have HZ2 := Lib.hid (HZ2.out.only ho HG.out)
    have HI := isX g s q o 45 w2 ha hq.2 (by decide)
    have hloI : (lo : Int) < 256 := by omega
    have HLO := Lib.hid hlo; have HQ := Lib.hid hq
    clear ho ha hin hmf HM1 hlo hq
    by_cases h45 : ch s q = 45
    · have HX1 := Lib.hid (HX.out.trans (show itemE s (.ok lo q) = (match memberF s (q + 1) with | .no c x => .no c x | .ok hi r => if hi < lo then .no 2 (r - 1) else .ok (spanF lo (hi + 1)) r) from if_pos h45))
      have hqlt : q < s.size := ch_ge (by omega)
      rw [decide_eq_true h45] at HI
      have HIH := Lib.hid HI
      have HQL := Lib.hid hqlt
      have hqI : (q : Int) < 1000 := by have := HS.out; omega
      clear HX HI h45 hqlt
      go_wp2_with fail
      refine (HIH.out).mono ?_
      rintro e9 w3 ⟨rfl, hb⟩
      have HO3 := Lib.hid ((HO2.out.tb hb).st g 1 (.int .i64 ((q : Int) + 1)) (.inl rfl)); have HA3 := Lib.hid (HA2.out.below hb)
      have HZ3 := Lib.hid ((HZ2.out.below hb).far (p := ⟨g, 1, none⟩) (fun e => HG.out e) (.int .i64 ((q : Int) + 1)))
      have z1 : w3.cell? ⟨g, 1, none⟩ = some (.int .i64 (q : Int)) := HA3.out.cell 1 _ rfl
      have f1 := HA3.out.frozen 1
      have HA4 : Hid (AtG (w3.setCell ⟨g, 1, none⟩ (.int .i64 ((q : Int) + 1))) g 94 (rxr s ((q + 1 : Nat) : Int) o)) := Lib.hid (by
        rw [show ((q + 1 : Nat) : Int) = (q : Int) + 1 from by omega]; exact HA3.out.set 1 _)
      have HM2 := Lib.hid (memX g s (q + 1) o _ HA4.out HQL.out HS.out)
      clear hb HIH
      go_wp2_with fail
      refine (HM2.out).mono ?_
      cases hmf : memberF s (q + 1) with
      | no c x =>
        rw [hmf] at HX1
        dsimp only at HX1
        rintro e9 w4 ⟨ho, b, rfl, hx⟩
        refine ⟨rfl, ?_⟩
        rw [HX1.out]
        exact ⟨HO3.out.tr ho, b, rfl, hx⟩
      | ok hi r =>
        rw [hmf] at HX1
        dsimp only at HX1
        have hin := memberF_in s (q + 1) HQL.out
        rw [hmf] at hin
        have hhi : hi < 256 := hin.2 hi r rfl
        have hr : q + 1 + 1 ≤ r ∧ r ≤ s.size := hin.1
        rintro e9 w4 ⟨ho, rfl, ha⟩
        have HO4 := Lib.hid (HO3.out.tr ho); have HA5 := Lib.hid ha; have HZ4 := Lib.hid (HZ3.out.only ho HG.out)
        have hhiI : (hi : Int) < 256 := by omega
        clear ho ha hin hmf HM2 z1 f1 HA3 HA4
        by_cases hlt : hi < lo
        · have HR := Lib.hid (HX1.out.trans (if_pos hlt))
          have hltI : (hi : Int) < (lo : Int) := by omega
          obtain ⟨rp, hrp⟩ : ∃ rp, r = rp + 1 := ⟨r - 1, by omega⟩
          subst hrp
          rw [show rp + 1 - 1 = rp from rfl] at HR
          have z1 : w4.cell? ⟨g, 1, none⟩ = some (.int .i64 ((rp + 1 : Nat) : Int)) := HA5.out.cell 1 _ rfl
          rw [show ((rp + 1 : Nat) : Int) = (rp : Int) + 1 from by omega] at z1
          have hrI : (rp : Int) < 1000 := by have := HS.out; omega
          clear HX1 hlt hr hhi
          go_wp2_with fail
          refine (failX g rp 2 _).mono ?_
          rintro e9 w5 ⟨hb2, b, rfl, hx⟩
          refine ⟨rfl, ?_⟩
          rw [HR.out]
          exact ⟨HO4.out.tb hb2, b, rfl, hx⟩
        · have HR := Lib.hid (HX1.out.trans (if_neg hlt))
          have hltI : ¬ (hi : Int) < (lo : Int) := by omega
          have HRG := Lib.hid (rangeP lo hi w4 HLO.out hhi)
          clear HX1 hlt hr hhi
          go_wp2_with fail
          refine (HRG.out).mono ?_
          rintro e9 w5 ⟨rfl, hb⟩
          have HO5 := Lib.hid (HO4.out.tb hb); have HA6 := Lib.hid (HA5.out.below hb); have HZ5 := Lib.hid (HZ4.out.below hb)
          clear hb HRG HA5 HZ4
          have d0 := (HZ5.out).cell 0 _ rfl; have d1 := (HZ5.out).cell 1 _ rfl; have d2 := (HZ5.out).cell 2 _ rfl; have d3 := (HZ5.out).cell 3 _ rfl
          have f0 := (HZ5.out).frozen 0; have f1 := (HZ5.out).frozen 1; have f2 := (HZ5.out).frozen 2; have f3 := (HZ5.out).frozen 3
          unfold setOf
          go_wp2_with fail
          refine bodyPost_ret (v := setOf (spanF lo (hi + 1))) (by simp [results, Tryz.results131, go_sem, d0, d1, d2, d3]; try rfl) rfl ?_
          rw [HR.out]
          exact ⟨HO5.out.pS _ _ (.inr (Nat.le_refl _)), rfl, putS_far HA6.out (fun e => HG.out e.symm) _⟩
    · have HR := Lib.hid (HX.out.trans (show itemE s (.ok lo q) = .ok (spanF lo (lo + 1)) q from if_neg h45))
      rw [decide_eq_false h45] at HI
      have HIH := Lib.hid HI
      clear HX HI h45
      go_wp2_with fail
      refine (HIH.out).mono ?_
      rintro e9 w3 ⟨rfl, hb⟩
      have HO3 := Lib.hid (HO2.out.tb hb); have HA3 := Lib.hid (HA2.out.below hb); have HZ3 := Lib.hid (HZ2.out.below hb)
      have HOF := Lib.hid (ofP _ w3.heap.size (lo : Int) (by omega) hloI (AtG.new w3 5 #[.int .u8 (lo : Int)]))
      rw [Int.toNat_natCast, set_one] at HOF
      clear hb HIH
      go_wp2_with fail
      refine (HOF.out).mono ?_
      rintro e9 w5 ⟨rfl, hb⟩
      have HO5 := Lib.hid ((HO3.out.al (.cells #[.int .u8 (lo : Int)] 5)).tb hb); have HA6 := Lib.hid ((HA3.out.alloc _).below hb); have HZ5 := Lib.hid ((HZ3.out.alloc _).below hb)
      clear hb HOF HA3 HZ3
      have d0 := (HZ5.out).cell 0 _ rfl; have d1 := (HZ5.out).cell 1 _ rfl; have d2 := (HZ5.out).cell 2 _ rfl; have d3 := (HZ5.out).cell 3 _ rfl
      have f0 := (HZ5.out).frozen 0; have f1 := (HZ5.out).frozen 1; have f2 := (HZ5.out).frozen 2; have f3 := (HZ5.out).frozen 3
      unfold setOf
      go_wp2_with fail
      refine bodyPost_ret (v := setOf (spanF lo (lo + 1))) (by simp [results, Tryz.results131, go_sem, d0, d1, d2, d3]; try rfl) rfl ?_
      rw [HR.out]
      exact ⟨HO5.out.pS _ _ (.inr (Nat.le_refl _)), rfl, putS_far HA6.out (fun e => HG.out e.symm) _⟩
theorem itemX (g : Nat) (s : ByteArray) (p o : Nat) (w : World) (h : AtG w g 94 (rxr s p o)) (hp : p ≤ s.size) (hs : s.size ≤ 900) :
    Calls Tryz.prog 131 #[.pointer (some ⟨g, 0, none⟩)] w (RxP g s o w (itemF s p) (fun f => setOf f)) := by
  by_cases h92 : ch s p = 92
  · by_cases hn : p + 1 < s.size
    · cases hwd : wideF (ch s (p + 1)) with
      | some F => exact itemX_some g s p o w h hp hs h92 hn F hwd
      | none => exact itemX_none g s p o w h hp hs h92 hn hwd
    · exact itemX_end g s p o w h hp hs h92 hn
  · exact itemX_no g s p o w h hp hs h92
end Go.Proofs.YtgjcibhhffkemaaGreatDoor
/- The program's reader of patterns: class. -/
set_option linter.unusedVariables false
set_option linter.unusedSimpArgs false
namespace Go.Proofs.YtgjcibhhffkemaaGreatDoor
open Go.RowKit Bt
def leftX (s : ByteArray) (g : Nat) (w : World) : Nat :=
  match w.cell? ⟨g, 1, none⟩ with
  | some (.int _ a) => s.size + 2 - a.toNat
  | _ => 0
theorem leftX_ok {s : ByteArray} {g p : Nat} {o : Int} {w : World} (h : AtG w g 94 (rxr s p o)) : leftX s g w = s.size + 2 - p := by
  have h1 : w.cell? ⟨g, 1, none⟩ = some (.int .i64 (p : Int)) := h.cell 1 _ rfl
  unfold leftX; rw [h1]; simp
theorem any_step {P : Program} {ops : Array Oper} {Q : Exit → Act → World → Prop} {fuel : Nat} {listed : Array Bool} {a : Act} {w : World} (l : List Nat) (hr : Region.ready .any ops listed = l) (hne : l ≠ [])
    (h : ∀ i ∈ l, ∃ o, ops[i]? = some o ∧ o.guard = none ∧ o.wp P a w (wpAny P .any ops Q fuel (listed.setIfInBounds i true)) Q) : wpAny P .any ops Q (fuel + 1) listed a w := by
  refine ⟨fun h0 => absurd (hr.symm.trans h0) hne, fun i hi => ?_⟩
  rw [hr] at hi
  obtain ⟨o, ho, hg, hw⟩ := h i hi
  unfold wpOp
  rw [ho]
  dsimp only
  rw [if_pos (by simp [Region.wanted, hg])]
  exact .inl hw
set_option maxRecDepth 100000 in
set_option maxHeartbeats 3200000 in
theorem classX_no (g : Nat) (s : ByteArray) (p0 o : Nat) (w : World) (h : AtG w g 94 (rxr s p0 o)) (hp : p0 ≤ s.size) (hs : s.size ≤ 900) (h94 : ¬ ch s p0 = 94) :
    Calls Tryz.prog 120 #[.pointer (some ⟨g, 0, none⟩)] w (RxP g s o w (classF s p0) (fun f => setOf f)) := by
  have HS := Lib.hid hs; have HP := Lib.hid hp
  have HG := Lib.hid (show ¬ w.heap.size = g by have := h.lt; omega)
  have HA0 := Lib.hid (h.alloc (.cells (setC 0 0 0 0) 38))
  have HZ0 := Lib.hid (AtG.new w 38 (setC 0 0 0 0))
  have HO0 := Lib.hid ((Only.refl (S := fun k => k = g) w).al (.cells (setC 0 0 0 0) 38))
  have HX := Lib.hid (show classF s p0 = clsE s false (itemF s p0) from if_neg h94)
  have HIS := isX g s p0 o 94 _ HA0.out hp (by decide)
  rw [decide_eq_false h94] at HIS
  have HISH := Lib.hid HIS
  generalize classF s p0 = R at *
  clear h94 h hp HIS
  go_enter Tryz.func120, Tryz.ntmps120
  go_wp2_with fail
  refine (HISH.out).mono ?_
  rintro e9 w1 ⟨rfl, hb⟩
  have HA1 := Lib.hid (HA0.out.below hb); have HZ1 := Lib.hid (HZ0.out.below hb); have HO1 := Lib.hid (HO0.out.tb hb)
  clear hb HISH HA0 HZ0 HO0
  have HI0 := Lib.hid (itemX g s p0 o w1 HA1.out HP.out HS.out)
  go_wp2_with fail
  refine (HI0.out).mono ?_
  cases hif : itemF s p0 with
  | no c x =>
    rw [hif] at HX
    rintro e9 w2 ⟨ho, b, rfl, hx⟩
    refine ⟨rfl, ?_⟩
    rw [HX.out]
    exact ⟨HO1.out.tr ho, b, rfl, hx⟩
  | ok F0 q0 =>
    rw [hif] at HX
    have hin := itemF_in s p0 HP.out
    rw [hif] at hin
    have hq0 : p0 + 1 ≤ q0 ∧ q0 ≤ s.size := hin
    rintro e9 w2 ⟨ho, rfl, ha⟩
    have HO2 := Lib.hid (HO1.out.tr ho); have HA2 := Lib.hid ha; have HZ2 := Lib.hid (HZ1.out.only ho HG.out)
    have HQ0 := Lib.hid hq0
    clear ho ha hin hif hq0 HI0
    have HGS : Hid (w.heap.size ≠ w2.heap.size ∧ w2.heap.size ≠ g ∧ w.heap.size ≤ w2.heap.size ∧ g ≠ w2.heap.size) := Lib.hid (by
      have h1 := HZ2.out.lt
      have h2 := HA2.out.lt
      omega)
    unfold setOf
    go_upto_region 5 with (fail)
    obtain ⟨WL, hWL⟩ : ∃ WL : World, WL = w2.alloc (.cells (cellsOf F0) 38) := ⟨_, rfl⟩
    have hWL' : w2.alloc (.cells #[.int .u64 ((wd F0 0 : Nat) : Int), .int .u64 ((wd F0 1 : Nat) : Int), .int .u64 ((wd F0 2 : Nat) : Int), .int .u64 ((wd F0 3 : Nat) : Int)] 38) = WL := hWL.symm
    have HSL : Hid (AtG WL w2.heap.size 38 (cellsOf F0)) := Lib.hid (by rw [hWL]; exact AtG.new _ _ _)
    have HAL : Hid (AtG WL g 94 (rxr s (q0 : Int) (o : Int))) := Lib.hid (by rw [hWL]; exact HA2.out.alloc _)
    have HZL : Hid (AtG WL w.heap.size 38 (setC 0 0 0 0)) := Lib.hid (by rw [hWL]; exact HZ2.out.alloc _)
    have HOL : Hid (Only (fun k => k = g) w WL) := Lib.hid (by rw [hWL]; exact HO2.out.al _)
    rw [hWL']
    clear hWL hWL' HO2 HA2 HZ2
    go_loopw [] (fun wr => ∃ F : Nat → Bool, AtG wr w2.heap.size 38 (cellsOf F) ∧ AtG wr w.heap.size 38 (setC 0 0 0 0) ∧ Only (fun k => k = g) w wr ∧ ∃ q k : Nat, AtG wr g 94 (rxr s (q : Int) (o : Int)) ∧ q ≤ s.size ∧ s.size - q < k ∧ R = (clsF s k F q).map (negF false)) (fun wr => leftX s g wr)
    case atStart => exact ⟨F0, HSL.out, HZL.out, HOL.out, q0, s.size + 1, HAL.out, HQ0.out.2, by omega, by rw [HX.out]; rfl⟩
    case round =>
      obtain ⟨F, hs9, hz9, ho9, q, k, ha9, hq9, hk9, hx9⟩ := hrel
      have HS9 := Lib.hid hs9; have HZ9 := Lib.hid hz9; have HO9 := Lib.hid ho9; have HA9 := Lib.hid ha9
      have HQ := Lib.hid hq9; have HK := Lib.hid hk9; have HX9 := Lib.hid hx9
      have HIS := isX g s q o 93 wr ha9 hq9 (by decide)
      clear hs9 hz9 ho9 ha9 hk9 hx9 HSL HAL HZL HOL HQ0
      obtain ⟨k', rfl⟩ : ∃ k', k = k' + 1 := ⟨k - 1, by have := HK.out; omega⟩
      have hcf : clsF s (k' + 1) F q = if ch s q = 93 then .ok F (q + 1) else match itemF s q with | .ok g q => clsF s k' (fun y => F y || g y) q | .no c x => .no c x := rfl
      by_cases h93 : ch s q = 93
      · rw [if_pos h93] at hcf
        have HR : Hid (R = .ok (negF false F) (q + 1)) := Lib.hid (by rw [HX9.out, hcf]; rfl)
        rw [decide_eq_true h93] at HIS
        have HIH := Lib.hid HIS
        have hqI : (q : Int) < 1000 := by have := HS.out; omega
        clear hcf h93 HIS hq9
        go_wp2_with fail
        refine (HIH.out).mono ?_
        rintro e9 w3 ⟨rfl, hb⟩
        have HA3 := Lib.hid (HA9.out.below hb); have HZ3 := Lib.hid ((HZ9.out.below hb).far (p := ⟨g, 1, none⟩) (fun e => HG.out e) (.int .i64 ((q : Int) + 1))); have HS3 := Lib.hid ((HS9.out.below hb).far (p := ⟨g, 1, none⟩) (fun e => HGS.out.2.1 e) (.int .i64 ((q : Int) + 1)))
        have HO3 := Lib.hid ((HO9.out.tb hb).st g 1 (.int .i64 ((q : Int) + 1)) (.inl rfl))
        have z1 : w3.cell? ⟨g, 1, none⟩ = some (.int .i64 (q : Int)) := HA3.out.cell 1 _ rfl
        have y1 := HA3.out.frozen 1
        have HA4 : Hid (AtG (w3.setCell ⟨g, 1, none⟩ (.int .i64 ((q : Int) + 1))) g 94 (rxr s ((q + 1 : Nat) : Int) o)) := Lib.hid (by
          rw [show ((q + 1 : Nat) : Int) = (q : Int) + 1 from by omega]; exact HA3.out.set 1 _)
        clear hb HIH
        go_upto_region 8 with (fail)
        obtain ⟨wq, hwq⟩ : ∃ wq : World, wq = w3.setCell ⟨g, 1, none⟩ (.int .i64 ((q : Int) + 1)) := ⟨_, rfl⟩
        rw [← hwq] at HZ3 HS3 HO3 HA4 ⊢
        clear hwq z1 y1 HA3
        have e0 : wq.cell? ⟨w2.heap.size, 0, none⟩ = some (.int .u64 ((wd F 0 : Nat) : Int)) := HS3.out.cell 0 _ rfl
        have e1 : wq.cell? ⟨w2.heap.size, 1, none⟩ = some (.int .u64 ((wd F 1 : Nat) : Int)) := HS3.out.cell 1 _ rfl
        have e2 : wq.cell? ⟨w2.heap.size, 2, none⟩ = some (.int .u64 ((wd F 2 : Nat) : Int)) := HS3.out.cell 2 _ rfl
        have e3 : wq.cell? ⟨w2.heap.size, 3, none⟩ = some (.int .u64 ((wd F 3 : Nat) : Int)) := HS3.out.cell 3 _ rfl
        have d0 := (HZ3.out).cell 0 _ rfl; have d1 := (HZ3.out).cell 1 _ rfl; have d2 := (HZ3.out).cell 2 _ rfl; have d3 := (HZ3.out).cell 3 _ rfl
        have f0 := (HZ3.out).frozen 0; have f1 := (HZ3.out).frozen 1; have f2 := (HZ3.out).frozen 2; have f3 := (HZ3.out).frozen 3
        go_wp2_with fail
        refine bodyPost_ret (v := setOf F) (by simp [results, Tryz.results120, go_sem, d0, d1, d2, d3]; try rfl) rfl ?_
        rw [HR.out]
        exact ⟨HO3.out.pS _ F (.inr (Nat.le_refl _)), rfl, putS_far HA4.out (fun e => HG.out e.symm) F⟩
      · rw [if_neg h93] at hcf
        have HCF := Lib.hid hcf
        rw [decide_eq_false h93] at HIS
        have HIH := Lib.hid HIS
        have HLE := Lib.hid (leftX_ok HA9.out)
        clear hcf h93 HIS hq9
        go_wp2_with fail
        refine (HIH.out).mono ?_
        rintro e9 w3 ⟨rfl, hb⟩
        have HA3 := Lib.hid (HA9.out.below hb); have HZ3 := Lib.hid (HZ9.out.below hb); have HS3 := Lib.hid (HS9.out.below hb); have HO3 := Lib.hid (HO9.out.tb hb)
        clear hb HIH HA9 HZ9 HS9 HO9
        go_upto_region 6 with (fail)
        have hin := itemF_in s q HQ.out
        have HIT := Lib.hid (fun (w1 : World) (h1 : AtG w1 g 94 (rxr s q o)) => itemX g s q o w1 h1 HQ.out HS.out)
        cases hif : itemF s q with
        | ok G r =>
          rw [hif] at hin HCF HIT
          have HIN := Lib.hid (show q + 1 ≤ r ∧ r ≤ s.size from hin)
          clear hif hin
          refine RgX.start (by kernel_rfl) [(2, fun w5 w6 => Only (fun k => k = g) w5 w6), (4, fun w5 w6 => ∃ f, w6 = putS w5 w2.heap.size f)] [⟨fun w5 => AtG w5 w.heap.size 38 (setC 0 0 0 0) ∧ Only (fun k => k = g) w w5, none⟩, ⟨fun w5 => AtG w5 g 94 (rxr s (q : Int) (o : Int)), some 2⟩, ⟨fun w5 => AtG w5 w2.heap.size 38 (cellsOf F), some 4⟩] ⟨⟨fun _ _ h hb => ⟨h.1.below hb, h.2.tb hb⟩, ⟨fun _ _ _ _ => (fun w5 w6 h he => ⟨h.1.only he HG.out, h.2.tr he⟩), fun _ _ _ _ => (fun w5 w6 h he => by obtain ⟨f, rfl⟩ := he; exact ⟨putS_far h.1 HGS.out.1 _, h.2.pS _ _ (.inr HGS.out.2.2.1)⟩), trivial⟩⟩, ⟨fun _ _ h hb => h.below hb, ⟨fun _ h _ _ => absurd rfl h, fun _ _ h _ => absurd ⟨2, 1, rfl, rfl⟩ h, trivial⟩⟩, ⟨fun _ _ h hb => h.below hb, ⟨fun _ _ _ _ => (fun w5 w6 h he => h.only he HGS.out.2.1), fun _ h _ _ => absurd rfl h, trivial⟩⟩, trivial⟩ (by kernel_rfl) (by kernel_rfl) ⟨⟨HZ3.out.drew, HO3.out.drew⟩, HA3.out.drew, HS3.out.drew, trivial⟩ ?_
          show RgX.Build _ _ _ _ _ _ 0 [_, _, _, _, _] []
          refine RgX.build_cons (m := 1) (r := RgX.eq _) (RgX.one_plain (by rfl) (by (intro ax wx hk Kx hK; have k4 := hk.base 4 _ rfl rfl; have hL := hk.fact 0 0 _ rfl rfl; (try dsimp only at hL); have hs := hk.fact 2 1 _ rfl rfl; (try dsimp only at hs); clear hk; have z0 : wx.cell? ⟨w2.heap.size, 0, none⟩ = some (.int .u64 ((wd F 0 : Nat) : Int)) := hs.cell 0 _ rfl; have z1 : wx.cell? ⟨w2.heap.size, 1, none⟩ = some (.int .u64 ((wd F 1 : Nat) : Int)) := hs.cell 1 _ rfl; have z2 : wx.cell? ⟨w2.heap.size, 2, none⟩ = some (.int .u64 ((wd F 2 : Nat) : Int)) := hs.cell 2 _ rfl; have z3 : wx.cell? ⟨w2.heap.size, 3, none⟩ = some (.int .u64 ((wd F 3 : Nat) : Int)) := hs.cell 3 _ rfl; go_simp; refine hK _ _ (fun h => by cases h) (fun _ _ => ?_) (Below.refl _ _); apply RgX.mk))) ?_ rfl RgX.keep_eq (fun _ h => by cases h)
          refine RgX.build_cons (m := 2) (r := RgX.eq _) (RgX.one_plain (by rfl) (by (intro ax wx hk Kx hK; have k0 := hk.base 0 _ rfl rfl; have hL := hk.fact 0 0 _ rfl rfl; (try dsimp only at hL); have hg := hk.fact 1 1 _ rfl rfl; (try dsimp only at hg); have hs := hk.fact 2 1 _ rfl rfl; (try dsimp only at hs); clear hk; go_simp; refine hK _ _ (fun h => by cases h) (fun _ _ => ?_) (Below.refl _ _); apply RgX.mk))) ?_ rfl RgX.keep_eq (fun _ h => by cases h)
          refine RgX.build_cons (m := 3) (r := (⟨fun v _ w5 => v = setOf G ∧ AtG w5 g 94 (rxr s (r : Int) (o : Int)), none, none⟩ : RgX.Rl)) (RgX.one_plain (by rfl) (by (intro ax wx hk Kx hK; obtain ⟨v21, k21, h21⟩ := hk.dep 0 1 21 _ rfl rfl rfl; (first | (replace h21 := h21 9 undef rfl rfl; first | (cases (h21 : v21 = _)) | (obtain ⟨rfl, h21⟩ := h21) | skip) | skip); have hL := hk.fact 0 0 _ rfl rfl; (try dsimp only at hL); have hg := hk.fact 1 0 _ rfl rfl; (try dsimp only at hg); have hs := hk.fact 2 1 _ rfl rfl; (try dsimp only at hs); clear hk; go_simp; refine (HIT.out _ hg).mono ?_; rintro e w' ⟨hO5, rfl, hS5⟩; exact hK _ _ (fun h => by cases h) (fun _ _ => ⟨rfl, hS5⟩) hO5))) ?_ rfl (RgX.keep_r (fun _ _ _ _ h hb => ⟨h.1, h.2.below hb⟩) (fun _ _ => ⟨fun h _ _ _ => absurd rfl h, fun _ _ _ _ => (fun w5 w6 h he => by obtain ⟨f, rfl⟩ := he; exact ⟨h.1, putS_far h.2 HGS.out.2.2.2 _⟩), trivial⟩)) (fun _ h => by cases h)
          refine RgX.build_cons (m := 4) (r := RgX.eq _) (RgX.one_plain (by rfl) (by (intro ax wx hk Kx hK; obtain ⟨v20, k20, h20⟩ := hk.dep 0 0 20 _ rfl rfl rfl; (first | (replace h20 := h20 9 undef rfl rfl; first | (cases (h20 : v20 = _)) | (obtain ⟨rfl, h20⟩ := h20) | skip) | skip); obtain ⟨v22, k22, h22⟩ := hk.dep 0 2 22 _ rfl rfl rfl; (first | (replace h22 := h22 9 undef rfl rfl; first | (cases (h22 : v22 = _)) | (obtain ⟨rfl, h22⟩ := h22) | skip) | skip); have hL := hk.fact 0 0 _ rfl rfl; (try dsimp only at hL); have hs := hk.fact 2 1 _ rfl rfl; (try dsimp only at hs); clear hk; go_simp; refine (or_any F G _).mono ?_; rintro e w' ⟨rfl, hb⟩; refine hK _ _ (fun h => by cases h) (fun _ _ => ?_) hb; apply RgX.mk))) ?_ rfl RgX.keep_eq (fun _ h => by cases h)
          refine RgX.build_cons (m := 5) (r := (⟨fun _ _ w5 => AtG w5 w2.heap.size 38 (cellsOf fun x => F x || G x), none, none⟩ : RgX.Rl)) (RgX.one_plain (by rfl) (by (intro ax wx hk Kx hK; have k4 := hk.base 4 _ rfl rfl; obtain ⟨v23, k23, h23⟩ := hk.dep 0 3 23 _ rfl rfl rfl; (first | (replace h23 := h23 9 undef rfl rfl; first | (cases (h23 : v23 = _)) | (obtain ⟨rfl, h23⟩ := h23) | skip) | skip); have hL := hk.fact 0 0 _ rfl rfl; (try dsimp only at hL); have hs := hk.fact 2 0 _ rfl rfl; (try dsimp only at hs); clear hk; (have d0 : wx.cell? ⟨w2.heap.size, 0, none⟩ = some (.int .u64 ((wd F 0 : Nat) : Int)) := hs.cell 0 _ rfl; have d1 : wx.cell? ⟨w2.heap.size, 1, none⟩ = some (.int .u64 ((wd F 1 : Nat) : Int)) := hs.cell 1 _ rfl; have d2 : wx.cell? ⟨w2.heap.size, 2, none⟩ = some (.int .u64 ((wd F 2 : Nat) : Int)) := hs.cell 2 _ rfl; have d3 : wx.cell? ⟨w2.heap.size, 3, none⟩ = some (.int .u64 ((wd F 3 : Nat) : Int)) := hs.cell 3 _ rfl; have f0 := hs.frozen 0; have f1 := hs.frozen 1; have f2 := hs.frozen 2; have f3 := hs.frozen 3; unfold setOf at k23; go_simp; exact hK undef _ (fun _ => rfl) (fun u hu => putS_at hs _) ⟨_, rfl⟩)))) ?_ rfl (RgX.keep_r (fun _ _ _ _ h hb => h.below hb) (fun _ _ => ⟨fun _ _ _ h => absurd ⟨1, rfl⟩ h, fun h _ _ _ => absurd rfl h, trivial⟩)) (fun _ h => by cases h)
          refine RgX.build_end fun wx hj => ?_
          have hL := hj 0 _ rfl rfl
          clear hj
          refine RgX.fin_eq rfl ?_
          refine RgX.fin_eq rfl ?_
          first | refine RgX.fin_eq rfl ?_ | refine RgX.fin_any rfl fun v22 h22 => ?_
          refine RgX.fin_eq rfl ?_
          refine RgX.fin_none rfl fun s4 => ?_
          refine RgX.fin_nil ?_
          simp only [List.set_cons_zero, List.set_cons_succ]
          have hS5 := (h22 rfl undef rfl).2
          have hs5 := s4 rfl undef rfl
          clear h22 s4
          have HL := Lib.hid hL; have H5 := Lib.hid hS5; have H6 := Lib.hid hs5
          clear hL hS5 hs5
          go_wp2_with fail
          refine ⟨⟨_, H6.out, HL.out.1, HL.out.2, r, k', H5.out, HIN.out.2, by have := HIN.out.1; have := HIN.out.2; have := HK.out; omega, by rw [HX9.out, HCF.out]⟩, ?_⟩
          rw [leftX_ok H5.out, HLE.out]
          have := HIN.out.1; have := HIN.out.2; omega
        | no c x =>
          rw [hif] at HCF HIT
          have HR : Hid (R = .no c x) := Lib.hid (by rw [HX9.out, HCF.out]; rfl)
          have z0 : w3.drew.cell? ⟨w2.heap.size, 0, none⟩ = some (.int .u64 ((wd F 0 : Nat) : Int)) := HS3.out.drew.cell 0 _ rfl
          have z1 : w3.drew.cell? ⟨w2.heap.size, 1, none⟩ = some (.int .u64 ((wd F 1 : Nat) : Int)) := HS3.out.drew.cell 1 _ rfl
          have z2 : w3.drew.cell? ⟨w2.heap.size, 2, none⟩ = some (.int .u64 ((wd F 2 : Nat) : Int)) := HS3.out.drew.cell 2 _ rfl
          have z3 : w3.drew.cell? ⟨w2.heap.size, 3, none⟩ = some (.int .u64 ((wd F 3 : Nat) : Int)) := HS3.out.drew.cell 3 _ rfl
          have HIP := Lib.hid (HIT.out _ HA3.out.drew)
          have HO4 := Lib.hid HO3.out.drew
          clear hif hin HIT HX9 HCF HK HQ HLE
          refine wp_region_any (by kernel_rfl) ?_
          show wpAny _ _ _ _ (4 + 1) _ _ _
          refine any_step [0, 1] (by kernel_rfl) (by simp) ?_
          intro i hi
          have hi' : i = 0 ∨ i = 1 := by simpa using hi
          clear hi
          rcases hi' with rfl | rfl
          · refine ⟨_, rfl, rfl, ?_⟩
            go_simp
            show wpAny _ _ _ _ (3 + 1) _ _ _
            refine any_step [1] (by kernel_rfl) (by simp) ?_
            intro i hi
            obtain rfl : i = 1 := by simpa using hi
            refine ⟨_, rfl, rfl, ?_⟩
            go_simp
            show wpAny _ _ _ _ (2 + 1) _ _ _
            refine any_step [2] (by kernel_rfl) (by simp) ?_
            intro i hi
            obtain rfl : i = 2 := by simpa using hi
            refine ⟨_, rfl, rfl, ?_⟩
            go_simp
            refine (HIP.out).mono ?_
            rintro e9 w4 ⟨ho, b, rfl, hx⟩
            refine ⟨rfl, ?_⟩
            rw [HR.out]
            exact ⟨HO4.out.tr ho, b, rfl, hx⟩
          · refine ⟨_, rfl, rfl, ?_⟩
            go_simp
            show wpAny _ _ _ _ (3 + 1) _ _ _
            refine any_step [0, 2] (by kernel_rfl) (by simp) ?_
            intro i hi
            have hi' : i = 0 ∨ i = 2 := by simpa using hi
            clear hi
            rcases hi' with rfl | rfl
            · refine ⟨_, rfl, rfl, ?_⟩
              go_simp
              show wpAny _ _ _ _ (2 + 1) _ _ _
              refine any_step [2] (by kernel_rfl) (by simp) ?_
              intro i hi
              obtain rfl : i = 2 := by simpa using hi
              refine ⟨_, rfl, rfl, ?_⟩
              go_simp
              refine (HIP.out).mono ?_
              rintro e9 w4 ⟨ho, b, rfl, hx⟩
              refine ⟨rfl, ?_⟩
              rw [HR.out]
              exact ⟨HO4.out.tr ho, b, rfl, hx⟩
            · refine ⟨_, rfl, rfl, ?_⟩
              go_simp
              refine (HIP.out).mono ?_
              rintro e9 w4 ⟨ho, b, rfl, hx⟩
              refine ⟨rfl, ?_⟩
              rw [HR.out]
              exact ⟨HO4.out.tr ho, b, rfl, hx⟩
set_option maxRecDepth 100000 in
set_option maxHeartbeats 3200000 in
theorem classX_neg (g : Nat) (s : ByteArray) (p o : Nat) (w : World) (h : AtG w g 94 (rxr s p o)) (hp : p ≤ s.size) (hs : s.size ≤ 900) (h94 : ch s p = 94) :
    Calls Tryz.prog 120 #[.pointer (some ⟨g, 0, none⟩)] w (RxP g s o w (classF s p) (fun f => setOf f)) := by
  have HS := Lib.hid hs
  have HG := Lib.hid (show ¬ w.heap.size = g by have := h.lt; omega)
  have HA0 := Lib.hid (h.alloc (.cells (setC 0 0 0 0) 38))
  have HZ0 := Lib.hid (AtG.new w 38 (setC 0 0 0 0))
  have HO0 := Lib.hid ((Only.refl (S := fun k => k = g) w).al (.cells (setC 0 0 0 0) 38))
  have hp1 : p < s.size := ch_ge (by omega)
  obtain ⟨p0, hp0⟩ : ∃ p0, p0 = p + 1 := ⟨_, rfl⟩
  have HX := Lib.hid (show classF s p = clsE s true (itemF s p0) from by rw [hp0]; exact if_pos h94)
  have HP := Lib.hid (show p0 ≤ s.size by omega)
  have HP0 := Lib.hid (show (p0 : Int) = (p : Int) + 1 by omega)
  have hpI : (p : Int) < 1000 := by omega
  have HIS := isX g s p o 94 _ HA0.out hp (by decide)
  rw [decide_eq_true h94] at HIS
  have HISH := Lib.hid HIS
  generalize classF s p = R at *
  clear h94 h hp HIS hp0 hp1
  go_enter Tryz.func120, Tryz.ntmps120
  go_wp2_with fail
  refine (HISH.out).mono ?_
  rintro e9 w1 ⟨rfl, hb⟩
  have HA1 := Lib.hid (HA0.out.below hb); have HZ1 := Lib.hid ((HZ0.out.below hb).far (p := ⟨g, 1, none⟩) (fun e => HG.out e) (.int .i64 ((p : Int) + 1))); have HO1 := Lib.hid ((HO0.out.tb hb).st g 1 (.int .i64 ((p : Int) + 1)) (.inl rfl))
  have z1 : w1.cell? ⟨g, 1, none⟩ = some (.int .i64 (p : Int)) := HA1.out.cell 1 _ rfl
  have y1 := HA1.out.frozen 1
  have HA2 : Hid (AtG (w1.setCell ⟨g, 1, none⟩ (.int .i64 ((p : Int) + 1))) g 94 (rxr s (p0 : Int) o)) := Lib.hid (by
    rw [HP0.out]; exact HA1.out.set 1 _)
  clear hb HISH HA0 HZ0 HO0
  go_upto_region 4 with (fail)
  obtain ⟨wq, hwq⟩ : ∃ wq : World, wq = w1.setCell ⟨g, 1, none⟩ (.int .i64 ((p : Int) + 1)) := ⟨_, rfl⟩
  rw [← hwq] at HZ1 HO1 HA2 ⊢
  clear hwq z1 y1 HA1
  have HI0 := Lib.hid (itemX g s p0 o wq HA2.out HP.out HS.out)
  go_wp2_with fail
  refine (HI0.out).mono ?_
  cases hif : itemF s p0 with
  | no c x =>
    rw [hif] at HX
    rintro e9 w2 ⟨ho, b, rfl, hx⟩
    refine ⟨rfl, ?_⟩
    rw [HX.out]
    exact ⟨HO1.out.tr ho, b, rfl, hx⟩
  | ok F0 q0 =>
    rw [hif] at HX
    have hin := itemF_in s p0 HP.out
    rw [hif] at hin
    have hq0 : p0 + 1 ≤ q0 ∧ q0 ≤ s.size := hin
    rintro e9 w2 ⟨ho, rfl, ha⟩
    have HO2 := Lib.hid (HO1.out.tr ho); have HA2 := Lib.hid ha; have HZ2 := Lib.hid (HZ1.out.only ho HG.out)
    have HQ0 := Lib.hid hq0
    clear ho ha hin hif hq0 HI0
    have HGS : Hid (w.heap.size ≠ w2.heap.size ∧ w2.heap.size ≠ g ∧ w.heap.size ≤ w2.heap.size ∧ g ≠ w2.heap.size) := Lib.hid (by
      have h1 := HZ2.out.lt
      have h2 := HA2.out.lt
      omega)
    unfold setOf
    go_upto_region 5 with (fail)
    obtain ⟨WL, hWL⟩ : ∃ WL : World, WL = w2.alloc (.cells (cellsOf F0) 38) := ⟨_, rfl⟩
    have hWL' : w2.alloc (.cells #[.int .u64 ((wd F0 0 : Nat) : Int), .int .u64 ((wd F0 1 : Nat) : Int), .int .u64 ((wd F0 2 : Nat) : Int), .int .u64 ((wd F0 3 : Nat) : Int)] 38) = WL := hWL.symm
    have HSL : Hid (AtG WL w2.heap.size 38 (cellsOf F0)) := Lib.hid (by rw [hWL]; exact AtG.new _ _ _)
    have HAL : Hid (AtG WL g 94 (rxr s (q0 : Int) (o : Int))) := Lib.hid (by rw [hWL]; exact HA2.out.alloc _)
    have HZL : Hid (AtG WL w.heap.size 38 (setC 0 0 0 0)) := Lib.hid (by rw [hWL]; exact HZ2.out.alloc _)
    have HOL : Hid (Only (fun k => k = g) w WL) := Lib.hid (by rw [hWL]; exact HO2.out.al _)
    rw [hWL']
    clear hWL hWL' HO2 HA2 HZ2
    go_loopw [] (fun wr => ∃ F : Nat → Bool, AtG wr w2.heap.size 38 (cellsOf F) ∧ AtG wr w.heap.size 38 (setC 0 0 0 0) ∧ Only (fun k => k = g) w wr ∧ ∃ q k : Nat, AtG wr g 94 (rxr s (q : Int) (o : Int)) ∧ q ≤ s.size ∧ s.size - q < k ∧ R = (clsF s k F q).map (negF true)) (fun wr => leftX s g wr)
    case atStart => exact ⟨F0, HSL.out, HZL.out, HOL.out, q0, s.size + 1, HAL.out, HQ0.out.2, by omega, by rw [HX.out]; rfl⟩
    case round =>
      obtain ⟨F, hs9, hz9, ho9, q, k, ha9, hq9, hk9, hx9⟩ := hrel
      have HS9 := Lib.hid hs9; have HZ9 := Lib.hid hz9; have HO9 := Lib.hid ho9; have HA9 := Lib.hid ha9
      have HQ := Lib.hid hq9; have HK := Lib.hid hk9; have HX9 := Lib.hid hx9
      have HIS := isX g s q o 93 wr ha9 hq9 (by decide)
      clear hs9 hz9 ho9 ha9 hk9 hx9 HSL HAL HZL HOL HQ0
      obtain ⟨k', rfl⟩ : ∃ k', k = k' + 1 := ⟨k - 1, by have := HK.out; omega⟩
      have hcf : clsF s (k' + 1) F q = if ch s q = 93 then .ok F (q + 1) else match itemF s q with | .ok g q => clsF s k' (fun y => F y || g y) q | .no c x => .no c x := rfl
      by_cases h93 : ch s q = 93
      · rw [if_pos h93] at hcf
        have HR : Hid (R = .ok (negF true F) (q + 1)) := Lib.hid (by rw [HX9.out, hcf]; rfl)
        rw [decide_eq_true h93] at HIS
        have HIH := Lib.hid HIS
        have hqI : (q : Int) < 1000 := by have := HS.out; omega
        clear hcf h93 HIS hq9
        go_wp2_with fail
        refine (HIH.out).mono ?_
        rintro e9 w3 ⟨rfl, hb⟩
        have HA3 := Lib.hid (HA9.out.below hb); have HZ3 := Lib.hid ((HZ9.out.below hb).far (p := ⟨g, 1, none⟩) (fun e => HG.out e) (.int .i64 ((q : Int) + 1))); have HS3 := Lib.hid ((HS9.out.below hb).far (p := ⟨g, 1, none⟩) (fun e => HGS.out.2.1 e) (.int .i64 ((q : Int) + 1)))
        have HO3 := Lib.hid ((HO9.out.tb hb).st g 1 (.int .i64 ((q : Int) + 1)) (.inl rfl))
        have z1 : w3.cell? ⟨g, 1, none⟩ = some (.int .i64 (q : Int)) := HA3.out.cell 1 _ rfl
        have y1 := HA3.out.frozen 1
        have HA4 : Hid (AtG (w3.setCell ⟨g, 1, none⟩ (.int .i64 ((q : Int) + 1))) g 94 (rxr s ((q + 1 : Nat) : Int) o)) := Lib.hid (by
          rw [show ((q + 1 : Nat) : Int) = (q : Int) + 1 from by omega]; exact HA3.out.set 1 _)
        clear hb HIH
        go_upto_region 8 with (fail)
        obtain ⟨wq, hwq⟩ : ∃ wq : World, wq = w3.setCell ⟨g, 1, none⟩ (.int .i64 ((q : Int) + 1)) := ⟨_, rfl⟩
        rw [← hwq] at HZ3 HS3 HO3 HA4 ⊢
        clear hwq z1 y1 HA3
        have e0 : wq.cell? ⟨w2.heap.size, 0, none⟩ = some (.int .u64 ((wd F 0 : Nat) : Int)) := HS3.out.cell 0 _ rfl
        have e1 : wq.cell? ⟨w2.heap.size, 1, none⟩ = some (.int .u64 ((wd F 1 : Nat) : Int)) := HS3.out.cell 1 _ rfl
        have e2 : wq.cell? ⟨w2.heap.size, 2, none⟩ = some (.int .u64 ((wd F 2 : Nat) : Int)) := HS3.out.cell 2 _ rfl
        have e3 : wq.cell? ⟨w2.heap.size, 3, none⟩ = some (.int .u64 ((wd F 3 : Nat) : Int)) := HS3.out.cell 3 _ rfl
        go_wp2_with fail
        refine (not_any F _).mono ?_
        rintro e9 wn ⟨rfl, hb⟩
        have HAn := Lib.hid (HA4.out.below hb); have HZn := Lib.hid (HZ3.out.below hb); have HOn := Lib.hid (HO3.out.tb hb)
        clear hb e0 e1 e2 e3
        have d0 := (HZn.out).cell 0 _ rfl; have d1 := (HZn.out).cell 1 _ rfl; have d2 := (HZn.out).cell 2 _ rfl; have d3 := (HZn.out).cell 3 _ rfl
        have f0 := (HZn.out).frozen 0; have f1 := (HZn.out).frozen 1; have f2 := (HZn.out).frozen 2; have f3 := (HZn.out).frozen 3
        unfold setOf
        go_wp2_with fail
        refine bodyPost_ret (v := setOf (fun x => !F x)) (by simp [results, Tryz.results120, go_sem, d0, d1, d2, d3]; try rfl) rfl ?_
        rw [HR.out]
        exact ⟨HOn.out.pS _ (fun x => !F x) (.inr (Nat.le_refl _)), rfl, putS_far HAn.out (fun e => HG.out e.symm) (fun x => !F x)⟩
      · rw [if_neg h93] at hcf
        have HCF := Lib.hid hcf
        rw [decide_eq_false h93] at HIS
        have HIH := Lib.hid HIS
        have HLE := Lib.hid (leftX_ok HA9.out)
        clear hcf h93 HIS hq9
        go_wp2_with fail
        refine (HIH.out).mono ?_
        rintro e9 w3 ⟨rfl, hb⟩
        have HA3 := Lib.hid (HA9.out.below hb); have HZ3 := Lib.hid (HZ9.out.below hb); have HS3 := Lib.hid (HS9.out.below hb); have HO3 := Lib.hid (HO9.out.tb hb)
        clear hb HIH HA9 HZ9 HS9 HO9
        go_upto_region 6 with (fail)
        have hin := itemF_in s q HQ.out
        have HIT := Lib.hid (fun (w1 : World) (h1 : AtG w1 g 94 (rxr s q o)) => itemX g s q o w1 h1 HQ.out HS.out)
        cases hif : itemF s q with
        | ok G r =>
          rw [hif] at hin HCF HIT
          have HIN := Lib.hid (show q + 1 ≤ r ∧ r ≤ s.size from hin)
          clear hif hin
          refine RgX.start (by kernel_rfl) [(2, fun w5 w6 => Only (fun k => k = g) w5 w6), (4, fun w5 w6 => ∃ f, w6 = putS w5 w2.heap.size f)] [⟨fun w5 => AtG w5 w.heap.size 38 (setC 0 0 0 0) ∧ Only (fun k => k = g) w w5, none⟩, ⟨fun w5 => AtG w5 g 94 (rxr s (q : Int) (o : Int)), some 2⟩, ⟨fun w5 => AtG w5 w2.heap.size 38 (cellsOf F), some 4⟩] ⟨⟨fun _ _ h hb => ⟨h.1.below hb, h.2.tb hb⟩, ⟨fun _ _ _ _ => (fun w5 w6 h he => ⟨h.1.only he HG.out, h.2.tr he⟩), fun _ _ _ _ => (fun w5 w6 h he => by obtain ⟨f, rfl⟩ := he; exact ⟨putS_far h.1 HGS.out.1 _, h.2.pS _ _ (.inr HGS.out.2.2.1)⟩), trivial⟩⟩, ⟨fun _ _ h hb => h.below hb, ⟨fun _ h _ _ => absurd rfl h, fun _ _ h _ => absurd ⟨2, 1, rfl, rfl⟩ h, trivial⟩⟩, ⟨fun _ _ h hb => h.below hb, ⟨fun _ _ _ _ => (fun w5 w6 h he => h.only he HGS.out.2.1), fun _ h _ _ => absurd rfl h, trivial⟩⟩, trivial⟩ (by kernel_rfl) (by kernel_rfl) ⟨⟨HZ3.out.drew, HO3.out.drew⟩, HA3.out.drew, HS3.out.drew, trivial⟩ ?_
          show RgX.Build _ _ _ _ _ _ 0 [_, _, _, _, _] []
          refine RgX.build_cons (m := 1) (r := RgX.eq _) (RgX.one_plain (by rfl) (by (intro ax wx hk Kx hK; have k4 := hk.base 4 _ rfl rfl; have hL := hk.fact 0 0 _ rfl rfl; (try dsimp only at hL); have hs := hk.fact 2 1 _ rfl rfl; (try dsimp only at hs); clear hk; have z0 : wx.cell? ⟨w2.heap.size, 0, none⟩ = some (.int .u64 ((wd F 0 : Nat) : Int)) := hs.cell 0 _ rfl; have z1 : wx.cell? ⟨w2.heap.size, 1, none⟩ = some (.int .u64 ((wd F 1 : Nat) : Int)) := hs.cell 1 _ rfl; have z2 : wx.cell? ⟨w2.heap.size, 2, none⟩ = some (.int .u64 ((wd F 2 : Nat) : Int)) := hs.cell 2 _ rfl; have z3 : wx.cell? ⟨w2.heap.size, 3, none⟩ = some (.int .u64 ((wd F 3 : Nat) : Int)) := hs.cell 3 _ rfl; go_simp; refine hK _ _ (fun h => by cases h) (fun _ _ => ?_) (Below.refl _ _); apply RgX.mk))) ?_ rfl RgX.keep_eq (fun _ h => by cases h)
          refine RgX.build_cons (m := 2) (r := RgX.eq _) (RgX.one_plain (by rfl) (by (intro ax wx hk Kx hK; have k0 := hk.base 0 _ rfl rfl; have hL := hk.fact 0 0 _ rfl rfl; (try dsimp only at hL); have hg := hk.fact 1 1 _ rfl rfl; (try dsimp only at hg); have hs := hk.fact 2 1 _ rfl rfl; (try dsimp only at hs); clear hk; go_simp; refine hK _ _ (fun h => by cases h) (fun _ _ => ?_) (Below.refl _ _); apply RgX.mk))) ?_ rfl RgX.keep_eq (fun _ h => by cases h)
          refine RgX.build_cons (m := 3) (r := (⟨fun v _ w5 => v = setOf G ∧ AtG w5 g 94 (rxr s (r : Int) (o : Int)), none, none⟩ : RgX.Rl)) (RgX.one_plain (by rfl) (by (intro ax wx hk Kx hK; obtain ⟨v21, k21, h21⟩ := hk.dep 0 1 21 _ rfl rfl rfl; (first | (replace h21 := h21 9 undef rfl rfl; first | (cases (h21 : v21 = _)) | (obtain ⟨rfl, h21⟩ := h21) | skip) | skip); have hL := hk.fact 0 0 _ rfl rfl; (try dsimp only at hL); have hg := hk.fact 1 0 _ rfl rfl; (try dsimp only at hg); have hs := hk.fact 2 1 _ rfl rfl; (try dsimp only at hs); clear hk; go_simp; refine (HIT.out _ hg).mono ?_; rintro e w' ⟨hO5, rfl, hS5⟩; exact hK _ _ (fun h => by cases h) (fun _ _ => ⟨rfl, hS5⟩) hO5))) ?_ rfl (RgX.keep_r (fun _ _ _ _ h hb => ⟨h.1, h.2.below hb⟩) (fun _ _ => ⟨fun h _ _ _ => absurd rfl h, fun _ _ _ _ => (fun w5 w6 h he => by obtain ⟨f, rfl⟩ := he; exact ⟨h.1, putS_far h.2 HGS.out.2.2.2 _⟩), trivial⟩)) (fun _ h => by cases h)
          refine RgX.build_cons (m := 4) (r := RgX.eq _) (RgX.one_plain (by rfl) (by (intro ax wx hk Kx hK; obtain ⟨v20, k20, h20⟩ := hk.dep 0 0 20 _ rfl rfl rfl; (first | (replace h20 := h20 9 undef rfl rfl; first | (cases (h20 : v20 = _)) | (obtain ⟨rfl, h20⟩ := h20) | skip) | skip); obtain ⟨v22, k22, h22⟩ := hk.dep 0 2 22 _ rfl rfl rfl; (first | (replace h22 := h22 9 undef rfl rfl; first | (cases (h22 : v22 = _)) | (obtain ⟨rfl, h22⟩ := h22) | skip) | skip); have hL := hk.fact 0 0 _ rfl rfl; (try dsimp only at hL); have hs := hk.fact 2 1 _ rfl rfl; (try dsimp only at hs); clear hk; go_simp; refine (or_any F G _).mono ?_; rintro e w' ⟨rfl, hb⟩; refine hK _ _ (fun h => by cases h) (fun _ _ => ?_) hb; apply RgX.mk))) ?_ rfl RgX.keep_eq (fun _ h => by cases h)
          refine RgX.build_cons (m := 5) (r := (⟨fun _ _ w5 => AtG w5 w2.heap.size 38 (cellsOf fun x => F x || G x), none, none⟩ : RgX.Rl)) (RgX.one_plain (by rfl) (by (intro ax wx hk Kx hK; have k4 := hk.base 4 _ rfl rfl; obtain ⟨v23, k23, h23⟩ := hk.dep 0 3 23 _ rfl rfl rfl; (first | (replace h23 := h23 9 undef rfl rfl; first | (cases (h23 : v23 = _)) | (obtain ⟨rfl, h23⟩ := h23) | skip) | skip); have hL := hk.fact 0 0 _ rfl rfl; (try dsimp only at hL); have hs := hk.fact 2 0 _ rfl rfl; (try dsimp only at hs); clear hk; (have d0 : wx.cell? ⟨w2.heap.size, 0, none⟩ = some (.int .u64 ((wd F 0 : Nat) : Int)) := hs.cell 0 _ rfl; have d1 : wx.cell? ⟨w2.heap.size, 1, none⟩ = some (.int .u64 ((wd F 1 : Nat) : Int)) := hs.cell 1 _ rfl; have d2 : wx.cell? ⟨w2.heap.size, 2, none⟩ = some (.int .u64 ((wd F 2 : Nat) : Int)) := hs.cell 2 _ rfl; have d3 : wx.cell? ⟨w2.heap.size, 3, none⟩ = some (.int .u64 ((wd F 3 : Nat) : Int)) := hs.cell 3 _ rfl; have f0 := hs.frozen 0; have f1 := hs.frozen 1; have f2 := hs.frozen 2; have f3 := hs.frozen 3; unfold setOf at k23; go_simp; exact hK undef _ (fun _ => rfl) (fun u hu => putS_at hs _) ⟨_, rfl⟩)))) ?_ rfl (RgX.keep_r (fun _ _ _ _ h hb => h.below hb) (fun _ _ => ⟨fun _ _ _ h => absurd ⟨1, rfl⟩ h, fun h _ _ _ => absurd rfl h, trivial⟩)) (fun _ h => by cases h)
          refine RgX.build_end fun wx hj => ?_
          have hL := hj 0 _ rfl rfl
          clear hj
          refine RgX.fin_eq rfl ?_
          refine RgX.fin_eq rfl ?_
          first | refine RgX.fin_eq rfl ?_ | refine RgX.fin_any rfl fun v22 h22 => ?_
          refine RgX.fin_eq rfl ?_
          refine RgX.fin_none rfl fun s4 => ?_
          refine RgX.fin_nil ?_
          simp only [List.set_cons_zero, List.set_cons_succ]
          have hS5 := (h22 rfl undef rfl).2
          have hs5 := s4 rfl undef rfl
          clear h22 s4
          have HL := Lib.hid hL; have H5 := Lib.hid hS5; have H6 := Lib.hid hs5
          clear hL hS5 hs5
          go_wp2_with fail
          refine ⟨⟨_, H6.out, HL.out.1, HL.out.2, r, k', H5.out, HIN.out.2, by have := HIN.out.1; have := HIN.out.2; have := HK.out; omega, by rw [HX9.out, HCF.out]⟩, ?_⟩
          rw [leftX_ok H5.out, HLE.out]
          have := HIN.out.1; have := HIN.out.2; omega
        | no c x =>
          rw [hif] at HCF HIT
          have HR : Hid (R = .no c x) := Lib.hid (by rw [HX9.out, HCF.out]; rfl)
          have z0 : w3.drew.cell? ⟨w2.heap.size, 0, none⟩ = some (.int .u64 ((wd F 0 : Nat) : Int)) := HS3.out.drew.cell 0 _ rfl
          have z1 : w3.drew.cell? ⟨w2.heap.size, 1, none⟩ = some (.int .u64 ((wd F 1 : Nat) : Int)) := HS3.out.drew.cell 1 _ rfl
          have z2 : w3.drew.cell? ⟨w2.heap.size, 2, none⟩ = some (.int .u64 ((wd F 2 : Nat) : Int)) := HS3.out.drew.cell 2 _ rfl
          have z3 : w3.drew.cell? ⟨w2.heap.size, 3, none⟩ = some (.int .u64 ((wd F 3 : Nat) : Int)) := HS3.out.drew.cell 3 _ rfl
          have HIP := Lib.hid (HIT.out _ HA3.out.drew)
          have HO4 := Lib.hid HO3.out.drew
          clear hif hin HIT HX9 HCF HK HQ HLE
          refine wp_region_any (by kernel_rfl) ?_
          show wpAny _ _ _ _ (4 + 1) _ _ _
          refine any_step [0, 1] (by kernel_rfl) (by simp) ?_
          intro i hi
          have hi' : i = 0 ∨ i = 1 := by simpa using hi
          clear hi
          rcases hi' with rfl | rfl
          · refine ⟨_, rfl, rfl, ?_⟩
            go_simp
            show wpAny _ _ _ _ (3 + 1) _ _ _
            refine any_step [1] (by kernel_rfl) (by simp) ?_
            intro i hi
            obtain rfl : i = 1 := by simpa using hi
            refine ⟨_, rfl, rfl, ?_⟩
            go_simp
            show wpAny _ _ _ _ (2 + 1) _ _ _
            refine any_step [2] (by kernel_rfl) (by simp) ?_
            intro i hi
            obtain rfl : i = 2 := by simpa using hi
            refine ⟨_, rfl, rfl, ?_⟩
            go_simp
            refine (HIP.out).mono ?_
            rintro e9 w4 ⟨ho, b, rfl, hx⟩
            refine ⟨rfl, ?_⟩
            rw [HR.out]
            exact ⟨HO4.out.tr ho, b, rfl, hx⟩
          · refine ⟨_, rfl, rfl, ?_⟩
            go_simp
            show wpAny _ _ _ _ (3 + 1) _ _ _
            refine any_step [0, 2] (by kernel_rfl) (by simp) ?_
            intro i hi
            have hi' : i = 0 ∨ i = 2 := by simpa using hi
            clear hi
            rcases hi' with rfl | rfl
            · refine ⟨_, rfl, rfl, ?_⟩
              go_simp
              show wpAny _ _ _ _ (2 + 1) _ _ _
              refine any_step [2] (by kernel_rfl) (by simp) ?_
              intro i hi
              obtain rfl : i = 2 := by simpa using hi
              refine ⟨_, rfl, rfl, ?_⟩
              go_simp
              refine (HIP.out).mono ?_
              rintro e9 w4 ⟨ho, b, rfl, hx⟩
              refine ⟨rfl, ?_⟩
              rw [HR.out]
              exact ⟨HO4.out.tr ho, b, rfl, hx⟩
            · refine ⟨_, rfl, rfl, ?_⟩
              go_simp
              refine (HIP.out).mono ?_
              rintro e9 w4 ⟨ho, b, rfl, hx⟩
              refine ⟨rfl, ?_⟩
              rw [HR.out]
              exact ⟨HO4.out.tr ho, b, rfl, hx⟩
theorem classX (g : Nat) (s : ByteArray) (p o : Nat) (w : World) (h : AtG w g 94 (rxr s p o)) (hp : p ≤ s.size) (hs : s.size ≤ 900) :
    Calls Tryz.prog 120 #[.pointer (some ⟨g, 0, none⟩)] w (RxP g s o w (classF s p) (fun f => setOf f)) := by
  by_cases h94 : ch s p = 94
  · exact classX_neg g s p o w h hp hs h94
  · exact classX_no g s p o w h hp hs h94
end Go.Proofs.YtgjcibhhffkemaaGreatDoor
/- The program's reader of patterns: atoms but those in brackets. -/
set_option linter.unusedVariables false
set_option linter.unusedSimpArgs false
namespace Go.Proofs.YtgjcibhhffkemaaGreatDoor
open Go.RowKit Bt
/-- what a part of the reader that tells a node leaves -/
def RxN (g : Nat) (s : ByteArray) (o : Nat) (w : World) (R : Re Tree) (e : Ending) (w' : World) : Prop :=
  Only (fun k => k = g) w w' ∧ match R with
    | .ok t q => ∃ kv, e = .returned (nodeV t kv) ∧ KAt (Iv w.heap.size w'.heap.size) w' t kv ∧ AtG w' g 94 (rxr s (q : Int) (o : Int))
    | .no c x => RxNo c x e w'
theorem rxn_post {s : ByteArray} {g o q : Nat} {w wn : World} {op : Int} {f : Nat → Bool} {mn mx : Int} {kids : List Tree} {kv : Value}
    (hO : Only (fun k => k = g) w wn) (hA : AtG wn g 94 (rxr s (q : Int) (o : Int))) (hg : ¬ w.heap.size = g) (hl : w.heap.size < wn.heap.size) (hK : KAt (Iv (w.heap.size + 1) wn.heap.size) wn (.node op f mn mx kids) kv) :
    RxN g s o w (.ok (.node op f mn mx kids) q) (.returned (nodeV (.node op f mn mx kids) kv)) (putN wn w.heap.size op f mn mx kv) := by
  refine ⟨hO.pN _ (.inr (Nat.le_refl _)) _ _ _ _ _, kv, rfl, ?_, putN_far hA (fun e => hg e.symm) _ _ _ _ _⟩
  rw [putN_size]
  exact KAt.keep (fun b hb => putN_block _ _ _ _ _ _ _ b (by have := hb.1; omega) hb.2) (fun b hb => ⟨by have := hb.1; omega, hb.2⟩) _ _ hK
set_option maxRecDepth 100000 in
theorem oneX (f : Nat → Bool) (w : World) : Calls Tryz.prog 119 #[setOf f] w fun e w' => e = .returned (nodeV (one f) (.slice none 0 0)) ∧ Below w.heap.size w w' := by
  unfold setOf
  go_enter Tryz.func119, Tryz.ntmps119
  go_wp2
  go_returns
  exact ⟨rfl, by go_grown⟩
set_option maxRecDepth 100000 in
set_option maxHeartbeats 3200000 in
theorem atomX (g : Nat) (s : ByteArray) (p o : Nat) (w : World) (h : AtG w g 94 (rxr s p o)) (hp : p ≤ s.size) (hs : s.size ≤ 900) (h40 : ¬ ch s p = 40) :
    Calls Tryz.prog 106 #[.pointer (some ⟨g, 0, none⟩)] w (RxN g s o w (atomF s p)) := by
  have HS := Lib.hid hs
  have HG := Lib.hid (show ¬ w.heap.size = g by have := h.lt; omega)
  have HA0 := Lib.hid (h.alloc (.cells nodeZ 41))
  have HZ0 := Lib.hid (AtG.new w 41 nodeZ)
  have HO0 := Lib.hid ((Only.refl (S := fun k => k = g) w).al (.cells nodeZ 41))
  by_cases hlt : p < s.size
  · have hl0 := ch_pos hlt
    have hl2 := (ch_lt s p).2
    have hpI : (p : Int) < 1000 := by omega
    have HPL := Lib.hid hlt
    have HN := Lib.hid (nextX_in g s p o _ HA0.out hlt (by omega))
    have HF := Lib.hid (show atomF s p = if ch s p = 91 then (classF s (p + 1)).map one
  else if ch s p = 46 then .ok (one fun y => !(y == 10)) (p + 1)
  else if ch s p = 92 then (match wideF (ch s (p + 1)) with | some f => .ok (one f) (p + 2) | none => (escF s (p + 1)).map fun c => one (fun y => y == c))
  else if ch s p = 42 ∨ ch s p = 43 then .no 3 p
  else if ch s p ∈ brk then .no 2 p
  else .ok (one fun y => y == (ch s p).toNat) (p + 1) from by unfold atomF; rw [if_neg (by omega)]; rfl)
    generalize atomF s p = R at *
    generalize ch s p = d at *
    have e40 : (d == 40) = false := by rw [beq_eq_false_iff_ne]; exact h40
    clear h hlt hp
    go_enter Tryz.func106, Tryz.ntmps106
    go_wp2_with fail
    refine (HN.out).mono ?_
    rintro e9 w1 ⟨rfl, ho, ha⟩
    have HA1 := Lib.hid ha; have HZ1 := Lib.hid (HZ0.out.only ho HG.out); have HO1 := Lib.hid (HO0.out.tr ho)
    clear ho ha HN HA0 HZ0 HO0
    by_cases h91 : d = 91
    · have HR1 := Lib.hid (HF.out.trans (if_pos h91))
      have HC := Lib.hid (classX g s (p + 1) o w1 HA1.out HPL.out HS.out)
      subst h91
      clear HF e40
      go_wp2_with fail
      refine (HC.out).mono ?_
      cases hcf : classF s (p + 1) with
      | no c x =>
        rw [hcf] at HR1
        rintro e9 w2 ⟨ho, b, rfl, hx⟩
        refine ⟨rfl, ?_⟩
        rw [HR1.out]
        exact ⟨HO1.out.tr ho, b, rfl, hx⟩
      | ok F q =>
        rw [hcf] at HR1
        have HR := Lib.hid (show R = .ok (one F) q from HR1.out)
        rintro e9 w2 ⟨ho, rfl, ha⟩
        have HA2 := Lib.hid ha; have HZ2 := Lib.hid (HZ1.out.only ho HG.out); have HO2 := Lib.hid (HO1.out.tr ho)
        clear ho ha hcf HC HR1 HA1 HZ1 HO1
        go_wp2_with fail
        refine (oneX (F) _).mono ?_
        rintro e9 wn ⟨rfl, hb⟩
        have HAn := Lib.hid (HA2.out.below hb); have HZn := Lib.hid (HZ2.out.below hb); have HOn := Lib.hid (HO2.out.tb hb)
        have HSZ := Lib.hid (show w.heap.size < wn.heap.size from HZn.out.lt)
        clear hb
        have d0 : wn.cell? ⟨w.heap.size, 0, none⟩ = some (.int .i64 0) := (HZn.out).cell 0 _ rfl
        have d1 : wn.cell? ⟨w.heap.size, 1, none⟩ = some (.int .u64 0) := (HZn.out).cell 1 _ rfl
        have d2 : wn.cell? ⟨w.heap.size, 2, none⟩ = some (.int .u64 0) := (HZn.out).cell 2 _ rfl
        have d3 : wn.cell? ⟨w.heap.size, 3, none⟩ = some (.int .u64 0) := (HZn.out).cell 3 _ rfl
        have d4 : wn.cell? ⟨w.heap.size, 4, none⟩ = some (.int .u64 0) := (HZn.out).cell 4 _ rfl
        have d5 : wn.cell? ⟨w.heap.size, 5, none⟩ = some (.int .i64 0) := (HZn.out).cell 5 _ rfl
        have d6 : wn.cell? ⟨w.heap.size, 6, none⟩ = some (.int .i64 0) := (HZn.out).cell 6 _ rfl
        have d7 : wn.cell? ⟨w.heap.size, 7, none⟩ = some (.slice none 0 0) := (HZn.out).cell 7 _ rfl
        have f0 := (HZn.out).frozen 0; have f1 := (HZn.out).frozen 1; have f2 := (HZn.out).frozen 2; have f3 := (HZn.out).frozen 3
        have f4 := (HZn.out).frozen 4; have f5 := (HZn.out).frozen 5; have f6 := (HZn.out).frozen 6; have f7 := (HZn.out).frozen 7
        unfold nodeV one
        dsimp only
        go_wp2_with fail
        refine bodyPost_ret (v := nodeV (one (F)) (.slice none 0 0)) (by simp [results, Tryz.results106, go_sem, d0, d1, d2, d3, d4, d5, d6, d7]; try rfl) rfl ?_
        rw [HR.out]
        exact rxn_post HOn.out HAn.out HG.out HSZ.out (kat_one _ _ _ _ _ _)
    have e91 : (d == 91) = false := by rw [beq_eq_false_iff_ne]; exact h91
    have HF1 := Lib.hid (HF.out.trans (if_neg h91))
    clear HF
    by_cases h46 : d = 46
    · have HR := Lib.hid (HF1.out.trans (if_pos h46))
      subst h46
      clear HF1 e40 e91
      have HOF := Lib.hid (ofP _ (w1).heap.size (10) (by decide) (by decide) (AtG.new (w1) 5 #[.int .u8 (10)]))
      go_wp2_with fail
      refine (HOF.out).mono ?_
      rintro e9 wo ⟨rfl, hb⟩
      have HAo := Lib.hid ((HA1.out.alloc _).below hb); have HZo := Lib.hid ((HZ1.out.alloc _).below hb); have HOo := Lib.hid ((HO1.out.al (.cells #[.int .u8 (10)] 5)).tb hb)
      clear hb HOF
      go_wp2_with fail
      refine (not_any _ _).mono ?_
      rintro e9 wp ⟨rfl, hb⟩
      have HAp := Lib.hid (HAo.out.below hb); have HZp := Lib.hid (HZo.out.below hb); have HOp := Lib.hid (HOo.out.tb hb)
      clear hb HAo HZo HOo
      go_wp2_with fail
      refine (oneX (fun y => !(y == 10)) _).mono ?_
      rintro e9 wn ⟨rfl, hb⟩
      have HAn := Lib.hid (HAp.out.below hb); have HZn := Lib.hid (HZp.out.below hb); have HOn := Lib.hid (HOp.out.tb hb)
      have HSZ := Lib.hid (show w.heap.size < wn.heap.size from HZn.out.lt)
      clear hb
      have d0 : wn.cell? ⟨w.heap.size, 0, none⟩ = some (.int .i64 0) := (HZn.out).cell 0 _ rfl
      have d1 : wn.cell? ⟨w.heap.size, 1, none⟩ = some (.int .u64 0) := (HZn.out).cell 1 _ rfl
      have d2 : wn.cell? ⟨w.heap.size, 2, none⟩ = some (.int .u64 0) := (HZn.out).cell 2 _ rfl
      have d3 : wn.cell? ⟨w.heap.size, 3, none⟩ = some (.int .u64 0) := (HZn.out).cell 3 _ rfl
      have d4 : wn.cell? ⟨w.heap.size, 4, none⟩ = some (.int .u64 0) := (HZn.out).cell 4 _ rfl
      have d5 : wn.cell? ⟨w.heap.size, 5, none⟩ = some (.int .i64 0) := (HZn.out).cell 5 _ rfl
      have d6 : wn.cell? ⟨w.heap.size, 6, none⟩ = some (.int .i64 0) := (HZn.out).cell 6 _ rfl
      have d7 : wn.cell? ⟨w.heap.size, 7, none⟩ = some (.slice none 0 0) := (HZn.out).cell 7 _ rfl
      have f0 := (HZn.out).frozen 0; have f1 := (HZn.out).frozen 1; have f2 := (HZn.out).frozen 2; have f3 := (HZn.out).frozen 3
      have f4 := (HZn.out).frozen 4; have f5 := (HZn.out).frozen 5; have f6 := (HZn.out).frozen 6; have f7 := (HZn.out).frozen 7
      unfold nodeV one
      dsimp only
      go_wp2_with fail
      refine bodyPost_ret (v := nodeV (one (fun y => !(y == 10))) (.slice none 0 0)) (by simp [results, Tryz.results106, go_sem, d0, d1, d2, d3, d4, d5, d6, d7]; try rfl) rfl ?_
      rw [HR.out]
      exact rxn_post HOn.out HAn.out HG.out HSZ.out (kat_one _ _ _ _ _ _)
    have e46 : (d == 46) = false := by rw [beq_eq_false_iff_ne]; exact h46
    have HF2 := Lib.hid (HF1.out.trans (if_neg h46))
    clear HF1
    by_cases h92 : d = 92
    · have HR1 := Lib.hid (HF2.out.trans (if_pos h92))
      subst h92
      clear HF2 e40 e91 e46
      by_cases hq : p + 1 < s.size
      · have HPK := Lib.hid (peekX_in g s (p + 1) o w1 HA1.out hq)
        have HWD := Lib.hid (wideX (ch s (p + 1)))
        cases hwd : wideF (ch s (p + 1)) with
        | some F =>
          have hwv : wideV (ch s (p + 1)) = .tuple #[setOf F, .bool true] := by unfold wideV; rw [hwd]
          rw [hwv] at HWD
          rw [hwd] at HR1
          have HR := Lib.hid (show R = .ok (one F) (p + 2) from HR1.out)
          generalize ch s (p + 1) = c1 at *
          clear hwd hwv HR1 hq
          go_wp2_with fail
          refine (HPK.out).mono ?_
          rintro e9 w2 ⟨rfl, hb⟩
          have HA2 := Lib.hid (HA1.out.below hb); have HZ2 := Lib.hid (HZ1.out.below hb); have HO2 := Lib.hid (HO1.out.tb hb)
          clear hb HPK HA1 HZ1 HO1
          go_wp2_with fail
          refine (HWD.out _).mono ?_
          rintro e9 w3 ⟨rfl, hb⟩
          have HA3 := Lib.hid (HA2.out.below hb); have HZ3 := Lib.hid (HZ2.out.below hb); have HO3 := Lib.hid (HO2.out.tb hb)
          clear hb HWD HA2 HZ2 HO2
          unfold setOf
          go_upto_region 14 with (fail)
          obtain ⟨W, hW⟩ : ∃ W : World, W = w3.alloc (.cells (cellsOf F) 38) := ⟨_, rfl⟩
          have hW' : w3.alloc (.cells #[.int .u64 ((wd F 0 : Nat) : Int), .int .u64 ((wd F 1 : Nat) : Int), .int .u64 ((wd F 2 : Nat) : Int), .int .u64 ((wd F 3 : Nat) : Int)] 38) = W := hW.symm
          have HSW : Hid (AtG W w3.heap.size 38 (cellsOf F)) := Lib.hid (by rw [hW]; exact AtG.new _ _ _)
          have HAW : Hid (AtG W g 94 (rxr s ((p + 1 : Nat) : Int) (o : Int))) := Lib.hid (by rw [hW]; exact HA3.out.alloc _)
          have HZW : Hid (AtG W w.heap.size 41 nodeZ) := Lib.hid (by rw [hW]; exact HZ3.out.alloc _)
          have HOW : Hid (Only (fun k => k = g) w W) := Lib.hid (by rw [hW]; exact HO3.out.al _)
          have HGW : Hid (w3.heap.size ≠ g) := Lib.hid (by have := HA3.out.lt; omega)
          rw [hW']
          clear hW hW' HA3 HZ3 HO3
          have z1 : W.cell? ⟨g, 1, none⟩ = some (.int .i64 ((p + 1 : Nat) : Int)) := HAW.out.cell 1 _ rfl
          rw [show ((p + 1 : Nat) : Int) = (p : Int) + 1 from by omega] at z1
          have y1 := HAW.out.frozen 1
          have HA4 : Hid (AtG (W.setCell ⟨g, 1, none⟩ (.int .i64 ((p : Int) + 1 + 1))) g 94 (rxr s ((p + 2 : Nat) : Int) o)) := Lib.hid (by
            rw [show ((p + 2 : Nat) : Int) = (p : Int) + 1 + 1 from by omega]; exact HAW.out.set 1 _)
          have HZ4 := Lib.hid (HZW.out.far (p := ⟨g, 1, none⟩) (fun e => HG.out e) (.int .i64 ((p : Int) + 1 + 1)))
          have HS4 := Lib.hid (HSW.out.far (p := ⟨g, 1, none⟩) (fun e => HGW.out e) (.int .i64 ((p : Int) + 1 + 1)))
          have HO4 := Lib.hid (HOW.out.st g 1 (.int .i64 ((p : Int) + 1 + 1)) (.inl rfl))
          go_upto_region 15 with (fail)
          have hst : ∀ x : Int, x = (p : Int) + 1 + 1 → W.setCell ⟨g, 1, none⟩ (.int .i64 x) = W.setCell ⟨g, 1, none⟩ (.int .i64 ((p : Int) + 1 + 1)) := fun x hx => by rw [hx]
          obtain ⟨wq, hwq⟩ : ∃ wq : World, wq = W.setCell ⟨g, 1, none⟩ (.int .i64 ((p : Int) + 1 + 1)) := ⟨_, rfl⟩
          first | rw [← hwq] | (rw [hst _ (by omega), ← hwq])
          rw [← hwq] at HA4 HZ4 HS4 HO4
          clear hwq hst z1 y1 HAW HZW HSW HOW
          have t0 : wq.cell? ⟨w3.heap.size, 0, none⟩ = some (.int .u64 ((wd F 0 : Nat) : Int)) := HS4.out.cell 0 _ rfl
          have t1 : wq.cell? ⟨w3.heap.size, 1, none⟩ = some (.int .u64 ((wd F 1 : Nat) : Int)) := HS4.out.cell 1 _ rfl
          have t2 : wq.cell? ⟨w3.heap.size, 2, none⟩ = some (.int .u64 ((wd F 2 : Nat) : Int)) := HS4.out.cell 2 _ rfl
          have t3 : wq.cell? ⟨w3.heap.size, 3, none⟩ = some (.int .u64 ((wd F 3 : Nat) : Int)) := HS4.out.cell 3 _ rfl
          go_wp2_with fail
          refine (oneX (F) _).mono ?_
          rintro e9 wn ⟨rfl, hb⟩
          have HAn := Lib.hid (HA4.out.below hb); have HZn := Lib.hid (HZ4.out.below hb); have HOn := Lib.hid (HO4.out.tb hb)
          have HSZ := Lib.hid (show w.heap.size < wn.heap.size from HZn.out.lt)
          clear hb
          have d0 : wn.cell? ⟨w.heap.size, 0, none⟩ = some (.int .i64 0) := (HZn.out).cell 0 _ rfl
          have d1 : wn.cell? ⟨w.heap.size, 1, none⟩ = some (.int .u64 0) := (HZn.out).cell 1 _ rfl
          have d2 : wn.cell? ⟨w.heap.size, 2, none⟩ = some (.int .u64 0) := (HZn.out).cell 2 _ rfl
          have d3 : wn.cell? ⟨w.heap.size, 3, none⟩ = some (.int .u64 0) := (HZn.out).cell 3 _ rfl
          have d4 : wn.cell? ⟨w.heap.size, 4, none⟩ = some (.int .u64 0) := (HZn.out).cell 4 _ rfl
          have d5 : wn.cell? ⟨w.heap.size, 5, none⟩ = some (.int .i64 0) := (HZn.out).cell 5 _ rfl
          have d6 : wn.cell? ⟨w.heap.size, 6, none⟩ = some (.int .i64 0) := (HZn.out).cell 6 _ rfl
          have d7 : wn.cell? ⟨w.heap.size, 7, none⟩ = some (.slice none 0 0) := (HZn.out).cell 7 _ rfl
          have f0 := (HZn.out).frozen 0; have f1 := (HZn.out).frozen 1; have f2 := (HZn.out).frozen 2; have f3 := (HZn.out).frozen 3
          have f4 := (HZn.out).frozen 4; have f5 := (HZn.out).frozen 5; have f6 := (HZn.out).frozen 6; have f7 := (HZn.out).frozen 7
          unfold nodeV one
          dsimp only
          go_wp2_with fail
          refine bodyPost_ret (v := nodeV (one (F)) (.slice none 0 0)) (by simp [results, Tryz.results106, go_sem, d0, d1, d2, d3, d4, d5, d6, d7]; try rfl) rfl ?_
          rw [HR.out]
          exact rxn_post HOn.out HAn.out HG.out HSZ.out (kat_one _ _ _ _ _ _)
        | none =>
          have hwv : wideV (ch s (p + 1)) = .tuple #[setOf emp, .bool false] := by unfold wideV; rw [hwd]
          rw [hwv] at HWD
          rw [hwd] at HR1
          dsimp only at HR1
          generalize ch s (p + 1) = c1 at *
          clear hwd hwv hq
          go_wp2_with fail
          refine (HPK.out).mono ?_
          rintro e9 w2 ⟨rfl, hb⟩
          have HA2 := Lib.hid (HA1.out.below hb); have HZ2 := Lib.hid (HZ1.out.below hb); have HO2 := Lib.hid (HO1.out.tb hb)
          clear hb HPK HA1 HZ1 HO1
          go_wp2_with fail
          refine (HWD.out _).mono ?_
          rintro e9 w3 ⟨rfl, hb⟩
          have HA3 := Lib.hid (HA2.out.below hb); have HZ3 := Lib.hid (HZ2.out.below hb); have HO3 := Lib.hid (HO2.out.tb hb)
          clear hb HWD HA2 HZ2 HO2
          unfold setOf
          go_upto_region 16 with (fail)
          obtain ⟨W, hW⟩ : ∃ W : World, W = w3.alloc (.cells (cellsOf emp) 38) := ⟨_, rfl⟩
          have hW' : w3.alloc (.cells #[.int .u64 ((wd emp 0 : Nat) : Int), .int .u64 ((wd emp 1 : Nat) : Int), .int .u64 ((wd emp 2 : Nat) : Int), .int .u64 ((wd emp 3 : Nat) : Int)] 38) = W := hW.symm
          have HAW : Hid (AtG W g 94 (rxr s ((p + 1 : Nat) : Int) (o : Int))) := Lib.hid (by rw [hW]; exact HA3.out.alloc _)
          have HZW : Hid (AtG W w.heap.size 41 nodeZ) := Lib.hid (by rw [hW]; exact HZ3.out.alloc _)
          have HOW : Hid (Only (fun k => k = g) w W) := Lib.hid (by rw [hW]; exact HO3.out.al _)
          rw [hW']
          clear hW hW' HA3 HZ3 HO3
          have HEC := Lib.hid (escX g s (p + 1) o W HAW.out HPL.out HS.out)
          go_wp2_with fail
          refine (HEC.out).mono ?_
          cases hef : escF s (p + 1) with
          | no c x =>
            rw [hef] at HR1
            rintro e9 w3 ⟨ho, b, rfl, hx⟩
            refine ⟨rfl, ?_⟩
            rw [HR1.out]
            exact ⟨HOW.out.tr ho, b, rfl, hx⟩
          | ok c q =>
            rw [hef] at HR1
            have HR := Lib.hid (show R = .ok (one fun y => y == c) q from HR1.out)
            have hin := escF_in s (p + 1) HPL.out
            rw [hef] at hin
            have hc : c < 256 := hin.2 c q rfl
            have hcI : (c : Int) < 256 := by omega
            rintro e9 w3 ⟨ho, rfl, ha⟩
            have HA3 := Lib.hid ha; have HZ3 := Lib.hid (HZW.out.only ho HG.out); have HO3 := Lib.hid (HOW.out.tr ho)
            clear ho ha hin hef HEC HR1 hc
            have HOF := Lib.hid (ofP _ w3.heap.size (c : Int) (by omega) hcI (AtG.new w3 5 #[.int .u8 (c : Int)]))
            rw [Int.toNat_natCast] at HOF
            go_wp2_with fail
            refine (HOF.out).mono ?_
            rintro e9 wo ⟨rfl, hb⟩
            have HAo := Lib.hid ((HA3.out.alloc _).below hb); have HZo := Lib.hid ((HZ3.out.alloc _).below hb); have HOo := Lib.hid ((HO3.out.al (.cells #[.int .u8 (c : Int)] 5)).tb hb)
            clear hb HOF
            go_wp2_with fail
            refine (oneX (fun y => y == c) _).mono ?_
            rintro e9 wn ⟨rfl, hb⟩
            have HAn := Lib.hid (HAo.out.below hb); have HZn := Lib.hid (HZo.out.below hb); have HOn := Lib.hid (HOo.out.tb hb)
            have HSZ := Lib.hid (show w.heap.size < wn.heap.size from HZn.out.lt)
            clear hb
            have d0 : wn.cell? ⟨w.heap.size, 0, none⟩ = some (.int .i64 0) := (HZn.out).cell 0 _ rfl
            have d1 : wn.cell? ⟨w.heap.size, 1, none⟩ = some (.int .u64 0) := (HZn.out).cell 1 _ rfl
            have d2 : wn.cell? ⟨w.heap.size, 2, none⟩ = some (.int .u64 0) := (HZn.out).cell 2 _ rfl
            have d3 : wn.cell? ⟨w.heap.size, 3, none⟩ = some (.int .u64 0) := (HZn.out).cell 3 _ rfl
            have d4 : wn.cell? ⟨w.heap.size, 4, none⟩ = some (.int .u64 0) := (HZn.out).cell 4 _ rfl
            have d5 : wn.cell? ⟨w.heap.size, 5, none⟩ = some (.int .i64 0) := (HZn.out).cell 5 _ rfl
            have d6 : wn.cell? ⟨w.heap.size, 6, none⟩ = some (.int .i64 0) := (HZn.out).cell 6 _ rfl
            have d7 : wn.cell? ⟨w.heap.size, 7, none⟩ = some (.slice none 0 0) := (HZn.out).cell 7 _ rfl
            have f0 := (HZn.out).frozen 0; have f1 := (HZn.out).frozen 1; have f2 := (HZn.out).frozen 2; have f3 := (HZn.out).frozen 3
            have f4 := (HZn.out).frozen 4; have f5 := (HZn.out).frozen 5; have f6 := (HZn.out).frozen 6; have f7 := (HZn.out).frozen 7
            unfold nodeV one
            dsimp only
            go_wp2_with fail
            refine bodyPost_ret (v := nodeV (one (fun y => y == c)) (.slice none 0 0)) (by simp [results, Tryz.results106, go_sem, d0, d1, d2, d3, d4, d5, d6, d7]; try rfl) rfl ?_
            rw [HR.out]
            exact rxn_post HOn.out HAn.out HG.out HSZ.out (kat_one _ _ _ _ _ _)
      · have hqe : p + 1 = s.size := by have := HPL.out; omega
        have HPK := Lib.hid (peekX_end g s (p + 1) o w1 HA1.out hqe)
        have hwd : wideF (ch s (p + 1)) = none := by rw [ch_end (by omega)]; rfl
        rw [hwd] at HR1
        dsimp only at HR1
        clear hwd hq hqe
        go_wp2_with fail
        refine (HPK.out).mono ?_
        rintro e9 w2 ⟨rfl, hb⟩
        have HA2 := Lib.hid (HA1.out.below hb); have HZ2 := Lib.hid (HZ1.out.below hb); have HO2 := Lib.hid (HO1.out.tb hb)
        clear hb HPK HA1 HZ1 HO1
        have HEC := Lib.hid (escX g s (p + 1) o w2 HA2.out HPL.out HS.out)
        go_wp2_with fail
        refine (HEC.out).mono ?_
        cases hef : escF s (p + 1) with
        | no c x =>
          rw [hef] at HR1
          rintro e9 w3 ⟨ho, b, rfl, hx⟩
          refine ⟨rfl, ?_⟩
          rw [HR1.out]
          exact ⟨HO2.out.tr ho, b, rfl, hx⟩
        | ok c q =>
          rw [hef] at HR1
          have HR := Lib.hid (show R = .ok (one fun y => y == c) q from HR1.out)
          have hin := escF_in s (p + 1) HPL.out
          rw [hef] at hin
          have hc : c < 256 := hin.2 c q rfl
          have hcI : (c : Int) < 256 := by omega
          rintro e9 w3 ⟨ho, rfl, ha⟩
          have HA3 := Lib.hid ha; have HZ3 := Lib.hid (HZ2.out.only ho HG.out); have HO3 := Lib.hid (HO2.out.tr ho)
          clear ho ha hin hef HEC HR1 hc
          have HOF := Lib.hid (ofP _ w3.heap.size (c : Int) (by omega) hcI (AtG.new w3 5 #[.int .u8 (c : Int)]))
          rw [Int.toNat_natCast] at HOF
          go_wp2_with fail
          refine (HOF.out).mono ?_
          rintro e9 wo ⟨rfl, hb⟩
          have HAo := Lib.hid ((HA3.out.alloc _).below hb); have HZo := Lib.hid ((HZ3.out.alloc _).below hb); have HOo := Lib.hid ((HO3.out.al (.cells #[.int .u8 (c : Int)] 5)).tb hb)
          clear hb HOF
          go_wp2_with fail
          refine (oneX (fun y => y == c) _).mono ?_
          rintro e9 wn ⟨rfl, hb⟩
          have HAn := Lib.hid (HAo.out.below hb); have HZn := Lib.hid (HZo.out.below hb); have HOn := Lib.hid (HOo.out.tb hb)
          have HSZ := Lib.hid (show w.heap.size < wn.heap.size from HZn.out.lt)
          clear hb
          have d0 : wn.cell? ⟨w.heap.size, 0, none⟩ = some (.int .i64 0) := (HZn.out).cell 0 _ rfl
          have d1 : wn.cell? ⟨w.heap.size, 1, none⟩ = some (.int .u64 0) := (HZn.out).cell 1 _ rfl
          have d2 : wn.cell? ⟨w.heap.size, 2, none⟩ = some (.int .u64 0) := (HZn.out).cell 2 _ rfl
          have d3 : wn.cell? ⟨w.heap.size, 3, none⟩ = some (.int .u64 0) := (HZn.out).cell 3 _ rfl
          have d4 : wn.cell? ⟨w.heap.size, 4, none⟩ = some (.int .u64 0) := (HZn.out).cell 4 _ rfl
          have d5 : wn.cell? ⟨w.heap.size, 5, none⟩ = some (.int .i64 0) := (HZn.out).cell 5 _ rfl
          have d6 : wn.cell? ⟨w.heap.size, 6, none⟩ = some (.int .i64 0) := (HZn.out).cell 6 _ rfl
          have d7 : wn.cell? ⟨w.heap.size, 7, none⟩ = some (.slice none 0 0) := (HZn.out).cell 7 _ rfl
          have f0 := (HZn.out).frozen 0; have f1 := (HZn.out).frozen 1; have f2 := (HZn.out).frozen 2; have f3 := (HZn.out).frozen 3
          have f4 := (HZn.out).frozen 4; have f5 := (HZn.out).frozen 5; have f6 := (HZn.out).frozen 6; have f7 := (HZn.out).frozen 7
          unfold nodeV one
          dsimp only
          go_wp2_with fail
          refine bodyPost_ret (v := nodeV (one (fun y => y == c)) (.slice none 0 0)) (by simp [results, Tryz.results106, go_sem, d0, d1, d2, d3, d4, d5, d6, d7]; try rfl) rfl ?_
          rw [HR.out]
          exact rxn_post HOn.out HAn.out HG.out HSZ.out (kat_one _ _ _ _ _ _)
    have e92 : (d == 92) = false := by rw [beq_eq_false_iff_ne]; exact h92
    have HF3 := Lib.hid (HF2.out.trans (if_neg h92))
    clear HF2
    have z1 : w1.cell? ⟨g, 1, none⟩ = some (.int .i64 ((p + 1 : Nat) : Int)) := HA1.out.cell 1 _ rfl
    rw [show ((p + 1 : Nat) : Int) = (p : Int) + 1 from by omega] at z1
    by_cases h42 : d = 42
    · have HR := Lib.hid (HF3.out.trans (if_pos (.inl h42)))
      subst h42
      clear HF3 e40 e91 e46 e92
      go_wp2_with fail
      refine (failX g p 3 _).mono ?_
      rintro e9 w2 ⟨hb2, b, rfl, hx⟩
      refine ⟨rfl, ?_⟩
      rw [HR.out]
      exact ⟨HO1.out.tb hb2, b, rfl, hx⟩
    by_cases h43 : d = 43
    · have HR := Lib.hid (HF3.out.trans (if_pos (.inr h43)))
      subst h43
      clear HF3 e40 e91 e46 e92
      go_wp2_with fail
      refine (failX g p 3 _).mono ?_
      rintro e9 w2 ⟨hb2, b, rfl, hx⟩
      refine ⟨rfl, ?_⟩
      rw [HR.out]
      exact ⟨HO1.out.tb hb2, b, rfl, hx⟩
    have e42 : (d == 42) = false := by rw [beq_eq_false_iff_ne]; exact h42
    have e43 : (d == 43) = false := by rw [beq_eq_false_iff_ne]; exact h43
    have HF4 := Lib.hid (HF3.out.trans (if_neg (fun h => h.elim h42 h43)))
    clear HF3
    by_cases hbk : d ∈ brk
    · have HR := Lib.hid (HF4.out.trans (if_pos hbk))
      have hbk' : d = 93 ∨ d = 41 ∨ d = 125 ∨ d = 123 ∨ d = 124 ∨ d = 63 ∨ d = 94 ∨ d = 36 := by unfold brk at hbk; simpa using hbk
      clear HF4 hbk
      rcases hbk' with rfl | rfl | rfl | rfl | rfl | rfl | rfl | rfl
      all_goals (go_wp2_with fail; refine (failX g p 2 _).mono ?_; rintro e9 w2 ⟨hb2, b, rfl, hx⟩; refine ⟨rfl, ?_⟩; rw [HR.out]; exact ⟨HO1.out.tb hb2, b, rfl, hx⟩)
    · have HR := Lib.hid (HF4.out.trans (if_neg hbk))
      have hbk' : ¬ d = 93 ∧ ¬ d = 41 ∧ ¬ d = 125 ∧ ¬ d = 123 ∧ ¬ d = 124 ∧ ¬ d = 63 ∧ ¬ d = 94 ∧ ¬ d = 36 := by unfold brk at hbk; simpa using hbk
      obtain ⟨b1, b2, b3, b4, b5, b6, b7, b8⟩ := hbk'
      have c1 : (d == 93) = false := by rw [beq_eq_false_iff_ne]; exact b1
      have c2 : (d == 41) = false := by rw [beq_eq_false_iff_ne]; exact b2
      have c3 : (d == 125) = false := by rw [beq_eq_false_iff_ne]; exact b3
      have c4 : (d == 123) = false := by rw [beq_eq_false_iff_ne]; exact b4
      have c5 : (d == 124) = false := by rw [beq_eq_false_iff_ne]; exact b5
      have c6 : (d == 63) = false := by rw [beq_eq_false_iff_ne]; exact b6
      have c7 : (d == 94) = false := by rw [beq_eq_false_iff_ne]; exact b7
      have c8 : (d == 36) = false := by rw [beq_eq_false_iff_ne]; exact b8
      clear HF4 hbk z1
      have HOF := Lib.hid (ofP _ (w1).heap.size (d) (hl0) (hl2) (AtG.new (w1) 5 #[.int .u8 (d)]))
      go_wp2_with fail
      refine (HOF.out).mono ?_
      rintro e9 wo ⟨rfl, hb⟩
      have HAo := Lib.hid ((HA1.out.alloc _).below hb); have HZo := Lib.hid ((HZ1.out.alloc _).below hb); have HOo := Lib.hid ((HO1.out.al (.cells #[.int .u8 (d)] 5)).tb hb)
      clear hb HOF
      go_wp2_with fail
      refine (oneX (fun y => y == d.toNat) _).mono ?_
      rintro e9 wn ⟨rfl, hb⟩
      have HAn := Lib.hid (HAo.out.below hb); have HZn := Lib.hid (HZo.out.below hb); have HOn := Lib.hid (HOo.out.tb hb)
      have HSZ := Lib.hid (show w.heap.size < wn.heap.size from HZn.out.lt)
      clear hb
      have d0 : wn.cell? ⟨w.heap.size, 0, none⟩ = some (.int .i64 0) := (HZn.out).cell 0 _ rfl
      have d1 : wn.cell? ⟨w.heap.size, 1, none⟩ = some (.int .u64 0) := (HZn.out).cell 1 _ rfl
      have d2 : wn.cell? ⟨w.heap.size, 2, none⟩ = some (.int .u64 0) := (HZn.out).cell 2 _ rfl
      have d3 : wn.cell? ⟨w.heap.size, 3, none⟩ = some (.int .u64 0) := (HZn.out).cell 3 _ rfl
      have d4 : wn.cell? ⟨w.heap.size, 4, none⟩ = some (.int .u64 0) := (HZn.out).cell 4 _ rfl
      have d5 : wn.cell? ⟨w.heap.size, 5, none⟩ = some (.int .i64 0) := (HZn.out).cell 5 _ rfl
      have d6 : wn.cell? ⟨w.heap.size, 6, none⟩ = some (.int .i64 0) := (HZn.out).cell 6 _ rfl
      have d7 : wn.cell? ⟨w.heap.size, 7, none⟩ = some (.slice none 0 0) := (HZn.out).cell 7 _ rfl
      have f0 := (HZn.out).frozen 0; have f1 := (HZn.out).frozen 1; have f2 := (HZn.out).frozen 2; have f3 := (HZn.out).frozen 3
      have f4 := (HZn.out).frozen 4; have f5 := (HZn.out).frozen 5; have f6 := (HZn.out).frozen 6; have f7 := (HZn.out).frozen 7
      unfold nodeV one
      dsimp only
      go_wp2_with fail
      refine bodyPost_ret (v := nodeV (one (fun y => y == d.toNat)) (.slice none 0 0)) (by simp [results, Tryz.results106, go_sem, d0, d1, d2, d3, d4, d5, d6, d7]; try rfl) rfl ?_
      rw [HR.out]
      exact rxn_post HOn.out HAn.out HG.out HSZ.out (kat_one _ _ _ _ _ _)
  · have hpe : p = s.size := by omega
    have HN := Lib.hid (nextX_end g s p o _ HA0.out hpe)
    have HR := Lib.hid (show atomF s p = .no 2 p from by unfold atomF; rw [if_pos (by rw [ch_end (by omega)]; decide)])
    clear h hpe hlt hp h40
    generalize atomF s p = R at *
    go_enter Tryz.func106, Tryz.ntmps106
    go_wp2_with fail
    refine (HN.out).mono ?_
    rintro e9 w1 ⟨ho, b, rfl, hx⟩
    refine ⟨rfl, ?_⟩
    rw [HR.out]
    exact ⟨HO0.out.tr ho, b, rfl, hx⟩
end Go.Proofs.YtgjcibhhffkemaaGreatDoor
/- The program's reader of patterns: many, group, atoms. -/
set_option linter.unusedVariables false
set_option linter.unusedSimpArgs false
namespace Go.Proofs.YtgjcibhhffkemaaGreatDoor
open Go.RowKit Bt
theorem manyX_one (op : Int) (b cap : Nat) (t : Tree) (a' : Option Addr) (n' c' : Nat) (w : World) (h : ∀ i, i < 8 → w.cell? ⟨b, i, none⟩ = (nodeL t (.slice a' n' c'))[i]?) :
    Calls Tryz.prog 85 #[.int .i64 op, .slice (some ⟨b, 0, none⟩) 1 cap] w fun e w' => e = .returned (nodeV t (.slice a' n' c')) ∧ Below w.heap.size w w' := by
  obtain ⟨op', f, mn, mx, kids⟩ := t
  have hb : b < w.heap.size := World.block_lt_of_cell? w _ (h 0 (by omega))
  have hne : ¬ b = w.heap.size := by omega
  have z0 : w.cell? ⟨b, 0, none⟩ = some (.int .i64 op') := h 0 (by omega)
  have z1 : w.cell? ⟨b, 1, none⟩ = some (.int .u64 ((wd f 0 : Nat) : Int)) := h 1 (by omega)
  have z2 : w.cell? ⟨b, 2, none⟩ = some (.int .u64 ((wd f 1 : Nat) : Int)) := h 2 (by omega)
  have z3 : w.cell? ⟨b, 3, none⟩ = some (.int .u64 ((wd f 2 : Nat) : Int)) := h 3 (by omega)
  have z4 : w.cell? ⟨b, 4, none⟩ = some (.int .u64 ((wd f 3 : Nat) : Int)) := h 4 (by omega)
  have z5 : w.cell? ⟨b, 5, none⟩ = some (.int .i64 mn) := h 5 (by omega)
  have z6 : w.cell? ⟨b, 6, none⟩ = some (.int .i64 mx) := h 6 (by omega)
  have z7 : w.cell? ⟨b, 7, none⟩ = some (.slice a' n' c') := h 7 (by omega)
  clear h
  unfold nodeV
  dsimp only
  go_enter Tryz.func85, Tryz.ntmps85
  go_wp2
  go_returns
  exact ⟨rfl, by go_grown⟩
theorem manyX_more (op : Int) (a : Option Addr) (n cap : Nat) (w : World) (h : n ≠ 1) (hn : n ≤ 1000) :
    Calls Tryz.prog 85 #[.int .i64 op, .slice a n cap] w fun e w' => e = .returned (.agg #[.int .i64 op, .int .u64 0, .int .u64 0, .int .u64 0, .int .u64 0, .int .i64 0, .int .i64 0, .slice a n cap]) ∧ Below w.heap.size w w' := by
  have e1 : ((n : Int) == 1) = false := by rw [beq_eq_false_iff_ne]; omega
  have h1 : ¬ (n : Int) = 1 := by omega
  go_enter Tryz.func85, Tryz.ntmps85
  go_wp2
  go_returns
  exact ⟨rfl, by go_grown⟩
theorem manyX_any (op : Int) (lo n : Nat) (v : Value) (ps : List (Tree × Value)) (w : World) (h : w.ownsRow lo 41 8 v n (flatN ps)) (ha : AllK (IvB lo w.heap.size v) w ps) (hn : ps ≠ []) (hl : ps.length ≤ 1000) :
    Calls Tryz.prog 85 #[.int .i64 op, v] w fun e w' => Below w.heap.size w w' ∧ ∃ kv, e = .returned (nodeV (many op (ps.map (·.1))) kv) ∧ KAt (Iv lo w.heap.size) w (many op (ps.map (·.1))) kv := by
  obtain ⟨b, cap, rfl, hcap, hlo, hhi, hob, hr⟩ := own_kids h ha hn
  clear hr
  match ps, hn with
  | [(t, kv)], _ =>
    have hk := ha (t, kv) (by simp)
    obtain ⟨a', n', c', rfl⟩ : ∃ a n c, kv = .slice a n c := by
      cases t with
      | node op' f mn mx kids => obtain ⟨a, c, h⟩ := KAt.slice hk; exact ⟨a, _, c, h⟩
    refine (manyX_one op b cap t a' n' c' w ?_).mono (by rintro e w' ⟨rfl, hb⟩; exact ⟨hb, _, rfl, hk.mono fun x hx => hx.1⟩)
    intro i hi
    obtain ⟨g, cap', cur, heq, hb, hh, hnc, hcm, hcs, hct⟩ := h.2.resolve_left (by rintro ⟨h, _⟩; cases h)
    injection heq with e1 e2 e3
    injection e1 with e1
    injection e1 with e1
    subst e1
    rw [flatN_one] at hct
    generalize nodeL t (.slice a' n' c') = L at hct ⊢
    rw [← hct, List.getElem?_take, if_pos (by simp at e2; omega)]
    simp [World.cell?, hh]
  | p :: q :: r, _ =>
    refine (manyX_more op _ _ cap w (by simp) hl).mono ?_
    rintro e w' ⟨rfl, hb⟩
    refine ⟨hb, .slice (some ⟨b, 0, none⟩) (p :: q :: r).length cap, ?_, ?_⟩
    · show Ending.returned _ = Ending.returned (.agg #[.int .i64 op, .int .u64 ((wd emp 0 : Nat) : Int), .int .u64 ((wd emp 1 : Nat) : Int), .int .u64 ((wd emp 2 : Nat) : Int), .int .u64 ((wd emp 3 : Nat) : Int), .int .i64 0, .int .i64 0, _])
      unfold emp; simp only [wd_none]; rfl
    · show KAt _ w (.node op emp 0 0 ((p :: q :: r).map (·.1))) _
      rw [KAt]
      refine .inr ⟨by simp, by simpa using hl, b, 0, cap, by simp, by simpa using hcap, ⟨hlo, hhi⟩, ?_⟩
      obtain ⟨b', cap', heq, _, _, _, hob', hr'⟩ := own_kids h ha (by simp)
      injection heq with e1 e2 e3
      injection e1 with e1
      injection e1 with e1
      subst e1
      refine KRow.mk _ _ _ fun j t hj => ?_
      obtain ⟨kv, h1, h2⟩ := KRow.get _ _ _ _ _ hr' hj
      exact ⟨kv, h1, h2.mono fun x hx => hx.1⟩
/-- what the reader does with a pattern from a place on -/
def PatCx (s : ByteArray) (p o : Nat) : Prop := ∀ (g : Nat) (w : World), AtG w g 94 (rxr s (p : Int) (o : Int)) → Calls Tryz.prog 63 #[.pointer (some ⟨g, 0, none⟩)] w fun e w' => ∃ r, P s .pat o p r ∧ RxN g s o w r e w'
theorem rxn_no {g : Nat} {s : ByteArray} {o c : Nat} {w w1 w2 : World} {C : Int} {b : Nat} (ho : Only (fun k => k = g) w w2) (hx : AtG w2 b 73 #[.int .i64 (c : Int), .int .i64 C]) :
    RxN g s o w (.no C c) (.panicked [{ v := .iface 68 (.pointer (some ⟨b, 0, none⟩)), recovered := false }]) w2 := ⟨ho, b, rfl, hx⟩
set_option maxRecDepth 100000 in
set_option maxHeartbeats 3200000 in
theorem groupX (g : Nat) (s : ByteArray) (p o : Nat) (w : World) (h : AtG w g 94 (rxr s ((p + 1 : Nat) : Int) (o : Int))) (hp : p < s.size) (hs : s.size ≤ 900) (h40 : ch s p = 40) (ho20 : o ≤ 20) (HP : o ≠ 20 → PatCx s (p + 1) (o + 1)) :
    Calls Tryz.prog 118 #[.pointer (some ⟨g, 0, none⟩)] w fun e w' => ∃ r, P s .atom o p r ∧ RxN g s o w r e w' := by
  have HS := Lib.hid hs; have HPL := Lib.hid hp; have H40 := Lib.hid h40
  have HG := Lib.hid (show ¬ w.heap.size = g by have := h.lt; omega)
  have HGL := Lib.hid h.lt
  have HA0 := Lib.hid (h.alloc (.cells nodeZ 41))
  have HZ0 := Lib.hid (AtG.new w 41 nodeZ)
  have HO0 := Lib.hid ((Only.refl (S := fun k => k = g) w).al (.cells nodeZ 41))
  obtain ⟨W, hW⟩ : ∃ W : World, W = w.alloc (.cells nodeZ 41) := ⟨_, rfl⟩
  rw [← hW] at HA0 HZ0 HO0
  have HW1 : Hid (W.heap.size = w.heap.size + 1) := Lib.hid (by rw [hW]; simp)
  have hW' : w.alloc (.cells #[.int .i64 0, .int .u64 0, .int .u64 0, .int .u64 0, .int .u64 0, .int .i64 0, .int .i64 0, .slice none 0 0] 41) = W := hW.symm
  have z1 : W.cell? ⟨g, 1, none⟩ = some (.int .i64 ((p + 1 : Nat) : Int)) := HA0.out.cell 1 _ rfl
  rw [show ((p + 1 : Nat) : Int) = (p : Int) + 1 from by omega] at z1
  have z2 : W.cell? ⟨g, 2, none⟩ = some (.int .i64 (o : Int)) := HA0.out.cell 2 _ rfl
  have y2 := HA0.out.frozen 2
  have hpI : (p : Int) < 1000 := by omega
  clear hW h hp h40
  by_cases h20 : o = 20
  · subst h20
    have HP4 := Lib.hid (P.deep (s := s) (o := 20) H40.out rfl)
    clear HP
    go_enter Tryz.func118, Tryz.ntmps118
    go_wp2_with fail
    refine (failX g p 4 _).mono ?_
    rintro e9 w2 ⟨hb2, b, rfl, hx⟩
    exact ⟨rfl, _, HP4.out, HO0.out.tb hb2, b, rfl, hx⟩
  · have hoI : ¬ (o : Int) = 20 := by omega
    have e20 : ((o : Int) == 20) = false := by rw [beq_eq_false_iff_ne]; exact hoI
    have ho2 : (o : Int) < 20 := by omega
    have HO1 := Lib.hid (HO0.out.st g 2 (.int .i64 ((o : Int) + 1)) (.inl rfl))
    have HZ1 := Lib.hid (HZ0.out.far (p := ⟨g, 2, none⟩) (fun e => HG.out e) (.int .i64 ((o : Int) + 1)))
    have HA1 : Hid (AtG (W.setCell ⟨g, 2, none⟩ (.int .i64 ((o : Int) + 1))) g 94 (rxr s ((p + 1 : Nat) : Int) ((o + 1 : Nat) : Int))) := Lib.hid (by
      rw [show ((o + 1 : Nat) : Int) = (o : Int) + 1 from by omega]; exact HA0.out.set 2 _)
    have HSZ1 : Hid ((W.setCell ⟨g, 2, none⟩ (.int .i64 ((o : Int) + 1))).heap.size = w.heap.size + 1) := Lib.hid (by simp [HW1.out])
    have HC := Lib.hid (HP h20 g _ HA1.out)
    have HO20 := Lib.hid h20
    clear HP h20 HA0
    go_enter Tryz.func118, Tryz.ntmps118
    go_wp2_with fail
    refine (HC.out).mono ?_
    rintro e9 w2 ⟨r, hPr, ho, hr⟩
    have HPS := Lib.hid (P.sub (s := s) (o := o) (p := p) H40.out HO20.out hPr)
    have hin := P.in hPr HPL.out
    have HO2 := Lib.hid (HO1.out.tr ho); have HZ2 := Lib.hid (HZ1.out.only ho HG.out)
    clear hW' z1 z2 y2 HC HO1 HZ1 HA1 hPr
    cases r with
    | no c x =>
      obtain ⟨b, rfl, hx⟩ := hr
      exact ⟨rfl, _, HPS.out, HO2.out, b, rfl, hx⟩
    | ok t q =>
      obtain ⟨kv, rfl, hk, ha⟩ := hr
      rw [HSZ1.out] at hk
      obtain ⟨op, f, mn, mx, kids⟩ := t
      obtain ⟨ka, kc, rfl⟩ := KAt.slice hk
      have hq : q ≤ s.size := hin.2
      have HQ := Lib.hid hq
      have HA2 := Lib.hid ha; have HK2 := Lib.hid hk
      have HWT := Lib.hid (fun (w1 : World) (h1 : AtG w1 g 94 (rxr s (q : Int) ((o + 1 : Nat) : Int))) => wantX g s q (o + 1) 41 w1 h1 hq (by have := HS.out; omega) (by decide))
      have HGL2 := Lib.hid (show ¬ w2.heap.size = g by have := ha.lt; omega)
      have HQI := Lib.hid (show (q : Int) < 1000 by have := HS.out; omega)
      clear ha hk hin ho hq HSZ1
      unfold nodeV
      dsimp only
      go_upto_region 5 with (fail)
      obtain ⟨W3, hW3⟩ : ∃ W3 : World, W3 = w2.alloc (.cells (nodeC op f mn mx (.slice ka kids.length kc)) 41) := ⟨_, rfl⟩
      have hW3' : w2.alloc (.cells #[.int .i64 op, .int .u64 ((wd f 0 : Nat) : Int), .int .u64 ((wd f 1 : Nat) : Int), .int .u64 ((wd f 2 : Nat) : Int), .int .u64 ((wd f 3 : Nat) : Int), .int .i64 mn, .int .i64 mx, .slice ka kids.length kc] 41) = W3 := hW3.symm
      have HN3 : Hid (AtG W3 w2.heap.size 41 (nodeC op f mn mx (.slice ka kids.length kc))) := Lib.hid (by rw [hW3]; exact AtG.new _ _ _)
      have HA3 : Hid (AtG W3 g 94 (rxr s (q : Int) ((o + 1 : Nat) : Int))) := Lib.hid (by rw [hW3]; exact HA2.out.alloc _)
      have HZ3 : Hid (AtG W3 w.heap.size 41 nodeZ) := Lib.hid (by rw [hW3]; exact HZ2.out.alloc _)
      have HO3 : Hid (Only (fun k => k = g) w W3) := Lib.hid (by rw [hW3]; exact HO2.out.al _)
      have HK3 : Hid (KAt (Iv (w.heap.size + 1) W3.heap.size) W3 (.node op f mn mx kids) (.slice ka kids.length kc)) := Lib.hid (by
        rw [hW3]; exact KAt.below HK2.out ((Below.refl _ _).alloc (Nat.le_refl _) _) (by simp))
      have HSB : Hid (w.heap.size < w2.heap.size) := Lib.hid HZ2.out.lt
      rw [hW3']
      clear hW3 hW3' HA2 HZ2 HO2 HK2
      have HWC := Lib.hid (HWT.out _ HA3.out)
      have HWF := Lib.hid (show wantF s 41 q = if ch s q = 41 then .ok () (q + 1) else .no 2 q from rfl)
      have HCF := Lib.hid (show closeF s (.ok (Tree.node op f mn mx kids) q) = if ch s q = 41 then .ok (Tree.node op f mn mx kids) (q + 1) else .no 2 q from rfl)
      go_wp2_with fail
      refine (HWC.out).mono ?_
      by_cases h41 : ch s q = 41
      · rw [HWF.out, if_pos h41]
        have HPP := Lib.hid (show P s .atom o p (.ok (Tree.node op f mn mx kids) (q + 1)) by have := HPS.out; rw [HCF.out, if_pos h41] at this; exact this)
        rintro e9 w4 ⟨ho, rfl, ha⟩
        have HA4 := Lib.hid ha; have HO4 := Lib.hid (HO3.out.tr ho); have HZ4 := Lib.hid (HZ3.out.only ho HG.out); have HN4 := Lib.hid (HN3.out.only ho HGL2.out)
        have HK4 := Lib.hid (KAt.only (D := Iv (w.heap.size + 1) W3.heap.size) HK3.out ho (fun b hb => ⟨hb.2, fun e => by have := hb.1; have := HGL.out; have e2 : b = g := e; omega⟩))
        have HSZ4 := Lib.hid ho.size
        clear ho ha h41 HWC HWT HWF HCF HPS HA3 HO3 HZ3 HN3 HK3
        have z2 : w4.cell? ⟨g, 2, none⟩ = some (.int .i64 ((o + 1 : Nat) : Int)) := HA4.out.cell 2 _ rfl
        rw [show ((o + 1 : Nat) : Int) = (o : Int) + 1 from by omega] at z2
        have y2 := HA4.out.frozen 2
        have ho1 : (o : Int) + 1 - 1 = (o : Int) := by omega
        have HA5 : Hid (AtG (w4.setCell ⟨g, 2, none⟩ (.int .i64 (o : Int))) g 94 (rxr s ((q + 1 : Nat) : Int) (o : Int))) := Lib.hid (HA4.out.set 2 _)
        have HZ5 := Lib.hid (HZ4.out.far (p := ⟨g, 2, none⟩) (fun e => HG.out e) (.int .i64 (o : Int)))
        have HN5 := Lib.hid (HN4.out.far (p := ⟨g, 2, none⟩) (fun e => HGL2.out e) (.int .i64 (o : Int)))
        have HO5 := Lib.hid (HO4.out.st g 2 (.int .i64 (o : Int)) (.inl rfl))
        have HK5 := Lib.hid (KAt.only (S := fun k => k = g) HK4.out (Only.set (S := fun k => k = g) w4 g 2 (.int .i64 (o : Int)) rfl) (fun b hb => ⟨by have := hb.2; have := HSZ4.out; omega, fun e => by have := hb.1; have := HGL.out; have e2 : b = g := e; omega⟩))
        go_upto_region 7 with (fail)
        obtain ⟨wq, hwq⟩ : ∃ wq : World, wq = w4.setCell ⟨g, 2, none⟩ (.int .i64 (o : Int)) := ⟨_, rfl⟩
        rw [← hwq] at HA5 HZ5 HN5 HO5 HK5 ⊢
        have HSZ5 : Hid (W3.heap.size ≤ wq.heap.size) := Lib.hid (by rw [hwq]; simpa using HSZ4.out)
        clear hwq z2 y2 HA4 HZ4 HN4 HO4 HK4
        have hn1 : ¬ w2.heap.size = w.heap.size := by have := HSB.out; omega
        have hn2 : ¬ w.heap.size = w2.heap.size := by have := HSB.out; omega
        have a0 : (wq).cell? ⟨w2.heap.size, 0, none⟩ = some (.int .i64 op) := (HN5.out).cell 0 _ rfl
        have a1 : (wq).cell? ⟨w2.heap.size, 1, none⟩ = some (.int .u64 ((wd f 0 : Nat) : Int)) := (HN5.out).cell 1 _ rfl
        have a2 : (wq).cell? ⟨w2.heap.size, 2, none⟩ = some (.int .u64 ((wd f 1 : Nat) : Int)) := (HN5.out).cell 2 _ rfl
        have a3 : (wq).cell? ⟨w2.heap.size, 3, none⟩ = some (.int .u64 ((wd f 2 : Nat) : Int)) := (HN5.out).cell 3 _ rfl
        have a4 : (wq).cell? ⟨w2.heap.size, 4, none⟩ = some (.int .u64 ((wd f 3 : Nat) : Int)) := (HN5.out).cell 4 _ rfl
        have a5 : (wq).cell? ⟨w2.heap.size, 5, none⟩ = some (.int .i64 mn) := (HN5.out).cell 5 _ rfl
        have a6 : (wq).cell? ⟨w2.heap.size, 6, none⟩ = some (.int .i64 mx) := (HN5.out).cell 6 _ rfl
        have a7 : (wq).cell? ⟨w2.heap.size, 7, none⟩ = some (.slice ka kids.length kc) := (HN5.out).cell 7 _ rfl
        have d0 : wq.cell? ⟨w.heap.size, 0, none⟩ = some (.int .i64 0) := (HZ5.out).cell 0 _ rfl
        have d1 : wq.cell? ⟨w.heap.size, 1, none⟩ = some (.int .u64 0) := (HZ5.out).cell 1 _ rfl
        have d2 : wq.cell? ⟨w.heap.size, 2, none⟩ = some (.int .u64 0) := (HZ5.out).cell 2 _ rfl
        have d3 : wq.cell? ⟨w.heap.size, 3, none⟩ = some (.int .u64 0) := (HZ5.out).cell 3 _ rfl
        have d4 : wq.cell? ⟨w.heap.size, 4, none⟩ = some (.int .u64 0) := (HZ5.out).cell 4 _ rfl
        have d5 : wq.cell? ⟨w.heap.size, 5, none⟩ = some (.int .i64 0) := (HZ5.out).cell 5 _ rfl
        have d6 : wq.cell? ⟨w.heap.size, 6, none⟩ = some (.int .i64 0) := (HZ5.out).cell 6 _ rfl
        have d7 : wq.cell? ⟨w.heap.size, 7, none⟩ = some (.slice none 0 0) := (HZ5.out).cell 7 _ rfl
        have f0 := (HZ5.out).frozen 0; have f1 := (HZ5.out).frozen 1; have f2 := (HZ5.out).frozen 2; have f3 := (HZ5.out).frozen 3
        have f4 := (HZ5.out).frozen 4; have f5 := (HZ5.out).frozen 5; have f6 := (HZ5.out).frozen 6; have f7 := (HZ5.out).frozen 7
        go_wp2_with fail
        refine bodyPost_ret (v := nodeV (.node op f mn mx kids) (.slice ka kids.length kc)) (by unfold nodeV; simp [results, Tryz.results118, go_sem, d0, d1, d2, d3, d4, d5, d6, d7]; try rfl) rfl ?_
        exact ⟨_, HPP.out, rxn_post HO5.out HA5.out HG.out HZ5.out.lt (HK5.out.mono fun b hb => ⟨hb.1, Nat.lt_of_lt_of_le hb.2 HSZ5.out⟩)⟩
      · rw [HWF.out, if_neg h41]
        have HPP := Lib.hid (show P s .atom o p (.no 2 q) by have := HPS.out; rw [HCF.out, if_neg h41] at this; exact this)
        rintro e9 w4 ⟨ho, b, rfl, hx⟩
        exact ⟨rfl, _, HPP.out, HO3.out.tr ho, b, rfl, hx⟩
end Go.Proofs.YtgjcibhhffkemaaGreatDoor
/- The program's reader of patterns: atom, piece. -/
set_option linter.unusedVariables false
set_option linter.unusedSimpArgs false
namespace Go.Proofs.YtgjcibhhffkemaaGreatDoor
open Go.RowKit Bt
set_option maxRecDepth 100000 in
set_option maxHeartbeats 1600000 in
theorem atomA (g : Nat) (s : ByteArray) (p o : Nat) (w : World) (h : AtG w g 94 (rxr s p o)) (hp : p ≤ s.size) (hs : s.size ≤ 900) (ho : o ≤ 20) (HP : o ≠ 20 → p < s.size → PatCx s (p + 1) (o + 1)) :
    Calls Tryz.prog 106 #[.pointer (some ⟨g, 0, none⟩)] w fun e w' => ∃ r, P s .atom o p r ∧ RxN g s o w r e w' := by
  by_cases h40 : ch s p = 40
  · have HG := Lib.hid (show ¬ w.heap.size = g by have := h.lt; omega)
    have HGL := Lib.hid h.lt
    have hlt : p < s.size := ch_ge (by omega)
    have HA0 := Lib.hid (h.alloc (.cells nodeZ 41))
    have HZ0 := Lib.hid (AtG.new w 41 nodeZ)
    have HO0 := Lib.hid ((Only.refl (S := fun k => k = g) w).al (.cells nodeZ 41))
    have HN := Lib.hid (nextX_in g s p o _ HA0.out hlt (by omega))
    have HGR := Lib.hid (fun (w1 : World) (h1 : AtG w1 g 94 (rxr s ((p + 1 : Nat) : Int) (o : Int))) => groupX g s p o w1 h1 hlt hs h40 ho (fun h => HP h hlt))
    rw [h40] at HN
    clear h hp h40 HP
    go_enter Tryz.func106, Tryz.ntmps106
    go_wp2_with fail
    refine (HN.out).mono ?_
    rintro e9 w1 ⟨rfl, ho, ha⟩
    have HC := Lib.hid (HGR.out w1 ha)
    have HZ1 := Lib.hid (HZ0.out.only ho HG.out); have HO1 := Lib.hid (HO0.out.tr ho)
    have HGL1 := Lib.hid (show w.heap.size < w1.heap.size from HZ1.out.lt)
    clear ho ha HN HA0 HZ0 HO0 HGR
    go_wp2_with fail
    refine (HC.out).mono ?_
    rintro e9 w2 ⟨r, hPr, ho, hr⟩
    have HPS := Lib.hid hPr
    have HO2 := Lib.hid (HO1.out.tr ho); have HZ2 := Lib.hid (HZ1.out.only ho HG.out)
    clear HC hPr ho
    cases r with
    | no c x =>
      obtain ⟨b, rfl, hx⟩ := hr
      exact ⟨rfl, _, HPS.out, HO2.out, b, rfl, hx⟩
    | ok t q =>
      obtain ⟨kv, rfl, hk, ha⟩ := hr
      obtain ⟨op, f, mn, mx, kids⟩ := t
      obtain ⟨ka, kc, rfl⟩ := KAt.slice hk
      have HA2 := Lib.hid ha; have HK2 := Lib.hid hk
      clear ha hk
      have d0 : w2.cell? ⟨w.heap.size, 0, none⟩ = some (.int .i64 0) := (HZ2.out).cell 0 _ rfl
      have d1 : w2.cell? ⟨w.heap.size, 1, none⟩ = some (.int .u64 0) := (HZ2.out).cell 1 _ rfl
      have d2 : w2.cell? ⟨w.heap.size, 2, none⟩ = some (.int .u64 0) := (HZ2.out).cell 2 _ rfl
      have d3 : w2.cell? ⟨w.heap.size, 3, none⟩ = some (.int .u64 0) := (HZ2.out).cell 3 _ rfl
      have d4 : w2.cell? ⟨w.heap.size, 4, none⟩ = some (.int .u64 0) := (HZ2.out).cell 4 _ rfl
      have d5 : w2.cell? ⟨w.heap.size, 5, none⟩ = some (.int .i64 0) := (HZ2.out).cell 5 _ rfl
      have d6 : w2.cell? ⟨w.heap.size, 6, none⟩ = some (.int .i64 0) := (HZ2.out).cell 6 _ rfl
      have d7 : w2.cell? ⟨w.heap.size, 7, none⟩ = some (.slice none 0 0) := (HZ2.out).cell 7 _ rfl
      have f0 := (HZ2.out).frozen 0; have f1 := (HZ2.out).frozen 1; have f2 := (HZ2.out).frozen 2; have f3 := (HZ2.out).frozen 3
      have f4 := (HZ2.out).frozen 4; have f5 := (HZ2.out).frozen 5; have f6 := (HZ2.out).frozen 6; have f7 := (HZ2.out).frozen 7
      unfold nodeV
      dsimp only
      go_wp2_with fail
      refine bodyPost_ret (v := nodeV (.node op f mn mx kids) (.slice ka kids.length kc)) (by unfold nodeV; simp [results, Tryz.results106, go_sem, d0, d1, d2, d3, d4, d5, d6, d7]; try rfl) rfl ?_
      exact ⟨_, HPS.out, rxn_post HO2.out HA2.out HG.out HZ2.out.lt (HK2.out.mono fun b hb => ⟨by have := hb.1; have := HGL1.out; omega, hb.2⟩)⟩
  · refine (atomX g s p o w h hp hs h40).mono ?_
    intro e w' hr
    exact ⟨_, P.plain h40, hr⟩
set_option maxRecDepth 100000 in
set_option maxHeartbeats 3200000 in
theorem pieceX (g : Nat) (s : ByteArray) (p o : Nat) (w : World) (h : AtG w g 94 (rxr s p o)) (hp : p ≤ s.size) (hs : s.size ≤ 900) (ho : o ≤ 20) (HP : o ≠ 20 → p < s.size → PatCx s (p + 1) (o + 1)) :
    Calls Tryz.prog 94 #[.pointer (some ⟨g, 0, none⟩)] w fun e w' => ∃ r, P s .piece o p r ∧ RxN g s o w r e w' := by
  have HS := Lib.hid hs
  have HG := Lib.hid (show ¬ w.heap.size = g by have := h.lt; omega)
  have HGL := Lib.hid h.lt
  have HA0 := Lib.hid (h.alloc (.cells nodeZ 41))
  have HZ0 := Lib.hid (AtG.new w 41 nodeZ)
  have HO0 := Lib.hid ((Only.refl (S := fun k => k = g) w).al (.cells nodeZ 41))
  have HPL := Lib.hid hp
  have HAT := Lib.hid (atomA g s p o _ HA0.out hp hs ho HP)
  have HSZ0 : Hid ((w.alloc (.cells nodeZ 41)).heap.size = w.heap.size + 1) := Lib.hid (by simp)
  clear h hp ho HP
  go_enter Tryz.func94, Tryz.ntmps94
  go_wp2_with fail
  refine (HAT.out).mono ?_
  rintro e9 w2 ⟨r, hPr, ho, hr⟩
  have HPS := Lib.hid hPr
  have hin := P.in hPr HPL.out
  have HO2 := Lib.hid (HO0.out.tr ho); have HZ2 := Lib.hid (HZ0.out.only ho HG.out)
  clear HAT hPr ho HA0 HZ0 HO0
  cases r with
  | no c x =>
    obtain ⟨b, rfl, hx⟩ := hr
    exact ⟨rfl, _, P.pieceNo HPS.out, HO2.out, b, rfl, hx⟩
  | ok t0 q0 =>
    obtain ⟨kv, rfl, hk, ha⟩ := hr
    rw [HSZ0.out] at hk
    obtain ⟨op0, f0, mn0, mx0, kids0⟩ := t0
    obtain ⟨ka0, kc0, rfl⟩ := KAt.slice hk
    have HA2 := Lib.hid ha; have HK2 := Lib.hid hk
    have HQ0 := Lib.hid (show q0 ≤ s.size from hin.2)
    have HB3 := Lib.hid (show w.heap.size < w2.heap.size from HZ2.out.lt)
    have HGB := Lib.hid (show g ≠ w2.heap.size by have := ha.lt; omega)
    clear ha hk hin HSZ0
    unfold nodeV
    dsimp only
    go_wp2_with fail
    go_loopw [] (fun wr => ∃ (op : Int) (f : Nat → Bool) (mn mx : Int) (kids : List Tree) (ka : Option Addr) (kc q : Nat), Held g w w2.heap.size (.node op f mn mx kids) (.slice ka kids.length kc) wr ∧ AtG wr g 94 (rxr s (q : Int) (o : Int)) ∧ q ≤ s.size ∧ ∀ r, P s (.pieceL (.node op f mn mx kids)) o q r → P s .piece o p r) (fun wr => leftX s g wr)
    case atStart =>
      refine ⟨op0, f0, mn0, mx0, kids0, ka0, kc0, q0, ⟨AtG.new _ _ _, ?_, HZ2.out.alloc _, HO2.out.al _⟩, HA2.out.alloc _, HQ0.out, fun r hr => P.pieceOk HPS.out hr⟩
      refine KAt.keep (D := Iv (w.heap.size + 1) w2.heap.size) (fun b hb => ((Below.refl w2.heap.size w2).alloc (Nat.le_refl _) _).block b hb.2) (fun b hb => ⟨⟨hb.1, by have := hb.2; simp; omega⟩, by have := hb.2; omega⟩) _ _ HK2.out
    case round =>
      obtain ⟨op, f, mn, mx, kids, ka, kc, q, hH, ha, hq, hPP⟩ := hrel
      have HH := Lib.hid hH; have HA := Lib.hid ha; have HQ := Lib.hid hq; have HIN := Lib.hid hPP
      have HLE := Lib.hid (leftX_ok ha)
      clear hH ha hPP HK2 HA2 HZ2 HO2 HQ0 HPS
      by_cases hlt : q < s.size
      · have HPK := Lib.hid (peekX_in g s q o wr HA.out hlt)
        have hqI : (q : Int) < 1000 := by have := HS.out; omega
        have HQL := Lib.hid hlt
        obtain ⟨c, hc⟩ : ∃ c, c = ch s q := ⟨_, rfl⟩
        rw [← hc] at HPK
        have HC := Lib.hid hc
        clear hc
        by_cases h63 : c = 63
        · subst h63
          go_wp2_with fail
          refine (HPK.out).mono ?_
          rintro e9 w3 ⟨rfl, hb⟩
          have HA3 := Lib.hid (HA.out.below hb); have H3 := Lib.hid ((HH.out.below HGL.out HB3.out hb).next HGL.out HB3.out (Only.set (S := fun k => k = g) w3 g 1 (.int .i64 ((q : Int) + 1)) rfl))
          have z1 : w3.cell? ⟨g, 1, none⟩ = some (.int .i64 (q : Int)) := HA3.out.cell 1 _ rfl
          have y1 := HA3.out.frozen 1
          have HA4 : Hid (AtG (w3.setCell ⟨g, 1, none⟩ (.int .i64 ((q : Int) + 1))) g 94 (rxr s ((q + 1 : Nat) : Int) o)) := Lib.hid (by
            rw [show ((q + 1 : Nat) : Int) = (q : Int) + 1 from by omega]; exact HA3.out.set 1 _)
          clear hb HPK HA HH
          go_upto_region 6 with (fail)
          obtain ⟨wq, hwq⟩ : ∃ wq : World, wq = w3.setCell ⟨g, 1, none⟩ (.int .i64 ((q : Int) + 1)) := ⟨_, rfl⟩
          rw [← hwq] at HA4 H3 ⊢
          clear hwq z1 y1 HA3
          have k0 : (wq).cell? ⟨w2.heap.size, 0, none⟩ = some (.int .i64 op) := (H3.out.node).cell 0 _ rfl
          have k1 : (wq).cell? ⟨w2.heap.size, 1, none⟩ = some (.int .u64 ((wd f 0 : Nat) : Int)) := (H3.out.node).cell 1 _ rfl
          have k2 : (wq).cell? ⟨w2.heap.size, 2, none⟩ = some (.int .u64 ((wd f 1 : Nat) : Int)) := (H3.out.node).cell 2 _ rfl
          have k3 : (wq).cell? ⟨w2.heap.size, 3, none⟩ = some (.int .u64 ((wd f 2 : Nat) : Int)) := (H3.out.node).cell 3 _ rfl
          have k4 : (wq).cell? ⟨w2.heap.size, 4, none⟩ = some (.int .u64 ((wd f 3 : Nat) : Int)) := (H3.out.node).cell 4 _ rfl
          have k5 : (wq).cell? ⟨w2.heap.size, 5, none⟩ = some (.int .i64 mn) := (H3.out.node).cell 5 _ rfl
          have k6 : (wq).cell? ⟨w2.heap.size, 6, none⟩ = some (.int .i64 mx) := (H3.out.node).cell 6 _ rfl
          have k7 : (wq).cell? ⟨w2.heap.size, 7, none⟩ = some (.slice ka kids.length kc) := (H3.out.node).cell 7 _ rfl
          have fz0 := H3.out.node.frozen 0
          have fz1 := H3.out.node.frozen 1
          have fz2 := H3.out.node.frozen 2
          have fz3 := H3.out.node.frozen 3
          have fz4 := H3.out.node.frozen 4
          have fz5 := H3.out.node.frozen 5
          have fz6 := H3.out.node.frozen 6
          have fz7 := H3.out.node.frozen 7
          have hlw : w2.heap.size < wq.heap.size := H3.out.node.lt
          have hnw : ¬ w2.heap.size = wq.heap.size := by omega
          have hfin := H3.out.step HGL.out HB3.out (0) (1)
          have hfa := (putN_far HA4.out HGB.out 4 emp (0) (1) (.slice (some ⟨wq.heap.size, 0, none⟩) 1 1)).alloc (.cells (nodeC op f mn mx (.slice ka kids.length kc)) 41)
          have HPPP := Lib.hid (fun r hr => HIN.out r (P.opt HC.out.symm hr))
          unfold putN at hfin hfa
          simp only [wd_emp] at hfin hfa
          have HFIN := Lib.hid hfin; have HFA := Lib.hid hfa
          clear hfin hfa
          go_wp2_with fail
          refine ⟨⟨4, emp, _, _, [_], _, _, q + 1, HFIN.out, HFA.out, HQL.out, HPPP.out⟩, ?_⟩
          rw [leftX_ok HFA.out, HLE.out]
          omega
        by_cases h123 : c = 123
        · subst h123
          have HTF := Lib.hid (timesF_in s (q + 1) hlt)
          go_wp2_with fail
          refine (HPK.out).mono ?_
          rintro e9 w3 ⟨rfl, hb⟩
          have HA3 := Lib.hid (HA.out.below hb); have H3 := Lib.hid ((HH.out.below HGL.out HB3.out hb).next HGL.out HB3.out (Only.set (S := fun k => k = g) w3 g 1 (.int .i64 ((q : Int) + 1)) rfl))
          have z1 : w3.cell? ⟨g, 1, none⟩ = some (.int .i64 (q : Int)) := HA3.out.cell 1 _ rfl
          have y1 := HA3.out.frozen 1
          have HA4 : Hid (AtG (w3.setCell ⟨g, 1, none⟩ (.int .i64 ((q : Int) + 1))) g 94 (rxr s ((q + 1 : Nat) : Int) o)) := Lib.hid (by
            rw [show ((q + 1 : Nat) : Int) = (q : Int) + 1 from by omega]; exact HA3.out.set 1 _)
          have HTX := Lib.hid (timesX g s (q + 1) o _ HA4.out HQL.out HS.out)
          clear hb HPK HA HH
          go_wp2_with fail
          refine (HTX.out).mono ?_
          cases htf : timesF s (q + 1) with
          | no c x =>
            rintro e9 w4 ⟨ho, b, rfl, hx⟩
            exact ⟨rfl, _, HIN.out _ (P.timesNo HC.out.symm htf), H3.out.only.tr ho, b, rfl, hx⟩
          | ok mm r =>
            rw [htf] at HTF
            obtain ⟨m, n⟩ := mm
            have hr : q + 1 + 1 ≤ r ∧ r ≤ s.size := HTF.out.1
            have HTE := Lib.hid htf
            rintro e9 w4 ⟨ho, rfl, ha⟩
            have HA5 := Lib.hid ha; have H5 := Lib.hid (H3.out.next HGL.out HB3.out ho)
            clear ho ha HTX HTF htf z1 y1 HA3 HA4 H3
            have k0 : (w4).cell? ⟨w2.heap.size, 0, none⟩ = some (.int .i64 op) := (H5.out.node).cell 0 _ rfl
            have k1 : (w4).cell? ⟨w2.heap.size, 1, none⟩ = some (.int .u64 ((wd f 0 : Nat) : Int)) := (H5.out.node).cell 1 _ rfl
            have k2 : (w4).cell? ⟨w2.heap.size, 2, none⟩ = some (.int .u64 ((wd f 1 : Nat) : Int)) := (H5.out.node).cell 2 _ rfl
            have k3 : (w4).cell? ⟨w2.heap.size, 3, none⟩ = some (.int .u64 ((wd f 2 : Nat) : Int)) := (H5.out.node).cell 3 _ rfl
            have k4 : (w4).cell? ⟨w2.heap.size, 4, none⟩ = some (.int .u64 ((wd f 3 : Nat) : Int)) := (H5.out.node).cell 4 _ rfl
            have k5 : (w4).cell? ⟨w2.heap.size, 5, none⟩ = some (.int .i64 mn) := (H5.out.node).cell 5 _ rfl
            have k6 : (w4).cell? ⟨w2.heap.size, 6, none⟩ = some (.int .i64 mx) := (H5.out.node).cell 6 _ rfl
            have k7 : (w4).cell? ⟨w2.heap.size, 7, none⟩ = some (.slice ka kids.length kc) := (H5.out.node).cell 7 _ rfl
            have fz0 := H5.out.node.frozen 0
            have fz1 := H5.out.node.frozen 1
            have fz2 := H5.out.node.frozen 2
            have fz3 := H5.out.node.frozen 3
            have fz4 := H5.out.node.frozen 4
            have fz5 := H5.out.node.frozen 5
            have fz6 := H5.out.node.frozen 6
            have fz7 := H5.out.node.frozen 7
            have hlw : w2.heap.size < w4.heap.size := H5.out.node.lt
            have hnw : ¬ w2.heap.size = w4.heap.size := by omega
            have hfin := H5.out.step HGL.out HB3.out (m) (n)
            have hfa := (putN_far HA5.out HGB.out 4 emp (m) (n) (.slice (some ⟨w4.heap.size, 0, none⟩) 1 1)).alloc (.cells (nodeC op f mn mx (.slice ka kids.length kc)) 41)
            have HPPP := Lib.hid (fun r' hr' => HIN.out r' (P.times HC.out.symm HTE.out hr'))
            unfold putN at hfin hfa
            simp only [wd_emp] at hfin hfa
            have HFIN := Lib.hid hfin; have HFA := Lib.hid hfa
            clear hfin hfa
            go_wp2_with fail
            refine ⟨⟨4, emp, _, _, [_], _, _, r, HFIN.out, HFA.out, hr.2, HPPP.out⟩, ?_⟩
            rw [leftX_ok HFA.out, HLE.out]
            omega
        · have HPP := Lib.hid (HIN.out _ (P.pieceEnd (t := .node op f mn mx kids) (by rw [← HC.out]; exact h63) (by rw [← HC.out]; exact h123)))
          have n1 : (c != 63) = true := by simpa using h63
          have n2 : (c != 123) = true := by simpa using h123
          go_wp2_with fail
          refine (HPK.out).mono ?_
          rintro e9 w3 ⟨rfl, hb⟩
          have HA3 := Lib.hid (HA.out.below hb); have H3 := Lib.hid (HH.out.below HGL.out HB3.out hb)
          clear hb HPK HA HH
          have k0 : (w3).cell? ⟨w2.heap.size, 0, none⟩ = some (.int .i64 op) := (H3.out.node).cell 0 _ rfl
          have k1 : (w3).cell? ⟨w2.heap.size, 1, none⟩ = some (.int .u64 ((wd f 0 : Nat) : Int)) := (H3.out.node).cell 1 _ rfl
          have k2 : (w3).cell? ⟨w2.heap.size, 2, none⟩ = some (.int .u64 ((wd f 1 : Nat) : Int)) := (H3.out.node).cell 2 _ rfl
          have k3 : (w3).cell? ⟨w2.heap.size, 3, none⟩ = some (.int .u64 ((wd f 2 : Nat) : Int)) := (H3.out.node).cell 3 _ rfl
          have k4 : (w3).cell? ⟨w2.heap.size, 4, none⟩ = some (.int .u64 ((wd f 3 : Nat) : Int)) := (H3.out.node).cell 4 _ rfl
          have k5 : (w3).cell? ⟨w2.heap.size, 5, none⟩ = some (.int .i64 mn) := (H3.out.node).cell 5 _ rfl
          have k6 : (w3).cell? ⟨w2.heap.size, 6, none⟩ = some (.int .i64 mx) := (H3.out.node).cell 6 _ rfl
          have k7 : (w3).cell? ⟨w2.heap.size, 7, none⟩ = some (.slice ka kids.length kc) := (H3.out.node).cell 7 _ rfl
          have hn1 : ¬ w2.heap.size = w.heap.size := by have := HB3.out; omega
          have hn2 : ¬ w.heap.size = w2.heap.size := by have := HB3.out; omega
          have d0 : w3.cell? ⟨w.heap.size, 0, none⟩ = some (.int .i64 0) := (H3.out.cell).cell 0 _ rfl
          have d1 : w3.cell? ⟨w.heap.size, 1, none⟩ = some (.int .u64 0) := (H3.out.cell).cell 1 _ rfl
          have d2 : w3.cell? ⟨w.heap.size, 2, none⟩ = some (.int .u64 0) := (H3.out.cell).cell 2 _ rfl
          have d3 : w3.cell? ⟨w.heap.size, 3, none⟩ = some (.int .u64 0) := (H3.out.cell).cell 3 _ rfl
          have d4 : w3.cell? ⟨w.heap.size, 4, none⟩ = some (.int .u64 0) := (H3.out.cell).cell 4 _ rfl
          have d5 : w3.cell? ⟨w.heap.size, 5, none⟩ = some (.int .i64 0) := (H3.out.cell).cell 5 _ rfl
          have d6 : w3.cell? ⟨w.heap.size, 6, none⟩ = some (.int .i64 0) := (H3.out.cell).cell 6 _ rfl
          have d7 : w3.cell? ⟨w.heap.size, 7, none⟩ = some (.slice none 0 0) := (H3.out.cell).cell 7 _ rfl
          have f0 := (H3.out.cell).frozen 0; have f1 := (H3.out.cell).frozen 1; have f2 := (H3.out.cell).frozen 2; have f3 := (H3.out.cell).frozen 3
          have f4 := (H3.out.cell).frozen 4; have f5 := (H3.out.cell).frozen 5; have f6 := (H3.out.cell).frozen 6; have f7 := (H3.out.cell).frozen 7
          go_wp2_with fail
          refine bodyPost_ret (v := nodeV (.node op f mn mx kids) (.slice ka kids.length kc)) (by unfold nodeV; simp [results, Tryz.results94, go_sem, d0, d1, d2, d3, d4, d5, d6, d7]; try rfl) rfl ?_
          exact ⟨_, HPP.out, rxn_post H3.out.only HA3.out HG.out H3.out.cell.lt (H3.out.kids.mono fun b hb => hb.1)⟩
      · have hqe : q = s.size := by have := HQ.out; omega
        have HPK := Lib.hid (peekX_end g s q o wr HA.out hqe)
        have hce : ch s q = -1 := ch_end (by omega)
        have HPP := Lib.hid (HIN.out _ (P.pieceEnd (t := .node op f mn mx kids) (by rw [hce]; decide) (by rw [hce]; decide)))
        clear hqe hce hlt hq
        go_wp2_with fail
        refine (HPK.out).mono ?_
        rintro e9 w3 ⟨rfl, hb⟩
        have HA3 := Lib.hid (HA.out.below hb); have H3 := Lib.hid (HH.out.below HGL.out HB3.out hb)
        clear hb HPK HA HH
        have k0 : (w3).cell? ⟨w2.heap.size, 0, none⟩ = some (.int .i64 op) := (H3.out.node).cell 0 _ rfl
        have k1 : (w3).cell? ⟨w2.heap.size, 1, none⟩ = some (.int .u64 ((wd f 0 : Nat) : Int)) := (H3.out.node).cell 1 _ rfl
        have k2 : (w3).cell? ⟨w2.heap.size, 2, none⟩ = some (.int .u64 ((wd f 1 : Nat) : Int)) := (H3.out.node).cell 2 _ rfl
        have k3 : (w3).cell? ⟨w2.heap.size, 3, none⟩ = some (.int .u64 ((wd f 2 : Nat) : Int)) := (H3.out.node).cell 3 _ rfl
        have k4 : (w3).cell? ⟨w2.heap.size, 4, none⟩ = some (.int .u64 ((wd f 3 : Nat) : Int)) := (H3.out.node).cell 4 _ rfl
        have k5 : (w3).cell? ⟨w2.heap.size, 5, none⟩ = some (.int .i64 mn) := (H3.out.node).cell 5 _ rfl
        have k6 : (w3).cell? ⟨w2.heap.size, 6, none⟩ = some (.int .i64 mx) := (H3.out.node).cell 6 _ rfl
        have k7 : (w3).cell? ⟨w2.heap.size, 7, none⟩ = some (.slice ka kids.length kc) := (H3.out.node).cell 7 _ rfl
        have hn1 : ¬ w2.heap.size = w.heap.size := by have := HB3.out; omega
        have hn2 : ¬ w.heap.size = w2.heap.size := by have := HB3.out; omega
        have d0 : w3.cell? ⟨w.heap.size, 0, none⟩ = some (.int .i64 0) := (H3.out.cell).cell 0 _ rfl
        have d1 : w3.cell? ⟨w.heap.size, 1, none⟩ = some (.int .u64 0) := (H3.out.cell).cell 1 _ rfl
        have d2 : w3.cell? ⟨w.heap.size, 2, none⟩ = some (.int .u64 0) := (H3.out.cell).cell 2 _ rfl
        have d3 : w3.cell? ⟨w.heap.size, 3, none⟩ = some (.int .u64 0) := (H3.out.cell).cell 3 _ rfl
        have d4 : w3.cell? ⟨w.heap.size, 4, none⟩ = some (.int .u64 0) := (H3.out.cell).cell 4 _ rfl
        have d5 : w3.cell? ⟨w.heap.size, 5, none⟩ = some (.int .i64 0) := (H3.out.cell).cell 5 _ rfl
        have d6 : w3.cell? ⟨w.heap.size, 6, none⟩ = some (.int .i64 0) := (H3.out.cell).cell 6 _ rfl
        have d7 : w3.cell? ⟨w.heap.size, 7, none⟩ = some (.slice none 0 0) := (H3.out.cell).cell 7 _ rfl
        have f0 := (H3.out.cell).frozen 0; have f1 := (H3.out.cell).frozen 1; have f2 := (H3.out.cell).frozen 2; have f3 := (H3.out.cell).frozen 3
        have f4 := (H3.out.cell).frozen 4; have f5 := (H3.out.cell).frozen 5; have f6 := (H3.out.cell).frozen 6; have f7 := (H3.out.cell).frozen 7
        go_wp2_with fail
        refine bodyPost_ret (v := nodeV (.node op f mn mx kids) (.slice ka kids.length kc)) (by unfold nodeV; simp [results, Tryz.results94, go_sem, d0, d1, d2, d3, d4, d5, d6, d7]; try rfl) rfl ?_
        exact ⟨_, HPP.out, rxn_post H3.out.only HA3.out HG.out H3.out.cell.lt (H3.out.kids.mono fun b hb => hb.1)⟩
end Go.Proofs.YtgjcibhhffkemaaGreatDoor
/- The program's reader of patterns: part, pattern. -/
set_option linter.unusedVariables false
set_option linter.unusedSimpArgs false
namespace Go.Proofs.YtgjcibhhffkemaaGreatDoor
open Go.RowKit Bt
set_option maxRecDepth 100000 in
set_option maxHeartbeats 3200000 in
theorem partX (g : Nat) (s : ByteArray) (p o : Nat) (w : World) (h : AtG w g 94 (rxr s p o)) (hp : p ≤ s.size) (hs : s.size ≤ 900) (ho : o ≤ 20) (HP : ∀ p', p ≤ p' → o ≠ 20 → p' < s.size → PatCx s (p' + 1) (o + 1)) :
    Calls Tryz.prog 83 #[.pointer (some ⟨g, 0, none⟩)] w fun e w' => ∃ r, P s .part o p r ∧ RxN g s o w r e w' := by
  have HPI := Lib.hid (fun (q : Nat) (hq : p ≤ q ∧ q ≤ s.size) (w1 : World) (h1 : AtG w1 g 94 (rxr s (q : Int) (o : Int))) => pieceX g s q o w1 h1 hq.2 hs ho (HP q hq.1))
  have HOI := Lib.hid ho
  have HS := Lib.hid hs
  have HG := Lib.hid (show ¬ w.heap.size = g by have := h.lt; omega)
  have HGL := Lib.hid h.lt
  have HA0 := Lib.hid (h.alloc (.cells nodeZ 41))
  have HZ0 := Lib.hid (AtG.new w 41 nodeZ)
  have HO0 := Lib.hid ((Only.refl (S := fun k => k = g) w).al (.cells nodeZ 41))
  have HPL := Lib.hid hp
  have HSZ0 : Hid ((w.alloc (.cells nodeZ 41)).heap.size = w.heap.size + 1) := Lib.hid (by simp)
  have HAT := Lib.hid (pieceX g s p o _ HA0.out hp hs ho (HP p (Nat.le_refl _)))
  go_enter Tryz.func83, Tryz.ntmps83
  go_wp2_with fail
  refine (HAT.out).mono ?_
  rintro e9 w2 ⟨r, hPr, ho, hr⟩
  have HPS := Lib.hid hPr
  have hin := P.in hPr HPL.out
  have HO2 := Lib.hid (HO0.out.tr ho); have HZ2 := Lib.hid (HZ0.out.only ho HG.out)
  clear HAT hPr ho HA0 HZ0 HO0
  cases r with
  | no c x =>
    obtain ⟨b, rfl, hx⟩ := hr
    exact ⟨rfl, _, P.partNo HPS.out, HO2.out, b, rfl, hx⟩
  | ok t0 q0 =>
    obtain ⟨kv, rfl, hk, ha⟩ := hr
    rw [HSZ0.out] at hk
    obtain ⟨op0, f0, mn0, mx0, kids0⟩ := t0
    obtain ⟨ka0, kc0, rfl⟩ := KAt.slice hk
    have HA2 := Lib.hid ha; have HK2 := Lib.hid hk
    have HQ0 := Lib.hid (show p ≤ q0 ∧ q0 ≤ s.size from ⟨by have h1 := hin.1; simp [Q.far] at h1; omega, hin.2⟩)
    clear ha hk hin HSZ0
    unfold nodeV
    dsimp only
    go_wp2_with fail
    go_loopw [3] (fun v wr => ∃ (ps : List (Tree × Value)) (q : Nat), ps ≠ [] ∧ ps.length ≤ q + 1 ∧ Kids g w v ps wr ∧ AtG wr g 94 (rxr s (q : Int) (o : Int)) ∧ (p ≤ q ∧ q ≤ s.size) ∧ ∀ r, P s (.partL (ps.map (·.1))) o q r → P s .part o p r) (fun _ wr => leftX s g wr)
    case atStart => exact ⟨_, q0, by simp, by simp, Kids.start HZ2.out HO2.out HK2.out, HA2.out.alloc _, HQ0.out, fun r hr => P.partOk HPS.out hr⟩
    case round =>
      obtain ⟨ps, q, hne, hln, hH, ha, hq, hPP⟩ := hrel
      have HNE := Lib.hid hne; have HLN0 := Lib.hid hln
      have HLN := Lib.hid (show ps.length ≤ 901 by have := hq.2; omega)
      have HH := Lib.hid hH; have HA := Lib.hid ha; have HQ := Lib.hid hq; have HIN := Lib.hid hPP
      have HLE := Lib.hid (leftX_ok ha)
      clear hH ha hPP HK2 HA2 HZ2 HO2 HQ0 HPS hne hln
      have hoI : (o : Int) ≤ 20 := by have := HOI.out; omega
      by_cases hlt : q < s.size
      · have HPK := Lib.hid (peekX_in g s q o wr HA.out hlt)
        have HI1 := Lib.hid (fun (w1 : World) (h1 : AtG w1 g 94 (rxr s (q : Int) (o : Int))) => isX g s q o 124 w1 h1 hq.2 (by decide))
        have HI2 := Lib.hid (fun (w1 : World) (h1 : AtG w1 g 94 (rxr s (q : Int) (o : Int))) => isX g s q o 41 w1 h1 hq.2 (by decide))
        have hge := ch_pos hlt
        have HQ9 := Lib.hid hq.2
        by_cases h124 : ch s q = 124
        · have HPP := Lib.hid (HIN.out _ (P.partEnd (s := s) (o := o) (p := q) (l := ps.map (·.1)) (fun hg => hg.2.1 h124)))
          rw [decide_eq_true h124] at HI1
          generalize ch s q = c at *
          clear h124
          go_wp2_with fail
          refine (HPK.out).mono ?_
          rintro e9 w3 ⟨rfl, hb⟩
          have HA3 := Lib.hid (HA.out.below hb); have H3 := Lib.hid (HH.out.below HGL.out hb)
          clear hb HPK HA HH
          go_wp2_with fail
          refine (HI1.out _ HA3.out).mono ?_
          rintro e9 w5 ⟨rfl, hb⟩
          have HA5 := Lib.hid (HA3.out.below hb); have H5 := Lib.hid (H3.out.below HGL.out hb)
          clear hb HI1 HI2 HA3 H3
          have HMN := Lib.hid (manyX_any 2 (w.heap.size + 1) ps.length u3 ps w5 H5.out.row H5.out.kids HNE.out (by have := HLN.out; omega))
          generalize many 2 (ps.map (·.1)) = T at *
          obtain ⟨op, f, mn, mx, kids⟩ := T
          go_wp2_with fail
          refine (HMN.out).mono ?_
          rintro e9 wm ⟨hb, kv, rfl, hk⟩
          obtain ⟨ka, kc, rfl⟩ := KAt.slice hk
          have HAm := Lib.hid (HA5.out.below hb); have HZm := Lib.hid (H5.out.cell.below hb); have HOm := Lib.hid (H5.out.only.tb hb)
          have HKm := Lib.hid (KAt.below (hi' := wm.heap.size) hk hb hb.size)
          clear hb hk HMN
          have d0 : wm.cell? ⟨w.heap.size, 0, none⟩ = some (.int .i64 0) := (HZm.out).cell 0 _ rfl
          have d1 : wm.cell? ⟨w.heap.size, 1, none⟩ = some (.int .u64 0) := (HZm.out).cell 1 _ rfl
          have d2 : wm.cell? ⟨w.heap.size, 2, none⟩ = some (.int .u64 0) := (HZm.out).cell 2 _ rfl
          have d3 : wm.cell? ⟨w.heap.size, 3, none⟩ = some (.int .u64 0) := (HZm.out).cell 3 _ rfl
          have d4 : wm.cell? ⟨w.heap.size, 4, none⟩ = some (.int .u64 0) := (HZm.out).cell 4 _ rfl
          have d5 : wm.cell? ⟨w.heap.size, 5, none⟩ = some (.int .i64 0) := (HZm.out).cell 5 _ rfl
          have d6 : wm.cell? ⟨w.heap.size, 6, none⟩ = some (.int .i64 0) := (HZm.out).cell 6 _ rfl
          have d7 : wm.cell? ⟨w.heap.size, 7, none⟩ = some (.slice none 0 0) := (HZm.out).cell 7 _ rfl
          have f0 := (HZm.out).frozen 0; have f1 := (HZm.out).frozen 1; have f2 := (HZm.out).frozen 2; have f3 := (HZm.out).frozen 3
          have f4 := (HZm.out).frozen 4; have f5 := (HZm.out).frozen 5; have f6 := (HZm.out).frozen 6; have f7 := (HZm.out).frozen 7
          unfold nodeV
          dsimp only
          go_wp2_with fail
          refine bodyPost_ret (v := nodeV (.node op f mn mx kids) (.slice ka kids.length kc)) (by unfold nodeV; simp [results, Tryz.results83, go_sem, d0, d1, d2, d3, d4, d5, d6, d7]; try rfl) rfl ?_
          exact ⟨_, HPP.out, rxn_post HOm.out HAm.out HG.out HZm.out.lt HKm.out⟩
        · rw [decide_eq_false h124] at HI1
          by_cases h0 : o = 0
          · have HGO := Lib.hid (show goes s o q from ⟨hge, h124, .inr h0⟩)
            have ho0 : ¬ (0 : Int) < (o : Int) := by omega
            generalize ch s q = c at *
            clear h124
            go_wp2_with fail
            refine (HPK.out).mono ?_
            rintro e9 w3 ⟨rfl, hb⟩
            have HA3 := Lib.hid (HA.out.below hb); have H3 := Lib.hid (HH.out.below HGL.out hb)
            clear hb HPK HA HH
            go_wp2_with fail
            refine (HI1.out _ HA3.out).mono ?_
            rintro e9 w5 ⟨rfl, hb⟩
            have HA5 := Lib.hid (HA3.out.below hb); have H5 := Lib.hid (H3.out.below HGL.out hb)
            clear hb HI1 HI2 HA3 H3
            have z2 : w5.cell? ⟨g, 2, none⟩ = some (.int .i64 (o : Int)) := HA5.out.cell 2 _ rfl
            have HPC := Lib.hid (HPI.out q HQ.out w5 HA5.out)
            clear h0 hlt hq
            go_wp2_with fail
            refine (HPC.out).mono ?_
            rintro e9 w4 ⟨r, hPr, ho, hr⟩
            have HPS := Lib.hid hPr
            have hin := P.in hPr HQ9.out
            have H4 := Lib.hid (H5.out.next HGL.out ho)
            have HOO := Lib.hid ho
            have HWS := Lib.hid (show w.heap.size + 1 ≤ w4.heap.size by have := H4.out.cell.lt; omega)
            clear hPr ho
            cases r with
            | no c x =>
              obtain ⟨b, rfl, hx⟩ := hr
              exact ⟨rfl, _, HIN.out _ (P.partBad HGO.out HPS.out), H4.out.only, b, rfl, hx⟩
            | ok t q' =>
              obtain ⟨kv, rfl, hk, ha⟩ := hr
              obtain ⟨op, f, mn, mx, kids⟩ := t
              obtain ⟨ka, kc, rfl⟩ := KAt.slice hk
              have HA4 := Lib.hid ha; have HK4 := Lib.hid hk
              have HIN4 := Lib.hid hin
              have HROW := Lib.hid ((H4.out.below HGL.out ((Below.refl w4.heap.size w4).alloc (Nat.le_refl _) (.cells (nodeC op f mn mx (.slice ka kids.length kc)) 41))).row)
              clear ha hk hin
              unfold nodeV
              dsimp only
              go_wp2_with (at_builtin; go_must (refine wpList_appRowX rfl (.tmp 33) (.tmp 36) 39 rfl (w.heap.size + 1) 41 _ 8 80 Tryz.underlying39 infoNode rfl (by decide) u3 _ ps.length 1 (flatN ps) (nodeL (.node op f mn mx kids) (.slice ka kids.length kc)) HROW.out (src_at (AtG.new _ 41 _) 1) rfl rfl rfl (fun y hy => by unfold nodeL at hy; simp at hy; rcases hy with rfl | rfl | rfl | rfl | rfl | rfl | rfl | rfl <;> rfl) (by have := HLN.out; omega) (by decide) (by have := HWS.out; simp; omega) ?_); intro v' w5 hown hgr hbk; have HK5 := Lib.hid (H5.out.more HGL.out HOO.out HK4.out hown hgr hbk); have HGR := Lib.hid hgr; clear hown hgr hbk)
              have HA5 := Lib.hid ((HA4.out.alloc (.cells (nodeC op f mn mx (.slice ka kids.length kc)) 41)).grown HGR.out (fun e => by have := own_base HROW.out _ e; have := HGL.out; omega))
              have hq' : q + 1 ≤ q' ∧ q' ≤ s.size := ⟨by have h1 := HIN4.out.1; simp [Q.far] at h1; omega, HIN4.out.2⟩
              refine ⟨⟨ps ++ [(.node op f mn mx kids, .slice ka kids.length kc)], q', by simp, by have := HLN0.out; simp; omega, HK5.out, HA5.out, ⟨by have := HQ.out.1; omega, hq'.2⟩, fun r hr => HIN.out r (P.partMore HGO.out HPS.out (by rw [List.map_append] at hr; exact hr))⟩, ?_⟩
              rw [leftX_ok HA5.out, HLE.out]
              omega
          · have ho0 : (0 : Int) < (o : Int) := by omega
            by_cases h41 : ch s q = 41
            · have HPP := Lib.hid (HIN.out _ (P.partEnd (s := s) (o := o) (p := q) (l := ps.map (·.1)) (fun hg => hg.2.2.elim (fun h => h h41) (fun h => h0 h))))
              rw [decide_eq_true h41] at HI2
              generalize ch s q = c at *
              clear h124 h41 h0
              go_wp2_with fail
              refine (HPK.out).mono ?_
              rintro e9 w3 ⟨rfl, hb⟩
              have HA3 := Lib.hid (HA.out.below hb); have H3 := Lib.hid (HH.out.below HGL.out hb)
              clear hb HPK HA HH
              go_wp2_with fail
              refine (HI1.out _ HA3.out).mono ?_
              rintro e9 w5 ⟨rfl, hb⟩
              have HA5 := Lib.hid (HA3.out.below hb); have H5 := Lib.hid (H3.out.below HGL.out hb)
              clear hb HA3 H3 HI1
              have z2 : w5.cell? ⟨g, 2, none⟩ = some (.int .i64 (o : Int)) := HA5.out.cell 2 _ rfl
              go_wp2_with fail
              refine (HI2.out _ HA5.out).mono ?_
              rintro e9 w6 ⟨rfl, hb⟩
              have HA6 := Lib.hid (HA5.out.below hb); have H6 := Lib.hid (H5.out.below HGL.out hb)
              clear hb HA5 H5 HI2 z2
              have HMN := Lib.hid (manyX_any 2 (w.heap.size + 1) ps.length u3 ps w6 H6.out.row H6.out.kids HNE.out (by have := HLN.out; omega))
              generalize many 2 (ps.map (·.1)) = T at *
              obtain ⟨op, f, mn, mx, kids⟩ := T
              go_wp2_with fail
              refine (HMN.out).mono ?_
              rintro e9 wm ⟨hb, kv, rfl, hk⟩
              obtain ⟨ka, kc, rfl⟩ := KAt.slice hk
              have HAm := Lib.hid (HA6.out.below hb); have HZm := Lib.hid (H6.out.cell.below hb); have HOm := Lib.hid (H6.out.only.tb hb)
              have HKm := Lib.hid (KAt.below (hi' := wm.heap.size) hk hb hb.size)
              clear hb hk HMN
              have d0 : wm.cell? ⟨w.heap.size, 0, none⟩ = some (.int .i64 0) := (HZm.out).cell 0 _ rfl
              have d1 : wm.cell? ⟨w.heap.size, 1, none⟩ = some (.int .u64 0) := (HZm.out).cell 1 _ rfl
              have d2 : wm.cell? ⟨w.heap.size, 2, none⟩ = some (.int .u64 0) := (HZm.out).cell 2 _ rfl
              have d3 : wm.cell? ⟨w.heap.size, 3, none⟩ = some (.int .u64 0) := (HZm.out).cell 3 _ rfl
              have d4 : wm.cell? ⟨w.heap.size, 4, none⟩ = some (.int .u64 0) := (HZm.out).cell 4 _ rfl
              have d5 : wm.cell? ⟨w.heap.size, 5, none⟩ = some (.int .i64 0) := (HZm.out).cell 5 _ rfl
              have d6 : wm.cell? ⟨w.heap.size, 6, none⟩ = some (.int .i64 0) := (HZm.out).cell 6 _ rfl
              have d7 : wm.cell? ⟨w.heap.size, 7, none⟩ = some (.slice none 0 0) := (HZm.out).cell 7 _ rfl
              have f0 := (HZm.out).frozen 0; have f1 := (HZm.out).frozen 1; have f2 := (HZm.out).frozen 2; have f3 := (HZm.out).frozen 3
              have f4 := (HZm.out).frozen 4; have f5 := (HZm.out).frozen 5; have f6 := (HZm.out).frozen 6; have f7 := (HZm.out).frozen 7
              unfold nodeV
              dsimp only
              go_wp2_with fail
              refine bodyPost_ret (v := nodeV (.node op f mn mx kids) (.slice ka kids.length kc)) (by unfold nodeV; simp [results, Tryz.results83, go_sem, d0, d1, d2, d3, d4, d5, d6, d7]; try rfl) rfl ?_
              exact ⟨_, HPP.out, rxn_post HOm.out HAm.out HG.out HZm.out.lt HKm.out⟩
            · have HGO := Lib.hid (show goes s o q from ⟨hge, h124, .inl h41⟩)
              rw [decide_eq_false h41] at HI2
              generalize ch s q = c at *
              clear h124 h41 h0
              go_wp2_with fail
              refine (HPK.out).mono ?_
              rintro e9 w3 ⟨rfl, hb⟩
              have HA3 := Lib.hid (HA.out.below hb); have H3 := Lib.hid (HH.out.below HGL.out hb)
              clear hb HPK HA HH
              go_wp2_with fail
              refine (HI1.out _ HA3.out).mono ?_
              rintro e9 w5 ⟨rfl, hb⟩
              have HA5 := Lib.hid (HA3.out.below hb); have H5 := Lib.hid (H3.out.below HGL.out hb)
              clear hb HA3 H3 HI1
              have z2 : w5.cell? ⟨g, 2, none⟩ = some (.int .i64 (o : Int)) := HA5.out.cell 2 _ rfl
              go_wp2_with fail
              refine (HI2.out _ HA5.out).mono ?_
              rintro e9 w6 ⟨rfl, hb⟩
              have HA6 := Lib.hid (HA5.out.below hb); have H6 := Lib.hid (H5.out.below HGL.out hb)
              have HPC := Lib.hid (HPI.out q HQ.out w6 HA6.out)
              clear hb HA5 H5 HI2 z2 hlt hq
              go_wp2_with fail
              refine (HPC.out).mono ?_
              rintro e9 w4 ⟨r, hPr, ho, hr⟩
              have HPS := Lib.hid hPr
              have hin := P.in hPr HQ9.out
              have H4 := Lib.hid (H6.out.next HGL.out ho)
              have HOO := Lib.hid ho
              have HWS := Lib.hid (show w.heap.size + 1 ≤ w4.heap.size by have := H4.out.cell.lt; omega)
              clear hPr ho
              cases r with
              | no c x =>
                obtain ⟨b, rfl, hx⟩ := hr
                exact ⟨rfl, _, HIN.out _ (P.partBad HGO.out HPS.out), H4.out.only, b, rfl, hx⟩
              | ok t q' =>
                obtain ⟨kv, rfl, hk, ha⟩ := hr
                obtain ⟨op, f, mn, mx, kids⟩ := t
                obtain ⟨ka, kc, rfl⟩ := KAt.slice hk
                have HA4 := Lib.hid ha; have HK4 := Lib.hid hk
                have HIN4 := Lib.hid hin
                have HROW := Lib.hid ((H4.out.below HGL.out ((Below.refl w4.heap.size w4).alloc (Nat.le_refl _) (.cells (nodeC op f mn mx (.slice ka kids.length kc)) 41))).row)
                clear ha hk hin
                unfold nodeV
                dsimp only
                go_wp2_with (at_builtin; go_must (refine wpList_appRowX rfl (.tmp 33) (.tmp 36) 39 rfl (w.heap.size + 1) 41 _ 8 80 Tryz.underlying39 infoNode rfl (by decide) u3 _ ps.length 1 (flatN ps) (nodeL (.node op f mn mx kids) (.slice ka kids.length kc)) HROW.out (src_at (AtG.new _ 41 _) 1) rfl rfl rfl (fun y hy => by unfold nodeL at hy; simp at hy; rcases hy with rfl | rfl | rfl | rfl | rfl | rfl | rfl | rfl <;> rfl) (by have := HLN.out; omega) (by decide) (by have := HWS.out; simp; omega) ?_); intro v' w5 hown hgr hbk; have HK5 := Lib.hid (H6.out.more HGL.out HOO.out HK4.out hown hgr hbk); have HGR := Lib.hid hgr; clear hown hgr hbk)
                have HA5 := Lib.hid ((HA4.out.alloc (.cells (nodeC op f mn mx (.slice ka kids.length kc)) 41)).grown HGR.out (fun e => by have := own_base HROW.out _ e; have := HGL.out; omega))
                have hq' : q + 1 ≤ q' ∧ q' ≤ s.size := ⟨by have h1 := HIN4.out.1; simp [Q.far] at h1; omega, HIN4.out.2⟩
                refine ⟨⟨ps ++ [(.node op f mn mx kids, .slice ka kids.length kc)], q', by simp, by have := HLN0.out; simp; omega, HK5.out, HA5.out, ⟨by have := HQ.out.1; omega, hq'.2⟩, fun r hr => HIN.out r (P.partMore HGO.out HPS.out (by rw [List.map_append] at hr; exact hr))⟩, ?_⟩
                rw [leftX_ok HA5.out, HLE.out]
                omega
      · have hqe : q = s.size := by omega
        have HPK := Lib.hid (peekX_end g s q o wr HA.out hqe)
        have hce : ch s q = -1 := ch_end (by omega)
        have HPP := Lib.hid (HIN.out _ (P.partEnd (s := s) (o := o) (p := q) (l := ps.map (·.1)) (fun hg => by have := hg.1; omega)))
        clear hqe hce hlt hq
        go_wp2_with fail
        refine (HPK.out).mono ?_
        rintro e9 w3 ⟨rfl, hb⟩
        have HA3 := Lib.hid (HA.out.below hb); have H3 := Lib.hid (HH.out.below HGL.out hb)
        clear hb HPK HA HH
        have HMN := Lib.hid (manyX_any 2 (w.heap.size + 1) ps.length u3 ps w3 H3.out.row H3.out.kids HNE.out (by have := HLN.out; omega))
        generalize many 2 (ps.map (·.1)) = T at *
        obtain ⟨op, f, mn, mx, kids⟩ := T
        go_wp2_with fail
        refine (HMN.out).mono ?_
        rintro e9 wm ⟨hb, kv, rfl, hk⟩
        obtain ⟨ka, kc, rfl⟩ := KAt.slice hk
        have HAm := Lib.hid (HA3.out.below hb); have HZm := Lib.hid (H3.out.cell.below hb); have HOm := Lib.hid (H3.out.only.tb hb)
        have HKm := Lib.hid (KAt.below (hi' := wm.heap.size) hk hb hb.size)
        clear hb hk HMN
        have d0 : wm.cell? ⟨w.heap.size, 0, none⟩ = some (.int .i64 0) := (HZm.out).cell 0 _ rfl
        have d1 : wm.cell? ⟨w.heap.size, 1, none⟩ = some (.int .u64 0) := (HZm.out).cell 1 _ rfl
        have d2 : wm.cell? ⟨w.heap.size, 2, none⟩ = some (.int .u64 0) := (HZm.out).cell 2 _ rfl
        have d3 : wm.cell? ⟨w.heap.size, 3, none⟩ = some (.int .u64 0) := (HZm.out).cell 3 _ rfl
        have d4 : wm.cell? ⟨w.heap.size, 4, none⟩ = some (.int .u64 0) := (HZm.out).cell 4 _ rfl
        have d5 : wm.cell? ⟨w.heap.size, 5, none⟩ = some (.int .i64 0) := (HZm.out).cell 5 _ rfl
        have d6 : wm.cell? ⟨w.heap.size, 6, none⟩ = some (.int .i64 0) := (HZm.out).cell 6 _ rfl
        have d7 : wm.cell? ⟨w.heap.size, 7, none⟩ = some (.slice none 0 0) := (HZm.out).cell 7 _ rfl
        have f0 := (HZm.out).frozen 0; have f1 := (HZm.out).frozen 1; have f2 := (HZm.out).frozen 2; have f3 := (HZm.out).frozen 3
        have f4 := (HZm.out).frozen 4; have f5 := (HZm.out).frozen 5; have f6 := (HZm.out).frozen 6; have f7 := (HZm.out).frozen 7
        unfold nodeV
        dsimp only
        go_wp2_with fail
        refine bodyPost_ret (v := nodeV (.node op f mn mx kids) (.slice ka kids.length kc)) (by unfold nodeV; simp [results, Tryz.results83, go_sem, d0, d1, d2, d3, d4, d5, d6, d7]; try rfl) rfl ?_
        exact ⟨_, HPP.out, rxn_post HOm.out HAm.out HG.out HZm.out.lt HKm.out⟩
set_option maxRecDepth 100000 in
set_option maxHeartbeats 3200000 in
theorem patternX (g : Nat) (s : ByteArray) (p o : Nat) (w : World) (h : AtG w g 94 (rxr s p o)) (hp : p ≤ s.size) (hs : s.size ≤ 900) (ho : o ≤ 20) (HP : ∀ p', p ≤ p' → o ≠ 20 → p' < s.size → PatCx s (p' + 1) (o + 1)) :
    Calls Tryz.prog 63 #[.pointer (some ⟨g, 0, none⟩)] w fun e w' => ∃ r, P s .pat o p r ∧ RxN g s o w r e w' := by
  have HPI := Lib.hid (fun (q : Nat) (hq : p ≤ q ∧ q ≤ s.size) (w1 : World) (h1 : AtG w1 g 94 (rxr s (q : Int) (o : Int))) => partX g s q o w1 h1 hq.2 hs ho (fun p' hp' => HP p' (Nat.le_trans hq.1 hp')))
  have HS := Lib.hid hs
  have HG := Lib.hid (show ¬ w.heap.size = g by have := h.lt; omega)
  have HGL := Lib.hid h.lt
  have HA0 := Lib.hid (h.alloc (.cells nodeZ 41))
  have HZ0 := Lib.hid (AtG.new w 41 nodeZ)
  have HO0 := Lib.hid ((Only.refl (S := fun k => k = g) w).al (.cells nodeZ 41))
  have HPL := Lib.hid hp
  have HSZ0 : Hid ((w.alloc (.cells nodeZ 41)).heap.size = w.heap.size + 1) := Lib.hid (by simp)
  have HAT := Lib.hid (partX g s p o _ HA0.out hp hs ho HP)
  go_enter Tryz.func63, Tryz.ntmps63
  go_wp2_with fail
  refine (HAT.out).mono ?_
  rintro e9 w2 ⟨r, hPr, ho, hr⟩
  have HPS := Lib.hid hPr
  have hin := P.in hPr HPL.out
  have HO2 := Lib.hid (HO0.out.tr ho); have HZ2 := Lib.hid (HZ0.out.only ho HG.out)
  clear HAT hPr ho HA0 HZ0 HO0
  cases r with
  | no c x =>
    obtain ⟨b, rfl, hx⟩ := hr
    exact ⟨rfl, _, P.patNo HPS.out, HO2.out, b, rfl, hx⟩
  | ok t0 q0 =>
    obtain ⟨kv, rfl, hk, ha⟩ := hr
    rw [HSZ0.out] at hk
    obtain ⟨op0, f0, mn0, mx0, kids0⟩ := t0
    obtain ⟨ka0, kc0, rfl⟩ := KAt.slice hk
    have HA2 := Lib.hid ha; have HK2 := Lib.hid hk
    have HQ0 := Lib.hid (show p ≤ q0 ∧ q0 ≤ s.size from ⟨by have h1 := hin.1; simp [Q.far] at h1; omega, hin.2⟩)
    clear ha hk hin HSZ0
    unfold nodeV
    dsimp only
    go_wp2_with fail
    go_loopw [3] (fun v wr => ∃ (ps : List (Tree × Value)) (q : Nat), ps ≠ [] ∧ ps.length ≤ q + 1 ∧ Kids g w v ps wr ∧ AtG wr g 94 (rxr s (q : Int) (o : Int)) ∧ (p ≤ q ∧ q ≤ s.size) ∧ ∀ r, P s (.patL (ps.map (·.1))) o q r → P s .pat o p r) (fun _ wr => leftX s g wr)
    case atStart => exact ⟨_, q0, by simp, by simp, Kids.start HZ2.out HO2.out HK2.out, HA2.out.alloc _, HQ0.out, fun r hr => P.patOk HPS.out hr⟩
    case round =>
      obtain ⟨ps, q, hne, hln, hH, ha, hq, hPP⟩ := hrel
      have HNE := Lib.hid hne; have HLN0 := Lib.hid hln
      have HLN := Lib.hid (show ps.length ≤ 901 by have := hq.2; omega)
      have HH := Lib.hid hH; have HA := Lib.hid ha; have HQ := Lib.hid hq; have HIN := Lib.hid hPP
      have HLE := Lib.hid (leftX_ok ha)
      clear hH ha hPP HK2 HA2 HZ2 HO2 HQ0 HPS hne hln
      have HI1 := isX g s q o 124 wr HA.out hq.2 (by decide)
      by_cases h124 : ch s q = 124
      · have hlt : q < s.size := ch_ge (by omega)
        have HQ9 := Lib.hid (show q + 1 ≤ s.size from hlt)
        have H124 := Lib.hid h124
        have hqI : (q : Int) < 1000 := by have := HS.out; omega
        rw [decide_eq_true h124] at HI1
        have HIH := Lib.hid HI1
        clear h124 HI1
        go_wp2_with fail
        refine (HIH.out).mono ?_
        rintro e9 w3 ⟨rfl, hb⟩
        have HA3 := Lib.hid (HA.out.below hb)
        have H3 := Lib.hid ((HH.out.below HGL.out hb).next HGL.out (Only.set (S := fun k => k = g) w3 g 1 (.int .i64 ((q : Int) + 1)) rfl))
        have z1 : w3.cell? ⟨g, 1, none⟩ = some (.int .i64 (q : Int)) := HA3.out.cell 1 _ rfl
        have y1 := HA3.out.frozen 1
        have HA4 : Hid (AtG (w3.setCell ⟨g, 1, none⟩ (.int .i64 ((q : Int) + 1))) g 94 (rxr s ((q + 1 : Nat) : Int) o)) := Lib.hid (by
          rw [show ((q + 1 : Nat) : Int) = (q : Int) + 1 from by omega]; exact HA3.out.set 1 _)
        clear hb HIH HA HH
        go_upto_region 4 with (fail)
        obtain ⟨wq, hwq⟩ : ∃ wq : World, wq = w3.setCell ⟨g, 1, none⟩ (.int .i64 ((q : Int) + 1)) := ⟨_, rfl⟩
        rw [← hwq] at HA4 H3 ⊢
        clear hwq z1 y1 HA3
        have HPC := Lib.hid (HPI.out (q + 1) ⟨by have := HQ.out.1; omega, HQ9.out⟩ wq HA4.out)
        clear hlt hq
        go_wp2_with fail
        refine (HPC.out).mono ?_
        rintro e9 w4 ⟨r, hPr, ho, hr⟩
        have HPS := Lib.hid hPr
        have hin := P.in hPr HQ9.out
        have H4 := Lib.hid (H3.out.next HGL.out ho)
        have HOO := Lib.hid ho
        have HWS := Lib.hid (show w.heap.size + 1 ≤ w4.heap.size by have := H4.out.cell.lt; omega)
        clear hPr ho
        cases r with
        | no c x =>
          obtain ⟨b, rfl, hx⟩ := hr
          exact ⟨rfl, _, HIN.out _ (P.patBad H124.out HPS.out), H4.out.only, b, rfl, hx⟩
        | ok t q' =>
          obtain ⟨kv, rfl, hk, ha⟩ := hr
          obtain ⟨op, f, mn, mx, kids⟩ := t
          obtain ⟨ka, kc, rfl⟩ := KAt.slice hk
          have HA4 := Lib.hid ha; have HK4 := Lib.hid hk
          have HIN4 := Lib.hid hin
          have HROW := Lib.hid ((H4.out.below HGL.out ((Below.refl w4.heap.size w4).alloc (Nat.le_refl _) (.cells (nodeC op f mn mx (.slice ka kids.length kc)) 41))).row)
          clear ha hk hin
          unfold nodeV
          dsimp only
          go_wp2_with (at_builtin; go_must (refine wpList_appRowX rfl (.tmp 16) (.tmp 19) 39 rfl (w.heap.size + 1) 41 _ 8 80 Tryz.underlying39 infoNode rfl (by decide) u3 _ ps.length 1 (flatN ps) (nodeL (.node op f mn mx kids) (.slice ka kids.length kc)) HROW.out (src_at (AtG.new _ 41 _) 1) rfl rfl rfl (fun y hy => by unfold nodeL at hy; simp at hy; rcases hy with rfl | rfl | rfl | rfl | rfl | rfl | rfl | rfl <;> rfl) (by have := HLN.out; omega) (by decide) (by have := HWS.out; simp; omega) ?_); intro v' w5 hown hgr hbk; have HK5 := Lib.hid (H3.out.more HGL.out HOO.out HK4.out hown hgr hbk); have HGR := Lib.hid hgr; clear hown hgr hbk)
          have HA5 := Lib.hid ((HA4.out.alloc (.cells (nodeC op f mn mx (.slice ka kids.length kc)) 41)).grown HGR.out (fun e => by have := own_base HROW.out _ e; have := HGL.out; omega))
          have hq' : q + 1 ≤ q' ∧ q' ≤ s.size := ⟨by have h1 := HIN4.out.1; simp [Q.far] at h1; omega, HIN4.out.2⟩
          refine ⟨⟨ps ++ [(.node op f mn mx kids, .slice ka kids.length kc)], q', by simp, by have := HLN0.out; simp; omega, HK5.out, HA5.out, ⟨by have := HQ.out.1; omega, hq'.2⟩, fun r hr => HIN.out r (P.patMore H124.out HPS.out (by rw [List.map_append] at hr; exact hr))⟩, ?_⟩
          rw [leftX_ok HA5.out, HLE.out]
          omega
      · have HPP := Lib.hid (HIN.out _ (P.patEnd (s := s) (o := o) (p := q) (l := ps.map (·.1)) h124))
        rw [decide_eq_false h124] at HI1
        have HIH := Lib.hid HI1
        clear h124 HI1
        go_wp2_with fail
        refine (HIH.out).mono ?_
        rintro e9 w3 ⟨rfl, hb⟩
        have HA3 := Lib.hid (HA.out.below hb); have H3 := Lib.hid (HH.out.below HGL.out hb)
        clear hb HIH HA HH
        have HMN := Lib.hid (manyX_any 3 (w.heap.size + 1) ps.length u3 ps w3 H3.out.row H3.out.kids HNE.out (by have := HLN.out; omega))
        generalize many 3 (ps.map (·.1)) = T at *
        obtain ⟨op, f, mn, mx, kids⟩ := T
        go_wp2_with fail
        refine (HMN.out).mono ?_
        rintro e9 wm ⟨hb, kv, rfl, hk⟩
        obtain ⟨ka, kc, rfl⟩ := KAt.slice hk
        have HAm := Lib.hid (HA3.out.below hb); have HZm := Lib.hid (H3.out.cell.below hb); have HOm := Lib.hid (H3.out.only.tb hb)
        have HKm := Lib.hid (KAt.below (hi' := wm.heap.size) hk hb hb.size)
        clear hb hk HMN
        have d0 : wm.cell? ⟨w.heap.size, 0, none⟩ = some (.int .i64 0) := (HZm.out).cell 0 _ rfl
        have d1 : wm.cell? ⟨w.heap.size, 1, none⟩ = some (.int .u64 0) := (HZm.out).cell 1 _ rfl
        have d2 : wm.cell? ⟨w.heap.size, 2, none⟩ = some (.int .u64 0) := (HZm.out).cell 2 _ rfl
        have d3 : wm.cell? ⟨w.heap.size, 3, none⟩ = some (.int .u64 0) := (HZm.out).cell 3 _ rfl
        have d4 : wm.cell? ⟨w.heap.size, 4, none⟩ = some (.int .u64 0) := (HZm.out).cell 4 _ rfl
        have d5 : wm.cell? ⟨w.heap.size, 5, none⟩ = some (.int .i64 0) := (HZm.out).cell 5 _ rfl
        have d6 : wm.cell? ⟨w.heap.size, 6, none⟩ = some (.int .i64 0) := (HZm.out).cell 6 _ rfl
        have d7 : wm.cell? ⟨w.heap.size, 7, none⟩ = some (.slice none 0 0) := (HZm.out).cell 7 _ rfl
        have f0 := (HZm.out).frozen 0; have f1 := (HZm.out).frozen 1; have f2 := (HZm.out).frozen 2; have f3 := (HZm.out).frozen 3
        have f4 := (HZm.out).frozen 4; have f5 := (HZm.out).frozen 5; have f6 := (HZm.out).frozen 6; have f7 := (HZm.out).frozen 7
        unfold nodeV
        dsimp only
        go_wp2_with fail
        refine bodyPost_ret (v := nodeV (.node op f mn mx kids) (.slice ka kids.length kc)) (by unfold nodeV; simp [results, Tryz.results63, go_sem, d0, d1, d2, d3, d4, d5, d6, d7]; try rfl) rfl ?_
        exact ⟨_, HPP.out, rxn_post HOm.out HAm.out HG.out HZm.out.lt HKm.out⟩
theorem patCx (s : ByteArray) (hs : s.size ≤ 900) (n : Nat) : ∀ (p o : Nat), p ≤ s.size → o ≤ 20 → s.size - p < n → PatCx s p o := by
  induction n with
  | zero => intro p o _ _ h; omega
  | succ n ih =>
    intro p o hp ho hn g w h
    exact patternX g s p o w h hp hs ho (fun p' h1 h2 h3 => ih (p' + 1) (o + 1) h3 (by omega) (by omega))
end Go.Proofs.YtgjcibhhffkemaaGreatDoor
/- The program's reader of patterns: read, with what it recovers from. -/
set_option linter.unusedVariables false
set_option linter.unusedSimpArgs false
namespace Go.Proofs.YtgjcibhhffkemaaGreatDoor
open Go.RowKit Bt
/-- the spot as an error -/
def spotV (b : Nat) : Value := .iface 68 (.pointer (some ⟨b, 0, none⟩))
set_option maxRecDepth 100000 in
set_option maxHeartbeats 1600000 in
theorem catchX (np ne b : Nat) (older : List PanicEntry) (w : World) (hn : AtG w np 41 nodeZ) (he : AtG w ne 28 #[.nilIface]) (hne : np ≠ ne) :
    CallsD Tryz.prog 62 #[.pointer (some ⟨np, 0, none⟩), .pointer (some ⟨ne, 0, none⟩)] (.panicking ({ v := .iface 68 (.pointer (some ⟨b, 0, none⟩)), recovered := false } :: older)) w fun e u' w' =>
      e = .returned (.tuple #[]) ∧ u' = .panicking ({ v := .iface 68 (.pointer (some ⟨b, 0, none⟩)), recovered := true } :: older) ∧ w' = (putZ w np).setCell ⟨ne, 0, none⟩ (spotV b) := by
  have d0 : w.cell? ⟨np, 0, none⟩ = some (.int .i64 0) := hn.cell 0 _ rfl
  have d1 : w.cell? ⟨np, 1, none⟩ = some (.int .u64 0) := hn.cell 1 _ rfl
  have d2 : w.cell? ⟨np, 2, none⟩ = some (.int .u64 0) := hn.cell 2 _ rfl
  have d3 : w.cell? ⟨np, 3, none⟩ = some (.int .u64 0) := hn.cell 3 _ rfl
  have d4 : w.cell? ⟨np, 4, none⟩ = some (.int .u64 0) := hn.cell 4 _ rfl
  have d5 : w.cell? ⟨np, 5, none⟩ = some (.int .i64 0) := hn.cell 5 _ rfl
  have d6 : w.cell? ⟨np, 6, none⟩ = some (.int .i64 0) := hn.cell 6 _ rfl
  have d7 : w.cell? ⟨np, 7, none⟩ = some (.slice none 0 0) := hn.cell 7 _ rfl
  have f0 := hn.frozen 0; have f1 := hn.frozen 1; have f2 := hn.frozen 2; have f3 := hn.frozen 3
  have f4 := hn.frozen 4; have f5 := hn.frozen 5; have f6 := hn.frozen 6; have f7 := hn.frozen 7
  have e0 : w.cell? ⟨ne, 0, none⟩ = some .nilIface := he.cell 0 _ rfl
  have g0 := he.frozen 0
  have hne2 : ne ≠ np := fun h => hne h.symm
  have hta : (Instr.typeAssert (.iface 68 (.pointer (some ⟨b, 0, none⟩))) 20 68 true).run Tryz.prog w = .ok (.tuple #[.pointer (some ⟨b, 0, none⟩), .bool true]) w := by rfl
  clear hn he
  refine callsD_of_wpS Tryz.func62 rfl fun c₀ cs hu => ?_
  apply wpS_seq
  apply wpS_region
  simp [wpOpsS, go_sem, recoverD, hu, Tryz.ntmps62, Exit.thenS, hta]
  apply wpS_seq
  apply wpS_region
  simp [wpOpsS, go_sem, Exit.thenS]
  refine wpS_cond (t := true) (by simp [Act.eval, Array.replicate]) ?_
  simp only [if_true]
  apply wpS_region
  simp [wpOpsS, go_sem, d0, d1, d2, d3, d4, d5, d6, d7, f0, f1, f2, f3, f4, f5, f6, f7, e0, g0, hne, hne2, bodyPostS, results, Tryz.results62]
  rfl
set_option maxRecDepth 100000 in
theorem idleX (np ne : Nat) (w : World) :
    CallsD Tryz.prog 62 #[.pointer (some ⟨np, 0, none⟩), .pointer (some ⟨ne, 0, none⟩)] .returning w fun e u' w' => e = .returned (.tuple #[]) ∧ u' = .returning ∧ w' = w := by
  have hta : (Instr.typeAssert .nilIface 20 68 true).run Tryz.prog w = .ok (.tuple #[.pointer none, .bool false]) w := by rfl
  refine callsD_of_wpS Tryz.func62 rfl fun c₀ cs hu => ?_
  apply wpS_seq
  apply wpS_region
  simp [wpOpsS, go_sem, recoverD, hu, Tryz.ntmps62, Exit.thenS, hta]
  apply wpS_seq
  apply wpS_region
  simp [wpOpsS, go_sem, Exit.thenS]
  refine wpS_cond (t := false) (by simp [Act.eval, Array.replicate]) ?_
  simp only [Bool.false_eq_true, if_false]
  refine wpS_of_wp (wp_skip ?_)
  cases c₀
  simp_all [bodyPostS, results, Tryz.results62]
/-- what read leaves -/
def ReadPost (g : Nat) (s : ByteArray) (w : World) (e : Ending) (w' : World) : Prop :=
  Only (fun k => k = g) w w' ∧ ∃ r, P s .pat 0 0 r ∧ match r with
    | .ok t q => ∃ kv, e = .returned (.tuple #[nodeV t kv, .nilIface]) ∧ KAt (fun b => w.heap.size ≤ b) w' t kv
    | .no c x => ∃ b, e = .returned (.tuple #[zeroN, spotV b]) ∧ AtG w' b 73 #[.int .i64 (x : Int), .int .i64 c]
set_option maxRecDepth 100000 in
set_option maxHeartbeats 1600000 in
theorem readX (g : Nat) (s : ByteArray) (w : World) (h : AtG w g 94 (rxr s 0 0)) (hs : s.size ≤ 900) :
    Calls Tryz.prog 39 #[.pointer (some ⟨g, 0, none⟩)] w (ReadPost g s w) := by
  have hmf : ∀ (fn : Fn) (first cap : Array Value) (w : World), (Instr.makeFunc fn first cap).run Tryz.prog w = .ok (.func fn first cap) w := fun _ _ _ _ => rfl
  have HG := Lib.hid (show ¬ w.heap.size = g ∧ ¬ w.heap.size + 1 = g by have := h.lt; omega)
  have HGL := Lib.hid h.lt
  obtain ⟨W, hW⟩ : ∃ W : World, W = (w.alloc (.cells nodeZ 41)).alloc (.cells #[.nilIface] 28) := ⟨_, rfl⟩
  have hW' : (w.alloc (.cells #[.int .i64 0, .int .u64 0, .int .u64 0, .int .u64 0, .int .u64 0, .int .i64 0, .int .i64 0, .slice none 0 0] 41)).alloc (.cells #[.nilIface] 28) = W := hW.symm
  have HA0 := Lib.hid (show AtG W g 94 (rxr s 0 0) by rw [hW]; exact (h.alloc _).alloc _)
  have HZ0 := Lib.hid (show AtG W w.heap.size 41 nodeZ by rw [hW]; exact (AtG.new _ _ _).alloc _)
  have HE0 := Lib.hid (show AtG W (w.heap.size + 1) 28 #[.nilIface] by
    rw [hW]
    have := AtG.new (w.alloc (.cells nodeZ 41)) 28 #[.nilIface]
    simpa using this)
  have HO0 := Lib.hid (show Only (fun k => k = g) w W by rw [hW]; exact ((Only.refl (S := fun k => k = g) w).al _).al _)
  have HC := Lib.hid (patCx s hs (s.size + 1) 0 0 (Nat.zero_le _) (by omega) (by omega) g W HA0.out)
  have HSZ := Lib.hid (show W.heap.size = w.heap.size + 2 by rw [hW]; simp)
  clear hW h
  go_enter_defers Tryz.func39, Tryz.ntmps39
  go_wp2_with fail
  refine (HC.out).mono ?_
  rintro e9 w2 ⟨r, hPr, ho, hr⟩
  have HPS := Lib.hid hPr
  have HO2 := Lib.hid (HO0.out.tr ho); have HZ2 := Lib.hid (HZ0.out.only ho HG.out.1); have HE2 := Lib.hid (HE0.out.only ho HG.out.2)
  clear HC hPr ho HA0 HZ0 HO0 HE0
  cases r with
  | no c x =>
    obtain ⟨b, rfl, hx⟩ := hr
    have HX := Lib.hid hx
    clear hx
    refine leaves_cons (f := 62) (args := #[.pointer (some ⟨w.heap.size, 0, none⟩), .pointer (some ⟨w.heap.size + 1, 0, none⟩)]) (by simp) (by simp [go_sem]) ?_
    refine (catchX w.heap.size (w.heap.size + 1) b [] w2 HZ2.out HE2.out (by omega)).mono ?_
    rintro e u' w3 ⟨rfl, rfl, hw3⟩
    have HZ3 : AtG w3 w.heap.size 41 nodeZ := by rw [hw3]; exact (putZ_at HZ2.out).far (p := ⟨w.heap.size + 1, 0, none⟩) (by show w.heap.size ≠ w.heap.size + 1; omega) _
    have HE3 : AtG w3 (w.heap.size + 1) 28 #[spotV b] := by
      rw [hw3, putZ_eq]
      have := (putN_far HE2.out (show w.heap.size + 1 ≠ w.heap.size by omega) 0 emp 0 0 (.slice none 0 0)).set 0 (spotV b)
      exact this
    have HO3 : Only (fun k => k = g) w w3 := by
      rw [hw3, putZ_eq]
      exact (HO2.out.pN _ (.inr (Nat.le_refl _)) _ _ _ _ _).st _ _ _ (.inr (by omega))
    have HX3 : AtG w3 b 73 #[.int .i64 (x : Int), .int .i64 c] := by
      have hb1 : b ≠ w.heap.size := fun e => by subst e; have := HX.out.ne HZ2.out (by decide); exact this rfl
      have hb2 : b ≠ w.heap.size + 1 := fun e => by subst e; have := HX.out.ne HE2.out (by decide); exact this rfl
      rw [hw3, putZ_eq]
      exact (putN_far HX.out hb1 0 emp 0 0 (.slice none 0 0)).far (p := ⟨w.heap.size + 1, 0, none⟩) hb2 _
    have d0 : w3.cell? ⟨w.heap.size, 0, none⟩ = some (.int .i64 0) := HZ3.cell 0 _ rfl
    have d1 : w3.cell? ⟨w.heap.size, 1, none⟩ = some (.int .u64 0) := HZ3.cell 1 _ rfl
    have d2 : w3.cell? ⟨w.heap.size, 2, none⟩ = some (.int .u64 0) := HZ3.cell 2 _ rfl
    have d3 : w3.cell? ⟨w.heap.size, 3, none⟩ = some (.int .u64 0) := HZ3.cell 3 _ rfl
    have d4 : w3.cell? ⟨w.heap.size, 4, none⟩ = some (.int .u64 0) := HZ3.cell 4 _ rfl
    have d5 : w3.cell? ⟨w.heap.size, 5, none⟩ = some (.int .i64 0) := HZ3.cell 5 _ rfl
    have d6 : w3.cell? ⟨w.heap.size, 6, none⟩ = some (.int .i64 0) := HZ3.cell 6 _ rfl
    have d7 : w3.cell? ⟨w.heap.size, 7, none⟩ = some (.slice none 0 0) := HZ3.cell 7 _ rfl
    have e0 : w3.cell? ⟨w.heap.size + 1, 0, none⟩ = some (spotV b) := HE3.cell 0 _ rfl
    clear hw3
    have hfin : ReadPost g s w (.returned (.tuple #[zeroN, spotV b])) w3 := ⟨HO3, _, HPS.out, b, rfl, HX3⟩
    unfold zeroN at hfin
    simp [Leaves, settle, results, Tryz.results39, go_sem, d0, d1, d2, d3, d4, d5, d6, d7, e0]
    exact hfin
  | ok t q =>
    obtain ⟨kv, rfl, hk, ha⟩ := hr
    obtain ⟨op, f, mn, mx, kids⟩ := t
    obtain ⟨ka, kc, rfl⟩ := KAt.slice hk
    have HK2 := Lib.hid hk
    clear ha hk
    have d0 : w2.cell? ⟨w.heap.size, 0, none⟩ = some (.int .i64 0) := (HZ2.out).cell 0 _ rfl
    have d1 : w2.cell? ⟨w.heap.size, 1, none⟩ = some (.int .u64 0) := (HZ2.out).cell 1 _ rfl
    have d2 : w2.cell? ⟨w.heap.size, 2, none⟩ = some (.int .u64 0) := (HZ2.out).cell 2 _ rfl
    have d3 : w2.cell? ⟨w.heap.size, 3, none⟩ = some (.int .u64 0) := (HZ2.out).cell 3 _ rfl
    have d4 : w2.cell? ⟨w.heap.size, 4, none⟩ = some (.int .u64 0) := (HZ2.out).cell 4 _ rfl
    have d5 : w2.cell? ⟨w.heap.size, 5, none⟩ = some (.int .i64 0) := (HZ2.out).cell 5 _ rfl
    have d6 : w2.cell? ⟨w.heap.size, 6, none⟩ = some (.int .i64 0) := (HZ2.out).cell 6 _ rfl
    have d7 : w2.cell? ⟨w.heap.size, 7, none⟩ = some (.slice none 0 0) := (HZ2.out).cell 7 _ rfl
    have f0 := (HZ2.out).frozen 0; have f1 := (HZ2.out).frozen 1; have f2 := (HZ2.out).frozen 2; have f3 := (HZ2.out).frozen 3
    have f4 := (HZ2.out).frozen 4; have f5 := (HZ2.out).frozen 5; have f6 := (HZ2.out).frozen 6; have f7 := (HZ2.out).frozen 7
    have e0 : w2.cell? ⟨w.heap.size + 1, 0, none⟩ = some .nilIface := HE2.out.cell 0 _ rfl
    have g0 := HE2.out.frozen 0
    unfold nodeV
    dsimp only
    go_wp2_with fail
    refine leaves_cons (f := 62) (args := #[.pointer (some ⟨w.heap.size, 0, none⟩), .pointer (some ⟨w.heap.size + 1, 0, none⟩)]) (by simp) (by simp [go_sem]) ?_
    refine (idleX w.heap.size (w.heap.size + 1) _).mono ?_
    rintro e u' w3 ⟨rfl, rfl, hw3⟩
    have hw3' : w3 = (putN w2 w.heap.size op f mn mx (.slice ka kids.length kc)).setCell ⟨w.heap.size + 1, 0, none⟩ .nilIface := hw3
    have HZ3 : AtG w3 w.heap.size 41 (nodeC op f mn mx (.slice ka kids.length kc)) := by rw [hw3']; exact (putN_at HZ2.out op f mn mx _).far (p := ⟨w.heap.size + 1, 0, none⟩) (by show w.heap.size ≠ w.heap.size + 1; omega) _
    have HE3 : AtG w3 (w.heap.size + 1) 28 #[.nilIface] := by
      rw [hw3']
      exact (putN_far HE2.out (show w.heap.size + 1 ≠ w.heap.size by omega) op f mn mx _).set 0 .nilIface
    have HO3 : Only (fun k => k = g) w w3 := by
      rw [hw3']
      exact (HO2.out.pN _ (.inr (Nat.le_refl _)) _ _ _ _ _).st _ _ _ (.inr (by omega))
    have HK3 : KAt (fun b => w.heap.size ≤ b) w3 (.node op f mn mx kids) (.slice ka kids.length kc) := by
      have hsz := HSZ.out
      have h1 : KAt (Iv W.heap.size w2.heap.size) (putN w2 w.heap.size op f mn mx (.slice ka kids.length kc)) (.node op f mn mx kids) (.slice ka kids.length kc) := KAt.keep (fun b hb => putN_block _ _ _ _ _ _ _ b (by have := hb.1; omega) hb.2) (fun b hb => hb) _ _ HK2.out
      rw [hw3']
      refine KAt.mono (KAt.only (S := fun k => k = w.heap.size + 1) h1 (Only.set (S := fun k => k = w.heap.size + 1) _ (w.heap.size + 1) 0 .nilIface rfl) (fun b hb => ⟨by rw [putN_size]; exact hb.2, fun e => by have := hb.1; have e2 : b = w.heap.size + 1 := e; omega⟩)) (fun b hb => by have := hb.1; omega)
    have d0 : w3.cell? ⟨w.heap.size, 0, none⟩ = some (.int .i64 op) := HZ3.cell 0 _ rfl
    have d1 : w3.cell? ⟨w.heap.size, 1, none⟩ = some (.int .u64 ((wd f 0 : Nat) : Int)) := HZ3.cell 1 _ rfl
    have d2 : w3.cell? ⟨w.heap.size, 2, none⟩ = some (.int .u64 ((wd f 1 : Nat) : Int)) := HZ3.cell 2 _ rfl
    have d3 : w3.cell? ⟨w.heap.size, 3, none⟩ = some (.int .u64 ((wd f 2 : Nat) : Int)) := HZ3.cell 3 _ rfl
    have d4 : w3.cell? ⟨w.heap.size, 4, none⟩ = some (.int .u64 ((wd f 3 : Nat) : Int)) := HZ3.cell 4 _ rfl
    have d5 : w3.cell? ⟨w.heap.size, 5, none⟩ = some (.int .i64 mn) := HZ3.cell 5 _ rfl
    have d6 : w3.cell? ⟨w.heap.size, 6, none⟩ = some (.int .i64 mx) := HZ3.cell 6 _ rfl
    have d7 : w3.cell? ⟨w.heap.size, 7, none⟩ = some (.slice ka kids.length kc) := HZ3.cell 7 _ rfl
    have e0 : w3.cell? ⟨w.heap.size + 1, 0, none⟩ = some .nilIface := HE3.cell 0 _ rfl
    have hfin : ReadPost g s w (.returned (.tuple #[nodeV (.node op f mn mx kids) (.slice ka kids.length kc), .nilIface])) w3 := ⟨HO3, _, HPS.out, _, rfl, HK3⟩
    unfold nodeV at hfin
    dsimp only at hfin
    clear hw3 hw3'
    simp [Leaves, settle, results, Tryz.results39, go_sem, d0, d1, d2, d3, d4, d5, d6, d7, e0]
    exact hfin
end Go.Proofs.YtgjcibhhffkemaaGreatDoor
/- The program's Parse; the help's Spot. -/
set_option linter.unusedVariables false
set_option linter.unusedSimpArgs false
namespace Go.Proofs.YtgjcibhhffkemaaGreatDoor
open Go.RowKit Bt
theorem KAt.putNX {D : Nat → Prop} {w : World} {g : Nat} {t : Tree} {kv : Value} (h : KAt D w t kv) (hD : ∀ b, D b → b ≠ g) (op : Int) (f : Nat → Bool) (mn mx : Int) (v : Value) : KAt D (putN w g op f mn mx v) t kv :=
  KAt.keep (fun b hb => putN_block _ _ _ _ _ _ _ b (hD b hb.1) hb.2) (fun b hb => hb.1) t kv (KAt.lt t kv h)
/-- what a text is -/
def RxRes (s : ByteArray) (R : Re Tree) : Prop := (200 < s.size ∧ R = .no 4 0) ∨ (s.size ≤ 200 ∧ P s .pat 0 0 R)
theorem RxRes.det {s : ByteArray} {R R' : Re Tree} (h : RxRes s R) (h' : RxRes s R') : R = R' := by
  rcases h with ⟨h1, rfl⟩ | ⟨h1, h2⟩ <;> rcases h' with ⟨h3, rfl⟩ | ⟨h3, h4⟩
  · rfl
  · omega
  · omega
  · exact h2.det _ h4
/-- what the program's Parse leaves -/
def ParseX (s : ByteArray) (w : World) (e : Ending) (w' : World) : Prop :=
  Below w.heap.size w w' ∧ ∃ R, RxRes s R ∧ match R with
    | .ok t q => ∃ kv, e = .returned (.tuple #[nodeV t kv, .nilIface]) ∧ KAt (fun b => w.heap.size ≤ b) w' t kv
    | .no c x => ∃ b, e = .returned (.tuple #[zeroN, spotV b]) ∧ AtG w' b 73 #[.int .i64 (x : Int), .int .i64 c]
set_option maxRecDepth 100000 in
set_option maxHeartbeats 1600000 in
theorem parseX (s : ByteArray) (w : World) : Calls Tryz.prog 23 #[.string s] w (ParseX s w) := by
  have HZ0 := Lib.hid (AtG.new w 41 nodeZ)
  have HB0 := Lib.hid ((Below.refl w.heap.size w).alloc (Nat.le_refl _) (.cells nodeZ 41))
  by_cases hl : 200 < s.size
  · have hlI : (200 : Int) < (s.size : Int) := by omega
    obtain ⟨W, hW⟩ : ∃ W : World, W = w.alloc (.cells nodeZ 41) := ⟨_, rfl⟩
    have hW' : w.alloc (.cells #[.int .i64 0, .int .u64 0, .int .u64 0, .int .u64 0, .int .u64 0, .int .i64 0, .int .i64 0, .slice none 0 0] 41) = W := hW.symm
    rw [← hW] at HZ0 HB0
    have HR := Lib.hid (show RxRes s (.no 4 0) from .inl ⟨hl, rfl⟩)
    clear hW
    obtain ⟨W2, hW2⟩ : ∃ W2 : World, W2 = W.alloc (.cells #[.int .i64 0, .int .i64 4] 73) := ⟨_, rfl⟩
    have hW2' : W.alloc (.cells #[.int .i64 0, .int .i64 4] 73) = W2 := hW2.symm
    have HX2 := Lib.hid (show AtG W2 W.heap.size 73 #[.int .i64 0, .int .i64 4] by rw [hW2]; exact AtG.new _ _ _)
    have HZ2 := Lib.hid (show AtG W2 w.heap.size 41 nodeZ by rw [hW2]; exact HZ0.out.alloc _)
    have HB2 := Lib.hid (show Below w.heap.size w W2 by rw [hW2]; exact HB0.out.alloc HB0.out.size _)
    have HNE := Lib.hid (show W.heap.size ≠ w.heap.size by have := HZ0.out.lt; omega)
    clear hW2 HZ0 HB0 hl
    go_enter Tryz.func23, Tryz.ntmps23
    go_upto_region 2 with (fail)
    have d0 : W2.cell? ⟨w.heap.size, 0, none⟩ = some (.int .i64 0) := (HZ2.out).cell 0 _ rfl
    have d1 : W2.cell? ⟨w.heap.size, 1, none⟩ = some (.int .u64 0) := (HZ2.out).cell 1 _ rfl
    have d2 : W2.cell? ⟨w.heap.size, 2, none⟩ = some (.int .u64 0) := (HZ2.out).cell 2 _ rfl
    have d3 : W2.cell? ⟨w.heap.size, 3, none⟩ = some (.int .u64 0) := (HZ2.out).cell 3 _ rfl
    have d4 : W2.cell? ⟨w.heap.size, 4, none⟩ = some (.int .u64 0) := (HZ2.out).cell 4 _ rfl
    have d5 : W2.cell? ⟨w.heap.size, 5, none⟩ = some (.int .i64 0) := (HZ2.out).cell 5 _ rfl
    have d6 : W2.cell? ⟨w.heap.size, 6, none⟩ = some (.int .i64 0) := (HZ2.out).cell 6 _ rfl
    have d7 : W2.cell? ⟨w.heap.size, 7, none⟩ = some (.slice none 0 0) := (HZ2.out).cell 7 _ rfl
    have f0 := (HZ2.out).frozen 0; have f1 := (HZ2.out).frozen 1; have f2 := (HZ2.out).frozen 2; have f3 := (HZ2.out).frozen 3
    have f4 := (HZ2.out).frozen 4; have f5 := (HZ2.out).frozen 5; have f6 := (HZ2.out).frozen 6; have f7 := (HZ2.out).frozen 7
    go_wp2_with fail
    refine bodyPost_ret (v := .tuple #[zeroN, spotV W.heap.size]) (by unfold zeroN spotV; simp [results, Tryz.results23, go_sem, d0, d1, d2, d3, d4, d5, d6, d7]; try rfl) rfl ?_
    refine ⟨(show Below w.heap.size w (putZ W2 w.heap.size) from by rw [putZ_eq]; exact putN_below HB2.out (Nat.le_refl _) _ _ _ _ _), _, HR.out, _, rfl, ?_⟩
    show AtG (putZ W2 w.heap.size) W.heap.size _ _
    rw [putZ_eq]; exact putN_far HX2.out HNE.out 0 emp 0 0 (.slice none 0 0)
  · have hlI : ¬ (200 : Int) < (s.size : Int) := by omega
    obtain ⟨W, hW⟩ : ∃ W : World, W = (w.alloc (.cells nodeZ 41)).alloc (.cells (rxr s 0 0) 94) := ⟨_, rfl⟩
    have hW' : (w.alloc (.cells #[.int .i64 0, .int .u64 0, .int .u64 0, .int .u64 0, .int .u64 0, .int .i64 0, .int .i64 0, .slice none 0 0] 41)).alloc (.cells #[.string s, .int .i64 0, .int .i64 0] 94) = W := hW.symm
    have HZ1 := Lib.hid (show AtG W w.heap.size 41 nodeZ by rw [hW]; exact HZ0.out.alloc _)
    have HB1 := Lib.hid (show Below w.heap.size w W by rw [hW]; exact HB0.out.alloc HB0.out.size _)
    have HA1 := Lib.hid (show AtG W (w.heap.size + 1) 94 (rxr s 0 0) by
      rw [hW]
      have := AtG.new (w.alloc (.cells nodeZ 41)) 94 (rxr s 0 0)
      simpa using this)
    have HRD := Lib.hid (readX (w.heap.size + 1) s W HA1.out (by omega))
    have HS := Lib.hid (show s.size ≤ 200 by omega)
    clear hW HZ0 HB0
    go_enter Tryz.func23, Tryz.ntmps23
    go_wp2_with fail
    refine (HRD.out).mono ?_
    rintro e9 w2 ⟨ho, r, hPr, hr⟩
    have HPS := Lib.hid (show RxRes s r from .inr ⟨HS.out, hPr⟩)
    have HB2 := Lib.hid (HB1.out.trans (ho.below (B := w.heap.size) (Nat.le_of_lt HZ1.out.lt) (fun k hk => by subst hk; omega)))
    have HZ2 := Lib.hid (HZ1.out.only ho (by show ¬ (w.heap.size = w.heap.size + 1); omega))
    have HSZ := Lib.hid (show w.heap.size < W.heap.size from HZ1.out.lt)
    clear hPr ho HRD hW'
    have d0 : w2.cell? ⟨w.heap.size, 0, none⟩ = some (.int .i64 0) := (HZ2.out).cell 0 _ rfl
    have d1 : w2.cell? ⟨w.heap.size, 1, none⟩ = some (.int .u64 0) := (HZ2.out).cell 1 _ rfl
    have d2 : w2.cell? ⟨w.heap.size, 2, none⟩ = some (.int .u64 0) := (HZ2.out).cell 2 _ rfl
    have d3 : w2.cell? ⟨w.heap.size, 3, none⟩ = some (.int .u64 0) := (HZ2.out).cell 3 _ rfl
    have d4 : w2.cell? ⟨w.heap.size, 4, none⟩ = some (.int .u64 0) := (HZ2.out).cell 4 _ rfl
    have d5 : w2.cell? ⟨w.heap.size, 5, none⟩ = some (.int .i64 0) := (HZ2.out).cell 5 _ rfl
    have d6 : w2.cell? ⟨w.heap.size, 6, none⟩ = some (.int .i64 0) := (HZ2.out).cell 6 _ rfl
    have d7 : w2.cell? ⟨w.heap.size, 7, none⟩ = some (.slice none 0 0) := (HZ2.out).cell 7 _ rfl
    have f0 := (HZ2.out).frozen 0; have f1 := (HZ2.out).frozen 1; have f2 := (HZ2.out).frozen 2; have f3 := (HZ2.out).frozen 3
    have f4 := (HZ2.out).frozen 4; have f5 := (HZ2.out).frozen 5; have f6 := (HZ2.out).frozen 6; have f7 := (HZ2.out).frozen 7
    cases r with
    | no c x =>
      obtain ⟨b, rfl, hx⟩ := hr
      have HX := Lib.hid hx
      clear hx
      unfold zeroN spotV
      go_wp2_with fail
      refine bodyPost_ret (v := .tuple #[zeroN, spotV b]) (by unfold zeroN spotV; simp [results, Tryz.results23, go_sem, d0, d1, d2, d3, d4, d5, d6, d7]; try rfl) rfl ?_
      refine ⟨(show Below w.heap.size w (putZ w2 w.heap.size) from by rw [putZ_eq]; exact putN_below HB2.out (Nat.le_refl _) _ _ _ _ _), _, HPS.out, b, rfl, ?_⟩
      have hb1 : b ≠ w.heap.size := fun e => by subst e; have := HX.out.ne HZ2.out (by decide); exact this rfl
      show AtG (putZ w2 w.heap.size) b _ _
      rw [putZ_eq]; exact putN_far HX.out hb1 0 emp 0 0 (.slice none 0 0)
    | ok t q =>
      obtain ⟨kv, rfl, hk⟩ := hr
      obtain ⟨op, f, mn, mx, kids⟩ := t
      obtain ⟨ka, kc, rfl⟩ := KAt.slice hk
      have HK2 := Lib.hid hk
      clear hk
      unfold nodeV
      dsimp only
      go_wp2_with fail
      refine bodyPost_ret (v := .tuple #[nodeV (.node op f mn mx kids) (.slice ka kids.length kc), .nilIface]) (by unfold nodeV; simp [results, Tryz.results23, go_sem, d0, d1, d2, d3, d4, d5, d6, d7]; try rfl) rfl ?_
      refine ⟨putN_below HB2.out (Nat.le_refl _) _ _ _ _ _, _, HPS.out, _, rfl, ?_⟩
      exact (KAt.putNX HK2.out (fun b hb => by have := HSZ.out; omega) op f mn mx _).mono fun b hb => by have := HSZ.out; omega
set_option maxRecDepth 100000 in
theorem spot_nil (w : World) : Calls Tryz.prog 9 #[.nilIface] w fun e w' => e = .returned (.tuple #[.int .i64 0, .int .i64 0]) ∧ w' = w := by
  have h1 : (binOp BinOp.eql 28 .nilIface .nilIface).run Tryz.prog w = .ok (.bool true) w := by rfl
  go_enter Tryz.func9, Tryz.ntmps9
  go_wp2
  go_returns
  exact ⟨rfl, rfl⟩
set_option maxRecDepth 100000 in
theorem spot_some (b : Nat) (x c : Int) (w : World) (h : AtG w b 73 #[.int .i64 x, .int .i64 c]) : Calls Tryz.prog 9 #[spotV b] w fun e w' => e = .returned (.tuple #[.int .i64 c, .int .i64 x]) ∧ Below w.heap.size w w' := by
  unfold spotV
  have h1 : (binOp BinOp.eql 28 (.iface 68 (.pointer (some ⟨b, 0, none⟩))) .nilIface).run Tryz.prog w = .ok (.bool false) w := by rfl
  have h2 : (Instr.typeAssert (.iface 68 (.pointer (some ⟨b, 0, none⟩))) 28 68 true).run Tryz.prog w = .ok (.tuple #[.pointer (some ⟨b, 0, none⟩), .bool true]) w := by rfl
  have h3 : (binOp BinOp.neq 68 (.pointer (some ⟨b, 0, none⟩)) (.pointer none)).run Tryz.prog w = .ok (.bool true) w := by rfl
  have H := Lib.hid h
  have HL := Lib.hid h.lt
  clear h
  go_enter Tryz.func9, Tryz.ntmps9
  go_upto_region 5 with (fail)
  refine Rg.wp_region_each (by kernel_rfl) (fun w' => Below w.heap.size w w') (fun w1 w2 h hb => h.trans (hb.mono h.size)) (by kernel_rfl) (by kernel_rfl) (Below.refl _ _) ?_
  show Rg.Build _ _ _ _ _ 0 [_, _, _, _, _, _, _, _, _, _] []
  refine Rg.build_cons (m := 1) (r := Rg.eq _) (Rg.one_plain (by rfl) (by (intro ax wx hk Kx hK; have k4 := hk.base 4 _ rfl rfl; have hj := hk.j; clear hk; have z0 : wx.cell? ⟨b, 0, none⟩ = some (.int .i64 x) := (hj.cell (p := ⟨b, 0, none⟩) HL.out).trans (H.out.cell 0 _ rfl); have z1 : wx.cell? ⟨b, 1, none⟩ = some (.int .i64 c) := (hj.cell (p := ⟨b, 1, none⟩) HL.out).trans (H.out.cell 1 _ rfl); go_simp; refine hK _ _ ?_ (Below.refl _ _); apply Rg.mk))) ?_ rfl
  refine Rg.build_cons (m := 2) (r := Rg.eq _) (Rg.one_plain (by rfl) (by (intro ax wx hk Kx hK; obtain ⟨v18, k18, h18⟩ := hk.dep 0 18 _ rfl rfl rfl; (first | (cases (h18 : v18 = _)) | (obtain ⟨rfl, h18⟩ := h18) | skip); have hj := hk.j; clear hk; have z0 : wx.cell? ⟨b, 0, none⟩ = some (.int .i64 x) := (hj.cell (p := ⟨b, 0, none⟩) HL.out).trans (H.out.cell 0 _ rfl); have z1 : wx.cell? ⟨b, 1, none⟩ = some (.int .i64 c) := (hj.cell (p := ⟨b, 1, none⟩) HL.out).trans (H.out.cell 1 _ rfl); go_simp; refine hK _ _ ?_ (Below.refl _ _); apply Rg.mk))) ?_ rfl
  refine Rg.build_cons (m := 3) (r := Rg.eq _) (Rg.one_plain (by rfl) (by (intro ax wx hk Kx hK; obtain ⟨v19, k19, h19⟩ := hk.dep 1 19 _ rfl rfl rfl; (first | (cases (h19 : v19 = _)) | (obtain ⟨rfl, h19⟩ := h19) | skip); have hj := hk.j; clear hk; have z0 : wx.cell? ⟨b, 0, none⟩ = some (.int .i64 x) := (hj.cell (p := ⟨b, 0, none⟩) HL.out).trans (H.out.cell 0 _ rfl); have z1 : wx.cell? ⟨b, 1, none⟩ = some (.int .i64 c) := (hj.cell (p := ⟨b, 1, none⟩) HL.out).trans (H.out.cell 1 _ rfl); go_simp; refine hK _ _ ?_ (Below.refl _ _); apply Rg.mk))) ?_ rfl
  refine Rg.build_cons (m := 4) (r := Rg.eq _) (Rg.one_plain (by rfl) (by (intro ax wx hk Kx hK; obtain ⟨v20, k20, h20⟩ := hk.dep 2 20 _ rfl rfl rfl; (first | (cases (h20 : v20 = _)) | (obtain ⟨rfl, h20⟩ := h20) | skip); have hj := hk.j; clear hk; have z0 : wx.cell? ⟨b, 0, none⟩ = some (.int .i64 x) := (hj.cell (p := ⟨b, 0, none⟩) HL.out).trans (H.out.cell 0 _ rfl); have z1 : wx.cell? ⟨b, 1, none⟩ = some (.int .i64 c) := (hj.cell (p := ⟨b, 1, none⟩) HL.out).trans (H.out.cell 1 _ rfl); go_simp; refine hK _ _ ?_ (Below.refl _ _); apply Rg.mk))) ?_ rfl
  refine Rg.build_cons (m := 5) (r := Rg.eq _) (Rg.one_plain (by rfl) (by (intro ax wx hk Kx hK; have k4 := hk.base 4 _ rfl rfl; have hj := hk.j; clear hk; have z0 : wx.cell? ⟨b, 0, none⟩ = some (.int .i64 x) := (hj.cell (p := ⟨b, 0, none⟩) HL.out).trans (H.out.cell 0 _ rfl); have z1 : wx.cell? ⟨b, 1, none⟩ = some (.int .i64 c) := (hj.cell (p := ⟨b, 1, none⟩) HL.out).trans (H.out.cell 1 _ rfl); go_simp; refine hK _ _ ?_ (Below.refl _ _); apply Rg.mk))) ?_ rfl
  refine Rg.build_cons (m := 6) (r := Rg.eq _) (Rg.one_plain (by rfl) (by (intro ax wx hk Kx hK; obtain ⟨v22, k22, h22⟩ := hk.dep 4 22 _ rfl rfl rfl; (first | (cases (h22 : v22 = _)) | (obtain ⟨rfl, h22⟩ := h22) | skip); have hj := hk.j; clear hk; have z0 : wx.cell? ⟨b, 0, none⟩ = some (.int .i64 x) := (hj.cell (p := ⟨b, 0, none⟩) HL.out).trans (H.out.cell 0 _ rfl); have z1 : wx.cell? ⟨b, 1, none⟩ = some (.int .i64 c) := (hj.cell (p := ⟨b, 1, none⟩) HL.out).trans (H.out.cell 1 _ rfl); go_simp; refine hK _ _ ?_ (Below.refl _ _); apply Rg.mk))) ?_ rfl
  refine Rg.build_cons (m := 7) (r := Rg.eq _) (Rg.one_plain (by rfl) (by (intro ax wx hk Kx hK; obtain ⟨v23, k23, h23⟩ := hk.dep 5 23 _ rfl rfl rfl; (first | (cases (h23 : v23 = _)) | (obtain ⟨rfl, h23⟩ := h23) | skip); have hj := hk.j; clear hk; have z0 : wx.cell? ⟨b, 0, none⟩ = some (.int .i64 x) := (hj.cell (p := ⟨b, 0, none⟩) HL.out).trans (H.out.cell 0 _ rfl); have z1 : wx.cell? ⟨b, 1, none⟩ = some (.int .i64 c) := (hj.cell (p := ⟨b, 1, none⟩) HL.out).trans (H.out.cell 1 _ rfl); go_simp; refine hK _ _ ?_ (Below.refl _ _); apply Rg.mk))) ?_ rfl
  refine Rg.build_cons (m := 8) (r := Rg.eq _) (Rg.one_plain (by rfl) (by (intro ax wx hk Kx hK; obtain ⟨v24, k24, h24⟩ := hk.dep 6 24 _ rfl rfl rfl; (first | (cases (h24 : v24 = _)) | (obtain ⟨rfl, h24⟩ := h24) | skip); have hj := hk.j; clear hk; have z0 : wx.cell? ⟨b, 0, none⟩ = some (.int .i64 x) := (hj.cell (p := ⟨b, 0, none⟩) HL.out).trans (H.out.cell 0 _ rfl); have z1 : wx.cell? ⟨b, 1, none⟩ = some (.int .i64 c) := (hj.cell (p := ⟨b, 1, none⟩) HL.out).trans (H.out.cell 1 _ rfl); go_simp; refine hK _ _ ?_ (Below.refl _ _); apply Rg.mk))) ?_ rfl
  refine Rg.build_cons (m := 9) (r := Rg.eq _) (Rg.one_plain (by rfl) (by (intro ax wx hk Kx hK; obtain ⟨v21, k21, h21⟩ := hk.dep 3 21 _ rfl rfl rfl; (first | (cases (h21 : v21 = _)) | (obtain ⟨rfl, h21⟩ := h21) | skip); have hj := hk.j; clear hk; have z0 : wx.cell? ⟨b, 0, none⟩ = some (.int .i64 x) := (hj.cell (p := ⟨b, 0, none⟩) HL.out).trans (H.out.cell 0 _ rfl); have z1 : wx.cell? ⟨b, 1, none⟩ = some (.int .i64 c) := (hj.cell (p := ⟨b, 1, none⟩) HL.out).trans (H.out.cell 1 _ rfl); go_simp; refine hK _ _ ?_ (Below.refl _ _); apply Rg.mk))) ?_ rfl
  refine Rg.build_cons (m := 10) (r := Rg.eq _) (Rg.one_plain (by rfl) (by (intro ax wx hk Kx hK; obtain ⟨v25, k25, h25⟩ := hk.dep 7 25 _ rfl rfl rfl; (first | (cases (h25 : v25 = _)) | (obtain ⟨rfl, h25⟩ := h25) | skip); have hj := hk.j; clear hk; have z0 : wx.cell? ⟨b, 0, none⟩ = some (.int .i64 x) := (hj.cell (p := ⟨b, 0, none⟩) HL.out).trans (H.out.cell 0 _ rfl); have z1 : wx.cell? ⟨b, 1, none⟩ = some (.int .i64 c) := (hj.cell (p := ⟨b, 1, none⟩) HL.out).trans (H.out.cell 1 _ rfl); go_simp; refine hK _ _ ?_ (Below.refl _ _); apply Rg.mk))) ?_ rfl
  refine Rg.build_end fun wx hj => ?_
  refine Rg.fin_eq rfl ?_
  refine Rg.fin_eq rfl ?_
  refine Rg.fin_eq rfl ?_
  refine Rg.fin_eq rfl ?_
  refine Rg.fin_eq rfl ?_
  refine Rg.fin_eq rfl ?_
  refine Rg.fin_eq rfl ?_
  refine Rg.fin_eq rfl ?_
  refine Rg.fin_eq rfl ?_
  refine Rg.fin_eq rfl ?_
  refine Rg.fin_nil ?_
  simp only [List.set_cons_zero, List.set_cons_succ]
  have HJ := Lib.hid hj
  clear hj
  go_wp2_with fail
  go_returns
  exact ⟨rfl, HJ.out⟩
end Go.Proofs.YtgjcibhhffkemaaGreatDoor
