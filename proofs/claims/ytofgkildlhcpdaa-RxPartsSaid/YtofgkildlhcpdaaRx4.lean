/- The program's reader of patterns: escaped, member, wide. -/
import Derived.Test.YtofgkildlhcpdaaRx3
import Derived.Lib.Bytealg
set_option linter.unusedVariables false
set_option linter.unusedSimpArgs false
namespace Go.Proofs.Ytofgkildlhcpdaa
open Go.RowKit Bt Go.Lib
def spcX : ByteArray := ⟨#[92, 46, 91, 93, 40, 41, 123, 125, 124, 63, 42, 43, 94, 36, 45, 47]⟩
theorem spc_all : (List.range 256).all (fun n => (decide (indexByte spcX.data.toList n.toUInt8 < 0) == !decide ((n : Int) ∈ spc)) && decide (indexByte spcX.data.toList n.toUInt8 < 100)) = true := by kernel_rfl
theorem spc_ix (c : Int) (h0 : 0 ≤ c) (h1 : c < 256) : (indexByte spcX.data.toList c.toNat.toUInt8 < 0 ↔ c ∉ spc) := by
  have h := List.all_eq_true.1 spc_all c.toNat (List.mem_range.2 (by omega))
  rw [Bool.and_eq_true, beq_iff_eq, Int.toNat_of_nonneg h0] at h
  have h2 := h.1
  by_cases hc : c ∈ spc
  · rw [decide_eq_true hc] at h2
    exact ⟨(fun h => by rw [decide_eq_true h] at h2; cases h2), fun h => absurd hc h⟩
  · rw [decide_eq_false hc] at h2
    exact ⟨fun _ => hc, fun _ => of_decide_eq_true h2⟩
theorem run_ixs (s : ByteArray) (c : Int) (w : World) : (callFunc 106 #[.string s, .int .u8 c]).run Try.prog w = .ok (.value (.int .i64 (indexByte s.data.toList c.toNat.toUInt8))) w := by
  rw [run_callFunc_extern (P := Try.prog) (f := 106) (fn := Try.f106) (e := Extern.BytealgIndexByte.indexByte) (by kernel_rfl) (by kernel_rfl) (by kernel_rfl) (by kernel_rfl) (by kernel_rfl), run_indexByteString]
  rfl
theorem ixL (s : ByteArray) (c : Int) (w : World) : Calls Try.prog 105 #[.string s, .int .u8 c] w fun e w' => e = .returned (.int .i64 (indexByte s.data.toList c.toNat.toUInt8)) ∧ w' = w := by
  have hd := run_ixs s c w
  generalize indexByte s.data.toList c.toNat.toUInt8 = r at *
  go_enter Try.func105, Try.ntmps105
  go_wp2
  go_returns
  exact ⟨rfl, rfl⟩
theorem ixS (s : ByteArray) (c : Int) (w : World) : Calls Try.prog 100 #[.string s, .int .u8 c] w fun e w' => e = .returned (.int .i64 (indexByte s.data.toList c.toNat.toUInt8)) ∧ w' = w := by
  have hd := Lib.hid (ixL s c w)
  generalize indexByte s.data.toList c.toNat.toUInt8 = r at *
  go_enter Try.func100, Try.ntmps100
  go_wp2_with fail
  refine (hd.out).mono ?_
  rintro e9 w9 ⟨rfl, hw9⟩; subst hw9
  go_wp2_with fail
  go_returns
  exact ⟨rfl, rfl⟩
set_option maxRecDepth 100000 in
set_option maxHeartbeats 800000 in
theorem escX (g : Nat) (s : ByteArray) (p o : Nat) (w : World) (h : AtG w g 85 (rxr s p o)) (hp : p ≤ s.size) (hs : s.size ≤ 900) :
    Calls Try.prog 91 #[.pointer (some ⟨g, 0, none⟩)] w (RxP g s o w (escF s p) (fun n => .int .u8 (n : Int))) := by
  by_cases hlt : p < s.size
  · have HN := Lib.hid (nextX_in g s p o w h hlt (by omega))
    have HF := Lib.hid (show escF s p = if ch s p = 110 then .ok 10 (p + 1) else if ch s p = 116 then .ok 9 (p + 1) else if ch s p ∈ spc then .ok (ch s p).toNat (p + 1) else .no 2 p from rfl)
    have hpI : (p : Int) < 1000 := by omega
    have hl0 := ch_pos hlt
    have hl2 := (ch_lt s p).2
    generalize escF s p = R at *
    generalize ch s p = d at *
    have HIX := Lib.hid (ixS spcX d)
    have HSP := Lib.hid (spc_ix d hl0 hl2)
    generalize indexByte spcX.data.toList d.toNat.toUInt8 = ix at *
    clear h
    go_enter Try.func91, Try.ntmps91
    go_wp2_with fail
    refine (HN.out).mono ?_
    rintro e9 w1 ⟨rfl, ho, ha⟩
    have HO := Lib.hid ho; have HA := Lib.hid ha
    clear ho ha HN
    by_cases h1 : d = 110
    · have HR := Lib.hid (HF.out.trans (if_pos h1))
      subst h1
      clear HF HIX HSP
      go_wp2_with fail
      refine bodyPost_ret (v := .int .u8 10) (by simp [results, Try.results91, go_sem]; try rfl) rfl ?_
      rw [HR.out]
      exact ⟨HO.out, rfl, HA.out⟩
    · have HF1 := Lib.hid (HF.out.trans (if_neg h1))
      have e1 : (d == 110) = false := by rw [beq_eq_false_iff_ne]; exact h1
      by_cases h2 : d = 116
      · have HR := Lib.hid (HF1.out.trans (if_pos h2))
        subst h2
        clear HF HF1 HIX HSP
        go_wp2_with fail
        refine bodyPost_ret (v := .int .u8 9) (by simp [results, Try.results91, go_sem]; try rfl) rfl ?_
        rw [HR.out]
        exact ⟨HO.out, rfl, HA.out⟩
      · have HF2 := Lib.hid (HF1.out.trans (if_neg h2))
        have e2 : (d == 116) = false := by rw [beq_eq_false_iff_ne]; exact h2
        clear HF HF1
        go_wp2_with fail
        refine (HIX.out _).mono ?_
        rintro e9 w9 ⟨rfl, hw9⟩; subst hw9
        by_cases h3 : d ∈ spc
        · have HR := Lib.hid (HF2.out.trans (if_pos h3))
          have h4 : ¬ ix < 0 := fun h => (HSP.out.1 h) h3
          clear HF2 HSP h3
          go_wp2_with fail
          refine bodyPost_ret (v := .int .u8 d) (by simp [results, Try.results91, go_sem]; try rfl) rfl ?_
          rw [HR.out]
          refine ⟨HO.out, ?_, HA.out⟩
          show Ending.returned (.int .u8 d) = Ending.returned (.int .u8 ((d.toNat : Nat) : Int))
          rw [Int.toNat_of_nonneg hl0]
        · have HR := Lib.hid (HF2.out.trans (if_neg h3))
          have h4 : ix < 0 := HSP.out.2 h3
          have z1 : w9.cell? ⟨g, 1, none⟩ = some (.int .i64 ((p + 1 : Nat) : Int)) := HA.out.cell 1 _ rfl
          rw [show ((p + 1 : Nat) : Int) = (p : Int) + 1 from by omega] at z1
          clear HF2 HSP h3
          go_wp2_with fail
          refine (failX g p 2 _).mono ?_
          rintro e9 w2 ⟨hb2, b, rfl, hx⟩
          refine ⟨rfl, ?_⟩
          rw [HR.out]
          exact ⟨HO.out.tb hb2, b, rfl, hx⟩
  · have hpe : p = s.size := by omega
    have HN := Lib.hid (nextX_end g s p o w h hpe)
    have HR := Lib.hid (show escF s p = .no 2 p from by unfold escF; rw [ch_end (by omega), if_neg (by decide), if_neg (by decide), if_neg (by decide)])
    clear h hpe hlt hp
    generalize escF s p = R at *
    go_enter Try.func91, Try.ntmps91
    go_wp2_with fail
    refine (HN.out).mono ?_
    rintro e9 w1 ⟨ho, b, rfl, hx⟩
    refine ⟨rfl, ?_⟩
    rw [HR.out]
    exact ⟨ho, b, rfl, hx⟩
set_option maxRecDepth 100000 in
set_option maxHeartbeats 800000 in
theorem memX (g : Nat) (s : ByteArray) (p o : Nat) (w : World) (h : AtG w g 85 (rxr s p o)) (hp : p ≤ s.size) (hs : s.size ≤ 900) :
    Calls Try.prog 104 #[.pointer (some ⟨g, 0, none⟩)] w (RxP g s o w (memberF s p) (fun n => .int .u8 (n : Int))) := by
  by_cases hlt : p < s.size
  · have HN := Lib.hid (nextX_in g s p o w h hlt (by omega))
    have HES := Lib.hid (fun (w1 : World) (h1 : AtG w1 g 85 (rxr s ((p + 1 : Nat) : Int) o)) => escX g s (p + 1) o w1 h1 hlt hs)
    have hpI : (p : Int) < 1000 := by omega
    have hl0 := ch_pos hlt
    have HF := Lib.hid (show memberF s p = if ch s p = 93 then .no 2 p else if ch s p = 92 then escF s (p + 1) else .ok (ch s p).toNat (p + 1) from by unfold memberF; rw [if_neg (by omega)])
    generalize memberF s p = R at *
    generalize escF s (p + 1) = E at *
    generalize ch s p = d at *
    clear h
    go_enter Try.func104, Try.ntmps104
    go_wp2_with fail
    refine (HN.out).mono ?_
    rintro e9 w1 ⟨rfl, ho, ha⟩
    have HO := Lib.hid ho; have HA := Lib.hid ha
    clear ho ha HN
    by_cases h1 : d = 93
    · have HR := Lib.hid (HF.out.trans (if_pos h1))
      have z1 : w1.cell? ⟨g, 1, none⟩ = some (.int .i64 ((p + 1 : Nat) : Int)) := HA.out.cell 1 _ rfl
      rw [show ((p + 1 : Nat) : Int) = (p : Int) + 1 from by omega] at z1
      subst h1
      clear HF HES
      go_wp2_with fail
      refine (failX g p 2 _).mono ?_
      rintro e9 w2 ⟨hb2, b, rfl, hx⟩
      refine ⟨rfl, ?_⟩
      rw [HR.out]
      exact ⟨HO.out.tb hb2, b, rfl, hx⟩
    · have HF1 := Lib.hid (HF.out.trans (if_neg h1))
      have e1 : (d == 93) = false := by rw [beq_eq_false_iff_ne]; exact h1
      by_cases h2 : d = 92
      · have HR := Lib.hid (HF1.out.trans (if_pos h2))
        have HEC := Lib.hid (HES.out w1 HA.out)
        subst h2
        clear HF HF1 HES
        go_wp2_with fail
        refine (HEC.out).mono ?_
        cases E with
        | no c x =>
          rintro e9 w2 ⟨ho, b, rfl, hx⟩
          refine ⟨rfl, ?_⟩
          rw [HR.out]
          exact ⟨HO.out.tr ho, b, rfl, hx⟩
        | ok a q =>
          rintro e9 w2 ⟨ho, rfl, ha⟩
          have HO2 := Lib.hid (HO.out.tr ho); have HA2 := Lib.hid ha
          clear ho ha HEC
          go_wp2_with fail
          refine bodyPost_ret (v := .int .u8 (a : Int)) (by simp [results, Try.results104, go_sem]; try rfl) rfl ?_
          rw [HR.out]
          exact ⟨HO2.out, rfl, HA2.out⟩
      · have HR := Lib.hid (HF1.out.trans (if_neg h2))
        have e2 : (d == 92) = false := by rw [beq_eq_false_iff_ne]; exact h2
        clear HF HF1 HES
        go_wp2_with fail
        refine bodyPost_ret (v := .int .u8 d) (by simp [results, Try.results104, go_sem]; try rfl) rfl ?_
        rw [HR.out]
        refine ⟨HO.out, ?_, HA.out⟩
        show Ending.returned (.int .u8 d) = Ending.returned (.int .u8 ((d.toNat : Nat) : Int))
        rw [Int.toNat_of_nonneg hl0]
  · have hpe : p = s.size := by omega
    have HN := Lib.hid (nextX_end g s p o w h hpe)
    have HR := Lib.hid (show memberF s p = .no 2 p from by unfold memberF; rw [if_pos (by rw [ch_end (by omega)]; decide)])
    clear h hpe hlt hp
    generalize memberF s p = R at *
    go_enter Try.func104, Try.ntmps104
    go_wp2_with fail
    refine (HN.out).mono ?_
    rintro e9 w1 ⟨ho, b, rfl, hx⟩
    refine ⟨rfl, ?_⟩
    rw [HR.out]
    exact ⟨ho, b, rfl, hx⟩
end Go.Proofs.Ytofgkildlhcpdaa
