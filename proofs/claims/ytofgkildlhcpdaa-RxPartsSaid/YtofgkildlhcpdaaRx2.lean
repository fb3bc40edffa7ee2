/- The program's reader of patterns: want, digit, number, times. -/
import Derived.Test.YtofgkildlhcpdaaRx1
set_option linter.unusedVariables false
set_option linter.unusedSimpArgs false
namespace Go.Proofs.Ytofgkildlhcpdaa
open Go.RowKit Bt
def wantF (s : ByteArray) (c : Int) (p : Nat) : Re Unit := if ch s p = c then .ok () (p + 1) else .no 2 p
set_option maxRecDepth 100000 in
theorem wantX (g : Nat) (s : ByteArray) (p o : Nat) (c : Int) (w : World) (h : AtG w g 85 (rxr s p o)) (hp : p ≤ s.size) (hs : s.size ≤ 1000) (hc : 0 ≤ c) :
    Calls Try.prog 94 #[.pointer (some ⟨g, 0, none⟩), .int .u8 c] w (RxP g s o w (wantF s c p) (fun _ => .tuple #[])) := by
  by_cases hlt : p < s.size
  · have HN := Lib.hid (nextX_in g s p o w h hlt hs)
    have HF := Lib.hid (show wantF s c p = if ch s p = c then .ok () (p + 1) else .no 2 p from rfl)
    have hpI : (p : Int) < 1000 := by omega
    generalize wantF s c p = R at *
    generalize ch s p = d at *
    clear h
    go_enter Try.func94, Try.ntmps94
    go_wp2_with fail
    refine (HN.out).mono ?_
    rintro e9 w1 ⟨rfl, ho, ha⟩
    have HO := Lib.hid ho; have HA := Lib.hid ha
    clear ho ha HN
    by_cases hd : d = c
    · have HR := Lib.hid (HF.out.trans (if_pos hd))
      subst hd
      clear HF
      go_wp2_with fail
      refine bodyPost_ret (v := .tuple #[]) (by simp [results, Try.results94, go_sem]; try rfl) rfl ?_
      rw [HR.out]
      exact ⟨HO.out, rfl, HA.out⟩
    · have HR := Lib.hid (HF.out.trans (if_neg hd))
      have hd1 : (d == c) = false := by rw [beq_eq_false_iff_ne]; exact hd
      have z1 : w1.cell? ⟨g, 1, none⟩ = some (.int .i64 ((p + 1 : Nat) : Int)) := HA.out.cell 1 _ rfl
      rw [show ((p + 1 : Nat) : Int) = (p : Int) + 1 from by omega] at z1
      have hw1 : (p : Int) + 1 - 1 = (p : Int) := by omega
      clear HF
      go_wp2_with fail
      refine (failX g p 2 _).mono ?_
      rintro e9 w2 ⟨hb2, b, rfl, hx⟩
      refine ⟨rfl, ?_⟩
      rw [HR.out]
      exact ⟨HO.out.tb hb2, b, rfl, hx⟩
  · have hpe : p = s.size := by omega
    have HN := Lib.hid (nextX_end g s p o w h hpe)
    have hd : ¬ ch s p = c := by rw [ch_end (by omega)]; omega
    have HR := Lib.hid (show wantF s c p = .no 2 p from if_neg hd)
    clear h hpe hd
    generalize wantF s c p = R at *
    go_enter Try.func94, Try.ntmps94
    go_wp2_with fail
    refine (HN.out).mono ?_
    rintro e9 w1 ⟨ho, b, rfl, hx⟩
    refine ⟨rfl, ?_⟩
    rw [HR.out]
    exact ⟨ho, b, rfl, hx⟩
theorem digitX (c : Int) (w : World) : Calls Try.prog 101 #[.int .u8 c] w fun e w' => e = .returned (.bool (decide (48 ≤ c ∧ c ≤ 57))) ∧ w' = w := by
  by_cases h1 : 48 ≤ c
  · by_cases h2 : c ≤ 57
    · have HD := Lib.hid (show decide (48 ≤ c ∧ c ≤ 57) = true from decide_eq_true ⟨h1, h2⟩)
      rw [HD.out]
      go_enter Try.func101, Try.ntmps101
      go_wp2
      go_returns
      exact ⟨rfl, rfl⟩
    · have HD := Lib.hid (show decide (48 ≤ c ∧ c ≤ 57) = false from decide_eq_false (fun h => h2 h.2))
      rw [HD.out]
      have h3 : ¬ c ≤ 57 := h2
      go_enter Try.func101, Try.ntmps101
      go_wp2
      go_returns
      exact ⟨by first | rfl | simp [h3] | (simp; omega), rfl⟩
  · have HD := Lib.hid (show decide (48 ≤ c ∧ c ≤ 57) = false from decide_eq_false (fun h => h1 h.1))
    rw [HD.out]
    go_enter Try.func101, Try.ntmps101
    go_wp2
    go_returns
    exact ⟨by first | rfl | simp [h1] | (simp; omega), rfl⟩
end Go.Proofs.Ytofgkildlhcpdaa
