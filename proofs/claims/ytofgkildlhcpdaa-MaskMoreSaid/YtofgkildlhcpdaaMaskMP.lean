/- More is covered, in plain words; the help's Pick. -/
import Derived.Test.YtofgkildlhcpdaaMask8
set_option linter.unusedVariables false
set_option linter.unusedSimpArgs false
namespace Go.Proofs.Ytofgkildlhcpdaa
open Go.RowKit Bt Luhn
theorem cov_few {rs : List Rul} {lam : Int} {xs : List Int} {i k : Nat} (h : cov (rs.take k) lam xs i) : cov rs lam xs i := by
  obtain ⟨a, b, h1, h2, h3, h4, r, h5, h6⟩ := h
  exact ⟨a, b, h1, h2, h3, h4, r, List.mem_of_mem_take h5, h6⟩
theorem mid_get (hd xs bs : List Int) (c : Nat) (h : c < xs.length) : (hd ++ xs ++ bs).getD (c + hd.length) 0 = xs.getD c 0 := by
  rw [List.getD_eq_getElem?_getD, List.getD_eq_getElem?_getD, List.getElem?_append_left (by rw [List.length_append]; omega), List.getElem?_append_right (by omega), show c + hd.length - hd.length = c from by omega]
theorem sub_mid (hd xs bs : List Int) (a b : Nat) (hab : a ≤ b) (hb : b ≤ xs.length) : sub (hd ++ xs ++ bs) (a + hd.length) (b + hd.length) = sub xs a b := by
  have hl : b + hd.length ≤ (hd ++ xs ++ bs).length := by rw [List.length_append, List.length_append]; omega
  apply List.ext_getElem
  · rw [sub_len _ _ _ hl, sub_len _ _ _ hb]; omega
  · intro j h1 h2
    have hj : j < b - a := by rw [sub_len _ _ _ hb] at h2; exact h2
    have e1 := sub_get (hd ++ xs ++ bs) (a + hd.length) (b + hd.length) j (by omega)
    have e2 := sub_get xs a b j hj
    rw [show j + (a + hd.length) = (j + a) + hd.length from by omega, mid_get hd xs bs (j + a) (by omega), ← e2] at e1
    rw [List.getD_eq_getElem?_getD, List.getD_eq_getElem?_getD, List.getElem?_eq_getElem h1, List.getElem?_eq_getElem h2] at e1
    simpa using e1
theorem cov_mid {rs : List Rul} {lam more : Int} {hd xs bs : List Int} {i : Nat} (hm : 0 ≤ more) (h : cov rs lam xs i) : cov rs (lam + more) (hd ++ xs ++ bs) (hd.length + i) := by
  obtain ⟨a, b, h1, h2, h3, h4, r, h5, h6, h7⟩ := h
  have hl : (hd ++ xs ++ bs).length = hd.length + xs.length + bs.length := by rw [List.length_append, List.length_append]
  refine ⟨a + hd.length, b + hd.length, by omega, by omega, by omega, by omega, r, h5, ?_, ?_⟩
  · refine mt_move (byt xs) (byt (hd ++ xs ++ bs)) xs.length (hd ++ xs ++ bs).length hd.length r.1 a b h6 (fun c h8 h9 => ?_) (by omega)
    unfold byt; rw [mid_get hd xs bs c (by omega)]
  · intro hr; rw [sub_mid hd xs bs a b (by omega) h3]; exact h7 hr
theorem cov_whole {rs : List Rul} {lam : Int} {xs : List Int} {r : Rul} {j : Nat} (hr : r ∈ rs) (hf : fitR xs r) (hl : (xs.length : Int) ≤ lam) (hj : j < xs.length) : cov rs lam xs j :=
  ⟨0, xs.length, Nat.zero_le _, hj, Nat.le_refl _, by omega, r, hr, hf.1, fun h => by rw [sub_all]; exact hf.2 h⟩
set_option maxRecDepth 100000 in
theorem pick_any (k by' : Int) (hk : -9223372036854775808 ≤ k ∧ k ≤ 9223372036854775807) (hb : 1 ≤ by' ∧ by' ≤ 1000) (w : World) : Calls Try.prog 29 #[.int .i64 k, .int .i64 by'] w fun e w' => (∃ p : Nat, (p : Int) < by' ∧ e = .returned (.int .i64 p)) ∧ w' = w := by
  obtain ⟨k0, k1⟩ := hk
  obtain ⟨b0, b1⟩ := hb
  have hz : ¬ by' = 0 := by omega
  have ht1 : k.tmod by' < by' := Int.tmod_lt_of_pos _ (by omega)
  have ht0 : -by' < k.tmod by' := by
    have := Int.tmod_lt_of_pos (-k) (show 0 < by' by omega)
    rw [Int.neg_tmod] at this
    omega
  by_cases hn : k.tmod by' < 0
  · have HT := Lib.hid (show -by' < k.tmod by' ∧ k.tmod by' < 0 from ⟨ht0, hn⟩)
    go_enter Try.func29, Try.ntmps29
    go_wp2
    go_returns
    have := HT.out
    exact ⟨⟨(k.tmod by' + by').toNat, by omega, by rw [Int.toNat_of_nonneg (by omega)]; rfl⟩, rfl⟩
  · have HT := Lib.hid (show 0 ≤ k.tmod by' ∧ k.tmod by' < by' from ⟨by omega, ht1⟩)
    go_enter Try.func29, Try.ntmps29
    go_wp2
    go_returns
    have := HT.out
    exact ⟨⟨(k.tmod by').toNat, by omega, by rw [Int.toNat_of_nonneg (by omega)]; rfl⟩, rfl⟩
end Go.Proofs.Ytofgkildlhcpdaa
