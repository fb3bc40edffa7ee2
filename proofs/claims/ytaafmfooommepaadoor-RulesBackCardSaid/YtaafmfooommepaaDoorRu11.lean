/- The document's example; the walk of RulesTells. -/
import Derived.Test.YtaafmfooommepaaDoorRu10
set_option linter.unusedVariables false
set_option linter.unusedSimpArgs false
namespace Go.Proofs.YtaafmfooommepaaDoor
open Go.RowKit
theorem Rd.len {L : List ByteArray} {i : Nat} {out : List Rl} {R : Res} (h : Rd L i out R) : ∀ o, R = .ok o → out.length ≤ 8 → o.length ≤ 8 := by
  induction h with
  | done => intro o e h; cases e; exact h
  | skip _ _ ih => exact ih
  | bad => intro o e; cases e
  | twice => intro o e; cases e
  | large => intro o e; cases e
  | next _ _ _ hn _ ih => exact fun o e h => ih o e (by simp; omega)
theorem RuRes.len {s : ByteArray} {o : List Rl} (h : RuRes s (.ok o)) : o.length ≤ 8 := by
  rcases h with ⟨_, h⟩ | ⟨_, L, _, h⟩
  · cases h
  · exact h.len o rfl (by simp)
theorem fst_by {s : ByteArray} {c : Int} {i : Nat} (h : ch s i = c) (h2 : (List.range i).all (fun j => decide (ch s j ≠ c)) = true) : Fst s c i :=
  .inr ⟨i, rfl, h, fun j hj => of_decide_eq_true (List.all_eq_true.1 h2 j (List.mem_range.2 hj))⟩
theorem lst_by {s : ByteArray} {c : Int} {i : Nat} (hc : 0 ≤ c) (h : ch s i = c) (h2 : (List.range s.size).all (fun j => decide (j ≤ i ∨ ch s j ≠ c)) = true) : Lst s c i :=
  .inr ⟨i, rfl, h, fun j hj hjc => by
    have hs := ch_ge (s := s) (p := j) (by omega)
    rcases of_decide_eq_true (List.all_eq_true.1 h2 j (List.mem_range.2 hs)) with h3 | h3
    · omega
    · exact h3 hjc⟩
theorem nm_by {s : ByteArray} (h : (decide (1 ≤ s.size ∧ s.size ≤ 16) && (List.range s.size).all (fun j => decide ((97 ≤ ch s j ∧ ch s j ≤ 122) ∨ (48 ≤ ch s j ∧ ch s j ≤ 57) ∨ ch s j = 45 ∨ ch s j = 95))) = true) : Nm s := by
  rw [Bool.and_eq_true] at h
  have h1 := of_decide_eq_true h.1
  refine ⟨h1.1, h1.2, fun p hp => ?_⟩
  have h2 := List.all_eq_true.1 h.2 p (List.mem_range.2 hp)
  have h3 := of_decide_eq_true h2
  exact h3
theorem lines_by {s : ByteArray} {p i : Nat} {L : List ByteArray} (hp : p ≤ i) (h : ch s i = 10) (h2 : (List.range i).all (fun j => decide (j < p ∨ ch s j ≠ 10)) = true) (hL : Lines s (i + 1) L) : Lines s p (s.extract p i :: L) :=
  .more hp h (fun j h3 h4 => by
    rcases of_decide_eq_true (List.all_eq_true.1 h2 j (List.mem_range.2 h4)) with h5 | h5
    · omega
    · exact h5) hL
theorem last_by {s : ByteArray} {p : Nat} (hp : p ≤ s.size) (h2 : (List.range s.size).all (fun j => decide (j < p ∨ ch s j ≠ 10)) = true) : Lines s p [s.extract p s.size] :=
  .last hp (fun j h3 h10 => by
    have hs := ch_ge (s := s) (p := j) (by omega)
    rcases of_decide_eq_true (List.all_eq_true.1 h2 j (List.mem_range.2 hs)) with h5 | h5
    · omega
    · exact h5 h10)
/-- "card \d{16} luhn\n" -/
def upA : ByteArray := { data := #[99, 97, 114, 100, 32, 92, 100, 123, 49, 54, 125, 32, 108, 117, 104, 110, 10] }
def upL : ByteArray := { data := #[99, 97, 114, 100, 32, 92, 100, 123, 49, 54, 125, 32, 108, 117, 104, 110] }
/-- "#\ncard x" -/
def upB : ByteArray := { data := #[35, 10, 99, 97, 114, 100, 32, 120] }
def upR : Rl := ⟨{ data := #[99, 97, 114, 100] }, { data := #[92, 100, 123, 49, 54, 125] }, true⟩
theorem upA_res : RuRes upA (.ok [upR]) := by
  refine .inr ⟨by decide, [upL, ByteArray.empty], ?_, ?_⟩
  · have h := lines_by (s := upA) (p := 0) (i := 16) (by decide) (by kernel_rfl) (by kernel_rfl) (last_by (by decide) (by kernel_rfl))
    have e0 : upA.extract 0 16 = upL := by kernel_rfl
    have e1 : upA.extract 17 upA.size = ByteArray.empty := by kernel_rfl
    rw [e0, e1] at h
    exact h
  · refine .next (r := upR) ?_ ⟨4, 11, fst_by (by kernel_rfl) (by kernel_rfl), lst_by (by decide) (by kernel_rfl) (by kernel_rfl), 4, 11, rfl, rfl, by decide, by decide, by kernel_rfl, by kernel_rfl, nm_by (by kernel_rfl), .inl ⟨rfl, by kernel_rfl⟩⟩ (by simp) (by simp) (.skip (.inl rfl) .done)
    rintro (h | h)
    · exact absurd h (by decide)
    · exact absurd h (by decide)
theorem upB_res : RuRes upB (.no 2 1) := by
  refine .inr ⟨by decide, [{ data := #[35] }, { data := #[99, 97, 114, 100, 32, 120] }], ?_, ?_⟩
  · have h := lines_by (s := upB) (p := 0) (i := 1) (by decide) (by kernel_rfl) (by kernel_rfl) (last_by (by decide) (by kernel_rfl))
    have e0 : upB.extract 0 1 = { data := #[35] } := by kernel_rfl
    have e1 : upB.extract 2 upB.size = { data := #[99, 97, 114, 100, 32, 120] } := by kernel_rfl
    rw [e0, e1] at h
    exact h
  · refine .skip (.inr (by kernel_rfl)) (.bad ?_ ?_)
    · rintro (h | h)
      · exact absurd h (by decide)
      · exact absurd h (by decide)
    · exact no_rule (f := 4) (l := 4) (fst_by (by kernel_rfl) (by kernel_rfl)) (lst_by (by decide) (by kernel_rfl) (by kernel_rfl)) (fun r h => by obtain ⟨i, k, h1, h2, h3, _⟩ := h; omega)
set_option maxRecDepth 100000 in
set_option maxHeartbeats 1600000 in
theorem up_any (w : World) : Calls Tryd.prog 6 #[] w fun e w' => e = .returned (.bool true) ∧ Below w.heap.size w w' := by
  have HA : Hid (∀ w, Calls Tryd.prog 7 #[.string { data := #[99, 97, 114, 100, 32, 92, 100, 123, 49, 54, 125, 32, 108, 117, 104, 110, 10] }] w fun e w' => Below w.heap.size w w' ∧ ∃ g c, e = .returned (.tuple #[.slice (some ⟨g, 0, none⟩) 1 c, .nilIface]) ∧ RulesAt w.heap.size w' (.slice (some ⟨g, 0, none⟩) 1 c) [upR]) := Lib.hid (fun w => (parseX upA w (by decide)).mono (by
    rintro e w' ⟨hb, R, hR, h⟩
    obtain rfl := hR.det upA_res
    obtain ⟨v, rfl, hv⟩ := h
    obtain ⟨a, c, rfl⟩ := hv.form
    obtain ⟨g, rfl, _⟩ := hv.get (k := 0) (q := upR) rfl
    exact ⟨hb, g, c, rfl, hv⟩))
  have HB : Hid (∀ w, Calls Tryd.prog 7 #[.string { data := #[35, 10, 99, 97, 114, 100, 32, 120] }] w fun e w' => Below w.heap.size w w' ∧ ∃ b, e = .returned (.tuple #[.slice none 0 0, spotV b]) ∧ AtG w' b 43 #[.int .i64 1, .int .i64 2]) := Lib.hid (fun w => (parseX upB w (by decide)).mono (by
    rintro e w' ⟨hb, R, hR, h⟩
    obtain rfl := hR.det upB_res
    exact ⟨hb, h⟩))
  have es := eq_rule
  have h1 : ∀ w, (binOp BinOp.eql 25 .nilIface .nilIface).run Tryd.prog w = .ok (.bool true) w := fun w => by rfl
  go_enter Tryd.func6, Tryd.ntmps6
  go_wp2_with fail
  refine (HA.out _).mono ?_
  rintro e9 w1 ⟨hb1, g, c, rfl, hv1⟩
  have HB1 := Lib.hid hb1; have HV1 := Lib.hid hv1
  clear hb1 hv1
  go_wp2_with fail
  refine (HB.out _).mono ?_
  rintro e9 w2 ⟨hb2, b, rfl, hx2⟩
  have HB2 := Lib.hid (HB1.out.trans (hb2.mono HB1.out.size)); have HV2 := Lib.hid (HV1.out.below hb2)
  have HSP := Lib.hid (spot_some b 1 2 w2 hx2)
  clear hb2 hx2 HB1 HV1
  unfold spotV at HSP ⊢
  go_wp2_with fail
  refine (HSP.out).mono ?_
  rintro e9 w3 ⟨rfl, hb3⟩
  have HB3 := Lib.hid (HB2.out.trans (hb3.mono HB2.out.size))
  obtain ⟨g', e1, -, z0, z1, z2⟩ := (HV2.out.below hb3).get (k := 0) (q := upR) rfl
  cases e1
  unfold upR at z0 z1 z2
  clear hb3 HB2 HSP HV2
  go_wp2_with fail
  go_returns
  exact ⟨rfl, HB3.out⟩
set_option maxRecDepth 100000 in
set_option maxHeartbeats 1600000 in
theorem rulesTells_walk (s : ByteArray) (w : World) : Calls Tryd.prog 3 #[.string s] w fun e w' => e = .returned (.bool true) ∧ Below w.heap.size w w' := by
  by_cases hl : 10000 < s.size
  · have hlI : (10000 : Int) < s.size := by omega
    clear hl
    go_enter Tryd.func3, Tryd.ntmps3
    go_wp2_with fail
    refine (up_any _).mono ?_
    rintro e9 w1 ⟨rfl, hb1⟩
    have HB1 := Lib.hid hb1
    clear hb1
    go_wp2_with fail
    go_returns
    exact ⟨rfl, HB1.out⟩
  have hlI : ¬ (10000 : Int) < s.size := by omega
  have HPX := Lib.hid (fun w => parseX s w (by omega))
  have HRR := Lib.hid (fun w => rulesR s w (by omega))
  clear hl
  go_enter Tryd.func3, Tryd.ntmps3
  go_wp2_with fail
  refine (up_any _).mono ?_
  rintro e9 w1 ⟨rfl, hb1⟩
  have HB1 := Lib.hid hb1
  clear hb1
  go_wp2_with fail
  refine (HPX.out _).mono ?_
  rintro e9 w2 ⟨hb2, R, hR, hr⟩
  have HB2 := Lib.hid (HB1.out.trans (hb2.mono HB1.out.size)); have HR := Lib.hid hR
  clear hb2 hR HB1 HPX
  cases R with
  | ok out =>
    obtain ⟨v, rfl, hv⟩ := hr
    have HV := Lib.hid hv
    clear hv
    go_wp2_with fail
    refine (HRR.out _).mono ?_
    rintro e9 w3 ⟨hb3, R', hR', hr'⟩
    obtain rfl := hR'.det HR.out
    obtain ⟨v', rfl, hv'⟩ := hr'
    have HB3 := Lib.hid (HB2.out.trans (hb3.mono HB2.out.size))
    have HL : Hid (out.length ≤ 1000) := Lib.hid (by have := hR'.len; omega)
    have HSM := Lib.hid (sameX w3 v v' out (HV.out.below hb3) hv' HL.out)
    clear hb3 hR' hv' HB2 HV HRR
    go_wp2_with fail
    refine (spot_nil _).mono ?_
    rintro e9 w4 ⟨rfl, hw4⟩; subst hw4
    go_wp2_with fail
    refine (HSM.out).mono ?_
    rintro e9 w5 ⟨rfl, hb5⟩
    have HB5 := Lib.hid (HB3.out.trans (hb5.mono HB3.out.size))
    clear hb5 HB3 HSM
    go_wp2_with fail
    go_returns
    exact ⟨rfl, HB5.out⟩
  | no c x =>
    obtain ⟨b, rfl, hx⟩ := hr
    have HX := Lib.hid hx
    clear hx
    unfold spotV
    go_wp2_with fail
    refine (HRR.out _).mono ?_
    rintro e9 w3 ⟨hb3, R', hR', hr'⟩
    obtain rfl := hR'.det HR.out
    obtain rfl := hr'
    have HB3 := Lib.hid (HB2.out.trans (hb3.mono HB2.out.size))
    have HSP := Lib.hid (spot_some b x c w3 (HX.out.below hb3))
    unfold spotV at HSP
    clear hb3 hR' HB2 HX HRR
    go_wp2_with fail
    refine (HSP.out).mono ?_
    rintro e9 w4 ⟨rfl, hb4⟩
    have HB4 := Lib.hid (HB3.out.trans (hb4.mono HB3.out.size))
    have HSM := Lib.hid (sameX (B := 0) (B' := 0) w4 (.slice none 0 0) (.slice none 0 0) [] (.inl ⟨rfl, rfl⟩) (.inl ⟨rfl, rfl⟩) (by simp))
    clear hb4 HB3 HSP
    go_wp2_with fail
    refine (HSM.out).mono ?_
    rintro e9 w5 ⟨rfl, hb5⟩
    have HB5 := Lib.hid (HB4.out.trans (hb5.mono HB4.out.size))
    clear hb5 HB4 HSM
    go_wp2_with fail
    go_returns
    exact ⟨rfl, HB5.out⟩
end Go.Proofs.YtaafmfooommepaaDoor
