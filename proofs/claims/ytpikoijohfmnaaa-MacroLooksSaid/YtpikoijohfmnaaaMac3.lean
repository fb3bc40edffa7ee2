/- Run of package macro. -/
import Derived.Test.YtpikoijohfmnaaaMacPlain
set_option linter.unusedVariables false
set_option linter.unusedSimpArgs false
namespace Go.Proofs.Ytpikoijohfmnaaa
open Go.RowKit
set_option maxRecDepth 100000 in
set_option maxHeartbeats 8000000 in
theorem run_any (g gc N : Nat) (vl tv : Value) (l tr : List Ins) (f : Nat → Int) (w : World) (h : CtM w g gc tv N f tr) (hR : ∀ w', Only (ctS g gc tv) w w' → RdIns w' vl l) (hok : ∀ x ∈ l, x.ok) (hl : l.length ≤ 1000000) (htr : tr.length ≤ 1000000) (hN : N ≤ 200000) :
    Calls Try.prog 19 #[.pointer (some ⟨g, 0, none⟩), vl] w (RunPost N g gc tv l f tr w) := by
  obtain ⟨a1, c1, rfl, _, hA⟩ := rdIns_form (hR w (Only.refl w))
  obtain ⟨n, hn⟩ : ∃ n, l.length = n := ⟨_, rfl⟩
  rw [hn] at hR hA hl ⊢
  have hlI : (n : Int) ≤ 1000000 := by omega
  have HH := Lib.hid hR; have HOK := Lib.hid hok; have HFA := Lib.hid hA; have HN := Lib.hid hn; have HL := Lib.hid hl; have HTR := Lib.hid htr; have HNN := Lib.hid hN; have HM0 := Lib.hid h
  clear hR hok hA hn hl htr hN h
  go_enter Try.func19, Try.ntmps19
  go_wp2_with fail
  go_loopw [6, 13] (fun v i wr => ∃ (j : Nat) (tv' : Value), j ≤ n ∧ i = .int .i64 j ∧ (∀ j', j' < j → mayP N (insAt l j') = true) ∧ CtM wr g gc tv' N (stF l f j) (trK l tr j) ∧ Only (ctS g gc tv) w wr ∧ (tv'.ownBlock = tv.ownBlock ∨ ∃ b, tv'.ownBlock = some b ∧ w.heap.size ≤ b) ∧ wr.ownsRow w.heap.size 29 1 v (toldK l f j).length (u64s (toldK l f j))) (fun _ i _ => n - (intOf i).toNat)
  case atStart => exact ⟨0, tv, by omega, rfl, fun _ hj => absurd hj (Nat.not_lt_zero _), HM0.out, Only.refl w, .inl rfl, own_nil _ _ _ _⟩
  case round =>
    obtain ⟨j, tv', hj, rfl, hmays, hM, hO, hT, ho⟩ := hrel
    obtain ⟨va, vn, vc, rfl⟩ := own_slice ho
    have HMS := Lib.hid hmays; have HM := Lib.hid hM; have HO := Lib.hid hO; have HT := Lib.hid hT; have HV := Lib.hid ho
    clear hmays hM hO hT ho
    by_cases hjn : j < n
    · have hjl : j < l.length := by rw [HN.out]; exact hjn
      rcases HFA.out with h0 | ⟨b1, o1, rfl⟩
      · exact absurd h0 (by omega)
      obtain ⟨⟨op, d, a, b, c, k⟩, hx⟩ : ∃ x, l[j] = x := ⟨_, rfl⟩
      have hxa : insAt l j = ⟨op, d, a, b, c, k⟩ := (insAt_eq l j hjl).trans hx
      have hxo : Ins.ok ⟨op, d, a, b, c, k⟩ := by rw [← hx]; exact HOK.out _ (List.getElem_mem hjl)
      have hku : u64In k := ⟨hxo.2.2.2.2.2.1, by have h5 : k ≤ 18446744073709551615 := hxo.2.2.2.2.2.2; omega⟩
      have ca := rdIns_cells (HH.out wr HO.out) j hjl
      rw [hx] at ca
      dsimp only at ca
      have HXO := Lib.hid hxo; have HKU := Lib.hid hku; have HXA := Lib.hid hxa
      clear hxo hku hx hxa
      have hnl := HL.out
      obtain ⟨z0, z1, z2, z3, z4, z5⟩ := ca
      cases hmay : mayP N ⟨op, d, a, b, c, k⟩
      · have HMAY := Lib.hid hmay; clear hmay
        go_wp2_with fail
        refine (do_no ⟨op, d, a, b, c, k⟩ g gc N tv' (stF l f j) (trK l tr j) _ (HM.out.below ((Below.refl _ _).alloc (Nat.le_refl _) _)) HMAY.out).mono ?_
        rintro e9 w4 ⟨rfl, hb4⟩
        clear z0 z1 z2 z3 z4 z5
        have HB4 := Lib.hid ((Below.refl wr.heap.size wr).alloc (Nat.le_refl _) _ |>.trans (hb4.mono (by simp))); clear hb4
        go_wp2_with fail
        go_returns
        exact ⟨j, tv', by rw [HN.out]; omega, HMS.out, HM.out.below HB4.out, HO.out.trans (Only.of_below (S := fun _ => False) HB4.out) (fun _ => False.elim), HT.out, .inr ⟨hjl, by rw [HXA.out]; exact HMAY.out, rfl⟩⟩
      · have HMAY := Lib.hid hmay; clear hmay
        have hq : AtG (wr.alloc (.cells #[.int .i64 op, .int .i64 d, .int .i64 a, .int .i64 b, .int .i64 c, .int .u64 k] 35)) wr.heap.size 35 #[.int .i64 op, .int .i64 d, .int .i64 a, .int .i64 b, .int .i64 c, .int .u64 k] := AtG.new _ _ _
        have HQ := Lib.hid hq; clear hq
        go_wp2_with fail
        refine (do_yes ⟨op, d, a, b, c, k⟩ g gc N tv' (stF l f j) (trK l tr j) _ (HM.out.below ((Below.refl _ _).alloc (Nat.le_refl _) _)) HMAY.out (by rw [trK_len]; have := HTR.out; omega) HNN.out HKU.out).mono ?_
        rintro e9 w4 ⟨tv4, rfl, hM4, hO4, hB4⟩
        clear z0 z1 z2 z3 z4 z5
        have hlt := HM.out.lt
        have hq4 := HQ.out.only hO4 (fun e => by have := hlt _ e; omega)
        have z0 := hq4.cell 0 _ rfl
        have ho4 : w4.ownsRow w.heap.size 29 1 (.slice va vn vc) (toldK l f j).length (u64s (toldK l f j)) :=
          own_only (own_below HV.out ((Below.refl _ _).alloc (Nat.le_refl _) _)) hO4 (fun q hq => by
            rintro (rfl | rfl | hk)
            · have := own_base HV.out _ hq; have := HM0.out.lt _ (.inl rfl); omega
            · have := own_base HV.out _ hq; have := HM0.out.lt _ (.inr (.inl rfl)); omega
            · exact own_own_ne HV.out HM.out.t (by decide) q hq hk)
        have hO4' : Only (ctS g gc tv) w w4 := by
          refine (HO.out.trans (Only.of_below (S := fun _ => False) ((Below.refl wr.heap.size wr).alloc (Nat.le_refl _) _)) (fun _ => False.elim)).trans hO4 (fun q hq => ?_)
          rcases hq with h | h | hk
          · exact .inl (.inl h)
          · exact .inl (.inr (.inl h))
          · rcases HT.out with h2 | ⟨b2, h2, h3⟩
            · exact .inl (.inr (.inr (h2.symm.trans hk)))
            · rw [h2] at hk; cases hk; exact .inr h3
        have hT4 : tv4.ownBlock = tv.ownBlock ∨ ∃ b, tv4.ownBlock = some b ∧ w.heap.size ≤ b := by
          rcases hB4 with h2 | ⟨b2, h2, h3⟩
          · rcases HT.out with h4 | ⟨b4, h4, h5⟩
            · exact .inl (h2.trans h4)
            · exact .inr ⟨b4, h2.trans h4, h5⟩
          · exact .inr ⟨b2, h2, by have := HO.out.size; simp at h3; omega⟩
        have hM4' : CtM w4 g gc tv4 N (stF l f (j + 1)) (trK l tr (j + 1)) := by rw [stF_succ, trK_succ, HXA.out]; exact hM4
        have hmays : ∀ j', j' < j + 1 → mayP N (insAt l j') = true := fun j' hj' => by
          rcases Nat.lt_succ_iff_lt_or_eq.1 hj' with h | rfl
          · exact HMS.out j' h
          · rw [HXA.out]; exact HMAY.out
        have HM4 := Lib.hid hM4'; have HO4 := Lib.hid hO4'; have HT4 := Lib.hid hT4; have HV4 := Lib.hid ho4; have HMS4 := Lib.hid hmays
        clear hlt hM4 hO4 hB4 hq4 hO4' hM4' hT4 ho4 hmays
        generalize hy : outP (stF l f j) ⟨op, d, a, b, c, k⟩ = y
        have HY := Lib.hid hy; clear hy
        by_cases h11 : op = 11
        · have hto := told_yes l f j (by rw [HXA.out]; exact h11)
          rw [HXA.out, HY.out] at hto
          have HTO := Lib.hid hto; clear hto
          subst h11
          go_wp2_with (at_builtin; go_must (refine wpList_appRow rfl (.tmp 29) (.tmp 31) 46 rfl w.heap.size 29 _ 1 8 Try.underlying46 infoU64 rfl (by decide) _ _ (toldK l f j).length 1 _ _ (own_below HV4.out ((Below.refl _ _).alloc (Nat.le_refl _) _)) (src_at (AtG.new _ 29 _) 1) rfl rfl rfl (fun y hy => by simp at hy; subst hy; rfl) (by have := told_len l f j; omega) (by decide) (by have := HO4.out.size; simp; omega) ?_); intro v5 w5 ho5 hg5; have HV5 := Lib.hid ho5; have HG5 := Lib.hid (World.grownBy.trans (World.grownBy_alloc w4 _ _) hg5); clear ho5 hg5)
          refine ⟨⟨j + 1, tv4, by omega, by go_num, HMS4.out, ?_, ?_, HT4.out, ?_⟩, by simp [intOf]; omega⟩
          · refine HM4.out.only (Only.of_grown (S := fun q => (Value.slice va vn vc).ownBlock = some q) HG5.out (fun q hq => hq)) (fun q hq hk => ?_)
            rcases hq with rfl | rfl | hq
            · have := own_base HV4.out _ hk; have := HM0.out.lt _ (.inl rfl); omega
            · have := own_base HV4.out _ hk; have := HM0.out.lt _ (.inr (.inl rfl)); omega
            · exact own_own_ne HV4.out HM4.out.t (by decide) q hk hq
          · exact HO4.out.trans (Only.of_grown (S := fun q => (Value.slice va vn vc).ownBlock = some q) HG5.out (fun q hq => hq)) (fun q hq => .inr (own_base HV4.out q hq))
          · rw [HTO.out, List.length_append, u64s_snoc]; exact HV5.out
        · have hto := told_no l f j (by rw [HXA.out]; exact h11)
          have HTO := Lib.hid hto; clear hto
          have e11 : (op == 11) = false := by rw [beq_eq_false_iff_ne]; exact h11
          go_wp2_with fail
          refine ⟨⟨j + 1, tv4, by omega, by go_num, HMS4.out, HM4.out, HO4.out, HT4.out, ?_⟩, by simp [intOf]; omega⟩
          rw [HTO.out]; exact HV4.out
    · obtain rfl : j = n := by omega
      go_wp2_with fail
      go_returns
      exact ⟨j, tv', by rw [HN.out]; omega, HMS.out, HM.out, HO.out, HT.out, .inl ⟨HN.out.symm, _, rfl, HV.out⟩⟩
end Go.Proofs.Ytpikoijohfmnaaa
