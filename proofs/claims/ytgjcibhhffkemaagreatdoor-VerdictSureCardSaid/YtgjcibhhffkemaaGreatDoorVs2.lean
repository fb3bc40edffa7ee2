/- Own texts, pruned and joined by a program (prune.py). -/
import Derived.Test.YtgjcibhhffkemaaGreatDoorVs1
import Derived.WalkLawsBesides
import Derived.Lib.Bytealg
set_option linter.unusedVariables false
set_option linter.unusedSimpArgs false
namespace Go.Proofs.YtgjcibhhffkemaaGreatDoor
open Go.RowKit Bt
theorem img_none {R : Nat → Nat → Prop} {S : Nat → Prop} (h : ∀ j, ¬ S j) (i : Nat) : ¬ img R S i := fun ⟨j, hj, _⟩ => h j hj
theorem imgN_le (b : Nat → Nat) (n : Nat) (p : Pat) (S : Nat → Bool) (t : Nat) : ∀ i, imgN (Mt b n p) (InS n S) t i → i ≤ n := by
  induction t with
  | zero => intro i h; exact h.1
  | succ t ih => rintro i ⟨j, h1, h2⟩; exact mt_le b n p j i (ih j h1) h2
set_option maxRecDepth 100000 in
set_option maxHeartbeats 8000000 in
theorem ends_rep (mn mx : Nat) (p : Pat) (h1 : mn ≤ mx) (h2 : mx ≤ 1000) (ih : EndsC p) : EndsC (.rep mn mx p) := by
  intro w a m c wv xs bf S hn hx hl hfa
  obtain rfl : m = 1 := by
    obtain ⟨a', c', hh⟩ := KAt.slice hn
    injection hh with _ hh _
  obtain ⟨A, wc, rfl⟩ := rdB_slice hx
  have HX := Lib.hid hx; have HF := Lib.hid hfa; have HN := Lib.hid hn
  have hnI : (xs.length : Int) ≤ 1000 := by omega
  have hmk := make_one (P := Tryz.prog) 84 4 (.bool false) 1 Tryz.underlying84 infoBool rfl .i64 .i64 (xs.length + 1) (by omega) (by omega)
  rw [show ((xs.length + 1 : Nat) : Int) = (xs.length : Int) + 1 from by omega, barr_zero] at hmk
  obtain ⟨b, off, cap, heq, hcap, op', f', mn', mx', kids', ka, kc, ht, hc8, hkn⟩ := kid_at (j := 0) (t := p.tree) hn rfl
  injection heq with e1 e2 e3
  subst e1; subst e3
  clear e2
  unfold EndsC at ih
  rw [ht] at ih hkn
  have hI2 := fun w bf S h1 h2 h3 => ih w ka kids'.length kc (.slice A xs.length wc) xs bf S h1 h2 hl h3
  unfold nodeV at hI2
  have HI := Lib.hid hI2; have HKN := Lib.hid hkn
  obtain ⟨kn, hkl⟩ : ∃ kn, kn = kids'.length := ⟨_, rfl⟩
  have hz8 : off + 0 * 8 = off := by omega
  rw [← hkl] at HKN HI hc8
  rw [hz8] at hc8
  have HC8 := Lib.hid hc8
  obtain ⟨w0, hw0⟩ : ∃ w0 : World, w0 = (w.alloc (.cells (nodeC 4 emp (mn : Int) (mx : Int) (.slice (some ⟨b, off, none⟩) 1 c)) 41)).alloc (.cells (barr (fun _ => false) (xs.length + 1)) 4) := ⟨_, rfl⟩
  have HA : Hid (AtG w0 w.heap.size 41 (nodeC 4 emp (mn : Int) (mx : Int) (.slice (some ⟨b, off, none⟩) 1 c))) := Lib.hid (by rw [hw0]; exact (AtG.new _ _ _).alloc _)
  have HO : Hid (AtG w0 (w.heap.size + 1) 4 (barr (fun _ => false) (xs.length + 1))) := Lib.hid (by
    rw [hw0]
    have := AtG.new (w.alloc (.cells (nodeC 4 emp (mn : Int) (mx : Int) (.slice (some ⟨b, off, none⟩) 1 c)) 41)) 4 (barr (fun _ => false) (xs.length + 1))
    simpa using this)
  have HB0 : Hid (Below w.heap.size w w0) := Lib.hid (by rw [hw0]; go_grown)
  have hw0' : (w.alloc (.cells #[.int .i64 4, .int .u64 ((wd emp 0 : Nat) : Int), .int .u64 ((wd emp 1 : Nat) : Int), .int .u64 ((wd emp 2 : Nat) : Int), .int .u64 ((wd emp 3 : Nat) : Int), .int .i64 (mn : Int), .int .i64 (mx : Int), .slice (some ⟨b, off, none⟩) 1 c] 41)).alloc (.cells (barr (fun _ => false) (xs.length + 1)) 4) = w0 := hw0.symm
  have m0 : w0.cell? ⟨w.heap.size, 0, none⟩ = some (.int .i64 4) := HA.out.cell 0 _ rfl
  have HLF := Lib.hid hfa.lt
  have hmxI : (mx : Int) ≤ 1000 := by omega
  have hmnI : (mn : Int) ≤ 1000 := by omega
  have HMN := Lib.hid h1
  obtain ⟨R, hR⟩ : ∃ R, R = Mt (byt xs) xs.length p := ⟨_, rfl⟩
  rw [← hR] at HI
  have HPOST : Hid (∀ i, img (Mt (byt xs) xs.length (.rep mn mx p)) (InS xs.length S) i ↔ ∃ u, mn ≤ u ∧ u ≤ mx ∧ imgN R (InS xs.length S) u i) := Lib.hid (fun i => by rw [hR]; exact mt_rep _ _ _ _ _ _ _)
  have HLE : Hid (∀ t i, imgN R (InS xs.length S) t i → i ≤ xs.length) := Lib.hid (fun t i => by rw [hR]; exact imgN_le _ _ _ _ _ _)
  clear hn hx hfa hw0 ih hI2 hkn ht hkl hz8 hc8 hR
  show Calls Tryz.prog 34 #[.agg #[.int .i64 4, .int .u64 ((wd emp 0 : Nat) : Int), .int .u64 ((wd emp 1 : Nat) : Int), .int .u64 ((wd emp 2 : Nat) : Int), .int .u64 ((wd emp 3 : Nat) : Int), .int .i64 (mn : Int), .int .i64 (mx : Int), .slice (some ⟨b, off, none⟩) 1 c], _, _] w _
  have hpost : ∀ (e : Ending) (w' : World), (Below w.heap.size w w' ∧ ∃ b' g', e = .returned (.slice (some ⟨b', 0, none⟩) (xs.length + 1) (xs.length + 1)) ∧ AtG w' b' 4 (barr g' (xs.length + 1)) ∧ (b' = bf ∨ w.heap.size ≤ b') ∧ ∀ i, i ≤ xs.length → (g' i = true ↔ ∃ u, mn ≤ u ∧ u ≤ mx ∧ imgN R (InS xs.length S) u i)) → (Below w.heap.size w w' ∧ ∃ b' g', e = .returned (.slice (some ⟨b', 0, none⟩) (xs.length + 1) (xs.length + 1)) ∧ AtG w' b' 4 (barr g' (xs.length + 1)) ∧ (b' = bf ∨ w.heap.size ≤ b') ∧ ∀ i, i ≤ xs.length → (g' i = true ↔ img (Mt (byt xs) xs.length (.rep mn mx p)) (InS xs.length S) i)) := by
    rintro e w' ⟨q1, b', g', q2, q3, q4, q5⟩
    exact ⟨q1, b', g', q2, q3, q4, fun i hi => (q5 i hi).trans (HPOST.out i).symm⟩
  refine Calls.mono ?_ hpost
  clear hpost HPOST
  go_enter Tryz.func34, Tryz.ntmps34
  go_wp2_with fail
  go_loopw [2, 16] (fun t2 i wr => ∃ t : Nat, t ≤ mx ∧ ∃ bq F g, t2 = .slice (some ⟨bq, 0, none⟩) (xs.length + 1) (xs.length + 1) ∧ i = .int .i64 t ∧ Below w.heap.size w wr ∧ AtG wr w.heap.size 41 (nodeC 4 emp (mn : Int) (mx : Int) (.slice (some ⟨b, off, none⟩) 1 c)) ∧ AtG wr bq 4 (barr F (xs.length + 1)) ∧ bq ≠ w.heap.size + 1 ∧ AtG wr (w.heap.size + 1) 4 (barr g (xs.length + 1)) ∧ (∀ i, i ≤ xs.length → (F i = true ↔ imgN R (InS xs.length S) t i)) ∧ ∀ i, i ≤ xs.length → (g i = true ↔ ∃ u, mn ≤ u ∧ u < t ∧ imgN R (InS xs.length S) u i)) (fun _ i _ => mx + 1 - (intOf i).toNat)
  case atStart => exact ⟨0, Nat.zero_le _, bf, S, _, rfl, rfl, HB0.out, HA.out, HF.out.below (HB0.out), by have := HLF.out; omega, HO.out, fun i hi => ⟨fun h => ⟨hi, h⟩, fun h => h.2⟩, fun i hi => ⟨(fun h => by cases h), fun ⟨u, _, h, _⟩ => absurd h (Nat.not_lt_zero _)⟩⟩
  case round =>
    clear hw0' m0 HA HO HB0 hmk
    obtain ⟨t, htm, bq, F, g, rfl, rfl, hb, ha, hq, hne, ho, hfi, hgi⟩ := hrel
    have HB := Lib.hid hb; have HAq := Lib.hid ha; have HQ := Lib.hid hq; have HNE := Lib.hid hne; have HO := Lib.hid ho; have HFI := Lib.hid hfi; have HGI := Lib.hid hgi
    have n6 : wr.cell? ⟨w.heap.size, 6, none⟩ = some (.int .i64 (mx : Int)) := ha.cell 6 _ rfl
    have n7 : wr.cell? ⟨w.heap.size, 7, none⟩ = some (.slice (some ⟨b, off, none⟩) 1 c) := ha.cell 7 _ rfl
    clear hb ha hq hne ho hfi hgi
    have htmI : (t : Int) ≤ (mx : Int) := by omega
    by_cases hlt : t < mx
    · have hltI : (t : Int) < (mx : Int) := by omega
      have HCO := Lib.hid (containsB_any bq (xs.length + 1) F true wr (by omega) HQ.out)
      go_wp2_with fail
      refine (HCO.out).mono ?_
      rintro e9 w9 ⟨rfl, r, rfl, hr⟩
      cases r with
      | true =>
        obtain ⟨c0, c1, c2, c3, c4, c5, c6, c7⟩ := Cell8.below HC8.out HB.out
        have HRR := Lib.hid hr; clear hr
        go_wp2_with fail
        refine (HI.out _ bq F (NAt.below HKN.out HB.out) (rdB_below HX.out HB.out) HQ.out).mono ?_
        rintro e9 w4 ⟨hb4, bn, G, rfl, hg4, hbn4, hgi4⟩
        have HB4 := Lib.hid (HB.out.trans (hb4.mono HB.out.size)); have HA4 := Lib.hid (HAq.out.below hb4); have HQ4 := Lib.hid (HQ.out.below hb4); have HO4 := Lib.hid (HO.out.below hb4); have HN4 := Lib.hid hg4
        have HNN : Hid (bn ≠ w.heap.size + 1) := Lib.hid (by
          rcases hbn4 with h | h
          · rw [h]; exact HNE.out
          · have := HO.out.lt; omega)
        have HGN : Hid (∀ i, i ≤ xs.length → (G i = true ↔ imgN R (InS xs.length S) (t + 1) i)) := Lib.hid (fun i hi => (hgi4 i hi).trans (img_congr (inS_iff HFI.out (HLE.out t)) i))
        clear hb4 hg4 hbn4 hgi4 n6 n7 c0 c1 c2 c3 c4 c5 c6 c7
        have HEQ := Lib.hid (equalB_any bn bq (xs.length + 1) G F w4 (by omega) HN4.out HQ4.out)
        go_wp2_with fail
        refine (HEQ.out).mono ?_
        rintro e9 w5 ⟨hb5, st, rfl, hst⟩
        have HB5 := Lib.hid (HB4.out.trans (hb5.mono HB4.out.size)); have HA5 := Lib.hid (HA4.out.below hb5); have HQ5 := Lib.hid (HQ4.out.below hb5); have HO5 := Lib.hid (HO4.out.below hb5); have HN5 := Lib.hid (HN4.out.below hb5)
        have HLT := Lib.hid hlt
        clear hb5 HEQ HCO
        cases st with
        | true =>
          have HSTOP : Hid (∀ i, (∃ u, mn ≤ u ∧ u ≤ mx ∧ imgN R (InS xs.length S) u i) ↔ ((∃ u, mn ≤ u ∧ u < t ∧ imgN R (InS xs.length S) u i) ∨ imgN R (InS xs.length S) t i)) := Lib.hid (rep_stop (fun i => by
            have hle : ∀ t i, imgN R (InS xs.length S) t i → i ≤ xs.length := HLE.out
            constructor
            · intro h
              have hi := hle (t + 1) i h
              exact (HFI.out i hi).1 ((hst.1 rfl i (by omega)) ▸ (HGN.out i hi).2 h)
            · intro h
              have hi := hle t i h
              exact (HGN.out i hi).1 ((hst.1 rfl i (by omega)).symm ▸ (HFI.out i hi).2 h)) (by omega) HMN.out)
          clear hst
          by_cases hmt : mn ≤ t
          · have hmtI : (mn : Int) ≤ (t : Int) := by omega
            go_wp2_with fail
            go_loopw [132] (fun i wq => ∃ q : Nat, q ≤ xs.length + 1 ∧ i = .int .i64 q ∧ Below w.heap.size w wq ∧ AtG wq w.heap.size 41 (nodeC 4 emp (mn : Int) (mx : Int) (.slice (some ⟨b, off, none⟩) 1 c)) ∧ AtG wq bq 4 (barr F (xs.length + 1)) ∧ AtG wq bn 4 (barr G (xs.length + 1)) ∧ ∃ h, AtG wq (w.heap.size + 1) 4 (barr h (xs.length + 1)) ∧ (∀ j, j < q → h j = (g j || (F j && true))) ∧ ∀ j, q ≤ j → h j = g j) (fun i _ => xs.length + 1 - (intOf i).toNat)
            case atStart => exact ⟨0, Nat.zero_le _, rfl, HB5.out, HA5.out, HQ5.out, HN5.out, g, HO5.out, fun j h => absurd h (Nat.not_lt_zero _), by first | exact fun _ _ => rfl | trivial⟩
            case round =>
              obtain ⟨q, hq, rfl, hb, ha, hr, hnn, h, hh, h1, h2⟩ := hrel
              have HBq := Lib.hid hb; have HAq := Lib.hid ha; have HRq := Lib.hid hr; have HNq := Lib.hid hnn; have HHq := Lib.hid hh; have H1 := Lib.hid h1; have H2 := Lib.hid h2
              have n5 : wr.cell? ⟨w.heap.size, 5, none⟩ = some (.int .i64 (mn : Int)) := ha.cell 5 _ rfl
              clear hb ha hr hnn hh h1 h2
              by_cases hltq : q < xs.length + 1
              · have hqI : (q : Int) < (xs.length : Int) + 1 := by omega
                have r1 := HRq.out.bool q hltq
                have o1 := HHq.out.bool q hltq
                have z1 := HHq.out.frozen q
                have hh2 := H2.out q (Nat.le_refl _)
                cases hgq : h q with
                | true =>
                  rw [hgq] at o1
                  go_wp2_with fail
                  refine ⟨⟨q + 1, by omega, by go_num, HBq.out.setCell (by simp) _, HAq.out.far (p := ⟨w.heap.size + 1, q, none⟩) (by show w.heap.size ≠ w.heap.size + 1; omega) _, HRq.out.far (p := ⟨w.heap.size + 1, q, none⟩) HNE.out _, HNq.out.far (p := ⟨w.heap.size + 1, q, none⟩) HNN.out _, updB h q true, HHq.out.setB q true, ?_, ?_⟩, by simp [intOf]; omega⟩
                  · intro j hj
                    unfold updB
                    by_cases e : j = q
                    · subst e; rw [if_pos rfl, ← hh2, hgq]; rfl
                    · rw [if_neg e]; exact H1.out j (by omega)
                  · intro j hj
                    unfold updB
                    rw [if_neg (by omega)]; exact H2.out j (by omega)
                | false =>
                  rw [hgq] at o1
                  cases hfq : F q with
                  | false =>
                    rw [hfq] at r1
                    go_wp2_with fail
                    refine ⟨⟨q + 1, by omega, by go_num, HBq.out.setCell (by simp) _, HAq.out.far (p := ⟨w.heap.size + 1, q, none⟩) (by show w.heap.size ≠ w.heap.size + 1; omega) _, HRq.out.far (p := ⟨w.heap.size + 1, q, none⟩) HNE.out _, HNq.out.far (p := ⟨w.heap.size + 1, q, none⟩) HNN.out _, updB h q false, HHq.out.setB q false, ?_, ?_⟩, by simp [intOf]; omega⟩
                    · intro j hj
                      unfold updB
                      by_cases e : j = q
                      · subst e; rw [if_pos rfl, ← hh2, hgq, hfq]; rfl
                      · rw [if_neg e]; exact H1.out j (by omega)
                    · intro j hj
                      unfold updB
                      rw [if_neg (by omega)]; exact H2.out j (by omega)
                  | true =>
                    rw [hfq] at r1
                    go_wp2_with fail
                    refine ⟨⟨q + 1, by omega, by go_num, HBq.out.setCell (by simp) _, HAq.out.far (p := ⟨w.heap.size + 1, q, none⟩) (by show w.heap.size ≠ w.heap.size + 1; omega) _, HRq.out.far (p := ⟨w.heap.size + 1, q, none⟩) HNE.out _, HNq.out.far (p := ⟨w.heap.size + 1, q, none⟩) HNN.out _, updB h q (true), HHq.out.setB q (true), ?_, ?_⟩, by simp [intOf]; omega⟩
                    · intro j hj
                      unfold updB
                      by_cases e : j = q
                      · subst e; rw [if_pos rfl, ← hh2, hgq, hfq]; rfl
                      · rw [if_neg e]; exact H1.out j (by omega)
                    · intro j hj
                      unfold updB
                      rw [if_neg (by omega)]; exact H2.out j (by omega)
              · obtain rfl : q = xs.length + 1 := by omega
                have H1' : Hid (∀ i, i ≤ xs.length → h i = (g i || (F i && true))) := Lib.hid (fun i hi => H1.out i (by omega))
                clear H1 H2 n5 hltq
                go_wp2_with fail
                go_returns
                refine ⟨HBq.out, w.heap.size + 1, h, rfl, HHq.out, .inr (by omega), fun i hi => ?_⟩
                rw [H1'.out i hi, Bool.and_true, Bool.or_eq_true, HGI.out i hi, HFI.out i hi]
                exact (HSTOP.out i).symm
          · have hmtI : ¬ (mn : Int) ≤ (t : Int) := by omega
            go_wp2_with fail
            go_loopw [132] (fun i wq => ∃ q : Nat, q ≤ xs.length + 1 ∧ i = .int .i64 q ∧ Below w.heap.size w wq ∧ AtG wq w.heap.size 41 (nodeC 4 emp (mn : Int) (mx : Int) (.slice (some ⟨b, off, none⟩) 1 c)) ∧ AtG wq bq 4 (barr F (xs.length + 1)) ∧ AtG wq bn 4 (barr G (xs.length + 1)) ∧ ∃ h, AtG wq (w.heap.size + 1) 4 (barr h (xs.length + 1)) ∧ (∀ j, j < q → h j = (g j || (F j && true))) ∧ ∀ j, q ≤ j → h j = g j) (fun i _ => xs.length + 1 - (intOf i).toNat)
            case atStart => exact ⟨0, Nat.zero_le _, rfl, HB5.out, HA5.out, HQ5.out, HN5.out, g, HO5.out, fun j h => absurd h (Nat.not_lt_zero _), by first | exact fun _ _ => rfl | trivial⟩
            case round =>
              obtain ⟨q, hq, rfl, hb, ha, hr, hnn, h, hh, h1, h2⟩ := hrel
              have HBq := Lib.hid hb; have HAq := Lib.hid ha; have HRq := Lib.hid hr; have HNq := Lib.hid hnn; have HHq := Lib.hid hh; have H1 := Lib.hid h1; have H2 := Lib.hid h2
              have n5 : wr.cell? ⟨w.heap.size, 5, none⟩ = some (.int .i64 (mn : Int)) := ha.cell 5 _ rfl
              clear hb ha hr hnn hh h1 h2
              by_cases hltq : q < xs.length + 1
              · have hqI : (q : Int) < (xs.length : Int) + 1 := by omega
                have r1 := HRq.out.bool q hltq
                have o1 := HHq.out.bool q hltq
                have z1 := HHq.out.frozen q
                have hh2 := H2.out q (Nat.le_refl _)
                cases hgq : h q with
                | true =>
                  rw [hgq] at o1
                  go_wp2_with fail
                  refine ⟨⟨q + 1, by omega, by go_num, HBq.out.setCell (by simp) _, HAq.out.far (p := ⟨w.heap.size + 1, q, none⟩) (by show w.heap.size ≠ w.heap.size + 1; omega) _, HRq.out.far (p := ⟨w.heap.size + 1, q, none⟩) HNE.out _, HNq.out.far (p := ⟨w.heap.size + 1, q, none⟩) HNN.out _, updB h q true, HHq.out.setB q true, ?_, ?_⟩, by simp [intOf]; omega⟩
                  · intro j hj
                    unfold updB
                    by_cases e : j = q
                    · subst e; rw [if_pos rfl, ← hh2, hgq]; rfl
                    · rw [if_neg e]; exact H1.out j (by omega)
                  · intro j hj
                    unfold updB
                    rw [if_neg (by omega)]; exact H2.out j (by omega)
                | false =>
                  rw [hgq] at o1
                  cases hfq : F q with
                  | false =>
                    rw [hfq] at r1
                    go_wp2_with fail
                    refine ⟨⟨q + 1, by omega, by go_num, HBq.out.setCell (by simp) _, HAq.out.far (p := ⟨w.heap.size + 1, q, none⟩) (by show w.heap.size ≠ w.heap.size + 1; omega) _, HRq.out.far (p := ⟨w.heap.size + 1, q, none⟩) HNE.out _, HNq.out.far (p := ⟨w.heap.size + 1, q, none⟩) HNN.out _, updB h q false, HHq.out.setB q false, ?_, ?_⟩, by simp [intOf]; omega⟩
                    · intro j hj
                      unfold updB
                      by_cases e : j = q
                      · subst e; rw [if_pos rfl, ← hh2, hgq, hfq]; rfl
                      · rw [if_neg e]; exact H1.out j (by omega)
                    · intro j hj
                      unfold updB
                      rw [if_neg (by omega)]; exact H2.out j (by omega)
                  | true =>
                    rw [hfq] at r1
                    go_wp2_with fail
                    refine ⟨⟨q + 1, by omega, by go_num, HBq.out.setCell (by simp) _, HAq.out.far (p := ⟨w.heap.size + 1, q, none⟩) (by show w.heap.size ≠ w.heap.size + 1; omega) _, HRq.out.far (p := ⟨w.heap.size + 1, q, none⟩) HNE.out _, HNq.out.far (p := ⟨w.heap.size + 1, q, none⟩) HNN.out _, updB h q (true), HHq.out.setB q (true), ?_, ?_⟩, by simp [intOf]; omega⟩
                    · intro j hj
                      unfold updB
                      by_cases e : j = q
                      · subst e; rw [if_pos rfl, ← hh2, hgq, hfq]; rfl
                      · rw [if_neg e]; exact H1.out j (by omega)
                    · intro j hj
                      unfold updB
                      rw [if_neg (by omega)]; exact H2.out j (by omega)
              · obtain rfl : q = xs.length + 1 := by omega
                have H1' : Hid (∀ i, i ≤ xs.length → h i = (g i || (F i && true))) := Lib.hid (fun i hi => H1.out i (by omega))
                clear H1 H2 n5 hltq
                go_wp2_with fail
                go_returns
                refine ⟨HBq.out, w.heap.size + 1, h, rfl, HHq.out, .inr (by omega), fun i hi => ?_⟩
                rw [H1'.out i hi, Bool.and_true, Bool.or_eq_true, HGI.out i hi, HFI.out i hi]
                exact (HSTOP.out i).symm
        | false =>
          clear hst
          by_cases hmt : mn ≤ t
          · have hmtI : (mn : Int) ≤ (t : Int) := by omega
            have HNEXT : Hid (∀ i, i ≤ xs.length → ((∃ u, mn ≤ u ∧ u < t ∧ imgN R (InS xs.length S) u i) ∨ (F i && true) = true ↔ ∃ u, mn ≤ u ∧ u < t + 1 ∧ imgN R (InS xs.length S) u i)) := Lib.hid (fun i hi => by
              rw [Bool.and_true, HFI.out i hi]
              constructor
              · rintro (⟨u, a1, a2, a3⟩ | a3)
                · exact ⟨u, a1, by omega, a3⟩
                · exact ⟨t, hmt, by omega, a3⟩
              · rintro ⟨u, a1, a2, a3⟩
                by_cases e : u = t
                · subst e; exact .inr a3
                · exact .inl ⟨u, a1, by omega, a3⟩)
            go_wp2_with fail
            go_loopw [132] (fun i wq => ∃ q : Nat, q ≤ xs.length + 1 ∧ i = .int .i64 q ∧ Below w.heap.size w wq ∧ AtG wq w.heap.size 41 (nodeC 4 emp (mn : Int) (mx : Int) (.slice (some ⟨b, off, none⟩) 1 c)) ∧ AtG wq bq 4 (barr F (xs.length + 1)) ∧ AtG wq bn 4 (barr G (xs.length + 1)) ∧ ∃ h, AtG wq (w.heap.size + 1) 4 (barr h (xs.length + 1)) ∧ (∀ j, j < q → h j = (g j || (F j && true))) ∧ ∀ j, q ≤ j → h j = g j) (fun i _ => xs.length + 1 - (intOf i).toNat)
            case atStart => exact ⟨0, Nat.zero_le _, rfl, HB5.out, HA5.out, HQ5.out, HN5.out, g, HO5.out, fun j h => absurd h (Nat.not_lt_zero _), by first | exact fun _ _ => rfl | trivial⟩
            case round =>
              obtain ⟨q, hq, rfl, hb, ha, hr, hnn, h, hh, h1, h2⟩ := hrel
              have HBq := Lib.hid hb; have HAq := Lib.hid ha; have HRq := Lib.hid hr; have HNq := Lib.hid hnn; have HHq := Lib.hid hh; have H1 := Lib.hid h1; have H2 := Lib.hid h2
              have n5 : wr.cell? ⟨w.heap.size, 5, none⟩ = some (.int .i64 (mn : Int)) := ha.cell 5 _ rfl
              clear hb ha hr hnn hh h1 h2
              by_cases hltq : q < xs.length + 1
              · have hqI : (q : Int) < (xs.length : Int) + 1 := by omega
                have r1 := HRq.out.bool q hltq
                have o1 := HHq.out.bool q hltq
                have z1 := HHq.out.frozen q
                have hh2 := H2.out q (Nat.le_refl _)
                cases hgq : h q with
                | true =>
                  rw [hgq] at o1
                  go_wp2_with fail
                  refine ⟨⟨q + 1, by omega, by go_num, HBq.out.setCell (by simp) _, HAq.out.far (p := ⟨w.heap.size + 1, q, none⟩) (by show w.heap.size ≠ w.heap.size + 1; omega) _, HRq.out.far (p := ⟨w.heap.size + 1, q, none⟩) HNE.out _, HNq.out.far (p := ⟨w.heap.size + 1, q, none⟩) HNN.out _, updB h q true, HHq.out.setB q true, ?_, ?_⟩, by simp [intOf]; omega⟩
                  · intro j hj
                    unfold updB
                    by_cases e : j = q
                    · subst e; rw [if_pos rfl, ← hh2, hgq]; rfl
                    · rw [if_neg e]; exact H1.out j (by omega)
                  · intro j hj
                    unfold updB
                    rw [if_neg (by omega)]; exact H2.out j (by omega)
                | false =>
                  rw [hgq] at o1
                  cases hfq : F q with
                  | false =>
                    rw [hfq] at r1
                    go_wp2_with fail
                    refine ⟨⟨q + 1, by omega, by go_num, HBq.out.setCell (by simp) _, HAq.out.far (p := ⟨w.heap.size + 1, q, none⟩) (by show w.heap.size ≠ w.heap.size + 1; omega) _, HRq.out.far (p := ⟨w.heap.size + 1, q, none⟩) HNE.out _, HNq.out.far (p := ⟨w.heap.size + 1, q, none⟩) HNN.out _, updB h q false, HHq.out.setB q false, ?_, ?_⟩, by simp [intOf]; omega⟩
                    · intro j hj
                      unfold updB
                      by_cases e : j = q
                      · subst e; rw [if_pos rfl, ← hh2, hgq, hfq]; rfl
                      · rw [if_neg e]; exact H1.out j (by omega)
                    · intro j hj
                      unfold updB
                      rw [if_neg (by omega)]; exact H2.out j (by omega)
                  | true =>
                    rw [hfq] at r1
                    go_wp2_with fail
                    refine ⟨⟨q + 1, by omega, by go_num, HBq.out.setCell (by simp) _, HAq.out.far (p := ⟨w.heap.size + 1, q, none⟩) (by show w.heap.size ≠ w.heap.size + 1; omega) _, HRq.out.far (p := ⟨w.heap.size + 1, q, none⟩) HNE.out _, HNq.out.far (p := ⟨w.heap.size + 1, q, none⟩) HNN.out _, updB h q (true), HHq.out.setB q (true), ?_, ?_⟩, by simp [intOf]; omega⟩
                    · intro j hj
                      unfold updB
                      by_cases e : j = q
                      · subst e; rw [if_pos rfl, ← hh2, hgq, hfq]; rfl
                      · rw [if_neg e]; exact H1.out j (by omega)
                    · intro j hj
                      unfold updB
                      rw [if_neg (by omega)]; exact H2.out j (by omega)
              · obtain rfl : q = xs.length + 1 := by omega
                have H1' : Hid (∀ i, i ≤ xs.length → h i = (g i || (F i && true))) := Lib.hid (fun i hi => H1.out i (by omega))
                clear H1 H2 n5 hltq
                go_wp2_with fail
                exact ⟨⟨t + 1, by have := HLT.out; omega, bn, G, h, rfl, by go_num, HBq.out, HAq.out, HNq.out, HNN.out, HHq.out, HGN.out, fun i hi => by
                  rw [H1'.out i hi, Bool.or_eq_true, HGI.out i hi]
                  exact HNEXT.out i hi⟩, by simp [intOf]; have := HLT.out; omega⟩
          · have hmtI : ¬ (mn : Int) ≤ (t : Int) := by omega
            have HNEXT : Hid (∀ i, i ≤ xs.length → ((∃ u, mn ≤ u ∧ u < t ∧ imgN R (InS xs.length S) u i) ∨ (F i && false) = true ↔ ∃ u, mn ≤ u ∧ u < t + 1 ∧ imgN R (InS xs.length S) u i)) := Lib.hid (fun i hi => by
              constructor
              · rintro (⟨u, a1, a2, a3⟩ | a3)
                · exact ⟨u, a1, by omega, a3⟩
                · simp at a3
              · rintro ⟨u, a1, a2, a3⟩
                exact absurd a1 (by omega))
            go_wp2_with fail
            go_loopw [132] (fun i wq => ∃ q : Nat, q ≤ xs.length + 1 ∧ i = .int .i64 q ∧ Below w.heap.size w wq ∧ AtG wq w.heap.size 41 (nodeC 4 emp (mn : Int) (mx : Int) (.slice (some ⟨b, off, none⟩) 1 c)) ∧ AtG wq bq 4 (barr F (xs.length + 1)) ∧ AtG wq bn 4 (barr G (xs.length + 1)) ∧ ∃ h, AtG wq (w.heap.size + 1) 4 (barr h (xs.length + 1)) ∧ (∀ j, j < q → h j = (g j || (F j && false))) ∧ ∀ j, q ≤ j → h j = g j) (fun i _ => xs.length + 1 - (intOf i).toNat)
            case atStart => exact ⟨0, Nat.zero_le _, rfl, HB5.out, HA5.out, HQ5.out, HN5.out, g, HO5.out, fun j h => absurd h (Nat.not_lt_zero _), by first | exact fun _ _ => rfl | trivial⟩
            case round =>
              obtain ⟨q, hq, rfl, hb, ha, hr, hnn, h, hh, h1, h2⟩ := hrel
              have HBq := Lib.hid hb; have HAq := Lib.hid ha; have HRq := Lib.hid hr; have HNq := Lib.hid hnn; have HHq := Lib.hid hh; have H1 := Lib.hid h1; have H2 := Lib.hid h2
              have n5 : wr.cell? ⟨w.heap.size, 5, none⟩ = some (.int .i64 (mn : Int)) := ha.cell 5 _ rfl
              clear hb ha hr hnn hh h1 h2
              by_cases hltq : q < xs.length + 1
              · have hqI : (q : Int) < (xs.length : Int) + 1 := by omega
                have r1 := HRq.out.bool q hltq
                have o1 := HHq.out.bool q hltq
                have z1 := HHq.out.frozen q
                have hh2 := H2.out q (Nat.le_refl _)
                cases hgq : h q with
                | true =>
                  rw [hgq] at o1
                  go_wp2_with fail
                  refine ⟨⟨q + 1, by omega, by go_num, HBq.out.setCell (by simp) _, HAq.out.far (p := ⟨w.heap.size + 1, q, none⟩) (by show w.heap.size ≠ w.heap.size + 1; omega) _, HRq.out.far (p := ⟨w.heap.size + 1, q, none⟩) HNE.out _, HNq.out.far (p := ⟨w.heap.size + 1, q, none⟩) HNN.out _, updB h q true, HHq.out.setB q true, ?_, ?_⟩, by simp [intOf]; omega⟩
                  · intro j hj
                    unfold updB
                    by_cases e : j = q
                    · subst e; rw [if_pos rfl, ← hh2, hgq]; rfl
                    · rw [if_neg e]; exact H1.out j (by omega)
                  · intro j hj
                    unfold updB
                    rw [if_neg (by omega)]; exact H2.out j (by omega)
                | false =>
                  rw [hgq] at o1
                  cases hfq : F q with
                  | false =>
                    rw [hfq] at r1
                    go_wp2_with fail
                    refine ⟨⟨q + 1, by omega, by go_num, HBq.out.setCell (by simp) _, HAq.out.far (p := ⟨w.heap.size + 1, q, none⟩) (by show w.heap.size ≠ w.heap.size + 1; omega) _, HRq.out.far (p := ⟨w.heap.size + 1, q, none⟩) HNE.out _, HNq.out.far (p := ⟨w.heap.size + 1, q, none⟩) HNN.out _, updB h q false, HHq.out.setB q false, ?_, ?_⟩, by simp [intOf]; omega⟩
                    · intro j hj
                      unfold updB
                      by_cases e : j = q
                      · subst e; rw [if_pos rfl, ← hh2, hgq, hfq]; rfl
                      · rw [if_neg e]; exact H1.out j (by omega)
                    · intro j hj
                      unfold updB
                      rw [if_neg (by omega)]; exact H2.out j (by omega)
                  | true =>
                    rw [hfq] at r1
                    go_wp2_with fail
                    refine ⟨⟨q + 1, by omega, by go_num, HBq.out.setCell (by simp) _, HAq.out.far (p := ⟨w.heap.size + 1, q, none⟩) (by show w.heap.size ≠ w.heap.size + 1; omega) _, HRq.out.far (p := ⟨w.heap.size + 1, q, none⟩) HNE.out _, HNq.out.far (p := ⟨w.heap.size + 1, q, none⟩) HNN.out _, updB h q (false), HHq.out.setB q (false), ?_, ?_⟩, by simp [intOf]; omega⟩
                    · intro j hj
                      unfold updB
                      by_cases e : j = q
                      · subst e; rw [if_pos rfl, ← hh2, hgq, hfq]; rfl
                      · rw [if_neg e]; exact H1.out j (by omega)
                    · intro j hj
                      unfold updB
                      rw [if_neg (by omega)]; exact H2.out j (by omega)
              · obtain rfl : q = xs.length + 1 := by omega
                have H1' : Hid (∀ i, i ≤ xs.length → h i = (g i || (F i && false))) := Lib.hid (fun i hi => H1.out i (by omega))
                clear H1 H2 n5 hltq
                go_wp2_with fail
                exact ⟨⟨t + 1, by have := HLT.out; omega, bn, G, h, rfl, by go_num, HBq.out, HAq.out, HNq.out, HNN.out, HHq.out, HGN.out, fun i hi => by
                  rw [H1'.out i hi, Bool.or_eq_true, HGI.out i hi]
                  exact HNEXT.out i hi⟩, by simp [intOf]; have := HLT.out; omega⟩
      | false =>
        have HSTOP : Hid (∀ i, (∃ u, mn ≤ u ∧ u ≤ mx ∧ imgN R (InS xs.length S) u i) ↔ ((∃ u, mn ≤ u ∧ u < t ∧ imgN R (InS xs.length S) u i) ∨ imgN R (InS xs.length S) t i)) := Lib.hid (rep_stop (fun i => by
          have hle : ∀ t i, imgN R (InS xs.length S) t i → i ≤ xs.length := HLE.out
          have hno : ∀ j, ¬ imgN R (InS xs.length S) t j := fun j hj => by
            have h3 := hle t j hj
            have := hr.2 ⟨j, by omega, (HFI.out j h3).2 hj⟩
            cases this
          exact ⟨fun h => absurd h (img_none hno i), fun h => absurd h (hno i)⟩) (by omega) HMN.out)
        clear hr n6 n7
        obtain ⟨bn, hbn⟩ : ∃ bn, bn = bq := ⟨_, rfl⟩
        obtain ⟨G, hG⟩ : ∃ G, G = F := ⟨_, rfl⟩
        have HEQ := Lib.hid (equalB_any bq bq (xs.length + 1) F F _ (by omega) HQ.out HQ.out)
        have HNN : Hid (bn ≠ w.heap.size + 1) := Lib.hid (by rw [hbn]; exact HNE.out)
        go_wp2_with fail
        refine (HEQ.out).mono ?_
        rintro e9 w5 ⟨hb5, st, rfl, hst⟩
        obtain rfl : st = true := hst.2 (by first | exact fun _ _ => rfl | trivial | simp)
        have HB5 := Lib.hid (HB.out.trans (hb5.mono HB.out.size)); have HA5 := Lib.hid (HAq.out.below hb5); have HQ5 := Lib.hid (HQ.out.below hb5); have HO5 := Lib.hid (HO.out.below hb5)
        have HN5 : Hid (AtG w5 bn 4 (barr G (xs.length + 1))) := Lib.hid (by rw [hbn, hG]; exact HQ5.out)
        clear hb5 hst HEQ HCO hbn hG
        by_cases hmt : mn ≤ t
        · have hmtI : (mn : Int) ≤ (t : Int) := by omega
          go_wp2_with fail
          go_loopw [132] (fun i wq => ∃ q : Nat, q ≤ xs.length + 1 ∧ i = .int .i64 q ∧ Below w.heap.size w wq ∧ AtG wq w.heap.size 41 (nodeC 4 emp (mn : Int) (mx : Int) (.slice (some ⟨b, off, none⟩) 1 c)) ∧ AtG wq bq 4 (barr F (xs.length + 1)) ∧ AtG wq bn 4 (barr G (xs.length + 1)) ∧ ∃ h, AtG wq (w.heap.size + 1) 4 (barr h (xs.length + 1)) ∧ (∀ j, j < q → h j = (g j || (F j && true))) ∧ ∀ j, q ≤ j → h j = g j) (fun i _ => xs.length + 1 - (intOf i).toNat)
          case atStart => exact ⟨0, Nat.zero_le _, rfl, HB5.out, HA5.out, HQ5.out, HN5.out, g, HO5.out, fun j h => absurd h (Nat.not_lt_zero _), by first | exact fun _ _ => rfl | trivial⟩
          case round =>
            obtain ⟨q, hq, rfl, hb, ha, hr, hnn, h, hh, h1, h2⟩ := hrel
            have HBq := Lib.hid hb; have HAq := Lib.hid ha; have HRq := Lib.hid hr; have HNq := Lib.hid hnn; have HHq := Lib.hid hh; have H1 := Lib.hid h1; have H2 := Lib.hid h2
            have n5 : wr.cell? ⟨w.heap.size, 5, none⟩ = some (.int .i64 (mn : Int)) := ha.cell 5 _ rfl
            clear hb ha hr hnn hh h1 h2
            by_cases hltq : q < xs.length + 1
            · have hqI : (q : Int) < (xs.length : Int) + 1 := by omega
              have r1 := HRq.out.bool q hltq
              have o1 := HHq.out.bool q hltq
              have z1 := HHq.out.frozen q
              have hh2 := H2.out q (Nat.le_refl _)
              cases hgq : h q with
              | true =>
                rw [hgq] at o1
                go_wp2_with fail
                refine ⟨⟨q + 1, by omega, by go_num, HBq.out.setCell (by simp) _, HAq.out.far (p := ⟨w.heap.size + 1, q, none⟩) (by show w.heap.size ≠ w.heap.size + 1; omega) _, HRq.out.far (p := ⟨w.heap.size + 1, q, none⟩) HNE.out _, HNq.out.far (p := ⟨w.heap.size + 1, q, none⟩) HNN.out _, updB h q true, HHq.out.setB q true, ?_, ?_⟩, by simp [intOf]; omega⟩
                · intro j hj
                  unfold updB
                  by_cases e : j = q
                  · subst e; rw [if_pos rfl, ← hh2, hgq]; rfl
                  · rw [if_neg e]; exact H1.out j (by omega)
                · intro j hj
                  unfold updB
                  rw [if_neg (by omega)]; exact H2.out j (by omega)
              | false =>
                rw [hgq] at o1
                cases hfq : F q with
                | false =>
                  rw [hfq] at r1
                  go_wp2_with fail
                  refine ⟨⟨q + 1, by omega, by go_num, HBq.out.setCell (by simp) _, HAq.out.far (p := ⟨w.heap.size + 1, q, none⟩) (by show w.heap.size ≠ w.heap.size + 1; omega) _, HRq.out.far (p := ⟨w.heap.size + 1, q, none⟩) HNE.out _, HNq.out.far (p := ⟨w.heap.size + 1, q, none⟩) HNN.out _, updB h q false, HHq.out.setB q false, ?_, ?_⟩, by simp [intOf]; omega⟩
                  · intro j hj
                    unfold updB
                    by_cases e : j = q
                    · subst e; rw [if_pos rfl, ← hh2, hgq, hfq]; rfl
                    · rw [if_neg e]; exact H1.out j (by omega)
                  · intro j hj
                    unfold updB
                    rw [if_neg (by omega)]; exact H2.out j (by omega)
                | true =>
                  rw [hfq] at r1
                  go_wp2_with fail
                  refine ⟨⟨q + 1, by omega, by go_num, HBq.out.setCell (by simp) _, HAq.out.far (p := ⟨w.heap.size + 1, q, none⟩) (by show w.heap.size ≠ w.heap.size + 1; omega) _, HRq.out.far (p := ⟨w.heap.size + 1, q, none⟩) HNE.out _, HNq.out.far (p := ⟨w.heap.size + 1, q, none⟩) HNN.out _, updB h q (true), HHq.out.setB q (true), ?_, ?_⟩, by simp [intOf]; omega⟩
                  · intro j hj
                    unfold updB
                    by_cases e : j = q
                    · subst e; rw [if_pos rfl, ← hh2, hgq, hfq]; rfl
                    · rw [if_neg e]; exact H1.out j (by omega)
                  · intro j hj
                    unfold updB
                    rw [if_neg (by omega)]; exact H2.out j (by omega)
            · obtain rfl : q = xs.length + 1 := by omega
              have H1' : Hid (∀ i, i ≤ xs.length → h i = (g i || (F i && true))) := Lib.hid (fun i hi => H1.out i (by omega))
              clear H1 H2 n5 hltq
              go_wp2_with fail
              go_returns
              refine ⟨HBq.out, w.heap.size + 1, h, rfl, HHq.out, .inr (by omega), fun i hi => ?_⟩
              rw [H1'.out i hi, Bool.and_true, Bool.or_eq_true, HGI.out i hi, HFI.out i hi]
              exact (HSTOP.out i).symm
        · have hmtI : ¬ (mn : Int) ≤ (t : Int) := by omega
          go_wp2_with fail
          go_loopw [132] (fun i wq => ∃ q : Nat, q ≤ xs.length + 1 ∧ i = .int .i64 q ∧ Below w.heap.size w wq ∧ AtG wq w.heap.size 41 (nodeC 4 emp (mn : Int) (mx : Int) (.slice (some ⟨b, off, none⟩) 1 c)) ∧ AtG wq bq 4 (barr F (xs.length + 1)) ∧ AtG wq bn 4 (barr G (xs.length + 1)) ∧ ∃ h, AtG wq (w.heap.size + 1) 4 (barr h (xs.length + 1)) ∧ (∀ j, j < q → h j = (g j || (F j && true))) ∧ ∀ j, q ≤ j → h j = g j) (fun i _ => xs.length + 1 - (intOf i).toNat)
          case atStart => exact ⟨0, Nat.zero_le _, rfl, HB5.out, HA5.out, HQ5.out, HN5.out, g, HO5.out, fun j h => absurd h (Nat.not_lt_zero _), by first | exact fun _ _ => rfl | trivial⟩
          case round =>
            obtain ⟨q, hq, rfl, hb, ha, hr, hnn, h, hh, h1, h2⟩ := hrel
            have HBq := Lib.hid hb; have HAq := Lib.hid ha; have HRq := Lib.hid hr; have HNq := Lib.hid hnn; have HHq := Lib.hid hh; have H1 := Lib.hid h1; have H2 := Lib.hid h2
            have n5 : wr.cell? ⟨w.heap.size, 5, none⟩ = some (.int .i64 (mn : Int)) := ha.cell 5 _ rfl
            clear hb ha hr hnn hh h1 h2
            by_cases hltq : q < xs.length + 1
            · have hqI : (q : Int) < (xs.length : Int) + 1 := by omega
              have r1 := HRq.out.bool q hltq
              have o1 := HHq.out.bool q hltq
              have z1 := HHq.out.frozen q
              have hh2 := H2.out q (Nat.le_refl _)
              cases hgq : h q with
              | true =>
                rw [hgq] at o1
                go_wp2_with fail
                refine ⟨⟨q + 1, by omega, by go_num, HBq.out.setCell (by simp) _, HAq.out.far (p := ⟨w.heap.size + 1, q, none⟩) (by show w.heap.size ≠ w.heap.size + 1; omega) _, HRq.out.far (p := ⟨w.heap.size + 1, q, none⟩) HNE.out _, HNq.out.far (p := ⟨w.heap.size + 1, q, none⟩) HNN.out _, updB h q true, HHq.out.setB q true, ?_, ?_⟩, by simp [intOf]; omega⟩
                · intro j hj
                  unfold updB
                  by_cases e : j = q
                  · subst e; rw [if_pos rfl, ← hh2, hgq]; rfl
                  · rw [if_neg e]; exact H1.out j (by omega)
                · intro j hj
                  unfold updB
                  rw [if_neg (by omega)]; exact H2.out j (by omega)
              | false =>
                rw [hgq] at o1
                cases hfq : F q with
                | false =>
                  rw [hfq] at r1
                  go_wp2_with fail
                  refine ⟨⟨q + 1, by omega, by go_num, HBq.out.setCell (by simp) _, HAq.out.far (p := ⟨w.heap.size + 1, q, none⟩) (by show w.heap.size ≠ w.heap.size + 1; omega) _, HRq.out.far (p := ⟨w.heap.size + 1, q, none⟩) HNE.out _, HNq.out.far (p := ⟨w.heap.size + 1, q, none⟩) HNN.out _, updB h q false, HHq.out.setB q false, ?_, ?_⟩, by simp [intOf]; omega⟩
                  · intro j hj
                    unfold updB
                    by_cases e : j = q
                    · subst e; rw [if_pos rfl, ← hh2, hgq, hfq]; rfl
                    · rw [if_neg e]; exact H1.out j (by omega)
                  · intro j hj
                    unfold updB
                    rw [if_neg (by omega)]; exact H2.out j (by omega)
                | true =>
                  rw [hfq] at r1
                  go_wp2_with fail
                  refine ⟨⟨q + 1, by omega, by go_num, HBq.out.setCell (by simp) _, HAq.out.far (p := ⟨w.heap.size + 1, q, none⟩) (by show w.heap.size ≠ w.heap.size + 1; omega) _, HRq.out.far (p := ⟨w.heap.size + 1, q, none⟩) HNE.out _, HNq.out.far (p := ⟨w.heap.size + 1, q, none⟩) HNN.out _, updB h q (true), HHq.out.setB q (true), ?_, ?_⟩, by simp [intOf]; omega⟩
                  · intro j hj
                    unfold updB
                    by_cases e : j = q
                    · subst e; rw [if_pos rfl, ← hh2, hgq, hfq]; rfl
                    · rw [if_neg e]; exact H1.out j (by omega)
                  · intro j hj
                    unfold updB
                    rw [if_neg (by omega)]; exact H2.out j (by omega)
            · obtain rfl : q = xs.length + 1 := by omega
              have H1' : Hid (∀ i, i ≤ xs.length → h i = (g i || (F i && true))) := Lib.hid (fun i hi => H1.out i (by omega))
              clear H1 H2 n5 hltq
              go_wp2_with fail
              go_returns
              refine ⟨HBq.out, w.heap.size + 1, h, rfl, HHq.out, .inr (by omega), fun i hi => ?_⟩
              rw [H1'.out i hi, Bool.and_true, Bool.or_eq_true, HGI.out i hi, HFI.out i hi]
              exact (HSTOP.out i).symm
    · have htx : t = mx := by omega
      have hltI : ¬ (t : Int) < (mx : Int) := by omega
      have hmt : mn ≤ t := by have := HMN.out; omega
      have hmtI : (mn : Int) ≤ (t : Int) := by omega
      have HSTOP : Hid (∀ i, (∃ u, mn ≤ u ∧ u ≤ mx ∧ imgN R (InS xs.length S) u i) ↔ ((∃ u, mn ≤ u ∧ u < t ∧ imgN R (InS xs.length S) u i) ∨ imgN R (InS xs.length S) t i)) := Lib.hid (fun i => by
        constructor
        · rintro ⟨u, a1, a2, a3⟩
          by_cases e : u = t
          · subst e; exact .inr a3
          · exact .inl ⟨u, a1, by omega, a3⟩
        · rintro (⟨u, a1, a2, a3⟩ | a3)
          · exact ⟨u, a1, by omega, a3⟩
          · exact ⟨t, hmt, htm, a3⟩)
      obtain ⟨bn, hbn⟩ : ∃ bn, bn = bq := ⟨_, rfl⟩
      obtain ⟨G, hG⟩ : ∃ G, G = F := ⟨_, rfl⟩
      have HEQ := Lib.hid (equalB_any bq bq (xs.length + 1) F F _ (by omega) HQ.out HQ.out)
      have HNN : Hid (bn ≠ w.heap.size + 1) := Lib.hid (by rw [hbn]; exact HNE.out)
      go_wp2_with fail
      refine (HEQ.out).mono ?_
      rintro e9 w5 ⟨hb5, st, rfl, hst⟩
      obtain rfl : st = true := hst.2 (by first | exact fun _ _ => rfl | trivial | simp)
      have HB5 := Lib.hid (HB.out.trans (hb5.mono HB.out.size)); have HA5 := Lib.hid (HAq.out.below hb5); have HQ5 := Lib.hid (HQ.out.below hb5); have HO5 := Lib.hid (HO.out.below hb5)
      have HN5 : Hid (AtG w5 bn 4 (barr G (xs.length + 1))) := Lib.hid (by rw [hbn, hG]; exact HQ5.out)
      clear hb5 hst HEQ hbn hG n6 n7
      go_wp2_with fail
      go_loopw [132] (fun i wq => ∃ q : Nat, q ≤ xs.length + 1 ∧ i = .int .i64 q ∧ Below w.heap.size w wq ∧ AtG wq w.heap.size 41 (nodeC 4 emp (mn : Int) (mx : Int) (.slice (some ⟨b, off, none⟩) 1 c)) ∧ AtG wq bq 4 (barr F (xs.length + 1)) ∧ AtG wq bn 4 (barr G (xs.length + 1)) ∧ ∃ h, AtG wq (w.heap.size + 1) 4 (barr h (xs.length + 1)) ∧ (∀ j, j < q → h j = (g j || (F j && true))) ∧ ∀ j, q ≤ j → h j = g j) (fun i _ => xs.length + 1 - (intOf i).toNat)
      case atStart => exact ⟨0, Nat.zero_le _, rfl, HB5.out, HA5.out, HQ5.out, HN5.out, g, HO5.out, fun j h => absurd h (Nat.not_lt_zero _), by first | exact fun _ _ => rfl | trivial⟩
      case round =>
        obtain ⟨q, hq, rfl, hb, ha, hr, hnn, h, hh, h1, h2⟩ := hrel
        have HBq := Lib.hid hb; have HAq := Lib.hid ha; have HRq := Lib.hid hr; have HNq := Lib.hid hnn; have HHq := Lib.hid hh; have H1 := Lib.hid h1; have H2 := Lib.hid h2
        have n5 : wr.cell? ⟨w.heap.size, 5, none⟩ = some (.int .i64 (mn : Int)) := ha.cell 5 _ rfl
        clear hb ha hr hnn hh h1 h2
        by_cases hltq : q < xs.length + 1
        · have hqI : (q : Int) < (xs.length : Int) + 1 := by omega
          have r1 := HRq.out.bool q hltq
          have o1 := HHq.out.bool q hltq
          have z1 := HHq.out.frozen q
          have hh2 := H2.out q (Nat.le_refl _)
          cases hgq : h q with
          | true =>
            rw [hgq] at o1
            go_wp2_with fail
            refine ⟨⟨q + 1, by omega, by go_num, HBq.out.setCell (by simp) _, HAq.out.far (p := ⟨w.heap.size + 1, q, none⟩) (by show w.heap.size ≠ w.heap.size + 1; omega) _, HRq.out.far (p := ⟨w.heap.size + 1, q, none⟩) HNE.out _, HNq.out.far (p := ⟨w.heap.size + 1, q, none⟩) HNN.out _, updB h q true, HHq.out.setB q true, ?_, ?_⟩, by simp [intOf]; omega⟩
            · intro j hj
              unfold updB
              by_cases e : j = q
              · subst e; rw [if_pos rfl, ← hh2, hgq]; rfl
              · rw [if_neg e]; exact H1.out j (by omega)
            · intro j hj
              unfold updB
              rw [if_neg (by omega)]; exact H2.out j (by omega)
          | false =>
            rw [hgq] at o1
            cases hfq : F q with
            | false =>
              rw [hfq] at r1
              go_wp2_with fail
              refine ⟨⟨q + 1, by omega, by go_num, HBq.out.setCell (by simp) _, HAq.out.far (p := ⟨w.heap.size + 1, q, none⟩) (by show w.heap.size ≠ w.heap.size + 1; omega) _, HRq.out.far (p := ⟨w.heap.size + 1, q, none⟩) HNE.out _, HNq.out.far (p := ⟨w.heap.size + 1, q, none⟩) HNN.out _, updB h q false, HHq.out.setB q false, ?_, ?_⟩, by simp [intOf]; omega⟩
              · intro j hj
                unfold updB
                by_cases e : j = q
                · subst e; rw [if_pos rfl, ← hh2, hgq, hfq]; rfl
                · rw [if_neg e]; exact H1.out j (by omega)
              · intro j hj
                unfold updB
                rw [if_neg (by omega)]; exact H2.out j (by omega)
            | true =>
              rw [hfq] at r1
              go_wp2_with fail
              refine ⟨⟨q + 1, by omega, by go_num, HBq.out.setCell (by simp) _, HAq.out.far (p := ⟨w.heap.size + 1, q, none⟩) (by show w.heap.size ≠ w.heap.size + 1; omega) _, HRq.out.far (p := ⟨w.heap.size + 1, q, none⟩) HNE.out _, HNq.out.far (p := ⟨w.heap.size + 1, q, none⟩) HNN.out _, updB h q (true), HHq.out.setB q (true), ?_, ?_⟩, by simp [intOf]; omega⟩
              · intro j hj
                unfold updB
                by_cases e : j = q
                · subst e; rw [if_pos rfl, ← hh2, hgq, hfq]; rfl
                · rw [if_neg e]; exact H1.out j (by omega)
              · intro j hj
                unfold updB
                rw [if_neg (by omega)]; exact H2.out j (by omega)
        · obtain rfl : q = xs.length + 1 := by omega
          have H1' : Hid (∀ i, i ≤ xs.length → h i = (g i || (F i && true))) := Lib.hid (fun i hi => H1.out i (by omega))
          clear H1 H2 n5 hltq
          go_wp2_with fail
          go_returns
          refine ⟨HBq.out, w.heap.size + 1, h, rfl, HHq.out, .inr (by omega), fun i hi => ?_⟩
          rw [H1'.out i hi, Bool.and_true, Bool.or_eq_true, HGI.out i hi, HFI.out i hi]
          exact (HSTOP.out i).symm
theorem ends_any (p : Pat) : Wf p → EndsC p := by
  refine Pat.ind (M := fun p => Wf p → EndsC p) ?_ ?_ ?_ ?_ p
  · exact fun f _ => ends_one f
  · intro l ih hw
    cases hw with | cat _ h h2 h3 => exact ends_cat l h3 fun p hp => ih p hp (h p hp)
  · intro l ih hw
    cases hw with | alt _ h h2 h3 => exact ends_alt l h3 fun p hp => ih p hp (h p hp)
  · intro mn mx p ih hw
    cases hw with | rep _ _ _ h h1 h2 h3 => exact ends_rep mn mx p h1 (by omega) (ih h)
end Go.Proofs.YtgjcibhhffkemaaGreatDoor
namespace Go.Proofs.YtgjcibhhffkemaaGreatDoor
open Go.RowKit Bt
set_option maxRecDepth 100000 in
set_option maxHeartbeats 1600000 in
theorem hasP_any (p : Pat) (hp : Wf p) (w : World) (a : Option Addr) (m c : Nat) (wv : Value) (xs : List Int) (hn : NAt w p.tree (.slice a m c)) (hx : RdB w wv xs) (hl : xs.length ≤ 1000) :
    Calls Tryz.prog 15 #[nodeV p.tree (.slice a m c), wv] w fun e w' => Below w.heap.size w w' ∧ ∃ r : Bool, e = .returned (.bool r) ∧ (r = true ↔ Mt (byt xs) xs.length p 0 xs.length) := by
  have hE := ends_any p hp
  unfold EndsC at hE
  rcases hpt : p.tree with ⟨op, f, mn, mx, kids⟩
  rw [hpt] at hn hE
  obtain ⟨A, wc, rfl⟩ := rdB_slice hx
  have hnI : (xs.length : Int) ≤ 1000 := by omega
  have hmk := make_one (P := Tryz.prog) 84 4 (.bool false) 1 Tryz.underlying84 infoBool rfl .i64 .i64 (xs.length + 1) (by omega) (by omega)
  rw [show ((xs.length + 1 : Nat) : Int) = (xs.length : Int) + 1 from by omega, barr_zero] at hmk
  obtain ⟨w0, hw0⟩ : ∃ w0 : World, w0 = (w.alloc (.cells (nodeC op f mn mx (.slice a m c)) 41)).alloc (.cells (barr (fun _ => false) (xs.length + 1)) 4) := ⟨_, rfl⟩
  have HA : Hid (AtG w0 w.heap.size 41 (nodeC op f mn mx (.slice a m c))) := Lib.hid (by rw [hw0]; exact (AtG.new _ _ _).alloc _)
  have HO : Hid (AtG w0 (w.heap.size + 1) 4 (barr (fun _ => false) (xs.length + 1))) := Lib.hid (by
    rw [hw0]
    have := AtG.new (w.alloc (.cells (nodeC op f mn mx (.slice a m c)) 41)) 4 (barr (fun _ => false) (xs.length + 1))
    simpa using this)
  have HB0 : Hid (Below w.heap.size w w0) := Lib.hid (by rw [hw0]; go_grown)
  have hw0' : (w.alloc (.cells (nodeC op f mn mx (.slice a m c)) 41)).alloc (.cells (barr (fun _ => false) (xs.length + 1)) 4) = w0 := hw0.symm
  clear hw0
  have HX := Lib.hid hx; have HN := Lib.hid hn
  have hE2 := fun w bf S h1 h2 h3 => hE w a m c (.slice A xs.length wc) xs bf S h1 h2 hl h3
  unfold nodeV at hE2 ⊢
  dsimp only at hE2 ⊢
  have HE := Lib.hid hE2
  have y0 := HO.out.frozen 0
  have o0 := HO.out.bool 0 (by omega)
  have HW1 : Hid (AtG (w0.setCell ⟨w.heap.size + 1, 0, none⟩ (.bool true)) (w.heap.size + 1) 4 (barr (updB (fun _ => false) 0 true) (xs.length + 1))) := Lib.hid (HO.out.setB 0 true)
  have HB1 : Hid (Below w.heap.size w (w0.setCell ⟨w.heap.size + 1, 0, none⟩ (.bool true))) := Lib.hid (HB0.out.setCell (by simp) _)
  have HA1 := Lib.hid (HA.out.far (p := ⟨w.heap.size + 1, 0, none⟩) (by show w.heap.size ≠ w.heap.size + 1; omega) (.bool true))
  clear hE hE2 hx hn
  have m0 : w0.cell? ⟨w.heap.size, 0, none⟩ = some (.int .i64 op) := HA.out.cell 0 _ rfl
  have m1 : w0.cell? ⟨w.heap.size, 1, none⟩ = some (.int .u64 ((wd f 0 : Nat) : Int)) := HA.out.cell 1 _ rfl
  have m2 : w0.cell? ⟨w.heap.size, 2, none⟩ = some (.int .u64 ((wd f 1 : Nat) : Int)) := HA.out.cell 2 _ rfl
  have m3 : w0.cell? ⟨w.heap.size, 3, none⟩ = some (.int .u64 ((wd f 2 : Nat) : Int)) := HA.out.cell 3 _ rfl
  have m4 : w0.cell? ⟨w.heap.size, 4, none⟩ = some (.int .u64 ((wd f 3 : Nat) : Int)) := HA.out.cell 4 _ rfl
  have m5 : w0.cell? ⟨w.heap.size, 5, none⟩ = some (.int .i64 mn) := HA.out.cell 5 _ rfl
  have m6 : w0.cell? ⟨w.heap.size, 6, none⟩ = some (.int .i64 mx) := HA.out.cell 6 _ rfl
  have m7 : w0.cell? ⟨w.heap.size, 7, none⟩ = some (.slice a m c) := HA.out.cell 7 _ rfl
  go_enter Tryz.func15, Tryz.ntmps15
  go_wp2_with fail
  refine (HE.out _ (w.heap.size + 1) (updB (fun _ => false) 0 true) (NAt.below HN.out HB1.out) (rdB_below HX.out HB1.out) HW1.out).mono ?_
  rintro e9 w9 ⟨hb9, b9, g9, rfl, hg9, _, hgi9⟩
  have HB9 := Lib.hid (HB1.out.trans (hb9.mono HB1.out.size))
  have r1 := hg9.bool xs.length (by omega)
  have HG := Lib.hid (hgi9 xs.length (Nat.le_refl _))
  clear hb9 hg9 hgi9 hw0' m0 m1 m2 m3 m4 m5 m6 m7 y0 o0 hmk
  go_wp2_with fail
  go_returns
  refine ⟨HB9.out, g9 xs.length, rfl, HG.out.trans ?_⟩
  constructor
  · rintro ⟨j, ⟨_, hj⟩, hm⟩
    have hj0 : j = 0 := by
      unfold updB at hj
      by_cases e : j = 0
      · exact e
      · rw [if_neg e] at hj; cases hj
    subst hj0; exact hm
  · intro hm
    exact ⟨0, ⟨Nat.zero_le _, by unfold updB; rw [if_pos rfl]⟩, hm⟩
end Go.Proofs.YtgjcibhhffkemaaGreatDoor
namespace Go.Proofs.YtgjcibhhffkemaaGreatDoor
open Go.RowKit Bt
def LeastC (p : Pat) : Prop := ∀ (w : World) (a : Option Addr) (n c : Nat), NAt w p.tree (.slice a n c) → Calls Tryz.prog 17 #[nodeV p.tree (.slice a n c)] w fun e w' => e = .returned (.int .i64 (leastP p : Int)) ∧ Below w.heap.size w w'
set_option maxRecDepth 100000 in
theorem least_one (f : Nat → Bool) : LeastC (.one f) := by
  intro w a n c h
  show Calls Tryz.prog 17 #[.agg #[.int .i64 1, .int .u64 ((wd f 0 : Nat) : Int), .int .u64 ((wd f 1 : Nat) : Int), .int .u64 ((wd f 2 : Nat) : Int), .int .u64 ((wd f 3 : Nat) : Int), .int .i64 0, .int .i64 0, .slice a n c]] w _
  go_enter Tryz.func17, Tryz.ntmps17
  go_wp2
  go_returns
  exact ⟨rfl, by go_grown⟩
set_option maxRecDepth 100000 in
set_option maxHeartbeats 800000 in
theorem least_cat (l : List Pat) (hl : l.length ≤ 1000) (ih : ∀ p ∈ l, LeastC p) : LeastC (.cat l) := by
  intro w a n c h
  obtain rfl : n = l.length := by
    obtain ⟨a', c', hn⟩ := KAt.slice h
    injection hn with _ hn _
    rw [trees_len] at hn; exact hn
  have H := Lib.hid h
  have hX : (leastP (.cat l) : Int) = min (leastC l : Int) 1000 := by rw [leastP]; omega
  have hY := leastC_le l
  have HX := Lib.hid hX
  have hlI : (l.length : Int) ≤ 1000 := by omega
  clear h hX
  show Calls Tryz.prog 17 #[.agg #[.int .i64 2, .int .u64 ((wd emp 0 : Nat) : Int), .int .u64 ((wd emp 1 : Nat) : Int), .int .u64 ((wd emp 2 : Nat) : Int), .int .u64 ((wd emp 3 : Nat) : Int), .int .i64 0, .int .i64 0, .slice a l.length c]] w _
  rw [HX.out]
  go_enter Tryz.func17, Tryz.ntmps17
  go_wp2_with fail
  go_loopw [3, 19] (fun out i wr => ∃ k : Nat, k ≤ l.length ∧ i = .int .i64 k ∧ out = .int .i64 ((leastC (l.take k) : Nat) : Int) ∧ Below w.heap.size w wr) (fun _ i _ => l.length - (intOf i).toNat)
  case atStart => exact ⟨0, Nat.zero_le _, rfl, by simp [leastC], by go_grown⟩
  case round =>
    obtain ⟨k, hk, rfl, rfl, hb⟩ := hrel
    by_cases hlt : k < l.length
    · obtain ⟨b, off, cap, heq, hcap, op', f', mn', mx', kids', ka, kc, ht, hc8, hkn⟩ := kid_at (H.out.below hb) (trees_get hlt)
      injection heq with e1 e2 e3
      subst e1; subst e3
      clear e2
      rw [trees_len] at hcap
      have hI := ih l[k] (List.getElem_mem hlt)
      unfold LeastC at hI
      rw [ht] at hI hkn
      have hS := leastC_snoc l k hlt
      have hB1 := leastC_le (l.take k)
      have hB2 := leastP_le l[k]
      have htk : (l.take k).length = k := by simp; omega
      generalize leastP l[k] = m at *
      generalize hq : leastC (l.take k) = q at *
      have HS := Lib.hid hS; have HB := Lib.hid hb; have HKN := Lib.hid (hkn.alloc (.cells (nodeC op' f' mn' mx' (.slice ka kids'.length kc)) 41))
      have hI2 := fun w h => hI w ka kids'.length kc h
      unfold nodeV at hI2
      have HI := Lib.hid hI2
      obtain ⟨c0, c1, c2, c3, c4, c5, c6, c7⟩ := hc8
      obtain ⟨kn, hkl⟩ : ∃ kn, kn = kids'.length := ⟨_, rfl⟩
      rw [← hkl] at c7 HKN HI
      have hm1 : (m : Int) ≤ 1000 := by omega
      have hq1 : (q : Int) ≤ 1000000 := by omega
      clear hS hb hkn hI hI2 hkl ht hq hB1 hB2 htk
      go_wp2_with fail
      refine (HI.out _ HKN.out).mono ?_
      rintro e9 w9 ⟨rfl, hb9⟩
      have HB9 := Lib.hid ((HB.out.alloc HB.out.size (.cells (nodeC op' f' mn' mx' (.slice ka kn kc)) 41)).trans (hb9.mono (by have := HB.out.size; simp; omega)))
      clear hb9
      go_wp2_with fail
      exact ⟨⟨k + 1, by omega, by go_num, by rw [HS.out]; go_num, HB9.out⟩, by simp [intOf]; omega⟩
    · obtain rfl : k = l.length := by omega
      rw [List.take_length]
      have HB := Lib.hid hb; clear hb
      go_wp2_with fail
      all_goals (go_returns; exact ⟨by refine congrArg (fun z => Ending.returned (Value.int .i64 z)) ?_; omega, HB.out⟩)
set_option maxRecDepth 100000 in
set_option maxHeartbeats 800000 in
theorem least_alt (l : List Pat) (hl : l.length ≤ 1000) (ih : ∀ p ∈ l, LeastC p) : LeastC (.alt l) := by
  intro w a n c h
  obtain rfl : n = l.length := by
    obtain ⟨a', c', hn⟩ := KAt.slice h
    injection hn with _ hn _
    rw [trees_len] at hn; exact hn
  have H := Lib.hid h
  have hX : (leastP (.alt l) : Int) = min (leastA l : Int) 1000 := by rw [leastP]; omega
  have hY := leastA_le l
  have HX := Lib.hid hX
  have hlI : (l.length : Int) ≤ 1000 := by omega
  clear h hX
  show Calls Tryz.prog 17 #[.agg #[.int .i64 3, .int .u64 ((wd emp 0 : Nat) : Int), .int .u64 ((wd emp 1 : Nat) : Int), .int .u64 ((wd emp 2 : Nat) : Int), .int .u64 ((wd emp 3 : Nat) : Int), .int .i64 0, .int .i64 0, .slice a l.length c]] w _
  rw [HX.out]
  go_enter Tryz.func17, Tryz.ntmps17
  go_wp2_with fail
  go_loopw [3, 33] (fun out i wr => ∃ k : Nat, k ≤ l.length ∧ i = .int .i64 k ∧ out = .int .i64 ((leastA (l.take k) : Nat) : Int) ∧ Below w.heap.size w wr) (fun _ i _ => l.length - (intOf i).toNat)
  case atStart => exact ⟨0, Nat.zero_le _, rfl, by simp [leastA], by go_grown⟩
  case round =>
    obtain ⟨k, hk, rfl, rfl, hb⟩ := hrel
    by_cases hlt : k < l.length
    · obtain ⟨b, off, cap, heq, hcap, op', f', mn', mx', kids', ka, kc, ht, hc8, hkn⟩ := kid_at (H.out.below hb) (trees_get hlt)
      injection heq with e1 e2 e3
      subst e1; subst e3
      clear e2
      rw [trees_len] at hcap
      have hI := ih l[k] (List.getElem_mem hlt)
      unfold LeastC at hI
      rw [ht] at hI hkn
      have hS := leastA_snoc l k hlt
      have hB1 := leastA_le (l.take k)
      have hB2 := leastP_le l[k]
      have htk : (l.take k).length = k := by simp; omega
      generalize leastP l[k] = m at *
      generalize hq : leastA (l.take k) = q at *
      have HS := Lib.hid hS; have HB := Lib.hid hb; have HKN := Lib.hid (hkn.alloc (.cells (nodeC op' f' mn' mx' (.slice ka kids'.length kc)) 41))
      have hI2 := fun w h => hI w ka kids'.length kc h
      unfold nodeV at hI2
      have HI := Lib.hid hI2
      obtain ⟨c0, c1, c2, c3, c4, c5, c6, c7⟩ := hc8
      obtain ⟨kn, hkl⟩ : ∃ kn, kn = kids'.length := ⟨_, rfl⟩
      rw [← hkl] at c7 HKN HI
      have hm1 : (m : Int) ≤ 1000 := by omega
      have hq1 : (q : Int) ≤ 1000000 := by omega
      clear hS hb hkn hI hI2 hkl ht hq hB1 hB2 htk
      go_wp2_with fail
      refine (HI.out _ HKN.out).mono ?_
      rintro e9 w9 ⟨rfl, hb9⟩
      have HB9 := Lib.hid ((HB.out.alloc HB.out.size (.cells (nodeC op' f' mn' mx' (.slice ka kn kc)) 41)).trans (hb9.mono (by have := HB.out.size; simp; omega)))
      clear hb9
      go_wp2_with fail
      exact ⟨⟨k + 1, by omega, by go_num, by rw [HS.out]; congr 1; omega, HB9.out⟩, by simp [intOf]; omega⟩
    · obtain rfl : k = l.length := by omega
      rw [List.take_length]
      have HB := Lib.hid hb; clear hb
      go_wp2_with fail
      all_goals (go_returns; exact ⟨by refine congrArg (fun z => Ending.returned (Value.int .i64 z)) ?_; omega, HB.out⟩)
set_option maxRecDepth 100000 in
set_option maxHeartbeats 1600000 in
theorem least_rep (mn mx : Nat) (p : Pat) (h1 : mn ≤ 1000) (h2 : mx ≤ 1000) (ih : LeastC p) : LeastC (.rep mn mx p) := by
  intro w a n c h
  obtain rfl : n = 1 := by
    obtain ⟨a', c', hn⟩ := KAt.slice h
    injection hn with _ hn _
  have H := Lib.hid (NAt.alloc h (.cells (nodeC 4 emp (mn : Int) (mx : Int) (.slice a 1 c)) 41))
  have hX : (leastP (.rep mn mx p) : Int) = min ((mn : Int) * (leastP p : Int)) 1000 := by rw [leastP]; push_cast; omega
  have HX := Lib.hid hX
  clear hX h
  have HA := Lib.hid (AtG.new w 41 (nodeC 4 emp (mn : Int) (mx : Int) (.slice a 1 c)))
  have HB0 := Lib.hid ((Below.refl w.heap.size w).alloc (Nat.le_refl _) (.cells (nodeC 4 emp (mn : Int) (mx : Int) (.slice a 1 c)) 41))
  show Calls Tryz.prog 17 #[.agg #[.int .i64 4, .int .u64 ((wd emp 0 : Nat) : Int), .int .u64 ((wd emp 1 : Nat) : Int), .int .u64 ((wd emp 2 : Nat) : Int), .int .u64 ((wd emp 3 : Nat) : Int), .int .i64 (mn : Int), .int .i64 (mx : Int), .slice a 1 c]] w _
  rw [HX.out]
  unfold LeastC at ih
  have hB2 := leastP_le p
  generalize leastP p = m at *
  go_enter Tryz.func17, Tryz.ntmps17
  go_wp2_with fail
  refine wp_loop_rounds 2 ?_
  rw [rounds_succ]
  obtain ⟨b, off, cap, heq, hcap, op', f', mn', mx', kids', ka, kc, ht, hc8, hkn⟩ := kid_at (j := 0) (t := p.tree) H.out rfl
  injection heq with e1 e2 e3
  subst e1; subst e3
  clear e2
  rw [ht] at ih hkn
  obtain ⟨w0, hw0⟩ : ∃ w0 : World, w0 = w.alloc (.cells (nodeC 4 emp (mn : Int) (mx : Int) (.slice (some ⟨b, off, none⟩) 1 c)) 41) := ⟨_, rfl⟩
  have hw0' : w.alloc (.cells #[.int .i64 4, .int .u64 ((wd emp 0 : Nat) : Int), .int .u64 ((wd emp 1 : Nat) : Int), .int .u64 ((wd emp 2 : Nat) : Int), .int .u64 ((wd emp 3 : Nat) : Int), .int .i64 (mn : Int), .int .i64 (mx : Int), .slice (some ⟨b, off, none⟩) 1 c] 41) = w0 := hw0.symm
  rw [hw0']
  rw [← hw0] at hc8 hkn HA HB0 H
  have hsz : w0.heap.size = w.heap.size + 1 := by rw [hw0]; simp
  have hin2 := fun w h => ih w ka kids'.length kc h
  unfold nodeV at hin2
  have HI := Lib.hid hin2
  have HKN := Lib.hid (hkn.alloc (.cells (nodeC op' f' mn' mx' (.slice ka kids'.length kc)) 41))
  obtain ⟨c0, c1, c2, c3, c4, c5, c6, c7⟩ := hc8
  have hz8 : off + 0 * 8 = off := by omega
  rw [hz8] at c0 c1 c2 c3 c4 c5 c6 c7
  have HA2 := Lib.hid (HA.out.alloc (.cells (nodeC op' f' mn' mx' (.slice ka kids'.length kc)) 41))
  have HB2 := Lib.hid (HB0.out.alloc (by omega) (.cells (nodeC op' f' mn' mx' (.slice ka kids'.length kc)) 41))
  obtain ⟨kn, hkl⟩ : ∃ kn, kn = kids'.length := ⟨_, rfl⟩
  rw [← hkl] at c7 HKN HI HA2 HB2
  have HSZ := Lib.hid hsz
  have hm1 : (m : Int) ≤ 1000 := by omega
  have hml : (mn : Int) * (m : Int) ≤ 1000000 := by
    have : mn * m ≤ 1000 * 1000 := Nat.mul_le_mul (by omega) (by omega)
    have h3 : ((mn * m : Nat) : Int) ≤ 1000000 := by omega
    rwa [Int.natCast_mul] at h3
  have hml0 : 0 ≤ (mn : Int) * (m : Int) := Int.mul_nonneg (Int.natCast_nonneg _) (Int.natCast_nonneg _)
  clear ih hin2 hkn ht hkl hw0' hw0 hz8 hcap hsz hB2
  go_upto_region 22 with (fail)
  obtain ⟨w1, hw1⟩ : ∃ w1 : World, w1 = w0.alloc (.cells (nodeC op' f' mn' mx' (.slice ka kn kc)) 41) := ⟨_, rfl⟩
  have hw1' : w0.alloc (.cells #[.int .i64 op', .int .u64 ((wd f' 0 : Nat) : Int), .int .u64 ((wd f' 1 : Nat) : Int), .int .u64 ((wd f' 2 : Nat) : Int), .int .u64 ((wd f' 3 : Nat) : Int), .int .i64 mn', .int .i64 mx', .slice ka kn kc] 41) = w1 := hw1.symm
  rw [hw1']
  have HN := Lib.hid (AtG.new w0 41 (nodeC op' f' mn' mx' (.slice ka kn kc)))
  rw [← hw1] at HKN HA2 HB2 HN
  clear hw1 hw1' c0 c1 c2 c3 c4 c5 c6 c7
  refine Rg.wp_region_each (by kernel_rfl) (fun w' => AtG w' w.heap.size 41 (nodeC 4 emp (mn : Int) (mx : Int) (.slice (some ⟨b, off, none⟩) 1 c)) ∧ AtG w' w0.heap.size 41 (nodeC op' f' mn' mx' (.slice ka kn kc)) ∧ NAt w' (.node op' f' mn' mx' kids') (.slice ka kn kc) ∧ Below w.heap.size w w') (fun w1 w2 h hb => ⟨h.1.below hb, h.2.1.below hb, h.2.2.1.below hb, h.2.2.2.trans (hb.mono h.2.2.2.size)⟩) (by kernel_rfl) (by kernel_rfl) (⟨HA2.out, HN.out, HKN.out, HB2.out⟩) ?_
  show Rg.Build _ _ _ _ _ 0 [_, _, _, _, _, _] []
  refine Rg.build_cons (m := 1) (r := Rg.eq _) (Rg.one_plain (by rfl) (by (intro ax wx hk Kx hK; have k1 := hk.base 1 _ rfl rfl; have hj := hk.j; clear hk; have m5 : wx.cell? ⟨w.heap.size, 5, none⟩ = some (.int .i64 (mn : Int)) := hj.1.cell 5 _ rfl; have m6 : wx.cell? ⟨w.heap.size, 6, none⟩ = some (.int .i64 (mx : Int)) := hj.1.cell 6 _ rfl; have q0 : wx.cell? ⟨w0.heap.size, 0, none⟩ = some (.int .i64 op') := hj.2.1.cell 0 _ rfl; have q1 : wx.cell? ⟨w0.heap.size, 1, none⟩ = some (.int .u64 ((wd f' 0 : Nat) : Int)) := hj.2.1.cell 1 _ rfl; have q2 : wx.cell? ⟨w0.heap.size, 2, none⟩ = some (.int .u64 ((wd f' 1 : Nat) : Int)) := hj.2.1.cell 2 _ rfl; have q3 : wx.cell? ⟨w0.heap.size, 3, none⟩ = some (.int .u64 ((wd f' 2 : Nat) : Int)) := hj.2.1.cell 3 _ rfl; have q4 : wx.cell? ⟨w0.heap.size, 4, none⟩ = some (.int .u64 ((wd f' 3 : Nat) : Int)) := hj.2.1.cell 4 _ rfl; have q5 : wx.cell? ⟨w0.heap.size, 5, none⟩ = some (.int .i64 mn') := hj.2.1.cell 5 _ rfl; have q6 : wx.cell? ⟨w0.heap.size, 6, none⟩ = some (.int .i64 mx') := hj.2.1.cell 6 _ rfl; have q7 : wx.cell? ⟨w0.heap.size, 7, none⟩ = some (.slice ka kn kc) := hj.2.1.cell 7 _ rfl; go_simp; refine hK _ _ ?_ (Below.refl _ _); apply Rg.mk))) ?_ rfl
  refine Rg.build_cons (m := 2) (r := Rg.eq _) (Rg.one_plain (by rfl) (by (intro ax wx hk Kx hK; obtain ⟨v51, k51, h51⟩ := hk.dep 0 51 _ rfl rfl rfl; (first | (cases (h51 : v51 = _)) | (obtain ⟨rfl, h51⟩ := h51) | skip); have hj := hk.j; clear hk; have m5 : wx.cell? ⟨w.heap.size, 5, none⟩ = some (.int .i64 (mn : Int)) := hj.1.cell 5 _ rfl; have m6 : wx.cell? ⟨w.heap.size, 6, none⟩ = some (.int .i64 (mx : Int)) := hj.1.cell 6 _ rfl; have q0 : wx.cell? ⟨w0.heap.size, 0, none⟩ = some (.int .i64 op') := hj.2.1.cell 0 _ rfl; have q1 : wx.cell? ⟨w0.heap.size, 1, none⟩ = some (.int .u64 ((wd f' 0 : Nat) : Int)) := hj.2.1.cell 1 _ rfl; have q2 : wx.cell? ⟨w0.heap.size, 2, none⟩ = some (.int .u64 ((wd f' 1 : Nat) : Int)) := hj.2.1.cell 2 _ rfl; have q3 : wx.cell? ⟨w0.heap.size, 3, none⟩ = some (.int .u64 ((wd f' 2 : Nat) : Int)) := hj.2.1.cell 3 _ rfl; have q4 : wx.cell? ⟨w0.heap.size, 4, none⟩ = some (.int .u64 ((wd f' 3 : Nat) : Int)) := hj.2.1.cell 4 _ rfl; have q5 : wx.cell? ⟨w0.heap.size, 5, none⟩ = some (.int .i64 mn') := hj.2.1.cell 5 _ rfl; have q6 : wx.cell? ⟨w0.heap.size, 6, none⟩ = some (.int .i64 mx') := hj.2.1.cell 6 _ rfl; have q7 : wx.cell? ⟨w0.heap.size, 7, none⟩ = some (.slice ka kn kc) := hj.2.1.cell 7 _ rfl; go_simp; refine hK _ _ ?_ (Below.refl _ _); apply Rg.mk))) ?_ rfl
  refine Rg.build_cons (m := 3) (r := Rg.eq _) (Rg.one_plain (by rfl) (by (intro ax wx hk Kx hK; have k9 := hk.base 9 _ rfl rfl; have hj := hk.j; clear hk; have m5 : wx.cell? ⟨w.heap.size, 5, none⟩ = some (.int .i64 (mn : Int)) := hj.1.cell 5 _ rfl; have m6 : wx.cell? ⟨w.heap.size, 6, none⟩ = some (.int .i64 (mx : Int)) := hj.1.cell 6 _ rfl; have q0 : wx.cell? ⟨w0.heap.size, 0, none⟩ = some (.int .i64 op') := hj.2.1.cell 0 _ rfl; have q1 : wx.cell? ⟨w0.heap.size, 1, none⟩ = some (.int .u64 ((wd f' 0 : Nat) : Int)) := hj.2.1.cell 1 _ rfl; have q2 : wx.cell? ⟨w0.heap.size, 2, none⟩ = some (.int .u64 ((wd f' 1 : Nat) : Int)) := hj.2.1.cell 2 _ rfl; have q3 : wx.cell? ⟨w0.heap.size, 3, none⟩ = some (.int .u64 ((wd f' 2 : Nat) : Int)) := hj.2.1.cell 3 _ rfl; have q4 : wx.cell? ⟨w0.heap.size, 4, none⟩ = some (.int .u64 ((wd f' 3 : Nat) : Int)) := hj.2.1.cell 4 _ rfl; have q5 : wx.cell? ⟨w0.heap.size, 5, none⟩ = some (.int .i64 mn') := hj.2.1.cell 5 _ rfl; have q6 : wx.cell? ⟨w0.heap.size, 6, none⟩ = some (.int .i64 mx') := hj.2.1.cell 6 _ rfl; have q7 : wx.cell? ⟨w0.heap.size, 7, none⟩ = some (.slice ka kn kc) := hj.2.1.cell 7 _ rfl; go_simp; refine hK _ _ ?_ (Below.refl _ _); apply Rg.mk))) ?_ rfl
  refine Rg.build_cons (m := 4) (r := Rg.eq _) (Rg.one_plain (by rfl) (by (intro ax wx hk Kx hK; obtain ⟨v53, k53, h53⟩ := hk.dep 2 53 _ rfl rfl rfl; (first | (cases (h53 : v53 = _)) | (obtain ⟨rfl, h53⟩ := h53) | skip); have hj := hk.j; clear hk; have m5 : wx.cell? ⟨w.heap.size, 5, none⟩ = some (.int .i64 (mn : Int)) := hj.1.cell 5 _ rfl; have m6 : wx.cell? ⟨w.heap.size, 6, none⟩ = some (.int .i64 (mx : Int)) := hj.1.cell 6 _ rfl; have q0 : wx.cell? ⟨w0.heap.size, 0, none⟩ = some (.int .i64 op') := hj.2.1.cell 0 _ rfl; have q1 : wx.cell? ⟨w0.heap.size, 1, none⟩ = some (.int .u64 ((wd f' 0 : Nat) : Int)) := hj.2.1.cell 1 _ rfl; have q2 : wx.cell? ⟨w0.heap.size, 2, none⟩ = some (.int .u64 ((wd f' 1 : Nat) : Int)) := hj.2.1.cell 2 _ rfl; have q3 : wx.cell? ⟨w0.heap.size, 3, none⟩ = some (.int .u64 ((wd f' 2 : Nat) : Int)) := hj.2.1.cell 3 _ rfl; have q4 : wx.cell? ⟨w0.heap.size, 4, none⟩ = some (.int .u64 ((wd f' 3 : Nat) : Int)) := hj.2.1.cell 4 _ rfl; have q5 : wx.cell? ⟨w0.heap.size, 5, none⟩ = some (.int .i64 mn') := hj.2.1.cell 5 _ rfl; have q6 : wx.cell? ⟨w0.heap.size, 6, none⟩ = some (.int .i64 mx') := hj.2.1.cell 6 _ rfl; have q7 : wx.cell? ⟨w0.heap.size, 7, none⟩ = some (.slice ka kn kc) := hj.2.1.cell 7 _ rfl; go_simp; refine (HI.out _ hj.2.2.1).mono ?_; rintro e w' ⟨rfl, hb⟩; refine hK _ _ ?_ hb; apply Rg.mk))) ?_ rfl
  refine Rg.build_cons (m := 5) (r := Rg.eq (.int .i64 ((mn : Int) * (m : Int)))) (Rg.one_plain (by rfl) (by (intro ax wx hk Kx hK; obtain ⟨v52, k52, h52⟩ := hk.dep 1 52 _ rfl rfl rfl; (first | (cases (h52 : v52 = _)) | (obtain ⟨rfl, h52⟩ := h52) | skip); obtain ⟨v54, k54, h54⟩ := hk.dep 3 54 _ rfl rfl rfl; (first | (cases (h54 : v54 = _)) | (obtain ⟨rfl, h54⟩ := h54) | skip); have hj := hk.j; clear hk; have m5 : wx.cell? ⟨w.heap.size, 5, none⟩ = some (.int .i64 (mn : Int)) := hj.1.cell 5 _ rfl; have m6 : wx.cell? ⟨w.heap.size, 6, none⟩ = some (.int .i64 (mx : Int)) := hj.1.cell 6 _ rfl; have q0 : wx.cell? ⟨w0.heap.size, 0, none⟩ = some (.int .i64 op') := hj.2.1.cell 0 _ rfl; have q1 : wx.cell? ⟨w0.heap.size, 1, none⟩ = some (.int .u64 ((wd f' 0 : Nat) : Int)) := hj.2.1.cell 1 _ rfl; have q2 : wx.cell? ⟨w0.heap.size, 2, none⟩ = some (.int .u64 ((wd f' 1 : Nat) : Int)) := hj.2.1.cell 2 _ rfl; have q3 : wx.cell? ⟨w0.heap.size, 3, none⟩ = some (.int .u64 ((wd f' 2 : Nat) : Int)) := hj.2.1.cell 3 _ rfl; have q4 : wx.cell? ⟨w0.heap.size, 4, none⟩ = some (.int .u64 ((wd f' 3 : Nat) : Int)) := hj.2.1.cell 4 _ rfl; have q5 : wx.cell? ⟨w0.heap.size, 5, none⟩ = some (.int .i64 mn') := hj.2.1.cell 5 _ rfl; have q6 : wx.cell? ⟨w0.heap.size, 6, none⟩ = some (.int .i64 mx') := hj.2.1.cell 6 _ rfl; have q7 : wx.cell? ⟨w0.heap.size, 7, none⟩ = some (.slice ka kn kc) := hj.2.1.cell 7 _ rfl; (go_simp; refine hK _ _ ?_ (Below.refl _ _); simp [Rg.eq, IntKind.wrap_i64]; try omega)))) ?_ rfl
  refine Rg.build_cons (m := 6) (r := Rg.eq _) (Rg.one_plain (by rfl) (by (intro ax wx hk Kx hK; obtain ⟨v55, k55, h55⟩ := hk.dep 4 55 _ rfl rfl rfl; (first | (cases (h55 : v55 = _)) | (obtain ⟨rfl, h55⟩ := h55) | skip); have hj := hk.j; clear hk; have m5 : wx.cell? ⟨w.heap.size, 5, none⟩ = some (.int .i64 (mn : Int)) := hj.1.cell 5 _ rfl; have m6 : wx.cell? ⟨w.heap.size, 6, none⟩ = some (.int .i64 (mx : Int)) := hj.1.cell 6 _ rfl; have q0 : wx.cell? ⟨w0.heap.size, 0, none⟩ = some (.int .i64 op') := hj.2.1.cell 0 _ rfl; have q1 : wx.cell? ⟨w0.heap.size, 1, none⟩ = some (.int .u64 ((wd f' 0 : Nat) : Int)) := hj.2.1.cell 1 _ rfl; have q2 : wx.cell? ⟨w0.heap.size, 2, none⟩ = some (.int .u64 ((wd f' 1 : Nat) : Int)) := hj.2.1.cell 2 _ rfl; have q3 : wx.cell? ⟨w0.heap.size, 3, none⟩ = some (.int .u64 ((wd f' 2 : Nat) : Int)) := hj.2.1.cell 3 _ rfl; have q4 : wx.cell? ⟨w0.heap.size, 4, none⟩ = some (.int .u64 ((wd f' 3 : Nat) : Int)) := hj.2.1.cell 4 _ rfl; have q5 : wx.cell? ⟨w0.heap.size, 5, none⟩ = some (.int .i64 mn') := hj.2.1.cell 5 _ rfl; have q6 : wx.cell? ⟨w0.heap.size, 6, none⟩ = some (.int .i64 mx') := hj.2.1.cell 6 _ rfl; have q7 : wx.cell? ⟨w0.heap.size, 7, none⟩ = some (.slice ka kn kc) := hj.2.1.cell 7 _ rfl; go_simp; refine hK _ _ ?_ (Below.refl _ _); apply Rg.mk))) ?_ rfl
  refine Rg.build_end fun wx hj => ?_
  refine Rg.fin_eq rfl ?_
  refine Rg.fin_eq rfl ?_
  refine Rg.fin_eq rfl ?_
  refine Rg.fin_eq rfl ?_
  first | refine Rg.fin_eq rfl ?_ | refine Rg.fin_any rfl fun v55 h55 => ?_
  refine Rg.fin_eq rfl ?_
  refine Rg.fin_nil ?_
  simp only [List.set_cons_zero, List.set_cons_succ]
  have HJ := Lib.hid hj.2.2.2
  clear hj
  go_wp2_with fail
  rw [rounds_succ]
  go_wp2_with fail
  all_goals (go_returns; exact ⟨by refine congrArg (fun z => Ending.returned (Value.int .i64 z)) ?_; omega, HJ.out⟩)
theorem least_any (p : Pat) : Wf p → LeastC p := by
  refine Pat.ind (M := fun p => Wf p → LeastC p) ?_ ?_ ?_ ?_ p
  · exact fun f _ => least_one f
  · intro l ih hw
    cases hw with | cat _ h h2 h3 => exact least_cat l h3 fun p hp => ih p hp (h p hp)
  · intro l ih hw
    cases hw with | alt _ h h2 h3 => exact least_alt l h3 fun p hp => ih p hp (h p hp)
  · intro mn mx p ih hw
    cases hw with | rep _ _ _ h h1 h2 h3 => exact least_rep mn mx p (by omega) (by omega) (ih h)
def MostC (p : Pat) : Prop := ∀ (w : World) (a : Option Addr) (n c : Nat), NAt w p.tree (.slice a n c) → Calls Tryz.prog 16 #[nodeV p.tree (.slice a n c)] w fun e w' => e = .returned (.int .i64 (mostP p : Int)) ∧ Below w.heap.size w w'
set_option maxRecDepth 100000 in
theorem most_one (f : Nat → Bool) : MostC (.one f) := by
  intro w a n c h
  show Calls Tryz.prog 16 #[.agg #[.int .i64 1, .int .u64 ((wd f 0 : Nat) : Int), .int .u64 ((wd f 1 : Nat) : Int), .int .u64 ((wd f 2 : Nat) : Int), .int .u64 ((wd f 3 : Nat) : Int), .int .i64 0, .int .i64 0, .slice a n c]] w _
  go_enter Tryz.func16, Tryz.ntmps16
  go_wp2
  go_returns
  exact ⟨rfl, by go_grown⟩
set_option maxRecDepth 100000 in
set_option maxHeartbeats 800000 in
theorem most_cat (l : List Pat) (hl : l.length ≤ 1000) (ih : ∀ p ∈ l, MostC p) : MostC (.cat l) := by
  intro w a n c h
  obtain rfl : n = l.length := by
    obtain ⟨a', c', hn⟩ := KAt.slice h
    injection hn with _ hn _
    rw [trees_len] at hn; exact hn
  have H := Lib.hid h
  have hX : (mostP (.cat l) : Int) = min (mostC l : Int) 1000 := by rw [mostP]; omega
  have hY := mostC_le l
  have HX := Lib.hid hX
  have hlI : (l.length : Int) ≤ 1000 := by omega
  clear h hX
  show Calls Tryz.prog 16 #[.agg #[.int .i64 2, .int .u64 ((wd emp 0 : Nat) : Int), .int .u64 ((wd emp 1 : Nat) : Int), .int .u64 ((wd emp 2 : Nat) : Int), .int .u64 ((wd emp 3 : Nat) : Int), .int .i64 0, .int .i64 0, .slice a l.length c]] w _
  rw [HX.out]
  go_enter Tryz.func16, Tryz.ntmps16
  go_wp2_with fail
  go_loopw [3, 19] (fun out i wr => ∃ k : Nat, k ≤ l.length ∧ i = .int .i64 k ∧ out = .int .i64 ((mostC (l.take k) : Nat) : Int) ∧ Below w.heap.size w wr) (fun _ i _ => l.length - (intOf i).toNat)
  case atStart => exact ⟨0, Nat.zero_le _, rfl, by simp [mostC], by go_grown⟩
  case round =>
    obtain ⟨k, hk, rfl, rfl, hb⟩ := hrel
    by_cases hlt : k < l.length
    · obtain ⟨b, off, cap, heq, hcap, op', f', mn', mx', kids', ka, kc, ht, hc8, hkn⟩ := kid_at (H.out.below hb) (trees_get hlt)
      injection heq with e1 e2 e3
      subst e1; subst e3
      clear e2
      rw [trees_len] at hcap
      have hI := ih l[k] (List.getElem_mem hlt)
      unfold MostC at hI
      rw [ht] at hI hkn
      have hS := mostC_snoc l k hlt
      have hB1 := mostC_le (l.take k)
      have hB2 := mostP_le l[k]
      have htk : (l.take k).length = k := by simp; omega
      generalize mostP l[k] = m at *
      generalize hq : mostC (l.take k) = q at *
      have HS := Lib.hid hS; have HB := Lib.hid hb; have HKN := Lib.hid (hkn.alloc (.cells (nodeC op' f' mn' mx' (.slice ka kids'.length kc)) 41))
      have hI2 := fun w h => hI w ka kids'.length kc h
      unfold nodeV at hI2
      have HI := Lib.hid hI2
      obtain ⟨c0, c1, c2, c3, c4, c5, c6, c7⟩ := hc8
      obtain ⟨kn, hkl⟩ : ∃ kn, kn = kids'.length := ⟨_, rfl⟩
      rw [← hkl] at c7 HKN HI
      have hm1 : (m : Int) ≤ 1000 := by omega
      have hq1 : (q : Int) ≤ 1000000 := by omega
      clear hS hb hkn hI hI2 hkl ht hq hB1 hB2 htk
      go_wp2_with fail
      refine (HI.out _ HKN.out).mono ?_
      rintro e9 w9 ⟨rfl, hb9⟩
      have HB9 := Lib.hid ((HB.out.alloc HB.out.size (.cells (nodeC op' f' mn' mx' (.slice ka kn kc)) 41)).trans (hb9.mono (by have := HB.out.size; simp; omega)))
      clear hb9
      go_wp2_with fail
      exact ⟨⟨k + 1, by omega, by go_num, by rw [HS.out]; go_num, HB9.out⟩, by simp [intOf]; omega⟩
    · obtain rfl : k = l.length := by omega
      rw [List.take_length]
      have HB := Lib.hid hb; clear hb
      go_wp2_with fail
      all_goals (go_returns; exact ⟨by refine congrArg (fun z => Ending.returned (Value.int .i64 z)) ?_; omega, HB.out⟩)
set_option maxRecDepth 100000 in
set_option maxHeartbeats 800000 in
theorem most_alt (l : List Pat) (hl : l.length ≤ 1000) (ih : ∀ p ∈ l, MostC p) : MostC (.alt l) := by
  intro w a n c h
  obtain rfl : n = l.length := by
    obtain ⟨a', c', hn⟩ := KAt.slice h
    injection hn with _ hn _
    rw [trees_len] at hn; exact hn
  have H := Lib.hid h
  have hX : (mostP (.alt l) : Int) = min (mostA l : Int) 1000 := by rw [mostP]; omega
  have hY := mostA_le l
  have HX := Lib.hid hX
  have hlI : (l.length : Int) ≤ 1000 := by omega
  clear h hX
  show Calls Tryz.prog 16 #[.agg #[.int .i64 3, .int .u64 ((wd emp 0 : Nat) : Int), .int .u64 ((wd emp 1 : Nat) : Int), .int .u64 ((wd emp 2 : Nat) : Int), .int .u64 ((wd emp 3 : Nat) : Int), .int .i64 0, .int .i64 0, .slice a l.length c]] w _
  rw [HX.out]
  go_enter Tryz.func16, Tryz.ntmps16
  go_wp2_with fail
  go_loopw [3, 33] (fun out i wr => ∃ k : Nat, k ≤ l.length ∧ i = .int .i64 k ∧ out = .int .i64 ((mostA (l.take k) : Nat) : Int) ∧ Below w.heap.size w wr) (fun _ i _ => l.length - (intOf i).toNat)
  case atStart => exact ⟨0, Nat.zero_le _, rfl, by simp [mostA], by go_grown⟩
  case round =>
    obtain ⟨k, hk, rfl, rfl, hb⟩ := hrel
    by_cases hlt : k < l.length
    · obtain ⟨b, off, cap, heq, hcap, op', f', mn', mx', kids', ka, kc, ht, hc8, hkn⟩ := kid_at (H.out.below hb) (trees_get hlt)
      injection heq with e1 e2 e3
      subst e1; subst e3
      clear e2
      rw [trees_len] at hcap
      have hI := ih l[k] (List.getElem_mem hlt)
      unfold MostC at hI
      rw [ht] at hI hkn
      have hS := mostA_snoc l k hlt
      have hB1 := mostA_le (l.take k)
      have hB2 := mostP_le l[k]
      have htk : (l.take k).length = k := by simp; omega
      generalize mostP l[k] = m at *
      generalize hq : mostA (l.take k) = q at *
      have HS := Lib.hid hS; have HB := Lib.hid hb; have HKN := Lib.hid (hkn.alloc (.cells (nodeC op' f' mn' mx' (.slice ka kids'.length kc)) 41))
      have hI2 := fun w h => hI w ka kids'.length kc h
      unfold nodeV at hI2
      have HI := Lib.hid hI2
      obtain ⟨c0, c1, c2, c3, c4, c5, c6, c7⟩ := hc8
      obtain ⟨kn, hkl⟩ : ∃ kn, kn = kids'.length := ⟨_, rfl⟩
      rw [← hkl] at c7 HKN HI
      have hm1 : (m : Int) ≤ 1000 := by omega
      have hq1 : (q : Int) ≤ 1000000 := by omega
      clear hS hb hkn hI hI2 hkl ht hq hB1 hB2 htk
      go_wp2_with fail
      refine (HI.out _ HKN.out).mono ?_
      rintro e9 w9 ⟨rfl, hb9⟩
      have HB9 := Lib.hid ((HB.out.alloc HB.out.size (.cells (nodeC op' f' mn' mx' (.slice ka kn kc)) 41)).trans (hb9.mono (by have := HB.out.size; simp; omega)))
      clear hb9
      go_wp2_with fail
      exact ⟨⟨k + 1, by omega, by go_num, by rw [HS.out]; congr 1; omega, HB9.out⟩, by simp [intOf]; omega⟩
    · obtain rfl : k = l.length := by omega
      rw [List.take_length]
      have HB := Lib.hid hb; clear hb
      go_wp2_with fail
      all_goals (go_returns; exact ⟨by refine congrArg (fun z => Ending.returned (Value.int .i64 z)) ?_; omega, HB.out⟩)
set_option maxRecDepth 100000 in
set_option maxHeartbeats 1600000 in
theorem most_rep (mn mx : Nat) (p : Pat) (h1 : mn ≤ 1000) (h2 : mx ≤ 1000) (ih : MostC p) : MostC (.rep mn mx p) := by
  intro w a n c h
  obtain rfl : n = 1 := by
    obtain ⟨a', c', hn⟩ := KAt.slice h
    injection hn with _ hn _
  have H := Lib.hid (NAt.alloc h (.cells (nodeC 4 emp (mn : Int) (mx : Int) (.slice a 1 c)) 41))
  have hX : (mostP (.rep mn mx p) : Int) = min ((mx : Int) * (mostP p : Int)) 1000 := by rw [mostP]; push_cast; omega
  have HX := Lib.hid hX
  clear hX h
  have HA := Lib.hid (AtG.new w 41 (nodeC 4 emp (mn : Int) (mx : Int) (.slice a 1 c)))
  have HB0 := Lib.hid ((Below.refl w.heap.size w).alloc (Nat.le_refl _) (.cells (nodeC 4 emp (mn : Int) (mx : Int) (.slice a 1 c)) 41))
  show Calls Tryz.prog 16 #[.agg #[.int .i64 4, .int .u64 ((wd emp 0 : Nat) : Int), .int .u64 ((wd emp 1 : Nat) : Int), .int .u64 ((wd emp 2 : Nat) : Int), .int .u64 ((wd emp 3 : Nat) : Int), .int .i64 (mn : Int), .int .i64 (mx : Int), .slice a 1 c]] w _
  rw [HX.out]
  unfold MostC at ih
  have hB2 := mostP_le p
  generalize mostP p = m at *
  go_enter Tryz.func16, Tryz.ntmps16
  go_wp2_with fail
  refine wp_loop_rounds 2 ?_
  rw [rounds_succ]
  obtain ⟨b, off, cap, heq, hcap, op', f', mn', mx', kids', ka, kc, ht, hc8, hkn⟩ := kid_at (j := 0) (t := p.tree) H.out rfl
  injection heq with e1 e2 e3
  subst e1; subst e3
  clear e2
  rw [ht] at ih hkn
  obtain ⟨w0, hw0⟩ : ∃ w0 : World, w0 = w.alloc (.cells (nodeC 4 emp (mn : Int) (mx : Int) (.slice (some ⟨b, off, none⟩) 1 c)) 41) := ⟨_, rfl⟩
  have hw0' : w.alloc (.cells #[.int .i64 4, .int .u64 ((wd emp 0 : Nat) : Int), .int .u64 ((wd emp 1 : Nat) : Int), .int .u64 ((wd emp 2 : Nat) : Int), .int .u64 ((wd emp 3 : Nat) : Int), .int .i64 (mn : Int), .int .i64 (mx : Int), .slice (some ⟨b, off, none⟩) 1 c] 41) = w0 := hw0.symm
  rw [hw0']
  rw [← hw0] at hc8 hkn HA HB0 H
  have hsz : w0.heap.size = w.heap.size + 1 := by rw [hw0]; simp
  have hin2 := fun w h => ih w ka kids'.length kc h
  unfold nodeV at hin2
  have HI := Lib.hid hin2
  have HKN := Lib.hid (hkn.alloc (.cells (nodeC op' f' mn' mx' (.slice ka kids'.length kc)) 41))
  obtain ⟨c0, c1, c2, c3, c4, c5, c6, c7⟩ := hc8
  have hz8 : off + 0 * 8 = off := by omega
  rw [hz8] at c0 c1 c2 c3 c4 c5 c6 c7
  have HA2 := Lib.hid (HA.out.alloc (.cells (nodeC op' f' mn' mx' (.slice ka kids'.length kc)) 41))
  have HB2 := Lib.hid (HB0.out.alloc (by omega) (.cells (nodeC op' f' mn' mx' (.slice ka kids'.length kc)) 41))
  obtain ⟨kn, hkl⟩ : ∃ kn, kn = kids'.length := ⟨_, rfl⟩
  rw [← hkl] at c7 HKN HI HA2 HB2
  have HSZ := Lib.hid hsz
  have hm1 : (m : Int) ≤ 1000 := by omega
  have hml : (mx : Int) * (m : Int) ≤ 1000000 := by
    have : mx * m ≤ 1000 * 1000 := Nat.mul_le_mul (by omega) (by omega)
    have h3 : ((mx * m : Nat) : Int) ≤ 1000000 := by omega
    rwa [Int.natCast_mul] at h3
  have hml0 : 0 ≤ (mx : Int) * (m : Int) := Int.mul_nonneg (Int.natCast_nonneg _) (Int.natCast_nonneg _)
  clear ih hin2 hkn ht hkl hw0' hw0 hz8 hcap hsz hB2
  go_upto_region 21 with (fail)
  obtain ⟨w1, hw1⟩ : ∃ w1 : World, w1 = w0.alloc (.cells (nodeC op' f' mn' mx' (.slice ka kn kc)) 41) := ⟨_, rfl⟩
  have hw1' : w0.alloc (.cells #[.int .i64 op', .int .u64 ((wd f' 0 : Nat) : Int), .int .u64 ((wd f' 1 : Nat) : Int), .int .u64 ((wd f' 2 : Nat) : Int), .int .u64 ((wd f' 3 : Nat) : Int), .int .i64 mn', .int .i64 mx', .slice ka kn kc] 41) = w1 := hw1.symm
  rw [hw1']
  have HN := Lib.hid (AtG.new w0 41 (nodeC op' f' mn' mx' (.slice ka kn kc)))
  rw [← hw1] at HKN HA2 HB2 HN
  clear hw1 hw1' c0 c1 c2 c3 c4 c5 c6 c7
  refine Rg.wp_region_each (by kernel_rfl) (fun w' => AtG w' w.heap.size 41 (nodeC 4 emp (mn : Int) (mx : Int) (.slice (some ⟨b, off, none⟩) 1 c)) ∧ AtG w' w0.heap.size 41 (nodeC op' f' mn' mx' (.slice ka kn kc)) ∧ NAt w' (.node op' f' mn' mx' kids') (.slice ka kn kc) ∧ Below w.heap.size w w') (fun w1 w2 h hb => ⟨h.1.below hb, h.2.1.below hb, h.2.2.1.below hb, h.2.2.2.trans (hb.mono h.2.2.2.size)⟩) (by kernel_rfl) (by kernel_rfl) (⟨HA2.out, HN.out, HKN.out, HB2.out⟩) ?_
  show Rg.Build _ _ _ _ _ 0 [_, _, _, _, _, _] []
  refine Rg.build_cons (m := 1) (r := Rg.eq _) (Rg.one_plain (by rfl) (by (intro ax wx hk Kx hK; have k1 := hk.base 1 _ rfl rfl; have hj := hk.j; clear hk; have m5 : wx.cell? ⟨w.heap.size, 5, none⟩ = some (.int .i64 (mn : Int)) := hj.1.cell 5 _ rfl; have m6 : wx.cell? ⟨w.heap.size, 6, none⟩ = some (.int .i64 (mx : Int)) := hj.1.cell 6 _ rfl; have q0 : wx.cell? ⟨w0.heap.size, 0, none⟩ = some (.int .i64 op') := hj.2.1.cell 0 _ rfl; have q1 : wx.cell? ⟨w0.heap.size, 1, none⟩ = some (.int .u64 ((wd f' 0 : Nat) : Int)) := hj.2.1.cell 1 _ rfl; have q2 : wx.cell? ⟨w0.heap.size, 2, none⟩ = some (.int .u64 ((wd f' 1 : Nat) : Int)) := hj.2.1.cell 2 _ rfl; have q3 : wx.cell? ⟨w0.heap.size, 3, none⟩ = some (.int .u64 ((wd f' 2 : Nat) : Int)) := hj.2.1.cell 3 _ rfl; have q4 : wx.cell? ⟨w0.heap.size, 4, none⟩ = some (.int .u64 ((wd f' 3 : Nat) : Int)) := hj.2.1.cell 4 _ rfl; have q5 : wx.cell? ⟨w0.heap.size, 5, none⟩ = some (.int .i64 mn') := hj.2.1.cell 5 _ rfl; have q6 : wx.cell? ⟨w0.heap.size, 6, none⟩ = some (.int .i64 mx') := hj.2.1.cell 6 _ rfl; have q7 : wx.cell? ⟨w0.heap.size, 7, none⟩ = some (.slice ka kn kc) := hj.2.1.cell 7 _ rfl; go_simp; refine hK _ _ ?_ (Below.refl _ _); apply Rg.mk))) ?_ rfl
  refine Rg.build_cons (m := 2) (r := Rg.eq _) (Rg.one_plain (by rfl) (by (intro ax wx hk Kx hK; obtain ⟨v51, k51, h51⟩ := hk.dep 0 51 _ rfl rfl rfl; (first | (cases (h51 : v51 = _)) | (obtain ⟨rfl, h51⟩ := h51) | skip); have hj := hk.j; clear hk; have m5 : wx.cell? ⟨w.heap.size, 5, none⟩ = some (.int .i64 (mn : Int)) := hj.1.cell 5 _ rfl; have m6 : wx.cell? ⟨w.heap.size, 6, none⟩ = some (.int .i64 (mx : Int)) := hj.1.cell 6 _ rfl; have q0 : wx.cell? ⟨w0.heap.size, 0, none⟩ = some (.int .i64 op') := hj.2.1.cell 0 _ rfl; have q1 : wx.cell? ⟨w0.heap.size, 1, none⟩ = some (.int .u64 ((wd f' 0 : Nat) : Int)) := hj.2.1.cell 1 _ rfl; have q2 : wx.cell? ⟨w0.heap.size, 2, none⟩ = some (.int .u64 ((wd f' 1 : Nat) : Int)) := hj.2.1.cell 2 _ rfl; have q3 : wx.cell? ⟨w0.heap.size, 3, none⟩ = some (.int .u64 ((wd f' 2 : Nat) : Int)) := hj.2.1.cell 3 _ rfl; have q4 : wx.cell? ⟨w0.heap.size, 4, none⟩ = some (.int .u64 ((wd f' 3 : Nat) : Int)) := hj.2.1.cell 4 _ rfl; have q5 : wx.cell? ⟨w0.heap.size, 5, none⟩ = some (.int .i64 mn') := hj.2.1.cell 5 _ rfl; have q6 : wx.cell? ⟨w0.heap.size, 6, none⟩ = some (.int .i64 mx') := hj.2.1.cell 6 _ rfl; have q7 : wx.cell? ⟨w0.heap.size, 7, none⟩ = some (.slice ka kn kc) := hj.2.1.cell 7 _ rfl; go_simp; refine hK _ _ ?_ (Below.refl _ _); apply Rg.mk))) ?_ rfl
  refine Rg.build_cons (m := 3) (r := Rg.eq _) (Rg.one_plain (by rfl) (by (intro ax wx hk Kx hK; have k9 := hk.base 9 _ rfl rfl; have hj := hk.j; clear hk; have m5 : wx.cell? ⟨w.heap.size, 5, none⟩ = some (.int .i64 (mn : Int)) := hj.1.cell 5 _ rfl; have m6 : wx.cell? ⟨w.heap.size, 6, none⟩ = some (.int .i64 (mx : Int)) := hj.1.cell 6 _ rfl; have q0 : wx.cell? ⟨w0.heap.size, 0, none⟩ = some (.int .i64 op') := hj.2.1.cell 0 _ rfl; have q1 : wx.cell? ⟨w0.heap.size, 1, none⟩ = some (.int .u64 ((wd f' 0 : Nat) : Int)) := hj.2.1.cell 1 _ rfl; have q2 : wx.cell? ⟨w0.heap.size, 2, none⟩ = some (.int .u64 ((wd f' 1 : Nat) : Int)) := hj.2.1.cell 2 _ rfl; have q3 : wx.cell? ⟨w0.heap.size, 3, none⟩ = some (.int .u64 ((wd f' 2 : Nat) : Int)) := hj.2.1.cell 3 _ rfl; have q4 : wx.cell? ⟨w0.heap.size, 4, none⟩ = some (.int .u64 ((wd f' 3 : Nat) : Int)) := hj.2.1.cell 4 _ rfl; have q5 : wx.cell? ⟨w0.heap.size, 5, none⟩ = some (.int .i64 mn') := hj.2.1.cell 5 _ rfl; have q6 : wx.cell? ⟨w0.heap.size, 6, none⟩ = some (.int .i64 mx') := hj.2.1.cell 6 _ rfl; have q7 : wx.cell? ⟨w0.heap.size, 7, none⟩ = some (.slice ka kn kc) := hj.2.1.cell 7 _ rfl; go_simp; refine hK _ _ ?_ (Below.refl _ _); apply Rg.mk))) ?_ rfl
  refine Rg.build_cons (m := 4) (r := Rg.eq _) (Rg.one_plain (by rfl) (by (intro ax wx hk Kx hK; obtain ⟨v53, k53, h53⟩ := hk.dep 2 53 _ rfl rfl rfl; (first | (cases (h53 : v53 = _)) | (obtain ⟨rfl, h53⟩ := h53) | skip); have hj := hk.j; clear hk; have m5 : wx.cell? ⟨w.heap.size, 5, none⟩ = some (.int .i64 (mn : Int)) := hj.1.cell 5 _ rfl; have m6 : wx.cell? ⟨w.heap.size, 6, none⟩ = some (.int .i64 (mx : Int)) := hj.1.cell 6 _ rfl; have q0 : wx.cell? ⟨w0.heap.size, 0, none⟩ = some (.int .i64 op') := hj.2.1.cell 0 _ rfl; have q1 : wx.cell? ⟨w0.heap.size, 1, none⟩ = some (.int .u64 ((wd f' 0 : Nat) : Int)) := hj.2.1.cell 1 _ rfl; have q2 : wx.cell? ⟨w0.heap.size, 2, none⟩ = some (.int .u64 ((wd f' 1 : Nat) : Int)) := hj.2.1.cell 2 _ rfl; have q3 : wx.cell? ⟨w0.heap.size, 3, none⟩ = some (.int .u64 ((wd f' 2 : Nat) : Int)) := hj.2.1.cell 3 _ rfl; have q4 : wx.cell? ⟨w0.heap.size, 4, none⟩ = some (.int .u64 ((wd f' 3 : Nat) : Int)) := hj.2.1.cell 4 _ rfl; have q5 : wx.cell? ⟨w0.heap.size, 5, none⟩ = some (.int .i64 mn') := hj.2.1.cell 5 _ rfl; have q6 : wx.cell? ⟨w0.heap.size, 6, none⟩ = some (.int .i64 mx') := hj.2.1.cell 6 _ rfl; have q7 : wx.cell? ⟨w0.heap.size, 7, none⟩ = some (.slice ka kn kc) := hj.2.1.cell 7 _ rfl; go_simp; refine (HI.out _ hj.2.2.1).mono ?_; rintro e w' ⟨rfl, hb⟩; refine hK _ _ ?_ hb; apply Rg.mk))) ?_ rfl
  refine Rg.build_cons (m := 5) (r := Rg.eq (.int .i64 ((mx : Int) * (m : Int)))) (Rg.one_plain (by rfl) (by (intro ax wx hk Kx hK; obtain ⟨v52, k52, h52⟩ := hk.dep 1 52 _ rfl rfl rfl; (first | (cases (h52 : v52 = _)) | (obtain ⟨rfl, h52⟩ := h52) | skip); obtain ⟨v54, k54, h54⟩ := hk.dep 3 54 _ rfl rfl rfl; (first | (cases (h54 : v54 = _)) | (obtain ⟨rfl, h54⟩ := h54) | skip); have hj := hk.j; clear hk; have m5 : wx.cell? ⟨w.heap.size, 5, none⟩ = some (.int .i64 (mn : Int)) := hj.1.cell 5 _ rfl; have m6 : wx.cell? ⟨w.heap.size, 6, none⟩ = some (.int .i64 (mx : Int)) := hj.1.cell 6 _ rfl; have q0 : wx.cell? ⟨w0.heap.size, 0, none⟩ = some (.int .i64 op') := hj.2.1.cell 0 _ rfl; have q1 : wx.cell? ⟨w0.heap.size, 1, none⟩ = some (.int .u64 ((wd f' 0 : Nat) : Int)) := hj.2.1.cell 1 _ rfl; have q2 : wx.cell? ⟨w0.heap.size, 2, none⟩ = some (.int .u64 ((wd f' 1 : Nat) : Int)) := hj.2.1.cell 2 _ rfl; have q3 : wx.cell? ⟨w0.heap.size, 3, none⟩ = some (.int .u64 ((wd f' 2 : Nat) : Int)) := hj.2.1.cell 3 _ rfl; have q4 : wx.cell? ⟨w0.heap.size, 4, none⟩ = some (.int .u64 ((wd f' 3 : Nat) : Int)) := hj.2.1.cell 4 _ rfl; have q5 : wx.cell? ⟨w0.heap.size, 5, none⟩ = some (.int .i64 mn') := hj.2.1.cell 5 _ rfl; have q6 : wx.cell? ⟨w0.heap.size, 6, none⟩ = some (.int .i64 mx') := hj.2.1.cell 6 _ rfl; have q7 : wx.cell? ⟨w0.heap.size, 7, none⟩ = some (.slice ka kn kc) := hj.2.1.cell 7 _ rfl; (go_simp; refine hK _ _ ?_ (Below.refl _ _); simp [Rg.eq, IntKind.wrap_i64]; try omega)))) ?_ rfl
  refine Rg.build_cons (m := 6) (r := Rg.eq _) (Rg.one_plain (by rfl) (by (intro ax wx hk Kx hK; obtain ⟨v55, k55, h55⟩ := hk.dep 4 55 _ rfl rfl rfl; (first | (cases (h55 : v55 = _)) | (obtain ⟨rfl, h55⟩ := h55) | skip); have hj := hk.j; clear hk; have m5 : wx.cell? ⟨w.heap.size, 5, none⟩ = some (.int .i64 (mn : Int)) := hj.1.cell 5 _ rfl; have m6 : wx.cell? ⟨w.heap.size, 6, none⟩ = some (.int .i64 (mx : Int)) := hj.1.cell 6 _ rfl; have q0 : wx.cell? ⟨w0.heap.size, 0, none⟩ = some (.int .i64 op') := hj.2.1.cell 0 _ rfl; have q1 : wx.cell? ⟨w0.heap.size, 1, none⟩ = some (.int .u64 ((wd f' 0 : Nat) : Int)) := hj.2.1.cell 1 _ rfl; have q2 : wx.cell? ⟨w0.heap.size, 2, none⟩ = some (.int .u64 ((wd f' 1 : Nat) : Int)) := hj.2.1.cell 2 _ rfl; have q3 : wx.cell? ⟨w0.heap.size, 3, none⟩ = some (.int .u64 ((wd f' 2 : Nat) : Int)) := hj.2.1.cell 3 _ rfl; have q4 : wx.cell? ⟨w0.heap.size, 4, none⟩ = some (.int .u64 ((wd f' 3 : Nat) : Int)) := hj.2.1.cell 4 _ rfl; have q5 : wx.cell? ⟨w0.heap.size, 5, none⟩ = some (.int .i64 mn') := hj.2.1.cell 5 _ rfl; have q6 : wx.cell? ⟨w0.heap.size, 6, none⟩ = some (.int .i64 mx') := hj.2.1.cell 6 _ rfl; have q7 : wx.cell? ⟨w0.heap.size, 7, none⟩ = some (.slice ka kn kc) := hj.2.1.cell 7 _ rfl; go_simp; refine hK _ _ ?_ (Below.refl _ _); apply Rg.mk))) ?_ rfl
  refine Rg.build_end fun wx hj => ?_
  refine Rg.fin_eq rfl ?_
  refine Rg.fin_eq rfl ?_
  refine Rg.fin_eq rfl ?_
  refine Rg.fin_eq rfl ?_
  first | refine Rg.fin_eq rfl ?_ | refine Rg.fin_any rfl fun v55 h55 => ?_
  refine Rg.fin_eq rfl ?_
  refine Rg.fin_nil ?_
  simp only [List.set_cons_zero, List.set_cons_succ]
  have HJ := Lib.hid hj.2.2.2
  clear hj
  go_wp2_with fail
  rw [rounds_succ]
  go_wp2_with fail
  all_goals (go_returns; exact ⟨by refine congrArg (fun z => Ending.returned (Value.int .i64 z)) ?_; omega, HJ.out⟩)
theorem most_any (p : Pat) : Wf p → MostC p := by
  refine Pat.ind (M := fun p => Wf p → MostC p) ?_ ?_ ?_ ?_ p
  · exact fun f _ => most_one f
  · intro l ih hw
    cases hw with | cat _ h h2 h3 => exact most_cat l h3 fun p hp => ih p hp (h p hp)
  · intro l ih hw
    cases hw with | alt _ h h2 h3 => exact most_alt l h3 fun p hp => ih p hp (h p hp)
  · intro mn mx p ih hw
    cases hw with | rep _ _ _ h h1 h2 h3 => exact most_rep mn mx p (by omega) (by omega) (ih h)
end Go.Proofs.YtgjcibhhffkemaaGreatDoor
namespace Go.Proofs.YtgjcibhhffkemaaGreatDoor
open Go.RowKit Bt Fl
def AmRes (p : Pat) (L M cd : Int) : Prop := (Mt (byt []) 0 p 0 0 ∧ cd = 5) ∨ (¬ Mt (byt []) 0 p 0 0 ∧ L < mostP p ∧ cd = 6) ∨ (¬ Mt (byt []) 0 p 0 0 ∧ ¬ L < mostP p ∧ anyP p M.toNat = true ∧ cd = 7) ∨ (¬ Mt (byt []) 0 p 0 0 ∧ ¬ L < mostP p ∧ anyP p M.toNat = false ∧ cd = 0)
theorem AmRes.det {p : Pat} {L M c c' : Int} (h : AmRes p L M c) (h' : AmRes p L M c') : c = c' := by
  rcases h with ⟨a, rfl⟩ | ⟨a, b, rfl⟩ | ⟨a, b, d, rfl⟩ | ⟨a, b, d, rfl⟩ <;> rcases h' with ⟨a', rfl⟩ | ⟨a', b', rfl⟩ | ⟨a', b', d', rfl⟩ | ⟨a', b', d', rfl⟩ <;> first | rfl | (exact absurd a' a) | (exact absurd a a') | (exact absurd b' b) | (exact absurd b b') | (rw [d] at d'; cases d')
set_option maxRecDepth 100000 in
set_option maxHeartbeats 1600000 in
theorem amissX (p : Pat) (hp : Wf p) (L Q C : Int) (R : Nat) (M : Int) (hM0 : 0 ≤ M) (hM1 : M ≤ 255) (w : World) (a : Option Addr) (m c : Nat) (hn : NAt w p.tree (.slice a m c)) :
    Calls Tryz.prog 25 #[nodeV p.tree (.slice a m c), cfgV L Q C R M] w fun e w' => Below w.heap.size w w' ∧ ∃ cd, AmRes p L M cd ∧ e = .returned (.int .i64 cd) := by
  have hkeep := fun (w' : World) (hb : Below w.heap.size w w') => hn.below hb
  have hH := fun (w' : World) (hb : Below w.heap.size w w') => hasP_any p hp w' a m c (.slice none 0 0) [] (hkeep w' hb) (.inl ⟨rfl, none, 0, rfl⟩) (by simp)
  have hMo := fun (w' : World) (hb : Below w.heap.size w w') => most_any p hp w' a m c (hkeep w' hb)
  have hAn := fun (w' : World) (hb : Below w.heap.size w w') => pAny_any p hp w' a m c (hkeep w' hb)
  have HSH := Lib.hid (fun w' => has_any (anyP p) M w' hM0 hM1)
  have HMT : Hid (∀ r : Bool, (r = true ↔ Mt (byt []) ([] : List Int).length p 0 ([] : List Int).length) → (r = true ∧ AmRes p L M 5) ∨ (r = false ∧ (L < mostP p → AmRes p L M 6) ∧ (¬ L < mostP p → anyP p M.toNat = true → AmRes p L M 7) ∧ (¬ L < mostP p → anyP p M.toNat = false → AmRes p L M 0))) := Lib.hid (fun r hr => by
    cases r
    · have hno : ¬ Mt (byt []) 0 p 0 0 := fun h => by have := hr.2 h; cases this
      exact .inr ⟨rfl, fun h => .inr (.inl ⟨hno, h, rfl⟩), fun h h1 => .inr (.inr (.inl ⟨hno, h, h1, rfl⟩)), fun h h1 => .inr (.inr (.inr ⟨hno, h, h1, rfl⟩))⟩
    · exact .inl ⟨rfl, .inl ⟨hr.1 rfl, rfl⟩⟩)
  rcases hpt : p.tree with ⟨op, f, mn, mx, kids⟩
  rw [hpt] at hH hMo hAn
  unfold nodeV at hH hMo hAn ⊢
  dsimp only at hH hMo hAn ⊢
  have HH := Lib.hid hH; have HMO := Lib.hid hMo; have HAN := Lib.hid hAn
  obtain ⟨any, hany⟩ : ∃ any, anyP p = any := ⟨_, rfl⟩
  obtain ⟨mo, hmo⟩ : ∃ mo, mostP p = mo := ⟨_, rfl⟩
  rw [hmo] at HMO HMT
  rw [hany] at HAN HSH HMT
  clear hH hMo hAn hkeep hn hpt hany hmo hp
  unfold cfgV
  go_enter Tryz.func25, Tryz.ntmps25
  go_upto_region 1 with (fail)
  refine (show ∀ W : World, W = (w.alloc (.cells (nodeC op f mn mx (.slice a m c)) 41)).alloc (.cells (cfgC L Q C R M) 24) → _ from fun W hW => ?_) _ rfl
  have HN : Hid (AtG W w.heap.size 41 (nodeC op f mn mx (.slice a m c))) := Lib.hid (by rw [hW]; exact (AtG.new _ _ _).alloc _)
  have HC : Hid (AtG W (w.heap.size + 1) 24 (cfgC L Q C R M)) := Lib.hid (by
    rw [hW]
    have := AtG.new (w.alloc (.cells (nodeC op f mn mx (.slice a m c)) 41)) 24 (cfgC L Q C R M)
    simpa using this)
  have HB : Hid (Below w.heap.size w W) := Lib.hid (by rw [hW]; go_grown)
  clear hW
  have k0 : (W).cell? ⟨w.heap.size, 0, none⟩ = some (.int .i64 op) := (HN.out).cell 0 _ rfl
  have k1 : (W).cell? ⟨w.heap.size, 1, none⟩ = some (.int .u64 ((wd f 0 : Nat) : Int)) := (HN.out).cell 1 _ rfl
  have k2 : (W).cell? ⟨w.heap.size, 2, none⟩ = some (.int .u64 ((wd f 1 : Nat) : Int)) := (HN.out).cell 2 _ rfl
  have k3 : (W).cell? ⟨w.heap.size, 3, none⟩ = some (.int .u64 ((wd f 2 : Nat) : Int)) := (HN.out).cell 3 _ rfl
  have k4 : (W).cell? ⟨w.heap.size, 4, none⟩ = some (.int .u64 ((wd f 3 : Nat) : Int)) := (HN.out).cell 4 _ rfl
  have k5 : (W).cell? ⟨w.heap.size, 5, none⟩ = some (.int .i64 mn) := (HN.out).cell 5 _ rfl
  have k6 : (W).cell? ⟨w.heap.size, 6, none⟩ = some (.int .i64 mx) := (HN.out).cell 6 _ rfl
  have k7 : (W).cell? ⟨w.heap.size, 7, none⟩ = some (.slice a m c) := (HN.out).cell 7 _ rfl
  go_wp2_with fail
  refine (HH.out W HB.out).mono ?_
  rintro e9 w1 ⟨hb1, r, rfl, hr⟩
  have HN1 := Lib.hid (HN.out.below hb1); have HC1 := Lib.hid (HC.out.below hb1); have HB1 := Lib.hid (HB.out.trans (hb1.mono HB.out.size))
  clear hb1 k0 k1 k2 k3 k4 k5 k6 k7 HN HC HB HH
  rcases HMT.out r hr with ⟨rfl, h5⟩ | ⟨rfl, h6, h7, h0⟩
  · have H5 := Lib.hid h5
    clear hr h5
    go_wp2_with fail
    go_returns
    exact ⟨HB1.out, 5, H5.out, rfl⟩
  have H6 := Lib.hid h6; have H7 := Lib.hid h7; have H0 := Lib.hid h0
  clear hr h6 h7 h0 HMT
  go_upto_region 3 with (fail)
  refine Rg.wp_region_each (by kernel_rfl) (fun w' => AtG w' w.heap.size 41 (nodeC op f mn mx (.slice a m c)) ∧ AtG w' (w.heap.size + 1) 24 (cfgC L Q C R M) ∧ Below w.heap.size w w') (fun w1 w2 h hb => ⟨h.1.below hb, h.2.1.below hb, h.2.2.trans (hb.mono h.2.2.size)⟩) (by kernel_rfl) (by kernel_rfl) (⟨HN1.out, HC1.out, HB1.out⟩) ?_
  show Rg.Build _ _ _ _ _ 0 [_, _, _, _, _, _] []
  refine Rg.build_cons (m := 1) (r := Rg.eq _) (Rg.one_plain (by rfl) (by (intro ax wx hk Kx hK; have k2 := hk.base 2 _ rfl rfl; have hj := hk.j; clear hk; have q0 := hj.1.cell 0 _ rfl; have q1 := hj.1.cell 1 _ rfl; have q2 := hj.1.cell 2 _ rfl; have q3 := hj.1.cell 3 _ rfl; have q4 := hj.1.cell 4 _ rfl; have q5 := hj.1.cell 5 _ rfl; have q6 := hj.1.cell 6 _ rfl; have q7 := hj.1.cell 7 _ rfl; have p0 := hj.2.1.cell 0 _ rfl; go_simp; refine hK _ _ ?_ (Below.refl _ _); apply Rg.mk))) ?_ rfl
  refine Rg.build_cons (m := 2) (r := Rg.eq _) (Rg.one_plain (by rfl) (by (intro ax wx hk Kx hK; obtain ⟨v9, k9, h9⟩ := hk.dep 0 9 _ rfl rfl rfl; (first | (cases (h9 : v9 = _)) | (obtain ⟨rfl, h9⟩ := h9) | skip); have hj := hk.j; clear hk; go_simp; refine (HMO.out _ hj.2.2).mono ?_; rintro e w' ⟨rfl, hb⟩; refine hK _ _ ?_ hb; apply Rg.mk))) ?_ rfl
  refine Rg.build_cons (m := 3) (r := Rg.eq _) (Rg.one_plain (by rfl) (by (intro ax wx hk Kx hK; have k3 := hk.base 3 _ rfl rfl; have hj := hk.j; clear hk; go_simp; refine hK _ _ ?_ (Below.refl _ _); apply Rg.mk))) ?_ rfl
  refine Rg.build_cons (m := 4) (r := Rg.eq _) (Rg.one_plain (by rfl) (by (intro ax wx hk Kx hK; obtain ⟨v11, k11, h11⟩ := hk.dep 2 11 _ rfl rfl rfl; (first | (cases (h11 : v11 = _)) | (obtain ⟨rfl, h11⟩ := h11) | skip); have hj := hk.j; clear hk; have q0 := hj.1.cell 0 _ rfl; have q1 := hj.1.cell 1 _ rfl; have q2 := hj.1.cell 2 _ rfl; have q3 := hj.1.cell 3 _ rfl; have q4 := hj.1.cell 4 _ rfl; have q5 := hj.1.cell 5 _ rfl; have q6 := hj.1.cell 6 _ rfl; have q7 := hj.1.cell 7 _ rfl; have p0 := hj.2.1.cell 0 _ rfl; go_simp; refine hK _ _ ?_ (Below.refl _ _); apply Rg.mk))) ?_ rfl
  refine Rg.build_cons (m := 5) (r := Rg.eq _) (Rg.one_plain (by rfl) (by (intro ax wx hk Kx hK; obtain ⟨v10, k10, h10⟩ := hk.dep 1 10 _ rfl rfl rfl; (first | (cases (h10 : v10 = _)) | (obtain ⟨rfl, h10⟩ := h10) | skip); obtain ⟨v12, k12, h12⟩ := hk.dep 3 12 _ rfl rfl rfl; (first | (cases (h12 : v12 = _)) | (obtain ⟨rfl, h12⟩ := h12) | skip); have hj := hk.j; clear hk; go_simp; refine hK _ _ ?_ (Below.refl _ _); apply Rg.mk))) ?_ rfl
  refine Rg.build_cons (m := 6) (r := Rg.eq _) (Rg.one_plain (by rfl) (by (intro ax wx hk Kx hK; obtain ⟨v13, k13, h13⟩ := hk.dep 4 13 _ rfl rfl rfl; (first | (cases (h13 : v13 = _)) | (obtain ⟨rfl, h13⟩ := h13) | skip); have hj := hk.j; clear hk; go_simp; refine hK _ _ ?_ (Below.refl _ _); apply Rg.mk))) ?_ rfl
  refine Rg.build_end fun wx hj => ?_
  refine Rg.fin_eq rfl ?_
  refine Rg.fin_eq rfl ?_
  refine Rg.fin_eq rfl ?_
  refine Rg.fin_eq rfl ?_
  refine Rg.fin_eq rfl ?_
  refine Rg.fin_eq rfl ?_
  refine Rg.fin_nil ?_
  simp only [List.set_cons_zero, List.set_cons_succ]
  have HN2 := Lib.hid hj.1; have HC2 := Lib.hid hj.2.1; have HB2 := Lib.hid hj.2.2
  clear hj HN1 HC1 HB1 HMO
  by_cases hL : L < mo
  · have H := Lib.hid (H6.out hL)
    go_wp2_with fail
    go_returns
    exact ⟨HB2.out, 6, H.out, rfl⟩
  have H71 := Lib.hid (H7.out (by omega)); have H01 := Lib.hid (H0.out (by omega))
  clear H6 H7 H0
  go_upto_region 5 with (fail)
  obtain ⟨wy, hwy⟩ : ∃ wy : World, wy = wx := ⟨_, rfl⟩
  subst hwy
  refine Rg.wp_region_each (by kernel_rfl) (fun w' => AtG w' w.heap.size 41 (nodeC op f mn mx (.slice a m c)) ∧ AtG w' (w.heap.size + 1) 24 (cfgC L Q C R M) ∧ Below w.heap.size w w') (fun w1 w2 h hb => ⟨h.1.below hb, h.2.1.below hb, h.2.2.trans (hb.mono h.2.2.size)⟩) (by kernel_rfl) (by kernel_rfl) (⟨HN2.out, HC2.out, HB2.out⟩) ?_
  show Rg.Build _ _ _ _ _ 0 [_, _, _, _, _, _] []
  refine Rg.build_cons (m := 1) (r := Rg.eq _) (Rg.one_plain (by rfl) (by (intro ax wx hk Kx hK; have k2 := hk.base 2 _ rfl rfl; have hj := hk.j; clear hk; have q0 := hj.1.cell 0 _ rfl; have q1 := hj.1.cell 1 _ rfl; have q2 := hj.1.cell 2 _ rfl; have q3 := hj.1.cell 3 _ rfl; have q4 := hj.1.cell 4 _ rfl; have q5 := hj.1.cell 5 _ rfl; have q6 := hj.1.cell 6 _ rfl; have q7 := hj.1.cell 7 _ rfl; have p0 := hj.2.1.cell 4 _ rfl; go_simp; refine hK _ _ ?_ (Below.refl _ _); apply Rg.mk))) ?_ rfl
  refine Rg.build_cons (m := 2) (r := Rg.eq _) (Rg.one_plain (by rfl) (by (intro ax wx hk Kx hK; obtain ⟨v15, k15, h15⟩ := hk.dep 0 15 _ rfl rfl rfl; (first | (cases (h15 : v15 = _)) | (obtain ⟨rfl, h15⟩ := h15) | skip); have hj := hk.j; clear hk; go_simp; refine (HAN.out _ hj.2.2).mono ?_; rintro e w' ⟨rfl, hb⟩; refine hK _ _ ?_ hb; apply Rg.mk))) ?_ rfl
  refine Rg.build_cons (m := 3) (r := Rg.eq _) (Rg.one_plain (by rfl) (by (intro ax wx hk Kx hK; have k3 := hk.base 3 _ rfl rfl; have hj := hk.j; clear hk; go_simp; refine hK _ _ ?_ (Below.refl _ _); apply Rg.mk))) ?_ rfl
  refine Rg.build_cons (m := 4) (r := Rg.eq _) (Rg.one_plain (by rfl) (by (intro ax wx hk Kx hK; obtain ⟨v17, k17, h17⟩ := hk.dep 2 17 _ rfl rfl rfl; (first | (cases (h17 : v17 = _)) | (obtain ⟨rfl, h17⟩ := h17) | skip); have hj := hk.j; clear hk; have q0 := hj.1.cell 0 _ rfl; have q1 := hj.1.cell 1 _ rfl; have q2 := hj.1.cell 2 _ rfl; have q3 := hj.1.cell 3 _ rfl; have q4 := hj.1.cell 4 _ rfl; have q5 := hj.1.cell 5 _ rfl; have q6 := hj.1.cell 6 _ rfl; have q7 := hj.1.cell 7 _ rfl; have p0 := hj.2.1.cell 4 _ rfl; go_simp; refine hK _ _ ?_ (Below.refl _ _); apply Rg.mk))) ?_ rfl
  refine Rg.build_cons (m := 5) (r := Rg.eq _) (Rg.one_plain (by rfl) (by (intro ax wx hk Kx hK; obtain ⟨v16, k16, h16⟩ := hk.dep 1 16 _ rfl rfl rfl; (first | (cases (h16 : v16 = _)) | (obtain ⟨rfl, h16⟩ := h16) | skip); obtain ⟨v18, k18, h18⟩ := hk.dep 3 18 _ rfl rfl rfl; (first | (cases (h18 : v18 = _)) | (obtain ⟨rfl, h18⟩ := h18) | skip); have hj := hk.j; clear hk; go_simp; refine (HSH.out _).mono ?_; rintro e w' ⟨rfl, hb⟩; refine hK _ _ ?_ hb; apply Rg.mk))) ?_ rfl
  refine Rg.build_cons (m := 6) (r := Rg.eq _) (Rg.one_plain (by rfl) (by (intro ax wx hk Kx hK; obtain ⟨v19, k19, h19⟩ := hk.dep 4 19 _ rfl rfl rfl; (first | (cases (h19 : v19 = _)) | (obtain ⟨rfl, h19⟩ := h19) | skip); have hj := hk.j; clear hk; go_simp; refine hK _ _ ?_ (Below.refl _ _); apply Rg.mk))) ?_ rfl
  refine Rg.build_end fun wx hj => ?_
  refine Rg.fin_eq rfl ?_
  refine Rg.fin_eq rfl ?_
  refine Rg.fin_eq rfl ?_
  refine Rg.fin_eq rfl ?_
  refine Rg.fin_eq rfl ?_
  refine Rg.fin_eq rfl ?_
  refine Rg.fin_nil ?_
  simp only [List.set_cons_zero, List.set_cons_succ]
  have HB3 := Lib.hid hj.2.2
  clear hj HN2 HC2 HB2 HAN HSH
  generalize any M.toNat = b at *
  cases b
  · have H := Lib.hid (H01.out rfl)
    clear H71 H01
    go_wp2_with fail
    go_returns
    exact ⟨HB3.out, 0, H.out, rfl⟩
  · have H := Lib.hid (H71.out rfl)
    clear H71 H01
    go_wp2_with fail
    go_returns
    exact ⟨HB3.out, 7, H.out, rfl⟩
end Go.Proofs.YtgjcibhhffkemaaGreatDoor
namespace Go.Proofs.YtgjcibhhffkemaaGreatDoor
open Go.RowKit Bt
def rxr (s : ByteArray) (p o : Int) : Array Value := #[.string s, .int .i64 p, .int .i64 o]
def RxNo (c : Int) (x : Nat) (e : Ending) (w' : World) : Prop := ∃ b, e = .panicked [{ v := .iface 68 (.pointer (some ⟨b, 0, none⟩)), recovered := false }] ∧ AtG w' b 73 #[.int .i64 (x : Int), .int .i64 c]
def RxP {α : Type} (g : Nat) (s : ByteArray) (o : Nat) (w : World) (R : Re α) (V : α → Value) (e : Ending) (w' : World) : Prop :=
  Only (fun k => k = g) w w' ∧ match R with
    | .ok a q => e = .returned (V a) ∧ AtG w' g 94 (rxr s (q : Int) (o : Int))
    | .no c x => RxNo c x e w'
theorem failX (g x : Nat) (c : Int) (w : World) : Calls Tryz.prog 125 #[.pointer (some ⟨g, 0, none⟩), .int .i64 (x : Int), .int .i64 c] w fun e w' => Below w.heap.size w w' ∧ RxNo c x e w' := by
  go_enter Tryz.func125, Tryz.ntmps125
  go_wp2
  exact ⟨rfl, (Below.refl _ _).alloc (Nat.le_refl _) _, _, rfl, AtG.new _ _ _⟩
set_option maxRecDepth 100000 in
theorem peekX_end (g : Nat) (s : ByteArray) (p : Nat) (o : Int) (w : World) (h : AtG w g 94 (rxr s p o)) (hp : p = s.size) :
    Calls Tryz.prog 95 #[.pointer (some ⟨g, 0, none⟩)] w fun e w' => e = .returned (.tuple #[.int .u8 0, .bool false]) ∧ Below w.heap.size w w' := by
  unfold rxr at h
  have H := Lib.hid h
  have HLT := Lib.hid h.lt
  clear h
  go_enter Tryz.func95, Tryz.ntmps95
  go_upto_region 1 with (fail)
  refine Rg.wp_region_each (by kernel_rfl) (fun w' => Below w.heap.size w w') (fun w1 w2 h hb => h.trans (hb.mono h.size)) (by kernel_rfl) (by kernel_rfl) (Below.refl _ _) ?_
  show Rg.Build _ _ _ _ _ 0 [_, _, _, _, _, _, _, _, _, _] []
  refine Rg.build_cons (m := 1) (r := Rg.eq _) (Rg.one_plain (by rfl) (by (intro ax wx hk Kx hK; have k0 := hk.base 0 _ rfl rfl; have hj := hk.j; clear hk; have z0 := (hj.cell (p := ⟨g, 0, none⟩) HLT.out).trans (H.out.cell 0 _ rfl); have z1 := (hj.cell (p := ⟨g, 1, none⟩) HLT.out).trans (H.out.cell 1 _ rfl); go_simp; refine hK _ _ ?_ (Below.refl _ _); apply Rg.mk))) ?_ rfl
  refine Rg.build_cons (m := 2) (r := Rg.eq _) (Rg.one_plain (by rfl) (by (intro ax wx hk Kx hK; obtain ⟨v4, k4, h4⟩ := hk.dep 0 4 _ rfl rfl rfl; (first | (cases (h4 : v4 = _)) | (obtain ⟨rfl, h4⟩ := h4) | skip); have hj := hk.j; clear hk; have z0 := (hj.cell (p := ⟨g, 0, none⟩) HLT.out).trans (H.out.cell 0 _ rfl); have z1 := (hj.cell (p := ⟨g, 1, none⟩) HLT.out).trans (H.out.cell 1 _ rfl); go_simp; refine hK _ _ ?_ (Below.refl _ _); apply Rg.mk))) ?_ rfl
  refine Rg.build_cons (m := 3) (r := Rg.eq _) (Rg.one_plain (by rfl) (by (intro ax wx hk Kx hK; obtain ⟨v5, k5, h5⟩ := hk.dep 1 5 _ rfl rfl rfl; (first | (cases (h5 : v5 = _)) | (obtain ⟨rfl, h5⟩ := h5) | skip); have hj := hk.j; clear hk; have z0 := (hj.cell (p := ⟨g, 0, none⟩) HLT.out).trans (H.out.cell 0 _ rfl); have z1 := (hj.cell (p := ⟨g, 1, none⟩) HLT.out).trans (H.out.cell 1 _ rfl); go_simp; refine hK _ _ ?_ (Below.refl _ _); apply Rg.mk))) ?_ rfl
  refine Rg.build_cons (m := 4) (r := Rg.eq _) (Rg.one_plain (by rfl) (by (intro ax wx hk Kx hK; obtain ⟨v6, k6, h6⟩ := hk.dep 2 6 _ rfl rfl rfl; (first | (cases (h6 : v6 = _)) | (obtain ⟨rfl, h6⟩ := h6) | skip); have hj := hk.j; clear hk; have z0 := (hj.cell (p := ⟨g, 0, none⟩) HLT.out).trans (H.out.cell 0 _ rfl); have z1 := (hj.cell (p := ⟨g, 1, none⟩) HLT.out).trans (H.out.cell 1 _ rfl); go_simp; refine hK _ _ ?_ (Below.refl _ _); apply Rg.mk))) ?_ rfl
  refine Rg.build_cons (m := 5) (r := Rg.eq _) (Rg.one_plain (by rfl) (by (intro ax wx hk Kx hK; have k0 := hk.base 0 _ rfl rfl; have hj := hk.j; clear hk; have z0 := (hj.cell (p := ⟨g, 0, none⟩) HLT.out).trans (H.out.cell 0 _ rfl); have z1 := (hj.cell (p := ⟨g, 1, none⟩) HLT.out).trans (H.out.cell 1 _ rfl); go_simp; refine hK _ _ ?_ (Below.refl _ _); apply Rg.mk))) ?_ rfl
  refine Rg.build_cons (m := 6) (r := Rg.eq _) (Rg.one_plain (by rfl) (by (intro ax wx hk Kx hK; obtain ⟨v8, k8, h8⟩ := hk.dep 4 8 _ rfl rfl rfl; (first | (cases (h8 : v8 = _)) | (obtain ⟨rfl, h8⟩ := h8) | skip); have hj := hk.j; clear hk; have z0 := (hj.cell (p := ⟨g, 0, none⟩) HLT.out).trans (H.out.cell 0 _ rfl); have z1 := (hj.cell (p := ⟨g, 1, none⟩) HLT.out).trans (H.out.cell 1 _ rfl); go_simp; refine hK _ _ ?_ (Below.refl _ _); apply Rg.mk))) ?_ rfl
  refine Rg.build_cons (m := 7) (r := Rg.eq _) (Rg.one_plain (by rfl) (by (intro ax wx hk Kx hK; obtain ⟨v9, k9, h9⟩ := hk.dep 5 9 _ rfl rfl rfl; (first | (cases (h9 : v9 = _)) | (obtain ⟨rfl, h9⟩ := h9) | skip); have hj := hk.j; clear hk; have z0 := (hj.cell (p := ⟨g, 0, none⟩) HLT.out).trans (H.out.cell 0 _ rfl); have z1 := (hj.cell (p := ⟨g, 1, none⟩) HLT.out).trans (H.out.cell 1 _ rfl); go_simp; refine hK _ _ ?_ (Below.refl _ _); apply Rg.mk))) ?_ rfl
  refine Rg.build_cons (m := 8) (r := Rg.eq _) (Rg.one_plain (by rfl) (by (intro ax wx hk Kx hK; obtain ⟨v10, k10, h10⟩ := hk.dep 6 10 _ rfl rfl rfl; (first | (cases (h10 : v10 = _)) | (obtain ⟨rfl, h10⟩ := h10) | skip); have hj := hk.j; clear hk; have z0 := (hj.cell (p := ⟨g, 0, none⟩) HLT.out).trans (H.out.cell 0 _ rfl); have z1 := (hj.cell (p := ⟨g, 1, none⟩) HLT.out).trans (H.out.cell 1 _ rfl); go_simp; refine hK _ _ ?_ (Below.refl _ _); apply Rg.mk))) ?_ rfl
  refine Rg.build_cons (m := 9) (r := Rg.eq _) (Rg.one_plain (by rfl) (by (intro ax wx hk Kx hK; obtain ⟨v11, k11, h11⟩ := hk.dep 7 11 _ rfl rfl rfl; (first | (cases (h11 : v11 = _)) | (obtain ⟨rfl, h11⟩ := h11) | skip); have hj := hk.j; clear hk; have z0 := (hj.cell (p := ⟨g, 0, none⟩) HLT.out).trans (H.out.cell 0 _ rfl); have z1 := (hj.cell (p := ⟨g, 1, none⟩) HLT.out).trans (H.out.cell 1 _ rfl); go_simp; refine hK _ _ ?_ (Below.refl _ _); apply Rg.mk))) ?_ rfl
  refine Rg.build_cons (m := 10) (r := Rg.eq (.bool true)) (Rg.one_plain (by rfl) (by (intro ax wx hk Kx hK; obtain ⟨v7, k7, h7⟩ := hk.dep 3 7 _ rfl rfl rfl; (first | (cases (h7 : v7 = _)) | (obtain ⟨rfl, h7⟩ := h7) | skip); obtain ⟨v12, k12, h12⟩ := hk.dep 8 12 _ rfl rfl rfl; (first | (cases (h12 : v12 = _)) | (obtain ⟨rfl, h12⟩ := h12) | skip); have hj := hk.j; clear hk; have z0 := (hj.cell (p := ⟨g, 0, none⟩) HLT.out).trans (H.out.cell 0 _ rfl); have z1 := (hj.cell (p := ⟨g, 1, none⟩) HLT.out).trans (H.out.cell 1 _ rfl); (go_simp; refine hK _ _ ?_ (Below.refl _ _); simp [Rg.eq, hp])))) ?_ rfl
  refine Rg.build_end fun wx hj => ?_
  refine Rg.fin_eq rfl ?_
  refine Rg.fin_eq rfl ?_
  refine Rg.fin_eq rfl ?_
  refine Rg.fin_eq rfl ?_
  refine Rg.fin_eq rfl ?_
  refine Rg.fin_eq rfl ?_
  refine Rg.fin_eq rfl ?_
  refine Rg.fin_eq rfl ?_
  refine Rg.fin_eq rfl ?_
  first | refine Rg.fin_eq rfl ?_ | refine Rg.fin_any rfl fun v13 h13 => ?_
  refine Rg.fin_nil ?_
  simp only [List.set_cons_zero, List.set_cons_succ]
  have HJ := Lib.hid hj; clear hj
  go_wp2_with fail
  go_returns
  exact ⟨rfl, HJ.out⟩
set_option maxRecDepth 100000 in
theorem peekX_in (g : Nat) (s : ByteArray) (p : Nat) (o : Int) (w : World) (h : AtG w g 94 (rxr s p o)) (hp : p < s.size) :
    Calls Tryz.prog 95 #[.pointer (some ⟨g, 0, none⟩)] w fun e w' => e = .returned (.tuple #[.int .u8 (ch s p), .bool true]) ∧ Below w.heap.size w w' := by
  unfold rxr at h
  have H := Lib.hid h
  have HLT := Lib.hid h.lt
  have hch := ch_in hp
  have hp2 : ¬ p = s.size := by omega
  have hpI : (p : Int) < s.size := by omega
  clear h
  go_enter Tryz.func95, Tryz.ntmps95
  go_upto_region 1 with (fail)
  refine Rg.wp_region_each (by kernel_rfl) (fun w' => Below w.heap.size w w') (fun w1 w2 h hb => h.trans (hb.mono h.size)) (by kernel_rfl) (by kernel_rfl) (Below.refl _ _) ?_
  show Rg.Build _ _ _ _ _ 0 [_, _, _, _, _, _, _, _, _, _] []
  refine Rg.build_cons (m := 1) (r := Rg.eq _) (Rg.one_plain (by rfl) (by (intro ax wx hk Kx hK; have k0 := hk.base 0 _ rfl rfl; have hj := hk.j; clear hk; have z0 := (hj.cell (p := ⟨g, 0, none⟩) HLT.out).trans (H.out.cell 0 _ rfl); have z1 := (hj.cell (p := ⟨g, 1, none⟩) HLT.out).trans (H.out.cell 1 _ rfl); go_simp; refine hK _ _ ?_ (Below.refl _ _); apply Rg.mk))) ?_ rfl
  refine Rg.build_cons (m := 2) (r := Rg.eq _) (Rg.one_plain (by rfl) (by (intro ax wx hk Kx hK; obtain ⟨v4, k4, h4⟩ := hk.dep 0 4 _ rfl rfl rfl; (first | (cases (h4 : v4 = _)) | (obtain ⟨rfl, h4⟩ := h4) | skip); have hj := hk.j; clear hk; have z0 := (hj.cell (p := ⟨g, 0, none⟩) HLT.out).trans (H.out.cell 0 _ rfl); have z1 := (hj.cell (p := ⟨g, 1, none⟩) HLT.out).trans (H.out.cell 1 _ rfl); go_simp; refine hK _ _ ?_ (Below.refl _ _); apply Rg.mk))) ?_ rfl
  refine Rg.build_cons (m := 3) (r := Rg.eq _) (Rg.one_plain (by rfl) (by (intro ax wx hk Kx hK; obtain ⟨v5, k5, h5⟩ := hk.dep 1 5 _ rfl rfl rfl; (first | (cases (h5 : v5 = _)) | (obtain ⟨rfl, h5⟩ := h5) | skip); have hj := hk.j; clear hk; have z0 := (hj.cell (p := ⟨g, 0, none⟩) HLT.out).trans (H.out.cell 0 _ rfl); have z1 := (hj.cell (p := ⟨g, 1, none⟩) HLT.out).trans (H.out.cell 1 _ rfl); go_simp; refine hK _ _ ?_ (Below.refl _ _); apply Rg.mk))) ?_ rfl
  refine Rg.build_cons (m := 4) (r := Rg.eq _) (Rg.one_plain (by rfl) (by (intro ax wx hk Kx hK; obtain ⟨v6, k6, h6⟩ := hk.dep 2 6 _ rfl rfl rfl; (first | (cases (h6 : v6 = _)) | (obtain ⟨rfl, h6⟩ := h6) | skip); have hj := hk.j; clear hk; have z0 := (hj.cell (p := ⟨g, 0, none⟩) HLT.out).trans (H.out.cell 0 _ rfl); have z1 := (hj.cell (p := ⟨g, 1, none⟩) HLT.out).trans (H.out.cell 1 _ rfl); go_simp; refine hK _ _ ?_ (Below.refl _ _); apply Rg.mk))) ?_ rfl
  refine Rg.build_cons (m := 5) (r := Rg.eq _) (Rg.one_plain (by rfl) (by (intro ax wx hk Kx hK; have k0 := hk.base 0 _ rfl rfl; have hj := hk.j; clear hk; have z0 := (hj.cell (p := ⟨g, 0, none⟩) HLT.out).trans (H.out.cell 0 _ rfl); have z1 := (hj.cell (p := ⟨g, 1, none⟩) HLT.out).trans (H.out.cell 1 _ rfl); go_simp; refine hK _ _ ?_ (Below.refl _ _); apply Rg.mk))) ?_ rfl
  refine Rg.build_cons (m := 6) (r := Rg.eq _) (Rg.one_plain (by rfl) (by (intro ax wx hk Kx hK; obtain ⟨v8, k8, h8⟩ := hk.dep 4 8 _ rfl rfl rfl; (first | (cases (h8 : v8 = _)) | (obtain ⟨rfl, h8⟩ := h8) | skip); have hj := hk.j; clear hk; have z0 := (hj.cell (p := ⟨g, 0, none⟩) HLT.out).trans (H.out.cell 0 _ rfl); have z1 := (hj.cell (p := ⟨g, 1, none⟩) HLT.out).trans (H.out.cell 1 _ rfl); go_simp; refine hK _ _ ?_ (Below.refl _ _); apply Rg.mk))) ?_ rfl
  refine Rg.build_cons (m := 7) (r := Rg.eq _) (Rg.one_plain (by rfl) (by (intro ax wx hk Kx hK; obtain ⟨v9, k9, h9⟩ := hk.dep 5 9 _ rfl rfl rfl; (first | (cases (h9 : v9 = _)) | (obtain ⟨rfl, h9⟩ := h9) | skip); have hj := hk.j; clear hk; have z0 := (hj.cell (p := ⟨g, 0, none⟩) HLT.out).trans (H.out.cell 0 _ rfl); have z1 := (hj.cell (p := ⟨g, 1, none⟩) HLT.out).trans (H.out.cell 1 _ rfl); go_simp; refine hK _ _ ?_ (Below.refl _ _); apply Rg.mk))) ?_ rfl
  refine Rg.build_cons (m := 8) (r := Rg.eq _) (Rg.one_plain (by rfl) (by (intro ax wx hk Kx hK; obtain ⟨v10, k10, h10⟩ := hk.dep 6 10 _ rfl rfl rfl; (first | (cases (h10 : v10 = _)) | (obtain ⟨rfl, h10⟩ := h10) | skip); have hj := hk.j; clear hk; have z0 := (hj.cell (p := ⟨g, 0, none⟩) HLT.out).trans (H.out.cell 0 _ rfl); have z1 := (hj.cell (p := ⟨g, 1, none⟩) HLT.out).trans (H.out.cell 1 _ rfl); go_simp; refine hK _ _ ?_ (Below.refl _ _); apply Rg.mk))) ?_ rfl
  refine Rg.build_cons (m := 9) (r := Rg.eq _) (Rg.one_plain (by rfl) (by (intro ax wx hk Kx hK; obtain ⟨v11, k11, h11⟩ := hk.dep 7 11 _ rfl rfl rfl; (first | (cases (h11 : v11 = _)) | (obtain ⟨rfl, h11⟩ := h11) | skip); have hj := hk.j; clear hk; have z0 := (hj.cell (p := ⟨g, 0, none⟩) HLT.out).trans (H.out.cell 0 _ rfl); have z1 := (hj.cell (p := ⟨g, 1, none⟩) HLT.out).trans (H.out.cell 1 _ rfl); go_simp; refine hK _ _ ?_ (Below.refl _ _); apply Rg.mk))) ?_ rfl
  refine Rg.build_cons (m := 10) (r := Rg.eq (.bool false)) (Rg.one_plain (by rfl) (by (intro ax wx hk Kx hK; obtain ⟨v7, k7, h7⟩ := hk.dep 3 7 _ rfl rfl rfl; (first | (cases (h7 : v7 = _)) | (obtain ⟨rfl, h7⟩ := h7) | skip); obtain ⟨v12, k12, h12⟩ := hk.dep 8 12 _ rfl rfl rfl; (first | (cases (h12 : v12 = _)) | (obtain ⟨rfl, h12⟩ := h12) | skip); have hj := hk.j; clear hk; have z0 := (hj.cell (p := ⟨g, 0, none⟩) HLT.out).trans (H.out.cell 0 _ rfl); have z1 := (hj.cell (p := ⟨g, 1, none⟩) HLT.out).trans (H.out.cell 1 _ rfl); (go_simp; refine hK _ _ ?_ (Below.refl _ _); simp [Rg.eq]; omega)))) ?_ rfl
  refine Rg.build_end fun wx hj => ?_
  refine Rg.fin_eq rfl ?_
  refine Rg.fin_eq rfl ?_
  refine Rg.fin_eq rfl ?_
  refine Rg.fin_eq rfl ?_
  refine Rg.fin_eq rfl ?_
  refine Rg.fin_eq rfl ?_
  refine Rg.fin_eq rfl ?_
  refine Rg.fin_eq rfl ?_
  refine Rg.fin_eq rfl ?_
  first | refine Rg.fin_eq rfl ?_ | refine Rg.fin_any rfl fun v13 h13 => ?_
  refine Rg.fin_nil ?_
  simp only [List.set_cons_zero, List.set_cons_succ]
  have HJ := Lib.hid hj; clear hj
  go_upto_region 3 with (fail)
  obtain ⟨wy, rfl⟩ : ∃ wy : World, wy = wx := ⟨_, rfl⟩
  refine Rg.wp_region_each (by kernel_rfl) (fun w' => Below w.heap.size w w') (fun w1 w2 h hb => h.trans (hb.mono h.size)) (by kernel_rfl) (by kernel_rfl) (HJ.out) ?_
  show Rg.Build _ _ _ _ _ 0 [_, _, _, _, _, _, _, _, _, _, _] []
  refine Rg.build_cons (m := 1) (r := Rg.eq _) (Rg.one_plain (by rfl) (by (intro ax wx hk Kx hK; have k0 := hk.base 0 _ rfl rfl; have hj := hk.j; clear hk; have z0 := (hj.cell (p := ⟨g, 0, none⟩) HLT.out).trans (H.out.cell 0 _ rfl); have z1 := (hj.cell (p := ⟨g, 1, none⟩) HLT.out).trans (H.out.cell 1 _ rfl); go_simp; refine hK _ _ ?_ (Below.refl _ _); apply Rg.mk))) ?_ rfl
  refine Rg.build_cons (m := 2) (r := Rg.eq _) (Rg.one_plain (by rfl) (by (intro ax wx hk Kx hK; obtain ⟨v14, k14, h14⟩ := hk.dep 0 14 _ rfl rfl rfl; (first | (cases (h14 : v14 = _)) | (obtain ⟨rfl, h14⟩ := h14) | skip); have hj := hk.j; clear hk; have z0 := (hj.cell (p := ⟨g, 0, none⟩) HLT.out).trans (H.out.cell 0 _ rfl); have z1 := (hj.cell (p := ⟨g, 1, none⟩) HLT.out).trans (H.out.cell 1 _ rfl); go_simp; refine hK _ _ ?_ (Below.refl _ _); apply Rg.mk))) ?_ rfl
  refine Rg.build_cons (m := 3) (r := Rg.eq _) (Rg.one_plain (by rfl) (by (intro ax wx hk Kx hK; obtain ⟨v15, k15, h15⟩ := hk.dep 1 15 _ rfl rfl rfl; (first | (cases (h15 : v15 = _)) | (obtain ⟨rfl, h15⟩ := h15) | skip); have hj := hk.j; clear hk; have z0 := (hj.cell (p := ⟨g, 0, none⟩) HLT.out).trans (H.out.cell 0 _ rfl); have z1 := (hj.cell (p := ⟨g, 1, none⟩) HLT.out).trans (H.out.cell 1 _ rfl); go_simp; refine hK _ _ ?_ (Below.refl _ _); apply Rg.mk))) ?_ rfl
  refine Rg.build_cons (m := 4) (r := Rg.eq _) (Rg.one_plain (by rfl) (by (intro ax wx hk Kx hK; obtain ⟨v16, k16, h16⟩ := hk.dep 2 16 _ rfl rfl rfl; (first | (cases (h16 : v16 = _)) | (obtain ⟨rfl, h16⟩ := h16) | skip); have hj := hk.j; clear hk; have z0 := (hj.cell (p := ⟨g, 0, none⟩) HLT.out).trans (H.out.cell 0 _ rfl); have z1 := (hj.cell (p := ⟨g, 1, none⟩) HLT.out).trans (H.out.cell 1 _ rfl); go_simp; refine hK _ _ ?_ (Below.refl _ _); apply Rg.mk))) ?_ rfl
  refine Rg.build_cons (m := 5) (r := Rg.eq _) (Rg.one_plain (by rfl) (by (intro ax wx hk Kx hK; have k0 := hk.base 0 _ rfl rfl; have hj := hk.j; clear hk; have z0 := (hj.cell (p := ⟨g, 0, none⟩) HLT.out).trans (H.out.cell 0 _ rfl); have z1 := (hj.cell (p := ⟨g, 1, none⟩) HLT.out).trans (H.out.cell 1 _ rfl); go_simp; refine hK _ _ ?_ (Below.refl _ _); apply Rg.mk))) ?_ rfl
  refine Rg.build_cons (m := 6) (r := Rg.eq _) (Rg.one_plain (by rfl) (by (intro ax wx hk Kx hK; obtain ⟨v18, k18, h18⟩ := hk.dep 4 18 _ rfl rfl rfl; (first | (cases (h18 : v18 = _)) | (obtain ⟨rfl, h18⟩ := h18) | skip); have hj := hk.j; clear hk; have z0 := (hj.cell (p := ⟨g, 0, none⟩) HLT.out).trans (H.out.cell 0 _ rfl); have z1 := (hj.cell (p := ⟨g, 1, none⟩) HLT.out).trans (H.out.cell 1 _ rfl); go_simp; refine hK _ _ ?_ (Below.refl _ _); apply Rg.mk))) ?_ rfl
  refine Rg.build_cons (m := 7) (r := Rg.eq _) (Rg.one_plain (by rfl) (by (intro ax wx hk Kx hK; obtain ⟨v19, k19, h19⟩ := hk.dep 5 19 _ rfl rfl rfl; (first | (cases (h19 : v19 = _)) | (obtain ⟨rfl, h19⟩ := h19) | skip); have hj := hk.j; clear hk; have z0 := (hj.cell (p := ⟨g, 0, none⟩) HLT.out).trans (H.out.cell 0 _ rfl); have z1 := (hj.cell (p := ⟨g, 1, none⟩) HLT.out).trans (H.out.cell 1 _ rfl); go_simp; refine hK _ _ ?_ (Below.refl _ _); apply Rg.mk))) ?_ rfl
  refine Rg.build_cons (m := 8) (r := Rg.eq _) (Rg.one_plain (by rfl) (by (intro ax wx hk Kx hK; obtain ⟨v20, k20, h20⟩ := hk.dep 6 20 _ rfl rfl rfl; (first | (cases (h20 : v20 = _)) | (obtain ⟨rfl, h20⟩ := h20) | skip); have hj := hk.j; clear hk; have z0 := (hj.cell (p := ⟨g, 0, none⟩) HLT.out).trans (H.out.cell 0 _ rfl); have z1 := (hj.cell (p := ⟨g, 1, none⟩) HLT.out).trans (H.out.cell 1 _ rfl); go_simp; refine hK _ _ ?_ (Below.refl _ _); apply Rg.mk))) ?_ rfl
  refine Rg.build_cons (m := 9) (r := Rg.eq (.int .u8 (ch s p))) (Rg.one_plain (by rfl) (by (intro ax wx hk Kx hK; obtain ⟨v17, k17, h17⟩ := hk.dep 3 17 _ rfl rfl rfl; (first | (cases (h17 : v17 = _)) | (obtain ⟨rfl, h17⟩ := h17) | skip); obtain ⟨v21, k21, h21⟩ := hk.dep 7 21 _ rfl rfl rfl; (first | (cases (h21 : v21 = _)) | (obtain ⟨rfl, h21⟩ := h21) | skip); have hj := hk.j; clear hk; have z0 := (hj.cell (p := ⟨g, 0, none⟩) HLT.out).trans (H.out.cell 0 _ rfl); have z1 := (hj.cell (p := ⟨g, 1, none⟩) HLT.out).trans (H.out.cell 1 _ rfl); (go_simp; refine hK _ _ ?_ (Below.refl _ _); simp [Rg.eq, hch])))) ?_ rfl
  refine Rg.build_cons (m := 10) (r := Rg.eq _) (Rg.one_plain (by rfl) (by (intro ax wx hk Kx hK; obtain ⟨v22, k22, h22⟩ := hk.dep 8 22 _ rfl rfl rfl; (first | (cases (h22 : v22 = _)) | (obtain ⟨rfl, h22⟩ := h22) | skip); have hj := hk.j; clear hk; have z0 := (hj.cell (p := ⟨g, 0, none⟩) HLT.out).trans (H.out.cell 0 _ rfl); have z1 := (hj.cell (p := ⟨g, 1, none⟩) HLT.out).trans (H.out.cell 1 _ rfl); go_simp; refine hK _ _ ?_ (Below.refl _ _); apply Rg.mk))) ?_ rfl
  refine Rg.build_cons (m := 11) (r := Rg.eq _) (Rg.one_plain (by rfl) (by (intro ax wx hk Kx hK; have hj := hk.j; clear hk; have z0 := (hj.cell (p := ⟨g, 0, none⟩) HLT.out).trans (H.out.cell 0 _ rfl); have z1 := (hj.cell (p := ⟨g, 1, none⟩) HLT.out).trans (H.out.cell 1 _ rfl); go_simp; refine hK _ _ ?_ (Below.refl _ _); apply Rg.mk))) ?_ rfl
  refine Rg.build_end fun wx hj => ?_
  refine Rg.fin_eq rfl ?_
  refine Rg.fin_eq rfl ?_
  refine Rg.fin_eq rfl ?_
  refine Rg.fin_eq rfl ?_
  refine Rg.fin_eq rfl ?_
  refine Rg.fin_eq rfl ?_
  refine Rg.fin_eq rfl ?_
  refine Rg.fin_eq rfl ?_
  first | refine Rg.fin_eq rfl ?_ | refine Rg.fin_any rfl fun v22 h22 => ?_
  refine Rg.fin_eq rfl ?_
  refine Rg.fin_eq rfl ?_
  refine Rg.fin_nil ?_
  simp only [List.set_cons_zero, List.set_cons_succ]
  have HJ2 := Lib.hid hj; clear hj
  go_wp2_with fail
  go_returns
  exact ⟨by rw [hch]; rfl, HJ2.out⟩
set_option maxRecDepth 100000 in
theorem isX (g : Nat) (s : ByteArray) (p : Nat) (o : Int) (c : Int) (w : World) (h : AtG w g 94 (rxr s p o)) (hp : p ≤ s.size) (hc : 0 ≤ c) :
    Calls Tryz.prog 84 #[.pointer (some ⟨g, 0, none⟩), .int .u8 c] w fun e w' => e = .returned (.bool (decide (ch s p = c))) ∧ Below w.heap.size w w' := by
  by_cases hlt : p < s.size
  · have HP := Lib.hid (peekX_in g s p o w h hlt)
    generalize ch s p = d at *
    clear h
    go_enter Tryz.func84, Tryz.ntmps84
    go_wp2_with fail
    refine (HP.out).mono ?_
    rintro e9 w1 ⟨rfl, hb⟩
    have HB := Lib.hid hb
    clear hb
    by_cases hd : d = c
    · subst hd
      go_wp2_with fail
      go_returns
      exact ⟨by simp, HB.out⟩
    · have hd1 : (d == c) = false := by rw [beq_eq_false_iff_ne]; exact hd
      go_wp2_with fail
      go_returns
      exact ⟨by rw [decide_eq_false hd]; simp [hd], HB.out⟩
  · have HP := Lib.hid (peekX_end g s p o w h (by omega))
    have hd : ¬ ch s p = c := by rw [ch_end (by omega)]; omega
    have HD := Lib.hid hd
    clear h hd
    go_enter Tryz.func84, Tryz.ntmps84
    go_wp2_with fail
    refine (HP.out).mono ?_
    rintro e9 w1 ⟨rfl, hb⟩
    have HB := Lib.hid hb
    clear hb
    go_wp2_with fail
    go_returns
    exact ⟨by rw [decide_eq_false HD.out]; rfl, HB.out⟩
set_option maxRecDepth 100000 in
theorem nextX_in (g : Nat) (s : ByteArray) (p : Nat) (o : Int) (w : World) (h : AtG w g 94 (rxr s p o)) (hp : p < s.size) (hs : s.size ≤ 1000) :
    Calls Tryz.prog 117 #[.pointer (some ⟨g, 0, none⟩)] w fun e w' => e = .returned (.int .u8 (ch s p)) ∧ Only (fun k => k = g) w w' ∧ AtG w' g 94 (rxr s ((p + 1 : Nat) : Int) o) := by
  have HP := Lib.hid (peekX_in g s p o w h hp)
  have H := Lib.hid h
  have hpI : (p : Int) < 1000 := by omega
  generalize ch s p = d at *
  clear h
  go_enter Tryz.func117, Tryz.ntmps117
  go_wp2_with fail
  refine (HP.out).mono ?_
  rintro e9 w1 ⟨rfl, hb⟩
  have H1 := Lib.hid (H.out.below hb); have HB := Lib.hid hb
  clear hb
  have z1 : w1.cell? ⟨g, 1, none⟩ = some (.int .i64 (p : Int)) := H1.out.cell 1 _ rfl
  have f1 := H1.out.frozen 1
  go_wp2_with fail
  go_returns
  refine ⟨rfl, (Only.of_below HB.out).trans (Only.set (S := fun k => k = g) _ _ _ _ rfl) (fun k hk => .inl hk), ?_⟩
  rw [show ((p + 1 : Nat) : Int) = (p : Int) + 1 from by omega]
  exact H1.out.set 1 _
set_option maxRecDepth 100000 in
theorem nextX_end (g : Nat) (s : ByteArray) (p : Nat) (o : Int) (w : World) (h : AtG w g 94 (rxr s p o)) (hp : p = s.size) :
    Calls Tryz.prog 117 #[.pointer (some ⟨g, 0, none⟩)] w fun e w' => Only (fun k => k = g) w w' ∧ RxNo 2 p e w' := by
  have HP := Lib.hid (peekX_end g s p o w h hp)
  have H := Lib.hid h
  clear h hp
  go_enter Tryz.func117, Tryz.ntmps117
  go_wp2_with fail
  refine (HP.out).mono ?_
  rintro e9 w1 ⟨rfl, hb⟩
  have H1 := Lib.hid (H.out.below hb); have HB := Lib.hid hb
  clear hb
  have z1 : w1.cell? ⟨g, 1, none⟩ = some (.int .i64 (p : Int)) := H1.out.cell 1 _ rfl
  go_wp2_with fail
  refine (failX g p 2 _).mono ?_
  rintro e9 w2 ⟨hb2, b, rfl, ha⟩
  exact ⟨rfl, (Only.of_below HB.out).trans (Only.of_below (S := fun k => k = g) hb2) (fun k hk => .inl hk), b, rfl, ha⟩
theorem RxNo.below {c : Int} {x : Nat} {e : Ending} {w w' : World} (h : RxNo c x e w) (hb : Below w.heap.size w w') : RxNo c x e w' := by
  obtain ⟨b, h1, h2⟩ := h; exact ⟨b, h1, h2.below hb⟩
end Go.Proofs.YtgjcibhhffkemaaGreatDoor
namespace Go.Proofs.YtgjcibhhffkemaaGreatDoor
open Go.RowKit Bt
def wantF (s : ByteArray) (c : Int) (p : Nat) : Re Unit := if ch s p = c then .ok () (p + 1) else .no 2 p
set_option maxRecDepth 100000 in
theorem wantX (g : Nat) (s : ByteArray) (p o : Nat) (c : Int) (w : World) (h : AtG w g 94 (rxr s p o)) (hp : p ≤ s.size) (hs : s.size ≤ 1000) (hc : 0 ≤ c) :
    Calls Tryz.prog 127 #[.pointer (some ⟨g, 0, none⟩), .int .u8 c] w (RxP g s o w (wantF s c p) (fun _ => .tuple #[])) := by
  by_cases hlt : p < s.size
  · have HN := Lib.hid (nextX_in g s p o w h hlt hs)
    have HF := Lib.hid (show wantF s c p = if ch s p = c then .ok () (p + 1) else .no 2 p from rfl)
    have hpI : (p : Int) < 1000 := by omega
    generalize wantF s c p = R at *
    generalize ch s p = d at *
    clear h
    go_enter Tryz.func127, Tryz.ntmps127
    go_wp2_with fail
    refine (HN.out).mono ?_
    rintro e9 w1 ⟨rfl, ho, ha⟩
    have HO := Lib.hid ho; have HA := Lib.hid ha
    clear ho ha HN
    by_cases hd : d = c
    · have HR := Lib.hid (HF.out.trans (if_pos hd))
      subst hd
      clear HF
      go_wp2_with fail
      refine bodyPost_ret (v := .tuple #[]) (by simp [results, Tryz.results127, go_sem]; try rfl) rfl ?_
      rw [HR.out]
      exact ⟨HO.out, rfl, HA.out⟩
    · have HR := Lib.hid (HF.out.trans (if_neg hd))
      have hd1 : (d == c) = false := by rw [beq_eq_false_iff_ne]; exact hd
      have z1 : w1.cell? ⟨g, 1, none⟩ = some (.int .i64 ((p + 1 : Nat) : Int)) := HA.out.cell 1 _ rfl
      rw [show ((p + 1 : Nat) : Int) = (p : Int) + 1 from by omega] at z1
      have hw1 : (p : Int) + 1 - 1 = (p : Int) := by omega
      clear HF
      go_wp2_with fail
      refine (failX g p 2 _).mono ?_
      rintro e9 w2 ⟨hb2, b, rfl, hx⟩
      refine ⟨rfl, ?_⟩
      rw [HR.out]
      exact ⟨HO.out.tb hb2, b, rfl, hx⟩
  · have hpe : p = s.size := by omega
    have HN := Lib.hid (nextX_end g s p o w h hpe)
    have hd : ¬ ch s p = c := by rw [ch_end (by omega)]; omega
    have HR := Lib.hid (show wantF s c p = .no 2 p from if_neg hd)
    clear h hpe hd
    generalize wantF s c p = R at *
    go_enter Tryz.func127, Tryz.ntmps127
    go_wp2_with fail
    refine (HN.out).mono ?_
    rintro e9 w1 ⟨ho, b, rfl, hx⟩
    refine ⟨rfl, ?_⟩
    rw [HR.out]
    exact ⟨ho, b, rfl, hx⟩
theorem digitX (c : Int) (w : World) : Calls Tryz.prog 133 #[.int .u8 c] w fun e w' => e = .returned (.bool (decide (48 ≤ c ∧ c ≤ 57))) ∧ w' = w := by
  by_cases h1 : 48 ≤ c
  · by_cases h2 : c ≤ 57
    · have HD := Lib.hid (show decide (48 ≤ c ∧ c ≤ 57) = true from decide_eq_true ⟨h1, h2⟩)
      rw [HD.out]
      go_enter Tryz.func133, Tryz.ntmps133
      go_wp2
      go_returns
      exact ⟨rfl, rfl⟩
    · have HD := Lib.hid (show decide (48 ≤ c ∧ c ≤ 57) = false from decide_eq_false (fun h => h2 h.2))
      rw [HD.out]
      have h3 : ¬ c ≤ 57 := h2
      go_enter Tryz.func133, Tryz.ntmps133
      go_wp2
      go_returns
      exact ⟨by first | rfl | simp [h3] | (simp; omega), rfl⟩
  · have HD := Lib.hid (show decide (48 ≤ c ∧ c ≤ 57) = false from decide_eq_false (fun h => h1 h.1))
    rw [HD.out]
    go_enter Tryz.func133, Tryz.ntmps133
    go_wp2
    go_returns
    exact ⟨by first | rfl | simp [h1] | (simp; omega), rfl⟩
end Go.Proofs.YtgjcibhhffkemaaGreatDoor
namespace Go.Proofs.YtgjcibhhffkemaaGreatDoor
open Go.RowKit Bt
set_option maxRecDepth 100000 in
set_option maxHeartbeats 800000 in
theorem numX (g : Nat) (s : ByteArray) (p o : Nat) (w : World) (h : AtG w g 94 (rxr s p o)) (hp : p ≤ s.size) (hs : s.size ≤ 900) :
    Calls Tryz.prog 126 #[.pointer (some ⟨g, 0, none⟩)] w (RxP g s o w (numF s p) (fun n => .int .i64 n)) := by
  by_cases hlt : p < s.size
  · have HN := Lib.hid (nextX_in g s p o w h hlt (by omega))
    have HP1 := Lib.hid (fun (w1 : World) (h1 : AtG w1 g 94 (rxr s ((p + 1 : Nat) : Int) o)) (hq : p + 1 < s.size) => peekX_in g s (p + 1) o w1 h1 hq)
    have HP2 := Lib.hid (fun (w1 : World) (h1 : AtG w1 g 94 (rxr s ((p + 1 : Nat) : Int) o)) (hq : p + 1 = s.size) => peekX_end g s (p + 1) o w1 h1 hq)
    have HF := Lib.hid (show numF s p = if ch s p < 48 ∨ 57 < ch s p then .no 2 p else if 48 ≤ ch s (p + 1) ∧ ch s (p + 1) ≤ 57 then .ok (10 * (ch s p - 48) + ch s (p + 1) - 48) (p + 2) else .ok (ch s p - 48) (p + 1) from rfl)
    have HE := Lib.hid (fun (hq : p + 1 = s.size) => ch_end (s := s) (p := p + 1) (by omega))
    have hpI : (p : Int) < 1000 := by omega
    have hl1 := ch_lt s (p + 1)
    have hl0 := ch_pos hlt
    have hl2 := (ch_lt s p).2
    generalize numF s p = R at *
    generalize ch s (p + 1) = d1 at *
    generalize ch s p = d at *
    have HD := Lib.hid (digitX d)
    clear h
    go_enter Tryz.func126, Tryz.ntmps126
    go_wp2_with fail
    refine (HN.out).mono ?_
    rintro e9 w1 ⟨rfl, ho, ha⟩
    have HO := Lib.hid ho; have HA := Lib.hid ha
    clear ho ha HN
    go_wp2_with fail
    refine (HD.out _).mono ?_
    rintro e9 w9 ⟨rfl, hw9⟩; subst hw9
    by_cases hd : 48 ≤ d ∧ d ≤ 57
    · rw [decide_eq_true hd]
      have HR := Lib.hid (HF.out.trans (if_neg (by omega)))
      obtain ⟨d48, d57⟩ := hd
      clear HF
      by_cases hq : p + 1 < s.size
      · have HPQ := Lib.hid (HP1.out w9 HA.out hq)
        have HD1 := Lib.hid (digitX d1)
        go_wp2_with fail
        refine (HPQ.out).mono ?_
        rintro e9 w2 ⟨rfl, hb⟩
        have HO2 := Lib.hid (HO.out.tb hb); have HA2 := Lib.hid (HA.out.below hb)
        clear hb HP1 HP2 HPQ
        go_wp2_with fail
        refine (HD1.out _).mono ?_
        rintro e9 w8 ⟨rfl, hw8⟩; subst hw8
        by_cases he : 48 ≤ d1 ∧ d1 ≤ 57
        · rw [decide_eq_true he]
          have HR2 := Lib.hid (HR.out.trans (if_pos he))
          obtain ⟨e48, e57⟩ := he
          have z1 : w8.cell? ⟨g, 1, none⟩ = some (.int .i64 ((p + 1 : Nat) : Int)) := HA2.out.cell 1 _ rfl
          rw [show ((p + 1 : Nat) : Int) = (p : Int) + 1 from by omega] at z1
          have f1 := HA2.out.frozen 1
          clear HR HE
          go_wp2_with fail
          refine bodyPost_ret (v := .int .i64 (10 * (d - 48) + d1 - 48)) (by simp [results, Tryz.results126, go_sem]; try omega) rfl ?_
          rw [HR2.out]
          refine ⟨HO2.out.st _ _ _ (.inl rfl), rfl, ?_⟩
          have := HA2.out.set 1 (.int .i64 ((p : Int) + 1 + 1))
          rw [show ((p + 2 : Nat) : Int) = (p : Int) + 1 + 1 from by omega]
          exact this
        · rw [decide_eq_false he]
          have HR2 := Lib.hid (HR.out.trans (if_neg he))
          clear HR HE he
          go_wp2_with fail
          refine bodyPost_ret (v := .int .i64 (d - 48)) (by simp [results, Tryz.results126, go_sem]; try omega) rfl ?_
          rw [HR2.out]
          exact ⟨HO2.out, rfl, HA2.out⟩
      · have hqe : p + 1 = s.size := by omega
        have HPQ := Lib.hid (HP2.out w9 HA.out hqe)
        have HR2 := Lib.hid (HR.out.trans (if_neg (by have := HE.out hqe; omega)))
        clear HR HE HP1 HP2 hqe hq hp hlt
        go_wp2_with fail
        refine (HPQ.out).mono ?_
        rintro e9 w2 ⟨rfl, hb⟩
        have HO2 := Lib.hid (HO.out.tb hb); have HA2 := Lib.hid (HA.out.below hb)
        clear hb HPQ
        go_wp2_with fail
        refine bodyPost_ret (v := .int .i64 (d - 48)) (by simp [results, Tryz.results126, go_sem]; try omega) rfl ?_
        rw [HR2.out]
        exact ⟨HO2.out, rfl, HA2.out⟩
    · rw [decide_eq_false hd]
      have HR := Lib.hid (HF.out.trans (if_pos (by omega)))
      have z1 : w9.cell? ⟨g, 1, none⟩ = some (.int .i64 ((p + 1 : Nat) : Int)) := HA.out.cell 1 _ rfl
      rw [show ((p + 1 : Nat) : Int) = (p : Int) + 1 from by omega] at z1
      clear HF HE HP1 HP2 hd
      go_wp2_with fail
      refine (failX g p 2 _).mono ?_
      rintro e9 w2 ⟨hb2, b, rfl, hx⟩
      refine ⟨rfl, ?_⟩
      rw [HR.out]
      exact ⟨HO.out.tb hb2, b, rfl, hx⟩
  · have hpe : p = s.size := by omega
    have HN := Lib.hid (nextX_end g s p o w h hpe)
    have HR := Lib.hid (show numF s p = .no 2 p from by unfold numF; rw [if_pos (.inl (by rw [ch_end (by omega)]; decide))])
    clear h hpe hlt hp
    generalize numF s p = R at *
    go_enter Tryz.func126, Tryz.ntmps126
    go_wp2_with fail
    refine (HN.out).mono ?_
    rintro e9 w1 ⟨ho, b, rfl, hx⟩
    refine ⟨rfl, ?_⟩
    rw [HR.out]
    exact ⟨ho, b, rfl, hx⟩
set_option maxRecDepth 100000 in
set_option maxHeartbeats 800000 in
theorem timesX (g : Nat) (s : ByteArray) (p o : Nat) (w : World) (h : AtG w g 94 (rxr s p o)) (hp : p ≤ s.size) (hs : s.size ≤ 900) :
    Calls Tryz.prog 107 #[.pointer (some ⟨g, 0, none⟩)] w (RxP g s o w (timesF s p) (fun n => .tuple #[.int .i64 n.1, .int .i64 n.2])) := by
  have HN := Lib.hid (numX g s p o w h hp hs)
  have HIN := Lib.hid (numF_in s p hp)
  have HF := Lib.hid (show timesF s p = match numF s p with | .no c x => .no c x | .ok low q => timesE s low (if ch s q = 44 then numF s (q + 1) else .ok low q) from rfl)
  generalize timesF s p = R at *
  clear h
  go_enter Tryz.func107, Tryz.ntmps107
  go_wp2_with fail
  refine (HN.out).mono ?_
  cases hn : numF s p with
  | no c x =>
    rw [hn] at HF
    rintro e9 w1 ⟨ho, b, rfl, hx⟩
    refine ⟨rfl, ?_⟩
    rw [HF.out]
    exact ⟨ho, b, rfl, hx⟩
  | ok low q =>
    rw [hn] at HF HIN
    have hq : p + 1 ≤ q ∧ q ≤ s.size := HIN.out.1
    have hlow := HIN.out.2 low q rfl
    obtain ⟨lo0, lo1⟩ := hlow
    rintro e9 w1 ⟨ho, rfl, ha⟩
    have HO := Lib.hid ho; have HA := Lib.hid ha
    have HRS0 := Lib.hid hq.2
    have HI := isX g s q o 44 w1 ha hq.2 (by decide)
    dsimp only at HF
    clear ho ha HN HIN hn
    by_cases h44 : ch s q = 44
    · have HR0 := Lib.hid (show R = timesE s low (numF s (q + 1)) by rw [HF.out, if_pos h44])
      have hqlt : q < s.size := ch_ge (by omega)
      rw [decide_eq_true h44] at HI
      have HI := Lib.hid HI
      have HIN2 := Lib.hid (numF_in s (q + 1) hqlt)
      have hqI : (q : Int) < 1000 := by omega
      have HQL := Lib.hid hqlt
      clear HF h44 hqlt hq
      go_wp2_with fail
      refine (HI.out).mono ?_
      rintro e9 w2 ⟨rfl, hb⟩
      have HO2 := Lib.hid ((HO.out.tb hb).st g 1 (.int .i64 ((q : Int) + 1)) (.inl rfl)); have HA2 := Lib.hid (HA.out.below hb)
      have z1 : w2.cell? ⟨g, 1, none⟩ = some (.int .i64 (q : Int)) := HA2.out.cell 1 _ rfl
      have f1 := HA2.out.frozen 1
      have HA3 : Hid (AtG (w2.setCell ⟨g, 1, none⟩ (.int .i64 ((q : Int) + 1))) g 94 (rxr s ((q + 1 : Nat) : Int) o)) := Lib.hid (by
        rw [show ((q + 1 : Nat) : Int) = (q : Int) + 1 from by omega]; exact HA2.out.set 1 _)
      have HN2 := Lib.hid (numX g s (q + 1) o _ HA3.out HQL.out hs)
      clear hb HI
      go_wp2_with fail
      refine (HN2.out).mono ?_
      cases hn : numF s (q + 1) with
      | no c x =>
        rw [hn] at HR0
        have HR := Lib.hid (HR0.out.trans (show timesE s low (.no c x) = .no c x from rfl))
        rintro e9 w3 ⟨ho, b, rfl, hx⟩
        refine ⟨rfl, ?_⟩
        rw [HR.out]
        exact ⟨HO2.out.tr ho, b, rfl, hx⟩
      | ok high r =>
        rw [hn] at HR0 HIN2
        have HR := Lib.hid HR0.out
        have hr : q + 1 + 1 ≤ r ∧ r ≤ s.size := HIN2.out.1
        obtain ⟨hi0, hi1⟩ := HIN2.out.2 high r rfl
        have HRS := Lib.hid hr.2
        rintro e9 w3 ⟨ho, rfl, ha⟩
        have HO4 := Lib.hid (HO2.out.tr ho); have HA4 := Lib.hid ha
        clear ho ha HN2 HR0 HIN2 hn hr HO HA HA2 HA3 z1 f1 HO2
        have HWT := Lib.hid (wantX g s r o 125 w3 HA4.out HRS.out (by omega) (by decide))
        have HWF := Lib.hid (show wantF s 125 r = if ch s r = 125 then .ok () (r + 1) else .no 2 r from rfl)
        have HTE := Lib.hid (show timesE s low (.ok high r) = if ch s r ≠ 125 ∨ high < 1 ∨ 32 < high ∨ high < low then .no 2 r else .ok (low, high) (r + 1) from rfl)
        have hrI : (r : Int) < 1000 := by have := HRS.out; omega
        generalize wantF s 125 r = WR at *
        generalize timesE s low (.ok high r) = TR at *
        generalize ch s r = dr at *
        go_wp2_with fail
        refine (HWT.out).mono ?_
        by_cases hdr : dr = 125
        · have HWR := Lib.hid (HWF.out.trans (if_pos hdr))
          rw [HWR.out]
          rintro e9 wt ⟨ho, rfl, ha⟩
          have HOt := Lib.hid (HO4.out.tr ho); have HAt := Lib.hid ha
          clear ho ha
          by_cases hbad : high < 1 ∨ 32 < high ∨ high < low
          · have HTR := Lib.hid (HTE.out.trans (if_pos (.inr hbad)))
            have z1 : wt.cell? ⟨g, 1, none⟩ = some (.int .i64 ((r + 1 : Nat) : Int)) := HAt.out.cell 1 _ rfl
            rw [show ((r + 1 : Nat) : Int) = (r : Int) + 1 from by omega] at z1
            clear HTE HWF HWR HWT hdr
            have HBD := Lib.hid hbad
            by_cases b1 : high < 1
            · clear hbad
              go_wp2_with fail
              refine (failX g r 2 _).mono ?_
              rintro e9 w2 ⟨hb2, b, rfl, hx⟩
              refine ⟨rfl, ?_⟩
              rw [HR.out, HTR.out]
              exact ⟨HOt.out.tb hb2, b, rfl, hx⟩
            · by_cases b2 : 32 < high
              · clear hbad
                go_wp2_with fail
                refine (failX g r 2 _).mono ?_
                rintro e9 w2 ⟨hb2, b, rfl, hx⟩
                refine ⟨rfl, ?_⟩
                rw [HR.out, HTR.out]
                exact ⟨HOt.out.tb hb2, b, rfl, hx⟩
              · have b3 : high < low := by omega
                try (exfalso; omega)
                all_goals clear hbad
                all_goals (go_wp2_with fail)
                all_goals (refine (failX g r 2 _).mono ?_; rintro e9 w2 ⟨hb2, b, rfl, hx⟩; refine ⟨rfl, ?_⟩; rw [HR.out, HTR.out]; exact ⟨HOt.out.tb hb2, b, rfl, hx⟩)
          · have HTR := Lib.hid (HTE.out.trans (if_neg (by omega)))
            have b1 : ¬ high < 1 := by omega
            have b2 : ¬ 32 < high := by omega
            have b3 : ¬ high < low := by omega
            clear HTE HWF HWR HWT hdr hbad
            go_wp2_with fail
            refine bodyPost_ret (v := .tuple #[.int .i64 low, .int .i64 high]) (by simp [results, Tryz.results107, go_sem]; try rfl) rfl ?_
            rw [HR.out, HTR.out]
            exact ⟨HOt.out, rfl, HAt.out⟩
        · have HWR := Lib.hid (HWF.out.trans (if_neg hdr))
          have HTR := Lib.hid (HTE.out.trans (if_pos (.inl hdr)))
          rw [HWR.out]
          rintro e9 wt ⟨ho, b, rfl, hx⟩
          refine ⟨rfl, ?_⟩
          rw [HR.out, HTR.out]
          exact ⟨HO4.out.tr ho, b, rfl, hx⟩
    · have HR := Lib.hid (show R = timesE s low (.ok low q) by rw [HF.out, if_neg h44])
      rw [decide_eq_false h44] at HI
      have HI := Lib.hid HI
      have HRS := Lib.hid hq.2
      clear HF h44 hq
      go_wp2_with fail
      refine (HI.out).mono ?_
      rintro e9 w2 ⟨rfl, hb⟩
      have HO4 := Lib.hid (HO.out.tb hb); have HA4 := Lib.hid (HA.out.below hb)
      clear hb HI HO HA
      have HWT := Lib.hid (wantX g s q o 125 w2 HA4.out HRS.out (by omega) (by decide))
      have HWF := Lib.hid (show wantF s 125 q = if ch s q = 125 then .ok () (q + 1) else .no 2 q from rfl)
      have HTE := Lib.hid (show timesE s low (.ok low q) = if ch s q ≠ 125 ∨ low < 1 ∨ 32 < low ∨ low < low then .no 2 q else .ok (low, low) (q + 1) from rfl)
      have hrI : (q : Int) < 1000 := by have := HRS.out; omega
      generalize wantF s 125 q = WR at *
      generalize timesE s low (.ok low q) = TR at *
      generalize ch s q = dr at *
      go_wp2_with fail
      refine (HWT.out).mono ?_
      by_cases hdr : dr = 125
      · have HWR := Lib.hid (HWF.out.trans (if_pos hdr))
        rw [HWR.out]
        rintro e9 wt ⟨ho, rfl, ha⟩
        have HOt := Lib.hid (HO4.out.tr ho); have HAt := Lib.hid ha
        clear ho ha
        by_cases hbad : low < 1 ∨ 32 < low ∨ low < low
        · have HTR := Lib.hid (HTE.out.trans (if_pos (.inr hbad)))
          have z1 : wt.cell? ⟨g, 1, none⟩ = some (.int .i64 ((q + 1 : Nat) : Int)) := HAt.out.cell 1 _ rfl
          rw [show ((q + 1 : Nat) : Int) = (q : Int) + 1 from by omega] at z1
          clear HTE HWF HWR HWT hdr
          have HBD := Lib.hid hbad
          by_cases b1 : low < 1
          · clear hbad
            go_wp2_with fail
            refine (failX g q 2 _).mono ?_
            rintro e9 w2 ⟨hb2, b, rfl, hx⟩
            refine ⟨rfl, ?_⟩
            rw [HR.out, HTR.out]
            exact ⟨HOt.out.tb hb2, b, rfl, hx⟩
          · by_cases b2 : 32 < low
            · clear hbad
              go_wp2_with fail
              refine (failX g q 2 _).mono ?_
              rintro e9 w2 ⟨hb2, b, rfl, hx⟩
              refine ⟨rfl, ?_⟩
              rw [HR.out, HTR.out]
              exact ⟨HOt.out.tb hb2, b, rfl, hx⟩
            · have b3 : low < low := by omega
              try (exfalso; omega)
              all_goals clear hbad
              all_goals (go_wp2_with fail)
              all_goals (refine (failX g q 2 _).mono ?_; rintro e9 w2 ⟨hb2, b, rfl, hx⟩; refine ⟨rfl, ?_⟩; rw [HR.out, HTR.out]; exact ⟨HOt.out.tb hb2, b, rfl, hx⟩)
        · have HTR := Lib.hid (HTE.out.trans (if_neg (by omega)))
          have b1 : ¬ low < 1 := by omega
          have b2 : ¬ 32 < low := by omega
          have b3 : ¬ low < low := by omega
          clear HTE HWF HWR HWT hdr hbad
          go_wp2_with fail
          refine bodyPost_ret (v := .tuple #[.int .i64 low, .int .i64 low]) (by simp [results, Tryz.results107, go_sem]; try rfl) rfl ?_
          rw [HR.out, HTR.out]
          exact ⟨HOt.out, rfl, HAt.out⟩
      · have HWR := Lib.hid (HWF.out.trans (if_neg hdr))
        have HTR := Lib.hid (HTE.out.trans (if_pos (.inl hdr)))
        rw [HWR.out]
        rintro e9 wt ⟨ho, b, rfl, hx⟩
        refine ⟨rfl, ?_⟩
        rw [HR.out, HTR.out]
        exact ⟨HO4.out.tr ho, b, rfl, hx⟩
end Go.Proofs.YtgjcibhhffkemaaGreatDoor
namespace Go.Proofs.YtgjcibhhffkemaaGreatDoor
open Go.RowKit Bt Go.Lib
def spcX : ByteArray := ⟨#[92, 46, 91, 93, 40, 41, 123, 125, 124, 63, 42, 43, 94, 36, 45, 47]⟩
theorem spc_all : (List.range 256).all (fun n => (decide (indexByte spcX.data.toList n.toUInt8 < 0) == !decide ((n : Int) ∈ spc)) && decide (indexByte spcX.data.toList n.toUInt8 < 100)) = true := by kernel_rfl
theorem spc_ix (c : Int) (h0 : 0 ≤ c) (h1 : c < 256) : (indexByte spcX.data.toList c.toNat.toUInt8 < 0 ↔ c ∉ spc) := by
  have h := List.all_eq_true.1 spc_all c.toNat (List.mem_range.2 (by omega))
  rw [Bool.and_eq_true, beq_iff_eq, Int.toNat_of_nonneg h0] at h
  have h2 := h.1
  by_cases hc : c ∈ spc
  · rw [decide_eq_true hc] at h2
    exact ⟨(fun h => by rw [decide_eq_true h] at h2; cases h2), fun h => absurd hc h⟩
  · rw [decide_eq_false hc] at h2
    exact ⟨fun _ => hc, fun _ => of_decide_eq_true h2⟩
theorem run_ixs (s : ByteArray) (c : Int) (w : World) : (callFunc 93 #[.string s, .int .u8 c]).run Tryz.prog w = .ok (.value (.int .i64 (indexByte s.data.toList c.toNat.toUInt8))) w := by
  rw [run_callFunc_extern (P := Tryz.prog) (f := 93) (fn := Tryz.f93) (e := Extern.BytealgIndexByte.indexByte) (by kernel_rfl) (by kernel_rfl) (by kernel_rfl) (by kernel_rfl) (by kernel_rfl), run_indexByteString]
  rfl
theorem ixL (s : ByteArray) (c : Int) (w : World) : Calls Tryz.prog 81 #[.string s, .int .u8 c] w fun e w' => e = .returned (.int .i64 (indexByte s.data.toList c.toNat.toUInt8)) ∧ w' = w := by
  have hd := run_ixs s c w
  generalize indexByte s.data.toList c.toNat.toUInt8 = r at *
  go_enter Tryz.func81, Tryz.ntmps81
  go_wp2
  go_returns
  exact ⟨rfl, rfl⟩
theorem ixS (s : ByteArray) (c : Int) (w : World) : Calls Tryz.prog 59 #[.string s, .int .u8 c] w fun e w' => e = .returned (.int .i64 (indexByte s.data.toList c.toNat.toUInt8)) ∧ w' = w := by
  have hd := Lib.hid (ixL s c w)
  generalize indexByte s.data.toList c.toNat.toUInt8 = r at *
  go_enter Tryz.func59, Tryz.ntmps59
  go_wp2_with fail
  refine (hd.out).mono ?_
  rintro e9 w9 ⟨rfl, hw9⟩; subst hw9
  go_wp2_with fail
  go_returns
  exact ⟨rfl, rfl⟩
set_option maxRecDepth 100000 in
set_option maxHeartbeats 800000 in
theorem escX (g : Nat) (s : ByteArray) (p o : Nat) (w : World) (h : AtG w g 94 (rxr s p o)) (hp : p ≤ s.size) (hs : s.size ≤ 900) :
    Calls Tryz.prog 124 #[.pointer (some ⟨g, 0, none⟩)] w (RxP g s o w (escF s p) (fun n => .int .u8 (n : Int))) := by
  by_cases hlt : p < s.size
  · have HN := Lib.hid (nextX_in g s p o w h hlt (by omega))
    have HF := Lib.hid (show escF s p = if ch s p = 110 then .ok 10 (p + 1) else if ch s p = 116 then .ok 9 (p + 1) else if ch s p ∈ spc then .ok (ch s p).toNat (p + 1) else .no 2 p from rfl)
    have hpI : (p : Int) < 1000 := by omega
    have hl0 := ch_pos hlt
    have hl2 := (ch_lt s p).2
    generalize escF s p = R at *
    generalize ch s p = d at *
    have HIX := Lib.hid (ixS spcX d)
    have HSP := Lib.hid (spc_ix d hl0 hl2)
    generalize indexByte spcX.data.toList d.toNat.toUInt8 = ix at *
    clear h
    go_enter Tryz.func124, Tryz.ntmps124
    go_wp2_with fail
    refine (HN.out).mono ?_
    rintro e9 w1 ⟨rfl, ho, ha⟩
    have HO := Lib.hid ho; have HA := Lib.hid ha
    clear ho ha HN
    by_cases h1 : d = 110
    · have HR := Lib.hid (HF.out.trans (if_pos h1))
      subst h1
      clear HF HIX HSP
      go_wp2_with fail
      refine bodyPost_ret (v := .int .u8 10) (by simp [results, Tryz.results124, go_sem]; try rfl) rfl ?_
      rw [HR.out]
      exact ⟨HO.out, rfl, HA.out⟩
    · have HF1 := Lib.hid (HF.out.trans (if_neg h1))
      have e1 : (d == 110) = false := by rw [beq_eq_false_iff_ne]; exact h1
      by_cases h2 : d = 116
      · have HR := Lib.hid (HF1.out.trans (if_pos h2))
        subst h2
        clear HF HF1 HIX HSP
        go_wp2_with fail
        refine bodyPost_ret (v := .int .u8 9) (by simp [results, Tryz.results124, go_sem]; try rfl) rfl ?_
        rw [HR.out]
        exact ⟨HO.out, rfl, HA.out⟩
      · have HF2 := Lib.hid (HF1.out.trans (if_neg h2))
        have e2 : (d == 116) = false := by rw [beq_eq_false_iff_ne]; exact h2
        clear HF HF1
        go_wp2_with fail
        refine (HIX.out _).mono ?_
        rintro e9 w9 ⟨rfl, hw9⟩; subst hw9
        by_cases h3 : d ∈ spc
        · have HR := Lib.hid (HF2.out.trans (if_pos h3))
          have h4 : ¬ ix < 0 := fun h => (HSP.out.1 h) h3
          clear HF2 HSP h3
          go_wp2_with fail
          refine bodyPost_ret (v := .int .u8 d) (by simp [results, Tryz.results124, go_sem]; try rfl) rfl ?_
          rw [HR.out]
          refine ⟨HO.out, ?_, HA.out⟩
          show Ending.returned (.int .u8 d) = Ending.returned (.int .u8 ((d.toNat : Nat) : Int))
          rw [Int.toNat_of_nonneg hl0]
        · have HR := Lib.hid (HF2.out.trans (if_neg h3))
          have h4 : ix < 0 := HSP.out.2 h3
          have z1 : w9.cell? ⟨g, 1, none⟩ = some (.int .i64 ((p + 1 : Nat) : Int)) := HA.out.cell 1 _ rfl
          rw [show ((p + 1 : Nat) : Int) = (p : Int) + 1 from by omega] at z1
          clear HF2 HSP h3
          go_wp2_with fail
          refine (failX g p 2 _).mono ?_
          rintro e9 w2 ⟨hb2, b, rfl, hx⟩
          refine ⟨rfl, ?_⟩
          rw [HR.out]
          exact ⟨HO.out.tb hb2, b, rfl, hx⟩
  · have hpe : p = s.size := by omega
    have HN := Lib.hid (nextX_end g s p o w h hpe)
    have HR := Lib.hid (show escF s p = .no 2 p from by unfold escF; rw [ch_end (by omega), if_neg (by decide), if_neg (by decide), if_neg (by decide)])
    clear h hpe hlt hp
    generalize escF s p = R at *
    go_enter Tryz.func124, Tryz.ntmps124
    go_wp2_with fail
    refine (HN.out).mono ?_
    rintro e9 w1 ⟨ho, b, rfl, hx⟩
    refine ⟨rfl, ?_⟩
    rw [HR.out]
    exact ⟨ho, b, rfl, hx⟩
set_option maxRecDepth 100000 in
set_option maxHeartbeats 800000 in
theorem memX (g : Nat) (s : ByteArray) (p o : Nat) (w : World) (h : AtG w g 94 (rxr s p o)) (hp : p ≤ s.size) (hs : s.size ≤ 900) :
    Calls Tryz.prog 136 #[.pointer (some ⟨g, 0, none⟩)] w (RxP g s o w (memberF s p) (fun n => .int .u8 (n : Int))) := by
  by_cases hlt : p < s.size
  · have HN := Lib.hid (nextX_in g s p o w h hlt (by omega))
    have HES := Lib.hid (fun (w1 : World) (h1 : AtG w1 g 94 (rxr s ((p + 1 : Nat) : Int) o)) => escX g s (p + 1) o w1 h1 hlt hs)
    have hpI : (p : Int) < 1000 := by omega
    have hl0 := ch_pos hlt
    have HF := Lib.hid (show memberF s p = if ch s p = 93 then .no 2 p else if ch s p = 92 then escF s (p + 1) else .ok (ch s p).toNat (p + 1) from by unfold memberF; rw [if_neg (by omega)])
    generalize memberF s p = R at *
    generalize escF s (p + 1) = E at *
    generalize ch s p = d at *
    clear h
    go_enter Tryz.func136, Tryz.ntmps136
    go_wp2_with fail
    refine (HN.out).mono ?_
    rintro e9 w1 ⟨rfl, ho, ha⟩
    have HO := Lib.hid ho; have HA := Lib.hid ha
    clear ho ha HN
    by_cases h1 : d = 93
    · have HR := Lib.hid (HF.out.trans (if_pos h1))
      have z1 : w1.cell? ⟨g, 1, none⟩ = some (.int .i64 ((p + 1 : Nat) : Int)) := HA.out.cell 1 _ rfl
      rw [show ((p + 1 : Nat) : Int) = (p : Int) + 1 from by omega] at z1
      subst h1
      clear HF HES
      go_wp2_with fail
      refine (failX g p 2 _).mono ?_
      rintro e9 w2 ⟨hb2, b, rfl, hx⟩
      refine ⟨rfl, ?_⟩
      rw [HR.out]
      exact ⟨HO.out.tb hb2, b, rfl, hx⟩
    · have HF1 := Lib.hid (HF.out.trans (if_neg h1))
      have e1 : (d == 93) = false := by rw [beq_eq_false_iff_ne]; exact h1
      by_cases h2 : d = 92
      · have HR := Lib.hid (HF1.out.trans (if_pos h2))
        have HEC := Lib.hid (HES.out w1 HA.out)
        subst h2
        clear HF HF1 HES
        go_wp2_with fail
        refine (HEC.out).mono ?_
        cases E with
        | no c x =>
          rintro e9 w2 ⟨ho, b, rfl, hx⟩
          refine ⟨rfl, ?_⟩
          rw [HR.out]
          exact ⟨HO.out.tr ho, b, rfl, hx⟩
        | ok a q =>
          rintro e9 w2 ⟨ho, rfl, ha⟩
          have HO2 := Lib.hid (HO.out.tr ho); have HA2 := Lib.hid ha
          clear ho ha HEC
          go_wp2_with fail
          refine bodyPost_ret (v := .int .u8 (a : Int)) (by simp [results, Tryz.results136, go_sem]; try rfl) rfl ?_
          rw [HR.out]
          exact ⟨HO2.out, rfl, HA2.out⟩
      · have HR := Lib.hid (HF1.out.trans (if_neg h2))
        have e2 : (d == 92) = false := by rw [beq_eq_false_iff_ne]; exact h2
        clear HF HF1 HES
        go_wp2_with fail
        refine bodyPost_ret (v := .int .u8 d) (by simp [results, Tryz.results136, go_sem]; try rfl) rfl ?_
        rw [HR.out]
        refine ⟨HO.out, ?_, HA.out⟩
        show Ending.returned (.int .u8 d) = Ending.returned (.int .u8 ((d.toNat : Nat) : Int))
        rw [Int.toNat_of_nonneg hl0]
  · have hpe : p = s.size := by omega
    have HN := Lib.hid (nextX_end g s p o w h hpe)
    have HR := Lib.hid (show memberF s p = .no 2 p from by unfold memberF; rw [if_pos (by rw [ch_end (by omega)]; decide)])
    clear h hpe hlt hp
    generalize memberF s p = R at *
    go_enter Tryz.func136, Tryz.ntmps136
    go_wp2_with fail
    refine (HN.out).mono ?_
    rintro e9 w1 ⟨ho, b, rfl, hx⟩
    refine ⟨rfl, ?_⟩
    rw [HR.out]
    exact ⟨ho, b, rfl, hx⟩
end Go.Proofs.YtgjcibhhffkemaaGreatDoor
namespace Go.Proofs.YtgjcibhhffkemaaGreatDoor
open Go.RowKit Bt
theorem rangeP (a b : Nat) (w : World) (ha : a < 256) (hb : b < 256) :
    Calls Tryz.prog 132 #[.int .u8 (a : Int), .int .u8 (b : Int)] w fun e w' => e = .returned (setOf (spanF a (b + 1))) ∧ Below w.heap.size w w' := by
  have := range_any (a : Int) (b : Int) w (by omega) (by omega) (by omega) (by omega)
  rw [Int.toNat_natCast, Int.toNat_natCast] at this
  exact this
theorem ofP (w : World) (g : Nat) (c : Int) (h0 : 0 ≤ c) (h1 : c < 256) (h : AtG w g 5 #[.int .u8 c]) :
    Calls Tryz.prog 122 #[.slice (some ⟨g, 0, none⟩) 1 1] w fun e w' => e = .returned (setOf fun y => y == c.toNat) ∧ Below w.heap.size w w' := by
  have hr : RdB w (.slice (some ⟨g, 0, none⟩) 1 1) [c] := rdB_cells [c] h (Nat.le_refl _) (by simp) (by intro x hx; simp at hx; subst hx; omega)
  have := of_any _ _ w hr
  rw [show setOf (memF [c]) = setOf (fun y => y == c.toNat) from setOf_ext fun x hx => by
    unfold memF; rw [Bool.eq_iff_iff]; simp; omega] at this
  exact this
theorem ofPv {w : World} {v : Value} {B : Nat} {c : Int} (h0 : 0 ≤ c) (h1 : c < 256) (h : ∃ kk, v = .slice (some ⟨kk, 0, none⟩) 1 1 ∧ AtG w kk 5 #[.int .u8 c] ∧ kk ≠ B) :
    Calls Tryz.prog 122 #[v] w fun e w' => e = .returned (setOf fun y => y == c.toNat) ∧ Below w.heap.size w w' := by
  obtain ⟨kk, rfl, ha, _⟩ := h
  exact ofP w kk c h0 h1 ha
set_option maxRecDepth 100000 in
set_option maxHeartbeats 1600000 in
theorem wideX (c : Int) (w : World) : Calls Tryz.prog 123 #[.int .u8 c] w fun e w' => e = .returned (wideV c) ∧ Below w.heap.size w w' := by
  have HD := Lib.hid (fun w => rangeP 48 57 w (by decide) (by decide))
  rw [show setOf (spanF 48 (57 + 1)) = setOf digF from rfl] at HD
  have HA := Lib.hid (AtG.new w 38 (setC 0 0 0 0))
  have HB := Lib.hid ((Below.refl w.heap.size w).alloc (Nat.le_refl _) (.cells (setC 0 0 0 0) 38))
  by_cases h1 : c = 100
  · subst h1
    go_enter Tryz.func123, Tryz.ntmps123
    go_wp2_with fail
    refine (HD.out _).mono ?_
    rintro e9 w1 ⟨rfl, hw⟩
    have HA1 := Lib.hid (HA.out.below hw)
    have HB1 := Lib.hid (HB.out.trans (hw.mono HB.out.size))
    clear hw HA HB
    unfold setOf
    go_upto_region 2 with (fail)
    obtain ⟨W, hW⟩ : ∃ W : World, W = w1.alloc (.cells (cellsOf digF) 38) := ⟨_, rfl⟩
    have hW' : w1.alloc (.cells #[.int .u64 ((wd digF 0 : Nat) : Int), .int .u64 ((wd digF 1 : Nat) : Int), .int .u64 ((wd digF 2 : Nat) : Int), .int .u64 ((wd digF 3 : Nat) : Int)] 38) = W := hW.symm
    rw [hW']
    have HA2 : Hid (AtG W w.heap.size 38 (setC 0 0 0 0)) := Lib.hid (by rw [hW]; exact HA1.out.alloc _)
    have HG2 : Hid (AtG W w1.heap.size 38 (cellsOf digF)) := Lib.hid (by rw [hW]; exact AtG.new _ _ _)
    have HB2 : Hid (Below w.heap.size w W) := Lib.hid (by rw [hW]; exact HB1.out.alloc HB1.out.size _)
    have hne : ¬ w1.heap.size = w.heap.size := by have := HA1.out.lt; omega
    clear hW hW' HA1 HB1
    have z0 : W.cell? ⟨w1.heap.size, 0, none⟩ = some (.int .u64 ((wd digF 0 : Nat) : Int)) := HG2.out.cell 0 _ rfl
    have z1 : W.cell? ⟨w1.heap.size, 1, none⟩ = some (.int .u64 ((wd digF 1 : Nat) : Int)) := HG2.out.cell 1 _ rfl
    have z2 : W.cell? ⟨w1.heap.size, 2, none⟩ = some (.int .u64 ((wd digF 2 : Nat) : Int)) := HG2.out.cell 2 _ rfl
    have z3 : W.cell? ⟨w1.heap.size, 3, none⟩ = some (.int .u64 ((wd digF 3 : Nat) : Int)) := HG2.out.cell 3 _ rfl
    have d0 := (HA2.out).cell 0 _ rfl; have d1 := (HA2.out).cell 1 _ rfl; have d2 := (HA2.out).cell 2 _ rfl; have d3 := (HA2.out).cell 3 _ rfl
    have f0 := (HA2.out).frozen 0; have f1 := (HA2.out).frozen 1; have f2 := (HA2.out).frozen 2; have f3 := (HA2.out).frozen 3
    go_wp2_with fail
    refine bodyPost_ret (v := wideV 100) (by simp [results, Tryz.results123, go_sem, d0, d1, d2, d3]; try rfl) rfl ⟨rfl, ?_⟩
    exact below_set4 HB2.out _ (Nat.le_refl _) _ _ _ _
  by_cases h2 : c = 119
  · subst h2
    have HF1 := Lib.hid (fun w => rangeP 97 122 w (by decide) (by decide))
    have HF2 := Lib.hid (fun w => rangeP 65 90 w (by decide) (by decide))
    go_enter Tryz.func123, Tryz.ntmps123
    go_wp2_with fail
    refine (HD.out _).mono ?_
    rintro e9 w1 ⟨rfl, hw⟩
    have HA1 := Lib.hid (HA.out.below hw)
    have HB1 := Lib.hid (HB.out.trans (hw.mono HB.out.size))
    clear hw HA HB
    unfold setOf
    go_upto_region 2 with (fail)
    obtain ⟨W, hW⟩ : ∃ W : World, W = w1.alloc (.cells (cellsOf digF) 38) := ⟨_, rfl⟩
    have hW' : w1.alloc (.cells #[.int .u64 ((wd digF 0 : Nat) : Int), .int .u64 ((wd digF 1 : Nat) : Int), .int .u64 ((wd digF 2 : Nat) : Int), .int .u64 ((wd digF 3 : Nat) : Int)] 38) = W := hW.symm
    rw [hW']
    have HA2 : Hid (AtG W w.heap.size 38 (setC 0 0 0 0)) := Lib.hid (by rw [hW]; exact HA1.out.alloc _)
    have HG2 : Hid (AtG W w1.heap.size 38 (cellsOf digF)) := Lib.hid (by rw [hW]; exact AtG.new _ _ _)
    have HB2 : Hid (Below w.heap.size w W) := Lib.hid (by rw [hW]; exact HB1.out.alloc HB1.out.size _)
    have hne : w1.heap.size ≠ w.heap.size := by have := HA1.out.lt; omega
    clear hW hW' HA1 HB1
    go_upto_region 6 with (fail)
    refine RgX.start (by kernel_rfl) [(8, fun w5 w6 => ∃ f, w6 = putS w5 w.heap.size f)] [⟨fun w5 => AtG w5 w1.heap.size 38 (cellsOf digF) ∧ Below w.heap.size w w5, none⟩, ⟨fun w5 => AtG w5 w.heap.size 38 (setC 0 0 0 0), some 8⟩] ⟨⟨fun _ _ h hb => ⟨h.1.below hb, h.2.trans (hb.mono h.2.size)⟩, ⟨fun _ _ _ _ => (fun w5 w6 h he => by obtain ⟨f, rfl⟩ := he; exact ⟨putS_far h.1 hne _, putS_below h.2 (Nat.le_refl _) _⟩), trivial⟩⟩, ⟨fun _ _ h hb => h.below hb, ⟨fun _ h _ _ => absurd rfl h, trivial⟩⟩, trivial⟩ (by kernel_rfl) (by kernel_rfl) ⟨⟨HG2.out.drew, HB2.out.drew⟩, HA2.out.drew, trivial⟩ ?_
    show RgX.Build _ _ _ _ _ _ 0 [_, _, _, _, _, _, _, _, _, _] []
    refine RgX.build_cons (m := 1) (r := RgX.eq _) (RgX.one_plain (by rfl) (by (intro ax wx hk Kx hK; have k4 := hk.base 4 _ rfl rfl; have hg := hk.fact 0 0 _ rfl rfl; (try dsimp only at hg); have ha := hk.fact 1 1 _ rfl rfl; (try dsimp only at ha); clear hk; have z0 := hg.1.cell 0 _ rfl; have z1 := hg.1.cell 1 _ rfl; have z2 := hg.1.cell 2 _ rfl; have z3 := hg.1.cell 3 _ rfl; go_simp; refine hK _ _ (fun h => by cases h) (fun _ _ => ?_) (Below.refl _ _); apply RgX.mk))) ?_ rfl RgX.keep_eq (fun _ h => by cases h)
    refine RgX.build_cons (m := 2) (r := (⟨fun v _ w5 => ∃ kk, v = .slice (some ⟨kk, 0, none⟩) 1 1 ∧ AtG w5 kk 5 #[.int .u8 95] ∧ kk ≠ w.heap.size, none, none⟩ : RgX.Rl)) (RgX.one_plain (by rfl) (by (intro ax wx hk Kx hK; have hg := hk.fact 0 0 _ rfl rfl; (try dsimp only at hg); have ha := hk.fact 1 1 _ rfl rfl; (try dsimp only at ha); clear hk; (go_simp; exact hK _ _ (fun h => by cases h) (fun u _ => ⟨wx.heap.size, rfl, AtG.new _ _ _, by have := ha.lt; omega⟩) ((Below.refl _ _).alloc (Nat.le_refl _) _))))) ?_ rfl (RgX.keep_r (fun _ _ _ _ h hb => by obtain ⟨kk, h1, h2, h3⟩ := h; exact ⟨kk, h1, h2.below hb, h3⟩) (fun _ _ => ⟨fun _ _ _ _ => (fun w5 w6 h he => by obtain ⟨f, rfl⟩ := he; obtain ⟨kk, h1, h2, h3⟩ := h; exact ⟨kk, h1, putS_far h2 h3 _, h3⟩), trivial⟩)) (fun _ h => by cases h)
    refine RgX.build_cons (m := 3) (r := RgX.eq _) (RgX.one_plain (by rfl) (by (intro ax wx hk Kx hK; obtain ⟨v13, k13, h13⟩ := hk.dep 0 1 13 _ rfl rfl rfl; (first | (replace h13 := h13 9 undef rfl rfl; first | (cases (h13 : v13 = _)) | (obtain ⟨rfl, h13⟩ := h13) | skip) | skip); have hg := hk.fact 0 0 _ rfl rfl; (try dsimp only at hg); have ha := hk.fact 1 1 _ rfl rfl; (try dsimp only at ha); clear hk; go_simp; refine (ofPv (by decide) (by decide) h13).mono ?_; rintro e w' ⟨rfl, hb⟩; refine hK _ _ (fun h => by cases h) (fun _ _ => ?_) hb; apply RgX.mk))) ?_ rfl RgX.keep_eq (fun _ h => by cases h)
    refine RgX.build_cons (m := 4) (r := RgX.eq _) (RgX.one_plain (by rfl) (by (intro ax wx hk Kx hK; obtain ⟨v12, k12, h12⟩ := hk.dep 0 0 12 _ rfl rfl rfl; (first | (replace h12 := h12 9 undef rfl rfl; first | (cases (h12 : v12 = _)) | (obtain ⟨rfl, h12⟩ := h12) | skip) | skip); obtain ⟨v14, k14, h14⟩ := hk.dep 0 2 14 _ rfl rfl rfl; (first | (replace h14 := h14 9 undef rfl rfl; first | (cases (h14 : v14 = _)) | (obtain ⟨rfl, h14⟩ := h14) | skip) | skip); have hg := hk.fact 0 0 _ rfl rfl; (try dsimp only at hg); have ha := hk.fact 1 1 _ rfl rfl; (try dsimp only at ha); clear hk; go_simp; refine (or_any digF (fun y => y == 95) _).mono ?_; rintro e w' ⟨rfl, hb⟩; refine hK _ _ (fun h => by cases h) (fun _ _ => ?_) hb; apply RgX.mk))) ?_ rfl RgX.keep_eq (fun _ h => by cases h)
    refine RgX.build_cons (m := 5) (r := RgX.eq _) (RgX.one_plain (by rfl) (by (intro ax wx hk Kx hK; have hg := hk.fact 0 0 _ rfl rfl; (try dsimp only at hg); have ha := hk.fact 1 1 _ rfl rfl; (try dsimp only at ha); clear hk; go_simp; refine (HF1.out _).mono ?_; rintro e w' ⟨rfl, hb⟩; refine hK _ _ (fun h => by cases h) (fun _ _ => ?_) hb; apply RgX.mk))) ?_ rfl RgX.keep_eq (fun _ h => by cases h)
    refine RgX.build_cons (m := 6) (r := RgX.eq _) (RgX.one_plain (by rfl) (by (intro ax wx hk Kx hK; have hg := hk.fact 0 0 _ rfl rfl; (try dsimp only at hg); have ha := hk.fact 1 1 _ rfl rfl; (try dsimp only at ha); clear hk; go_simp; refine (HF2.out _).mono ?_; rintro e w' ⟨rfl, hb⟩; refine hK _ _ (fun h => by cases h) (fun _ _ => ?_) hb; apply RgX.mk))) ?_ rfl RgX.keep_eq (fun _ h => by cases h)
    refine RgX.build_cons (m := 7) (r := RgX.eq _) (RgX.one_plain (by rfl) (by (intro ax wx hk Kx hK; obtain ⟨v16, k16, h16⟩ := hk.dep 0 4 16 _ rfl rfl rfl; (first | (replace h16 := h16 9 undef rfl rfl; first | (cases (h16 : v16 = _)) | (obtain ⟨rfl, h16⟩ := h16) | skip) | skip); obtain ⟨v17, k17, h17⟩ := hk.dep 0 5 17 _ rfl rfl rfl; (first | (replace h17 := h17 9 undef rfl rfl; first | (cases (h17 : v17 = _)) | (obtain ⟨rfl, h17⟩ := h17) | skip) | skip); have hg := hk.fact 0 0 _ rfl rfl; (try dsimp only at hg); have ha := hk.fact 1 1 _ rfl rfl; (try dsimp only at ha); clear hk; go_simp; refine (or_any (spanF 97 123) (spanF 65 91) _).mono ?_; rintro e w' ⟨rfl, hb⟩; refine hK _ _ (fun h => by cases h) (fun _ _ => ?_) hb; apply RgX.mk))) ?_ rfl RgX.keep_eq (fun _ h => by cases h)
    refine RgX.build_cons (m := 8) (r := RgX.eq _) (RgX.one_plain (by rfl) (by (intro ax wx hk Kx hK; obtain ⟨v15, k15, h15⟩ := hk.dep 0 3 15 _ rfl rfl rfl; (first | (replace h15 := h15 9 undef rfl rfl; first | (cases (h15 : v15 = _)) | (obtain ⟨rfl, h15⟩ := h15) | skip) | skip); obtain ⟨v18, k18, h18⟩ := hk.dep 0 6 18 _ rfl rfl rfl; (first | (replace h18 := h18 9 undef rfl rfl; first | (cases (h18 : v18 = _)) | (obtain ⟨rfl, h18⟩ := h18) | skip) | skip); have hg := hk.fact 0 0 _ rfl rfl; (try dsimp only at hg); have ha := hk.fact 1 1 _ rfl rfl; (try dsimp only at ha); clear hk; go_simp; refine (or_any (fun y => digF y || y == 95) (fun y => spanF 97 123 y || spanF 65 91 y) _).mono ?_; rintro e w' ⟨rfl, hb⟩; refine hK _ _ (fun h => by cases h) (fun _ _ => ?_) hb; apply RgX.mk))) ?_ rfl RgX.keep_eq (fun _ h => by cases h)
    refine RgX.build_cons (m := 9) (r := (⟨fun _ _ w5 => AtG w5 w.heap.size 38 (cellsOf wordF), none, none⟩ : RgX.Rl)) (RgX.one_plain (by rfl) (by (intro ax wx hk Kx hK; have k2 := hk.base 2 _ rfl rfl; obtain ⟨v19, k19, h19⟩ := hk.dep 0 7 19 _ rfl rfl rfl; (first | (replace h19 := h19 9 undef rfl rfl; first | (cases (h19 : v19 = _)) | (obtain ⟨rfl, h19⟩ := h19) | skip) | skip); have hg := hk.fact 0 0 _ rfl rfl; (try dsimp only at hg); have ha := hk.fact 1 0 _ rfl rfl; (try dsimp only at ha); clear hk; (have d0 := ha.cell 0 _ rfl; have d1 := ha.cell 1 _ rfl; have d2 := ha.cell 2 _ rfl; have d3 := ha.cell 3 _ rfl; have f0 := ha.frozen 0; have f1 := ha.frozen 1; have f2 := ha.frozen 2; have f3 := ha.frozen 3; unfold setOf at k19; go_simp; exact hK undef _ (fun _ => rfl) (fun u hu => putS_at ha wordF) ⟨wordF, rfl⟩)))) ?_ rfl (RgX.keep_r (fun _ _ _ _ h hb => h.below hb) (fun _ _ => ⟨fun h _ _ _ => absurd rfl h, trivial⟩)) (fun _ h => by cases h)
    refine RgX.build_cons (m := 10) (r := RgX.eq _) (RgX.one_plain (by rfl) (by (intro ax wx hk Kx hK; have hg := hk.fact 0 0 _ rfl rfl; (try dsimp only at hg); clear hk; go_simp; refine hK _ _ (fun h => by cases h) (fun _ _ => ?_) (Below.refl _ _); apply RgX.mk))) ?_ rfl RgX.keep_eq (fun _ h => by cases h)
    refine RgX.build_end fun wx hj => ?_
    have hg := hj 0 _ rfl rfl
    clear hj
    refine RgX.fin_eq rfl ?_
    first | refine RgX.fin_eq rfl ?_ | refine RgX.fin_any rfl fun v13 h13 => ?_
    refine RgX.fin_eq rfl ?_
    refine RgX.fin_eq rfl ?_
    refine RgX.fin_eq rfl ?_
    refine RgX.fin_eq rfl ?_
    refine RgX.fin_eq rfl ?_
    refine RgX.fin_eq rfl ?_
    refine RgX.fin_none rfl fun s8 => ?_
    refine RgX.fin_eq rfl ?_
    refine RgX.fin_nil ?_
    simp only [List.set_cons_zero, List.set_cons_succ]
    have hA := s8 rfl undef rfl
    have hB := hg.2
    have d0 := (hA).cell 0 _ rfl; have d1 := (hA).cell 1 _ rfl; have d2 := (hA).cell 2 _ rfl; have d3 := (hA).cell 3 _ rfl
    have f0 := (hA).frozen 0; have f1 := (hA).frozen 1; have f2 := (hA).frozen 2; have f3 := (hA).frozen 3
    clear s8 hg
    go_wp2_with fail
    refine bodyPost_ret (v := wideV 119) (by simp [results, Tryz.results123, go_sem, d0, d1, d2, d3]; try rfl) rfl ⟨rfl, ?_⟩
    exact hB
  · have e1 : (c == 100) = false := by rw [beq_eq_false_iff_ne]; exact h1
    have e2 : (c == 119) = false := by rw [beq_eq_false_iff_ne]; exact h2
    have hv : wideV c = .tuple #[setV 0 0 0 0, .bool false] := by
      have : wideF c = none := by unfold wideF; rw [if_neg h1, if_neg h2]
      unfold wideV; rw [this]; simp only [setOf_emp]
    have HV := Lib.hid hv
    generalize wideV c = WV at *
    clear h1 h2 hv
    go_enter Tryz.func123, Tryz.ntmps123
    go_wp2_with fail
    refine (HD.out _).mono ?_
    rintro e9 w1 ⟨rfl, hw⟩
    have HA1 := Lib.hid (HA.out.below hw)
    have HB1 := Lib.hid (HB.out.trans (hw.mono HB.out.size))
    clear hw HA HB
    unfold setOf
    go_upto_region 2 with (fail)
    obtain ⟨W, hW⟩ : ∃ W : World, W = w1.alloc (.cells (cellsOf digF) 38) := ⟨_, rfl⟩
    have hW' : w1.alloc (.cells #[.int .u64 ((wd digF 0 : Nat) : Int), .int .u64 ((wd digF 1 : Nat) : Int), .int .u64 ((wd digF 2 : Nat) : Int), .int .u64 ((wd digF 3 : Nat) : Int)] 38) = W := hW.symm
    rw [hW']
    have HA2 : Hid (AtG W w.heap.size 38 (setC 0 0 0 0)) := Lib.hid (by rw [hW]; exact HA1.out.alloc _)
    have HB2 : Hid (Below w.heap.size w W) := Lib.hid (by rw [hW]; exact HB1.out.alloc HB1.out.size _)
    clear hW hW' HA1 HB1
    have d0 := (HA2.out).cell 0 _ rfl; have d1 := (HA2.out).cell 1 _ rfl; have d2 := (HA2.out).cell 2 _ rfl; have d3 := (HA2.out).cell 3 _ rfl
    have f0 := (HA2.out).frozen 0; have f1 := (HA2.out).frozen 1; have f2 := (HA2.out).frozen 2; have f3 := (HA2.out).frozen 3
    go_wp2_with fail
    refine bodyPost_ret (v := WV) (by rw [HV.out]; simp [results, Tryz.results123, go_sem, d0, d1, d2, d3]; try rfl) rfl ⟨rfl, ?_⟩
    exact below_set4 HB2.out _ (Nat.le_refl _) _ _ _ _
end Go.Proofs.YtgjcibhhffkemaaGreatDoor
namespace Go.Proofs.YtgjcibhhffkemaaGreatDoor
open Go.RowKit Bt
theorem set_one (n : Nat) : setOf (fun y => y == n) = setOf (spanF n (n + 1)) := setOf_ext fun x _ => by
  unfold spanF; rw [Bool.eq_iff_iff]; simp; omega
set_option maxRecDepth 100000 in
set_option maxHeartbeats 1600000 in
theorem itemX_no (g : Nat) (s : ByteArray) (p o : Nat) (w : World) (h : AtG w g 94 (rxr s p o)) (hp : p ≤ s.size) (hs : s.size ≤ 900) (h92 : ¬ ch s p = 92) :
    Calls Tryz.prog 131 #[.pointer (some ⟨g, 0, none⟩)] w (RxP g s o w (itemF s p) (fun f => setOf f)) := by
  have HS := Lib.hid hs; have HPS := Lib.hid hp
  have HG := Lib.hid (show ¬ w.heap.size = g by have := h.lt; omega)
  have HA0 := Lib.hid (h.alloc (.cells (setC 0 0 0 0) 38))
  have HZ0 := Lib.hid (AtG.new w 38 (setC 0 0 0 0))
  have HO0 := Lib.hid ((Only.refl (S := fun k => k = g) w).al (.cells (setC 0 0 0 0) 38))
  have hwp : IntKind.i64.wrap ((p : Int) + 1) = (p : Int) + 1 := by rw [IntKind.wrap_i64]; omega
  have HX := Lib.hid (show itemF s p = itemE s (memberF s p) from if_neg (fun h => h92 h.1))
  have HIS := Lib.hid (fun (w1 : World) (h1 : AtG w1 g 94 (rxr s p o)) => isX g s p o 92 w1 h1 hp (by decide))
  rw [decide_eq_false h92] at HIS
  have hnI : True := trivial
  generalize itemF s p = R at *
  clear h92 h hp
  go_enter Tryz.func131, Tryz.ntmps131
  go_upto_region 1 with (fail)
  refine Rg.wp_region_each (by kernel_rfl) (fun w' => AtG w' g 94 (rxr s p o) ∧ AtG w' w.heap.size 38 (setC 0 0 0 0) ∧ Only (fun k => k = g) w w') (fun w1 w2 h hb => ⟨h.1.below hb, h.2.1.below hb, h.2.2.tb hb⟩) (by kernel_rfl) (by kernel_rfl) (⟨HA0.out, HZ0.out, HO0.out⟩) ?_
  show Rg.Build _ _ _ _ _ 0 [_, _, _, _, _, _, _, _, _, _, _, _, _, _, _] []
  refine Rg.build_cons (m := 1) (r := Rg.eq _) (Rg.one_plain (by rfl) (by (intro ax wx hk Kx hK; have k0 := hk.base 0 _ rfl rfl; have hj := hk.j; clear hk; have z1 : wx.cell? ⟨g, 1, none⟩ = some (.int .i64 (p : Int)) := hj.1.cell 1 _ rfl; have z0 : wx.cell? ⟨g, 0, none⟩ = some (.string s) := hj.1.cell 0 _ rfl; go_simp; refine hK _ _ ?_ (Below.refl _ _); apply Rg.mk))) ?_ rfl
  refine Rg.build_cons (m := 2) (r := Rg.eq _) (Rg.one_plain (by rfl) (by (intro ax wx hk Kx hK; obtain ⟨v7, k7, h7⟩ := hk.dep 0 7 _ rfl rfl rfl; (first | (cases (h7 : v7 = _)) | (obtain ⟨rfl, h7⟩ := h7) | skip); have hj := hk.j; clear hk; have z1 : wx.cell? ⟨g, 1, none⟩ = some (.int .i64 (p : Int)) := hj.1.cell 1 _ rfl; have z0 : wx.cell? ⟨g, 0, none⟩ = some (.string s) := hj.1.cell 0 _ rfl; go_simp; refine (HIS.out _ hj.1).mono ?_; rintro e w' ⟨rfl, hb⟩; refine hK _ _ ?_ hb; apply Rg.mk))) ?_ rfl
  refine Rg.build_cons (m := 3) (r := Rg.eq _) (Rg.one_plain (by rfl) (by (intro ax wx hk Kx hK; obtain ⟨v8, k8, h8⟩ := hk.dep 1 8 _ rfl rfl rfl; (first | (cases (h8 : v8 = _)) | (obtain ⟨rfl, h8⟩ := h8) | skip); have hj := hk.j; clear hk; have z1 : wx.cell? ⟨g, 1, none⟩ = some (.int .i64 (p : Int)) := hj.1.cell 1 _ rfl; have z0 : wx.cell? ⟨g, 0, none⟩ = some (.string s) := hj.1.cell 0 _ rfl; go_simp; refine hK _ _ ?_ (Below.refl _ _); apply Rg.mk))) ?_ rfl
  first
    | refine Rg.build_cons (m := 4) (Rg.one_no 2 9 true (by rfl) (by rfl) (by rfl) (by rfl)) ?_ rfl
    | refine Rg.build_cons (m := 4) (Rg.one_und 2 9 true (by rfl) (by rfl) (by rfl) (by rfl)) ?_ rfl
    | refine Rg.build_cons (m := 4) (r := Rg.eq _) (Rg.one_yes 2 9 true (by rfl) (by rfl) (by rfl) (by rfl) (by (intro ax wx hk Kx hK; have k0 := hk.base 0 _ rfl rfl; have hj := hk.j; clear hk; have z1 : wx.cell? ⟨g, 1, none⟩ = some (.int .i64 (p : Int)) := hj.1.cell 1 _ rfl; have z0 : wx.cell? ⟨g, 0, none⟩ = some (.string s) := hj.1.cell 0 _ rfl; go_simp; refine hK _ _ ?_ (Below.refl _ _); apply Rg.mk))) ?_ rfl
  first
    | refine Rg.build_cons (m := 5) (Rg.one_no 2 9 true (by rfl) (by rfl) (by rfl) (by rfl)) ?_ rfl
    | refine Rg.build_cons (m := 5) (Rg.one_und 2 9 true (by rfl) (by rfl) (by rfl) (by rfl)) ?_ rfl
    | refine Rg.build_cons (m := 5) (r := Rg.eq _) (Rg.one_yes 2 9 true (by rfl) (by rfl) (by rfl) (by rfl) (by (intro ax wx hk Kx hK; obtain ⟨v10, k10, h10⟩ := hk.dep 3 10 _ rfl rfl rfl; (first | (cases (h10 : v10 = _)) | (obtain ⟨rfl, h10⟩ := h10) | skip); have hj := hk.j; clear hk; have z1 : wx.cell? ⟨g, 1, none⟩ = some (.int .i64 (p : Int)) := hj.1.cell 1 _ rfl; have z0 : wx.cell? ⟨g, 0, none⟩ = some (.string s) := hj.1.cell 0 _ rfl; go_simp; refine hK _ _ ?_ (Below.refl _ _); apply Rg.mk))) ?_ rfl
  first
    | refine Rg.build_cons (m := 6) (Rg.one_no 2 9 true (by rfl) (by rfl) (by rfl) (by rfl)) ?_ rfl
    | refine Rg.build_cons (m := 6) (Rg.one_und 2 9 true (by rfl) (by rfl) (by rfl) (by rfl)) ?_ rfl
    | refine Rg.build_cons (m := 6) (r := Rg.eq _) (Rg.one_yes 2 9 true (by rfl) (by rfl) (by rfl) (by rfl) (by (intro ax wx hk Kx hK; obtain ⟨v11, k11, h11⟩ := hk.dep 4 11 _ rfl rfl rfl; (first | (cases (h11 : v11 = _)) | (obtain ⟨rfl, h11⟩ := h11) | skip); have hj := hk.j; clear hk; have z1 : wx.cell? ⟨g, 1, none⟩ = some (.int .i64 (p : Int)) := hj.1.cell 1 _ rfl; have z0 : wx.cell? ⟨g, 0, none⟩ = some (.string s) := hj.1.cell 0 _ rfl; go_simp; refine hK _ _ ?_ (Below.refl _ _); apply Rg.mk))) ?_ rfl
  first
    | refine Rg.build_cons (m := 7) (Rg.one_no 2 9 true (by rfl) (by rfl) (by rfl) (by rfl)) ?_ rfl
    | refine Rg.build_cons (m := 7) (Rg.one_und 2 9 true (by rfl) (by rfl) (by rfl) (by rfl)) ?_ rfl
    | refine Rg.build_cons (m := 7) (r := Rg.eq _) (Rg.one_yes 2 9 true (by rfl) (by rfl) (by rfl) (by rfl) (by (intro ax wx hk Kx hK; obtain ⟨v12, k12, h12⟩ := hk.dep 5 12 _ rfl rfl rfl; (first | (cases (h12 : v12 = _)) | (obtain ⟨rfl, h12⟩ := h12) | skip); have hj := hk.j; clear hk; have z1 : wx.cell? ⟨g, 1, none⟩ = some (.int .i64 (p : Int)) := hj.1.cell 1 _ rfl; have z0 : wx.cell? ⟨g, 0, none⟩ = some (.string s) := hj.1.cell 0 _ rfl; go_simp; refine hK _ _ ?_ (Below.refl _ _); apply Rg.mk))) ?_ rfl
  first
    | refine Rg.build_cons (m := 8) (Rg.one_no 2 9 true (by rfl) (by rfl) (by rfl) (by rfl)) ?_ rfl
    | refine Rg.build_cons (m := 8) (Rg.one_und 2 9 true (by rfl) (by rfl) (by rfl) (by rfl)) ?_ rfl
    | refine Rg.build_cons (m := 8) (r := Rg.eq (.int .i64 ((p : Int) + 1))) (Rg.one_yes 2 9 true (by rfl) (by rfl) (by rfl) (by rfl) (by (intro ax wx hk Kx hK; obtain ⟨v13, k13, h13⟩ := hk.dep 6 13 _ rfl rfl rfl; (first | (cases (h13 : v13 = _)) | (obtain ⟨rfl, h13⟩ := h13) | skip); have hj := hk.j; clear hk; have z1 : wx.cell? ⟨g, 1, none⟩ = some (.int .i64 (p : Int)) := hj.1.cell 1 _ rfl; have z0 : wx.cell? ⟨g, 0, none⟩ = some (.string s) := hj.1.cell 0 _ rfl; (go_simp; refine hK _ _ ?_ (Below.refl _ _); simp [Rg.eq, hwp])))) ?_ rfl
  first
    | refine Rg.build_cons (m := 9) (Rg.one_no 2 9 true (by rfl) (by rfl) (by rfl) (by rfl)) ?_ rfl
    | refine Rg.build_cons (m := 9) (Rg.one_und 2 9 true (by rfl) (by rfl) (by rfl) (by rfl)) ?_ rfl
    | refine Rg.build_cons (m := 9) (r := Rg.eq _) (Rg.one_yes 2 9 true (by rfl) (by rfl) (by rfl) (by rfl) (by (intro ax wx hk Kx hK; have k0 := hk.base 0 _ rfl rfl; have hj := hk.j; clear hk; have z1 : wx.cell? ⟨g, 1, none⟩ = some (.int .i64 (p : Int)) := hj.1.cell 1 _ rfl; have z0 : wx.cell? ⟨g, 0, none⟩ = some (.string s) := hj.1.cell 0 _ rfl; go_simp; refine hK _ _ ?_ (Below.refl _ _); apply Rg.mk))) ?_ rfl
  first
    | refine Rg.build_cons (m := 10) (Rg.one_no 2 9 true (by rfl) (by rfl) (by rfl) (by rfl)) ?_ rfl
    | refine Rg.build_cons (m := 10) (Rg.one_und 2 9 true (by rfl) (by rfl) (by rfl) (by rfl)) ?_ rfl
    | refine Rg.build_cons (m := 10) (r := Rg.eq _) (Rg.one_yes 2 9 true (by rfl) (by rfl) (by rfl) (by rfl) (by (intro ax wx hk Kx hK; obtain ⟨v15, k15, h15⟩ := hk.dep 8 15 _ rfl rfl rfl; (first | (cases (h15 : v15 = _)) | (obtain ⟨rfl, h15⟩ := h15) | skip); have hj := hk.j; clear hk; have z1 : wx.cell? ⟨g, 1, none⟩ = some (.int .i64 (p : Int)) := hj.1.cell 1 _ rfl; have z0 : wx.cell? ⟨g, 0, none⟩ = some (.string s) := hj.1.cell 0 _ rfl; go_simp; refine hK _ _ ?_ (Below.refl _ _); apply Rg.mk))) ?_ rfl
  first
    | refine Rg.build_cons (m := 11) (Rg.one_no 2 9 true (by rfl) (by rfl) (by rfl) (by rfl)) ?_ rfl
    | refine Rg.build_cons (m := 11) (Rg.one_und 2 9 true (by rfl) (by rfl) (by rfl) (by rfl)) ?_ rfl
    | refine Rg.build_cons (m := 11) (r := Rg.eq _) (Rg.one_yes 2 9 true (by rfl) (by rfl) (by rfl) (by rfl) (by (intro ax wx hk Kx hK; obtain ⟨v16, k16, h16⟩ := hk.dep 9 16 _ rfl rfl rfl; (first | (cases (h16 : v16 = _)) | (obtain ⟨rfl, h16⟩ := h16) | skip); have hj := hk.j; clear hk; have z1 : wx.cell? ⟨g, 1, none⟩ = some (.int .i64 (p : Int)) := hj.1.cell 1 _ rfl; have z0 : wx.cell? ⟨g, 0, none⟩ = some (.string s) := hj.1.cell 0 _ rfl; go_simp; refine hK _ _ ?_ (Below.refl _ _); apply Rg.mk))) ?_ rfl
  first
    | refine Rg.build_cons (m := 12) (Rg.one_no 2 9 true (by rfl) (by rfl) (by rfl) (by rfl)) ?_ rfl
    | refine Rg.build_cons (m := 12) (Rg.one_und 2 9 true (by rfl) (by rfl) (by rfl) (by rfl)) ?_ rfl
    | refine Rg.build_cons (m := 12) (r := Rg.eq _) (Rg.one_yes 2 9 true (by rfl) (by rfl) (by rfl) (by rfl) (by (intro ax wx hk Kx hK; obtain ⟨v17, k17, h17⟩ := hk.dep 10 17 _ rfl rfl rfl; (first | (cases (h17 : v17 = _)) | (obtain ⟨rfl, h17⟩ := h17) | skip); have hj := hk.j; clear hk; have z1 : wx.cell? ⟨g, 1, none⟩ = some (.int .i64 (p : Int)) := hj.1.cell 1 _ rfl; have z0 : wx.cell? ⟨g, 0, none⟩ = some (.string s) := hj.1.cell 0 _ rfl; go_simp; refine hK _ _ ?_ (Below.refl _ _); apply Rg.mk))) ?_ rfl
  first
    | refine Rg.build_cons (m := 13) (Rg.one_no 2 9 true (by rfl) (by rfl) (by rfl) (by rfl)) ?_ rfl
    | refine Rg.build_cons (m := 13) (Rg.one_und 2 9 true (by rfl) (by rfl) (by rfl) (by rfl)) ?_ rfl
    | refine Rg.build_cons (m := 13) (r := Rg.eq _) (Rg.one_yes 2 9 true (by rfl) (by rfl) (by rfl) (by rfl) (by (intro ax wx hk Kx hK; obtain ⟨v18, k18, h18⟩ := hk.dep 11 18 _ rfl rfl rfl; (first | (cases (h18 : v18 = _)) | (obtain ⟨rfl, h18⟩ := h18) | skip); have hj := hk.j; clear hk; have z1 : wx.cell? ⟨g, 1, none⟩ = some (.int .i64 (p : Int)) := hj.1.cell 1 _ rfl; have z0 : wx.cell? ⟨g, 0, none⟩ = some (.string s) := hj.1.cell 0 _ rfl; go_simp; refine hK _ _ ?_ (Below.refl _ _); apply Rg.mk))) ?_ rfl
  first
    | refine Rg.build_cons (m := 14) (Rg.one_no 2 9 true (by rfl) (by rfl) (by rfl) (by rfl)) ?_ rfl
    | refine Rg.build_cons (m := 14) (Rg.one_und 2 9 true (by rfl) (by rfl) (by rfl) (by rfl)) ?_ rfl
    | refine Rg.build_cons (m := 14) (r := Rg.eq (.bool true)) (Rg.one_yes 2 9 true (by rfl) (by rfl) (by rfl) (by rfl) (by (intro ax wx hk Kx hK; obtain ⟨v14, k14, h14⟩ := hk.dep 7 14 _ rfl rfl rfl; (first | (cases (h14 : v14 = _)) | (obtain ⟨rfl, h14⟩ := h14) | skip); obtain ⟨v19, k19, h19⟩ := hk.dep 12 19 _ rfl rfl rfl; (first | (cases (h19 : v19 = _)) | (obtain ⟨rfl, h19⟩ := h19) | skip); have hj := hk.j; clear hk; have z1 : wx.cell? ⟨g, 1, none⟩ = some (.int .i64 (p : Int)) := hj.1.cell 1 _ rfl; have z0 : wx.cell? ⟨g, 0, none⟩ = some (.string s) := hj.1.cell 0 _ rfl; (go_simp; refine hK _ _ ?_ (Below.refl _ _); first | (simp [Rg.eq, hnI]; done) | (simp [Rg.eq]; omega))))) ?_ rfl
  refine Rg.build_cons (m := 15) (r := Rg.eq _) (Rg.one_plain (by rfl) (by (intro ax wx hk Kx hK; obtain ⟨v9, k9, h9⟩ := hk.dep 2 9 _ rfl rfl rfl; (first | (cases (h9 : v9 = _)) | (obtain ⟨rfl, h9⟩ := h9) | skip); obtain ⟨v20, k20, h20⟩ := hk.dep 13 20 _ rfl rfl rfl; (first | (cases (h20 : v20 = _)) | (obtain ⟨rfl, h20⟩ := h20) | skip); have hj := hk.j; clear hk; have z1 : wx.cell? ⟨g, 1, none⟩ = some (.int .i64 (p : Int)) := hj.1.cell 1 _ rfl; have z0 : wx.cell? ⟨g, 0, none⟩ = some (.string s) := hj.1.cell 0 _ rfl; go_simp; refine hK _ _ ?_ (Below.refl _ _); apply Rg.mk))) ?_ rfl
  refine Rg.build_end fun wx hj => ?_
  refine Rg.fin_eq rfl ?_
  refine Rg.fin_eq rfl ?_
  refine Rg.fin_eq rfl ?_
  refine Rg.fin_eq rfl ?_
  refine Rg.fin_eq rfl ?_
  refine Rg.fin_eq rfl ?_
  refine Rg.fin_eq rfl ?_
  first | refine Rg.fin_eq rfl ?_ | refine Rg.fin_any rfl fun v14 h14 => ?_
  refine Rg.fin_eq rfl ?_
  refine Rg.fin_eq rfl ?_
  refine Rg.fin_eq rfl ?_
  refine Rg.fin_eq rfl ?_
  refine Rg.fin_eq rfl ?_
  first | refine Rg.fin_eq rfl ?_ | refine Rg.fin_any rfl fun v20 h20 => ?_
  refine Rg.fin_eq rfl ?_
  refine Rg.fin_nil ?_
  simp only [List.set_cons_zero, List.set_cons_succ]
  have HA1 := Lib.hid hj.1; have HZ1 := Lib.hid hj.2.1; have HO1 := Lib.hid hj.2.2
  clear hj
  obtain ⟨wA, hwA⟩ : ∃ wA : World, wA = wx := ⟨_, rfl⟩
  rw [← hwA] at HA1 HZ1 HO1 ⊢
  clear hwA
  have HM1 := Lib.hid (memX g s p o wA (HA1.out) HPS.out HS.out)
  go_wp2_with fail
  refine (HM1.out).mono ?_
  cases hmf : memberF s p with
  | no c x =>
    rw [hmf] at HX
    have HR := Lib.hid (HX.out.trans (show itemE s (.no c x) = .no c x from rfl))
    rintro e9 w2 ⟨ho, b, rfl, hx⟩
    refine ⟨rfl, ?_⟩
    rw [HR.out]
    exact ⟨HO1.out.tr ho, b, rfl, hx⟩
  | ok lo q =>
    rw [hmf] at HX
    have hin := memberF_in s p HPS.out
    rw [hmf] at hin
    have hlo : lo < 256 := hin.2 lo q rfl
    have hq : p + 1 ≤ q ∧ q ≤ s.size := hin.1
    rintro e9 w2 ⟨ho, rfl, ha⟩
    have HO2 := Lib.hid (HO1.out.tr ho); have HA2 := Lib.hid ha; have HZ2 := Lib.hid (HZ1.out.only ho HG.out)
    have HI := isX g s q o 45 w2 ha hq.2 (by decide)
    have hloI : (lo : Int) < 256 := by omega
    have HLO := Lib.hid hlo; have HQ := Lib.hid hq
    clear ho ha hin hmf HM1 hlo hq
    by_cases h45 : ch s q = 45
    · have HX1 := Lib.hid (HX.out.trans (show itemE s (.ok lo q) = (match memberF s (q + 1) with | .no c x => .no c x | .ok hi r => if hi < lo then .no 2 (r - 1) else .ok (spanF lo (hi + 1)) r) from if_pos h45))
      have hqlt : q < s.size := ch_ge (by omega)
      rw [decide_eq_true h45] at HI
      have HIH := Lib.hid HI
      have HQL := Lib.hid hqlt
      have hqI : (q : Int) < 1000 := by have := HS.out; omega
      clear HX HI h45 hqlt
      go_wp2_with fail
      refine (HIH.out).mono ?_
      rintro e9 w3 ⟨rfl, hb⟩
      have HO3 := Lib.hid ((HO2.out.tb hb).st g 1 (.int .i64 ((q : Int) + 1)) (.inl rfl)); have HA3 := Lib.hid (HA2.out.below hb)
      have HZ3 := Lib.hid ((HZ2.out.below hb).far (p := ⟨g, 1, none⟩) (fun e => HG.out e) (.int .i64 ((q : Int) + 1)))
      have z1 : w3.cell? ⟨g, 1, none⟩ = some (.int .i64 (q : Int)) := HA3.out.cell 1 _ rfl
      have f1 := HA3.out.frozen 1
      have HA4 : Hid (AtG (w3.setCell ⟨g, 1, none⟩ (.int .i64 ((q : Int) + 1))) g 94 (rxr s ((q + 1 : Nat) : Int) o)) := Lib.hid (by
        rw [show ((q + 1 : Nat) : Int) = (q : Int) + 1 from by omega]; exact HA3.out.set 1 _)
      have HM2 := Lib.hid (memX g s (q + 1) o _ HA4.out HQL.out HS.out)
      clear hb HIH
      go_wp2_with fail
      refine (HM2.out).mono ?_
      cases hmf : memberF s (q + 1) with
      | no c x =>
        rw [hmf] at HX1
        dsimp only at HX1
        rintro e9 w4 ⟨ho, b, rfl, hx⟩
        refine ⟨rfl, ?_⟩
        rw [HX1.out]
        exact ⟨HO3.out.tr ho, b, rfl, hx⟩
      | ok hi r =>
        rw [hmf] at HX1
        dsimp only at HX1
        have hin := memberF_in s (q + 1) HQL.out
        rw [hmf] at hin
        have hhi : hi < 256 := hin.2 hi r rfl
        have hr : q + 1 + 1 ≤ r ∧ r ≤ s.size := hin.1
        rintro e9 w4 ⟨ho, rfl, ha⟩
        have HO4 := Lib.hid (HO3.out.tr ho); have HA5 := Lib.hid ha; have HZ4 := Lib.hid (HZ3.out.only ho HG.out)
        have hhiI : (hi : Int) < 256 := by omega
        clear ho ha hin hmf HM2 z1 f1 HA3 HA4
        by_cases hlt : hi < lo
        · have HR := Lib.hid (HX1.out.trans (if_pos hlt))
          have hltI : (hi : Int) < (lo : Int) := by omega
          obtain ⟨rp, hrp⟩ : ∃ rp, r = rp + 1 := ⟨r - 1, by omega⟩
          subst hrp
          rw [show rp + 1 - 1 = rp from rfl] at HR
          have z1 : w4.cell? ⟨g, 1, none⟩ = some (.int .i64 ((rp + 1 : Nat) : Int)) := HA5.out.cell 1 _ rfl
          rw [show ((rp + 1 : Nat) : Int) = (rp : Int) + 1 from by omega] at z1
          have hrI : (rp : Int) < 1000 := by have := HS.out; omega
          clear HX1 hlt hr hhi
          go_wp2_with fail
          refine (failX g rp 2 _).mono ?_
          rintro e9 w5 ⟨hb2, b, rfl, hx⟩
          refine ⟨rfl, ?_⟩
          rw [HR.out]
          exact ⟨HO4.out.tb hb2, b, rfl, hx⟩
        · have HR := Lib.hid (HX1.out.trans (if_neg hlt))
          have hltI : ¬ (hi : Int) < (lo : Int) := by omega
          have HRG := Lib.hid (rangeP lo hi w4 HLO.out hhi)
          clear HX1 hlt hr hhi
          go_wp2_with fail
          refine (HRG.out).mono ?_
          rintro e9 w5 ⟨rfl, hb⟩
          have HO5 := Lib.hid (HO4.out.tb hb); have HA6 := Lib.hid (HA5.out.below hb); have HZ5 := Lib.hid (HZ4.out.below hb)
          clear hb HRG HA5 HZ4
          have d0 := (HZ5.out).cell 0 _ rfl; have d1 := (HZ5.out).cell 1 _ rfl; have d2 := (HZ5.out).cell 2 _ rfl; have d3 := (HZ5.out).cell 3 _ rfl
          have f0 := (HZ5.out).frozen 0; have f1 := (HZ5.out).frozen 1; have f2 := (HZ5.out).frozen 2; have f3 := (HZ5.out).frozen 3
          unfold setOf
          go_wp2_with fail
          refine bodyPost_ret (v := setOf (spanF lo (hi + 1))) (by simp [results, Tryz.results131, go_sem, d0, d1, d2, d3]; try rfl) rfl ?_
          rw [HR.out]
          exact ⟨HO5.out.pS _ _ (.inr (Nat.le_refl _)), rfl, putS_far HA6.out (fun e => HG.out e.symm) _⟩
    · have HR := Lib.hid (HX.out.trans (show itemE s (.ok lo q) = .ok (spanF lo (lo + 1)) q from if_neg h45))
      rw [decide_eq_false h45] at HI
      have HIH := Lib.hid HI
      clear HX HI h45
      go_wp2_with fail
      refine (HIH.out).mono ?_
      rintro e9 w3 ⟨rfl, hb⟩
      have HO3 := Lib.hid (HO2.out.tb hb); have HA3 := Lib.hid (HA2.out.below hb); have HZ3 := Lib.hid (HZ2.out.below hb)
      have HOF := Lib.hid (ofP _ w3.heap.size (lo : Int) (by omega) hloI (AtG.new w3 5 #[.int .u8 (lo : Int)]))
      rw [Int.toNat_natCast, set_one] at HOF
      clear hb HIH
      go_wp2_with fail
      refine (HOF.out).mono ?_
      rintro e9 w5 ⟨rfl, hb⟩
      have HO5 := Lib.hid ((HO3.out.al (.cells #[.int .u8 (lo : Int)] 5)).tb hb); have HA6 := Lib.hid ((HA3.out.alloc _).below hb); have HZ5 := Lib.hid ((HZ3.out.alloc _).below hb)
      clear hb HOF HA3 HZ3
      have d0 := (HZ5.out).cell 0 _ rfl; have d1 := (HZ5.out).cell 1 _ rfl; have d2 := (HZ5.out).cell 2 _ rfl; have d3 := (HZ5.out).cell 3 _ rfl
      have f0 := (HZ5.out).frozen 0; have f1 := (HZ5.out).frozen 1; have f2 := (HZ5.out).frozen 2; have f3 := (HZ5.out).frozen 3
      unfold setOf
      go_wp2_with fail
      refine bodyPost_ret (v := setOf (spanF lo (lo + 1))) (by simp [results, Tryz.results131, go_sem, d0, d1, d2, d3]; try rfl) rfl ?_
      rw [HR.out]
      exact ⟨HO5.out.pS _ _ (.inr (Nat.le_refl _)), rfl, putS_far HA6.out (fun e => HG.out e.symm) _⟩
set_option maxRecDepth 100000 in
set_option maxHeartbeats 1600000 in
theorem itemX_end (g : Nat) (s : ByteArray) (p o : Nat) (w : World) (h : AtG w g 94 (rxr s p o)) (hp : p ≤ s.size) (hs : s.size ≤ 900) (h92 : ch s p = 92) (hn : ¬ p + 1 < s.size) :
    Calls Tryz.prog 131 #[.pointer (some ⟨g, 0, none⟩)] w (RxP g s o w (itemF s p) (fun f => setOf f)) := by
  have HS := Lib.hid hs; have HPS := Lib.hid hp
  have HG := Lib.hid (show ¬ w.heap.size = g by have := h.lt; omega)
  have HA0 := Lib.hid (h.alloc (.cells (setC 0 0 0 0) 38))
  have HZ0 := Lib.hid (AtG.new w 38 (setC 0 0 0 0))
  have HO0 := Lib.hid ((Only.refl (S := fun k => k = g) w).al (.cells (setC 0 0 0 0) 38))
  have hwp : IntKind.i64.wrap ((p : Int) + 1) = (p : Int) + 1 := by rw [IntKind.wrap_i64]; omega
  have HX := Lib.hid (show itemF s p = itemE s (memberF s p) from if_neg (fun h => hn h.2))
  have HIS := Lib.hid (fun (w1 : World) (h1 : AtG w1 g 94 (rxr s p o)) => isX g s p o 92 w1 h1 hp (by decide))
  rw [decide_eq_true h92] at HIS
  have hnI : ¬ (p : Int) + 1 < (s.size : Int) := by omega
  generalize itemF s p = R at *
  clear h92 h hp hn
  go_enter Tryz.func131, Tryz.ntmps131
  go_upto_region 1 with (fail)
  refine Rg.wp_region_each (by kernel_rfl) (fun w' => AtG w' g 94 (rxr s p o) ∧ AtG w' w.heap.size 38 (setC 0 0 0 0) ∧ Only (fun k => k = g) w w') (fun w1 w2 h hb => ⟨h.1.below hb, h.2.1.below hb, h.2.2.tb hb⟩) (by kernel_rfl) (by kernel_rfl) (⟨HA0.out, HZ0.out, HO0.out⟩) ?_
  show Rg.Build _ _ _ _ _ 0 [_, _, _, _, _, _, _, _, _, _, _, _, _, _, _] []
  refine Rg.build_cons (m := 1) (r := Rg.eq _) (Rg.one_plain (by rfl) (by (intro ax wx hk Kx hK; have k0 := hk.base 0 _ rfl rfl; have hj := hk.j; clear hk; have z1 : wx.cell? ⟨g, 1, none⟩ = some (.int .i64 (p : Int)) := hj.1.cell 1 _ rfl; have z0 : wx.cell? ⟨g, 0, none⟩ = some (.string s) := hj.1.cell 0 _ rfl; go_simp; refine hK _ _ ?_ (Below.refl _ _); apply Rg.mk))) ?_ rfl
  refine Rg.build_cons (m := 2) (r := Rg.eq _) (Rg.one_plain (by rfl) (by (intro ax wx hk Kx hK; obtain ⟨v7, k7, h7⟩ := hk.dep 0 7 _ rfl rfl rfl; (first | (cases (h7 : v7 = _)) | (obtain ⟨rfl, h7⟩ := h7) | skip); have hj := hk.j; clear hk; have z1 : wx.cell? ⟨g, 1, none⟩ = some (.int .i64 (p : Int)) := hj.1.cell 1 _ rfl; have z0 : wx.cell? ⟨g, 0, none⟩ = some (.string s) := hj.1.cell 0 _ rfl; go_simp; refine (HIS.out _ hj.1).mono ?_; rintro e w' ⟨rfl, hb⟩; refine hK _ _ ?_ hb; apply Rg.mk))) ?_ rfl
  refine Rg.build_cons (m := 3) (r := Rg.eq _) (Rg.one_plain (by rfl) (by (intro ax wx hk Kx hK; obtain ⟨v8, k8, h8⟩ := hk.dep 1 8 _ rfl rfl rfl; (first | (cases (h8 : v8 = _)) | (obtain ⟨rfl, h8⟩ := h8) | skip); have hj := hk.j; clear hk; have z1 : wx.cell? ⟨g, 1, none⟩ = some (.int .i64 (p : Int)) := hj.1.cell 1 _ rfl; have z0 : wx.cell? ⟨g, 0, none⟩ = some (.string s) := hj.1.cell 0 _ rfl; go_simp; refine hK _ _ ?_ (Below.refl _ _); apply Rg.mk))) ?_ rfl
  first
    | refine Rg.build_cons (m := 4) (Rg.one_no 2 9 true (by rfl) (by rfl) (by rfl) (by rfl)) ?_ rfl
    | refine Rg.build_cons (m := 4) (Rg.one_und 2 9 true (by rfl) (by rfl) (by rfl) (by rfl)) ?_ rfl
    | refine Rg.build_cons (m := 4) (r := Rg.eq _) (Rg.one_yes 2 9 true (by rfl) (by rfl) (by rfl) (by rfl) (by (intro ax wx hk Kx hK; have k0 := hk.base 0 _ rfl rfl; have hj := hk.j; clear hk; have z1 : wx.cell? ⟨g, 1, none⟩ = some (.int .i64 (p : Int)) := hj.1.cell 1 _ rfl; have z0 : wx.cell? ⟨g, 0, none⟩ = some (.string s) := hj.1.cell 0 _ rfl; go_simp; refine hK _ _ ?_ (Below.refl _ _); apply Rg.mk))) ?_ rfl
  first
    | refine Rg.build_cons (m := 5) (Rg.one_no 2 9 true (by rfl) (by rfl) (by rfl) (by rfl)) ?_ rfl
    | refine Rg.build_cons (m := 5) (Rg.one_und 2 9 true (by rfl) (by rfl) (by rfl) (by rfl)) ?_ rfl
    | refine Rg.build_cons (m := 5) (r := Rg.eq _) (Rg.one_yes 2 9 true (by rfl) (by rfl) (by rfl) (by rfl) (by (intro ax wx hk Kx hK; obtain ⟨v10, k10, h10⟩ := hk.dep 3 10 _ rfl rfl rfl; (first | (cases (h10 : v10 = _)) | (obtain ⟨rfl, h10⟩ := h10) | skip); have hj := hk.j; clear hk; have z1 : wx.cell? ⟨g, 1, none⟩ = some (.int .i64 (p : Int)) := hj.1.cell 1 _ rfl; have z0 : wx.cell? ⟨g, 0, none⟩ = some (.string s) := hj.1.cell 0 _ rfl; go_simp; refine hK _ _ ?_ (Below.refl _ _); apply Rg.mk))) ?_ rfl
  first
    | refine Rg.build_cons (m := 6) (Rg.one_no 2 9 true (by rfl) (by rfl) (by rfl) (by rfl)) ?_ rfl
    | refine Rg.build_cons (m := 6) (Rg.one_und 2 9 true (by rfl) (by rfl) (by rfl) (by rfl)) ?_ rfl
    | refine Rg.build_cons (m := 6) (r := Rg.eq _) (Rg.one_yes 2 9 true (by rfl) (by rfl) (by rfl) (by rfl) (by (intro ax wx hk Kx hK; obtain ⟨v11, k11, h11⟩ := hk.dep 4 11 _ rfl rfl rfl; (first | (cases (h11 : v11 = _)) | (obtain ⟨rfl, h11⟩ := h11) | skip); have hj := hk.j; clear hk; have z1 : wx.cell? ⟨g, 1, none⟩ = some (.int .i64 (p : Int)) := hj.1.cell 1 _ rfl; have z0 : wx.cell? ⟨g, 0, none⟩ = some (.string s) := hj.1.cell 0 _ rfl; go_simp; refine hK _ _ ?_ (Below.refl _ _); apply Rg.mk))) ?_ rfl
  first
    | refine Rg.build_cons (m := 7) (Rg.one_no 2 9 true (by rfl) (by rfl) (by rfl) (by rfl)) ?_ rfl
    | refine Rg.build_cons (m := 7) (Rg.one_und 2 9 true (by rfl) (by rfl) (by rfl) (by rfl)) ?_ rfl
    | refine Rg.build_cons (m := 7) (r := Rg.eq _) (Rg.one_yes 2 9 true (by rfl) (by rfl) (by rfl) (by rfl) (by (intro ax wx hk Kx hK; obtain ⟨v12, k12, h12⟩ := hk.dep 5 12 _ rfl rfl rfl; (first | (cases (h12 : v12 = _)) | (obtain ⟨rfl, h12⟩ := h12) | skip); have hj := hk.j; clear hk; have z1 : wx.cell? ⟨g, 1, none⟩ = some (.int .i64 (p : Int)) := hj.1.cell 1 _ rfl; have z0 : wx.cell? ⟨g, 0, none⟩ = some (.string s) := hj.1.cell 0 _ rfl; go_simp; refine hK _ _ ?_ (Below.refl _ _); apply Rg.mk))) ?_ rfl
  first
    | refine Rg.build_cons (m := 8) (Rg.one_no 2 9 true (by rfl) (by rfl) (by rfl) (by rfl)) ?_ rfl
    | refine Rg.build_cons (m := 8) (Rg.one_und 2 9 true (by rfl) (by rfl) (by rfl) (by rfl)) ?_ rfl
    | refine Rg.build_cons (m := 8) (r := Rg.eq (.int .i64 ((p : Int) + 1))) (Rg.one_yes 2 9 true (by rfl) (by rfl) (by rfl) (by rfl) (by (intro ax wx hk Kx hK; obtain ⟨v13, k13, h13⟩ := hk.dep 6 13 _ rfl rfl rfl; (first | (cases (h13 : v13 = _)) | (obtain ⟨rfl, h13⟩ := h13) | skip); have hj := hk.j; clear hk; have z1 : wx.cell? ⟨g, 1, none⟩ = some (.int .i64 (p : Int)) := hj.1.cell 1 _ rfl; have z0 : wx.cell? ⟨g, 0, none⟩ = some (.string s) := hj.1.cell 0 _ rfl; (go_simp; refine hK _ _ ?_ (Below.refl _ _); simp [Rg.eq, hwp])))) ?_ rfl
  first
    | refine Rg.build_cons (m := 9) (Rg.one_no 2 9 true (by rfl) (by rfl) (by rfl) (by rfl)) ?_ rfl
    | refine Rg.build_cons (m := 9) (Rg.one_und 2 9 true (by rfl) (by rfl) (by rfl) (by rfl)) ?_ rfl
    | refine Rg.build_cons (m := 9) (r := Rg.eq _) (Rg.one_yes 2 9 true (by rfl) (by rfl) (by rfl) (by rfl) (by (intro ax wx hk Kx hK; have k0 := hk.base 0 _ rfl rfl; have hj := hk.j; clear hk; have z1 : wx.cell? ⟨g, 1, none⟩ = some (.int .i64 (p : Int)) := hj.1.cell 1 _ rfl; have z0 : wx.cell? ⟨g, 0, none⟩ = some (.string s) := hj.1.cell 0 _ rfl; go_simp; refine hK _ _ ?_ (Below.refl _ _); apply Rg.mk))) ?_ rfl
  first
    | refine Rg.build_cons (m := 10) (Rg.one_no 2 9 true (by rfl) (by rfl) (by rfl) (by rfl)) ?_ rfl
    | refine Rg.build_cons (m := 10) (Rg.one_und 2 9 true (by rfl) (by rfl) (by rfl) (by rfl)) ?_ rfl
    | refine Rg.build_cons (m := 10) (r := Rg.eq _) (Rg.one_yes 2 9 true (by rfl) (by rfl) (by rfl) (by rfl) (by (intro ax wx hk Kx hK; obtain ⟨v15, k15, h15⟩ := hk.dep 8 15 _ rfl rfl rfl; (first | (cases (h15 : v15 = _)) | (obtain ⟨rfl, h15⟩ := h15) | skip); have hj := hk.j; clear hk; have z1 : wx.cell? ⟨g, 1, none⟩ = some (.int .i64 (p : Int)) := hj.1.cell 1 _ rfl; have z0 : wx.cell? ⟨g, 0, none⟩ = some (.string s) := hj.1.cell 0 _ rfl; go_simp; refine hK _ _ ?_ (Below.refl _ _); apply Rg.mk))) ?_ rfl
  first
    | refine Rg.build_cons (m := 11) (Rg.one_no 2 9 true (by rfl) (by rfl) (by rfl) (by rfl)) ?_ rfl
    | refine Rg.build_cons (m := 11) (Rg.one_und 2 9 true (by rfl) (by rfl) (by rfl) (by rfl)) ?_ rfl
    | refine Rg.build_cons (m := 11) (r := Rg.eq _) (Rg.one_yes 2 9 true (by rfl) (by rfl) (by rfl) (by rfl) (by (intro ax wx hk Kx hK; obtain ⟨v16, k16, h16⟩ := hk.dep 9 16 _ rfl rfl rfl; (first | (cases (h16 : v16 = _)) | (obtain ⟨rfl, h16⟩ := h16) | skip); have hj := hk.j; clear hk; have z1 : wx.cell? ⟨g, 1, none⟩ = some (.int .i64 (p : Int)) := hj.1.cell 1 _ rfl; have z0 : wx.cell? ⟨g, 0, none⟩ = some (.string s) := hj.1.cell 0 _ rfl; go_simp; refine hK _ _ ?_ (Below.refl _ _); apply Rg.mk))) ?_ rfl
  first
    | refine Rg.build_cons (m := 12) (Rg.one_no 2 9 true (by rfl) (by rfl) (by rfl) (by rfl)) ?_ rfl
    | refine Rg.build_cons (m := 12) (Rg.one_und 2 9 true (by rfl) (by rfl) (by rfl) (by rfl)) ?_ rfl
    | refine Rg.build_cons (m := 12) (r := Rg.eq _) (Rg.one_yes 2 9 true (by rfl) (by rfl) (by rfl) (by rfl) (by (intro ax wx hk Kx hK; obtain ⟨v17, k17, h17⟩ := hk.dep 10 17 _ rfl rfl rfl; (first | (cases (h17 : v17 = _)) | (obtain ⟨rfl, h17⟩ := h17) | skip); have hj := hk.j; clear hk; have z1 : wx.cell? ⟨g, 1, none⟩ = some (.int .i64 (p : Int)) := hj.1.cell 1 _ rfl; have z0 : wx.cell? ⟨g, 0, none⟩ = some (.string s) := hj.1.cell 0 _ rfl; go_simp; refine hK _ _ ?_ (Below.refl _ _); apply Rg.mk))) ?_ rfl
  first
    | refine Rg.build_cons (m := 13) (Rg.one_no 2 9 true (by rfl) (by rfl) (by rfl) (by rfl)) ?_ rfl
    | refine Rg.build_cons (m := 13) (Rg.one_und 2 9 true (by rfl) (by rfl) (by rfl) (by rfl)) ?_ rfl
    | refine Rg.build_cons (m := 13) (r := Rg.eq _) (Rg.one_yes 2 9 true (by rfl) (by rfl) (by rfl) (by rfl) (by (intro ax wx hk Kx hK; obtain ⟨v18, k18, h18⟩ := hk.dep 11 18 _ rfl rfl rfl; (first | (cases (h18 : v18 = _)) | (obtain ⟨rfl, h18⟩ := h18) | skip); have hj := hk.j; clear hk; have z1 : wx.cell? ⟨g, 1, none⟩ = some (.int .i64 (p : Int)) := hj.1.cell 1 _ rfl; have z0 : wx.cell? ⟨g, 0, none⟩ = some (.string s) := hj.1.cell 0 _ rfl; go_simp; refine hK _ _ ?_ (Below.refl _ _); apply Rg.mk))) ?_ rfl
  first
    | refine Rg.build_cons (m := 14) (Rg.one_no 2 9 true (by rfl) (by rfl) (by rfl) (by rfl)) ?_ rfl
    | refine Rg.build_cons (m := 14) (Rg.one_und 2 9 true (by rfl) (by rfl) (by rfl) (by rfl)) ?_ rfl
    | refine Rg.build_cons (m := 14) (r := Rg.eq (.bool false)) (Rg.one_yes 2 9 true (by rfl) (by rfl) (by rfl) (by rfl) (by (intro ax wx hk Kx hK; obtain ⟨v14, k14, h14⟩ := hk.dep 7 14 _ rfl rfl rfl; (first | (cases (h14 : v14 = _)) | (obtain ⟨rfl, h14⟩ := h14) | skip); obtain ⟨v19, k19, h19⟩ := hk.dep 12 19 _ rfl rfl rfl; (first | (cases (h19 : v19 = _)) | (obtain ⟨rfl, h19⟩ := h19) | skip); have hj := hk.j; clear hk; have z1 : wx.cell? ⟨g, 1, none⟩ = some (.int .i64 (p : Int)) := hj.1.cell 1 _ rfl; have z0 : wx.cell? ⟨g, 0, none⟩ = some (.string s) := hj.1.cell 0 _ rfl; (go_simp; refine hK _ _ ?_ (Below.refl _ _); first | (simp [Rg.eq, hnI]; done) | (simp [Rg.eq]; omega))))) ?_ rfl
  refine Rg.build_cons (m := 15) (r := Rg.eq _) (Rg.one_plain (by rfl) (by (intro ax wx hk Kx hK; obtain ⟨v9, k9, h9⟩ := hk.dep 2 9 _ rfl rfl rfl; (first | (cases (h9 : v9 = _)) | (obtain ⟨rfl, h9⟩ := h9) | skip); obtain ⟨v20, k20, h20⟩ := hk.dep 13 20 _ rfl rfl rfl; (first | (cases (h20 : v20 = _)) | (obtain ⟨rfl, h20⟩ := h20) | skip); have hj := hk.j; clear hk; have z1 : wx.cell? ⟨g, 1, none⟩ = some (.int .i64 (p : Int)) := hj.1.cell 1 _ rfl; have z0 : wx.cell? ⟨g, 0, none⟩ = some (.string s) := hj.1.cell 0 _ rfl; go_simp; refine hK _ _ ?_ (Below.refl _ _); apply Rg.mk))) ?_ rfl
  refine Rg.build_end fun wx hj => ?_
  refine Rg.fin_eq rfl ?_
  refine Rg.fin_eq rfl ?_
  refine Rg.fin_eq rfl ?_
  refine Rg.fin_eq rfl ?_
  refine Rg.fin_eq rfl ?_
  refine Rg.fin_eq rfl ?_
  refine Rg.fin_eq rfl ?_
  first | refine Rg.fin_eq rfl ?_ | refine Rg.fin_any rfl fun v14 h14 => ?_
  refine Rg.fin_eq rfl ?_
  refine Rg.fin_eq rfl ?_
  refine Rg.fin_eq rfl ?_
  refine Rg.fin_eq rfl ?_
  refine Rg.fin_eq rfl ?_
  first | refine Rg.fin_eq rfl ?_ | refine Rg.fin_any rfl fun v20 h20 => ?_
  refine Rg.fin_eq rfl ?_
  refine Rg.fin_nil ?_
  simp only [List.set_cons_zero, List.set_cons_succ]
  have HA1 := Lib.hid hj.1; have HZ1 := Lib.hid hj.2.1; have HO1 := Lib.hid hj.2.2
  clear hj
  obtain ⟨wA, hwA⟩ : ∃ wA : World, wA = wx := ⟨_, rfl⟩
  rw [← hwA] at HA1 HZ1 HO1 ⊢
  clear hwA
  have HM1 := Lib.hid (memX g s p o wA (HA1.out) HPS.out HS.out)
  go_wp2_with fail
  refine (HM1.out).mono ?_
  cases hmf : memberF s p with
  | no c x =>
    rw [hmf] at HX
    have HR := Lib.hid (HX.out.trans (show itemE s (.no c x) = .no c x from rfl))
    rintro e9 w2 ⟨ho, b, rfl, hx⟩
    refine ⟨rfl, ?_⟩
    rw [HR.out]
    exact ⟨HO1.out.tr ho, b, rfl, hx⟩
  | ok lo q =>
    rw [hmf] at HX
    have hin := memberF_in s p HPS.out
    rw [hmf] at hin
    have hlo : lo < 256 := hin.2 lo q rfl
    have hq : p + 1 ≤ q ∧ q ≤ s.size := hin.1
    rintro e9 w2 ⟨ho, rfl, ha⟩
    have HO2 := Lib.hid (HO1.out.tr ho); have HA2 := Lib.hid ha; have HZ2 := Lib.hid (HZ1.out.only ho HG.out)
    have HI := isX g s q o 45 w2 ha hq.2 (by decide)
    have hloI : (lo : Int) < 256 := by omega
    have HLO := Lib.hid hlo; have HQ := Lib.hid hq
    clear ho ha hin hmf HM1 hlo hq
    by_cases h45 : ch s q = 45
    · have HX1 := Lib.hid (HX.out.trans (show itemE s (.ok lo q) = (match memberF s (q + 1) with | .no c x => .no c x | .ok hi r => if hi < lo then .no 2 (r - 1) else .ok (spanF lo (hi + 1)) r) from if_pos h45))
      have hqlt : q < s.size := ch_ge (by omega)
      rw [decide_eq_true h45] at HI
      have HIH := Lib.hid HI
      have HQL := Lib.hid hqlt
      have hqI : (q : Int) < 1000 := by have := HS.out; omega
      clear HX HI h45 hqlt
      go_wp2_with fail
      refine (HIH.out).mono ?_
      rintro e9 w3 ⟨rfl, hb⟩
      have HO3 := Lib.hid ((HO2.out.tb hb).st g 1 (.int .i64 ((q : Int) + 1)) (.inl rfl)); have HA3 := Lib.hid (HA2.out.below hb)
      have HZ3 := Lib.hid ((HZ2.out.below hb).far (p := ⟨g, 1, none⟩) (fun e => HG.out e) (.int .i64 ((q : Int) + 1)))
      have z1 : w3.cell? ⟨g, 1, none⟩ = some (.int .i64 (q : Int)) := HA3.out.cell 1 _ rfl
      have f1 := HA3.out.frozen 1
      have HA4 : Hid (AtG (w3.setCell ⟨g, 1, none⟩ (.int .i64 ((q : Int) + 1))) g 94 (rxr s ((q + 1 : Nat) : Int) o)) := Lib.hid (by
        rw [show ((q + 1 : Nat) : Int) = (q : Int) + 1 from by omega]; exact HA3.out.set 1 _)
      have HM2 := Lib.hid (memX g s (q + 1) o _ HA4.out HQL.out HS.out)
      clear hb HIH
      go_wp2_with fail
      refine (HM2.out).mono ?_
      cases hmf : memberF s (q + 1) with
      | no c x =>
        rw [hmf] at HX1
        dsimp only at HX1
        rintro e9 w4 ⟨ho, b, rfl, hx⟩
        refine ⟨rfl, ?_⟩
        rw [HX1.out]
        exact ⟨HO3.out.tr ho, b, rfl, hx⟩
      | ok hi r =>
        rw [hmf] at HX1
        dsimp only at HX1
        have hin := memberF_in s (q + 1) HQL.out
        rw [hmf] at hin
        have hhi : hi < 256 := hin.2 hi r rfl
        have hr : q + 1 + 1 ≤ r ∧ r ≤ s.size := hin.1
        rintro e9 w4 ⟨ho, rfl, ha⟩
        have HO4 := Lib.hid (HO3.out.tr ho); have HA5 := Lib.hid ha; have HZ4 := Lib.hid (HZ3.out.only ho HG.out)
        have hhiI : (hi : Int) < 256 := by omega
        clear ho ha hin hmf HM2 z1 f1 HA3 HA4
        by_cases hlt : hi < lo
        · have HR := Lib.hid (HX1.out.trans (if_pos hlt))
          have hltI : (hi : Int) < (lo : Int) := by omega
          obtain ⟨rp, hrp⟩ : ∃ rp, r = rp + 1 := ⟨r - 1, by omega⟩
          subst hrp
          rw [show rp + 1 - 1 = rp from rfl] at HR
          have z1 : w4.cell? ⟨g, 1, none⟩ = some (.int .i64 ((rp + 1 : Nat) : Int)) := HA5.out.cell 1 _ rfl
          rw [show ((rp + 1 : Nat) : Int) = (rp : Int) + 1 from by omega] at z1
          have hrI : (rp : Int) < 1000 := by have := HS.out; omega
          clear HX1 hlt hr hhi
          go_wp2_with fail
          refine (failX g rp 2 _).mono ?_
          rintro e9 w5 ⟨hb2, b, rfl, hx⟩
          refine ⟨rfl, ?_⟩
          rw [HR.out]
          exact ⟨HO4.out.tb hb2, b, rfl, hx⟩
        · have HR := Lib.hid (HX1.out.trans (if_neg hlt))
          have hltI : ¬ (hi : Int) < (lo : Int) := by omega
          have HRG := Lib.hid (rangeP lo hi w4 HLO.out hhi)
          clear HX1 hlt hr hhi
          go_wp2_with fail
          refine (HRG.out).mono ?_
          rintro e9 w5 ⟨rfl, hb⟩
          have HO5 := Lib.hid (HO4.out.tb hb); have HA6 := Lib.hid (HA5.out.below hb); have HZ5 := Lib.hid (HZ4.out.below hb)
          clear hb HRG HA5 HZ4
          have d0 := (HZ5.out).cell 0 _ rfl; have d1 := (HZ5.out).cell 1 _ rfl; have d2 := (HZ5.out).cell 2 _ rfl; have d3 := (HZ5.out).cell 3 _ rfl
          have f0 := (HZ5.out).frozen 0; have f1 := (HZ5.out).frozen 1; have f2 := (HZ5.out).frozen 2; have f3 := (HZ5.out).frozen 3
          unfold setOf
          go_wp2_with fail
          refine bodyPost_ret (v := setOf (spanF lo (hi + 1))) (by simp [results, Tryz.results131, go_sem, d0, d1, d2, d3]; try rfl) rfl ?_
          rw [HR.out]
          exact ⟨HO5.out.pS _ _ (.inr (Nat.le_refl _)), rfl, putS_far HA6.out (fun e => HG.out e.symm) _⟩
    · have HR := Lib.hid (HX.out.trans (show itemE s (.ok lo q) = .ok (spanF lo (lo + 1)) q from if_neg h45))
      rw [decide_eq_false h45] at HI
      have HIH := Lib.hid HI
      clear HX HI h45
      go_wp2_with fail
      refine (HIH.out).mono ?_
      rintro e9 w3 ⟨rfl, hb⟩
      have HO3 := Lib.hid (HO2.out.tb hb); have HA3 := Lib.hid (HA2.out.below hb); have HZ3 := Lib.hid (HZ2.out.below hb)
      have HOF := Lib.hid (ofP _ w3.heap.size (lo : Int) (by omega) hloI (AtG.new w3 5 #[.int .u8 (lo : Int)]))
      rw [Int.toNat_natCast, set_one] at HOF
      clear hb HIH
      go_wp2_with fail
      refine (HOF.out).mono ?_
      rintro e9 w5 ⟨rfl, hb⟩
      have HO5 := Lib.hid ((HO3.out.al (.cells #[.int .u8 (lo : Int)] 5)).tb hb); have HA6 := Lib.hid ((HA3.out.alloc _).below hb); have HZ5 := Lib.hid ((HZ3.out.alloc _).below hb)
      clear hb HOF HA3 HZ3
      have d0 := (HZ5.out).cell 0 _ rfl; have d1 := (HZ5.out).cell 1 _ rfl; have d2 := (HZ5.out).cell 2 _ rfl; have d3 := (HZ5.out).cell 3 _ rfl
      have f0 := (HZ5.out).frozen 0; have f1 := (HZ5.out).frozen 1; have f2 := (HZ5.out).frozen 2; have f3 := (HZ5.out).frozen 3
      unfold setOf
      go_wp2_with fail
      refine bodyPost_ret (v := setOf (spanF lo (lo + 1))) (by simp [results, Tryz.results131, go_sem, d0, d1, d2, d3]; try rfl) rfl ?_
      rw [HR.out]
      exact ⟨HO5.out.pS _ _ (.inr (Nat.le_refl _)), rfl, putS_far HA6.out (fun e => HG.out e.symm) _⟩
set_option maxRecDepth 100000 in
set_option maxHeartbeats 1600000 in
theorem itemX_some (g : Nat) (s : ByteArray) (p o : Nat) (w : World) (h : AtG w g 94 (rxr s p o)) (hp : p ≤ s.size) (hs : s.size ≤ 900) (h92 : ch s p = 92) (hn : p + 1 < s.size) (F : Nat → Bool) (hwd : wideF (ch s (p + 1)) = some F) :
    Calls Tryz.prog 131 #[.pointer (some ⟨g, 0, none⟩)] w (RxP g s o w (itemF s p) (fun f => setOf f)) := by
  have HS := Lib.hid hs; have HPS := Lib.hid hp
  have HG := Lib.hid (show ¬ w.heap.size = g by have := h.lt; omega)
  have HA0 := Lib.hid (h.alloc (.cells (setC 0 0 0 0) 38))
  have HZ0 := Lib.hid (AtG.new w 38 (setC 0 0 0 0))
  have HO0 := Lib.hid ((Only.refl (S := fun k => k = g) w).al (.cells (setC 0 0 0 0) 38))
  have hwp : IntKind.i64.wrap ((p : Int) + 1) = (p : Int) + 1 := by rw [IntKind.wrap_i64]; omega
  have HX := Lib.hid (show itemF s p = .ok F (p + 2) from by unfold itemF; rw [if_pos ⟨h92, hn⟩, hwd])
  have HIS := Lib.hid (fun (w1 : World) (h1 : AtG w1 g 94 (rxr s p o)) => isX g s p o 92 w1 h1 hp (by decide))
  rw [decide_eq_true h92] at HIS
  have hnI : (p : Int) + 1 < (s.size : Int) := by omega
  have hwv : wideV (ch s (p + 1)) = .tuple #[setOf F, .bool true] := by unfold wideV; rw [hwd]
  have HWD := Lib.hid (wideX (ch s (p + 1)))
  rw [hwv] at HWD
  obtain ⟨c1, hc1⟩ : ∃ c1, c1 = ch s (p + 1) := ⟨_, rfl⟩
  have hch : ((s[p + 1].toNat : Nat) : Int) = c1 := by rw [hc1, ch_in hn]
  rw [← hc1] at HWD
  generalize itemF s p = R at *
  clear h92 h hp hwd hwv hc1
  go_enter Tryz.func131, Tryz.ntmps131
  go_upto_region 1 with (fail)
  refine Rg.wp_region_each (by kernel_rfl) (fun w' => AtG w' g 94 (rxr s p o) ∧ AtG w' w.heap.size 38 (setC 0 0 0 0) ∧ Only (fun k => k = g) w w') (fun w1 w2 h hb => ⟨h.1.below hb, h.2.1.below hb, h.2.2.tb hb⟩) (by kernel_rfl) (by kernel_rfl) (⟨HA0.out, HZ0.out, HO0.out⟩) ?_
  show Rg.Build _ _ _ _ _ 0 [_, _, _, _, _, _, _, _, _, _, _, _, _, _, _] []
  refine Rg.build_cons (m := 1) (r := Rg.eq _) (Rg.one_plain (by rfl) (by (intro ax wx hk Kx hK; have k0 := hk.base 0 _ rfl rfl; have hj := hk.j; clear hk; have z1 : wx.cell? ⟨g, 1, none⟩ = some (.int .i64 (p : Int)) := hj.1.cell 1 _ rfl; have z0 : wx.cell? ⟨g, 0, none⟩ = some (.string s) := hj.1.cell 0 _ rfl; go_simp; refine hK _ _ ?_ (Below.refl _ _); apply Rg.mk))) ?_ rfl
  refine Rg.build_cons (m := 2) (r := Rg.eq _) (Rg.one_plain (by rfl) (by (intro ax wx hk Kx hK; obtain ⟨v7, k7, h7⟩ := hk.dep 0 7 _ rfl rfl rfl; (first | (cases (h7 : v7 = _)) | (obtain ⟨rfl, h7⟩ := h7) | skip); have hj := hk.j; clear hk; have z1 : wx.cell? ⟨g, 1, none⟩ = some (.int .i64 (p : Int)) := hj.1.cell 1 _ rfl; have z0 : wx.cell? ⟨g, 0, none⟩ = some (.string s) := hj.1.cell 0 _ rfl; go_simp; refine (HIS.out _ hj.1).mono ?_; rintro e w' ⟨rfl, hb⟩; refine hK _ _ ?_ hb; apply Rg.mk))) ?_ rfl
  refine Rg.build_cons (m := 3) (r := Rg.eq _) (Rg.one_plain (by rfl) (by (intro ax wx hk Kx hK; obtain ⟨v8, k8, h8⟩ := hk.dep 1 8 _ rfl rfl rfl; (first | (cases (h8 : v8 = _)) | (obtain ⟨rfl, h8⟩ := h8) | skip); have hj := hk.j; clear hk; have z1 : wx.cell? ⟨g, 1, none⟩ = some (.int .i64 (p : Int)) := hj.1.cell 1 _ rfl; have z0 : wx.cell? ⟨g, 0, none⟩ = some (.string s) := hj.1.cell 0 _ rfl; go_simp; refine hK _ _ ?_ (Below.refl _ _); apply Rg.mk))) ?_ rfl
  first
    | refine Rg.build_cons (m := 4) (Rg.one_no 2 9 true (by rfl) (by rfl) (by rfl) (by rfl)) ?_ rfl
    | refine Rg.build_cons (m := 4) (Rg.one_und 2 9 true (by rfl) (by rfl) (by rfl) (by rfl)) ?_ rfl
    | refine Rg.build_cons (m := 4) (r := Rg.eq _) (Rg.one_yes 2 9 true (by rfl) (by rfl) (by rfl) (by rfl) (by (intro ax wx hk Kx hK; have k0 := hk.base 0 _ rfl rfl; have hj := hk.j; clear hk; have z1 : wx.cell? ⟨g, 1, none⟩ = some (.int .i64 (p : Int)) := hj.1.cell 1 _ rfl; have z0 : wx.cell? ⟨g, 0, none⟩ = some (.string s) := hj.1.cell 0 _ rfl; go_simp; refine hK _ _ ?_ (Below.refl _ _); apply Rg.mk))) ?_ rfl
  first
    | refine Rg.build_cons (m := 5) (Rg.one_no 2 9 true (by rfl) (by rfl) (by rfl) (by rfl)) ?_ rfl
    | refine Rg.build_cons (m := 5) (Rg.one_und 2 9 true (by rfl) (by rfl) (by rfl) (by rfl)) ?_ rfl
    | refine Rg.build_cons (m := 5) (r := Rg.eq _) (Rg.one_yes 2 9 true (by rfl) (by rfl) (by rfl) (by rfl) (by (intro ax wx hk Kx hK; obtain ⟨v10, k10, h10⟩ := hk.dep 3 10 _ rfl rfl rfl; (first | (cases (h10 : v10 = _)) | (obtain ⟨rfl, h10⟩ := h10) | skip); have hj := hk.j; clear hk; have z1 : wx.cell? ⟨g, 1, none⟩ = some (.int .i64 (p : Int)) := hj.1.cell 1 _ rfl; have z0 : wx.cell? ⟨g, 0, none⟩ = some (.string s) := hj.1.cell 0 _ rfl; go_simp; refine hK _ _ ?_ (Below.refl _ _); apply Rg.mk))) ?_ rfl
  first
    | refine Rg.build_cons (m := 6) (Rg.one_no 2 9 true (by rfl) (by rfl) (by rfl) (by rfl)) ?_ rfl
    | refine Rg.build_cons (m := 6) (Rg.one_und 2 9 true (by rfl) (by rfl) (by rfl) (by rfl)) ?_ rfl
    | refine Rg.build_cons (m := 6) (r := Rg.eq _) (Rg.one_yes 2 9 true (by rfl) (by rfl) (by rfl) (by rfl) (by (intro ax wx hk Kx hK; obtain ⟨v11, k11, h11⟩ := hk.dep 4 11 _ rfl rfl rfl; (first | (cases (h11 : v11 = _)) | (obtain ⟨rfl, h11⟩ := h11) | skip); have hj := hk.j; clear hk; have z1 : wx.cell? ⟨g, 1, none⟩ = some (.int .i64 (p : Int)) := hj.1.cell 1 _ rfl; have z0 : wx.cell? ⟨g, 0, none⟩ = some (.string s) := hj.1.cell 0 _ rfl; go_simp; refine hK _ _ ?_ (Below.refl _ _); apply Rg.mk))) ?_ rfl
  first
    | refine Rg.build_cons (m := 7) (Rg.one_no 2 9 true (by rfl) (by rfl) (by rfl) (by rfl)) ?_ rfl
    | refine Rg.build_cons (m := 7) (Rg.one_und 2 9 true (by rfl) (by rfl) (by rfl) (by rfl)) ?_ rfl
    | refine Rg.build_cons (m := 7) (r := Rg.eq _) (Rg.one_yes 2 9 true (by rfl) (by rfl) (by rfl) (by rfl) (by (intro ax wx hk Kx hK; obtain ⟨v12, k12, h12⟩ := hk.dep 5 12 _ rfl rfl rfl; (first | (cases (h12 : v12 = _)) | (obtain ⟨rfl, h12⟩ := h12) | skip); have hj := hk.j; clear hk; have z1 : wx.cell? ⟨g, 1, none⟩ = some (.int .i64 (p : Int)) := hj.1.cell 1 _ rfl; have z0 : wx.cell? ⟨g, 0, none⟩ = some (.string s) := hj.1.cell 0 _ rfl; go_simp; refine hK _ _ ?_ (Below.refl _ _); apply Rg.mk))) ?_ rfl
  first
    | refine Rg.build_cons (m := 8) (Rg.one_no 2 9 true (by rfl) (by rfl) (by rfl) (by rfl)) ?_ rfl
    | refine Rg.build_cons (m := 8) (Rg.one_und 2 9 true (by rfl) (by rfl) (by rfl) (by rfl)) ?_ rfl
    | refine Rg.build_cons (m := 8) (r := Rg.eq (.int .i64 ((p : Int) + 1))) (Rg.one_yes 2 9 true (by rfl) (by rfl) (by rfl) (by rfl) (by (intro ax wx hk Kx hK; obtain ⟨v13, k13, h13⟩ := hk.dep 6 13 _ rfl rfl rfl; (first | (cases (h13 : v13 = _)) | (obtain ⟨rfl, h13⟩ := h13) | skip); have hj := hk.j; clear hk; have z1 : wx.cell? ⟨g, 1, none⟩ = some (.int .i64 (p : Int)) := hj.1.cell 1 _ rfl; have z0 : wx.cell? ⟨g, 0, none⟩ = some (.string s) := hj.1.cell 0 _ rfl; (go_simp; refine hK _ _ ?_ (Below.refl _ _); simp [Rg.eq, hwp])))) ?_ rfl
  first
    | refine Rg.build_cons (m := 9) (Rg.one_no 2 9 true (by rfl) (by rfl) (by rfl) (by rfl)) ?_ rfl
    | refine Rg.build_cons (m := 9) (Rg.one_und 2 9 true (by rfl) (by rfl) (by rfl) (by rfl)) ?_ rfl
    | refine Rg.build_cons (m := 9) (r := Rg.eq _) (Rg.one_yes 2 9 true (by rfl) (by rfl) (by rfl) (by rfl) (by (intro ax wx hk Kx hK; have k0 := hk.base 0 _ rfl rfl; have hj := hk.j; clear hk; have z1 : wx.cell? ⟨g, 1, none⟩ = some (.int .i64 (p : Int)) := hj.1.cell 1 _ rfl; have z0 : wx.cell? ⟨g, 0, none⟩ = some (.string s) := hj.1.cell 0 _ rfl; go_simp; refine hK _ _ ?_ (Below.refl _ _); apply Rg.mk))) ?_ rfl
  first
    | refine Rg.build_cons (m := 10) (Rg.one_no 2 9 true (by rfl) (by rfl) (by rfl) (by rfl)) ?_ rfl
    | refine Rg.build_cons (m := 10) (Rg.one_und 2 9 true (by rfl) (by rfl) (by rfl) (by rfl)) ?_ rfl
    | refine Rg.build_cons (m := 10) (r := Rg.eq _) (Rg.one_yes 2 9 true (by rfl) (by rfl) (by rfl) (by rfl) (by (intro ax wx hk Kx hK; obtain ⟨v15, k15, h15⟩ := hk.dep 8 15 _ rfl rfl rfl; (first | (cases (h15 : v15 = _)) | (obtain ⟨rfl, h15⟩ := h15) | skip); have hj := hk.j; clear hk; have z1 : wx.cell? ⟨g, 1, none⟩ = some (.int .i64 (p : Int)) := hj.1.cell 1 _ rfl; have z0 : wx.cell? ⟨g, 0, none⟩ = some (.string s) := hj.1.cell 0 _ rfl; go_simp; refine hK _ _ ?_ (Below.refl _ _); apply Rg.mk))) ?_ rfl
  first
    | refine Rg.build_cons (m := 11) (Rg.one_no 2 9 true (by rfl) (by rfl) (by rfl) (by rfl)) ?_ rfl
    | refine Rg.build_cons (m := 11) (Rg.one_und 2 9 true (by rfl) (by rfl) (by rfl) (by rfl)) ?_ rfl
    | refine Rg.build_cons (m := 11) (r := Rg.eq _) (Rg.one_yes 2 9 true (by rfl) (by rfl) (by rfl) (by rfl) (by (intro ax wx hk Kx hK; obtain ⟨v16, k16, h16⟩ := hk.dep 9 16 _ rfl rfl rfl; (first | (cases (h16 : v16 = _)) | (obtain ⟨rfl, h16⟩ := h16) | skip); have hj := hk.j; clear hk; have z1 : wx.cell? ⟨g, 1, none⟩ = some (.int .i64 (p : Int)) := hj.1.cell 1 _ rfl; have z0 : wx.cell? ⟨g, 0, none⟩ = some (.string s) := hj.1.cell 0 _ rfl; go_simp; refine hK _ _ ?_ (Below.refl _ _); apply Rg.mk))) ?_ rfl
  first
    | refine Rg.build_cons (m := 12) (Rg.one_no 2 9 true (by rfl) (by rfl) (by rfl) (by rfl)) ?_ rfl
    | refine Rg.build_cons (m := 12) (Rg.one_und 2 9 true (by rfl) (by rfl) (by rfl) (by rfl)) ?_ rfl
    | refine Rg.build_cons (m := 12) (r := Rg.eq _) (Rg.one_yes 2 9 true (by rfl) (by rfl) (by rfl) (by rfl) (by (intro ax wx hk Kx hK; obtain ⟨v17, k17, h17⟩ := hk.dep 10 17 _ rfl rfl rfl; (first | (cases (h17 : v17 = _)) | (obtain ⟨rfl, h17⟩ := h17) | skip); have hj := hk.j; clear hk; have z1 : wx.cell? ⟨g, 1, none⟩ = some (.int .i64 (p : Int)) := hj.1.cell 1 _ rfl; have z0 : wx.cell? ⟨g, 0, none⟩ = some (.string s) := hj.1.cell 0 _ rfl; go_simp; refine hK _ _ ?_ (Below.refl _ _); apply Rg.mk))) ?_ rfl
  first
    | refine Rg.build_cons (m := 13) (Rg.one_no 2 9 true (by rfl) (by rfl) (by rfl) (by rfl)) ?_ rfl
    | refine Rg.build_cons (m := 13) (Rg.one_und 2 9 true (by rfl) (by rfl) (by rfl) (by rfl)) ?_ rfl
    | refine Rg.build_cons (m := 13) (r := Rg.eq _) (Rg.one_yes 2 9 true (by rfl) (by rfl) (by rfl) (by rfl) (by (intro ax wx hk Kx hK; obtain ⟨v18, k18, h18⟩ := hk.dep 11 18 _ rfl rfl rfl; (first | (cases (h18 : v18 = _)) | (obtain ⟨rfl, h18⟩ := h18) | skip); have hj := hk.j; clear hk; have z1 : wx.cell? ⟨g, 1, none⟩ = some (.int .i64 (p : Int)) := hj.1.cell 1 _ rfl; have z0 : wx.cell? ⟨g, 0, none⟩ = some (.string s) := hj.1.cell 0 _ rfl; go_simp; refine hK _ _ ?_ (Below.refl _ _); apply Rg.mk))) ?_ rfl
  first
    | refine Rg.build_cons (m := 14) (Rg.one_no 2 9 true (by rfl) (by rfl) (by rfl) (by rfl)) ?_ rfl
    | refine Rg.build_cons (m := 14) (Rg.one_und 2 9 true (by rfl) (by rfl) (by rfl) (by rfl)) ?_ rfl
    | refine Rg.build_cons (m := 14) (r := Rg.eq (.bool true)) (Rg.one_yes 2 9 true (by rfl) (by rfl) (by rfl) (by rfl) (by (intro ax wx hk Kx hK; obtain ⟨v14, k14, h14⟩ := hk.dep 7 14 _ rfl rfl rfl; (first | (cases (h14 : v14 = _)) | (obtain ⟨rfl, h14⟩ := h14) | skip); obtain ⟨v19, k19, h19⟩ := hk.dep 12 19 _ rfl rfl rfl; (first | (cases (h19 : v19 = _)) | (obtain ⟨rfl, h19⟩ := h19) | skip); have hj := hk.j; clear hk; have z1 : wx.cell? ⟨g, 1, none⟩ = some (.int .i64 (p : Int)) := hj.1.cell 1 _ rfl; have z0 : wx.cell? ⟨g, 0, none⟩ = some (.string s) := hj.1.cell 0 _ rfl; (go_simp; refine hK _ _ ?_ (Below.refl _ _); first | (simp [Rg.eq, hnI]; done) | (simp [Rg.eq]; omega))))) ?_ rfl
  refine Rg.build_cons (m := 15) (r := Rg.eq _) (Rg.one_plain (by rfl) (by (intro ax wx hk Kx hK; obtain ⟨v9, k9, h9⟩ := hk.dep 2 9 _ rfl rfl rfl; (first | (cases (h9 : v9 = _)) | (obtain ⟨rfl, h9⟩ := h9) | skip); obtain ⟨v20, k20, h20⟩ := hk.dep 13 20 _ rfl rfl rfl; (first | (cases (h20 : v20 = _)) | (obtain ⟨rfl, h20⟩ := h20) | skip); have hj := hk.j; clear hk; have z1 : wx.cell? ⟨g, 1, none⟩ = some (.int .i64 (p : Int)) := hj.1.cell 1 _ rfl; have z0 : wx.cell? ⟨g, 0, none⟩ = some (.string s) := hj.1.cell 0 _ rfl; go_simp; refine hK _ _ ?_ (Below.refl _ _); apply Rg.mk))) ?_ rfl
  refine Rg.build_end fun wx hj => ?_
  refine Rg.fin_eq rfl ?_
  refine Rg.fin_eq rfl ?_
  refine Rg.fin_eq rfl ?_
  refine Rg.fin_eq rfl ?_
  refine Rg.fin_eq rfl ?_
  refine Rg.fin_eq rfl ?_
  refine Rg.fin_eq rfl ?_
  first | refine Rg.fin_eq rfl ?_ | refine Rg.fin_any rfl fun v14 h14 => ?_
  refine Rg.fin_eq rfl ?_
  refine Rg.fin_eq rfl ?_
  refine Rg.fin_eq rfl ?_
  refine Rg.fin_eq rfl ?_
  refine Rg.fin_eq rfl ?_
  first | refine Rg.fin_eq rfl ?_ | refine Rg.fin_any rfl fun v20 h20 => ?_
  refine Rg.fin_eq rfl ?_
  refine Rg.fin_nil ?_
  simp only [List.set_cons_zero, List.set_cons_succ]
  have HA1 := Lib.hid hj.1; have HZ1 := Lib.hid hj.2.1; have HO1 := Lib.hid hj.2.2
  clear hj
  obtain ⟨wA, hwA⟩ : ∃ wA : World, wA = wx := ⟨_, rfl⟩
  rw [← hwA] at HA1 HZ1 HO1 ⊢
  clear hwA
  go_upto_region 2 with (fail)
  have HZL := Lib.hid HZ1.out.lt
  refine RgX.start (by kernel_rfl) [(15, fun w5 w6 => ∃ gg f, w.heap.size < gg ∧ gg ≠ g ∧ w6 = putS w5 gg f)] [⟨fun w' => AtG w' g 94 (rxr s p o) ∧ AtG w' w.heap.size 38 (setC 0 0 0 0) ∧ Only (fun k => k = g) w w', none⟩] ⟨⟨fun _ _ h hb => ⟨h.1.below hb, h.2.1.below hb, h.2.2.tb hb⟩, ⟨fun _ _ _ _ => (fun w5 w6 h he => by obtain ⟨gg, f, h1, h2, rfl⟩ := he; exact ⟨putS_far h.1 (fun e => h2 e.symm) _, putS_far h.2.1 (by omega) _, h.2.2.pS _ _ (.inr (by omega))⟩), trivial⟩⟩, trivial⟩ (by kernel_rfl) (by kernel_rfl) ⟨⟨HA1.out.drew, HZ1.out.drew, HO1.out.drew⟩, trivial⟩ ?_
  show RgX.Build _ _ _ _ _ _ 0 [_, _, _, _, _, _, _, _, _, _, _, _, _, _, _, _, _] []
  refine RgX.build_cons (m := 1) (r := RgX.eq _) (RgX.one_plain (by rfl) (by (intro ax wx hk Kx hK; have k0 := hk.base 0 _ rfl rfl; have hL := hk.fact 0 0 _ rfl rfl; (try dsimp only at hL); clear hk; have z1 : wx.cell? ⟨g, 1, none⟩ = some (.int .i64 (p : Int)) := hL.1.cell 1 _ rfl; have z0 : wx.cell? ⟨g, 0, none⟩ = some (.string s) := hL.1.cell 0 _ rfl; go_simp; refine hK _ _ (fun h => by cases h) (fun _ _ => ?_) (Below.refl _ _); apply RgX.mk))) ?_ rfl RgX.keep_eq (fun _ h => by cases h)
  refine RgX.build_cons (m := 2) (r := RgX.eq _) (RgX.one_plain (by rfl) (by (intro ax wx hk Kx hK; obtain ⟨v23, k23, h23⟩ := hk.dep 0 0 23 _ rfl rfl rfl; (first | (replace h23 := h23 9 undef rfl rfl; first | (cases (h23 : v23 = _)) | (obtain ⟨rfl, h23⟩ := h23) | skip) | skip); have hL := hk.fact 0 0 _ rfl rfl; (try dsimp only at hL); clear hk; have z1 : wx.cell? ⟨g, 1, none⟩ = some (.int .i64 (p : Int)) := hL.1.cell 1 _ rfl; have z0 : wx.cell? ⟨g, 0, none⟩ = some (.string s) := hL.1.cell 0 _ rfl; go_simp; refine hK _ _ (fun h => by cases h) (fun _ _ => ?_) (Below.refl _ _); apply RgX.mk))) ?_ rfl RgX.keep_eq (fun _ h => by cases h)
  refine RgX.build_cons (m := 3) (r := RgX.eq _) (RgX.one_plain (by rfl) (by (intro ax wx hk Kx hK; obtain ⟨v24, k24, h24⟩ := hk.dep 0 1 24 _ rfl rfl rfl; (first | (replace h24 := h24 9 undef rfl rfl; first | (cases (h24 : v24 = _)) | (obtain ⟨rfl, h24⟩ := h24) | skip) | skip); have hL := hk.fact 0 0 _ rfl rfl; (try dsimp only at hL); clear hk; have z1 : wx.cell? ⟨g, 1, none⟩ = some (.int .i64 (p : Int)) := hL.1.cell 1 _ rfl; have z0 : wx.cell? ⟨g, 0, none⟩ = some (.string s) := hL.1.cell 0 _ rfl; go_simp; refine hK _ _ (fun h => by cases h) (fun _ _ => ?_) (Below.refl _ _); apply RgX.mk))) ?_ rfl RgX.keep_eq (fun _ h => by cases h)
  refine RgX.build_cons (m := 4) (r := RgX.eq _) (RgX.one_plain (by rfl) (by (intro ax wx hk Kx hK; obtain ⟨v25, k25, h25⟩ := hk.dep 0 2 25 _ rfl rfl rfl; (first | (replace h25 := h25 9 undef rfl rfl; first | (cases (h25 : v25 = _)) | (obtain ⟨rfl, h25⟩ := h25) | skip) | skip); have hL := hk.fact 0 0 _ rfl rfl; (try dsimp only at hL); clear hk; have z1 : wx.cell? ⟨g, 1, none⟩ = some (.int .i64 (p : Int)) := hL.1.cell 1 _ rfl; have z0 : wx.cell? ⟨g, 0, none⟩ = some (.string s) := hL.1.cell 0 _ rfl; go_simp; refine hK _ _ (fun h => by cases h) (fun _ _ => ?_) (Below.refl _ _); apply RgX.mk))) ?_ rfl RgX.keep_eq (fun _ h => by cases h)
  refine RgX.build_cons (m := 5) (r := RgX.eq _) (RgX.one_plain (by rfl) (by (intro ax wx hk Kx hK; have k0 := hk.base 0 _ rfl rfl; have hL := hk.fact 0 0 _ rfl rfl; (try dsimp only at hL); clear hk; have z1 : wx.cell? ⟨g, 1, none⟩ = some (.int .i64 (p : Int)) := hL.1.cell 1 _ rfl; have z0 : wx.cell? ⟨g, 0, none⟩ = some (.string s) := hL.1.cell 0 _ rfl; go_simp; refine hK _ _ (fun h => by cases h) (fun _ _ => ?_) (Below.refl _ _); apply RgX.mk))) ?_ rfl RgX.keep_eq (fun _ h => by cases h)
  refine RgX.build_cons (m := 6) (r := RgX.eq _) (RgX.one_plain (by rfl) (by (intro ax wx hk Kx hK; obtain ⟨v27, k27, h27⟩ := hk.dep 0 4 27 _ rfl rfl rfl; (first | (replace h27 := h27 9 undef rfl rfl; first | (cases (h27 : v27 = _)) | (obtain ⟨rfl, h27⟩ := h27) | skip) | skip); have hL := hk.fact 0 0 _ rfl rfl; (try dsimp only at hL); clear hk; have z1 : wx.cell? ⟨g, 1, none⟩ = some (.int .i64 (p : Int)) := hL.1.cell 1 _ rfl; have z0 : wx.cell? ⟨g, 0, none⟩ = some (.string s) := hL.1.cell 0 _ rfl; go_simp; refine hK _ _ (fun h => by cases h) (fun _ _ => ?_) (Below.refl _ _); apply RgX.mk))) ?_ rfl RgX.keep_eq (fun _ h => by cases h)
  refine RgX.build_cons (m := 7) (r := RgX.eq _) (RgX.one_plain (by rfl) (by (intro ax wx hk Kx hK; obtain ⟨v28, k28, h28⟩ := hk.dep 0 5 28 _ rfl rfl rfl; (first | (replace h28 := h28 9 undef rfl rfl; first | (cases (h28 : v28 = _)) | (obtain ⟨rfl, h28⟩ := h28) | skip) | skip); have hL := hk.fact 0 0 _ rfl rfl; (try dsimp only at hL); clear hk; have z1 : wx.cell? ⟨g, 1, none⟩ = some (.int .i64 (p : Int)) := hL.1.cell 1 _ rfl; have z0 : wx.cell? ⟨g, 0, none⟩ = some (.string s) := hL.1.cell 0 _ rfl; go_simp; refine hK _ _ (fun h => by cases h) (fun _ _ => ?_) (Below.refl _ _); apply RgX.mk))) ?_ rfl RgX.keep_eq (fun _ h => by cases h)
  refine RgX.build_cons (m := 8) (r := RgX.eq _) (RgX.one_plain (by rfl) (by (intro ax wx hk Kx hK; obtain ⟨v29, k29, h29⟩ := hk.dep 0 6 29 _ rfl rfl rfl; (first | (replace h29 := h29 9 undef rfl rfl; first | (cases (h29 : v29 = _)) | (obtain ⟨rfl, h29⟩ := h29) | skip) | skip); have hL := hk.fact 0 0 _ rfl rfl; (try dsimp only at hL); clear hk; have z1 : wx.cell? ⟨g, 1, none⟩ = some (.int .i64 (p : Int)) := hL.1.cell 1 _ rfl; have z0 : wx.cell? ⟨g, 0, none⟩ = some (.string s) := hL.1.cell 0 _ rfl; go_simp; refine hK _ _ (fun h => by cases h) (fun _ _ => ?_) (Below.refl _ _); apply RgX.mk))) ?_ rfl RgX.keep_eq (fun _ h => by cases h)
  refine RgX.build_cons (m := 9) (r := RgX.eq (.int .i64 ((p : Int) + 1))) (RgX.one_plain (by rfl) (by (intro ax wx hk Kx hK; obtain ⟨v30, k30, h30⟩ := hk.dep 0 7 30 _ rfl rfl rfl; (first | (replace h30 := h30 9 undef rfl rfl; first | (cases (h30 : v30 = _)) | (obtain ⟨rfl, h30⟩ := h30) | skip) | skip); have hL := hk.fact 0 0 _ rfl rfl; (try dsimp only at hL); clear hk; have z1 : wx.cell? ⟨g, 1, none⟩ = some (.int .i64 (p : Int)) := hL.1.cell 1 _ rfl; have z0 : wx.cell? ⟨g, 0, none⟩ = some (.string s) := hL.1.cell 0 _ rfl; (go_simp; refine hK _ _ (fun h => by cases h) (fun _ _ => ?_) (Below.refl _ _); simp [RgX.eq, hwp])))) ?_ rfl RgX.keep_eq (fun _ h => by cases h)
  refine RgX.build_cons (m := 10) (r := RgX.eq (.int .u8 (c1))) (RgX.one_plain (by rfl) (by (intro ax wx hk Kx hK; obtain ⟨v26, k26, h26⟩ := hk.dep 0 3 26 _ rfl rfl rfl; (first | (replace h26 := h26 9 undef rfl rfl; first | (cases (h26 : v26 = _)) | (obtain ⟨rfl, h26⟩ := h26) | skip) | skip); obtain ⟨v31, k31, h31⟩ := hk.dep 0 8 31 _ rfl rfl rfl; (first | (replace h31 := h31 9 undef rfl rfl; first | (cases (h31 : v31 = _)) | (obtain ⟨rfl, h31⟩ := h31) | skip) | skip); have hL := hk.fact 0 0 _ rfl rfl; (try dsimp only at hL); clear hk; have z1 : wx.cell? ⟨g, 1, none⟩ = some (.int .i64 (p : Int)) := hL.1.cell 1 _ rfl; have z0 : wx.cell? ⟨g, 0, none⟩ = some (.string s) := hL.1.cell 0 _ rfl; (go_simp; refine hK _ _ (fun h => by cases h) (fun _ _ => ?_) (Below.refl _ _); simp [RgX.eq, hch])))) ?_ rfl RgX.keep_eq (fun _ h => by cases h)
  refine RgX.build_cons (m := 11) (r := RgX.eq _) (RgX.one_plain (by rfl) (by (intro ax wx hk Kx hK; obtain ⟨v32, k32, h32⟩ := hk.dep 0 9 32 _ rfl rfl rfl; (first | (replace h32 := h32 9 undef rfl rfl; first | (cases (h32 : v32 = _)) | (obtain ⟨rfl, h32⟩ := h32) | skip) | skip); have hL := hk.fact 0 0 _ rfl rfl; (try dsimp only at hL); clear hk; have z1 : wx.cell? ⟨g, 1, none⟩ = some (.int .i64 (p : Int)) := hL.1.cell 1 _ rfl; have z0 : wx.cell? ⟨g, 0, none⟩ = some (.string s) := hL.1.cell 0 _ rfl; go_simp; refine (HWD.out _).mono ?_; rintro e w' ⟨rfl, hb⟩; refine hK _ _ (fun h => by cases h) (fun _ _ => ?_) hb; apply RgX.mk))) ?_ rfl RgX.keep_eq (fun _ h => by cases h)
  refine RgX.build_cons (m := 12) (r := RgX.eq _) (RgX.one_plain (by rfl) (by (intro ax wx hk Kx hK; obtain ⟨v33, k33, h33⟩ := hk.dep 0 10 33 _ rfl rfl rfl; (first | (replace h33 := h33 9 undef rfl rfl; first | (cases (h33 : v33 = _)) | (obtain ⟨rfl, h33⟩ := h33) | skip) | skip); have hL := hk.fact 0 0 _ rfl rfl; (try dsimp only at hL); clear hk; have z1 : wx.cell? ⟨g, 1, none⟩ = some (.int .i64 (p : Int)) := hL.1.cell 1 _ rfl; have z0 : wx.cell? ⟨g, 0, none⟩ = some (.string s) := hL.1.cell 0 _ rfl; go_simp; refine hK _ _ (fun h => by cases h) (fun _ _ => ?_) (Below.refl _ _); apply RgX.mk))) ?_ rfl RgX.keep_eq (fun _ h => by cases h)
  refine RgX.build_cons (m := 13) (r := RgX.eq _) (RgX.one_plain (by rfl) (by (intro ax wx hk Kx hK; obtain ⟨v22, k22, h22⟩ := hk.dep 0 11 22 _ rfl rfl rfl; (first | (replace h22 := h22 9 undef rfl rfl; first | (cases (h22 : v22 = _)) | (obtain ⟨rfl, h22⟩ := h22) | skip) | skip); have hL := hk.fact 0 0 _ rfl rfl; (try dsimp only at hL); clear hk; have z1 : wx.cell? ⟨g, 1, none⟩ = some (.int .i64 (p : Int)) := hL.1.cell 1 _ rfl; have z0 : wx.cell? ⟨g, 0, none⟩ = some (.string s) := hL.1.cell 0 _ rfl; go_simp; refine hK _ _ (fun h => by cases h) (fun _ _ => ?_) (Below.refl _ _); apply RgX.mk))) ?_ rfl RgX.keep_eq (fun _ h => by cases h)
  refine RgX.build_cons (m := 14) (r := RgX.eq _) (RgX.one_plain (by rfl) (by (intro ax wx hk Kx hK; obtain ⟨v22, k22, h22⟩ := hk.dep 0 11 22 _ rfl rfl rfl; (first | (replace h22 := h22 9 undef rfl rfl; first | (cases (h22 : v22 = _)) | (obtain ⟨rfl, h22⟩ := h22) | skip) | skip); have hL := hk.fact 0 0 _ rfl rfl; (try dsimp only at hL); clear hk; have z1 : wx.cell? ⟨g, 1, none⟩ = some (.int .i64 (p : Int)) := hL.1.cell 1 _ rfl; have z0 : wx.cell? ⟨g, 0, none⟩ = some (.string s) := hL.1.cell 0 _ rfl; go_simp; refine hK _ _ (fun h => by cases h) (fun _ _ => ?_) (Below.refl _ _); apply RgX.mk))) ?_ rfl RgX.keep_eq (fun _ h => by cases h)
  refine RgX.build_cons (m := 15) (r := (⟨fun v _ w5 => ∃ gg, v = .pointer (some ⟨gg, 0, none⟩) ∧ w.heap.size < gg ∧ gg ≠ g ∧ AtG w5 gg 38 (setC 0 0 0 0), some 15, none⟩ : RgX.Rl)) (RgX.one_plain (by rfl) (by (intro ax wx hk Kx hK; have hL := hk.fact 0 0 _ rfl rfl; (try dsimp only at hL); clear hk; have z1 : wx.cell? ⟨g, 1, none⟩ = some (.int .i64 (p : Int)) := hL.1.cell 1 _ rfl; have z0 : wx.cell? ⟨g, 0, none⟩ = some (.string s) := hL.1.cell 0 _ rfl; (go_simp; exact hK _ _ (fun h => by cases h) (fun u _ => ⟨wx.heap.size, rfl, hL.2.1.lt, by have := hL.1.lt; omega, AtG.new _ _ _⟩) ((Below.refl _ _).alloc (Nat.le_refl _) _))))) ?_ rfl (RgX.keep_r (fun _ _ _ _ h hb => by obtain ⟨gg, h1, h2, h3, h4⟩ := h; exact ⟨gg, h1, h2, h3, h4.below hb⟩) (fun _ _ => ⟨fun _ h _ _ => absurd rfl h, trivial⟩)) (fun _ h => by cases h)
  refine RgX.build_cons (m := 16) (r := (⟨fun _ u w5 => ∃ gg, u = .pointer (some ⟨gg, 0, none⟩) ∧ w.heap.size < gg ∧ gg ≠ g ∧ AtG w5 gg 38 (cellsOf F), none, some 14⟩ : RgX.Rl)) (RgX.one_plain (by rfl) (by (intro ax wx hk Kx hK; obtain ⟨v3, k3, h3⟩ := hk.dep 0 14 3 _ rfl rfl rfl; (first | (replace h3 := h3 9 undef rfl rfl; first | (cases (h3 : v3 = _)) | (obtain ⟨rfl, h3⟩ := h3) | skip) | skip); obtain ⟨v34, k34, h34⟩ := hk.dep 0 12 34 _ rfl rfl rfl; (first | (replace h34 := h34 9 undef rfl rfl; first | (cases (h34 : v34 = _)) | (obtain ⟨rfl, h34⟩ := h34) | skip) | skip); have hL := hk.fact 0 0 _ rfl rfl; (try dsimp only at hL); clear hk; have z1 : wx.cell? ⟨g, 1, none⟩ = some (.int .i64 (p : Int)) := hL.1.cell 1 _ rfl; have z0 : wx.cell? ⟨g, 0, none⟩ = some (.string s) := hL.1.cell 0 _ rfl; (obtain ⟨gg, rfl, hg0, hg1, hg2⟩ := h3; have d0 := hg2.cell 0 _ rfl; have d1 := hg2.cell 1 _ rfl; have d2 := hg2.cell 2 _ rfl; have d3 := hg2.cell 3 _ rfl; have f0 := hg2.frozen 0; have f1 := hg2.frozen 1; have f2 := hg2.frozen 2; have f3 := hg2.frozen 3; unfold setOf at k34; go_simp; refine hK undef (putS wx gg F) (fun _ => rfl) (fun u hu => ?_) ⟨gg, F, hg0, hg1, rfl⟩; obtain ⟨t, ht, hu⟩ := hu; cases ht; rw [k3] at hu; cases hu; exact ⟨gg, rfl, hg0, hg1, putS_at hg2 F⟩)))) ?_ rfl (RgX.keep_r (fun _ _ _ _ h hb => by obtain ⟨gg, h1, h2, h3, h4⟩ := h; exact ⟨gg, h1, h2, h3, h4.below hb⟩) (fun _ _ => ⟨fun h _ _ _ => absurd rfl h, trivial⟩)) (fun j h => by cases h; exact ⟨0, rfl⟩)
  refine RgX.build_cons (m := 17) (r := RgX.eq _) (RgX.one_plain (by rfl) (by (intro ax wx hk Kx hK; obtain ⟨v35, k35, h35⟩ := hk.dep 0 13 35 _ rfl rfl rfl; (first | (replace h35 := h35 9 undef rfl rfl; first | (cases (h35 : v35 = _)) | (obtain ⟨rfl, h35⟩ := h35) | skip) | skip); have hL := hk.fact 0 0 _ rfl rfl; (try dsimp only at hL); clear hk; have z1 : wx.cell? ⟨g, 1, none⟩ = some (.int .i64 (p : Int)) := hL.1.cell 1 _ rfl; have z0 : wx.cell? ⟨g, 0, none⟩ = some (.string s) := hL.1.cell 0 _ rfl; go_simp; refine hK _ _ (fun h => by cases h) (fun _ _ => ?_) (Below.refl _ _); apply RgX.mk))) ?_ rfl RgX.keep_eq (fun _ h => by cases h)
  refine RgX.build_end fun wx hj => ?_
  have hL := hj 0 _ rfl rfl
  clear hj
  refine RgX.fin_eq rfl ?_
  refine RgX.fin_eq rfl ?_
  refine RgX.fin_eq rfl ?_
  refine RgX.fin_eq rfl ?_
  refine RgX.fin_eq rfl ?_
  refine RgX.fin_eq rfl ?_
  refine RgX.fin_eq rfl ?_
  refine RgX.fin_eq rfl ?_
  refine RgX.fin_eq rfl ?_
  refine RgX.fin_eq rfl ?_
  refine RgX.fin_eq rfl ?_
  refine RgX.fin_eq rfl ?_
  refine RgX.fin_eq rfl ?_
  refine RgX.fin_eq rfl ?_
  first | refine RgX.fin_eq rfl ?_ | refine RgX.fin_any rfl fun v3 h3 => ?_
  refine RgX.fin_none rfl fun s15 => ?_
  refine RgX.fin_eq rfl ?_
  refine RgX.fin_nil ?_
  simp only [List.set_cons_zero, List.set_cons_succ]
  clear h3
  obtain ⟨gg, rfl, hg0, hg1, hg2⟩ := s15 rfl v3 ⟨3, by kernel_rfl, by kernel_rfl⟩
  have HA2 := Lib.hid hL.1; have HZ2 := Lib.hid hL.2.1; have HO2 := Lib.hid hL.2.2
  clear hL s15
  have hwp2 : IntKind.i64.wrap ((p : Int) + 2) = (p : Int) + 2 := by rw [IntKind.wrap_i64]; omega
  obtain ⟨wB, hwB⟩ : ∃ wB : World, wB = wx := ⟨_, rfl⟩
  rw [← hwB] at HA2 HZ2 HO2 hg2 ⊢
  have HGG := Lib.hid hg2; have HG0 := Lib.hid (show gg ≠ w.heap.size by omega)
  clear hwB
  have z1 : wB.cell? ⟨g, 1, none⟩ = some (.int .i64 (p : Int)) := HA2.out.cell 1 _ rfl
  have y1 := HA2.out.frozen 1
  have c0 : wB.cell? ⟨gg, 0, none⟩ = some (.int .u64 ((wd F 0 : Nat) : Int)) := hg2.cell 0 _ rfl
  have c2 : wB.cell? ⟨gg, 1, none⟩ = some (.int .u64 ((wd F 1 : Nat) : Int)) := hg2.cell 1 _ rfl
  have c3 : wB.cell? ⟨gg, 2, none⟩ = some (.int .u64 ((wd F 2 : Nat) : Int)) := hg2.cell 2 _ rfl
  have c4 : wB.cell? ⟨gg, 3, none⟩ = some (.int .u64 ((wd F 3 : Nat) : Int)) := hg2.cell 3 _ rfl
  have d0 := (HZ2.out).cell 0 _ rfl; have d1 := (HZ2.out).cell 1 _ rfl; have d2 := (HZ2.out).cell 2 _ rfl; have d3 := (HZ2.out).cell 3 _ rfl
  have f0 := (HZ2.out).frozen 0; have f1 := (HZ2.out).frozen 1; have f2 := (HZ2.out).frozen 2; have f3 := (HZ2.out).frozen 3
  have hn1 := HG.out
  have hn2 : ¬ g = w.heap.size := fun e => HG.out e.symm
  clear hg2
  go_wp2_with fail
  refine bodyPost_ret (v := setOf F) (by simp [results, Tryz.results131, go_sem, d0, d1, d2, d3, hn1, hn2]; try rfl) rfl ?_
  rw [HX.out]
  refine ⟨(HO2.out.st g 1 (.int .i64 ((p : Int) + 2)) (.inl rfl)).pS _ F (.inr (Nat.le_refl _)), rfl, ?_⟩
  rw [show ((p + 2 : Nat) : Int) = (p : Int) + 2 from by omega]
  exact putS_far (HA2.out.set 1 _) hn2 F
set_option maxRecDepth 100000 in
set_option maxHeartbeats 1600000 in
theorem itemX_none (g : Nat) (s : ByteArray) (p o : Nat) (w : World) (h : AtG w g 94 (rxr s p o)) (hp : p ≤ s.size) (hs : s.size ≤ 900) (h92 : ch s p = 92) (hn : p + 1 < s.size) (hwd : wideF (ch s (p + 1)) = none) :
    Calls Tryz.prog 131 #[.pointer (some ⟨g, 0, none⟩)] w (RxP g s o w (itemF s p) (fun f => setOf f)) := by
  have HS := Lib.hid hs; have HPS := Lib.hid hp
  have HG := Lib.hid (show ¬ w.heap.size = g by have := h.lt; omega)
  have HA0 := Lib.hid (h.alloc (.cells (setC 0 0 0 0) 38))
  have HZ0 := Lib.hid (AtG.new w 38 (setC 0 0 0 0))
  have HO0 := Lib.hid ((Only.refl (S := fun k => k = g) w).al (.cells (setC 0 0 0 0) 38))
  have hwp : IntKind.i64.wrap ((p : Int) + 1) = (p : Int) + 1 := by rw [IntKind.wrap_i64]; omega
  have HX := Lib.hid (show itemF s p = itemE s (memberF s p) from by unfold itemF; rw [if_pos ⟨h92, hn⟩, hwd])
  have HIS := Lib.hid (fun (w1 : World) (h1 : AtG w1 g 94 (rxr s p o)) => isX g s p o 92 w1 h1 hp (by decide))
  rw [decide_eq_true h92] at HIS
  have hnI : (p : Int) + 1 < (s.size : Int) := by omega
  have hwv : wideV (ch s (p + 1)) = .tuple #[setOf emp, .bool false] := by unfold wideV; rw [hwd]
  have HWD := Lib.hid (wideX (ch s (p + 1)))
  rw [hwv] at HWD
  obtain ⟨c1, hc1⟩ : ∃ c1, c1 = ch s (p + 1) := ⟨_, rfl⟩
  have hch : ((s[p + 1].toNat : Nat) : Int) = c1 := by rw [hc1, ch_in hn]
  rw [← hc1] at HWD
  generalize itemF s p = R at *
  clear h92 h hp hwd hwv hc1
  go_enter Tryz.func131, Tryz.ntmps131
  go_upto_region 1 with (fail)
  refine Rg.wp_region_each (by kernel_rfl) (fun w' => AtG w' g 94 (rxr s p o) ∧ AtG w' w.heap.size 38 (setC 0 0 0 0) ∧ Only (fun k => k = g) w w') (fun w1 w2 h hb => ⟨h.1.below hb, h.2.1.below hb, h.2.2.tb hb⟩) (by kernel_rfl) (by kernel_rfl) (⟨HA0.out, HZ0.out, HO0.out⟩) ?_
  show Rg.Build _ _ _ _ _ 0 [_, _, _, _, _, _, _, _, _, _, _, _, _, _, _] []
  refine Rg.build_cons (m := 1) (r := Rg.eq _) (Rg.one_plain (by rfl) (by (intro ax wx hk Kx hK; have k0 := hk.base 0 _ rfl rfl; have hj := hk.j; clear hk; have z1 : wx.cell? ⟨g, 1, none⟩ = some (.int .i64 (p : Int)) := hj.1.cell 1 _ rfl; have z0 : wx.cell? ⟨g, 0, none⟩ = some (.string s) := hj.1.cell 0 _ rfl; go_simp; refine hK _ _ ?_ (Below.refl _ _); apply Rg.mk))) ?_ rfl
  refine Rg.build_cons (m := 2) (r := Rg.eq _) (Rg.one_plain (by rfl) (by (intro ax wx hk Kx hK; obtain ⟨v7, k7, h7⟩ := hk.dep 0 7 _ rfl rfl rfl; (first | (cases (h7 : v7 = _)) | (obtain ⟨rfl, h7⟩ := h7) | skip); have hj := hk.j; clear hk; have z1 : wx.cell? ⟨g, 1, none⟩ = some (.int .i64 (p : Int)) := hj.1.cell 1 _ rfl; have z0 : wx.cell? ⟨g, 0, none⟩ = some (.string s) := hj.1.cell 0 _ rfl; go_simp; refine (HIS.out _ hj.1).mono ?_; rintro e w' ⟨rfl, hb⟩; refine hK _ _ ?_ hb; apply Rg.mk))) ?_ rfl
  refine Rg.build_cons (m := 3) (r := Rg.eq _) (Rg.one_plain (by rfl) (by (intro ax wx hk Kx hK; obtain ⟨v8, k8, h8⟩ := hk.dep 1 8 _ rfl rfl rfl; (first | (cases (h8 : v8 = _)) | (obtain ⟨rfl, h8⟩ := h8) | skip); have hj := hk.j; clear hk; have z1 : wx.cell? ⟨g, 1, none⟩ = some (.int .i64 (p : Int)) := hj.1.cell 1 _ rfl; have z0 : wx.cell? ⟨g, 0, none⟩ = some (.string s) := hj.1.cell 0 _ rfl; go_simp; refine hK _ _ ?_ (Below.refl _ _); apply Rg.mk))) ?_ rfl
  first
    | refine Rg.build_cons (m := 4) (Rg.one_no 2 9 true (by rfl) (by rfl) (by rfl) (by rfl)) ?_ rfl
    | refine Rg.build_cons (m := 4) (Rg.one_und 2 9 true (by rfl) (by rfl) (by rfl) (by rfl)) ?_ rfl
    | refine Rg.build_cons (m := 4) (r := Rg.eq _) (Rg.one_yes 2 9 true (by rfl) (by rfl) (by rfl) (by rfl) (by (intro ax wx hk Kx hK; have k0 := hk.base 0 _ rfl rfl; have hj := hk.j; clear hk; have z1 : wx.cell? ⟨g, 1, none⟩ = some (.int .i64 (p : Int)) := hj.1.cell 1 _ rfl; have z0 : wx.cell? ⟨g, 0, none⟩ = some (.string s) := hj.1.cell 0 _ rfl; go_simp; refine hK _ _ ?_ (Below.refl _ _); apply Rg.mk))) ?_ rfl
  first
    | refine Rg.build_cons (m := 5) (Rg.one_no 2 9 true (by rfl) (by rfl) (by rfl) (by rfl)) ?_ rfl
    | refine Rg.build_cons (m := 5) (Rg.one_und 2 9 true (by rfl) (by rfl) (by rfl) (by rfl)) ?_ rfl
    | refine Rg.build_cons (m := 5) (r := Rg.eq _) (Rg.one_yes 2 9 true (by rfl) (by rfl) (by rfl) (by rfl) (by (intro ax wx hk Kx hK; obtain ⟨v10, k10, h10⟩ := hk.dep 3 10 _ rfl rfl rfl; (first | (cases (h10 : v10 = _)) | (obtain ⟨rfl, h10⟩ := h10) | skip); have hj := hk.j; clear hk; have z1 : wx.cell? ⟨g, 1, none⟩ = some (.int .i64 (p : Int)) := hj.1.cell 1 _ rfl; have z0 : wx.cell? ⟨g, 0, none⟩ = some (.string s) := hj.1.cell 0 _ rfl; go_simp; refine hK _ _ ?_ (Below.refl _ _); apply Rg.mk))) ?_ rfl
  first
    | refine Rg.build_cons (m := 6) (Rg.one_no 2 9 true (by rfl) (by rfl) (by rfl) (by rfl)) ?_ rfl
    | refine Rg.build_cons (m := 6) (Rg.one_und 2 9 true (by rfl) (by rfl) (by rfl) (by rfl)) ?_ rfl
    | refine Rg.build_cons (m := 6) (r := Rg.eq _) (Rg.one_yes 2 9 true (by rfl) (by rfl) (by rfl) (by rfl) (by (intro ax wx hk Kx hK; obtain ⟨v11, k11, h11⟩ := hk.dep 4 11 _ rfl rfl rfl; (first | (cases (h11 : v11 = _)) | (obtain ⟨rfl, h11⟩ := h11) | skip); have hj := hk.j; clear hk; have z1 : wx.cell? ⟨g, 1, none⟩ = some (.int .i64 (p : Int)) := hj.1.cell 1 _ rfl; have z0 : wx.cell? ⟨g, 0, none⟩ = some (.string s) := hj.1.cell 0 _ rfl; go_simp; refine hK _ _ ?_ (Below.refl _ _); apply Rg.mk))) ?_ rfl
  first
    | refine Rg.build_cons (m := 7) (Rg.one_no 2 9 true (by rfl) (by rfl) (by rfl) (by rfl)) ?_ rfl
    | refine Rg.build_cons (m := 7) (Rg.one_und 2 9 true (by rfl) (by rfl) (by rfl) (by rfl)) ?_ rfl
    | refine Rg.build_cons (m := 7) (r := Rg.eq _) (Rg.one_yes 2 9 true (by rfl) (by rfl) (by rfl) (by rfl) (by (intro ax wx hk Kx hK; obtain ⟨v12, k12, h12⟩ := hk.dep 5 12 _ rfl rfl rfl; (first | (cases (h12 : v12 = _)) | (obtain ⟨rfl, h12⟩ := h12) | skip); have hj := hk.j; clear hk; have z1 : wx.cell? ⟨g, 1, none⟩ = some (.int .i64 (p : Int)) := hj.1.cell 1 _ rfl; have z0 : wx.cell? ⟨g, 0, none⟩ = some (.string s) := hj.1.cell 0 _ rfl; go_simp; refine hK _ _ ?_ (Below.refl _ _); apply Rg.mk))) ?_ rfl
  first
    | refine Rg.build_cons (m := 8) (Rg.one_no 2 9 true (by rfl) (by rfl) (by rfl) (by rfl)) ?_ rfl
    | refine Rg.build_cons (m := 8) (Rg.one_und 2 9 true (by rfl) (by rfl) (by rfl) (by rfl)) ?_ rfl
    | refine Rg.build_cons (m := 8) (r := Rg.eq (.int .i64 ((p : Int) + 1))) (Rg.one_yes 2 9 true (by rfl) (by rfl) (by rfl) (by rfl) (by (intro ax wx hk Kx hK; obtain ⟨v13, k13, h13⟩ := hk.dep 6 13 _ rfl rfl rfl; (first | (cases (h13 : v13 = _)) | (obtain ⟨rfl, h13⟩ := h13) | skip); have hj := hk.j; clear hk; have z1 : wx.cell? ⟨g, 1, none⟩ = some (.int .i64 (p : Int)) := hj.1.cell 1 _ rfl; have z0 : wx.cell? ⟨g, 0, none⟩ = some (.string s) := hj.1.cell 0 _ rfl; (go_simp; refine hK _ _ ?_ (Below.refl _ _); simp [Rg.eq, hwp])))) ?_ rfl
  first
    | refine Rg.build_cons (m := 9) (Rg.one_no 2 9 true (by rfl) (by rfl) (by rfl) (by rfl)) ?_ rfl
    | refine Rg.build_cons (m := 9) (Rg.one_und 2 9 true (by rfl) (by rfl) (by rfl) (by rfl)) ?_ rfl
    | refine Rg.build_cons (m := 9) (r := Rg.eq _) (Rg.one_yes 2 9 true (by rfl) (by rfl) (by rfl) (by rfl) (by (intro ax wx hk Kx hK; have k0 := hk.base 0 _ rfl rfl; have hj := hk.j; clear hk; have z1 : wx.cell? ⟨g, 1, none⟩ = some (.int .i64 (p : Int)) := hj.1.cell 1 _ rfl; have z0 : wx.cell? ⟨g, 0, none⟩ = some (.string s) := hj.1.cell 0 _ rfl; go_simp; refine hK _ _ ?_ (Below.refl _ _); apply Rg.mk))) ?_ rfl
  first
    | refine Rg.build_cons (m := 10) (Rg.one_no 2 9 true (by rfl) (by rfl) (by rfl) (by rfl)) ?_ rfl
    | refine Rg.build_cons (m := 10) (Rg.one_und 2 9 true (by rfl) (by rfl) (by rfl) (by rfl)) ?_ rfl
    | refine Rg.build_cons (m := 10) (r := Rg.eq _) (Rg.one_yes 2 9 true (by rfl) (by rfl) (by rfl) (by rfl) (by (intro ax wx hk Kx hK; obtain ⟨v15, k15, h15⟩ := hk.dep 8 15 _ rfl rfl rfl; (first | (cases (h15 : v15 = _)) | (obtain ⟨rfl, h15⟩ := h15) | skip); have hj := hk.j; clear hk; have z1 : wx.cell? ⟨g, 1, none⟩ = some (.int .i64 (p : Int)) := hj.1.cell 1 _ rfl; have z0 : wx.cell? ⟨g, 0, none⟩ = some (.string s) := hj.1.cell 0 _ rfl; go_simp; refine hK _ _ ?_ (Below.refl _ _); apply Rg.mk))) ?_ rfl
  first
    | refine Rg.build_cons (m := 11) (Rg.one_no 2 9 true (by rfl) (by rfl) (by rfl) (by rfl)) ?_ rfl
    | refine Rg.build_cons (m := 11) (Rg.one_und 2 9 true (by rfl) (by rfl) (by rfl) (by rfl)) ?_ rfl
    | refine Rg.build_cons (m := 11) (r := Rg.eq _) (Rg.one_yes 2 9 true (by rfl) (by rfl) (by rfl) (by rfl) (by (intro ax wx hk Kx hK; obtain ⟨v16, k16, h16⟩ := hk.dep 9 16 _ rfl rfl rfl; (first | (cases (h16 : v16 = _)) | (obtain ⟨rfl, h16⟩ := h16) | skip); have hj := hk.j; clear hk; have z1 : wx.cell? ⟨g, 1, none⟩ = some (.int .i64 (p : Int)) := hj.1.cell 1 _ rfl; have z0 : wx.cell? ⟨g, 0, none⟩ = some (.string s) := hj.1.cell 0 _ rfl; go_simp; refine hK _ _ ?_ (Below.refl _ _); apply Rg.mk))) ?_ rfl
  first
    | refine Rg.build_cons (m := 12) (Rg.one_no 2 9 true (by rfl) (by rfl) (by rfl) (by rfl)) ?_ rfl
    | refine Rg.build_cons (m := 12) (Rg.one_und 2 9 true (by rfl) (by rfl) (by rfl) (by rfl)) ?_ rfl
    | refine Rg.build_cons (m := 12) (r := Rg.eq _) (Rg.one_yes 2 9 true (by rfl) (by rfl) (by rfl) (by rfl) (by (intro ax wx hk Kx hK; obtain ⟨v17, k17, h17⟩ := hk.dep 10 17 _ rfl rfl rfl; (first | (cases (h17 : v17 = _)) | (obtain ⟨rfl, h17⟩ := h17) | skip); have hj := hk.j; clear hk; have z1 : wx.cell? ⟨g, 1, none⟩ = some (.int .i64 (p : Int)) := hj.1.cell 1 _ rfl; have z0 : wx.cell? ⟨g, 0, none⟩ = some (.string s) := hj.1.cell 0 _ rfl; go_simp; refine hK _ _ ?_ (Below.refl _ _); apply Rg.mk))) ?_ rfl
  first
    | refine Rg.build_cons (m := 13) (Rg.one_no 2 9 true (by rfl) (by rfl) (by rfl) (by rfl)) ?_ rfl
    | refine Rg.build_cons (m := 13) (Rg.one_und 2 9 true (by rfl) (by rfl) (by rfl) (by rfl)) ?_ rfl
    | refine Rg.build_cons (m := 13) (r := Rg.eq _) (Rg.one_yes 2 9 true (by rfl) (by rfl) (by rfl) (by rfl) (by (intro ax wx hk Kx hK; obtain ⟨v18, k18, h18⟩ := hk.dep 11 18 _ rfl rfl rfl; (first | (cases (h18 : v18 = _)) | (obtain ⟨rfl, h18⟩ := h18) | skip); have hj := hk.j; clear hk; have z1 : wx.cell? ⟨g, 1, none⟩ = some (.int .i64 (p : Int)) := hj.1.cell 1 _ rfl; have z0 : wx.cell? ⟨g, 0, none⟩ = some (.string s) := hj.1.cell 0 _ rfl; go_simp; refine hK _ _ ?_ (Below.refl _ _); apply Rg.mk))) ?_ rfl
  first
    | refine Rg.build_cons (m := 14) (Rg.one_no 2 9 true (by rfl) (by rfl) (by rfl) (by rfl)) ?_ rfl
    | refine Rg.build_cons (m := 14) (Rg.one_und 2 9 true (by rfl) (by rfl) (by rfl) (by rfl)) ?_ rfl
    | refine Rg.build_cons (m := 14) (r := Rg.eq (.bool true)) (Rg.one_yes 2 9 true (by rfl) (by rfl) (by rfl) (by rfl) (by (intro ax wx hk Kx hK; obtain ⟨v14, k14, h14⟩ := hk.dep 7 14 _ rfl rfl rfl; (first | (cases (h14 : v14 = _)) | (obtain ⟨rfl, h14⟩ := h14) | skip); obtain ⟨v19, k19, h19⟩ := hk.dep 12 19 _ rfl rfl rfl; (first | (cases (h19 : v19 = _)) | (obtain ⟨rfl, h19⟩ := h19) | skip); have hj := hk.j; clear hk; have z1 : wx.cell? ⟨g, 1, none⟩ = some (.int .i64 (p : Int)) := hj.1.cell 1 _ rfl; have z0 : wx.cell? ⟨g, 0, none⟩ = some (.string s) := hj.1.cell 0 _ rfl; (go_simp; refine hK _ _ ?_ (Below.refl _ _); first | (simp [Rg.eq, hnI]; done) | (simp [Rg.eq]; omega))))) ?_ rfl
  refine Rg.build_cons (m := 15) (r := Rg.eq _) (Rg.one_plain (by rfl) (by (intro ax wx hk Kx hK; obtain ⟨v9, k9, h9⟩ := hk.dep 2 9 _ rfl rfl rfl; (first | (cases (h9 : v9 = _)) | (obtain ⟨rfl, h9⟩ := h9) | skip); obtain ⟨v20, k20, h20⟩ := hk.dep 13 20 _ rfl rfl rfl; (first | (cases (h20 : v20 = _)) | (obtain ⟨rfl, h20⟩ := h20) | skip); have hj := hk.j; clear hk; have z1 : wx.cell? ⟨g, 1, none⟩ = some (.int .i64 (p : Int)) := hj.1.cell 1 _ rfl; have z0 : wx.cell? ⟨g, 0, none⟩ = some (.string s) := hj.1.cell 0 _ rfl; go_simp; refine hK _ _ ?_ (Below.refl _ _); apply Rg.mk))) ?_ rfl
  refine Rg.build_end fun wx hj => ?_
  refine Rg.fin_eq rfl ?_
  refine Rg.fin_eq rfl ?_
  refine Rg.fin_eq rfl ?_
  refine Rg.fin_eq rfl ?_
  refine Rg.fin_eq rfl ?_
  refine Rg.fin_eq rfl ?_
  refine Rg.fin_eq rfl ?_
  first | refine Rg.fin_eq rfl ?_ | refine Rg.fin_any rfl fun v14 h14 => ?_
  refine Rg.fin_eq rfl ?_
  refine Rg.fin_eq rfl ?_
  refine Rg.fin_eq rfl ?_
  refine Rg.fin_eq rfl ?_
  refine Rg.fin_eq rfl ?_
  first | refine Rg.fin_eq rfl ?_ | refine Rg.fin_any rfl fun v20 h20 => ?_
  refine Rg.fin_eq rfl ?_
  refine Rg.fin_nil ?_
  simp only [List.set_cons_zero, List.set_cons_succ]
  have HA1 := Lib.hid hj.1; have HZ1 := Lib.hid hj.2.1; have HO1 := Lib.hid hj.2.2
  clear hj
  obtain ⟨wA, hwA⟩ : ∃ wA : World, wA = wx := ⟨_, rfl⟩
  rw [← hwA] at HA1 HZ1 HO1 ⊢
  clear hwA
  go_upto_region 2 with (fail)
  have HZL := Lib.hid HZ1.out.lt
  refine RgX.start (by kernel_rfl) [(15, fun w5 w6 => ∃ gg f, w.heap.size < gg ∧ gg ≠ g ∧ w6 = putS w5 gg f)] [⟨fun w' => AtG w' g 94 (rxr s p o) ∧ AtG w' w.heap.size 38 (setC 0 0 0 0) ∧ Only (fun k => k = g) w w', none⟩] ⟨⟨fun _ _ h hb => ⟨h.1.below hb, h.2.1.below hb, h.2.2.tb hb⟩, ⟨fun _ _ _ _ => (fun w5 w6 h he => by obtain ⟨gg, f, h1, h2, rfl⟩ := he; exact ⟨putS_far h.1 (fun e => h2 e.symm) _, putS_far h.2.1 (by omega) _, h.2.2.pS _ _ (.inr (by omega))⟩), trivial⟩⟩, trivial⟩ (by kernel_rfl) (by kernel_rfl) ⟨⟨HA1.out.drew, HZ1.out.drew, HO1.out.drew⟩, trivial⟩ ?_
  show RgX.Build _ _ _ _ _ _ 0 [_, _, _, _, _, _, _, _, _, _, _, _, _, _, _, _, _] []
  refine RgX.build_cons (m := 1) (r := RgX.eq _) (RgX.one_plain (by rfl) (by (intro ax wx hk Kx hK; have k0 := hk.base 0 _ rfl rfl; have hL := hk.fact 0 0 _ rfl rfl; (try dsimp only at hL); clear hk; have z1 : wx.cell? ⟨g, 1, none⟩ = some (.int .i64 (p : Int)) := hL.1.cell 1 _ rfl; have z0 : wx.cell? ⟨g, 0, none⟩ = some (.string s) := hL.1.cell 0 _ rfl; go_simp; refine hK _ _ (fun h => by cases h) (fun _ _ => ?_) (Below.refl _ _); apply RgX.mk))) ?_ rfl RgX.keep_eq (fun _ h => by cases h)
  refine RgX.build_cons (m := 2) (r := RgX.eq _) (RgX.one_plain (by rfl) (by (intro ax wx hk Kx hK; obtain ⟨v23, k23, h23⟩ := hk.dep 0 0 23 _ rfl rfl rfl; (first | (replace h23 := h23 9 undef rfl rfl; first | (cases (h23 : v23 = _)) | (obtain ⟨rfl, h23⟩ := h23) | skip) | skip); have hL := hk.fact 0 0 _ rfl rfl; (try dsimp only at hL); clear hk; have z1 : wx.cell? ⟨g, 1, none⟩ = some (.int .i64 (p : Int)) := hL.1.cell 1 _ rfl; have z0 : wx.cell? ⟨g, 0, none⟩ = some (.string s) := hL.1.cell 0 _ rfl; go_simp; refine hK _ _ (fun h => by cases h) (fun _ _ => ?_) (Below.refl _ _); apply RgX.mk))) ?_ rfl RgX.keep_eq (fun _ h => by cases h)
  refine RgX.build_cons (m := 3) (r := RgX.eq _) (RgX.one_plain (by rfl) (by (intro ax wx hk Kx hK; obtain ⟨v24, k24, h24⟩ := hk.dep 0 1 24 _ rfl rfl rfl; (first | (replace h24 := h24 9 undef rfl rfl; first | (cases (h24 : v24 = _)) | (obtain ⟨rfl, h24⟩ := h24) | skip) | skip); have hL := hk.fact 0 0 _ rfl rfl; (try dsimp only at hL); clear hk; have z1 : wx.cell? ⟨g, 1, none⟩ = some (.int .i64 (p : Int)) := hL.1.cell 1 _ rfl; have z0 : wx.cell? ⟨g, 0, none⟩ = some (.string s) := hL.1.cell 0 _ rfl; go_simp; refine hK _ _ (fun h => by cases h) (fun _ _ => ?_) (Below.refl _ _); apply RgX.mk))) ?_ rfl RgX.keep_eq (fun _ h => by cases h)
  refine RgX.build_cons (m := 4) (r := RgX.eq _) (RgX.one_plain (by rfl) (by (intro ax wx hk Kx hK; obtain ⟨v25, k25, h25⟩ := hk.dep 0 2 25 _ rfl rfl rfl; (first | (replace h25 := h25 9 undef rfl rfl; first | (cases (h25 : v25 = _)) | (obtain ⟨rfl, h25⟩ := h25) | skip) | skip); have hL := hk.fact 0 0 _ rfl rfl; (try dsimp only at hL); clear hk; have z1 : wx.cell? ⟨g, 1, none⟩ = some (.int .i64 (p : Int)) := hL.1.cell 1 _ rfl; have z0 : wx.cell? ⟨g, 0, none⟩ = some (.string s) := hL.1.cell 0 _ rfl; go_simp; refine hK _ _ (fun h => by cases h) (fun _ _ => ?_) (Below.refl _ _); apply RgX.mk))) ?_ rfl RgX.keep_eq (fun _ h => by cases h)
  refine RgX.build_cons (m := 5) (r := RgX.eq _) (RgX.one_plain (by rfl) (by (intro ax wx hk Kx hK; have k0 := hk.base 0 _ rfl rfl; have hL := hk.fact 0 0 _ rfl rfl; (try dsimp only at hL); clear hk; have z1 : wx.cell? ⟨g, 1, none⟩ = some (.int .i64 (p : Int)) := hL.1.cell 1 _ rfl; have z0 : wx.cell? ⟨g, 0, none⟩ = some (.string s) := hL.1.cell 0 _ rfl; go_simp; refine hK _ _ (fun h => by cases h) (fun _ _ => ?_) (Below.refl _ _); apply RgX.mk))) ?_ rfl RgX.keep_eq (fun _ h => by cases h)
  refine RgX.build_cons (m := 6) (r := RgX.eq _) (RgX.one_plain (by rfl) (by (intro ax wx hk Kx hK; obtain ⟨v27, k27, h27⟩ := hk.dep 0 4 27 _ rfl rfl rfl; (first | (replace h27 := h27 9 undef rfl rfl; first | (cases (h27 : v27 = _)) | (obtain ⟨rfl, h27⟩ := h27) | skip) | skip); have hL := hk.fact 0 0 _ rfl rfl; (try dsimp only at hL); clear hk; have z1 : wx.cell? ⟨g, 1, none⟩ = some (.int .i64 (p : Int)) := hL.1.cell 1 _ rfl; have z0 : wx.cell? ⟨g, 0, none⟩ = some (.string s) := hL.1.cell 0 _ rfl; go_simp; refine hK _ _ (fun h => by cases h) (fun _ _ => ?_) (Below.refl _ _); apply RgX.mk))) ?_ rfl RgX.keep_eq (fun _ h => by cases h)
  refine RgX.build_cons (m := 7) (r := RgX.eq _) (RgX.one_plain (by rfl) (by (intro ax wx hk Kx hK; obtain ⟨v28, k28, h28⟩ := hk.dep 0 5 28 _ rfl rfl rfl; (first | (replace h28 := h28 9 undef rfl rfl; first | (cases (h28 : v28 = _)) | (obtain ⟨rfl, h28⟩ := h28) | skip) | skip); have hL := hk.fact 0 0 _ rfl rfl; (try dsimp only at hL); clear hk; have z1 : wx.cell? ⟨g, 1, none⟩ = some (.int .i64 (p : Int)) := hL.1.cell 1 _ rfl; have z0 : wx.cell? ⟨g, 0, none⟩ = some (.string s) := hL.1.cell 0 _ rfl; go_simp; refine hK _ _ (fun h => by cases h) (fun _ _ => ?_) (Below.refl _ _); apply RgX.mk))) ?_ rfl RgX.keep_eq (fun _ h => by cases h)
  refine RgX.build_cons (m := 8) (r := RgX.eq _) (RgX.one_plain (by rfl) (by (intro ax wx hk Kx hK; obtain ⟨v29, k29, h29⟩ := hk.dep 0 6 29 _ rfl rfl rfl; (first | (replace h29 := h29 9 undef rfl rfl; first | (cases (h29 : v29 = _)) | (obtain ⟨rfl, h29⟩ := h29) | skip) | skip); have hL := hk.fact 0 0 _ rfl rfl; (try dsimp only at hL); clear hk; have z1 : wx.cell? ⟨g, 1, none⟩ = some (.int .i64 (p : Int)) := hL.1.cell 1 _ rfl; have z0 : wx.cell? ⟨g, 0, none⟩ = some (.string s) := hL.1.cell 0 _ rfl; go_simp; refine hK _ _ (fun h => by cases h) (fun _ _ => ?_) (Below.refl _ _); apply RgX.mk))) ?_ rfl RgX.keep_eq (fun _ h => by cases h)
  refine RgX.build_cons (m := 9) (r := RgX.eq (.int .i64 ((p : Int) + 1))) (RgX.one_plain (by rfl) (by (intro ax wx hk Kx hK; obtain ⟨v30, k30, h30⟩ := hk.dep 0 7 30 _ rfl rfl rfl; (first | (replace h30 := h30 9 undef rfl rfl; first | (cases (h30 : v30 = _)) | (obtain ⟨rfl, h30⟩ := h30) | skip) | skip); have hL := hk.fact 0 0 _ rfl rfl; (try dsimp only at hL); clear hk; have z1 : wx.cell? ⟨g, 1, none⟩ = some (.int .i64 (p : Int)) := hL.1.cell 1 _ rfl; have z0 : wx.cell? ⟨g, 0, none⟩ = some (.string s) := hL.1.cell 0 _ rfl; (go_simp; refine hK _ _ (fun h => by cases h) (fun _ _ => ?_) (Below.refl _ _); simp [RgX.eq, hwp])))) ?_ rfl RgX.keep_eq (fun _ h => by cases h)
  refine RgX.build_cons (m := 10) (r := RgX.eq (.int .u8 (c1))) (RgX.one_plain (by rfl) (by (intro ax wx hk Kx hK; obtain ⟨v26, k26, h26⟩ := hk.dep 0 3 26 _ rfl rfl rfl; (first | (replace h26 := h26 9 undef rfl rfl; first | (cases (h26 : v26 = _)) | (obtain ⟨rfl, h26⟩ := h26) | skip) | skip); obtain ⟨v31, k31, h31⟩ := hk.dep 0 8 31 _ rfl rfl rfl; (first | (replace h31 := h31 9 undef rfl rfl; first | (cases (h31 : v31 = _)) | (obtain ⟨rfl, h31⟩ := h31) | skip) | skip); have hL := hk.fact 0 0 _ rfl rfl; (try dsimp only at hL); clear hk; have z1 : wx.cell? ⟨g, 1, none⟩ = some (.int .i64 (p : Int)) := hL.1.cell 1 _ rfl; have z0 : wx.cell? ⟨g, 0, none⟩ = some (.string s) := hL.1.cell 0 _ rfl; (go_simp; refine hK _ _ (fun h => by cases h) (fun _ _ => ?_) (Below.refl _ _); simp [RgX.eq, hch])))) ?_ rfl RgX.keep_eq (fun _ h => by cases h)
  refine RgX.build_cons (m := 11) (r := RgX.eq _) (RgX.one_plain (by rfl) (by (intro ax wx hk Kx hK; obtain ⟨v32, k32, h32⟩ := hk.dep 0 9 32 _ rfl rfl rfl; (first | (replace h32 := h32 9 undef rfl rfl; first | (cases (h32 : v32 = _)) | (obtain ⟨rfl, h32⟩ := h32) | skip) | skip); have hL := hk.fact 0 0 _ rfl rfl; (try dsimp only at hL); clear hk; have z1 : wx.cell? ⟨g, 1, none⟩ = some (.int .i64 (p : Int)) := hL.1.cell 1 _ rfl; have z0 : wx.cell? ⟨g, 0, none⟩ = some (.string s) := hL.1.cell 0 _ rfl; go_simp; refine (HWD.out _).mono ?_; rintro e w' ⟨rfl, hb⟩; refine hK _ _ (fun h => by cases h) (fun _ _ => ?_) hb; apply RgX.mk))) ?_ rfl RgX.keep_eq (fun _ h => by cases h)
  refine RgX.build_cons (m := 12) (r := RgX.eq _) (RgX.one_plain (by rfl) (by (intro ax wx hk Kx hK; obtain ⟨v33, k33, h33⟩ := hk.dep 0 10 33 _ rfl rfl rfl; (first | (replace h33 := h33 9 undef rfl rfl; first | (cases (h33 : v33 = _)) | (obtain ⟨rfl, h33⟩ := h33) | skip) | skip); have hL := hk.fact 0 0 _ rfl rfl; (try dsimp only at hL); clear hk; have z1 : wx.cell? ⟨g, 1, none⟩ = some (.int .i64 (p : Int)) := hL.1.cell 1 _ rfl; have z0 : wx.cell? ⟨g, 0, none⟩ = some (.string s) := hL.1.cell 0 _ rfl; go_simp; refine hK _ _ (fun h => by cases h) (fun _ _ => ?_) (Below.refl _ _); apply RgX.mk))) ?_ rfl RgX.keep_eq (fun _ h => by cases h)
  refine RgX.build_cons (m := 13) (r := RgX.eq _) (RgX.one_plain (by rfl) (by (intro ax wx hk Kx hK; obtain ⟨v22, k22, h22⟩ := hk.dep 0 11 22 _ rfl rfl rfl; (first | (replace h22 := h22 9 undef rfl rfl; first | (cases (h22 : v22 = _)) | (obtain ⟨rfl, h22⟩ := h22) | skip) | skip); have hL := hk.fact 0 0 _ rfl rfl; (try dsimp only at hL); clear hk; have z1 : wx.cell? ⟨g, 1, none⟩ = some (.int .i64 (p : Int)) := hL.1.cell 1 _ rfl; have z0 : wx.cell? ⟨g, 0, none⟩ = some (.string s) := hL.1.cell 0 _ rfl; go_simp; refine hK _ _ (fun h => by cases h) (fun _ _ => ?_) (Below.refl _ _); apply RgX.mk))) ?_ rfl RgX.keep_eq (fun _ h => by cases h)
  refine RgX.build_cons (m := 14) (r := RgX.eq _) (RgX.one_plain (by rfl) (by (intro ax wx hk Kx hK; obtain ⟨v22, k22, h22⟩ := hk.dep 0 11 22 _ rfl rfl rfl; (first | (replace h22 := h22 9 undef rfl rfl; first | (cases (h22 : v22 = _)) | (obtain ⟨rfl, h22⟩ := h22) | skip) | skip); have hL := hk.fact 0 0 _ rfl rfl; (try dsimp only at hL); clear hk; have z1 : wx.cell? ⟨g, 1, none⟩ = some (.int .i64 (p : Int)) := hL.1.cell 1 _ rfl; have z0 : wx.cell? ⟨g, 0, none⟩ = some (.string s) := hL.1.cell 0 _ rfl; go_simp; refine hK _ _ (fun h => by cases h) (fun _ _ => ?_) (Below.refl _ _); apply RgX.mk))) ?_ rfl RgX.keep_eq (fun _ h => by cases h)
  refine RgX.build_cons (m := 15) (r := (⟨fun v _ w5 => ∃ gg, v = .pointer (some ⟨gg, 0, none⟩) ∧ w.heap.size < gg ∧ gg ≠ g ∧ AtG w5 gg 38 (setC 0 0 0 0), some 15, none⟩ : RgX.Rl)) (RgX.one_plain (by rfl) (by (intro ax wx hk Kx hK; have hL := hk.fact 0 0 _ rfl rfl; (try dsimp only at hL); clear hk; have z1 : wx.cell? ⟨g, 1, none⟩ = some (.int .i64 (p : Int)) := hL.1.cell 1 _ rfl; have z0 : wx.cell? ⟨g, 0, none⟩ = some (.string s) := hL.1.cell 0 _ rfl; (go_simp; exact hK _ _ (fun h => by cases h) (fun u _ => ⟨wx.heap.size, rfl, hL.2.1.lt, by have := hL.1.lt; omega, AtG.new _ _ _⟩) ((Below.refl _ _).alloc (Nat.le_refl _) _))))) ?_ rfl (RgX.keep_r (fun _ _ _ _ h hb => by obtain ⟨gg, h1, h2, h3, h4⟩ := h; exact ⟨gg, h1, h2, h3, h4.below hb⟩) (fun _ _ => ⟨fun _ h _ _ => absurd rfl h, trivial⟩)) (fun _ h => by cases h)
  refine RgX.build_cons (m := 16) (r := (⟨fun _ u w5 => ∃ gg, u = .pointer (some ⟨gg, 0, none⟩) ∧ w.heap.size < gg ∧ gg ≠ g ∧ AtG w5 gg 38 (cellsOf emp), none, some 14⟩ : RgX.Rl)) (RgX.one_plain (by rfl) (by (intro ax wx hk Kx hK; obtain ⟨v3, k3, h3⟩ := hk.dep 0 14 3 _ rfl rfl rfl; (first | (replace h3 := h3 9 undef rfl rfl; first | (cases (h3 : v3 = _)) | (obtain ⟨rfl, h3⟩ := h3) | skip) | skip); obtain ⟨v34, k34, h34⟩ := hk.dep 0 12 34 _ rfl rfl rfl; (first | (replace h34 := h34 9 undef rfl rfl; first | (cases (h34 : v34 = _)) | (obtain ⟨rfl, h34⟩ := h34) | skip) | skip); have hL := hk.fact 0 0 _ rfl rfl; (try dsimp only at hL); clear hk; have z1 : wx.cell? ⟨g, 1, none⟩ = some (.int .i64 (p : Int)) := hL.1.cell 1 _ rfl; have z0 : wx.cell? ⟨g, 0, none⟩ = some (.string s) := hL.1.cell 0 _ rfl; (obtain ⟨gg, rfl, hg0, hg1, hg2⟩ := h3; have d0 := hg2.cell 0 _ rfl; have d1 := hg2.cell 1 _ rfl; have d2 := hg2.cell 2 _ rfl; have d3 := hg2.cell 3 _ rfl; have f0 := hg2.frozen 0; have f1 := hg2.frozen 1; have f2 := hg2.frozen 2; have f3 := hg2.frozen 3; unfold setOf at k34; go_simp; refine hK undef (putS wx gg emp) (fun _ => rfl) (fun u hu => ?_) ⟨gg, emp, hg0, hg1, rfl⟩; obtain ⟨t, ht, hu⟩ := hu; cases ht; rw [k3] at hu; cases hu; exact ⟨gg, rfl, hg0, hg1, putS_at hg2 emp⟩)))) ?_ rfl (RgX.keep_r (fun _ _ _ _ h hb => by obtain ⟨gg, h1, h2, h3, h4⟩ := h; exact ⟨gg, h1, h2, h3, h4.below hb⟩) (fun _ _ => ⟨fun h _ _ _ => absurd rfl h, trivial⟩)) (fun j h => by cases h; exact ⟨0, rfl⟩)
  refine RgX.build_cons (m := 17) (r := RgX.eq _) (RgX.one_plain (by rfl) (by (intro ax wx hk Kx hK; obtain ⟨v35, k35, h35⟩ := hk.dep 0 13 35 _ rfl rfl rfl; (first | (replace h35 := h35 9 undef rfl rfl; first | (cases (h35 : v35 = _)) | (obtain ⟨rfl, h35⟩ := h35) | skip) | skip); have hL := hk.fact 0 0 _ rfl rfl; (try dsimp only at hL); clear hk; have z1 : wx.cell? ⟨g, 1, none⟩ = some (.int .i64 (p : Int)) := hL.1.cell 1 _ rfl; have z0 : wx.cell? ⟨g, 0, none⟩ = some (.string s) := hL.1.cell 0 _ rfl; go_simp; refine hK _ _ (fun h => by cases h) (fun _ _ => ?_) (Below.refl _ _); apply RgX.mk))) ?_ rfl RgX.keep_eq (fun _ h => by cases h)
  refine RgX.build_end fun wx hj => ?_
  have hL := hj 0 _ rfl rfl
  clear hj
  refine RgX.fin_eq rfl ?_
  refine RgX.fin_eq rfl ?_
  refine RgX.fin_eq rfl ?_
  refine RgX.fin_eq rfl ?_
  refine RgX.fin_eq rfl ?_
  refine RgX.fin_eq rfl ?_
  refine RgX.fin_eq rfl ?_
  refine RgX.fin_eq rfl ?_
  refine RgX.fin_eq rfl ?_
  refine RgX.fin_eq rfl ?_
  refine RgX.fin_eq rfl ?_
  refine RgX.fin_eq rfl ?_
  refine RgX.fin_eq rfl ?_
  refine RgX.fin_eq rfl ?_
  first | refine RgX.fin_eq rfl ?_ | refine RgX.fin_any rfl fun v3 h3 => ?_
  refine RgX.fin_none rfl fun s15 => ?_
  refine RgX.fin_eq rfl ?_
  refine RgX.fin_nil ?_
  simp only [List.set_cons_zero, List.set_cons_succ]
  clear h3
  obtain ⟨gg, rfl, hg0, hg1, hg2⟩ := s15 rfl v3 ⟨3, by kernel_rfl, by kernel_rfl⟩
  have HA2 := Lib.hid hL.1; have HZ2 := Lib.hid hL.2.1; have HO2 := Lib.hid hL.2.2
  clear hL s15
  obtain ⟨wB, hwB⟩ : ∃ wB : World, wB = wx := ⟨_, rfl⟩
  rw [← hwB] at HA2 HZ2 HO2 hg2 ⊢
  clear hwB hg2 hg0 hg1 hch hnI hwp hn
  have HM1 := Lib.hid (memX g s p o wB (HA2.out) HPS.out HS.out)
  go_wp2_with fail
  refine (HM1.out).mono ?_
  cases hmf : memberF s p with
  | no c x =>
    rw [hmf] at HX
    have HR := Lib.hid (HX.out.trans (show itemE s (.no c x) = .no c x from rfl))
    rintro e9 w2 ⟨ho, b, rfl, hx⟩
    refine ⟨rfl, ?_⟩
    rw [HR.out]
    exact ⟨HO2.out.tr ho, b, rfl, hx⟩
  | ok lo q =>
    rw [hmf] at HX
    have hin := memberF_in s p HPS.out
    rw [hmf] at hin
    have hlo : lo < 256 := hin.2 lo q rfl
    have hq : p + 1 ≤ q ∧ q ≤ s.size := hin.1
    rintro e9 w2 ⟨ho, rfl, ha⟩
    have HO2 := Lib.hid (HO2.out.tr ho); have HA2 := Lib.hid ha; have HZ2 := Lib.hid (HZ2.out.only ho HG.out)
    have HI := isX g s q o 45 w2 ha hq.2 (by decide)
    have hloI : (lo : Int) < 256 := by omega
    have HLO := Lib.hid hlo; have HQ := Lib.hid hq
    clear ho ha hin hmf HM1 hlo hq
    by_cases h45 : ch s q = 45
    · have HX1 := Lib.hid (HX.out.trans (show itemE s (.ok lo q) = (match memberF s (q + 1) with | .no c x => .no c x | .ok hi r => if hi < lo then .no 2 (r - 1) else .ok (spanF lo (hi + 1)) r) from if_pos h45))
      have hqlt : q < s.size := ch_ge (by omega)
      rw [decide_eq_true h45] at HI
      have HIH := Lib.hid HI
      have HQL := Lib.hid hqlt
      have hqI : (q : Int) < 1000 := by have := HS.out; omega
      clear HX HI h45 hqlt
      go_wp2_with fail
      refine (HIH.out).mono ?_
      rintro e9 w3 ⟨rfl, hb⟩
      have HO3 := Lib.hid ((HO2.out.tb hb).st g 1 (.int .i64 ((q : Int) + 1)) (.inl rfl)); have HA3 := Lib.hid (HA2.out.below hb)
      have HZ3 := Lib.hid ((HZ2.out.below hb).far (p := ⟨g, 1, none⟩) (fun e => HG.out e) (.int .i64 ((q : Int) + 1)))
      have z1 : w3.cell? ⟨g, 1, none⟩ = some (.int .i64 (q : Int)) := HA3.out.cell 1 _ rfl
      have f1 := HA3.out.frozen 1
      have HA4 : Hid (AtG (w3.setCell ⟨g, 1, none⟩ (.int .i64 ((q : Int) + 1))) g 94 (rxr s ((q + 1 : Nat) : Int) o)) := Lib.hid (by
        rw [show ((q + 1 : Nat) : Int) = (q : Int) + 1 from by omega]; exact HA3.out.set 1 _)
      have HM2 := Lib.hid (memX g s (q + 1) o _ HA4.out HQL.out HS.out)
      clear hb HIH
      go_wp2_with fail
      refine (HM2.out).mono ?_
      cases hmf : memberF s (q + 1) with
      | no c x =>
        rw [hmf] at HX1
        dsimp only at HX1
        rintro e9 w4 ⟨ho, b, rfl, hx⟩
        refine ⟨rfl, ?_⟩
        rw [HX1.out]
        exact ⟨HO3.out.tr ho, b, rfl, hx⟩
      | ok hi r =>
        rw [hmf] at HX1
        dsimp only at HX1
        have hin := memberF_in s (q + 1) HQL.out
        rw [hmf] at hin
        have hhi : hi < 256 := hin.2 hi r rfl
        have hr : q + 1 + 1 ≤ r ∧ r ≤ s.size := hin.1
        rintro e9 w4 ⟨ho, rfl, ha⟩
        have HO4 := Lib.hid (HO3.out.tr ho); have HA5 := Lib.hid ha; have HZ4 := Lib.hid (HZ3.out.only ho HG.out)
        have hhiI : (hi : Int) < 256 := by omega
        clear ho ha hin hmf HM2 z1 f1 HA3 HA4
        by_cases hlt : hi < lo
        · have HR := Lib.hid (HX1.out.trans (if_pos hlt))
          have hltI : (hi : Int) < (lo : Int) := by omega
          obtain ⟨rp, hrp⟩ : ∃ rp, r = rp + 1 := ⟨r - 1, by omega⟩
          subst hrp
          rw [show rp + 1 - 1 = rp from rfl] at HR
          have z1 : w4.cell? ⟨g, 1, none⟩ = some (.int .i64 ((rp + 1 : Nat) : Int)) := HA5.out.cell 1 _ rfl
          rw [show ((rp + 1 : Nat) : Int) = (rp : Int) + 1 from by omega] at z1
          have hrI : (rp : Int) < 1000 := by have := HS.out; omega
          clear HX1 hlt hr hhi
          go_wp2_with fail
          refine (failX g rp 2 _).mono ?_
          rintro e9 w5 ⟨hb2, b, rfl, hx⟩
          refine ⟨rfl, ?_⟩
          rw [HR.out]
          exact ⟨HO4.out.tb hb2, b, rfl, hx⟩
        · have HR := Lib.hid (HX1.out.trans (if_neg hlt))
          have hltI : ¬ (hi : Int) < (lo : Int) := by omega
          have HRG := Lib.hid (rangeP lo hi w4 HLO.out hhi)
          clear HX1 hlt hr hhi
          go_wp2_with fail
          refine (HRG.out).mono ?_
          rintro e9 w5 ⟨rfl, hb⟩
          have HO5 := Lib.hid (HO4.out.tb hb); have HA6 := Lib.hid (HA5.out.below hb); have HZ5 := Lib.hid (HZ4.out.below hb)
          clear hb HRG HA5 HZ4
          have d0 := (HZ5.out).cell 0 _ rfl; have d1 := (HZ5.out).cell 1 _ rfl; have d2 := (HZ5.out).cell 2 _ rfl; have d3 := (HZ5.out).cell 3 _ rfl
          have f0 := (HZ5.out).frozen 0; have f1 := (HZ5.out).frozen 1; have f2 := (HZ5.out).frozen 2; have f3 := (HZ5.out).frozen 3
          unfold setOf
          go_wp2_with fail
          refine bodyPost_ret (v := setOf (spanF lo (hi + 1))) (by simp [results, Tryz.results131, go_sem, d0, d1, d2, d3]; try rfl) rfl ?_
          rw [HR.out]
          exact ⟨HO5.out.pS _ _ (.inr (Nat.le_refl _)), rfl, putS_far HA6.out (fun e => HG.out e.symm) _⟩
    · have HR := Lib.hid (HX.out.trans (show itemE s (.ok lo q) = .ok (spanF lo (lo + 1)) q from if_neg h45))
      rw [decide_eq_false h45] at HI
      have HIH := Lib.hid HI
      clear HX HI h45
      go_wp2_with fail
      refine (HIH.out).mono ?_
      rintro e9 w3 ⟨rfl, hb⟩
      have HO3 := Lib.hid (HO2.out.tb hb); have HA3 := Lib.hid (HA2.out.below hb); have HZ3 := Lib.hid (HZ2.out.below hb)
      have HOF := Lib.hid (ofP _ w3.heap.size (lo : Int) (by omega) hloI (AtG.new w3 5 #[.int .u8 (lo : Int)]))
      rw [Int.toNat_natCast, set_one] at HOF
      clear hb HIH
      go_wp2_with fail
      refine (HOF.out).mono ?_
      rintro e9 w5 ⟨rfl, hb⟩
      have HO5 := Lib.hid ((HO3.out.al (.cells #[.int .u8 (lo : Int)] 5)).tb hb); have HA6 := Lib.hid ((HA3.out.alloc _).below hb); have HZ5 := Lib.hid ((HZ3.out.alloc _).below hb)
      clear hb HOF HA3 HZ3
      have d0 := (HZ5.out).cell 0 _ rfl; have d1 := (HZ5.out).cell 1 _ rfl; have d2 := (HZ5.out).cell 2 _ rfl; have d3 := (HZ5.out).cell 3 _ rfl
      have f0 := (HZ5.out).frozen 0; have f1 := (HZ5.out).frozen 1; have f2 := (HZ5.out).frozen 2; have f3 := (HZ5.out).frozen 3
      unfold setOf
      go_wp2_with fail
      refine bodyPost_ret (v := setOf (spanF lo (lo + 1))) (by simp [results, Tryz.results131, go_sem, d0, d1, d2, d3]; try rfl) rfl ?_
      rw [HR.out]
      exact ⟨HO5.out.pS _ _ (.inr (Nat.le_refl _)), rfl, putS_far HA6.out (fun e => HG.out e.symm) _⟩
theorem itemX (g : Nat) (s : ByteArray) (p o : Nat) (w : World) (h : AtG w g 94 (rxr s p o)) (hp : p ≤ s.size) (hs : s.size ≤ 900) :
    Calls Tryz.prog 131 #[.pointer (some ⟨g, 0, none⟩)] w (RxP g s o w (itemF s p) (fun f => setOf f)) := by
  by_cases h92 : ch s p = 92
  · by_cases hn : p + 1 < s.size
    · cases hwd : wideF (ch s (p + 1)) with
      | some F => exact itemX_some g s p o w h hp hs h92 hn F hwd
      | none => exact itemX_none g s p o w h hp hs h92 hn hwd
    · exact itemX_end g s p o w h hp hs h92 hn
  · exact itemX_no g s p o w h hp hs h92
end Go.Proofs.YtgjcibhhffkemaaGreatDoor
