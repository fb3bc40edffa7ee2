/- The program's Parse. -/
import Derived.Test.YtaafmfooommepaaDoorRu7
import Derived.Laws.Rows
set_option linter.unusedVariables false
set_option linter.unusedSimpArgs false
namespace Go.Proofs.YtaafmfooommepaaDoor
open Go.RowKit
theorem empty_iff (l : ByteArray) : (l.toList == []) = decide (l.size = 0) := by
  rw [ByteArray.toList_eq]
  by_cases h : l.size = 0
  · rw [decide_eq_true h]
    have : l.data.toList = [] := List.eq_nil_of_length_eq_zero (by simpa using h)
    rw [this]; rfl
  · rw [decide_eq_false h]
    cases e : l.data.toList with
    | nil => exact absurd (by have := congrArg List.length e; simpa using this) h
    | cons a b => rfl
theorem Only.put3 {S : Nat → Prop} {w w1 : World} {g : Nat} {a b : ByteArray} {c : Bool} (h : Only S w w1) (hg : w.heap.size ≤ g) : Only S w (put3 w1 g a b c) :=
  ⟨h.os, h.tape, h.output, by unfold Proofs.YtaafmfooommepaaDoor.put3; simpa using h.size, fun k hk hS => by
    unfold Proofs.YtaafmfooommepaaDoor.put3
    rw [Below.heap_setCell _ _ _ _ (by show k ≠ g; omega), Below.heap_setCell _ _ _ _ (by show k ≠ g; omega), Below.heap_setCell _ _ _ _ (by show k ≠ g; omega)]
    exact h.block k hk hS⟩
theorem OwnF.put3 {P : Program} {K E : TypeId} {q : IntKind} {b s : Nat} {f : Lit → Option Int} {w : World} {g : Nat} {x y : ByteArray} {c : Bool} (h : OwnF w P K E q b s f) (hg : b ≠ g) : OwnF (put3 w g x y c) P K E q b s f :=
  ((h.far (p := ⟨g, 0, none⟩) hg _).far (p := ⟨g, 1, none⟩) hg _).far (p := ⟨g, 2, none⟩) hg _
set_option maxRecDepth 100000 in
set_option maxHeartbeats 3200000 in
theorem parseX (s : ByteArray) (w : World) (hs : s.size ≤ 10000) : Calls Tryd.prog 7 #[.string s] w (ParseX s w) := by
  have HSZ := Lib.hid hs
  by_cases hl : 4000 < s.size
  · have hlI : (4000 : Int) < (s.size : Int) := by omega
    have HR := Lib.hid (show RuRes s (.no 4 0) from .inl ⟨hl, rfl⟩)
    clear hl hs
    go_enter Tryd.func7, Tryd.ntmps7
    go_wp2
    go_returns
    exact ⟨(Below.refl _ _).alloc (Nat.le_refl _) _, _, HR.out, _, rfl, AtG.new _ _ _⟩
  have hlI : ¬ (4000 : Int) < (s.size : Int) := by omega
  have HS4 := Lib.hid (show s.size ≤ 4000 by omega)
  have hsI : (s.size : Int) ≤ 4000 := by omega
  clear hl hs
  obtain ⟨W, hW⟩ : ∃ W : World, W = w.alloc (.map #[] 0) := ⟨_, rfl⟩
  have hW' : w.alloc (.map #[] 0) = W := hW.symm
  have HMW : Hid (OwnF W Tryd.prog 9 3 .i64 w.heap.size 0 (fun _ => none)) := Lib.hid (by rw [hW]; exact OwnF.made _ _ _ _ _)
  have HBW : Hid (Below w.heap.size w W) := Lib.hid (by rw [hW]; exact (Below.refl _ _).alloc (Nat.le_refl _) _)
  have HZW : Hid (w.heap.size < W.heap.size) := Lib.hid HMW.out.lt
  have HSP := Lib.hid (splitX s W HSZ.out)
  have hnl : ({ data := #[10] } : ByteArray) = nlS := rfl
  clear hW
  have hmm := @run_makeMap Tryd.prog
  go_enter Tryd.func7, Tryd.ntmps7
  go_wp2_with fail
  refine (HSP.out).mono ?_
  rintro e9 w4 ⟨hb4, v, L, rfl, hL, hv⟩
  obtain ⟨g, c, hg0, rfl, hlc, hcell⟩ := hv
  have HL := Lib.hid hL
  have HLN : Hid (LinesAt W.heap.size w4 (.slice (some ⟨g, 0, none⟩) L.length c) L) := Lib.hid ⟨g, c, hg0, rfl, hlc, hcell⟩
  have HM4 := Lib.hid (HMW.out.below hb4)
  have HB4 := Lib.hid (HBW.out.trans (hb4.mono HBW.out.size))
  have HZ4 := Lib.hid hb4.size
  have hlen : L.length ≤ s.size + 1 := by have := hL.le.2.1; omega
  have hlenI : (L.length : Int) ≤ 4001 := by have := HS4.out; omega
  have HLL : Hid (∀ l ∈ L, l.size ≤ 4000) := Lib.hid (fun l h => by have := hL.le.2.2 l h; have := HS4.out; omega)
  clear hmm hb4 hL hcell hlen hW' HSP HBW hg0 hlc hnl HMW
  go_wp2_with fail
  go_loopw [4, 20] (fun o i wr => ∃ (j : Nat) (out : List Rl) (va : Option Addr) (vc : Nat), j ≤ L.length ∧ o = .slice va out.length vc ∧ i = .int .i64 j ∧ Hid (wr.ownsRow w4.heap.size 35 3 (.slice va out.length vc) out.length (flatR out)) ∧ Hid (OwnF wr Tryd.prog 9 3 .i64 w.heap.size out.length (seenF out)) ∧ Hid (Only (fun k => k = w.heap.size) w4 wr) ∧ Hid (out.length ≤ 8 ∧ ∀ R, Rd (L.drop j) j out R → Rd L 0 [] R)) (fun o i _ => L.length - (intOf i).toNat)
  case atStart => exact ⟨0, [], none, 0, Nat.zero_le _, rfl, rfl, Lib.hid (own_nil _ _ _ _), Lib.hid (by rw [seenF_nil]; exact HM4.out), Lib.hid (Only.refl _), Lib.hid ⟨by simp, fun R h => h⟩⟩
  case round =>
    obtain ⟨j, out, va, vc, hj, rfl, rfl, HO, HM, HY, HD⟩ := hrel
    by_cases hlt : j < L.length
    · have hltI : (j : Int) < L.length := by omega
      have HLT := Lib.hid hlt
      have hdr : L.drop j = L[j] :: L.drop (j + 1) := List.drop_eq_getElem_cons hlt
      have hcj : wr.cell? ⟨g, j, none⟩ = some (.string L[j]) := by
        obtain ⟨g', c', h0, h1, h2, h3⟩ := HLN.out.only HY.out (fun k hk => by subst hk; exact HZW.out)
        cases h1
        exact h3 j _ (List.getElem?_eq_getElem hlt)
      have HD1 : Hid (out.length ≤ 8 ∧ ∀ R, Rd (L[j] :: L.drop (j + 1)) j out R → Rd L 0 [] R) := Lib.hid ⟨HD.out.1, fun R h => HD.out.2 R (by rw [hdr]; exact h)⟩
      have HLS := Lib.hid (HLL.out L[j] (List.getElem_mem hlt))
      generalize L[j] = l at *
      clear hdr HD hj
      have he := empty_iff l
      by_cases hz : l.size = 0
      · rw [decide_eq_true hz] at he
        have HD2 : Hid (out.length ≤ 8 ∧ ∀ R, Rd (L.drop (j + 1)) (j + 1) out R → Rd L 0 [] R) := Lib.hid ⟨HD1.out.1, fun R h => HD1.out.2 R (.skip (.inl hz) h)⟩
        clear HD1 hz
        go_wp2
        exact ⟨⟨j + 1, out, va, vc, HLT.out, rfl, by go_num, HO, HM, HY, HD2⟩, by have := HLT.out; simp [intOf]; try omega⟩
      · rw [decide_eq_false hz] at he
        have hz0 : 0 < l.size := by omega
        have hzI : (0 : Int) < l.size := by omega
        have hch := ch_in hz0
        by_cases h35 : (l[0].toNat : Int) = 35
        · have HD2 : Hid (out.length ≤ 8 ∧ ∀ R, Rd (L.drop (j + 1)) (j + 1) out R → Rd L 0 [] R) := Lib.hid ⟨HD1.out.1, fun R h => HD1.out.2 R (.skip (.inr (hch.trans h35)) h)⟩
          have eb : ((l[0].toNat : Int) == 35) = true := beq_iff_eq.2 h35
          clear HD1 hz h35 hch
          go_wp2
          exact ⟨⟨j + 1, out, va, vc, HLT.out, rfl, by go_num, HO, HM, HY, HD2⟩, by have := HLT.out; simp [intOf]; try omega⟩
        · have eb : ((l[0].toNat : Int) == 35) = false := beq_eq_false_iff_ne.2 h35
          have HNB : Hid (¬ Blank l) := Lib.hid (by rintro (h | h); exact hz h; exact h35 (hch.symm.trans h))
          have HRX := Lib.hid (ruleX l wr (by have := HLS.out; omega))
          clear hz hch h35
          go_wp2_with fail
          refine (HRX.out).mono ?_
          rintro e9 w5 ⟨hb5, hr5⟩
          have HM5 := Lib.hid (HM.out.below hb5)
          have HO5 := Lib.hid (own_below HO.out hb5)
          have HY5 := Lib.hid (HY.out.trans (Only.of_below (S := fun _ => False) hb5) (fun _ => False.elim))
          have hc5 : w4.heap.size ≤ w5.heap.size := HY5.out.size
          have HC5 := Lib.hid hc5
          clear hb5 HM HO HY hcj HRX hc5
          rcases hr5 with ⟨r, hr, rfl⟩ | ⟨hno, a, b, cc, rfl⟩
          · have HR := Lib.hid hr
            have HNZ : Hid (r.name.size ≤ 1000) := Lib.hid (by obtain ⟨_, _, _, _, _, _, _, _, _, _, _, _, h, _⟩ := hr; have := h.2.1; omega)
            clear hr
            unfold rlA
            go_upto_region 10 with (fail)
            refine (show ∀ w6 : World, w6 = w5.alloc (.cells (rlC r.name r.pat r.luhn) 35) → _ from fun w6 hw6 => ?_) _ rfl
            have HA6 : Hid (AtG w6 w5.heap.size 35 (rlC r.name r.pat r.luhn)) := Lib.hid (by rw [hw6]; exact AtG.new _ _ _)
            have HM6 : Hid (OwnF w6 Tryd.prog 9 3 .i64 w.heap.size out.length (seenF out)) := Lib.hid (by rw [hw6]; exact HM5.out.alloc _)
            have HO6 : Hid (w6.ownsRow w4.heap.size 35 3 (.slice va out.length vc) out.length (flatR out)) := Lib.hid (by rw [hw6]; exact own_below HO5.out ((Below.refl _ _).alloc (Nat.le_refl _) _))
            have HY6 : Hid (Only (fun k => k = w.heap.size) w4 w6) := Lib.hid (by rw [hw6]; exact HY5.out.trans (Only.of_below (S := fun _ => False) ((Below.refl w5.heap.size w5).alloc (Nat.le_refl _) _)) (fun _ => False.elim))
            have HN6 : Hid ((Value.slice va out.length vc).ownBlock ≠ some w5.heap.size) := Lib.hid (fun e => by have := own_lt HO5.out _ e; omega)
            have HG6 : Hid (w.heap.size < w5.heap.size) := Lib.hid HM5.out.lt
            clear hw6 HM5 HO5 HY5
            obtain ⟨d0, d1, d2, -, -, -⟩ := rl_cells HA6.out
            by_cases hd : ∃ x ∈ out, x.name = r.name
            · have HSN := Lib.hid (seenF_yes hd)
              have HRD := Lib.hid (HD1.out.2 _ (.twice HNB.out HR.out hd))
              clear hd HD1
              go_wp2_with ((at_lookup; refine wpList_lookupF _ rfl _ _ 44 rfl 9 3 .i64 keyedS Tryd.underlying44 Tryd.underlying3 (zeroInt _) _ _ _ rfl HM6.out _ (.string r.name.data.toList) rfl (keyS _ HNZ.out) trivial _ HSN.out ?_))
              go_returns
              refine ⟨?_, _, .inr ⟨HS4.out, L, HL.out, HRD.out⟩, _, rfl, AtG.new _ _ _⟩
              have h1 := HB4.out.trans (HY6.out.below HB4.out.size (fun k hk => by omega))
              exact h1.alloc h1.size _
            · have hd' : ∀ x ∈ out, x.name ≠ r.name := fun x hx e => hd ⟨x, hx, e⟩
              have HSN := Lib.hid (seenF_no hd')
              by_cases h8 : out.length = 8
              · have HRD := Lib.hid (HD1.out.2 _ (.large HNB.out HR.out hd' h8))
                have e8 : ((out.length : Int) == 8) = true := beq_iff_eq.2 (by omega)
                clear hd hd' h8 HD1
                go_wp2_with ((at_lookup; refine wpList_lookupF _ rfl _ _ 44 rfl 9 3 .i64 keyedS Tryd.underlying44 Tryd.underlying3 (zeroInt _) _ _ _ rfl HM6.out _ (.string r.name.data.toList) rfl (keyS _ HNZ.out) trivial _ HSN.out ?_))
                go_returns
                refine ⟨?_, _, .inr ⟨HS4.out, L, HL.out, HRD.out⟩, _, rfl, AtG.new _ _ _⟩
                have h1 := HB4.out.trans (HY6.out.below HB4.out.size (fun k hk => by omega))
                exact h1.alloc h1.size _
              · have e8 : ((out.length : Int) == 8) = false := beq_eq_false_iff_ne.2 (by omega)
                have HD2 : Hid ((out ++ [r]).length ≤ 8 ∧ ∀ R, Rd (L.drop (j + 1)) (j + 1) (out ++ [r]) R → Rd L 0 [] R) := Lib.hid ⟨by have := HD1.out.1; simp; omega, fun R h => HD1.out.2 R (.next HNB.out HR.out hd' h8 h)⟩
                have HL8 : Hid (out.length ≤ 8) := Lib.hid HD1.out.1
                clear hd hd' h8 HD1
                go_wp2_with (first | (at_lookup; refine wpList_lookupF _ rfl _ _ 44 rfl 9 3 .i64 keyedS Tryd.underlying44 Tryd.underlying3 (zeroInt _) _ _ _ rfl HM6.out _ (.string r.name.data.toList) rfl (keyS _ HNZ.out) trivial _ HSN.out ?_) | (at_mapUpdate; refine wpList_updateF _ rfl _ _ _ 44 rfl 9 3 .i64 keyedS Tryd.underlying44 Tryd.underlying3 _ _ _ rfl HM6.out (by have := HL8.out; unfold maxLen; omega) _ 1 (.string r.name.data.toList) rfl rfl (wf_small 1 (by decide)) (keyS _ HNZ.out) trivial _ rfl ?_; intro w7 hm7 hg7; have HM7 := Lib.hid hm7; have HG7 := Lib.hid hg7; have HA7 := Lib.hid (HA6.out.gb hg7 (by have := HG6.out; omega)); clear hm7 hg7; have HO7 := Lib.hid (own_grown HO6.out HG7.out (fun k hk e => by cases e; have := own_base HO6.out _ hk; have := HZ4.out; have := HZW.out; omega)); obtain ⟨c0, c1, c2, -, -, -⟩ := rl_cells HA7.out) | (at_builtin; refine wpList_appRow rfl (.tmp 67) (.tmp 69) 23 rfl w4.heap.size 35 _ 3 40 Tryd.underlying23 infoRule rfl (by decide) _ _ out.length 1 _ (rlL r) (own_below HO7.out ((Below.refl _ _).alloc (Nat.le_refl _) _)) (src_at (AtG.new _ 35 _) 1) rfl rfl rfl (rl_one _) (by have := HL8.out; omega) (by decide) (by have := HY6.out.size; have := HG7.out.size; simp; omega) ?_; intro v8 w8 ho8 hg8; obtain ⟨va8, vc8, rfl⟩ := own_form ho8; have HO8 := Lib.hid ho8; have HG8 := Lib.hid hg8; clear ho8 hg8))
                have hs7 : (if (seenF out (.string r.name.data.toList)).isSome then out.length else out.length + 1) = (out ++ [r]).length := by rw [HSN.out]; simp
                have hM8 := ((HM7.out.ext (seenF_put out r)).alloc (.cells (rlC r.name r.pat r.luhn) 35)).kept HG8.out (fun e => by have := own_base HO7.out _ e.symm; have := HZ4.out; have := HZW.out; omega)
                rw [hs7] at hM8
                have hO8 := HO8.out
                rw [← flatR_snoc] at hO8
                refine ⟨⟨j + 1, out ++ [r], va8, vc8, HLT.out, by simp, by go_num, Lib.hid (by simpa using hO8), Lib.hid hM8, Lib.hid ?_, HD2⟩, by have := HLT.out; simp [intOf]; try omega⟩
                refine ((HY6.out.trans (Only.of_grown (S := fun k => k = w.heap.size) HG7.out (fun k hk => by cases hk; rfl)) (fun k hk => .inl hk)).trans (Only.of_below (S := fun _ => False) ((Below.refl w7.heap.size w7).alloc (Nat.le_refl _) (.cells (rlC r.name r.pat r.luhn) 35))) (fun _ => False.elim)).trans (Only.of_grown (S := fun k => (Value.slice va out.length vc).ownBlock = some k) HG8.out (fun k hk => hk)) (fun k hk => .inr (own_base HO7.out k hk))
          · have HRD := Lib.hid (HD1.out.2 _ (.bad HNB.out hno))
            unfold rlA
            go_wp2_with fail
            go_returns
            refine ⟨?_, _, .inr ⟨HS4.out, L, HL.out, HRD.out⟩, _, rfl, by simpa using AtG.new (w5.alloc (.cells #[Value.string a, Value.string b, Value.bool cc] 35)) 43 _⟩
            have h1 := HB4.out.trans (HY5.out.below HB4.out.size (fun k hk => by omega))
            exact (h1.alloc h1.size _).alloc (by simp; have := h1.size; omega) _
    · obtain rfl : j = L.length := by omega
      have HRD := Lib.hid (HD.out.2 (.ok out) (by rw [List.drop_length]; exact .done))
      clear hlt hj HD
      go_wp2
      go_returns
      refine ⟨?_, _, .inr ⟨HS4.out, L, HL.out, HRD.out⟩, _, rfl, ?_⟩
      · exact HB4.out.trans (HY.out.below HB4.out.size (fun k hk => by omega))
      · exact (rulesAt_own HO.out).lower HB4.out.size
end Go.Proofs.YtaafmfooommepaaDoor
