/- The help's Rules. -/
import Derived.Test.YtofgkildlhcpdaaMask6
set_option linter.unusedVariables false
set_option linter.unusedSimpArgs false
namespace Go.Proofs.Ytofgkildlhcpdaa
open Go.RowKit Bt Luhn
/-- what the help's Rules leave -/
def RulesPost (w : World) (e : Ending) (w' : World) : Prop :=
  Below w.heap.size w w' ∧ ∃ (va vb : Value) (rs : List Rul), e = .returned (.tuple #[va, vb]) ∧ RuAt w' va rs ∧ RuAt w' vb rs ∧ rs.length ≤ 4 ∧ (∀ r ∈ rs, Wf r.1) ∧ (∀ r ∈ rs, mostP r.1 ≤ 32)
/-- the rules as they are built -/
structure RLoop (w0 w : World) (va vb : Value) (k : Nat) (ps : List RuN) (rs : List Rul) : Prop where
  below : Below w0.heap.size w0 w
  hold : RHold w w0.heap.size 47 49 va vb ps ps ps
  len : ps.length = rs.length
  few : rs.length ≤ k
  same : ∀ j (hj : j < rs.length) (hj' : j < ps.length), rs[j].1.tree = ps[j].1 ∧ rs[j].2 = ps[j].2.2
  wf : ∀ r ∈ rs, Wf r.1
  most : ∀ r ∈ rs, mostP r.1 ≤ 32
theorem RLoop.later {w0 w w' : World} {va vb : Value} {k : Nat} {ps : List RuN} {rs : List Rul} (h : RLoop w0 w va vb k ps rs) (hb : Below w.heap.size w w') : RLoop w0 w' va vb (k + 1) ps rs :=
  ⟨h.below.trans (hb.mono h.below.size), h.hold.below hb, h.len, Nat.le_succ_of_le h.few, h.same, h.wf, h.most⟩
theorem infoRuA : (Try.prog.info? 47).map (fun i => (i.zero, i.size, i.bytes)) = some (some (.agg #[.int .i64 0, .int .u64 0, .int .u64 0, .int .u64 0, .int .u64 0, .int .i64 0, .int .i64 0, .slice none 0 0, .bool false]), 9, 88) := by kernel_rfl
theorem infoRuB : (Try.prog.info? 49).map (fun i => (i.zero, i.size, i.bytes)) = some (some (.agg #[.int .i64 0, .int .u64 0, .int .u64 0, .int .u64 0, .int .u64 0, .int .i64 0, .int .i64 0, .slice none 0 0, .bool false]), 9, 88) := by kernel_rfl
set_option maxRecDepth 100000 in
set_option maxHeartbeats 3200000 in
theorem rules_any (w : World) (lv uv : Value) (ss : List ByteArray) (us : List Bool) (hl : RdS w lv ss) (hu : RdT w uv us) : Calls Try.prog 21 #[lv, uv] w (RulesPost w) := by
  have HL := Lib.hid hl; have HU := Lib.hid hu
  obtain ⟨A, c, rfl, hlm, hlc⟩ := hl
  obtain ⟨B, d, rfl, hum, huc⟩ := hu
  have hlI : (ss.length : Int) ≤ 140737488355328 := by omega
  have huI : (us.length : Int) ≤ 140737488355328 := by omega
  have HLC : Hid (∀ (w1 : World), Below w.heap.size w w1 → ∀ j (h : j < ss.length), ∃ b off, A = some ⟨b, off, none⟩ ∧ ss.length ≤ c ∧ w1.cell? ⟨b, off + j, none⟩ = some (.string ss[j])) := Lib.hid (fun w1 hb j hj => by
    obtain ⟨b, off, h1, h2, h3⟩ := hlc j hj
    exact ⟨b, off, h1, h2, (hb.cell (World.block_lt_of_cell? w _ h3)).trans h3⟩)
  have HUC : Hid (∀ (w1 : World), Below w.heap.size w w1 → ∀ j (h : j < us.length), ∃ b off, B = some ⟨b, off, none⟩ ∧ us.length ≤ d ∧ w1.cell? ⟨b, off + j, none⟩ = some (.bool us[j])) := Lib.hid (fun w1 hb j hj => by
    obtain ⟨b, off, h1, h2, h3⟩ := huc j hj
    exact ⟨b, off, h1, h2, (hb.cell (World.block_lt_of_cell? w _ h3)).trans h3⟩)
  clear hlc huc HL HU
  have HPA := Lib.hid (fun s w => patternK_any s w)
  go_enter Try.func21, Try.ntmps21
  go_wp2_with fail
  go_loopw [6, 7, 8] (fun va vb i wr => ∃ k : Nat, k ≤ 4 ∧ k ≤ ss.length ∧ i = .int .i64 k ∧ ∃ ps rs, RLoop w wr va vb k ps rs) (fun _ _ i _ => 4 - (intOf i).toNat)
  case atStart => exact ⟨0, by omega, Nat.zero_le _, rfl, [], [], ⟨Below.refl _ _, RHold.nil _ _ _ _, rfl, Nat.le_refl _, fun j hj => by simp at hj, (fun r hr => by cases hr), (fun r hr => by cases hr)⟩⟩
  case round =>
    obtain ⟨k, hk4, hk, rfl, ps, rs, hR⟩ := hrel
    have HR := Lib.hid hR
    clear hR
    by_cases hlt : k < ss.length
    · by_cases h4 : k < 4
      · obtain ⟨b, off, hA, hcap, hcell⟩ := HLC.out wr HR.out.below k hlt
        have HLB := Lib.hid hA
        subst hA
        have hltI : (k : Int) < ss.length := by omega
        have h4I : (k : Int) < 4 := by omega
        generalize ss[k] = s at *
        have HP := Lib.hid (HPA.out s wr)
        go_wp2_with fail
        refine (HP.out).mono ?_
        rintro e9 w1 ⟨hb1, rfl | ⟨p, kv, q, hp, _, _, rfl, hk1⟩⟩
        · have HR1 := Lib.hid ((HR.out.later (hb1.alloc hb1.size (.cells nodeZ 29))))
          clear hb1 hcell
          unfold zeroN
          go_wp2_with fail
          exact ⟨⟨k + 1, by omega, by omega, by go_num, ps, rs, HR1.out⟩, by simp [intOf]; omega⟩
        · obtain ⟨ka, kn, kc, rfl⟩ := tree_kv (NAt.of hk1)
          have HB1 := Lib.hid hb1; have HK1 := Lib.hid hk1; have HW := Lib.hid hp
          have HLEN := Lib.hid (fun w h => lenM_any p hp w ka kn kc h)
          have HMO := Lib.hid (mostP_le p)
          obtain ⟨mp, hmp⟩ : ∃ mp, mp = mostP p := ⟨_, rfl⟩
          rw [← hmp] at HLEN HMO
          have HMP := Lib.hid hmp
          have hmpI : (mp : Int) ≤ 1000 := by have := HMO.out; omega
          rcases hpt : p.tree with ⟨op, f, mn, mx, kids⟩
          have HT := Lib.hid hpt
          rw [hpt] at HLEN
          unfold nodeV at HLEN ⊢
          dsimp only at HLEN ⊢
          clear hb1 hk1 hp hpt hmp hcell
          go_upto_region 8 with (fail)
          obtain ⟨w2, hw2⟩ : ∃ w2 : World, w2 = w1.alloc (.cells (nodeC op f mn mx (.slice ka kn kc)) 29) := ⟨_, rfl⟩
          have hw2' : w1.alloc (.cells #[.int .i64 op, .int .u64 ((wd f 0 : Nat) : Int), .int .u64 ((wd f 1 : Nat) : Int), .int .u64 ((wd f 2 : Nat) : Int), .int .u64 ((wd f 3 : Nat) : Int), .int .i64 mn, .int .i64 mx, .slice ka kn kc] 29) = w2 := hw2.symm
          rw [hw2']
          have HC2 : Hid (AtG w2 w1.heap.size 29 (nodeC op f mn mx (.slice ka kn kc))) := Lib.hid (by rw [hw2]; exact AtG.new _ _ _)
          have HB2 : Hid (Below wr.heap.size wr w2) := Lib.hid (by rw [hw2]; exact HB1.out.alloc HB1.out.size _)
          have HK2 : Hid (KAt (fun b => wr.heap.size ≤ b) w2 p.tree (.slice ka kn kc)) := Lib.hid (by rw [hw2]; exact HK1.out.belowD ((Below.refl _ _).alloc (Nat.le_refl _) _))
          have HGN : Hid (wr.heap.size ≤ w1.heap.size) := Lib.hid HB1.out.size
          clear hw2 hw2' HB1 HK1
          generalize w1.heap.size = gn at *
          have a0 : (w2).cell? ⟨gn, 0, none⟩ = some (.int .i64 op) := (HC2.out).cell 0 _ rfl
          have a1 : (w2).cell? ⟨gn, 1, none⟩ = some (.int .u64 ((wd f 0 : Nat) : Int)) := (HC2.out).cell 1 _ rfl
          have a2 : (w2).cell? ⟨gn, 2, none⟩ = some (.int .u64 ((wd f 1 : Nat) : Int)) := (HC2.out).cell 2 _ rfl
          have a3 : (w2).cell? ⟨gn, 3, none⟩ = some (.int .u64 ((wd f 2 : Nat) : Int)) := (HC2.out).cell 3 _ rfl
          have a4 : (w2).cell? ⟨gn, 4, none⟩ = some (.int .u64 ((wd f 3 : Nat) : Int)) := (HC2.out).cell 4 _ rfl
          have a5 : (w2).cell? ⟨gn, 5, none⟩ = some (.int .i64 mn) := (HC2.out).cell 5 _ rfl
          have a6 : (w2).cell? ⟨gn, 6, none⟩ = some (.int .i64 mx) := (HC2.out).cell 6 _ rfl
          have a7 : (w2).cell? ⟨gn, 7, none⟩ = some (.slice ka kn kc) := (HC2.out).cell 7 _ rfl
          have HLX : Hid (NAt w2 (.node op f mn mx kids) (.slice ka kn kc)) := Lib.hid (by rw [← HT.out]; exact NAt.of HK2.out)
          go_wp2_with fail
          refine (HLEN.out _ HLX.out).mono ?_
          rintro e9 w3 ⟨rfl, hb3⟩
          have HB3 := Lib.hid (HB2.out.trans (hb3.mono HB2.out.size)); have HC3 := Lib.hid (HC2.out.below hb3); have HK3 := Lib.hid (HK2.out.belowD hb3)
          clear hb3 a0 a1 a2 a3 a4 a5 a6 a7 HB2 HC2 HK2 HLX HLEN
          by_cases hm32 : 32 < (mp : Int)
          · have HR3 := Lib.hid (HR.out.later HB3.out)
            go_wp2_with fail
            exact ⟨⟨k + 1, by omega, by omega, by go_num, ps, rs, HR3.out⟩, by simp [intOf]; omega⟩
          · obtain ⟨chk, hchk⟩ : ∃ chk : Bool, (k < us.length → ∀ h : k < us.length, chk = us[k]) ∧ (¬ k < us.length → chk = false) := by
              by_cases h : k < us.length
              · exact ⟨us[k], fun _ _ => rfl, fun h' => absurd h h'⟩
              · exact ⟨false, fun h' => absurd h' h, fun _ => rfl⟩
            have HCK := Lib.hid hchk
            clear hchk
            by_cases hku : k < us.length
            · obtain ⟨b', off', hB, hcapB, hcellB⟩ := HUC.out w3 (HR.out.below.trans (HB3.out.mono HR.out.below.size)) k hku
              rw [← HCK.out.1 hku hku] at hcellB
              subst hB
              have hkuI : (k : Int) < us.length := by omega
              go_upto_region 10 with (fail)
              have HO3 : Hid (RHold w3 w.heap.size 47 49 u6 u7 ps ps (ps ++ [(Tree.node op f mn mx kids, Value.slice ka kn kc, chk)])) := Lib.hid (HR.out.hold.more HB3.out (show KAt (fun x => wr.heap.size ≤ x) w3 (Tree.node op f mn mx kids) (Value.slice ka kn kc) by rw [← HT.out]; exact HK3.out))
              have HBW3 := Lib.hid (HR.out.below.trans (HB3.out.mono HR.out.below.size))
              have HLEN4 : Hid (ps.length ≤ 4) := Lib.hid (by have := HR.out.len; have := HR.out.few; omega)
              have HOA := Lib.hid (HO3.out.below ((Below.refl w3.heap.size w3).alloc (Nat.le_refl _) (.cells (ruC op f mn mx (.slice ka kn kc) chk) 47)))
              have HCA := Lib.hid (HC3.out.alloc (.cells (ruC op f mn mx (.slice ka kn kc) chk) 47))
              have a0 : (w3).cell? ⟨gn, 0, none⟩ = some (.int .i64 op) := (HC3.out).cell 0 _ rfl
              have a1 : (w3).cell? ⟨gn, 1, none⟩ = some (.int .u64 ((wd f 0 : Nat) : Int)) := (HC3.out).cell 1 _ rfl
              have a2 : (w3).cell? ⟨gn, 2, none⟩ = some (.int .u64 ((wd f 1 : Nat) : Int)) := (HC3.out).cell 2 _ rfl
              have a3 : (w3).cell? ⟨gn, 3, none⟩ = some (.int .u64 ((wd f 2 : Nat) : Int)) := (HC3.out).cell 3 _ rfl
              have a4 : (w3).cell? ⟨gn, 4, none⟩ = some (.int .u64 ((wd f 3 : Nat) : Int)) := (HC3.out).cell 4 _ rfl
              have a5 : (w3).cell? ⟨gn, 5, none⟩ = some (.int .i64 mn) := (HC3.out).cell 5 _ rfl
              have a6 : (w3).cell? ⟨gn, 6, none⟩ = some (.int .i64 mx) := (HC3.out).cell 6 _ rfl
              have a7 : (w3).cell? ⟨gn, 7, none⟩ = some (.slice ka kn kc) := (HC3.out).cell 7 _ rfl
              go_upto_region 11 with (at_builtin; go_must (refine wpList_appRowX rfl (.tmp 45) (.tmp 49) 41 rfl w.heap.size 47 _ 9 88 Try.underlying41 infoRuA rfl (by decide) u6 _ ps.length 1 (flatR ps) (ruL (.node op f mn mx kids, .slice ka kn kc, chk)) HOA.out.a (src_at (AtG.new _ 47 _) 1) rfl rfl rfl (fun y hy => by unfold ruL nodeL at hy; simp at hy; rcases hy with rfl | rfl | rfl | rfl | rfl | rfl | rfl | rfl | rfl <;> rfl) (by have := HLEN4.out; omega) (by decide) (by have := HBW3.out.size; simp; omega) ?_); intro va' w4 hown hgr hbk; have HO4 := Lib.hid (HOA.out.appA hown hgr hbk); have HGR := Lib.hid hgr; clear hown hgr hbk)
              have HBW4 := Lib.hid ((HBW3.out.alloc HBW3.out.size (.cells (ruC op f mn mx (.slice ka kn kc) chk) 47)).grown HGR.out (by have := HBW3.out.size; simp; omega) (fun q hq => own_base HO3.out.a q hq))
              have HC4 := Lib.hid (HCA.out.grown HGR.out (fun e => by have := own_lt HR.out.hold.a _ e; have := HGN.out; omega))
              clear a0 a1 a2 a3 a4 a5 a6 a7 HOA HCA HGR
              have HOB := Lib.hid (HO4.out.below ((Below.refl w4.heap.size w4).alloc (Nat.le_refl _) (.cells (ruC op f mn mx (.slice ka kn kc) chk) 49)))
              have a0 : (w4).cell? ⟨gn, 0, none⟩ = some (.int .i64 op) := (HC4.out).cell 0 _ rfl
              have a1 : (w4).cell? ⟨gn, 1, none⟩ = some (.int .u64 ((wd f 0 : Nat) : Int)) := (HC4.out).cell 1 _ rfl
              have a2 : (w4).cell? ⟨gn, 2, none⟩ = some (.int .u64 ((wd f 1 : Nat) : Int)) := (HC4.out).cell 2 _ rfl
              have a3 : (w4).cell? ⟨gn, 3, none⟩ = some (.int .u64 ((wd f 2 : Nat) : Int)) := (HC4.out).cell 3 _ rfl
              have a4 : (w4).cell? ⟨gn, 4, none⟩ = some (.int .u64 ((wd f 3 : Nat) : Int)) := (HC4.out).cell 4 _ rfl
              have a5 : (w4).cell? ⟨gn, 5, none⟩ = some (.int .i64 mn) := (HC4.out).cell 5 _ rfl
              have a6 : (w4).cell? ⟨gn, 6, none⟩ = some (.int .i64 mx) := (HC4.out).cell 6 _ rfl
              have a7 : (w4).cell? ⟨gn, 7, none⟩ = some (.slice ka kn kc) := (HC4.out).cell 7 _ rfl
              go_wp2_with (at_builtin; go_must (refine wpList_appRowX rfl (.tmp 51) (.tmp 55) 42 rfl w.heap.size 49 _ 9 88 Try.underlying42 infoRuB rfl (by decide) u7 _ ps.length 1 (flatR ps) (ruL (.node op f mn mx kids, .slice ka kn kc, chk)) HOB.out.b (src_at (AtG.new _ 49 _) 1) rfl rfl rfl (fun y hy => by unfold ruL nodeL at hy; simp at hy; rcases hy with rfl | rfl | rfl | rfl | rfl | rfl | rfl | rfl | rfl <;> rfl) (by have := HLEN4.out; omega) (by decide) (by have := HBW4.out.size; simp; omega) ?_); intro vb' w5 hown hgr hbk; have HO5 := Lib.hid (HOB.out.appB hown hgr hbk); have HGR := Lib.hid hgr; clear hown hgr hbk)
              have HBW5 := Lib.hid ((HBW4.out.alloc HBW4.out.size (.cells (ruC op f mn mx (.slice ka kn kc) chk) 49)).grown HGR.out (by have := HBW4.out.size; simp; omega) (fun q hq => own_base HO4.out.b q hq))
              refine ⟨⟨k + 1, by omega, by omega, by go_num, ps ++ [(Tree.node op f mn mx kids, Value.slice ka kn kc, chk)], rs ++ [(p, chk)], HBW5.out, HO5.out, by have := HR.out.len; simp; omega, by have := HR.out.few; simp; omega, fun j hj hj' => ?_, fun r hr => ?_, fun r hr => ?_⟩, by simp [intOf]; omega⟩
              · by_cases hjl : j < rs.length
                · have hjp : j < ps.length := by have := HR.out.len; omega
                  rw [List.getElem_append_left hjl, List.getElem_append_left hjp]
                  exact HR.out.same j hjl hjp
                · have h1 := HR.out.len
                  have hj1 : j = rs.length := by simp at hj; omega
                  have hj2 : j = ps.length := by omega
                  rw [List.getElem_append_right (by omega), List.getElem_append_right (by omega)]
                  simp [hj1, ← h1, HT.out]
              · rcases List.mem_append.1 hr with hr | hr
                · exact HR.out.wf r hr
                · rw [List.mem_singleton] at hr; subst hr; exact HW.out
              · rcases List.mem_append.1 hr with hr | hr
                · exact HR.out.most r hr
                · rw [List.mem_singleton] at hr; subst hr; have := HMP.out; show mostP p ≤ 32; omega
            · have hc0 := HCK.out.2 hku
              subst hc0
              have hkuI : ¬ (k : Int) < us.length := by omega
              go_upto_region 10 with (fail)
              have HO3 : Hid (RHold w3 w.heap.size 47 49 u6 u7 ps ps (ps ++ [(Tree.node op f mn mx kids, Value.slice ka kn kc, false)])) := Lib.hid (HR.out.hold.more HB3.out (show KAt (fun x => wr.heap.size ≤ x) w3 (Tree.node op f mn mx kids) (Value.slice ka kn kc) by rw [← HT.out]; exact HK3.out))
              have HBW3 := Lib.hid (HR.out.below.trans (HB3.out.mono HR.out.below.size))
              have HLEN4 : Hid (ps.length ≤ 4) := Lib.hid (by have := HR.out.len; have := HR.out.few; omega)
              have HOA := Lib.hid (HO3.out.below ((Below.refl w3.heap.size w3).alloc (Nat.le_refl _) (.cells (ruC op f mn mx (.slice ka kn kc) false) 47)))
              have HCA := Lib.hid (HC3.out.alloc (.cells (ruC op f mn mx (.slice ka kn kc) false) 47))
              have a0 : (w3).cell? ⟨gn, 0, none⟩ = some (.int .i64 op) := (HC3.out).cell 0 _ rfl
              have a1 : (w3).cell? ⟨gn, 1, none⟩ = some (.int .u64 ((wd f 0 : Nat) : Int)) := (HC3.out).cell 1 _ rfl
              have a2 : (w3).cell? ⟨gn, 2, none⟩ = some (.int .u64 ((wd f 1 : Nat) : Int)) := (HC3.out).cell 2 _ rfl
              have a3 : (w3).cell? ⟨gn, 3, none⟩ = some (.int .u64 ((wd f 2 : Nat) : Int)) := (HC3.out).cell 3 _ rfl
              have a4 : (w3).cell? ⟨gn, 4, none⟩ = some (.int .u64 ((wd f 3 : Nat) : Int)) := (HC3.out).cell 4 _ rfl
              have a5 : (w3).cell? ⟨gn, 5, none⟩ = some (.int .i64 mn) := (HC3.out).cell 5 _ rfl
              have a6 : (w3).cell? ⟨gn, 6, none⟩ = some (.int .i64 mx) := (HC3.out).cell 6 _ rfl
              have a7 : (w3).cell? ⟨gn, 7, none⟩ = some (.slice ka kn kc) := (HC3.out).cell 7 _ rfl
              go_upto_region 11 with (at_builtin; go_must (refine wpList_appRowX rfl (.tmp 45) (.tmp 49) 41 rfl w.heap.size 47 _ 9 88 Try.underlying41 infoRuA rfl (by decide) u6 _ ps.length 1 (flatR ps) (ruL (.node op f mn mx kids, .slice ka kn kc, false)) HOA.out.a (src_at (AtG.new _ 47 _) 1) rfl rfl rfl (fun y hy => by unfold ruL nodeL at hy; simp at hy; rcases hy with rfl | rfl | rfl | rfl | rfl | rfl | rfl | rfl | rfl <;> rfl) (by have := HLEN4.out; omega) (by decide) (by have := HBW3.out.size; simp; omega) ?_); intro va' w4 hown hgr hbk; have HO4 := Lib.hid (HOA.out.appA hown hgr hbk); have HGR := Lib.hid hgr; clear hown hgr hbk)
              have HBW4 := Lib.hid ((HBW3.out.alloc HBW3.out.size (.cells (ruC op f mn mx (.slice ka kn kc) false) 47)).grown HGR.out (by have := HBW3.out.size; simp; omega) (fun q hq => own_base HO3.out.a q hq))
              have HC4 := Lib.hid (HCA.out.grown HGR.out (fun e => by have := own_lt HR.out.hold.a _ e; have := HGN.out; omega))
              clear a0 a1 a2 a3 a4 a5 a6 a7 HOA HCA HGR
              have HOB := Lib.hid (HO4.out.below ((Below.refl w4.heap.size w4).alloc (Nat.le_refl _) (.cells (ruC op f mn mx (.slice ka kn kc) false) 49)))
              have a0 : (w4).cell? ⟨gn, 0, none⟩ = some (.int .i64 op) := (HC4.out).cell 0 _ rfl
              have a1 : (w4).cell? ⟨gn, 1, none⟩ = some (.int .u64 ((wd f 0 : Nat) : Int)) := (HC4.out).cell 1 _ rfl
              have a2 : (w4).cell? ⟨gn, 2, none⟩ = some (.int .u64 ((wd f 1 : Nat) : Int)) := (HC4.out).cell 2 _ rfl
              have a3 : (w4).cell? ⟨gn, 3, none⟩ = some (.int .u64 ((wd f 2 : Nat) : Int)) := (HC4.out).cell 3 _ rfl
              have a4 : (w4).cell? ⟨gn, 4, none⟩ = some (.int .u64 ((wd f 3 : Nat) : Int)) := (HC4.out).cell 4 _ rfl
              have a5 : (w4).cell? ⟨gn, 5, none⟩ = some (.int .i64 mn) := (HC4.out).cell 5 _ rfl
              have a6 : (w4).cell? ⟨gn, 6, none⟩ = some (.int .i64 mx) := (HC4.out).cell 6 _ rfl
              have a7 : (w4).cell? ⟨gn, 7, none⟩ = some (.slice ka kn kc) := (HC4.out).cell 7 _ rfl
              go_wp2_with (at_builtin; go_must (refine wpList_appRowX rfl (.tmp 51) (.tmp 55) 42 rfl w.heap.size 49 _ 9 88 Try.underlying42 infoRuB rfl (by decide) u7 _ ps.length 1 (flatR ps) (ruL (.node op f mn mx kids, .slice ka kn kc, false)) HOB.out.b (src_at (AtG.new _ 49 _) 1) rfl rfl rfl (fun y hy => by unfold ruL nodeL at hy; simp at hy; rcases hy with rfl | rfl | rfl | rfl | rfl | rfl | rfl | rfl | rfl <;> rfl) (by have := HLEN4.out; omega) (by decide) (by have := HBW4.out.size; simp; omega) ?_); intro vb' w5 hown hgr hbk; have HO5 := Lib.hid (HOB.out.appB hown hgr hbk); have HGR := Lib.hid hgr; clear hown hgr hbk)
              have HBW5 := Lib.hid ((HBW4.out.alloc HBW4.out.size (.cells (ruC op f mn mx (.slice ka kn kc) false) 49)).grown HGR.out (by have := HBW4.out.size; simp; omega) (fun q hq => own_base HO4.out.b q hq))
              refine ⟨⟨k + 1, by omega, by omega, by go_num, ps ++ [(Tree.node op f mn mx kids, Value.slice ka kn kc, false)], rs ++ [(p, false)], HBW5.out, HO5.out, by have := HR.out.len; simp; omega, by have := HR.out.few; simp; omega, fun j hj hj' => ?_, fun r hr => ?_, fun r hr => ?_⟩, by simp [intOf]; omega⟩
              · by_cases hjl : j < rs.length
                · have hjp : j < ps.length := by have := HR.out.len; omega
                  rw [List.getElem_append_left hjl, List.getElem_append_left hjp]
                  exact HR.out.same j hjl hjp
                · have h1 := HR.out.len
                  have hj1 : j = rs.length := by simp at hj; omega
                  have hj2 : j = ps.length := by omega
                  rw [List.getElem_append_right (by omega), List.getElem_append_right (by omega)]
                  simp [hj1, ← h1, HT.out]
              · rcases List.mem_append.1 hr with hr | hr
                · exact HR.out.wf r hr
                · rw [List.mem_singleton] at hr; subst hr; exact HW.out
              · rcases List.mem_append.1 hr with hr | hr
                · exact HR.out.most r hr
                · rw [List.mem_singleton] at hr; subst hr; have := HMP.out; show mostP p ≤ 32; omega
      · obtain rfl : k = 4 := by omega
        go_wp2_with fail
        go_returns
        exact ⟨HR.out.below, _, _, rs, rfl, ruAt_own HR.out.hold.a (fun p hp => NAt.of (HR.out.hold.k p hp)) HR.out.len HR.out.same, ruAt_own HR.out.hold.b (fun p hp => NAt.of (HR.out.hold.k p hp)) HR.out.len HR.out.same, HR.out.few, HR.out.wf, HR.out.most⟩
    · obtain rfl : k = ss.length := by omega
      go_wp2_with fail
      go_returns
      exact ⟨HR.out.below, _, _, rs, rfl, ruAt_own HR.out.hold.a (fun p hp => NAt.of (HR.out.hold.k p hp)) HR.out.len HR.out.same, ruAt_own HR.out.hold.b (fun p hp => NAt.of (HR.out.hold.k p hp)) HR.out.len HR.out.same, by have := HR.out.few; omega, HR.out.wf, HR.out.most⟩
end Go.Proofs.Ytofgkildlhcpdaa
