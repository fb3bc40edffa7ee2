/- The walk of the document's Ends: again and again. -/
import Derived.Test.YtofgkildlhcpdaaK5
set_option linter.unusedVariables false
set_option linter.unusedSimpArgs false
namespace Go.Proofs.Ytofgkildlhcpdaa
open Go.RowKit Bt
theorem AtG.keepB {w w' : World} {g T : Nat} {cs : Array Value} (h : AtG w g T cs) (hb : Below w.heap.size w w') : AtG w' g T cs := h.below hb
set_option maxRecDepth 100000 in
set_option maxHeartbeats 4000000 in
theorem rends_rep (mn mx : Nat) (pk : Pat) (hmm : mn ≤ mx) (hmx : mx ≤ 1000) (ih : REndsC pk) : REndsC (.rep mn mx pk) := by
  intro w a m c wv xs fr hn hx hl hf
  obtain rfl : m = 1 := by
    obtain ⟨a', c', hh⟩ := KAt.slice hn
    injection hh with _ hh _
  obtain ⟨A, wc, rfl⟩ := rdB_slice hx
  have HX := Lib.hid hx
  have hnI : (xs.length : Int) ≤ 1000 := by omega
  have hfI : (fr : Int) ≤ (xs.length : Int) := by omega
  obtain ⟨b, off, cap, heq, hcap, op', f', mn', mx', kids', ka, kc, ht, hc8, hkn⟩ := kid_at (j := 0) (t := pk.tree) hn rfl
  injection heq with e1 e2 e3
  subst e1; subst e3
  clear e2
  unfold REndsC at ih
  rw [ht] at ih hkn
  have hI2 := fun w f h1 h2 h3 => ih w ka kids'.length kc (.slice A xs.length wc) xs f h1 h2 hl h3
  unfold nodeV at hI2
  have HI := Lib.hid hI2; have HKN := Lib.hid hkn
  obtain ⟨kn, hkl⟩ : ∃ kn, kn = kids'.length := ⟨_, rfl⟩
  have hz8 : off + 0 * 8 = off := by omega
  rw [← hkl] at HKN HI hc8
  rw [hz8] at hc8
  have HC8 := Lib.hid hc8
  obtain ⟨w0, hw0⟩ : ∃ w0 : World, w0 = (w.alloc (.cells (nodeC 4 emp (mn : Int) (mx : Int) (.slice (some ⟨b, off, none⟩) 1 c)) 29)).alloc (.cells #[.int .i64 (fr : Int)] 3) := ⟨_, rfl⟩
  have HA : Hid (AtG w0 w.heap.size 29 (nodeC 4 emp (mn : Int) (mx : Int) (.slice (some ⟨b, off, none⟩) 1 c))) := Lib.hid (by rw [hw0]; exact (AtG.new _ _ _).alloc _)
  have HFR : Hid (OwnL w0 (w.heap.size + 1) (.slice (some ⟨w.heap.size + 1, 0, none⟩) 1 1) [fr]) := Lib.hid (by
    rw [hw0]
    have := AtG.new (w.alloc (.cells (nodeC 4 emp (mn : Int) (mx : Int) (.slice (some ⟨b, off, none⟩) 1 c)) 29)) 3 #[.int .i64 (fr : Int)]
    exact OwnL.one (by simpa using this) (Nat.le_refl _))
  have HB0 : Hid (Below w.heap.size w w0) := Lib.hid (by rw [hw0]; go_grown)
  have hw0' : (w.alloc (.cells #[.int .i64 4, .int .u64 ((wd emp 0 : Nat) : Int), .int .u64 ((wd emp 1 : Nat) : Int), .int .u64 ((wd emp 2 : Nat) : Int), .int .u64 ((wd emp 3 : Nat) : Int), .int .i64 (mn : Int), .int .i64 (mx : Int), .slice (some ⟨b, off, none⟩) 1 c] 29)).alloc (.cells #[.int .i64 (fr : Int)] 3) = w0 := hw0.symm
  have m0 : w0.cell? ⟨w.heap.size, 0, none⟩ = some (.int .i64 4) := HA.out.cell 0 _ rfl
  have m6 : w0.cell? ⟨w.heap.size, 6, none⟩ = some (.int .i64 (mx : Int)) := HA.out.cell 6 _ rfl
  have m7 : w0.cell? ⟨w.heap.size, 7, none⟩ = some (.slice (some ⟨b, off, none⟩) 1 c) := HA.out.cell 7 _ rfl
  have hmxI : (mx : Int) ≤ 1000 := by omega
  have hmnI : (mn : Int) ≤ 1000 := by omega
  have HMN := Lib.hid hmm; have HFL := Lib.hid hf
  obtain ⟨R, hR⟩ : ∃ R, R = Mt (byt xs) xs.length pk := ⟨_, rfl⟩
  have HR := Lib.hid hR
  have HLE0 : Hid (∀ t i, imgN R (fun j => j = fr) t i → i ≤ xs.length) := Lib.hid (fun t => by
    induction t with
    | zero => intro i h; rw [imgN] at h; omega
    | succ t ih9 => rintro i ⟨j, h1, h2⟩; rw [hR] at h2; exact mt_le _ _ pk j i (ih9 j h1) h2)
  have HPOST : Hid (∀ i, Mt (byt xs) xs.length (.rep mn mx pk) fr i ↔ ∃ u, mn ≤ u ∧ u ≤ mx ∧ imgN R (fun j => j = fr) u i) := Lib.hid (fun i => by
    rw [Mt, hR]
    constructor
    · rintro ⟨u, h1, h2, h3⟩; exact ⟨u, h1, h2, (imgN_iff _ _ _ _).2 ⟨fr, rfl, h3⟩⟩
    · rintro ⟨u, h1, h2, h3⟩
      obtain ⟨j, hj, h4⟩ := (imgN_iff _ _ _ _).1 h3
      subst hj
      exact ⟨u, h1, h2, h4⟩)
  clear hR
  clear hn hx hw0 ih hI2 hkn ht hkl hz8 hc8
  show Calls Try.prog 40 #[.agg #[.int .i64 4, .int .u64 ((wd emp 0 : Nat) : Int), .int .u64 ((wd emp 1 : Nat) : Int), .int .u64 ((wd emp 2 : Nat) : Int), .int .u64 ((wd emp 3 : Nat) : Int), .int .i64 (mn : Int), .int .i64 (mx : Int), .slice (some ⟨b, off, none⟩) 1 c], _, _] w _
  go_enter Try.func40, Try.ntmps40
  go_wp2_with fail
  go_loopw [12, 13, 15] (fun t12 t13 i wr => ∃ (t : Nat) (nv ov : Value) (NOW OUT : List Nat), nv = t12 ∧ ov = t13 ∧ i = .int .i64 t ∧ t ≤ mx ∧ AtG wr w.heap.size 29 (nodeC 4 emp (mn : Int) (mx : Int) (.slice (some ⟨b, off, none⟩) 1 c)) ∧ Below w.heap.size w wr ∧ OwnL wr (w.heap.size + 1) nv NOW ∧ NOW.Nodup ∧ (∀ y, y ∈ NOW ↔ imgN R (fun j => j = fr) t y) ∧ OwnL wr (w.heap.size + 1) ov OUT ∧ OUT.Nodup ∧ (∀ y, y ∈ OUT ↔ ∃ u, mn ≤ u ∧ u < t ∧ imgN R (fun j => j = fr) u y) ∧ ∀ r, nv.ownBlock = some r → ¬ ov.ownBlock = some r) (fun _ _ i _ => mx - (intOf i).toNat)
  case atStart => exact ⟨0, _, _, [fr], [], rfl, rfl, rfl, Nat.zero_le _, HA.out, HB0.out, HFR.out, by simp, fun y => by rw [imgN]; simp, OwnL.nil _ _, by simp, fun y => by simp, fun r _ h => by cases h⟩
  case round =>
    clear hw0' m0 m6 m7 HA HB0 HFR
    obtain ⟨t, nv, ov, NOW, OUT, hnv, hov, rfl, htm, ha, hb, hnow, hnnd, hnm, hout, hond, hom, hnb⟩ := hrel
    subst hnv; subst hov
    have htmI : (t : Int) ≤ (mx : Int) := by omega
    have HA := Lib.hid ha; have HB := Lib.hid hb; have HNOW0 := Lib.hid hnow; have HNND := Lib.hid hnnd; have HNOWM := Lib.hid hnm; have HOUT := Lib.hid hout; have HOND := Lib.hid hond; have HOM := Lib.hid hom; have HNB0 := Lib.hid hnb
    have n0 : wr.cell? ⟨w.heap.size, 0, none⟩ = some (.int .i64 4) := ha.cell 0 _ rfl
    have n5 : wr.cell? ⟨w.heap.size, 5, none⟩ = some (.int .i64 (mn : Int)) := ha.cell 5 _ rfl
    have n7 : wr.cell? ⟨w.heap.size, 7, none⟩ = some (.slice (some ⟨b, off, none⟩) 1 c) := ha.cell 7 _ rfl
    have HNOWB : Hid (∀ y ∈ NOW, y ≤ xs.length) := Lib.hid (fun y hy => HLE0.out t y ((hnm y).1 hy))
    have HOB0 : Hid (∀ y ∈ OUT, y ≤ xs.length) := Lib.hid (fun y hy => by obtain ⟨u, _, _, h⟩ := (hom y).1 hy; exact HLE0.out u y h)
    have hnowI : (NOW.length : Int) ≤ 1001 := by
      have := nodup_len (m := xs.length + 1) hnnd (fun y hy => by have := HNOWB.out y hy; omega)
      omega
    have HWL := Lib.hid ha.lt
    obtain ⟨nva, nvc, rfl, _⟩ := OwnL.at hnow
    clear ha hb hnow hnnd hnm hout hond hom hnb
    by_cases hlt : t < mx
    · have HLT := Lib.hid hlt
      have hltI : (t : Int) < (mx : Int) := by omega
      obtain ⟨c0, c1, c2, c3, c4, c5, c6, c7⟩ := Cell8.below HC8.out HB.out
      obtain ⟨wr0, hwr0⟩ : ∃ wr0 : World, wr0 = wr := ⟨_, rfl⟩
      have HWR0 := Lib.hid hwr0
      have hwl : w.heap.size < wr.heap.size := HWL.out
      have hwn : ¬ w.heap.size = wr.heap.size := by omega
      clear hwr0
      go_upto_region 30 with (fail)
      have hwr0 := HWR0.out
      clear hwl hwn
      obtain ⟨W1, hW1⟩ : ∃ W1 : World, W1 = wr.alloc (.cells (nodeC op' f' mn' mx' (.slice ka kn kc)) 29) := ⟨_, rfl⟩
      have hW1' : wr.alloc (.cells #[.int .i64 op', .int .u64 ((wd f' 0 : Nat) : Int), .int .u64 ((wd f' 1 : Nat) : Int), .int .u64 ((wd f' 2 : Nat) : Int), .int .u64 ((wd f' 3 : Nat) : Int), .int .i64 mn', .int .i64 mx', .slice ka kn kc] 29) = W1 := hW1.symm
      rw [hW1']
      have HA1 : Hid (AtG W1 w.heap.size 29 (nodeC 4 emp (mn : Int) (mx : Int) (.slice (some ⟨b, off, none⟩) 1 c))) := Lib.hid (by rw [hW1]; exact HA.out.alloc _)
      have HB1 : Hid (Below w.heap.size w W1) := Lib.hid (by rw [hW1]; exact HB.out.alloc HB.out.size _)
      have HNOW1 : Hid (OwnL W1 (w.heap.size + 1) (.slice nva NOW.length nvc) NOW) := Lib.hid (by rw [hW1]; exact HNOW0.out.below ((Below.refl _ _).alloc (Nat.le_refl _) _))
      have HOUT1 : Hid (OwnL W1 (w.heap.size + 1) ov OUT) := Lib.hid (by rw [hW1]; exact HOUT.out.below ((Below.refl _ _).alloc (Nat.le_refl _) _))
      have HKC1 : Hid (AtG W1 wr0.heap.size 29 (nodeC op' f' mn' mx' (.slice ka kn kc))) := Lib.hid (by rw [hW1, hwr0]; exact AtG.new _ _ _)
      have HOBK : Hid (∀ r, ov.ownBlock = some r → r < wr0.heap.size) := Lib.hid (fun r hr => by rw [hwr0]; exact own_lt HOUT.out r hr)
      have HWR : Hid (w.heap.size < wr0.heap.size) := Lib.hid (by rw [hwr0]; exact HWL.out)
      rw [← hwr0]
      have n0 : W1.cell? ⟨w.heap.size, 0, none⟩ = some (.int .i64 4) := HA1.out.cell 0 _ rfl
      have n5 : W1.cell? ⟨w.heap.size, 5, none⟩ = some (.int .i64 (mn : Int)) := HA1.out.cell 5 _ rfl
      clear hW1 hW1' hwr0 c0 c1 c2 c3 c4 c5 c6 c7 HA HB HNOW0 HOUT HWL
      by_cases hmt : mn ≤ t
      · have hmtI : (mn : Int) ≤ (t : Int) := by omega
        have HOV := HOUT1; have HLV := HNOW1; have HND := HOND; have HNB := HNB0; have HLB := HNOWB; have HOB := HOB0
        have HBW : Hid (w.heap.size + 1 ≤ W1.heap.size) := Lib.hid HA1.out.lt
        have hllI : (NOW.length : Int) ≤ 1001 := hnowI
        go_wp2_with fail
        go_loopw [13, 17] (fun t i wr => ∃ (q : Nat) (v : Value), i = .int .i64 q ∧ v = t ∧ Added W1 (w.heap.size + 1) (ov) (OUT) (NOW) q wr v) (fun _ i _ => (NOW).length - (intOf i).toNat)
        case atStart => exact ⟨0, _, rfl, rfl, Added.start HOV.out HND.out⟩
        case round =>
          obtain ⟨q, v, rfl, hv, hadd⟩ := hrel
          subst hv
          obtain ⟨N, hN, hNd, hNm⟩ := hadd.ex
          have HADD := Lib.hid hadd; have HN := Lib.hid hN; have HNd := Lib.hid hNd; have HNm := Lib.hid hNm
          clear hadd hN hNd hNm
          by_cases hlq : q < (NOW).length
          · obtain ⟨lg, rfl, hlc, hcell⟩ := OwnL.cell (HLV.out.only HADD.out.only HNB.out) q hlq
            have hxb : (NOW)[q] ≤ xs.length := HLB.out _ (List.getElem_mem hlq)
            have HAD := Lib.hid (add_any wr (w.heap.size + 1) v N (NOW)[q] HN.out (Nat.le_trans HBW.out HADD.out.only.size) (by
              have := nodup_len (m := xs.length + 1) HNd.out (fun y hy => by
                rcases (HNm.out y).1 hy with h | h
                · have := HOB.out y h; omega
                · have := HLB.out y (List.mem_of_mem_take h); omega)
              omega) (by omega))
            have HLQ := Lib.hid hlq
            generalize hxq : (NOW)[q] = xq at hcell HAD hxb
            have HXQ := Lib.hid hxq
            clear hxq
            go_wp2_with fail
            refine (HAD.out).mono ?_
            rintro e9 wa ⟨v', rfl, h1, h2, h3⟩
            have HST := Lib.hid (Added.step HADD.out HLQ.out HNm.out HNd.out (by have e := HXQ.out; subst e; exact h1) h2 h3)
            clear h1 h2 h3
            go_wp2_with fail
            exact ⟨⟨q + 1, v', by go_num, rfl, HST.out⟩, by simp [intOf]; omega⟩
          · have hq0 : q = (NOW).length := by have := HADD.out.le; omega
            subst hq0
            have HNm2 : Hid (∀ y, y ∈ N ↔ y ∈ (OUT) ∨ y ∈ (NOW)) := Lib.hid (fun y => by rw [HNm.out y, List.take_length])
            have hoS : ∀ r, ov.ownBlock = some r → w.heap.size + 1 ≤ r := fun r hr => own_base HOUT1.out r hr
            have HA2 := Lib.hid (HA1.out.only HADD.out.only (fun e => by have := hoS _ e; omega))
            have HBW1 := Lib.hid (below_only HB1.out HADD.out.only (by have := HBW.out; omega) (fun r hr => by have := hoS r hr; omega))
            have HNOW := Lib.hid (HNOW1.out.only HADD.out.only HNB0.out)
            have HKC := Lib.hid (HKC1.out.only HADD.out.only (fun e => by have := HOBK.out _ e; omega))
            have HOM2 : Hid (∀ y, y ∈ N ↔ ∃ u, mn ≤ u ∧ u < t + 1 ∧ imgN R (fun j => j = fr) u y) := Lib.hid (fun y => by
              rw [HNm2.out y, HOM.out y, HNOWM.out y]
              constructor
              · rintro (⟨u, a1, a2, a3⟩ | a3)
                · exact ⟨u, a1, by omega, a3⟩
                · exact ⟨t, hmt, by omega, a3⟩
              · rintro ⟨u, a1, a2, a3⟩
                by_cases e : u = t
                · subst e; exact .inr a3
                · exact .inl ⟨u, a1, by omega, a3⟩)
            have HOB2 : Hid (∀ y ∈ N, y ≤ xs.length) := Lib.hid (fun y hy => by obtain ⟨u, _, _, h⟩ := (HOM2.out y).1 hy; exact HLE0.out u y h)
            obtain ⟨OUT3, hO3⟩ : ∃ OUT3, OUT3 = N := ⟨_, rfl⟩
            obtain ⟨ov3, hv3⟩ : ∃ ov3, ov3 = v := ⟨_, rfl⟩
            have HOV2 := HN; have HND3 := HNd
            rw [← hO3] at HOM2 HOB2 HND3 HOV2
            rw [← hv3] at HOV2
            obtain ⟨W2, hW2⟩ : ∃ W2 : World, W2 = wr := ⟨_, rfl⟩
            rw [← hW2] at HA2 HBW1 HNOW HKC HOV2 ⊢
            rw [← hv3]
            clear hO3 hv3 hW2 hoS n0 n5
            go_wp2_with fail
            go_loopw [18, 19] (fun t i wr => ∃ (q : Nat) (v : Value), i = .int .i64 q ∧ v = t ∧ q ≤ NOW.length ∧ Below W2.heap.size W2 wr ∧ ∃ N, OwnL wr W2.heap.size v N ∧ N.Nodup ∧ ∀ y, y ∈ N ↔ ∃ x, x ∈ NOW.take q ∧ Mt (byt xs) xs.length pk x y) (fun _ i _ => NOW.length - (intOf i).toNat)
            case atStart => exact ⟨0, _, rfl, rfl, Nat.zero_le _, Below.refl _ _, [], OwnL.nil _ _, by simp, fun y => by simp⟩
            case round =>
              obtain ⟨qn, vn, rfl, hv, hqn, hbn, NN, hN, hNd, hNm⟩ := hrel
              subst hv
              have HBN := Lib.hid hbn; have HNN := Lib.hid hN; have HNNd := Lib.hid hNd; have HNNm := Lib.hid hNm
              clear hbn hN hNd hNm
              by_cases hqlt : qn < NOW.length
              · obtain ⟨ng, heq9, hnc, hncell⟩ := OwnL.cell HNOW.out qn hqlt
                have hxb : NOW[qn] ≤ xs.length := HNOWB.out _ (List.getElem_mem hqlt)
                have HQLT := Lib.hid hqlt
                generalize hxq : NOW[qn] = xq at hncell hxb
                have HXQ := Lib.hid hxq; have HNC := Lib.hid hncell; have HXB := Lib.hid hxb
                have HNG : Hid (ng < W2.heap.size) := Lib.hid (World.block_lt_of_cell? _ _ hncell)
                clear hxq hncell
                subst heq9
                go_upto_region 39 with (fail)
                obtain ⟨wn0, hwn0⟩ : ∃ wn0 : World, wn0 = wr := ⟨_, rfl⟩
                refine Rg.wp_region_each (by kernel_rfl) (fun w' => Below W2.heap.size W2 w' ∧ OwnL w' W2.heap.size vn NN ∧ wn0.heap.size ≤ w'.heap.size) (fun w1 w2 h hb => ⟨h.1.trans (hb.mono h.1.size), h.2.1.below hb, Nat.le_trans h.2.2 hb.size⟩) (by kernel_rfl) (by kernel_rfl) (⟨HBN.out, HNN.out, by rw [hwn0]; exact Nat.le_refl _⟩) ?_
                show Rg.Build _ _ _ _ _ 0 [_, _, _, _, _, _, _, _] []
                refine Rg.build_cons (m := 1) (r := Rg.eq _) (Rg.one_plain (by rfl) (by (intro ax wx hk Kx hK; have k16 := hk.base 16 _ rfl rfl; have hj := hk.j; clear hk; have HT : AtG wx wr0.heap.size 29 (nodeC op' f' mn' mx' (.slice ka kn kc)) := AtG.keepB HKC.out hj.1; have q0 : wx.cell? ⟨wr0.heap.size, 0, none⟩ = some (.int .i64 op') := HT.cell 0 _ rfl; have q1 : wx.cell? ⟨wr0.heap.size, 1, none⟩ = some (.int .u64 ((wd f' 0 : Nat) : Int)) := HT.cell 1 _ rfl; have q2 : wx.cell? ⟨wr0.heap.size, 2, none⟩ = some (.int .u64 ((wd f' 1 : Nat) : Int)) := HT.cell 2 _ rfl; have q3 : wx.cell? ⟨wr0.heap.size, 3, none⟩ = some (.int .u64 ((wd f' 2 : Nat) : Int)) := HT.cell 3 _ rfl; have q4 : wx.cell? ⟨wr0.heap.size, 4, none⟩ = some (.int .u64 ((wd f' 3 : Nat) : Int)) := HT.cell 4 _ rfl; have q5 : wx.cell? ⟨wr0.heap.size, 5, none⟩ = some (.int .i64 mn') := HT.cell 5 _ rfl; have q6 : wx.cell? ⟨wr0.heap.size, 6, none⟩ = some (.int .i64 mx') := HT.cell 6 _ rfl; have q7 : wx.cell? ⟨wr0.heap.size, 7, none⟩ = some (.slice ka kn kc) := HT.cell 7 _ rfl; have nq : wx.cell? ⟨ng, qn, none⟩ = some (.int .i64 (xq : Int)) := (hj.1.cell (p := ⟨ng, qn, none⟩) HNG.out).trans HNC.out; go_simp; refine hK _ _ ?_ (Below.refl _ _); apply Rg.mk))) ?_ rfl
                refine Rg.build_cons (m := 2) (r := Rg.eq _) (Rg.one_plain (by rfl) (by (intro ax wx hk Kx hK; have k1 := hk.base 1 _ rfl rfl; have hj := hk.j; clear hk; have HT : AtG wx wr0.heap.size 29 (nodeC op' f' mn' mx' (.slice ka kn kc)) := AtG.keepB HKC.out hj.1; have q0 : wx.cell? ⟨wr0.heap.size, 0, none⟩ = some (.int .i64 op') := HT.cell 0 _ rfl; have q1 : wx.cell? ⟨wr0.heap.size, 1, none⟩ = some (.int .u64 ((wd f' 0 : Nat) : Int)) := HT.cell 1 _ rfl; have q2 : wx.cell? ⟨wr0.heap.size, 2, none⟩ = some (.int .u64 ((wd f' 1 : Nat) : Int)) := HT.cell 2 _ rfl; have q3 : wx.cell? ⟨wr0.heap.size, 3, none⟩ = some (.int .u64 ((wd f' 2 : Nat) : Int)) := HT.cell 3 _ rfl; have q4 : wx.cell? ⟨wr0.heap.size, 4, none⟩ = some (.int .u64 ((wd f' 3 : Nat) : Int)) := HT.cell 4 _ rfl; have q5 : wx.cell? ⟨wr0.heap.size, 5, none⟩ = some (.int .i64 mn') := HT.cell 5 _ rfl; have q6 : wx.cell? ⟨wr0.heap.size, 6, none⟩ = some (.int .i64 mx') := HT.cell 6 _ rfl; have q7 : wx.cell? ⟨wr0.heap.size, 7, none⟩ = some (.slice ka kn kc) := HT.cell 7 _ rfl; have nq : wx.cell? ⟨ng, qn, none⟩ = some (.int .i64 (xq : Int)) := (hj.1.cell (p := ⟨ng, qn, none⟩) HNG.out).trans HNC.out; go_simp; refine hK _ _ ?_ (Below.refl _ _); apply Rg.mk))) ?_ rfl
                refine Rg.build_cons (m := 3) (r := Rg.eq _) (Rg.one_plain (by rfl) (by (intro ax wx hk Kx hK; have k12 := hk.base 12 _ rfl rfl; have hj := hk.j; clear hk; have HT : AtG wx wr0.heap.size 29 (nodeC op' f' mn' mx' (.slice ka kn kc)) := AtG.keepB HKC.out hj.1; have q0 : wx.cell? ⟨wr0.heap.size, 0, none⟩ = some (.int .i64 op') := HT.cell 0 _ rfl; have q1 : wx.cell? ⟨wr0.heap.size, 1, none⟩ = some (.int .u64 ((wd f' 0 : Nat) : Int)) := HT.cell 1 _ rfl; have q2 : wx.cell? ⟨wr0.heap.size, 2, none⟩ = some (.int .u64 ((wd f' 1 : Nat) : Int)) := HT.cell 2 _ rfl; have q3 : wx.cell? ⟨wr0.heap.size, 3, none⟩ = some (.int .u64 ((wd f' 2 : Nat) : Int)) := HT.cell 3 _ rfl; have q4 : wx.cell? ⟨wr0.heap.size, 4, none⟩ = some (.int .u64 ((wd f' 3 : Nat) : Int)) := HT.cell 4 _ rfl; have q5 : wx.cell? ⟨wr0.heap.size, 5, none⟩ = some (.int .i64 mn') := HT.cell 5 _ rfl; have q6 : wx.cell? ⟨wr0.heap.size, 6, none⟩ = some (.int .i64 mx') := HT.cell 6 _ rfl; have q7 : wx.cell? ⟨wr0.heap.size, 7, none⟩ = some (.slice ka kn kc) := HT.cell 7 _ rfl; have nq : wx.cell? ⟨ng, qn, none⟩ = some (.int .i64 (xq : Int)) := (hj.1.cell (p := ⟨ng, qn, none⟩) HNG.out).trans HNC.out; go_simp; refine hK _ _ ?_ (Below.refl _ _); apply Rg.mk))) ?_ rfl
                refine Rg.build_cons (m := 4) (r := Rg.eq _) (Rg.one_plain (by rfl) (by (intro ax wx hk Kx hK; have k19 := hk.base 19 _ rfl rfl; have hj := hk.j; clear hk; have HT : AtG wx wr0.heap.size 29 (nodeC op' f' mn' mx' (.slice ka kn kc)) := AtG.keepB HKC.out hj.1; have q0 : wx.cell? ⟨wr0.heap.size, 0, none⟩ = some (.int .i64 op') := HT.cell 0 _ rfl; have q1 : wx.cell? ⟨wr0.heap.size, 1, none⟩ = some (.int .u64 ((wd f' 0 : Nat) : Int)) := HT.cell 1 _ rfl; have q2 : wx.cell? ⟨wr0.heap.size, 2, none⟩ = some (.int .u64 ((wd f' 1 : Nat) : Int)) := HT.cell 2 _ rfl; have q3 : wx.cell? ⟨wr0.heap.size, 3, none⟩ = some (.int .u64 ((wd f' 2 : Nat) : Int)) := HT.cell 3 _ rfl; have q4 : wx.cell? ⟨wr0.heap.size, 4, none⟩ = some (.int .u64 ((wd f' 3 : Nat) : Int)) := HT.cell 4 _ rfl; have q5 : wx.cell? ⟨wr0.heap.size, 5, none⟩ = some (.int .i64 mn') := HT.cell 5 _ rfl; have q6 : wx.cell? ⟨wr0.heap.size, 6, none⟩ = some (.int .i64 mx') := HT.cell 6 _ rfl; have q7 : wx.cell? ⟨wr0.heap.size, 7, none⟩ = some (.slice ka kn kc) := HT.cell 7 _ rfl; have nq : wx.cell? ⟨ng, qn, none⟩ = some (.int .i64 (xq : Int)) := (hj.1.cell (p := ⟨ng, qn, none⟩) HNG.out).trans HNC.out; go_simp; refine hK _ _ ?_ (Below.refl _ _); apply Rg.mk))) ?_ rfl
                refine Rg.build_cons (m := 5) (r := Rg.eq _) (Rg.one_plain (by rfl) (by (intro ax wx hk Kx hK; obtain ⟨v130, k130, h130⟩ := hk.dep 2 130 _ rfl rfl rfl; (first | (cases (h130 : v130 = _)) | (obtain ⟨rfl, h130⟩ := h130) | skip); obtain ⟨v131, k131, h131⟩ := hk.dep 3 131 _ rfl rfl rfl; (first | (cases (h131 : v131 = _)) | (obtain ⟨rfl, h131⟩ := h131) | skip); have hj := hk.j; clear hk; have HT : AtG wx wr0.heap.size 29 (nodeC op' f' mn' mx' (.slice ka kn kc)) := AtG.keepB HKC.out hj.1; have q0 : wx.cell? ⟨wr0.heap.size, 0, none⟩ = some (.int .i64 op') := HT.cell 0 _ rfl; have q1 : wx.cell? ⟨wr0.heap.size, 1, none⟩ = some (.int .u64 ((wd f' 0 : Nat) : Int)) := HT.cell 1 _ rfl; have q2 : wx.cell? ⟨wr0.heap.size, 2, none⟩ = some (.int .u64 ((wd f' 1 : Nat) : Int)) := HT.cell 2 _ rfl; have q3 : wx.cell? ⟨wr0.heap.size, 3, none⟩ = some (.int .u64 ((wd f' 2 : Nat) : Int)) := HT.cell 3 _ rfl; have q4 : wx.cell? ⟨wr0.heap.size, 4, none⟩ = some (.int .u64 ((wd f' 3 : Nat) : Int)) := HT.cell 4 _ rfl; have q5 : wx.cell? ⟨wr0.heap.size, 5, none⟩ = some (.int .i64 mn') := HT.cell 5 _ rfl; have q6 : wx.cell? ⟨wr0.heap.size, 6, none⟩ = some (.int .i64 mx') := HT.cell 6 _ rfl; have q7 : wx.cell? ⟨wr0.heap.size, 7, none⟩ = some (.slice ka kn kc) := HT.cell 7 _ rfl; have nq : wx.cell? ⟨ng, qn, none⟩ = some (.int .i64 (xq : Int)) := (hj.1.cell (p := ⟨ng, qn, none⟩) HNG.out).trans HNC.out; go_simp; refine hK _ _ ?_ (Below.refl _ _); apply Rg.mk))) ?_ rfl
                refine Rg.build_cons (m := 6) (r := Rg.eq _) (Rg.one_plain (by rfl) (by (intro ax wx hk Kx hK; obtain ⟨v132, k132, h132⟩ := hk.dep 4 132 _ rfl rfl rfl; (first | (cases (h132 : v132 = _)) | (obtain ⟨rfl, h132⟩ := h132) | skip); have hj := hk.j; clear hk; have HT : AtG wx wr0.heap.size 29 (nodeC op' f' mn' mx' (.slice ka kn kc)) := AtG.keepB HKC.out hj.1; have q0 : wx.cell? ⟨wr0.heap.size, 0, none⟩ = some (.int .i64 op') := HT.cell 0 _ rfl; have q1 : wx.cell? ⟨wr0.heap.size, 1, none⟩ = some (.int .u64 ((wd f' 0 : Nat) : Int)) := HT.cell 1 _ rfl; have q2 : wx.cell? ⟨wr0.heap.size, 2, none⟩ = some (.int .u64 ((wd f' 1 : Nat) : Int)) := HT.cell 2 _ rfl; have q3 : wx.cell? ⟨wr0.heap.size, 3, none⟩ = some (.int .u64 ((wd f' 2 : Nat) : Int)) := HT.cell 3 _ rfl; have q4 : wx.cell? ⟨wr0.heap.size, 4, none⟩ = some (.int .u64 ((wd f' 3 : Nat) : Int)) := HT.cell 4 _ rfl; have q5 : wx.cell? ⟨wr0.heap.size, 5, none⟩ = some (.int .i64 mn') := HT.cell 5 _ rfl; have q6 : wx.cell? ⟨wr0.heap.size, 6, none⟩ = some (.int .i64 mx') := HT.cell 6 _ rfl; have q7 : wx.cell? ⟨wr0.heap.size, 7, none⟩ = some (.slice ka kn kc) := HT.cell 7 _ rfl; have nq : wx.cell? ⟨ng, qn, none⟩ = some (.int .i64 (xq : Int)) := (hj.1.cell (p := ⟨ng, qn, none⟩) HNG.out).trans HNC.out; go_simp; refine hK _ _ ?_ (Below.refl _ _); apply Rg.mk))) ?_ rfl
                refine Rg.build_cons (m := 7) (r := (⟨fun u w' => ∃ L, OwnL w' wn0.heap.size u L ∧ L.Nodup ∧ ∀ i, i ∈ L ↔ Mt (byt xs) xs.length pk xq i, fun u w2 w3 h hb => by obtain ⟨L, h1, h2⟩ := h; exact ⟨L, h1.below hb, h2⟩⟩ : Rg.Rl)) (Rg.one_plain (by rfl) (by (intro ax wx hk Kx hK; obtain ⟨v128, k128, h128⟩ := hk.dep 0 128 _ rfl rfl rfl; (first | (cases (h128 : v128 = _)) | (obtain ⟨rfl, h128⟩ := h128) | skip); obtain ⟨v129, k129, h129⟩ := hk.dep 1 129 _ rfl rfl rfl; (first | (cases (h129 : v129 = _)) | (obtain ⟨rfl, h129⟩ := h129) | skip); obtain ⟨v133, k133, h133⟩ := hk.dep 5 133 _ rfl rfl rfl; (first | (cases (h133 : v133 = _)) | (obtain ⟨rfl, h133⟩ := h133) | skip); have hj := hk.j; clear hk; have HT : AtG wx wr0.heap.size 29 (nodeC op' f' mn' mx' (.slice ka kn kc)) := AtG.keepB HKC.out hj.1; have q0 : wx.cell? ⟨wr0.heap.size, 0, none⟩ = some (.int .i64 op') := HT.cell 0 _ rfl; have q1 : wx.cell? ⟨wr0.heap.size, 1, none⟩ = some (.int .u64 ((wd f' 0 : Nat) : Int)) := HT.cell 1 _ rfl; have q2 : wx.cell? ⟨wr0.heap.size, 2, none⟩ = some (.int .u64 ((wd f' 1 : Nat) : Int)) := HT.cell 2 _ rfl; have q3 : wx.cell? ⟨wr0.heap.size, 3, none⟩ = some (.int .u64 ((wd f' 2 : Nat) : Int)) := HT.cell 3 _ rfl; have q4 : wx.cell? ⟨wr0.heap.size, 4, none⟩ = some (.int .u64 ((wd f' 3 : Nat) : Int)) := HT.cell 4 _ rfl; have q5 : wx.cell? ⟨wr0.heap.size, 5, none⟩ = some (.int .i64 mn') := HT.cell 5 _ rfl; have q6 : wx.cell? ⟨wr0.heap.size, 6, none⟩ = some (.int .i64 mx') := HT.cell 6 _ rfl; have q7 : wx.cell? ⟨wr0.heap.size, 7, none⟩ = some (.slice ka kn kc) := HT.cell 7 _ rfl; have nq : wx.cell? ⟨ng, qn, none⟩ = some (.int .i64 (xq : Int)) := (hj.1.cell (p := ⟨ng, qn, none⟩) HNG.out).trans HNC.out; go_simp; refine (HI.out _ xq (NAt.below HKN.out (HBW1.out.trans (hj.1.mono HBW1.out.size))) (rdB_below HX.out (HBW1.out.trans (hj.1.mono HBW1.out.size))) HXB.out).mono ?_; rintro e w' ⟨hb, u, rfl, L, h1, h2, h3⟩; exact hK _ _ ⟨L, own_lower h1 hj.2.2, h2, h3⟩ hb))) ?_ rfl
                refine Rg.build_cons (m := 8) (r := (⟨fun u w' => ∃ L, OwnL w' wn0.heap.size u L ∧ L.Nodup ∧ ∀ i, i ∈ L ↔ Mt (byt xs) xs.length pk xq i, fun u w2 w3 h hb => by obtain ⟨L, h1, h2⟩ := h; exact ⟨L, h1.below hb, h2⟩⟩ : Rg.Rl)) (Rg.one_plain (by rfl) (by (intro ax wx hk Kx hK; obtain ⟨v134, k134, h134⟩ := hk.dep 6 134 _ rfl rfl rfl; (first | (cases (h134 : v134 = _)) | (obtain ⟨rfl, h134⟩ := h134) | skip); have hj := hk.j; clear hk; have HT : AtG wx wr0.heap.size 29 (nodeC op' f' mn' mx' (.slice ka kn kc)) := AtG.keepB HKC.out hj.1; have q0 : wx.cell? ⟨wr0.heap.size, 0, none⟩ = some (.int .i64 op') := HT.cell 0 _ rfl; have q1 : wx.cell? ⟨wr0.heap.size, 1, none⟩ = some (.int .u64 ((wd f' 0 : Nat) : Int)) := HT.cell 1 _ rfl; have q2 : wx.cell? ⟨wr0.heap.size, 2, none⟩ = some (.int .u64 ((wd f' 1 : Nat) : Int)) := HT.cell 2 _ rfl; have q3 : wx.cell? ⟨wr0.heap.size, 3, none⟩ = some (.int .u64 ((wd f' 2 : Nat) : Int)) := HT.cell 3 _ rfl; have q4 : wx.cell? ⟨wr0.heap.size, 4, none⟩ = some (.int .u64 ((wd f' 3 : Nat) : Int)) := HT.cell 4 _ rfl; have q5 : wx.cell? ⟨wr0.heap.size, 5, none⟩ = some (.int .i64 mn') := HT.cell 5 _ rfl; have q6 : wx.cell? ⟨wr0.heap.size, 6, none⟩ = some (.int .i64 mx') := HT.cell 6 _ rfl; have q7 : wx.cell? ⟨wr0.heap.size, 7, none⟩ = some (.slice ka kn kc) := HT.cell 7 _ rfl; have nq : wx.cell? ⟨ng, qn, none⟩ = some (.int .i64 (xq : Int)) := (hj.1.cell (p := ⟨ng, qn, none⟩) HNG.out).trans HNC.out; (go_simp; exact hK _ _ h134 (Below.refl _ _))))) ?_ rfl
                refine Rg.build_end fun wx hj => ?_
                refine Rg.fin_eq rfl ?_
                refine Rg.fin_eq rfl ?_
                refine Rg.fin_eq rfl ?_
                refine Rg.fin_eq rfl ?_
                refine Rg.fin_eq rfl ?_
                refine Rg.fin_eq rfl ?_
                first | refine Rg.fin_eq rfl ?_ | refine Rg.fin_any rfl fun v134 h134 => ?_
                first | refine Rg.fin_eq rfl ?_ | refine Rg.fin_any rfl fun v20 h20 => ?_
                refine Rg.fin_nil ?_
                simp only [List.set_cons_zero, List.set_cons_succ]
                obtain ⟨LL, hlv, hlnd, hlm⟩ := h20
                obtain ⟨lva, lvc, rfl, _⟩ := OwnL.at hlv
                have HOV := Lib.hid hj.2.1
                have HBX := Lib.hid hj.1
                have HLV := Lib.hid hlv; have HLM := Lib.hid hlm; have HND := HNNd; have HLND := Lib.hid hlnd
                have HBW : Hid (W2.heap.size ≤ wx.heap.size) := Lib.hid hj.1.size
                have HLB : Hid (∀ y ∈ LL, y ≤ xs.length) := Lib.hid (fun y hy => mt_le (byt xs) xs.length pk xq y HXB.out ((hlm y).1 hy))
                have HOB : Hid (∀ y ∈ NN, y ≤ xs.length) := Lib.hid (fun y hy => by
                  obtain ⟨x, hx1, hx2⟩ := (HNNm.out y).1 hy
                  exact mt_le (byt xs) xs.length pk x y (HNOWB.out x (List.mem_of_mem_take hx1)) hx2)
                have HNB : Hid (∀ r, (Value.slice lva LL.length lvc).ownBlock = some r → ¬ vn.ownBlock = some r) := Lib.hid (fun r h1 h2 => by
                  have := own_lt HNN.out r h2; have := own_base hlv r h1; rw [hwn0] at this; omega)
                have hllI : (LL.length : Int) ≤ 1001 := by
                  have := nodup_len (m := xs.length + 1) hlnd (fun y hy => by have := HLB.out y hy; omega)
                  omega
                have HVB : Hid (∀ r, vn.ownBlock = some r → W2.heap.size ≤ r) := Lib.hid (fun r hr => own_base HNN.out r hr)
                clear hlv hlnd hlm hj hwn0
                go_wp2_with fail
                go_loopw [18, 21] (fun t i wr => ∃ (q : Nat) (v : Value), i = .int .i64 q ∧ v = t ∧ Added wx (W2.heap.size) (vn) (NN) (LL) q wr v) (fun _ i _ => (LL).length - (intOf i).toNat)
                case atStart => exact ⟨0, _, rfl, rfl, Added.start HOV.out HND.out⟩
                case round =>
                  obtain ⟨q, v, rfl, hv, hadd⟩ := hrel
                  subst hv
                  obtain ⟨N, hN, hNd, hNm⟩ := hadd.ex
                  have HADD := Lib.hid hadd; have HN := Lib.hid hN; have HNd := Lib.hid hNd; have HNm := Lib.hid hNm
                  clear hadd hN hNd hNm
                  by_cases hlq : q < (LL).length
                  · obtain ⟨lg, rfl, hlc, hcell⟩ := OwnL.cell (HLV.out.only HADD.out.only HNB.out) q hlq
                    have hxb : (LL)[q] ≤ xs.length := HLB.out _ (List.getElem_mem hlq)
                    have HAD := Lib.hid (add_any wr (W2.heap.size) v N (LL)[q] HN.out (Nat.le_trans HBW.out HADD.out.only.size) (by
                      have := nodup_len (m := xs.length + 1) HNd.out (fun y hy => by
                        rcases (HNm.out y).1 hy with h | h
                        · have := HOB.out y h; omega
                        · have := HLB.out y (List.mem_of_mem_take h); omega)
                      omega) (by omega))
                    have HLQ := Lib.hid hlq
                    generalize hxq : (LL)[q] = xq at hcell HAD hxb
                    have HXQ := Lib.hid hxq
                    clear hxq
                    go_wp2_with fail
                    refine (HAD.out).mono ?_
                    rintro e9 wa ⟨v', rfl, h1, h2, h3⟩
                    have HST := Lib.hid (Added.step HADD.out HLQ.out HNm.out HNd.out (by have e := HXQ.out; subst e; exact h1) h2 h3)
                    clear h1 h2 h3
                    go_wp2_with fail
                    exact ⟨⟨q + 1, v', by go_num, rfl, HST.out⟩, by simp [intOf]; omega⟩
                  · have hq0 : q = (LL).length := by have := HADD.out.le; omega
                    subst hq0
                    have HNm2 : Hid (∀ y, y ∈ N ↔ y ∈ (NN) ∨ y ∈ (LL)) := Lib.hid (fun y => by rw [HNm.out y, List.take_length])
                    have HBY := Lib.hid (below_only HBX.out HADD.out.only HBW.out (fun r hr => HVB.out r hr))
                    go_wp2_with fail
                    exact ⟨⟨qn + 1, v, by go_num, rfl, HQLT.out, HBY.out, N, HN.out, HNd.out, fun y => by
                      have htake : NOW.take (qn + 1) = NOW.take qn ++ [xq] := (List.take_succ_eq_append_getElem HQLT.out).trans (congrArg (fun z => NOW.take qn ++ [z]) HXQ.out)
                      rw [HNm2.out y, HNNm.out y, HLM.out y, htake]
                      constructor
                      · rintro (⟨x, h1, h2⟩ | h2)
                        · exact ⟨x, List.mem_append_left _ h1, h2⟩
                        · exact ⟨xq, List.mem_append_right _ (by simp), h2⟩
                      · rintro ⟨x, h1, h2⟩
                        rcases List.mem_append.1 h1 with h1 | h1
                        · exact .inl ⟨x, h1, h2⟩
                        · rw [List.mem_singleton] at h1; subst h1; exact .inr h2⟩, by simp [intOf]; have := HQLT.out; omega⟩
              · have hq9 : qn = NOW.length := by omega
                subst hq9
                have HNX : Hid (∀ y, y ∈ NN ↔ ∃ x, x ∈ NOW ∧ Mt (byt xs) xs.length pk x y) := Lib.hid (fun y => by rw [HNNm.out y, List.take_length])
                obtain ⟨vna, vnc, rfl, _⟩ := OwnL.at HNN.out
                have HA3 := Lib.hid (AtG.keepB HA2.out HBN.out); have HB3 := Lib.hid (HBW1.out.trans (HBN.out.mono HBW1.out.size)); have HOV3 := Lib.hid (HOV2.out.below HBN.out); have HNOW3 := Lib.hid (HNOW.out.below HBN.out)
                have HNX3 : Hid (OwnL wr (w.heap.size + 1) (.slice vna NN.length vnc) NN) := Lib.hid (own_lower HNN.out (by have := HA2.out.lt; omega))
                have HNXM : Hid (∀ y, y ∈ NN ↔ imgN R (fun j => j = fr) (t + 1) y) := Lib.hid (fun y => by
                  rw [HNX.out y]
                  constructor
                  · rintro ⟨x, h1, h2⟩
                    exact ⟨x, (HNOWM.out x).1 h1, by rw [HR.out]; exact h2⟩
                  · rintro ⟨x, h1, h2⟩
                    exact ⟨x, (HNOWM.out x).2 h1, by rw [← HR.out]; exact h2⟩)
                have HNXB : Hid (∀ y ∈ NN, y ≤ xs.length) := Lib.hid (fun y hy => HLE0.out (t + 1) y ((HNXM.out y).1 hy))
                have HNB3 : Hid (∀ r, (Value.slice vna NN.length vnc).ownBlock = some r → ¬ ov3.ownBlock = some r) := Lib.hid (fun r h1 h2 => by
                  have := own_lt HOV2.out r h2; have := own_base HNN.out r h1; omega)
                have HOM3 := HOM2; have HOB3 := HOB2
                have hnnI : (NN.length : Int) ≤ 1001 := by
                  have := nodup_len (m := xs.length + 1) HNNd.out (fun y hy => by have := HNXB.out y hy; omega)
                  omega
                obtain ⟨W3, hW3⟩ : ∃ W3 : World, W3 = wr := ⟨_, rfl⟩
                rw [← hW3] at HA3 HB3 HOV3 HNOW3 HNX3 ⊢
                clear hW3
                by_cases hlen : NOW.length = NN.length
                · have hlenI : (NOW.length : Int) = (NN.length : Int) := by omega
                  go_wp2_with fail
                  go_loopw [22, 23] (fun t i wr => ∃ (q : Nat) (bb : Bool), i = .int .i64 q ∧ t = .bool bb ∧ q ≤ NOW.length ∧ Below W3.heap.size W3 wr ∧ (bb = true → NOW.length = NN.length ∧ ∀ j (hj : j < NOW.length) (hj' : j < NN.length), j < q → NOW[j] = NN[j])) (fun _ i _ => NOW.length - (intOf i).toNat)
                  case atStart => exact ⟨0, _, rfl, rfl, Nat.zero_le _, Below.refl _ _, (fun _ => ⟨hlen, fun j _ _ h => absurd h (Nat.not_lt_zero _)⟩)⟩
                  case round =>
                    obtain ⟨q, bb, rfl, rfl, hql, hbc, hbb⟩ := hrel
                    have HBC := Lib.hid hbc; have HBB := Lib.hid hbb
                    clear hbc hbb
                    cases bb with
                    | true =>
                      by_cases hqc : q < NOW.length
                      · obtain ⟨hle, hall⟩ := HBB.out rfl
                        have hqc2 : q < NN.length := by omega
                        obtain ⟨g1, hg1, hcp1, hcl1⟩ := OwnL.cell (HNOW3.out.below HBC.out) q hqc
                        obtain ⟨g2, hg2, hcp2, hcl2⟩ := OwnL.cell (HNX3.out.below HBC.out) q hqc2
                        have hq3 : NOW[q] ≤ xs.length := HNOWB.out _ (List.getElem_mem hqc)
                        have hq4 : NN[q] ≤ xs.length := HNXB.out _ (List.getElem_mem hqc2)
                        have HQC := Lib.hid hqc; have HQC2 := Lib.hid hqc2; have HLE := Lib.hid hle; have HALL := Lib.hid hall
                        generalize hx1 : NOW[q] = x1 at hcl1 hq3
                        generalize hx2 : NN[q] = x2 at hcl2 hq4
                        have HX1 := Lib.hid hx1; have HX2 := Lib.hid hx2; have HL1 := Lib.hid hcl1; have HL2 := Lib.hid hcl2
                        have hcpI : (NOW.length : Int) ≤ 1001 := hnowI
                        have hleI : (NN.length : Int) = (NOW.length : Int) := by omega
                        clear hx1 hx2 hcl1 hcl2 hle hall
                        subst hg1; subst hg2
                        go_upto_region 48 with (fail)
                        obtain ⟨wc0, hwc0⟩ : ∃ wc0 : World, wc0 = wr := ⟨_, rfl⟩
                        refine Rg.wp_region_each (by kernel_rfl) (fun w' => Below wc0.heap.size wc0 w') (fun w1 w2 h hb => h.trans (hb.mono h.size)) (by kernel_rfl) (by kernel_rfl) (by rw [hwc0]; exact Below.refl _ _) ?_
                        show Rg.Build _ _ _ _ _ 0 [_, _, _, _, _, _, _, _, _, _] []
                        refine Rg.build_cons (m := 1) (r := Rg.eq _) (Rg.one_plain (by rfl) (by (intro ax wx hk Kx hK; have k12 := hk.base 12 _ rfl rfl; have hj := hk.j; clear hk; have z1 : wx.cell? ⟨g1, q, none⟩ = some (.int .i64 (x1 : Int)) := (hj.cell (p := ⟨g1, q, none⟩) (by rw [hwc0]; exact World.block_lt_of_cell? _ _ HL1.out)).trans (by rw [hwc0]; exact HL1.out); have z2 : wx.cell? ⟨g2, q, none⟩ = some (.int .i64 (x2 : Int)) := (hj.cell (p := ⟨g2, q, none⟩) (by rw [hwc0]; exact World.block_lt_of_cell? _ _ HL2.out)).trans (by rw [hwc0]; exact HL2.out); go_simp; refine hK _ _ ?_ (Below.refl _ _); apply Rg.mk))) ?_ rfl
                        refine Rg.build_cons (m := 2) (r := Rg.eq _) (Rg.one_plain (by rfl) (by (intro ax wx hk Kx hK; have k23 := hk.base 23 _ rfl rfl; have hj := hk.j; clear hk; have z1 : wx.cell? ⟨g1, q, none⟩ = some (.int .i64 (x1 : Int)) := (hj.cell (p := ⟨g1, q, none⟩) (by rw [hwc0]; exact World.block_lt_of_cell? _ _ HL1.out)).trans (by rw [hwc0]; exact HL1.out); have z2 : wx.cell? ⟨g2, q, none⟩ = some (.int .i64 (x2 : Int)) := (hj.cell (p := ⟨g2, q, none⟩) (by rw [hwc0]; exact World.block_lt_of_cell? _ _ HL2.out)).trans (by rw [hwc0]; exact HL2.out); go_simp; refine hK _ _ ?_ (Below.refl _ _); apply Rg.mk))) ?_ rfl
                        refine Rg.build_cons (m := 3) (r := Rg.eq _) (Rg.one_plain (by rfl) (by (intro ax wx hk Kx hK; obtain ⟨v161, k161, h161⟩ := hk.dep 0 161 _ rfl rfl rfl; (first | (cases (h161 : v161 = _)) | (obtain ⟨rfl, h161⟩ := h161) | skip); obtain ⟨v162, k162, h162⟩ := hk.dep 1 162 _ rfl rfl rfl; (first | (cases (h162 : v162 = _)) | (obtain ⟨rfl, h162⟩ := h162) | skip); have hj := hk.j; clear hk; have z1 : wx.cell? ⟨g1, q, none⟩ = some (.int .i64 (x1 : Int)) := (hj.cell (p := ⟨g1, q, none⟩) (by rw [hwc0]; exact World.block_lt_of_cell? _ _ HL1.out)).trans (by rw [hwc0]; exact HL1.out); have z2 : wx.cell? ⟨g2, q, none⟩ = some (.int .i64 (x2 : Int)) := (hj.cell (p := ⟨g2, q, none⟩) (by rw [hwc0]; exact World.block_lt_of_cell? _ _ HL2.out)).trans (by rw [hwc0]; exact HL2.out); go_simp; refine hK _ _ ?_ (Below.refl _ _); apply Rg.mk))) ?_ rfl
                        refine Rg.build_cons (m := 4) (r := Rg.eq _) (Rg.one_plain (by rfl) (by (intro ax wx hk Kx hK; obtain ⟨v163, k163, h163⟩ := hk.dep 2 163 _ rfl rfl rfl; (first | (cases (h163 : v163 = _)) | (obtain ⟨rfl, h163⟩ := h163) | skip); have hj := hk.j; clear hk; have z1 : wx.cell? ⟨g1, q, none⟩ = some (.int .i64 (x1 : Int)) := (hj.cell (p := ⟨g1, q, none⟩) (by rw [hwc0]; exact World.block_lt_of_cell? _ _ HL1.out)).trans (by rw [hwc0]; exact HL1.out); have z2 : wx.cell? ⟨g2, q, none⟩ = some (.int .i64 (x2 : Int)) := (hj.cell (p := ⟨g2, q, none⟩) (by rw [hwc0]; exact World.block_lt_of_cell? _ _ HL2.out)).trans (by rw [hwc0]; exact HL2.out); go_simp; refine hK _ _ ?_ (Below.refl _ _); apply Rg.mk))) ?_ rfl
                        refine Rg.build_cons (m := 5) (r := Rg.eq _) (Rg.one_plain (by rfl) (by (intro ax wx hk Kx hK; have k18 := hk.base 18 _ rfl rfl; have hj := hk.j; clear hk; have z1 : wx.cell? ⟨g1, q, none⟩ = some (.int .i64 (x1 : Int)) := (hj.cell (p := ⟨g1, q, none⟩) (by rw [hwc0]; exact World.block_lt_of_cell? _ _ HL1.out)).trans (by rw [hwc0]; exact HL1.out); have z2 : wx.cell? ⟨g2, q, none⟩ = some (.int .i64 (x2 : Int)) := (hj.cell (p := ⟨g2, q, none⟩) (by rw [hwc0]; exact World.block_lt_of_cell? _ _ HL2.out)).trans (by rw [hwc0]; exact HL2.out); go_simp; refine hK _ _ ?_ (Below.refl _ _); apply Rg.mk))) ?_ rfl
                        refine Rg.build_cons (m := 6) (r := Rg.eq _) (Rg.one_plain (by rfl) (by (intro ax wx hk Kx hK; have k23 := hk.base 23 _ rfl rfl; have hj := hk.j; clear hk; have z1 : wx.cell? ⟨g1, q, none⟩ = some (.int .i64 (x1 : Int)) := (hj.cell (p := ⟨g1, q, none⟩) (by rw [hwc0]; exact World.block_lt_of_cell? _ _ HL1.out)).trans (by rw [hwc0]; exact HL1.out); have z2 : wx.cell? ⟨g2, q, none⟩ = some (.int .i64 (x2 : Int)) := (hj.cell (p := ⟨g2, q, none⟩) (by rw [hwc0]; exact World.block_lt_of_cell? _ _ HL2.out)).trans (by rw [hwc0]; exact HL2.out); go_simp; refine hK _ _ ?_ (Below.refl _ _); apply Rg.mk))) ?_ rfl
                        refine Rg.build_cons (m := 7) (r := Rg.eq _) (Rg.one_plain (by rfl) (by (intro ax wx hk Kx hK; obtain ⟨v165, k165, h165⟩ := hk.dep 4 165 _ rfl rfl rfl; (first | (cases (h165 : v165 = _)) | (obtain ⟨rfl, h165⟩ := h165) | skip); obtain ⟨v166, k166, h166⟩ := hk.dep 5 166 _ rfl rfl rfl; (first | (cases (h166 : v166 = _)) | (obtain ⟨rfl, h166⟩ := h166) | skip); have hj := hk.j; clear hk; have z1 : wx.cell? ⟨g1, q, none⟩ = some (.int .i64 (x1 : Int)) := (hj.cell (p := ⟨g1, q, none⟩) (by rw [hwc0]; exact World.block_lt_of_cell? _ _ HL1.out)).trans (by rw [hwc0]; exact HL1.out); have z2 : wx.cell? ⟨g2, q, none⟩ = some (.int .i64 (x2 : Int)) := (hj.cell (p := ⟨g2, q, none⟩) (by rw [hwc0]; exact World.block_lt_of_cell? _ _ HL2.out)).trans (by rw [hwc0]; exact HL2.out); go_simp; refine hK _ _ ?_ (Below.refl _ _); apply Rg.mk))) ?_ rfl
                        refine Rg.build_cons (m := 8) (r := Rg.eq _) (Rg.one_plain (by rfl) (by (intro ax wx hk Kx hK; obtain ⟨v167, k167, h167⟩ := hk.dep 6 167 _ rfl rfl rfl; (first | (cases (h167 : v167 = _)) | (obtain ⟨rfl, h167⟩ := h167) | skip); have hj := hk.j; clear hk; have z1 : wx.cell? ⟨g1, q, none⟩ = some (.int .i64 (x1 : Int)) := (hj.cell (p := ⟨g1, q, none⟩) (by rw [hwc0]; exact World.block_lt_of_cell? _ _ HL1.out)).trans (by rw [hwc0]; exact HL1.out); have z2 : wx.cell? ⟨g2, q, none⟩ = some (.int .i64 (x2 : Int)) := (hj.cell (p := ⟨g2, q, none⟩) (by rw [hwc0]; exact World.block_lt_of_cell? _ _ HL2.out)).trans (by rw [hwc0]; exact HL2.out); go_simp; refine hK _ _ ?_ (Below.refl _ _); apply Rg.mk))) ?_ rfl
                        refine Rg.build_cons (m := 9) (r := Rg.eq _) (Rg.one_plain (by rfl) (by (intro ax wx hk Kx hK; obtain ⟨v164, k164, h164⟩ := hk.dep 3 164 _ rfl rfl rfl; (first | (cases (h164 : v164 = _)) | (obtain ⟨rfl, h164⟩ := h164) | skip); obtain ⟨v168, k168, h168⟩ := hk.dep 7 168 _ rfl rfl rfl; (first | (cases (h168 : v168 = _)) | (obtain ⟨rfl, h168⟩ := h168) | skip); have hj := hk.j; clear hk; have z1 : wx.cell? ⟨g1, q, none⟩ = some (.int .i64 (x1 : Int)) := (hj.cell (p := ⟨g1, q, none⟩) (by rw [hwc0]; exact World.block_lt_of_cell? _ _ HL1.out)).trans (by rw [hwc0]; exact HL1.out); have z2 : wx.cell? ⟨g2, q, none⟩ = some (.int .i64 (x2 : Int)) := (hj.cell (p := ⟨g2, q, none⟩) (by rw [hwc0]; exact World.block_lt_of_cell? _ _ HL2.out)).trans (by rw [hwc0]; exact HL2.out); go_simp; refine hK _ _ ?_ (Below.refl _ _); apply Rg.mk))) ?_ rfl
                        refine Rg.build_cons (m := 10) (r := Rg.eq _) (Rg.one_plain (by rfl) (by (intro ax wx hk Kx hK; obtain ⟨v169, k169, h169⟩ := hk.dep 8 169 _ rfl rfl rfl; (first | (cases (h169 : v169 = _)) | (obtain ⟨rfl, h169⟩ := h169) | skip); have hj := hk.j; clear hk; have z1 : wx.cell? ⟨g1, q, none⟩ = some (.int .i64 (x1 : Int)) := (hj.cell (p := ⟨g1, q, none⟩) (by rw [hwc0]; exact World.block_lt_of_cell? _ _ HL1.out)).trans (by rw [hwc0]; exact HL1.out); have z2 : wx.cell? ⟨g2, q, none⟩ = some (.int .i64 (x2 : Int)) := (hj.cell (p := ⟨g2, q, none⟩) (by rw [hwc0]; exact World.block_lt_of_cell? _ _ HL2.out)).trans (by rw [hwc0]; exact HL2.out); go_simp; refine hK _ _ ?_ (Below.refl _ _); apply Rg.mk))) ?_ rfl
                        refine Rg.build_end fun wx hj => ?_
                        refine Rg.fin_eq rfl ?_
                        refine Rg.fin_eq rfl ?_
                        refine Rg.fin_eq rfl ?_
                        refine Rg.fin_eq rfl ?_
                        refine Rg.fin_eq rfl ?_
                        refine Rg.fin_eq rfl ?_
                        refine Rg.fin_eq rfl ?_
                        refine Rg.fin_eq rfl ?_
                        refine Rg.fin_eq rfl ?_
                        refine Rg.fin_eq rfl ?_
                        refine Rg.fin_nil ?_
                        simp only [List.set_cons_zero, List.set_cons_succ]
                        have HJ := Lib.hid hj; have HWC := Lib.hid hwc0
                        clear hj hwc0
                        go_wp2_with fail
                        exact ⟨⟨q + 1, _, by go_num, rfl, HQC.out, HBC.out.trans (by have := HJ.out; rw [HWC.out] at this; exact this.mono HBC.out.size), fun hb => ⟨HLE.out.symm ▸ rfl, fun j hj hj' hjq => by
                          rcases Nat.lt_succ_iff_lt_or_eq.1 hjq with h1 | h1
                          · exact HALL.out j hj hj' h1
                          · subst h1
                            have e3 : x1 = x2 := by simp at hb; omega
                            exact HX1.out.trans (e3.trans HX2.out.symm)⟩⟩, by simp [intOf]; have := HQC.out; omega⟩
                      · have hqe : q = NOW.length := by omega
                        obtain ⟨hle, hall⟩ := HBB.out rfl
                        have HSAME : Hid (NOW = NN) := Lib.hid (List.ext_getElem hle fun j h1 h2 => hall j h1 h2 (by omega))
                        clear hle hall
                        subst hqe
                        have n0 : wr.cell? ⟨w.heap.size, 0, none⟩ = some (.int .i64 4) := (AtG.keepB HA3.out HBC.out).cell 0 _ rfl
                        have HOV := Lib.hid (HOV3.out.below HBC.out); have HLV := Lib.hid (HNX3.out.below HBC.out); have HND := HND3; have HNB := HNB3; have HLB := HNXB; have HOB := HOB3
                        have HBW : Hid (w.heap.size + 1 ≤ wr.heap.size) := Lib.hid (by have := HA3.out.lt; have := HBC.out.size; omega)
                        have HB4 := Lib.hid (HB3.out.trans (HBC.out.mono HB3.out.size))
                        have hllI : (NN.length : Int) ≤ 1001 := hnnI
                        obtain ⟨wf, hwf⟩ : ∃ wf : World, wf = wr := ⟨_, rfl⟩
                        rw [← hwf] at HOV HLV HBW HB4 n0 ⊢
                        clear hwf
                        go_wp2_with fail
                        go_loopw [13, 24] (fun t i wr => ∃ (q : Nat) (v : Value), i = .int .i64 q ∧ v = t ∧ Added wf (w.heap.size + 1) (ov3) (OUT3) (NN) q wr v) (fun _ i _ => (NN).length - (intOf i).toNat)
                        case atStart => exact ⟨0, _, rfl, rfl, Added.start HOV.out HND.out⟩
                        case round =>
                          obtain ⟨q, v, rfl, hv, hadd⟩ := hrel
                          subst hv
                          obtain ⟨N, hN, hNd, hNm⟩ := hadd.ex
                          have HADD := Lib.hid hadd; have HN := Lib.hid hN; have HNd := Lib.hid hNd; have HNm := Lib.hid hNm
                          clear hadd hN hNd hNm
                          by_cases hlq : q < (NN).length
                          · obtain ⟨lg, rfl, hlc, hcell⟩ := OwnL.cell (HLV.out.only HADD.out.only HNB.out) q hlq
                            have hxb : (NN)[q] ≤ xs.length := HLB.out _ (List.getElem_mem hlq)
                            have HAD := Lib.hid (add_any wr (w.heap.size + 1) v N (NN)[q] HN.out (Nat.le_trans HBW.out HADD.out.only.size) (by
                              have := nodup_len (m := xs.length + 1) HNd.out (fun y hy => by
                                rcases (HNm.out y).1 hy with h | h
                                · have := HOB.out y h; omega
                                · have := HLB.out y (List.mem_of_mem_take h); omega)
                              omega) (by omega))
                            have HLQ := Lib.hid hlq
                            generalize hxq : (NN)[q] = xq at hcell HAD hxb
                            have HXQ := Lib.hid hxq
                            clear hxq
                            go_wp2_with fail
                            refine (HAD.out).mono ?_
                            rintro e9 wa ⟨v', rfl, h1, h2, h3⟩
                            have HST := Lib.hid (Added.step HADD.out HLQ.out HNm.out HNd.out (by have e := HXQ.out; subst e; exact h1) h2 h3)
                            clear h1 h2 h3
                            go_wp2_with fail
                            exact ⟨⟨q + 1, v', by go_num, rfl, HST.out⟩, by simp [intOf]; omega⟩
                          · have hq0 : q = (NN).length := by have := HADD.out.le; omega
                            subst hq0
                            have HNm2 : Hid (∀ y, y ∈ N ↔ y ∈ (OUT3) ∨ y ∈ (NN)) := Lib.hid (fun y => by rw [HNm.out y, List.take_length])
                            have HB5 := Lib.hid (below_only HB4.out HADD.out.only (by have := HBW.out; omega) (fun r hr => by have := own_base HOV.out r hr; omega))
                            go_wp2_with fail
                            go_returns
                            refine ⟨HB5.out, v, rfl, N, own_lower HN.out (by omega), HNd.out, fun y => ?_⟩
                            rw [HNm2.out y, HOM3.out y, HNXM.out y]
                            have hst : ∀ i, img R (imgN R (fun j => j = fr) (t + 1)) i ↔ imgN R (fun j => j = fr) (t + 1) i := fun i => by
                              have hsame : ∀ i, imgN R (fun j => j = fr) t i ↔ imgN R (fun j => j = fr) (t + 1) i := fun i => by
                                rw [← HNOWM.out i, ← HNXM.out i, HSAME.out]
                              exact img_congr (fun i => (hsame i).symm) i
                            have hlt := HLT.out
                            exact (rep_stop hst (by omega) HMN.out y).symm.trans (HPOST.out y).symm
                    | false =>
                      clear HBB
                      by_cases hqc : q < NOW.length
                      · skip
                        have n0 : wr.cell? ⟨w.heap.size, 0, none⟩ = some (.int .i64 4) := (AtG.keepB HA3.out HBC.out).cell 0 _ rfl
                        have HA4 := Lib.hid (AtG.keepB HA3.out HBC.out); have HB4 := Lib.hid (HB3.out.trans (HBC.out.mono HB3.out.size)); have HOV4 := Lib.hid (HOV3.out.below HBC.out); have HNX4 := Lib.hid (HNX3.out.below HBC.out)
                        go_wp2_with fail
                        exact ⟨⟨t + 1, _, _, NN, OUT3, rfl, rfl, by go_num, HLT.out, HA4.out, HB4.out, HNX4.out, HNNd.out, HNXM.out, HOV4.out, HND3.out, HOM3.out, HNB3.out⟩, by simp [intOf]; have := HLT.out; omega⟩
                      · skip
                        have n0 : wr.cell? ⟨w.heap.size, 0, none⟩ = some (.int .i64 4) := (AtG.keepB HA3.out HBC.out).cell 0 _ rfl
                        have HA4 := Lib.hid (AtG.keepB HA3.out HBC.out); have HB4 := Lib.hid (HB3.out.trans (HBC.out.mono HB3.out.size)); have HOV4 := Lib.hid (HOV3.out.below HBC.out); have HNX4 := Lib.hid (HNX3.out.below HBC.out)
                        go_wp2_with fail
                        exact ⟨⟨t + 1, _, _, NN, OUT3, rfl, rfl, by go_num, HLT.out, HA4.out, HB4.out, HNX4.out, HNNd.out, HNXM.out, HOV4.out, HND3.out, HOM3.out, HNB3.out⟩, by simp [intOf]; have := HLT.out; omega⟩
                · have hlenI : ¬ (NOW.length : Int) = (NN.length : Int) := by omega
                  have elen : ((NOW.length : Int) == (NN.length : Int)) = false := by rw [beq_eq_false_iff_ne]; exact hlenI
                  go_wp2_with fail
                  go_loopw [22, 23] (fun t i wr => ∃ (q : Nat) (bb : Bool), i = .int .i64 q ∧ t = .bool bb ∧ q ≤ NOW.length ∧ Below W3.heap.size W3 wr ∧ (bb = true → NOW.length = NN.length ∧ ∀ j (hj : j < NOW.length) (hj' : j < NN.length), j < q → NOW[j] = NN[j])) (fun _ i _ => NOW.length - (intOf i).toNat)
                  case atStart => exact ⟨0, _, rfl, rfl, Nat.zero_le _, Below.refl _ _, (fun h => by simp at h; try exact absurd h hlen)⟩
                  case round =>
                    obtain ⟨q, bb, rfl, rfl, hql, hbc, hbb⟩ := hrel
                    have HBC := Lib.hid hbc; have HBB := Lib.hid hbb
                    clear hbc hbb
                    cases bb with
                    | true =>
                      by_cases hqc : q < NOW.length
                      · obtain ⟨hle, hall⟩ := HBB.out rfl
                        have hqc2 : q < NN.length := by omega
                        obtain ⟨g1, hg1, hcp1, hcl1⟩ := OwnL.cell (HNOW3.out.below HBC.out) q hqc
                        obtain ⟨g2, hg2, hcp2, hcl2⟩ := OwnL.cell (HNX3.out.below HBC.out) q hqc2
                        have hq3 : NOW[q] ≤ xs.length := HNOWB.out _ (List.getElem_mem hqc)
                        have hq4 : NN[q] ≤ xs.length := HNXB.out _ (List.getElem_mem hqc2)
                        have HQC := Lib.hid hqc; have HQC2 := Lib.hid hqc2; have HLE := Lib.hid hle; have HALL := Lib.hid hall
                        generalize hx1 : NOW[q] = x1 at hcl1 hq3
                        generalize hx2 : NN[q] = x2 at hcl2 hq4
                        have HX1 := Lib.hid hx1; have HX2 := Lib.hid hx2; have HL1 := Lib.hid hcl1; have HL2 := Lib.hid hcl2
                        have hcpI : (NOW.length : Int) ≤ 1001 := hnowI
                        have hleI : (NN.length : Int) = (NOW.length : Int) := by omega
                        clear hx1 hx2 hcl1 hcl2 hle hall
                        subst hg1; subst hg2
                        go_upto_region 48 with (fail)
                        obtain ⟨wc0, hwc0⟩ : ∃ wc0 : World, wc0 = wr := ⟨_, rfl⟩
                        refine Rg.wp_region_each (by kernel_rfl) (fun w' => Below wc0.heap.size wc0 w') (fun w1 w2 h hb => h.trans (hb.mono h.size)) (by kernel_rfl) (by kernel_rfl) (by rw [hwc0]; exact Below.refl _ _) ?_
                        show Rg.Build _ _ _ _ _ 0 [_, _, _, _, _, _, _, _, _, _] []
                        refine Rg.build_cons (m := 1) (r := Rg.eq _) (Rg.one_plain (by rfl) (by (intro ax wx hk Kx hK; have k12 := hk.base 12 _ rfl rfl; have hj := hk.j; clear hk; have z1 : wx.cell? ⟨g1, q, none⟩ = some (.int .i64 (x1 : Int)) := (hj.cell (p := ⟨g1, q, none⟩) (by rw [hwc0]; exact World.block_lt_of_cell? _ _ HL1.out)).trans (by rw [hwc0]; exact HL1.out); have z2 : wx.cell? ⟨g2, q, none⟩ = some (.int .i64 (x2 : Int)) := (hj.cell (p := ⟨g2, q, none⟩) (by rw [hwc0]; exact World.block_lt_of_cell? _ _ HL2.out)).trans (by rw [hwc0]; exact HL2.out); go_simp; refine hK _ _ ?_ (Below.refl _ _); apply Rg.mk))) ?_ rfl
                        refine Rg.build_cons (m := 2) (r := Rg.eq _) (Rg.one_plain (by rfl) (by (intro ax wx hk Kx hK; have k23 := hk.base 23 _ rfl rfl; have hj := hk.j; clear hk; have z1 : wx.cell? ⟨g1, q, none⟩ = some (.int .i64 (x1 : Int)) := (hj.cell (p := ⟨g1, q, none⟩) (by rw [hwc0]; exact World.block_lt_of_cell? _ _ HL1.out)).trans (by rw [hwc0]; exact HL1.out); have z2 : wx.cell? ⟨g2, q, none⟩ = some (.int .i64 (x2 : Int)) := (hj.cell (p := ⟨g2, q, none⟩) (by rw [hwc0]; exact World.block_lt_of_cell? _ _ HL2.out)).trans (by rw [hwc0]; exact HL2.out); go_simp; refine hK _ _ ?_ (Below.refl _ _); apply Rg.mk))) ?_ rfl
                        refine Rg.build_cons (m := 3) (r := Rg.eq _) (Rg.one_plain (by rfl) (by (intro ax wx hk Kx hK; obtain ⟨v161, k161, h161⟩ := hk.dep 0 161 _ rfl rfl rfl; (first | (cases (h161 : v161 = _)) | (obtain ⟨rfl, h161⟩ := h161) | skip); obtain ⟨v162, k162, h162⟩ := hk.dep 1 162 _ rfl rfl rfl; (first | (cases (h162 : v162 = _)) | (obtain ⟨rfl, h162⟩ := h162) | skip); have hj := hk.j; clear hk; have z1 : wx.cell? ⟨g1, q, none⟩ = some (.int .i64 (x1 : Int)) := (hj.cell (p := ⟨g1, q, none⟩) (by rw [hwc0]; exact World.block_lt_of_cell? _ _ HL1.out)).trans (by rw [hwc0]; exact HL1.out); have z2 : wx.cell? ⟨g2, q, none⟩ = some (.int .i64 (x2 : Int)) := (hj.cell (p := ⟨g2, q, none⟩) (by rw [hwc0]; exact World.block_lt_of_cell? _ _ HL2.out)).trans (by rw [hwc0]; exact HL2.out); go_simp; refine hK _ _ ?_ (Below.refl _ _); apply Rg.mk))) ?_ rfl
                        refine Rg.build_cons (m := 4) (r := Rg.eq _) (Rg.one_plain (by rfl) (by (intro ax wx hk Kx hK; obtain ⟨v163, k163, h163⟩ := hk.dep 2 163 _ rfl rfl rfl; (first | (cases (h163 : v163 = _)) | (obtain ⟨rfl, h163⟩ := h163) | skip); have hj := hk.j; clear hk; have z1 : wx.cell? ⟨g1, q, none⟩ = some (.int .i64 (x1 : Int)) := (hj.cell (p := ⟨g1, q, none⟩) (by rw [hwc0]; exact World.block_lt_of_cell? _ _ HL1.out)).trans (by rw [hwc0]; exact HL1.out); have z2 : wx.cell? ⟨g2, q, none⟩ = some (.int .i64 (x2 : Int)) := (hj.cell (p := ⟨g2, q, none⟩) (by rw [hwc0]; exact World.block_lt_of_cell? _ _ HL2.out)).trans (by rw [hwc0]; exact HL2.out); go_simp; refine hK _ _ ?_ (Below.refl _ _); apply Rg.mk))) ?_ rfl
                        refine Rg.build_cons (m := 5) (r := Rg.eq _) (Rg.one_plain (by rfl) (by (intro ax wx hk Kx hK; have k18 := hk.base 18 _ rfl rfl; have hj := hk.j; clear hk; have z1 : wx.cell? ⟨g1, q, none⟩ = some (.int .i64 (x1 : Int)) := (hj.cell (p := ⟨g1, q, none⟩) (by rw [hwc0]; exact World.block_lt_of_cell? _ _ HL1.out)).trans (by rw [hwc0]; exact HL1.out); have z2 : wx.cell? ⟨g2, q, none⟩ = some (.int .i64 (x2 : Int)) := (hj.cell (p := ⟨g2, q, none⟩) (by rw [hwc0]; exact World.block_lt_of_cell? _ _ HL2.out)).trans (by rw [hwc0]; exact HL2.out); go_simp; refine hK _ _ ?_ (Below.refl _ _); apply Rg.mk))) ?_ rfl
                        refine Rg.build_cons (m := 6) (r := Rg.eq _) (Rg.one_plain (by rfl) (by (intro ax wx hk Kx hK; have k23 := hk.base 23 _ rfl rfl; have hj := hk.j; clear hk; have z1 : wx.cell? ⟨g1, q, none⟩ = some (.int .i64 (x1 : Int)) := (hj.cell (p := ⟨g1, q, none⟩) (by rw [hwc0]; exact World.block_lt_of_cell? _ _ HL1.out)).trans (by rw [hwc0]; exact HL1.out); have z2 : wx.cell? ⟨g2, q, none⟩ = some (.int .i64 (x2 : Int)) := (hj.cell (p := ⟨g2, q, none⟩) (by rw [hwc0]; exact World.block_lt_of_cell? _ _ HL2.out)).trans (by rw [hwc0]; exact HL2.out); go_simp; refine hK _ _ ?_ (Below.refl _ _); apply Rg.mk))) ?_ rfl
                        refine Rg.build_cons (m := 7) (r := Rg.eq _) (Rg.one_plain (by rfl) (by (intro ax wx hk Kx hK; obtain ⟨v165, k165, h165⟩ := hk.dep 4 165 _ rfl rfl rfl; (first | (cases (h165 : v165 = _)) | (obtain ⟨rfl, h165⟩ := h165) | skip); obtain ⟨v166, k166, h166⟩ := hk.dep 5 166 _ rfl rfl rfl; (first | (cases (h166 : v166 = _)) | (obtain ⟨rfl, h166⟩ := h166) | skip); have hj := hk.j; clear hk; have z1 : wx.cell? ⟨g1, q, none⟩ = some (.int .i64 (x1 : Int)) := (hj.cell (p := ⟨g1, q, none⟩) (by rw [hwc0]; exact World.block_lt_of_cell? _ _ HL1.out)).trans (by rw [hwc0]; exact HL1.out); have z2 : wx.cell? ⟨g2, q, none⟩ = some (.int .i64 (x2 : Int)) := (hj.cell (p := ⟨g2, q, none⟩) (by rw [hwc0]; exact World.block_lt_of_cell? _ _ HL2.out)).trans (by rw [hwc0]; exact HL2.out); go_simp; refine hK _ _ ?_ (Below.refl _ _); apply Rg.mk))) ?_ rfl
                        refine Rg.build_cons (m := 8) (r := Rg.eq _) (Rg.one_plain (by rfl) (by (intro ax wx hk Kx hK; obtain ⟨v167, k167, h167⟩ := hk.dep 6 167 _ rfl rfl rfl; (first | (cases (h167 : v167 = _)) | (obtain ⟨rfl, h167⟩ := h167) | skip); have hj := hk.j; clear hk; have z1 : wx.cell? ⟨g1, q, none⟩ = some (.int .i64 (x1 : Int)) := (hj.cell (p := ⟨g1, q, none⟩) (by rw [hwc0]; exact World.block_lt_of_cell? _ _ HL1.out)).trans (by rw [hwc0]; exact HL1.out); have z2 : wx.cell? ⟨g2, q, none⟩ = some (.int .i64 (x2 : Int)) := (hj.cell (p := ⟨g2, q, none⟩) (by rw [hwc0]; exact World.block_lt_of_cell? _ _ HL2.out)).trans (by rw [hwc0]; exact HL2.out); go_simp; refine hK _ _ ?_ (Below.refl _ _); apply Rg.mk))) ?_ rfl
                        refine Rg.build_cons (m := 9) (r := Rg.eq _) (Rg.one_plain (by rfl) (by (intro ax wx hk Kx hK; obtain ⟨v164, k164, h164⟩ := hk.dep 3 164 _ rfl rfl rfl; (first | (cases (h164 : v164 = _)) | (obtain ⟨rfl, h164⟩ := h164) | skip); obtain ⟨v168, k168, h168⟩ := hk.dep 7 168 _ rfl rfl rfl; (first | (cases (h168 : v168 = _)) | (obtain ⟨rfl, h168⟩ := h168) | skip); have hj := hk.j; clear hk; have z1 : wx.cell? ⟨g1, q, none⟩ = some (.int .i64 (x1 : Int)) := (hj.cell (p := ⟨g1, q, none⟩) (by rw [hwc0]; exact World.block_lt_of_cell? _ _ HL1.out)).trans (by rw [hwc0]; exact HL1.out); have z2 : wx.cell? ⟨g2, q, none⟩ = some (.int .i64 (x2 : Int)) := (hj.cell (p := ⟨g2, q, none⟩) (by rw [hwc0]; exact World.block_lt_of_cell? _ _ HL2.out)).trans (by rw [hwc0]; exact HL2.out); go_simp; refine hK _ _ ?_ (Below.refl _ _); apply Rg.mk))) ?_ rfl
                        refine Rg.build_cons (m := 10) (r := Rg.eq _) (Rg.one_plain (by rfl) (by (intro ax wx hk Kx hK; obtain ⟨v169, k169, h169⟩ := hk.dep 8 169 _ rfl rfl rfl; (first | (cases (h169 : v169 = _)) | (obtain ⟨rfl, h169⟩ := h169) | skip); have hj := hk.j; clear hk; have z1 : wx.cell? ⟨g1, q, none⟩ = some (.int .i64 (x1 : Int)) := (hj.cell (p := ⟨g1, q, none⟩) (by rw [hwc0]; exact World.block_lt_of_cell? _ _ HL1.out)).trans (by rw [hwc0]; exact HL1.out); have z2 : wx.cell? ⟨g2, q, none⟩ = some (.int .i64 (x2 : Int)) := (hj.cell (p := ⟨g2, q, none⟩) (by rw [hwc0]; exact World.block_lt_of_cell? _ _ HL2.out)).trans (by rw [hwc0]; exact HL2.out); go_simp; refine hK _ _ ?_ (Below.refl _ _); apply Rg.mk))) ?_ rfl
                        refine Rg.build_end fun wx hj => ?_
                        refine Rg.fin_eq rfl ?_
                        refine Rg.fin_eq rfl ?_
                        refine Rg.fin_eq rfl ?_
                        refine Rg.fin_eq rfl ?_
                        refine Rg.fin_eq rfl ?_
                        refine Rg.fin_eq rfl ?_
                        refine Rg.fin_eq rfl ?_
                        refine Rg.fin_eq rfl ?_
                        refine Rg.fin_eq rfl ?_
                        refine Rg.fin_eq rfl ?_
                        refine Rg.fin_nil ?_
                        simp only [List.set_cons_zero, List.set_cons_succ]
                        have HJ := Lib.hid hj; have HWC := Lib.hid hwc0
                        clear hj hwc0
                        go_wp2_with fail
                        exact ⟨⟨q + 1, _, by go_num, rfl, HQC.out, HBC.out.trans (by have := HJ.out; rw [HWC.out] at this; exact this.mono HBC.out.size), fun hb => ⟨HLE.out.symm ▸ rfl, fun j hj hj' hjq => by
                          rcases Nat.lt_succ_iff_lt_or_eq.1 hjq with h1 | h1
                          · exact HALL.out j hj hj' h1
                          · subst h1
                            have e3 : x1 = x2 := by simp at hb; omega
                            exact HX1.out.trans (e3.trans HX2.out.symm)⟩⟩, by simp [intOf]; have := HQC.out; omega⟩
                      · have hqe : q = NOW.length := by omega
                        obtain ⟨hle, hall⟩ := HBB.out rfl
                        have HSAME : Hid (NOW = NN) := Lib.hid (List.ext_getElem hle fun j h1 h2 => hall j h1 h2 (by omega))
                        clear hle hall
                        subst hqe
                        have n0 : wr.cell? ⟨w.heap.size, 0, none⟩ = some (.int .i64 4) := (AtG.keepB HA3.out HBC.out).cell 0 _ rfl
                        have HOV := Lib.hid (HOV3.out.below HBC.out); have HLV := Lib.hid (HNX3.out.below HBC.out); have HND := HND3; have HNB := HNB3; have HLB := HNXB; have HOB := HOB3
                        have HBW : Hid (w.heap.size + 1 ≤ wr.heap.size) := Lib.hid (by have := HA3.out.lt; have := HBC.out.size; omega)
                        have HB4 := Lib.hid (HB3.out.trans (HBC.out.mono HB3.out.size))
                        have hllI : (NN.length : Int) ≤ 1001 := hnnI
                        obtain ⟨wf, hwf⟩ : ∃ wf : World, wf = wr := ⟨_, rfl⟩
                        rw [← hwf] at HOV HLV HBW HB4 n0 ⊢
                        clear hwf
                        go_wp2_with fail
                        go_loopw [13, 24] (fun t i wr => ∃ (q : Nat) (v : Value), i = .int .i64 q ∧ v = t ∧ Added wf (w.heap.size + 1) (ov3) (OUT3) (NN) q wr v) (fun _ i _ => (NN).length - (intOf i).toNat)
                        case atStart => exact ⟨0, _, rfl, rfl, Added.start HOV.out HND.out⟩
                        case round =>
                          obtain ⟨q, v, rfl, hv, hadd⟩ := hrel
                          subst hv
                          obtain ⟨N, hN, hNd, hNm⟩ := hadd.ex
                          have HADD := Lib.hid hadd; have HN := Lib.hid hN; have HNd := Lib.hid hNd; have HNm := Lib.hid hNm
                          clear hadd hN hNd hNm
                          by_cases hlq : q < (NN).length
                          · obtain ⟨lg, rfl, hlc, hcell⟩ := OwnL.cell (HLV.out.only HADD.out.only HNB.out) q hlq
                            have hxb : (NN)[q] ≤ xs.length := HLB.out _ (List.getElem_mem hlq)
                            have HAD := Lib.hid (add_any wr (w.heap.size + 1) v N (NN)[q] HN.out (Nat.le_trans HBW.out HADD.out.only.size) (by
                              have := nodup_len (m := xs.length + 1) HNd.out (fun y hy => by
                                rcases (HNm.out y).1 hy with h | h
                                · have := HOB.out y h; omega
                                · have := HLB.out y (List.mem_of_mem_take h); omega)
                              omega) (by omega))
                            have HLQ := Lib.hid hlq
                            generalize hxq : (NN)[q] = xq at hcell HAD hxb
                            have HXQ := Lib.hid hxq
                            clear hxq
                            go_wp2_with fail
                            refine (HAD.out).mono ?_
                            rintro e9 wa ⟨v', rfl, h1, h2, h3⟩
                            have HST := Lib.hid (Added.step HADD.out HLQ.out HNm.out HNd.out (by have e := HXQ.out; subst e; exact h1) h2 h3)
                            clear h1 h2 h3
                            go_wp2_with fail
                            exact ⟨⟨q + 1, v', by go_num, rfl, HST.out⟩, by simp [intOf]; omega⟩
                          · have hq0 : q = (NN).length := by have := HADD.out.le; omega
                            subst hq0
                            have HNm2 : Hid (∀ y, y ∈ N ↔ y ∈ (OUT3) ∨ y ∈ (NN)) := Lib.hid (fun y => by rw [HNm.out y, List.take_length])
                            have HB5 := Lib.hid (below_only HB4.out HADD.out.only (by have := HBW.out; omega) (fun r hr => by have := own_base HOV.out r hr; omega))
                            go_wp2_with fail
                            go_returns
                            refine ⟨HB5.out, v, rfl, N, own_lower HN.out (by omega), HNd.out, fun y => ?_⟩
                            rw [HNm2.out y, HOM3.out y, HNXM.out y]
                            have hst : ∀ i, img R (imgN R (fun j => j = fr) (t + 1)) i ↔ imgN R (fun j => j = fr) (t + 1) i := fun i => by
                              have hsame : ∀ i, imgN R (fun j => j = fr) t i ↔ imgN R (fun j => j = fr) (t + 1) i := fun i => by
                                rw [← HNOWM.out i, ← HNXM.out i, HSAME.out]
                              exact img_congr (fun i => (hsame i).symm) i
                            have hlt := HLT.out
                            exact (rep_stop hst (by omega) HMN.out y).symm.trans (HPOST.out y).symm
                    | false =>
                      clear HBB
                      by_cases hqc : q < NOW.length
                      · skip
                        have n0 : wr.cell? ⟨w.heap.size, 0, none⟩ = some (.int .i64 4) := (AtG.keepB HA3.out HBC.out).cell 0 _ rfl
                        have HA4 := Lib.hid (AtG.keepB HA3.out HBC.out); have HB4 := Lib.hid (HB3.out.trans (HBC.out.mono HB3.out.size)); have HOV4 := Lib.hid (HOV3.out.below HBC.out); have HNX4 := Lib.hid (HNX3.out.below HBC.out)
                        go_wp2_with fail
                        exact ⟨⟨t + 1, _, _, NN, OUT3, rfl, rfl, by go_num, HLT.out, HA4.out, HB4.out, HNX4.out, HNNd.out, HNXM.out, HOV4.out, HND3.out, HOM3.out, HNB3.out⟩, by simp [intOf]; have := HLT.out; omega⟩
                      · skip
                        have n0 : wr.cell? ⟨w.heap.size, 0, none⟩ = some (.int .i64 4) := (AtG.keepB HA3.out HBC.out).cell 0 _ rfl
                        have HA4 := Lib.hid (AtG.keepB HA3.out HBC.out); have HB4 := Lib.hid (HB3.out.trans (HBC.out.mono HB3.out.size)); have HOV4 := Lib.hid (HOV3.out.below HBC.out); have HNX4 := Lib.hid (HNX3.out.below HBC.out)
                        go_wp2_with fail
                        exact ⟨⟨t + 1, _, _, NN, OUT3, rfl, rfl, by go_num, HLT.out, HA4.out, HB4.out, HNX4.out, HNNd.out, HNXM.out, HOV4.out, HND3.out, HOM3.out, HNB3.out⟩, by simp [intOf]; have := HLT.out; omega⟩
      · have hmtI : ¬ (mn : Int) ≤ (t : Int) := by omega
        have HA2 := HA1; have HBW1 := HB1; have HNOW := HNOW1; have HKC := HKC1
        have HOM2 : Hid (∀ y, y ∈ OUT ↔ ∃ u, mn ≤ u ∧ u < t + 1 ∧ imgN R (fun j => j = fr) u y) := Lib.hid (fun y => by
          rw [HOM.out y]
          constructor
          · rintro ⟨u, a1, a2, a3⟩
            exact ⟨u, a1, by omega, a3⟩
          · rintro ⟨u, a1, a2, a3⟩
            exact absurd a1 (by omega))
        obtain ⟨OUT3, hO3⟩ : ∃ OUT3, OUT3 = OUT := ⟨_, rfl⟩
        obtain ⟨ov3, hv3⟩ : ∃ ov3, ov3 = ov := ⟨_, rfl⟩
        obtain ⟨W2, hW2⟩ : ∃ W2 : World, W2 = W1 := ⟨_, rfl⟩
        have HOV2 := HOUT1; have HND3 := HOND; have HOB2 := HOB0
        rw [← hO3] at HOM2 HOB2 HND3 HOV2
        rw [← hv3] at HOV2
        have HV3 := Lib.hid hv3; have HW2 := Lib.hid hW2
        clear hv3 hW2
        go_wp2_with fail
        have hv3 := HV3.out; have hW2 := HW2.out
        rw [← hW2] at HA2 HBW1 HNOW HKC HOV2 ⊢
        rw [← hv3]
        clear hO3 hv3 hW2 n0 n5
        go_wp2_with fail
        go_loopw [18, 19] (fun t i wr => ∃ (q : Nat) (v : Value), i = .int .i64 q ∧ v = t ∧ q ≤ NOW.length ∧ Below W2.heap.size W2 wr ∧ ∃ N, OwnL wr W2.heap.size v N ∧ N.Nodup ∧ ∀ y, y ∈ N ↔ ∃ x, x ∈ NOW.take q ∧ Mt (byt xs) xs.length pk x y) (fun _ i _ => NOW.length - (intOf i).toNat)
        case atStart => exact ⟨0, _, rfl, rfl, Nat.zero_le _, Below.refl _ _, [], OwnL.nil _ _, by simp, fun y => by simp⟩
        case round =>
          obtain ⟨qn, vn, rfl, hv, hqn, hbn, NN, hN, hNd, hNm⟩ := hrel
          subst hv
          have HBN := Lib.hid hbn; have HNN := Lib.hid hN; have HNNd := Lib.hid hNd; have HNNm := Lib.hid hNm
          clear hbn hN hNd hNm
          by_cases hqlt : qn < NOW.length
          · obtain ⟨ng, heq9, hnc, hncell⟩ := OwnL.cell HNOW.out qn hqlt
            have hxb : NOW[qn] ≤ xs.length := HNOWB.out _ (List.getElem_mem hqlt)
            have HQLT := Lib.hid hqlt
            generalize hxq : NOW[qn] = xq at hncell hxb
            have HXQ := Lib.hid hxq; have HNC := Lib.hid hncell; have HXB := Lib.hid hxb
            have HNG : Hid (ng < W2.heap.size) := Lib.hid (World.block_lt_of_cell? _ _ hncell)
            clear hxq hncell
            subst heq9
            go_upto_region 39 with (fail)
            obtain ⟨wn0, hwn0⟩ : ∃ wn0 : World, wn0 = wr := ⟨_, rfl⟩
            refine Rg.wp_region_each (by kernel_rfl) (fun w' => Below W2.heap.size W2 w' ∧ OwnL w' W2.heap.size vn NN ∧ wn0.heap.size ≤ w'.heap.size) (fun w1 w2 h hb => ⟨h.1.trans (hb.mono h.1.size), h.2.1.below hb, Nat.le_trans h.2.2 hb.size⟩) (by kernel_rfl) (by kernel_rfl) (⟨HBN.out, HNN.out, by rw [hwn0]; exact Nat.le_refl _⟩) ?_
            show Rg.Build _ _ _ _ _ 0 [_, _, _, _, _, _, _, _] []
            refine Rg.build_cons (m := 1) (r := Rg.eq _) (Rg.one_plain (by rfl) (by (intro ax wx hk Kx hK; have k16 := hk.base 16 _ rfl rfl; have hj := hk.j; clear hk; have HT : AtG wx wr0.heap.size 29 (nodeC op' f' mn' mx' (.slice ka kn kc)) := AtG.keepB HKC.out hj.1; have q0 : wx.cell? ⟨wr0.heap.size, 0, none⟩ = some (.int .i64 op') := HT.cell 0 _ rfl; have q1 : wx.cell? ⟨wr0.heap.size, 1, none⟩ = some (.int .u64 ((wd f' 0 : Nat) : Int)) := HT.cell 1 _ rfl; have q2 : wx.cell? ⟨wr0.heap.size, 2, none⟩ = some (.int .u64 ((wd f' 1 : Nat) : Int)) := HT.cell 2 _ rfl; have q3 : wx.cell? ⟨wr0.heap.size, 3, none⟩ = some (.int .u64 ((wd f' 2 : Nat) : Int)) := HT.cell 3 _ rfl; have q4 : wx.cell? ⟨wr0.heap.size, 4, none⟩ = some (.int .u64 ((wd f' 3 : Nat) : Int)) := HT.cell 4 _ rfl; have q5 : wx.cell? ⟨wr0.heap.size, 5, none⟩ = some (.int .i64 mn') := HT.cell 5 _ rfl; have q6 : wx.cell? ⟨wr0.heap.size, 6, none⟩ = some (.int .i64 mx') := HT.cell 6 _ rfl; have q7 : wx.cell? ⟨wr0.heap.size, 7, none⟩ = some (.slice ka kn kc) := HT.cell 7 _ rfl; have nq : wx.cell? ⟨ng, qn, none⟩ = some (.int .i64 (xq : Int)) := (hj.1.cell (p := ⟨ng, qn, none⟩) HNG.out).trans HNC.out; go_simp; refine hK _ _ ?_ (Below.refl _ _); apply Rg.mk))) ?_ rfl
            refine Rg.build_cons (m := 2) (r := Rg.eq _) (Rg.one_plain (by rfl) (by (intro ax wx hk Kx hK; have k1 := hk.base 1 _ rfl rfl; have hj := hk.j; clear hk; have HT : AtG wx wr0.heap.size 29 (nodeC op' f' mn' mx' (.slice ka kn kc)) := AtG.keepB HKC.out hj.1; have q0 : wx.cell? ⟨wr0.heap.size, 0, none⟩ = some (.int .i64 op') := HT.cell 0 _ rfl; have q1 : wx.cell? ⟨wr0.heap.size, 1, none⟩ = some (.int .u64 ((wd f' 0 : Nat) : Int)) := HT.cell 1 _ rfl; have q2 : wx.cell? ⟨wr0.heap.size, 2, none⟩ = some (.int .u64 ((wd f' 1 : Nat) : Int)) := HT.cell 2 _ rfl; have q3 : wx.cell? ⟨wr0.heap.size, 3, none⟩ = some (.int .u64 ((wd f' 2 : Nat) : Int)) := HT.cell 3 _ rfl; have q4 : wx.cell? ⟨wr0.heap.size, 4, none⟩ = some (.int .u64 ((wd f' 3 : Nat) : Int)) := HT.cell 4 _ rfl; have q5 : wx.cell? ⟨wr0.heap.size, 5, none⟩ = some (.int .i64 mn') := HT.cell 5 _ rfl; have q6 : wx.cell? ⟨wr0.heap.size, 6, none⟩ = some (.int .i64 mx') := HT.cell 6 _ rfl; have q7 : wx.cell? ⟨wr0.heap.size, 7, none⟩ = some (.slice ka kn kc) := HT.cell 7 _ rfl; have nq : wx.cell? ⟨ng, qn, none⟩ = some (.int .i64 (xq : Int)) := (hj.1.cell (p := ⟨ng, qn, none⟩) HNG.out).trans HNC.out; go_simp; refine hK _ _ ?_ (Below.refl _ _); apply Rg.mk))) ?_ rfl
            refine Rg.build_cons (m := 3) (r := Rg.eq _) (Rg.one_plain (by rfl) (by (intro ax wx hk Kx hK; have k12 := hk.base 12 _ rfl rfl; have hj := hk.j; clear hk; have HT : AtG wx wr0.heap.size 29 (nodeC op' f' mn' mx' (.slice ka kn kc)) := AtG.keepB HKC.out hj.1; have q0 : wx.cell? ⟨wr0.heap.size, 0, none⟩ = some (.int .i64 op') := HT.cell 0 _ rfl; have q1 : wx.cell? ⟨wr0.heap.size, 1, none⟩ = some (.int .u64 ((wd f' 0 : Nat) : Int)) := HT.cell 1 _ rfl; have q2 : wx.cell? ⟨wr0.heap.size, 2, none⟩ = some (.int .u64 ((wd f' 1 : Nat) : Int)) := HT.cell 2 _ rfl; have q3 : wx.cell? ⟨wr0.heap.size, 3, none⟩ = some (.int .u64 ((wd f' 2 : Nat) : Int)) := HT.cell 3 _ rfl; have q4 : wx.cell? ⟨wr0.heap.size, 4, none⟩ = some (.int .u64 ((wd f' 3 : Nat) : Int)) := HT.cell 4 _ rfl; have q5 : wx.cell? ⟨wr0.heap.size, 5, none⟩ = some (.int .i64 mn') := HT.cell 5 _ rfl; have q6 : wx.cell? ⟨wr0.heap.size, 6, none⟩ = some (.int .i64 mx') := HT.cell 6 _ rfl; have q7 : wx.cell? ⟨wr0.heap.size, 7, none⟩ = some (.slice ka kn kc) := HT.cell 7 _ rfl; have nq : wx.cell? ⟨ng, qn, none⟩ = some (.int .i64 (xq : Int)) := (hj.1.cell (p := ⟨ng, qn, none⟩) HNG.out).trans HNC.out; go_simp; refine hK _ _ ?_ (Below.refl _ _); apply Rg.mk))) ?_ rfl
            refine Rg.build_cons (m := 4) (r := Rg.eq _) (Rg.one_plain (by rfl) (by (intro ax wx hk Kx hK; have k19 := hk.base 19 _ rfl rfl; have hj := hk.j; clear hk; have HT : AtG wx wr0.heap.size 29 (nodeC op' f' mn' mx' (.slice ka kn kc)) := AtG.keepB HKC.out hj.1; have q0 : wx.cell? ⟨wr0.heap.size, 0, none⟩ = some (.int .i64 op') := HT.cell 0 _ rfl; have q1 : wx.cell? ⟨wr0.heap.size, 1, none⟩ = some (.int .u64 ((wd f' 0 : Nat) : Int)) := HT.cell 1 _ rfl; have q2 : wx.cell? ⟨wr0.heap.size, 2, none⟩ = some (.int .u64 ((wd f' 1 : Nat) : Int)) := HT.cell 2 _ rfl; have q3 : wx.cell? ⟨wr0.heap.size, 3, none⟩ = some (.int .u64 ((wd f' 2 : Nat) : Int)) := HT.cell 3 _ rfl; have q4 : wx.cell? ⟨wr0.heap.size, 4, none⟩ = some (.int .u64 ((wd f' 3 : Nat) : Int)) := HT.cell 4 _ rfl; have q5 : wx.cell? ⟨wr0.heap.size, 5, none⟩ = some (.int .i64 mn') := HT.cell 5 _ rfl; have q6 : wx.cell? ⟨wr0.heap.size, 6, none⟩ = some (.int .i64 mx') := HT.cell 6 _ rfl; have q7 : wx.cell? ⟨wr0.heap.size, 7, none⟩ = some (.slice ka kn kc) := HT.cell 7 _ rfl; have nq : wx.cell? ⟨ng, qn, none⟩ = some (.int .i64 (xq : Int)) := (hj.1.cell (p := ⟨ng, qn, none⟩) HNG.out).trans HNC.out; go_simp; refine hK _ _ ?_ (Below.refl _ _); apply Rg.mk))) ?_ rfl
            refine Rg.build_cons (m := 5) (r := Rg.eq _) (Rg.one_plain (by rfl) (by (intro ax wx hk Kx hK; obtain ⟨v130, k130, h130⟩ := hk.dep 2 130 _ rfl rfl rfl; (first | (cases (h130 : v130 = _)) | (obtain ⟨rfl, h130⟩ := h130) | skip); obtain ⟨v131, k131, h131⟩ := hk.dep 3 131 _ rfl rfl rfl; (first | (cases (h131 : v131 = _)) | (obtain ⟨rfl, h131⟩ := h131) | skip); have hj := hk.j; clear hk; have HT : AtG wx wr0.heap.size 29 (nodeC op' f' mn' mx' (.slice ka kn kc)) := AtG.keepB HKC.out hj.1; have q0 : wx.cell? ⟨wr0.heap.size, 0, none⟩ = some (.int .i64 op') := HT.cell 0 _ rfl; have q1 : wx.cell? ⟨wr0.heap.size, 1, none⟩ = some (.int .u64 ((wd f' 0 : Nat) : Int)) := HT.cell 1 _ rfl; have q2 : wx.cell? ⟨wr0.heap.size, 2, none⟩ = some (.int .u64 ((wd f' 1 : Nat) : Int)) := HT.cell 2 _ rfl; have q3 : wx.cell? ⟨wr0.heap.size, 3, none⟩ = some (.int .u64 ((wd f' 2 : Nat) : Int)) := HT.cell 3 _ rfl; have q4 : wx.cell? ⟨wr0.heap.size, 4, none⟩ = some (.int .u64 ((wd f' 3 : Nat) : Int)) := HT.cell 4 _ rfl; have q5 : wx.cell? ⟨wr0.heap.size, 5, none⟩ = some (.int .i64 mn') := HT.cell 5 _ rfl; have q6 : wx.cell? ⟨wr0.heap.size, 6, none⟩ = some (.int .i64 mx') := HT.cell 6 _ rfl; have q7 : wx.cell? ⟨wr0.heap.size, 7, none⟩ = some (.slice ka kn kc) := HT.cell 7 _ rfl; have nq : wx.cell? ⟨ng, qn, none⟩ = some (.int .i64 (xq : Int)) := (hj.1.cell (p := ⟨ng, qn, none⟩) HNG.out).trans HNC.out; go_simp; refine hK _ _ ?_ (Below.refl _ _); apply Rg.mk))) ?_ rfl
            refine Rg.build_cons (m := 6) (r := Rg.eq _) (Rg.one_plain (by rfl) (by (intro ax wx hk Kx hK; obtain ⟨v132, k132, h132⟩ := hk.dep 4 132 _ rfl rfl rfl; (first | (cases (h132 : v132 = _)) | (obtain ⟨rfl, h132⟩ := h132) | skip); have hj := hk.j; clear hk; have HT : AtG wx wr0.heap.size 29 (nodeC op' f' mn' mx' (.slice ka kn kc)) := AtG.keepB HKC.out hj.1; have q0 : wx.cell? ⟨wr0.heap.size, 0, none⟩ = some (.int .i64 op') := HT.cell 0 _ rfl; have q1 : wx.cell? ⟨wr0.heap.size, 1, none⟩ = some (.int .u64 ((wd f' 0 : Nat) : Int)) := HT.cell 1 _ rfl; have q2 : wx.cell? ⟨wr0.heap.size, 2, none⟩ = some (.int .u64 ((wd f' 1 : Nat) : Int)) := HT.cell 2 _ rfl; have q3 : wx.cell? ⟨wr0.heap.size, 3, none⟩ = some (.int .u64 ((wd f' 2 : Nat) : Int)) := HT.cell 3 _ rfl; have q4 : wx.cell? ⟨wr0.heap.size, 4, none⟩ = some (.int .u64 ((wd f' 3 : Nat) : Int)) := HT.cell 4 _ rfl; have q5 : wx.cell? ⟨wr0.heap.size, 5, none⟩ = some (.int .i64 mn') := HT.cell 5 _ rfl; have q6 : wx.cell? ⟨wr0.heap.size, 6, none⟩ = some (.int .i64 mx') := HT.cell 6 _ rfl; have q7 : wx.cell? ⟨wr0.heap.size, 7, none⟩ = some (.slice ka kn kc) := HT.cell 7 _ rfl; have nq : wx.cell? ⟨ng, qn, none⟩ = some (.int .i64 (xq : Int)) := (hj.1.cell (p := ⟨ng, qn, none⟩) HNG.out).trans HNC.out; go_simp; refine hK _ _ ?_ (Below.refl _ _); apply Rg.mk))) ?_ rfl
            refine Rg.build_cons (m := 7) (r := (⟨fun u w' => ∃ L, OwnL w' wn0.heap.size u L ∧ L.Nodup ∧ ∀ i, i ∈ L ↔ Mt (byt xs) xs.length pk xq i, fun u w2 w3 h hb => by obtain ⟨L, h1, h2⟩ := h; exact ⟨L, h1.below hb, h2⟩⟩ : Rg.Rl)) (Rg.one_plain (by rfl) (by (intro ax wx hk Kx hK; obtain ⟨v128, k128, h128⟩ := hk.dep 0 128 _ rfl rfl rfl; (first | (cases (h128 : v128 = _)) | (obtain ⟨rfl, h128⟩ := h128) | skip); obtain ⟨v129, k129, h129⟩ := hk.dep 1 129 _ rfl rfl rfl; (first | (cases (h129 : v129 = _)) | (obtain ⟨rfl, h129⟩ := h129) | skip); obtain ⟨v133, k133, h133⟩ := hk.dep 5 133 _ rfl rfl rfl; (first | (cases (h133 : v133 = _)) | (obtain ⟨rfl, h133⟩ := h133) | skip); have hj := hk.j; clear hk; have HT : AtG wx wr0.heap.size 29 (nodeC op' f' mn' mx' (.slice ka kn kc)) := AtG.keepB HKC.out hj.1; have q0 : wx.cell? ⟨wr0.heap.size, 0, none⟩ = some (.int .i64 op') := HT.cell 0 _ rfl; have q1 : wx.cell? ⟨wr0.heap.size, 1, none⟩ = some (.int .u64 ((wd f' 0 : Nat) : Int)) := HT.cell 1 _ rfl; have q2 : wx.cell? ⟨wr0.heap.size, 2, none⟩ = some (.int .u64 ((wd f' 1 : Nat) : Int)) := HT.cell 2 _ rfl; have q3 : wx.cell? ⟨wr0.heap.size, 3, none⟩ = some (.int .u64 ((wd f' 2 : Nat) : Int)) := HT.cell 3 _ rfl; have q4 : wx.cell? ⟨wr0.heap.size, 4, none⟩ = some (.int .u64 ((wd f' 3 : Nat) : Int)) := HT.cell 4 _ rfl; have q5 : wx.cell? ⟨wr0.heap.size, 5, none⟩ = some (.int .i64 mn') := HT.cell 5 _ rfl; have q6 : wx.cell? ⟨wr0.heap.size, 6, none⟩ = some (.int .i64 mx') := HT.cell 6 _ rfl; have q7 : wx.cell? ⟨wr0.heap.size, 7, none⟩ = some (.slice ka kn kc) := HT.cell 7 _ rfl; have nq : wx.cell? ⟨ng, qn, none⟩ = some (.int .i64 (xq : Int)) := (hj.1.cell (p := ⟨ng, qn, none⟩) HNG.out).trans HNC.out; go_simp; refine (HI.out _ xq (NAt.below HKN.out (HBW1.out.trans (hj.1.mono HBW1.out.size))) (rdB_below HX.out (HBW1.out.trans (hj.1.mono HBW1.out.size))) HXB.out).mono ?_; rintro e w' ⟨hb, u, rfl, L, h1, h2, h3⟩; exact hK _ _ ⟨L, own_lower h1 hj.2.2, h2, h3⟩ hb))) ?_ rfl
            refine Rg.build_cons (m := 8) (r := (⟨fun u w' => ∃ L, OwnL w' wn0.heap.size u L ∧ L.Nodup ∧ ∀ i, i ∈ L ↔ Mt (byt xs) xs.length pk xq i, fun u w2 w3 h hb => by obtain ⟨L, h1, h2⟩ := h; exact ⟨L, h1.below hb, h2⟩⟩ : Rg.Rl)) (Rg.one_plain (by rfl) (by (intro ax wx hk Kx hK; obtain ⟨v134, k134, h134⟩ := hk.dep 6 134 _ rfl rfl rfl; (first | (cases (h134 : v134 = _)) | (obtain ⟨rfl, h134⟩ := h134) | skip); have hj := hk.j; clear hk; have HT : AtG wx wr0.heap.size 29 (nodeC op' f' mn' mx' (.slice ka kn kc)) := AtG.keepB HKC.out hj.1; have q0 : wx.cell? ⟨wr0.heap.size, 0, none⟩ = some (.int .i64 op') := HT.cell 0 _ rfl; have q1 : wx.cell? ⟨wr0.heap.size, 1, none⟩ = some (.int .u64 ((wd f' 0 : Nat) : Int)) := HT.cell 1 _ rfl; have q2 : wx.cell? ⟨wr0.heap.size, 2, none⟩ = some (.int .u64 ((wd f' 1 : Nat) : Int)) := HT.cell 2 _ rfl; have q3 : wx.cell? ⟨wr0.heap.size, 3, none⟩ = some (.int .u64 ((wd f' 2 : Nat) : Int)) := HT.cell 3 _ rfl; have q4 : wx.cell? ⟨wr0.heap.size, 4, none⟩ = some (.int .u64 ((wd f' 3 : Nat) : Int)) := HT.cell 4 _ rfl; have q5 : wx.cell? ⟨wr0.heap.size, 5, none⟩ = some (.int .i64 mn') := HT.cell 5 _ rfl; have q6 : wx.cell? ⟨wr0.heap.size, 6, none⟩ = some (.int .i64 mx') := HT.cell 6 _ rfl; have q7 : wx.cell? ⟨wr0.heap.size, 7, none⟩ = some (.slice ka kn kc) := HT.cell 7 _ rfl; have nq : wx.cell? ⟨ng, qn, none⟩ = some (.int .i64 (xq : Int)) := (hj.1.cell (p := ⟨ng, qn, none⟩) HNG.out).trans HNC.out; (go_simp; exact hK _ _ h134 (Below.refl _ _))))) ?_ rfl
            refine Rg.build_end fun wx hj => ?_
            refine Rg.fin_eq rfl ?_
            refine Rg.fin_eq rfl ?_
            refine Rg.fin_eq rfl ?_
            refine Rg.fin_eq rfl ?_
            refine Rg.fin_eq rfl ?_
            refine Rg.fin_eq rfl ?_
            first | refine Rg.fin_eq rfl ?_ | refine Rg.fin_any rfl fun v134 h134 => ?_
            first | refine Rg.fin_eq rfl ?_ | refine Rg.fin_any rfl fun v20 h20 => ?_
            refine Rg.fin_nil ?_
            simp only [List.set_cons_zero, List.set_cons_succ]
            obtain ⟨LL, hlv, hlnd, hlm⟩ := h20
            obtain ⟨lva, lvc, rfl, _⟩ := OwnL.at hlv
            have HOV := Lib.hid hj.2.1
            have HBX := Lib.hid hj.1
            have HLV := Lib.hid hlv; have HLM := Lib.hid hlm; have HND := HNNd; have HLND := Lib.hid hlnd
            have HBW : Hid (W2.heap.size ≤ wx.heap.size) := Lib.hid hj.1.size
            have HLB : Hid (∀ y ∈ LL, y ≤ xs.length) := Lib.hid (fun y hy => mt_le (byt xs) xs.length pk xq y HXB.out ((hlm y).1 hy))
            have HOB : Hid (∀ y ∈ NN, y ≤ xs.length) := Lib.hid (fun y hy => by
              obtain ⟨x, hx1, hx2⟩ := (HNNm.out y).1 hy
              exact mt_le (byt xs) xs.length pk x y (HNOWB.out x (List.mem_of_mem_take hx1)) hx2)
            have HNB : Hid (∀ r, (Value.slice lva LL.length lvc).ownBlock = some r → ¬ vn.ownBlock = some r) := Lib.hid (fun r h1 h2 => by
              have := own_lt HNN.out r h2; have := own_base hlv r h1; rw [hwn0] at this; omega)
            have hllI : (LL.length : Int) ≤ 1001 := by
              have := nodup_len (m := xs.length + 1) hlnd (fun y hy => by have := HLB.out y hy; omega)
              omega
            have HVB : Hid (∀ r, vn.ownBlock = some r → W2.heap.size ≤ r) := Lib.hid (fun r hr => own_base HNN.out r hr)
            clear hlv hlnd hlm hj hwn0
            go_wp2_with fail
            go_loopw [18, 21] (fun t i wr => ∃ (q : Nat) (v : Value), i = .int .i64 q ∧ v = t ∧ Added wx (W2.heap.size) (vn) (NN) (LL) q wr v) (fun _ i _ => (LL).length - (intOf i).toNat)
            case atStart => exact ⟨0, _, rfl, rfl, Added.start HOV.out HND.out⟩
            case round =>
              obtain ⟨q, v, rfl, hv, hadd⟩ := hrel
              subst hv
              obtain ⟨N, hN, hNd, hNm⟩ := hadd.ex
              have HADD := Lib.hid hadd; have HN := Lib.hid hN; have HNd := Lib.hid hNd; have HNm := Lib.hid hNm
              clear hadd hN hNd hNm
              by_cases hlq : q < (LL).length
              · obtain ⟨lg, rfl, hlc, hcell⟩ := OwnL.cell (HLV.out.only HADD.out.only HNB.out) q hlq
                have hxb : (LL)[q] ≤ xs.length := HLB.out _ (List.getElem_mem hlq)
                have HAD := Lib.hid (add_any wr (W2.heap.size) v N (LL)[q] HN.out (Nat.le_trans HBW.out HADD.out.only.size) (by
                  have := nodup_len (m := xs.length + 1) HNd.out (fun y hy => by
                    rcases (HNm.out y).1 hy with h | h
                    · have := HOB.out y h; omega
                    · have := HLB.out y (List.mem_of_mem_take h); omega)
                  omega) (by omega))
                have HLQ := Lib.hid hlq
                generalize hxq : (LL)[q] = xq at hcell HAD hxb
                have HXQ := Lib.hid hxq
                clear hxq
                go_wp2_with fail
                refine (HAD.out).mono ?_
                rintro e9 wa ⟨v', rfl, h1, h2, h3⟩
                have HST := Lib.hid (Added.step HADD.out HLQ.out HNm.out HNd.out (by have e := HXQ.out; subst e; exact h1) h2 h3)
                clear h1 h2 h3
                go_wp2_with fail
                exact ⟨⟨q + 1, v', by go_num, rfl, HST.out⟩, by simp [intOf]; omega⟩
              · have hq0 : q = (LL).length := by have := HADD.out.le; omega
                subst hq0
                have HNm2 : Hid (∀ y, y ∈ N ↔ y ∈ (NN) ∨ y ∈ (LL)) := Lib.hid (fun y => by rw [HNm.out y, List.take_length])
                have HBY := Lib.hid (below_only HBX.out HADD.out.only HBW.out (fun r hr => HVB.out r hr))
                go_wp2_with fail
                exact ⟨⟨qn + 1, v, by go_num, rfl, HQLT.out, HBY.out, N, HN.out, HNd.out, fun y => by
                  have htake : NOW.take (qn + 1) = NOW.take qn ++ [xq] := (List.take_succ_eq_append_getElem HQLT.out).trans (congrArg (fun z => NOW.take qn ++ [z]) HXQ.out)
                  rw [HNm2.out y, HNNm.out y, HLM.out y, htake]
                  constructor
                  · rintro (⟨x, h1, h2⟩ | h2)
                    · exact ⟨x, List.mem_append_left _ h1, h2⟩
                    · exact ⟨xq, List.mem_append_right _ (by simp), h2⟩
                  · rintro ⟨x, h1, h2⟩
                    rcases List.mem_append.1 h1 with h1 | h1
                    · exact .inl ⟨x, h1, h2⟩
                    · rw [List.mem_singleton] at h1; subst h1; exact .inr h2⟩, by simp [intOf]; have := HQLT.out; omega⟩
          · have hq9 : qn = NOW.length := by omega
            subst hq9
            have HNX : Hid (∀ y, y ∈ NN ↔ ∃ x, x ∈ NOW ∧ Mt (byt xs) xs.length pk x y) := Lib.hid (fun y => by rw [HNNm.out y, List.take_length])
            obtain ⟨vna, vnc, rfl, _⟩ := OwnL.at HNN.out
            have HA3 := Lib.hid (AtG.keepB HA2.out HBN.out); have HB3 := Lib.hid (HBW1.out.trans (HBN.out.mono HBW1.out.size)); have HOV3 := Lib.hid (HOV2.out.below HBN.out); have HNOW3 := Lib.hid (HNOW.out.below HBN.out)
            have HNX3 : Hid (OwnL wr (w.heap.size + 1) (.slice vna NN.length vnc) NN) := Lib.hid (own_lower HNN.out (by have := HA2.out.lt; omega))
            have HNXM : Hid (∀ y, y ∈ NN ↔ imgN R (fun j => j = fr) (t + 1) y) := Lib.hid (fun y => by
              rw [HNX.out y]
              constructor
              · rintro ⟨x, h1, h2⟩
                exact ⟨x, (HNOWM.out x).1 h1, by rw [HR.out]; exact h2⟩
              · rintro ⟨x, h1, h2⟩
                exact ⟨x, (HNOWM.out x).2 h1, by rw [← HR.out]; exact h2⟩)
            have HNXB : Hid (∀ y ∈ NN, y ≤ xs.length) := Lib.hid (fun y hy => HLE0.out (t + 1) y ((HNXM.out y).1 hy))
            have HNB3 : Hid (∀ r, (Value.slice vna NN.length vnc).ownBlock = some r → ¬ ov3.ownBlock = some r) := Lib.hid (fun r h1 h2 => by
              have := own_lt HOV2.out r h2; have := own_base HNN.out r h1; omega)
            have HOM3 := HOM2; have HOB3 := HOB2
            have hnnI : (NN.length : Int) ≤ 1001 := by
              have := nodup_len (m := xs.length + 1) HNNd.out (fun y hy => by have := HNXB.out y hy; omega)
              omega
            obtain ⟨W3, hW3⟩ : ∃ W3 : World, W3 = wr := ⟨_, rfl⟩
            rw [← hW3] at HA3 HB3 HOV3 HNOW3 HNX3 ⊢
            clear hW3
            by_cases hlen : NOW.length = NN.length
            · have hlenI : (NOW.length : Int) = (NN.length : Int) := by omega
              go_wp2_with fail
              go_loopw [22, 23] (fun t i wr => ∃ (q : Nat) (bb : Bool), i = .int .i64 q ∧ t = .bool bb ∧ q ≤ NOW.length ∧ Below W3.heap.size W3 wr ∧ (bb = true → NOW.length = NN.length ∧ ∀ j (hj : j < NOW.length) (hj' : j < NN.length), j < q → NOW[j] = NN[j])) (fun _ i _ => NOW.length - (intOf i).toNat)
              case atStart => exact ⟨0, _, rfl, rfl, Nat.zero_le _, Below.refl _ _, (fun _ => ⟨hlen, fun j _ _ h => absurd h (Nat.not_lt_zero _)⟩)⟩
              case round =>
                obtain ⟨q, bb, rfl, rfl, hql, hbc, hbb⟩ := hrel
                have HBC := Lib.hid hbc; have HBB := Lib.hid hbb
                clear hbc hbb
                cases bb with
                | true =>
                  by_cases hqc : q < NOW.length
                  · obtain ⟨hle, hall⟩ := HBB.out rfl
                    have hqc2 : q < NN.length := by omega
                    obtain ⟨g1, hg1, hcp1, hcl1⟩ := OwnL.cell (HNOW3.out.below HBC.out) q hqc
                    obtain ⟨g2, hg2, hcp2, hcl2⟩ := OwnL.cell (HNX3.out.below HBC.out) q hqc2
                    have hq3 : NOW[q] ≤ xs.length := HNOWB.out _ (List.getElem_mem hqc)
                    have hq4 : NN[q] ≤ xs.length := HNXB.out _ (List.getElem_mem hqc2)
                    have HQC := Lib.hid hqc; have HQC2 := Lib.hid hqc2; have HLE := Lib.hid hle; have HALL := Lib.hid hall
                    generalize hx1 : NOW[q] = x1 at hcl1 hq3
                    generalize hx2 : NN[q] = x2 at hcl2 hq4
                    have HX1 := Lib.hid hx1; have HX2 := Lib.hid hx2; have HL1 := Lib.hid hcl1; have HL2 := Lib.hid hcl2
                    have hcpI : (NOW.length : Int) ≤ 1001 := hnowI
                    have hleI : (NN.length : Int) = (NOW.length : Int) := by omega
                    clear hx1 hx2 hcl1 hcl2 hle hall
                    subst hg1; subst hg2
                    go_upto_region 48 with (fail)
                    obtain ⟨wc0, hwc0⟩ : ∃ wc0 : World, wc0 = wr := ⟨_, rfl⟩
                    refine Rg.wp_region_each (by kernel_rfl) (fun w' => Below wc0.heap.size wc0 w') (fun w1 w2 h hb => h.trans (hb.mono h.size)) (by kernel_rfl) (by kernel_rfl) (by rw [hwc0]; exact Below.refl _ _) ?_
                    show Rg.Build _ _ _ _ _ 0 [_, _, _, _, _, _, _, _, _, _] []
                    refine Rg.build_cons (m := 1) (r := Rg.eq _) (Rg.one_plain (by rfl) (by (intro ax wx hk Kx hK; have k12 := hk.base 12 _ rfl rfl; have hj := hk.j; clear hk; have z1 : wx.cell? ⟨g1, q, none⟩ = some (.int .i64 (x1 : Int)) := (hj.cell (p := ⟨g1, q, none⟩) (by rw [hwc0]; exact World.block_lt_of_cell? _ _ HL1.out)).trans (by rw [hwc0]; exact HL1.out); have z2 : wx.cell? ⟨g2, q, none⟩ = some (.int .i64 (x2 : Int)) := (hj.cell (p := ⟨g2, q, none⟩) (by rw [hwc0]; exact World.block_lt_of_cell? _ _ HL2.out)).trans (by rw [hwc0]; exact HL2.out); go_simp; refine hK _ _ ?_ (Below.refl _ _); apply Rg.mk))) ?_ rfl
                    refine Rg.build_cons (m := 2) (r := Rg.eq _) (Rg.one_plain (by rfl) (by (intro ax wx hk Kx hK; have k23 := hk.base 23 _ rfl rfl; have hj := hk.j; clear hk; have z1 : wx.cell? ⟨g1, q, none⟩ = some (.int .i64 (x1 : Int)) := (hj.cell (p := ⟨g1, q, none⟩) (by rw [hwc0]; exact World.block_lt_of_cell? _ _ HL1.out)).trans (by rw [hwc0]; exact HL1.out); have z2 : wx.cell? ⟨g2, q, none⟩ = some (.int .i64 (x2 : Int)) := (hj.cell (p := ⟨g2, q, none⟩) (by rw [hwc0]; exact World.block_lt_of_cell? _ _ HL2.out)).trans (by rw [hwc0]; exact HL2.out); go_simp; refine hK _ _ ?_ (Below.refl _ _); apply Rg.mk))) ?_ rfl
                    refine Rg.build_cons (m := 3) (r := Rg.eq _) (Rg.one_plain (by rfl) (by (intro ax wx hk Kx hK; obtain ⟨v161, k161, h161⟩ := hk.dep 0 161 _ rfl rfl rfl; (first | (cases (h161 : v161 = _)) | (obtain ⟨rfl, h161⟩ := h161) | skip); obtain ⟨v162, k162, h162⟩ := hk.dep 1 162 _ rfl rfl rfl; (first | (cases (h162 : v162 = _)) | (obtain ⟨rfl, h162⟩ := h162) | skip); have hj := hk.j; clear hk; have z1 : wx.cell? ⟨g1, q, none⟩ = some (.int .i64 (x1 : Int)) := (hj.cell (p := ⟨g1, q, none⟩) (by rw [hwc0]; exact World.block_lt_of_cell? _ _ HL1.out)).trans (by rw [hwc0]; exact HL1.out); have z2 : wx.cell? ⟨g2, q, none⟩ = some (.int .i64 (x2 : Int)) := (hj.cell (p := ⟨g2, q, none⟩) (by rw [hwc0]; exact World.block_lt_of_cell? _ _ HL2.out)).trans (by rw [hwc0]; exact HL2.out); go_simp; refine hK _ _ ?_ (Below.refl _ _); apply Rg.mk))) ?_ rfl
                    refine Rg.build_cons (m := 4) (r := Rg.eq _) (Rg.one_plain (by rfl) (by (intro ax wx hk Kx hK; obtain ⟨v163, k163, h163⟩ := hk.dep 2 163 _ rfl rfl rfl; (first | (cases (h163 : v163 = _)) | (obtain ⟨rfl, h163⟩ := h163) | skip); have hj := hk.j; clear hk; have z1 : wx.cell? ⟨g1, q, none⟩ = some (.int .i64 (x1 : Int)) := (hj.cell (p := ⟨g1, q, none⟩) (by rw [hwc0]; exact World.block_lt_of_cell? _ _ HL1.out)).trans (by rw [hwc0]; exact HL1.out); have z2 : wx.cell? ⟨g2, q, none⟩ = some (.int .i64 (x2 : Int)) := (hj.cell (p := ⟨g2, q, none⟩) (by rw [hwc0]; exact World.block_lt_of_cell? _ _ HL2.out)).trans (by rw [hwc0]; exact HL2.out); go_simp; refine hK _ _ ?_ (Below.refl _ _); apply Rg.mk))) ?_ rfl
                    refine Rg.build_cons (m := 5) (r := Rg.eq _) (Rg.one_plain (by rfl) (by (intro ax wx hk Kx hK; have k18 := hk.base 18 _ rfl rfl; have hj := hk.j; clear hk; have z1 : wx.cell? ⟨g1, q, none⟩ = some (.int .i64 (x1 : Int)) := (hj.cell (p := ⟨g1, q, none⟩) (by rw [hwc0]; exact World.block_lt_of_cell? _ _ HL1.out)).trans (by rw [hwc0]; exact HL1.out); have z2 : wx.cell? ⟨g2, q, none⟩ = some (.int .i64 (x2 : Int)) := (hj.cell (p := ⟨g2, q, none⟩) (by rw [hwc0]; exact World.block_lt_of_cell? _ _ HL2.out)).trans (by rw [hwc0]; exact HL2.out); go_simp; refine hK _ _ ?_ (Below.refl _ _); apply Rg.mk))) ?_ rfl
                    refine Rg.build_cons (m := 6) (r := Rg.eq _) (Rg.one_plain (by rfl) (by (intro ax wx hk Kx hK; have k23 := hk.base 23 _ rfl rfl; have hj := hk.j; clear hk; have z1 : wx.cell? ⟨g1, q, none⟩ = some (.int .i64 (x1 : Int)) := (hj.cell (p := ⟨g1, q, none⟩) (by rw [hwc0]; exact World.block_lt_of_cell? _ _ HL1.out)).trans (by rw [hwc0]; exact HL1.out); have z2 : wx.cell? ⟨g2, q, none⟩ = some (.int .i64 (x2 : Int)) := (hj.cell (p := ⟨g2, q, none⟩) (by rw [hwc0]; exact World.block_lt_of_cell? _ _ HL2.out)).trans (by rw [hwc0]; exact HL2.out); go_simp; refine hK _ _ ?_ (Below.refl _ _); apply Rg.mk))) ?_ rfl
                    refine Rg.build_cons (m := 7) (r := Rg.eq _) (Rg.one_plain (by rfl) (by (intro ax wx hk Kx hK; obtain ⟨v165, k165, h165⟩ := hk.dep 4 165 _ rfl rfl rfl; (first | (cases (h165 : v165 = _)) | (obtain ⟨rfl, h165⟩ := h165) | skip); obtain ⟨v166, k166, h166⟩ := hk.dep 5 166 _ rfl rfl rfl; (first | (cases (h166 : v166 = _)) | (obtain ⟨rfl, h166⟩ := h166) | skip); have hj := hk.j; clear hk; have z1 : wx.cell? ⟨g1, q, none⟩ = some (.int .i64 (x1 : Int)) := (hj.cell (p := ⟨g1, q, none⟩) (by rw [hwc0]; exact World.block_lt_of_cell? _ _ HL1.out)).trans (by rw [hwc0]; exact HL1.out); have z2 : wx.cell? ⟨g2, q, none⟩ = some (.int .i64 (x2 : Int)) := (hj.cell (p := ⟨g2, q, none⟩) (by rw [hwc0]; exact World.block_lt_of_cell? _ _ HL2.out)).trans (by rw [hwc0]; exact HL2.out); go_simp; refine hK _ _ ?_ (Below.refl _ _); apply Rg.mk))) ?_ rfl
                    refine Rg.build_cons (m := 8) (r := Rg.eq _) (Rg.one_plain (by rfl) (by (intro ax wx hk Kx hK; obtain ⟨v167, k167, h167⟩ := hk.dep 6 167 _ rfl rfl rfl; (first | (cases (h167 : v167 = _)) | (obtain ⟨rfl, h167⟩ := h167) | skip); have hj := hk.j; clear hk; have z1 : wx.cell? ⟨g1, q, none⟩ = some (.int .i64 (x1 : Int)) := (hj.cell (p := ⟨g1, q, none⟩) (by rw [hwc0]; exact World.block_lt_of_cell? _ _ HL1.out)).trans (by rw [hwc0]; exact HL1.out); have z2 : wx.cell? ⟨g2, q, none⟩ = some (.int .i64 (x2 : Int)) := (hj.cell (p := ⟨g2, q, none⟩) (by rw [hwc0]; exact World.block_lt_of_cell? _ _ HL2.out)).trans (by rw [hwc0]; exact HL2.out); go_simp; refine hK _ _ ?_ (Below.refl _ _); apply Rg.mk))) ?_ rfl
                    refine Rg.build_cons (m := 9) (r := Rg.eq _) (Rg.one_plain (by rfl) (by (intro ax wx hk Kx hK; obtain ⟨v164, k164, h164⟩ := hk.dep 3 164 _ rfl rfl rfl; (first | (cases (h164 : v164 = _)) | (obtain ⟨rfl, h164⟩ := h164) | skip); obtain ⟨v168, k168, h168⟩ := hk.dep 7 168 _ rfl rfl rfl; (first | (cases (h168 : v168 = _)) | (obtain ⟨rfl, h168⟩ := h168) | skip); have hj := hk.j; clear hk; have z1 : wx.cell? ⟨g1, q, none⟩ = some (.int .i64 (x1 : Int)) := (hj.cell (p := ⟨g1, q, none⟩) (by rw [hwc0]; exact World.block_lt_of_cell? _ _ HL1.out)).trans (by rw [hwc0]; exact HL1.out); have z2 : wx.cell? ⟨g2, q, none⟩ = some (.int .i64 (x2 : Int)) := (hj.cell (p := ⟨g2, q, none⟩) (by rw [hwc0]; exact World.block_lt_of_cell? _ _ HL2.out)).trans (by rw [hwc0]; exact HL2.out); go_simp; refine hK _ _ ?_ (Below.refl _ _); apply Rg.mk))) ?_ rfl
                    refine Rg.build_cons (m := 10) (r := Rg.eq _) (Rg.one_plain (by rfl) (by (intro ax wx hk Kx hK; obtain ⟨v169, k169, h169⟩ := hk.dep 8 169 _ rfl rfl rfl; (first | (cases (h169 : v169 = _)) | (obtain ⟨rfl, h169⟩ := h169) | skip); have hj := hk.j; clear hk; have z1 : wx.cell? ⟨g1, q, none⟩ = some (.int .i64 (x1 : Int)) := (hj.cell (p := ⟨g1, q, none⟩) (by rw [hwc0]; exact World.block_lt_of_cell? _ _ HL1.out)).trans (by rw [hwc0]; exact HL1.out); have z2 : wx.cell? ⟨g2, q, none⟩ = some (.int .i64 (x2 : Int)) := (hj.cell (p := ⟨g2, q, none⟩) (by rw [hwc0]; exact World.block_lt_of_cell? _ _ HL2.out)).trans (by rw [hwc0]; exact HL2.out); go_simp; refine hK _ _ ?_ (Below.refl _ _); apply Rg.mk))) ?_ rfl
                    refine Rg.build_end fun wx hj => ?_
                    refine Rg.fin_eq rfl ?_
                    refine Rg.fin_eq rfl ?_
                    refine Rg.fin_eq rfl ?_
                    refine Rg.fin_eq rfl ?_
                    refine Rg.fin_eq rfl ?_
                    refine Rg.fin_eq rfl ?_
                    refine Rg.fin_eq rfl ?_
                    refine Rg.fin_eq rfl ?_
                    refine Rg.fin_eq rfl ?_
                    refine Rg.fin_eq rfl ?_
                    refine Rg.fin_nil ?_
                    simp only [List.set_cons_zero, List.set_cons_succ]
                    have HJ := Lib.hid hj; have HWC := Lib.hid hwc0
                    clear hj hwc0
                    go_wp2_with fail
                    exact ⟨⟨q + 1, _, by go_num, rfl, HQC.out, HBC.out.trans (by have := HJ.out; rw [HWC.out] at this; exact this.mono HBC.out.size), fun hb => ⟨HLE.out.symm ▸ rfl, fun j hj hj' hjq => by
                      rcases Nat.lt_succ_iff_lt_or_eq.1 hjq with h1 | h1
                      · exact HALL.out j hj hj' h1
                      · subst h1
                        have e3 : x1 = x2 := by simp at hb; omega
                        exact HX1.out.trans (e3.trans HX2.out.symm)⟩⟩, by simp [intOf]; have := HQC.out; omega⟩
                  · have hqe : q = NOW.length := by omega
                    obtain ⟨hle, hall⟩ := HBB.out rfl
                    have HSAME : Hid (NOW = NN) := Lib.hid (List.ext_getElem hle fun j h1 h2 => hall j h1 h2 (by omega))
                    clear hle hall
                    subst hqe
                    have n0 : wr.cell? ⟨w.heap.size, 0, none⟩ = some (.int .i64 4) := (AtG.keepB HA3.out HBC.out).cell 0 _ rfl
                    have HOV := Lib.hid (HOV3.out.below HBC.out); have HLV := Lib.hid (HNX3.out.below HBC.out); have HND := HND3; have HNB := HNB3; have HLB := HNXB; have HOB := HOB3
                    have HBW : Hid (w.heap.size + 1 ≤ wr.heap.size) := Lib.hid (by have := HA3.out.lt; have := HBC.out.size; omega)
                    have HB4 := Lib.hid (HB3.out.trans (HBC.out.mono HB3.out.size))
                    have hllI : (NN.length : Int) ≤ 1001 := hnnI
                    obtain ⟨wf, hwf⟩ : ∃ wf : World, wf = wr := ⟨_, rfl⟩
                    rw [← hwf] at HOV HLV HBW HB4 n0 ⊢
                    clear hwf
                    go_wp2_with fail
                    go_loopw [13, 24] (fun t i wr => ∃ (q : Nat) (v : Value), i = .int .i64 q ∧ v = t ∧ Added wf (w.heap.size + 1) (ov3) (OUT3) (NN) q wr v) (fun _ i _ => (NN).length - (intOf i).toNat)
                    case atStart => exact ⟨0, _, rfl, rfl, Added.start HOV.out HND.out⟩
                    case round =>
                      obtain ⟨q, v, rfl, hv, hadd⟩ := hrel
                      subst hv
                      obtain ⟨N, hN, hNd, hNm⟩ := hadd.ex
                      have HADD := Lib.hid hadd; have HN := Lib.hid hN; have HNd := Lib.hid hNd; have HNm := Lib.hid hNm
                      clear hadd hN hNd hNm
                      by_cases hlq : q < (NN).length
                      · obtain ⟨lg, rfl, hlc, hcell⟩ := OwnL.cell (HLV.out.only HADD.out.only HNB.out) q hlq
                        have hxb : (NN)[q] ≤ xs.length := HLB.out _ (List.getElem_mem hlq)
                        have HAD := Lib.hid (add_any wr (w.heap.size + 1) v N (NN)[q] HN.out (Nat.le_trans HBW.out HADD.out.only.size) (by
                          have := nodup_len (m := xs.length + 1) HNd.out (fun y hy => by
                            rcases (HNm.out y).1 hy with h | h
                            · have := HOB.out y h; omega
                            · have := HLB.out y (List.mem_of_mem_take h); omega)
                          omega) (by omega))
                        have HLQ := Lib.hid hlq
                        generalize hxq : (NN)[q] = xq at hcell HAD hxb
                        have HXQ := Lib.hid hxq
                        clear hxq
                        go_wp2_with fail
                        refine (HAD.out).mono ?_
                        rintro e9 wa ⟨v', rfl, h1, h2, h3⟩
                        have HST := Lib.hid (Added.step HADD.out HLQ.out HNm.out HNd.out (by have e := HXQ.out; subst e; exact h1) h2 h3)
                        clear h1 h2 h3
                        go_wp2_with fail
                        exact ⟨⟨q + 1, v', by go_num, rfl, HST.out⟩, by simp [intOf]; omega⟩
                      · have hq0 : q = (NN).length := by have := HADD.out.le; omega
                        subst hq0
                        have HNm2 : Hid (∀ y, y ∈ N ↔ y ∈ (OUT3) ∨ y ∈ (NN)) := Lib.hid (fun y => by rw [HNm.out y, List.take_length])
                        have HB5 := Lib.hid (below_only HB4.out HADD.out.only (by have := HBW.out; omega) (fun r hr => by have := own_base HOV.out r hr; omega))
                        go_wp2_with fail
                        go_returns
                        refine ⟨HB5.out, v, rfl, N, own_lower HN.out (by omega), HNd.out, fun y => ?_⟩
                        rw [HNm2.out y, HOM3.out y, HNXM.out y]
                        have hst : ∀ i, img R (imgN R (fun j => j = fr) (t + 1)) i ↔ imgN R (fun j => j = fr) (t + 1) i := fun i => by
                          have hsame : ∀ i, imgN R (fun j => j = fr) t i ↔ imgN R (fun j => j = fr) (t + 1) i := fun i => by
                            rw [← HNOWM.out i, ← HNXM.out i, HSAME.out]
                          exact img_congr (fun i => (hsame i).symm) i
                        have hlt := HLT.out
                        exact (rep_stop hst (by omega) HMN.out y).symm.trans (HPOST.out y).symm
                | false =>
                  clear HBB
                  by_cases hqc : q < NOW.length
                  · skip
                    have n0 : wr.cell? ⟨w.heap.size, 0, none⟩ = some (.int .i64 4) := (AtG.keepB HA3.out HBC.out).cell 0 _ rfl
                    have HA4 := Lib.hid (AtG.keepB HA3.out HBC.out); have HB4 := Lib.hid (HB3.out.trans (HBC.out.mono HB3.out.size)); have HOV4 := Lib.hid (HOV3.out.below HBC.out); have HNX4 := Lib.hid (HNX3.out.below HBC.out)
                    go_wp2_with fail
                    exact ⟨⟨t + 1, _, _, NN, OUT3, rfl, rfl, by go_num, HLT.out, HA4.out, HB4.out, HNX4.out, HNNd.out, HNXM.out, HOV4.out, HND3.out, HOM3.out, HNB3.out⟩, by simp [intOf]; have := HLT.out; omega⟩
                  · skip
                    have n0 : wr.cell? ⟨w.heap.size, 0, none⟩ = some (.int .i64 4) := (AtG.keepB HA3.out HBC.out).cell 0 _ rfl
                    have HA4 := Lib.hid (AtG.keepB HA3.out HBC.out); have HB4 := Lib.hid (HB3.out.trans (HBC.out.mono HB3.out.size)); have HOV4 := Lib.hid (HOV3.out.below HBC.out); have HNX4 := Lib.hid (HNX3.out.below HBC.out)
                    go_wp2_with fail
                    exact ⟨⟨t + 1, _, _, NN, OUT3, rfl, rfl, by go_num, HLT.out, HA4.out, HB4.out, HNX4.out, HNNd.out, HNXM.out, HOV4.out, HND3.out, HOM3.out, HNB3.out⟩, by simp [intOf]; have := HLT.out; omega⟩
            · have hlenI : ¬ (NOW.length : Int) = (NN.length : Int) := by omega
              have elen : ((NOW.length : Int) == (NN.length : Int)) = false := by rw [beq_eq_false_iff_ne]; exact hlenI
              go_wp2_with fail
              go_loopw [22, 23] (fun t i wr => ∃ (q : Nat) (bb : Bool), i = .int .i64 q ∧ t = .bool bb ∧ q ≤ NOW.length ∧ Below W3.heap.size W3 wr ∧ (bb = true → NOW.length = NN.length ∧ ∀ j (hj : j < NOW.length) (hj' : j < NN.length), j < q → NOW[j] = NN[j])) (fun _ i _ => NOW.length - (intOf i).toNat)
              case atStart => exact ⟨0, _, rfl, rfl, Nat.zero_le _, Below.refl _ _, (fun h => by simp at h; try exact absurd h hlen)⟩
              case round =>
                obtain ⟨q, bb, rfl, rfl, hql, hbc, hbb⟩ := hrel
                have HBC := Lib.hid hbc; have HBB := Lib.hid hbb
                clear hbc hbb
                cases bb with
                | true =>
                  by_cases hqc : q < NOW.length
                  · obtain ⟨hle, hall⟩ := HBB.out rfl
                    have hqc2 : q < NN.length := by omega
                    obtain ⟨g1, hg1, hcp1, hcl1⟩ := OwnL.cell (HNOW3.out.below HBC.out) q hqc
                    obtain ⟨g2, hg2, hcp2, hcl2⟩ := OwnL.cell (HNX3.out.below HBC.out) q hqc2
                    have hq3 : NOW[q] ≤ xs.length := HNOWB.out _ (List.getElem_mem hqc)
                    have hq4 : NN[q] ≤ xs.length := HNXB.out _ (List.getElem_mem hqc2)
                    have HQC := Lib.hid hqc; have HQC2 := Lib.hid hqc2; have HLE := Lib.hid hle; have HALL := Lib.hid hall
                    generalize hx1 : NOW[q] = x1 at hcl1 hq3
                    generalize hx2 : NN[q] = x2 at hcl2 hq4
                    have HX1 := Lib.hid hx1; have HX2 := Lib.hid hx2; have HL1 := Lib.hid hcl1; have HL2 := Lib.hid hcl2
                    have hcpI : (NOW.length : Int) ≤ 1001 := hnowI
                    have hleI : (NN.length : Int) = (NOW.length : Int) := by omega
                    clear hx1 hx2 hcl1 hcl2 hle hall
                    subst hg1; subst hg2
                    go_upto_region 48 with (fail)
                    obtain ⟨wc0, hwc0⟩ : ∃ wc0 : World, wc0 = wr := ⟨_, rfl⟩
                    refine Rg.wp_region_each (by kernel_rfl) (fun w' => Below wc0.heap.size wc0 w') (fun w1 w2 h hb => h.trans (hb.mono h.size)) (by kernel_rfl) (by kernel_rfl) (by rw [hwc0]; exact Below.refl _ _) ?_
                    show Rg.Build _ _ _ _ _ 0 [_, _, _, _, _, _, _, _, _, _] []
                    refine Rg.build_cons (m := 1) (r := Rg.eq _) (Rg.one_plain (by rfl) (by (intro ax wx hk Kx hK; have k12 := hk.base 12 _ rfl rfl; have hj := hk.j; clear hk; have z1 : wx.cell? ⟨g1, q, none⟩ = some (.int .i64 (x1 : Int)) := (hj.cell (p := ⟨g1, q, none⟩) (by rw [hwc0]; exact World.block_lt_of_cell? _ _ HL1.out)).trans (by rw [hwc0]; exact HL1.out); have z2 : wx.cell? ⟨g2, q, none⟩ = some (.int .i64 (x2 : Int)) := (hj.cell (p := ⟨g2, q, none⟩) (by rw [hwc0]; exact World.block_lt_of_cell? _ _ HL2.out)).trans (by rw [hwc0]; exact HL2.out); go_simp; refine hK _ _ ?_ (Below.refl _ _); apply Rg.mk))) ?_ rfl
                    refine Rg.build_cons (m := 2) (r := Rg.eq _) (Rg.one_plain (by rfl) (by (intro ax wx hk Kx hK; have k23 := hk.base 23 _ rfl rfl; have hj := hk.j; clear hk; have z1 : wx.cell? ⟨g1, q, none⟩ = some (.int .i64 (x1 : Int)) := (hj.cell (p := ⟨g1, q, none⟩) (by rw [hwc0]; exact World.block_lt_of_cell? _ _ HL1.out)).trans (by rw [hwc0]; exact HL1.out); have z2 : wx.cell? ⟨g2, q, none⟩ = some (.int .i64 (x2 : Int)) := (hj.cell (p := ⟨g2, q, none⟩) (by rw [hwc0]; exact World.block_lt_of_cell? _ _ HL2.out)).trans (by rw [hwc0]; exact HL2.out); go_simp; refine hK _ _ ?_ (Below.refl _ _); apply Rg.mk))) ?_ rfl
                    refine Rg.build_cons (m := 3) (r := Rg.eq _) (Rg.one_plain (by rfl) (by (intro ax wx hk Kx hK; obtain ⟨v161, k161, h161⟩ := hk.dep 0 161 _ rfl rfl rfl; (first | (cases (h161 : v161 = _)) | (obtain ⟨rfl, h161⟩ := h161) | skip); obtain ⟨v162, k162, h162⟩ := hk.dep 1 162 _ rfl rfl rfl; (first | (cases (h162 : v162 = _)) | (obtain ⟨rfl, h162⟩ := h162) | skip); have hj := hk.j; clear hk; have z1 : wx.cell? ⟨g1, q, none⟩ = some (.int .i64 (x1 : Int)) := (hj.cell (p := ⟨g1, q, none⟩) (by rw [hwc0]; exact World.block_lt_of_cell? _ _ HL1.out)).trans (by rw [hwc0]; exact HL1.out); have z2 : wx.cell? ⟨g2, q, none⟩ = some (.int .i64 (x2 : Int)) := (hj.cell (p := ⟨g2, q, none⟩) (by rw [hwc0]; exact World.block_lt_of_cell? _ _ HL2.out)).trans (by rw [hwc0]; exact HL2.out); go_simp; refine hK _ _ ?_ (Below.refl _ _); apply Rg.mk))) ?_ rfl
                    refine Rg.build_cons (m := 4) (r := Rg.eq _) (Rg.one_plain (by rfl) (by (intro ax wx hk Kx hK; obtain ⟨v163, k163, h163⟩ := hk.dep 2 163 _ rfl rfl rfl; (first | (cases (h163 : v163 = _)) | (obtain ⟨rfl, h163⟩ := h163) | skip); have hj := hk.j; clear hk; have z1 : wx.cell? ⟨g1, q, none⟩ = some (.int .i64 (x1 : Int)) := (hj.cell (p := ⟨g1, q, none⟩) (by rw [hwc0]; exact World.block_lt_of_cell? _ _ HL1.out)).trans (by rw [hwc0]; exact HL1.out); have z2 : wx.cell? ⟨g2, q, none⟩ = some (.int .i64 (x2 : Int)) := (hj.cell (p := ⟨g2, q, none⟩) (by rw [hwc0]; exact World.block_lt_of_cell? _ _ HL2.out)).trans (by rw [hwc0]; exact HL2.out); go_simp; refine hK _ _ ?_ (Below.refl _ _); apply Rg.mk))) ?_ rfl
                    refine Rg.build_cons (m := 5) (r := Rg.eq _) (Rg.one_plain (by rfl) (by (intro ax wx hk Kx hK; have k18 := hk.base 18 _ rfl rfl; have hj := hk.j; clear hk; have z1 : wx.cell? ⟨g1, q, none⟩ = some (.int .i64 (x1 : Int)) := (hj.cell (p := ⟨g1, q, none⟩) (by rw [hwc0]; exact World.block_lt_of_cell? _ _ HL1.out)).trans (by rw [hwc0]; exact HL1.out); have z2 : wx.cell? ⟨g2, q, none⟩ = some (.int .i64 (x2 : Int)) := (hj.cell (p := ⟨g2, q, none⟩) (by rw [hwc0]; exact World.block_lt_of_cell? _ _ HL2.out)).trans (by rw [hwc0]; exact HL2.out); go_simp; refine hK _ _ ?_ (Below.refl _ _); apply Rg.mk))) ?_ rfl
                    refine Rg.build_cons (m := 6) (r := Rg.eq _) (Rg.one_plain (by rfl) (by (intro ax wx hk Kx hK; have k23 := hk.base 23 _ rfl rfl; have hj := hk.j; clear hk; have z1 : wx.cell? ⟨g1, q, none⟩ = some (.int .i64 (x1 : Int)) := (hj.cell (p := ⟨g1, q, none⟩) (by rw [hwc0]; exact World.block_lt_of_cell? _ _ HL1.out)).trans (by rw [hwc0]; exact HL1.out); have z2 : wx.cell? ⟨g2, q, none⟩ = some (.int .i64 (x2 : Int)) := (hj.cell (p := ⟨g2, q, none⟩) (by rw [hwc0]; exact World.block_lt_of_cell? _ _ HL2.out)).trans (by rw [hwc0]; exact HL2.out); go_simp; refine hK _ _ ?_ (Below.refl _ _); apply Rg.mk))) ?_ rfl
                    refine Rg.build_cons (m := 7) (r := Rg.eq _) (Rg.one_plain (by rfl) (by (intro ax wx hk Kx hK; obtain ⟨v165, k165, h165⟩ := hk.dep 4 165 _ rfl rfl rfl; (first | (cases (h165 : v165 = _)) | (obtain ⟨rfl, h165⟩ := h165) | skip); obtain ⟨v166, k166, h166⟩ := hk.dep 5 166 _ rfl rfl rfl; (first | (cases (h166 : v166 = _)) | (obtain ⟨rfl, h166⟩ := h166) | skip); have hj := hk.j; clear hk; have z1 : wx.cell? ⟨g1, q, none⟩ = some (.int .i64 (x1 : Int)) := (hj.cell (p := ⟨g1, q, none⟩) (by rw [hwc0]; exact World.block_lt_of_cell? _ _ HL1.out)).trans (by rw [hwc0]; exact HL1.out); have z2 : wx.cell? ⟨g2, q, none⟩ = some (.int .i64 (x2 : Int)) := (hj.cell (p := ⟨g2, q, none⟩) (by rw [hwc0]; exact World.block_lt_of_cell? _ _ HL2.out)).trans (by rw [hwc0]; exact HL2.out); go_simp; refine hK _ _ ?_ (Below.refl _ _); apply Rg.mk))) ?_ rfl
                    refine Rg.build_cons (m := 8) (r := Rg.eq _) (Rg.one_plain (by rfl) (by (intro ax wx hk Kx hK; obtain ⟨v167, k167, h167⟩ := hk.dep 6 167 _ rfl rfl rfl; (first | (cases (h167 : v167 = _)) | (obtain ⟨rfl, h167⟩ := h167) | skip); have hj := hk.j; clear hk; have z1 : wx.cell? ⟨g1, q, none⟩ = some (.int .i64 (x1 : Int)) := (hj.cell (p := ⟨g1, q, none⟩) (by rw [hwc0]; exact World.block_lt_of_cell? _ _ HL1.out)).trans (by rw [hwc0]; exact HL1.out); have z2 : wx.cell? ⟨g2, q, none⟩ = some (.int .i64 (x2 : Int)) := (hj.cell (p := ⟨g2, q, none⟩) (by rw [hwc0]; exact World.block_lt_of_cell? _ _ HL2.out)).trans (by rw [hwc0]; exact HL2.out); go_simp; refine hK _ _ ?_ (Below.refl _ _); apply Rg.mk))) ?_ rfl
                    refine Rg.build_cons (m := 9) (r := Rg.eq _) (Rg.one_plain (by rfl) (by (intro ax wx hk Kx hK; obtain ⟨v164, k164, h164⟩ := hk.dep 3 164 _ rfl rfl rfl; (first | (cases (h164 : v164 = _)) | (obtain ⟨rfl, h164⟩ := h164) | skip); obtain ⟨v168, k168, h168⟩ := hk.dep 7 168 _ rfl rfl rfl; (first | (cases (h168 : v168 = _)) | (obtain ⟨rfl, h168⟩ := h168) | skip); have hj := hk.j; clear hk; have z1 : wx.cell? ⟨g1, q, none⟩ = some (.int .i64 (x1 : Int)) := (hj.cell (p := ⟨g1, q, none⟩) (by rw [hwc0]; exact World.block_lt_of_cell? _ _ HL1.out)).trans (by rw [hwc0]; exact HL1.out); have z2 : wx.cell? ⟨g2, q, none⟩ = some (.int .i64 (x2 : Int)) := (hj.cell (p := ⟨g2, q, none⟩) (by rw [hwc0]; exact World.block_lt_of_cell? _ _ HL2.out)).trans (by rw [hwc0]; exact HL2.out); go_simp; refine hK _ _ ?_ (Below.refl _ _); apply Rg.mk))) ?_ rfl
                    refine Rg.build_cons (m := 10) (r := Rg.eq _) (Rg.one_plain (by rfl) (by (intro ax wx hk Kx hK; obtain ⟨v169, k169, h169⟩ := hk.dep 8 169 _ rfl rfl rfl; (first | (cases (h169 : v169 = _)) | (obtain ⟨rfl, h169⟩ := h169) | skip); have hj := hk.j; clear hk; have z1 : wx.cell? ⟨g1, q, none⟩ = some (.int .i64 (x1 : Int)) := (hj.cell (p := ⟨g1, q, none⟩) (by rw [hwc0]; exact World.block_lt_of_cell? _ _ HL1.out)).trans (by rw [hwc0]; exact HL1.out); have z2 : wx.cell? ⟨g2, q, none⟩ = some (.int .i64 (x2 : Int)) := (hj.cell (p := ⟨g2, q, none⟩) (by rw [hwc0]; exact World.block_lt_of_cell? _ _ HL2.out)).trans (by rw [hwc0]; exact HL2.out); go_simp; refine hK _ _ ?_ (Below.refl _ _); apply Rg.mk))) ?_ rfl
                    refine Rg.build_end fun wx hj => ?_
                    refine Rg.fin_eq rfl ?_
                    refine Rg.fin_eq rfl ?_
                    refine Rg.fin_eq rfl ?_
                    refine Rg.fin_eq rfl ?_
                    refine Rg.fin_eq rfl ?_
                    refine Rg.fin_eq rfl ?_
                    refine Rg.fin_eq rfl ?_
                    refine Rg.fin_eq rfl ?_
                    refine Rg.fin_eq rfl ?_
                    refine Rg.fin_eq rfl ?_
                    refine Rg.fin_nil ?_
                    simp only [List.set_cons_zero, List.set_cons_succ]
                    have HJ := Lib.hid hj; have HWC := Lib.hid hwc0
                    clear hj hwc0
                    go_wp2_with fail
                    exact ⟨⟨q + 1, _, by go_num, rfl, HQC.out, HBC.out.trans (by have := HJ.out; rw [HWC.out] at this; exact this.mono HBC.out.size), fun hb => ⟨HLE.out.symm ▸ rfl, fun j hj hj' hjq => by
                      rcases Nat.lt_succ_iff_lt_or_eq.1 hjq with h1 | h1
                      · exact HALL.out j hj hj' h1
                      · subst h1
                        have e3 : x1 = x2 := by simp at hb; omega
                        exact HX1.out.trans (e3.trans HX2.out.symm)⟩⟩, by simp [intOf]; have := HQC.out; omega⟩
                  · have hqe : q = NOW.length := by omega
                    obtain ⟨hle, hall⟩ := HBB.out rfl
                    have HSAME : Hid (NOW = NN) := Lib.hid (List.ext_getElem hle fun j h1 h2 => hall j h1 h2 (by omega))
                    clear hle hall
                    subst hqe
                    have n0 : wr.cell? ⟨w.heap.size, 0, none⟩ = some (.int .i64 4) := (AtG.keepB HA3.out HBC.out).cell 0 _ rfl
                    have HOV := Lib.hid (HOV3.out.below HBC.out); have HLV := Lib.hid (HNX3.out.below HBC.out); have HND := HND3; have HNB := HNB3; have HLB := HNXB; have HOB := HOB3
                    have HBW : Hid (w.heap.size + 1 ≤ wr.heap.size) := Lib.hid (by have := HA3.out.lt; have := HBC.out.size; omega)
                    have HB4 := Lib.hid (HB3.out.trans (HBC.out.mono HB3.out.size))
                    have hllI : (NN.length : Int) ≤ 1001 := hnnI
                    obtain ⟨wf, hwf⟩ : ∃ wf : World, wf = wr := ⟨_, rfl⟩
                    rw [← hwf] at HOV HLV HBW HB4 n0 ⊢
                    clear hwf
                    go_wp2_with fail
                    go_loopw [13, 24] (fun t i wr => ∃ (q : Nat) (v : Value), i = .int .i64 q ∧ v = t ∧ Added wf (w.heap.size + 1) (ov3) (OUT3) (NN) q wr v) (fun _ i _ => (NN).length - (intOf i).toNat)
                    case atStart => exact ⟨0, _, rfl, rfl, Added.start HOV.out HND.out⟩
                    case round =>
                      obtain ⟨q, v, rfl, hv, hadd⟩ := hrel
                      subst hv
                      obtain ⟨N, hN, hNd, hNm⟩ := hadd.ex
                      have HADD := Lib.hid hadd; have HN := Lib.hid hN; have HNd := Lib.hid hNd; have HNm := Lib.hid hNm
                      clear hadd hN hNd hNm
                      by_cases hlq : q < (NN).length
                      · obtain ⟨lg, rfl, hlc, hcell⟩ := OwnL.cell (HLV.out.only HADD.out.only HNB.out) q hlq
                        have hxb : (NN)[q] ≤ xs.length := HLB.out _ (List.getElem_mem hlq)
                        have HAD := Lib.hid (add_any wr (w.heap.size + 1) v N (NN)[q] HN.out (Nat.le_trans HBW.out HADD.out.only.size) (by
                          have := nodup_len (m := xs.length + 1) HNd.out (fun y hy => by
                            rcases (HNm.out y).1 hy with h | h
                            · have := HOB.out y h; omega
                            · have := HLB.out y (List.mem_of_mem_take h); omega)
                          omega) (by omega))
                        have HLQ := Lib.hid hlq
                        generalize hxq : (NN)[q] = xq at hcell HAD hxb
                        have HXQ := Lib.hid hxq
                        clear hxq
                        go_wp2_with fail
                        refine (HAD.out).mono ?_
                        rintro e9 wa ⟨v', rfl, h1, h2, h3⟩
                        have HST := Lib.hid (Added.step HADD.out HLQ.out HNm.out HNd.out (by have e := HXQ.out; subst e; exact h1) h2 h3)
                        clear h1 h2 h3
                        go_wp2_with fail
                        exact ⟨⟨q + 1, v', by go_num, rfl, HST.out⟩, by simp [intOf]; omega⟩
                      · have hq0 : q = (NN).length := by have := HADD.out.le; omega
                        subst hq0
                        have HNm2 : Hid (∀ y, y ∈ N ↔ y ∈ (OUT3) ∨ y ∈ (NN)) := Lib.hid (fun y => by rw [HNm.out y, List.take_length])
                        have HB5 := Lib.hid (below_only HB4.out HADD.out.only (by have := HBW.out; omega) (fun r hr => by have := own_base HOV.out r hr; omega))
                        go_wp2_with fail
                        go_returns
                        refine ⟨HB5.out, v, rfl, N, own_lower HN.out (by omega), HNd.out, fun y => ?_⟩
                        rw [HNm2.out y, HOM3.out y, HNXM.out y]
                        have hst : ∀ i, img R (imgN R (fun j => j = fr) (t + 1)) i ↔ imgN R (fun j => j = fr) (t + 1) i := fun i => by
                          have hsame : ∀ i, imgN R (fun j => j = fr) t i ↔ imgN R (fun j => j = fr) (t + 1) i := fun i => by
                            rw [← HNOWM.out i, ← HNXM.out i, HSAME.out]
                          exact img_congr (fun i => (hsame i).symm) i
                        have hlt := HLT.out
                        exact (rep_stop hst (by omega) HMN.out y).symm.trans (HPOST.out y).symm
                | false =>
                  clear HBB
                  by_cases hqc : q < NOW.length
                  · skip
                    have n0 : wr.cell? ⟨w.heap.size, 0, none⟩ = some (.int .i64 4) := (AtG.keepB HA3.out HBC.out).cell 0 _ rfl
                    have HA4 := Lib.hid (AtG.keepB HA3.out HBC.out); have HB4 := Lib.hid (HB3.out.trans (HBC.out.mono HB3.out.size)); have HOV4 := Lib.hid (HOV3.out.below HBC.out); have HNX4 := Lib.hid (HNX3.out.below HBC.out)
                    go_wp2_with fail
                    exact ⟨⟨t + 1, _, _, NN, OUT3, rfl, rfl, by go_num, HLT.out, HA4.out, HB4.out, HNX4.out, HNNd.out, HNXM.out, HOV4.out, HND3.out, HOM3.out, HNB3.out⟩, by simp [intOf]; have := HLT.out; omega⟩
                  · skip
                    have n0 : wr.cell? ⟨w.heap.size, 0, none⟩ = some (.int .i64 4) := (AtG.keepB HA3.out HBC.out).cell 0 _ rfl
                    have HA4 := Lib.hid (AtG.keepB HA3.out HBC.out); have HB4 := Lib.hid (HB3.out.trans (HBC.out.mono HB3.out.size)); have HOV4 := Lib.hid (HOV3.out.below HBC.out); have HNX4 := Lib.hid (HNX3.out.below HBC.out)
                    go_wp2_with fail
                    exact ⟨⟨t + 1, _, _, NN, OUT3, rfl, rfl, by go_num, HLT.out, HA4.out, HB4.out, HNX4.out, HNNd.out, HNXM.out, HOV4.out, HND3.out, HOM3.out, HNB3.out⟩, by simp [intOf]; have := HLT.out; omega⟩
    · have htx : t = mx := by omega
      have hltI : ¬ (t : Int) < (mx : Int) := by omega
      have HOV := HOUT; have HLV := HNOW0; have HND := HOND; have HNB := HNB0; have HLB := HNOWB; have HOB := HOB0
      have HBW : Hid (w.heap.size + 1 ≤ wr.heap.size) := HWL
      have hllI : (NOW.length : Int) ≤ 1001 := hnowI
      obtain ⟨wf, hwf⟩ : ∃ wf : World, wf = wr := ⟨_, rfl⟩
      rw [← hwf] at HOV HLV HBW HB ⊢
      clear hwf n0 n5 n7
      go_wp2_with fail
      go_loopw [13, 24] (fun t i wr => ∃ (q : Nat) (v : Value), i = .int .i64 q ∧ v = t ∧ Added wf (w.heap.size + 1) (ov) (OUT) (NOW) q wr v) (fun _ i _ => (NOW).length - (intOf i).toNat)
      case atStart => exact ⟨0, _, rfl, rfl, Added.start HOV.out HND.out⟩
      case round =>
        obtain ⟨q, v, rfl, hv, hadd⟩ := hrel
        subst hv
        obtain ⟨N, hN, hNd, hNm⟩ := hadd.ex
        have HADD := Lib.hid hadd; have HN := Lib.hid hN; have HNd := Lib.hid hNd; have HNm := Lib.hid hNm
        clear hadd hN hNd hNm
        by_cases hlq : q < (NOW).length
        · obtain ⟨lg, rfl, hlc, hcell⟩ := OwnL.cell (HLV.out.only HADD.out.only HNB.out) q hlq
          have hxb : (NOW)[q] ≤ xs.length := HLB.out _ (List.getElem_mem hlq)
          have HAD := Lib.hid (add_any wr (w.heap.size + 1) v N (NOW)[q] HN.out (Nat.le_trans HBW.out HADD.out.only.size) (by
            have := nodup_len (m := xs.length + 1) HNd.out (fun y hy => by
              rcases (HNm.out y).1 hy with h | h
              · have := HOB.out y h; omega
              · have := HLB.out y (List.mem_of_mem_take h); omega)
            omega) (by omega))
          have HLQ := Lib.hid hlq
          generalize hxq : (NOW)[q] = xq at hcell HAD hxb
          have HXQ := Lib.hid hxq
          clear hxq
          go_wp2_with fail
          refine (HAD.out).mono ?_
          rintro e9 wa ⟨v', rfl, h1, h2, h3⟩
          have HST := Lib.hid (Added.step HADD.out HLQ.out HNm.out HNd.out (by have e := HXQ.out; subst e; exact h1) h2 h3)
          clear h1 h2 h3
          go_wp2_with fail
          exact ⟨⟨q + 1, v', by go_num, rfl, HST.out⟩, by simp [intOf]; omega⟩
        · have hq0 : q = (NOW).length := by have := HADD.out.le; omega
          subst hq0
          have HNm2 : Hid (∀ y, y ∈ N ↔ y ∈ (OUT) ∨ y ∈ (NOW)) := Lib.hid (fun y => by rw [HNm.out y, List.take_length])
          have HB5 := Lib.hid (below_only HB.out HADD.out.only (by have := HBW.out; omega) (fun r hr => by have := own_base HOV.out r hr; omega))
          go_wp2_with fail
          go_returns
          refine ⟨HB5.out, v, rfl, N, own_lower HN.out (by omega), HNd.out, fun y => ?_⟩
          rw [HNm2.out y, HOM.out y, HNOWM.out y, HPOST.out y]
          have hmn := HMN.out
          constructor
          · rintro (⟨u, a1, a2, a3⟩ | a3)
            · exact ⟨u, a1, by omega, a3⟩
            · exact ⟨t, by omega, htm, a3⟩
          · rintro ⟨u, a1, a2, a3⟩
            by_cases e : u = t
            · subst e; exact .inr a3
            · exact .inl ⟨u, a1, by omega, a3⟩
end Go.Proofs.Ytofgkildlhcpdaa
/- The walk of the document's Ends: one behind the other. -/
set_option linter.unusedVariables false
set_option linter.unusedSimpArgs false
namespace Go.Proofs.Ytofgkildlhcpdaa
open Go.RowKit Bt
theorem AtG.keepB2 {w w' : World} {g T : Nat} {cs : Array Value} (h : AtG w g T cs) (hb : Below w.heap.size w w') : AtG w' g T cs := h.below hb
theorem mtC_app (b : Nat → Nat) (n : Nat) (l : List Pat) (p : Pat) (j i : Nat) : MtC b n (l ++ [p]) j i ↔ ∃ x, MtC b n l j x ∧ Mt b n p x i := by
  induction l generalizing j with
  | nil =>
    rw [List.nil_append, MtC]
    constructor
    · rintro ⟨x, h1, h2⟩; rw [MtC] at h2; subst h2; exact ⟨j, by rw [MtC], h1⟩
    · rintro ⟨x, h1, h2⟩; rw [MtC] at h1; subst h1; exact ⟨i, h2, by rw [MtC]⟩
  | cons q l ih =>
    rw [List.cons_append, MtC]
    constructor
    · rintro ⟨x, h1, h2⟩
      obtain ⟨y, h3, h4⟩ := (ih x).1 h2
      exact ⟨y, by rw [MtC]; exact ⟨x, h1, h3⟩, h4⟩
    · rintro ⟨y, h1, h2⟩
      rw [MtC] at h1
      obtain ⟨x, h3, h4⟩ := h1
      exact ⟨x, h3, (ih x).2 ⟨y, h4, h2⟩⟩
set_option maxRecDepth 100000 in
set_option maxHeartbeats 4000000 in
theorem rends_cat (l : List Pat) (hl2 : l.length ≤ 1000) (hl3 : 2 ≤ l.length) (ih : ∀ p ∈ l, REndsC p) : REndsC (.cat l) := by
  intro w a m c wv xs fr hn hx hl hf
  obtain rfl : m = l.length := by
    obtain ⟨a', c', hh⟩ := KAt.slice hn
    injection hh with _ hh _
    rw [trees_len] at hh; exact hh
  obtain ⟨A, wc, rfl⟩ := rdB_slice hx
  have HX := Lib.hid hx
  have hnI : (xs.length : Int) ≤ 1000 := by omega
  have hfI : (fr : Int) ≤ (xs.length : Int) := by omega
  have hlI : (l.length : Int) ≤ 1000 := by omega
  obtain ⟨b, off, cap, heq, hcap, op0, f0, mn0, mx0, kids0, ka0, kc0, ht0, hk0, hkn0⟩ := kid_at hn (trees_get (k := 0) (show 0 < l.length by omega))
  injection heq with e1 e2 e3
  subst e1; subst e3
  clear e2 hkn0 ht0
  rw [trees_len] at hcap
  obtain ⟨kn0, hkl0⟩ : ∃ kn, kn = kids0.length := ⟨_, rfl⟩
  have hz8 : off + 0 * 8 = off := by omega
  rw [← hkl0, hz8] at hk0
  have HK0 := Lib.hid hk0
  have HN0 := Lib.hid hn
  obtain ⟨w0, hw0⟩ : ∃ w0 : World, w0 = (w.alloc (.cells (nodeC 2 emp 0 0 (.slice (some ⟨b, off, none⟩) l.length c)) 29)).alloc (.cells #[.int .i64 (fr : Int)] 3) := ⟨_, rfl⟩
  have HA : Hid (AtG w0 w.heap.size 29 (nodeC 2 emp 0 0 (.slice (some ⟨b, off, none⟩) l.length c))) := Lib.hid (by rw [hw0]; exact (AtG.new _ _ _).alloc _)
  have HFR : Hid (OwnL w0 (w.heap.size + 1) (.slice (some ⟨w.heap.size + 1, 0, none⟩) 1 1) [fr]) := Lib.hid (by
    rw [hw0]
    have := AtG.new (w.alloc (.cells (nodeC 2 emp 0 0 (.slice (some ⟨b, off, none⟩) l.length c)) 29)) 3 #[.int .i64 (fr : Int)]
    exact OwnL.one (by simpa using this) (Nat.le_refl _))
  have HB0 : Hid (Below w.heap.size w w0) := Lib.hid (by rw [hw0]; go_grown)
  have hw0' : (w.alloc (.cells #[.int .i64 2, .int .u64 ((wd emp 0 : Nat) : Int), .int .u64 ((wd emp 1 : Nat) : Int), .int .u64 ((wd emp 2 : Nat) : Int), .int .u64 ((wd emp 3 : Nat) : Int), .int .i64 0, .int .i64 0, .slice (some ⟨b, off, none⟩) l.length c] 29)).alloc (.cells #[.int .i64 (fr : Int)] 3) = w0 := hw0.symm
  have m0 : w0.cell? ⟨w.heap.size, 0, none⟩ = some (.int .i64 2) := HA.out.cell 0 _ rfl
  have m7 : w0.cell? ⟨w.heap.size, 7, none⟩ = some (.slice (some ⟨b, off, none⟩) l.length c) := HA.out.cell 7 _ rfl
  have HFL := Lib.hid hf
  clear hn hx hw0 hz8 hk0 hkl0
  show Calls Try.prog 40 #[.agg #[.int .i64 2, .int .u64 ((wd emp 0 : Nat) : Int), .int .u64 ((wd emp 1 : Nat) : Int), .int .u64 ((wd emp 2 : Nat) : Int), .int .u64 ((wd emp 3 : Nat) : Int), .int .i64 0, .int .i64 0, .slice (some ⟨b, off, none⟩) l.length c], _, _] w _
  go_enter Try.func40, Try.ntmps40
  go_wp2_with fail
  go_loopw [12, 13, 15] (fun t12 t13 i wr => ∃ (k : Nat) (nv : Value) (NOW : List Nat), nv = t12 ∧ t13 = .slice none 0 0 ∧ i = .int .i64 k ∧ k ≤ l.length ∧ AtG wr w.heap.size 29 (nodeC 2 emp 0 0 (.slice (some ⟨b, off, none⟩) l.length c)) ∧ Below w.heap.size w wr ∧ OwnL wr (w.heap.size + 1) nv NOW ∧ NOW.Nodup ∧ ∀ y, y ∈ NOW ↔ MtC (byt xs) xs.length (l.take k) fr y) (fun _ _ i _ => l.length - (intOf i).toNat)
  case atStart => exact ⟨0, _, [fr], rfl, rfl, rfl, Nat.zero_le _, HA.out, HB0.out, HFR.out, by simp, fun y => by rw [List.take_zero, MtC]; simp⟩
  case round =>
    clear hw0' m0 m7 HA HB0 HFR
    obtain ⟨k, nv, NOW, hnv, rfl, rfl, hk, ha, hb, hnow, hnnd, hnm⟩ := hrel
    subst hnv
    have HA := Lib.hid ha; have HB := Lib.hid hb; have HNOW0 := Lib.hid hnow; have HNND := Lib.hid hnnd; have HNOWM := Lib.hid hnm
    have n0 : wr.cell? ⟨w.heap.size, 0, none⟩ = some (.int .i64 2) := ha.cell 0 _ rfl
    have n7 : wr.cell? ⟨w.heap.size, 7, none⟩ = some (.slice (some ⟨b, off, none⟩) l.length c) := ha.cell 7 _ rfl
    have HNOWB : Hid (∀ y ∈ NOW, y ≤ xs.length) := Lib.hid (fun y hy => mt_le (byt xs) xs.length (.cat (l.take k)) fr y HFL.out (by rw [Mt]; exact (hnm y).1 hy))
    have hnowI : (NOW.length : Int) ≤ 1001 := by
      have := nodup_len (m := xs.length + 1) hnnd (fun y hy => by have := HNOWB.out y hy; omega)
      omega
    have HWL := Lib.hid ha.lt
    obtain ⟨nva, nvc, rfl, _⟩ := OwnL.at hnow
    clear ha hb hnow hnnd hnm
    by_cases hlt : k < l.length
    · have hltI : (k : Int) < (l.length : Int) := by omega
      obtain ⟨b2, off2, cap, heq, hcap2, op', f', mn', mx', kids', ka, kc, ht, hc8, hkn⟩ := kid_at HN0.out (trees_get hlt)
      injection heq with e1 e2 e3
      injection e1 with e1
      injection e1 with e1 e4
      subst e1; subst e4; subst e3
      clear e2 hcap2
      have hI := ih l[k] (List.getElem_mem hlt)
      unfold REndsC at hI
      rw [ht] at hI hkn
      have hI2 := fun w f h1 h2 h3 => hI w ka kids'.length kc (.slice A xs.length wc) xs f h1 h2 hl h3
      unfold nodeV at hI2
      have HTK : Hid (l.take (k + 1) = l.take k ++ [l[k]]) := Lib.hid (List.take_succ_eq_append_getElem hlt)
      generalize hpk : l[k] = pk at *
      have HLT := Lib.hid hlt
      have HI := Lib.hid hI2; have HKN := Lib.hid hkn
      obtain ⟨kn, hkl⟩ : ∃ kn, kn = kids'.length := ⟨_, rfl⟩
      rw [← hkl] at HKN HI hc8
      obtain ⟨c0, c1, c2, c3, c4, c5, c6, c7⟩ := Cell8.below hc8 HB.out
      obtain ⟨d0, d1, d2, d3, d4, d5, d6, d7⟩ := Cell8.below HK0.out HB.out
      obtain ⟨wr0, hwr0⟩ : ∃ wr0 : World, wr0 = wr := ⟨_, rfl⟩
      have HWR0 := Lib.hid hwr0
      have hwl : w.heap.size < wr.heap.size := HWL.out
      have hwn : ¬ w.heap.size = wr.heap.size := by omega
      have hbl : b < wr.heap.size := World.block_lt_of_cell? _ _ c0
      have hbn : ¬ b = wr.heap.size := by omega
      have hl0 : (0 : Int) < (l.length : Int) := by omega
      clear hwr0 hI hI2 hkn hkl ht hc8 hpk
      go_upto_region 30 with (fail)
      have hwr0 := HWR0.out
      clear hwl hwn hbl hbn
      obtain ⟨W1, hW1⟩ : ∃ W1 : World, W1 = wr.alloc (.cells (nodeC op' f' mn' mx' (.slice ka kn kc)) 29) := ⟨_, rfl⟩
      have hW1' : wr.alloc (.cells #[.int .i64 op', .int .u64 ((wd f' 0 : Nat) : Int), .int .u64 ((wd f' 1 : Nat) : Int), .int .u64 ((wd f' 2 : Nat) : Int), .int .u64 ((wd f' 3 : Nat) : Int), .int .i64 mn', .int .i64 mx', .slice ka kn kc] 29) = W1 := hW1.symm
      rw [hW1']
      have HA2 : Hid (AtG W1 w.heap.size 29 (nodeC 2 emp 0 0 (.slice (some ⟨b, off, none⟩) l.length c))) := Lib.hid (by rw [hW1]; exact HA.out.alloc _)
      have HBW1 : Hid (Below w.heap.size w W1) := Lib.hid (by rw [hW1]; exact HB.out.alloc HB.out.size _)
      have HNOW : Hid (OwnL W1 (w.heap.size + 1) (.slice nva NOW.length nvc) NOW) := Lib.hid (by rw [hW1]; exact HNOW0.out.below ((Below.refl _ _).alloc (Nat.le_refl _) _))
      have HKC : Hid (AtG W1 wr0.heap.size 29 (nodeC op' f' mn' mx' (.slice ka kn kc))) := Lib.hid (by rw [hW1, hwr0]; exact AtG.new _ _ _)
      rw [← hwr0]
      have n0 : W1.cell? ⟨w.heap.size, 0, none⟩ = some (.int .i64 2) := HA2.out.cell 0 _ rfl
      clear hW1 hW1' hwr0 c0 c1 c2 c3 c4 c5 c6 c7 d0 d1 d2 d3 d4 d5 d6 d7 HA HB HNOW0 HWL n7
      go_wp2_with fail
      go_loopw [18, 19] (fun t i wr => ∃ (q : Nat) (v : Value), i = .int .i64 q ∧ v = t ∧ q ≤ NOW.length ∧ Below W1.heap.size W1 wr ∧ ∃ N, OwnL wr W1.heap.size v N ∧ N.Nodup ∧ ∀ y, y ∈ N ↔ ∃ x, x ∈ NOW.take q ∧ Mt (byt xs) xs.length pk x y) (fun _ i _ => NOW.length - (intOf i).toNat)
      case atStart => exact ⟨0, _, rfl, rfl, Nat.zero_le _, Below.refl _ _, [], OwnL.nil _ _, by simp, fun y => by simp⟩
      case round =>
        obtain ⟨qn, vn, rfl, hv, hqn, hbn, NN, hN, hNd, hNm⟩ := hrel
        subst hv
        have HBN := Lib.hid hbn; have HNN := Lib.hid hN; have HNNd := Lib.hid hNd; have HNNm := Lib.hid hNm
        clear hbn hN hNd hNm
        by_cases hqlt : qn < NOW.length
        · obtain ⟨ng, heq9, hnc, hncell⟩ := OwnL.cell HNOW.out qn hqlt
          have hxb : NOW[qn] ≤ xs.length := HNOWB.out _ (List.getElem_mem hqlt)
          have HQLT := Lib.hid hqlt
          generalize hxq : NOW[qn] = xq at hncell hxb
          have HXQ := Lib.hid hxq; have HNC := Lib.hid hncell; have HXB := Lib.hid hxb
          have HNG : Hid (ng < W1.heap.size) := Lib.hid (World.block_lt_of_cell? _ _ hncell)
          clear hxq hncell
          subst heq9
          go_upto_region 39 with (fail)
          obtain ⟨wn0, hwn0⟩ : ∃ wn0 : World, wn0 = wr := ⟨_, rfl⟩
          refine Rg.wp_region_each (by kernel_rfl) (fun w' => Below W1.heap.size W1 w' ∧ OwnL w' W1.heap.size vn NN ∧ wn0.heap.size ≤ w'.heap.size) (fun w1 w2 h hb => ⟨h.1.trans (hb.mono h.1.size), h.2.1.below hb, Nat.le_trans h.2.2 hb.size⟩) (by kernel_rfl) (by kernel_rfl) (⟨HBN.out, HNN.out, by rw [hwn0]; exact Nat.le_refl _⟩) ?_
          show Rg.Build _ _ _ _ _ 0 [_, _, _, _, _, _, _, _] []
          refine Rg.build_cons (m := 1) (r := Rg.eq _) (Rg.one_plain (by rfl) (by (intro ax wx hk Kx hK; have k16 := hk.base 16 _ rfl rfl; have hj := hk.j; clear hk; have HT : AtG wx wr0.heap.size 29 (nodeC op' f' mn' mx' (.slice ka kn kc)) := AtG.keepB HKC.out hj.1; have q0 : wx.cell? ⟨wr0.heap.size, 0, none⟩ = some (.int .i64 op') := HT.cell 0 _ rfl; have q1 : wx.cell? ⟨wr0.heap.size, 1, none⟩ = some (.int .u64 ((wd f' 0 : Nat) : Int)) := HT.cell 1 _ rfl; have q2 : wx.cell? ⟨wr0.heap.size, 2, none⟩ = some (.int .u64 ((wd f' 1 : Nat) : Int)) := HT.cell 2 _ rfl; have q3 : wx.cell? ⟨wr0.heap.size, 3, none⟩ = some (.int .u64 ((wd f' 2 : Nat) : Int)) := HT.cell 3 _ rfl; have q4 : wx.cell? ⟨wr0.heap.size, 4, none⟩ = some (.int .u64 ((wd f' 3 : Nat) : Int)) := HT.cell 4 _ rfl; have q5 : wx.cell? ⟨wr0.heap.size, 5, none⟩ = some (.int .i64 mn') := HT.cell 5 _ rfl; have q6 : wx.cell? ⟨wr0.heap.size, 6, none⟩ = some (.int .i64 mx') := HT.cell 6 _ rfl; have q7 : wx.cell? ⟨wr0.heap.size, 7, none⟩ = some (.slice ka kn kc) := HT.cell 7 _ rfl; have nq : wx.cell? ⟨ng, qn, none⟩ = some (.int .i64 (xq : Int)) := (hj.1.cell (p := ⟨ng, qn, none⟩) HNG.out).trans HNC.out; go_simp; refine hK _ _ ?_ (Below.refl _ _); apply Rg.mk))) ?_ rfl
          refine Rg.build_cons (m := 2) (r := Rg.eq _) (Rg.one_plain (by rfl) (by (intro ax wx hk Kx hK; have k1 := hk.base 1 _ rfl rfl; have hj := hk.j; clear hk; have HT : AtG wx wr0.heap.size 29 (nodeC op' f' mn' mx' (.slice ka kn kc)) := AtG.keepB HKC.out hj.1; have q0 : wx.cell? ⟨wr0.heap.size, 0, none⟩ = some (.int .i64 op') := HT.cell 0 _ rfl; have q1 : wx.cell? ⟨wr0.heap.size, 1, none⟩ = some (.int .u64 ((wd f' 0 : Nat) : Int)) := HT.cell 1 _ rfl; have q2 : wx.cell? ⟨wr0.heap.size, 2, none⟩ = some (.int .u64 ((wd f' 1 : Nat) : Int)) := HT.cell 2 _ rfl; have q3 : wx.cell? ⟨wr0.heap.size, 3, none⟩ = some (.int .u64 ((wd f' 2 : Nat) : Int)) := HT.cell 3 _ rfl; have q4 : wx.cell? ⟨wr0.heap.size, 4, none⟩ = some (.int .u64 ((wd f' 3 : Nat) : Int)) := HT.cell 4 _ rfl; have q5 : wx.cell? ⟨wr0.heap.size, 5, none⟩ = some (.int .i64 mn') := HT.cell 5 _ rfl; have q6 : wx.cell? ⟨wr0.heap.size, 6, none⟩ = some (.int .i64 mx') := HT.cell 6 _ rfl; have q7 : wx.cell? ⟨wr0.heap.size, 7, none⟩ = some (.slice ka kn kc) := HT.cell 7 _ rfl; have nq : wx.cell? ⟨ng, qn, none⟩ = some (.int .i64 (xq : Int)) := (hj.1.cell (p := ⟨ng, qn, none⟩) HNG.out).trans HNC.out; go_simp; refine hK _ _ ?_ (Below.refl _ _); apply Rg.mk))) ?_ rfl
          refine Rg.build_cons (m := 3) (r := Rg.eq _) (Rg.one_plain (by rfl) (by (intro ax wx hk Kx hK; have k12 := hk.base 12 _ rfl rfl; have hj := hk.j; clear hk; have HT : AtG wx wr0.heap.size 29 (nodeC op' f' mn' mx' (.slice ka kn kc)) := AtG.keepB HKC.out hj.1; have q0 : wx.cell? ⟨wr0.heap.size, 0, none⟩ = some (.int .i64 op') := HT.cell 0 _ rfl; have q1 : wx.cell? ⟨wr0.heap.size, 1, none⟩ = some (.int .u64 ((wd f' 0 : Nat) : Int)) := HT.cell 1 _ rfl; have q2 : wx.cell? ⟨wr0.heap.size, 2, none⟩ = some (.int .u64 ((wd f' 1 : Nat) : Int)) := HT.cell 2 _ rfl; have q3 : wx.cell? ⟨wr0.heap.size, 3, none⟩ = some (.int .u64 ((wd f' 2 : Nat) : Int)) := HT.cell 3 _ rfl; have q4 : wx.cell? ⟨wr0.heap.size, 4, none⟩ = some (.int .u64 ((wd f' 3 : Nat) : Int)) := HT.cell 4 _ rfl; have q5 : wx.cell? ⟨wr0.heap.size, 5, none⟩ = some (.int .i64 mn') := HT.cell 5 _ rfl; have q6 : wx.cell? ⟨wr0.heap.size, 6, none⟩ = some (.int .i64 mx') := HT.cell 6 _ rfl; have q7 : wx.cell? ⟨wr0.heap.size, 7, none⟩ = some (.slice ka kn kc) := HT.cell 7 _ rfl; have nq : wx.cell? ⟨ng, qn, none⟩ = some (.int .i64 (xq : Int)) := (hj.1.cell (p := ⟨ng, qn, none⟩) HNG.out).trans HNC.out; go_simp; refine hK _ _ ?_ (Below.refl _ _); apply Rg.mk))) ?_ rfl
          refine Rg.build_cons (m := 4) (r := Rg.eq _) (Rg.one_plain (by rfl) (by (intro ax wx hk Kx hK; have k19 := hk.base 19 _ rfl rfl; have hj := hk.j; clear hk; have HT : AtG wx wr0.heap.size 29 (nodeC op' f' mn' mx' (.slice ka kn kc)) := AtG.keepB HKC.out hj.1; have q0 : wx.cell? ⟨wr0.heap.size, 0, none⟩ = some (.int .i64 op') := HT.cell 0 _ rfl; have q1 : wx.cell? ⟨wr0.heap.size, 1, none⟩ = some (.int .u64 ((wd f' 0 : Nat) : Int)) := HT.cell 1 _ rfl; have q2 : wx.cell? ⟨wr0.heap.size, 2, none⟩ = some (.int .u64 ((wd f' 1 : Nat) : Int)) := HT.cell 2 _ rfl; have q3 : wx.cell? ⟨wr0.heap.size, 3, none⟩ = some (.int .u64 ((wd f' 2 : Nat) : Int)) := HT.cell 3 _ rfl; have q4 : wx.cell? ⟨wr0.heap.size, 4, none⟩ = some (.int .u64 ((wd f' 3 : Nat) : Int)) := HT.cell 4 _ rfl; have q5 : wx.cell? ⟨wr0.heap.size, 5, none⟩ = some (.int .i64 mn') := HT.cell 5 _ rfl; have q6 : wx.cell? ⟨wr0.heap.size, 6, none⟩ = some (.int .i64 mx') := HT.cell 6 _ rfl; have q7 : wx.cell? ⟨wr0.heap.size, 7, none⟩ = some (.slice ka kn kc) := HT.cell 7 _ rfl; have nq : wx.cell? ⟨ng, qn, none⟩ = some (.int .i64 (xq : Int)) := (hj.1.cell (p := ⟨ng, qn, none⟩) HNG.out).trans HNC.out; go_simp; refine hK _ _ ?_ (Below.refl _ _); apply Rg.mk))) ?_ rfl
          refine Rg.build_cons (m := 5) (r := Rg.eq _) (Rg.one_plain (by rfl) (by (intro ax wx hk Kx hK; obtain ⟨v130, k130, h130⟩ := hk.dep 2 130 _ rfl rfl rfl; (first | (cases (h130 : v130 = _)) | (obtain ⟨rfl, h130⟩ := h130) | skip); obtain ⟨v131, k131, h131⟩ := hk.dep 3 131 _ rfl rfl rfl; (first | (cases (h131 : v131 = _)) | (obtain ⟨rfl, h131⟩ := h131) | skip); have hj := hk.j; clear hk; have HT : AtG wx wr0.heap.size 29 (nodeC op' f' mn' mx' (.slice ka kn kc)) := AtG.keepB HKC.out hj.1; have q0 : wx.cell? ⟨wr0.heap.size, 0, none⟩ = some (.int .i64 op') := HT.cell 0 _ rfl; have q1 : wx.cell? ⟨wr0.heap.size, 1, none⟩ = some (.int .u64 ((wd f' 0 : Nat) : Int)) := HT.cell 1 _ rfl; have q2 : wx.cell? ⟨wr0.heap.size, 2, none⟩ = some (.int .u64 ((wd f' 1 : Nat) : Int)) := HT.cell 2 _ rfl; have q3 : wx.cell? ⟨wr0.heap.size, 3, none⟩ = some (.int .u64 ((wd f' 2 : Nat) : Int)) := HT.cell 3 _ rfl; have q4 : wx.cell? ⟨wr0.heap.size, 4, none⟩ = some (.int .u64 ((wd f' 3 : Nat) : Int)) := HT.cell 4 _ rfl; have q5 : wx.cell? ⟨wr0.heap.size, 5, none⟩ = some (.int .i64 mn') := HT.cell 5 _ rfl; have q6 : wx.cell? ⟨wr0.heap.size, 6, none⟩ = some (.int .i64 mx') := HT.cell 6 _ rfl; have q7 : wx.cell? ⟨wr0.heap.size, 7, none⟩ = some (.slice ka kn kc) := HT.cell 7 _ rfl; have nq : wx.cell? ⟨ng, qn, none⟩ = some (.int .i64 (xq : Int)) := (hj.1.cell (p := ⟨ng, qn, none⟩) HNG.out).trans HNC.out; go_simp; refine hK _ _ ?_ (Below.refl _ _); apply Rg.mk))) ?_ rfl
          refine Rg.build_cons (m := 6) (r := Rg.eq _) (Rg.one_plain (by rfl) (by (intro ax wx hk Kx hK; obtain ⟨v132, k132, h132⟩ := hk.dep 4 132 _ rfl rfl rfl; (first | (cases (h132 : v132 = _)) | (obtain ⟨rfl, h132⟩ := h132) | skip); have hj := hk.j; clear hk; have HT : AtG wx wr0.heap.size 29 (nodeC op' f' mn' mx' (.slice ka kn kc)) := AtG.keepB HKC.out hj.1; have q0 : wx.cell? ⟨wr0.heap.size, 0, none⟩ = some (.int .i64 op') := HT.cell 0 _ rfl; have q1 : wx.cell? ⟨wr0.heap.size, 1, none⟩ = some (.int .u64 ((wd f' 0 : Nat) : Int)) := HT.cell 1 _ rfl; have q2 : wx.cell? ⟨wr0.heap.size, 2, none⟩ = some (.int .u64 ((wd f' 1 : Nat) : Int)) := HT.cell 2 _ rfl; have q3 : wx.cell? ⟨wr0.heap.size, 3, none⟩ = some (.int .u64 ((wd f' 2 : Nat) : Int)) := HT.cell 3 _ rfl; have q4 : wx.cell? ⟨wr0.heap.size, 4, none⟩ = some (.int .u64 ((wd f' 3 : Nat) : Int)) := HT.cell 4 _ rfl; have q5 : wx.cell? ⟨wr0.heap.size, 5, none⟩ = some (.int .i64 mn') := HT.cell 5 _ rfl; have q6 : wx.cell? ⟨wr0.heap.size, 6, none⟩ = some (.int .i64 mx') := HT.cell 6 _ rfl; have q7 : wx.cell? ⟨wr0.heap.size, 7, none⟩ = some (.slice ka kn kc) := HT.cell 7 _ rfl; have nq : wx.cell? ⟨ng, qn, none⟩ = some (.int .i64 (xq : Int)) := (hj.1.cell (p := ⟨ng, qn, none⟩) HNG.out).trans HNC.out; go_simp; refine hK _ _ ?_ (Below.refl _ _); apply Rg.mk))) ?_ rfl
          refine Rg.build_cons (m := 7) (r := (⟨fun u w' => ∃ L, OwnL w' wn0.heap.size u L ∧ L.Nodup ∧ ∀ i, i ∈ L ↔ Mt (byt xs) xs.length pk xq i, fun u w2 w3 h hb => by obtain ⟨L, h1, h2⟩ := h; exact ⟨L, h1.below hb, h2⟩⟩ : Rg.Rl)) (Rg.one_plain (by rfl) (by (intro ax wx hk Kx hK; obtain ⟨v128, k128, h128⟩ := hk.dep 0 128 _ rfl rfl rfl; (first | (cases (h128 : v128 = _)) | (obtain ⟨rfl, h128⟩ := h128) | skip); obtain ⟨v129, k129, h129⟩ := hk.dep 1 129 _ rfl rfl rfl; (first | (cases (h129 : v129 = _)) | (obtain ⟨rfl, h129⟩ := h129) | skip); obtain ⟨v133, k133, h133⟩ := hk.dep 5 133 _ rfl rfl rfl; (first | (cases (h133 : v133 = _)) | (obtain ⟨rfl, h133⟩ := h133) | skip); have hj := hk.j; clear hk; have HT : AtG wx wr0.heap.size 29 (nodeC op' f' mn' mx' (.slice ka kn kc)) := AtG.keepB HKC.out hj.1; have q0 : wx.cell? ⟨wr0.heap.size, 0, none⟩ = some (.int .i64 op') := HT.cell 0 _ rfl; have q1 : wx.cell? ⟨wr0.heap.size, 1, none⟩ = some (.int .u64 ((wd f' 0 : Nat) : Int)) := HT.cell 1 _ rfl; have q2 : wx.cell? ⟨wr0.heap.size, 2, none⟩ = some (.int .u64 ((wd f' 1 : Nat) : Int)) := HT.cell 2 _ rfl; have q3 : wx.cell? ⟨wr0.heap.size, 3, none⟩ = some (.int .u64 ((wd f' 2 : Nat) : Int)) := HT.cell 3 _ rfl; have q4 : wx.cell? ⟨wr0.heap.size, 4, none⟩ = some (.int .u64 ((wd f' 3 : Nat) : Int)) := HT.cell 4 _ rfl; have q5 : wx.cell? ⟨wr0.heap.size, 5, none⟩ = some (.int .i64 mn') := HT.cell 5 _ rfl; have q6 : wx.cell? ⟨wr0.heap.size, 6, none⟩ = some (.int .i64 mx') := HT.cell 6 _ rfl; have q7 : wx.cell? ⟨wr0.heap.size, 7, none⟩ = some (.slice ka kn kc) := HT.cell 7 _ rfl; have nq : wx.cell? ⟨ng, qn, none⟩ = some (.int .i64 (xq : Int)) := (hj.1.cell (p := ⟨ng, qn, none⟩) HNG.out).trans HNC.out; go_simp; refine (HI.out _ xq (NAt.below HKN.out (HBW1.out.trans (hj.1.mono HBW1.out.size))) (rdB_below HX.out (HBW1.out.trans (hj.1.mono HBW1.out.size))) HXB.out).mono ?_; rintro e w' ⟨hb, u, rfl, L, h1, h2, h3⟩; exact hK _ _ ⟨L, own_lower h1 hj.2.2, h2, h3⟩ hb))) ?_ rfl
          refine Rg.build_cons (m := 8) (r := (⟨fun u w' => ∃ L, OwnL w' wn0.heap.size u L ∧ L.Nodup ∧ ∀ i, i ∈ L ↔ Mt (byt xs) xs.length pk xq i, fun u w2 w3 h hb => by obtain ⟨L, h1, h2⟩ := h; exact ⟨L, h1.below hb, h2⟩⟩ : Rg.Rl)) (Rg.one_plain (by rfl) (by (intro ax wx hk Kx hK; obtain ⟨v134, k134, h134⟩ := hk.dep 6 134 _ rfl rfl rfl; (first | (cases (h134 : v134 = _)) | (obtain ⟨rfl, h134⟩ := h134) | skip); have hj := hk.j; clear hk; have HT : AtG wx wr0.heap.size 29 (nodeC op' f' mn' mx' (.slice ka kn kc)) := AtG.keepB HKC.out hj.1; have q0 : wx.cell? ⟨wr0.heap.size, 0, none⟩ = some (.int .i64 op') := HT.cell 0 _ rfl; have q1 : wx.cell? ⟨wr0.heap.size, 1, none⟩ = some (.int .u64 ((wd f' 0 : Nat) : Int)) := HT.cell 1 _ rfl; have q2 : wx.cell? ⟨wr0.heap.size, 2, none⟩ = some (.int .u64 ((wd f' 1 : Nat) : Int)) := HT.cell 2 _ rfl; have q3 : wx.cell? ⟨wr0.heap.size, 3, none⟩ = some (.int .u64 ((wd f' 2 : Nat) : Int)) := HT.cell 3 _ rfl; have q4 : wx.cell? ⟨wr0.heap.size, 4, none⟩ = some (.int .u64 ((wd f' 3 : Nat) : Int)) := HT.cell 4 _ rfl; have q5 : wx.cell? ⟨wr0.heap.size, 5, none⟩ = some (.int .i64 mn') := HT.cell 5 _ rfl; have q6 : wx.cell? ⟨wr0.heap.size, 6, none⟩ = some (.int .i64 mx') := HT.cell 6 _ rfl; have q7 : wx.cell? ⟨wr0.heap.size, 7, none⟩ = some (.slice ka kn kc) := HT.cell 7 _ rfl; have nq : wx.cell? ⟨ng, qn, none⟩ = some (.int .i64 (xq : Int)) := (hj.1.cell (p := ⟨ng, qn, none⟩) HNG.out).trans HNC.out; (go_simp; exact hK _ _ h134 (Below.refl _ _))))) ?_ rfl
          refine Rg.build_end fun wx hj => ?_
          refine Rg.fin_eq rfl ?_
          refine Rg.fin_eq rfl ?_
          refine Rg.fin_eq rfl ?_
          refine Rg.fin_eq rfl ?_
          refine Rg.fin_eq rfl ?_
          refine Rg.fin_eq rfl ?_
          first | refine Rg.fin_eq rfl ?_ | refine Rg.fin_any rfl fun v134 h134 => ?_
          first | refine Rg.fin_eq rfl ?_ | refine Rg.fin_any rfl fun v20 h20 => ?_
          refine Rg.fin_nil ?_
          simp only [List.set_cons_zero, List.set_cons_succ]
          obtain ⟨LL, hlv, hlnd, hlm⟩ := h20
          obtain ⟨lva, lvc, rfl, _⟩ := OwnL.at hlv
          have HOV := Lib.hid hj.2.1
          have HBX := Lib.hid hj.1
          have HLV := Lib.hid hlv; have HLM := Lib.hid hlm; have HND := HNNd; have HLND := Lib.hid hlnd
          have HBW : Hid (W1.heap.size ≤ wx.heap.size) := Lib.hid hj.1.size
          have HLB : Hid (∀ y ∈ LL, y ≤ xs.length) := Lib.hid (fun y hy => mt_le (byt xs) xs.length pk xq y HXB.out ((hlm y).1 hy))
          have HOB : Hid (∀ y ∈ NN, y ≤ xs.length) := Lib.hid (fun y hy => by
            obtain ⟨x, hx1, hx2⟩ := (HNNm.out y).1 hy
            exact mt_le (byt xs) xs.length pk x y (HNOWB.out x (List.mem_of_mem_take hx1)) hx2)
          have HNB : Hid (∀ r, (Value.slice lva LL.length lvc).ownBlock = some r → ¬ vn.ownBlock = some r) := Lib.hid (fun r h1 h2 => by
            have := own_lt HNN.out r h2; have := own_base hlv r h1; rw [hwn0] at this; omega)
          have hllI : (LL.length : Int) ≤ 1001 := by
            have := nodup_len (m := xs.length + 1) hlnd (fun y hy => by have := HLB.out y hy; omega)
            omega
          have HVB : Hid (∀ r, vn.ownBlock = some r → W1.heap.size ≤ r) := Lib.hid (fun r hr => own_base HNN.out r hr)
          clear hlv hlnd hlm hj hwn0
          go_wp2_with fail
          go_loopw [18, 21] (fun t i wr => ∃ (q : Nat) (v : Value), i = .int .i64 q ∧ v = t ∧ Added wx (W1.heap.size) (vn) (NN) (LL) q wr v) (fun _ i _ => (LL).length - (intOf i).toNat)
          case atStart => exact ⟨0, _, rfl, rfl, Added.start HOV.out HND.out⟩
          case round =>
            obtain ⟨q, v, rfl, hv, hadd⟩ := hrel
            subst hv
            obtain ⟨N, hN, hNd, hNm⟩ := hadd.ex
            have HADD := Lib.hid hadd; have HN := Lib.hid hN; have HNd := Lib.hid hNd; have HNm := Lib.hid hNm
            clear hadd hN hNd hNm
            by_cases hlq : q < (LL).length
            · obtain ⟨lg, rfl, hlc, hcell⟩ := OwnL.cell (HLV.out.only HADD.out.only HNB.out) q hlq
              have hxb : (LL)[q] ≤ xs.length := HLB.out _ (List.getElem_mem hlq)
              have HAD := Lib.hid (add_any wr (W1.heap.size) v N (LL)[q] HN.out (Nat.le_trans HBW.out HADD.out.only.size) (by
                have := nodup_len (m := xs.length + 1) HNd.out (fun y hy => by
                  rcases (HNm.out y).1 hy with h | h
                  · have := HOB.out y h; omega
                  · have := HLB.out y (List.mem_of_mem_take h); omega)
                omega) (by omega))
              have HLQ := Lib.hid hlq
              generalize hxq : (LL)[q] = xq at hcell HAD hxb
              have HXQ := Lib.hid hxq
              clear hxq
              go_wp2_with fail
              refine (HAD.out).mono ?_
              rintro e9 wa ⟨v', rfl, h1, h2, h3⟩
              have HST := Lib.hid (Added.step HADD.out HLQ.out HNm.out HNd.out (by have e := HXQ.out; subst e; exact h1) h2 h3)
              clear h1 h2 h3
              go_wp2_with fail
              exact ⟨⟨q + 1, v', by go_num, rfl, HST.out⟩, by simp [intOf]; omega⟩
            · have hq0 : q = (LL).length := by have := HADD.out.le; omega
              subst hq0
              have HNm2 : Hid (∀ y, y ∈ N ↔ y ∈ (NN) ∨ y ∈ (LL)) := Lib.hid (fun y => by rw [HNm.out y, List.take_length])
              have HBY := Lib.hid (below_only HBX.out HADD.out.only HBW.out (fun r hr => HVB.out r hr))
              go_wp2_with fail
              exact ⟨⟨qn + 1, v, by go_num, rfl, HQLT.out, HBY.out, N, HN.out, HNd.out, fun y => by
                have htake : NOW.take (qn + 1) = NOW.take qn ++ [xq] := (List.take_succ_eq_append_getElem HQLT.out).trans (congrArg (fun z => NOW.take qn ++ [z]) HXQ.out)
                rw [HNm2.out y, HNNm.out y, HLM.out y, htake]
                constructor
                · rintro (⟨x, h1, h2⟩ | h2)
                  · exact ⟨x, List.mem_append_left _ h1, h2⟩
                  · exact ⟨xq, List.mem_append_right _ (by simp), h2⟩
                · rintro ⟨x, h1, h2⟩
                  rcases List.mem_append.1 h1 with h1 | h1
                  · exact .inl ⟨x, h1, h2⟩
                  · rw [List.mem_singleton] at h1; subst h1; exact .inr h2⟩, by simp [intOf]; have := HQLT.out; omega⟩
        · have hq9 : qn = NOW.length := by omega
          subst hq9
          have HNX : Hid (∀ y, y ∈ NN ↔ ∃ x, x ∈ NOW ∧ Mt (byt xs) xs.length pk x y) := Lib.hid (fun y => by rw [HNNm.out y, List.take_length])
          obtain ⟨vna, vnc, rfl, _⟩ := OwnL.at HNN.out
          have HA3 := Lib.hid (AtG.keepB2 HA2.out HBN.out); have HB3 := Lib.hid (HBW1.out.trans (HBN.out.mono HBW1.out.size)); have HNOW3 := Lib.hid (HNOW.out.below HBN.out)
          have HNX3 : Hid (OwnL wr (w.heap.size + 1) (.slice vna NN.length vnc) NN) := Lib.hid (own_lower HNN.out (by have := HA2.out.lt; omega))
          have HNXM : Hid (∀ y, y ∈ NN ↔ MtC (byt xs) xs.length (l.take (k + 1)) fr y) := Lib.hid (fun y => by
            rw [HNX.out y, HTK.out, mtC_app]
            constructor
            · rintro ⟨x, h1, h2⟩
              exact ⟨x, (HNOWM.out x).1 h1, h2⟩
            · rintro ⟨x, h1, h2⟩
              exact ⟨x, (HNOWM.out x).2 h1, h2⟩)
          have HNXB : Hid (∀ y ∈ NN, y ≤ xs.length) := Lib.hid (fun y hy => mt_le (byt xs) xs.length (.cat (l.take (k + 1))) fr y HFL.out (by rw [Mt]; exact (HNXM.out y).1 hy))
          have hnnI : (NN.length : Int) ≤ 1001 := by
            have := nodup_len (m := xs.length + 1) HNNd.out (fun y hy => by have := HNXB.out y hy; omega)
            omega
          obtain ⟨W3, hW3⟩ : ∃ W3 : World, W3 = wr := ⟨_, rfl⟩
          rw [← hW3] at HA3 HB3 HNOW3 HNX3 ⊢
          clear hW3 n0
          by_cases hlen : NOW.length = NN.length
          · have hlenI : (NOW.length : Int) = (NN.length : Int) := by omega
            go_wp2_with fail
            go_loopw [22, 23] (fun t i wr => ∃ (q : Nat) (bb : Bool), i = .int .i64 q ∧ t = .bool bb ∧ q ≤ NOW.length ∧ Below W3.heap.size W3 wr ∧ (bb = true → NOW.length = NN.length ∧ ∀ j (hj : j < NOW.length) (hj' : j < NN.length), j < q → NOW[j] = NN[j])) (fun _ i _ => NOW.length - (intOf i).toNat)
            case atStart => exact ⟨0, _, rfl, rfl, Nat.zero_le _, Below.refl _ _, (fun _ => ⟨hlen, fun j _ _ h => absurd h (Nat.not_lt_zero _)⟩)⟩
            case round =>
              obtain ⟨q, bb, rfl, rfl, hql, hbc, hbb⟩ := hrel
              have HBC := Lib.hid hbc; have HBB := Lib.hid hbb
              clear hbc hbb
              cases bb with
              | true =>
                by_cases hqc : q < NOW.length
                · obtain ⟨hle, hall⟩ := HBB.out rfl
                  have hqc2 : q < NN.length := by omega
                  obtain ⟨g1, hg1, hcp1, hcl1⟩ := OwnL.cell (HNOW3.out.below HBC.out) q hqc
                  obtain ⟨g2, hg2, hcp2, hcl2⟩ := OwnL.cell (HNX3.out.below HBC.out) q hqc2
                  have hq3 : NOW[q] ≤ xs.length := HNOWB.out _ (List.getElem_mem hqc)
                  have hq4 : NN[q] ≤ xs.length := HNXB.out _ (List.getElem_mem hqc2)
                  have HQC := Lib.hid hqc; have HQC2 := Lib.hid hqc2; have HLE := Lib.hid hle; have HALL := Lib.hid hall
                  generalize hx1 : NOW[q] = x1 at hcl1 hq3
                  generalize hx2 : NN[q] = x2 at hcl2 hq4
                  have HX1 := Lib.hid hx1; have HX2 := Lib.hid hx2; have HL1 := Lib.hid hcl1; have HL2 := Lib.hid hcl2
                  have hcpI : (NOW.length : Int) ≤ 1001 := hnowI
                  have hleI : (NN.length : Int) = (NOW.length : Int) := by omega
                  clear hx1 hx2 hcl1 hcl2 hle hall
                  subst hg1; subst hg2
                  go_upto_region 48 with (fail)
                  obtain ⟨wc0, hwc0⟩ : ∃ wc0 : World, wc0 = wr := ⟨_, rfl⟩
                  refine Rg.wp_region_each (by kernel_rfl) (fun w' => Below wc0.heap.size wc0 w') (fun w1 w2 h hb => h.trans (hb.mono h.size)) (by kernel_rfl) (by kernel_rfl) (by rw [hwc0]; exact Below.refl _ _) ?_
                  show Rg.Build _ _ _ _ _ 0 [_, _, _, _, _, _, _, _, _, _] []
                  refine Rg.build_cons (m := 1) (r := Rg.eq _) (Rg.one_plain (by rfl) (by (intro ax wx hk Kx hK; have k12 := hk.base 12 _ rfl rfl; have hj := hk.j; clear hk; have z1 : wx.cell? ⟨g1, q, none⟩ = some (.int .i64 (x1 : Int)) := (hj.cell (p := ⟨g1, q, none⟩) (by rw [hwc0]; exact World.block_lt_of_cell? _ _ HL1.out)).trans (by rw [hwc0]; exact HL1.out); have z2 : wx.cell? ⟨g2, q, none⟩ = some (.int .i64 (x2 : Int)) := (hj.cell (p := ⟨g2, q, none⟩) (by rw [hwc0]; exact World.block_lt_of_cell? _ _ HL2.out)).trans (by rw [hwc0]; exact HL2.out); go_simp; refine hK _ _ ?_ (Below.refl _ _); apply Rg.mk))) ?_ rfl
                  refine Rg.build_cons (m := 2) (r := Rg.eq _) (Rg.one_plain (by rfl) (by (intro ax wx hk Kx hK; have k23 := hk.base 23 _ rfl rfl; have hj := hk.j; clear hk; have z1 : wx.cell? ⟨g1, q, none⟩ = some (.int .i64 (x1 : Int)) := (hj.cell (p := ⟨g1, q, none⟩) (by rw [hwc0]; exact World.block_lt_of_cell? _ _ HL1.out)).trans (by rw [hwc0]; exact HL1.out); have z2 : wx.cell? ⟨g2, q, none⟩ = some (.int .i64 (x2 : Int)) := (hj.cell (p := ⟨g2, q, none⟩) (by rw [hwc0]; exact World.block_lt_of_cell? _ _ HL2.out)).trans (by rw [hwc0]; exact HL2.out); go_simp; refine hK _ _ ?_ (Below.refl _ _); apply Rg.mk))) ?_ rfl
                  refine Rg.build_cons (m := 3) (r := Rg.eq _) (Rg.one_plain (by rfl) (by (intro ax wx hk Kx hK; obtain ⟨v161, k161, h161⟩ := hk.dep 0 161 _ rfl rfl rfl; (first | (cases (h161 : v161 = _)) | (obtain ⟨rfl, h161⟩ := h161) | skip); obtain ⟨v162, k162, h162⟩ := hk.dep 1 162 _ rfl rfl rfl; (first | (cases (h162 : v162 = _)) | (obtain ⟨rfl, h162⟩ := h162) | skip); have hj := hk.j; clear hk; have z1 : wx.cell? ⟨g1, q, none⟩ = some (.int .i64 (x1 : Int)) := (hj.cell (p := ⟨g1, q, none⟩) (by rw [hwc0]; exact World.block_lt_of_cell? _ _ HL1.out)).trans (by rw [hwc0]; exact HL1.out); have z2 : wx.cell? ⟨g2, q, none⟩ = some (.int .i64 (x2 : Int)) := (hj.cell (p := ⟨g2, q, none⟩) (by rw [hwc0]; exact World.block_lt_of_cell? _ _ HL2.out)).trans (by rw [hwc0]; exact HL2.out); go_simp; refine hK _ _ ?_ (Below.refl _ _); apply Rg.mk))) ?_ rfl
                  refine Rg.build_cons (m := 4) (r := Rg.eq _) (Rg.one_plain (by rfl) (by (intro ax wx hk Kx hK; obtain ⟨v163, k163, h163⟩ := hk.dep 2 163 _ rfl rfl rfl; (first | (cases (h163 : v163 = _)) | (obtain ⟨rfl, h163⟩ := h163) | skip); have hj := hk.j; clear hk; have z1 : wx.cell? ⟨g1, q, none⟩ = some (.int .i64 (x1 : Int)) := (hj.cell (p := ⟨g1, q, none⟩) (by rw [hwc0]; exact World.block_lt_of_cell? _ _ HL1.out)).trans (by rw [hwc0]; exact HL1.out); have z2 : wx.cell? ⟨g2, q, none⟩ = some (.int .i64 (x2 : Int)) := (hj.cell (p := ⟨g2, q, none⟩) (by rw [hwc0]; exact World.block_lt_of_cell? _ _ HL2.out)).trans (by rw [hwc0]; exact HL2.out); go_simp; refine hK _ _ ?_ (Below.refl _ _); apply Rg.mk))) ?_ rfl
                  refine Rg.build_cons (m := 5) (r := Rg.eq _) (Rg.one_plain (by rfl) (by (intro ax wx hk Kx hK; have k18 := hk.base 18 _ rfl rfl; have hj := hk.j; clear hk; have z1 : wx.cell? ⟨g1, q, none⟩ = some (.int .i64 (x1 : Int)) := (hj.cell (p := ⟨g1, q, none⟩) (by rw [hwc0]; exact World.block_lt_of_cell? _ _ HL1.out)).trans (by rw [hwc0]; exact HL1.out); have z2 : wx.cell? ⟨g2, q, none⟩ = some (.int .i64 (x2 : Int)) := (hj.cell (p := ⟨g2, q, none⟩) (by rw [hwc0]; exact World.block_lt_of_cell? _ _ HL2.out)).trans (by rw [hwc0]; exact HL2.out); go_simp; refine hK _ _ ?_ (Below.refl _ _); apply Rg.mk))) ?_ rfl
                  refine Rg.build_cons (m := 6) (r := Rg.eq _) (Rg.one_plain (by rfl) (by (intro ax wx hk Kx hK; have k23 := hk.base 23 _ rfl rfl; have hj := hk.j; clear hk; have z1 : wx.cell? ⟨g1, q, none⟩ = some (.int .i64 (x1 : Int)) := (hj.cell (p := ⟨g1, q, none⟩) (by rw [hwc0]; exact World.block_lt_of_cell? _ _ HL1.out)).trans (by rw [hwc0]; exact HL1.out); have z2 : wx.cell? ⟨g2, q, none⟩ = some (.int .i64 (x2 : Int)) := (hj.cell (p := ⟨g2, q, none⟩) (by rw [hwc0]; exact World.block_lt_of_cell? _ _ HL2.out)).trans (by rw [hwc0]; exact HL2.out); go_simp; refine hK _ _ ?_ (Below.refl _ _); apply Rg.mk))) ?_ rfl
                  refine Rg.build_cons (m := 7) (r := Rg.eq _) (Rg.one_plain (by rfl) (by (intro ax wx hk Kx hK; obtain ⟨v165, k165, h165⟩ := hk.dep 4 165 _ rfl rfl rfl; (first | (cases (h165 : v165 = _)) | (obtain ⟨rfl, h165⟩ := h165) | skip); obtain ⟨v166, k166, h166⟩ := hk.dep 5 166 _ rfl rfl rfl; (first | (cases (h166 : v166 = _)) | (obtain ⟨rfl, h166⟩ := h166) | skip); have hj := hk.j; clear hk; have z1 : wx.cell? ⟨g1, q, none⟩ = some (.int .i64 (x1 : Int)) := (hj.cell (p := ⟨g1, q, none⟩) (by rw [hwc0]; exact World.block_lt_of_cell? _ _ HL1.out)).trans (by rw [hwc0]; exact HL1.out); have z2 : wx.cell? ⟨g2, q, none⟩ = some (.int .i64 (x2 : Int)) := (hj.cell (p := ⟨g2, q, none⟩) (by rw [hwc0]; exact World.block_lt_of_cell? _ _ HL2.out)).trans (by rw [hwc0]; exact HL2.out); go_simp; refine hK _ _ ?_ (Below.refl _ _); apply Rg.mk))) ?_ rfl
                  refine Rg.build_cons (m := 8) (r := Rg.eq _) (Rg.one_plain (by rfl) (by (intro ax wx hk Kx hK; obtain ⟨v167, k167, h167⟩ := hk.dep 6 167 _ rfl rfl rfl; (first | (cases (h167 : v167 = _)) | (obtain ⟨rfl, h167⟩ := h167) | skip); have hj := hk.j; clear hk; have z1 : wx.cell? ⟨g1, q, none⟩ = some (.int .i64 (x1 : Int)) := (hj.cell (p := ⟨g1, q, none⟩) (by rw [hwc0]; exact World.block_lt_of_cell? _ _ HL1.out)).trans (by rw [hwc0]; exact HL1.out); have z2 : wx.cell? ⟨g2, q, none⟩ = some (.int .i64 (x2 : Int)) := (hj.cell (p := ⟨g2, q, none⟩) (by rw [hwc0]; exact World.block_lt_of_cell? _ _ HL2.out)).trans (by rw [hwc0]; exact HL2.out); go_simp; refine hK _ _ ?_ (Below.refl _ _); apply Rg.mk))) ?_ rfl
                  refine Rg.build_cons (m := 9) (r := Rg.eq _) (Rg.one_plain (by rfl) (by (intro ax wx hk Kx hK; obtain ⟨v164, k164, h164⟩ := hk.dep 3 164 _ rfl rfl rfl; (first | (cases (h164 : v164 = _)) | (obtain ⟨rfl, h164⟩ := h164) | skip); obtain ⟨v168, k168, h168⟩ := hk.dep 7 168 _ rfl rfl rfl; (first | (cases (h168 : v168 = _)) | (obtain ⟨rfl, h168⟩ := h168) | skip); have hj := hk.j; clear hk; have z1 : wx.cell? ⟨g1, q, none⟩ = some (.int .i64 (x1 : Int)) := (hj.cell (p := ⟨g1, q, none⟩) (by rw [hwc0]; exact World.block_lt_of_cell? _ _ HL1.out)).trans (by rw [hwc0]; exact HL1.out); have z2 : wx.cell? ⟨g2, q, none⟩ = some (.int .i64 (x2 : Int)) := (hj.cell (p := ⟨g2, q, none⟩) (by rw [hwc0]; exact World.block_lt_of_cell? _ _ HL2.out)).trans (by rw [hwc0]; exact HL2.out); go_simp; refine hK _ _ ?_ (Below.refl _ _); apply Rg.mk))) ?_ rfl
                  refine Rg.build_cons (m := 10) (r := Rg.eq _) (Rg.one_plain (by rfl) (by (intro ax wx hk Kx hK; obtain ⟨v169, k169, h169⟩ := hk.dep 8 169 _ rfl rfl rfl; (first | (cases (h169 : v169 = _)) | (obtain ⟨rfl, h169⟩ := h169) | skip); have hj := hk.j; clear hk; have z1 : wx.cell? ⟨g1, q, none⟩ = some (.int .i64 (x1 : Int)) := (hj.cell (p := ⟨g1, q, none⟩) (by rw [hwc0]; exact World.block_lt_of_cell? _ _ HL1.out)).trans (by rw [hwc0]; exact HL1.out); have z2 : wx.cell? ⟨g2, q, none⟩ = some (.int .i64 (x2 : Int)) := (hj.cell (p := ⟨g2, q, none⟩) (by rw [hwc0]; exact World.block_lt_of_cell? _ _ HL2.out)).trans (by rw [hwc0]; exact HL2.out); go_simp; refine hK _ _ ?_ (Below.refl _ _); apply Rg.mk))) ?_ rfl
                  refine Rg.build_end fun wx hj => ?_
                  refine Rg.fin_eq rfl ?_
                  refine Rg.fin_eq rfl ?_
                  refine Rg.fin_eq rfl ?_
                  refine Rg.fin_eq rfl ?_
                  refine Rg.fin_eq rfl ?_
                  refine Rg.fin_eq rfl ?_
                  refine Rg.fin_eq rfl ?_
                  refine Rg.fin_eq rfl ?_
                  refine Rg.fin_eq rfl ?_
                  refine Rg.fin_eq rfl ?_
                  refine Rg.fin_nil ?_
                  simp only [List.set_cons_zero, List.set_cons_succ]
                  have HJ := Lib.hid hj; have HWC := Lib.hid hwc0
                  clear hj hwc0
                  go_wp2_with fail
                  exact ⟨⟨q + 1, _, by go_num, rfl, HQC.out, HBC.out.trans (by have := HJ.out; rw [HWC.out] at this; exact this.mono HBC.out.size), fun hb => ⟨HLE.out.symm ▸ rfl, fun j hj hj' hjq => by
                    rcases Nat.lt_succ_iff_lt_or_eq.1 hjq with h1 | h1
                    · exact HALL.out j hj hj' h1
                    · subst h1
                      have e3 : x1 = x2 := by simp at hb; omega
                      exact HX1.out.trans (e3.trans HX2.out.symm)⟩⟩, by simp [intOf]; have := HQC.out; omega⟩
                · have hqe : q = NOW.length := by omega
                  obtain ⟨hle, hall⟩ := HBB.out rfl
                  have HSAME : Hid (NOW = NN) := Lib.hid (List.ext_getElem hle fun j h1 h2 => hall j h1 h2 (by omega))
                  clear hle hall
                  subst hqe
                  have n0 : wr.cell? ⟨w.heap.size, 0, none⟩ = some (.int .i64 2) := (AtG.keepB2 HA3.out HBC.out).cell 0 _ rfl
                  have HA4 := Lib.hid (AtG.keepB2 HA3.out HBC.out); have HB4 := Lib.hid (HB3.out.trans (HBC.out.mono HB3.out.size)); have HNX4 := Lib.hid (HNX3.out.below HBC.out)
                  go_wp2_with fail
                  exact ⟨⟨k + 1, _, NN, rfl, by first | rfl | trivial, by go_num, HLT.out, HA4.out, HB4.out, HNX4.out, HNNd.out, HNXM.out⟩, by simp [intOf]; have := HLT.out; omega⟩
              | false =>
                clear HBB
                by_cases hqc : q < NOW.length
                · skip
                  have n0 : wr.cell? ⟨w.heap.size, 0, none⟩ = some (.int .i64 2) := (AtG.keepB2 HA3.out HBC.out).cell 0 _ rfl
                  have HA4 := Lib.hid (AtG.keepB2 HA3.out HBC.out); have HB4 := Lib.hid (HB3.out.trans (HBC.out.mono HB3.out.size)); have HNX4 := Lib.hid (HNX3.out.below HBC.out)
                  go_wp2_with fail
                  exact ⟨⟨k + 1, _, NN, rfl, by first | rfl | trivial, by go_num, HLT.out, HA4.out, HB4.out, HNX4.out, HNNd.out, HNXM.out⟩, by simp [intOf]; have := HLT.out; omega⟩
                · skip
                  have n0 : wr.cell? ⟨w.heap.size, 0, none⟩ = some (.int .i64 2) := (AtG.keepB2 HA3.out HBC.out).cell 0 _ rfl
                  have HA4 := Lib.hid (AtG.keepB2 HA3.out HBC.out); have HB4 := Lib.hid (HB3.out.trans (HBC.out.mono HB3.out.size)); have HNX4 := Lib.hid (HNX3.out.below HBC.out)
                  go_wp2_with fail
                  exact ⟨⟨k + 1, _, NN, rfl, by first | rfl | trivial, by go_num, HLT.out, HA4.out, HB4.out, HNX4.out, HNNd.out, HNXM.out⟩, by simp [intOf]; have := HLT.out; omega⟩
          · have hlenI : ¬ (NOW.length : Int) = (NN.length : Int) := by omega
            have elen : ((NOW.length : Int) == (NN.length : Int)) = false := by rw [beq_eq_false_iff_ne]; exact hlenI
            go_wp2_with fail
            go_loopw [22, 23] (fun t i wr => ∃ (q : Nat) (bb : Bool), i = .int .i64 q ∧ t = .bool bb ∧ q ≤ NOW.length ∧ Below W3.heap.size W3 wr ∧ (bb = true → NOW.length = NN.length ∧ ∀ j (hj : j < NOW.length) (hj' : j < NN.length), j < q → NOW[j] = NN[j])) (fun _ i _ => NOW.length - (intOf i).toNat)
            case atStart => exact ⟨0, _, rfl, rfl, Nat.zero_le _, Below.refl _ _, (fun h => by simp at h; try exact absurd h hlen)⟩
            case round =>
              obtain ⟨q, bb, rfl, rfl, hql, hbc, hbb⟩ := hrel
              have HBC := Lib.hid hbc; have HBB := Lib.hid hbb
              clear hbc hbb
              cases bb with
              | true =>
                by_cases hqc : q < NOW.length
                · obtain ⟨hle, hall⟩ := HBB.out rfl
                  have hqc2 : q < NN.length := by omega
                  obtain ⟨g1, hg1, hcp1, hcl1⟩ := OwnL.cell (HNOW3.out.below HBC.out) q hqc
                  obtain ⟨g2, hg2, hcp2, hcl2⟩ := OwnL.cell (HNX3.out.below HBC.out) q hqc2
                  have hq3 : NOW[q] ≤ xs.length := HNOWB.out _ (List.getElem_mem hqc)
                  have hq4 : NN[q] ≤ xs.length := HNXB.out _ (List.getElem_mem hqc2)
                  have HQC := Lib.hid hqc; have HQC2 := Lib.hid hqc2; have HLE := Lib.hid hle; have HALL := Lib.hid hall
                  generalize hx1 : NOW[q] = x1 at hcl1 hq3
                  generalize hx2 : NN[q] = x2 at hcl2 hq4
                  have HX1 := Lib.hid hx1; have HX2 := Lib.hid hx2; have HL1 := Lib.hid hcl1; have HL2 := Lib.hid hcl2
                  have hcpI : (NOW.length : Int) ≤ 1001 := hnowI
                  have hleI : (NN.length : Int) = (NOW.length : Int) := by omega
                  clear hx1 hx2 hcl1 hcl2 hle hall
                  subst hg1; subst hg2
                  go_upto_region 48 with (fail)
                  obtain ⟨wc0, hwc0⟩ : ∃ wc0 : World, wc0 = wr := ⟨_, rfl⟩
                  refine Rg.wp_region_each (by kernel_rfl) (fun w' => Below wc0.heap.size wc0 w') (fun w1 w2 h hb => h.trans (hb.mono h.size)) (by kernel_rfl) (by kernel_rfl) (by rw [hwc0]; exact Below.refl _ _) ?_
                  show Rg.Build _ _ _ _ _ 0 [_, _, _, _, _, _, _, _, _, _] []
                  refine Rg.build_cons (m := 1) (r := Rg.eq _) (Rg.one_plain (by rfl) (by (intro ax wx hk Kx hK; have k12 := hk.base 12 _ rfl rfl; have hj := hk.j; clear hk; have z1 : wx.cell? ⟨g1, q, none⟩ = some (.int .i64 (x1 : Int)) := (hj.cell (p := ⟨g1, q, none⟩) (by rw [hwc0]; exact World.block_lt_of_cell? _ _ HL1.out)).trans (by rw [hwc0]; exact HL1.out); have z2 : wx.cell? ⟨g2, q, none⟩ = some (.int .i64 (x2 : Int)) := (hj.cell (p := ⟨g2, q, none⟩) (by rw [hwc0]; exact World.block_lt_of_cell? _ _ HL2.out)).trans (by rw [hwc0]; exact HL2.out); go_simp; refine hK _ _ ?_ (Below.refl _ _); apply Rg.mk))) ?_ rfl
                  refine Rg.build_cons (m := 2) (r := Rg.eq _) (Rg.one_plain (by rfl) (by (intro ax wx hk Kx hK; have k23 := hk.base 23 _ rfl rfl; have hj := hk.j; clear hk; have z1 : wx.cell? ⟨g1, q, none⟩ = some (.int .i64 (x1 : Int)) := (hj.cell (p := ⟨g1, q, none⟩) (by rw [hwc0]; exact World.block_lt_of_cell? _ _ HL1.out)).trans (by rw [hwc0]; exact HL1.out); have z2 : wx.cell? ⟨g2, q, none⟩ = some (.int .i64 (x2 : Int)) := (hj.cell (p := ⟨g2, q, none⟩) (by rw [hwc0]; exact World.block_lt_of_cell? _ _ HL2.out)).trans (by rw [hwc0]; exact HL2.out); go_simp; refine hK _ _ ?_ (Below.refl _ _); apply Rg.mk))) ?_ rfl
                  refine Rg.build_cons (m := 3) (r := Rg.eq _) (Rg.one_plain (by rfl) (by (intro ax wx hk Kx hK; obtain ⟨v161, k161, h161⟩ := hk.dep 0 161 _ rfl rfl rfl; (first | (cases (h161 : v161 = _)) | (obtain ⟨rfl, h161⟩ := h161) | skip); obtain ⟨v162, k162, h162⟩ := hk.dep 1 162 _ rfl rfl rfl; (first | (cases (h162 : v162 = _)) | (obtain ⟨rfl, h162⟩ := h162) | skip); have hj := hk.j; clear hk; have z1 : wx.cell? ⟨g1, q, none⟩ = some (.int .i64 (x1 : Int)) := (hj.cell (p := ⟨g1, q, none⟩) (by rw [hwc0]; exact World.block_lt_of_cell? _ _ HL1.out)).trans (by rw [hwc0]; exact HL1.out); have z2 : wx.cell? ⟨g2, q, none⟩ = some (.int .i64 (x2 : Int)) := (hj.cell (p := ⟨g2, q, none⟩) (by rw [hwc0]; exact World.block_lt_of_cell? _ _ HL2.out)).trans (by rw [hwc0]; exact HL2.out); go_simp; refine hK _ _ ?_ (Below.refl _ _); apply Rg.mk))) ?_ rfl
                  refine Rg.build_cons (m := 4) (r := Rg.eq _) (Rg.one_plain (by rfl) (by (intro ax wx hk Kx hK; obtain ⟨v163, k163, h163⟩ := hk.dep 2 163 _ rfl rfl rfl; (first | (cases (h163 : v163 = _)) | (obtain ⟨rfl, h163⟩ := h163) | skip); have hj := hk.j; clear hk; have z1 : wx.cell? ⟨g1, q, none⟩ = some (.int .i64 (x1 : Int)) := (hj.cell (p := ⟨g1, q, none⟩) (by rw [hwc0]; exact World.block_lt_of_cell? _ _ HL1.out)).trans (by rw [hwc0]; exact HL1.out); have z2 : wx.cell? ⟨g2, q, none⟩ = some (.int .i64 (x2 : Int)) := (hj.cell (p := ⟨g2, q, none⟩) (by rw [hwc0]; exact World.block_lt_of_cell? _ _ HL2.out)).trans (by rw [hwc0]; exact HL2.out); go_simp; refine hK _ _ ?_ (Below.refl _ _); apply Rg.mk))) ?_ rfl
                  refine Rg.build_cons (m := 5) (r := Rg.eq _) (Rg.one_plain (by rfl) (by (intro ax wx hk Kx hK; have k18 := hk.base 18 _ rfl rfl; have hj := hk.j; clear hk; have z1 : wx.cell? ⟨g1, q, none⟩ = some (.int .i64 (x1 : Int)) := (hj.cell (p := ⟨g1, q, none⟩) (by rw [hwc0]; exact World.block_lt_of_cell? _ _ HL1.out)).trans (by rw [hwc0]; exact HL1.out); have z2 : wx.cell? ⟨g2, q, none⟩ = some (.int .i64 (x2 : Int)) := (hj.cell (p := ⟨g2, q, none⟩) (by rw [hwc0]; exact World.block_lt_of_cell? _ _ HL2.out)).trans (by rw [hwc0]; exact HL2.out); go_simp; refine hK _ _ ?_ (Below.refl _ _); apply Rg.mk))) ?_ rfl
                  refine Rg.build_cons (m := 6) (r := Rg.eq _) (Rg.one_plain (by rfl) (by (intro ax wx hk Kx hK; have k23 := hk.base 23 _ rfl rfl; have hj := hk.j; clear hk; have z1 : wx.cell? ⟨g1, q, none⟩ = some (.int .i64 (x1 : Int)) := (hj.cell (p := ⟨g1, q, none⟩) (by rw [hwc0]; exact World.block_lt_of_cell? _ _ HL1.out)).trans (by rw [hwc0]; exact HL1.out); have z2 : wx.cell? ⟨g2, q, none⟩ = some (.int .i64 (x2 : Int)) := (hj.cell (p := ⟨g2, q, none⟩) (by rw [hwc0]; exact World.block_lt_of_cell? _ _ HL2.out)).trans (by rw [hwc0]; exact HL2.out); go_simp; refine hK _ _ ?_ (Below.refl _ _); apply Rg.mk))) ?_ rfl
                  refine Rg.build_cons (m := 7) (r := Rg.eq _) (Rg.one_plain (by rfl) (by (intro ax wx hk Kx hK; obtain ⟨v165, k165, h165⟩ := hk.dep 4 165 _ rfl rfl rfl; (first | (cases (h165 : v165 = _)) | (obtain ⟨rfl, h165⟩ := h165) | skip); obtain ⟨v166, k166, h166⟩ := hk.dep 5 166 _ rfl rfl rfl; (first | (cases (h166 : v166 = _)) | (obtain ⟨rfl, h166⟩ := h166) | skip); have hj := hk.j; clear hk; have z1 : wx.cell? ⟨g1, q, none⟩ = some (.int .i64 (x1 : Int)) := (hj.cell (p := ⟨g1, q, none⟩) (by rw [hwc0]; exact World.block_lt_of_cell? _ _ HL1.out)).trans (by rw [hwc0]; exact HL1.out); have z2 : wx.cell? ⟨g2, q, none⟩ = some (.int .i64 (x2 : Int)) := (hj.cell (p := ⟨g2, q, none⟩) (by rw [hwc0]; exact World.block_lt_of_cell? _ _ HL2.out)).trans (by rw [hwc0]; exact HL2.out); go_simp; refine hK _ _ ?_ (Below.refl _ _); apply Rg.mk))) ?_ rfl
                  refine Rg.build_cons (m := 8) (r := Rg.eq _) (Rg.one_plain (by rfl) (by (intro ax wx hk Kx hK; obtain ⟨v167, k167, h167⟩ := hk.dep 6 167 _ rfl rfl rfl; (first | (cases (h167 : v167 = _)) | (obtain ⟨rfl, h167⟩ := h167) | skip); have hj := hk.j; clear hk; have z1 : wx.cell? ⟨g1, q, none⟩ = some (.int .i64 (x1 : Int)) := (hj.cell (p := ⟨g1, q, none⟩) (by rw [hwc0]; exact World.block_lt_of_cell? _ _ HL1.out)).trans (by rw [hwc0]; exact HL1.out); have z2 : wx.cell? ⟨g2, q, none⟩ = some (.int .i64 (x2 : Int)) := (hj.cell (p := ⟨g2, q, none⟩) (by rw [hwc0]; exact World.block_lt_of_cell? _ _ HL2.out)).trans (by rw [hwc0]; exact HL2.out); go_simp; refine hK _ _ ?_ (Below.refl _ _); apply Rg.mk))) ?_ rfl
                  refine Rg.build_cons (m := 9) (r := Rg.eq _) (Rg.one_plain (by rfl) (by (intro ax wx hk Kx hK; obtain ⟨v164, k164, h164⟩ := hk.dep 3 164 _ rfl rfl rfl; (first | (cases (h164 : v164 = _)) | (obtain ⟨rfl, h164⟩ := h164) | skip); obtain ⟨v168, k168, h168⟩ := hk.dep 7 168 _ rfl rfl rfl; (first | (cases (h168 : v168 = _)) | (obtain ⟨rfl, h168⟩ := h168) | skip); have hj := hk.j; clear hk; have z1 : wx.cell? ⟨g1, q, none⟩ = some (.int .i64 (x1 : Int)) := (hj.cell (p := ⟨g1, q, none⟩) (by rw [hwc0]; exact World.block_lt_of_cell? _ _ HL1.out)).trans (by rw [hwc0]; exact HL1.out); have z2 : wx.cell? ⟨g2, q, none⟩ = some (.int .i64 (x2 : Int)) := (hj.cell (p := ⟨g2, q, none⟩) (by rw [hwc0]; exact World.block_lt_of_cell? _ _ HL2.out)).trans (by rw [hwc0]; exact HL2.out); go_simp; refine hK _ _ ?_ (Below.refl _ _); apply Rg.mk))) ?_ rfl
                  refine Rg.build_cons (m := 10) (r := Rg.eq _) (Rg.one_plain (by rfl) (by (intro ax wx hk Kx hK; obtain ⟨v169, k169, h169⟩ := hk.dep 8 169 _ rfl rfl rfl; (first | (cases (h169 : v169 = _)) | (obtain ⟨rfl, h169⟩ := h169) | skip); have hj := hk.j; clear hk; have z1 : wx.cell? ⟨g1, q, none⟩ = some (.int .i64 (x1 : Int)) := (hj.cell (p := ⟨g1, q, none⟩) (by rw [hwc0]; exact World.block_lt_of_cell? _ _ HL1.out)).trans (by rw [hwc0]; exact HL1.out); have z2 : wx.cell? ⟨g2, q, none⟩ = some (.int .i64 (x2 : Int)) := (hj.cell (p := ⟨g2, q, none⟩) (by rw [hwc0]; exact World.block_lt_of_cell? _ _ HL2.out)).trans (by rw [hwc0]; exact HL2.out); go_simp; refine hK _ _ ?_ (Below.refl _ _); apply Rg.mk))) ?_ rfl
                  refine Rg.build_end fun wx hj => ?_
                  refine Rg.fin_eq rfl ?_
                  refine Rg.fin_eq rfl ?_
                  refine Rg.fin_eq rfl ?_
                  refine Rg.fin_eq rfl ?_
                  refine Rg.fin_eq rfl ?_
                  refine Rg.fin_eq rfl ?_
                  refine Rg.fin_eq rfl ?_
                  refine Rg.fin_eq rfl ?_
                  refine Rg.fin_eq rfl ?_
                  refine Rg.fin_eq rfl ?_
                  refine Rg.fin_nil ?_
                  simp only [List.set_cons_zero, List.set_cons_succ]
                  have HJ := Lib.hid hj; have HWC := Lib.hid hwc0
                  clear hj hwc0
                  go_wp2_with fail
                  exact ⟨⟨q + 1, _, by go_num, rfl, HQC.out, HBC.out.trans (by have := HJ.out; rw [HWC.out] at this; exact this.mono HBC.out.size), fun hb => ⟨HLE.out.symm ▸ rfl, fun j hj hj' hjq => by
                    rcases Nat.lt_succ_iff_lt_or_eq.1 hjq with h1 | h1
                    · exact HALL.out j hj hj' h1
                    · subst h1
                      have e3 : x1 = x2 := by simp at hb; omega
                      exact HX1.out.trans (e3.trans HX2.out.symm)⟩⟩, by simp [intOf]; have := HQC.out; omega⟩
                · have hqe : q = NOW.length := by omega
                  obtain ⟨hle, hall⟩ := HBB.out rfl
                  have HSAME : Hid (NOW = NN) := Lib.hid (List.ext_getElem hle fun j h1 h2 => hall j h1 h2 (by omega))
                  clear hle hall
                  subst hqe
                  have n0 : wr.cell? ⟨w.heap.size, 0, none⟩ = some (.int .i64 2) := (AtG.keepB2 HA3.out HBC.out).cell 0 _ rfl
                  have HA4 := Lib.hid (AtG.keepB2 HA3.out HBC.out); have HB4 := Lib.hid (HB3.out.trans (HBC.out.mono HB3.out.size)); have HNX4 := Lib.hid (HNX3.out.below HBC.out)
                  go_wp2_with fail
                  exact ⟨⟨k + 1, _, NN, rfl, by first | rfl | trivial, by go_num, HLT.out, HA4.out, HB4.out, HNX4.out, HNNd.out, HNXM.out⟩, by simp [intOf]; have := HLT.out; omega⟩
              | false =>
                clear HBB
                by_cases hqc : q < NOW.length
                · skip
                  have n0 : wr.cell? ⟨w.heap.size, 0, none⟩ = some (.int .i64 2) := (AtG.keepB2 HA3.out HBC.out).cell 0 _ rfl
                  have HA4 := Lib.hid (AtG.keepB2 HA3.out HBC.out); have HB4 := Lib.hid (HB3.out.trans (HBC.out.mono HB3.out.size)); have HNX4 := Lib.hid (HNX3.out.below HBC.out)
                  go_wp2_with fail
                  exact ⟨⟨k + 1, _, NN, rfl, by first | rfl | trivial, by go_num, HLT.out, HA4.out, HB4.out, HNX4.out, HNNd.out, HNXM.out⟩, by simp [intOf]; have := HLT.out; omega⟩
                · skip
                  have n0 : wr.cell? ⟨w.heap.size, 0, none⟩ = some (.int .i64 2) := (AtG.keepB2 HA3.out HBC.out).cell 0 _ rfl
                  have HA4 := Lib.hid (AtG.keepB2 HA3.out HBC.out); have HB4 := Lib.hid (HB3.out.trans (HBC.out.mono HB3.out.size)); have HNX4 := Lib.hid (HNX3.out.below HBC.out)
                  go_wp2_with fail
                  exact ⟨⟨k + 1, _, NN, rfl, by first | rfl | trivial, by go_num, HLT.out, HA4.out, HB4.out, HNX4.out, HNNd.out, HNXM.out⟩, by simp [intOf]; have := HLT.out; omega⟩
    · have hkl9 : k = l.length := by omega
      have hltI : ¬ (k : Int) < (l.length : Int) := by omega
      have HLV := HNOW0; have HLB := HNOWB
      have HOV : Hid (OwnL wr (w.heap.size + 1) (.slice none 0 0) []) := Lib.hid (OwnL.nil _ _)
      have HND : Hid (([] : List Nat).Nodup) := Lib.hid (by simp)
      have HOB : Hid (∀ y ∈ ([] : List Nat), y ≤ xs.length) := Lib.hid (by simp)
      have HNB : Hid (∀ r, (Value.slice nva NOW.length nvc).ownBlock = some r → ¬ (Value.slice none 0 0).ownBlock = some r) := Lib.hid (fun r _ h => by cases h)
      have HBW : Hid (w.heap.size + 1 ≤ wr.heap.size) := HWL
      have hllI : (NOW.length : Int) ≤ 1001 := hnowI
      obtain ⟨wf, hwf⟩ : ∃ wf : World, wf = wr := ⟨_, rfl⟩
      rw [← hwf] at HOV HLV HBW HB ⊢
      clear hwf n0 n7
      go_wp2_with fail
      go_loopw [13, 24] (fun t i wr => ∃ (q : Nat) (v : Value), i = .int .i64 q ∧ v = t ∧ Added wf (w.heap.size + 1) (.slice none 0 0) ([]) (NOW) q wr v) (fun _ i _ => (NOW).length - (intOf i).toNat)
      case atStart => exact ⟨0, _, rfl, rfl, Added.start HOV.out HND.out⟩
      case round =>
        obtain ⟨q, v, rfl, hv, hadd⟩ := hrel
        subst hv
        obtain ⟨N, hN, hNd, hNm⟩ := hadd.ex
        have HADD := Lib.hid hadd; have HN := Lib.hid hN; have HNd := Lib.hid hNd; have HNm := Lib.hid hNm
        clear hadd hN hNd hNm
        by_cases hlq : q < (NOW).length
        · obtain ⟨lg, rfl, hlc, hcell⟩ := OwnL.cell (HLV.out.only HADD.out.only HNB.out) q hlq
          have hxb : (NOW)[q] ≤ xs.length := HLB.out _ (List.getElem_mem hlq)
          have HAD := Lib.hid (add_any wr (w.heap.size + 1) v N (NOW)[q] HN.out (Nat.le_trans HBW.out HADD.out.only.size) (by
            have := nodup_len (m := xs.length + 1) HNd.out (fun y hy => by
              rcases (HNm.out y).1 hy with h | h
              · have := HOB.out y h; omega
              · have := HLB.out y (List.mem_of_mem_take h); omega)
            omega) (by omega))
          have HLQ := Lib.hid hlq
          generalize hxq : (NOW)[q] = xq at hcell HAD hxb
          have HXQ := Lib.hid hxq
          clear hxq
          go_wp2_with fail
          refine (HAD.out).mono ?_
          rintro e9 wa ⟨v', rfl, h1, h2, h3⟩
          have HST := Lib.hid (Added.step HADD.out HLQ.out HNm.out HNd.out (by have e := HXQ.out; subst e; exact h1) h2 h3)
          clear h1 h2 h3
          go_wp2_with fail
          exact ⟨⟨q + 1, v', by go_num, rfl, HST.out⟩, by simp [intOf]; omega⟩
        · have hq0 : q = (NOW).length := by have := HADD.out.le; omega
          subst hq0
          have HNm2 : Hid (∀ y, y ∈ N ↔ y ∈ ([]) ∨ y ∈ (NOW)) := Lib.hid (fun y => by rw [HNm.out y, List.take_length])
          have HB5 := Lib.hid (below_only HB.out HADD.out.only (by have := HBW.out; omega) (fun r hr => by cases hr))
          go_wp2_with fail
          go_returns
          refine ⟨HB5.out, v, rfl, N, own_lower HN.out (by omega), HNd.out, fun y => ?_⟩
          rw [HNm2.out y, HNOWM.out y, hkl9, List.take_length, Mt]
          simp
theorem rends_any (p : Pat) : Wf p → REndsC p := by
  refine Pat.ind (M := fun p => Wf p → REndsC p) ?_ ?_ ?_ ?_ p
  · exact fun f _ => rends_one f
  · intro l ih hw
    cases hw with | cat _ h h2 h3 => exact rends_cat l h3 h2 fun p hp => ih p hp (h p hp)
  · intro l ih hw
    cases hw with | alt _ h h2 h3 => exact rends_alt l h3 fun p hp => ih p hp (h p hp)
  · intro mn mx p ih hw
    cases hw with | rep _ _ _ h h1 h2 h3 => exact rends_rep mn mx p h1 (by omega) (ih h)
end Go.Proofs.Ytofgkildlhcpdaa
/- The walk of the document's Word. -/
set_option linter.unusedVariables false
set_option linter.unusedSimpArgs false
namespace Go.Proofs.Ytofgkildlhcpdaa
open Go.RowKit Bt
set_option maxRecDepth 100000 in
set_option maxHeartbeats 1600000 in
theorem word_any (p : Pat) (hp : Wf p) (w : World) (a : Option Addr) (m c : Nat) (wv : Value) (xs : List Int) (hn : NAt w p.tree (.slice a m c)) (hx : RdB w wv xs) (hl : xs.length ≤ 1000) :
    Calls Try.prog 12 #[nodeV p.tree (.slice a m c), wv] w fun e w' => Below w.heap.size w w' ∧ ∃ r : Bool, e = .returned (.bool r) ∧ (r = true ↔ Mt (byt xs) xs.length p 0 xs.length) := by
  have hE := rends_any p hp
  unfold REndsC at hE
  rcases hpt : p.tree with ⟨op, f, mn, mx, kids⟩
  rw [hpt] at hn hE
  obtain ⟨A, wc, rfl⟩ := rdB_slice hx
  have hnI : (xs.length : Int) ≤ 1000 := by omega
  have hE2 := fun w h1 h2 => hE w a m c (.slice A xs.length wc) xs 0 h1 h2 hl (Nat.zero_le _)
  unfold nodeV at hE2 ⊢
  dsimp only at hE2 ⊢
  have HE := Lib.hid hE2
  have HX := Lib.hid hx; have HN := Lib.hid hn
  have HB0 : Hid (Below w.heap.size w (w.alloc (.cells (nodeC op f mn mx (.slice a m c)) 29))) := Lib.hid ((Below.refl _ _).alloc (Nat.le_refl _) _)
  have HLE : Hid (∀ i, Mt (byt xs) xs.length p 0 i → i ≤ xs.length) := Lib.hid (fun i h => mt_le _ _ p 0 i (Nat.zero_le _) h)
  clear hE hE2 hx hn
  go_enter Try.func12, Try.ntmps12
  go_wp2_with fail
  refine (HE.out _ (NAt.below HN.out HB0.out) (rdB_below HX.out HB0.out)).mono ?_
  rintro e9 w1 ⟨hb1, v, rfl, L, hL, hnd, hLm⟩
  obtain ⟨la, lc, rfl, _⟩ := OwnL.at hL
  have HB1 := Lib.hid (HB0.out.trans (hb1.mono HB0.out.size)); have HL := Lib.hid hL; have HLM := Lib.hid hLm
  have hlI : (L.length : Int) ≤ 1001 := by
    have := nodup_len (m := xs.length + 1) hnd (fun y hy => by have := HLE.out y ((hLm y).1 hy); omega)
    omega
  clear hb1 hL hnd hLm
  obtain ⟨w2, hw2⟩ : ∃ w2 : World, w2 = w1 := ⟨_, rfl⟩
  rw [← hw2] at HB1 HL ⊢
  clear hw2
  go_wp2_with fail
  go_loopw [6] (fun i wr => ∃ k : Nat, k ≤ L.length ∧ i = .int .i64 k ∧ wr = w2 ∧ ∀ j (hj : j < L.length), j < k → L[j] ≠ xs.length) (fun i _ => L.length - (intOf i).toNat)
  case atStart => exact ⟨0, Nat.zero_le _, rfl, by first | rfl | trivial, fun j _ h => absurd h (Nat.not_lt_zero _)⟩
  case round =>
    obtain ⟨k, hk, rfl, hw, hno⟩ := hrel
    subst hw
    have HNO := Lib.hid hno; clear hno
    by_cases hlt : k < L.length
    · obtain ⟨g, hg, hcap, hcell⟩ := OwnL.cell HL.out k hlt
      by_cases hq : L[k] = xs.length
      · have HQ : Hid (xs.length ∈ L) := Lib.hid (by rw [← hq]; exact List.getElem_mem hlt)
        rw [hq] at hcell
        clear hq
        subst hg
        go_wp2_with fail
        go_returns
        exact ⟨HB1.out, true, rfl, ⟨fun _ => (HLM.out _).1 HQ.out, fun _ => rfl⟩⟩
      · have HQ := Lib.hid hq
        have hxk : L[k] ≤ xs.length := HLE.out _ ((HLM.out _).1 (List.getElem_mem hlt))
        have n1 : ¬ ((L[k] : Nat) : Int) = (xs.length : Int) := by omega
        have n2 : ¬ L[k] = xs.length := hq
        have e1 : (((L[k] : Nat) : Int) == (xs.length : Int)) = false := by rw [beq_eq_false_iff_ne]; exact n1
        clear hq
        subst hg
        go_wp2_with fail
        exact ⟨⟨k + 1, by omega, by go_num, by first | rfl | trivial, fun j hj hjk => by
          rcases Nat.lt_succ_iff_lt_or_eq.1 hjk with h1 | rfl
          · exact HNO.out j hj h1
          · exact HQ.out⟩, by simp [intOf]; omega⟩
    · go_wp2_with fail
      go_returns
      refine ⟨HB1.out, false, rfl, ⟨(fun h => by cases h), fun h => ?_⟩⟩
      obtain ⟨j, hj, e⟩ := List.getElem_of_mem ((HLM.out _).2 h)
      exact absurd e (HNO.out j hj (by omega))
end Go.Proofs.Ytofgkildlhcpdaa
