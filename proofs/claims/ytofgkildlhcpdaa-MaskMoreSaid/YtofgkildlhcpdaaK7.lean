/- The walks of Least and Most. -/
import Derived.Test.YtofgkildlhcpdaaK6
import Derived.Laws.StructEq
set_option linter.unusedVariables false
set_option linter.unusedSimpArgs false
namespace Go.Proofs.Ytofgkildlhcpdaa
open Go.RowKit Bt
/-- what lang.Least does with a pattern -/
def LeastC (p : Pat) : Prop := ∀ (w : World) (a : Option Addr) (n c : Nat), NAt w p.tree (.slice a n c) → Calls Try.prog 13 #[nodeV p.tree (.slice a n c)] w fun e w' => e = .returned (.int .i64 (leastP p : Int)) ∧ Below w.heap.size w w'
set_option maxRecDepth 100000 in
theorem least_one (f : Nat → Bool) : LeastC (.one f) := by
  intro w a n c h
  show Calls Try.prog 13 #[.agg #[.int .i64 1, .int .u64 ((wd f 0 : Nat) : Int), .int .u64 ((wd f 1 : Nat) : Int), .int .u64 ((wd f 2 : Nat) : Int), .int .u64 ((wd f 3 : Nat) : Int), .int .i64 0, .int .i64 0, .slice a n c]] w _
  go_enter Try.func13, Try.ntmps13
  go_wp2
  go_returns
  exact ⟨rfl, by go_grown⟩
set_option maxRecDepth 100000 in
set_option maxHeartbeats 800000 in
theorem least_cat (l : List Pat) (hl : l.length ≤ 1000) (ih : ∀ p ∈ l, LeastC p) : LeastC (.cat l) := by
  intro w a n c h
  obtain rfl : n = l.length := by
    obtain ⟨a', c', hn⟩ := KAt.slice h
    injection hn with _ hn _
    rw [trees_len] at hn; exact hn
  have H := Lib.hid h
  have hX : (leastP (.cat l) : Int) = min (leastC l : Int) 1000 := by rw [leastP]; omega
  have hY := leastC_le l
  have HX := Lib.hid hX
  have hlI : (l.length : Int) ≤ 1000 := by omega
  clear h hX
  show Calls Try.prog 13 #[.agg #[.int .i64 2, .int .u64 ((wd emp 0 : Nat) : Int), .int .u64 ((wd emp 1 : Nat) : Int), .int .u64 ((wd emp 2 : Nat) : Int), .int .u64 ((wd emp 3 : Nat) : Int), .int .i64 0, .int .i64 0, .slice a l.length c]] w _
  rw [HX.out]
  go_enter Try.func13, Try.ntmps13
  go_wp2_with fail
  go_loopw [3, 19] (fun out i wr => ∃ k : Nat, k ≤ l.length ∧ i = .int .i64 k ∧ out = .int .i64 ((leastC (l.take k) : Nat) : Int) ∧ Below w.heap.size w wr) (fun _ i _ => l.length - (intOf i).toNat)
  case atStart => exact ⟨0, Nat.zero_le _, rfl, by simp [leastC], by go_grown⟩
  case round =>
    obtain ⟨k, hk, rfl, rfl, hb⟩ := hrel
    by_cases hlt : k < l.length
    · obtain ⟨b, off, cap, heq, hcap, op', f', mn', mx', kids', ka, kc, ht, hc8, hkn⟩ := kid_at (H.out.below hb) (trees_get hlt)
      injection heq with e1 e2 e3
      subst e1; subst e3
      clear e2
      rw [trees_len] at hcap
      have hI := ih l[k] (List.getElem_mem hlt)
      unfold LeastC at hI
      rw [ht] at hI hkn
      have hS := leastC_snoc l k hlt
      have hB1 := leastC_le (l.take k)
      have hB2 := leastP_le l[k]
      have htk : (l.take k).length = k := by simp; omega
      generalize leastP l[k] = m at *
      generalize hq : leastC (l.take k) = q at *
      have HS := Lib.hid hS; have HB := Lib.hid hb; have HKN := Lib.hid (hkn.alloc (.cells (nodeC op' f' mn' mx' (.slice ka kids'.length kc)) 29))
      have hI2 := fun w h => hI w ka kids'.length kc h
      unfold nodeV at hI2
      have HI := Lib.hid hI2
      obtain ⟨c0, c1, c2, c3, c4, c5, c6, c7⟩ := hc8
      obtain ⟨kn, hkl⟩ : ∃ kn, kn = kids'.length := ⟨_, rfl⟩
      rw [← hkl] at c7 HKN HI
      have hm1 : (m : Int) ≤ 1000 := by omega
      have hq1 : (q : Int) ≤ 1000000 := by omega
      clear hS hb hkn hI hI2 hkl ht hq hB1 hB2 htk
      go_wp2_with fail
      refine (HI.out _ HKN.out).mono ?_
      rintro e9 w9 ⟨rfl, hb9⟩
      have HB9 := Lib.hid ((HB.out.alloc HB.out.size (.cells (nodeC op' f' mn' mx' (.slice ka kn kc)) 29)).trans (hb9.mono (by have := HB.out.size; simp; omega)))
      clear hb9
      go_wp2_with fail
      exact ⟨⟨k + 1, by omega, by go_num, by rw [HS.out]; go_num, HB9.out⟩, by simp [intOf]; omega⟩
    · obtain rfl : k = l.length := by omega
      rw [List.take_length]
      have HB := Lib.hid hb; clear hb
      go_wp2_with fail
      all_goals (go_returns; exact ⟨by refine congrArg (fun z => Ending.returned (Value.int .i64 z)) ?_; omega, HB.out⟩)
set_option maxRecDepth 100000 in
set_option maxHeartbeats 800000 in
theorem least_alt (l : List Pat) (hl : l.length ≤ 1000) (ih : ∀ p ∈ l, LeastC p) : LeastC (.alt l) := by
  intro w a n c h
  obtain rfl : n = l.length := by
    obtain ⟨a', c', hn⟩ := KAt.slice h
    injection hn with _ hn _
    rw [trees_len] at hn; exact hn
  have H := Lib.hid h
  have hX : (leastP (.alt l) : Int) = min (leastA l : Int) 1000 := by rw [leastP]; omega
  have hY := leastA_le l
  have HX := Lib.hid hX
  have hlI : (l.length : Int) ≤ 1000 := by omega
  clear h hX
  show Calls Try.prog 13 #[.agg #[.int .i64 3, .int .u64 ((wd emp 0 : Nat) : Int), .int .u64 ((wd emp 1 : Nat) : Int), .int .u64 ((wd emp 2 : Nat) : Int), .int .u64 ((wd emp 3 : Nat) : Int), .int .i64 0, .int .i64 0, .slice a l.length c]] w _
  rw [HX.out]
  go_enter Try.func13, Try.ntmps13
  go_wp2_with fail
  go_loopw [3, 33] (fun out i wr => ∃ k : Nat, k ≤ l.length ∧ i = .int .i64 k ∧ out = .int .i64 ((leastA (l.take k) : Nat) : Int) ∧ Below w.heap.size w wr) (fun _ i _ => l.length - (intOf i).toNat)
  case atStart => exact ⟨0, Nat.zero_le _, rfl, by simp [leastA], by go_grown⟩
  case round =>
    obtain ⟨k, hk, rfl, rfl, hb⟩ := hrel
    by_cases hlt : k < l.length
    · obtain ⟨b, off, cap, heq, hcap, op', f', mn', mx', kids', ka, kc, ht, hc8, hkn⟩ := kid_at (H.out.below hb) (trees_get hlt)
      injection heq with e1 e2 e3
      subst e1; subst e3
      clear e2
      rw [trees_len] at hcap
      have hI := ih l[k] (List.getElem_mem hlt)
      unfold LeastC at hI
      rw [ht] at hI hkn
      have hS := leastA_snoc l k hlt
      have hB1 := leastA_le (l.take k)
      have hB2 := leastP_le l[k]
      have htk : (l.take k).length = k := by simp; omega
      generalize leastP l[k] = m at *
      generalize hq : leastA (l.take k) = q at *
      have HS := Lib.hid hS; have HB := Lib.hid hb; have HKN := Lib.hid (hkn.alloc (.cells (nodeC op' f' mn' mx' (.slice ka kids'.length kc)) 29))
      have hI2 := fun w h => hI w ka kids'.length kc h
      unfold nodeV at hI2
      have HI := Lib.hid hI2
      obtain ⟨c0, c1, c2, c3, c4, c5, c6, c7⟩ := hc8
      obtain ⟨kn, hkl⟩ : ∃ kn, kn = kids'.length := ⟨_, rfl⟩
      rw [← hkl] at c7 HKN HI
      have hm1 : (m : Int) ≤ 1000 := by omega
      have hq1 : (q : Int) ≤ 1000000 := by omega
      clear hS hb hkn hI hI2 hkl ht hq hB1 hB2 htk
      go_wp2_with fail
      refine (HI.out _ HKN.out).mono ?_
      rintro e9 w9 ⟨rfl, hb9⟩
      have HB9 := Lib.hid ((HB.out.alloc HB.out.size (.cells (nodeC op' f' mn' mx' (.slice ka kn kc)) 29)).trans (hb9.mono (by have := HB.out.size; simp; omega)))
      clear hb9
      go_wp2_with fail
      exact ⟨⟨k + 1, by omega, by go_num, by rw [HS.out]; congr 1; omega, HB9.out⟩, by simp [intOf]; omega⟩
    · obtain rfl : k = l.length := by omega
      rw [List.take_length]
      have HB := Lib.hid hb; clear hb
      go_wp2_with fail
      all_goals (go_returns; exact ⟨by refine congrArg (fun z => Ending.returned (Value.int .i64 z)) ?_; omega, HB.out⟩)
set_option maxRecDepth 100000 in
set_option maxHeartbeats 1600000 in
theorem least_rep (mn mx : Nat) (p : Pat) (h1 : mn ≤ 1000) (h2 : mx ≤ 1000) (ih : LeastC p) : LeastC (.rep mn mx p) := by
  intro w a n c h
  obtain rfl : n = 1 := by
    obtain ⟨a', c', hn⟩ := KAt.slice h
    injection hn with _ hn _
  have H := Lib.hid (NAt.alloc h (.cells (nodeC 4 emp (mn : Int) (mx : Int) (.slice a 1 c)) 29))
  have hX : (leastP (.rep mn mx p) : Int) = min ((mn : Int) * (leastP p : Int)) 1000 := by rw [leastP]; push_cast; omega
  have HX := Lib.hid hX
  clear hX h
  have HA := Lib.hid (AtG.new w 29 (nodeC 4 emp (mn : Int) (mx : Int) (.slice a 1 c)))
  have HB0 := Lib.hid ((Below.refl w.heap.size w).alloc (Nat.le_refl _) (.cells (nodeC 4 emp (mn : Int) (mx : Int) (.slice a 1 c)) 29))
  show Calls Try.prog 13 #[.agg #[.int .i64 4, .int .u64 ((wd emp 0 : Nat) : Int), .int .u64 ((wd emp 1 : Nat) : Int), .int .u64 ((wd emp 2 : Nat) : Int), .int .u64 ((wd emp 3 : Nat) : Int), .int .i64 (mn : Int), .int .i64 (mx : Int), .slice a 1 c]] w _
  rw [HX.out]
  unfold LeastC at ih
  have hB2 := leastP_le p
  generalize leastP p = m at *
  go_enter Try.func13, Try.ntmps13
  go_wp2_with fail
  refine wp_loop_rounds 2 ?_
  rw [rounds_succ]
  obtain ⟨b, off, cap, heq, hcap, op', f', mn', mx', kids', ka, kc, ht, hc8, hkn⟩ := kid_at (j := 0) (t := p.tree) H.out rfl
  injection heq with e1 e2 e3
  subst e1; subst e3
  clear e2
  rw [ht] at ih hkn
  obtain ⟨w0, hw0⟩ : ∃ w0 : World, w0 = w.alloc (.cells (nodeC 4 emp (mn : Int) (mx : Int) (.slice (some ⟨b, off, none⟩) 1 c)) 29) := ⟨_, rfl⟩
  have hw0' : w.alloc (.cells #[.int .i64 4, .int .u64 ((wd emp 0 : Nat) : Int), .int .u64 ((wd emp 1 : Nat) : Int), .int .u64 ((wd emp 2 : Nat) : Int), .int .u64 ((wd emp 3 : Nat) : Int), .int .i64 (mn : Int), .int .i64 (mx : Int), .slice (some ⟨b, off, none⟩) 1 c] 29) = w0 := hw0.symm
  rw [hw0']
  rw [← hw0] at hc8 hkn HA HB0 H
  have hsz : w0.heap.size = w.heap.size + 1 := by rw [hw0]; simp
  have hin2 := fun w h => ih w ka kids'.length kc h
  unfold nodeV at hin2
  have HI := Lib.hid hin2
  have HKN := Lib.hid (hkn.alloc (.cells (nodeC op' f' mn' mx' (.slice ka kids'.length kc)) 29))
  obtain ⟨c0, c1, c2, c3, c4, c5, c6, c7⟩ := hc8
  have hz8 : off + 0 * 8 = off := by omega
  rw [hz8] at c0 c1 c2 c3 c4 c5 c6 c7
  have HA2 := Lib.hid (HA.out.alloc (.cells (nodeC op' f' mn' mx' (.slice ka kids'.length kc)) 29))
  have HB2 := Lib.hid (HB0.out.alloc (by omega) (.cells (nodeC op' f' mn' mx' (.slice ka kids'.length kc)) 29))
  obtain ⟨kn, hkl⟩ : ∃ kn, kn = kids'.length := ⟨_, rfl⟩
  rw [← hkl] at c7 HKN HI HA2 HB2
  have HSZ := Lib.hid hsz
  have hm1 : (m : Int) ≤ 1000 := by omega
  have hml : (mn : Int) * (m : Int) ≤ 1000000 := by
    have : mn * m ≤ 1000 * 1000 := Nat.mul_le_mul (by omega) (by omega)
    have h3 : ((mn * m : Nat) : Int) ≤ 1000000 := by omega
    rwa [Int.natCast_mul] at h3
  have hml0 : 0 ≤ (mn : Int) * (m : Int) := Int.mul_nonneg (Int.natCast_nonneg _) (Int.natCast_nonneg _)
  clear ih hin2 hkn ht hkl hw0' hw0 hz8 hcap hsz hB2
  go_upto_region 22 with (fail)
  obtain ⟨w1, hw1⟩ : ∃ w1 : World, w1 = w0.alloc (.cells (nodeC op' f' mn' mx' (.slice ka kn kc)) 29) := ⟨_, rfl⟩
  have hw1' : w0.alloc (.cells #[.int .i64 op', .int .u64 ((wd f' 0 : Nat) : Int), .int .u64 ((wd f' 1 : Nat) : Int), .int .u64 ((wd f' 2 : Nat) : Int), .int .u64 ((wd f' 3 : Nat) : Int), .int .i64 mn', .int .i64 mx', .slice ka kn kc] 29) = w1 := hw1.symm
  rw [hw1']
  have HN := Lib.hid (AtG.new w0 29 (nodeC op' f' mn' mx' (.slice ka kn kc)))
  rw [← hw1] at HKN HA2 HB2 HN
  clear hw1 hw1' c0 c1 c2 c3 c4 c5 c6 c7
  refine Rg.wp_region_each (by kernel_rfl) (fun w' => AtG w' w.heap.size 29 (nodeC 4 emp (mn : Int) (mx : Int) (.slice (some ⟨b, off, none⟩) 1 c)) ∧ AtG w' w0.heap.size 29 (nodeC op' f' mn' mx' (.slice ka kn kc)) ∧ NAt w' (.node op' f' mn' mx' kids') (.slice ka kn kc) ∧ Below w.heap.size w w') (fun w1 w2 h hb => ⟨h.1.below hb, h.2.1.below hb, h.2.2.1.below hb, h.2.2.2.trans (hb.mono h.2.2.2.size)⟩) (by kernel_rfl) (by kernel_rfl) (⟨HA2.out, HN.out, HKN.out, HB2.out⟩) ?_
  show Rg.Build _ _ _ _ _ 0 [_, _, _, _, _, _] []
  refine Rg.build_cons (m := 1) (r := Rg.eq _) (Rg.one_plain (by rfl) (by (intro ax wx hk Kx hK; have k1 := hk.base 1 _ rfl rfl; have hj := hk.j; clear hk; have m5 : wx.cell? ⟨w.heap.size, 5, none⟩ = some (.int .i64 (mn : Int)) := hj.1.cell 5 _ rfl; have m6 : wx.cell? ⟨w.heap.size, 6, none⟩ = some (.int .i64 (mx : Int)) := hj.1.cell 6 _ rfl; have q0 : wx.cell? ⟨w0.heap.size, 0, none⟩ = some (.int .i64 op') := hj.2.1.cell 0 _ rfl; have q1 : wx.cell? ⟨w0.heap.size, 1, none⟩ = some (.int .u64 ((wd f' 0 : Nat) : Int)) := hj.2.1.cell 1 _ rfl; have q2 : wx.cell? ⟨w0.heap.size, 2, none⟩ = some (.int .u64 ((wd f' 1 : Nat) : Int)) := hj.2.1.cell 2 _ rfl; have q3 : wx.cell? ⟨w0.heap.size, 3, none⟩ = some (.int .u64 ((wd f' 2 : Nat) : Int)) := hj.2.1.cell 3 _ rfl; have q4 : wx.cell? ⟨w0.heap.size, 4, none⟩ = some (.int .u64 ((wd f' 3 : Nat) : Int)) := hj.2.1.cell 4 _ rfl; have q5 : wx.cell? ⟨w0.heap.size, 5, none⟩ = some (.int .i64 mn') := hj.2.1.cell 5 _ rfl; have q6 : wx.cell? ⟨w0.heap.size, 6, none⟩ = some (.int .i64 mx') := hj.2.1.cell 6 _ rfl; have q7 : wx.cell? ⟨w0.heap.size, 7, none⟩ = some (.slice ka kn kc) := hj.2.1.cell 7 _ rfl; go_simp; refine hK _ _ ?_ (Below.refl _ _); apply Rg.mk))) ?_ rfl
  refine Rg.build_cons (m := 2) (r := Rg.eq _) (Rg.one_plain (by rfl) (by (intro ax wx hk Kx hK; obtain ⟨v51, k51, h51⟩ := hk.dep 0 51 _ rfl rfl rfl; (first | (cases (h51 : v51 = _)) | (obtain ⟨rfl, h51⟩ := h51) | skip); have hj := hk.j; clear hk; have m5 : wx.cell? ⟨w.heap.size, 5, none⟩ = some (.int .i64 (mn : Int)) := hj.1.cell 5 _ rfl; have m6 : wx.cell? ⟨w.heap.size, 6, none⟩ = some (.int .i64 (mx : Int)) := hj.1.cell 6 _ rfl; have q0 : wx.cell? ⟨w0.heap.size, 0, none⟩ = some (.int .i64 op') := hj.2.1.cell 0 _ rfl; have q1 : wx.cell? ⟨w0.heap.size, 1, none⟩ = some (.int .u64 ((wd f' 0 : Nat) : Int)) := hj.2.1.cell 1 _ rfl; have q2 : wx.cell? ⟨w0.heap.size, 2, none⟩ = some (.int .u64 ((wd f' 1 : Nat) : Int)) := hj.2.1.cell 2 _ rfl; have q3 : wx.cell? ⟨w0.heap.size, 3, none⟩ = some (.int .u64 ((wd f' 2 : Nat) : Int)) := hj.2.1.cell 3 _ rfl; have q4 : wx.cell? ⟨w0.heap.size, 4, none⟩ = some (.int .u64 ((wd f' 3 : Nat) : Int)) := hj.2.1.cell 4 _ rfl; have q5 : wx.cell? ⟨w0.heap.size, 5, none⟩ = some (.int .i64 mn') := hj.2.1.cell 5 _ rfl; have q6 : wx.cell? ⟨w0.heap.size, 6, none⟩ = some (.int .i64 mx') := hj.2.1.cell 6 _ rfl; have q7 : wx.cell? ⟨w0.heap.size, 7, none⟩ = some (.slice ka kn kc) := hj.2.1.cell 7 _ rfl; go_simp; refine hK _ _ ?_ (Below.refl _ _); apply Rg.mk))) ?_ rfl
  refine Rg.build_cons (m := 3) (r := Rg.eq _) (Rg.one_plain (by rfl) (by (intro ax wx hk Kx hK; have k9 := hk.base 9 _ rfl rfl; have hj := hk.j; clear hk; have m5 : wx.cell? ⟨w.heap.size, 5, none⟩ = some (.int .i64 (mn : Int)) := hj.1.cell 5 _ rfl; have m6 : wx.cell? ⟨w.heap.size, 6, none⟩ = some (.int .i64 (mx : Int)) := hj.1.cell 6 _ rfl; have q0 : wx.cell? ⟨w0.heap.size, 0, none⟩ = some (.int .i64 op') := hj.2.1.cell 0 _ rfl; have q1 : wx.cell? ⟨w0.heap.size, 1, none⟩ = some (.int .u64 ((wd f' 0 : Nat) : Int)) := hj.2.1.cell 1 _ rfl; have q2 : wx.cell? ⟨w0.heap.size, 2, none⟩ = some (.int .u64 ((wd f' 1 : Nat) : Int)) := hj.2.1.cell 2 _ rfl; have q3 : wx.cell? ⟨w0.heap.size, 3, none⟩ = some (.int .u64 ((wd f' 2 : Nat) : Int)) := hj.2.1.cell 3 _ rfl; have q4 : wx.cell? ⟨w0.heap.size, 4, none⟩ = some (.int .u64 ((wd f' 3 : Nat) : Int)) := hj.2.1.cell 4 _ rfl; have q5 : wx.cell? ⟨w0.heap.size, 5, none⟩ = some (.int .i64 mn') := hj.2.1.cell 5 _ rfl; have q6 : wx.cell? ⟨w0.heap.size, 6, none⟩ = some (.int .i64 mx') := hj.2.1.cell 6 _ rfl; have q7 : wx.cell? ⟨w0.heap.size, 7, none⟩ = some (.slice ka kn kc) := hj.2.1.cell 7 _ rfl; go_simp; refine hK _ _ ?_ (Below.refl _ _); apply Rg.mk))) ?_ rfl
  refine Rg.build_cons (m := 4) (r := Rg.eq _) (Rg.one_plain (by rfl) (by (intro ax wx hk Kx hK; obtain ⟨v53, k53, h53⟩ := hk.dep 2 53 _ rfl rfl rfl; (first | (cases (h53 : v53 = _)) | (obtain ⟨rfl, h53⟩ := h53) | skip); have hj := hk.j; clear hk; have m5 : wx.cell? ⟨w.heap.size, 5, none⟩ = some (.int .i64 (mn : Int)) := hj.1.cell 5 _ rfl; have m6 : wx.cell? ⟨w.heap.size, 6, none⟩ = some (.int .i64 (mx : Int)) := hj.1.cell 6 _ rfl; have q0 : wx.cell? ⟨w0.heap.size, 0, none⟩ = some (.int .i64 op') := hj.2.1.cell 0 _ rfl; have q1 : wx.cell? ⟨w0.heap.size, 1, none⟩ = some (.int .u64 ((wd f' 0 : Nat) : Int)) := hj.2.1.cell 1 _ rfl; have q2 : wx.cell? ⟨w0.heap.size, 2, none⟩ = some (.int .u64 ((wd f' 1 : Nat) : Int)) := hj.2.1.cell 2 _ rfl; have q3 : wx.cell? ⟨w0.heap.size, 3, none⟩ = some (.int .u64 ((wd f' 2 : Nat) : Int)) := hj.2.1.cell 3 _ rfl; have q4 : wx.cell? ⟨w0.heap.size, 4, none⟩ = some (.int .u64 ((wd f' 3 : Nat) : Int)) := hj.2.1.cell 4 _ rfl; have q5 : wx.cell? ⟨w0.heap.size, 5, none⟩ = some (.int .i64 mn') := hj.2.1.cell 5 _ rfl; have q6 : wx.cell? ⟨w0.heap.size, 6, none⟩ = some (.int .i64 mx') := hj.2.1.cell 6 _ rfl; have q7 : wx.cell? ⟨w0.heap.size, 7, none⟩ = some (.slice ka kn kc) := hj.2.1.cell 7 _ rfl; go_simp; refine (HI.out _ hj.2.2.1).mono ?_; rintro e w' ⟨rfl, hb⟩; refine hK _ _ ?_ hb; apply Rg.mk))) ?_ rfl
  refine Rg.build_cons (m := 5) (r := Rg.eq (.int .i64 ((mn : Int) * (m : Int)))) (Rg.one_plain (by rfl) (by (intro ax wx hk Kx hK; obtain ⟨v52, k52, h52⟩ := hk.dep 1 52 _ rfl rfl rfl; (first | (cases (h52 : v52 = _)) | (obtain ⟨rfl, h52⟩ := h52) | skip); obtain ⟨v54, k54, h54⟩ := hk.dep 3 54 _ rfl rfl rfl; (first | (cases (h54 : v54 = _)) | (obtain ⟨rfl, h54⟩ := h54) | skip); have hj := hk.j; clear hk; have m5 : wx.cell? ⟨w.heap.size, 5, none⟩ = some (.int .i64 (mn : Int)) := hj.1.cell 5 _ rfl; have m6 : wx.cell? ⟨w.heap.size, 6, none⟩ = some (.int .i64 (mx : Int)) := hj.1.cell 6 _ rfl; have q0 : wx.cell? ⟨w0.heap.size, 0, none⟩ = some (.int .i64 op') := hj.2.1.cell 0 _ rfl; have q1 : wx.cell? ⟨w0.heap.size, 1, none⟩ = some (.int .u64 ((wd f' 0 : Nat) : Int)) := hj.2.1.cell 1 _ rfl; have q2 : wx.cell? ⟨w0.heap.size, 2, none⟩ = some (.int .u64 ((wd f' 1 : Nat) : Int)) := hj.2.1.cell 2 _ rfl; have q3 : wx.cell? ⟨w0.heap.size, 3, none⟩ = some (.int .u64 ((wd f' 2 : Nat) : Int)) := hj.2.1.cell 3 _ rfl; have q4 : wx.cell? ⟨w0.heap.size, 4, none⟩ = some (.int .u64 ((wd f' 3 : Nat) : Int)) := hj.2.1.cell 4 _ rfl; have q5 : wx.cell? ⟨w0.heap.size, 5, none⟩ = some (.int .i64 mn') := hj.2.1.cell 5 _ rfl; have q6 : wx.cell? ⟨w0.heap.size, 6, none⟩ = some (.int .i64 mx') := hj.2.1.cell 6 _ rfl; have q7 : wx.cell? ⟨w0.heap.size, 7, none⟩ = some (.slice ka kn kc) := hj.2.1.cell 7 _ rfl; (go_simp; refine hK _ _ ?_ (Below.refl _ _); simp [Rg.eq, IntKind.wrap_i64]; try omega)))) ?_ rfl
  refine Rg.build_cons (m := 6) (r := Rg.eq _) (Rg.one_plain (by rfl) (by (intro ax wx hk Kx hK; obtain ⟨v55, k55, h55⟩ := hk.dep 4 55 _ rfl rfl rfl; (first | (cases (h55 : v55 = _)) | (obtain ⟨rfl, h55⟩ := h55) | skip); have hj := hk.j; clear hk; have m5 : wx.cell? ⟨w.heap.size, 5, none⟩ = some (.int .i64 (mn : Int)) := hj.1.cell 5 _ rfl; have m6 : wx.cell? ⟨w.heap.size, 6, none⟩ = some (.int .i64 (mx : Int)) := hj.1.cell 6 _ rfl; have q0 : wx.cell? ⟨w0.heap.size, 0, none⟩ = some (.int .i64 op') := hj.2.1.cell 0 _ rfl; have q1 : wx.cell? ⟨w0.heap.size, 1, none⟩ = some (.int .u64 ((wd f' 0 : Nat) : Int)) := hj.2.1.cell 1 _ rfl; have q2 : wx.cell? ⟨w0.heap.size, 2, none⟩ = some (.int .u64 ((wd f' 1 : Nat) : Int)) := hj.2.1.cell 2 _ rfl; have q3 : wx.cell? ⟨w0.heap.size, 3, none⟩ = some (.int .u64 ((wd f' 2 : Nat) : Int)) := hj.2.1.cell 3 _ rfl; have q4 : wx.cell? ⟨w0.heap.size, 4, none⟩ = some (.int .u64 ((wd f' 3 : Nat) : Int)) := hj.2.1.cell 4 _ rfl; have q5 : wx.cell? ⟨w0.heap.size, 5, none⟩ = some (.int .i64 mn') := hj.2.1.cell 5 _ rfl; have q6 : wx.cell? ⟨w0.heap.size, 6, none⟩ = some (.int .i64 mx') := hj.2.1.cell 6 _ rfl; have q7 : wx.cell? ⟨w0.heap.size, 7, none⟩ = some (.slice ka kn kc) := hj.2.1.cell 7 _ rfl; go_simp; refine hK _ _ ?_ (Below.refl _ _); apply Rg.mk))) ?_ rfl
  refine Rg.build_end fun wx hj => ?_
  refine Rg.fin_eq rfl ?_
  refine Rg.fin_eq rfl ?_
  refine Rg.fin_eq rfl ?_
  refine Rg.fin_eq rfl ?_
  first | refine Rg.fin_eq rfl ?_ | refine Rg.fin_any rfl fun v55 h55 => ?_
  refine Rg.fin_eq rfl ?_
  refine Rg.fin_nil ?_
  simp only [List.set_cons_zero, List.set_cons_succ]
  have HJ := Lib.hid hj.2.2.2
  clear hj
  go_wp2_with fail
  rw [rounds_succ]
  go_wp2_with fail
  all_goals (go_returns; exact ⟨by refine congrArg (fun z => Ending.returned (Value.int .i64 z)) ?_; omega, HJ.out⟩)
theorem least_any (p : Pat) : Wf p → LeastC p := by
  refine Pat.ind (M := fun p => Wf p → LeastC p) ?_ ?_ ?_ ?_ p
  · exact fun f _ => least_one f
  · intro l ih hw
    cases hw with | cat _ h h2 h3 => exact least_cat l h3 fun p hp => ih p hp (h p hp)
  · intro l ih hw
    cases hw with | alt _ h h2 h3 => exact least_alt l h3 fun p hp => ih p hp (h p hp)
  · intro mn mx p ih hw
    cases hw with | rep _ _ _ h h1 h2 h3 => exact least_rep mn mx p (by omega) (by omega) (ih h)
/-- what lang.Most does with a pattern -/
def MostC (p : Pat) : Prop := ∀ (w : World) (a : Option Addr) (n c : Nat), NAt w p.tree (.slice a n c) → Calls Try.prog 15 #[nodeV p.tree (.slice a n c)] w fun e w' => e = .returned (.int .i64 (mostP p : Int)) ∧ Below w.heap.size w w'
set_option maxRecDepth 100000 in
theorem most_one (f : Nat → Bool) : MostC (.one f) := by
  intro w a n c h
  show Calls Try.prog 15 #[.agg #[.int .i64 1, .int .u64 ((wd f 0 : Nat) : Int), .int .u64 ((wd f 1 : Nat) : Int), .int .u64 ((wd f 2 : Nat) : Int), .int .u64 ((wd f 3 : Nat) : Int), .int .i64 0, .int .i64 0, .slice a n c]] w _
  go_enter Try.func15, Try.ntmps15
  go_wp2
  go_returns
  exact ⟨rfl, by go_grown⟩
set_option maxRecDepth 100000 in
set_option maxHeartbeats 800000 in
theorem most_cat (l : List Pat) (hl : l.length ≤ 1000) (ih : ∀ p ∈ l, MostC p) : MostC (.cat l) := by
  intro w a n c h
  obtain rfl : n = l.length := by
    obtain ⟨a', c', hn⟩ := KAt.slice h
    injection hn with _ hn _
    rw [trees_len] at hn; exact hn
  have H := Lib.hid h
  have hX : (mostP (.cat l) : Int) = min (mostC l : Int) 1000 := by rw [mostP]; omega
  have hY := mostC_le l
  have HX := Lib.hid hX
  have hlI : (l.length : Int) ≤ 1000 := by omega
  clear h hX
  show Calls Try.prog 15 #[.agg #[.int .i64 2, .int .u64 ((wd emp 0 : Nat) : Int), .int .u64 ((wd emp 1 : Nat) : Int), .int .u64 ((wd emp 2 : Nat) : Int), .int .u64 ((wd emp 3 : Nat) : Int), .int .i64 0, .int .i64 0, .slice a l.length c]] w _
  rw [HX.out]
  go_enter Try.func15, Try.ntmps15
  go_wp2_with fail
  go_loopw [3, 19] (fun out i wr => ∃ k : Nat, k ≤ l.length ∧ i = .int .i64 k ∧ out = .int .i64 ((mostC (l.take k) : Nat) : Int) ∧ Below w.heap.size w wr) (fun _ i _ => l.length - (intOf i).toNat)
  case atStart => exact ⟨0, Nat.zero_le _, rfl, by simp [mostC], by go_grown⟩
  case round =>
    obtain ⟨k, hk, rfl, rfl, hb⟩ := hrel
    by_cases hlt : k < l.length
    · obtain ⟨b, off, cap, heq, hcap, op', f', mn', mx', kids', ka, kc, ht, hc8, hkn⟩ := kid_at (H.out.below hb) (trees_get hlt)
      injection heq with e1 e2 e3
      subst e1; subst e3
      clear e2
      rw [trees_len] at hcap
      have hI := ih l[k] (List.getElem_mem hlt)
      unfold MostC at hI
      rw [ht] at hI hkn
      have hS := mostC_snoc l k hlt
      have hB1 := mostC_le (l.take k)
      have hB2 := mostP_le l[k]
      have htk : (l.take k).length = k := by simp; omega
      generalize mostP l[k] = m at *
      generalize hq : mostC (l.take k) = q at *
      have HS := Lib.hid hS; have HB := Lib.hid hb; have HKN := Lib.hid (hkn.alloc (.cells (nodeC op' f' mn' mx' (.slice ka kids'.length kc)) 29))
      have hI2 := fun w h => hI w ka kids'.length kc h
      unfold nodeV at hI2
      have HI := Lib.hid hI2
      obtain ⟨c0, c1, c2, c3, c4, c5, c6, c7⟩ := hc8
      obtain ⟨kn, hkl⟩ : ∃ kn, kn = kids'.length := ⟨_, rfl⟩
      rw [← hkl] at c7 HKN HI
      have hm1 : (m : Int) ≤ 1000 := by omega
      have hq1 : (q : Int) ≤ 1000000 := by omega
      clear hS hb hkn hI hI2 hkl ht hq hB1 hB2 htk
      go_wp2_with fail
      refine (HI.out _ HKN.out).mono ?_
      rintro e9 w9 ⟨rfl, hb9⟩
      have HB9 := Lib.hid ((HB.out.alloc HB.out.size (.cells (nodeC op' f' mn' mx' (.slice ka kn kc)) 29)).trans (hb9.mono (by have := HB.out.size; simp; omega)))
      clear hb9
      go_wp2_with fail
      exact ⟨⟨k + 1, by omega, by go_num, by rw [HS.out]; go_num, HB9.out⟩, by simp [intOf]; omega⟩
    · obtain rfl : k = l.length := by omega
      rw [List.take_length]
      have HB := Lib.hid hb; clear hb
      go_wp2_with fail
      all_goals (go_returns; exact ⟨by refine congrArg (fun z => Ending.returned (Value.int .i64 z)) ?_; omega, HB.out⟩)
set_option maxRecDepth 100000 in
set_option maxHeartbeats 800000 in
theorem most_alt (l : List Pat) (hl : l.length ≤ 1000) (ih : ∀ p ∈ l, MostC p) : MostC (.alt l) := by
  intro w a n c h
  obtain rfl : n = l.length := by
    obtain ⟨a', c', hn⟩ := KAt.slice h
    injection hn with _ hn _
    rw [trees_len] at hn; exact hn
  have H := Lib.hid h
  have hX : (mostP (.alt l) : Int) = min (mostA l : Int) 1000 := by rw [mostP]; omega
  have hY := mostA_le l
  have HX := Lib.hid hX
  have hlI : (l.length : Int) ≤ 1000 := by omega
  clear h hX
  show Calls Try.prog 15 #[.agg #[.int .i64 3, .int .u64 ((wd emp 0 : Nat) : Int), .int .u64 ((wd emp 1 : Nat) : Int), .int .u64 ((wd emp 2 : Nat) : Int), .int .u64 ((wd emp 3 : Nat) : Int), .int .i64 0, .int .i64 0, .slice a l.length c]] w _
  rw [HX.out]
  go_enter Try.func15, Try.ntmps15
  go_wp2_with fail
  go_loopw [3, 33] (fun out i wr => ∃ k : Nat, k ≤ l.length ∧ i = .int .i64 k ∧ out = .int .i64 ((mostA (l.take k) : Nat) : Int) ∧ Below w.heap.size w wr) (fun _ i _ => l.length - (intOf i).toNat)
  case atStart => exact ⟨0, Nat.zero_le _, rfl, by simp [mostA], by go_grown⟩
  case round =>
    obtain ⟨k, hk, rfl, rfl, hb⟩ := hrel
    by_cases hlt : k < l.length
    · obtain ⟨b, off, cap, heq, hcap, op', f', mn', mx', kids', ka, kc, ht, hc8, hkn⟩ := kid_at (H.out.below hb) (trees_get hlt)
      injection heq with e1 e2 e3
      subst e1; subst e3
      clear e2
      rw [trees_len] at hcap
      have hI := ih l[k] (List.getElem_mem hlt)
      unfold MostC at hI
      rw [ht] at hI hkn
      have hS := mostA_snoc l k hlt
      have hB1 := mostA_le (l.take k)
      have hB2 := mostP_le l[k]
      have htk : (l.take k).length = k := by simp; omega
      generalize mostP l[k] = m at *
      generalize hq : mostA (l.take k) = q at *
      have HS := Lib.hid hS; have HB := Lib.hid hb; have HKN := Lib.hid (hkn.alloc (.cells (nodeC op' f' mn' mx' (.slice ka kids'.length kc)) 29))
      have hI2 := fun w h => hI w ka kids'.length kc h
      unfold nodeV at hI2
      have HI := Lib.hid hI2
      obtain ⟨c0, c1, c2, c3, c4, c5, c6, c7⟩ := hc8
      obtain ⟨kn, hkl⟩ : ∃ kn, kn = kids'.length := ⟨_, rfl⟩
      rw [← hkl] at c7 HKN HI
      have hm1 : (m : Int) ≤ 1000 := by omega
      have hq1 : (q : Int) ≤ 1000000 := by omega
      clear hS hb hkn hI hI2 hkl ht hq hB1 hB2 htk
      go_wp2_with fail
      refine (HI.out _ HKN.out).mono ?_
      rintro e9 w9 ⟨rfl, hb9⟩
      have HB9 := Lib.hid ((HB.out.alloc HB.out.size (.cells (nodeC op' f' mn' mx' (.slice ka kn kc)) 29)).trans (hb9.mono (by have := HB.out.size; simp; omega)))
      clear hb9
      go_wp2_with fail
      exact ⟨⟨k + 1, by omega, by go_num, by rw [HS.out]; congr 1; omega, HB9.out⟩, by simp [intOf]; omega⟩
    · obtain rfl : k = l.length := by omega
      rw [List.take_length]
      have HB := Lib.hid hb; clear hb
      go_wp2_with fail
      all_goals (go_returns; exact ⟨by refine congrArg (fun z => Ending.returned (Value.int .i64 z)) ?_; omega, HB.out⟩)
set_option maxRecDepth 100000 in
set_option maxHeartbeats 1600000 in
theorem most_rep (mn mx : Nat) (p : Pat) (h1 : mn ≤ 1000) (h2 : mx ≤ 1000) (ih : MostC p) : MostC (.rep mn mx p) := by
  intro w a n c h
  obtain rfl : n = 1 := by
    obtain ⟨a', c', hn⟩ := KAt.slice h
    injection hn with _ hn _
  have H := Lib.hid (NAt.alloc h (.cells (nodeC 4 emp (mn : Int) (mx : Int) (.slice a 1 c)) 29))
  have hX : (mostP (.rep mn mx p) : Int) = min ((mx : Int) * (mostP p : Int)) 1000 := by rw [mostP]; push_cast; omega
  have HX := Lib.hid hX
  clear hX h
  have HA := Lib.hid (AtG.new w 29 (nodeC 4 emp (mn : Int) (mx : Int) (.slice a 1 c)))
  have HB0 := Lib.hid ((Below.refl w.heap.size w).alloc (Nat.le_refl _) (.cells (nodeC 4 emp (mn : Int) (mx : Int) (.slice a 1 c)) 29))
  show Calls Try.prog 15 #[.agg #[.int .i64 4, .int .u64 ((wd emp 0 : Nat) : Int), .int .u64 ((wd emp 1 : Nat) : Int), .int .u64 ((wd emp 2 : Nat) : Int), .int .u64 ((wd emp 3 : Nat) : Int), .int .i64 (mn : Int), .int .i64 (mx : Int), .slice a 1 c]] w _
  rw [HX.out]
  unfold MostC at ih
  have hB2 := mostP_le p
  generalize mostP p = m at *
  go_enter Try.func15, Try.ntmps15
  go_wp2_with fail
  refine wp_loop_rounds 2 ?_
  rw [rounds_succ]
  obtain ⟨b, off, cap, heq, hcap, op', f', mn', mx', kids', ka, kc, ht, hc8, hkn⟩ := kid_at (j := 0) (t := p.tree) H.out rfl
  injection heq with e1 e2 e3
  subst e1; subst e3
  clear e2
  rw [ht] at ih hkn
  obtain ⟨w0, hw0⟩ : ∃ w0 : World, w0 = w.alloc (.cells (nodeC 4 emp (mn : Int) (mx : Int) (.slice (some ⟨b, off, none⟩) 1 c)) 29) := ⟨_, rfl⟩
  have hw0' : w.alloc (.cells #[.int .i64 4, .int .u64 ((wd emp 0 : Nat) : Int), .int .u64 ((wd emp 1 : Nat) : Int), .int .u64 ((wd emp 2 : Nat) : Int), .int .u64 ((wd emp 3 : Nat) : Int), .int .i64 (mn : Int), .int .i64 (mx : Int), .slice (some ⟨b, off, none⟩) 1 c] 29) = w0 := hw0.symm
  rw [hw0']
  rw [← hw0] at hc8 hkn HA HB0 H
  have hsz : w0.heap.size = w.heap.size + 1 := by rw [hw0]; simp
  have hin2 := fun w h => ih w ka kids'.length kc h
  unfold nodeV at hin2
  have HI := Lib.hid hin2
  have HKN := Lib.hid (hkn.alloc (.cells (nodeC op' f' mn' mx' (.slice ka kids'.length kc)) 29))
  obtain ⟨c0, c1, c2, c3, c4, c5, c6, c7⟩ := hc8
  have hz8 : off + 0 * 8 = off := by omega
  rw [hz8] at c0 c1 c2 c3 c4 c5 c6 c7
  have HA2 := Lib.hid (HA.out.alloc (.cells (nodeC op' f' mn' mx' (.slice ka kids'.length kc)) 29))
  have HB2 := Lib.hid (HB0.out.alloc (by omega) (.cells (nodeC op' f' mn' mx' (.slice ka kids'.length kc)) 29))
  obtain ⟨kn, hkl⟩ : ∃ kn, kn = kids'.length := ⟨_, rfl⟩
  rw [← hkl] at c7 HKN HI HA2 HB2
  have HSZ := Lib.hid hsz
  have hm1 : (m : Int) ≤ 1000 := by omega
  have hml : (mx : Int) * (m : Int) ≤ 1000000 := by
    have : mx * m ≤ 1000 * 1000 := Nat.mul_le_mul (by omega) (by omega)
    have h3 : ((mx * m : Nat) : Int) ≤ 1000000 := by omega
    rwa [Int.natCast_mul] at h3
  have hml0 : 0 ≤ (mx : Int) * (m : Int) := Int.mul_nonneg (Int.natCast_nonneg _) (Int.natCast_nonneg _)
  clear ih hin2 hkn ht hkl hw0' hw0 hz8 hcap hsz hB2
  go_upto_region 21 with (fail)
  obtain ⟨w1, hw1⟩ : ∃ w1 : World, w1 = w0.alloc (.cells (nodeC op' f' mn' mx' (.slice ka kn kc)) 29) := ⟨_, rfl⟩
  have hw1' : w0.alloc (.cells #[.int .i64 op', .int .u64 ((wd f' 0 : Nat) : Int), .int .u64 ((wd f' 1 : Nat) : Int), .int .u64 ((wd f' 2 : Nat) : Int), .int .u64 ((wd f' 3 : Nat) : Int), .int .i64 mn', .int .i64 mx', .slice ka kn kc] 29) = w1 := hw1.symm
  rw [hw1']
  have HN := Lib.hid (AtG.new w0 29 (nodeC op' f' mn' mx' (.slice ka kn kc)))
  rw [← hw1] at HKN HA2 HB2 HN
  clear hw1 hw1' c0 c1 c2 c3 c4 c5 c6 c7
  refine Rg.wp_region_each (by kernel_rfl) (fun w' => AtG w' w.heap.size 29 (nodeC 4 emp (mn : Int) (mx : Int) (.slice (some ⟨b, off, none⟩) 1 c)) ∧ AtG w' w0.heap.size 29 (nodeC op' f' mn' mx' (.slice ka kn kc)) ∧ NAt w' (.node op' f' mn' mx' kids') (.slice ka kn kc) ∧ Below w.heap.size w w') (fun w1 w2 h hb => ⟨h.1.below hb, h.2.1.below hb, h.2.2.1.below hb, h.2.2.2.trans (hb.mono h.2.2.2.size)⟩) (by kernel_rfl) (by kernel_rfl) (⟨HA2.out, HN.out, HKN.out, HB2.out⟩) ?_
  show Rg.Build _ _ _ _ _ 0 [_, _, _, _, _, _] []
  refine Rg.build_cons (m := 1) (r := Rg.eq _) (Rg.one_plain (by rfl) (by (intro ax wx hk Kx hK; have k1 := hk.base 1 _ rfl rfl; have hj := hk.j; clear hk; have m5 : wx.cell? ⟨w.heap.size, 5, none⟩ = some (.int .i64 (mn : Int)) := hj.1.cell 5 _ rfl; have m6 : wx.cell? ⟨w.heap.size, 6, none⟩ = some (.int .i64 (mx : Int)) := hj.1.cell 6 _ rfl; have q0 : wx.cell? ⟨w0.heap.size, 0, none⟩ = some (.int .i64 op') := hj.2.1.cell 0 _ rfl; have q1 : wx.cell? ⟨w0.heap.size, 1, none⟩ = some (.int .u64 ((wd f' 0 : Nat) : Int)) := hj.2.1.cell 1 _ rfl; have q2 : wx.cell? ⟨w0.heap.size, 2, none⟩ = some (.int .u64 ((wd f' 1 : Nat) : Int)) := hj.2.1.cell 2 _ rfl; have q3 : wx.cell? ⟨w0.heap.size, 3, none⟩ = some (.int .u64 ((wd f' 2 : Nat) : Int)) := hj.2.1.cell 3 _ rfl; have q4 : wx.cell? ⟨w0.heap.size, 4, none⟩ = some (.int .u64 ((wd f' 3 : Nat) : Int)) := hj.2.1.cell 4 _ rfl; have q5 : wx.cell? ⟨w0.heap.size, 5, none⟩ = some (.int .i64 mn') := hj.2.1.cell 5 _ rfl; have q6 : wx.cell? ⟨w0.heap.size, 6, none⟩ = some (.int .i64 mx') := hj.2.1.cell 6 _ rfl; have q7 : wx.cell? ⟨w0.heap.size, 7, none⟩ = some (.slice ka kn kc) := hj.2.1.cell 7 _ rfl; go_simp; refine hK _ _ ?_ (Below.refl _ _); apply Rg.mk))) ?_ rfl
  refine Rg.build_cons (m := 2) (r := Rg.eq _) (Rg.one_plain (by rfl) (by (intro ax wx hk Kx hK; obtain ⟨v51, k51, h51⟩ := hk.dep 0 51 _ rfl rfl rfl; (first | (cases (h51 : v51 = _)) | (obtain ⟨rfl, h51⟩ := h51) | skip); have hj := hk.j; clear hk; have m5 : wx.cell? ⟨w.heap.size, 5, none⟩ = some (.int .i64 (mn : Int)) := hj.1.cell 5 _ rfl; have m6 : wx.cell? ⟨w.heap.size, 6, none⟩ = some (.int .i64 (mx : Int)) := hj.1.cell 6 _ rfl; have q0 : wx.cell? ⟨w0.heap.size, 0, none⟩ = some (.int .i64 op') := hj.2.1.cell 0 _ rfl; have q1 : wx.cell? ⟨w0.heap.size, 1, none⟩ = some (.int .u64 ((wd f' 0 : Nat) : Int)) := hj.2.1.cell 1 _ rfl; have q2 : wx.cell? ⟨w0.heap.size, 2, none⟩ = some (.int .u64 ((wd f' 1 : Nat) : Int)) := hj.2.1.cell 2 _ rfl; have q3 : wx.cell? ⟨w0.heap.size, 3, none⟩ = some (.int .u64 ((wd f' 2 : Nat) : Int)) := hj.2.1.cell 3 _ rfl; have q4 : wx.cell? ⟨w0.heap.size, 4, none⟩ = some (.int .u64 ((wd f' 3 : Nat) : Int)) := hj.2.1.cell 4 _ rfl; have q5 : wx.cell? ⟨w0.heap.size, 5, none⟩ = some (.int .i64 mn') := hj.2.1.cell 5 _ rfl; have q6 : wx.cell? ⟨w0.heap.size, 6, none⟩ = some (.int .i64 mx') := hj.2.1.cell 6 _ rfl; have q7 : wx.cell? ⟨w0.heap.size, 7, none⟩ = some (.slice ka kn kc) := hj.2.1.cell 7 _ rfl; go_simp; refine hK _ _ ?_ (Below.refl _ _); apply Rg.mk))) ?_ rfl
  refine Rg.build_cons (m := 3) (r := Rg.eq _) (Rg.one_plain (by rfl) (by (intro ax wx hk Kx hK; have k9 := hk.base 9 _ rfl rfl; have hj := hk.j; clear hk; have m5 : wx.cell? ⟨w.heap.size, 5, none⟩ = some (.int .i64 (mn : Int)) := hj.1.cell 5 _ rfl; have m6 : wx.cell? ⟨w.heap.size, 6, none⟩ = some (.int .i64 (mx : Int)) := hj.1.cell 6 _ rfl; have q0 : wx.cell? ⟨w0.heap.size, 0, none⟩ = some (.int .i64 op') := hj.2.1.cell 0 _ rfl; have q1 : wx.cell? ⟨w0.heap.size, 1, none⟩ = some (.int .u64 ((wd f' 0 : Nat) : Int)) := hj.2.1.cell 1 _ rfl; have q2 : wx.cell? ⟨w0.heap.size, 2, none⟩ = some (.int .u64 ((wd f' 1 : Nat) : Int)) := hj.2.1.cell 2 _ rfl; have q3 : wx.cell? ⟨w0.heap.size, 3, none⟩ = some (.int .u64 ((wd f' 2 : Nat) : Int)) := hj.2.1.cell 3 _ rfl; have q4 : wx.cell? ⟨w0.heap.size, 4, none⟩ = some (.int .u64 ((wd f' 3 : Nat) : Int)) := hj.2.1.cell 4 _ rfl; have q5 : wx.cell? ⟨w0.heap.size, 5, none⟩ = some (.int .i64 mn') := hj.2.1.cell 5 _ rfl; have q6 : wx.cell? ⟨w0.heap.size, 6, none⟩ = some (.int .i64 mx') := hj.2.1.cell 6 _ rfl; have q7 : wx.cell? ⟨w0.heap.size, 7, none⟩ = some (.slice ka kn kc) := hj.2.1.cell 7 _ rfl; go_simp; refine hK _ _ ?_ (Below.refl _ _); apply Rg.mk))) ?_ rfl
  refine Rg.build_cons (m := 4) (r := Rg.eq _) (Rg.one_plain (by rfl) (by (intro ax wx hk Kx hK; obtain ⟨v53, k53, h53⟩ := hk.dep 2 53 _ rfl rfl rfl; (first | (cases (h53 : v53 = _)) | (obtain ⟨rfl, h53⟩ := h53) | skip); have hj := hk.j; clear hk; have m5 : wx.cell? ⟨w.heap.size, 5, none⟩ = some (.int .i64 (mn : Int)) := hj.1.cell 5 _ rfl; have m6 : wx.cell? ⟨w.heap.size, 6, none⟩ = some (.int .i64 (mx : Int)) := hj.1.cell 6 _ rfl; have q0 : wx.cell? ⟨w0.heap.size, 0, none⟩ = some (.int .i64 op') := hj.2.1.cell 0 _ rfl; have q1 : wx.cell? ⟨w0.heap.size, 1, none⟩ = some (.int .u64 ((wd f' 0 : Nat) : Int)) := hj.2.1.cell 1 _ rfl; have q2 : wx.cell? ⟨w0.heap.size, 2, none⟩ = some (.int .u64 ((wd f' 1 : Nat) : Int)) := hj.2.1.cell 2 _ rfl; have q3 : wx.cell? ⟨w0.heap.size, 3, none⟩ = some (.int .u64 ((wd f' 2 : Nat) : Int)) := hj.2.1.cell 3 _ rfl; have q4 : wx.cell? ⟨w0.heap.size, 4, none⟩ = some (.int .u64 ((wd f' 3 : Nat) : Int)) := hj.2.1.cell 4 _ rfl; have q5 : wx.cell? ⟨w0.heap.size, 5, none⟩ = some (.int .i64 mn') := hj.2.1.cell 5 _ rfl; have q6 : wx.cell? ⟨w0.heap.size, 6, none⟩ = some (.int .i64 mx') := hj.2.1.cell 6 _ rfl; have q7 : wx.cell? ⟨w0.heap.size, 7, none⟩ = some (.slice ka kn kc) := hj.2.1.cell 7 _ rfl; go_simp; refine (HI.out _ hj.2.2.1).mono ?_; rintro e w' ⟨rfl, hb⟩; refine hK _ _ ?_ hb; apply Rg.mk))) ?_ rfl
  refine Rg.build_cons (m := 5) (r := Rg.eq (.int .i64 ((mx : Int) * (m : Int)))) (Rg.one_plain (by rfl) (by (intro ax wx hk Kx hK; obtain ⟨v52, k52, h52⟩ := hk.dep 1 52 _ rfl rfl rfl; (first | (cases (h52 : v52 = _)) | (obtain ⟨rfl, h52⟩ := h52) | skip); obtain ⟨v54, k54, h54⟩ := hk.dep 3 54 _ rfl rfl rfl; (first | (cases (h54 : v54 = _)) | (obtain ⟨rfl, h54⟩ := h54) | skip); have hj := hk.j; clear hk; have m5 : wx.cell? ⟨w.heap.size, 5, none⟩ = some (.int .i64 (mn : Int)) := hj.1.cell 5 _ rfl; have m6 : wx.cell? ⟨w.heap.size, 6, none⟩ = some (.int .i64 (mx : Int)) := hj.1.cell 6 _ rfl; have q0 : wx.cell? ⟨w0.heap.size, 0, none⟩ = some (.int .i64 op') := hj.2.1.cell 0 _ rfl; have q1 : wx.cell? ⟨w0.heap.size, 1, none⟩ = some (.int .u64 ((wd f' 0 : Nat) : Int)) := hj.2.1.cell 1 _ rfl; have q2 : wx.cell? ⟨w0.heap.size, 2, none⟩ = some (.int .u64 ((wd f' 1 : Nat) : Int)) := hj.2.1.cell 2 _ rfl; have q3 : wx.cell? ⟨w0.heap.size, 3, none⟩ = some (.int .u64 ((wd f' 2 : Nat) : Int)) := hj.2.1.cell 3 _ rfl; have q4 : wx.cell? ⟨w0.heap.size, 4, none⟩ = some (.int .u64 ((wd f' 3 : Nat) : Int)) := hj.2.1.cell 4 _ rfl; have q5 : wx.cell? ⟨w0.heap.size, 5, none⟩ = some (.int .i64 mn') := hj.2.1.cell 5 _ rfl; have q6 : wx.cell? ⟨w0.heap.size, 6, none⟩ = some (.int .i64 mx') := hj.2.1.cell 6 _ rfl; have q7 : wx.cell? ⟨w0.heap.size, 7, none⟩ = some (.slice ka kn kc) := hj.2.1.cell 7 _ rfl; (go_simp; refine hK _ _ ?_ (Below.refl _ _); simp [Rg.eq, IntKind.wrap_i64]; try omega)))) ?_ rfl
  refine Rg.build_cons (m := 6) (r := Rg.eq _) (Rg.one_plain (by rfl) (by (intro ax wx hk Kx hK; obtain ⟨v55, k55, h55⟩ := hk.dep 4 55 _ rfl rfl rfl; (first | (cases (h55 : v55 = _)) | (obtain ⟨rfl, h55⟩ := h55) | skip); have hj := hk.j; clear hk; have m5 : wx.cell? ⟨w.heap.size, 5, none⟩ = some (.int .i64 (mn : Int)) := hj.1.cell 5 _ rfl; have m6 : wx.cell? ⟨w.heap.size, 6, none⟩ = some (.int .i64 (mx : Int)) := hj.1.cell 6 _ rfl; have q0 : wx.cell? ⟨w0.heap.size, 0, none⟩ = some (.int .i64 op') := hj.2.1.cell 0 _ rfl; have q1 : wx.cell? ⟨w0.heap.size, 1, none⟩ = some (.int .u64 ((wd f' 0 : Nat) : Int)) := hj.2.1.cell 1 _ rfl; have q2 : wx.cell? ⟨w0.heap.size, 2, none⟩ = some (.int .u64 ((wd f' 1 : Nat) : Int)) := hj.2.1.cell 2 _ rfl; have q3 : wx.cell? ⟨w0.heap.size, 3, none⟩ = some (.int .u64 ((wd f' 2 : Nat) : Int)) := hj.2.1.cell 3 _ rfl; have q4 : wx.cell? ⟨w0.heap.size, 4, none⟩ = some (.int .u64 ((wd f' 3 : Nat) : Int)) := hj.2.1.cell 4 _ rfl; have q5 : wx.cell? ⟨w0.heap.size, 5, none⟩ = some (.int .i64 mn') := hj.2.1.cell 5 _ rfl; have q6 : wx.cell? ⟨w0.heap.size, 6, none⟩ = some (.int .i64 mx') := hj.2.1.cell 6 _ rfl; have q7 : wx.cell? ⟨w0.heap.size, 7, none⟩ = some (.slice ka kn kc) := hj.2.1.cell 7 _ rfl; go_simp; refine hK _ _ ?_ (Below.refl _ _); apply Rg.mk))) ?_ rfl
  refine Rg.build_end fun wx hj => ?_
  refine Rg.fin_eq rfl ?_
  refine Rg.fin_eq rfl ?_
  refine Rg.fin_eq rfl ?_
  refine Rg.fin_eq rfl ?_
  first | refine Rg.fin_eq rfl ?_ | refine Rg.fin_any rfl fun v55 h55 => ?_
  refine Rg.fin_eq rfl ?_
  refine Rg.fin_nil ?_
  simp only [List.set_cons_zero, List.set_cons_succ]
  have HJ := Lib.hid hj.2.2.2
  clear hj
  go_wp2_with fail
  rw [rounds_succ]
  go_wp2_with fail
  all_goals (go_returns; exact ⟨by refine congrArg (fun z => Ending.returned (Value.int .i64 z)) ?_; omega, HJ.out⟩)
theorem most_any (p : Pat) : Wf p → MostC p := by
  refine Pat.ind (M := fun p => Wf p → MostC p) ?_ ?_ ?_ ?_ p
  · exact fun f _ => most_one f
  · intro l ih hw
    cases hw with | cat _ h h2 h3 => exact most_cat l h3 fun p hp => ih p hp (h p hp)
  · intro l ih hw
    cases hw with | alt _ h h2 h3 => exact most_alt l h3 fun p hp => ih p hp (h p hp)
  · intro mn mx p ih hw
    cases hw with | rep _ _ _ h h1 h2 h3 => exact most_rep mn mx p (by omega) (by omega) (ih h)
end Go.Proofs.Ytofgkildlhcpdaa
/- The walks of the document's Length. -/
set_option linter.unusedVariables false
set_option linter.unusedSimpArgs false
namespace Go.Proofs.Ytofgkildlhcpdaa
open Go.RowKit Bt
/-- what Length does with a pattern -/
def LenLC (p : Pat) : Prop := ∀ (w : World) (a : Option Addr) (n c : Nat), NAt w p.tree (.slice a n c) → Calls Try.prog 14 #[nodeV p.tree (.slice a n c), .bool false] w fun e w' => e = .returned (.int .i64 (leastP p : Int)) ∧ Below w.heap.size w w'
set_option maxRecDepth 100000 in
theorem lenL_one (f : Nat → Bool) : LenLC (.one f) := by
  intro w a n c h
  show Calls Try.prog 14 #[.agg #[.int .i64 1, .int .u64 ((wd f 0 : Nat) : Int), .int .u64 ((wd f 1 : Nat) : Int), .int .u64 ((wd f 2 : Nat) : Int), .int .u64 ((wd f 3 : Nat) : Int), .int .i64 0, .int .i64 0, .slice a n c], .bool false] w _
  go_enter Try.func14, Try.ntmps14
  go_wp2
  go_returns
  exact ⟨rfl, by go_grown⟩
set_option maxRecDepth 100000 in
set_option maxHeartbeats 800000 in
theorem lenL_cat (l : List Pat) (hl : l.length ≤ 1000) (hl2 : 2 ≤ l.length) (ih : ∀ p ∈ l, LenLC p) : LenLC (.cat l) := by
  intro w a n c h
  obtain rfl : n = l.length := by
    obtain ⟨a', c', hn⟩ := KAt.slice h
    injection hn with _ hn _
    rw [trees_len] at hn; exact hn
  obtain ⟨w0, hw0⟩ : ∃ w0 : World, w0 = w.alloc (.cells (nodeC 2 emp 0 0 (.slice a l.length c)) 29) := ⟨_, rfl⟩
  have H : Hid (NAt w0 (Pat.tree (.cat l)) (.slice a l.length c)) := Lib.hid (by rw [hw0]; exact NAt.alloc h _)
  have HA : Hid (AtG w0 w.heap.size 29 (nodeC 2 emp 0 0 (.slice a l.length c))) := Lib.hid (by rw [hw0]; exact AtG.new _ _ _)
  have HB0 : Hid (Below w.heap.size w w0) := Lib.hid (by rw [hw0]; exact (Below.refl _ _).alloc (Nat.le_refl _) _)
  have hX : (leastP (.cat l) : Int) = min (leastC l : Int) 1000 := by rw [leastP]; omega
  have hY := leastC_le l
  have HX := Lib.hid hX
  have hlI : (l.length : Int) ≤ 1000 := by omega
  have hw0' : w.alloc (.cells #[.int .i64 2, .int .u64 ((wd emp 0 : Nat) : Int), .int .u64 ((wd emp 1 : Nat) : Int), .int .u64 ((wd emp 2 : Nat) : Int), .int .u64 ((wd emp 3 : Nat) : Int), .int .i64 0, .int .i64 0, .slice a l.length c] 29) = w0 := hw0.symm
  clear h hX hw0
  show Calls Try.prog 14 #[.agg #[.int .i64 2, .int .u64 ((wd emp 0 : Nat) : Int), .int .u64 ((wd emp 1 : Nat) : Int), .int .u64 ((wd emp 2 : Nat) : Int), .int .u64 ((wd emp 3 : Nat) : Int), .int .i64 0, .int .i64 0, .slice a l.length c], .bool false] w _
  rw [HX.out]
  have m0 : w0.cell? ⟨w.heap.size, 0, none⟩ = some (.int .i64 2) := HA.out.cell 0 _ rfl
  have HA1 := HA; have HB1 := HB0; have H1 := H
  clear HA HB0 H
  go_enter Try.func14, Try.ntmps14
  go_wp2_with fail
  go_loopw [5, 6] (fun out i wr => ∃ k : Nat, 0 ≤ k ∧ k ≤ l.length ∧ i = .int .i64 k ∧ out = .int .i64 ((leastC (l.take k) : Nat) : Int) ∧ AtG wr w.heap.size 29 (nodeC 2 emp 0 0 (.slice a l.length c)) ∧ Below w.heap.size w wr ∧ NAt wr (Pat.tree (.cat l)) (.slice a l.length c)) (fun _ i _ => l.length - (intOf i).toNat)
  case atStart => exact ⟨0, Nat.le_refl _, by omega, rfl, by simp [leastC], HA1.out, HB1.out, H1.out⟩
  case round =>
    obtain ⟨k, hk0, hk, rfl, rfl, hat, hb, hnn⟩ := hrel
    have HN := Lib.hid hnn; have HAT := Lib.hid hat; have HB := Lib.hid hb
    have m7 : wr.cell? ⟨w.heap.size, 7, none⟩ = some (.slice a l.length c) := hat.cell 7 _ rfl
    clear hat hb hnn
    by_cases hlt : k < l.length
    · have hkd := kid_at (HN.out) (trees_get hlt)
      obtain ⟨b, off, cap, heq, hcap, op', f', mn', mx', kids', ka, kc, ht, hc8, hkn⟩ := hkd
      injection heq with e1 e2 e3
      subst e1; subst e3
      clear e2
      rw [trees_len] at hcap
      have hI := ih l[k] (List.getElem_mem hlt)
      unfold LenLC at hI
      rw [ht] at hI hkn
      have hI2 := fun w h => hI w ka kids'.length kc h
      unfold nodeV at hI2
      have hS := leastC_snoc l k hlt
      have hB1 := leastC_le (l.take k)
      have hB2 := leastP_le l[k]
      have htk : (l.take k).length = k := by simp; omega
      generalize leastP l[k] = m at *
      generalize hq : leastC (l.take k) = q at *
      have HS := Lib.hid hS
      have HI := Lib.hid hI2; have HKN := Lib.hid hkn
      obtain ⟨c0, c1, c2, c3, c4, c5, c6, c7⟩ := hc8
      obtain ⟨kn, hkl⟩ : ∃ kn, kn = kids'.length := ⟨_, rfl⟩
      rw [← hkl] at c7 HKN HI
      have hm1 : (m : Int) ≤ 1000 := by omega
      have hq1 : (q : Int) ≤ 1000000 := by omega
      clear hS hkn hI hI2 hkl ht hq hB1 hB2 htk
      go_wp2_with fail
      refine (HI.out _ HKN.out).mono ?_
      rintro e9 w9 ⟨rfl, hb9⟩
      have HA9 := Lib.hid (HAT.out.below hb9); have HB9 := Lib.hid (HB.out.trans (hb9.mono HB.out.size)); have HN9 := Lib.hid (HN.out.below hb9)
      clear hb9
      go_wp2_with fail
      exact ⟨⟨k + 1, by omega, by omega, by go_num, by rw [HS.out]; go_num, HA9.out, HB9.out, HN9.out⟩, by simp [intOf]; omega⟩
    · obtain rfl : k = l.length := by omega
      rw [List.take_length]
      go_wp2_with fail
      all_goals (go_returns; exact ⟨by refine congrArg (fun z => Ending.returned (Value.int .i64 z)) ?_; omega, HB.out⟩)
set_option maxRecDepth 100000 in
set_option maxHeartbeats 800000 in
theorem lenL_alt (l : List Pat) (hl : l.length ≤ 1000) (hl2 : 2 ≤ l.length) (ih : ∀ p ∈ l, LenLC p) : LenLC (.alt l) := by
  intro w a n c h
  obtain rfl : n = l.length := by
    obtain ⟨a', c', hn⟩ := KAt.slice h
    injection hn with _ hn _
    rw [trees_len] at hn; exact hn
  obtain ⟨w0, hw0⟩ : ∃ w0 : World, w0 = w.alloc (.cells (nodeC 3 emp 0 0 (.slice a l.length c)) 29) := ⟨_, rfl⟩
  have H : Hid (NAt w0 (Pat.tree (.alt l)) (.slice a l.length c)) := Lib.hid (by rw [hw0]; exact NAt.alloc h _)
  have HA : Hid (AtG w0 w.heap.size 29 (nodeC 3 emp 0 0 (.slice a l.length c))) := Lib.hid (by rw [hw0]; exact AtG.new _ _ _)
  have HB0 : Hid (Below w.heap.size w w0) := Lib.hid (by rw [hw0]; exact (Below.refl _ _).alloc (Nat.le_refl _) _)
  have hX : (leastP (.alt l) : Int) = min (leastA l : Int) 1000 := by rw [leastP]; omega
  have hY := leastA_le l
  have HX := Lib.hid hX
  have hlI : (l.length : Int) ≤ 1000 := by omega
  have hw0' : w.alloc (.cells #[.int .i64 3, .int .u64 ((wd emp 0 : Nat) : Int), .int .u64 ((wd emp 1 : Nat) : Int), .int .u64 ((wd emp 2 : Nat) : Int), .int .u64 ((wd emp 3 : Nat) : Int), .int .i64 0, .int .i64 0, .slice a l.length c] 29) = w0 := hw0.symm
  clear h hX hw0
  show Calls Try.prog 14 #[.agg #[.int .i64 3, .int .u64 ((wd emp 0 : Nat) : Int), .int .u64 ((wd emp 1 : Nat) : Int), .int .u64 ((wd emp 2 : Nat) : Int), .int .u64 ((wd emp 3 : Nat) : Int), .int .i64 0, .int .i64 0, .slice a l.length c], .bool false] w _
  rw [HX.out]
  obtain ⟨b, off, cap, heq, hcap, op', f', mn', mx', kids', ka, kc, ht, hc8, hkn⟩ := kid_at H.out (trees_get (k := 0) (show 0 < l.length by omega))
  injection heq with e1 e2 e3
  subst e1; subst e3
  clear e2
  rw [trees_len] at hcap
  have hI := ih l[0] (List.getElem_mem _)
  unfold LenLC at hI
  rw [ht] at hI hkn
  have hI2 := fun w h => hI w ka kids'.length kc h
  unfold nodeV at hI2
  have hz8 : off + 0 * 8 = off := by omega
  rw [hz8] at hc8
  obtain ⟨c0, c1, c2, c3, c4, c5, c6, c7⟩ := hc8
  have HI := Lib.hid hI2; have HKN := Lib.hid hkn
  obtain ⟨kn, hkl⟩ : ∃ kn, kn = kids'.length := ⟨_, rfl⟩
  rw [← hkl] at c7 HKN HI
  have HF : Hid ((leastP l[0] : Int) = ((min (leastA (l.take 1)) 1000 : Nat) : Int)) := Lib.hid (by
    rw [List.take_one]
    have : l.head? = some l[0] := by rw [List.head?_eq_getElem?]; exact List.getElem?_eq_getElem _
    rw [this]
    have := leastP_le l[0]
    simp [leastA]; omega)
  rw [HF.out] at HI
  clear hI hI2 hkn ht hkl hz8 HF
  have m0 : w0.cell? ⟨w.heap.size, 0, none⟩ = some (.int .i64 3) := HA.out.cell 0 _ rfl
  have m7 : w0.cell? ⟨w.heap.size, 7, none⟩ = some (.slice (some ⟨b, off, none⟩) l.length c) := HA.out.cell 7 _ rfl
  have hl0 : (0 : Int) < (l.length : Int) := by omega
  go_enter Try.func14, Try.ntmps14
  go_wp2_with fail
  refine (HI.out _ HKN.out).mono ?_
  rintro e9 w1 ⟨rfl, hb9⟩
  have HA1 := Lib.hid (HA.out.below hb9); have HB1 := Lib.hid (HB0.out.trans (hb9.mono HB0.out.size)); have H1 := Lib.hid (H.out.below hb9)
  clear hb9 hw0' m0 m7 c0 c1 c2 c3 c4 c5 c6 c7 hcap
  clear HA HB0 H HI HKN
  go_wp2_with fail
  go_loopw [5, 7] (fun out i wr => ∃ k : Nat, 1 ≤ k ∧ k ≤ l.length ∧ i = .int .i64 k ∧ out = .int .i64 ((min (leastA (l.take k)) 1000 : Nat) : Int) ∧ AtG wr w.heap.size 29 (nodeC 3 emp 0 0 (.slice (some ⟨b, off, none⟩) l.length c)) ∧ Below w.heap.size w wr ∧ NAt wr (Pat.tree (.alt l)) (.slice (some ⟨b, off, none⟩) l.length c)) (fun _ i _ => l.length - (intOf i).toNat)
  case atStart => exact ⟨1, Nat.le_refl _, by omega, rfl, rfl, HA1.out, HB1.out, H1.out⟩
  case round =>
    obtain ⟨k, hk0, hk, rfl, rfl, hat, hb, hnn⟩ := hrel
    have HN := Lib.hid hnn; have HAT := Lib.hid hat; have HB := Lib.hid hb
    have m7 : wr.cell? ⟨w.heap.size, 7, none⟩ = some (.slice (some ⟨b, off, none⟩) l.length c) := hat.cell 7 _ rfl
    clear hat hb hnn
    by_cases hlt : k < l.length
    · have hkd := kid_at (HN.out) (trees_get hlt)
      obtain ⟨b2, off2, cap, heq, hcap, op', f', mn', mx', kids', ka, kc, ht, hc8, hkn⟩ := hkd
      injection heq with e1 e2 e3
      injection e1 with e1
      injection e1 with e1 e4
      subst e1; subst e4; subst e3
      clear e2
      rw [trees_len] at hcap
      have hI := ih l[k] (List.getElem_mem hlt)
      unfold LenLC at hI
      rw [ht] at hI hkn
      have hI2 := fun w h => hI w ka kids'.length kc h
      unfold nodeV at hI2

      have hS := leastA_snoc l k hlt
      have hB1 := leastA_le (l.take k)
      have hB2 := leastP_le l[k]
      have htk : (l.take k).length = k := by simp; omega
      generalize leastP l[k] = m at *
      generalize hq : leastA (l.take k) = q at *
      have HS := Lib.hid hS
      have HI := Lib.hid hI2; have HKN := Lib.hid hkn
      obtain ⟨c0, c1, c2, c3, c4, c5, c6, c7⟩ := hc8
      obtain ⟨kn, hkl⟩ : ∃ kn, kn = kids'.length := ⟨_, rfl⟩
      rw [← hkl] at c7 HKN HI
      have hm1 : (m : Int) ≤ 1000 := by omega
      have hq1 : (q : Int) ≤ 1000000 := by omega
      obtain ⟨qm, hqm⟩ : ∃ qm : Nat, qm = min q 1000 := ⟨_, rfl⟩
      rw [← hqm]
      have hS2 : min (leastA (l.take (k + 1))) 1000 = min qm m := by rw [hS, hqm]; omega
      have HS2 := Lib.hid hS2
      have hqm1 : (qm : Int) ≤ 1000 := by omega
      clear hS hkn hI hI2 hkl ht hq hB1 hB2 htk hqm hS2 hq1
      by_cases hgt : (qm : Int) < (m : Int)
      · have hde : decide ((qm : Int) < (m : Int)) = true := decide_eq_true hgt
        have hdn : decide (qm < m) = true := decide_eq_true (by omega)
        go_wp2_with fail
        refine (HI.out _ HKN.out).mono ?_
        rintro e9 w9 ⟨rfl, hb9⟩
        have HA9 := Lib.hid (HAT.out.below hb9); have HB9 := Lib.hid (HB.out.trans (hb9.mono HB.out.size)); have HN9 := Lib.hid (HN.out.below hb9)
        clear hb9
        go_wp2_with fail
        exact ⟨⟨k + 1, by omega, by omega, by go_num, by rw [HS2.out]; congr 2; omega, HA9.out, HB9.out, HN9.out⟩, by simp [intOf]; omega⟩
      · have hde : decide ((qm : Int) < (m : Int)) = false := decide_eq_false hgt
        have hdn : decide (qm < m) = false := decide_eq_false (by omega)
        go_wp2_with fail
        refine (HI.out _ HKN.out).mono ?_
        rintro e9 w9 ⟨rfl, hb9⟩
        have HA9 := Lib.hid (HAT.out.below hb9); have HB9 := Lib.hid (HB.out.trans (hb9.mono HB.out.size)); have HN9 := Lib.hid (HN.out.below hb9)
        clear hb9
        go_wp2_with fail
        exact ⟨⟨k + 1, by omega, by omega, by go_num, by rw [HS2.out]; congr 2; omega, HA9.out, HB9.out, HN9.out⟩, by simp [intOf]; omega⟩
    · obtain rfl : k = l.length := by omega
      rw [List.take_length]
      go_wp2_with fail
      all_goals (go_returns; exact ⟨by refine congrArg (fun z => Ending.returned (Value.int .i64 z)) ?_; omega, HB.out⟩)
set_option maxRecDepth 100000 in
set_option maxHeartbeats 1600000 in
theorem lenL_rep (mn mx : Nat) (p : Pat) (h1 : mn ≤ 1000) (h2 : mx ≤ 1000) (ih : LenLC p) : LenLC (.rep mn mx p) := by
  intro w a n c h
  obtain rfl : n = 1 := by
    obtain ⟨a', c', hn⟩ := KAt.slice h
    injection hn with _ hn _
  obtain ⟨w0, hw0⟩ : ∃ w0 : World, w0 = w.alloc (.cells (nodeC 4 emp (mn : Int) (mx : Int) (.slice a 1 c)) 29) := ⟨_, rfl⟩
  have H : Hid (NAt w0 (Pat.tree (.rep mn mx p)) (.slice a 1 c)) := Lib.hid (by rw [hw0]; exact NAt.alloc h _)
  have HA : Hid (AtG w0 w.heap.size 29 (nodeC 4 emp (mn : Int) (mx : Int) (.slice a 1 c))) := Lib.hid (by rw [hw0]; exact AtG.new _ _ _)
  have HB0 : Hid (Below w.heap.size w w0) := Lib.hid (by rw [hw0]; exact (Below.refl _ _).alloc (Nat.le_refl _) _)
  have hX : (leastP (.rep mn mx p) : Int) = min ((mn : Int) * (leastP p : Int)) 1000 := by rw [leastP]; push_cast; omega
  have HX := Lib.hid hX
  have hw0' : w.alloc (.cells #[.int .i64 4, .int .u64 ((wd emp 0 : Nat) : Int), .int .u64 ((wd emp 1 : Nat) : Int), .int .u64 ((wd emp 2 : Nat) : Int), .int .u64 ((wd emp 3 : Nat) : Int), .int .i64 (mn : Int), .int .i64 (mx : Int), .slice a 1 c] 29) = w0 := hw0.symm
  clear hX h hw0
  show Calls Try.prog 14 #[.agg #[.int .i64 4, .int .u64 ((wd emp 0 : Nat) : Int), .int .u64 ((wd emp 1 : Nat) : Int), .int .u64 ((wd emp 2 : Nat) : Int), .int .u64 ((wd emp 3 : Nat) : Int), .int .i64 (mn : Int), .int .i64 (mx : Int), .slice a 1 c], .bool false] w _
  rw [HX.out]
  unfold LenLC at ih
  have hB2 := leastP_le p
  generalize leastP p = m at *
  obtain ⟨b, off, cap, heq, hcap, op', f', mn', mx', kids', ka, kc, ht, hc8, hkn⟩ := kid_at (j := 0) (t := p.tree) H.out rfl
  injection heq with e1 e2 e3
  subst e1; subst e3
  clear e2
  rw [ht] at ih hkn
  have hin2 := fun w h => ih w ka kids'.length kc h
  unfold nodeV at hin2
  have HI := Lib.hid hin2
  have HKN := Lib.hid hkn
  have hz8 : off + 0 * 8 = off := by omega
  rw [hz8] at hc8
  obtain ⟨c0, c1, c2, c3, c4, c5, c6, c7⟩ := hc8
  obtain ⟨kn, hkl⟩ : ∃ kn, kn = kids'.length := ⟨_, rfl⟩
  rw [← hkl] at c7 HKN HI
  have hm1 : (m : Int) ≤ 1000 := by omega
  have hml : (mn : Int) * (m : Int) ≤ 1000000 := by
    have : mn * m ≤ 1000 * 1000 := Nat.mul_le_mul (by omega) (by omega)
    have h3 : ((mn * m : Nat) : Int) ≤ 1000000 := by omega
    rwa [Int.natCast_mul] at h3
  have hml0 : 0 ≤ (mn : Int) * (m : Int) := Int.mul_nonneg (Int.natCast_nonneg _) (Int.natCast_nonneg _)
  have m7 : w0.cell? ⟨w.heap.size, 7, none⟩ = some (.slice (some ⟨b, off, none⟩) 1 c) := HA.out.cell 7 _ rfl
  have m0 : w0.cell? ⟨w.heap.size, 0, none⟩ = some (.int .i64 4) := HA.out.cell 0 _ rfl
  have m5 : w0.cell? ⟨w.heap.size, 5, none⟩ = some (.int .i64 (mn : Int)) := HA.out.cell 5 _ rfl
  have m6 : w0.cell? ⟨w.heap.size, 6, none⟩ = some (.int .i64 (mx : Int)) := HA.out.cell 6 _ rfl
  clear ih hin2 hkn ht hkl hz8 hcap hB2
  go_enter Try.func14, Try.ntmps14
  go_wp2_with fail
  refine (HI.out _ HKN.out).mono ?_
  rintro e9 w9 ⟨rfl, hb9⟩
  have HB9 := Lib.hid (HB0.out.trans (hb9.mono HB0.out.size))
  clear hb9
  go_wp2_with fail
  all_goals (go_returns; exact ⟨by refine congrArg (fun z => Ending.returned (Value.int .i64 z)) ?_; omega, HB9.out⟩)
theorem lenL_any (p : Pat) : Wf p → LenLC p := by
  refine Pat.ind (M := fun p => Wf p → LenLC p) ?_ ?_ ?_ ?_ p
  · exact fun f _ => lenL_one f
  · intro l ih hw
    cases hw with | cat _ h h2 h3 => exact lenL_cat l h3 h2 fun p hp => ih p hp (h p hp)
  · intro l ih hw
    cases hw with | alt _ h h2 h3 => exact lenL_alt l h3 h2 fun p hp => ih p hp (h p hp)
  · intro mn mx p ih hw
    cases hw with | rep _ _ _ h h1 h2 h3 => exact lenL_rep mn mx p (by omega) (by omega) (ih h)
/-- what Length does with a pattern -/
def LenMC (p : Pat) : Prop := ∀ (w : World) (a : Option Addr) (n c : Nat), NAt w p.tree (.slice a n c) → Calls Try.prog 14 #[nodeV p.tree (.slice a n c), .bool true] w fun e w' => e = .returned (.int .i64 (mostP p : Int)) ∧ Below w.heap.size w w'
set_option maxRecDepth 100000 in
theorem lenM_one (f : Nat → Bool) : LenMC (.one f) := by
  intro w a n c h
  show Calls Try.prog 14 #[.agg #[.int .i64 1, .int .u64 ((wd f 0 : Nat) : Int), .int .u64 ((wd f 1 : Nat) : Int), .int .u64 ((wd f 2 : Nat) : Int), .int .u64 ((wd f 3 : Nat) : Int), .int .i64 0, .int .i64 0, .slice a n c], .bool true] w _
  go_enter Try.func14, Try.ntmps14
  go_wp2
  go_returns
  exact ⟨rfl, by go_grown⟩
set_option maxRecDepth 100000 in
set_option maxHeartbeats 800000 in
theorem lenM_cat (l : List Pat) (hl : l.length ≤ 1000) (hl2 : 2 ≤ l.length) (ih : ∀ p ∈ l, LenMC p) : LenMC (.cat l) := by
  intro w a n c h
  obtain rfl : n = l.length := by
    obtain ⟨a', c', hn⟩ := KAt.slice h
    injection hn with _ hn _
    rw [trees_len] at hn; exact hn
  obtain ⟨w0, hw0⟩ : ∃ w0 : World, w0 = w.alloc (.cells (nodeC 2 emp 0 0 (.slice a l.length c)) 29) := ⟨_, rfl⟩
  have H : Hid (NAt w0 (Pat.tree (.cat l)) (.slice a l.length c)) := Lib.hid (by rw [hw0]; exact NAt.alloc h _)
  have HA : Hid (AtG w0 w.heap.size 29 (nodeC 2 emp 0 0 (.slice a l.length c))) := Lib.hid (by rw [hw0]; exact AtG.new _ _ _)
  have HB0 : Hid (Below w.heap.size w w0) := Lib.hid (by rw [hw0]; exact (Below.refl _ _).alloc (Nat.le_refl _) _)
  have hX : (mostP (.cat l) : Int) = min (mostC l : Int) 1000 := by rw [mostP]; omega
  have hY := mostC_le l
  have HX := Lib.hid hX
  have hlI : (l.length : Int) ≤ 1000 := by omega
  have hw0' : w.alloc (.cells #[.int .i64 2, .int .u64 ((wd emp 0 : Nat) : Int), .int .u64 ((wd emp 1 : Nat) : Int), .int .u64 ((wd emp 2 : Nat) : Int), .int .u64 ((wd emp 3 : Nat) : Int), .int .i64 0, .int .i64 0, .slice a l.length c] 29) = w0 := hw0.symm
  clear h hX hw0
  show Calls Try.prog 14 #[.agg #[.int .i64 2, .int .u64 ((wd emp 0 : Nat) : Int), .int .u64 ((wd emp 1 : Nat) : Int), .int .u64 ((wd emp 2 : Nat) : Int), .int .u64 ((wd emp 3 : Nat) : Int), .int .i64 0, .int .i64 0, .slice a l.length c], .bool true] w _
  rw [HX.out]
  have m0 : w0.cell? ⟨w.heap.size, 0, none⟩ = some (.int .i64 2) := HA.out.cell 0 _ rfl
  have HA1 := HA; have HB1 := HB0; have H1 := H
  clear HA HB0 H
  go_enter Try.func14, Try.ntmps14
  go_wp2_with fail
  go_loopw [5, 6] (fun out i wr => ∃ k : Nat, 0 ≤ k ∧ k ≤ l.length ∧ i = .int .i64 k ∧ out = .int .i64 ((mostC (l.take k) : Nat) : Int) ∧ AtG wr w.heap.size 29 (nodeC 2 emp 0 0 (.slice a l.length c)) ∧ Below w.heap.size w wr ∧ NAt wr (Pat.tree (.cat l)) (.slice a l.length c)) (fun _ i _ => l.length - (intOf i).toNat)
  case atStart => exact ⟨0, Nat.le_refl _, by omega, rfl, by simp [mostC], HA1.out, HB1.out, H1.out⟩
  case round =>
    obtain ⟨k, hk0, hk, rfl, rfl, hat, hb, hnn⟩ := hrel
    have HN := Lib.hid hnn; have HAT := Lib.hid hat; have HB := Lib.hid hb
    have m7 : wr.cell? ⟨w.heap.size, 7, none⟩ = some (.slice a l.length c) := hat.cell 7 _ rfl
    clear hat hb hnn
    by_cases hlt : k < l.length
    · have hkd := kid_at (HN.out) (trees_get hlt)
      obtain ⟨b, off, cap, heq, hcap, op', f', mn', mx', kids', ka, kc, ht, hc8, hkn⟩ := hkd
      injection heq with e1 e2 e3
      subst e1; subst e3
      clear e2
      rw [trees_len] at hcap
      have hI := ih l[k] (List.getElem_mem hlt)
      unfold LenMC at hI
      rw [ht] at hI hkn
      have hI2 := fun w h => hI w ka kids'.length kc h
      unfold nodeV at hI2
      have hS := mostC_snoc l k hlt
      have hB1 := mostC_le (l.take k)
      have hB2 := mostP_le l[k]
      have htk : (l.take k).length = k := by simp; omega
      generalize mostP l[k] = m at *
      generalize hq : mostC (l.take k) = q at *
      have HS := Lib.hid hS
      have HI := Lib.hid hI2; have HKN := Lib.hid hkn
      obtain ⟨c0, c1, c2, c3, c4, c5, c6, c7⟩ := hc8
      obtain ⟨kn, hkl⟩ : ∃ kn, kn = kids'.length := ⟨_, rfl⟩
      rw [← hkl] at c7 HKN HI
      have hm1 : (m : Int) ≤ 1000 := by omega
      have hq1 : (q : Int) ≤ 1000000 := by omega
      clear hS hkn hI hI2 hkl ht hq hB1 hB2 htk
      go_wp2_with fail
      refine (HI.out _ HKN.out).mono ?_
      rintro e9 w9 ⟨rfl, hb9⟩
      have HA9 := Lib.hid (HAT.out.below hb9); have HB9 := Lib.hid (HB.out.trans (hb9.mono HB.out.size)); have HN9 := Lib.hid (HN.out.below hb9)
      clear hb9
      go_wp2_with fail
      exact ⟨⟨k + 1, by omega, by omega, by go_num, by rw [HS.out]; go_num, HA9.out, HB9.out, HN9.out⟩, by simp [intOf]; omega⟩
    · obtain rfl : k = l.length := by omega
      rw [List.take_length]
      go_wp2_with fail
      all_goals (go_returns; exact ⟨by refine congrArg (fun z => Ending.returned (Value.int .i64 z)) ?_; omega, HB.out⟩)
set_option maxRecDepth 100000 in
set_option maxHeartbeats 800000 in
theorem lenM_alt (l : List Pat) (hl : l.length ≤ 1000) (hl2 : 2 ≤ l.length) (ih : ∀ p ∈ l, LenMC p) : LenMC (.alt l) := by
  intro w a n c h
  obtain rfl : n = l.length := by
    obtain ⟨a', c', hn⟩ := KAt.slice h
    injection hn with _ hn _
    rw [trees_len] at hn; exact hn
  obtain ⟨w0, hw0⟩ : ∃ w0 : World, w0 = w.alloc (.cells (nodeC 3 emp 0 0 (.slice a l.length c)) 29) := ⟨_, rfl⟩
  have H : Hid (NAt w0 (Pat.tree (.alt l)) (.slice a l.length c)) := Lib.hid (by rw [hw0]; exact NAt.alloc h _)
  have HA : Hid (AtG w0 w.heap.size 29 (nodeC 3 emp 0 0 (.slice a l.length c))) := Lib.hid (by rw [hw0]; exact AtG.new _ _ _)
  have HB0 : Hid (Below w.heap.size w w0) := Lib.hid (by rw [hw0]; exact (Below.refl _ _).alloc (Nat.le_refl _) _)
  have hX : (mostP (.alt l) : Int) = min (mostA l : Int) 1000 := by rw [mostP]; omega
  have hY := mostA_le l
  have HX := Lib.hid hX
  have hlI : (l.length : Int) ≤ 1000 := by omega
  have hw0' : w.alloc (.cells #[.int .i64 3, .int .u64 ((wd emp 0 : Nat) : Int), .int .u64 ((wd emp 1 : Nat) : Int), .int .u64 ((wd emp 2 : Nat) : Int), .int .u64 ((wd emp 3 : Nat) : Int), .int .i64 0, .int .i64 0, .slice a l.length c] 29) = w0 := hw0.symm
  clear h hX hw0
  show Calls Try.prog 14 #[.agg #[.int .i64 3, .int .u64 ((wd emp 0 : Nat) : Int), .int .u64 ((wd emp 1 : Nat) : Int), .int .u64 ((wd emp 2 : Nat) : Int), .int .u64 ((wd emp 3 : Nat) : Int), .int .i64 0, .int .i64 0, .slice a l.length c], .bool true] w _
  rw [HX.out]
  obtain ⟨b, off, cap, heq, hcap, op', f', mn', mx', kids', ka, kc, ht, hc8, hkn⟩ := kid_at H.out (trees_get (k := 0) (show 0 < l.length by omega))
  injection heq with e1 e2 e3
  subst e1; subst e3
  clear e2
  rw [trees_len] at hcap
  have hI := ih l[0] (List.getElem_mem _)
  unfold LenMC at hI
  rw [ht] at hI hkn
  have hI2 := fun w h => hI w ka kids'.length kc h
  unfold nodeV at hI2
  have hz8 : off + 0 * 8 = off := by omega
  rw [hz8] at hc8
  obtain ⟨c0, c1, c2, c3, c4, c5, c6, c7⟩ := hc8
  have HI := Lib.hid hI2; have HKN := Lib.hid hkn
  obtain ⟨kn, hkl⟩ : ∃ kn, kn = kids'.length := ⟨_, rfl⟩
  rw [← hkl] at c7 HKN HI
  have HF : Hid ((mostP l[0] : Int) = ((min (mostA (l.take 1)) 1000 : Nat) : Int)) := Lib.hid (by
    rw [List.take_one]
    have : l.head? = some l[0] := by rw [List.head?_eq_getElem?]; exact List.getElem?_eq_getElem _
    rw [this]
    have := mostP_le l[0]
    simp [mostA]; omega)
  rw [HF.out] at HI
  clear hI hI2 hkn ht hkl hz8 HF
  have m0 : w0.cell? ⟨w.heap.size, 0, none⟩ = some (.int .i64 3) := HA.out.cell 0 _ rfl
  have m7 : w0.cell? ⟨w.heap.size, 7, none⟩ = some (.slice (some ⟨b, off, none⟩) l.length c) := HA.out.cell 7 _ rfl
  have hl0 : (0 : Int) < (l.length : Int) := by omega
  go_enter Try.func14, Try.ntmps14
  go_wp2_with fail
  refine (HI.out _ HKN.out).mono ?_
  rintro e9 w1 ⟨rfl, hb9⟩
  have HA1 := Lib.hid (HA.out.below hb9); have HB1 := Lib.hid (HB0.out.trans (hb9.mono HB0.out.size)); have H1 := Lib.hid (H.out.below hb9)
  clear hb9 hw0' m0 m7 c0 c1 c2 c3 c4 c5 c6 c7 hcap
  clear HA HB0 H HI HKN
  go_wp2_with fail
  go_loopw [5, 7] (fun out i wr => ∃ k : Nat, 1 ≤ k ∧ k ≤ l.length ∧ i = .int .i64 k ∧ out = .int .i64 ((min (mostA (l.take k)) 1000 : Nat) : Int) ∧ AtG wr w.heap.size 29 (nodeC 3 emp 0 0 (.slice (some ⟨b, off, none⟩) l.length c)) ∧ Below w.heap.size w wr ∧ NAt wr (Pat.tree (.alt l)) (.slice (some ⟨b, off, none⟩) l.length c)) (fun _ i _ => l.length - (intOf i).toNat)
  case atStart => exact ⟨1, Nat.le_refl _, by omega, rfl, rfl, HA1.out, HB1.out, H1.out⟩
  case round =>
    obtain ⟨k, hk0, hk, rfl, rfl, hat, hb, hnn⟩ := hrel
    have HN := Lib.hid hnn; have HAT := Lib.hid hat; have HB := Lib.hid hb
    have m7 : wr.cell? ⟨w.heap.size, 7, none⟩ = some (.slice (some ⟨b, off, none⟩) l.length c) := hat.cell 7 _ rfl
    clear hat hb hnn
    by_cases hlt : k < l.length
    · have hkd := kid_at (HN.out) (trees_get hlt)
      obtain ⟨b2, off2, cap, heq, hcap, op', f', mn', mx', kids', ka, kc, ht, hc8, hkn⟩ := hkd
      injection heq with e1 e2 e3
      injection e1 with e1
      injection e1 with e1 e4
      subst e1; subst e4; subst e3
      clear e2
      rw [trees_len] at hcap
      have hI := ih l[k] (List.getElem_mem hlt)
      unfold LenMC at hI
      rw [ht] at hI hkn
      have hI2 := fun w h => hI w ka kids'.length kc h
      unfold nodeV at hI2

      have hS := mostA_snoc l k hlt
      have hB1 := mostA_le (l.take k)
      have hB2 := mostP_le l[k]
      have htk : (l.take k).length = k := by simp; omega
      generalize mostP l[k] = m at *
      generalize hq : mostA (l.take k) = q at *
      have HS := Lib.hid hS
      have HI := Lib.hid hI2; have HKN := Lib.hid hkn
      obtain ⟨c0, c1, c2, c3, c4, c5, c6, c7⟩ := hc8
      obtain ⟨kn, hkl⟩ : ∃ kn, kn = kids'.length := ⟨_, rfl⟩
      rw [← hkl] at c7 HKN HI
      have hm1 : (m : Int) ≤ 1000 := by omega
      have hq1 : (q : Int) ≤ 1000000 := by omega
      obtain ⟨qm, hqm⟩ : ∃ qm : Nat, qm = min q 1000 := ⟨_, rfl⟩
      rw [← hqm]
      have hS2 : min (mostA (l.take (k + 1))) 1000 = max qm m := by rw [hS, hqm]; omega
      have HS2 := Lib.hid hS2
      have hqm1 : (qm : Int) ≤ 1000 := by omega
      clear hS hkn hI hI2 hkl ht hq hB1 hB2 htk hqm hS2 hq1
      by_cases hgt : (qm : Int) < (m : Int)
      · have hde : decide ((qm : Int) < (m : Int)) = true := decide_eq_true hgt
        have hdn : decide (qm < m) = true := decide_eq_true (by omega)
        go_wp2_with fail
        refine (HI.out _ HKN.out).mono ?_
        rintro e9 w9 ⟨rfl, hb9⟩
        have HA9 := Lib.hid (HAT.out.below hb9); have HB9 := Lib.hid (HB.out.trans (hb9.mono HB.out.size)); have HN9 := Lib.hid (HN.out.below hb9)
        clear hb9
        go_wp2_with fail
        exact ⟨⟨k + 1, by omega, by omega, by go_num, by rw [HS2.out]; congr 2; omega, HA9.out, HB9.out, HN9.out⟩, by simp [intOf]; omega⟩
      · have hde : decide ((qm : Int) < (m : Int)) = false := decide_eq_false hgt
        have hdn : decide (qm < m) = false := decide_eq_false (by omega)
        go_wp2_with fail
        refine (HI.out _ HKN.out).mono ?_
        rintro e9 w9 ⟨rfl, hb9⟩
        have HA9 := Lib.hid (HAT.out.below hb9); have HB9 := Lib.hid (HB.out.trans (hb9.mono HB.out.size)); have HN9 := Lib.hid (HN.out.below hb9)
        clear hb9
        go_wp2_with fail
        exact ⟨⟨k + 1, by omega, by omega, by go_num, by rw [HS2.out]; congr 2; omega, HA9.out, HB9.out, HN9.out⟩, by simp [intOf]; omega⟩
    · obtain rfl : k = l.length := by omega
      rw [List.take_length]
      go_wp2_with fail
      all_goals (go_returns; exact ⟨by refine congrArg (fun z => Ending.returned (Value.int .i64 z)) ?_; omega, HB.out⟩)
set_option maxRecDepth 100000 in
set_option maxHeartbeats 1600000 in
theorem lenM_rep (mn mx : Nat) (p : Pat) (h1 : mn ≤ 1000) (h2 : mx ≤ 1000) (ih : LenMC p) : LenMC (.rep mn mx p) := by
  intro w a n c h
  obtain rfl : n = 1 := by
    obtain ⟨a', c', hn⟩ := KAt.slice h
    injection hn with _ hn _
  obtain ⟨w0, hw0⟩ : ∃ w0 : World, w0 = w.alloc (.cells (nodeC 4 emp (mn : Int) (mx : Int) (.slice a 1 c)) 29) := ⟨_, rfl⟩
  have H : Hid (NAt w0 (Pat.tree (.rep mn mx p)) (.slice a 1 c)) := Lib.hid (by rw [hw0]; exact NAt.alloc h _)
  have HA : Hid (AtG w0 w.heap.size 29 (nodeC 4 emp (mn : Int) (mx : Int) (.slice a 1 c))) := Lib.hid (by rw [hw0]; exact AtG.new _ _ _)
  have HB0 : Hid (Below w.heap.size w w0) := Lib.hid (by rw [hw0]; exact (Below.refl _ _).alloc (Nat.le_refl _) _)
  have hX : (mostP (.rep mn mx p) : Int) = min ((mx : Int) * (mostP p : Int)) 1000 := by rw [mostP]; push_cast; omega
  have HX := Lib.hid hX
  have hw0' : w.alloc (.cells #[.int .i64 4, .int .u64 ((wd emp 0 : Nat) : Int), .int .u64 ((wd emp 1 : Nat) : Int), .int .u64 ((wd emp 2 : Nat) : Int), .int .u64 ((wd emp 3 : Nat) : Int), .int .i64 (mn : Int), .int .i64 (mx : Int), .slice a 1 c] 29) = w0 := hw0.symm
  clear hX h hw0
  show Calls Try.prog 14 #[.agg #[.int .i64 4, .int .u64 ((wd emp 0 : Nat) : Int), .int .u64 ((wd emp 1 : Nat) : Int), .int .u64 ((wd emp 2 : Nat) : Int), .int .u64 ((wd emp 3 : Nat) : Int), .int .i64 (mn : Int), .int .i64 (mx : Int), .slice a 1 c], .bool true] w _
  rw [HX.out]
  unfold LenMC at ih
  have hB2 := mostP_le p
  generalize mostP p = m at *
  obtain ⟨b, off, cap, heq, hcap, op', f', mn', mx', kids', ka, kc, ht, hc8, hkn⟩ := kid_at (j := 0) (t := p.tree) H.out rfl
  injection heq with e1 e2 e3
  subst e1; subst e3
  clear e2
  rw [ht] at ih hkn
  have hin2 := fun w h => ih w ka kids'.length kc h
  unfold nodeV at hin2
  have HI := Lib.hid hin2
  have HKN := Lib.hid hkn
  have hz8 : off + 0 * 8 = off := by omega
  rw [hz8] at hc8
  obtain ⟨c0, c1, c2, c3, c4, c5, c6, c7⟩ := hc8
  obtain ⟨kn, hkl⟩ : ∃ kn, kn = kids'.length := ⟨_, rfl⟩
  rw [← hkl] at c7 HKN HI
  have hm1 : (m : Int) ≤ 1000 := by omega
  have hml : (mx : Int) * (m : Int) ≤ 1000000 := by
    have : mx * m ≤ 1000 * 1000 := Nat.mul_le_mul (by omega) (by omega)
    have h3 : ((mx * m : Nat) : Int) ≤ 1000000 := by omega
    rwa [Int.natCast_mul] at h3
  have hml0 : 0 ≤ (mx : Int) * (m : Int) := Int.mul_nonneg (Int.natCast_nonneg _) (Int.natCast_nonneg _)
  have m7 : w0.cell? ⟨w.heap.size, 7, none⟩ = some (.slice (some ⟨b, off, none⟩) 1 c) := HA.out.cell 7 _ rfl
  have m0 : w0.cell? ⟨w.heap.size, 0, none⟩ = some (.int .i64 4) := HA.out.cell 0 _ rfl
  have m5 : w0.cell? ⟨w.heap.size, 5, none⟩ = some (.int .i64 (mn : Int)) := HA.out.cell 5 _ rfl
  have m6 : w0.cell? ⟨w.heap.size, 6, none⟩ = some (.int .i64 (mx : Int)) := HA.out.cell 6 _ rfl
  clear ih hin2 hkn ht hkl hz8 hcap hB2
  go_enter Try.func14, Try.ntmps14
  go_wp2_with fail
  refine (HI.out _ HKN.out).mono ?_
  rintro e9 w9 ⟨rfl, hb9⟩
  have HB9 := Lib.hid (HB0.out.trans (hb9.mono HB0.out.size))
  clear hb9
  go_wp2_with fail
  all_goals (go_returns; exact ⟨by refine congrArg (fun z => Ending.returned (Value.int .i64 z)) ?_; omega, HB9.out⟩)
theorem lenM_any (p : Pat) : Wf p → LenMC p := by
  refine Pat.ind (M := fun p => Wf p → LenMC p) ?_ ?_ ?_ ?_ p
  · exact fun f _ => lenM_one f
  · intro l ih hw
    cases hw with | cat _ h h2 h3 => exact lenM_cat l h3 h2 fun p hp => ih p hp (h p hp)
  · intro l ih hw
    cases hw with | alt _ h h2 h3 => exact lenM_alt l h3 h2 fun p hp => ih p hp (h p hp)
  · intro mn mx p ih hw
    cases hw with | rep _ _ _ h h1 h2 h3 => exact lenM_rep mn mx p (by omega) (by omega) (ih h)
end Go.Proofs.Ytofgkildlhcpdaa
/- The head of the statements on lang. -/
set_option linter.unusedVariables false
set_option linter.unusedSimpArgs false
namespace Go.Proofs.Ytofgkildlhcpdaa
open Go.RowKit Bt
def upS : ByteArray := ⟨#[97, 123, 50, 44, 51, 125]⟩
def upP : Pat := .rep 2 3 (.one fun y => y == 97)
theorem up_P : P upS .pat 0 0 (.ok upP.tree 6) := by
  have c0 : ch upS 0 = 97 := by decide
  have c1 : ch upS 1 = 123 := by decide
  have c2 : ch upS 2 = 50 := by decide
  have c3 : ch upS 3 = 44 := by decide
  have c4 : ch upS 4 = 51 := by decide
  have c5 : ch upS 5 = 125 := by decide
  have c6 : ch upS 6 = -1 := by decide
  have h1 : atomF upS 0 = .ok (one fun y => y == 97) 1 := by
    unfold atomF; rw [c0, if_neg (by decide), if_neg (by decide), if_neg (by decide), if_neg (by decide), if_neg (by decide), if_neg (by decide)]; rfl
  have h2 : timesF upS 2 = .ok (2, 3) 6 := by
    unfold timesF numF
    rw [c2, c3, if_neg (by decide), if_neg (by decide)]
    show timesE upS (50 - 48) (if ch upS 3 = 44 then _ else _) = _
    rw [c3, if_pos rfl, c4, c5, if_neg (by decide), if_neg (by decide), timesE, c5, if_neg (by decide)]
    rfl
  have a1 : P upS .atom 0 0 (.ok (one fun y => y == 97) 1) := by
    have := P.plain (s := upS) (o := 0) (p := 0) (by rw [c0]; decide)
    rw [h1] at this; exact this
  have a2 : P upS (.pieceL (repT 2 3 (one fun y => y == 97))) 0 6 (.ok (repT 2 3 (one fun y => y == 97)) 6) := P.pieceEnd (by rw [c6]; decide) (by rw [c6]; decide)
  have a3 := P.pieceOk a1 (P.times c1 h2 a2)
  have a4 : P upS (.partL [repT 2 3 (one fun y => y == 97)]) 0 6 (.ok (repT 2 3 (one fun y => y == 97)) 6) := P.partEnd (s := upS) (o := 0) (p := 6) (l := [repT 2 3 (one fun y => y == 97)]) (fun h => by have := h.1; rw [c6] at this; omega)
  have a5 := P.partOk a3 a4
  have a6 : P upS (.patL [repT 2 3 (one fun y => y == 97)]) 0 6 (.ok (repT 2 3 (one fun y => y == 97)) 6) := P.patEnd (s := upS) (o := 0) (p := 6) (l := [repT 2 3 (one fun y => y == 97)]) (by rw [c6]; decide)
  exact P.patOk a5 a6
theorem up_wf : Wf upP := .rep 2 3 _ (.one _) (by omega) (by omega) (by omega)
theorem up_two : Mt (byt [97, 97]) 2 upP 0 2 := by
  unfold upP
  rw [Mt]
  refine ⟨2, by omega, by omega, ?_⟩
  rw [It]
  refine ⟨1, ?_, by rw [Mt]; decide⟩
  rw [It]
  exact ⟨0, by rw [It], by rw [Mt]; decide⟩
theorem up_one : ¬ Mt (byt [97]) 1 upP 0 1 := fun h => by
  have := (mt_len _ _ _ _ _ h).2.1
  unfold upP at this
  rw [leastP, leastP] at this
  omega
theorem up_least : leastP upP = 2 := by unfold upP; rw [leastP, leastP]; rfl
theorem up_most : mostP upP = 3 := by unfold upP; rw [mostP, mostP]; rfl
/-- what Parse makes of it -/
theorem up_parse (w : World) : Calls Try.prog 32 #[.string upS] w fun e w' => Below w.heap.size w w' ∧ ∃ a n c, e = .returned (.tuple #[nodeV upP.tree (.slice a n c), .int .i64 0, .int .i64 0]) ∧ NAt w' upP.tree (.slice a n c) :=
  (parse_any upS w (by decide)).mono (by
    rintro e w' ⟨hb, r, hP, hr⟩
    have := P.det hP _ up_P
    subst this
    obtain ⟨kv, he, hK⟩ := hr
    obtain ⟨a, n, c, rfl⟩ := tree_kv (NAt.of hK)
    exact ⟨hb, a, n, c, he, NAt.of hK⟩)
end Go.Proofs.Ytofgkildlhcpdaa
/- The walk of the head of the statements on lang. -/
set_option linter.unusedVariables false
set_option linter.unusedSimpArgs false
namespace Go.Proofs.Ytofgkildlhcpdaa
open Go.RowKit Bt
set_option maxRecDepth 100000 in
set_option maxHeartbeats 1600000 in
theorem up03_any (w : World) : Calls Try.prog 9 #[] w fun e w' => e = .returned (.bool true) ∧ Below w.heap.size w w' := by
  have HP := Lib.hid up_parse
  go_enter Try.func9, Try.ntmps9
  go_wp2_with fail
  refine (HP.out _).mono ?_
  rintro e9 w1 ⟨hb1, a, n, c, rfl, hk⟩
  have HB1 := Lib.hid hb1; have HK1 := Lib.hid hk
  clear hb1 hk
  have hv : nodeV upP.tree (.slice a n c) = .agg #[.int .i64 4, .int .u64 ((wd emp 0 : Nat) : Int), .int .u64 ((wd emp 1 : Nat) : Int), .int .u64 ((wd emp 2 : Nat) : Int), .int .u64 ((wd emp 3 : Nat) : Int), .int .i64 2, .int .i64 3, .slice a n c] := rfl
  rw [hv]
  clear hv
  go_upto_region 2 with (fail)
  obtain ⟨W, hW⟩ : ∃ W : World, W = w1.alloc (.cells #[.int .i64 4, .int .u64 ((wd emp 0 : Nat) : Int), .int .u64 ((wd emp 1 : Nat) : Int), .int .u64 ((wd emp 2 : Nat) : Int), .int .u64 ((wd emp 3 : Nat) : Int), .int .i64 2, .int .i64 3, .slice a n c] 29) := ⟨_, rfl⟩
  rw [← hW]
  have HBW : Hid (Below w.heap.size w W) := Lib.hid (by rw [hW]; exact HB1.out.alloc HB1.out.size _)
  have HNW : Hid (NAt W upP.tree (.slice a n c)) := Lib.hid (by rw [hW]; exact HK1.out.alloc _)
  have HCW : Hid (AtG W w1.heap.size 29 #[.int .i64 4, .int .u64 ((wd emp 0 : Nat) : Int), .int .u64 ((wd emp 1 : Nat) : Int), .int .u64 ((wd emp 2 : Nat) : Int), .int .u64 ((wd emp 3 : Nat) : Int), .int .i64 2, .int .i64 3, .slice a n c]) := Lib.hid (by rw [hW]; exact AtG.new _ _ _)
  clear hW
  have k0 : W.cell? ⟨w1.heap.size, 0, none⟩ = some (.int .i64 4) := HCW.out.cell 0 _ rfl; have k1 : W.cell? ⟨w1.heap.size, 1, none⟩ = some (.int .u64 ((wd emp 0 : Nat) : Int)) := HCW.out.cell 1 _ rfl; have k2 : W.cell? ⟨w1.heap.size, 2, none⟩ = some (.int .u64 ((wd emp 1 : Nat) : Int)) := HCW.out.cell 2 _ rfl; have k3 : W.cell? ⟨w1.heap.size, 3, none⟩ = some (.int .u64 ((wd emp 2 : Nat) : Int)) := HCW.out.cell 3 _ rfl; have k4 : W.cell? ⟨w1.heap.size, 4, none⟩ = some (.int .u64 ((wd emp 3 : Nat) : Int)) := HCW.out.cell 4 _ rfl; have k5 : W.cell? ⟨w1.heap.size, 5, none⟩ = some (.int .i64 2) := HCW.out.cell 5 _ rfl; have k6 : W.cell? ⟨w1.heap.size, 6, none⟩ = some (.int .i64 3) := HCW.out.cell 6 _ rfl; have k7 : W.cell? ⟨w1.heap.size, 7, none⟩ = some (.slice a n c) := HCW.out.cell 7 _ rfl
  have q1 := fun (C : Array Value) (n c : Nat) => conv_const (P := Try.prog) W 22 5 C n c W.heap.size rfl Try.underlying22 Try.underlying5
  go_wp2_with fail
  refine (hasP_any upP up_wf _ a n c _ [97, 97] (NAt.alloc HNW.out _) (rdB_cells2 [97, 97] rfl (heap_alloc_new _ _) (Nat.le_refl _) (by decide) (by decide)) (by decide)).mono ?_
  rintro e9 w3 ⟨hb3, r, rfl, hr⟩
  obtain rfl : r = true := hr.2 up_two
  have HB3 := Lib.hid ((HBW.out.alloc HBW.out.size (.cells #[.int .u8 97, .int .u8 97] 5 (2, 3))).trans (hb3.mono (by have := HBW.out.size; simp; omega)))
  have HN3 := Lib.hid ((HNW.out.alloc (.cells #[.int .u8 97, .int .u8 97] 5 (2, 3))).below hb3)
  have HC3 := Lib.hid ((HCW.out.alloc (.cells #[.int .u8 97, .int .u8 97] 5 (2, 3))).below hb3)
  clear hb3 hr q1 k0 k1 k2 k3 k4 k5 k6 k7
  have k0 : w3.cell? ⟨w1.heap.size, 0, none⟩ = some (.int .i64 4) := HC3.out.cell 0 _ rfl; have k1 : w3.cell? ⟨w1.heap.size, 1, none⟩ = some (.int .u64 ((wd emp 0 : Nat) : Int)) := HC3.out.cell 1 _ rfl; have k2 : w3.cell? ⟨w1.heap.size, 2, none⟩ = some (.int .u64 ((wd emp 1 : Nat) : Int)) := HC3.out.cell 2 _ rfl; have k3 : w3.cell? ⟨w1.heap.size, 3, none⟩ = some (.int .u64 ((wd emp 2 : Nat) : Int)) := HC3.out.cell 3 _ rfl; have k4 : w3.cell? ⟨w1.heap.size, 4, none⟩ = some (.int .u64 ((wd emp 3 : Nat) : Int)) := HC3.out.cell 4 _ rfl; have k5 : w3.cell? ⟨w1.heap.size, 5, none⟩ = some (.int .i64 2) := HC3.out.cell 5 _ rfl; have k6 : w3.cell? ⟨w1.heap.size, 6, none⟩ = some (.int .i64 3) := HC3.out.cell 6 _ rfl; have k7 : w3.cell? ⟨w1.heap.size, 7, none⟩ = some (.slice a n c) := HC3.out.cell 7 _ rfl
  have q1 := fun (C : Array Value) (n c : Nat) => conv_const (P := Try.prog) w3 22 5 C n c w3.heap.size rfl Try.underlying22 Try.underlying5
  go_wp2_with fail
  refine (hasP_any upP up_wf _ a n c _ [97] (NAt.alloc HN3.out _) (rdB_cells2 [97] rfl (heap_alloc_new _ _) (Nat.le_refl _) (by decide) (by decide)) (by decide)).mono ?_
  rintro e9 w4 ⟨hb4, r, rfl, hr⟩
  obtain rfl : r = false := by
    cases r with
    | false => rfl
    | true => exact absurd (hr.1 rfl) up_one
  have HB4 := Lib.hid ((HB3.out.alloc HB3.out.size (.cells #[.int .u8 97] 5 (1, 2))).trans (hb4.mono (by have := HB3.out.size; simp; omega)))
  have HN4 := Lib.hid ((HN3.out.alloc (.cells #[.int .u8 97] 5 (1, 2))).below hb4)
  have HC4 := Lib.hid ((HC3.out.alloc (.cells #[.int .u8 97] 5 (1, 2))).below hb4)
  clear hb4 hr q1 k0 k1 k2 k3 k4 k5 k6 k7
  have k0 : w4.cell? ⟨w1.heap.size, 0, none⟩ = some (.int .i64 4) := HC4.out.cell 0 _ rfl; have k1 : w4.cell? ⟨w1.heap.size, 1, none⟩ = some (.int .u64 ((wd emp 0 : Nat) : Int)) := HC4.out.cell 1 _ rfl; have k2 : w4.cell? ⟨w1.heap.size, 2, none⟩ = some (.int .u64 ((wd emp 1 : Nat) : Int)) := HC4.out.cell 2 _ rfl; have k3 : w4.cell? ⟨w1.heap.size, 3, none⟩ = some (.int .u64 ((wd emp 2 : Nat) : Int)) := HC4.out.cell 3 _ rfl; have k4 : w4.cell? ⟨w1.heap.size, 4, none⟩ = some (.int .u64 ((wd emp 3 : Nat) : Int)) := HC4.out.cell 4 _ rfl; have k5 : w4.cell? ⟨w1.heap.size, 5, none⟩ = some (.int .i64 2) := HC4.out.cell 5 _ rfl; have k6 : w4.cell? ⟨w1.heap.size, 6, none⟩ = some (.int .i64 3) := HC4.out.cell 6 _ rfl; have k7 : w4.cell? ⟨w1.heap.size, 7, none⟩ = some (.slice a n c) := HC4.out.cell 7 _ rfl
  go_wp2_with fail
  refine (least_any upP up_wf _ a n c HN4.out).mono ?_
  rw [up_least]
  rintro e9 w5 ⟨rfl, hb5⟩
  have HB5 := Lib.hid (HB4.out.trans (hb5.mono HB4.out.size)); have HN5 := Lib.hid (HN4.out.below hb5); have HC5 := Lib.hid (HC4.out.below hb5)
  clear hb5 k0 k1 k2 k3 k4 k5 k6 k7
  have k0 : w5.cell? ⟨w1.heap.size, 0, none⟩ = some (.int .i64 4) := HC5.out.cell 0 _ rfl; have k1 : w5.cell? ⟨w1.heap.size, 1, none⟩ = some (.int .u64 ((wd emp 0 : Nat) : Int)) := HC5.out.cell 1 _ rfl; have k2 : w5.cell? ⟨w1.heap.size, 2, none⟩ = some (.int .u64 ((wd emp 1 : Nat) : Int)) := HC5.out.cell 2 _ rfl; have k3 : w5.cell? ⟨w1.heap.size, 3, none⟩ = some (.int .u64 ((wd emp 2 : Nat) : Int)) := HC5.out.cell 3 _ rfl; have k4 : w5.cell? ⟨w1.heap.size, 4, none⟩ = some (.int .u64 ((wd emp 3 : Nat) : Int)) := HC5.out.cell 4 _ rfl; have k5 : w5.cell? ⟨w1.heap.size, 5, none⟩ = some (.int .i64 2) := HC5.out.cell 5 _ rfl; have k6 : w5.cell? ⟨w1.heap.size, 6, none⟩ = some (.int .i64 3) := HC5.out.cell 6 _ rfl; have k7 : w5.cell? ⟨w1.heap.size, 7, none⟩ = some (.slice a n c) := HC5.out.cell 7 _ rfl
  go_wp2_with fail
  refine (most_any upP up_wf _ a n c HN5.out).mono ?_
  rw [up_most]
  rintro e9 w6 ⟨rfl, hb6⟩
  have HB6 := Lib.hid (HB5.out.trans (hb6.mono HB5.out.size))
  clear hb6
  go_wp2_with fail
  go_returns
  exact ⟨rfl, HB6.out⟩
end Go.Proofs.Ytofgkildlhcpdaa
/- Equality of sets (out of XSetEq, for other seats). -/
set_option linter.unusedVariables false
set_option linter.unusedSimpArgs false
namespace Go.Proofs.Ytofgkildlhcpdaa
open Go.RowKit Bt
theorem part4 (a b c d : Int) : (∀ w : World, (part 24 (setC a b c d) 0).run Try.prog w = .ok (.int .u64 a) w) ∧ (∀ w : World, (part 24 (setC a b c d) 1).run Try.prog w = .ok (.int .u64 b) w) ∧
    (∀ w : World, (part 24 (setC a b c d) 2).run Try.prog w = .ok (.int .u64 c) w) ∧ (∀ w : World, (part 24 (setC a b c d) 3).run Try.prog w = .ok (.int .u64 d) w) :=
  ⟨fun _ => by kernel_rfl, fun _ => by kernel_rfl, fun _ => by kernel_rfl, fun _ => by kernel_rfl⟩
theorem cells64 : Try.prog.cellsOf 24 = 1 := by kernel_rfl
theorem info64 : ∃ i, Try.prog.info? 24 = some i := by
  have h : (Try.prog.info? 24).isSome = true := by kernel_rfl
  exact Option.isSome_iff_exists.1 h
theorem eq_set (a b c d a' b' c' d' : Int) (w : World) :
    (Op.equal 26 (setV a b c d) (setV a' b' c' d')).run Try.prog w = .ok (a == a' && (b == b' && (c == c' && d == d'))) w := by
  obtain ⟨i, hi⟩ := info64
  obtain ⟨p0, p1, p2, p3⟩ := part4 a b c d
  obtain ⟨q0, q1, q2, q3⟩ := part4 a' b' c' d'
  have he := fun (x y : Int) => run_equalIn_int (P := Try.prog) w 9998 24 .u64 .u64 x y Try.underlying24
  simp only [Nat.reduceAdd] at he
  show (Op.equalIn (9999 + 1) 26 (.agg (setC a b c d)) (.agg (setC a' b' c' d'))).run Try.prog w = _
  rw [run_equalIn_array w 9999 _ _ Try.underlying26 hi, cells64]
  simp only [show List.range 4 = [0, 1, 2, 3] from rfl, Op.eqItems, Nat.mul_one, Sem.run_bind, p0, q0, Result.andThen_ok, he]
  have he0 := he a a'; have he1 := he b b'; have he2 := he c c'; have he3 := he d d'
  clear he
  generalize (a == a') = r0 at *
  generalize (b == b') = r1 at *
  generalize (c == c') = r2 at *
  generalize (d == d') = r3 at *
  cases r0 <;> cases r1 <;> cases r2 <;> cases r3 <;> simp [p1, p2, p3, q1, q2, q3, he1, he2, he3]
/-- a value that is compared with itself -/
theorem eq_self (a b c d : Int) (w : World) : (Op.equalIn 10000 26 (.agg #[.int .u64 a, .int .u64 b, .int .u64 c, .int .u64 d]) (.agg #[.int .u64 a, .int .u64 b, .int .u64 c, .int .u64 d])).run Try.prog w = .ok true w := by
  have := eq_set a b c d a b c d w; simpa [Op.equal, Op.maxDepth] using this
end Go.Proofs.Ytofgkildlhcpdaa
/- All that the claims on patterns share. -/
namespace Go.Proofs.Ytofgkildlhcpdaa
theorem baseC : True := trivial
end Go.Proofs.Ytofgkildlhcpdaa
