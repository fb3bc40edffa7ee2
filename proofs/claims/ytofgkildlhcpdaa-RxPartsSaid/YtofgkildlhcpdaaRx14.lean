/- The document's SameNode. -/
import Derived.Test.YtofgkildlhcpdaaRx13
import Derived.Laws.StructEq
set_option linter.unusedVariables false
set_option linter.unusedSimpArgs false
namespace Go.Proofs.Ytofgkildlhcpdaa
open Go.RowKit Bt
theorem part4 (a b c d : Int) : (∀ w : World, (part 24 (setC a b c d) 0).run Try.prog w = .ok (.int .u64 a) w) ∧ (∀ w : World, (part 24 (setC a b c d) 1).run Try.prog w = .ok (.int .u64 b) w) ∧
    (∀ w : World, (part 24 (setC a b c d) 2).run Try.prog w = .ok (.int .u64 c) w) ∧ (∀ w : World, (part 24 (setC a b c d) 3).run Try.prog w = .ok (.int .u64 d) w) :=
  ⟨fun _ => by kernel_rfl, fun _ => by kernel_rfl, fun _ => by kernel_rfl, fun _ => by kernel_rfl⟩
theorem cells64 : Try.prog.cellsOf 24 = 1 := by kernel_rfl
theorem info64 : ∃ i, Try.prog.info? 24 = some i := by
  have h : (Try.prog.info? 24).isSome = true := by kernel_rfl
  exact Option.isSome_iff_exists.1 h
theorem eq_set (a b c d a' b' c' d' : Int) (w : World) :
    (Op.equal 26 (setV a b c d) (setV a' b' c' d')).run Try.prog w = .ok (a == a' && (b == b' && (c == c' && d == d'))) w := by
  obtain ⟨i, hi⟩ := info64
  obtain ⟨p0, p1, p2, p3⟩ := part4 a b c d
  obtain ⟨q0, q1, q2, q3⟩ := part4 a' b' c' d'
  have he := fun (x y : Int) => run_equalIn_int (P := Try.prog) w 9998 24 .u64 .u64 x y Try.underlying24
  simp only [Nat.reduceAdd] at he
  show (Op.equalIn (9999 + 1) 26 (.agg (setC a b c d)) (.agg (setC a' b' c' d'))).run Try.prog w = _
  rw [run_equalIn_array w 9999 _ _ Try.underlying26 hi, cells64]
  simp only [show List.range 4 = [0, 1, 2, 3] from rfl, Op.eqItems, Nat.mul_one, Sem.run_bind, p0, q0, Result.andThen_ok, he]
  have he0 := he a a'; have he1 := he b b'; have he2 := he c c'; have he3 := he d d'
  clear he
  generalize (a == a') = r0 at *
  generalize (b == b') = r1 at *
  generalize (c == c') = r2 at *
  generalize (d == d') = r3 at *
  cases r0 <;> cases r1 <;> cases r2 <;> cases r3 <;> simp [p1, p2, p3, q1, q2, q3, he1, he2, he3]
/-- a value that is compared with itself -/
theorem eq_self (a b c d : Int) (w : World) : (Op.equalIn 10000 26 (.agg #[.int .u64 a, .int .u64 b, .int .u64 c, .int .u64 d]) (.agg #[.int .u64 a, .int .u64 b, .int .u64 c, .int .u64 d])).run Try.prog w = .ok true w := by
  have := eq_set a b c d a b c d w; simpa [Op.equal, Op.maxDepth] using this
/-- SameNode of one tree in two places -/
def SameC (t : Tree) : Prop := ∀ (w : World) (kv kv' : Value), NAt w t kv → NAt w t kv' → Calls Try.prog 34 #[nodeV t kv, nodeV t kv'] w fun e w' => e = .returned (.bool true) ∧ Below w.heap.size w w'
set_option maxRecDepth 100000 in
set_option maxHeartbeats 1600000 in
theorem same_node (op : Int) (f : Nat → Bool) (mn mx : Int) (kids : List Tree) (ih : ∀ t ∈ kids, SameC t) (hk : kids.length ≤ 1000) : SameC (.node op f mn mx kids) := by
  intro w kv kv' h1 h2
  obtain ⟨A, a, rfl⟩ := KAt.slice h1
  obtain ⟨B, b, rfl⟩ := KAt.slice h2
  have H1 := Lib.hid h1; have H2 := Lib.hid h2
  obtain ⟨n, hn⟩ : ∃ n, n = kids.length := ⟨_, rfl⟩
  rw [← hn] at H1 H2 hk ⊢
  have HN := Lib.hid hn
  have hnI : (n : Int) ≤ 1000 := by omega
  obtain ⟨W, hW⟩ : ∃ W : World, W = (w.alloc (.cells (nodeC op f mn mx (.slice A n a)) 29)).alloc (.cells (nodeC op f mn mx (.slice B n b)) 29) := ⟨_, rfl⟩
  have HC1 := Lib.hid (show AtG W w.heap.size 29 (nodeC op f mn mx (.slice A n a)) by rw [hW]; exact (AtG.new _ _ _).alloc _)
  have HC2 := Lib.hid (show AtG W (w.heap.size + 1) 29 (nodeC op f mn mx (.slice B n b)) by
    rw [hW]
    have := AtG.new (w.alloc (.cells (nodeC op f mn mx (.slice A n a)) 29)) 29 (nodeC op f mn mx (.slice B n b))
    simpa using this)
  have HB := Lib.hid (show Below w.heap.size w W by rw [hW]; go_grown)
  have hW' : (w.alloc (.cells #[.int .i64 op, .int .u64 ((wd f 0 : Nat) : Int), .int .u64 ((wd f 1 : Nat) : Int), .int .u64 ((wd f 2 : Nat) : Int), .int .u64 ((wd f 3 : Nat) : Int), .int .i64 mn, .int .i64 mx, .slice A n a] 29)).alloc (.cells #[.int .i64 op, .int .u64 ((wd f 0 : Nat) : Int), .int .u64 ((wd f 1 : Nat) : Int), .int .u64 ((wd f 2 : Nat) : Int), .int .u64 ((wd f 3 : Nat) : Int), .int .i64 mn, .int .i64 mx, .slice B n b] 29) = W := hW.symm
  have es := eq_self
  clear h1 h2 hn hW
  unfold nodeV
  dsimp only
  have k0 : (W).cell? ⟨w.heap.size, 0, none⟩ = some (.int .i64 op) := (HC1.out).cell 0 _ rfl
  have k1 : (W).cell? ⟨w.heap.size, 1, none⟩ = some (.int .u64 ((wd f 0 : Nat) : Int)) := (HC1.out).cell 1 _ rfl
  have k2 : (W).cell? ⟨w.heap.size, 2, none⟩ = some (.int .u64 ((wd f 1 : Nat) : Int)) := (HC1.out).cell 2 _ rfl
  have k3 : (W).cell? ⟨w.heap.size, 3, none⟩ = some (.int .u64 ((wd f 2 : Nat) : Int)) := (HC1.out).cell 3 _ rfl
  have k4 : (W).cell? ⟨w.heap.size, 4, none⟩ = some (.int .u64 ((wd f 3 : Nat) : Int)) := (HC1.out).cell 4 _ rfl
  have k5 : (W).cell? ⟨w.heap.size, 5, none⟩ = some (.int .i64 mn) := (HC1.out).cell 5 _ rfl
  have k6 : (W).cell? ⟨w.heap.size, 6, none⟩ = some (.int .i64 mx) := (HC1.out).cell 6 _ rfl
  have k7 : (W).cell? ⟨w.heap.size, 7, none⟩ = some (.slice A n a) := (HC1.out).cell 7 _ rfl
  have m0 : (W).cell? ⟨w.heap.size + 1, 0, none⟩ = some (.int .i64 op) := (HC2.out).cell 0 _ rfl
  have m1 : (W).cell? ⟨w.heap.size + 1, 1, none⟩ = some (.int .u64 ((wd f 0 : Nat) : Int)) := (HC2.out).cell 1 _ rfl
  have m2 : (W).cell? ⟨w.heap.size + 1, 2, none⟩ = some (.int .u64 ((wd f 1 : Nat) : Int)) := (HC2.out).cell 2 _ rfl
  have m3 : (W).cell? ⟨w.heap.size + 1, 3, none⟩ = some (.int .u64 ((wd f 2 : Nat) : Int)) := (HC2.out).cell 3 _ rfl
  have m4 : (W).cell? ⟨w.heap.size + 1, 4, none⟩ = some (.int .u64 ((wd f 3 : Nat) : Int)) := (HC2.out).cell 4 _ rfl
  have m5 : (W).cell? ⟨w.heap.size + 1, 5, none⟩ = some (.int .i64 mn) := (HC2.out).cell 5 _ rfl
  have m6 : (W).cell? ⟨w.heap.size + 1, 6, none⟩ = some (.int .i64 mx) := (HC2.out).cell 6 _ rfl
  have m7 : (W).cell? ⟨w.heap.size + 1, 7, none⟩ = some (.slice B n b) := (HC2.out).cell 7 _ rfl
  go_enter Try.func34, Try.ntmps34
  go_wp2_with fail
  clear hW' k0 k1 k2 k3 k4 k5 k6 k7 m0 m1 m2 m3 m4 m5 m6 m7 es
  go_loopw [5] (fun i wr => ∃ j : Nat, j ≤ n ∧ i = .int .i64 j ∧ Below W.heap.size W wr) (fun i _ => n - (intOf i).toNat)
  case atStart => exact ⟨0, Nat.zero_le _, rfl, Below.refl _ _⟩
  case round =>
    obtain ⟨j, hj, rfl, hb⟩ := hrel
    have HBr := Lib.hid hb
    clear hb
    by_cases hlt : j < n
    · have hltI : (j : Int) < n := by omega
      have hlk : j < kids.length := by have := HN.out; omega
      obtain ⟨b1, o1, c1, he1, hc1, op', f', mn', mx', kids', ka, kc, ht, h8, hn1⟩ := kid_at H1.out (List.getElem?_eq_getElem hlk)
      obtain ⟨b2, o2, c2, he2, hc2, op2, f2, mn2, mx2, kids2, ka2, kc2, ht2, g8, hn2⟩ := kid_at H2.out (List.getElem?_eq_getElem hlk)
      injection he1 with e1 e2 e3
      injection he2 with e4 e5 e6
      subst e1; subst e3; subst e4; subst e6
      have hI := ih kids[j] (List.getElem_mem hlk)
      rw [ht] at ht2
      injection ht2 with i1 i2 i3 i4 i5
      subst i1; subst i2; subst i3; subst i4; subst i5
      rw [ht] at hI hn1 hn2
      have HI := Lib.hid (fun (w1 : World) (hb : Below w.heap.size w w1) => hI w1 _ _ (hn1.below hb) (hn2.below hb))
      unfold nodeV at HI
      dsimp only at HI
      have HPRE : Hid (∀ wx : World, Below W.heap.size W wx → Cell8 wx b1 (o1 + j * 8) op' f' mn' mx' (.slice ka kids'.length kc) ∧ Cell8 wx b2 (o2 + j * 8) op' f' mn' mx' (.slice ka2 kids'.length kc2) ∧ wx.cell? ⟨w.heap.size, 7, none⟩ = some (.slice (some ⟨b1, o1, none⟩) n a) ∧ wx.cell? ⟨w.heap.size + 1, 7, none⟩ = some (.slice (some ⟨b2, o2, none⟩) n b)) := Lib.hid (fun wx hb =>
        have hbw := HB.out.trans (hb.mono HB.out.size)
        ⟨h8.below hbw, g8.below hbw, (hb.cell (p := ⟨w.heap.size, 7, none⟩) HC1.out.lt).trans (HC1.out.cell 7 _ rfl), (hb.cell (p := ⟨w.heap.size + 1, 7, none⟩) HC2.out.lt).trans (HC2.out.cell 7 _ rfl)⟩)
      obtain ⟨kn, hkn⟩ : ∃ kn, kn = kids'.length := ⟨_, rfl⟩
      rw [← hkn] at HPRE HI
      have hc1' : n ≤ a := by have := HN.out; omega
      have hc2' : n ≤ b := by have := HN.out; omega
      clear hkn ht hI hn1 hn2 h8 g8 e2 e5 hc1 hc2
      have q7 := (HPRE.out wr HBr.out).2.2.1
      go_upto_region 6 with (fail)
      refine Rg.wp_region_each (by kernel_rfl) (fun w' => Below W.heap.size W w') (fun w1 w2 h hb => h.trans (hb.mono h.size)) (by kernel_rfl) (by kernel_rfl) (HBr.out) ?_
      show Rg.Build _ _ _ _ _ 0 [_, _, _, _, _, _, _, _, _, _, _, _] []
      refine Rg.build_cons (m := 1) (r := Rg.eq _) (Rg.one_plain (by rfl) (by (intro ax wx hk Kx hK; have k2 := hk.base 2 _ rfl rfl; have hj := hk.j; clear hk; go_simp; refine hK _ _ ?_ (Below.refl _ _); apply Rg.mk))) ?_ rfl
      refine Rg.build_cons (m := 2) (r := Rg.eq _) (Rg.one_plain (by rfl) (by (intro ax wx hk Kx hK; obtain ⟨v49, k49, h49⟩ := hk.dep 0 49 _ rfl rfl rfl; (first | (cases (h49 : v49 = _)) | (obtain ⟨rfl, h49⟩ := h49) | skip); have hj := hk.j; clear hk; obtain ⟨⟨c0, c1, c2, c3, c4, c5, c6, c7⟩, ⟨g0, g1, g2, g3, g4, g5, g6, g7⟩, r1, r2⟩ := HPRE.out wx hj; go_simp; refine hK _ _ ?_ (Below.refl _ _); apply Rg.mk))) ?_ rfl
      refine Rg.build_cons (m := 3) (r := Rg.eq _) (Rg.one_plain (by rfl) (by (intro ax wx hk Kx hK; have k5 := hk.base 5 _ rfl rfl; have hj := hk.j; clear hk; go_simp; refine hK _ _ ?_ (Below.refl _ _); apply Rg.mk))) ?_ rfl
      refine Rg.build_cons (m := 4) (r := Rg.eq _) (Rg.one_plain (by rfl) (by (intro ax wx hk Kx hK; obtain ⟨v50, k50, h50⟩ := hk.dep 1 50 _ rfl rfl rfl; (first | (cases (h50 : v50 = _)) | (obtain ⟨rfl, h50⟩ := h50) | skip); obtain ⟨v51, k51, h51⟩ := hk.dep 2 51 _ rfl rfl rfl; (first | (cases (h51 : v51 = _)) | (obtain ⟨rfl, h51⟩ := h51) | skip); have hj := hk.j; clear hk; go_simp; refine hK _ _ ?_ (Below.refl _ _); apply Rg.mk))) ?_ rfl
      refine Rg.build_cons (m := 5) (r := Rg.eq _) (Rg.one_plain (by rfl) (by (intro ax wx hk Kx hK; obtain ⟨v52, k52, h52⟩ := hk.dep 3 52 _ rfl rfl rfl; (first | (cases (h52 : v52 = _)) | (obtain ⟨rfl, h52⟩ := h52) | skip); have hj := hk.j; clear hk; obtain ⟨⟨c0, c1, c2, c3, c4, c5, c6, c7⟩, ⟨g0, g1, g2, g3, g4, g5, g6, g7⟩, r1, r2⟩ := HPRE.out wx hj; go_simp; refine hK _ _ ?_ (Below.refl _ _); apply Rg.mk))) ?_ rfl
      refine Rg.build_cons (m := 6) (r := Rg.eq _) (Rg.one_plain (by rfl) (by (intro ax wx hk Kx hK; have k3 := hk.base 3 _ rfl rfl; have hj := hk.j; clear hk; go_simp; refine hK _ _ ?_ (Below.refl _ _); apply Rg.mk))) ?_ rfl
      refine Rg.build_cons (m := 7) (r := Rg.eq _) (Rg.one_plain (by rfl) (by (intro ax wx hk Kx hK; obtain ⟨v54, k54, h54⟩ := hk.dep 5 54 _ rfl rfl rfl; (first | (cases (h54 : v54 = _)) | (obtain ⟨rfl, h54⟩ := h54) | skip); have hj := hk.j; clear hk; obtain ⟨⟨c0, c1, c2, c3, c4, c5, c6, c7⟩, ⟨g0, g1, g2, g3, g4, g5, g6, g7⟩, r1, r2⟩ := HPRE.out wx hj; go_simp; refine hK _ _ ?_ (Below.refl _ _); apply Rg.mk))) ?_ rfl
      refine Rg.build_cons (m := 8) (r := Rg.eq _) (Rg.one_plain (by rfl) (by (intro ax wx hk Kx hK; have k5 := hk.base 5 _ rfl rfl; have hj := hk.j; clear hk; go_simp; refine hK _ _ ?_ (Below.refl _ _); apply Rg.mk))) ?_ rfl
      refine Rg.build_cons (m := 9) (r := Rg.eq _) (Rg.one_plain (by rfl) (by (intro ax wx hk Kx hK; obtain ⟨v55, k55, h55⟩ := hk.dep 6 55 _ rfl rfl rfl; (first | (cases (h55 : v55 = _)) | (obtain ⟨rfl, h55⟩ := h55) | skip); obtain ⟨v56, k56, h56⟩ := hk.dep 7 56 _ rfl rfl rfl; (first | (cases (h56 : v56 = _)) | (obtain ⟨rfl, h56⟩ := h56) | skip); have hj := hk.j; clear hk; go_simp; refine hK _ _ ?_ (Below.refl _ _); apply Rg.mk))) ?_ rfl
      refine Rg.build_cons (m := 10) (r := Rg.eq _) (Rg.one_plain (by rfl) (by (intro ax wx hk Kx hK; obtain ⟨v57, k57, h57⟩ := hk.dep 8 57 _ rfl rfl rfl; (first | (cases (h57 : v57 = _)) | (obtain ⟨rfl, h57⟩ := h57) | skip); have hj := hk.j; clear hk; obtain ⟨⟨c0, c1, c2, c3, c4, c5, c6, c7⟩, ⟨g0, g1, g2, g3, g4, g5, g6, g7⟩, r1, r2⟩ := HPRE.out wx hj; go_simp; refine hK _ _ ?_ (Below.refl _ _); apply Rg.mk))) ?_ rfl
      refine Rg.build_cons (m := 11) (r := Rg.eq _) (Rg.one_plain (by rfl) (by (intro ax wx hk Kx hK; obtain ⟨v53, k53, h53⟩ := hk.dep 4 53 _ rfl rfl rfl; (first | (cases (h53 : v53 = _)) | (obtain ⟨rfl, h53⟩ := h53) | skip); obtain ⟨v58, k58, h58⟩ := hk.dep 9 58 _ rfl rfl rfl; (first | (cases (h58 : v58 = _)) | (obtain ⟨rfl, h58⟩ := h58) | skip); have hj := hk.j; clear hk; go_simp; refine (HI.out _ (HB.out.trans (hj.mono HB.out.size))).mono ?_; rintro e w' ⟨rfl, hb⟩; refine hK _ _ ?_ hb; apply Rg.mk))) ?_ rfl
      refine Rg.build_cons (m := 12) (r := Rg.eq _) (Rg.one_plain (by rfl) (by (intro ax wx hk Kx hK; obtain ⟨v59, k59, h59⟩ := hk.dep 10 59 _ rfl rfl rfl; (first | (cases (h59 : v59 = _)) | (obtain ⟨rfl, h59⟩ := h59) | skip); have hj := hk.j; clear hk; go_simp; refine hK _ _ ?_ (Below.refl _ _); apply Rg.mk))) ?_ rfl
      refine Rg.build_end fun wx hj => ?_
      refine Rg.fin_eq rfl ?_
      refine Rg.fin_eq rfl ?_
      refine Rg.fin_eq rfl ?_
      refine Rg.fin_eq rfl ?_
      refine Rg.fin_eq rfl ?_
      refine Rg.fin_eq rfl ?_
      refine Rg.fin_eq rfl ?_
      refine Rg.fin_eq rfl ?_
      refine Rg.fin_eq rfl ?_
      refine Rg.fin_eq rfl ?_
      refine Rg.fin_eq rfl ?_
      refine Rg.fin_eq rfl ?_
      refine Rg.fin_nil ?_
      simp only [List.set_cons_zero, List.set_cons_succ]
      have HJ := Lib.hid hj
      clear hj q7
      go_wp2_with fail
      exact ⟨⟨j + 1, by omega, by go_num, HJ.out⟩, by simp [intOf]; omega⟩
    · obtain rfl : j = n := by omega
      have q7 : wr.cell? ⟨w.heap.size, 7, none⟩ = some (.slice A j a) := (HBr.out.cell (p := ⟨w.heap.size, 7, none⟩) HC1.out.lt).trans (HC1.out.cell 7 _ rfl)
      go_wp2_with fail
      go_returns
      exact ⟨rfl, HB.out.trans (HBr.out.mono HB.out.size)⟩
theorem same_any (t : Tree) : ∀ {w : World} {kv : Value}, NAt w t kv → SameC t := by
  refine Tree.rec (motive_1 := fun t => ∀ {w : World} {kv : Value}, NAt w t kv → SameC t) (motive_2 := fun l => ∀ t ∈ l, ∀ {w : World} {kv : Value}, NAt w t kv → SameC t) ?_ ?_ ?_ t
  · intro op f mn mx kids ih w kv h
    have hl : kids.length ≤ 1000 := by
      unfold NAt at h
      rw [KAt] at h
      rcases h with ⟨h, _⟩ | ⟨_, h, _⟩
      · rw [h]; simp
      · exact h
    refine same_node op f mn mx kids (fun t ht => ?_) hl
    obtain ⟨j, hj, rfl⟩ := List.getElem_of_mem ht
    obtain ⟨_, _, _, _, _, _, _, _, _, _, _, _, _, _, hn⟩ := kid_at h (List.getElem?_eq_getElem hj)
    exact ih _ ht hn
  · intro t ht; cases ht
  · intro t l h1 h2 u hu w kv h
    rcases List.mem_cons.1 hu with rfl | hu
    · exact h1 h
    · exact h2 u hu h
end Go.Proofs.Ytofgkildlhcpdaa
