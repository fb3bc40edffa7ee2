/- The walk of Do: all but In and Emit. -/
import Derived.Test.YtpikoijohfmnaaaCt5
set_option linter.unusedVariables false
set_option linter.unusedSimpArgs false
namespace Go.Proofs.Ytpikoijohfmnaaa
open Go.RowKit
theorem upd_in {f : Nat → Int} {k i : Nat} {v : Int} (hv : ∀ i, i < k → 0 ≤ f i ∧ f i < 18446744073709551616) (h : u64In v) : ∀ j, j < k → 0 ≤ upd f i v j ∧ upd f i v j < 18446744073709551616 := by
  intro j hj
  unfold upd
  split
  · exact h
  · exact hv j hj
theorem ld_in {f : Nat → Int} {k : Nat} {is : Bool} {c : Int} (hv : ∀ i, i < k → 0 ≤ f i ∧ f i < 18446744073709551616) (h : thereP k is c = true) : u64In (ldP f is c) := by
  unfold ldP u64In
  cases is
  · simp
  · have := thereP_in h
    exact hv c.toNat (by omega)
set_option maxRecDepth 100000 in
set_option maxHeartbeats 4000000 in
theorem do_other (op d a b c n : Int) (g gc k : Nat) (tv : Value) (f : Nat → Int) (tr : List Ins) (w : World) (h : CtM w g gc tv k f tr) (hm : mayP k ⟨op, d, a, b, c, n⟩ = true) (htr : tr.length ≤ 1000000000000) (hk : k ≤ 200000) (h10 : op ≠ 10) (h11 : op ≠ 11) (hn : u64In n) :
    Calls Try.prog 10 #[.pointer (some ⟨g, 0, none⟩), Ins.val ⟨op, d, a, b, c, n⟩] w (DoPost g gc k tv f tr ⟨op, d, a, b, c, n⟩ w) := by
  obtain ⟨hop, tD, tA, tB, tC, hS⟩ := mayP_in hm
  have eD : isD op = true := by unfold isD; rw [decide_eq_true_iff]; omega
  rw [eD] at tD
  obtain ⟨d0, d1⟩ := thereP_in tD
  have HD : Hid (d.toNat < k) := Lib.hid (by omega)
  have hkI : (k : Int) ≤ 200000 := by omega
  have e10 : (op == 10) = false := by rw [beq_eq_false_iff_ne]; exact h10
  have e11 : (op == 11) = false := by rw [beq_eq_false_iff_ne]; exact h11
  have ED := Lib.hid eD; have TA := Lib.hid tA; have TB := Lib.hid tB; have TC := Lib.hid tC; have HS := Lib.hid hS; have HN := Lib.hid hn
  have H10 := Lib.hid h10; have H11 := Lib.hid h11
  have H := Lib.hid h; have HM := Lib.hid hm; have HTR := Lib.hid htr; have HKK := Lib.hid hk; clear h hm htr hk tD eD tA tB tC hS hn hop h10 h11
  unfold Ins.val Ins.cells
  dsimp only
  go_enter Try.func10, Try.ntmps10
  go_upto_region 1 with (fail)
  have f0 : AtG ((w.alloc (.cells #[.pointer (some ⟨g, 0, none⟩)] 25)).alloc (.cells #[.int .i64 op, .int .i64 d, .int .i64 a, .int .i64 b, .int .i64 c, .int .u64 n] 35)) w.heap.size 25 #[.pointer (some ⟨g, 0, none⟩)] := (AtG.new _ _ _).alloc _
  have f1 : AtG ((w.alloc (.cells #[.pointer (some ⟨g, 0, none⟩)] 25)).alloc (.cells #[.int .i64 op, .int .i64 d, .int .i64 a, .int .i64 b, .int .i64 c, .int .u64 n] 35)) (w.heap.size + 1) 35 #[.int .i64 op, .int .i64 d, .int .i64 a, .int .i64 b, .int .i64 c, .int .u64 n] := by
    have := AtG.new (w.alloc (.cells #[.pointer (some ⟨g, 0, none⟩)] 25)) 35 #[.int .i64 op, .int .i64 d, .int .i64 a, .int .i64 b, .int .i64 c, .int .u64 n]
    simpa using this
  have f2 : Below w.heap.size w ((w.alloc (.cells #[.pointer (some ⟨g, 0, none⟩)] 25)).alloc (.cells #[.int .i64 op, .int .i64 d, .int .i64 a, .int .i64 b, .int .i64 c, .int .u64 n] 35)) := by go_grown
  generalize (w.alloc (.cells #[.pointer (some ⟨g, 0, none⟩)] 25)).alloc (.cells #[.int .i64 op, .int .i64 d, .int .i64 a, .int .i64 b, .int .i64 c, .int .u64 n] 35) = w2 at f0 f1 f2 ⊢
  have m0 := f0.cell 0 _ rfl
  have c0 := f1.cell 0 _ rfl
  have c1 := f1.cell 1 _ rfl
  have c2 := f1.cell 2 _ rfl
  have c3 := f1.cell 3 _ rfl
  have c4 := f1.cell 4 _ rfl
  have c5 := f1.cell 5 _ rfl
  have F0 := Lib.hid f0; have F1 := Lib.hid f1; have F2 := Lib.hid f2
  clear f0 f1 f2
  go_wp2_with fail
  refine (may_any ⟨op, d, a, b, c, n⟩ g gc k tv f tr w2 (H.out.below F2.out)).mono ?_
  rw [HM.out]
  rintro e9 w3 ⟨rfl, hb⟩
  have g0 := F0.out.below hb
  have g1 := F1.out.below hb
  have g2 := F2.out.trans (hb.mono F2.out.size)
  clear m0 c0 c1 c2 c3 c4 c5 F0 F1 F2 hb
  have m0 := g0.cell 0 _ rfl
  have c0 := g1.cell 0 _ rfl
  have c1 := g1.cell 1 _ rfl
  have c2 := g1.cell 2 _ rfl
  have c3 := g1.cell 3 _ rfl
  have c4 := g1.cell 4 _ rfl
  have c5 := g1.cell 5 _ rfl
  have hz := g1.lt
  have hz0 : w.heap.size < w3.heap.size := g0.lt
  have G0 := Lib.hid g0; have G1 := Lib.hid g1; have G2 := Lib.hid g2
  clear g0 g1 g2
  go_upto_region 6 with (fail)
  have q0 : AtG (w3.alloc (.cells #[.int .i64 op, .int .i64 d, .int .i64 a, .int .i64 b, .int .i64 c, .int .u64 n] 35)) w.heap.size 25 #[.pointer (some ⟨g, 0, none⟩)] := G0.out.alloc _
  have q1 : AtG (w3.alloc (.cells #[.int .i64 op, .int .i64 d, .int .i64 a, .int .i64 b, .int .i64 c, .int .u64 n] 35)) (w.heap.size + 1) 35 #[.int .i64 op, .int .i64 d, .int .i64 a, .int .i64 b, .int .i64 c, .int .u64 n] := G1.out.alloc _
  have q2 : AtG (w3.alloc (.cells #[.int .i64 op, .int .i64 d, .int .i64 a, .int .i64 b, .int .i64 c, .int .u64 n] 35)) w3.heap.size 35 #[.int .i64 op, .int .i64 d, .int .i64 a, .int .i64 b, .int .i64 c, .int .u64 n] := AtG.new _ _ _
  have q3 : Below w.heap.size w (w3.alloc (.cells #[.int .i64 op, .int .i64 d, .int .i64 a, .int .i64 b, .int .i64 c, .int .u64 n] 35)) := G2.out.alloc G2.out.size _
  have q4 : CtM (w3.alloc (.cells #[.int .i64 op, .int .i64 d, .int .i64 a, .int .i64 b, .int .i64 c, .int .u64 n] 35)) g gc tv k f tr := H.out.below q3
  have q5 := H.out.lt
  generalize w3.alloc (.cells #[.int .i64 op, .int .i64 d, .int .i64 a, .int .i64 b, .int .i64 c, .int .u64 n] 35) = w4 at q0 q1 q2 q3 q4 ⊢
  have NE : Hid (tv.ownBlock ≠ some w.heap.size ∧ tv.ownBlock ≠ some (w.heap.size + 1) ∧ tv.ownBlock ≠ some w3.heap.size ∧ tv.ownBlock ≠ some gc ∧ tv.ownBlock ≠ some g) :=
    Lib.hid ⟨fun e => by have := q5 _ (.inr (.inr e)); omega, fun e => by have := q5 _ (.inr (.inr e)); omega, fun e => by have := q5 _ (.inr (.inr e)); omega, own_ne q4.t q4.c (by decide), own_ne q4.t q4.m (by decide)⟩
  have NG : Hid (w.heap.size ≠ g ∧ w.heap.size + 1 ≠ g ∧ w3.heap.size ≠ g ∧ gc ≠ g ∧ g < w4.heap.size) :=
    Lib.hid ⟨fun e => by have := q5 g (.inl rfl); omega, fun e => by have := q5 g (.inl rfl); omega, fun e => by have := q5 g (.inl rfl); omega, q4.c.ne q4.m (by decide), q4.m.lt⟩
  have Q0 := Lib.hid q0; have Q1 := Lib.hid q1; have Q2 := Lib.hid q2; have Q3 := Lib.hid q3; have Q4 := Lib.hid q4; have Q5 := Lib.hid q5
  clear q0 q1 q2 q3 q4 q5 m0 c0 c1 c2 c3 c4 c5 G0 G1 G2 hz hz0
  refine RgX.start (by kernel_rfl) [(7, fun w5 w6 => w5.grownBy w6 tv.ownBlock), (10, fun w5 w6 => ∃ v, w6 = w5.setCell ⟨g, 1, none⟩ v)] [⟨fun w5 => AtG w5 w.heap.size 25 #[.pointer (some ⟨g, 0, none⟩)] ∧ AtG w5 (w.heap.size + 1) 35 #[.int .i64 op, .int .i64 d, .int .i64 a, .int .i64 b, .int .i64 c, .int .u64 n] ∧ AtG w5 w3.heap.size 35 #[.int .i64 op, .int .i64 d, .int .i64 a, .int .i64 b, .int .i64 c, .int .u64 n] ∧ AtG w5 gc 29 (uarr f k) ∧ Only (ctS g gc tv) w4 w5, none⟩, ⟨fun w5 => AtG w5 g 57 #[.slice (some ⟨gc, 0, none⟩) k k, tv], some 10⟩, ⟨fun w5 => w5.ownsRow 0 35 6 tv tr.length (flat6 tr), some 7⟩] ⟨⟨fun _ _ h hb => ⟨h.1.below hb, h.2.1.below hb, h.2.2.1.below hb, h.2.2.2.1.below hb, h.2.2.2.2.trans (Only.of_below (S := ctS g gc tv) hb) (fun k hk => .inl hk)⟩, ⟨fun _ _ _ _ => (fun w5 w6 h he => ⟨h.1.grown he NE.out.1, h.2.1.grown he NE.out.2.1, h.2.2.1.grown he NE.out.2.2.1, h.2.2.2.1.grown he NE.out.2.2.2.1, h.2.2.2.2.trans (Only.of_grown (S := ctS g gc tv) he (fun k hk => .inr (.inr hk))) (fun k hk => .inl hk)⟩), fun _ _ _ _ => (fun w5 w6 h he => by obtain ⟨v, rfl⟩ := he; exact ⟨h.1.far NG.out.1 _, h.2.1.far NG.out.2.1 _, h.2.2.1.far NG.out.2.2.1 _, h.2.2.2.1.far NG.out.2.2.2.1 _, h.2.2.2.2.trans (Only.set (S := ctS g gc tv) _ _ _ _ (.inl rfl)) (fun k hk => .inl hk)⟩), trivial⟩⟩, ⟨fun _ _ h hb => h.below hb, ⟨fun _ _ _ _ => (fun w5 w6 h he => h.grown he NE.out.2.2.2.2), fun _ h _ _ => absurd rfl h, trivial⟩⟩, ⟨fun _ _ h hb => own_below h hb, ⟨fun _ h _ _ => absurd rfl h, fun _ _ h _ => absurd ⟨7, 1, rfl, rfl⟩ h, trivial⟩⟩, trivial⟩ (by kernel_rfl) (by kernel_rfl) ⟨⟨Q0.out.drew, Q1.out.drew, Q2.out.drew, Q4.out.c.drew, (Only.refl _).drew⟩, Q4.out.m.drew, Q4.out.t, trivial⟩ ?_
  show RgX.Build _ _ _ _ _ _ 0 [_, _, _, _, _, _, _, _, _, _, _] []
  refine RgX.build_cons (m := 1) (r := RgX.eq _) (RgX.one_plain (by rfl) (by (intro ax wx hk Kx hK; have k2 := hk.base 2 _ rfl rfl; have hL := hk.fact 0 0 _ rfl rfl; (try dsimp only at hL); have hm := hk.fact 1 1 _ rfl rfl; (try dsimp only at hm); clear hk; have z0 := hL.1.cell 0 _ rfl; go_simp; refine hK _ _ (fun h => by cases h) (fun _ _ => ?_) (Below.refl _ _); apply RgX.mk))) ?_ rfl RgX.keep_eq (fun _ h => by cases h)
  refine RgX.build_cons (m := 2) (r := RgX.eq _) (RgX.one_plain (by rfl) (by (intro ax wx hk Kx hK; have k2 := hk.base 2 _ rfl rfl; have hL := hk.fact 0 0 _ rfl rfl; (try dsimp only at hL); have hm := hk.fact 1 1 _ rfl rfl; (try dsimp only at hm); have ht := hk.fact 2 4 _ rfl rfl; (try dsimp only at ht); clear hk; have z0 := hL.1.cell 0 _ rfl; go_simp; refine hK _ _ (fun h => by cases h) (fun _ _ => ?_) (Below.refl _ _); apply RgX.mk))) ?_ rfl RgX.keep_eq (fun _ h => by cases h)
  refine RgX.build_cons (m := 3) (r := RgX.eq _) (RgX.one_plain (by rfl) (by (intro ax wx hk Kx hK; obtain ⟨v23, k23, h23⟩ := hk.dep 0 1 23 _ rfl rfl rfl; (first | (replace h23 := h23 9 undef rfl rfl; first | (cases (h23 : v23 = _)) | (obtain ⟨rfl, h23⟩ := h23) | skip) | skip); have hL := hk.fact 0 0 _ rfl rfl; (try dsimp only at hL); have hm := hk.fact 1 1 _ rfl rfl; (try dsimp only at hm); have ht := hk.fact 2 3 _ rfl rfl; (try dsimp only at ht); clear hk; go_simp; refine hK _ _ (fun h => by cases h) (fun _ _ => ?_) (Below.refl _ _); apply RgX.mk))) ?_ rfl RgX.keep_eq (fun _ h => by cases h)
  refine RgX.build_cons (m := 4) (r := RgX.eq _) (RgX.one_plain (by rfl) (by (intro ax wx hk Kx hK; obtain ⟨v24, k24, h24⟩ := hk.dep 0 2 24 _ rfl rfl rfl; (first | (replace h24 := h24 9 undef rfl rfl; first | (cases (h24 : v24 = _)) | (obtain ⟨rfl, h24⟩ := h24) | skip) | skip); have hL := hk.fact 0 0 _ rfl rfl; (try dsimp only at hL); have hm := hk.fact 1 1 _ rfl rfl; (try dsimp only at hm); have ht := hk.fact 2 2 _ rfl rfl; (try dsimp only at ht); clear hk; go_simp; refine hK _ _ (fun h => by cases h) (fun _ _ => ?_) (Below.refl _ _); apply RgX.mk))) ?_ rfl RgX.keep_eq (fun _ h => by cases h)
  refine RgX.build_cons (m := 5) (r := RgX.eq _) (RgX.one_plain (by rfl) (by (intro ax wx hk Kx hK; obtain ⟨v25, k25, h25⟩ := hk.dep 0 3 25 _ rfl rfl rfl; (first | (replace h25 := h25 9 undef rfl rfl; first | (cases (h25 : v25 = _)) | (obtain ⟨rfl, h25⟩ := h25) | skip) | skip); have hL := hk.fact 0 0 _ rfl rfl; (try dsimp only at hL); have hm := hk.fact 1 1 _ rfl rfl; (try dsimp only at hm); have ht := hk.fact 2 1 _ rfl rfl; (try dsimp only at ht); clear hk; have z0 := hm.cell 1 _ rfl; go_simp; refine hK _ _ (fun h => by cases h) (fun _ _ => ?_) (Below.refl _ _); apply RgX.mk))) ?_ rfl RgX.keep_eq (fun _ h => by cases h)
  refine RgX.build_cons (m := 6) (r := RgX.eq _) (RgX.one_plain (by rfl) (by (intro ax wx hk Kx hK; have k6 := hk.base 6 _ rfl rfl; have hL := hk.fact 0 0 _ rfl rfl; (try dsimp only at hL); have hm := hk.fact 1 1 _ rfl rfl; (try dsimp only at hm); have ht := hk.fact 2 2 _ rfl rfl; (try dsimp only at ht); clear hk; have z0 := hL.2.2.1.cell 0 _ rfl; have z1 := hL.2.2.1.cell 1 _ rfl; have z2 := hL.2.2.1.cell 2 _ rfl; have z3 := hL.2.2.1.cell 3 _ rfl; have z4 := hL.2.2.1.cell 4 _ rfl; have z5 := hL.2.2.1.cell 5 _ rfl; go_simp; refine hK _ _ (fun h => by cases h) (fun _ _ => ?_) (Below.refl _ _); apply RgX.mk))) ?_ rfl RgX.keep_eq (fun _ h => by cases h)
  refine RgX.build_cons (m := 7) (r := (⟨fun v _ w5 => ∃ kk, v = .slice (some ⟨kk, 0, none⟩) 1 1 ∧ w4.heap.size ≤ kk ∧ AtG w5 kk 35 #[.int .i64 op, .int .i64 d, .int .i64 a, .int .i64 b, .int .i64 c, .int .u64 n], some 7, none⟩ : RgX.Rl)) (RgX.one_plain (by rfl) (by (intro ax wx hk Kx hK; obtain ⟨v27, k27, h27⟩ := hk.dep 0 5 27 _ rfl rfl rfl; (first | (replace h27 := h27 9 undef rfl rfl; first | (cases (h27 : v27 = _)) | (obtain ⟨rfl, h27⟩ := h27) | skip) | skip); have hL := hk.fact 0 0 _ rfl rfl; (try dsimp only at hL); have hm := hk.fact 1 1 _ rfl rfl; (try dsimp only at hm); have ht := hk.fact 2 1 _ rfl rfl; (try dsimp only at ht); clear hk; (go_simp; exact hK _ _ (fun h => by cases h) (fun u _ => ⟨wx.heap.size, rfl, hL.2.2.2.2.size, AtG.new _ _ _⟩) ((Below.refl _ _).alloc (Nat.le_refl _) _))))) ?_ rfl (RgX.keep_r (fun _ _ _ _ h hb => by obtain ⟨kk, h1, h2, h3⟩ := h; exact ⟨kk, h1, h2, h3.below hb⟩) (fun _ _ => ⟨fun _ h _ _ => absurd rfl h, fun _ _ h _ => absurd ⟨7, 1, rfl, rfl⟩ h, trivial⟩)) (fun _ h => by cases h)
  refine RgX.build_cons (m := 8) (r := (⟨fun v _ w5 => w5.ownsRow 0 35 6 v (tr.length + 1) (flat6 tr ++ [.int .i64 op, .int .i64 d, .int .i64 a, .int .i64 b, .int .i64 c, .int .u64 n]) ∧ (v.ownBlock = tv.ownBlock ∨ ∃ bb, v.ownBlock = some bb ∧ w4.heap.size ≤ bb), none, none⟩ : RgX.Rl)) (RgX.one_plain (by rfl) (by (intro ax wx hk Kx hK; obtain ⟨v26, k26, h26⟩ := hk.dep 0 4 26 _ rfl rfl rfl; (first | (replace h26 := h26 9 undef rfl rfl; first | (cases (h26 : v26 = _)) | (obtain ⟨rfl, h26⟩ := h26) | skip) | skip); obtain ⟨v28, k28, h28⟩ := hk.dep 0 6 28 _ rfl rfl rfl; (first | (replace h28 := h28 9 undef rfl rfl; first | (cases (h28 : v28 = _)) | (obtain ⟨rfl, h28⟩ := h28) | skip) | skip); have hL := hk.fact 0 0 _ rfl rfl; (try dsimp only at hL); have hm := hk.fact 1 1 _ rfl rfl; (try dsimp only at hm); have ht := hk.fact 2 0 _ rfl rfl; (try dsimp only at ht); clear hk; (obtain ⟨kk, rfl, hk0, hk1⟩ := h28; refine wp_appRowX (.tmp 26) (.tmp 28) 22 rfl 0 35 _ 6 48 Try.underlying22 infoIns rfl (by decide) tv _ tr.length 1 (flat6 tr) [.int .i64 op, .int .i64 d, .int .i64 a, .int .i64 b, .int .i64 c, .int .u64 n] ht (src_at hk1 1) (by simp [Act.eval, k26]) (by simp [Act.eval, k28]) rfl (by simp [Value.oneCell']) (by have := HTR.out; omega) (by decide) (Nat.zero_le _) ?_; intro v' w' ho hg hbk; exact hK _ _ (fun h => by cases h) (fun u _ => ⟨ho, hbk.elim .inl (fun e => .inr ⟨_, e, hL.2.2.2.2.size⟩)⟩) hg)))) ?_ rfl (RgX.keep_r (fun _ _ _ _ h hb => ⟨own_below h.1 hb, h.2⟩) (fun _ _ => ⟨fun h _ _ _ => absurd rfl h, fun _ _ _ _ => (fun w5 w6 h he => by obtain ⟨v, rfl⟩ := he; exact ⟨own_setFar h.1 h.2 NE.out.2.2.2.2 NG.out.2.2.2.2 _ _, h.2⟩), trivial⟩)) (fun _ h => by cases h)
  refine RgX.build_cons (m := 9) (r := RgX.eq _) (RgX.one_plain (by rfl) (by (intro ax wx hk Kx hK; obtain ⟨v22, k22, h22⟩ := hk.dep 0 0 22 _ rfl rfl rfl; (first | (replace h22 := h22 9 undef rfl rfl; first | (cases (h22 : v22 = _)) | (obtain ⟨rfl, h22⟩ := h22) | skip) | skip); have hL := hk.fact 0 0 _ rfl rfl; (try dsimp only at hL); have hm := hk.fact 1 2 _ rfl rfl; (try dsimp only at hm); clear hk; go_simp; refine hK _ _ (fun h => by cases h) (fun _ _ => ?_) (Below.refl _ _); apply RgX.mk))) ?_ rfl RgX.keep_eq (fun _ h => by cases h)
  refine RgX.build_cons (m := 10) (r := RgX.eq _) (RgX.one_plain (by rfl) (by (intro ax wx hk Kx hK; obtain ⟨v30, k30, h30⟩ := hk.dep 0 8 30 _ rfl rfl rfl; (first | (replace h30 := h30 9 undef rfl rfl; first | (cases (h30 : v30 = _)) | (obtain ⟨rfl, h30⟩ := h30) | skip) | skip); have hL := hk.fact 0 0 _ rfl rfl; (try dsimp only at hL); have hm := hk.fact 1 1 _ rfl rfl; (try dsimp only at hm); clear hk; go_simp; refine hK _ _ (fun h => by cases h) (fun _ _ => ?_) (Below.refl _ _); apply RgX.mk))) ?_ rfl RgX.keep_eq (fun _ h => by cases h)
  refine RgX.build_cons (m := 11) (r := (⟨fun _ u w5 => AtG w5 g 57 #[.slice (some ⟨gc, 0, none⟩) k k, u], none, some 7⟩ : RgX.Rl)) (RgX.one_plain (by rfl) (by (intro ax wx hk Kx hK; obtain ⟨v29, k29, h29⟩ := hk.dep 0 7 29 _ rfl rfl rfl; (first | (replace h29 := h29 9 undef rfl rfl; first | (cases (h29 : v29 = _)) | (obtain ⟨rfl, h29⟩ := h29) | skip) | skip); obtain ⟨v31, k31, h31⟩ := hk.dep 0 9 31 _ rfl rfl rfl; (first | (replace h31 := h31 9 undef rfl rfl; first | (cases (h31 : v31 = _)) | (obtain ⟨rfl, h31⟩ := h31) | skip) | skip); have hL := hk.fact 0 0 _ rfl rfl; (try dsimp only at hL); have hm := hk.fact 1 0 _ rfl rfl; (try dsimp only at hm); clear hk; (have z0 := hm.cell 1 _ rfl; have z1 := hm.frozen 1; obtain ⟨sa, sl, sc, rfl⟩ := own_slice h29.1; go_simp; refine hK undef _ (fun _ => rfl) (fun u hu => ?_) ⟨_, rfl⟩; obtain ⟨t, ht', hu⟩ := hu; cases ht'; rw [k29] at hu; cases hu; exact hm.set 1 _)))) ?_ rfl (RgX.keep_r (fun _ _ _ _ h hb => h.below hb) (fun _ _ => ⟨fun _ _ _ h => absurd ⟨1, rfl⟩ h, fun h _ _ _ => absurd rfl h, trivial⟩)) (fun j h => by cases h; exact ⟨0, rfl⟩)
  refine RgX.build_end fun wx hj => ?_
  have hL := hj 0 _ rfl rfl
  clear hj
  refine RgX.fin_eq rfl ?_
  refine RgX.fin_eq rfl ?_
  refine RgX.fin_eq rfl ?_
  refine RgX.fin_eq rfl ?_
  refine RgX.fin_eq rfl ?_
  refine RgX.fin_eq rfl ?_
  first | refine RgX.fin_eq rfl ?_ | refine RgX.fin_any rfl fun v28 h28 => ?_
  first | refine RgX.fin_eq rfl ?_ | refine RgX.fin_any rfl fun v29 h29 => ?_
  refine RgX.fin_eq rfl ?_
  refine RgX.fin_eq rfl ?_
  refine RgX.fin_none rfl fun s10 => ?_
  refine RgX.fin_nil ?_
  simp only [List.set_cons_zero, List.set_cons_succ]
  have hm' := s10 rfl v29 ⟨29, rfl, rfl⟩
  have ho := h29 rfl undef rfl
  have hM : CtM wx g gc v29 k f (tr ++ [⟨op, d, a, b, c, n⟩]) := ⟨hm', hL.2.2.2.1, by rw [List.length_append, flat6_snoc]; exact ho.1, Q4.out.v⟩
  obtain ⟨TL, hTL⟩ : ∃ TL : List Ins, TL = tr ++ [⟨op, d, a, b, c, n⟩] := ⟨_, rfl⟩
  rw [← hTL] at hM
  have HTL := Lib.hid hTL; clear hTL
  have hO : Only (ctS g gc tv) w wx := (Only.of_below Q3.out).trans hL.2.2.2.2 (fun k hk => .inl hk)
  have hB : v29.ownBlock = tv.ownBlock ∨ ∃ b, v29.ownBlock = some b ∧ w.heap.size ≤ b := ho.2.imp id (fun ⟨b, h1, h2⟩ => ⟨b, h1, Nat.le_trans Q3.out.size h2⟩)
  have HM2 := Lib.hid hM; have HO := Lib.hid hO; have HBK := Lib.hid hB
  have l0 := hL.1; have l1 := hL.2.1
  have L0 := Lib.hid l0; have L1 := Lib.hid l1
  have c0 := l1.cell 0 _ rfl
  clear hm' ho hM hO hB l0 l1 hL s10 h29 h28
  have hNm := fun w => named_any op w
  have HNm := Lib.hid hNm; clear hNm
  go_wp2_with fail; refine ((HNm).out _).mono ?_; rintro e9 w9 ⟨rfl, hw9⟩; subst hw9; try dsimp only
  go_upto_region 11 with (fail)
  have NC : Hid (w.heap.size ≠ gc ∧ w.heap.size + 1 ≠ gc ∧ g ≠ gc ∧ v29.ownBlock ≠ some gc) := Lib.hid ⟨L0.out.ne HM2.out.c (by decide), L1.out.ne HM2.out.c (by decide), HM2.out.m.ne HM2.out.c (by decide), own_ne HM2.out.t HM2.out.c (by decide)⟩
  have VA : Hid (u64In (ldP f (isA op) a)) := Lib.hid (ld_in HM2.out.v TA.out)
  have VB : Hid (u64In (ldP f (isB op) b)) := Lib.hid (ld_in HM2.out.v TB.out)
  have VC : Hid (u64In (ldP f (isC op) c)) := Lib.hid (ld_in HM2.out.v TC.out)
  obtain ⟨wz, rfl⟩ : ∃ wz : World, wz = w9 := ⟨_, rfl⟩
  refine RgX.start (by kernel_rfl) [(27, fun w5 w6 => ∃ v, w6 = w5.setCell ⟨gc, d.toNat, none⟩ v)] [⟨fun w5 => AtG w5 w.heap.size 25 #[.pointer (some ⟨g, 0, none⟩)] ∧ AtG w5 (w.heap.size + 1) 35 #[.int .i64 op, .int .i64 d, .int .i64 a, .int .i64 b, .int .i64 c, .int .u64 n] ∧ AtG w5 g 57 #[.slice (some ⟨gc, 0, none⟩) k k, v29] ∧ w5.ownsRow 0 35 6 v29 TL.length (flat6 TL) ∧ Only (ctS g gc tv) wz w5, none⟩, ⟨fun w5 => AtG w5 gc 29 (uarr f k), some 27⟩] ⟨⟨fun _ _ h hb => ⟨h.1.below hb, h.2.1.below hb, h.2.2.1.below hb, own_below h.2.2.2.1 hb, h.2.2.2.2.trans (Only.of_below (S := ctS g gc tv) hb) (fun k hk => .inl hk)⟩, ⟨fun _ _ _ _ => (fun w5 w6 h he => by obtain ⟨v, rfl⟩ := he; exact ⟨h.1.far NC.out.1 _, h.2.1.far NC.out.2.1 _, h.2.2.1.far NC.out.2.2.1 _, own_only h.2.2.2.1 (Only.set (S := fun q => q = gc) _ _ _ _ rfl) (fun q hq e => NC.out.2.2.2 (by rw [hq, e])), h.2.2.2.2.trans (Only.set (S := ctS g gc tv) _ _ _ _ (.inr (.inl rfl))) (fun k hk => .inl hk)⟩), trivial⟩⟩, ⟨fun _ _ h hb => h.below hb, ⟨fun _ h _ _ => absurd rfl h, trivial⟩⟩, trivial⟩ (by kernel_rfl) (by kernel_rfl) ⟨⟨L0.out.drew, L1.out.drew, HM2.out.m.drew, HM2.out.t, (Only.refl _).drew⟩, HM2.out.c.drew, trivial⟩ ?_
  show RgX.Build _ _ _ _ _ _ 0 [_, _, _, _, _, _, _, _, _, _, _, _, _, _, _, _, _, _, _, _, _, _, _, _, _, _, _, _] []
  refine RgX.build_cons (m := 1) (r := RgX.eq _) (RgX.one_plain (by rfl) (by (intro ax wx hk Kx hK; have k2 := hk.base 2 _ rfl rfl; have hL := hk.fact 0 0 _ rfl rfl; (try dsimp only at hL); have hc := hk.fact 1 1 _ rfl rfl; (try dsimp only at hc); clear hk; have z0 := hL.1.cell 0 _ rfl; go_simp; refine hK _ _ (fun h => by cases h) (fun _ _ => ?_) (Below.refl _ _); apply RgX.mk))) ?_ rfl RgX.keep_eq (fun _ h => by cases h)
  refine RgX.build_cons (m := 2) (r := RgX.eq _) (RgX.one_plain (by rfl) (by (intro ax wx hk Kx hK; obtain ⟨v52, k52, h52⟩ := hk.dep 0 0 52 _ rfl rfl rfl; (first | (replace h52 := h52 9 undef rfl rfl; first | (cases (h52 : v52 = _)) | (obtain ⟨rfl, h52⟩ := h52) | skip) | skip); have hL := hk.fact 0 0 _ rfl rfl; (try dsimp only at hL); have hc := hk.fact 1 1 _ rfl rfl; (try dsimp only at hc); clear hk; go_simp; refine hK _ _ (fun h => by cases h) (fun _ _ => ?_) (Below.refl _ _); apply RgX.mk))) ?_ rfl RgX.keep_eq (fun _ h => by cases h)
  refine RgX.build_cons (m := 3) (r := RgX.eq _) (RgX.one_plain (by rfl) (by (intro ax wx hk Kx hK; obtain ⟨v53, k53, h53⟩ := hk.dep 0 1 53 _ rfl rfl rfl; (first | (replace h53 := h53 9 undef rfl rfl; first | (cases (h53 : v53 = _)) | (obtain ⟨rfl, h53⟩ := h53) | skip) | skip); have hL := hk.fact 0 0 _ rfl rfl; (try dsimp only at hL); have hc := hk.fact 1 1 _ rfl rfl; (try dsimp only at hc); clear hk; go_simp; refine hK _ _ (fun h => by cases h) (fun _ _ => ?_) (Below.refl _ _); apply RgX.mk))) ?_ rfl RgX.keep_eq (fun _ h => by cases h)
  refine RgX.build_cons (m := 4) (r := RgX.eq _) (RgX.one_plain (by rfl) (by (intro ax wx hk Kx hK; obtain ⟨v54, k54, h54⟩ := hk.dep 0 2 54 _ rfl rfl rfl; (first | (replace h54 := h54 9 undef rfl rfl; first | (cases (h54 : v54 = _)) | (obtain ⟨rfl, h54⟩ := h54) | skip) | skip); have hL := hk.fact 0 0 _ rfl rfl; (try dsimp only at hL); have hc := hk.fact 1 1 _ rfl rfl; (try dsimp only at hc); clear hk; have z0 := hL.2.2.1.cell 0 _ rfl; go_simp; refine hK _ _ (fun h => by cases h) (fun _ _ => ?_) (Below.refl _ _); apply RgX.mk))) ?_ rfl RgX.keep_eq (fun _ h => by cases h)
  refine RgX.build_cons (m := 5) (r := RgX.eq _) (RgX.one_plain (by rfl) (by (intro ax wx hk Kx hK; have k3 := hk.base 3 _ rfl rfl; have hL := hk.fact 0 0 _ rfl rfl; (try dsimp only at hL); have hc := hk.fact 1 1 _ rfl rfl; (try dsimp only at hc); clear hk; go_simp; refine hK _ _ (fun h => by cases h) (fun _ _ => ?_) (Below.refl _ _); apply RgX.mk))) ?_ rfl RgX.keep_eq (fun _ h => by cases h)
  refine RgX.build_cons (m := 6) (r := RgX.eq _) (RgX.one_plain (by rfl) (by (intro ax wx hk Kx hK; obtain ⟨v56, k56, h56⟩ := hk.dep 0 4 56 _ rfl rfl rfl; (first | (replace h56 := h56 9 undef rfl rfl; first | (cases (h56 : v56 = _)) | (obtain ⟨rfl, h56⟩ := h56) | skip) | skip); have hL := hk.fact 0 0 _ rfl rfl; (try dsimp only at hL); have hc := hk.fact 1 1 _ rfl rfl; (try dsimp only at hc); clear hk; have z0 := hL.2.1.cell 1 _ rfl; go_simp; refine hK _ _ (fun h => by cases h) (fun _ _ => ?_) (Below.refl _ _); apply RgX.mk))) ?_ rfl RgX.keep_eq (fun _ h => by cases h)
  refine RgX.build_cons (m := 7) (r := RgX.eq _) (RgX.one_plain (by rfl) (by (intro ax wx hk Kx hK; have k3 := hk.base 3 _ rfl rfl; have hL := hk.fact 0 0 _ rfl rfl; (try dsimp only at hL); have hc := hk.fact 1 1 _ rfl rfl; (try dsimp only at hc); clear hk; go_simp; refine hK _ _ (fun h => by cases h) (fun _ _ => ?_) (Below.refl _ _); apply RgX.mk))) ?_ rfl RgX.keep_eq (fun _ h => by cases h)
  refine RgX.build_cons (m := 8) (r := RgX.eq _) (RgX.one_plain (by rfl) (by (intro ax wx hk Kx hK; obtain ⟨v58, k58, h58⟩ := hk.dep 0 6 58 _ rfl rfl rfl; (first | (replace h58 := h58 9 undef rfl rfl; first | (cases (h58 : v58 = _)) | (obtain ⟨rfl, h58⟩ := h58) | skip) | skip); have hL := hk.fact 0 0 _ rfl rfl; (try dsimp only at hL); have hc := hk.fact 1 1 _ rfl rfl; (try dsimp only at hc); clear hk; have z0 := hL.2.1.cell 0 _ rfl; go_simp; refine hK _ _ (fun h => by cases h) (fun _ _ => ?_) (Below.refl _ _); apply RgX.mk))) ?_ rfl RgX.keep_eq (fun _ h => by cases h)
  refine RgX.build_cons (m := 9) (r := RgX.eq _) (RgX.one_plain (by rfl) (by (intro ax wx hk Kx hK; have k11 := hk.base 11 _ rfl rfl; have hL := hk.fact 0 0 _ rfl rfl; (try dsimp only at hL); have hc := hk.fact 1 1 _ rfl rfl; (try dsimp only at hc); clear hk; go_simp; refine hK _ _ (fun h => by cases h) (fun _ _ => ?_) (Below.refl _ _); apply RgX.mk))) ?_ rfl RgX.keep_eq (fun _ h => by cases h)
  refine RgX.build_cons (m := 10) (r := RgX.eq _) (RgX.one_plain (by rfl) (by (intro ax wx hk Kx hK; have k8 := hk.base 8 _ rfl rfl; have hL := hk.fact 0 0 _ rfl rfl; (try dsimp only at hL); have hc := hk.fact 1 1 _ rfl rfl; (try dsimp only at hc); clear hk; go_simp; refine hK _ _ (fun h => by cases h) (fun _ _ => ?_) (Below.refl _ _); apply RgX.mk))) ?_ rfl RgX.keep_eq (fun _ h => by cases h)
  refine RgX.build_cons (m := 11) (r := RgX.eq _) (RgX.one_plain (by rfl) (by (intro ax wx hk Kx hK; have k3 := hk.base 3 _ rfl rfl; have hL := hk.fact 0 0 _ rfl rfl; (try dsimp only at hL); have hc := hk.fact 1 1 _ rfl rfl; (try dsimp only at hc); clear hk; go_simp; refine hK _ _ (fun h => by cases h) (fun _ _ => ?_) (Below.refl _ _); apply RgX.mk))) ?_ rfl RgX.keep_eq (fun _ h => by cases h)
  refine RgX.build_cons (m := 12) (r := RgX.eq _) (RgX.one_plain (by rfl) (by (intro ax wx hk Kx hK; obtain ⟨v62, k62, h62⟩ := hk.dep 0 10 62 _ rfl rfl rfl; (first | (replace h62 := h62 9 undef rfl rfl; first | (cases (h62 : v62 = _)) | (obtain ⟨rfl, h62⟩ := h62) | skip) | skip); have hL := hk.fact 0 0 _ rfl rfl; (try dsimp only at hL); have hc := hk.fact 1 1 _ rfl rfl; (try dsimp only at hc); clear hk; have z0 := hL.2.1.cell 2 _ rfl; go_simp; refine hK _ _ (fun h => by cases h) (fun _ _ => ?_) (Below.refl _ _); apply RgX.mk))) ?_ rfl RgX.keep_eq (fun _ h => by cases h)
  refine RgX.build_cons (m := 13) (r := RgX.eq _) (RgX.one_plain (by rfl) (by (intro ax wx hk Kx hK; obtain ⟨v60, k60, h60⟩ := hk.dep 0 8 60 _ rfl rfl rfl; (first | (replace h60 := h60 9 undef rfl rfl; first | (cases (h60 : v60 = _)) | (obtain ⟨rfl, h60⟩ := h60) | skip) | skip); obtain ⟨v61, k61, h61⟩ := hk.dep 0 9 61 _ rfl rfl rfl; (first | (replace h61 := h61 9 undef rfl rfl; first | (cases (h61 : v61 = _)) | (obtain ⟨rfl, h61⟩ := h61) | skip) | skip); obtain ⟨v63, k63, h63⟩ := hk.dep 0 11 63 _ rfl rfl rfl; (first | (replace h63 := h63 9 undef rfl rfl; first | (cases (h63 : v63 = _)) | (obtain ⟨rfl, h63⟩ := h63) | skip) | skip); have hL := hk.fact 0 0 _ rfl rfl; (try dsimp only at hL); have hc := hk.fact 1 1 _ rfl rfl; (try dsimp only at hc); clear hk; go_simp; refine (load_any f (isA op) a k w.heap.size g gc v29 _ hL.1 hL.2.2.1 hc TA.out HKK.out).mono ?_; rintro e w' ⟨rfl, hb⟩; refine hK _ _ (fun h => by cases h) (fun _ _ => ?_) hb; apply RgX.mk))) ?_ rfl RgX.keep_eq (fun _ h => by cases h)
  refine RgX.build_cons (m := 14) (r := RgX.eq _) (RgX.one_plain (by rfl) (by (intro ax wx hk Kx hK; have k11 := hk.base 11 _ rfl rfl; have hL := hk.fact 0 0 _ rfl rfl; (try dsimp only at hL); have hc := hk.fact 1 1 _ rfl rfl; (try dsimp only at hc); clear hk; go_simp; refine hK _ _ (fun h => by cases h) (fun _ _ => ?_) (Below.refl _ _); apply RgX.mk))) ?_ rfl RgX.keep_eq (fun _ h => by cases h)
  refine RgX.build_cons (m := 15) (r := RgX.eq _) (RgX.one_plain (by rfl) (by (intro ax wx hk Kx hK; have k9 := hk.base 9 _ rfl rfl; have hL := hk.fact 0 0 _ rfl rfl; (try dsimp only at hL); have hc := hk.fact 1 1 _ rfl rfl; (try dsimp only at hc); clear hk; go_simp; refine hK _ _ (fun h => by cases h) (fun _ _ => ?_) (Below.refl _ _); apply RgX.mk))) ?_ rfl RgX.keep_eq (fun _ h => by cases h)
  refine RgX.build_cons (m := 16) (r := RgX.eq _) (RgX.one_plain (by rfl) (by (intro ax wx hk Kx hK; have k3 := hk.base 3 _ rfl rfl; have hL := hk.fact 0 0 _ rfl rfl; (try dsimp only at hL); have hc := hk.fact 1 1 _ rfl rfl; (try dsimp only at hc); clear hk; go_simp; refine hK _ _ (fun h => by cases h) (fun _ _ => ?_) (Below.refl _ _); apply RgX.mk))) ?_ rfl RgX.keep_eq (fun _ h => by cases h)
  refine RgX.build_cons (m := 17) (r := RgX.eq _) (RgX.one_plain (by rfl) (by (intro ax wx hk Kx hK; obtain ⟨v67, k67, h67⟩ := hk.dep 0 15 67 _ rfl rfl rfl; (first | (replace h67 := h67 9 undef rfl rfl; first | (cases (h67 : v67 = _)) | (obtain ⟨rfl, h67⟩ := h67) | skip) | skip); have hL := hk.fact 0 0 _ rfl rfl; (try dsimp only at hL); have hc := hk.fact 1 1 _ rfl rfl; (try dsimp only at hc); clear hk; have z0 := hL.2.1.cell 3 _ rfl; go_simp; refine hK _ _ (fun h => by cases h) (fun _ _ => ?_) (Below.refl _ _); apply RgX.mk))) ?_ rfl RgX.keep_eq (fun _ h => by cases h)
  refine RgX.build_cons (m := 18) (r := RgX.eq _) (RgX.one_plain (by rfl) (by (intro ax wx hk Kx hK; obtain ⟨v65, k65, h65⟩ := hk.dep 0 13 65 _ rfl rfl rfl; (first | (replace h65 := h65 9 undef rfl rfl; first | (cases (h65 : v65 = _)) | (obtain ⟨rfl, h65⟩ := h65) | skip) | skip); obtain ⟨v66, k66, h66⟩ := hk.dep 0 14 66 _ rfl rfl rfl; (first | (replace h66 := h66 9 undef rfl rfl; first | (cases (h66 : v66 = _)) | (obtain ⟨rfl, h66⟩ := h66) | skip) | skip); obtain ⟨v68, k68, h68⟩ := hk.dep 0 16 68 _ rfl rfl rfl; (first | (replace h68 := h68 9 undef rfl rfl; first | (cases (h68 : v68 = _)) | (obtain ⟨rfl, h68⟩ := h68) | skip) | skip); have hL := hk.fact 0 0 _ rfl rfl; (try dsimp only at hL); have hc := hk.fact 1 1 _ rfl rfl; (try dsimp only at hc); clear hk; go_simp; refine (load_any f (isB op) b k w.heap.size g gc v29 _ hL.1 hL.2.2.1 hc TB.out HKK.out).mono ?_; rintro e w' ⟨rfl, hb⟩; refine hK _ _ (fun h => by cases h) (fun _ _ => ?_) hb; apply RgX.mk))) ?_ rfl RgX.keep_eq (fun _ h => by cases h)
  refine RgX.build_cons (m := 19) (r := RgX.eq _) (RgX.one_plain (by rfl) (by (intro ax wx hk Kx hK; have k11 := hk.base 11 _ rfl rfl; have hL := hk.fact 0 0 _ rfl rfl; (try dsimp only at hL); have hc := hk.fact 1 1 _ rfl rfl; (try dsimp only at hc); clear hk; go_simp; refine hK _ _ (fun h => by cases h) (fun _ _ => ?_) (Below.refl _ _); apply RgX.mk))) ?_ rfl RgX.keep_eq (fun _ h => by cases h)
  refine RgX.build_cons (m := 20) (r := RgX.eq _) (RgX.one_plain (by rfl) (by (intro ax wx hk Kx hK; have k10 := hk.base 10 _ rfl rfl; have hL := hk.fact 0 0 _ rfl rfl; (try dsimp only at hL); have hc := hk.fact 1 1 _ rfl rfl; (try dsimp only at hc); clear hk; go_simp; refine hK _ _ (fun h => by cases h) (fun _ _ => ?_) (Below.refl _ _); apply RgX.mk))) ?_ rfl RgX.keep_eq (fun _ h => by cases h)
  refine RgX.build_cons (m := 21) (r := RgX.eq _) (RgX.one_plain (by rfl) (by (intro ax wx hk Kx hK; have k3 := hk.base 3 _ rfl rfl; have hL := hk.fact 0 0 _ rfl rfl; (try dsimp only at hL); have hc := hk.fact 1 1 _ rfl rfl; (try dsimp only at hc); clear hk; go_simp; refine hK _ _ (fun h => by cases h) (fun _ _ => ?_) (Below.refl _ _); apply RgX.mk))) ?_ rfl RgX.keep_eq (fun _ h => by cases h)
  refine RgX.build_cons (m := 22) (r := RgX.eq _) (RgX.one_plain (by rfl) (by (intro ax wx hk Kx hK; obtain ⟨v72, k72, h72⟩ := hk.dep 0 20 72 _ rfl rfl rfl; (first | (replace h72 := h72 9 undef rfl rfl; first | (cases (h72 : v72 = _)) | (obtain ⟨rfl, h72⟩ := h72) | skip) | skip); have hL := hk.fact 0 0 _ rfl rfl; (try dsimp only at hL); have hc := hk.fact 1 1 _ rfl rfl; (try dsimp only at hc); clear hk; have z0 := hL.2.1.cell 4 _ rfl; go_simp; refine hK _ _ (fun h => by cases h) (fun _ _ => ?_) (Below.refl _ _); apply RgX.mk))) ?_ rfl RgX.keep_eq (fun _ h => by cases h)
  refine RgX.build_cons (m := 23) (r := RgX.eq _) (RgX.one_plain (by rfl) (by (intro ax wx hk Kx hK; obtain ⟨v70, k70, h70⟩ := hk.dep 0 18 70 _ rfl rfl rfl; (first | (replace h70 := h70 9 undef rfl rfl; first | (cases (h70 : v70 = _)) | (obtain ⟨rfl, h70⟩ := h70) | skip) | skip); obtain ⟨v71, k71, h71⟩ := hk.dep 0 19 71 _ rfl rfl rfl; (first | (replace h71 := h71 9 undef rfl rfl; first | (cases (h71 : v71 = _)) | (obtain ⟨rfl, h71⟩ := h71) | skip) | skip); obtain ⟨v73, k73, h73⟩ := hk.dep 0 21 73 _ rfl rfl rfl; (first | (replace h73 := h73 9 undef rfl rfl; first | (cases (h73 : v73 = _)) | (obtain ⟨rfl, h73⟩ := h73) | skip) | skip); have hL := hk.fact 0 0 _ rfl rfl; (try dsimp only at hL); have hc := hk.fact 1 1 _ rfl rfl; (try dsimp only at hc); clear hk; go_simp; refine (load_any f (isC op) c k w.heap.size g gc v29 _ hL.1 hL.2.2.1 hc TC.out HKK.out).mono ?_; rintro e w' ⟨rfl, hb⟩; refine hK _ _ (fun h => by cases h) (fun _ _ => ?_) hb; apply RgX.mk))) ?_ rfl RgX.keep_eq (fun _ h => by cases h)
  refine RgX.build_cons (m := 24) (r := RgX.eq _) (RgX.one_plain (by rfl) (by (intro ax wx hk Kx hK; have k3 := hk.base 3 _ rfl rfl; have hL := hk.fact 0 0 _ rfl rfl; (try dsimp only at hL); have hc := hk.fact 1 1 _ rfl rfl; (try dsimp only at hc); clear hk; go_simp; refine hK _ _ (fun h => by cases h) (fun _ _ => ?_) (Below.refl _ _); apply RgX.mk))) ?_ rfl RgX.keep_eq (fun _ h => by cases h)
  refine RgX.build_cons (m := 25) (r := RgX.eq _) (RgX.one_plain (by rfl) (by (intro ax wx hk Kx hK; obtain ⟨v75, k75, h75⟩ := hk.dep 0 23 75 _ rfl rfl rfl; (first | (replace h75 := h75 9 undef rfl rfl; first | (cases (h75 : v75 = _)) | (obtain ⟨rfl, h75⟩ := h75) | skip) | skip); have hL := hk.fact 0 0 _ rfl rfl; (try dsimp only at hL); have hc := hk.fact 1 1 _ rfl rfl; (try dsimp only at hc); clear hk; have z0 := hL.2.1.cell 5 _ rfl; go_simp; refine hK _ _ (fun h => by cases h) (fun _ _ => ?_) (Below.refl _ _); apply RgX.mk))) ?_ rfl RgX.keep_eq (fun _ h => by cases h)
  refine RgX.build_cons (m := 26) (r := RgX.eq _) (RgX.one_plain (by rfl) (by (intro ax wx hk Kx hK; obtain ⟨v59, k59, h59⟩ := hk.dep 0 7 59 _ rfl rfl rfl; (first | (replace h59 := h59 9 undef rfl rfl; first | (cases (h59 : v59 = _)) | (obtain ⟨rfl, h59⟩ := h59) | skip) | skip); obtain ⟨v64, k64, h64⟩ := hk.dep 0 12 64 _ rfl rfl rfl; (first | (replace h64 := h64 9 undef rfl rfl; first | (cases (h64 : v64 = _)) | (obtain ⟨rfl, h64⟩ := h64) | skip) | skip); obtain ⟨v69, k69, h69⟩ := hk.dep 0 17 69 _ rfl rfl rfl; (first | (replace h69 := h69 9 undef rfl rfl; first | (cases (h69 : v69 = _)) | (obtain ⟨rfl, h69⟩ := h69) | skip) | skip); obtain ⟨v74, k74, h74⟩ := hk.dep 0 22 74 _ rfl rfl rfl; (first | (replace h74 := h74 9 undef rfl rfl; first | (cases (h74 : v74 = _)) | (obtain ⟨rfl, h74⟩ := h74) | skip) | skip); obtain ⟨v76, k76, h76⟩ := hk.dep 0 24 76 _ rfl rfl rfl; (first | (replace h76 := h76 9 undef rfl rfl; first | (cases (h76 : v76 = _)) | (obtain ⟨rfl, h76⟩ := h76) | skip) | skip); have hL := hk.fact 0 0 _ rfl rfl; (try dsimp only at hL); have hc := hk.fact 1 1 _ rfl rfl; (try dsimp only at hc); clear hk; go_simp; refine (value_below op _ _ _ n _ VA.out VB.out VC.out HN.out HS.out).mono ?_; rintro e w' ⟨rfl, hb⟩; refine hK _ _ (fun h => by cases h) (fun _ _ => ?_) hb; apply RgX.mk))) ?_ rfl RgX.keep_eq (fun _ h => by cases h)
  refine RgX.build_cons (m := 27) (r := RgX.eq _) (RgX.one_plain (by rfl) (by (intro ax wx hk Kx hK; obtain ⟨v55, k55, h55⟩ := hk.dep 0 3 55 _ rfl rfl rfl; (first | (replace h55 := h55 9 undef rfl rfl; first | (cases (h55 : v55 = _)) | (obtain ⟨rfl, h55⟩ := h55) | skip) | skip); obtain ⟨v57, k57, h57⟩ := hk.dep 0 5 57 _ rfl rfl rfl; (first | (replace h57 := h57 9 undef rfl rfl; first | (cases (h57 : v57 = _)) | (obtain ⟨rfl, h57⟩ := h57) | skip) | skip); have hL := hk.fact 0 0 _ rfl rfl; (try dsimp only at hL); have hc := hk.fact 1 1 _ rfl rfl; (try dsimp only at hc); clear hk; go_simp; refine hK _ _ (fun h => by cases h) (fun _ _ => ?_) (Below.refl _ _); apply RgX.mk))) ?_ rfl RgX.keep_eq (fun _ h => by cases h)
  refine RgX.build_cons (m := 28) (r := (⟨fun _ _ w5 => AtG w5 gc 29 (uarr (upd f d.toNat (valP op (ldP f (isA op) a) (ldP f (isB op) b) (ldP f (isC op) c) n)) k), none, none⟩ : RgX.Rl)) (RgX.one_plain (by rfl) (by (intro ax wx hk Kx hK; obtain ⟨v77, k77, h77⟩ := hk.dep 0 25 77 _ rfl rfl rfl; (first | (replace h77 := h77 9 undef rfl rfl; first | (cases (h77 : v77 = _)) | (obtain ⟨rfl, h77⟩ := h77) | skip) | skip); obtain ⟨v78, k78, h78⟩ := hk.dep 0 26 78 _ rfl rfl rfl; (first | (replace h78 := h78 9 undef rfl rfl; first | (cases (h78 : v78 = _)) | (obtain ⟨rfl, h78⟩ := h78) | skip) | skip); have hL := hk.fact 0 0 _ rfl rfl; (try dsimp only at hL); have hc := hk.fact 1 0 _ rfl rfl; (try dsimp only at hc); clear hk; (have z0 := hc.cell d.toNat _ (uarr_get f k _ HD.out); have z1 := hc.frozen d.toNat; go_simp; refine hK undef _ (fun _ => rfl) (fun u hu => ?_) ⟨_, rfl⟩; have z2 := hc.set d.toNat (.int .u64 (valP op (ldP f (isA op) a) (ldP f (isB op) b) (ldP f (isC op) c) n)); rw [uarr_set] at z2; exact z2)))) ?_ rfl (RgX.keep_r (fun _ _ _ _ h hb => h.below hb) (fun _ _ => ⟨fun h _ _ _ => absurd rfl h, trivial⟩)) (fun _ h => by cases h)
  refine RgX.build_end fun wx hj => ?_
  have hL := hj 0 _ rfl rfl
  clear hj
  refine RgX.fin_eq rfl ?_
  refine RgX.fin_eq rfl ?_
  refine RgX.fin_eq rfl ?_
  refine RgX.fin_eq rfl ?_
  refine RgX.fin_eq rfl ?_
  refine RgX.fin_eq rfl ?_
  refine RgX.fin_eq rfl ?_
  refine RgX.fin_eq rfl ?_
  refine RgX.fin_eq rfl ?_
  refine RgX.fin_eq rfl ?_
  refine RgX.fin_eq rfl ?_
  refine RgX.fin_eq rfl ?_
  refine RgX.fin_eq rfl ?_
  refine RgX.fin_eq rfl ?_
  refine RgX.fin_eq rfl ?_
  refine RgX.fin_eq rfl ?_
  refine RgX.fin_eq rfl ?_
  refine RgX.fin_eq rfl ?_
  refine RgX.fin_eq rfl ?_
  refine RgX.fin_eq rfl ?_
  refine RgX.fin_eq rfl ?_
  refine RgX.fin_eq rfl ?_
  refine RgX.fin_eq rfl ?_
  refine RgX.fin_eq rfl ?_
  refine RgX.fin_eq rfl ?_
  refine RgX.fin_eq rfl ?_
  refine RgX.fin_eq rfl ?_
  refine RgX.fin_none rfl fun s27 => ?_
  refine RgX.fin_nil ?_
  simp only [List.set_cons_zero, List.set_cons_succ]
  have hc' := s27 rfl undef rfl
  have hf : CtM wx g gc v29 k (upd f d.toNat (valP op (ldP f (isA op) a) (ldP f (isB op) b) (ldP f (isC op) c) n)) TL := ⟨hL.2.2.1, hc', hL.2.2.2.1, upd_in HM2.out.v (valP_in op _ _ _ n VA.out VB.out VC.out HN.out)⟩
  have HF := Lib.hid hf
  have HO2 := Lib.hid (HO.out.trans hL.2.2.2.2 (fun k hk => .inl hk))
  clear hL hc' hf s27
  go_wp2_with fail
  go_returns
  refine ⟨v29, ?_, ?_, HO2.out, HBK.out⟩
  · have e : outP f ⟨op, d, a, b, c, n⟩ = 0 := by unfold outP; rw [if_neg H11.out]
    rw [e]; rfl
  · have e1 : nextF f ⟨op, d, a, b, c, n⟩ = upd f d.toNat (valP op (ldP f (isA op) a) (ldP f (isB op) b) (ldP f (isC op) c) n) := by unfold nextF newV; rw [if_neg H11.out]
    have e2 : Ins.seen ⟨op, d, a, b, c, n⟩ = ⟨op, d, a, b, c, n⟩ := by unfold Ins.seen; rw [if_neg H10.out]
    rw [e1, e2, ← HTL.out]
    exact HF.out
end Go.Proofs.Ytpikoijohfmnaaa
