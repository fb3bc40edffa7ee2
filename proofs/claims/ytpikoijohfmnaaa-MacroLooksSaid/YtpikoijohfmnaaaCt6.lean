/- The walk of Do: Emit. -/
import Derived.Test.YtpikoijohfmnaaaCt5
set_option linter.unusedVariables false
set_option linter.unusedSimpArgs false
namespace Go.Proofs.Ytpikoijohfmnaaa
open Go.RowKit
set_option maxRecDepth 100000 in
set_option maxHeartbeats 4000000 in
theorem do_emit (d a b c n : Int) (g gc k : Nat) (tv : Value) (f : Nat → Int) (tr : List Ins) (w : World) (h : CtM w g gc tv k f tr) (hm : mayP k ⟨11, d, a, b, c, n⟩ = true) (htr : tr.length ≤ 1000000000000) (hk : k ≤ 200000) :
    Calls Try.prog 10 #[.pointer (some ⟨g, 0, none⟩), Ins.val ⟨11, d, a, b, c, n⟩] w (DoPost g gc k tv f tr ⟨11, d, a, b, c, n⟩ w) := by
  obtain ⟨a0, a1⟩ := thereP_in (mayP_in hm).2.2.1
  have HA : Hid (a.toNat < k) := Lib.hid (by omega)
  have hkI : (k : Int) ≤ 200000 := by omega
  have H := Lib.hid h; have HM := Lib.hid hm; have HTR := Lib.hid htr; have HKK := Lib.hid hk; clear h hm htr hk
  unfold Ins.val Ins.cells
  dsimp only
  go_enter Try.func10, Try.ntmps10
  go_upto_region 1 with (fail)
  have f0 : AtG ((w.alloc (.cells #[.pointer (some ⟨g, 0, none⟩)] 25)).alloc (.cells #[.int .i64 11, .int .i64 d, .int .i64 a, .int .i64 b, .int .i64 c, .int .u64 n] 35)) w.heap.size 25 #[.pointer (some ⟨g, 0, none⟩)] := (AtG.new _ _ _).alloc _
  have f1 : AtG ((w.alloc (.cells #[.pointer (some ⟨g, 0, none⟩)] 25)).alloc (.cells #[.int .i64 11, .int .i64 d, .int .i64 a, .int .i64 b, .int .i64 c, .int .u64 n] 35)) (w.heap.size + 1) 35 #[.int .i64 11, .int .i64 d, .int .i64 a, .int .i64 b, .int .i64 c, .int .u64 n] := by
    have := AtG.new (w.alloc (.cells #[.pointer (some ⟨g, 0, none⟩)] 25)) 35 #[.int .i64 11, .int .i64 d, .int .i64 a, .int .i64 b, .int .i64 c, .int .u64 n]
    simpa using this
  have f2 : Below w.heap.size w ((w.alloc (.cells #[.pointer (some ⟨g, 0, none⟩)] 25)).alloc (.cells #[.int .i64 11, .int .i64 d, .int .i64 a, .int .i64 b, .int .i64 c, .int .u64 n] 35)) := by go_grown
  generalize (w.alloc (.cells #[.pointer (some ⟨g, 0, none⟩)] 25)).alloc (.cells #[.int .i64 11, .int .i64 d, .int .i64 a, .int .i64 b, .int .i64 c, .int .u64 n] 35) = w2 at f0 f1 f2 ⊢
  have m0 := f0.cell 0 _ rfl
  have c0 := f1.cell 0 _ rfl
  have c1 := f1.cell 1 _ rfl
  have c2 := f1.cell 2 _ rfl
  have c3 := f1.cell 3 _ rfl
  have c4 := f1.cell 4 _ rfl
  have c5 := f1.cell 5 _ rfl
  have F0 := Lib.hid f0; have F1 := Lib.hid f1; have F2 := Lib.hid f2
  clear f0 f1 f2
  go_wp2_with fail
  refine (may_any ⟨11, d, a, b, c, n⟩ g gc k tv f tr w2 (H.out.below F2.out)).mono ?_
  rw [HM.out]
  rintro e9 w3 ⟨rfl, hb⟩
  have g0 := F0.out.below hb
  have g1 := F1.out.below hb
  have g2 := F2.out.trans (hb.mono F2.out.size)
  clear m0 c0 c1 c2 c3 c4 c5 F0 F1 F2 hb
  have m0 := g0.cell 0 _ rfl
  have c0 := g1.cell 0 _ rfl
  have c1 := g1.cell 1 _ rfl
  have c2 := g1.cell 2 _ rfl
  have c3 := g1.cell 3 _ rfl
  have c4 := g1.cell 4 _ rfl
  have c5 := g1.cell 5 _ rfl
  have hz := g1.lt
  have hz0 : w.heap.size < w3.heap.size := g0.lt
  have G0 := Lib.hid g0; have G1 := Lib.hid g1; have G2 := Lib.hid g2
  clear g0 g1 g2
  go_upto_region 6 with (fail)
  have q0 : AtG (w3.alloc (.cells #[.int .i64 11, .int .i64 d, .int .i64 a, .int .i64 b, .int .i64 c, .int .u64 n] 35)) w.heap.size 25 #[.pointer (some ⟨g, 0, none⟩)] := G0.out.alloc _
  have q1 : AtG (w3.alloc (.cells #[.int .i64 11, .int .i64 d, .int .i64 a, .int .i64 b, .int .i64 c, .int .u64 n] 35)) (w.heap.size + 1) 35 #[.int .i64 11, .int .i64 d, .int .i64 a, .int .i64 b, .int .i64 c, .int .u64 n] := G1.out.alloc _
  have q2 : AtG (w3.alloc (.cells #[.int .i64 11, .int .i64 d, .int .i64 a, .int .i64 b, .int .i64 c, .int .u64 n] 35)) w3.heap.size 35 #[.int .i64 11, .int .i64 d, .int .i64 a, .int .i64 b, .int .i64 c, .int .u64 n] := AtG.new _ _ _
  have q3 : Below w.heap.size w (w3.alloc (.cells #[.int .i64 11, .int .i64 d, .int .i64 a, .int .i64 b, .int .i64 c, .int .u64 n] 35)) := G2.out.alloc G2.out.size _
  have q4 : CtM (w3.alloc (.cells #[.int .i64 11, .int .i64 d, .int .i64 a, .int .i64 b, .int .i64 c, .int .u64 n] 35)) g gc tv k f tr := H.out.below q3
  have q5 := H.out.lt
  generalize w3.alloc (.cells #[.int .i64 11, .int .i64 d, .int .i64 a, .int .i64 b, .int .i64 c, .int .u64 n] 35) = w4 at q0 q1 q2 q3 q4 ⊢
  have NE : Hid (tv.ownBlock ≠ some w.heap.size ∧ tv.ownBlock ≠ some (w.heap.size + 1) ∧ tv.ownBlock ≠ some w3.heap.size ∧ tv.ownBlock ≠ some gc ∧ tv.ownBlock ≠ some g) :=
    Lib.hid ⟨fun e => by have := q5 _ (.inr (.inr e)); omega, fun e => by have := q5 _ (.inr (.inr e)); omega, fun e => by have := q5 _ (.inr (.inr e)); omega, own_ne q4.t q4.c (by decide), own_ne q4.t q4.m (by decide)⟩
  have NG : Hid (w.heap.size ≠ g ∧ w.heap.size + 1 ≠ g ∧ w3.heap.size ≠ g ∧ gc ≠ g ∧ g < w4.heap.size) :=
    Lib.hid ⟨fun e => by have := q5 g (.inl rfl); omega, fun e => by have := q5 g (.inl rfl); omega, fun e => by have := q5 g (.inl rfl); omega, q4.c.ne q4.m (by decide), q4.m.lt⟩
  have Q0 := Lib.hid q0; have Q1 := Lib.hid q1; have Q2 := Lib.hid q2; have Q3 := Lib.hid q3; have Q4 := Lib.hid q4; have Q5 := Lib.hid q5
  clear q0 q1 q2 q3 q4 q5 m0 c0 c1 c2 c3 c4 c5 G0 G1 G2 hz hz0
  refine RgX.start (by kernel_rfl) [(7, fun w5 w6 => w5.grownBy w6 tv.ownBlock), (10, fun w5 w6 => ∃ v, w6 = w5.setCell ⟨g, 1, none⟩ v)] [⟨fun w5 => AtG w5 w.heap.size 25 #[.pointer (some ⟨g, 0, none⟩)] ∧ AtG w5 (w.heap.size + 1) 35 #[.int .i64 11, .int .i64 d, .int .i64 a, .int .i64 b, .int .i64 c, .int .u64 n] ∧ AtG w5 w3.heap.size 35 #[.int .i64 11, .int .i64 d, .int .i64 a, .int .i64 b, .int .i64 c, .int .u64 n] ∧ AtG w5 gc 29 (uarr f k) ∧ Only (ctS g gc tv) w4 w5, none⟩, ⟨fun w5 => AtG w5 g 57 #[.slice (some ⟨gc, 0, none⟩) k k, tv], some 10⟩, ⟨fun w5 => w5.ownsRow 0 35 6 tv tr.length (flat6 tr), some 7⟩] ⟨⟨fun _ _ h hb => ⟨h.1.below hb, h.2.1.below hb, h.2.2.1.below hb, h.2.2.2.1.below hb, h.2.2.2.2.trans (Only.of_below (S := ctS g gc tv) hb) (fun k hk => .inl hk)⟩, ⟨fun _ _ _ _ => (fun w5 w6 h he => ⟨h.1.grown he NE.out.1, h.2.1.grown he NE.out.2.1, h.2.2.1.grown he NE.out.2.2.1, h.2.2.2.1.grown he NE.out.2.2.2.1, h.2.2.2.2.trans (Only.of_grown (S := ctS g gc tv) he (fun k hk => .inr (.inr hk))) (fun k hk => .inl hk)⟩), fun _ _ _ _ => (fun w5 w6 h he => by obtain ⟨v, rfl⟩ := he; exact ⟨h.1.far NG.out.1 _, h.2.1.far NG.out.2.1 _, h.2.2.1.far NG.out.2.2.1 _, h.2.2.2.1.far NG.out.2.2.2.1 _, h.2.2.2.2.trans (Only.set (S := ctS g gc tv) _ _ _ _ (.inl rfl)) (fun k hk => .inl hk)⟩), trivial⟩⟩, ⟨fun _ _ h hb => h.below hb, ⟨fun _ _ _ _ => (fun w5 w6 h he => h.grown he NE.out.2.2.2.2), fun _ h _ _ => absurd rfl h, trivial⟩⟩, ⟨fun _ _ h hb => own_below h hb, ⟨fun _ h _ _ => absurd rfl h, fun _ _ h _ => absurd ⟨7, 1, rfl, rfl⟩ h, trivial⟩⟩, trivial⟩ (by kernel_rfl) (by kernel_rfl) ⟨⟨Q0.out.drew, Q1.out.drew, Q2.out.drew, Q4.out.c.drew, (Only.refl _).drew⟩, Q4.out.m.drew, Q4.out.t, trivial⟩ ?_
  show RgX.Build _ _ _ _ _ _ 0 [_, _, _, _, _, _, _, _, _, _, _] []
  refine RgX.build_cons (m := 1) (r := RgX.eq _) (RgX.one_plain (by rfl) (by (intro ax wx hk Kx hK; have k2 := hk.base 2 _ rfl rfl; have hL := hk.fact 0 0 _ rfl rfl; (try dsimp only at hL); have hm := hk.fact 1 1 _ rfl rfl; (try dsimp only at hm); clear hk; have z0 := hL.1.cell 0 _ rfl; go_simp; refine hK _ _ (fun h => by cases h) (fun _ _ => ?_) (Below.refl _ _); apply RgX.mk))) ?_ rfl RgX.keep_eq (fun _ h => by cases h)
  refine RgX.build_cons (m := 2) (r := RgX.eq _) (RgX.one_plain (by rfl) (by (intro ax wx hk Kx hK; have k2 := hk.base 2 _ rfl rfl; have hL := hk.fact 0 0 _ rfl rfl; (try dsimp only at hL); have hm := hk.fact 1 1 _ rfl rfl; (try dsimp only at hm); have ht := hk.fact 2 4 _ rfl rfl; (try dsimp only at ht); clear hk; have z0 := hL.1.cell 0 _ rfl; go_simp; refine hK _ _ (fun h => by cases h) (fun _ _ => ?_) (Below.refl _ _); apply RgX.mk))) ?_ rfl RgX.keep_eq (fun _ h => by cases h)
  refine RgX.build_cons (m := 3) (r := RgX.eq _) (RgX.one_plain (by rfl) (by (intro ax wx hk Kx hK; obtain ⟨v23, k23, h23⟩ := hk.dep 0 1 23 _ rfl rfl rfl; (first | (replace h23 := h23 9 undef rfl rfl; first | (cases (h23 : v23 = _)) | (obtain ⟨rfl, h23⟩ := h23) | skip) | skip); have hL := hk.fact 0 0 _ rfl rfl; (try dsimp only at hL); have hm := hk.fact 1 1 _ rfl rfl; (try dsimp only at hm); have ht := hk.fact 2 3 _ rfl rfl; (try dsimp only at ht); clear hk; go_simp; refine hK _ _ (fun h => by cases h) (fun _ _ => ?_) (Below.refl _ _); apply RgX.mk))) ?_ rfl RgX.keep_eq (fun _ h => by cases h)
  refine RgX.build_cons (m := 4) (r := RgX.eq _) (RgX.one_plain (by rfl) (by (intro ax wx hk Kx hK; obtain ⟨v24, k24, h24⟩ := hk.dep 0 2 24 _ rfl rfl rfl; (first | (replace h24 := h24 9 undef rfl rfl; first | (cases (h24 : v24 = _)) | (obtain ⟨rfl, h24⟩ := h24) | skip) | skip); have hL := hk.fact 0 0 _ rfl rfl; (try dsimp only at hL); have hm := hk.fact 1 1 _ rfl rfl; (try dsimp only at hm); have ht := hk.fact 2 2 _ rfl rfl; (try dsimp only at ht); clear hk; go_simp; refine hK _ _ (fun h => by cases h) (fun _ _ => ?_) (Below.refl _ _); apply RgX.mk))) ?_ rfl RgX.keep_eq (fun _ h => by cases h)
  refine RgX.build_cons (m := 5) (r := RgX.eq _) (RgX.one_plain (by rfl) (by (intro ax wx hk Kx hK; obtain ⟨v25, k25, h25⟩ := hk.dep 0 3 25 _ rfl rfl rfl; (first | (replace h25 := h25 9 undef rfl rfl; first | (cases (h25 : v25 = _)) | (obtain ⟨rfl, h25⟩ := h25) | skip) | skip); have hL := hk.fact 0 0 _ rfl rfl; (try dsimp only at hL); have hm := hk.fact 1 1 _ rfl rfl; (try dsimp only at hm); have ht := hk.fact 2 1 _ rfl rfl; (try dsimp only at ht); clear hk; have z0 := hm.cell 1 _ rfl; go_simp; refine hK _ _ (fun h => by cases h) (fun _ _ => ?_) (Below.refl _ _); apply RgX.mk))) ?_ rfl RgX.keep_eq (fun _ h => by cases h)
  refine RgX.build_cons (m := 6) (r := RgX.eq _) (RgX.one_plain (by rfl) (by (intro ax wx hk Kx hK; have k6 := hk.base 6 _ rfl rfl; have hL := hk.fact 0 0 _ rfl rfl; (try dsimp only at hL); have hm := hk.fact 1 1 _ rfl rfl; (try dsimp only at hm); have ht := hk.fact 2 2 _ rfl rfl; (try dsimp only at ht); clear hk; have z0 := hL.2.2.1.cell 0 _ rfl; have z1 := hL.2.2.1.cell 1 _ rfl; have z2 := hL.2.2.1.cell 2 _ rfl; have z3 := hL.2.2.1.cell 3 _ rfl; have z4 := hL.2.2.1.cell 4 _ rfl; have z5 := hL.2.2.1.cell 5 _ rfl; go_simp; refine hK _ _ (fun h => by cases h) (fun _ _ => ?_) (Below.refl _ _); apply RgX.mk))) ?_ rfl RgX.keep_eq (fun _ h => by cases h)
  refine RgX.build_cons (m := 7) (r := (⟨fun v _ w5 => ∃ kk, v = .slice (some ⟨kk, 0, none⟩) 1 1 ∧ w4.heap.size ≤ kk ∧ AtG w5 kk 35 #[.int .i64 11, .int .i64 d, .int .i64 a, .int .i64 b, .int .i64 c, .int .u64 n], some 7, none⟩ : RgX.Rl)) (RgX.one_plain (by rfl) (by (intro ax wx hk Kx hK; obtain ⟨v27, k27, h27⟩ := hk.dep 0 5 27 _ rfl rfl rfl; (first | (replace h27 := h27 9 undef rfl rfl; first | (cases (h27 : v27 = _)) | (obtain ⟨rfl, h27⟩ := h27) | skip) | skip); have hL := hk.fact 0 0 _ rfl rfl; (try dsimp only at hL); have hm := hk.fact 1 1 _ rfl rfl; (try dsimp only at hm); have ht := hk.fact 2 1 _ rfl rfl; (try dsimp only at ht); clear hk; (go_simp; exact hK _ _ (fun h => by cases h) (fun u _ => ⟨wx.heap.size, rfl, hL.2.2.2.2.size, AtG.new _ _ _⟩) ((Below.refl _ _).alloc (Nat.le_refl _) _))))) ?_ rfl (RgX.keep_r (fun _ _ _ _ h hb => by obtain ⟨kk, h1, h2, h3⟩ := h; exact ⟨kk, h1, h2, h3.below hb⟩) (fun _ _ => ⟨fun _ h _ _ => absurd rfl h, fun _ _ h _ => absurd ⟨7, 1, rfl, rfl⟩ h, trivial⟩)) (fun _ h => by cases h)
  refine RgX.build_cons (m := 8) (r := (⟨fun v _ w5 => w5.ownsRow 0 35 6 v (tr.length + 1) (flat6 tr ++ [.int .i64 11, .int .i64 d, .int .i64 a, .int .i64 b, .int .i64 c, .int .u64 n]) ∧ (v.ownBlock = tv.ownBlock ∨ ∃ bb, v.ownBlock = some bb ∧ w4.heap.size ≤ bb), none, none⟩ : RgX.Rl)) (RgX.one_plain (by rfl) (by (intro ax wx hk Kx hK; obtain ⟨v26, k26, h26⟩ := hk.dep 0 4 26 _ rfl rfl rfl; (first | (replace h26 := h26 9 undef rfl rfl; first | (cases (h26 : v26 = _)) | (obtain ⟨rfl, h26⟩ := h26) | skip) | skip); obtain ⟨v28, k28, h28⟩ := hk.dep 0 6 28 _ rfl rfl rfl; (first | (replace h28 := h28 9 undef rfl rfl; first | (cases (h28 : v28 = _)) | (obtain ⟨rfl, h28⟩ := h28) | skip) | skip); have hL := hk.fact 0 0 _ rfl rfl; (try dsimp only at hL); have hm := hk.fact 1 1 _ rfl rfl; (try dsimp only at hm); have ht := hk.fact 2 0 _ rfl rfl; (try dsimp only at ht); clear hk; (obtain ⟨kk, rfl, hk0, hk1⟩ := h28; refine wp_appRowX (.tmp 26) (.tmp 28) 22 rfl 0 35 _ 6 48 Try.underlying22 infoIns rfl (by decide) tv _ tr.length 1 (flat6 tr) [.int .i64 11, .int .i64 d, .int .i64 a, .int .i64 b, .int .i64 c, .int .u64 n] ht (src_at hk1 1) (by simp [Act.eval, k26]) (by simp [Act.eval, k28]) rfl (by simp [Value.oneCell']) (by have := HTR.out; omega) (by decide) (Nat.zero_le _) ?_; intro v' w' ho hg hbk; exact hK _ _ (fun h => by cases h) (fun u _ => ⟨ho, hbk.elim .inl (fun e => .inr ⟨_, e, hL.2.2.2.2.size⟩)⟩) hg)))) ?_ rfl (RgX.keep_r (fun _ _ _ _ h hb => ⟨own_below h.1 hb, h.2⟩) (fun _ _ => ⟨fun h _ _ _ => absurd rfl h, fun _ _ _ _ => (fun w5 w6 h he => by obtain ⟨v, rfl⟩ := he; exact ⟨own_setFar h.1 h.2 NE.out.2.2.2.2 NG.out.2.2.2.2 _ _, h.2⟩), trivial⟩)) (fun _ h => by cases h)
  refine RgX.build_cons (m := 9) (r := RgX.eq _) (RgX.one_plain (by rfl) (by (intro ax wx hk Kx hK; obtain ⟨v22, k22, h22⟩ := hk.dep 0 0 22 _ rfl rfl rfl; (first | (replace h22 := h22 9 undef rfl rfl; first | (cases (h22 : v22 = _)) | (obtain ⟨rfl, h22⟩ := h22) | skip) | skip); have hL := hk.fact 0 0 _ rfl rfl; (try dsimp only at hL); have hm := hk.fact 1 2 _ rfl rfl; (try dsimp only at hm); clear hk; go_simp; refine hK _ _ (fun h => by cases h) (fun _ _ => ?_) (Below.refl _ _); apply RgX.mk))) ?_ rfl RgX.keep_eq (fun _ h => by cases h)
  refine RgX.build_cons (m := 10) (r := RgX.eq _) (RgX.one_plain (by rfl) (by (intro ax wx hk Kx hK; obtain ⟨v30, k30, h30⟩ := hk.dep 0 8 30 _ rfl rfl rfl; (first | (replace h30 := h30 9 undef rfl rfl; first | (cases (h30 : v30 = _)) | (obtain ⟨rfl, h30⟩ := h30) | skip) | skip); have hL := hk.fact 0 0 _ rfl rfl; (try dsimp only at hL); have hm := hk.fact 1 1 _ rfl rfl; (try dsimp only at hm); clear hk; go_simp; refine hK _ _ (fun h => by cases h) (fun _ _ => ?_) (Below.refl _ _); apply RgX.mk))) ?_ rfl RgX.keep_eq (fun _ h => by cases h)
  refine RgX.build_cons (m := 11) (r := (⟨fun _ u w5 => AtG w5 g 57 #[.slice (some ⟨gc, 0, none⟩) k k, u], none, some 7⟩ : RgX.Rl)) (RgX.one_plain (by rfl) (by (intro ax wx hk Kx hK; obtain ⟨v29, k29, h29⟩ := hk.dep 0 7 29 _ rfl rfl rfl; (first | (replace h29 := h29 9 undef rfl rfl; first | (cases (h29 : v29 = _)) | (obtain ⟨rfl, h29⟩ := h29) | skip) | skip); obtain ⟨v31, k31, h31⟩ := hk.dep 0 9 31 _ rfl rfl rfl; (first | (replace h31 := h31 9 undef rfl rfl; first | (cases (h31 : v31 = _)) | (obtain ⟨rfl, h31⟩ := h31) | skip) | skip); have hL := hk.fact 0 0 _ rfl rfl; (try dsimp only at hL); have hm := hk.fact 1 0 _ rfl rfl; (try dsimp only at hm); clear hk; (have z0 := hm.cell 1 _ rfl; have z1 := hm.frozen 1; obtain ⟨sa, sl, sc, rfl⟩ := own_slice h29.1; go_simp; refine hK undef _ (fun _ => rfl) (fun u hu => ?_) ⟨_, rfl⟩; obtain ⟨t, ht', hu⟩ := hu; cases ht'; rw [k29] at hu; cases hu; exact hm.set 1 _)))) ?_ rfl (RgX.keep_r (fun _ _ _ _ h hb => h.below hb) (fun _ _ => ⟨fun _ _ _ h => absurd ⟨1, rfl⟩ h, fun h _ _ _ => absurd rfl h, trivial⟩)) (fun j h => by cases h; exact ⟨0, rfl⟩)
  refine RgX.build_end fun wx hj => ?_
  have hL := hj 0 _ rfl rfl
  clear hj
  refine RgX.fin_eq rfl ?_
  refine RgX.fin_eq rfl ?_
  refine RgX.fin_eq rfl ?_
  refine RgX.fin_eq rfl ?_
  refine RgX.fin_eq rfl ?_
  refine RgX.fin_eq rfl ?_
  first | refine RgX.fin_eq rfl ?_ | refine RgX.fin_any rfl fun v28 h28 => ?_
  first | refine RgX.fin_eq rfl ?_ | refine RgX.fin_any rfl fun v29 h29 => ?_
  refine RgX.fin_eq rfl ?_
  refine RgX.fin_eq rfl ?_
  refine RgX.fin_none rfl fun s10 => ?_
  refine RgX.fin_nil ?_
  simp only [List.set_cons_zero, List.set_cons_succ]
  have hm' := s10 rfl v29 ⟨29, rfl, rfl⟩
  have ho := h29 rfl undef rfl
  have hM : CtM wx g gc v29 k f (tr ++ [⟨11, d, a, b, c, n⟩]) := ⟨hm', hL.2.2.2.1, by rw [List.length_append, flat6_snoc]; exact ho.1, Q4.out.v⟩
  have hO : Only (ctS g gc tv) w wx := (Only.of_below Q3.out).trans hL.2.2.2.2 (fun k hk => .inl hk)
  have hB : v29.ownBlock = tv.ownBlock ∨ ∃ b, v29.ownBlock = some b ∧ w.heap.size ≤ b := ho.2.imp id (fun ⟨b, h1, h2⟩ => ⟨b, h1, Nat.le_trans Q3.out.size h2⟩)
  have HM2 := Lib.hid hM; have HO := Lib.hid hO; have HBK := Lib.hid hB
  have l0 := hL.1; have l1 := hL.2.1
  have L0 := Lib.hid l0; have L1 := Lib.hid l1
  have c0 := l1.cell 0 _ rfl
  clear hm' ho hM hO hB l0 l1 hL s10 h29 h28
  go_upto_region 8 with (fail)
  refine Rg.wp_region_each (by kernel_rfl) (fun w' => AtG w' w.heap.size 25 #[.pointer (some ⟨g, 0, none⟩)] ∧ AtG w' (w.heap.size + 1) 35 #[.int .i64 11, .int .i64 d, .int .i64 a, .int .i64 b, .int .i64 c, .int .u64 n] ∧ CtM w' g gc v29 k f (tr ++ [⟨11, d, a, b, c, n⟩]) ∧ Below wx.heap.size wx w') (fun w1 w2 h hb => ⟨h.1.below hb, h.2.1.below hb, h.2.2.1.below hb, h.2.2.2.trans (hb.mono h.2.2.2.size)⟩) (by kernel_rfl) (by kernel_rfl) (⟨L0.out, L1.out, HM2.out, Below.refl _ _⟩) ?_
  show Rg.Build _ _ _ _ _ 0 [_, _, _, _, _, _, _, _, _, _] []
  refine Rg.build_cons (m := 1) (r := Rg.eq _) (Rg.one_plain (by rfl) (by (intro ax wx hk Kx hK; have k2 := hk.base 2 _ rfl rfl; have hj := hk.j; clear hk; have z0 := hj.1.cell 0 _ rfl; have z1 := hj.2.1.cell 2 _ rfl; have z2 := hj.2.2.1.m.cell 0 _ rfl; have z3 := hj.2.2.1.c.cell a.toNat _ (uarr_get f k _ HA.out); go_simp; refine hK _ _ ?_ (Below.refl _ _); apply Rg.mk))) ?_ rfl
  refine Rg.build_cons (m := 2) (r := Rg.eq _) (Rg.one_plain (by rfl) (by (intro ax wx hk Kx hK; obtain ⟨v35, k35, h35⟩ := hk.dep 0 35 _ rfl rfl rfl; (first | (cases (h35 : v35 = _)) | (obtain ⟨rfl, h35⟩ := h35) | skip); have hj := hk.j; clear hk; have z0 := hj.1.cell 0 _ rfl; have z1 := hj.2.1.cell 2 _ rfl; have z2 := hj.2.2.1.m.cell 0 _ rfl; have z3 := hj.2.2.1.c.cell a.toNat _ (uarr_get f k _ HA.out); go_simp; refine hK _ _ ?_ (Below.refl _ _); apply Rg.mk))) ?_ rfl
  refine Rg.build_cons (m := 3) (r := Rg.eq _) (Rg.one_plain (by rfl) (by (intro ax wx hk Kx hK; obtain ⟨v36, k36, h36⟩ := hk.dep 1 36 _ rfl rfl rfl; (first | (cases (h36 : v36 = _)) | (obtain ⟨rfl, h36⟩ := h36) | skip); have hj := hk.j; clear hk; have z0 := hj.1.cell 0 _ rfl; have z1 := hj.2.1.cell 2 _ rfl; have z2 := hj.2.2.1.m.cell 0 _ rfl; have z3 := hj.2.2.1.c.cell a.toNat _ (uarr_get f k _ HA.out); go_simp; refine hK _ _ ?_ (Below.refl _ _); apply Rg.mk))) ?_ rfl
  refine Rg.build_cons (m := 4) (r := Rg.eq _) (Rg.one_plain (by rfl) (by (intro ax wx hk Kx hK; obtain ⟨v37, k37, h37⟩ := hk.dep 2 37 _ rfl rfl rfl; (first | (cases (h37 : v37 = _)) | (obtain ⟨rfl, h37⟩ := h37) | skip); have hj := hk.j; clear hk; have z0 := hj.1.cell 0 _ rfl; have z1 := hj.2.1.cell 2 _ rfl; have z2 := hj.2.2.1.m.cell 0 _ rfl; have z3 := hj.2.2.1.c.cell a.toNat _ (uarr_get f k _ HA.out); go_simp; refine hK _ _ ?_ (Below.refl _ _); apply Rg.mk))) ?_ rfl
  refine Rg.build_cons (m := 5) (r := Rg.eq _) (Rg.one_plain (by rfl) (by (intro ax wx hk Kx hK; have k3 := hk.base 3 _ rfl rfl; have hj := hk.j; clear hk; have z0 := hj.1.cell 0 _ rfl; have z1 := hj.2.1.cell 2 _ rfl; have z2 := hj.2.2.1.m.cell 0 _ rfl; have z3 := hj.2.2.1.c.cell a.toNat _ (uarr_get f k _ HA.out); go_simp; refine hK _ _ ?_ (Below.refl _ _); apply Rg.mk))) ?_ rfl
  refine Rg.build_cons (m := 6) (r := Rg.eq _) (Rg.one_plain (by rfl) (by (intro ax wx hk Kx hK; obtain ⟨v39, k39, h39⟩ := hk.dep 4 39 _ rfl rfl rfl; (first | (cases (h39 : v39 = _)) | (obtain ⟨rfl, h39⟩ := h39) | skip); have hj := hk.j; clear hk; have z0 := hj.1.cell 0 _ rfl; have z1 := hj.2.1.cell 2 _ rfl; have z2 := hj.2.2.1.m.cell 0 _ rfl; have z3 := hj.2.2.1.c.cell a.toNat _ (uarr_get f k _ HA.out); go_simp; refine hK _ _ ?_ (Below.refl _ _); apply Rg.mk))) ?_ rfl
  refine Rg.build_cons (m := 7) (r := Rg.eq _) (Rg.one_plain (by rfl) (by (intro ax wx hk Kx hK; obtain ⟨v38, k38, h38⟩ := hk.dep 3 38 _ rfl rfl rfl; (first | (cases (h38 : v38 = _)) | (obtain ⟨rfl, h38⟩ := h38) | skip); obtain ⟨v40, k40, h40⟩ := hk.dep 5 40 _ rfl rfl rfl; (first | (cases (h40 : v40 = _)) | (obtain ⟨rfl, h40⟩ := h40) | skip); have hj := hk.j; clear hk; have z0 := hj.1.cell 0 _ rfl; have z1 := hj.2.1.cell 2 _ rfl; have z2 := hj.2.2.1.m.cell 0 _ rfl; have z3 := hj.2.2.1.c.cell a.toNat _ (uarr_get f k _ HA.out); go_simp; refine hK _ _ ?_ (Below.refl _ _); apply Rg.mk))) ?_ rfl
  refine Rg.build_cons (m := 8) (r := Rg.eq _) (Rg.one_plain (by rfl) (by (intro ax wx hk Kx hK; obtain ⟨v41, k41, h41⟩ := hk.dep 6 41 _ rfl rfl rfl; (first | (cases (h41 : v41 = _)) | (obtain ⟨rfl, h41⟩ := h41) | skip); have hj := hk.j; clear hk; have z0 := hj.1.cell 0 _ rfl; have z1 := hj.2.1.cell 2 _ rfl; have z2 := hj.2.2.1.m.cell 0 _ rfl; have z3 := hj.2.2.1.c.cell a.toNat _ (uarr_get f k _ HA.out); go_simp; refine hK _ _ ?_ (Below.refl _ _); apply Rg.mk))) ?_ rfl
  refine Rg.build_cons (m := 9) (r := Rg.eq _) (Rg.one_plain (by rfl) (by (intro ax wx hk Kx hK; obtain ⟨v42, k42, h42⟩ := hk.dep 7 42 _ rfl rfl rfl; (first | (cases (h42 : v42 = _)) | (obtain ⟨rfl, h42⟩ := h42) | skip); have hj := hk.j; clear hk; have z0 := hj.1.cell 0 _ rfl; have z1 := hj.2.1.cell 2 _ rfl; have z2 := hj.2.2.1.m.cell 0 _ rfl; have z3 := hj.2.2.1.c.cell a.toNat _ (uarr_get f k _ HA.out); go_simp; refine hK _ _ ?_ (Below.refl _ _); apply Rg.mk))) ?_ rfl
  refine Rg.build_cons (m := 10) (r := Rg.eq _) (Rg.one_plain (by rfl) (by (intro ax wx hk Kx hK; have hj := hk.j; clear hk; have z0 := hj.1.cell 0 _ rfl; have z1 := hj.2.1.cell 2 _ rfl; have z2 := hj.2.2.1.m.cell 0 _ rfl; have z3 := hj.2.2.1.c.cell a.toNat _ (uarr_get f k _ HA.out); go_simp; refine hK _ _ ?_ (Below.refl _ _); apply Rg.mk))) ?_ rfl
  refine Rg.build_end fun wx hj => ?_
  refine Rg.fin_eq rfl ?_
  refine Rg.fin_eq rfl ?_
  refine Rg.fin_eq rfl ?_
  refine Rg.fin_eq rfl ?_
  refine Rg.fin_eq rfl ?_
  refine Rg.fin_eq rfl ?_
  refine Rg.fin_eq rfl ?_
  refine Rg.fin_eq rfl ?_
  refine Rg.fin_eq rfl ?_
  refine Rg.fin_eq rfl ?_
  refine Rg.fin_nil ?_
  simp only [List.set_cons_zero, List.set_cons_succ]
  have hj3 := hj.2.2.1
  have HJ := Lib.hid hj.2.2.2; have HJ3 := Lib.hid hj3
  clear hj hj3 c0
  go_wp2_with fail
  go_returns
  exact ⟨v29, rfl, HJ3.out, HO.out.trans (Only.of_below (S := ctS g gc tv) HJ.out) (fun k hk => .inl hk), HBK.out⟩
end Go.Proofs.Ytpikoijohfmnaaa
