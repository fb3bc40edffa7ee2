/- The document's machine: Do, more short ways. -/
import Derived.Test.YtpikoijohfmnaaaRefCt3
set_option linter.unusedVariables false
set_option linter.unusedSimpArgs false
namespace Go.Proofs.Ytpikoijohfmnaaa
open Go.RowKit
set_option maxRecDepth 100000 in
set_option maxHeartbeats 4000000 in
theorem refDo_lt (d a b c n : Int) (g mp k s : Nat) (lv : Value) (q : Int → Option Int) (tr : List Ins) (w : World) (h : RfM w g mp lv k s q tr) (hm : mayP k ⟨3, d, a, b, c, n⟩ = true) (htr : tr.length ≤ 1000000000000) (hs : s ≤ 1000000000000) (ho : Ins.ok ⟨3, d, a, b, c, n⟩) :
    Calls Try.prog 11 #[.pointer (some ⟨g, 0, none⟩), Ins.val ⟨3, d, a, b, c, n⟩] w (RfPost g mp k s lv q tr ⟨3, d, a, b, c, n⟩ w) := by
  have HH := Lib.hid h
  have OKd := Lib.hid ho.2.1; have OKa := Lib.hid ho.2.2.1; have OKb := Lib.hid ho.2.2.2.1; have OKc := Lib.hid ho.2.2.2.2.1; have OKn := Lib.hid ho.2.2.2.2.2
  have H := Lib.hid h; have HM := Lib.hid hm; have HTR := Lib.hid htr; have HSS := Lib.hid hs; clear h hm htr hs ho
  unfold Ins.val Ins.cells
  dsimp only
  have ht := fun w => truth_any (decide (atQ q a < atQ q b)) w
  obtain ⟨y, hy⟩ : ∃ y : Int, (if (decide (atQ q a < atQ q b)) = true then (1 : Int) else 0) = y := ⟨_, rfl⟩
  simp only [hy] at ht
  have Ht := Lib.hid ht; clear ht
  have hN11 : ¬ (3 : Int) = 11 := by decide
  have hEV : newR q ⟨3, d, a, b, c, n⟩ = y := by rw [← hy]; show (if atQ q a < atQ q b then (1 : Int) else 0) = _; simp
  have hESN : Ins.seen ⟨3, d, a, b, c, n⟩ = ⟨3, d, a, b, c, n⟩ := rfl
  have N11 : Hid (¬ (3 : Int) = 11) := Lib.hid hN11
  have EV : Hid (newR q ⟨3, d, a, b, c, n⟩ = (y)) := Lib.hid hEV
  have ESN : Hid (Ins.seen ⟨3, d, a, b, c, n⟩ = ⟨3, d, a, b, c, n⟩) := Lib.hid hESN
  have hA := HH.out.v a; have hB := HH.out.v b; have hC := HH.out.v c
  have VV : Hid (0 ≤ (y) ∧ (y) < 18446744073709551616) := Lib.hid (by have h := valP_in 3 (atQ q a) (atQ q b) (atQ q c) n hA hB hC ⟨OKn.out.1, by have h5 : n ≤ 18446744073709551615 := OKn.out.2; omega⟩; rw [show valP 3 (atQ q a) (atQ q b) (atQ q c) n = (y) from hEV] at h; exact h)
  clear hN11 hEV hESN hA hB hC
  go_enter Try.func11, Try.ntmps11
  go_upto_region 1 with (fail)
  have f1 : AtG (w.alloc (.cells #[.int .i64 3, .int .i64 d, .int .i64 a, .int .i64 b, .int .i64 c, .int .u64 n] 35)) w.heap.size 35 #[.int .i64 3, .int .i64 d, .int .i64 a, .int .i64 b, .int .i64 c, .int .u64 n] := AtG.new _ _ _
  have f2 : Below w.heap.size w (w.alloc (.cells #[.int .i64 3, .int .i64 d, .int .i64 a, .int .i64 b, .int .i64 c, .int .u64 n] 35)) := by go_grown
  generalize w.alloc (.cells #[.int .i64 3, .int .i64 d, .int .i64 a, .int .i64 b, .int .i64 c, .int .u64 n] 35) = w2 at f1 f2 ⊢
  have c0 := f1.cell 0 _ rfl
  have c1 := f1.cell 1 _ rfl
  have c2 := f1.cell 2 _ rfl
  have c3 := f1.cell 3 _ rfl
  have c4 := f1.cell 4 _ rfl
  have c5 := f1.cell 5 _ rfl
  have F1 := Lib.hid f1; have F2 := Lib.hid f2
  clear f1 f2
  go_wp2_with fail
  refine (refMay_any ⟨3, d, a, b, c, n⟩ g mp k s lv q tr w2 (H.out.below F2.out)).mono ?_
  rw [HM.out]
  rintro e9 w3 ⟨rfl, hb⟩
  have g1 := F1.out.below hb
  have g2 := F2.out.trans (hb.mono F2.out.size)
  clear c0 c1 c2 c3 c4 c5 F1 F2 hb
  have c0 := g1.cell 0 _ rfl
  have c1 := g1.cell 1 _ rfl
  have c2 := g1.cell 2 _ rfl
  have c3 := g1.cell 3 _ rfl
  have c4 := g1.cell 4 _ rfl
  have c5 := g1.cell 5 _ rfl
  have hz := g1.lt
  have G1 := Lib.hid g1; have G2 := Lib.hid g2
  clear g1 g2
  go_upto_region 7 with (fail)
  have q1 : AtG (w3.alloc (.cells #[.int .i64 3, .int .i64 d, .int .i64 a, .int .i64 b, .int .i64 c, .int .u64 n] 35)) w.heap.size 35 #[.int .i64 3, .int .i64 d, .int .i64 a, .int .i64 b, .int .i64 c, .int .u64 n] := G1.out.alloc _
  have q2 : AtG (w3.alloc (.cells #[.int .i64 3, .int .i64 d, .int .i64 a, .int .i64 b, .int .i64 c, .int .u64 n] 35)) w3.heap.size 35 #[.int .i64 3, .int .i64 d, .int .i64 a, .int .i64 b, .int .i64 c, .int .u64 n] := AtG.new _ _ _
  have q3 : Below w.heap.size w (w3.alloc (.cells #[.int .i64 3, .int .i64 d, .int .i64 a, .int .i64 b, .int .i64 c, .int .u64 n] 35)) := G2.out.alloc G2.out.size _
  have q4 : RfM (w3.alloc (.cells #[.int .i64 3, .int .i64 d, .int .i64 a, .int .i64 b, .int .i64 c, .int .u64 n] 35)) g mp lv k s q tr := H.out.below q3
  have q5 := H.out.lt
  generalize w3.alloc (.cells #[.int .i64 3, .int .i64 d, .int .i64 a, .int .i64 b, .int .i64 c, .int .u64 n] 35) = w4 at q1 q2 q3 q4 ⊢
  have NE : Hid (lv.ownBlock ≠ some w.heap.size ∧ lv.ownBlock ≠ some w3.heap.size ∧ lv.ownBlock ≠ some mp ∧ lv.ownBlock ≠ some g) :=
    Lib.hid ⟨fun e => by have := q5 _ (.inr (.inr e)); omega, fun e => by have := q5 _ (.inr (.inr e)); omega, q4.c.ne_own q4.t, own_ne q4.t q4.m (by decide)⟩
  have NG : Hid (w.heap.size ≠ g ∧ w3.heap.size ≠ g ∧ mp ≠ g ∧ g < w4.heap.size) :=
    Lib.hid ⟨fun e => by have := q5 g (.inl rfl); omega, fun e => by have := q5 g (.inl rfl); omega, q4.c.ne q4.m, q4.m.lt⟩
  have Q1 := Lib.hid q1; have Q2 := Lib.hid q2; have Q3 := Lib.hid q3; have Q4 := Lib.hid q4; have Q5 := Lib.hid q5
  clear q1 q2 q3 q4 q5 c0 c1 c2 c3 c4 c5 G1 G2 hz
  refine RgX.start (by kernel_rfl) [(7, fun w5 w6 => w5.grownBy w6 lv.ownBlock), (10, fun w5 w6 => ∃ v, w6 = w5.setCell ⟨g, 2, none⟩ v)] [⟨fun w5 => AtG w5 w.heap.size 35 #[.int .i64 3, .int .i64 d, .int .i64 a, .int .i64 b, .int .i64 c, .int .u64 n] ∧ AtG w5 w3.heap.size 35 #[.int .i64 3, .int .i64 d, .int .i64 a, .int .i64 b, .int .i64 c, .int .u64 n] ∧ OwnF w5 Try.prog 3 29 .u64 mp s (mapF q) ∧ Only (rfS g mp lv) w4 w5, none⟩, ⟨fun w5 => AtG w5 g 43 #[.int .i64 k, .map (some mp), lv], some 10⟩, ⟨fun w5 => w5.ownsRow 0 35 6 lv tr.length (flat6 tr), some 7⟩] ⟨⟨fun _ _ h hb => ⟨h.1.below hb, h.2.1.below hb, h.2.2.1.below hb, h.2.2.2.trans (Only.of_below (S := rfS g mp lv) hb) (fun k hk => .inl hk)⟩, ⟨fun _ _ _ _ => (fun w5 w6 h he => ⟨h.1.grown he NE.out.1, h.2.1.grown he NE.out.2.1, h.2.2.1.kept he (fun e => NE.out.2.2.1 e.symm), h.2.2.2.trans (Only.of_grown (S := rfS g mp lv) he (fun k hk => .inr (.inr hk))) (fun k hk => .inl hk)⟩), fun _ _ _ _ => (fun w5 w6 h he => by obtain ⟨v, rfl⟩ := he; exact ⟨h.1.far NG.out.1 _, h.2.1.far NG.out.2.1 _, h.2.2.1.far NG.out.2.2.1 _, h.2.2.2.trans (Only.set (S := rfS g mp lv) _ _ _ _ (.inl rfl)) (fun k hk => .inl hk)⟩), trivial⟩⟩, ⟨fun _ _ h hb => h.below hb, ⟨fun _ _ _ _ => (fun w5 w6 h he => h.grown he NE.out.2.2.2), fun _ h _ _ => absurd rfl h, trivial⟩⟩, ⟨fun _ _ h hb => own_below h hb, ⟨fun _ h _ _ => absurd rfl h, fun _ _ h _ => absurd ⟨7, 1, rfl, rfl⟩ h, trivial⟩⟩, trivial⟩ (by kernel_rfl) (by kernel_rfl) ⟨⟨Q1.out.drew, Q2.out.drew, Q4.out.c.drew, (Only.refl _).drew⟩, Q4.out.m.drew, Q4.out.t, trivial⟩ ?_
  show RgX.Build _ _ _ _ _ _ 0 [_, _, _, _, _, _, _, _, _, _, _] []
  refine RgX.build_cons (m := 1) (r := RgX.eq _) (RgX.one_plain (by rfl) (by (intro ax wx hk Kx hK; have k0 := hk.base 0 _ rfl rfl; have hL := hk.fact 0 0 _ rfl rfl; (try dsimp only at hL); have hm := hk.fact 1 1 _ rfl rfl; (try dsimp only at hm); clear hk; go_simp; refine hK _ _ (fun h => by cases h) (fun _ _ => ?_) (Below.refl _ _); apply RgX.mk))) ?_ rfl RgX.keep_eq (fun _ h => by cases h)
  refine RgX.build_cons (m := 2) (r := RgX.eq _) (RgX.one_plain (by rfl) (by (intro ax wx hk Kx hK; have k0 := hk.base 0 _ rfl rfl; have hL := hk.fact 0 0 _ rfl rfl; (try dsimp only at hL); have hm := hk.fact 1 1 _ rfl rfl; (try dsimp only at hm); have ht := hk.fact 2 4 _ rfl rfl; (try dsimp only at ht); clear hk; go_simp; refine hK _ _ (fun h => by cases h) (fun _ _ => ?_) (Below.refl _ _); apply RgX.mk))) ?_ rfl RgX.keep_eq (fun _ h => by cases h)
  refine RgX.build_cons (m := 3) (r := RgX.eq _) (RgX.one_plain (by rfl) (by (intro ax wx hk Kx hK; obtain ⟨v24, k24, h24⟩ := hk.dep 0 1 24 _ rfl rfl rfl; (first | (replace h24 := h24 9 undef rfl rfl; first | (cases (h24 : v24 = _)) | (obtain ⟨rfl, h24⟩ := h24) | skip) | skip); have hL := hk.fact 0 0 _ rfl rfl; (try dsimp only at hL); have hm := hk.fact 1 1 _ rfl rfl; (try dsimp only at hm); have ht := hk.fact 2 3 _ rfl rfl; (try dsimp only at ht); clear hk; go_simp; refine hK _ _ (fun h => by cases h) (fun _ _ => ?_) (Below.refl _ _); apply RgX.mk))) ?_ rfl RgX.keep_eq (fun _ h => by cases h)
  refine RgX.build_cons (m := 4) (r := RgX.eq _) (RgX.one_plain (by rfl) (by (intro ax wx hk Kx hK; obtain ⟨v25, k25, h25⟩ := hk.dep 0 2 25 _ rfl rfl rfl; (first | (replace h25 := h25 9 undef rfl rfl; first | (cases (h25 : v25 = _)) | (obtain ⟨rfl, h25⟩ := h25) | skip) | skip); have hL := hk.fact 0 0 _ rfl rfl; (try dsimp only at hL); have hm := hk.fact 1 1 _ rfl rfl; (try dsimp only at hm); have ht := hk.fact 2 2 _ rfl rfl; (try dsimp only at ht); clear hk; go_simp; refine hK _ _ (fun h => by cases h) (fun _ _ => ?_) (Below.refl _ _); apply RgX.mk))) ?_ rfl RgX.keep_eq (fun _ h => by cases h)
  refine RgX.build_cons (m := 5) (r := RgX.eq _) (RgX.one_plain (by rfl) (by (intro ax wx hk Kx hK; obtain ⟨v26, k26, h26⟩ := hk.dep 0 3 26 _ rfl rfl rfl; (first | (replace h26 := h26 9 undef rfl rfl; first | (cases (h26 : v26 = _)) | (obtain ⟨rfl, h26⟩ := h26) | skip) | skip); have hL := hk.fact 0 0 _ rfl rfl; (try dsimp only at hL); have hm := hk.fact 1 1 _ rfl rfl; (try dsimp only at hm); have ht := hk.fact 2 1 _ rfl rfl; (try dsimp only at ht); clear hk; have z0 := hm.cell 2 _ rfl; go_simp; refine hK _ _ (fun h => by cases h) (fun _ _ => ?_) (Below.refl _ _); apply RgX.mk))) ?_ rfl RgX.keep_eq (fun _ h => by cases h)
  refine RgX.build_cons (m := 6) (r := RgX.eq _) (RgX.one_plain (by rfl) (by (intro ax wx hk Kx hK; have k7 := hk.base 7 _ rfl rfl; have hL := hk.fact 0 0 _ rfl rfl; (try dsimp only at hL); have hm := hk.fact 1 1 _ rfl rfl; (try dsimp only at hm); have ht := hk.fact 2 2 _ rfl rfl; (try dsimp only at ht); clear hk; have z0 := hL.2.1.cell 0 _ rfl; have z1 := hL.2.1.cell 1 _ rfl; have z2 := hL.2.1.cell 2 _ rfl; have z3 := hL.2.1.cell 3 _ rfl; have z4 := hL.2.1.cell 4 _ rfl; have z5 := hL.2.1.cell 5 _ rfl; go_simp; refine hK _ _ (fun h => by cases h) (fun _ _ => ?_) (Below.refl _ _); apply RgX.mk))) ?_ rfl RgX.keep_eq (fun _ h => by cases h)
  refine RgX.build_cons (m := 7) (r := (⟨fun v _ w5 => ∃ kk, v = .slice (some ⟨kk, 0, none⟩) 1 1 ∧ w4.heap.size ≤ kk ∧ AtG w5 kk 35 #[.int .i64 3, .int .i64 d, .int .i64 a, .int .i64 b, .int .i64 c, .int .u64 n], some 7, none⟩ : RgX.Rl)) (RgX.one_plain (by rfl) (by (intro ax wx hk Kx hK; obtain ⟨v28, k28, h28⟩ := hk.dep 0 5 28 _ rfl rfl rfl; (first | (replace h28 := h28 9 undef rfl rfl; first | (cases (h28 : v28 = _)) | (obtain ⟨rfl, h28⟩ := h28) | skip) | skip); have hL := hk.fact 0 0 _ rfl rfl; (try dsimp only at hL); have hm := hk.fact 1 1 _ rfl rfl; (try dsimp only at hm); have ht := hk.fact 2 1 _ rfl rfl; (try dsimp only at ht); clear hk; (go_simp; exact hK _ _ (fun h => by cases h) (fun u _ => ⟨wx.heap.size, rfl, hL.2.2.2.size, AtG.new _ _ _⟩) ((Below.refl _ _).alloc (Nat.le_refl _) _))))) ?_ rfl (RgX.keep_r (fun _ _ _ _ h hb => by obtain ⟨kk, h1, h2, h3⟩ := h; exact ⟨kk, h1, h2, h3.below hb⟩) (fun _ _ => ⟨fun _ h _ _ => absurd rfl h, fun _ _ h _ => absurd ⟨7, 1, rfl, rfl⟩ h, trivial⟩)) (fun _ h => by cases h)
  refine RgX.build_cons (m := 8) (r := (⟨fun v _ w5 => w5.ownsRow 0 35 6 v (tr.length + 1) (flat6 tr ++ [.int .i64 3, .int .i64 d, .int .i64 a, .int .i64 b, .int .i64 c, .int .u64 n]) ∧ (v.ownBlock = lv.ownBlock ∨ ∃ bb, v.ownBlock = some bb ∧ w4.heap.size ≤ bb), none, none⟩ : RgX.Rl)) (RgX.one_plain (by rfl) (by (intro ax wx hk Kx hK; obtain ⟨v27, k27, h27⟩ := hk.dep 0 4 27 _ rfl rfl rfl; (first | (replace h27 := h27 9 undef rfl rfl; first | (cases (h27 : v27 = _)) | (obtain ⟨rfl, h27⟩ := h27) | skip) | skip); obtain ⟨v29, k29, h29⟩ := hk.dep 0 6 29 _ rfl rfl rfl; (first | (replace h29 := h29 9 undef rfl rfl; first | (cases (h29 : v29 = _)) | (obtain ⟨rfl, h29⟩ := h29) | skip) | skip); have hL := hk.fact 0 0 _ rfl rfl; (try dsimp only at hL); have hm := hk.fact 1 1 _ rfl rfl; (try dsimp only at hm); have ht := hk.fact 2 0 _ rfl rfl; (try dsimp only at ht); clear hk; (obtain ⟨kk, rfl, hk0, hk1⟩ := h29; refine wp_appRowX (.tmp 27) (.tmp 29) 22 rfl 0 35 _ 6 48 Try.underlying22 infoIns rfl (by decide) lv _ tr.length 1 (flat6 tr) [.int .i64 3, .int .i64 d, .int .i64 a, .int .i64 b, .int .i64 c, .int .u64 n] ht (src_at hk1 1) (by simp [Act.eval, k27]) (by simp [Act.eval, k29]) rfl (by simp [Value.oneCell']) (by have := HTR.out; omega) (by decide) (Nat.zero_le _) ?_; intro v' w' ho hg hbk; exact hK _ _ (fun h => by cases h) (fun u _ => ⟨ho, hbk.elim .inl (fun e => .inr ⟨_, e, hL.2.2.2.size⟩)⟩) hg)))) ?_ rfl (RgX.keep_r (fun _ _ _ _ h hb => ⟨own_below h.1 hb, h.2⟩) (fun _ _ => ⟨fun h _ _ _ => absurd rfl h, fun _ _ _ _ => (fun w5 w6 h he => by obtain ⟨v, rfl⟩ := he; exact ⟨own_setFar h.1 h.2 NE.out.2.2.2 NG.out.2.2.2 _ _, h.2⟩), trivial⟩)) (fun _ h => by cases h)
  refine RgX.build_cons (m := 9) (r := RgX.eq _) (RgX.one_plain (by rfl) (by (intro ax wx hk Kx hK; obtain ⟨v23, k23, h23⟩ := hk.dep 0 0 23 _ rfl rfl rfl; (first | (replace h23 := h23 9 undef rfl rfl; first | (cases (h23 : v23 = _)) | (obtain ⟨rfl, h23⟩ := h23) | skip) | skip); have hL := hk.fact 0 0 _ rfl rfl; (try dsimp only at hL); have hm := hk.fact 1 2 _ rfl rfl; (try dsimp only at hm); clear hk; go_simp; refine hK _ _ (fun h => by cases h) (fun _ _ => ?_) (Below.refl _ _); apply RgX.mk))) ?_ rfl RgX.keep_eq (fun _ h => by cases h)
  refine RgX.build_cons (m := 10) (r := RgX.eq _) (RgX.one_plain (by rfl) (by (intro ax wx hk Kx hK; obtain ⟨v31, k31, h31⟩ := hk.dep 0 8 31 _ rfl rfl rfl; (first | (replace h31 := h31 9 undef rfl rfl; first | (cases (h31 : v31 = _)) | (obtain ⟨rfl, h31⟩ := h31) | skip) | skip); have hL := hk.fact 0 0 _ rfl rfl; (try dsimp only at hL); have hm := hk.fact 1 1 _ rfl rfl; (try dsimp only at hm); clear hk; go_simp; refine hK _ _ (fun h => by cases h) (fun _ _ => ?_) (Below.refl _ _); apply RgX.mk))) ?_ rfl RgX.keep_eq (fun _ h => by cases h)
  refine RgX.build_cons (m := 11) (r := (⟨fun _ u w5 => AtG w5 g 43 #[.int .i64 k, .map (some mp), u], none, some 7⟩ : RgX.Rl)) (RgX.one_plain (by rfl) (by (intro ax wx hk Kx hK; obtain ⟨v30, k30, h30⟩ := hk.dep 0 7 30 _ rfl rfl rfl; (first | (replace h30 := h30 9 undef rfl rfl; first | (cases (h30 : v30 = _)) | (obtain ⟨rfl, h30⟩ := h30) | skip) | skip); obtain ⟨v32, k32, h32⟩ := hk.dep 0 9 32 _ rfl rfl rfl; (first | (replace h32 := h32 9 undef rfl rfl; first | (cases (h32 : v32 = _)) | (obtain ⟨rfl, h32⟩ := h32) | skip) | skip); have hL := hk.fact 0 0 _ rfl rfl; (try dsimp only at hL); have hm := hk.fact 1 0 _ rfl rfl; (try dsimp only at hm); clear hk; (have z0 := hm.cell 2 _ rfl; have z1 := hm.frozen 2; obtain ⟨sa, sl, sc, rfl⟩ := own_slice h30.1; go_simp; refine hK undef _ (fun _ => rfl) (fun u hu => ?_) ⟨_, rfl⟩; obtain ⟨t, ht', hu⟩ := hu; cases ht'; rw [k30] at hu; cases hu; exact hm.set 2 _)))) ?_ rfl (RgX.keep_r (fun _ _ _ _ h hb => h.below hb) (fun _ _ => ⟨fun _ _ _ h => absurd ⟨1, rfl⟩ h, fun h _ _ _ => absurd rfl h, trivial⟩)) (fun j h => by cases h; exact ⟨0, rfl⟩)
  refine RgX.build_end fun wx hj => ?_
  have hL := hj 0 _ rfl rfl
  clear hj
  refine RgX.fin_eq rfl ?_
  refine RgX.fin_eq rfl ?_
  refine RgX.fin_eq rfl ?_
  refine RgX.fin_eq rfl ?_
  refine RgX.fin_eq rfl ?_
  refine RgX.fin_eq rfl ?_
  first | refine RgX.fin_eq rfl ?_ | refine RgX.fin_any rfl fun v29 h29 => ?_
  first | refine RgX.fin_eq rfl ?_ | refine RgX.fin_any rfl fun v30 h30 => ?_
  refine RgX.fin_eq rfl ?_
  refine RgX.fin_eq rfl ?_
  refine RgX.fin_none rfl fun s10 => ?_
  refine RgX.fin_nil ?_
  simp only [List.set_cons_zero, List.set_cons_succ]
  have hm' := s10 rfl v30 ⟨30, rfl, rfl⟩
  have ho := h30 rfl undef rfl
  have hM : RfM wx g mp v30 k s q (tr ++ [⟨3, d, a, b, c, n⟩]) := ⟨hm', hL.2.2.1, by rw [List.length_append, flat6_snoc]; exact ho.1, Q4.out.v⟩
  have hO : Only (rfS g mp lv) w wx := (Only.of_below Q3.out).trans hL.2.2.2 (fun k hk => .inl hk)
  have hB : v30.ownBlock = lv.ownBlock ∨ ∃ b, v30.ownBlock = some b ∧ w.heap.size ≤ b := ho.2.imp id (fun ⟨b, h1, h2⟩ => ⟨b, h1, Nat.le_trans Q3.out.size h2⟩)
  have l1 := hL.1
  obtain ⟨TL, hTL⟩ : ∃ TL : List Ins, TL = tr ++ [⟨3, d, a, b, c, n⟩] := ⟨_, rfl⟩
  rw [← hTL] at hM
  have HTL := Lib.hid hTL; clear hTL
  have HM2 := Lib.hid hM; have HO := Lib.hid hO; have HBK := Lib.hid hB
  have L1 := Lib.hid l1
  clear hm' ho hM hO hB l1 hL s10 h30 h29
  go_upto_region 8 with (fail)
  obtain ⟨wz, rfl⟩ : ∃ wz : World, wz = wx := ⟨_, rfl⟩
  refine Rg.wp_region_each (by kernel_rfl) (fun w' => AtG w' w.heap.size 35 #[.int .i64 3, .int .i64 d, .int .i64 a, .int .i64 b, .int .i64 c, .int .u64 n] ∧ RfM w' g mp v30 k s q TL ∧ Below wz.heap.size wz w') (fun w1 w2 h hb => ⟨h.1.below hb, h.2.1.below hb, h.2.2.trans (hb.mono h.2.2.size)⟩) (by kernel_rfl) (by kernel_rfl) (⟨L1.out, HM2.out, Below.refl _ _⟩) ?_
  show Rg.Build _ _ _ _ _ 0 [_, _, _, _, _, _, _, _] []
  refine Rg.build_cons (m := 1) (r := Rg.eq _) (Rg.one_plain (by rfl) (by (intro ax wx hk Kx hK; have k0 := hk.base 0 _ rfl rfl; have hj := hk.j; clear hk; have z0 := hj.1.cell 2 _ rfl; have z1 := hj.2.1.m.cell 1 _ rfl; have z2 := look_q hj.2.1.c a OKa.out; go_simp; refine hK _ _ ?_ (Below.refl _ _); apply Rg.mk))) ?_ rfl
  refine Rg.build_cons (m := 2) (r := Rg.eq _) (Rg.one_plain (by rfl) (by (intro ax wx hk Kx hK; obtain ⟨v33, k33, h33⟩ := hk.dep 0 33 _ rfl rfl rfl; (first | (cases (h33 : v33 = _)) | (obtain ⟨rfl, h33⟩ := h33) | skip); have hj := hk.j; clear hk; have z0 := hj.1.cell 2 _ rfl; have z1 := hj.2.1.m.cell 1 _ rfl; have z2 := look_q hj.2.1.c a OKa.out; go_simp; refine hK _ _ ?_ (Below.refl _ _); apply Rg.mk))) ?_ rfl
  refine Rg.build_cons (m := 3) (r := Rg.eq _) (Rg.one_plain (by rfl) (by (intro ax wx hk Kx hK; obtain ⟨v34, k34, h34⟩ := hk.dep 1 34 _ rfl rfl rfl; (first | (cases (h34 : v34 = _)) | (obtain ⟨rfl, h34⟩ := h34) | skip); have hj := hk.j; clear hk; have z0 := hj.1.cell 2 _ rfl; have z1 := hj.2.1.m.cell 1 _ rfl; have z2 := look_q hj.2.1.c a OKa.out; go_simp; refine hK _ _ ?_ (Below.refl _ _); apply Rg.mk))) ?_ rfl
  refine Rg.build_cons (m := 4) (r := Rg.eq _) (Rg.one_plain (by rfl) (by (intro ax wx hk Kx hK; obtain ⟨v35, k35, h35⟩ := hk.dep 2 35 _ rfl rfl rfl; (first | (cases (h35 : v35 = _)) | (obtain ⟨rfl, h35⟩ := h35) | skip); have hj := hk.j; clear hk; have z0 := hj.1.cell 2 _ rfl; have z1 := hj.2.1.m.cell 1 _ rfl; have z2 := look_q hj.2.1.c a OKa.out; go_simp; refine hK _ _ ?_ (Below.refl _ _); apply Rg.mk))) ?_ rfl
  refine Rg.build_cons (m := 5) (r := Rg.eq _) (Rg.one_plain (by rfl) (by (intro ax wx hk Kx hK; have k3 := hk.base 3 _ rfl rfl; have hj := hk.j; clear hk; have z0 := hj.1.cell 2 _ rfl; have z1 := hj.2.1.m.cell 1 _ rfl; have z2 := look_q hj.2.1.c a OKa.out; go_simp; refine hK _ _ ?_ (Below.refl _ _); apply Rg.mk))) ?_ rfl
  refine Rg.build_cons (m := 6) (r := Rg.eq _) (Rg.one_plain (by rfl) (by (intro ax wx hk Kx hK; obtain ⟨v37, k37, h37⟩ := hk.dep 4 37 _ rfl rfl rfl; (first | (cases (h37 : v37 = _)) | (obtain ⟨rfl, h37⟩ := h37) | skip); have hj := hk.j; clear hk; have z0 := hj.1.cell 2 _ rfl; have z1 := hj.2.1.m.cell 1 _ rfl; have z2 := look_q hj.2.1.c a OKa.out; go_simp; refine hK _ _ ?_ (Below.refl _ _); apply Rg.mk))) ?_ rfl
  refine Rg.build_cons (m := 7) (r := Rg.eq _) (Rg.one_plain (by rfl) (by (intro ax wx hk Kx hK; obtain ⟨v36, k36, h36⟩ := hk.dep 3 36 _ rfl rfl rfl; (first | (cases (h36 : v36 = _)) | (obtain ⟨rfl, h36⟩ := h36) | skip); obtain ⟨v38, k38, h38⟩ := hk.dep 5 38 _ rfl rfl rfl; (first | (cases (h38 : v38 = _)) | (obtain ⟨rfl, h38⟩ := h38) | skip); have hj := hk.j; clear hk; have z0 := hj.1.cell 2 _ rfl; have z1 := hj.2.1.m.cell 1 _ rfl; have z2 := look_q hj.2.1.c a OKa.out; go_simp; refine hK _ _ ?_ (Below.refl _ _); apply Rg.mk))) ?_ rfl
  refine Rg.build_cons (m := 8) (r := Rg.eq _) (Rg.one_plain (by rfl) (by (intro ax wx hk Kx hK; obtain ⟨v39, k39, h39⟩ := hk.dep 6 39 _ rfl rfl rfl; (first | (cases (h39 : v39 = _)) | (obtain ⟨rfl, h39⟩ := h39) | skip); have hj := hk.j; clear hk; have z0 := hj.1.cell 2 _ rfl; have z1 := hj.2.1.m.cell 1 _ rfl; have z2 := look_q hj.2.1.c a OKa.out; go_simp; refine hK _ _ ?_ (Below.refl _ _); apply Rg.mk))) ?_ rfl
  refine Rg.build_end fun wx hj => ?_
  refine Rg.fin_eq rfl ?_
  refine Rg.fin_eq rfl ?_
  refine Rg.fin_eq rfl ?_
  refine Rg.fin_eq rfl ?_
  refine Rg.fin_eq rfl ?_
  refine Rg.fin_eq rfl ?_
  refine Rg.fin_eq rfl ?_
  refine Rg.fin_eq rfl ?_
  refine Rg.fin_nil ?_
  simp only [List.set_cons_zero, List.set_cons_succ]
  have l1 := hj.1; have hM := hj.2.1
  have hO := HO.out.trans (Only.of_below (S := rfS g mp lv) hj.2.2) (fun k hk => .inl hk)
  clear L1 HM2 HO hj
  have L1 := Lib.hid l1; have HM2 := Lib.hid hM; have HO := Lib.hid hO
  clear l1 hM hO wz
  go_upto_region 9 with (fail)
  obtain ⟨wz, rfl⟩ : ∃ wz : World, wz = wx := ⟨_, rfl⟩
  refine Rg.wp_region_each (by kernel_rfl) (fun w' => AtG w' w.heap.size 35 #[.int .i64 3, .int .i64 d, .int .i64 a, .int .i64 b, .int .i64 c, .int .u64 n] ∧ RfM w' g mp v30 k s q TL ∧ Below wz.heap.size wz w') (fun w1 w2 h hb => ⟨h.1.below hb, h.2.1.below hb, h.2.2.trans (hb.mono h.2.2.size)⟩) (by kernel_rfl) (by kernel_rfl) (⟨L1.out, HM2.out, Below.refl _ _⟩) ?_
  show Rg.Build _ _ _ _ _ 0 [_, _, _, _, _, _, _, _] []
  refine Rg.build_cons (m := 1) (r := Rg.eq _) (Rg.one_plain (by rfl) (by (intro ax wx hk Kx hK; have k0 := hk.base 0 _ rfl rfl; have hj := hk.j; clear hk; have z0 := hj.1.cell 3 _ rfl; have z1 := hj.2.1.m.cell 1 _ rfl; have z2 := look_q hj.2.1.c b OKb.out; go_simp; refine hK _ _ ?_ (Below.refl _ _); apply Rg.mk))) ?_ rfl
  refine Rg.build_cons (m := 2) (r := Rg.eq _) (Rg.one_plain (by rfl) (by (intro ax wx hk Kx hK; obtain ⟨v40, k40, h40⟩ := hk.dep 0 40 _ rfl rfl rfl; (first | (cases (h40 : v40 = _)) | (obtain ⟨rfl, h40⟩ := h40) | skip); have hj := hk.j; clear hk; have z0 := hj.1.cell 3 _ rfl; have z1 := hj.2.1.m.cell 1 _ rfl; have z2 := look_q hj.2.1.c b OKb.out; go_simp; refine hK _ _ ?_ (Below.refl _ _); apply Rg.mk))) ?_ rfl
  refine Rg.build_cons (m := 3) (r := Rg.eq _) (Rg.one_plain (by rfl) (by (intro ax wx hk Kx hK; obtain ⟨v41, k41, h41⟩ := hk.dep 1 41 _ rfl rfl rfl; (first | (cases (h41 : v41 = _)) | (obtain ⟨rfl, h41⟩ := h41) | skip); have hj := hk.j; clear hk; have z0 := hj.1.cell 3 _ rfl; have z1 := hj.2.1.m.cell 1 _ rfl; have z2 := look_q hj.2.1.c b OKb.out; go_simp; refine hK _ _ ?_ (Below.refl _ _); apply Rg.mk))) ?_ rfl
  refine Rg.build_cons (m := 4) (r := Rg.eq _) (Rg.one_plain (by rfl) (by (intro ax wx hk Kx hK; obtain ⟨v42, k42, h42⟩ := hk.dep 2 42 _ rfl rfl rfl; (first | (cases (h42 : v42 = _)) | (obtain ⟨rfl, h42⟩ := h42) | skip); have hj := hk.j; clear hk; have z0 := hj.1.cell 3 _ rfl; have z1 := hj.2.1.m.cell 1 _ rfl; have z2 := look_q hj.2.1.c b OKb.out; go_simp; refine hK _ _ ?_ (Below.refl _ _); apply Rg.mk))) ?_ rfl
  refine Rg.build_cons (m := 5) (r := Rg.eq _) (Rg.one_plain (by rfl) (by (intro ax wx hk Kx hK; have k3 := hk.base 3 _ rfl rfl; have hj := hk.j; clear hk; have z0 := hj.1.cell 3 _ rfl; have z1 := hj.2.1.m.cell 1 _ rfl; have z2 := look_q hj.2.1.c b OKb.out; go_simp; refine hK _ _ ?_ (Below.refl _ _); apply Rg.mk))) ?_ rfl
  refine Rg.build_cons (m := 6) (r := Rg.eq _) (Rg.one_plain (by rfl) (by (intro ax wx hk Kx hK; obtain ⟨v44, k44, h44⟩ := hk.dep 4 44 _ rfl rfl rfl; (first | (cases (h44 : v44 = _)) | (obtain ⟨rfl, h44⟩ := h44) | skip); have hj := hk.j; clear hk; have z0 := hj.1.cell 3 _ rfl; have z1 := hj.2.1.m.cell 1 _ rfl; have z2 := look_q hj.2.1.c b OKb.out; go_simp; refine hK _ _ ?_ (Below.refl _ _); apply Rg.mk))) ?_ rfl
  refine Rg.build_cons (m := 7) (r := Rg.eq _) (Rg.one_plain (by rfl) (by (intro ax wx hk Kx hK; obtain ⟨v43, k43, h43⟩ := hk.dep 3 43 _ rfl rfl rfl; (first | (cases (h43 : v43 = _)) | (obtain ⟨rfl, h43⟩ := h43) | skip); obtain ⟨v45, k45, h45⟩ := hk.dep 5 45 _ rfl rfl rfl; (first | (cases (h45 : v45 = _)) | (obtain ⟨rfl, h45⟩ := h45) | skip); have hj := hk.j; clear hk; have z0 := hj.1.cell 3 _ rfl; have z1 := hj.2.1.m.cell 1 _ rfl; have z2 := look_q hj.2.1.c b OKb.out; go_simp; refine hK _ _ ?_ (Below.refl _ _); apply Rg.mk))) ?_ rfl
  refine Rg.build_cons (m := 8) (r := Rg.eq _) (Rg.one_plain (by rfl) (by (intro ax wx hk Kx hK; obtain ⟨v46, k46, h46⟩ := hk.dep 6 46 _ rfl rfl rfl; (first | (cases (h46 : v46 = _)) | (obtain ⟨rfl, h46⟩ := h46) | skip); have hj := hk.j; clear hk; have z0 := hj.1.cell 3 _ rfl; have z1 := hj.2.1.m.cell 1 _ rfl; have z2 := look_q hj.2.1.c b OKb.out; go_simp; refine hK _ _ ?_ (Below.refl _ _); apply Rg.mk))) ?_ rfl
  refine Rg.build_end fun wx hj => ?_
  refine Rg.fin_eq rfl ?_
  refine Rg.fin_eq rfl ?_
  refine Rg.fin_eq rfl ?_
  refine Rg.fin_eq rfl ?_
  refine Rg.fin_eq rfl ?_
  refine Rg.fin_eq rfl ?_
  refine Rg.fin_eq rfl ?_
  refine Rg.fin_eq rfl ?_
  refine Rg.fin_nil ?_
  simp only [List.set_cons_zero, List.set_cons_succ]
  have l1 := hj.1; have hM := hj.2.1
  have hO := HO.out.trans (Only.of_below (S := rfS g mp lv) hj.2.2) (fun k hk => .inl hk)
  clear L1 HM2 HO hj
  have L1 := Lib.hid l1; have HM2 := Lib.hid hM; have HO := Lib.hid hO
  clear l1 hM hO wz
  have c0 := L1.out.cell 0 _ rfl
  have c5 := L1.out.cell 5 _ rfl
  clear hy
  go_wp2_with fail; refine ((Ht).out _).mono ?_; rintro e9 w9 ⟨rfl, hw9⟩; subst hw9; try dsimp only
  obtain ⟨wx, rfl⟩ : ∃ wx : World, wx = w9 := ⟨_, rfl⟩
  go_upto_region 44 with (fail)
  clear c0 c5
  obtain ⟨wz, rfl⟩ : ∃ wz : World, wz = wx := ⟨_, rfl⟩
  have NM : Hid (v30.ownBlock ≠ some mp ∧ mp ≠ g ∧ mp ≠ w.heap.size) := Lib.hid ⟨HM2.out.c.ne_own HM2.out.t, HM2.out.c.ne HM2.out.m, HM2.out.c.ne L1.out⟩
  refine RgX.start (by kernel_rfl) [(7, fun w5 w6 => w5.grownBy w6 (some mp))] [⟨fun w5 => AtG w5 w.heap.size 35 #[.int .i64 3, .int .i64 d, .int .i64 a, .int .i64 b, .int .i64 c, .int .u64 n] ∧ AtG w5 g 43 #[.int .i64 k, .map (some mp), v30] ∧ w5.ownsRow 0 35 6 v30 TL.length (flat6 TL) ∧ Only (rfS g mp lv) wz w5, none⟩, ⟨fun w5 => OwnF w5 Try.prog 3 29 .u64 mp s (mapF q), some 7⟩] ⟨⟨fun _ _ h hb => ⟨h.1.below hb, h.2.1.below hb, own_below h.2.2.1 hb, h.2.2.2.trans (Only.of_below (S := rfS g mp lv) hb) (fun k hk => .inl hk)⟩, ⟨fun _ _ _ _ => (fun w5 w6 h he => ⟨h.1.grown he (fun e => NM.out.2.2 (by injection e)), h.2.1.grown he (fun e => NM.out.2.1 (by injection e)), own_only h.2.2.1 (Only.of_grown (S := fun q => q = mp) he (fun q hq => by injection hq with e; exact e.symm)) (fun q hq e => NM.out.1 (by rw [hq, e])), h.2.2.2.trans (Only.of_grown (S := rfS g mp lv) he (fun q hq => by injection hq with e; exact .inr (.inl e.symm))) (fun k hk => .inl hk)⟩), trivial⟩⟩, ⟨fun _ _ h hb => h.below hb, ⟨fun _ h _ _ => absurd rfl h, trivial⟩⟩, trivial⟩ (by kernel_rfl) (by kernel_rfl) ⟨⟨L1.out.drew, HM2.out.m.drew, HM2.out.t, (Only.refl _).drew⟩, HM2.out.c.drew, trivial⟩ ?_
  show RgX.Build _ _ _ _ _ _ 0 [_, _, _, _, _, _, _, _] []
  refine RgX.build_cons (m := 1) (r := RgX.eq _) (RgX.one_plain (by rfl) (by (intro ax wx hk Kx hK; have k0 := hk.base 0 _ rfl rfl; have hL := hk.fact 0 0 _ rfl rfl; (try dsimp only at hL); have hc := hk.fact 1 1 _ rfl rfl; (try dsimp only at hc); clear hk; go_simp; refine hK _ _ (fun h => by cases h) (fun _ _ => ?_) (Below.refl _ _); apply RgX.mk))) ?_ rfl RgX.keep_eq (fun _ h => by cases h)
  refine RgX.build_cons (m := 2) (r := RgX.eq _) (RgX.one_plain (by rfl) (by (intro ax wx hk Kx hK; obtain ⟨v126, k126, h126⟩ := hk.dep 0 0 126 _ rfl rfl rfl; (first | (replace h126 := h126 9 undef rfl rfl; first | (cases (h126 : v126 = _)) | (obtain ⟨rfl, h126⟩ := h126) | skip) | skip); have hL := hk.fact 0 0 _ rfl rfl; (try dsimp only at hL); have hc := hk.fact 1 1 _ rfl rfl; (try dsimp only at hc); clear hk; go_simp; refine hK _ _ (fun h => by cases h) (fun _ _ => ?_) (Below.refl _ _); apply RgX.mk))) ?_ rfl RgX.keep_eq (fun _ h => by cases h)
  refine RgX.build_cons (m := 3) (r := RgX.eq _) (RgX.one_plain (by rfl) (by (intro ax wx hk Kx hK; obtain ⟨v127, k127, h127⟩ := hk.dep 0 1 127 _ rfl rfl rfl; (first | (replace h127 := h127 9 undef rfl rfl; first | (cases (h127 : v127 = _)) | (obtain ⟨rfl, h127⟩ := h127) | skip) | skip); have hL := hk.fact 0 0 _ rfl rfl; (try dsimp only at hL); have hc := hk.fact 1 1 _ rfl rfl; (try dsimp only at hc); clear hk; go_simp; refine hK _ _ (fun h => by cases h) (fun _ _ => ?_) (Below.refl _ _); apply RgX.mk))) ?_ rfl RgX.keep_eq (fun _ h => by cases h)
  refine RgX.build_cons (m := 4) (r := RgX.eq _) (RgX.one_plain (by rfl) (by (intro ax wx hk Kx hK; obtain ⟨v128, k128, h128⟩ := hk.dep 0 2 128 _ rfl rfl rfl; (first | (replace h128 := h128 9 undef rfl rfl; first | (cases (h128 : v128 = _)) | (obtain ⟨rfl, h128⟩ := h128) | skip) | skip); have hL := hk.fact 0 0 _ rfl rfl; (try dsimp only at hL); have hc := hk.fact 1 1 _ rfl rfl; (try dsimp only at hc); clear hk; have z0 := hL.2.1.cell 1 _ rfl; go_simp; refine hK _ _ (fun h => by cases h) (fun _ _ => ?_) (Below.refl _ _); apply RgX.mk))) ?_ rfl RgX.keep_eq (fun _ h => by cases h)
  refine RgX.build_cons (m := 5) (r := RgX.eq _) (RgX.one_plain (by rfl) (by (intro ax wx hk Kx hK; have k3 := hk.base 3 _ rfl rfl; have hL := hk.fact 0 0 _ rfl rfl; (try dsimp only at hL); have hc := hk.fact 1 1 _ rfl rfl; (try dsimp only at hc); clear hk; go_simp; refine hK _ _ (fun h => by cases h) (fun _ _ => ?_) (Below.refl _ _); apply RgX.mk))) ?_ rfl RgX.keep_eq (fun _ h => by cases h)
  refine RgX.build_cons (m := 6) (r := RgX.eq _) (RgX.one_plain (by rfl) (by (intro ax wx hk Kx hK; obtain ⟨v130, k130, h130⟩ := hk.dep 0 4 130 _ rfl rfl rfl; (first | (replace h130 := h130 9 undef rfl rfl; first | (cases (h130 : v130 = _)) | (obtain ⟨rfl, h130⟩ := h130) | skip) | skip); have hL := hk.fact 0 0 _ rfl rfl; (try dsimp only at hL); have hc := hk.fact 1 1 _ rfl rfl; (try dsimp only at hc); clear hk; have z0 := hL.1.cell 1 _ rfl; go_simp; refine hK _ _ (fun h => by cases h) (fun _ _ => ?_) (Below.refl _ _); apply RgX.mk))) ?_ rfl RgX.keep_eq (fun _ h => by cases h)
  refine RgX.build_cons (m := 7) (r := RgX.eq _) (RgX.one_plain (by rfl) (by (intro ax wx hk Kx hK; have k10 := hk.base 10 _ rfl rfl; have hL := hk.fact 0 0 _ rfl rfl; (try dsimp only at hL); have hc := hk.fact 1 1 _ rfl rfl; (try dsimp only at hc); clear hk; go_simp; refine hK _ _ (fun h => by cases h) (fun _ _ => ?_) (Below.refl _ _); apply RgX.mk))) ?_ rfl RgX.keep_eq (fun _ h => by cases h)
  refine RgX.build_cons (m := 8) (r := (⟨fun _ _ w5 => ∃ s', s' ≤ s + 1 ∧ OwnF w5 Try.prog 3 29 .u64 mp s' (mapF (putQ q d (y))), none, none⟩ : RgX.Rl)) (RgX.one_plain (by rfl) (by (intro ax wx hk Kx hK; obtain ⟨v129, k129, h129⟩ := hk.dep 0 3 129 _ rfl rfl rfl; (first | (replace h129 := h129 9 undef rfl rfl; first | (cases (h129 : v129 = _)) | (obtain ⟨rfl, h129⟩ := h129) | skip) | skip); obtain ⟨v131, k131, h131⟩ := hk.dep 0 5 131 _ rfl rfl rfl; (first | (replace h131 := h131 9 undef rfl rfl; first | (cases (h131 : v131 = _)) | (obtain ⟨rfl, h131⟩ := h131) | skip) | skip); obtain ⟨v132, k132, h132⟩ := hk.dep 0 6 132 _ rfl rfl rfl; (first | (replace h132 := h132 9 undef rfl rfl; first | (cases (h132 : v132 = _)) | (obtain ⟨rfl, h132⟩ := h132) | skip) | skip); have hL := hk.fact 0 0 _ rfl rfl; (try dsimp only at hL); have hc := hk.fact 1 0 _ rfl rfl; (try dsimp only at hc); clear hk; (obtain ⟨w8, hrun, hs8, hg8⟩ := store_q hc d (y) OKd.out VV.out HSS.out; go_simp; exact hK undef _ (fun _ => rfl) (fun u hu => hs8) hg8)))) ?_ rfl (RgX.keep_r (fun _ _ _ _ h hb => by obtain ⟨s', h1, h2⟩ := h; exact ⟨s', h1, h2.below hb⟩) (fun _ _ => ⟨fun h _ _ _ => absurd rfl h, trivial⟩)) (fun _ h => by cases h)
  refine RgX.build_end fun wx hj => ?_
  have hL := hj 0 _ rfl rfl
  clear hj
  refine RgX.fin_eq rfl ?_
  refine RgX.fin_eq rfl ?_
  refine RgX.fin_eq rfl ?_
  refine RgX.fin_eq rfl ?_
  refine RgX.fin_eq rfl ?_
  refine RgX.fin_eq rfl ?_
  refine RgX.fin_eq rfl ?_
  refine RgX.fin_none rfl fun s7 => ?_
  refine RgX.fin_nil ?_
  simp only [List.set_cons_zero, List.set_cons_succ]
  obtain ⟨s', hs', hc'⟩ := s7 rfl undef rfl
  have hf : RfM wx g mp v30 k s' (putQ q d (y)) TL := ⟨hL.2.1, hc', hL.2.2.1, (fun cc => by unfold putQ; split; exact VV.out; exact HM2.out.v cc)⟩
  have HF := Lib.hid hf
  have HO2 := Lib.hid (HO.out.trans hL.2.2.2 (fun k hk => .inl hk))
  have HSL := Lib.hid hs'
  clear hL hc' hf s7 hs'
  go_wp2_with fail
  go_returns
  refine ⟨v30, s', ?_, ?_, HO2.out, HBK.out, HSL.out⟩
  · have e : outR q ⟨3, d, a, b, c, n⟩ = 0 := by unfold outR; rw [if_neg N11.out]
    rw [e]; rfl
  · have e1 : nextR q ⟨3, d, a, b, c, n⟩ = putQ q d (y) := by unfold nextR; rw [if_neg N11.out]; exact congrArg (putQ q d) EV.out
    have e2 : Ins.seen ⟨3, d, a, b, c, n⟩ = ⟨3, d, a, b, c, n⟩ := ESN.out
    rw [e1, e2, ← HTL.out]
    exact HF.out
set_option maxRecDepth 100000 in
set_option maxHeartbeats 4000000 in
theorem refDo_csub1 (d a b c n : Int) (g mp k s : Nat) (lv : Value) (q : Int → Option Int) (tr : List Ins) (w : World) (h : RfM w g mp lv k s q tr) (hm : mayP k ⟨5, d, a, b, c, n⟩ = true) (htr : tr.length ≤ 1000000000000) (hs : s ≤ 1000000000000) (ho : Ins.ok ⟨5, d, a, b, c, n⟩) (hlt : atQ q a < atQ q b) :
    Calls Try.prog 11 #[.pointer (some ⟨g, 0, none⟩), Ins.val ⟨5, d, a, b, c, n⟩] w (RfPost g mp k s lv q tr ⟨5, d, a, b, c, n⟩ w) := by
  have HH := Lib.hid h
  have OKd := Lib.hid ho.2.1; have OKa := Lib.hid ho.2.2.1; have OKb := Lib.hid ho.2.2.2.1; have OKc := Lib.hid ho.2.2.2.2.1; have OKn := Lib.hid ho.2.2.2.2.2
  have H := Lib.hid h; have HM := Lib.hid hm; have HTR := Lib.hid htr; have HSS := Lib.hid hs; clear h hm htr hs ho
  unfold Ins.val Ins.cells
  dsimp only
  have hge : ¬ atQ q b ≤ atQ q a := by omega
  have hge2 : decide (atQ q b ≤ atQ q a) = false := by simpa using hlt
  have hN11 : ¬ (5 : Int) = 11 := by decide
  have hEV : newR q ⟨5, d, a, b, c, n⟩ = atQ q a := by show (if atQ q a < atQ q b then atQ q a else atQ q a - atQ q b) = _; rw [if_pos hlt]
  have hESN : Ins.seen ⟨5, d, a, b, c, n⟩ = ⟨5, d, a, b, c, n⟩ := rfl
  have N11 : Hid (¬ (5 : Int) = 11) := Lib.hid hN11
  have EV : Hid (newR q ⟨5, d, a, b, c, n⟩ = (atQ q a)) := Lib.hid hEV
  have ESN : Hid (Ins.seen ⟨5, d, a, b, c, n⟩ = ⟨5, d, a, b, c, n⟩) := Lib.hid hESN
  have hA := HH.out.v a; have hB := HH.out.v b; have hC := HH.out.v c
  have VV : Hid (0 ≤ (atQ q a) ∧ (atQ q a) < 18446744073709551616) := Lib.hid (by have h := valP_in 5 (atQ q a) (atQ q b) (atQ q c) n hA hB hC ⟨OKn.out.1, by have h5 : n ≤ 18446744073709551615 := OKn.out.2; omega⟩; rw [show valP 5 (atQ q a) (atQ q b) (atQ q c) n = (atQ q a) from hEV] at h; exact h)
  clear hN11 hEV hESN hA hB hC
  go_enter Try.func11, Try.ntmps11
  go_upto_region 1 with (fail)
  have f1 : AtG (w.alloc (.cells #[.int .i64 5, .int .i64 d, .int .i64 a, .int .i64 b, .int .i64 c, .int .u64 n] 35)) w.heap.size 35 #[.int .i64 5, .int .i64 d, .int .i64 a, .int .i64 b, .int .i64 c, .int .u64 n] := AtG.new _ _ _
  have f2 : Below w.heap.size w (w.alloc (.cells #[.int .i64 5, .int .i64 d, .int .i64 a, .int .i64 b, .int .i64 c, .int .u64 n] 35)) := by go_grown
  generalize w.alloc (.cells #[.int .i64 5, .int .i64 d, .int .i64 a, .int .i64 b, .int .i64 c, .int .u64 n] 35) = w2 at f1 f2 ⊢
  have c0 := f1.cell 0 _ rfl
  have c1 := f1.cell 1 _ rfl
  have c2 := f1.cell 2 _ rfl
  have c3 := f1.cell 3 _ rfl
  have c4 := f1.cell 4 _ rfl
  have c5 := f1.cell 5 _ rfl
  have F1 := Lib.hid f1; have F2 := Lib.hid f2
  clear f1 f2
  go_wp2_with fail
  refine (refMay_any ⟨5, d, a, b, c, n⟩ g mp k s lv q tr w2 (H.out.below F2.out)).mono ?_
  rw [HM.out]
  rintro e9 w3 ⟨rfl, hb⟩
  have g1 := F1.out.below hb
  have g2 := F2.out.trans (hb.mono F2.out.size)
  clear c0 c1 c2 c3 c4 c5 F1 F2 hb
  have c0 := g1.cell 0 _ rfl
  have c1 := g1.cell 1 _ rfl
  have c2 := g1.cell 2 _ rfl
  have c3 := g1.cell 3 _ rfl
  have c4 := g1.cell 4 _ rfl
  have c5 := g1.cell 5 _ rfl
  have hz := g1.lt
  have G1 := Lib.hid g1; have G2 := Lib.hid g2
  clear g1 g2
  go_upto_region 7 with (fail)
  have q1 : AtG (w3.alloc (.cells #[.int .i64 5, .int .i64 d, .int .i64 a, .int .i64 b, .int .i64 c, .int .u64 n] 35)) w.heap.size 35 #[.int .i64 5, .int .i64 d, .int .i64 a, .int .i64 b, .int .i64 c, .int .u64 n] := G1.out.alloc _
  have q2 : AtG (w3.alloc (.cells #[.int .i64 5, .int .i64 d, .int .i64 a, .int .i64 b, .int .i64 c, .int .u64 n] 35)) w3.heap.size 35 #[.int .i64 5, .int .i64 d, .int .i64 a, .int .i64 b, .int .i64 c, .int .u64 n] := AtG.new _ _ _
  have q3 : Below w.heap.size w (w3.alloc (.cells #[.int .i64 5, .int .i64 d, .int .i64 a, .int .i64 b, .int .i64 c, .int .u64 n] 35)) := G2.out.alloc G2.out.size _
  have q4 : RfM (w3.alloc (.cells #[.int .i64 5, .int .i64 d, .int .i64 a, .int .i64 b, .int .i64 c, .int .u64 n] 35)) g mp lv k s q tr := H.out.below q3
  have q5 := H.out.lt
  generalize w3.alloc (.cells #[.int .i64 5, .int .i64 d, .int .i64 a, .int .i64 b, .int .i64 c, .int .u64 n] 35) = w4 at q1 q2 q3 q4 ⊢
  have NE : Hid (lv.ownBlock ≠ some w.heap.size ∧ lv.ownBlock ≠ some w3.heap.size ∧ lv.ownBlock ≠ some mp ∧ lv.ownBlock ≠ some g) :=
    Lib.hid ⟨fun e => by have := q5 _ (.inr (.inr e)); omega, fun e => by have := q5 _ (.inr (.inr e)); omega, q4.c.ne_own q4.t, own_ne q4.t q4.m (by decide)⟩
  have NG : Hid (w.heap.size ≠ g ∧ w3.heap.size ≠ g ∧ mp ≠ g ∧ g < w4.heap.size) :=
    Lib.hid ⟨fun e => by have := q5 g (.inl rfl); omega, fun e => by have := q5 g (.inl rfl); omega, q4.c.ne q4.m, q4.m.lt⟩
  have Q1 := Lib.hid q1; have Q2 := Lib.hid q2; have Q3 := Lib.hid q3; have Q4 := Lib.hid q4; have Q5 := Lib.hid q5
  clear q1 q2 q3 q4 q5 c0 c1 c2 c3 c4 c5 G1 G2 hz
  refine RgX.start (by kernel_rfl) [(7, fun w5 w6 => w5.grownBy w6 lv.ownBlock), (10, fun w5 w6 => ∃ v, w6 = w5.setCell ⟨g, 2, none⟩ v)] [⟨fun w5 => AtG w5 w.heap.size 35 #[.int .i64 5, .int .i64 d, .int .i64 a, .int .i64 b, .int .i64 c, .int .u64 n] ∧ AtG w5 w3.heap.size 35 #[.int .i64 5, .int .i64 d, .int .i64 a, .int .i64 b, .int .i64 c, .int .u64 n] ∧ OwnF w5 Try.prog 3 29 .u64 mp s (mapF q) ∧ Only (rfS g mp lv) w4 w5, none⟩, ⟨fun w5 => AtG w5 g 43 #[.int .i64 k, .map (some mp), lv], some 10⟩, ⟨fun w5 => w5.ownsRow 0 35 6 lv tr.length (flat6 tr), some 7⟩] ⟨⟨fun _ _ h hb => ⟨h.1.below hb, h.2.1.below hb, h.2.2.1.below hb, h.2.2.2.trans (Only.of_below (S := rfS g mp lv) hb) (fun k hk => .inl hk)⟩, ⟨fun _ _ _ _ => (fun w5 w6 h he => ⟨h.1.grown he NE.out.1, h.2.1.grown he NE.out.2.1, h.2.2.1.kept he (fun e => NE.out.2.2.1 e.symm), h.2.2.2.trans (Only.of_grown (S := rfS g mp lv) he (fun k hk => .inr (.inr hk))) (fun k hk => .inl hk)⟩), fun _ _ _ _ => (fun w5 w6 h he => by obtain ⟨v, rfl⟩ := he; exact ⟨h.1.far NG.out.1 _, h.2.1.far NG.out.2.1 _, h.2.2.1.far NG.out.2.2.1 _, h.2.2.2.trans (Only.set (S := rfS g mp lv) _ _ _ _ (.inl rfl)) (fun k hk => .inl hk)⟩), trivial⟩⟩, ⟨fun _ _ h hb => h.below hb, ⟨fun _ _ _ _ => (fun w5 w6 h he => h.grown he NE.out.2.2.2), fun _ h _ _ => absurd rfl h, trivial⟩⟩, ⟨fun _ _ h hb => own_below h hb, ⟨fun _ h _ _ => absurd rfl h, fun _ _ h _ => absurd ⟨7, 1, rfl, rfl⟩ h, trivial⟩⟩, trivial⟩ (by kernel_rfl) (by kernel_rfl) ⟨⟨Q1.out.drew, Q2.out.drew, Q4.out.c.drew, (Only.refl _).drew⟩, Q4.out.m.drew, Q4.out.t, trivial⟩ ?_
  show RgX.Build _ _ _ _ _ _ 0 [_, _, _, _, _, _, _, _, _, _, _] []
  refine RgX.build_cons (m := 1) (r := RgX.eq _) (RgX.one_plain (by rfl) (by (intro ax wx hk Kx hK; have k0 := hk.base 0 _ rfl rfl; have hL := hk.fact 0 0 _ rfl rfl; (try dsimp only at hL); have hm := hk.fact 1 1 _ rfl rfl; (try dsimp only at hm); clear hk; go_simp; refine hK _ _ (fun h => by cases h) (fun _ _ => ?_) (Below.refl _ _); apply RgX.mk))) ?_ rfl RgX.keep_eq (fun _ h => by cases h)
  refine RgX.build_cons (m := 2) (r := RgX.eq _) (RgX.one_plain (by rfl) (by (intro ax wx hk Kx hK; have k0 := hk.base 0 _ rfl rfl; have hL := hk.fact 0 0 _ rfl rfl; (try dsimp only at hL); have hm := hk.fact 1 1 _ rfl rfl; (try dsimp only at hm); have ht := hk.fact 2 4 _ rfl rfl; (try dsimp only at ht); clear hk; go_simp; refine hK _ _ (fun h => by cases h) (fun _ _ => ?_) (Below.refl _ _); apply RgX.mk))) ?_ rfl RgX.keep_eq (fun _ h => by cases h)
  refine RgX.build_cons (m := 3) (r := RgX.eq _) (RgX.one_plain (by rfl) (by (intro ax wx hk Kx hK; obtain ⟨v24, k24, h24⟩ := hk.dep 0 1 24 _ rfl rfl rfl; (first | (replace h24 := h24 9 undef rfl rfl; first | (cases (h24 : v24 = _)) | (obtain ⟨rfl, h24⟩ := h24) | skip) | skip); have hL := hk.fact 0 0 _ rfl rfl; (try dsimp only at hL); have hm := hk.fact 1 1 _ rfl rfl; (try dsimp only at hm); have ht := hk.fact 2 3 _ rfl rfl; (try dsimp only at ht); clear hk; go_simp; refine hK _ _ (fun h => by cases h) (fun _ _ => ?_) (Below.refl _ _); apply RgX.mk))) ?_ rfl RgX.keep_eq (fun _ h => by cases h)
  refine RgX.build_cons (m := 4) (r := RgX.eq _) (RgX.one_plain (by rfl) (by (intro ax wx hk Kx hK; obtain ⟨v25, k25, h25⟩ := hk.dep 0 2 25 _ rfl rfl rfl; (first | (replace h25 := h25 9 undef rfl rfl; first | (cases (h25 : v25 = _)) | (obtain ⟨rfl, h25⟩ := h25) | skip) | skip); have hL := hk.fact 0 0 _ rfl rfl; (try dsimp only at hL); have hm := hk.fact 1 1 _ rfl rfl; (try dsimp only at hm); have ht := hk.fact 2 2 _ rfl rfl; (try dsimp only at ht); clear hk; go_simp; refine hK _ _ (fun h => by cases h) (fun _ _ => ?_) (Below.refl _ _); apply RgX.mk))) ?_ rfl RgX.keep_eq (fun _ h => by cases h)
  refine RgX.build_cons (m := 5) (r := RgX.eq _) (RgX.one_plain (by rfl) (by (intro ax wx hk Kx hK; obtain ⟨v26, k26, h26⟩ := hk.dep 0 3 26 _ rfl rfl rfl; (first | (replace h26 := h26 9 undef rfl rfl; first | (cases (h26 : v26 = _)) | (obtain ⟨rfl, h26⟩ := h26) | skip) | skip); have hL := hk.fact 0 0 _ rfl rfl; (try dsimp only at hL); have hm := hk.fact 1 1 _ rfl rfl; (try dsimp only at hm); have ht := hk.fact 2 1 _ rfl rfl; (try dsimp only at ht); clear hk; have z0 := hm.cell 2 _ rfl; go_simp; refine hK _ _ (fun h => by cases h) (fun _ _ => ?_) (Below.refl _ _); apply RgX.mk))) ?_ rfl RgX.keep_eq (fun _ h => by cases h)
  refine RgX.build_cons (m := 6) (r := RgX.eq _) (RgX.one_plain (by rfl) (by (intro ax wx hk Kx hK; have k7 := hk.base 7 _ rfl rfl; have hL := hk.fact 0 0 _ rfl rfl; (try dsimp only at hL); have hm := hk.fact 1 1 _ rfl rfl; (try dsimp only at hm); have ht := hk.fact 2 2 _ rfl rfl; (try dsimp only at ht); clear hk; have z0 := hL.2.1.cell 0 _ rfl; have z1 := hL.2.1.cell 1 _ rfl; have z2 := hL.2.1.cell 2 _ rfl; have z3 := hL.2.1.cell 3 _ rfl; have z4 := hL.2.1.cell 4 _ rfl; have z5 := hL.2.1.cell 5 _ rfl; go_simp; refine hK _ _ (fun h => by cases h) (fun _ _ => ?_) (Below.refl _ _); apply RgX.mk))) ?_ rfl RgX.keep_eq (fun _ h => by cases h)
  refine RgX.build_cons (m := 7) (r := (⟨fun v _ w5 => ∃ kk, v = .slice (some ⟨kk, 0, none⟩) 1 1 ∧ w4.heap.size ≤ kk ∧ AtG w5 kk 35 #[.int .i64 5, .int .i64 d, .int .i64 a, .int .i64 b, .int .i64 c, .int .u64 n], some 7, none⟩ : RgX.Rl)) (RgX.one_plain (by rfl) (by (intro ax wx hk Kx hK; obtain ⟨v28, k28, h28⟩ := hk.dep 0 5 28 _ rfl rfl rfl; (first | (replace h28 := h28 9 undef rfl rfl; first | (cases (h28 : v28 = _)) | (obtain ⟨rfl, h28⟩ := h28) | skip) | skip); have hL := hk.fact 0 0 _ rfl rfl; (try dsimp only at hL); have hm := hk.fact 1 1 _ rfl rfl; (try dsimp only at hm); have ht := hk.fact 2 1 _ rfl rfl; (try dsimp only at ht); clear hk; (go_simp; exact hK _ _ (fun h => by cases h) (fun u _ => ⟨wx.heap.size, rfl, hL.2.2.2.size, AtG.new _ _ _⟩) ((Below.refl _ _).alloc (Nat.le_refl _) _))))) ?_ rfl (RgX.keep_r (fun _ _ _ _ h hb => by obtain ⟨kk, h1, h2, h3⟩ := h; exact ⟨kk, h1, h2, h3.below hb⟩) (fun _ _ => ⟨fun _ h _ _ => absurd rfl h, fun _ _ h _ => absurd ⟨7, 1, rfl, rfl⟩ h, trivial⟩)) (fun _ h => by cases h)
  refine RgX.build_cons (m := 8) (r := (⟨fun v _ w5 => w5.ownsRow 0 35 6 v (tr.length + 1) (flat6 tr ++ [.int .i64 5, .int .i64 d, .int .i64 a, .int .i64 b, .int .i64 c, .int .u64 n]) ∧ (v.ownBlock = lv.ownBlock ∨ ∃ bb, v.ownBlock = some bb ∧ w4.heap.size ≤ bb), none, none⟩ : RgX.Rl)) (RgX.one_plain (by rfl) (by (intro ax wx hk Kx hK; obtain ⟨v27, k27, h27⟩ := hk.dep 0 4 27 _ rfl rfl rfl; (first | (replace h27 := h27 9 undef rfl rfl; first | (cases (h27 : v27 = _)) | (obtain ⟨rfl, h27⟩ := h27) | skip) | skip); obtain ⟨v29, k29, h29⟩ := hk.dep 0 6 29 _ rfl rfl rfl; (first | (replace h29 := h29 9 undef rfl rfl; first | (cases (h29 : v29 = _)) | (obtain ⟨rfl, h29⟩ := h29) | skip) | skip); have hL := hk.fact 0 0 _ rfl rfl; (try dsimp only at hL); have hm := hk.fact 1 1 _ rfl rfl; (try dsimp only at hm); have ht := hk.fact 2 0 _ rfl rfl; (try dsimp only at ht); clear hk; (obtain ⟨kk, rfl, hk0, hk1⟩ := h29; refine wp_appRowX (.tmp 27) (.tmp 29) 22 rfl 0 35 _ 6 48 Try.underlying22 infoIns rfl (by decide) lv _ tr.length 1 (flat6 tr) [.int .i64 5, .int .i64 d, .int .i64 a, .int .i64 b, .int .i64 c, .int .u64 n] ht (src_at hk1 1) (by simp [Act.eval, k27]) (by simp [Act.eval, k29]) rfl (by simp [Value.oneCell']) (by have := HTR.out; omega) (by decide) (Nat.zero_le _) ?_; intro v' w' ho hg hbk; exact hK _ _ (fun h => by cases h) (fun u _ => ⟨ho, hbk.elim .inl (fun e => .inr ⟨_, e, hL.2.2.2.size⟩)⟩) hg)))) ?_ rfl (RgX.keep_r (fun _ _ _ _ h hb => ⟨own_below h.1 hb, h.2⟩) (fun _ _ => ⟨fun h _ _ _ => absurd rfl h, fun _ _ _ _ => (fun w5 w6 h he => by obtain ⟨v, rfl⟩ := he; exact ⟨own_setFar h.1 h.2 NE.out.2.2.2 NG.out.2.2.2 _ _, h.2⟩), trivial⟩)) (fun _ h => by cases h)
  refine RgX.build_cons (m := 9) (r := RgX.eq _) (RgX.one_plain (by rfl) (by (intro ax wx hk Kx hK; obtain ⟨v23, k23, h23⟩ := hk.dep 0 0 23 _ rfl rfl rfl; (first | (replace h23 := h23 9 undef rfl rfl; first | (cases (h23 : v23 = _)) | (obtain ⟨rfl, h23⟩ := h23) | skip) | skip); have hL := hk.fact 0 0 _ rfl rfl; (try dsimp only at hL); have hm := hk.fact 1 2 _ rfl rfl; (try dsimp only at hm); clear hk; go_simp; refine hK _ _ (fun h => by cases h) (fun _ _ => ?_) (Below.refl _ _); apply RgX.mk))) ?_ rfl RgX.keep_eq (fun _ h => by cases h)
  refine RgX.build_cons (m := 10) (r := RgX.eq _) (RgX.one_plain (by rfl) (by (intro ax wx hk Kx hK; obtain ⟨v31, k31, h31⟩ := hk.dep 0 8 31 _ rfl rfl rfl; (first | (replace h31 := h31 9 undef rfl rfl; first | (cases (h31 : v31 = _)) | (obtain ⟨rfl, h31⟩ := h31) | skip) | skip); have hL := hk.fact 0 0 _ rfl rfl; (try dsimp only at hL); have hm := hk.fact 1 1 _ rfl rfl; (try dsimp only at hm); clear hk; go_simp; refine hK _ _ (fun h => by cases h) (fun _ _ => ?_) (Below.refl _ _); apply RgX.mk))) ?_ rfl RgX.keep_eq (fun _ h => by cases h)
  refine RgX.build_cons (m := 11) (r := (⟨fun _ u w5 => AtG w5 g 43 #[.int .i64 k, .map (some mp), u], none, some 7⟩ : RgX.Rl)) (RgX.one_plain (by rfl) (by (intro ax wx hk Kx hK; obtain ⟨v30, k30, h30⟩ := hk.dep 0 7 30 _ rfl rfl rfl; (first | (replace h30 := h30 9 undef rfl rfl; first | (cases (h30 : v30 = _)) | (obtain ⟨rfl, h30⟩ := h30) | skip) | skip); obtain ⟨v32, k32, h32⟩ := hk.dep 0 9 32 _ rfl rfl rfl; (first | (replace h32 := h32 9 undef rfl rfl; first | (cases (h32 : v32 = _)) | (obtain ⟨rfl, h32⟩ := h32) | skip) | skip); have hL := hk.fact 0 0 _ rfl rfl; (try dsimp only at hL); have hm := hk.fact 1 0 _ rfl rfl; (try dsimp only at hm); clear hk; (have z0 := hm.cell 2 _ rfl; have z1 := hm.frozen 2; obtain ⟨sa, sl, sc, rfl⟩ := own_slice h30.1; go_simp; refine hK undef _ (fun _ => rfl) (fun u hu => ?_) ⟨_, rfl⟩; obtain ⟨t, ht', hu⟩ := hu; cases ht'; rw [k30] at hu; cases hu; exact hm.set 2 _)))) ?_ rfl (RgX.keep_r (fun _ _ _ _ h hb => h.below hb) (fun _ _ => ⟨fun _ _ _ h => absurd ⟨1, rfl⟩ h, fun h _ _ _ => absurd rfl h, trivial⟩)) (fun j h => by cases h; exact ⟨0, rfl⟩)
  refine RgX.build_end fun wx hj => ?_
  have hL := hj 0 _ rfl rfl
  clear hj
  refine RgX.fin_eq rfl ?_
  refine RgX.fin_eq rfl ?_
  refine RgX.fin_eq rfl ?_
  refine RgX.fin_eq rfl ?_
  refine RgX.fin_eq rfl ?_
  refine RgX.fin_eq rfl ?_
  first | refine RgX.fin_eq rfl ?_ | refine RgX.fin_any rfl fun v29 h29 => ?_
  first | refine RgX.fin_eq rfl ?_ | refine RgX.fin_any rfl fun v30 h30 => ?_
  refine RgX.fin_eq rfl ?_
  refine RgX.fin_eq rfl ?_
  refine RgX.fin_none rfl fun s10 => ?_
  refine RgX.fin_nil ?_
  simp only [List.set_cons_zero, List.set_cons_succ]
  have hm' := s10 rfl v30 ⟨30, rfl, rfl⟩
  have ho := h30 rfl undef rfl
  have hM : RfM wx g mp v30 k s q (tr ++ [⟨5, d, a, b, c, n⟩]) := ⟨hm', hL.2.2.1, by rw [List.length_append, flat6_snoc]; exact ho.1, Q4.out.v⟩
  have hO : Only (rfS g mp lv) w wx := (Only.of_below Q3.out).trans hL.2.2.2 (fun k hk => .inl hk)
  have hB : v30.ownBlock = lv.ownBlock ∨ ∃ b, v30.ownBlock = some b ∧ w.heap.size ≤ b := ho.2.imp id (fun ⟨b, h1, h2⟩ => ⟨b, h1, Nat.le_trans Q3.out.size h2⟩)
  have l1 := hL.1
  obtain ⟨TL, hTL⟩ : ∃ TL : List Ins, TL = tr ++ [⟨5, d, a, b, c, n⟩] := ⟨_, rfl⟩
  rw [← hTL] at hM
  have HTL := Lib.hid hTL; clear hTL
  have HM2 := Lib.hid hM; have HO := Lib.hid hO; have HBK := Lib.hid hB
  have L1 := Lib.hid l1
  clear hm' ho hM hO hB l1 hL s10 h30 h29
  go_upto_region 8 with (fail)
  obtain ⟨wz, rfl⟩ : ∃ wz : World, wz = wx := ⟨_, rfl⟩
  refine Rg.wp_region_each (by kernel_rfl) (fun w' => AtG w' w.heap.size 35 #[.int .i64 5, .int .i64 d, .int .i64 a, .int .i64 b, .int .i64 c, .int .u64 n] ∧ RfM w' g mp v30 k s q TL ∧ Below wz.heap.size wz w') (fun w1 w2 h hb => ⟨h.1.below hb, h.2.1.below hb, h.2.2.trans (hb.mono h.2.2.size)⟩) (by kernel_rfl) (by kernel_rfl) (⟨L1.out, HM2.out, Below.refl _ _⟩) ?_
  show Rg.Build _ _ _ _ _ 0 [_, _, _, _, _, _, _, _] []
  refine Rg.build_cons (m := 1) (r := Rg.eq _) (Rg.one_plain (by rfl) (by (intro ax wx hk Kx hK; have k0 := hk.base 0 _ rfl rfl; have hj := hk.j; clear hk; have z0 := hj.1.cell 2 _ rfl; have z1 := hj.2.1.m.cell 1 _ rfl; have z2 := look_q hj.2.1.c a OKa.out; go_simp; refine hK _ _ ?_ (Below.refl _ _); apply Rg.mk))) ?_ rfl
  refine Rg.build_cons (m := 2) (r := Rg.eq _) (Rg.one_plain (by rfl) (by (intro ax wx hk Kx hK; obtain ⟨v33, k33, h33⟩ := hk.dep 0 33 _ rfl rfl rfl; (first | (cases (h33 : v33 = _)) | (obtain ⟨rfl, h33⟩ := h33) | skip); have hj := hk.j; clear hk; have z0 := hj.1.cell 2 _ rfl; have z1 := hj.2.1.m.cell 1 _ rfl; have z2 := look_q hj.2.1.c a OKa.out; go_simp; refine hK _ _ ?_ (Below.refl _ _); apply Rg.mk))) ?_ rfl
  refine Rg.build_cons (m := 3) (r := Rg.eq _) (Rg.one_plain (by rfl) (by (intro ax wx hk Kx hK; obtain ⟨v34, k34, h34⟩ := hk.dep 1 34 _ rfl rfl rfl; (first | (cases (h34 : v34 = _)) | (obtain ⟨rfl, h34⟩ := h34) | skip); have hj := hk.j; clear hk; have z0 := hj.1.cell 2 _ rfl; have z1 := hj.2.1.m.cell 1 _ rfl; have z2 := look_q hj.2.1.c a OKa.out; go_simp; refine hK _ _ ?_ (Below.refl _ _); apply Rg.mk))) ?_ rfl
  refine Rg.build_cons (m := 4) (r := Rg.eq _) (Rg.one_plain (by rfl) (by (intro ax wx hk Kx hK; obtain ⟨v35, k35, h35⟩ := hk.dep 2 35 _ rfl rfl rfl; (first | (cases (h35 : v35 = _)) | (obtain ⟨rfl, h35⟩ := h35) | skip); have hj := hk.j; clear hk; have z0 := hj.1.cell 2 _ rfl; have z1 := hj.2.1.m.cell 1 _ rfl; have z2 := look_q hj.2.1.c a OKa.out; go_simp; refine hK _ _ ?_ (Below.refl _ _); apply Rg.mk))) ?_ rfl
  refine Rg.build_cons (m := 5) (r := Rg.eq _) (Rg.one_plain (by rfl) (by (intro ax wx hk Kx hK; have k3 := hk.base 3 _ rfl rfl; have hj := hk.j; clear hk; have z0 := hj.1.cell 2 _ rfl; have z1 := hj.2.1.m.cell 1 _ rfl; have z2 := look_q hj.2.1.c a OKa.out; go_simp; refine hK _ _ ?_ (Below.refl _ _); apply Rg.mk))) ?_ rfl
  refine Rg.build_cons (m := 6) (r := Rg.eq _) (Rg.one_plain (by rfl) (by (intro ax wx hk Kx hK; obtain ⟨v37, k37, h37⟩ := hk.dep 4 37 _ rfl rfl rfl; (first | (cases (h37 : v37 = _)) | (obtain ⟨rfl, h37⟩ := h37) | skip); have hj := hk.j; clear hk; have z0 := hj.1.cell 2 _ rfl; have z1 := hj.2.1.m.cell 1 _ rfl; have z2 := look_q hj.2.1.c a OKa.out; go_simp; refine hK _ _ ?_ (Below.refl _ _); apply Rg.mk))) ?_ rfl
  refine Rg.build_cons (m := 7) (r := Rg.eq _) (Rg.one_plain (by rfl) (by (intro ax wx hk Kx hK; obtain ⟨v36, k36, h36⟩ := hk.dep 3 36 _ rfl rfl rfl; (first | (cases (h36 : v36 = _)) | (obtain ⟨rfl, h36⟩ := h36) | skip); obtain ⟨v38, k38, h38⟩ := hk.dep 5 38 _ rfl rfl rfl; (first | (cases (h38 : v38 = _)) | (obtain ⟨rfl, h38⟩ := h38) | skip); have hj := hk.j; clear hk; have z0 := hj.1.cell 2 _ rfl; have z1 := hj.2.1.m.cell 1 _ rfl; have z2 := look_q hj.2.1.c a OKa.out; go_simp; refine hK _ _ ?_ (Below.refl _ _); apply Rg.mk))) ?_ rfl
  refine Rg.build_cons (m := 8) (r := Rg.eq _) (Rg.one_plain (by rfl) (by (intro ax wx hk Kx hK; obtain ⟨v39, k39, h39⟩ := hk.dep 6 39 _ rfl rfl rfl; (first | (cases (h39 : v39 = _)) | (obtain ⟨rfl, h39⟩ := h39) | skip); have hj := hk.j; clear hk; have z0 := hj.1.cell 2 _ rfl; have z1 := hj.2.1.m.cell 1 _ rfl; have z2 := look_q hj.2.1.c a OKa.out; go_simp; refine hK _ _ ?_ (Below.refl _ _); apply Rg.mk))) ?_ rfl
  refine Rg.build_end fun wx hj => ?_
  refine Rg.fin_eq rfl ?_
  refine Rg.fin_eq rfl ?_
  refine Rg.fin_eq rfl ?_
  refine Rg.fin_eq rfl ?_
  refine Rg.fin_eq rfl ?_
  refine Rg.fin_eq rfl ?_
  refine Rg.fin_eq rfl ?_
  refine Rg.fin_eq rfl ?_
  refine Rg.fin_nil ?_
  simp only [List.set_cons_zero, List.set_cons_succ]
  have l1 := hj.1; have hM := hj.2.1
  have hO := HO.out.trans (Only.of_below (S := rfS g mp lv) hj.2.2) (fun k hk => .inl hk)
  clear L1 HM2 HO hj
  have L1 := Lib.hid l1; have HM2 := Lib.hid hM; have HO := Lib.hid hO
  clear l1 hM hO wz
  go_upto_region 9 with (fail)
  obtain ⟨wz, rfl⟩ : ∃ wz : World, wz = wx := ⟨_, rfl⟩
  refine Rg.wp_region_each (by kernel_rfl) (fun w' => AtG w' w.heap.size 35 #[.int .i64 5, .int .i64 d, .int .i64 a, .int .i64 b, .int .i64 c, .int .u64 n] ∧ RfM w' g mp v30 k s q TL ∧ Below wz.heap.size wz w') (fun w1 w2 h hb => ⟨h.1.below hb, h.2.1.below hb, h.2.2.trans (hb.mono h.2.2.size)⟩) (by kernel_rfl) (by kernel_rfl) (⟨L1.out, HM2.out, Below.refl _ _⟩) ?_
  show Rg.Build _ _ _ _ _ 0 [_, _, _, _, _, _, _, _] []
  refine Rg.build_cons (m := 1) (r := Rg.eq _) (Rg.one_plain (by rfl) (by (intro ax wx hk Kx hK; have k0 := hk.base 0 _ rfl rfl; have hj := hk.j; clear hk; have z0 := hj.1.cell 3 _ rfl; have z1 := hj.2.1.m.cell 1 _ rfl; have z2 := look_q hj.2.1.c b OKb.out; go_simp; refine hK _ _ ?_ (Below.refl _ _); apply Rg.mk))) ?_ rfl
  refine Rg.build_cons (m := 2) (r := Rg.eq _) (Rg.one_plain (by rfl) (by (intro ax wx hk Kx hK; obtain ⟨v40, k40, h40⟩ := hk.dep 0 40 _ rfl rfl rfl; (first | (cases (h40 : v40 = _)) | (obtain ⟨rfl, h40⟩ := h40) | skip); have hj := hk.j; clear hk; have z0 := hj.1.cell 3 _ rfl; have z1 := hj.2.1.m.cell 1 _ rfl; have z2 := look_q hj.2.1.c b OKb.out; go_simp; refine hK _ _ ?_ (Below.refl _ _); apply Rg.mk))) ?_ rfl
  refine Rg.build_cons (m := 3) (r := Rg.eq _) (Rg.one_plain (by rfl) (by (intro ax wx hk Kx hK; obtain ⟨v41, k41, h41⟩ := hk.dep 1 41 _ rfl rfl rfl; (first | (cases (h41 : v41 = _)) | (obtain ⟨rfl, h41⟩ := h41) | skip); have hj := hk.j; clear hk; have z0 := hj.1.cell 3 _ rfl; have z1 := hj.2.1.m.cell 1 _ rfl; have z2 := look_q hj.2.1.c b OKb.out; go_simp; refine hK _ _ ?_ (Below.refl _ _); apply Rg.mk))) ?_ rfl
  refine Rg.build_cons (m := 4) (r := Rg.eq _) (Rg.one_plain (by rfl) (by (intro ax wx hk Kx hK; obtain ⟨v42, k42, h42⟩ := hk.dep 2 42 _ rfl rfl rfl; (first | (cases (h42 : v42 = _)) | (obtain ⟨rfl, h42⟩ := h42) | skip); have hj := hk.j; clear hk; have z0 := hj.1.cell 3 _ rfl; have z1 := hj.2.1.m.cell 1 _ rfl; have z2 := look_q hj.2.1.c b OKb.out; go_simp; refine hK _ _ ?_ (Below.refl _ _); apply Rg.mk))) ?_ rfl
  refine Rg.build_cons (m := 5) (r := Rg.eq _) (Rg.one_plain (by rfl) (by (intro ax wx hk Kx hK; have k3 := hk.base 3 _ rfl rfl; have hj := hk.j; clear hk; have z0 := hj.1.cell 3 _ rfl; have z1 := hj.2.1.m.cell 1 _ rfl; have z2 := look_q hj.2.1.c b OKb.out; go_simp; refine hK _ _ ?_ (Below.refl _ _); apply Rg.mk))) ?_ rfl
  refine Rg.build_cons (m := 6) (r := Rg.eq _) (Rg.one_plain (by rfl) (by (intro ax wx hk Kx hK; obtain ⟨v44, k44, h44⟩ := hk.dep 4 44 _ rfl rfl rfl; (first | (cases (h44 : v44 = _)) | (obtain ⟨rfl, h44⟩ := h44) | skip); have hj := hk.j; clear hk; have z0 := hj.1.cell 3 _ rfl; have z1 := hj.2.1.m.cell 1 _ rfl; have z2 := look_q hj.2.1.c b OKb.out; go_simp; refine hK _ _ ?_ (Below.refl _ _); apply Rg.mk))) ?_ rfl
  refine Rg.build_cons (m := 7) (r := Rg.eq _) (Rg.one_plain (by rfl) (by (intro ax wx hk Kx hK; obtain ⟨v43, k43, h43⟩ := hk.dep 3 43 _ rfl rfl rfl; (first | (cases (h43 : v43 = _)) | (obtain ⟨rfl, h43⟩ := h43) | skip); obtain ⟨v45, k45, h45⟩ := hk.dep 5 45 _ rfl rfl rfl; (first | (cases (h45 : v45 = _)) | (obtain ⟨rfl, h45⟩ := h45) | skip); have hj := hk.j; clear hk; have z0 := hj.1.cell 3 _ rfl; have z1 := hj.2.1.m.cell 1 _ rfl; have z2 := look_q hj.2.1.c b OKb.out; go_simp; refine hK _ _ ?_ (Below.refl _ _); apply Rg.mk))) ?_ rfl
  refine Rg.build_cons (m := 8) (r := Rg.eq _) (Rg.one_plain (by rfl) (by (intro ax wx hk Kx hK; obtain ⟨v46, k46, h46⟩ := hk.dep 6 46 _ rfl rfl rfl; (first | (cases (h46 : v46 = _)) | (obtain ⟨rfl, h46⟩ := h46) | skip); have hj := hk.j; clear hk; have z0 := hj.1.cell 3 _ rfl; have z1 := hj.2.1.m.cell 1 _ rfl; have z2 := look_q hj.2.1.c b OKb.out; go_simp; refine hK _ _ ?_ (Below.refl _ _); apply Rg.mk))) ?_ rfl
  refine Rg.build_end fun wx hj => ?_
  refine Rg.fin_eq rfl ?_
  refine Rg.fin_eq rfl ?_
  refine Rg.fin_eq rfl ?_
  refine Rg.fin_eq rfl ?_
  refine Rg.fin_eq rfl ?_
  refine Rg.fin_eq rfl ?_
  refine Rg.fin_eq rfl ?_
  refine Rg.fin_eq rfl ?_
  refine Rg.fin_nil ?_
  simp only [List.set_cons_zero, List.set_cons_succ]
  have l1 := hj.1; have hM := hj.2.1
  have hO := HO.out.trans (Only.of_below (S := rfS g mp lv) hj.2.2) (fun k hk => .inl hk)
  clear L1 HM2 HO hj
  have L1 := Lib.hid l1; have HM2 := Lib.hid hM; have HO := Lib.hid hO
  clear l1 hM hO wz
  have c0 := L1.out.cell 0 _ rfl
  have c5 := L1.out.cell 5 _ rfl
  go_upto_region 44 with (fail)
  clear c0 c5
  obtain ⟨wz, rfl⟩ : ∃ wz : World, wz = wx := ⟨_, rfl⟩
  have NM : Hid (v30.ownBlock ≠ some mp ∧ mp ≠ g ∧ mp ≠ w.heap.size) := Lib.hid ⟨HM2.out.c.ne_own HM2.out.t, HM2.out.c.ne HM2.out.m, HM2.out.c.ne L1.out⟩
  refine RgX.start (by kernel_rfl) [(7, fun w5 w6 => w5.grownBy w6 (some mp))] [⟨fun w5 => AtG w5 w.heap.size 35 #[.int .i64 5, .int .i64 d, .int .i64 a, .int .i64 b, .int .i64 c, .int .u64 n] ∧ AtG w5 g 43 #[.int .i64 k, .map (some mp), v30] ∧ w5.ownsRow 0 35 6 v30 TL.length (flat6 TL) ∧ Only (rfS g mp lv) wz w5, none⟩, ⟨fun w5 => OwnF w5 Try.prog 3 29 .u64 mp s (mapF q), some 7⟩] ⟨⟨fun _ _ h hb => ⟨h.1.below hb, h.2.1.below hb, own_below h.2.2.1 hb, h.2.2.2.trans (Only.of_below (S := rfS g mp lv) hb) (fun k hk => .inl hk)⟩, ⟨fun _ _ _ _ => (fun w5 w6 h he => ⟨h.1.grown he (fun e => NM.out.2.2 (by injection e)), h.2.1.grown he (fun e => NM.out.2.1 (by injection e)), own_only h.2.2.1 (Only.of_grown (S := fun q => q = mp) he (fun q hq => by injection hq with e; exact e.symm)) (fun q hq e => NM.out.1 (by rw [hq, e])), h.2.2.2.trans (Only.of_grown (S := rfS g mp lv) he (fun q hq => by injection hq with e; exact .inr (.inl e.symm))) (fun k hk => .inl hk)⟩), trivial⟩⟩, ⟨fun _ _ h hb => h.below hb, ⟨fun _ h _ _ => absurd rfl h, trivial⟩⟩, trivial⟩ (by kernel_rfl) (by kernel_rfl) ⟨⟨L1.out.drew, HM2.out.m.drew, HM2.out.t, (Only.refl _).drew⟩, HM2.out.c.drew, trivial⟩ ?_
  show RgX.Build _ _ _ _ _ _ 0 [_, _, _, _, _, _, _, _] []
  refine RgX.build_cons (m := 1) (r := RgX.eq _) (RgX.one_plain (by rfl) (by (intro ax wx hk Kx hK; have k0 := hk.base 0 _ rfl rfl; have hL := hk.fact 0 0 _ rfl rfl; (try dsimp only at hL); have hc := hk.fact 1 1 _ rfl rfl; (try dsimp only at hc); clear hk; go_simp; refine hK _ _ (fun h => by cases h) (fun _ _ => ?_) (Below.refl _ _); apply RgX.mk))) ?_ rfl RgX.keep_eq (fun _ h => by cases h)
  refine RgX.build_cons (m := 2) (r := RgX.eq _) (RgX.one_plain (by rfl) (by (intro ax wx hk Kx hK; obtain ⟨v126, k126, h126⟩ := hk.dep 0 0 126 _ rfl rfl rfl; (first | (replace h126 := h126 9 undef rfl rfl; first | (cases (h126 : v126 = _)) | (obtain ⟨rfl, h126⟩ := h126) | skip) | skip); have hL := hk.fact 0 0 _ rfl rfl; (try dsimp only at hL); have hc := hk.fact 1 1 _ rfl rfl; (try dsimp only at hc); clear hk; go_simp; refine hK _ _ (fun h => by cases h) (fun _ _ => ?_) (Below.refl _ _); apply RgX.mk))) ?_ rfl RgX.keep_eq (fun _ h => by cases h)
  refine RgX.build_cons (m := 3) (r := RgX.eq _) (RgX.one_plain (by rfl) (by (intro ax wx hk Kx hK; obtain ⟨v127, k127, h127⟩ := hk.dep 0 1 127 _ rfl rfl rfl; (first | (replace h127 := h127 9 undef rfl rfl; first | (cases (h127 : v127 = _)) | (obtain ⟨rfl, h127⟩ := h127) | skip) | skip); have hL := hk.fact 0 0 _ rfl rfl; (try dsimp only at hL); have hc := hk.fact 1 1 _ rfl rfl; (try dsimp only at hc); clear hk; go_simp; refine hK _ _ (fun h => by cases h) (fun _ _ => ?_) (Below.refl _ _); apply RgX.mk))) ?_ rfl RgX.keep_eq (fun _ h => by cases h)
  refine RgX.build_cons (m := 4) (r := RgX.eq _) (RgX.one_plain (by rfl) (by (intro ax wx hk Kx hK; obtain ⟨v128, k128, h128⟩ := hk.dep 0 2 128 _ rfl rfl rfl; (first | (replace h128 := h128 9 undef rfl rfl; first | (cases (h128 : v128 = _)) | (obtain ⟨rfl, h128⟩ := h128) | skip) | skip); have hL := hk.fact 0 0 _ rfl rfl; (try dsimp only at hL); have hc := hk.fact 1 1 _ rfl rfl; (try dsimp only at hc); clear hk; have z0 := hL.2.1.cell 1 _ rfl; go_simp; refine hK _ _ (fun h => by cases h) (fun _ _ => ?_) (Below.refl _ _); apply RgX.mk))) ?_ rfl RgX.keep_eq (fun _ h => by cases h)
  refine RgX.build_cons (m := 5) (r := RgX.eq _) (RgX.one_plain (by rfl) (by (intro ax wx hk Kx hK; have k3 := hk.base 3 _ rfl rfl; have hL := hk.fact 0 0 _ rfl rfl; (try dsimp only at hL); have hc := hk.fact 1 1 _ rfl rfl; (try dsimp only at hc); clear hk; go_simp; refine hK _ _ (fun h => by cases h) (fun _ _ => ?_) (Below.refl _ _); apply RgX.mk))) ?_ rfl RgX.keep_eq (fun _ h => by cases h)
  refine RgX.build_cons (m := 6) (r := RgX.eq _) (RgX.one_plain (by rfl) (by (intro ax wx hk Kx hK; obtain ⟨v130, k130, h130⟩ := hk.dep 0 4 130 _ rfl rfl rfl; (first | (replace h130 := h130 9 undef rfl rfl; first | (cases (h130 : v130 = _)) | (obtain ⟨rfl, h130⟩ := h130) | skip) | skip); have hL := hk.fact 0 0 _ rfl rfl; (try dsimp only at hL); have hc := hk.fact 1 1 _ rfl rfl; (try dsimp only at hc); clear hk; have z0 := hL.1.cell 1 _ rfl; go_simp; refine hK _ _ (fun h => by cases h) (fun _ _ => ?_) (Below.refl _ _); apply RgX.mk))) ?_ rfl RgX.keep_eq (fun _ h => by cases h)
  refine RgX.build_cons (m := 7) (r := RgX.eq _) (RgX.one_plain (by rfl) (by (intro ax wx hk Kx hK; have k10 := hk.base 10 _ rfl rfl; have hL := hk.fact 0 0 _ rfl rfl; (try dsimp only at hL); have hc := hk.fact 1 1 _ rfl rfl; (try dsimp only at hc); clear hk; go_simp; refine hK _ _ (fun h => by cases h) (fun _ _ => ?_) (Below.refl _ _); apply RgX.mk))) ?_ rfl RgX.keep_eq (fun _ h => by cases h)
  refine RgX.build_cons (m := 8) (r := (⟨fun _ _ w5 => ∃ s', s' ≤ s + 1 ∧ OwnF w5 Try.prog 3 29 .u64 mp s' (mapF (putQ q d (atQ q a))), none, none⟩ : RgX.Rl)) (RgX.one_plain (by rfl) (by (intro ax wx hk Kx hK; obtain ⟨v129, k129, h129⟩ := hk.dep 0 3 129 _ rfl rfl rfl; (first | (replace h129 := h129 9 undef rfl rfl; first | (cases (h129 : v129 = _)) | (obtain ⟨rfl, h129⟩ := h129) | skip) | skip); obtain ⟨v131, k131, h131⟩ := hk.dep 0 5 131 _ rfl rfl rfl; (first | (replace h131 := h131 9 undef rfl rfl; first | (cases (h131 : v131 = _)) | (obtain ⟨rfl, h131⟩ := h131) | skip) | skip); obtain ⟨v132, k132, h132⟩ := hk.dep 0 6 132 _ rfl rfl rfl; (first | (replace h132 := h132 9 undef rfl rfl; first | (cases (h132 : v132 = _)) | (obtain ⟨rfl, h132⟩ := h132) | skip) | skip); have hL := hk.fact 0 0 _ rfl rfl; (try dsimp only at hL); have hc := hk.fact 1 0 _ rfl rfl; (try dsimp only at hc); clear hk; (obtain ⟨w8, hrun, hs8, hg8⟩ := store_q hc d (atQ q a) OKd.out VV.out HSS.out; go_simp; exact hK undef _ (fun _ => rfl) (fun u hu => hs8) hg8)))) ?_ rfl (RgX.keep_r (fun _ _ _ _ h hb => by obtain ⟨s', h1, h2⟩ := h; exact ⟨s', h1, h2.below hb⟩) (fun _ _ => ⟨fun h _ _ _ => absurd rfl h, trivial⟩)) (fun _ h => by cases h)
  refine RgX.build_end fun wx hj => ?_
  have hL := hj 0 _ rfl rfl
  clear hj
  refine RgX.fin_eq rfl ?_
  refine RgX.fin_eq rfl ?_
  refine RgX.fin_eq rfl ?_
  refine RgX.fin_eq rfl ?_
  refine RgX.fin_eq rfl ?_
  refine RgX.fin_eq rfl ?_
  refine RgX.fin_eq rfl ?_
  refine RgX.fin_none rfl fun s7 => ?_
  refine RgX.fin_nil ?_
  simp only [List.set_cons_zero, List.set_cons_succ]
  obtain ⟨s', hs', hc'⟩ := s7 rfl undef rfl
  have hf : RfM wx g mp v30 k s' (putQ q d (atQ q a)) TL := ⟨hL.2.1, hc', hL.2.2.1, (fun cc => by unfold putQ; split; exact VV.out; exact HM2.out.v cc)⟩
  have HF := Lib.hid hf
  have HO2 := Lib.hid (HO.out.trans hL.2.2.2 (fun k hk => .inl hk))
  have HSL := Lib.hid hs'
  clear hL hc' hf s7 hs'
  go_wp2_with fail
  go_returns
  refine ⟨v30, s', ?_, ?_, HO2.out, HBK.out, HSL.out⟩
  · have e : outR q ⟨5, d, a, b, c, n⟩ = 0 := by unfold outR; rw [if_neg N11.out]
    rw [e]; rfl
  · have e1 : nextR q ⟨5, d, a, b, c, n⟩ = putQ q d (atQ q a) := by unfold nextR; rw [if_neg N11.out]; exact congrArg (putQ q d) EV.out
    have e2 : Ins.seen ⟨5, d, a, b, c, n⟩ = ⟨5, d, a, b, c, n⟩ := ESN.out
    rw [e1, e2, ← HTL.out]
    exact HF.out
set_option maxRecDepth 100000 in
set_option maxHeartbeats 4000000 in
theorem refDo_csub2 (d a b c n : Int) (g mp k s : Nat) (lv : Value) (q : Int → Option Int) (tr : List Ins) (w : World) (h : RfM w g mp lv k s q tr) (hm : mayP k ⟨5, d, a, b, c, n⟩ = true) (htr : tr.length ≤ 1000000000000) (hs : s ≤ 1000000000000) (ho : Ins.ok ⟨5, d, a, b, c, n⟩) (hge : atQ q b ≤ atQ q a) :
    Calls Try.prog 11 #[.pointer (some ⟨g, 0, none⟩), Ins.val ⟨5, d, a, b, c, n⟩] w (RfPost g mp k s lv q tr ⟨5, d, a, b, c, n⟩ w) := by
  have HH := Lib.hid h
  have OKd := Lib.hid ho.2.1; have OKa := Lib.hid ho.2.2.1; have OKb := Lib.hid ho.2.2.2.1; have OKc := Lib.hid ho.2.2.2.2.1; have OKn := Lib.hid ho.2.2.2.2.2
  have H := Lib.hid h; have HM := Lib.hid hm; have HTR := Lib.hid htr; have HSS := Lib.hid hs; clear h hm htr hs ho
  unfold Ins.val Ins.cells
  dsimp only
  have hge2 : decide (atQ q b ≤ atQ q a) = true := by simpa using hge
  have hN11 : ¬ (5 : Int) = 11 := by decide
  have hEV : newR q ⟨5, d, a, b, c, n⟩ = atQ q a - atQ q b := by show (if atQ q a < atQ q b then atQ q a else atQ q a - atQ q b) = _; rw [if_neg (by omega)]
  have hESN : Ins.seen ⟨5, d, a, b, c, n⟩ = ⟨5, d, a, b, c, n⟩ := rfl
  have N11 : Hid (¬ (5 : Int) = 11) := Lib.hid hN11
  have EV : Hid (newR q ⟨5, d, a, b, c, n⟩ = (atQ q a - atQ q b)) := Lib.hid hEV
  have ESN : Hid (Ins.seen ⟨5, d, a, b, c, n⟩ = ⟨5, d, a, b, c, n⟩) := Lib.hid hESN
  have hA := HH.out.v a; have hB := HH.out.v b; have hC := HH.out.v c
  have VV : Hid (0 ≤ (atQ q a - atQ q b) ∧ (atQ q a - atQ q b) < 18446744073709551616) := Lib.hid (by have h := valP_in 5 (atQ q a) (atQ q b) (atQ q c) n hA hB hC ⟨OKn.out.1, by have h5 : n ≤ 18446744073709551615 := OKn.out.2; omega⟩; rw [show valP 5 (atQ q a) (atQ q b) (atQ q c) n = (atQ q a - atQ q b) from hEV] at h; exact h)
  clear hN11 hEV hESN hA hB hC
  go_enter Try.func11, Try.ntmps11
  go_upto_region 1 with (fail)
  have f1 : AtG (w.alloc (.cells #[.int .i64 5, .int .i64 d, .int .i64 a, .int .i64 b, .int .i64 c, .int .u64 n] 35)) w.heap.size 35 #[.int .i64 5, .int .i64 d, .int .i64 a, .int .i64 b, .int .i64 c, .int .u64 n] := AtG.new _ _ _
  have f2 : Below w.heap.size w (w.alloc (.cells #[.int .i64 5, .int .i64 d, .int .i64 a, .int .i64 b, .int .i64 c, .int .u64 n] 35)) := by go_grown
  generalize w.alloc (.cells #[.int .i64 5, .int .i64 d, .int .i64 a, .int .i64 b, .int .i64 c, .int .u64 n] 35) = w2 at f1 f2 ⊢
  have c0 := f1.cell 0 _ rfl
  have c1 := f1.cell 1 _ rfl
  have c2 := f1.cell 2 _ rfl
  have c3 := f1.cell 3 _ rfl
  have c4 := f1.cell 4 _ rfl
  have c5 := f1.cell 5 _ rfl
  have F1 := Lib.hid f1; have F2 := Lib.hid f2
  clear f1 f2
  go_wp2_with fail
  refine (refMay_any ⟨5, d, a, b, c, n⟩ g mp k s lv q tr w2 (H.out.below F2.out)).mono ?_
  rw [HM.out]
  rintro e9 w3 ⟨rfl, hb⟩
  have g1 := F1.out.below hb
  have g2 := F2.out.trans (hb.mono F2.out.size)
  clear c0 c1 c2 c3 c4 c5 F1 F2 hb
  have c0 := g1.cell 0 _ rfl
  have c1 := g1.cell 1 _ rfl
  have c2 := g1.cell 2 _ rfl
  have c3 := g1.cell 3 _ rfl
  have c4 := g1.cell 4 _ rfl
  have c5 := g1.cell 5 _ rfl
  have hz := g1.lt
  have G1 := Lib.hid g1; have G2 := Lib.hid g2
  clear g1 g2
  go_upto_region 7 with (fail)
  have q1 : AtG (w3.alloc (.cells #[.int .i64 5, .int .i64 d, .int .i64 a, .int .i64 b, .int .i64 c, .int .u64 n] 35)) w.heap.size 35 #[.int .i64 5, .int .i64 d, .int .i64 a, .int .i64 b, .int .i64 c, .int .u64 n] := G1.out.alloc _
  have q2 : AtG (w3.alloc (.cells #[.int .i64 5, .int .i64 d, .int .i64 a, .int .i64 b, .int .i64 c, .int .u64 n] 35)) w3.heap.size 35 #[.int .i64 5, .int .i64 d, .int .i64 a, .int .i64 b, .int .i64 c, .int .u64 n] := AtG.new _ _ _
  have q3 : Below w.heap.size w (w3.alloc (.cells #[.int .i64 5, .int .i64 d, .int .i64 a, .int .i64 b, .int .i64 c, .int .u64 n] 35)) := G2.out.alloc G2.out.size _
  have q4 : RfM (w3.alloc (.cells #[.int .i64 5, .int .i64 d, .int .i64 a, .int .i64 b, .int .i64 c, .int .u64 n] 35)) g mp lv k s q tr := H.out.below q3
  have q5 := H.out.lt
  generalize w3.alloc (.cells #[.int .i64 5, .int .i64 d, .int .i64 a, .int .i64 b, .int .i64 c, .int .u64 n] 35) = w4 at q1 q2 q3 q4 ⊢
  have NE : Hid (lv.ownBlock ≠ some w.heap.size ∧ lv.ownBlock ≠ some w3.heap.size ∧ lv.ownBlock ≠ some mp ∧ lv.ownBlock ≠ some g) :=
    Lib.hid ⟨fun e => by have := q5 _ (.inr (.inr e)); omega, fun e => by have := q5 _ (.inr (.inr e)); omega, q4.c.ne_own q4.t, own_ne q4.t q4.m (by decide)⟩
  have NG : Hid (w.heap.size ≠ g ∧ w3.heap.size ≠ g ∧ mp ≠ g ∧ g < w4.heap.size) :=
    Lib.hid ⟨fun e => by have := q5 g (.inl rfl); omega, fun e => by have := q5 g (.inl rfl); omega, q4.c.ne q4.m, q4.m.lt⟩
  have Q1 := Lib.hid q1; have Q2 := Lib.hid q2; have Q3 := Lib.hid q3; have Q4 := Lib.hid q4; have Q5 := Lib.hid q5
  clear q1 q2 q3 q4 q5 c0 c1 c2 c3 c4 c5 G1 G2 hz
  refine RgX.start (by kernel_rfl) [(7, fun w5 w6 => w5.grownBy w6 lv.ownBlock), (10, fun w5 w6 => ∃ v, w6 = w5.setCell ⟨g, 2, none⟩ v)] [⟨fun w5 => AtG w5 w.heap.size 35 #[.int .i64 5, .int .i64 d, .int .i64 a, .int .i64 b, .int .i64 c, .int .u64 n] ∧ AtG w5 w3.heap.size 35 #[.int .i64 5, .int .i64 d, .int .i64 a, .int .i64 b, .int .i64 c, .int .u64 n] ∧ OwnF w5 Try.prog 3 29 .u64 mp s (mapF q) ∧ Only (rfS g mp lv) w4 w5, none⟩, ⟨fun w5 => AtG w5 g 43 #[.int .i64 k, .map (some mp), lv], some 10⟩, ⟨fun w5 => w5.ownsRow 0 35 6 lv tr.length (flat6 tr), some 7⟩] ⟨⟨fun _ _ h hb => ⟨h.1.below hb, h.2.1.below hb, h.2.2.1.below hb, h.2.2.2.trans (Only.of_below (S := rfS g mp lv) hb) (fun k hk => .inl hk)⟩, ⟨fun _ _ _ _ => (fun w5 w6 h he => ⟨h.1.grown he NE.out.1, h.2.1.grown he NE.out.2.1, h.2.2.1.kept he (fun e => NE.out.2.2.1 e.symm), h.2.2.2.trans (Only.of_grown (S := rfS g mp lv) he (fun k hk => .inr (.inr hk))) (fun k hk => .inl hk)⟩), fun _ _ _ _ => (fun w5 w6 h he => by obtain ⟨v, rfl⟩ := he; exact ⟨h.1.far NG.out.1 _, h.2.1.far NG.out.2.1 _, h.2.2.1.far NG.out.2.2.1 _, h.2.2.2.trans (Only.set (S := rfS g mp lv) _ _ _ _ (.inl rfl)) (fun k hk => .inl hk)⟩), trivial⟩⟩, ⟨fun _ _ h hb => h.below hb, ⟨fun _ _ _ _ => (fun w5 w6 h he => h.grown he NE.out.2.2.2), fun _ h _ _ => absurd rfl h, trivial⟩⟩, ⟨fun _ _ h hb => own_below h hb, ⟨fun _ h _ _ => absurd rfl h, fun _ _ h _ => absurd ⟨7, 1, rfl, rfl⟩ h, trivial⟩⟩, trivial⟩ (by kernel_rfl) (by kernel_rfl) ⟨⟨Q1.out.drew, Q2.out.drew, Q4.out.c.drew, (Only.refl _).drew⟩, Q4.out.m.drew, Q4.out.t, trivial⟩ ?_
  show RgX.Build _ _ _ _ _ _ 0 [_, _, _, _, _, _, _, _, _, _, _] []
  refine RgX.build_cons (m := 1) (r := RgX.eq _) (RgX.one_plain (by rfl) (by (intro ax wx hk Kx hK; have k0 := hk.base 0 _ rfl rfl; have hL := hk.fact 0 0 _ rfl rfl; (try dsimp only at hL); have hm := hk.fact 1 1 _ rfl rfl; (try dsimp only at hm); clear hk; go_simp; refine hK _ _ (fun h => by cases h) (fun _ _ => ?_) (Below.refl _ _); apply RgX.mk))) ?_ rfl RgX.keep_eq (fun _ h => by cases h)
  refine RgX.build_cons (m := 2) (r := RgX.eq _) (RgX.one_plain (by rfl) (by (intro ax wx hk Kx hK; have k0 := hk.base 0 _ rfl rfl; have hL := hk.fact 0 0 _ rfl rfl; (try dsimp only at hL); have hm := hk.fact 1 1 _ rfl rfl; (try dsimp only at hm); have ht := hk.fact 2 4 _ rfl rfl; (try dsimp only at ht); clear hk; go_simp; refine hK _ _ (fun h => by cases h) (fun _ _ => ?_) (Below.refl _ _); apply RgX.mk))) ?_ rfl RgX.keep_eq (fun _ h => by cases h)
  refine RgX.build_cons (m := 3) (r := RgX.eq _) (RgX.one_plain (by rfl) (by (intro ax wx hk Kx hK; obtain ⟨v24, k24, h24⟩ := hk.dep 0 1 24 _ rfl rfl rfl; (first | (replace h24 := h24 9 undef rfl rfl; first | (cases (h24 : v24 = _)) | (obtain ⟨rfl, h24⟩ := h24) | skip) | skip); have hL := hk.fact 0 0 _ rfl rfl; (try dsimp only at hL); have hm := hk.fact 1 1 _ rfl rfl; (try dsimp only at hm); have ht := hk.fact 2 3 _ rfl rfl; (try dsimp only at ht); clear hk; go_simp; refine hK _ _ (fun h => by cases h) (fun _ _ => ?_) (Below.refl _ _); apply RgX.mk))) ?_ rfl RgX.keep_eq (fun _ h => by cases h)
  refine RgX.build_cons (m := 4) (r := RgX.eq _) (RgX.one_plain (by rfl) (by (intro ax wx hk Kx hK; obtain ⟨v25, k25, h25⟩ := hk.dep 0 2 25 _ rfl rfl rfl; (first | (replace h25 := h25 9 undef rfl rfl; first | (cases (h25 : v25 = _)) | (obtain ⟨rfl, h25⟩ := h25) | skip) | skip); have hL := hk.fact 0 0 _ rfl rfl; (try dsimp only at hL); have hm := hk.fact 1 1 _ rfl rfl; (try dsimp only at hm); have ht := hk.fact 2 2 _ rfl rfl; (try dsimp only at ht); clear hk; go_simp; refine hK _ _ (fun h => by cases h) (fun _ _ => ?_) (Below.refl _ _); apply RgX.mk))) ?_ rfl RgX.keep_eq (fun _ h => by cases h)
  refine RgX.build_cons (m := 5) (r := RgX.eq _) (RgX.one_plain (by rfl) (by (intro ax wx hk Kx hK; obtain ⟨v26, k26, h26⟩ := hk.dep 0 3 26 _ rfl rfl rfl; (first | (replace h26 := h26 9 undef rfl rfl; first | (cases (h26 : v26 = _)) | (obtain ⟨rfl, h26⟩ := h26) | skip) | skip); have hL := hk.fact 0 0 _ rfl rfl; (try dsimp only at hL); have hm := hk.fact 1 1 _ rfl rfl; (try dsimp only at hm); have ht := hk.fact 2 1 _ rfl rfl; (try dsimp only at ht); clear hk; have z0 := hm.cell 2 _ rfl; go_simp; refine hK _ _ (fun h => by cases h) (fun _ _ => ?_) (Below.refl _ _); apply RgX.mk))) ?_ rfl RgX.keep_eq (fun _ h => by cases h)
  refine RgX.build_cons (m := 6) (r := RgX.eq _) (RgX.one_plain (by rfl) (by (intro ax wx hk Kx hK; have k7 := hk.base 7 _ rfl rfl; have hL := hk.fact 0 0 _ rfl rfl; (try dsimp only at hL); have hm := hk.fact 1 1 _ rfl rfl; (try dsimp only at hm); have ht := hk.fact 2 2 _ rfl rfl; (try dsimp only at ht); clear hk; have z0 := hL.2.1.cell 0 _ rfl; have z1 := hL.2.1.cell 1 _ rfl; have z2 := hL.2.1.cell 2 _ rfl; have z3 := hL.2.1.cell 3 _ rfl; have z4 := hL.2.1.cell 4 _ rfl; have z5 := hL.2.1.cell 5 _ rfl; go_simp; refine hK _ _ (fun h => by cases h) (fun _ _ => ?_) (Below.refl _ _); apply RgX.mk))) ?_ rfl RgX.keep_eq (fun _ h => by cases h)
  refine RgX.build_cons (m := 7) (r := (⟨fun v _ w5 => ∃ kk, v = .slice (some ⟨kk, 0, none⟩) 1 1 ∧ w4.heap.size ≤ kk ∧ AtG w5 kk 35 #[.int .i64 5, .int .i64 d, .int .i64 a, .int .i64 b, .int .i64 c, .int .u64 n], some 7, none⟩ : RgX.Rl)) (RgX.one_plain (by rfl) (by (intro ax wx hk Kx hK; obtain ⟨v28, k28, h28⟩ := hk.dep 0 5 28 _ rfl rfl rfl; (first | (replace h28 := h28 9 undef rfl rfl; first | (cases (h28 : v28 = _)) | (obtain ⟨rfl, h28⟩ := h28) | skip) | skip); have hL := hk.fact 0 0 _ rfl rfl; (try dsimp only at hL); have hm := hk.fact 1 1 _ rfl rfl; (try dsimp only at hm); have ht := hk.fact 2 1 _ rfl rfl; (try dsimp only at ht); clear hk; (go_simp; exact hK _ _ (fun h => by cases h) (fun u _ => ⟨wx.heap.size, rfl, hL.2.2.2.size, AtG.new _ _ _⟩) ((Below.refl _ _).alloc (Nat.le_refl _) _))))) ?_ rfl (RgX.keep_r (fun _ _ _ _ h hb => by obtain ⟨kk, h1, h2, h3⟩ := h; exact ⟨kk, h1, h2, h3.below hb⟩) (fun _ _ => ⟨fun _ h _ _ => absurd rfl h, fun _ _ h _ => absurd ⟨7, 1, rfl, rfl⟩ h, trivial⟩)) (fun _ h => by cases h)
  refine RgX.build_cons (m := 8) (r := (⟨fun v _ w5 => w5.ownsRow 0 35 6 v (tr.length + 1) (flat6 tr ++ [.int .i64 5, .int .i64 d, .int .i64 a, .int .i64 b, .int .i64 c, .int .u64 n]) ∧ (v.ownBlock = lv.ownBlock ∨ ∃ bb, v.ownBlock = some bb ∧ w4.heap.size ≤ bb), none, none⟩ : RgX.Rl)) (RgX.one_plain (by rfl) (by (intro ax wx hk Kx hK; obtain ⟨v27, k27, h27⟩ := hk.dep 0 4 27 _ rfl rfl rfl; (first | (replace h27 := h27 9 undef rfl rfl; first | (cases (h27 : v27 = _)) | (obtain ⟨rfl, h27⟩ := h27) | skip) | skip); obtain ⟨v29, k29, h29⟩ := hk.dep 0 6 29 _ rfl rfl rfl; (first | (replace h29 := h29 9 undef rfl rfl; first | (cases (h29 : v29 = _)) | (obtain ⟨rfl, h29⟩ := h29) | skip) | skip); have hL := hk.fact 0 0 _ rfl rfl; (try dsimp only at hL); have hm := hk.fact 1 1 _ rfl rfl; (try dsimp only at hm); have ht := hk.fact 2 0 _ rfl rfl; (try dsimp only at ht); clear hk; (obtain ⟨kk, rfl, hk0, hk1⟩ := h29; refine wp_appRowX (.tmp 27) (.tmp 29) 22 rfl 0 35 _ 6 48 Try.underlying22 infoIns rfl (by decide) lv _ tr.length 1 (flat6 tr) [.int .i64 5, .int .i64 d, .int .i64 a, .int .i64 b, .int .i64 c, .int .u64 n] ht (src_at hk1 1) (by simp [Act.eval, k27]) (by simp [Act.eval, k29]) rfl (by simp [Value.oneCell']) (by have := HTR.out; omega) (by decide) (Nat.zero_le _) ?_; intro v' w' ho hg hbk; exact hK _ _ (fun h => by cases h) (fun u _ => ⟨ho, hbk.elim .inl (fun e => .inr ⟨_, e, hL.2.2.2.size⟩)⟩) hg)))) ?_ rfl (RgX.keep_r (fun _ _ _ _ h hb => ⟨own_below h.1 hb, h.2⟩) (fun _ _ => ⟨fun h _ _ _ => absurd rfl h, fun _ _ _ _ => (fun w5 w6 h he => by obtain ⟨v, rfl⟩ := he; exact ⟨own_setFar h.1 h.2 NE.out.2.2.2 NG.out.2.2.2 _ _, h.2⟩), trivial⟩)) (fun _ h => by cases h)
  refine RgX.build_cons (m := 9) (r := RgX.eq _) (RgX.one_plain (by rfl) (by (intro ax wx hk Kx hK; obtain ⟨v23, k23, h23⟩ := hk.dep 0 0 23 _ rfl rfl rfl; (first | (replace h23 := h23 9 undef rfl rfl; first | (cases (h23 : v23 = _)) | (obtain ⟨rfl, h23⟩ := h23) | skip) | skip); have hL := hk.fact 0 0 _ rfl rfl; (try dsimp only at hL); have hm := hk.fact 1 2 _ rfl rfl; (try dsimp only at hm); clear hk; go_simp; refine hK _ _ (fun h => by cases h) (fun _ _ => ?_) (Below.refl _ _); apply RgX.mk))) ?_ rfl RgX.keep_eq (fun _ h => by cases h)
  refine RgX.build_cons (m := 10) (r := RgX.eq _) (RgX.one_plain (by rfl) (by (intro ax wx hk Kx hK; obtain ⟨v31, k31, h31⟩ := hk.dep 0 8 31 _ rfl rfl rfl; (first | (replace h31 := h31 9 undef rfl rfl; first | (cases (h31 : v31 = _)) | (obtain ⟨rfl, h31⟩ := h31) | skip) | skip); have hL := hk.fact 0 0 _ rfl rfl; (try dsimp only at hL); have hm := hk.fact 1 1 _ rfl rfl; (try dsimp only at hm); clear hk; go_simp; refine hK _ _ (fun h => by cases h) (fun _ _ => ?_) (Below.refl _ _); apply RgX.mk))) ?_ rfl RgX.keep_eq (fun _ h => by cases h)
  refine RgX.build_cons (m := 11) (r := (⟨fun _ u w5 => AtG w5 g 43 #[.int .i64 k, .map (some mp), u], none, some 7⟩ : RgX.Rl)) (RgX.one_plain (by rfl) (by (intro ax wx hk Kx hK; obtain ⟨v30, k30, h30⟩ := hk.dep 0 7 30 _ rfl rfl rfl; (first | (replace h30 := h30 9 undef rfl rfl; first | (cases (h30 : v30 = _)) | (obtain ⟨rfl, h30⟩ := h30) | skip) | skip); obtain ⟨v32, k32, h32⟩ := hk.dep 0 9 32 _ rfl rfl rfl; (first | (replace h32 := h32 9 undef rfl rfl; first | (cases (h32 : v32 = _)) | (obtain ⟨rfl, h32⟩ := h32) | skip) | skip); have hL := hk.fact 0 0 _ rfl rfl; (try dsimp only at hL); have hm := hk.fact 1 0 _ rfl rfl; (try dsimp only at hm); clear hk; (have z0 := hm.cell 2 _ rfl; have z1 := hm.frozen 2; obtain ⟨sa, sl, sc, rfl⟩ := own_slice h30.1; go_simp; refine hK undef _ (fun _ => rfl) (fun u hu => ?_) ⟨_, rfl⟩; obtain ⟨t, ht', hu⟩ := hu; cases ht'; rw [k30] at hu; cases hu; exact hm.set 2 _)))) ?_ rfl (RgX.keep_r (fun _ _ _ _ h hb => h.below hb) (fun _ _ => ⟨fun _ _ _ h => absurd ⟨1, rfl⟩ h, fun h _ _ _ => absurd rfl h, trivial⟩)) (fun j h => by cases h; exact ⟨0, rfl⟩)
  refine RgX.build_end fun wx hj => ?_
  have hL := hj 0 _ rfl rfl
  clear hj
  refine RgX.fin_eq rfl ?_
  refine RgX.fin_eq rfl ?_
  refine RgX.fin_eq rfl ?_
  refine RgX.fin_eq rfl ?_
  refine RgX.fin_eq rfl ?_
  refine RgX.fin_eq rfl ?_
  first | refine RgX.fin_eq rfl ?_ | refine RgX.fin_any rfl fun v29 h29 => ?_
  first | refine RgX.fin_eq rfl ?_ | refine RgX.fin_any rfl fun v30 h30 => ?_
  refine RgX.fin_eq rfl ?_
  refine RgX.fin_eq rfl ?_
  refine RgX.fin_none rfl fun s10 => ?_
  refine RgX.fin_nil ?_
  simp only [List.set_cons_zero, List.set_cons_succ]
  have hm' := s10 rfl v30 ⟨30, rfl, rfl⟩
  have ho := h30 rfl undef rfl
  have hM : RfM wx g mp v30 k s q (tr ++ [⟨5, d, a, b, c, n⟩]) := ⟨hm', hL.2.2.1, by rw [List.length_append, flat6_snoc]; exact ho.1, Q4.out.v⟩
  have hO : Only (rfS g mp lv) w wx := (Only.of_below Q3.out).trans hL.2.2.2 (fun k hk => .inl hk)
  have hB : v30.ownBlock = lv.ownBlock ∨ ∃ b, v30.ownBlock = some b ∧ w.heap.size ≤ b := ho.2.imp id (fun ⟨b, h1, h2⟩ => ⟨b, h1, Nat.le_trans Q3.out.size h2⟩)
  have l1 := hL.1
  obtain ⟨TL, hTL⟩ : ∃ TL : List Ins, TL = tr ++ [⟨5, d, a, b, c, n⟩] := ⟨_, rfl⟩
  rw [← hTL] at hM
  have HTL := Lib.hid hTL; clear hTL
  have HM2 := Lib.hid hM; have HO := Lib.hid hO; have HBK := Lib.hid hB
  have L1 := Lib.hid l1
  clear hm' ho hM hO hB l1 hL s10 h30 h29
  go_upto_region 8 with (fail)
  obtain ⟨wz, rfl⟩ : ∃ wz : World, wz = wx := ⟨_, rfl⟩
  refine Rg.wp_region_each (by kernel_rfl) (fun w' => AtG w' w.heap.size 35 #[.int .i64 5, .int .i64 d, .int .i64 a, .int .i64 b, .int .i64 c, .int .u64 n] ∧ RfM w' g mp v30 k s q TL ∧ Below wz.heap.size wz w') (fun w1 w2 h hb => ⟨h.1.below hb, h.2.1.below hb, h.2.2.trans (hb.mono h.2.2.size)⟩) (by kernel_rfl) (by kernel_rfl) (⟨L1.out, HM2.out, Below.refl _ _⟩) ?_
  show Rg.Build _ _ _ _ _ 0 [_, _, _, _, _, _, _, _] []
  refine Rg.build_cons (m := 1) (r := Rg.eq _) (Rg.one_plain (by rfl) (by (intro ax wx hk Kx hK; have k0 := hk.base 0 _ rfl rfl; have hj := hk.j; clear hk; have z0 := hj.1.cell 2 _ rfl; have z1 := hj.2.1.m.cell 1 _ rfl; have z2 := look_q hj.2.1.c a OKa.out; go_simp; refine hK _ _ ?_ (Below.refl _ _); apply Rg.mk))) ?_ rfl
  refine Rg.build_cons (m := 2) (r := Rg.eq _) (Rg.one_plain (by rfl) (by (intro ax wx hk Kx hK; obtain ⟨v33, k33, h33⟩ := hk.dep 0 33 _ rfl rfl rfl; (first | (cases (h33 : v33 = _)) | (obtain ⟨rfl, h33⟩ := h33) | skip); have hj := hk.j; clear hk; have z0 := hj.1.cell 2 _ rfl; have z1 := hj.2.1.m.cell 1 _ rfl; have z2 := look_q hj.2.1.c a OKa.out; go_simp; refine hK _ _ ?_ (Below.refl _ _); apply Rg.mk))) ?_ rfl
  refine Rg.build_cons (m := 3) (r := Rg.eq _) (Rg.one_plain (by rfl) (by (intro ax wx hk Kx hK; obtain ⟨v34, k34, h34⟩ := hk.dep 1 34 _ rfl rfl rfl; (first | (cases (h34 : v34 = _)) | (obtain ⟨rfl, h34⟩ := h34) | skip); have hj := hk.j; clear hk; have z0 := hj.1.cell 2 _ rfl; have z1 := hj.2.1.m.cell 1 _ rfl; have z2 := look_q hj.2.1.c a OKa.out; go_simp; refine hK _ _ ?_ (Below.refl _ _); apply Rg.mk))) ?_ rfl
  refine Rg.build_cons (m := 4) (r := Rg.eq _) (Rg.one_plain (by rfl) (by (intro ax wx hk Kx hK; obtain ⟨v35, k35, h35⟩ := hk.dep 2 35 _ rfl rfl rfl; (first | (cases (h35 : v35 = _)) | (obtain ⟨rfl, h35⟩ := h35) | skip); have hj := hk.j; clear hk; have z0 := hj.1.cell 2 _ rfl; have z1 := hj.2.1.m.cell 1 _ rfl; have z2 := look_q hj.2.1.c a OKa.out; go_simp; refine hK _ _ ?_ (Below.refl _ _); apply Rg.mk))) ?_ rfl
  refine Rg.build_cons (m := 5) (r := Rg.eq _) (Rg.one_plain (by rfl) (by (intro ax wx hk Kx hK; have k3 := hk.base 3 _ rfl rfl; have hj := hk.j; clear hk; have z0 := hj.1.cell 2 _ rfl; have z1 := hj.2.1.m.cell 1 _ rfl; have z2 := look_q hj.2.1.c a OKa.out; go_simp; refine hK _ _ ?_ (Below.refl _ _); apply Rg.mk))) ?_ rfl
  refine Rg.build_cons (m := 6) (r := Rg.eq _) (Rg.one_plain (by rfl) (by (intro ax wx hk Kx hK; obtain ⟨v37, k37, h37⟩ := hk.dep 4 37 _ rfl rfl rfl; (first | (cases (h37 : v37 = _)) | (obtain ⟨rfl, h37⟩ := h37) | skip); have hj := hk.j; clear hk; have z0 := hj.1.cell 2 _ rfl; have z1 := hj.2.1.m.cell 1 _ rfl; have z2 := look_q hj.2.1.c a OKa.out; go_simp; refine hK _ _ ?_ (Below.refl _ _); apply Rg.mk))) ?_ rfl
  refine Rg.build_cons (m := 7) (r := Rg.eq _) (Rg.one_plain (by rfl) (by (intro ax wx hk Kx hK; obtain ⟨v36, k36, h36⟩ := hk.dep 3 36 _ rfl rfl rfl; (first | (cases (h36 : v36 = _)) | (obtain ⟨rfl, h36⟩ := h36) | skip); obtain ⟨v38, k38, h38⟩ := hk.dep 5 38 _ rfl rfl rfl; (first | (cases (h38 : v38 = _)) | (obtain ⟨rfl, h38⟩ := h38) | skip); have hj := hk.j; clear hk; have z0 := hj.1.cell 2 _ rfl; have z1 := hj.2.1.m.cell 1 _ rfl; have z2 := look_q hj.2.1.c a OKa.out; go_simp; refine hK _ _ ?_ (Below.refl _ _); apply Rg.mk))) ?_ rfl
  refine Rg.build_cons (m := 8) (r := Rg.eq _) (Rg.one_plain (by rfl) (by (intro ax wx hk Kx hK; obtain ⟨v39, k39, h39⟩ := hk.dep 6 39 _ rfl rfl rfl; (first | (cases (h39 : v39 = _)) | (obtain ⟨rfl, h39⟩ := h39) | skip); have hj := hk.j; clear hk; have z0 := hj.1.cell 2 _ rfl; have z1 := hj.2.1.m.cell 1 _ rfl; have z2 := look_q hj.2.1.c a OKa.out; go_simp; refine hK _ _ ?_ (Below.refl _ _); apply Rg.mk))) ?_ rfl
  refine Rg.build_end fun wx hj => ?_
  refine Rg.fin_eq rfl ?_
  refine Rg.fin_eq rfl ?_
  refine Rg.fin_eq rfl ?_
  refine Rg.fin_eq rfl ?_
  refine Rg.fin_eq rfl ?_
  refine Rg.fin_eq rfl ?_
  refine Rg.fin_eq rfl ?_
  refine Rg.fin_eq rfl ?_
  refine Rg.fin_nil ?_
  simp only [List.set_cons_zero, List.set_cons_succ]
  have l1 := hj.1; have hM := hj.2.1
  have hO := HO.out.trans (Only.of_below (S := rfS g mp lv) hj.2.2) (fun k hk => .inl hk)
  clear L1 HM2 HO hj
  have L1 := Lib.hid l1; have HM2 := Lib.hid hM; have HO := Lib.hid hO
  clear l1 hM hO wz
  go_upto_region 9 with (fail)
  obtain ⟨wz, rfl⟩ : ∃ wz : World, wz = wx := ⟨_, rfl⟩
  refine Rg.wp_region_each (by kernel_rfl) (fun w' => AtG w' w.heap.size 35 #[.int .i64 5, .int .i64 d, .int .i64 a, .int .i64 b, .int .i64 c, .int .u64 n] ∧ RfM w' g mp v30 k s q TL ∧ Below wz.heap.size wz w') (fun w1 w2 h hb => ⟨h.1.below hb, h.2.1.below hb, h.2.2.trans (hb.mono h.2.2.size)⟩) (by kernel_rfl) (by kernel_rfl) (⟨L1.out, HM2.out, Below.refl _ _⟩) ?_
  show Rg.Build _ _ _ _ _ 0 [_, _, _, _, _, _, _, _] []
  refine Rg.build_cons (m := 1) (r := Rg.eq _) (Rg.one_plain (by rfl) (by (intro ax wx hk Kx hK; have k0 := hk.base 0 _ rfl rfl; have hj := hk.j; clear hk; have z0 := hj.1.cell 3 _ rfl; have z1 := hj.2.1.m.cell 1 _ rfl; have z2 := look_q hj.2.1.c b OKb.out; go_simp; refine hK _ _ ?_ (Below.refl _ _); apply Rg.mk))) ?_ rfl
  refine Rg.build_cons (m := 2) (r := Rg.eq _) (Rg.one_plain (by rfl) (by (intro ax wx hk Kx hK; obtain ⟨v40, k40, h40⟩ := hk.dep 0 40 _ rfl rfl rfl; (first | (cases (h40 : v40 = _)) | (obtain ⟨rfl, h40⟩ := h40) | skip); have hj := hk.j; clear hk; have z0 := hj.1.cell 3 _ rfl; have z1 := hj.2.1.m.cell 1 _ rfl; have z2 := look_q hj.2.1.c b OKb.out; go_simp; refine hK _ _ ?_ (Below.refl _ _); apply Rg.mk))) ?_ rfl
  refine Rg.build_cons (m := 3) (r := Rg.eq _) (Rg.one_plain (by rfl) (by (intro ax wx hk Kx hK; obtain ⟨v41, k41, h41⟩ := hk.dep 1 41 _ rfl rfl rfl; (first | (cases (h41 : v41 = _)) | (obtain ⟨rfl, h41⟩ := h41) | skip); have hj := hk.j; clear hk; have z0 := hj.1.cell 3 _ rfl; have z1 := hj.2.1.m.cell 1 _ rfl; have z2 := look_q hj.2.1.c b OKb.out; go_simp; refine hK _ _ ?_ (Below.refl _ _); apply Rg.mk))) ?_ rfl
  refine Rg.build_cons (m := 4) (r := Rg.eq _) (Rg.one_plain (by rfl) (by (intro ax wx hk Kx hK; obtain ⟨v42, k42, h42⟩ := hk.dep 2 42 _ rfl rfl rfl; (first | (cases (h42 : v42 = _)) | (obtain ⟨rfl, h42⟩ := h42) | skip); have hj := hk.j; clear hk; have z0 := hj.1.cell 3 _ rfl; have z1 := hj.2.1.m.cell 1 _ rfl; have z2 := look_q hj.2.1.c b OKb.out; go_simp; refine hK _ _ ?_ (Below.refl _ _); apply Rg.mk))) ?_ rfl
  refine Rg.build_cons (m := 5) (r := Rg.eq _) (Rg.one_plain (by rfl) (by (intro ax wx hk Kx hK; have k3 := hk.base 3 _ rfl rfl; have hj := hk.j; clear hk; have z0 := hj.1.cell 3 _ rfl; have z1 := hj.2.1.m.cell 1 _ rfl; have z2 := look_q hj.2.1.c b OKb.out; go_simp; refine hK _ _ ?_ (Below.refl _ _); apply Rg.mk))) ?_ rfl
  refine Rg.build_cons (m := 6) (r := Rg.eq _) (Rg.one_plain (by rfl) (by (intro ax wx hk Kx hK; obtain ⟨v44, k44, h44⟩ := hk.dep 4 44 _ rfl rfl rfl; (first | (cases (h44 : v44 = _)) | (obtain ⟨rfl, h44⟩ := h44) | skip); have hj := hk.j; clear hk; have z0 := hj.1.cell 3 _ rfl; have z1 := hj.2.1.m.cell 1 _ rfl; have z2 := look_q hj.2.1.c b OKb.out; go_simp; refine hK _ _ ?_ (Below.refl _ _); apply Rg.mk))) ?_ rfl
  refine Rg.build_cons (m := 7) (r := Rg.eq _) (Rg.one_plain (by rfl) (by (intro ax wx hk Kx hK; obtain ⟨v43, k43, h43⟩ := hk.dep 3 43 _ rfl rfl rfl; (first | (cases (h43 : v43 = _)) | (obtain ⟨rfl, h43⟩ := h43) | skip); obtain ⟨v45, k45, h45⟩ := hk.dep 5 45 _ rfl rfl rfl; (first | (cases (h45 : v45 = _)) | (obtain ⟨rfl, h45⟩ := h45) | skip); have hj := hk.j; clear hk; have z0 := hj.1.cell 3 _ rfl; have z1 := hj.2.1.m.cell 1 _ rfl; have z2 := look_q hj.2.1.c b OKb.out; go_simp; refine hK _ _ ?_ (Below.refl _ _); apply Rg.mk))) ?_ rfl
  refine Rg.build_cons (m := 8) (r := Rg.eq _) (Rg.one_plain (by rfl) (by (intro ax wx hk Kx hK; obtain ⟨v46, k46, h46⟩ := hk.dep 6 46 _ rfl rfl rfl; (first | (cases (h46 : v46 = _)) | (obtain ⟨rfl, h46⟩ := h46) | skip); have hj := hk.j; clear hk; have z0 := hj.1.cell 3 _ rfl; have z1 := hj.2.1.m.cell 1 _ rfl; have z2 := look_q hj.2.1.c b OKb.out; go_simp; refine hK _ _ ?_ (Below.refl _ _); apply Rg.mk))) ?_ rfl
  refine Rg.build_end fun wx hj => ?_
  refine Rg.fin_eq rfl ?_
  refine Rg.fin_eq rfl ?_
  refine Rg.fin_eq rfl ?_
  refine Rg.fin_eq rfl ?_
  refine Rg.fin_eq rfl ?_
  refine Rg.fin_eq rfl ?_
  refine Rg.fin_eq rfl ?_
  refine Rg.fin_eq rfl ?_
  refine Rg.fin_nil ?_
  simp only [List.set_cons_zero, List.set_cons_succ]
  have l1 := hj.1; have hM := hj.2.1
  have hO := HO.out.trans (Only.of_below (S := rfS g mp lv) hj.2.2) (fun k hk => .inl hk)
  clear L1 HM2 HO hj
  have L1 := Lib.hid l1; have HM2 := Lib.hid hM; have HO := Lib.hid hO
  clear l1 hM hO wz
  have c0 := L1.out.cell 0 _ rfl
  have c5 := L1.out.cell 5 _ rfl
  have z0 : 0 ≤ atQ q a - atQ q b := by omega
  have z1 : 0 ≤ atQ q b := (HH.out.v b).1
  have z2 : atQ q a < 18446744073709551616 := (HH.out.v a).2
  go_upto_region 44 with (fail)
  clear c0 c5
  obtain ⟨wz, rfl⟩ : ∃ wz : World, wz = wx := ⟨_, rfl⟩
  have NM : Hid (v30.ownBlock ≠ some mp ∧ mp ≠ g ∧ mp ≠ w.heap.size) := Lib.hid ⟨HM2.out.c.ne_own HM2.out.t, HM2.out.c.ne HM2.out.m, HM2.out.c.ne L1.out⟩
  refine RgX.start (by kernel_rfl) [(7, fun w5 w6 => w5.grownBy w6 (some mp))] [⟨fun w5 => AtG w5 w.heap.size 35 #[.int .i64 5, .int .i64 d, .int .i64 a, .int .i64 b, .int .i64 c, .int .u64 n] ∧ AtG w5 g 43 #[.int .i64 k, .map (some mp), v30] ∧ w5.ownsRow 0 35 6 v30 TL.length (flat6 TL) ∧ Only (rfS g mp lv) wz w5, none⟩, ⟨fun w5 => OwnF w5 Try.prog 3 29 .u64 mp s (mapF q), some 7⟩] ⟨⟨fun _ _ h hb => ⟨h.1.below hb, h.2.1.below hb, own_below h.2.2.1 hb, h.2.2.2.trans (Only.of_below (S := rfS g mp lv) hb) (fun k hk => .inl hk)⟩, ⟨fun _ _ _ _ => (fun w5 w6 h he => ⟨h.1.grown he (fun e => NM.out.2.2 (by injection e)), h.2.1.grown he (fun e => NM.out.2.1 (by injection e)), own_only h.2.2.1 (Only.of_grown (S := fun q => q = mp) he (fun q hq => by injection hq with e; exact e.symm)) (fun q hq e => NM.out.1 (by rw [hq, e])), h.2.2.2.trans (Only.of_grown (S := rfS g mp lv) he (fun q hq => by injection hq with e; exact .inr (.inl e.symm))) (fun k hk => .inl hk)⟩), trivial⟩⟩, ⟨fun _ _ h hb => h.below hb, ⟨fun _ h _ _ => absurd rfl h, trivial⟩⟩, trivial⟩ (by kernel_rfl) (by kernel_rfl) ⟨⟨L1.out.drew, HM2.out.m.drew, HM2.out.t, (Only.refl _).drew⟩, HM2.out.c.drew, trivial⟩ ?_
  show RgX.Build _ _ _ _ _ _ 0 [_, _, _, _, _, _, _, _] []
  refine RgX.build_cons (m := 1) (r := RgX.eq _) (RgX.one_plain (by rfl) (by (intro ax wx hk Kx hK; have k0 := hk.base 0 _ rfl rfl; have hL := hk.fact 0 0 _ rfl rfl; (try dsimp only at hL); have hc := hk.fact 1 1 _ rfl rfl; (try dsimp only at hc); clear hk; go_simp; refine hK _ _ (fun h => by cases h) (fun _ _ => ?_) (Below.refl _ _); apply RgX.mk))) ?_ rfl RgX.keep_eq (fun _ h => by cases h)
  refine RgX.build_cons (m := 2) (r := RgX.eq _) (RgX.one_plain (by rfl) (by (intro ax wx hk Kx hK; obtain ⟨v126, k126, h126⟩ := hk.dep 0 0 126 _ rfl rfl rfl; (first | (replace h126 := h126 9 undef rfl rfl; first | (cases (h126 : v126 = _)) | (obtain ⟨rfl, h126⟩ := h126) | skip) | skip); have hL := hk.fact 0 0 _ rfl rfl; (try dsimp only at hL); have hc := hk.fact 1 1 _ rfl rfl; (try dsimp only at hc); clear hk; go_simp; refine hK _ _ (fun h => by cases h) (fun _ _ => ?_) (Below.refl _ _); apply RgX.mk))) ?_ rfl RgX.keep_eq (fun _ h => by cases h)
  refine RgX.build_cons (m := 3) (r := RgX.eq _) (RgX.one_plain (by rfl) (by (intro ax wx hk Kx hK; obtain ⟨v127, k127, h127⟩ := hk.dep 0 1 127 _ rfl rfl rfl; (first | (replace h127 := h127 9 undef rfl rfl; first | (cases (h127 : v127 = _)) | (obtain ⟨rfl, h127⟩ := h127) | skip) | skip); have hL := hk.fact 0 0 _ rfl rfl; (try dsimp only at hL); have hc := hk.fact 1 1 _ rfl rfl; (try dsimp only at hc); clear hk; go_simp; refine hK _ _ (fun h => by cases h) (fun _ _ => ?_) (Below.refl _ _); apply RgX.mk))) ?_ rfl RgX.keep_eq (fun _ h => by cases h)
  refine RgX.build_cons (m := 4) (r := RgX.eq _) (RgX.one_plain (by rfl) (by (intro ax wx hk Kx hK; obtain ⟨v128, k128, h128⟩ := hk.dep 0 2 128 _ rfl rfl rfl; (first | (replace h128 := h128 9 undef rfl rfl; first | (cases (h128 : v128 = _)) | (obtain ⟨rfl, h128⟩ := h128) | skip) | skip); have hL := hk.fact 0 0 _ rfl rfl; (try dsimp only at hL); have hc := hk.fact 1 1 _ rfl rfl; (try dsimp only at hc); clear hk; have z0 := hL.2.1.cell 1 _ rfl; go_simp; refine hK _ _ (fun h => by cases h) (fun _ _ => ?_) (Below.refl _ _); apply RgX.mk))) ?_ rfl RgX.keep_eq (fun _ h => by cases h)
  refine RgX.build_cons (m := 5) (r := RgX.eq _) (RgX.one_plain (by rfl) (by (intro ax wx hk Kx hK; have k3 := hk.base 3 _ rfl rfl; have hL := hk.fact 0 0 _ rfl rfl; (try dsimp only at hL); have hc := hk.fact 1 1 _ rfl rfl; (try dsimp only at hc); clear hk; go_simp; refine hK _ _ (fun h => by cases h) (fun _ _ => ?_) (Below.refl _ _); apply RgX.mk))) ?_ rfl RgX.keep_eq (fun _ h => by cases h)
  refine RgX.build_cons (m := 6) (r := RgX.eq _) (RgX.one_plain (by rfl) (by (intro ax wx hk Kx hK; obtain ⟨v130, k130, h130⟩ := hk.dep 0 4 130 _ rfl rfl rfl; (first | (replace h130 := h130 9 undef rfl rfl; first | (cases (h130 : v130 = _)) | (obtain ⟨rfl, h130⟩ := h130) | skip) | skip); have hL := hk.fact 0 0 _ rfl rfl; (try dsimp only at hL); have hc := hk.fact 1 1 _ rfl rfl; (try dsimp only at hc); clear hk; have z0 := hL.1.cell 1 _ rfl; go_simp; refine hK _ _ (fun h => by cases h) (fun _ _ => ?_) (Below.refl _ _); apply RgX.mk))) ?_ rfl RgX.keep_eq (fun _ h => by cases h)
  refine RgX.build_cons (m := 7) (r := RgX.eq _) (RgX.one_plain (by rfl) (by (intro ax wx hk Kx hK; have k10 := hk.base 10 _ rfl rfl; have hL := hk.fact 0 0 _ rfl rfl; (try dsimp only at hL); have hc := hk.fact 1 1 _ rfl rfl; (try dsimp only at hc); clear hk; go_simp; refine hK _ _ (fun h => by cases h) (fun _ _ => ?_) (Below.refl _ _); apply RgX.mk))) ?_ rfl RgX.keep_eq (fun _ h => by cases h)
  refine RgX.build_cons (m := 8) (r := (⟨fun _ _ w5 => ∃ s', s' ≤ s + 1 ∧ OwnF w5 Try.prog 3 29 .u64 mp s' (mapF (putQ q d (atQ q a - atQ q b))), none, none⟩ : RgX.Rl)) (RgX.one_plain (by rfl) (by (intro ax wx hk Kx hK; obtain ⟨v129, k129, h129⟩ := hk.dep 0 3 129 _ rfl rfl rfl; (first | (replace h129 := h129 9 undef rfl rfl; first | (cases (h129 : v129 = _)) | (obtain ⟨rfl, h129⟩ := h129) | skip) | skip); obtain ⟨v131, k131, h131⟩ := hk.dep 0 5 131 _ rfl rfl rfl; (first | (replace h131 := h131 9 undef rfl rfl; first | (cases (h131 : v131 = _)) | (obtain ⟨rfl, h131⟩ := h131) | skip) | skip); obtain ⟨v132, k132, h132⟩ := hk.dep 0 6 132 _ rfl rfl rfl; (first | (replace h132 := h132 9 undef rfl rfl; first | (cases (h132 : v132 = _)) | (obtain ⟨rfl, h132⟩ := h132) | skip) | skip); have hL := hk.fact 0 0 _ rfl rfl; (try dsimp only at hL); have hc := hk.fact 1 0 _ rfl rfl; (try dsimp only at hc); clear hk; (obtain ⟨w8, hrun, hs8, hg8⟩ := store_q hc d (atQ q a - atQ q b) OKd.out VV.out HSS.out; go_simp; exact hK undef _ (fun _ => rfl) (fun u hu => hs8) hg8)))) ?_ rfl (RgX.keep_r (fun _ _ _ _ h hb => by obtain ⟨s', h1, h2⟩ := h; exact ⟨s', h1, h2.below hb⟩) (fun _ _ => ⟨fun h _ _ _ => absurd rfl h, trivial⟩)) (fun _ h => by cases h)
  refine RgX.build_end fun wx hj => ?_
  have hL := hj 0 _ rfl rfl
  clear hj
  refine RgX.fin_eq rfl ?_
  refine RgX.fin_eq rfl ?_
  refine RgX.fin_eq rfl ?_
  refine RgX.fin_eq rfl ?_
  refine RgX.fin_eq rfl ?_
  refine RgX.fin_eq rfl ?_
  refine RgX.fin_eq rfl ?_
  refine RgX.fin_none rfl fun s7 => ?_
  refine RgX.fin_nil ?_
  simp only [List.set_cons_zero, List.set_cons_succ]
  obtain ⟨s', hs', hc'⟩ := s7 rfl undef rfl
  have hf : RfM wx g mp v30 k s' (putQ q d (atQ q a - atQ q b)) TL := ⟨hL.2.1, hc', hL.2.2.1, (fun cc => by unfold putQ; split; exact VV.out; exact HM2.out.v cc)⟩
  have HF := Lib.hid hf
  have HO2 := Lib.hid (HO.out.trans hL.2.2.2 (fun k hk => .inl hk))
  have HSL := Lib.hid hs'
  clear hL hc' hf s7 hs'
  go_wp2_with fail
  go_returns
  refine ⟨v30, s', ?_, ?_, HO2.out, HBK.out, HSL.out⟩
  · have e : outR q ⟨5, d, a, b, c, n⟩ = 0 := by unfold outR; rw [if_neg N11.out]
    rw [e]; rfl
  · have e1 : nextR q ⟨5, d, a, b, c, n⟩ = putQ q d (atQ q a - atQ q b) := by unfold nextR; rw [if_neg N11.out]; exact congrArg (putQ q d) EV.out
    have e2 : Ins.seen ⟨5, d, a, b, c, n⟩ = ⟨5, d, a, b, c, n⟩ := ESN.out
    rw [e1, e2, ← HTL.out]
    exact HF.out
set_option maxRecDepth 100000 in
set_option maxHeartbeats 4000000 in
theorem refDo_sel1 (d a b c n : Int) (g mp k s : Nat) (lv : Value) (q : Int → Option Int) (tr : List Ins) (w : World) (h : RfM w g mp lv k s q tr) (hm : mayP k ⟨1, d, a, b, c, n⟩ = true) (htr : tr.length ≤ 1000000000000) (hs : s ≤ 1000000000000) (ho : Ins.ok ⟨1, d, a, b, c, n⟩) (hz0 : ¬ atQ q a = 0) :
    Calls Try.prog 11 #[.pointer (some ⟨g, 0, none⟩), Ins.val ⟨1, d, a, b, c, n⟩] w (RfPost g mp k s lv q tr ⟨1, d, a, b, c, n⟩ w) := by
  have HH := Lib.hid h
  have OKd := Lib.hid ho.2.1; have OKa := Lib.hid ho.2.2.1; have OKb := Lib.hid ho.2.2.2.1; have OKc := Lib.hid ho.2.2.2.2.1; have OKn := Lib.hid ho.2.2.2.2.2
  have H := Lib.hid h; have HM := Lib.hid hm; have HTR := Lib.hid htr; have HSS := Lib.hid hs; clear h hm htr hs ho
  unfold Ins.val Ins.cells
  dsimp only
  have hz1 : (atQ q a == 0) = false := by rw [beq_eq_false_iff_ne]; exact hz0
  have hN11 : ¬ (1 : Int) = 11 := by decide
  have hEV : newR q ⟨1, d, a, b, c, n⟩ = atQ q b := by show (if atQ q a = 0 then atQ q c else atQ q b) = _; rw [if_neg hz0]
  have hESN : Ins.seen ⟨1, d, a, b, c, n⟩ = ⟨1, d, a, b, c, n⟩ := rfl
  have N11 : Hid (¬ (1 : Int) = 11) := Lib.hid hN11
  have EV : Hid (newR q ⟨1, d, a, b, c, n⟩ = (atQ q b)) := Lib.hid hEV
  have ESN : Hid (Ins.seen ⟨1, d, a, b, c, n⟩ = ⟨1, d, a, b, c, n⟩) := Lib.hid hESN
  have hA := HH.out.v a; have hB := HH.out.v b; have hC := HH.out.v c
  have VV : Hid (0 ≤ (atQ q b) ∧ (atQ q b) < 18446744073709551616) := Lib.hid (by have h := valP_in 1 (atQ q a) (atQ q b) (atQ q c) n hA hB hC ⟨OKn.out.1, by have h5 : n ≤ 18446744073709551615 := OKn.out.2; omega⟩; rw [show valP 1 (atQ q a) (atQ q b) (atQ q c) n = (atQ q b) from hEV] at h; exact h)
  clear hN11 hEV hESN hA hB hC
  go_enter Try.func11, Try.ntmps11
  go_upto_region 1 with (fail)
  have f1 : AtG (w.alloc (.cells #[.int .i64 1, .int .i64 d, .int .i64 a, .int .i64 b, .int .i64 c, .int .u64 n] 35)) w.heap.size 35 #[.int .i64 1, .int .i64 d, .int .i64 a, .int .i64 b, .int .i64 c, .int .u64 n] := AtG.new _ _ _
  have f2 : Below w.heap.size w (w.alloc (.cells #[.int .i64 1, .int .i64 d, .int .i64 a, .int .i64 b, .int .i64 c, .int .u64 n] 35)) := by go_grown
  generalize w.alloc (.cells #[.int .i64 1, .int .i64 d, .int .i64 a, .int .i64 b, .int .i64 c, .int .u64 n] 35) = w2 at f1 f2 ⊢
  have c0 := f1.cell 0 _ rfl
  have c1 := f1.cell 1 _ rfl
  have c2 := f1.cell 2 _ rfl
  have c3 := f1.cell 3 _ rfl
  have c4 := f1.cell 4 _ rfl
  have c5 := f1.cell 5 _ rfl
  have F1 := Lib.hid f1; have F2 := Lib.hid f2
  clear f1 f2
  go_wp2_with fail
  refine (refMay_any ⟨1, d, a, b, c, n⟩ g mp k s lv q tr w2 (H.out.below F2.out)).mono ?_
  rw [HM.out]
  rintro e9 w3 ⟨rfl, hb⟩
  have g1 := F1.out.below hb
  have g2 := F2.out.trans (hb.mono F2.out.size)
  clear c0 c1 c2 c3 c4 c5 F1 F2 hb
  have c0 := g1.cell 0 _ rfl
  have c1 := g1.cell 1 _ rfl
  have c2 := g1.cell 2 _ rfl
  have c3 := g1.cell 3 _ rfl
  have c4 := g1.cell 4 _ rfl
  have c5 := g1.cell 5 _ rfl
  have hz := g1.lt
  have G1 := Lib.hid g1; have G2 := Lib.hid g2
  clear g1 g2
  go_upto_region 7 with (fail)
  have q1 : AtG (w3.alloc (.cells #[.int .i64 1, .int .i64 d, .int .i64 a, .int .i64 b, .int .i64 c, .int .u64 n] 35)) w.heap.size 35 #[.int .i64 1, .int .i64 d, .int .i64 a, .int .i64 b, .int .i64 c, .int .u64 n] := G1.out.alloc _
  have q2 : AtG (w3.alloc (.cells #[.int .i64 1, .int .i64 d, .int .i64 a, .int .i64 b, .int .i64 c, .int .u64 n] 35)) w3.heap.size 35 #[.int .i64 1, .int .i64 d, .int .i64 a, .int .i64 b, .int .i64 c, .int .u64 n] := AtG.new _ _ _
  have q3 : Below w.heap.size w (w3.alloc (.cells #[.int .i64 1, .int .i64 d, .int .i64 a, .int .i64 b, .int .i64 c, .int .u64 n] 35)) := G2.out.alloc G2.out.size _
  have q4 : RfM (w3.alloc (.cells #[.int .i64 1, .int .i64 d, .int .i64 a, .int .i64 b, .int .i64 c, .int .u64 n] 35)) g mp lv k s q tr := H.out.below q3
  have q5 := H.out.lt
  generalize w3.alloc (.cells #[.int .i64 1, .int .i64 d, .int .i64 a, .int .i64 b, .int .i64 c, .int .u64 n] 35) = w4 at q1 q2 q3 q4 ⊢
  have NE : Hid (lv.ownBlock ≠ some w.heap.size ∧ lv.ownBlock ≠ some w3.heap.size ∧ lv.ownBlock ≠ some mp ∧ lv.ownBlock ≠ some g) :=
    Lib.hid ⟨fun e => by have := q5 _ (.inr (.inr e)); omega, fun e => by have := q5 _ (.inr (.inr e)); omega, q4.c.ne_own q4.t, own_ne q4.t q4.m (by decide)⟩
  have NG : Hid (w.heap.size ≠ g ∧ w3.heap.size ≠ g ∧ mp ≠ g ∧ g < w4.heap.size) :=
    Lib.hid ⟨fun e => by have := q5 g (.inl rfl); omega, fun e => by have := q5 g (.inl rfl); omega, q4.c.ne q4.m, q4.m.lt⟩
  have Q1 := Lib.hid q1; have Q2 := Lib.hid q2; have Q3 := Lib.hid q3; have Q4 := Lib.hid q4; have Q5 := Lib.hid q5
  clear q1 q2 q3 q4 q5 c0 c1 c2 c3 c4 c5 G1 G2 hz
  refine RgX.start (by kernel_rfl) [(7, fun w5 w6 => w5.grownBy w6 lv.ownBlock), (10, fun w5 w6 => ∃ v, w6 = w5.setCell ⟨g, 2, none⟩ v)] [⟨fun w5 => AtG w5 w.heap.size 35 #[.int .i64 1, .int .i64 d, .int .i64 a, .int .i64 b, .int .i64 c, .int .u64 n] ∧ AtG w5 w3.heap.size 35 #[.int .i64 1, .int .i64 d, .int .i64 a, .int .i64 b, .int .i64 c, .int .u64 n] ∧ OwnF w5 Try.prog 3 29 .u64 mp s (mapF q) ∧ Only (rfS g mp lv) w4 w5, none⟩, ⟨fun w5 => AtG w5 g 43 #[.int .i64 k, .map (some mp), lv], some 10⟩, ⟨fun w5 => w5.ownsRow 0 35 6 lv tr.length (flat6 tr), some 7⟩] ⟨⟨fun _ _ h hb => ⟨h.1.below hb, h.2.1.below hb, h.2.2.1.below hb, h.2.2.2.trans (Only.of_below (S := rfS g mp lv) hb) (fun k hk => .inl hk)⟩, ⟨fun _ _ _ _ => (fun w5 w6 h he => ⟨h.1.grown he NE.out.1, h.2.1.grown he NE.out.2.1, h.2.2.1.kept he (fun e => NE.out.2.2.1 e.symm), h.2.2.2.trans (Only.of_grown (S := rfS g mp lv) he (fun k hk => .inr (.inr hk))) (fun k hk => .inl hk)⟩), fun _ _ _ _ => (fun w5 w6 h he => by obtain ⟨v, rfl⟩ := he; exact ⟨h.1.far NG.out.1 _, h.2.1.far NG.out.2.1 _, h.2.2.1.far NG.out.2.2.1 _, h.2.2.2.trans (Only.set (S := rfS g mp lv) _ _ _ _ (.inl rfl)) (fun k hk => .inl hk)⟩), trivial⟩⟩, ⟨fun _ _ h hb => h.below hb, ⟨fun _ _ _ _ => (fun w5 w6 h he => h.grown he NE.out.2.2.2), fun _ h _ _ => absurd rfl h, trivial⟩⟩, ⟨fun _ _ h hb => own_below h hb, ⟨fun _ h _ _ => absurd rfl h, fun _ _ h _ => absurd ⟨7, 1, rfl, rfl⟩ h, trivial⟩⟩, trivial⟩ (by kernel_rfl) (by kernel_rfl) ⟨⟨Q1.out.drew, Q2.out.drew, Q4.out.c.drew, (Only.refl _).drew⟩, Q4.out.m.drew, Q4.out.t, trivial⟩ ?_
  show RgX.Build _ _ _ _ _ _ 0 [_, _, _, _, _, _, _, _, _, _, _] []
  refine RgX.build_cons (m := 1) (r := RgX.eq _) (RgX.one_plain (by rfl) (by (intro ax wx hk Kx hK; have k0 := hk.base 0 _ rfl rfl; have hL := hk.fact 0 0 _ rfl rfl; (try dsimp only at hL); have hm := hk.fact 1 1 _ rfl rfl; (try dsimp only at hm); clear hk; go_simp; refine hK _ _ (fun h => by cases h) (fun _ _ => ?_) (Below.refl _ _); apply RgX.mk))) ?_ rfl RgX.keep_eq (fun _ h => by cases h)
  refine RgX.build_cons (m := 2) (r := RgX.eq _) (RgX.one_plain (by rfl) (by (intro ax wx hk Kx hK; have k0 := hk.base 0 _ rfl rfl; have hL := hk.fact 0 0 _ rfl rfl; (try dsimp only at hL); have hm := hk.fact 1 1 _ rfl rfl; (try dsimp only at hm); have ht := hk.fact 2 4 _ rfl rfl; (try dsimp only at ht); clear hk; go_simp; refine hK _ _ (fun h => by cases h) (fun _ _ => ?_) (Below.refl _ _); apply RgX.mk))) ?_ rfl RgX.keep_eq (fun _ h => by cases h)
  refine RgX.build_cons (m := 3) (r := RgX.eq _) (RgX.one_plain (by rfl) (by (intro ax wx hk Kx hK; obtain ⟨v24, k24, h24⟩ := hk.dep 0 1 24 _ rfl rfl rfl; (first | (replace h24 := h24 9 undef rfl rfl; first | (cases (h24 : v24 = _)) | (obtain ⟨rfl, h24⟩ := h24) | skip) | skip); have hL := hk.fact 0 0 _ rfl rfl; (try dsimp only at hL); have hm := hk.fact 1 1 _ rfl rfl; (try dsimp only at hm); have ht := hk.fact 2 3 _ rfl rfl; (try dsimp only at ht); clear hk; go_simp; refine hK _ _ (fun h => by cases h) (fun _ _ => ?_) (Below.refl _ _); apply RgX.mk))) ?_ rfl RgX.keep_eq (fun _ h => by cases h)
  refine RgX.build_cons (m := 4) (r := RgX.eq _) (RgX.one_plain (by rfl) (by (intro ax wx hk Kx hK; obtain ⟨v25, k25, h25⟩ := hk.dep 0 2 25 _ rfl rfl rfl; (first | (replace h25 := h25 9 undef rfl rfl; first | (cases (h25 : v25 = _)) | (obtain ⟨rfl, h25⟩ := h25) | skip) | skip); have hL := hk.fact 0 0 _ rfl rfl; (try dsimp only at hL); have hm := hk.fact 1 1 _ rfl rfl; (try dsimp only at hm); have ht := hk.fact 2 2 _ rfl rfl; (try dsimp only at ht); clear hk; go_simp; refine hK _ _ (fun h => by cases h) (fun _ _ => ?_) (Below.refl _ _); apply RgX.mk))) ?_ rfl RgX.keep_eq (fun _ h => by cases h)
  refine RgX.build_cons (m := 5) (r := RgX.eq _) (RgX.one_plain (by rfl) (by (intro ax wx hk Kx hK; obtain ⟨v26, k26, h26⟩ := hk.dep 0 3 26 _ rfl rfl rfl; (first | (replace h26 := h26 9 undef rfl rfl; first | (cases (h26 : v26 = _)) | (obtain ⟨rfl, h26⟩ := h26) | skip) | skip); have hL := hk.fact 0 0 _ rfl rfl; (try dsimp only at hL); have hm := hk.fact 1 1 _ rfl rfl; (try dsimp only at hm); have ht := hk.fact 2 1 _ rfl rfl; (try dsimp only at ht); clear hk; have z0 := hm.cell 2 _ rfl; go_simp; refine hK _ _ (fun h => by cases h) (fun _ _ => ?_) (Below.refl _ _); apply RgX.mk))) ?_ rfl RgX.keep_eq (fun _ h => by cases h)
  refine RgX.build_cons (m := 6) (r := RgX.eq _) (RgX.one_plain (by rfl) (by (intro ax wx hk Kx hK; have k7 := hk.base 7 _ rfl rfl; have hL := hk.fact 0 0 _ rfl rfl; (try dsimp only at hL); have hm := hk.fact 1 1 _ rfl rfl; (try dsimp only at hm); have ht := hk.fact 2 2 _ rfl rfl; (try dsimp only at ht); clear hk; have z0 := hL.2.1.cell 0 _ rfl; have z1 := hL.2.1.cell 1 _ rfl; have z2 := hL.2.1.cell 2 _ rfl; have z3 := hL.2.1.cell 3 _ rfl; have z4 := hL.2.1.cell 4 _ rfl; have z5 := hL.2.1.cell 5 _ rfl; go_simp; refine hK _ _ (fun h => by cases h) (fun _ _ => ?_) (Below.refl _ _); apply RgX.mk))) ?_ rfl RgX.keep_eq (fun _ h => by cases h)
  refine RgX.build_cons (m := 7) (r := (⟨fun v _ w5 => ∃ kk, v = .slice (some ⟨kk, 0, none⟩) 1 1 ∧ w4.heap.size ≤ kk ∧ AtG w5 kk 35 #[.int .i64 1, .int .i64 d, .int .i64 a, .int .i64 b, .int .i64 c, .int .u64 n], some 7, none⟩ : RgX.Rl)) (RgX.one_plain (by rfl) (by (intro ax wx hk Kx hK; obtain ⟨v28, k28, h28⟩ := hk.dep 0 5 28 _ rfl rfl rfl; (first | (replace h28 := h28 9 undef rfl rfl; first | (cases (h28 : v28 = _)) | (obtain ⟨rfl, h28⟩ := h28) | skip) | skip); have hL := hk.fact 0 0 _ rfl rfl; (try dsimp only at hL); have hm := hk.fact 1 1 _ rfl rfl; (try dsimp only at hm); have ht := hk.fact 2 1 _ rfl rfl; (try dsimp only at ht); clear hk; (go_simp; exact hK _ _ (fun h => by cases h) (fun u _ => ⟨wx.heap.size, rfl, hL.2.2.2.size, AtG.new _ _ _⟩) ((Below.refl _ _).alloc (Nat.le_refl _) _))))) ?_ rfl (RgX.keep_r (fun _ _ _ _ h hb => by obtain ⟨kk, h1, h2, h3⟩ := h; exact ⟨kk, h1, h2, h3.below hb⟩) (fun _ _ => ⟨fun _ h _ _ => absurd rfl h, fun _ _ h _ => absurd ⟨7, 1, rfl, rfl⟩ h, trivial⟩)) (fun _ h => by cases h)
  refine RgX.build_cons (m := 8) (r := (⟨fun v _ w5 => w5.ownsRow 0 35 6 v (tr.length + 1) (flat6 tr ++ [.int .i64 1, .int .i64 d, .int .i64 a, .int .i64 b, .int .i64 c, .int .u64 n]) ∧ (v.ownBlock = lv.ownBlock ∨ ∃ bb, v.ownBlock = some bb ∧ w4.heap.size ≤ bb), none, none⟩ : RgX.Rl)) (RgX.one_plain (by rfl) (by (intro ax wx hk Kx hK; obtain ⟨v27, k27, h27⟩ := hk.dep 0 4 27 _ rfl rfl rfl; (first | (replace h27 := h27 9 undef rfl rfl; first | (cases (h27 : v27 = _)) | (obtain ⟨rfl, h27⟩ := h27) | skip) | skip); obtain ⟨v29, k29, h29⟩ := hk.dep 0 6 29 _ rfl rfl rfl; (first | (replace h29 := h29 9 undef rfl rfl; first | (cases (h29 : v29 = _)) | (obtain ⟨rfl, h29⟩ := h29) | skip) | skip); have hL := hk.fact 0 0 _ rfl rfl; (try dsimp only at hL); have hm := hk.fact 1 1 _ rfl rfl; (try dsimp only at hm); have ht := hk.fact 2 0 _ rfl rfl; (try dsimp only at ht); clear hk; (obtain ⟨kk, rfl, hk0, hk1⟩ := h29; refine wp_appRowX (.tmp 27) (.tmp 29) 22 rfl 0 35 _ 6 48 Try.underlying22 infoIns rfl (by decide) lv _ tr.length 1 (flat6 tr) [.int .i64 1, .int .i64 d, .int .i64 a, .int .i64 b, .int .i64 c, .int .u64 n] ht (src_at hk1 1) (by simp [Act.eval, k27]) (by simp [Act.eval, k29]) rfl (by simp [Value.oneCell']) (by have := HTR.out; omega) (by decide) (Nat.zero_le _) ?_; intro v' w' ho hg hbk; exact hK _ _ (fun h => by cases h) (fun u _ => ⟨ho, hbk.elim .inl (fun e => .inr ⟨_, e, hL.2.2.2.size⟩)⟩) hg)))) ?_ rfl (RgX.keep_r (fun _ _ _ _ h hb => ⟨own_below h.1 hb, h.2⟩) (fun _ _ => ⟨fun h _ _ _ => absurd rfl h, fun _ _ _ _ => (fun w5 w6 h he => by obtain ⟨v, rfl⟩ := he; exact ⟨own_setFar h.1 h.2 NE.out.2.2.2 NG.out.2.2.2 _ _, h.2⟩), trivial⟩)) (fun _ h => by cases h)
  refine RgX.build_cons (m := 9) (r := RgX.eq _) (RgX.one_plain (by rfl) (by (intro ax wx hk Kx hK; obtain ⟨v23, k23, h23⟩ := hk.dep 0 0 23 _ rfl rfl rfl; (first | (replace h23 := h23 9 undef rfl rfl; first | (cases (h23 : v23 = _)) | (obtain ⟨rfl, h23⟩ := h23) | skip) | skip); have hL := hk.fact 0 0 _ rfl rfl; (try dsimp only at hL); have hm := hk.fact 1 2 _ rfl rfl; (try dsimp only at hm); clear hk; go_simp; refine hK _ _ (fun h => by cases h) (fun _ _ => ?_) (Below.refl _ _); apply RgX.mk))) ?_ rfl RgX.keep_eq (fun _ h => by cases h)
  refine RgX.build_cons (m := 10) (r := RgX.eq _) (RgX.one_plain (by rfl) (by (intro ax wx hk Kx hK; obtain ⟨v31, k31, h31⟩ := hk.dep 0 8 31 _ rfl rfl rfl; (first | (replace h31 := h31 9 undef rfl rfl; first | (cases (h31 : v31 = _)) | (obtain ⟨rfl, h31⟩ := h31) | skip) | skip); have hL := hk.fact 0 0 _ rfl rfl; (try dsimp only at hL); have hm := hk.fact 1 1 _ rfl rfl; (try dsimp only at hm); clear hk; go_simp; refine hK _ _ (fun h => by cases h) (fun _ _ => ?_) (Below.refl _ _); apply RgX.mk))) ?_ rfl RgX.keep_eq (fun _ h => by cases h)
  refine RgX.build_cons (m := 11) (r := (⟨fun _ u w5 => AtG w5 g 43 #[.int .i64 k, .map (some mp), u], none, some 7⟩ : RgX.Rl)) (RgX.one_plain (by rfl) (by (intro ax wx hk Kx hK; obtain ⟨v30, k30, h30⟩ := hk.dep 0 7 30 _ rfl rfl rfl; (first | (replace h30 := h30 9 undef rfl rfl; first | (cases (h30 : v30 = _)) | (obtain ⟨rfl, h30⟩ := h30) | skip) | skip); obtain ⟨v32, k32, h32⟩ := hk.dep 0 9 32 _ rfl rfl rfl; (first | (replace h32 := h32 9 undef rfl rfl; first | (cases (h32 : v32 = _)) | (obtain ⟨rfl, h32⟩ := h32) | skip) | skip); have hL := hk.fact 0 0 _ rfl rfl; (try dsimp only at hL); have hm := hk.fact 1 0 _ rfl rfl; (try dsimp only at hm); clear hk; (have z0 := hm.cell 2 _ rfl; have z1 := hm.frozen 2; obtain ⟨sa, sl, sc, rfl⟩ := own_slice h30.1; go_simp; refine hK undef _ (fun _ => rfl) (fun u hu => ?_) ⟨_, rfl⟩; obtain ⟨t, ht', hu⟩ := hu; cases ht'; rw [k30] at hu; cases hu; exact hm.set 2 _)))) ?_ rfl (RgX.keep_r (fun _ _ _ _ h hb => h.below hb) (fun _ _ => ⟨fun _ _ _ h => absurd ⟨1, rfl⟩ h, fun h _ _ _ => absurd rfl h, trivial⟩)) (fun j h => by cases h; exact ⟨0, rfl⟩)
  refine RgX.build_end fun wx hj => ?_
  have hL := hj 0 _ rfl rfl
  clear hj
  refine RgX.fin_eq rfl ?_
  refine RgX.fin_eq rfl ?_
  refine RgX.fin_eq rfl ?_
  refine RgX.fin_eq rfl ?_
  refine RgX.fin_eq rfl ?_
  refine RgX.fin_eq rfl ?_
  first | refine RgX.fin_eq rfl ?_ | refine RgX.fin_any rfl fun v29 h29 => ?_
  first | refine RgX.fin_eq rfl ?_ | refine RgX.fin_any rfl fun v30 h30 => ?_
  refine RgX.fin_eq rfl ?_
  refine RgX.fin_eq rfl ?_
  refine RgX.fin_none rfl fun s10 => ?_
  refine RgX.fin_nil ?_
  simp only [List.set_cons_zero, List.set_cons_succ]
  have hm' := s10 rfl v30 ⟨30, rfl, rfl⟩
  have ho := h30 rfl undef rfl
  have hM : RfM wx g mp v30 k s q (tr ++ [⟨1, d, a, b, c, n⟩]) := ⟨hm', hL.2.2.1, by rw [List.length_append, flat6_snoc]; exact ho.1, Q4.out.v⟩
  have hO : Only (rfS g mp lv) w wx := (Only.of_below Q3.out).trans hL.2.2.2 (fun k hk => .inl hk)
  have hB : v30.ownBlock = lv.ownBlock ∨ ∃ b, v30.ownBlock = some b ∧ w.heap.size ≤ b := ho.2.imp id (fun ⟨b, h1, h2⟩ => ⟨b, h1, Nat.le_trans Q3.out.size h2⟩)
  have l1 := hL.1
  obtain ⟨TL, hTL⟩ : ∃ TL : List Ins, TL = tr ++ [⟨1, d, a, b, c, n⟩] := ⟨_, rfl⟩
  rw [← hTL] at hM
  have HTL := Lib.hid hTL; clear hTL
  have HM2 := Lib.hid hM; have HO := Lib.hid hO; have HBK := Lib.hid hB
  have L1 := Lib.hid l1
  clear hm' ho hM hO hB l1 hL s10 h30 h29
  go_upto_region 8 with (fail)
  obtain ⟨wz, rfl⟩ : ∃ wz : World, wz = wx := ⟨_, rfl⟩
  refine Rg.wp_region_each (by kernel_rfl) (fun w' => AtG w' w.heap.size 35 #[.int .i64 1, .int .i64 d, .int .i64 a, .int .i64 b, .int .i64 c, .int .u64 n] ∧ RfM w' g mp v30 k s q TL ∧ Below wz.heap.size wz w') (fun w1 w2 h hb => ⟨h.1.below hb, h.2.1.below hb, h.2.2.trans (hb.mono h.2.2.size)⟩) (by kernel_rfl) (by kernel_rfl) (⟨L1.out, HM2.out, Below.refl _ _⟩) ?_
  show Rg.Build _ _ _ _ _ 0 [_, _, _, _, _, _, _, _] []
  refine Rg.build_cons (m := 1) (r := Rg.eq _) (Rg.one_plain (by rfl) (by (intro ax wx hk Kx hK; have k0 := hk.base 0 _ rfl rfl; have hj := hk.j; clear hk; have z0 := hj.1.cell 2 _ rfl; have z1 := hj.2.1.m.cell 1 _ rfl; have z2 := look_q hj.2.1.c a OKa.out; go_simp; refine hK _ _ ?_ (Below.refl _ _); apply Rg.mk))) ?_ rfl
  refine Rg.build_cons (m := 2) (r := Rg.eq _) (Rg.one_plain (by rfl) (by (intro ax wx hk Kx hK; obtain ⟨v33, k33, h33⟩ := hk.dep 0 33 _ rfl rfl rfl; (first | (cases (h33 : v33 = _)) | (obtain ⟨rfl, h33⟩ := h33) | skip); have hj := hk.j; clear hk; have z0 := hj.1.cell 2 _ rfl; have z1 := hj.2.1.m.cell 1 _ rfl; have z2 := look_q hj.2.1.c a OKa.out; go_simp; refine hK _ _ ?_ (Below.refl _ _); apply Rg.mk))) ?_ rfl
  refine Rg.build_cons (m := 3) (r := Rg.eq _) (Rg.one_plain (by rfl) (by (intro ax wx hk Kx hK; obtain ⟨v34, k34, h34⟩ := hk.dep 1 34 _ rfl rfl rfl; (first | (cases (h34 : v34 = _)) | (obtain ⟨rfl, h34⟩ := h34) | skip); have hj := hk.j; clear hk; have z0 := hj.1.cell 2 _ rfl; have z1 := hj.2.1.m.cell 1 _ rfl; have z2 := look_q hj.2.1.c a OKa.out; go_simp; refine hK _ _ ?_ (Below.refl _ _); apply Rg.mk))) ?_ rfl
  refine Rg.build_cons (m := 4) (r := Rg.eq _) (Rg.one_plain (by rfl) (by (intro ax wx hk Kx hK; obtain ⟨v35, k35, h35⟩ := hk.dep 2 35 _ rfl rfl rfl; (first | (cases (h35 : v35 = _)) | (obtain ⟨rfl, h35⟩ := h35) | skip); have hj := hk.j; clear hk; have z0 := hj.1.cell 2 _ rfl; have z1 := hj.2.1.m.cell 1 _ rfl; have z2 := look_q hj.2.1.c a OKa.out; go_simp; refine hK _ _ ?_ (Below.refl _ _); apply Rg.mk))) ?_ rfl
  refine Rg.build_cons (m := 5) (r := Rg.eq _) (Rg.one_plain (by rfl) (by (intro ax wx hk Kx hK; have k3 := hk.base 3 _ rfl rfl; have hj := hk.j; clear hk; have z0 := hj.1.cell 2 _ rfl; have z1 := hj.2.1.m.cell 1 _ rfl; have z2 := look_q hj.2.1.c a OKa.out; go_simp; refine hK _ _ ?_ (Below.refl _ _); apply Rg.mk))) ?_ rfl
  refine Rg.build_cons (m := 6) (r := Rg.eq _) (Rg.one_plain (by rfl) (by (intro ax wx hk Kx hK; obtain ⟨v37, k37, h37⟩ := hk.dep 4 37 _ rfl rfl rfl; (first | (cases (h37 : v37 = _)) | (obtain ⟨rfl, h37⟩ := h37) | skip); have hj := hk.j; clear hk; have z0 := hj.1.cell 2 _ rfl; have z1 := hj.2.1.m.cell 1 _ rfl; have z2 := look_q hj.2.1.c a OKa.out; go_simp; refine hK _ _ ?_ (Below.refl _ _); apply Rg.mk))) ?_ rfl
  refine Rg.build_cons (m := 7) (r := Rg.eq _) (Rg.one_plain (by rfl) (by (intro ax wx hk Kx hK; obtain ⟨v36, k36, h36⟩ := hk.dep 3 36 _ rfl rfl rfl; (first | (cases (h36 : v36 = _)) | (obtain ⟨rfl, h36⟩ := h36) | skip); obtain ⟨v38, k38, h38⟩ := hk.dep 5 38 _ rfl rfl rfl; (first | (cases (h38 : v38 = _)) | (obtain ⟨rfl, h38⟩ := h38) | skip); have hj := hk.j; clear hk; have z0 := hj.1.cell 2 _ rfl; have z1 := hj.2.1.m.cell 1 _ rfl; have z2 := look_q hj.2.1.c a OKa.out; go_simp; refine hK _ _ ?_ (Below.refl _ _); apply Rg.mk))) ?_ rfl
  refine Rg.build_cons (m := 8) (r := Rg.eq _) (Rg.one_plain (by rfl) (by (intro ax wx hk Kx hK; obtain ⟨v39, k39, h39⟩ := hk.dep 6 39 _ rfl rfl rfl; (first | (cases (h39 : v39 = _)) | (obtain ⟨rfl, h39⟩ := h39) | skip); have hj := hk.j; clear hk; have z0 := hj.1.cell 2 _ rfl; have z1 := hj.2.1.m.cell 1 _ rfl; have z2 := look_q hj.2.1.c a OKa.out; go_simp; refine hK _ _ ?_ (Below.refl _ _); apply Rg.mk))) ?_ rfl
  refine Rg.build_end fun wx hj => ?_
  refine Rg.fin_eq rfl ?_
  refine Rg.fin_eq rfl ?_
  refine Rg.fin_eq rfl ?_
  refine Rg.fin_eq rfl ?_
  refine Rg.fin_eq rfl ?_
  refine Rg.fin_eq rfl ?_
  refine Rg.fin_eq rfl ?_
  refine Rg.fin_eq rfl ?_
  refine Rg.fin_nil ?_
  simp only [List.set_cons_zero, List.set_cons_succ]
  have l1 := hj.1; have hM := hj.2.1
  have hO := HO.out.trans (Only.of_below (S := rfS g mp lv) hj.2.2) (fun k hk => .inl hk)
  clear L1 HM2 HO hj
  have L1 := Lib.hid l1; have HM2 := Lib.hid hM; have HO := Lib.hid hO
  clear l1 hM hO wz
  go_upto_region 9 with (fail)
  obtain ⟨wz, rfl⟩ : ∃ wz : World, wz = wx := ⟨_, rfl⟩
  refine Rg.wp_region_each (by kernel_rfl) (fun w' => AtG w' w.heap.size 35 #[.int .i64 1, .int .i64 d, .int .i64 a, .int .i64 b, .int .i64 c, .int .u64 n] ∧ RfM w' g mp v30 k s q TL ∧ Below wz.heap.size wz w') (fun w1 w2 h hb => ⟨h.1.below hb, h.2.1.below hb, h.2.2.trans (hb.mono h.2.2.size)⟩) (by kernel_rfl) (by kernel_rfl) (⟨L1.out, HM2.out, Below.refl _ _⟩) ?_
  show Rg.Build _ _ _ _ _ 0 [_, _, _, _, _, _, _, _] []
  refine Rg.build_cons (m := 1) (r := Rg.eq _) (Rg.one_plain (by rfl) (by (intro ax wx hk Kx hK; have k0 := hk.base 0 _ rfl rfl; have hj := hk.j; clear hk; have z0 := hj.1.cell 3 _ rfl; have z1 := hj.2.1.m.cell 1 _ rfl; have z2 := look_q hj.2.1.c b OKb.out; go_simp; refine hK _ _ ?_ (Below.refl _ _); apply Rg.mk))) ?_ rfl
  refine Rg.build_cons (m := 2) (r := Rg.eq _) (Rg.one_plain (by rfl) (by (intro ax wx hk Kx hK; obtain ⟨v40, k40, h40⟩ := hk.dep 0 40 _ rfl rfl rfl; (first | (cases (h40 : v40 = _)) | (obtain ⟨rfl, h40⟩ := h40) | skip); have hj := hk.j; clear hk; have z0 := hj.1.cell 3 _ rfl; have z1 := hj.2.1.m.cell 1 _ rfl; have z2 := look_q hj.2.1.c b OKb.out; go_simp; refine hK _ _ ?_ (Below.refl _ _); apply Rg.mk))) ?_ rfl
  refine Rg.build_cons (m := 3) (r := Rg.eq _) (Rg.one_plain (by rfl) (by (intro ax wx hk Kx hK; obtain ⟨v41, k41, h41⟩ := hk.dep 1 41 _ rfl rfl rfl; (first | (cases (h41 : v41 = _)) | (obtain ⟨rfl, h41⟩ := h41) | skip); have hj := hk.j; clear hk; have z0 := hj.1.cell 3 _ rfl; have z1 := hj.2.1.m.cell 1 _ rfl; have z2 := look_q hj.2.1.c b OKb.out; go_simp; refine hK _ _ ?_ (Below.refl _ _); apply Rg.mk))) ?_ rfl
  refine Rg.build_cons (m := 4) (r := Rg.eq _) (Rg.one_plain (by rfl) (by (intro ax wx hk Kx hK; obtain ⟨v42, k42, h42⟩ := hk.dep 2 42 _ rfl rfl rfl; (first | (cases (h42 : v42 = _)) | (obtain ⟨rfl, h42⟩ := h42) | skip); have hj := hk.j; clear hk; have z0 := hj.1.cell 3 _ rfl; have z1 := hj.2.1.m.cell 1 _ rfl; have z2 := look_q hj.2.1.c b OKb.out; go_simp; refine hK _ _ ?_ (Below.refl _ _); apply Rg.mk))) ?_ rfl
  refine Rg.build_cons (m := 5) (r := Rg.eq _) (Rg.one_plain (by rfl) (by (intro ax wx hk Kx hK; have k3 := hk.base 3 _ rfl rfl; have hj := hk.j; clear hk; have z0 := hj.1.cell 3 _ rfl; have z1 := hj.2.1.m.cell 1 _ rfl; have z2 := look_q hj.2.1.c b OKb.out; go_simp; refine hK _ _ ?_ (Below.refl _ _); apply Rg.mk))) ?_ rfl
  refine Rg.build_cons (m := 6) (r := Rg.eq _) (Rg.one_plain (by rfl) (by (intro ax wx hk Kx hK; obtain ⟨v44, k44, h44⟩ := hk.dep 4 44 _ rfl rfl rfl; (first | (cases (h44 : v44 = _)) | (obtain ⟨rfl, h44⟩ := h44) | skip); have hj := hk.j; clear hk; have z0 := hj.1.cell 3 _ rfl; have z1 := hj.2.1.m.cell 1 _ rfl; have z2 := look_q hj.2.1.c b OKb.out; go_simp; refine hK _ _ ?_ (Below.refl _ _); apply Rg.mk))) ?_ rfl
  refine Rg.build_cons (m := 7) (r := Rg.eq _) (Rg.one_plain (by rfl) (by (intro ax wx hk Kx hK; obtain ⟨v43, k43, h43⟩ := hk.dep 3 43 _ rfl rfl rfl; (first | (cases (h43 : v43 = _)) | (obtain ⟨rfl, h43⟩ := h43) | skip); obtain ⟨v45, k45, h45⟩ := hk.dep 5 45 _ rfl rfl rfl; (first | (cases (h45 : v45 = _)) | (obtain ⟨rfl, h45⟩ := h45) | skip); have hj := hk.j; clear hk; have z0 := hj.1.cell 3 _ rfl; have z1 := hj.2.1.m.cell 1 _ rfl; have z2 := look_q hj.2.1.c b OKb.out; go_simp; refine hK _ _ ?_ (Below.refl _ _); apply Rg.mk))) ?_ rfl
  refine Rg.build_cons (m := 8) (r := Rg.eq _) (Rg.one_plain (by rfl) (by (intro ax wx hk Kx hK; obtain ⟨v46, k46, h46⟩ := hk.dep 6 46 _ rfl rfl rfl; (first | (cases (h46 : v46 = _)) | (obtain ⟨rfl, h46⟩ := h46) | skip); have hj := hk.j; clear hk; have z0 := hj.1.cell 3 _ rfl; have z1 := hj.2.1.m.cell 1 _ rfl; have z2 := look_q hj.2.1.c b OKb.out; go_simp; refine hK _ _ ?_ (Below.refl _ _); apply Rg.mk))) ?_ rfl
  refine Rg.build_end fun wx hj => ?_
  refine Rg.fin_eq rfl ?_
  refine Rg.fin_eq rfl ?_
  refine Rg.fin_eq rfl ?_
  refine Rg.fin_eq rfl ?_
  refine Rg.fin_eq rfl ?_
  refine Rg.fin_eq rfl ?_
  refine Rg.fin_eq rfl ?_
  refine Rg.fin_eq rfl ?_
  refine Rg.fin_nil ?_
  simp only [List.set_cons_zero, List.set_cons_succ]
  have l1 := hj.1; have hM := hj.2.1
  have hO := HO.out.trans (Only.of_below (S := rfS g mp lv) hj.2.2) (fun k hk => .inl hk)
  clear L1 HM2 HO hj
  have L1 := Lib.hid l1; have HM2 := Lib.hid hM; have HO := Lib.hid hO
  clear l1 hM hO wz
  have c0 := L1.out.cell 0 _ rfl
  have c5 := L1.out.cell 5 _ rfl
  go_upto_region 44 with (fail)
  clear c0 c5
  obtain ⟨wz, rfl⟩ : ∃ wz : World, wz = wx := ⟨_, rfl⟩
  have NM : Hid (v30.ownBlock ≠ some mp ∧ mp ≠ g ∧ mp ≠ w.heap.size) := Lib.hid ⟨HM2.out.c.ne_own HM2.out.t, HM2.out.c.ne HM2.out.m, HM2.out.c.ne L1.out⟩
  refine RgX.start (by kernel_rfl) [(7, fun w5 w6 => w5.grownBy w6 (some mp))] [⟨fun w5 => AtG w5 w.heap.size 35 #[.int .i64 1, .int .i64 d, .int .i64 a, .int .i64 b, .int .i64 c, .int .u64 n] ∧ AtG w5 g 43 #[.int .i64 k, .map (some mp), v30] ∧ w5.ownsRow 0 35 6 v30 TL.length (flat6 TL) ∧ Only (rfS g mp lv) wz w5, none⟩, ⟨fun w5 => OwnF w5 Try.prog 3 29 .u64 mp s (mapF q), some 7⟩] ⟨⟨fun _ _ h hb => ⟨h.1.below hb, h.2.1.below hb, own_below h.2.2.1 hb, h.2.2.2.trans (Only.of_below (S := rfS g mp lv) hb) (fun k hk => .inl hk)⟩, ⟨fun _ _ _ _ => (fun w5 w6 h he => ⟨h.1.grown he (fun e => NM.out.2.2 (by injection e)), h.2.1.grown he (fun e => NM.out.2.1 (by injection e)), own_only h.2.2.1 (Only.of_grown (S := fun q => q = mp) he (fun q hq => by injection hq with e; exact e.symm)) (fun q hq e => NM.out.1 (by rw [hq, e])), h.2.2.2.trans (Only.of_grown (S := rfS g mp lv) he (fun q hq => by injection hq with e; exact .inr (.inl e.symm))) (fun k hk => .inl hk)⟩), trivial⟩⟩, ⟨fun _ _ h hb => h.below hb, ⟨fun _ h _ _ => absurd rfl h, trivial⟩⟩, trivial⟩ (by kernel_rfl) (by kernel_rfl) ⟨⟨L1.out.drew, HM2.out.m.drew, HM2.out.t, (Only.refl _).drew⟩, HM2.out.c.drew, trivial⟩ ?_
  show RgX.Build _ _ _ _ _ _ 0 [_, _, _, _, _, _, _, _] []
  refine RgX.build_cons (m := 1) (r := RgX.eq _) (RgX.one_plain (by rfl) (by (intro ax wx hk Kx hK; have k0 := hk.base 0 _ rfl rfl; have hL := hk.fact 0 0 _ rfl rfl; (try dsimp only at hL); have hc := hk.fact 1 1 _ rfl rfl; (try dsimp only at hc); clear hk; go_simp; refine hK _ _ (fun h => by cases h) (fun _ _ => ?_) (Below.refl _ _); apply RgX.mk))) ?_ rfl RgX.keep_eq (fun _ h => by cases h)
  refine RgX.build_cons (m := 2) (r := RgX.eq _) (RgX.one_plain (by rfl) (by (intro ax wx hk Kx hK; obtain ⟨v126, k126, h126⟩ := hk.dep 0 0 126 _ rfl rfl rfl; (first | (replace h126 := h126 9 undef rfl rfl; first | (cases (h126 : v126 = _)) | (obtain ⟨rfl, h126⟩ := h126) | skip) | skip); have hL := hk.fact 0 0 _ rfl rfl; (try dsimp only at hL); have hc := hk.fact 1 1 _ rfl rfl; (try dsimp only at hc); clear hk; go_simp; refine hK _ _ (fun h => by cases h) (fun _ _ => ?_) (Below.refl _ _); apply RgX.mk))) ?_ rfl RgX.keep_eq (fun _ h => by cases h)
  refine RgX.build_cons (m := 3) (r := RgX.eq _) (RgX.one_plain (by rfl) (by (intro ax wx hk Kx hK; obtain ⟨v127, k127, h127⟩ := hk.dep 0 1 127 _ rfl rfl rfl; (first | (replace h127 := h127 9 undef rfl rfl; first | (cases (h127 : v127 = _)) | (obtain ⟨rfl, h127⟩ := h127) | skip) | skip); have hL := hk.fact 0 0 _ rfl rfl; (try dsimp only at hL); have hc := hk.fact 1 1 _ rfl rfl; (try dsimp only at hc); clear hk; go_simp; refine hK _ _ (fun h => by cases h) (fun _ _ => ?_) (Below.refl _ _); apply RgX.mk))) ?_ rfl RgX.keep_eq (fun _ h => by cases h)
  refine RgX.build_cons (m := 4) (r := RgX.eq _) (RgX.one_plain (by rfl) (by (intro ax wx hk Kx hK; obtain ⟨v128, k128, h128⟩ := hk.dep 0 2 128 _ rfl rfl rfl; (first | (replace h128 := h128 9 undef rfl rfl; first | (cases (h128 : v128 = _)) | (obtain ⟨rfl, h128⟩ := h128) | skip) | skip); have hL := hk.fact 0 0 _ rfl rfl; (try dsimp only at hL); have hc := hk.fact 1 1 _ rfl rfl; (try dsimp only at hc); clear hk; have z0 := hL.2.1.cell 1 _ rfl; go_simp; refine hK _ _ (fun h => by cases h) (fun _ _ => ?_) (Below.refl _ _); apply RgX.mk))) ?_ rfl RgX.keep_eq (fun _ h => by cases h)
  refine RgX.build_cons (m := 5) (r := RgX.eq _) (RgX.one_plain (by rfl) (by (intro ax wx hk Kx hK; have k3 := hk.base 3 _ rfl rfl; have hL := hk.fact 0 0 _ rfl rfl; (try dsimp only at hL); have hc := hk.fact 1 1 _ rfl rfl; (try dsimp only at hc); clear hk; go_simp; refine hK _ _ (fun h => by cases h) (fun _ _ => ?_) (Below.refl _ _); apply RgX.mk))) ?_ rfl RgX.keep_eq (fun _ h => by cases h)
  refine RgX.build_cons (m := 6) (r := RgX.eq _) (RgX.one_plain (by rfl) (by (intro ax wx hk Kx hK; obtain ⟨v130, k130, h130⟩ := hk.dep 0 4 130 _ rfl rfl rfl; (first | (replace h130 := h130 9 undef rfl rfl; first | (cases (h130 : v130 = _)) | (obtain ⟨rfl, h130⟩ := h130) | skip) | skip); have hL := hk.fact 0 0 _ rfl rfl; (try dsimp only at hL); have hc := hk.fact 1 1 _ rfl rfl; (try dsimp only at hc); clear hk; have z0 := hL.1.cell 1 _ rfl; go_simp; refine hK _ _ (fun h => by cases h) (fun _ _ => ?_) (Below.refl _ _); apply RgX.mk))) ?_ rfl RgX.keep_eq (fun _ h => by cases h)
  refine RgX.build_cons (m := 7) (r := RgX.eq _) (RgX.one_plain (by rfl) (by (intro ax wx hk Kx hK; have k10 := hk.base 10 _ rfl rfl; have hL := hk.fact 0 0 _ rfl rfl; (try dsimp only at hL); have hc := hk.fact 1 1 _ rfl rfl; (try dsimp only at hc); clear hk; go_simp; refine hK _ _ (fun h => by cases h) (fun _ _ => ?_) (Below.refl _ _); apply RgX.mk))) ?_ rfl RgX.keep_eq (fun _ h => by cases h)
  refine RgX.build_cons (m := 8) (r := (⟨fun _ _ w5 => ∃ s', s' ≤ s + 1 ∧ OwnF w5 Try.prog 3 29 .u64 mp s' (mapF (putQ q d (atQ q b))), none, none⟩ : RgX.Rl)) (RgX.one_plain (by rfl) (by (intro ax wx hk Kx hK; obtain ⟨v129, k129, h129⟩ := hk.dep 0 3 129 _ rfl rfl rfl; (first | (replace h129 := h129 9 undef rfl rfl; first | (cases (h129 : v129 = _)) | (obtain ⟨rfl, h129⟩ := h129) | skip) | skip); obtain ⟨v131, k131, h131⟩ := hk.dep 0 5 131 _ rfl rfl rfl; (first | (replace h131 := h131 9 undef rfl rfl; first | (cases (h131 : v131 = _)) | (obtain ⟨rfl, h131⟩ := h131) | skip) | skip); obtain ⟨v132, k132, h132⟩ := hk.dep 0 6 132 _ rfl rfl rfl; (first | (replace h132 := h132 9 undef rfl rfl; first | (cases (h132 : v132 = _)) | (obtain ⟨rfl, h132⟩ := h132) | skip) | skip); have hL := hk.fact 0 0 _ rfl rfl; (try dsimp only at hL); have hc := hk.fact 1 0 _ rfl rfl; (try dsimp only at hc); clear hk; (obtain ⟨w8, hrun, hs8, hg8⟩ := store_q hc d (atQ q b) OKd.out VV.out HSS.out; go_simp; exact hK undef _ (fun _ => rfl) (fun u hu => hs8) hg8)))) ?_ rfl (RgX.keep_r (fun _ _ _ _ h hb => by obtain ⟨s', h1, h2⟩ := h; exact ⟨s', h1, h2.below hb⟩) (fun _ _ => ⟨fun h _ _ _ => absurd rfl h, trivial⟩)) (fun _ h => by cases h)
  refine RgX.build_end fun wx hj => ?_
  have hL := hj 0 _ rfl rfl
  clear hj
  refine RgX.fin_eq rfl ?_
  refine RgX.fin_eq rfl ?_
  refine RgX.fin_eq rfl ?_
  refine RgX.fin_eq rfl ?_
  refine RgX.fin_eq rfl ?_
  refine RgX.fin_eq rfl ?_
  refine RgX.fin_eq rfl ?_
  refine RgX.fin_none rfl fun s7 => ?_
  refine RgX.fin_nil ?_
  simp only [List.set_cons_zero, List.set_cons_succ]
  obtain ⟨s', hs', hc'⟩ := s7 rfl undef rfl
  have hf : RfM wx g mp v30 k s' (putQ q d (atQ q b)) TL := ⟨hL.2.1, hc', hL.2.2.1, (fun cc => by unfold putQ; split; exact VV.out; exact HM2.out.v cc)⟩
  have HF := Lib.hid hf
  have HO2 := Lib.hid (HO.out.trans hL.2.2.2 (fun k hk => .inl hk))
  have HSL := Lib.hid hs'
  clear hL hc' hf s7 hs'
  go_wp2_with fail
  go_returns
  refine ⟨v30, s', ?_, ?_, HO2.out, HBK.out, HSL.out⟩
  · have e : outR q ⟨1, d, a, b, c, n⟩ = 0 := by unfold outR; rw [if_neg N11.out]
    rw [e]; rfl
  · have e1 : nextR q ⟨1, d, a, b, c, n⟩ = putQ q d (atQ q b) := by unfold nextR; rw [if_neg N11.out]; exact congrArg (putQ q d) EV.out
    have e2 : Ins.seen ⟨1, d, a, b, c, n⟩ = ⟨1, d, a, b, c, n⟩ := ESN.out
    rw [e1, e2, ← HTL.out]
    exact HF.out
set_option maxRecDepth 100000 in
set_option maxHeartbeats 4000000 in
theorem refDo_sel0 (d a b c n : Int) (g mp k s : Nat) (lv : Value) (q : Int → Option Int) (tr : List Ins) (w : World) (h : RfM w g mp lv k s q tr) (hm : mayP k ⟨1, d, a, b, c, n⟩ = true) (htr : tr.length ≤ 1000000000000) (hs : s ≤ 1000000000000) (ho : Ins.ok ⟨1, d, a, b, c, n⟩) (hz0 : atQ q a = 0) :
    Calls Try.prog 11 #[.pointer (some ⟨g, 0, none⟩), Ins.val ⟨1, d, a, b, c, n⟩] w (RfPost g mp k s lv q tr ⟨1, d, a, b, c, n⟩ w) := by
  have HH := Lib.hid h
  have OKd := Lib.hid ho.2.1; have OKa := Lib.hid ho.2.2.1; have OKb := Lib.hid ho.2.2.2.1; have OKc := Lib.hid ho.2.2.2.2.1; have OKn := Lib.hid ho.2.2.2.2.2
  have H := Lib.hid h; have HM := Lib.hid hm; have HTR := Lib.hid htr; have HSS := Lib.hid hs; clear h hm htr hs ho
  unfold Ins.val Ins.cells
  dsimp only
  have HZ : Hid (atQ q a = 0) := Lib.hid hz0
  have hN11 : ¬ (1 : Int) = 11 := by decide
  have hEV : newR q ⟨1, d, a, b, c, n⟩ = atQ q c := by show (if atQ q a = 0 then atQ q c else atQ q b) = _; rw [if_pos hz0]
  have hESN : Ins.seen ⟨1, d, a, b, c, n⟩ = ⟨1, d, a, b, c, n⟩ := rfl
  have N11 : Hid (¬ (1 : Int) = 11) := Lib.hid hN11
  have EV : Hid (newR q ⟨1, d, a, b, c, n⟩ = (atQ q c)) := Lib.hid hEV
  have ESN : Hid (Ins.seen ⟨1, d, a, b, c, n⟩ = ⟨1, d, a, b, c, n⟩) := Lib.hid hESN
  have hA := HH.out.v a; have hB := HH.out.v b; have hC := HH.out.v c
  have VV : Hid (0 ≤ (atQ q c) ∧ (atQ q c) < 18446744073709551616) := Lib.hid (by have h := valP_in 1 (atQ q a) (atQ q b) (atQ q c) n hA hB hC ⟨OKn.out.1, by have h5 : n ≤ 18446744073709551615 := OKn.out.2; omega⟩; rw [show valP 1 (atQ q a) (atQ q b) (atQ q c) n = (atQ q c) from hEV] at h; exact h)
  clear hN11 hEV hESN hA hB hC
  go_enter Try.func11, Try.ntmps11
  go_upto_region 1 with (fail)
  have f1 : AtG (w.alloc (.cells #[.int .i64 1, .int .i64 d, .int .i64 a, .int .i64 b, .int .i64 c, .int .u64 n] 35)) w.heap.size 35 #[.int .i64 1, .int .i64 d, .int .i64 a, .int .i64 b, .int .i64 c, .int .u64 n] := AtG.new _ _ _
  have f2 : Below w.heap.size w (w.alloc (.cells #[.int .i64 1, .int .i64 d, .int .i64 a, .int .i64 b, .int .i64 c, .int .u64 n] 35)) := by go_grown
  generalize w.alloc (.cells #[.int .i64 1, .int .i64 d, .int .i64 a, .int .i64 b, .int .i64 c, .int .u64 n] 35) = w2 at f1 f2 ⊢
  have c0 := f1.cell 0 _ rfl
  have c1 := f1.cell 1 _ rfl
  have c2 := f1.cell 2 _ rfl
  have c3 := f1.cell 3 _ rfl
  have c4 := f1.cell 4 _ rfl
  have c5 := f1.cell 5 _ rfl
  have F1 := Lib.hid f1; have F2 := Lib.hid f2
  clear f1 f2
  go_wp2_with fail
  refine (refMay_any ⟨1, d, a, b, c, n⟩ g mp k s lv q tr w2 (H.out.below F2.out)).mono ?_
  rw [HM.out]
  rintro e9 w3 ⟨rfl, hb⟩
  have g1 := F1.out.below hb
  have g2 := F2.out.trans (hb.mono F2.out.size)
  clear c0 c1 c2 c3 c4 c5 F1 F2 hb
  have c0 := g1.cell 0 _ rfl
  have c1 := g1.cell 1 _ rfl
  have c2 := g1.cell 2 _ rfl
  have c3 := g1.cell 3 _ rfl
  have c4 := g1.cell 4 _ rfl
  have c5 := g1.cell 5 _ rfl
  have hz := g1.lt
  have G1 := Lib.hid g1; have G2 := Lib.hid g2
  clear g1 g2
  go_upto_region 7 with (fail)
  have q1 : AtG (w3.alloc (.cells #[.int .i64 1, .int .i64 d, .int .i64 a, .int .i64 b, .int .i64 c, .int .u64 n] 35)) w.heap.size 35 #[.int .i64 1, .int .i64 d, .int .i64 a, .int .i64 b, .int .i64 c, .int .u64 n] := G1.out.alloc _
  have q2 : AtG (w3.alloc (.cells #[.int .i64 1, .int .i64 d, .int .i64 a, .int .i64 b, .int .i64 c, .int .u64 n] 35)) w3.heap.size 35 #[.int .i64 1, .int .i64 d, .int .i64 a, .int .i64 b, .int .i64 c, .int .u64 n] := AtG.new _ _ _
  have q3 : Below w.heap.size w (w3.alloc (.cells #[.int .i64 1, .int .i64 d, .int .i64 a, .int .i64 b, .int .i64 c, .int .u64 n] 35)) := G2.out.alloc G2.out.size _
  have q4 : RfM (w3.alloc (.cells #[.int .i64 1, .int .i64 d, .int .i64 a, .int .i64 b, .int .i64 c, .int .u64 n] 35)) g mp lv k s q tr := H.out.below q3
  have q5 := H.out.lt
  generalize w3.alloc (.cells #[.int .i64 1, .int .i64 d, .int .i64 a, .int .i64 b, .int .i64 c, .int .u64 n] 35) = w4 at q1 q2 q3 q4 ⊢
  have NE : Hid (lv.ownBlock ≠ some w.heap.size ∧ lv.ownBlock ≠ some w3.heap.size ∧ lv.ownBlock ≠ some mp ∧ lv.ownBlock ≠ some g) :=
    Lib.hid ⟨fun e => by have := q5 _ (.inr (.inr e)); omega, fun e => by have := q5 _ (.inr (.inr e)); omega, q4.c.ne_own q4.t, own_ne q4.t q4.m (by decide)⟩
  have NG : Hid (w.heap.size ≠ g ∧ w3.heap.size ≠ g ∧ mp ≠ g ∧ g < w4.heap.size) :=
    Lib.hid ⟨fun e => by have := q5 g (.inl rfl); omega, fun e => by have := q5 g (.inl rfl); omega, q4.c.ne q4.m, q4.m.lt⟩
  have Q1 := Lib.hid q1; have Q2 := Lib.hid q2; have Q3 := Lib.hid q3; have Q4 := Lib.hid q4; have Q5 := Lib.hid q5
  clear q1 q2 q3 q4 q5 c0 c1 c2 c3 c4 c5 G1 G2 hz
  refine RgX.start (by kernel_rfl) [(7, fun w5 w6 => w5.grownBy w6 lv.ownBlock), (10, fun w5 w6 => ∃ v, w6 = w5.setCell ⟨g, 2, none⟩ v)] [⟨fun w5 => AtG w5 w.heap.size 35 #[.int .i64 1, .int .i64 d, .int .i64 a, .int .i64 b, .int .i64 c, .int .u64 n] ∧ AtG w5 w3.heap.size 35 #[.int .i64 1, .int .i64 d, .int .i64 a, .int .i64 b, .int .i64 c, .int .u64 n] ∧ OwnF w5 Try.prog 3 29 .u64 mp s (mapF q) ∧ Only (rfS g mp lv) w4 w5, none⟩, ⟨fun w5 => AtG w5 g 43 #[.int .i64 k, .map (some mp), lv], some 10⟩, ⟨fun w5 => w5.ownsRow 0 35 6 lv tr.length (flat6 tr), some 7⟩] ⟨⟨fun _ _ h hb => ⟨h.1.below hb, h.2.1.below hb, h.2.2.1.below hb, h.2.2.2.trans (Only.of_below (S := rfS g mp lv) hb) (fun k hk => .inl hk)⟩, ⟨fun _ _ _ _ => (fun w5 w6 h he => ⟨h.1.grown he NE.out.1, h.2.1.grown he NE.out.2.1, h.2.2.1.kept he (fun e => NE.out.2.2.1 e.symm), h.2.2.2.trans (Only.of_grown (S := rfS g mp lv) he (fun k hk => .inr (.inr hk))) (fun k hk => .inl hk)⟩), fun _ _ _ _ => (fun w5 w6 h he => by obtain ⟨v, rfl⟩ := he; exact ⟨h.1.far NG.out.1 _, h.2.1.far NG.out.2.1 _, h.2.2.1.far NG.out.2.2.1 _, h.2.2.2.trans (Only.set (S := rfS g mp lv) _ _ _ _ (.inl rfl)) (fun k hk => .inl hk)⟩), trivial⟩⟩, ⟨fun _ _ h hb => h.below hb, ⟨fun _ _ _ _ => (fun w5 w6 h he => h.grown he NE.out.2.2.2), fun _ h _ _ => absurd rfl h, trivial⟩⟩, ⟨fun _ _ h hb => own_below h hb, ⟨fun _ h _ _ => absurd rfl h, fun _ _ h _ => absurd ⟨7, 1, rfl, rfl⟩ h, trivial⟩⟩, trivial⟩ (by kernel_rfl) (by kernel_rfl) ⟨⟨Q1.out.drew, Q2.out.drew, Q4.out.c.drew, (Only.refl _).drew⟩, Q4.out.m.drew, Q4.out.t, trivial⟩ ?_
  show RgX.Build _ _ _ _ _ _ 0 [_, _, _, _, _, _, _, _, _, _, _] []
  refine RgX.build_cons (m := 1) (r := RgX.eq _) (RgX.one_plain (by rfl) (by (intro ax wx hk Kx hK; have k0 := hk.base 0 _ rfl rfl; have hL := hk.fact 0 0 _ rfl rfl; (try dsimp only at hL); have hm := hk.fact 1 1 _ rfl rfl; (try dsimp only at hm); clear hk; go_simp; refine hK _ _ (fun h => by cases h) (fun _ _ => ?_) (Below.refl _ _); apply RgX.mk))) ?_ rfl RgX.keep_eq (fun _ h => by cases h)
  refine RgX.build_cons (m := 2) (r := RgX.eq _) (RgX.one_plain (by rfl) (by (intro ax wx hk Kx hK; have k0 := hk.base 0 _ rfl rfl; have hL := hk.fact 0 0 _ rfl rfl; (try dsimp only at hL); have hm := hk.fact 1 1 _ rfl rfl; (try dsimp only at hm); have ht := hk.fact 2 4 _ rfl rfl; (try dsimp only at ht); clear hk; go_simp; refine hK _ _ (fun h => by cases h) (fun _ _ => ?_) (Below.refl _ _); apply RgX.mk))) ?_ rfl RgX.keep_eq (fun _ h => by cases h)
  refine RgX.build_cons (m := 3) (r := RgX.eq _) (RgX.one_plain (by rfl) (by (intro ax wx hk Kx hK; obtain ⟨v24, k24, h24⟩ := hk.dep 0 1 24 _ rfl rfl rfl; (first | (replace h24 := h24 9 undef rfl rfl; first | (cases (h24 : v24 = _)) | (obtain ⟨rfl, h24⟩ := h24) | skip) | skip); have hL := hk.fact 0 0 _ rfl rfl; (try dsimp only at hL); have hm := hk.fact 1 1 _ rfl rfl; (try dsimp only at hm); have ht := hk.fact 2 3 _ rfl rfl; (try dsimp only at ht); clear hk; go_simp; refine hK _ _ (fun h => by cases h) (fun _ _ => ?_) (Below.refl _ _); apply RgX.mk))) ?_ rfl RgX.keep_eq (fun _ h => by cases h)
  refine RgX.build_cons (m := 4) (r := RgX.eq _) (RgX.one_plain (by rfl) (by (intro ax wx hk Kx hK; obtain ⟨v25, k25, h25⟩ := hk.dep 0 2 25 _ rfl rfl rfl; (first | (replace h25 := h25 9 undef rfl rfl; first | (cases (h25 : v25 = _)) | (obtain ⟨rfl, h25⟩ := h25) | skip) | skip); have hL := hk.fact 0 0 _ rfl rfl; (try dsimp only at hL); have hm := hk.fact 1 1 _ rfl rfl; (try dsimp only at hm); have ht := hk.fact 2 2 _ rfl rfl; (try dsimp only at ht); clear hk; go_simp; refine hK _ _ (fun h => by cases h) (fun _ _ => ?_) (Below.refl _ _); apply RgX.mk))) ?_ rfl RgX.keep_eq (fun _ h => by cases h)
  refine RgX.build_cons (m := 5) (r := RgX.eq _) (RgX.one_plain (by rfl) (by (intro ax wx hk Kx hK; obtain ⟨v26, k26, h26⟩ := hk.dep 0 3 26 _ rfl rfl rfl; (first | (replace h26 := h26 9 undef rfl rfl; first | (cases (h26 : v26 = _)) | (obtain ⟨rfl, h26⟩ := h26) | skip) | skip); have hL := hk.fact 0 0 _ rfl rfl; (try dsimp only at hL); have hm := hk.fact 1 1 _ rfl rfl; (try dsimp only at hm); have ht := hk.fact 2 1 _ rfl rfl; (try dsimp only at ht); clear hk; have z0 := hm.cell 2 _ rfl; go_simp; refine hK _ _ (fun h => by cases h) (fun _ _ => ?_) (Below.refl _ _); apply RgX.mk))) ?_ rfl RgX.keep_eq (fun _ h => by cases h)
  refine RgX.build_cons (m := 6) (r := RgX.eq _) (RgX.one_plain (by rfl) (by (intro ax wx hk Kx hK; have k7 := hk.base 7 _ rfl rfl; have hL := hk.fact 0 0 _ rfl rfl; (try dsimp only at hL); have hm := hk.fact 1 1 _ rfl rfl; (try dsimp only at hm); have ht := hk.fact 2 2 _ rfl rfl; (try dsimp only at ht); clear hk; have z0 := hL.2.1.cell 0 _ rfl; have z1 := hL.2.1.cell 1 _ rfl; have z2 := hL.2.1.cell 2 _ rfl; have z3 := hL.2.1.cell 3 _ rfl; have z4 := hL.2.1.cell 4 _ rfl; have z5 := hL.2.1.cell 5 _ rfl; go_simp; refine hK _ _ (fun h => by cases h) (fun _ _ => ?_) (Below.refl _ _); apply RgX.mk))) ?_ rfl RgX.keep_eq (fun _ h => by cases h)
  refine RgX.build_cons (m := 7) (r := (⟨fun v _ w5 => ∃ kk, v = .slice (some ⟨kk, 0, none⟩) 1 1 ∧ w4.heap.size ≤ kk ∧ AtG w5 kk 35 #[.int .i64 1, .int .i64 d, .int .i64 a, .int .i64 b, .int .i64 c, .int .u64 n], some 7, none⟩ : RgX.Rl)) (RgX.one_plain (by rfl) (by (intro ax wx hk Kx hK; obtain ⟨v28, k28, h28⟩ := hk.dep 0 5 28 _ rfl rfl rfl; (first | (replace h28 := h28 9 undef rfl rfl; first | (cases (h28 : v28 = _)) | (obtain ⟨rfl, h28⟩ := h28) | skip) | skip); have hL := hk.fact 0 0 _ rfl rfl; (try dsimp only at hL); have hm := hk.fact 1 1 _ rfl rfl; (try dsimp only at hm); have ht := hk.fact 2 1 _ rfl rfl; (try dsimp only at ht); clear hk; (go_simp; exact hK _ _ (fun h => by cases h) (fun u _ => ⟨wx.heap.size, rfl, hL.2.2.2.size, AtG.new _ _ _⟩) ((Below.refl _ _).alloc (Nat.le_refl _) _))))) ?_ rfl (RgX.keep_r (fun _ _ _ _ h hb => by obtain ⟨kk, h1, h2, h3⟩ := h; exact ⟨kk, h1, h2, h3.below hb⟩) (fun _ _ => ⟨fun _ h _ _ => absurd rfl h, fun _ _ h _ => absurd ⟨7, 1, rfl, rfl⟩ h, trivial⟩)) (fun _ h => by cases h)
  refine RgX.build_cons (m := 8) (r := (⟨fun v _ w5 => w5.ownsRow 0 35 6 v (tr.length + 1) (flat6 tr ++ [.int .i64 1, .int .i64 d, .int .i64 a, .int .i64 b, .int .i64 c, .int .u64 n]) ∧ (v.ownBlock = lv.ownBlock ∨ ∃ bb, v.ownBlock = some bb ∧ w4.heap.size ≤ bb), none, none⟩ : RgX.Rl)) (RgX.one_plain (by rfl) (by (intro ax wx hk Kx hK; obtain ⟨v27, k27, h27⟩ := hk.dep 0 4 27 _ rfl rfl rfl; (first | (replace h27 := h27 9 undef rfl rfl; first | (cases (h27 : v27 = _)) | (obtain ⟨rfl, h27⟩ := h27) | skip) | skip); obtain ⟨v29, k29, h29⟩ := hk.dep 0 6 29 _ rfl rfl rfl; (first | (replace h29 := h29 9 undef rfl rfl; first | (cases (h29 : v29 = _)) | (obtain ⟨rfl, h29⟩ := h29) | skip) | skip); have hL := hk.fact 0 0 _ rfl rfl; (try dsimp only at hL); have hm := hk.fact 1 1 _ rfl rfl; (try dsimp only at hm); have ht := hk.fact 2 0 _ rfl rfl; (try dsimp only at ht); clear hk; (obtain ⟨kk, rfl, hk0, hk1⟩ := h29; refine wp_appRowX (.tmp 27) (.tmp 29) 22 rfl 0 35 _ 6 48 Try.underlying22 infoIns rfl (by decide) lv _ tr.length 1 (flat6 tr) [.int .i64 1, .int .i64 d, .int .i64 a, .int .i64 b, .int .i64 c, .int .u64 n] ht (src_at hk1 1) (by simp [Act.eval, k27]) (by simp [Act.eval, k29]) rfl (by simp [Value.oneCell']) (by have := HTR.out; omega) (by decide) (Nat.zero_le _) ?_; intro v' w' ho hg hbk; exact hK _ _ (fun h => by cases h) (fun u _ => ⟨ho, hbk.elim .inl (fun e => .inr ⟨_, e, hL.2.2.2.size⟩)⟩) hg)))) ?_ rfl (RgX.keep_r (fun _ _ _ _ h hb => ⟨own_below h.1 hb, h.2⟩) (fun _ _ => ⟨fun h _ _ _ => absurd rfl h, fun _ _ _ _ => (fun w5 w6 h he => by obtain ⟨v, rfl⟩ := he; exact ⟨own_setFar h.1 h.2 NE.out.2.2.2 NG.out.2.2.2 _ _, h.2⟩), trivial⟩)) (fun _ h => by cases h)
  refine RgX.build_cons (m := 9) (r := RgX.eq _) (RgX.one_plain (by rfl) (by (intro ax wx hk Kx hK; obtain ⟨v23, k23, h23⟩ := hk.dep 0 0 23 _ rfl rfl rfl; (first | (replace h23 := h23 9 undef rfl rfl; first | (cases (h23 : v23 = _)) | (obtain ⟨rfl, h23⟩ := h23) | skip) | skip); have hL := hk.fact 0 0 _ rfl rfl; (try dsimp only at hL); have hm := hk.fact 1 2 _ rfl rfl; (try dsimp only at hm); clear hk; go_simp; refine hK _ _ (fun h => by cases h) (fun _ _ => ?_) (Below.refl _ _); apply RgX.mk))) ?_ rfl RgX.keep_eq (fun _ h => by cases h)
  refine RgX.build_cons (m := 10) (r := RgX.eq _) (RgX.one_plain (by rfl) (by (intro ax wx hk Kx hK; obtain ⟨v31, k31, h31⟩ := hk.dep 0 8 31 _ rfl rfl rfl; (first | (replace h31 := h31 9 undef rfl rfl; first | (cases (h31 : v31 = _)) | (obtain ⟨rfl, h31⟩ := h31) | skip) | skip); have hL := hk.fact 0 0 _ rfl rfl; (try dsimp only at hL); have hm := hk.fact 1 1 _ rfl rfl; (try dsimp only at hm); clear hk; go_simp; refine hK _ _ (fun h => by cases h) (fun _ _ => ?_) (Below.refl _ _); apply RgX.mk))) ?_ rfl RgX.keep_eq (fun _ h => by cases h)
  refine RgX.build_cons (m := 11) (r := (⟨fun _ u w5 => AtG w5 g 43 #[.int .i64 k, .map (some mp), u], none, some 7⟩ : RgX.Rl)) (RgX.one_plain (by rfl) (by (intro ax wx hk Kx hK; obtain ⟨v30, k30, h30⟩ := hk.dep 0 7 30 _ rfl rfl rfl; (first | (replace h30 := h30 9 undef rfl rfl; first | (cases (h30 : v30 = _)) | (obtain ⟨rfl, h30⟩ := h30) | skip) | skip); obtain ⟨v32, k32, h32⟩ := hk.dep 0 9 32 _ rfl rfl rfl; (first | (replace h32 := h32 9 undef rfl rfl; first | (cases (h32 : v32 = _)) | (obtain ⟨rfl, h32⟩ := h32) | skip) | skip); have hL := hk.fact 0 0 _ rfl rfl; (try dsimp only at hL); have hm := hk.fact 1 0 _ rfl rfl; (try dsimp only at hm); clear hk; (have z0 := hm.cell 2 _ rfl; have z1 := hm.frozen 2; obtain ⟨sa, sl, sc, rfl⟩ := own_slice h30.1; go_simp; refine hK undef _ (fun _ => rfl) (fun u hu => ?_) ⟨_, rfl⟩; obtain ⟨t, ht', hu⟩ := hu; cases ht'; rw [k30] at hu; cases hu; exact hm.set 2 _)))) ?_ rfl (RgX.keep_r (fun _ _ _ _ h hb => h.below hb) (fun _ _ => ⟨fun _ _ _ h => absurd ⟨1, rfl⟩ h, fun h _ _ _ => absurd rfl h, trivial⟩)) (fun j h => by cases h; exact ⟨0, rfl⟩)
  refine RgX.build_end fun wx hj => ?_
  have hL := hj 0 _ rfl rfl
  clear hj
  refine RgX.fin_eq rfl ?_
  refine RgX.fin_eq rfl ?_
  refine RgX.fin_eq rfl ?_
  refine RgX.fin_eq rfl ?_
  refine RgX.fin_eq rfl ?_
  refine RgX.fin_eq rfl ?_
  first | refine RgX.fin_eq rfl ?_ | refine RgX.fin_any rfl fun v29 h29 => ?_
  first | refine RgX.fin_eq rfl ?_ | refine RgX.fin_any rfl fun v30 h30 => ?_
  refine RgX.fin_eq rfl ?_
  refine RgX.fin_eq rfl ?_
  refine RgX.fin_none rfl fun s10 => ?_
  refine RgX.fin_nil ?_
  simp only [List.set_cons_zero, List.set_cons_succ]
  have hm' := s10 rfl v30 ⟨30, rfl, rfl⟩
  have ho := h30 rfl undef rfl
  have hM : RfM wx g mp v30 k s q (tr ++ [⟨1, d, a, b, c, n⟩]) := ⟨hm', hL.2.2.1, by rw [List.length_append, flat6_snoc]; exact ho.1, Q4.out.v⟩
  have hO : Only (rfS g mp lv) w wx := (Only.of_below Q3.out).trans hL.2.2.2 (fun k hk => .inl hk)
  have hB : v30.ownBlock = lv.ownBlock ∨ ∃ b, v30.ownBlock = some b ∧ w.heap.size ≤ b := ho.2.imp id (fun ⟨b, h1, h2⟩ => ⟨b, h1, Nat.le_trans Q3.out.size h2⟩)
  have l1 := hL.1
  obtain ⟨TL, hTL⟩ : ∃ TL : List Ins, TL = tr ++ [⟨1, d, a, b, c, n⟩] := ⟨_, rfl⟩
  rw [← hTL] at hM
  have HTL := Lib.hid hTL; clear hTL
  have HM2 := Lib.hid hM; have HO := Lib.hid hO; have HBK := Lib.hid hB
  have L1 := Lib.hid l1
  clear hm' ho hM hO hB l1 hL s10 h30 h29
  go_upto_region 8 with (fail)
  obtain ⟨wz, rfl⟩ : ∃ wz : World, wz = wx := ⟨_, rfl⟩
  refine Rg.wp_region_each (by kernel_rfl) (fun w' => AtG w' w.heap.size 35 #[.int .i64 1, .int .i64 d, .int .i64 a, .int .i64 b, .int .i64 c, .int .u64 n] ∧ RfM w' g mp v30 k s q TL ∧ Below wz.heap.size wz w') (fun w1 w2 h hb => ⟨h.1.below hb, h.2.1.below hb, h.2.2.trans (hb.mono h.2.2.size)⟩) (by kernel_rfl) (by kernel_rfl) (⟨L1.out, HM2.out, Below.refl _ _⟩) ?_
  show Rg.Build _ _ _ _ _ 0 [_, _, _, _, _, _, _, _] []
  refine Rg.build_cons (m := 1) (r := Rg.eq _) (Rg.one_plain (by rfl) (by (intro ax wx hk Kx hK; have k0 := hk.base 0 _ rfl rfl; have hj := hk.j; clear hk; have z0 := hj.1.cell 2 _ rfl; have z1 := hj.2.1.m.cell 1 _ rfl; have z2 := look_q hj.2.1.c a OKa.out; go_simp; refine hK _ _ ?_ (Below.refl _ _); apply Rg.mk))) ?_ rfl
  refine Rg.build_cons (m := 2) (r := Rg.eq _) (Rg.one_plain (by rfl) (by (intro ax wx hk Kx hK; obtain ⟨v33, k33, h33⟩ := hk.dep 0 33 _ rfl rfl rfl; (first | (cases (h33 : v33 = _)) | (obtain ⟨rfl, h33⟩ := h33) | skip); have hj := hk.j; clear hk; have z0 := hj.1.cell 2 _ rfl; have z1 := hj.2.1.m.cell 1 _ rfl; have z2 := look_q hj.2.1.c a OKa.out; go_simp; refine hK _ _ ?_ (Below.refl _ _); apply Rg.mk))) ?_ rfl
  refine Rg.build_cons (m := 3) (r := Rg.eq _) (Rg.one_plain (by rfl) (by (intro ax wx hk Kx hK; obtain ⟨v34, k34, h34⟩ := hk.dep 1 34 _ rfl rfl rfl; (first | (cases (h34 : v34 = _)) | (obtain ⟨rfl, h34⟩ := h34) | skip); have hj := hk.j; clear hk; have z0 := hj.1.cell 2 _ rfl; have z1 := hj.2.1.m.cell 1 _ rfl; have z2 := look_q hj.2.1.c a OKa.out; go_simp; refine hK _ _ ?_ (Below.refl _ _); apply Rg.mk))) ?_ rfl
  refine Rg.build_cons (m := 4) (r := Rg.eq _) (Rg.one_plain (by rfl) (by (intro ax wx hk Kx hK; obtain ⟨v35, k35, h35⟩ := hk.dep 2 35 _ rfl rfl rfl; (first | (cases (h35 : v35 = _)) | (obtain ⟨rfl, h35⟩ := h35) | skip); have hj := hk.j; clear hk; have z0 := hj.1.cell 2 _ rfl; have z1 := hj.2.1.m.cell 1 _ rfl; have z2 := look_q hj.2.1.c a OKa.out; go_simp; refine hK _ _ ?_ (Below.refl _ _); apply Rg.mk))) ?_ rfl
  refine Rg.build_cons (m := 5) (r := Rg.eq _) (Rg.one_plain (by rfl) (by (intro ax wx hk Kx hK; have k3 := hk.base 3 _ rfl rfl; have hj := hk.j; clear hk; have z0 := hj.1.cell 2 _ rfl; have z1 := hj.2.1.m.cell 1 _ rfl; have z2 := look_q hj.2.1.c a OKa.out; go_simp; refine hK _ _ ?_ (Below.refl _ _); apply Rg.mk))) ?_ rfl
  refine Rg.build_cons (m := 6) (r := Rg.eq _) (Rg.one_plain (by rfl) (by (intro ax wx hk Kx hK; obtain ⟨v37, k37, h37⟩ := hk.dep 4 37 _ rfl rfl rfl; (first | (cases (h37 : v37 = _)) | (obtain ⟨rfl, h37⟩ := h37) | skip); have hj := hk.j; clear hk; have z0 := hj.1.cell 2 _ rfl; have z1 := hj.2.1.m.cell 1 _ rfl; have z2 := look_q hj.2.1.c a OKa.out; go_simp; refine hK _ _ ?_ (Below.refl _ _); apply Rg.mk))) ?_ rfl
  refine Rg.build_cons (m := 7) (r := Rg.eq _) (Rg.one_plain (by rfl) (by (intro ax wx hk Kx hK; obtain ⟨v36, k36, h36⟩ := hk.dep 3 36 _ rfl rfl rfl; (first | (cases (h36 : v36 = _)) | (obtain ⟨rfl, h36⟩ := h36) | skip); obtain ⟨v38, k38, h38⟩ := hk.dep 5 38 _ rfl rfl rfl; (first | (cases (h38 : v38 = _)) | (obtain ⟨rfl, h38⟩ := h38) | skip); have hj := hk.j; clear hk; have z0 := hj.1.cell 2 _ rfl; have z1 := hj.2.1.m.cell 1 _ rfl; have z2 := look_q hj.2.1.c a OKa.out; go_simp; refine hK _ _ ?_ (Below.refl _ _); apply Rg.mk))) ?_ rfl
  refine Rg.build_cons (m := 8) (r := Rg.eq _) (Rg.one_plain (by rfl) (by (intro ax wx hk Kx hK; obtain ⟨v39, k39, h39⟩ := hk.dep 6 39 _ rfl rfl rfl; (first | (cases (h39 : v39 = _)) | (obtain ⟨rfl, h39⟩ := h39) | skip); have hj := hk.j; clear hk; have z0 := hj.1.cell 2 _ rfl; have z1 := hj.2.1.m.cell 1 _ rfl; have z2 := look_q hj.2.1.c a OKa.out; go_simp; refine hK _ _ ?_ (Below.refl _ _); apply Rg.mk))) ?_ rfl
  refine Rg.build_end fun wx hj => ?_
  refine Rg.fin_eq rfl ?_
  refine Rg.fin_eq rfl ?_
  refine Rg.fin_eq rfl ?_
  refine Rg.fin_eq rfl ?_
  refine Rg.fin_eq rfl ?_
  refine Rg.fin_eq rfl ?_
  refine Rg.fin_eq rfl ?_
  refine Rg.fin_eq rfl ?_
  refine Rg.fin_nil ?_
  simp only [List.set_cons_zero, List.set_cons_succ]
  have l1 := hj.1; have hM := hj.2.1
  have hO := HO.out.trans (Only.of_below (S := rfS g mp lv) hj.2.2) (fun k hk => .inl hk)
  clear L1 HM2 HO hj
  have L1 := Lib.hid l1; have HM2 := Lib.hid hM; have HO := Lib.hid hO
  clear l1 hM hO wz
  go_upto_region 9 with (fail)
  obtain ⟨wz, rfl⟩ : ∃ wz : World, wz = wx := ⟨_, rfl⟩
  refine Rg.wp_region_each (by kernel_rfl) (fun w' => AtG w' w.heap.size 35 #[.int .i64 1, .int .i64 d, .int .i64 a, .int .i64 b, .int .i64 c, .int .u64 n] ∧ RfM w' g mp v30 k s q TL ∧ Below wz.heap.size wz w') (fun w1 w2 h hb => ⟨h.1.below hb, h.2.1.below hb, h.2.2.trans (hb.mono h.2.2.size)⟩) (by kernel_rfl) (by kernel_rfl) (⟨L1.out, HM2.out, Below.refl _ _⟩) ?_
  show Rg.Build _ _ _ _ _ 0 [_, _, _, _, _, _, _, _] []
  refine Rg.build_cons (m := 1) (r := Rg.eq _) (Rg.one_plain (by rfl) (by (intro ax wx hk Kx hK; have k0 := hk.base 0 _ rfl rfl; have hj := hk.j; clear hk; have z0 := hj.1.cell 3 _ rfl; have z1 := hj.2.1.m.cell 1 _ rfl; have z2 := look_q hj.2.1.c b OKb.out; go_simp; refine hK _ _ ?_ (Below.refl _ _); apply Rg.mk))) ?_ rfl
  refine Rg.build_cons (m := 2) (r := Rg.eq _) (Rg.one_plain (by rfl) (by (intro ax wx hk Kx hK; obtain ⟨v40, k40, h40⟩ := hk.dep 0 40 _ rfl rfl rfl; (first | (cases (h40 : v40 = _)) | (obtain ⟨rfl, h40⟩ := h40) | skip); have hj := hk.j; clear hk; have z0 := hj.1.cell 3 _ rfl; have z1 := hj.2.1.m.cell 1 _ rfl; have z2 := look_q hj.2.1.c b OKb.out; go_simp; refine hK _ _ ?_ (Below.refl _ _); apply Rg.mk))) ?_ rfl
  refine Rg.build_cons (m := 3) (r := Rg.eq _) (Rg.one_plain (by rfl) (by (intro ax wx hk Kx hK; obtain ⟨v41, k41, h41⟩ := hk.dep 1 41 _ rfl rfl rfl; (first | (cases (h41 : v41 = _)) | (obtain ⟨rfl, h41⟩ := h41) | skip); have hj := hk.j; clear hk; have z0 := hj.1.cell 3 _ rfl; have z1 := hj.2.1.m.cell 1 _ rfl; have z2 := look_q hj.2.1.c b OKb.out; go_simp; refine hK _ _ ?_ (Below.refl _ _); apply Rg.mk))) ?_ rfl
  refine Rg.build_cons (m := 4) (r := Rg.eq _) (Rg.one_plain (by rfl) (by (intro ax wx hk Kx hK; obtain ⟨v42, k42, h42⟩ := hk.dep 2 42 _ rfl rfl rfl; (first | (cases (h42 : v42 = _)) | (obtain ⟨rfl, h42⟩ := h42) | skip); have hj := hk.j; clear hk; have z0 := hj.1.cell 3 _ rfl; have z1 := hj.2.1.m.cell 1 _ rfl; have z2 := look_q hj.2.1.c b OKb.out; go_simp; refine hK _ _ ?_ (Below.refl _ _); apply Rg.mk))) ?_ rfl
  refine Rg.build_cons (m := 5) (r := Rg.eq _) (Rg.one_plain (by rfl) (by (intro ax wx hk Kx hK; have k3 := hk.base 3 _ rfl rfl; have hj := hk.j; clear hk; have z0 := hj.1.cell 3 _ rfl; have z1 := hj.2.1.m.cell 1 _ rfl; have z2 := look_q hj.2.1.c b OKb.out; go_simp; refine hK _ _ ?_ (Below.refl _ _); apply Rg.mk))) ?_ rfl
  refine Rg.build_cons (m := 6) (r := Rg.eq _) (Rg.one_plain (by rfl) (by (intro ax wx hk Kx hK; obtain ⟨v44, k44, h44⟩ := hk.dep 4 44 _ rfl rfl rfl; (first | (cases (h44 : v44 = _)) | (obtain ⟨rfl, h44⟩ := h44) | skip); have hj := hk.j; clear hk; have z0 := hj.1.cell 3 _ rfl; have z1 := hj.2.1.m.cell 1 _ rfl; have z2 := look_q hj.2.1.c b OKb.out; go_simp; refine hK _ _ ?_ (Below.refl _ _); apply Rg.mk))) ?_ rfl
  refine Rg.build_cons (m := 7) (r := Rg.eq _) (Rg.one_plain (by rfl) (by (intro ax wx hk Kx hK; obtain ⟨v43, k43, h43⟩ := hk.dep 3 43 _ rfl rfl rfl; (first | (cases (h43 : v43 = _)) | (obtain ⟨rfl, h43⟩ := h43) | skip); obtain ⟨v45, k45, h45⟩ := hk.dep 5 45 _ rfl rfl rfl; (first | (cases (h45 : v45 = _)) | (obtain ⟨rfl, h45⟩ := h45) | skip); have hj := hk.j; clear hk; have z0 := hj.1.cell 3 _ rfl; have z1 := hj.2.1.m.cell 1 _ rfl; have z2 := look_q hj.2.1.c b OKb.out; go_simp; refine hK _ _ ?_ (Below.refl _ _); apply Rg.mk))) ?_ rfl
  refine Rg.build_cons (m := 8) (r := Rg.eq _) (Rg.one_plain (by rfl) (by (intro ax wx hk Kx hK; obtain ⟨v46, k46, h46⟩ := hk.dep 6 46 _ rfl rfl rfl; (first | (cases (h46 : v46 = _)) | (obtain ⟨rfl, h46⟩ := h46) | skip); have hj := hk.j; clear hk; have z0 := hj.1.cell 3 _ rfl; have z1 := hj.2.1.m.cell 1 _ rfl; have z2 := look_q hj.2.1.c b OKb.out; go_simp; refine hK _ _ ?_ (Below.refl _ _); apply Rg.mk))) ?_ rfl
  refine Rg.build_end fun wx hj => ?_
  refine Rg.fin_eq rfl ?_
  refine Rg.fin_eq rfl ?_
  refine Rg.fin_eq rfl ?_
  refine Rg.fin_eq rfl ?_
  refine Rg.fin_eq rfl ?_
  refine Rg.fin_eq rfl ?_
  refine Rg.fin_eq rfl ?_
  refine Rg.fin_eq rfl ?_
  refine Rg.fin_nil ?_
  simp only [List.set_cons_zero, List.set_cons_succ]
  have l1 := hj.1; have hM := hj.2.1
  have hO := HO.out.trans (Only.of_below (S := rfS g mp lv) hj.2.2) (fun k hk => .inl hk)
  clear L1 HM2 HO hj
  have L1 := Lib.hid l1; have HM2 := Lib.hid hM; have HO := Lib.hid hO
  clear l1 hM hO wz
  have c0 := L1.out.cell 0 _ rfl
  have c5 := L1.out.cell 5 _ rfl
  clear hz0
  have hz1 : (atQ q a == 0) = true := by rw [beq_iff_eq]; exact HZ.out
  go_upto_region 15 with (fail)
  clear hz1 c0 c5
  obtain ⟨wz, rfl⟩ : ∃ wz : World, wz = wx := ⟨_, rfl⟩
  refine Rg.wp_region_each (by kernel_rfl) (fun w' => AtG w' w.heap.size 35 #[.int .i64 1, .int .i64 d, .int .i64 a, .int .i64 b, .int .i64 c, .int .u64 n] ∧ RfM w' g mp v30 k s q TL ∧ Below wz.heap.size wz w') (fun w1 w2 h hb => ⟨h.1.below hb, h.2.1.below hb, h.2.2.trans (hb.mono h.2.2.size)⟩) (by kernel_rfl) (by kernel_rfl) (⟨L1.out, HM2.out, Below.refl _ _⟩) ?_
  show Rg.Build _ _ _ _ _ 0 [_, _, _, _, _, _, _, _] []
  refine Rg.build_cons (m := 1) (r := Rg.eq _) (Rg.one_plain (by rfl) (by (intro ax wx hk Kx hK; have k0 := hk.base 0 _ rfl rfl; have hj := hk.j; clear hk; have z0 := hj.1.cell 4 _ rfl; have z1 := hj.2.1.m.cell 1 _ rfl; have z2 := look_q hj.2.1.c c OKc.out; go_simp; refine hK _ _ ?_ (Below.refl _ _); apply Rg.mk))) ?_ rfl
  refine Rg.build_cons (m := 2) (r := Rg.eq _) (Rg.one_plain (by rfl) (by (intro ax wx hk Kx hK; obtain ⟨v56, k56, h56⟩ := hk.dep 0 56 _ rfl rfl rfl; (first | (cases (h56 : v56 = _)) | (obtain ⟨rfl, h56⟩ := h56) | skip); have hj := hk.j; clear hk; have z0 := hj.1.cell 4 _ rfl; have z1 := hj.2.1.m.cell 1 _ rfl; have z2 := look_q hj.2.1.c c OKc.out; go_simp; refine hK _ _ ?_ (Below.refl _ _); apply Rg.mk))) ?_ rfl
  refine Rg.build_cons (m := 3) (r := Rg.eq _) (Rg.one_plain (by rfl) (by (intro ax wx hk Kx hK; obtain ⟨v57, k57, h57⟩ := hk.dep 1 57 _ rfl rfl rfl; (first | (cases (h57 : v57 = _)) | (obtain ⟨rfl, h57⟩ := h57) | skip); have hj := hk.j; clear hk; have z0 := hj.1.cell 4 _ rfl; have z1 := hj.2.1.m.cell 1 _ rfl; have z2 := look_q hj.2.1.c c OKc.out; go_simp; refine hK _ _ ?_ (Below.refl _ _); apply Rg.mk))) ?_ rfl
  refine Rg.build_cons (m := 4) (r := Rg.eq _) (Rg.one_plain (by rfl) (by (intro ax wx hk Kx hK; obtain ⟨v58, k58, h58⟩ := hk.dep 2 58 _ rfl rfl rfl; (first | (cases (h58 : v58 = _)) | (obtain ⟨rfl, h58⟩ := h58) | skip); have hj := hk.j; clear hk; have z0 := hj.1.cell 4 _ rfl; have z1 := hj.2.1.m.cell 1 _ rfl; have z2 := look_q hj.2.1.c c OKc.out; go_simp; refine hK _ _ ?_ (Below.refl _ _); apply Rg.mk))) ?_ rfl
  refine Rg.build_cons (m := 5) (r := Rg.eq _) (Rg.one_plain (by rfl) (by (intro ax wx hk Kx hK; have k3 := hk.base 3 _ rfl rfl; have hj := hk.j; clear hk; have z0 := hj.1.cell 4 _ rfl; have z1 := hj.2.1.m.cell 1 _ rfl; have z2 := look_q hj.2.1.c c OKc.out; go_simp; refine hK _ _ ?_ (Below.refl _ _); apply Rg.mk))) ?_ rfl
  refine Rg.build_cons (m := 6) (r := Rg.eq _) (Rg.one_plain (by rfl) (by (intro ax wx hk Kx hK; obtain ⟨v60, k60, h60⟩ := hk.dep 4 60 _ rfl rfl rfl; (first | (cases (h60 : v60 = _)) | (obtain ⟨rfl, h60⟩ := h60) | skip); have hj := hk.j; clear hk; have z0 := hj.1.cell 4 _ rfl; have z1 := hj.2.1.m.cell 1 _ rfl; have z2 := look_q hj.2.1.c c OKc.out; go_simp; refine hK _ _ ?_ (Below.refl _ _); apply Rg.mk))) ?_ rfl
  refine Rg.build_cons (m := 7) (r := Rg.eq _) (Rg.one_plain (by rfl) (by (intro ax wx hk Kx hK; obtain ⟨v59, k59, h59⟩ := hk.dep 3 59 _ rfl rfl rfl; (first | (cases (h59 : v59 = _)) | (obtain ⟨rfl, h59⟩ := h59) | skip); obtain ⟨v61, k61, h61⟩ := hk.dep 5 61 _ rfl rfl rfl; (first | (cases (h61 : v61 = _)) | (obtain ⟨rfl, h61⟩ := h61) | skip); have hj := hk.j; clear hk; have z0 := hj.1.cell 4 _ rfl; have z1 := hj.2.1.m.cell 1 _ rfl; have z2 := look_q hj.2.1.c c OKc.out; go_simp; refine hK _ _ ?_ (Below.refl _ _); apply Rg.mk))) ?_ rfl
  refine Rg.build_cons (m := 8) (r := Rg.eq _) (Rg.one_plain (by rfl) (by (intro ax wx hk Kx hK; obtain ⟨v62, k62, h62⟩ := hk.dep 6 62 _ rfl rfl rfl; (first | (cases (h62 : v62 = _)) | (obtain ⟨rfl, h62⟩ := h62) | skip); have hj := hk.j; clear hk; have z0 := hj.1.cell 4 _ rfl; have z1 := hj.2.1.m.cell 1 _ rfl; have z2 := look_q hj.2.1.c c OKc.out; go_simp; refine hK _ _ ?_ (Below.refl _ _); apply Rg.mk))) ?_ rfl
  refine Rg.build_end fun wx hj => ?_
  refine Rg.fin_eq rfl ?_
  refine Rg.fin_eq rfl ?_
  refine Rg.fin_eq rfl ?_
  refine Rg.fin_eq rfl ?_
  refine Rg.fin_eq rfl ?_
  refine Rg.fin_eq rfl ?_
  refine Rg.fin_eq rfl ?_
  refine Rg.fin_eq rfl ?_
  refine Rg.fin_nil ?_
  simp only [List.set_cons_zero, List.set_cons_succ]
  have l1 := hj.1; have hM := hj.2.1
  have hO := HO.out.trans (Only.of_below (S := rfS g mp lv) hj.2.2) (fun k hk => .inl hk)
  clear L1 HM2 HO hj
  have L1 := Lib.hid l1; have HM2 := Lib.hid hM; have HO := Lib.hid hO
  clear l1 hM hO wz
  have c0 := L1.out.cell 0 _ rfl
  have c5 := L1.out.cell 5 _ rfl
  go_upto_region 44 with (fail)
  clear c0 c5
  obtain ⟨wz, rfl⟩ : ∃ wz : World, wz = wx := ⟨_, rfl⟩
  have NM : Hid (v30.ownBlock ≠ some mp ∧ mp ≠ g ∧ mp ≠ w.heap.size) := Lib.hid ⟨HM2.out.c.ne_own HM2.out.t, HM2.out.c.ne HM2.out.m, HM2.out.c.ne L1.out⟩
  refine RgX.start (by kernel_rfl) [(7, fun w5 w6 => w5.grownBy w6 (some mp))] [⟨fun w5 => AtG w5 w.heap.size 35 #[.int .i64 1, .int .i64 d, .int .i64 a, .int .i64 b, .int .i64 c, .int .u64 n] ∧ AtG w5 g 43 #[.int .i64 k, .map (some mp), v30] ∧ w5.ownsRow 0 35 6 v30 TL.length (flat6 TL) ∧ Only (rfS g mp lv) wz w5, none⟩, ⟨fun w5 => OwnF w5 Try.prog 3 29 .u64 mp s (mapF q), some 7⟩] ⟨⟨fun _ _ h hb => ⟨h.1.below hb, h.2.1.below hb, own_below h.2.2.1 hb, h.2.2.2.trans (Only.of_below (S := rfS g mp lv) hb) (fun k hk => .inl hk)⟩, ⟨fun _ _ _ _ => (fun w5 w6 h he => ⟨h.1.grown he (fun e => NM.out.2.2 (by injection e)), h.2.1.grown he (fun e => NM.out.2.1 (by injection e)), own_only h.2.2.1 (Only.of_grown (S := fun q => q = mp) he (fun q hq => by injection hq with e; exact e.symm)) (fun q hq e => NM.out.1 (by rw [hq, e])), h.2.2.2.trans (Only.of_grown (S := rfS g mp lv) he (fun q hq => by injection hq with e; exact .inr (.inl e.symm))) (fun k hk => .inl hk)⟩), trivial⟩⟩, ⟨fun _ _ h hb => h.below hb, ⟨fun _ h _ _ => absurd rfl h, trivial⟩⟩, trivial⟩ (by kernel_rfl) (by kernel_rfl) ⟨⟨L1.out.drew, HM2.out.m.drew, HM2.out.t, (Only.refl _).drew⟩, HM2.out.c.drew, trivial⟩ ?_
  show RgX.Build _ _ _ _ _ _ 0 [_, _, _, _, _, _, _, _] []
  refine RgX.build_cons (m := 1) (r := RgX.eq _) (RgX.one_plain (by rfl) (by (intro ax wx hk Kx hK; have k0 := hk.base 0 _ rfl rfl; have hL := hk.fact 0 0 _ rfl rfl; (try dsimp only at hL); have hc := hk.fact 1 1 _ rfl rfl; (try dsimp only at hc); clear hk; go_simp; refine hK _ _ (fun h => by cases h) (fun _ _ => ?_) (Below.refl _ _); apply RgX.mk))) ?_ rfl RgX.keep_eq (fun _ h => by cases h)
  refine RgX.build_cons (m := 2) (r := RgX.eq _) (RgX.one_plain (by rfl) (by (intro ax wx hk Kx hK; obtain ⟨v126, k126, h126⟩ := hk.dep 0 0 126 _ rfl rfl rfl; (first | (replace h126 := h126 9 undef rfl rfl; first | (cases (h126 : v126 = _)) | (obtain ⟨rfl, h126⟩ := h126) | skip) | skip); have hL := hk.fact 0 0 _ rfl rfl; (try dsimp only at hL); have hc := hk.fact 1 1 _ rfl rfl; (try dsimp only at hc); clear hk; go_simp; refine hK _ _ (fun h => by cases h) (fun _ _ => ?_) (Below.refl _ _); apply RgX.mk))) ?_ rfl RgX.keep_eq (fun _ h => by cases h)
  refine RgX.build_cons (m := 3) (r := RgX.eq _) (RgX.one_plain (by rfl) (by (intro ax wx hk Kx hK; obtain ⟨v127, k127, h127⟩ := hk.dep 0 1 127 _ rfl rfl rfl; (first | (replace h127 := h127 9 undef rfl rfl; first | (cases (h127 : v127 = _)) | (obtain ⟨rfl, h127⟩ := h127) | skip) | skip); have hL := hk.fact 0 0 _ rfl rfl; (try dsimp only at hL); have hc := hk.fact 1 1 _ rfl rfl; (try dsimp only at hc); clear hk; go_simp; refine hK _ _ (fun h => by cases h) (fun _ _ => ?_) (Below.refl _ _); apply RgX.mk))) ?_ rfl RgX.keep_eq (fun _ h => by cases h)
  refine RgX.build_cons (m := 4) (r := RgX.eq _) (RgX.one_plain (by rfl) (by (intro ax wx hk Kx hK; obtain ⟨v128, k128, h128⟩ := hk.dep 0 2 128 _ rfl rfl rfl; (first | (replace h128 := h128 9 undef rfl rfl; first | (cases (h128 : v128 = _)) | (obtain ⟨rfl, h128⟩ := h128) | skip) | skip); have hL := hk.fact 0 0 _ rfl rfl; (try dsimp only at hL); have hc := hk.fact 1 1 _ rfl rfl; (try dsimp only at hc); clear hk; have z0 := hL.2.1.cell 1 _ rfl; go_simp; refine hK _ _ (fun h => by cases h) (fun _ _ => ?_) (Below.refl _ _); apply RgX.mk))) ?_ rfl RgX.keep_eq (fun _ h => by cases h)
  refine RgX.build_cons (m := 5) (r := RgX.eq _) (RgX.one_plain (by rfl) (by (intro ax wx hk Kx hK; have k3 := hk.base 3 _ rfl rfl; have hL := hk.fact 0 0 _ rfl rfl; (try dsimp only at hL); have hc := hk.fact 1 1 _ rfl rfl; (try dsimp only at hc); clear hk; go_simp; refine hK _ _ (fun h => by cases h) (fun _ _ => ?_) (Below.refl _ _); apply RgX.mk))) ?_ rfl RgX.keep_eq (fun _ h => by cases h)
  refine RgX.build_cons (m := 6) (r := RgX.eq _) (RgX.one_plain (by rfl) (by (intro ax wx hk Kx hK; obtain ⟨v130, k130, h130⟩ := hk.dep 0 4 130 _ rfl rfl rfl; (first | (replace h130 := h130 9 undef rfl rfl; first | (cases (h130 : v130 = _)) | (obtain ⟨rfl, h130⟩ := h130) | skip) | skip); have hL := hk.fact 0 0 _ rfl rfl; (try dsimp only at hL); have hc := hk.fact 1 1 _ rfl rfl; (try dsimp only at hc); clear hk; have z0 := hL.1.cell 1 _ rfl; go_simp; refine hK _ _ (fun h => by cases h) (fun _ _ => ?_) (Below.refl _ _); apply RgX.mk))) ?_ rfl RgX.keep_eq (fun _ h => by cases h)
  refine RgX.build_cons (m := 7) (r := RgX.eq _) (RgX.one_plain (by rfl) (by (intro ax wx hk Kx hK; have k10 := hk.base 10 _ rfl rfl; have hL := hk.fact 0 0 _ rfl rfl; (try dsimp only at hL); have hc := hk.fact 1 1 _ rfl rfl; (try dsimp only at hc); clear hk; go_simp; refine hK _ _ (fun h => by cases h) (fun _ _ => ?_) (Below.refl _ _); apply RgX.mk))) ?_ rfl RgX.keep_eq (fun _ h => by cases h)
  refine RgX.build_cons (m := 8) (r := (⟨fun _ _ w5 => ∃ s', s' ≤ s + 1 ∧ OwnF w5 Try.prog 3 29 .u64 mp s' (mapF (putQ q d (atQ q c))), none, none⟩ : RgX.Rl)) (RgX.one_plain (by rfl) (by (intro ax wx hk Kx hK; obtain ⟨v129, k129, h129⟩ := hk.dep 0 3 129 _ rfl rfl rfl; (first | (replace h129 := h129 9 undef rfl rfl; first | (cases (h129 : v129 = _)) | (obtain ⟨rfl, h129⟩ := h129) | skip) | skip); obtain ⟨v131, k131, h131⟩ := hk.dep 0 5 131 _ rfl rfl rfl; (first | (replace h131 := h131 9 undef rfl rfl; first | (cases (h131 : v131 = _)) | (obtain ⟨rfl, h131⟩ := h131) | skip) | skip); obtain ⟨v132, k132, h132⟩ := hk.dep 0 6 132 _ rfl rfl rfl; (first | (replace h132 := h132 9 undef rfl rfl; first | (cases (h132 : v132 = _)) | (obtain ⟨rfl, h132⟩ := h132) | skip) | skip); have hL := hk.fact 0 0 _ rfl rfl; (try dsimp only at hL); have hc := hk.fact 1 0 _ rfl rfl; (try dsimp only at hc); clear hk; (obtain ⟨w8, hrun, hs8, hg8⟩ := store_q hc d (atQ q c) OKd.out VV.out HSS.out; go_simp; exact hK undef _ (fun _ => rfl) (fun u hu => hs8) hg8)))) ?_ rfl (RgX.keep_r (fun _ _ _ _ h hb => by obtain ⟨s', h1, h2⟩ := h; exact ⟨s', h1, h2.below hb⟩) (fun _ _ => ⟨fun h _ _ _ => absurd rfl h, trivial⟩)) (fun _ h => by cases h)
  refine RgX.build_end fun wx hj => ?_
  have hL := hj 0 _ rfl rfl
  clear hj
  refine RgX.fin_eq rfl ?_
  refine RgX.fin_eq rfl ?_
  refine RgX.fin_eq rfl ?_
  refine RgX.fin_eq rfl ?_
  refine RgX.fin_eq rfl ?_
  refine RgX.fin_eq rfl ?_
  refine RgX.fin_eq rfl ?_
  refine RgX.fin_none rfl fun s7 => ?_
  refine RgX.fin_nil ?_
  simp only [List.set_cons_zero, List.set_cons_succ]
  obtain ⟨s', hs', hc'⟩ := s7 rfl undef rfl
  have hf : RfM wx g mp v30 k s' (putQ q d (atQ q c)) TL := ⟨hL.2.1, hc', hL.2.2.1, (fun cc => by unfold putQ; split; exact VV.out; exact HM2.out.v cc)⟩
  have HF := Lib.hid hf
  have HO2 := Lib.hid (HO.out.trans hL.2.2.2 (fun k hk => .inl hk))
  have HSL := Lib.hid hs'
  clear hL hc' hf s7 hs'
  go_wp2_with fail
  go_returns
  refine ⟨v30, s', ?_, ?_, HO2.out, HBK.out, HSL.out⟩
  · have e : outR q ⟨1, d, a, b, c, n⟩ = 0 := by unfold outR; rw [if_neg N11.out]
    rw [e]; rfl
  · have e1 : nextR q ⟨1, d, a, b, c, n⟩ = putQ q d (atQ q c) := by unfold nextR; rw [if_neg N11.out]; exact congrArg (putQ q d) EV.out
    have e2 : Ins.seen ⟨1, d, a, b, c, n⟩ = ⟨1, d, a, b, c, n⟩ := ESN.out
    rw [e1, e2, ← HTL.out]
    exact HF.out
set_option maxRecDepth 100000 in
set_option maxHeartbeats 4000000 in
theorem refDo_emit (d a b c n : Int) (g mp k s : Nat) (lv : Value) (q : Int → Option Int) (tr : List Ins) (w : World) (h : RfM w g mp lv k s q tr) (hm : mayP k ⟨11, d, a, b, c, n⟩ = true) (htr : tr.length ≤ 1000000000000) (hs : s ≤ 1000000000000) (ho : Ins.ok ⟨11, d, a, b, c, n⟩) :
    Calls Try.prog 11 #[.pointer (some ⟨g, 0, none⟩), Ins.val ⟨11, d, a, b, c, n⟩] w (RfPost g mp k s lv q tr ⟨11, d, a, b, c, n⟩ w) := by
  have HH := Lib.hid h
  have OKd := Lib.hid ho.2.1; have OKa := Lib.hid ho.2.2.1; have OKb := Lib.hid ho.2.2.2.1; have OKc := Lib.hid ho.2.2.2.2.1; have OKn := Lib.hid ho.2.2.2.2.2
  have H := Lib.hid h; have HM := Lib.hid hm; have HTR := Lib.hid htr; have HSS := Lib.hid hs; clear h hm htr hs ho
  unfold Ins.val Ins.cells
  dsimp only
  go_enter Try.func11, Try.ntmps11
  go_upto_region 1 with (fail)
  have f1 : AtG (w.alloc (.cells #[.int .i64 11, .int .i64 d, .int .i64 a, .int .i64 b, .int .i64 c, .int .u64 n] 35)) w.heap.size 35 #[.int .i64 11, .int .i64 d, .int .i64 a, .int .i64 b, .int .i64 c, .int .u64 n] := AtG.new _ _ _
  have f2 : Below w.heap.size w (w.alloc (.cells #[.int .i64 11, .int .i64 d, .int .i64 a, .int .i64 b, .int .i64 c, .int .u64 n] 35)) := by go_grown
  generalize w.alloc (.cells #[.int .i64 11, .int .i64 d, .int .i64 a, .int .i64 b, .int .i64 c, .int .u64 n] 35) = w2 at f1 f2 ⊢
  have c0 := f1.cell 0 _ rfl
  have c1 := f1.cell 1 _ rfl
  have c2 := f1.cell 2 _ rfl
  have c3 := f1.cell 3 _ rfl
  have c4 := f1.cell 4 _ rfl
  have c5 := f1.cell 5 _ rfl
  have F1 := Lib.hid f1; have F2 := Lib.hid f2
  clear f1 f2
  go_wp2_with fail
  refine (refMay_any ⟨11, d, a, b, c, n⟩ g mp k s lv q tr w2 (H.out.below F2.out)).mono ?_
  rw [HM.out]
  rintro e9 w3 ⟨rfl, hb⟩
  have g1 := F1.out.below hb
  have g2 := F2.out.trans (hb.mono F2.out.size)
  clear c0 c1 c2 c3 c4 c5 F1 F2 hb
  have c0 := g1.cell 0 _ rfl
  have c1 := g1.cell 1 _ rfl
  have c2 := g1.cell 2 _ rfl
  have c3 := g1.cell 3 _ rfl
  have c4 := g1.cell 4 _ rfl
  have c5 := g1.cell 5 _ rfl
  have hz := g1.lt
  have G1 := Lib.hid g1; have G2 := Lib.hid g2
  clear g1 g2
  go_upto_region 7 with (fail)
  have q1 : AtG (w3.alloc (.cells #[.int .i64 11, .int .i64 d, .int .i64 a, .int .i64 b, .int .i64 c, .int .u64 n] 35)) w.heap.size 35 #[.int .i64 11, .int .i64 d, .int .i64 a, .int .i64 b, .int .i64 c, .int .u64 n] := G1.out.alloc _
  have q2 : AtG (w3.alloc (.cells #[.int .i64 11, .int .i64 d, .int .i64 a, .int .i64 b, .int .i64 c, .int .u64 n] 35)) w3.heap.size 35 #[.int .i64 11, .int .i64 d, .int .i64 a, .int .i64 b, .int .i64 c, .int .u64 n] := AtG.new _ _ _
  have q3 : Below w.heap.size w (w3.alloc (.cells #[.int .i64 11, .int .i64 d, .int .i64 a, .int .i64 b, .int .i64 c, .int .u64 n] 35)) := G2.out.alloc G2.out.size _
  have q4 : RfM (w3.alloc (.cells #[.int .i64 11, .int .i64 d, .int .i64 a, .int .i64 b, .int .i64 c, .int .u64 n] 35)) g mp lv k s q tr := H.out.below q3
  have q5 := H.out.lt
  generalize w3.alloc (.cells #[.int .i64 11, .int .i64 d, .int .i64 a, .int .i64 b, .int .i64 c, .int .u64 n] 35) = w4 at q1 q2 q3 q4 ⊢
  have NE : Hid (lv.ownBlock ≠ some w.heap.size ∧ lv.ownBlock ≠ some w3.heap.size ∧ lv.ownBlock ≠ some mp ∧ lv.ownBlock ≠ some g) :=
    Lib.hid ⟨fun e => by have := q5 _ (.inr (.inr e)); omega, fun e => by have := q5 _ (.inr (.inr e)); omega, q4.c.ne_own q4.t, own_ne q4.t q4.m (by decide)⟩
  have NG : Hid (w.heap.size ≠ g ∧ w3.heap.size ≠ g ∧ mp ≠ g ∧ g < w4.heap.size) :=
    Lib.hid ⟨fun e => by have := q5 g (.inl rfl); omega, fun e => by have := q5 g (.inl rfl); omega, q4.c.ne q4.m, q4.m.lt⟩
  have Q1 := Lib.hid q1; have Q2 := Lib.hid q2; have Q3 := Lib.hid q3; have Q4 := Lib.hid q4; have Q5 := Lib.hid q5
  clear q1 q2 q3 q4 q5 c0 c1 c2 c3 c4 c5 G1 G2 hz
  refine RgX.start (by kernel_rfl) [(7, fun w5 w6 => w5.grownBy w6 lv.ownBlock), (10, fun w5 w6 => ∃ v, w6 = w5.setCell ⟨g, 2, none⟩ v)] [⟨fun w5 => AtG w5 w.heap.size 35 #[.int .i64 11, .int .i64 d, .int .i64 a, .int .i64 b, .int .i64 c, .int .u64 n] ∧ AtG w5 w3.heap.size 35 #[.int .i64 11, .int .i64 d, .int .i64 a, .int .i64 b, .int .i64 c, .int .u64 n] ∧ OwnF w5 Try.prog 3 29 .u64 mp s (mapF q) ∧ Only (rfS g mp lv) w4 w5, none⟩, ⟨fun w5 => AtG w5 g 43 #[.int .i64 k, .map (some mp), lv], some 10⟩, ⟨fun w5 => w5.ownsRow 0 35 6 lv tr.length (flat6 tr), some 7⟩] ⟨⟨fun _ _ h hb => ⟨h.1.below hb, h.2.1.below hb, h.2.2.1.below hb, h.2.2.2.trans (Only.of_below (S := rfS g mp lv) hb) (fun k hk => .inl hk)⟩, ⟨fun _ _ _ _ => (fun w5 w6 h he => ⟨h.1.grown he NE.out.1, h.2.1.grown he NE.out.2.1, h.2.2.1.kept he (fun e => NE.out.2.2.1 e.symm), h.2.2.2.trans (Only.of_grown (S := rfS g mp lv) he (fun k hk => .inr (.inr hk))) (fun k hk => .inl hk)⟩), fun _ _ _ _ => (fun w5 w6 h he => by obtain ⟨v, rfl⟩ := he; exact ⟨h.1.far NG.out.1 _, h.2.1.far NG.out.2.1 _, h.2.2.1.far NG.out.2.2.1 _, h.2.2.2.trans (Only.set (S := rfS g mp lv) _ _ _ _ (.inl rfl)) (fun k hk => .inl hk)⟩), trivial⟩⟩, ⟨fun _ _ h hb => h.below hb, ⟨fun _ _ _ _ => (fun w5 w6 h he => h.grown he NE.out.2.2.2), fun _ h _ _ => absurd rfl h, trivial⟩⟩, ⟨fun _ _ h hb => own_below h hb, ⟨fun _ h _ _ => absurd rfl h, fun _ _ h _ => absurd ⟨7, 1, rfl, rfl⟩ h, trivial⟩⟩, trivial⟩ (by kernel_rfl) (by kernel_rfl) ⟨⟨Q1.out.drew, Q2.out.drew, Q4.out.c.drew, (Only.refl _).drew⟩, Q4.out.m.drew, Q4.out.t, trivial⟩ ?_
  show RgX.Build _ _ _ _ _ _ 0 [_, _, _, _, _, _, _, _, _, _, _] []
  refine RgX.build_cons (m := 1) (r := RgX.eq _) (RgX.one_plain (by rfl) (by (intro ax wx hk Kx hK; have k0 := hk.base 0 _ rfl rfl; have hL := hk.fact 0 0 _ rfl rfl; (try dsimp only at hL); have hm := hk.fact 1 1 _ rfl rfl; (try dsimp only at hm); clear hk; go_simp; refine hK _ _ (fun h => by cases h) (fun _ _ => ?_) (Below.refl _ _); apply RgX.mk))) ?_ rfl RgX.keep_eq (fun _ h => by cases h)
  refine RgX.build_cons (m := 2) (r := RgX.eq _) (RgX.one_plain (by rfl) (by (intro ax wx hk Kx hK; have k0 := hk.base 0 _ rfl rfl; have hL := hk.fact 0 0 _ rfl rfl; (try dsimp only at hL); have hm := hk.fact 1 1 _ rfl rfl; (try dsimp only at hm); have ht := hk.fact 2 4 _ rfl rfl; (try dsimp only at ht); clear hk; go_simp; refine hK _ _ (fun h => by cases h) (fun _ _ => ?_) (Below.refl _ _); apply RgX.mk))) ?_ rfl RgX.keep_eq (fun _ h => by cases h)
  refine RgX.build_cons (m := 3) (r := RgX.eq _) (RgX.one_plain (by rfl) (by (intro ax wx hk Kx hK; obtain ⟨v24, k24, h24⟩ := hk.dep 0 1 24 _ rfl rfl rfl; (first | (replace h24 := h24 9 undef rfl rfl; first | (cases (h24 : v24 = _)) | (obtain ⟨rfl, h24⟩ := h24) | skip) | skip); have hL := hk.fact 0 0 _ rfl rfl; (try dsimp only at hL); have hm := hk.fact 1 1 _ rfl rfl; (try dsimp only at hm); have ht := hk.fact 2 3 _ rfl rfl; (try dsimp only at ht); clear hk; go_simp; refine hK _ _ (fun h => by cases h) (fun _ _ => ?_) (Below.refl _ _); apply RgX.mk))) ?_ rfl RgX.keep_eq (fun _ h => by cases h)
  refine RgX.build_cons (m := 4) (r := RgX.eq _) (RgX.one_plain (by rfl) (by (intro ax wx hk Kx hK; obtain ⟨v25, k25, h25⟩ := hk.dep 0 2 25 _ rfl rfl rfl; (first | (replace h25 := h25 9 undef rfl rfl; first | (cases (h25 : v25 = _)) | (obtain ⟨rfl, h25⟩ := h25) | skip) | skip); have hL := hk.fact 0 0 _ rfl rfl; (try dsimp only at hL); have hm := hk.fact 1 1 _ rfl rfl; (try dsimp only at hm); have ht := hk.fact 2 2 _ rfl rfl; (try dsimp only at ht); clear hk; go_simp; refine hK _ _ (fun h => by cases h) (fun _ _ => ?_) (Below.refl _ _); apply RgX.mk))) ?_ rfl RgX.keep_eq (fun _ h => by cases h)
  refine RgX.build_cons (m := 5) (r := RgX.eq _) (RgX.one_plain (by rfl) (by (intro ax wx hk Kx hK; obtain ⟨v26, k26, h26⟩ := hk.dep 0 3 26 _ rfl rfl rfl; (first | (replace h26 := h26 9 undef rfl rfl; first | (cases (h26 : v26 = _)) | (obtain ⟨rfl, h26⟩ := h26) | skip) | skip); have hL := hk.fact 0 0 _ rfl rfl; (try dsimp only at hL); have hm := hk.fact 1 1 _ rfl rfl; (try dsimp only at hm); have ht := hk.fact 2 1 _ rfl rfl; (try dsimp only at ht); clear hk; have z0 := hm.cell 2 _ rfl; go_simp; refine hK _ _ (fun h => by cases h) (fun _ _ => ?_) (Below.refl _ _); apply RgX.mk))) ?_ rfl RgX.keep_eq (fun _ h => by cases h)
  refine RgX.build_cons (m := 6) (r := RgX.eq _) (RgX.one_plain (by rfl) (by (intro ax wx hk Kx hK; have k7 := hk.base 7 _ rfl rfl; have hL := hk.fact 0 0 _ rfl rfl; (try dsimp only at hL); have hm := hk.fact 1 1 _ rfl rfl; (try dsimp only at hm); have ht := hk.fact 2 2 _ rfl rfl; (try dsimp only at ht); clear hk; have z0 := hL.2.1.cell 0 _ rfl; have z1 := hL.2.1.cell 1 _ rfl; have z2 := hL.2.1.cell 2 _ rfl; have z3 := hL.2.1.cell 3 _ rfl; have z4 := hL.2.1.cell 4 _ rfl; have z5 := hL.2.1.cell 5 _ rfl; go_simp; refine hK _ _ (fun h => by cases h) (fun _ _ => ?_) (Below.refl _ _); apply RgX.mk))) ?_ rfl RgX.keep_eq (fun _ h => by cases h)
  refine RgX.build_cons (m := 7) (r := (⟨fun v _ w5 => ∃ kk, v = .slice (some ⟨kk, 0, none⟩) 1 1 ∧ w4.heap.size ≤ kk ∧ AtG w5 kk 35 #[.int .i64 11, .int .i64 d, .int .i64 a, .int .i64 b, .int .i64 c, .int .u64 n], some 7, none⟩ : RgX.Rl)) (RgX.one_plain (by rfl) (by (intro ax wx hk Kx hK; obtain ⟨v28, k28, h28⟩ := hk.dep 0 5 28 _ rfl rfl rfl; (first | (replace h28 := h28 9 undef rfl rfl; first | (cases (h28 : v28 = _)) | (obtain ⟨rfl, h28⟩ := h28) | skip) | skip); have hL := hk.fact 0 0 _ rfl rfl; (try dsimp only at hL); have hm := hk.fact 1 1 _ rfl rfl; (try dsimp only at hm); have ht := hk.fact 2 1 _ rfl rfl; (try dsimp only at ht); clear hk; (go_simp; exact hK _ _ (fun h => by cases h) (fun u _ => ⟨wx.heap.size, rfl, hL.2.2.2.size, AtG.new _ _ _⟩) ((Below.refl _ _).alloc (Nat.le_refl _) _))))) ?_ rfl (RgX.keep_r (fun _ _ _ _ h hb => by obtain ⟨kk, h1, h2, h3⟩ := h; exact ⟨kk, h1, h2, h3.below hb⟩) (fun _ _ => ⟨fun _ h _ _ => absurd rfl h, fun _ _ h _ => absurd ⟨7, 1, rfl, rfl⟩ h, trivial⟩)) (fun _ h => by cases h)
  refine RgX.build_cons (m := 8) (r := (⟨fun v _ w5 => w5.ownsRow 0 35 6 v (tr.length + 1) (flat6 tr ++ [.int .i64 11, .int .i64 d, .int .i64 a, .int .i64 b, .int .i64 c, .int .u64 n]) ∧ (v.ownBlock = lv.ownBlock ∨ ∃ bb, v.ownBlock = some bb ∧ w4.heap.size ≤ bb), none, none⟩ : RgX.Rl)) (RgX.one_plain (by rfl) (by (intro ax wx hk Kx hK; obtain ⟨v27, k27, h27⟩ := hk.dep 0 4 27 _ rfl rfl rfl; (first | (replace h27 := h27 9 undef rfl rfl; first | (cases (h27 : v27 = _)) | (obtain ⟨rfl, h27⟩ := h27) | skip) | skip); obtain ⟨v29, k29, h29⟩ := hk.dep 0 6 29 _ rfl rfl rfl; (first | (replace h29 := h29 9 undef rfl rfl; first | (cases (h29 : v29 = _)) | (obtain ⟨rfl, h29⟩ := h29) | skip) | skip); have hL := hk.fact 0 0 _ rfl rfl; (try dsimp only at hL); have hm := hk.fact 1 1 _ rfl rfl; (try dsimp only at hm); have ht := hk.fact 2 0 _ rfl rfl; (try dsimp only at ht); clear hk; (obtain ⟨kk, rfl, hk0, hk1⟩ := h29; refine wp_appRowX (.tmp 27) (.tmp 29) 22 rfl 0 35 _ 6 48 Try.underlying22 infoIns rfl (by decide) lv _ tr.length 1 (flat6 tr) [.int .i64 11, .int .i64 d, .int .i64 a, .int .i64 b, .int .i64 c, .int .u64 n] ht (src_at hk1 1) (by simp [Act.eval, k27]) (by simp [Act.eval, k29]) rfl (by simp [Value.oneCell']) (by have := HTR.out; omega) (by decide) (Nat.zero_le _) ?_; intro v' w' ho hg hbk; exact hK _ _ (fun h => by cases h) (fun u _ => ⟨ho, hbk.elim .inl (fun e => .inr ⟨_, e, hL.2.2.2.size⟩)⟩) hg)))) ?_ rfl (RgX.keep_r (fun _ _ _ _ h hb => ⟨own_below h.1 hb, h.2⟩) (fun _ _ => ⟨fun h _ _ _ => absurd rfl h, fun _ _ _ _ => (fun w5 w6 h he => by obtain ⟨v, rfl⟩ := he; exact ⟨own_setFar h.1 h.2 NE.out.2.2.2 NG.out.2.2.2 _ _, h.2⟩), trivial⟩)) (fun _ h => by cases h)
  refine RgX.build_cons (m := 9) (r := RgX.eq _) (RgX.one_plain (by rfl) (by (intro ax wx hk Kx hK; obtain ⟨v23, k23, h23⟩ := hk.dep 0 0 23 _ rfl rfl rfl; (first | (replace h23 := h23 9 undef rfl rfl; first | (cases (h23 : v23 = _)) | (obtain ⟨rfl, h23⟩ := h23) | skip) | skip); have hL := hk.fact 0 0 _ rfl rfl; (try dsimp only at hL); have hm := hk.fact 1 2 _ rfl rfl; (try dsimp only at hm); clear hk; go_simp; refine hK _ _ (fun h => by cases h) (fun _ _ => ?_) (Below.refl _ _); apply RgX.mk))) ?_ rfl RgX.keep_eq (fun _ h => by cases h)
  refine RgX.build_cons (m := 10) (r := RgX.eq _) (RgX.one_plain (by rfl) (by (intro ax wx hk Kx hK; obtain ⟨v31, k31, h31⟩ := hk.dep 0 8 31 _ rfl rfl rfl; (first | (replace h31 := h31 9 undef rfl rfl; first | (cases (h31 : v31 = _)) | (obtain ⟨rfl, h31⟩ := h31) | skip) | skip); have hL := hk.fact 0 0 _ rfl rfl; (try dsimp only at hL); have hm := hk.fact 1 1 _ rfl rfl; (try dsimp only at hm); clear hk; go_simp; refine hK _ _ (fun h => by cases h) (fun _ _ => ?_) (Below.refl _ _); apply RgX.mk))) ?_ rfl RgX.keep_eq (fun _ h => by cases h)
  refine RgX.build_cons (m := 11) (r := (⟨fun _ u w5 => AtG w5 g 43 #[.int .i64 k, .map (some mp), u], none, some 7⟩ : RgX.Rl)) (RgX.one_plain (by rfl) (by (intro ax wx hk Kx hK; obtain ⟨v30, k30, h30⟩ := hk.dep 0 7 30 _ rfl rfl rfl; (first | (replace h30 := h30 9 undef rfl rfl; first | (cases (h30 : v30 = _)) | (obtain ⟨rfl, h30⟩ := h30) | skip) | skip); obtain ⟨v32, k32, h32⟩ := hk.dep 0 9 32 _ rfl rfl rfl; (first | (replace h32 := h32 9 undef rfl rfl; first | (cases (h32 : v32 = _)) | (obtain ⟨rfl, h32⟩ := h32) | skip) | skip); have hL := hk.fact 0 0 _ rfl rfl; (try dsimp only at hL); have hm := hk.fact 1 0 _ rfl rfl; (try dsimp only at hm); clear hk; (have z0 := hm.cell 2 _ rfl; have z1 := hm.frozen 2; obtain ⟨sa, sl, sc, rfl⟩ := own_slice h30.1; go_simp; refine hK undef _ (fun _ => rfl) (fun u hu => ?_) ⟨_, rfl⟩; obtain ⟨t, ht', hu⟩ := hu; cases ht'; rw [k30] at hu; cases hu; exact hm.set 2 _)))) ?_ rfl (RgX.keep_r (fun _ _ _ _ h hb => h.below hb) (fun _ _ => ⟨fun _ _ _ h => absurd ⟨1, rfl⟩ h, fun h _ _ _ => absurd rfl h, trivial⟩)) (fun j h => by cases h; exact ⟨0, rfl⟩)
  refine RgX.build_end fun wx hj => ?_
  have hL := hj 0 _ rfl rfl
  clear hj
  refine RgX.fin_eq rfl ?_
  refine RgX.fin_eq rfl ?_
  refine RgX.fin_eq rfl ?_
  refine RgX.fin_eq rfl ?_
  refine RgX.fin_eq rfl ?_
  refine RgX.fin_eq rfl ?_
  first | refine RgX.fin_eq rfl ?_ | refine RgX.fin_any rfl fun v29 h29 => ?_
  first | refine RgX.fin_eq rfl ?_ | refine RgX.fin_any rfl fun v30 h30 => ?_
  refine RgX.fin_eq rfl ?_
  refine RgX.fin_eq rfl ?_
  refine RgX.fin_none rfl fun s10 => ?_
  refine RgX.fin_nil ?_
  simp only [List.set_cons_zero, List.set_cons_succ]
  have hm' := s10 rfl v30 ⟨30, rfl, rfl⟩
  have ho := h30 rfl undef rfl
  have hM : RfM wx g mp v30 k s q (tr ++ [⟨11, d, a, b, c, n⟩]) := ⟨hm', hL.2.2.1, by rw [List.length_append, flat6_snoc]; exact ho.1, Q4.out.v⟩
  have hO : Only (rfS g mp lv) w wx := (Only.of_below Q3.out).trans hL.2.2.2 (fun k hk => .inl hk)
  have hB : v30.ownBlock = lv.ownBlock ∨ ∃ b, v30.ownBlock = some b ∧ w.heap.size ≤ b := ho.2.imp id (fun ⟨b, h1, h2⟩ => ⟨b, h1, Nat.le_trans Q3.out.size h2⟩)
  have l1 := hL.1
  obtain ⟨TL, hTL⟩ : ∃ TL : List Ins, TL = tr ++ [⟨11, d, a, b, c, n⟩] := ⟨_, rfl⟩
  rw [← hTL] at hM
  have HTL := Lib.hid hTL; clear hTL
  have HM2 := Lib.hid hM; have HO := Lib.hid hO; have HBK := Lib.hid hB
  have L1 := Lib.hid l1
  clear hm' ho hM hO hB l1 hL s10 h30 h29
  go_upto_region 8 with (fail)
  obtain ⟨wz, rfl⟩ : ∃ wz : World, wz = wx := ⟨_, rfl⟩
  refine Rg.wp_region_each (by kernel_rfl) (fun w' => AtG w' w.heap.size 35 #[.int .i64 11, .int .i64 d, .int .i64 a, .int .i64 b, .int .i64 c, .int .u64 n] ∧ RfM w' g mp v30 k s q TL ∧ Below wz.heap.size wz w') (fun w1 w2 h hb => ⟨h.1.below hb, h.2.1.below hb, h.2.2.trans (hb.mono h.2.2.size)⟩) (by kernel_rfl) (by kernel_rfl) (⟨L1.out, HM2.out, Below.refl _ _⟩) ?_
  show Rg.Build _ _ _ _ _ 0 [_, _, _, _, _, _, _, _] []
  refine Rg.build_cons (m := 1) (r := Rg.eq _) (Rg.one_plain (by rfl) (by (intro ax wx hk Kx hK; have k0 := hk.base 0 _ rfl rfl; have hj := hk.j; clear hk; have z0 := hj.1.cell 2 _ rfl; have z1 := hj.2.1.m.cell 1 _ rfl; have z2 := look_q hj.2.1.c a OKa.out; go_simp; refine hK _ _ ?_ (Below.refl _ _); apply Rg.mk))) ?_ rfl
  refine Rg.build_cons (m := 2) (r := Rg.eq _) (Rg.one_plain (by rfl) (by (intro ax wx hk Kx hK; obtain ⟨v33, k33, h33⟩ := hk.dep 0 33 _ rfl rfl rfl; (first | (cases (h33 : v33 = _)) | (obtain ⟨rfl, h33⟩ := h33) | skip); have hj := hk.j; clear hk; have z0 := hj.1.cell 2 _ rfl; have z1 := hj.2.1.m.cell 1 _ rfl; have z2 := look_q hj.2.1.c a OKa.out; go_simp; refine hK _ _ ?_ (Below.refl _ _); apply Rg.mk))) ?_ rfl
  refine Rg.build_cons (m := 3) (r := Rg.eq _) (Rg.one_plain (by rfl) (by (intro ax wx hk Kx hK; obtain ⟨v34, k34, h34⟩ := hk.dep 1 34 _ rfl rfl rfl; (first | (cases (h34 : v34 = _)) | (obtain ⟨rfl, h34⟩ := h34) | skip); have hj := hk.j; clear hk; have z0 := hj.1.cell 2 _ rfl; have z1 := hj.2.1.m.cell 1 _ rfl; have z2 := look_q hj.2.1.c a OKa.out; go_simp; refine hK _ _ ?_ (Below.refl _ _); apply Rg.mk))) ?_ rfl
  refine Rg.build_cons (m := 4) (r := Rg.eq _) (Rg.one_plain (by rfl) (by (intro ax wx hk Kx hK; obtain ⟨v35, k35, h35⟩ := hk.dep 2 35 _ rfl rfl rfl; (first | (cases (h35 : v35 = _)) | (obtain ⟨rfl, h35⟩ := h35) | skip); have hj := hk.j; clear hk; have z0 := hj.1.cell 2 _ rfl; have z1 := hj.2.1.m.cell 1 _ rfl; have z2 := look_q hj.2.1.c a OKa.out; go_simp; refine hK _ _ ?_ (Below.refl _ _); apply Rg.mk))) ?_ rfl
  refine Rg.build_cons (m := 5) (r := Rg.eq _) (Rg.one_plain (by rfl) (by (intro ax wx hk Kx hK; have k3 := hk.base 3 _ rfl rfl; have hj := hk.j; clear hk; have z0 := hj.1.cell 2 _ rfl; have z1 := hj.2.1.m.cell 1 _ rfl; have z2 := look_q hj.2.1.c a OKa.out; go_simp; refine hK _ _ ?_ (Below.refl _ _); apply Rg.mk))) ?_ rfl
  refine Rg.build_cons (m := 6) (r := Rg.eq _) (Rg.one_plain (by rfl) (by (intro ax wx hk Kx hK; obtain ⟨v37, k37, h37⟩ := hk.dep 4 37 _ rfl rfl rfl; (first | (cases (h37 : v37 = _)) | (obtain ⟨rfl, h37⟩ := h37) | skip); have hj := hk.j; clear hk; have z0 := hj.1.cell 2 _ rfl; have z1 := hj.2.1.m.cell 1 _ rfl; have z2 := look_q hj.2.1.c a OKa.out; go_simp; refine hK _ _ ?_ (Below.refl _ _); apply Rg.mk))) ?_ rfl
  refine Rg.build_cons (m := 7) (r := Rg.eq _) (Rg.one_plain (by rfl) (by (intro ax wx hk Kx hK; obtain ⟨v36, k36, h36⟩ := hk.dep 3 36 _ rfl rfl rfl; (first | (cases (h36 : v36 = _)) | (obtain ⟨rfl, h36⟩ := h36) | skip); obtain ⟨v38, k38, h38⟩ := hk.dep 5 38 _ rfl rfl rfl; (first | (cases (h38 : v38 = _)) | (obtain ⟨rfl, h38⟩ := h38) | skip); have hj := hk.j; clear hk; have z0 := hj.1.cell 2 _ rfl; have z1 := hj.2.1.m.cell 1 _ rfl; have z2 := look_q hj.2.1.c a OKa.out; go_simp; refine hK _ _ ?_ (Below.refl _ _); apply Rg.mk))) ?_ rfl
  refine Rg.build_cons (m := 8) (r := Rg.eq _) (Rg.one_plain (by rfl) (by (intro ax wx hk Kx hK; obtain ⟨v39, k39, h39⟩ := hk.dep 6 39 _ rfl rfl rfl; (first | (cases (h39 : v39 = _)) | (obtain ⟨rfl, h39⟩ := h39) | skip); have hj := hk.j; clear hk; have z0 := hj.1.cell 2 _ rfl; have z1 := hj.2.1.m.cell 1 _ rfl; have z2 := look_q hj.2.1.c a OKa.out; go_simp; refine hK _ _ ?_ (Below.refl _ _); apply Rg.mk))) ?_ rfl
  refine Rg.build_end fun wx hj => ?_
  refine Rg.fin_eq rfl ?_
  refine Rg.fin_eq rfl ?_
  refine Rg.fin_eq rfl ?_
  refine Rg.fin_eq rfl ?_
  refine Rg.fin_eq rfl ?_
  refine Rg.fin_eq rfl ?_
  refine Rg.fin_eq rfl ?_
  refine Rg.fin_eq rfl ?_
  refine Rg.fin_nil ?_
  simp only [List.set_cons_zero, List.set_cons_succ]
  have l1 := hj.1; have hM := hj.2.1
  have hO := HO.out.trans (Only.of_below (S := rfS g mp lv) hj.2.2) (fun k hk => .inl hk)
  clear L1 HM2 HO hj
  have L1 := Lib.hid l1; have HM2 := Lib.hid hM; have HO := Lib.hid hO
  clear l1 hM hO wz
  go_upto_region 9 with (fail)
  obtain ⟨wz, rfl⟩ : ∃ wz : World, wz = wx := ⟨_, rfl⟩
  refine Rg.wp_region_each (by kernel_rfl) (fun w' => AtG w' w.heap.size 35 #[.int .i64 11, .int .i64 d, .int .i64 a, .int .i64 b, .int .i64 c, .int .u64 n] ∧ RfM w' g mp v30 k s q TL ∧ Below wz.heap.size wz w') (fun w1 w2 h hb => ⟨h.1.below hb, h.2.1.below hb, h.2.2.trans (hb.mono h.2.2.size)⟩) (by kernel_rfl) (by kernel_rfl) (⟨L1.out, HM2.out, Below.refl _ _⟩) ?_
  show Rg.Build _ _ _ _ _ 0 [_, _, _, _, _, _, _, _] []
  refine Rg.build_cons (m := 1) (r := Rg.eq _) (Rg.one_plain (by rfl) (by (intro ax wx hk Kx hK; have k0 := hk.base 0 _ rfl rfl; have hj := hk.j; clear hk; have z0 := hj.1.cell 3 _ rfl; have z1 := hj.2.1.m.cell 1 _ rfl; have z2 := look_q hj.2.1.c b OKb.out; go_simp; refine hK _ _ ?_ (Below.refl _ _); apply Rg.mk))) ?_ rfl
  refine Rg.build_cons (m := 2) (r := Rg.eq _) (Rg.one_plain (by rfl) (by (intro ax wx hk Kx hK; obtain ⟨v40, k40, h40⟩ := hk.dep 0 40 _ rfl rfl rfl; (first | (cases (h40 : v40 = _)) | (obtain ⟨rfl, h40⟩ := h40) | skip); have hj := hk.j; clear hk; have z0 := hj.1.cell 3 _ rfl; have z1 := hj.2.1.m.cell 1 _ rfl; have z2 := look_q hj.2.1.c b OKb.out; go_simp; refine hK _ _ ?_ (Below.refl _ _); apply Rg.mk))) ?_ rfl
  refine Rg.build_cons (m := 3) (r := Rg.eq _) (Rg.one_plain (by rfl) (by (intro ax wx hk Kx hK; obtain ⟨v41, k41, h41⟩ := hk.dep 1 41 _ rfl rfl rfl; (first | (cases (h41 : v41 = _)) | (obtain ⟨rfl, h41⟩ := h41) | skip); have hj := hk.j; clear hk; have z0 := hj.1.cell 3 _ rfl; have z1 := hj.2.1.m.cell 1 _ rfl; have z2 := look_q hj.2.1.c b OKb.out; go_simp; refine hK _ _ ?_ (Below.refl _ _); apply Rg.mk))) ?_ rfl
  refine Rg.build_cons (m := 4) (r := Rg.eq _) (Rg.one_plain (by rfl) (by (intro ax wx hk Kx hK; obtain ⟨v42, k42, h42⟩ := hk.dep 2 42 _ rfl rfl rfl; (first | (cases (h42 : v42 = _)) | (obtain ⟨rfl, h42⟩ := h42) | skip); have hj := hk.j; clear hk; have z0 := hj.1.cell 3 _ rfl; have z1 := hj.2.1.m.cell 1 _ rfl; have z2 := look_q hj.2.1.c b OKb.out; go_simp; refine hK _ _ ?_ (Below.refl _ _); apply Rg.mk))) ?_ rfl
  refine Rg.build_cons (m := 5) (r := Rg.eq _) (Rg.one_plain (by rfl) (by (intro ax wx hk Kx hK; have k3 := hk.base 3 _ rfl rfl; have hj := hk.j; clear hk; have z0 := hj.1.cell 3 _ rfl; have z1 := hj.2.1.m.cell 1 _ rfl; have z2 := look_q hj.2.1.c b OKb.out; go_simp; refine hK _ _ ?_ (Below.refl _ _); apply Rg.mk))) ?_ rfl
  refine Rg.build_cons (m := 6) (r := Rg.eq _) (Rg.one_plain (by rfl) (by (intro ax wx hk Kx hK; obtain ⟨v44, k44, h44⟩ := hk.dep 4 44 _ rfl rfl rfl; (first | (cases (h44 : v44 = _)) | (obtain ⟨rfl, h44⟩ := h44) | skip); have hj := hk.j; clear hk; have z0 := hj.1.cell 3 _ rfl; have z1 := hj.2.1.m.cell 1 _ rfl; have z2 := look_q hj.2.1.c b OKb.out; go_simp; refine hK _ _ ?_ (Below.refl _ _); apply Rg.mk))) ?_ rfl
  refine Rg.build_cons (m := 7) (r := Rg.eq _) (Rg.one_plain (by rfl) (by (intro ax wx hk Kx hK; obtain ⟨v43, k43, h43⟩ := hk.dep 3 43 _ rfl rfl rfl; (first | (cases (h43 : v43 = _)) | (obtain ⟨rfl, h43⟩ := h43) | skip); obtain ⟨v45, k45, h45⟩ := hk.dep 5 45 _ rfl rfl rfl; (first | (cases (h45 : v45 = _)) | (obtain ⟨rfl, h45⟩ := h45) | skip); have hj := hk.j; clear hk; have z0 := hj.1.cell 3 _ rfl; have z1 := hj.2.1.m.cell 1 _ rfl; have z2 := look_q hj.2.1.c b OKb.out; go_simp; refine hK _ _ ?_ (Below.refl _ _); apply Rg.mk))) ?_ rfl
  refine Rg.build_cons (m := 8) (r := Rg.eq _) (Rg.one_plain (by rfl) (by (intro ax wx hk Kx hK; obtain ⟨v46, k46, h46⟩ := hk.dep 6 46 _ rfl rfl rfl; (first | (cases (h46 : v46 = _)) | (obtain ⟨rfl, h46⟩ := h46) | skip); have hj := hk.j; clear hk; have z0 := hj.1.cell 3 _ rfl; have z1 := hj.2.1.m.cell 1 _ rfl; have z2 := look_q hj.2.1.c b OKb.out; go_simp; refine hK _ _ ?_ (Below.refl _ _); apply Rg.mk))) ?_ rfl
  refine Rg.build_end fun wx hj => ?_
  refine Rg.fin_eq rfl ?_
  refine Rg.fin_eq rfl ?_
  refine Rg.fin_eq rfl ?_
  refine Rg.fin_eq rfl ?_
  refine Rg.fin_eq rfl ?_
  refine Rg.fin_eq rfl ?_
  refine Rg.fin_eq rfl ?_
  refine Rg.fin_eq rfl ?_
  refine Rg.fin_nil ?_
  simp only [List.set_cons_zero, List.set_cons_succ]
  have l1 := hj.1; have hM := hj.2.1
  have hO := HO.out.trans (Only.of_below (S := rfS g mp lv) hj.2.2) (fun k hk => .inl hk)
  clear L1 HM2 HO hj
  have L1 := Lib.hid l1; have HM2 := Lib.hid hM; have HO := Lib.hid hO
  clear l1 hM hO wz
  have c0 := L1.out.cell 0 _ rfl
  have c5 := L1.out.cell 5 _ rfl
  go_wp2_with fail
  go_returns
  refine ⟨v30, s, ?_, ?_, HO.out, HBK.out, by omega⟩
  · have e : outR q ⟨11, d, a, b, c, n⟩ = atQ q a := rfl
    rw [e]; rfl
  · have e1 : nextR q ⟨11, d, a, b, c, n⟩ = q := rfl
    have e2 : Ins.seen ⟨11, d, a, b, c, n⟩ = ⟨11, d, a, b, c, n⟩ := rfl
    rw [e1, e2, ← HTL.out]
    exact HM2.out
end Go.Proofs.Ytpikoijohfmnaaa
