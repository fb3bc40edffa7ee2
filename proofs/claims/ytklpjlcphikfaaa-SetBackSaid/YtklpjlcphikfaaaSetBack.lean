/- The walk of SetBack. -/
import Derived.Test.YtklpjlcphikfaaaSetEq
import Derived.Test.YtklpjlcphikfaaaReg
set_option linter.unusedVariables false
set_option linter.unusedSimpArgs false
namespace Go.Proofs.Ytklpjlcphikfaaa
open Go.RowKit Bt
theorem rng_join (lo mid hi : Nat) (h1 : lo ≤ mid) (h2 : mid < hi) : (fun x => rngF lo (mid + 1) x || rngF (mid + 1) (hi + 1) x) = rngF lo (hi + 1) := by
  funext x; unfold rngF; rw [Bool.eq_iff_iff]; simp; omega
theorem lst_back (f : Nat → Bool) : setOf (memF (lst f 256)) = setOf f := setOf_ext fun x hx => memF_lst f 256 x hx
/-- the cells of both sets -/
def Kp (f g : Nat → Bool) (b : Nat) (w' : World) : Prop := w'.cell? ⟨b, 0, none⟩ = some (.int .u64 ((wd f 0 : Nat) : Int)) ∧ w'.cell? ⟨b, 1, none⟩ = some (.int .u64 ((wd f 1 : Nat) : Int)) ∧ w'.cell? ⟨b, 2, none⟩ = some (.int .u64 ((wd f 2 : Nat) : Int)) ∧ w'.cell? ⟨b, 3, none⟩ = some (.int .u64 ((wd f 3 : Nat) : Int)) ∧ w'.cell? ⟨b + 1, 0, none⟩ = some (.int .u64 ((wd g 0 : Nat) : Int)) ∧ w'.cell? ⟨b + 1, 1, none⟩ = some (.int .u64 ((wd g 1 : Nat) : Int)) ∧ w'.cell? ⟨b + 1, 2, none⟩ = some (.int .u64 ((wd g 2 : Nat) : Int)) ∧ w'.cell? ⟨b + 1, 3, none⟩ = some (.int .u64 ((wd g 3 : Nat) : Int))
theorem Kp.below {f g : Nat → Bool} {b : Nat} {W w1 : World} (h : Kp f g b W) (hb : Below W.heap.size W w1) : Kp f g b w1 := keep8 h hb
set_option maxRecDepth 100000 in
set_option maxHeartbeats 4000000 in
theorem setBack_walk (f g : Nat → Bool) (lo mid hi x : Int) (w : World) (l0 : 0 ≤ lo) (l1 : lo ≤ 255) (m0 : 0 ≤ mid) (m1 : mid ≤ 255) (h0 : 0 ≤ hi) (h1 : hi ≤ 255) (x0 : 0 ≤ x) (x1 : x ≤ 255) :
    Calls Try.prog 11 #[setOf f, setOf g, .int .u8 lo, .int .u8 mid, .int .u8 hi, .int .u8 x] w fun e w' => e = .returned (.bool true) ∧ Below w.heap.size w w' := by
  have gd := Try.eqGuardType33
  have es := eq_self
  obtain ⟨a, hfa⟩ : ∃ a, f x.toNat = a := ⟨_, rfl⟩
  obtain ⟨b, hgb⟩ : ∃ b, g x.toNat = b := ⟨_, rfl⟩
  have HA := Lib.hid hfa; have HB := Lib.hid hgb; clear hfa hgb
  have HN1 : Hid (∀ w1 : World, Calls Try.prog 47 #[setOf f] w1 fun e w' => e = .returned (.int .i64 (cnt f 256)) ∧ Below w1.heap.size w1 w') := Lib.hid (count_any f)
  have HN2 : Hid (∀ w1 : World, Calls Try.prog 47 #[setOf (fun x => !f x)] w1 fun e w' => e = .returned (.int .i64 (cnt (fun x => !f x) 256)) ∧ Below w1.heap.size w1 w') := Lib.hid (count_any _)
  have hn := cnt_not f 256
  generalize cnt (fun x => !f x) 256 = n2 at *
  generalize cnt f 256 = n1 at *
  have hni : (n1 : Int) + (n2 : Int) = 256 := by omega
  obtain ⟨i0, hi0, i1⟩ : ∃ i : Int, (n1 : Int) = i ∧ 0 ≤ i ∧ i ≤ 256 := ⟨_, rfl, by omega, by omega⟩
  have hn2i : (n2 : Int) = 256 - i0 := by omega
  rw [hi0] at HN1; rw [hn2i] at HN2
  clear hn hni hn2i hi0
  unfold setOf
  go_enter Try.func11, Try.ntmps11
  go_wp2_with fail
  refine (up01_any _).mono ?_; rintro e w1 ⟨rfl, hb1⟩
  have A0 : AtG w1 w.heap.size 33 (cellsOf f) := ((AtG.new w _ _).alloc _).below hb1
  have A1 : AtG w1 (w.heap.size + 1) 33 (cellsOf g) := by have := (AtG.new (w.alloc (.cells (cellsOf f) 33)) 33 (cellsOf g)).below hb1; simpa using this
  have B1 : Below w.heap.size w w1 := (((Below.refl _ _).alloc (Nat.le_refl _) _).alloc (by simp) _).trans (hb1.mono (by simp; omega))
  have a0 : w1.cell? ⟨w.heap.size, 0, none⟩ = some (.int .u64 ((wd f 0 : Nat) : Int)) := A0.cell 0 _ rfl
  have a1 : w1.cell? ⟨w.heap.size, 1, none⟩ = some (.int .u64 ((wd f 1 : Nat) : Int)) := A0.cell 1 _ rfl
  have a2 : w1.cell? ⟨w.heap.size, 2, none⟩ = some (.int .u64 ((wd f 2 : Nat) : Int)) := A0.cell 2 _ rfl
  have a3 : w1.cell? ⟨w.heap.size, 3, none⟩ = some (.int .u64 ((wd f 3 : Nat) : Int)) := A0.cell 3 _ rfl
  have b0 : w1.cell? ⟨w.heap.size + 1, 0, none⟩ = some (.int .u64 ((wd g 0 : Nat) : Int)) := A1.cell 0 _ rfl
  have b1 : w1.cell? ⟨w.heap.size + 1, 1, none⟩ = some (.int .u64 ((wd g 1 : Nat) : Int)) := A1.cell 1 _ rfl
  have b2 : w1.cell? ⟨w.heap.size + 1, 2, none⟩ = some (.int .u64 ((wd g 2 : Nat) : Int)) := A1.cell 2 _ rfl
  have b3 : w1.cell? ⟨w.heap.size + 1, 3, none⟩ = some (.int .u64 ((wd g 3 : Nat) : Int)) := A1.cell 3 _ rfl
  have HBL := Lib.hid B1
  have HK : Kp f g w.heap.size w1 := ⟨a0, a1, a2, a3, b0, b1, b2, b3⟩
  clear A0 A1 B1 hb1
  go_wp2_with fail
  refine (has_any f x _ x0 x1).mono ?_; rw [HA.out]; rintro e wn ⟨rfl, hbn⟩
  replace HBL := Lib.hid (HBL.out.trans (hbn.mono HBL.out.size)); replace HK := HK.below hbn; clear a0 a1 a2 a3 b0 b1 b2 b3; obtain ⟨a0, a1, a2, a3, b0, b1, b2, b3⟩ := id HK; clear hbn
  go_wp2_with fail
  refine (has_any g x _ x0 x1).mono ?_; rw [HB.out]; rintro e wn ⟨rfl, hbn⟩
  replace HBL := Lib.hid (HBL.out.trans (hbn.mono HBL.out.size)); replace HK := HK.below hbn; clear a0 a1 a2 a3 b0 b1 b2 b3; obtain ⟨a0, a1, a2, a3, b0, b1, b2, b3⟩ := id HK; clear hbn
  go_wp2_with fail
  refine Rg.wp_region_each (by kernel_rfl) (fun w' => Kp f g w.heap.size w' ∧ Below w.heap.size w w') (fun w1 w2 h hb => ⟨h.1.below hb, h.2.trans (hb.mono h.2.size)⟩) (by kernel_rfl) (by kernel_rfl) (⟨HK, HBL.out⟩) ?_
  show Rg.Build _ _ _ _ _ 0 [_, _, _, _, _, _, _, _, _, _, _, _, _, _, _, _, _, _, _, _, _, _, _, _, _, _, _, _, _, _, _, _, _, _, _, _, _, _, _, _, _] []
  refine Rg.build_cons (m := 1) (r := Rg.eq _) (Rg.one_plain (by rfl) (by (intro ax wx hk K hK; have k6 := hk.base 6 _ rfl rfl; have hj := hk.j; clear hk; obtain ⟨⟨a0, a1, a2, a3, b0, b1, b2, b3⟩, -⟩ := hj; (try simp only [setOf, setV] at k6); go_simp; refine hK _ _ ?_ (Below.refl _ _); apply Rg.mk))) ?_ rfl
  refine Rg.build_cons (m := 2) (r := (⟨fun v w => RdB w v (lst f 256), fun _ _ _ h hb => rdB_below h hb⟩ : Rg.Rl)) (Rg.one_plain (by rfl) (by (intro ax wx hk K hK; obtain ⟨v23, k23, h23⟩ := hk.dep 0 23 _ rfl rfl rfl; (first | (cases (h23 : v23 = _)) | skip); have hj := hk.j; clear hk; obtain ⟨⟨a0, a1, a2, a3, b0, b1, b2, b3⟩, -⟩ := hj; skip; go_simp; refine (bytes_any f _).mono ?_; rintro e w' ⟨vn, rfl, hON, hb⟩; exact hK _ _ (rdB_own hON (by rw [lst_len]; have := cnt_le f 256; omega) (lst_bd255 f)) hb))) ?_ rfl
  refine Rg.build_cons (m := 3) (r := Rg.eq (setOf f)) (Rg.one_plain (by rfl) (by (intro ax wx hk K hK; obtain ⟨v24, k24, h24⟩ := hk.dep 1 24 _ rfl rfl rfl; (first | (cases (h24 : v24 = _)) | skip); have hj := hk.j; clear hk; obtain ⟨⟨a0, a1, a2, a3, b0, b1, b2, b3⟩, -⟩ := hj; skip; go_simp; refine (of_any _ (lst f 256) _ h24).mono ?_; rw [lst_back]; rintro e w' ⟨rfl, hb⟩; refine hK _ _ ?_ hb; apply Rg.mk))) ?_ rfl
  refine Rg.build_cons (m := 4) (r := Rg.eq _) (Rg.one_plain (by rfl) (by (intro ax wx hk K hK; have k6 := hk.base 6 _ rfl rfl; have hj := hk.j; clear hk; obtain ⟨⟨a0, a1, a2, a3, b0, b1, b2, b3⟩, -⟩ := hj; (try simp only [setOf, setV] at k6); go_simp; refine hK _ _ ?_ (Below.refl _ _); apply Rg.mk))) ?_ rfl
  refine Rg.build_cons (m := 5) (r := Rg.eq _) (Rg.one_plain (by rfl) (by (intro ax wx hk K hK; obtain ⟨v25, k25, h25⟩ := hk.dep 2 25 _ rfl rfl rfl; (first | (cases (h25 : v25 = _)) | skip); obtain ⟨v26, k26, h26⟩ := hk.dep 3 26 _ rfl rfl rfl; (first | (cases (h26 : v26 = _)) | skip); have hj := hk.j; clear hk; obtain ⟨⟨a0, a1, a2, a3, b0, b1, b2, b3⟩, -⟩ := hj; (try simp only [setOf, setV] at k25 k26); go_simp; refine hK _ _ ?_ (Below.refl _ _); apply Rg.mk))) ?_ rfl
  refine Rg.build_cons (m := 6) (r := Rg.eq _) (Rg.one_plain (by rfl) (by (intro ax wx hk K hK; obtain ⟨v27, k27, h27⟩ := hk.dep 4 27 _ rfl rfl rfl; (first | (cases (h27 : v27 = _)) | skip); have hj := hk.j; clear hk; obtain ⟨⟨a0, a1, a2, a3, b0, b1, b2, b3⟩, -⟩ := hj; (try simp only [setOf, setV] at k27); go_simp; refine hK _ _ ?_ (Below.refl _ _); apply Rg.mk))) ?_ rfl
  first
    | refine Rg.build_cons (m := 7) (Rg.one_no 5 28 false (by rfl) (by rfl) (by rfl) (by rfl)) ?_ rfl
    | refine Rg.build_cons (m := 7) (r := Rg.eq _) (Rg.one_yes 5 28 false (by rfl) (by rfl) (by rfl) (by rfl) (by (intro ax wx hk K hK; have k6 := hk.base 6 _ rfl rfl; have hj := hk.j; clear hk; obtain ⟨⟨a0, a1, a2, a3, b0, b1, b2, b3⟩, -⟩ := hj; (try simp only [setOf, setV] at k6); go_simp; refine hK _ _ ?_ (Below.refl _ _); apply Rg.mk))) ?_ rfl
  first
    | refine Rg.build_cons (m := 8) (Rg.one_no 5 28 false (by rfl) (by rfl) (by rfl) (by rfl)) ?_ rfl
    | refine Rg.build_cons (m := 8) (r := Rg.eq (setOf fun x => !f x)) (Rg.one_yes 5 28 false (by rfl) (by rfl) (by rfl) (by rfl) (by (intro ax wx hk K hK; obtain ⟨v29, k29, h29⟩ := hk.dep 6 29 _ rfl rfl rfl; (first | (cases (h29 : v29 = _)) | skip); have hj := hk.j; clear hk; obtain ⟨⟨a0, a1, a2, a3, b0, b1, b2, b3⟩, -⟩ := hj; skip; go_simp; refine (not_any f _).mono ?_; rintro e w' ⟨rfl, hb⟩; refine hK _ _ ?_ hb; apply Rg.mk))) ?_ rfl
  first
    | refine Rg.build_cons (m := 9) (Rg.one_no 5 28 false (by rfl) (by rfl) (by rfl) (by rfl)) ?_ rfl
    | refine Rg.build_cons (m := 9) (r := Rg.eq (setOf f)) (Rg.one_yes 5 28 false (by rfl) (by rfl) (by rfl) (by rfl) (by (intro ax wx hk K hK; obtain ⟨v30, k30, h30⟩ := hk.dep 7 30 _ rfl rfl rfl; (first | (cases (h30 : v30 = _)) | skip); have hj := hk.j; clear hk; obtain ⟨⟨a0, a1, a2, a3, b0, b1, b2, b3⟩, -⟩ := hj; skip; go_simp; refine (not_any (fun x => !f x) _).mono ?_; simp only [Bool.not_not]; rintro e w' ⟨rfl, hb⟩; refine hK _ _ ?_ hb; apply Rg.mk))) ?_ rfl
  first
    | refine Rg.build_cons (m := 10) (Rg.one_no 5 28 false (by rfl) (by rfl) (by rfl) (by rfl)) ?_ rfl
    | refine Rg.build_cons (m := 10) (r := Rg.eq _) (Rg.one_yes 5 28 false (by rfl) (by rfl) (by rfl) (by rfl) (by (intro ax wx hk K hK; have k6 := hk.base 6 _ rfl rfl; have hj := hk.j; clear hk; obtain ⟨⟨a0, a1, a2, a3, b0, b1, b2, b3⟩, -⟩ := hj; (try simp only [setOf, setV] at k6); go_simp; refine hK _ _ ?_ (Below.refl _ _); apply Rg.mk))) ?_ rfl
  first
    | refine Rg.build_cons (m := 11) (Rg.one_no 5 28 false (by rfl) (by rfl) (by rfl) (by rfl)) ?_ rfl
    | refine Rg.build_cons (m := 11) (r := Rg.eq _) (Rg.one_yes 5 28 false (by rfl) (by rfl) (by rfl) (by rfl) (by (intro ax wx hk K hK; obtain ⟨v31, k31, h31⟩ := hk.dep 8 31 _ rfl rfl rfl; (first | (cases (h31 : v31 = _)) | skip); obtain ⟨v32, k32, h32⟩ := hk.dep 9 32 _ rfl rfl rfl; (first | (cases (h32 : v32 = _)) | skip); have hj := hk.j; clear hk; obtain ⟨⟨a0, a1, a2, a3, b0, b1, b2, b3⟩, -⟩ := hj; (try simp only [setOf, setV] at k31 k32); go_simp; refine hK _ _ ?_ (Below.refl _ _); apply Rg.mk))) ?_ rfl
  refine Rg.build_cons (m := 12) (r := Rg.eq _) (Rg.one_plain (by rfl) (by (intro ax wx hk K hK; obtain ⟨v28, k28, h28⟩ := hk.dep 5 28 _ rfl rfl rfl; (first | (cases (h28 : v28 = _)) | skip); obtain ⟨v33, k33, h33⟩ := hk.dep 10 33 _ rfl rfl rfl; (first | (cases (h33 : v33 = _)) | skip); have hj := hk.j; clear hk; obtain ⟨⟨a0, a1, a2, a3, b0, b1, b2, b3⟩, -⟩ := hj; (try simp only [setOf, setV] at k28 k33); go_simp; refine hK _ _ ?_ (Below.refl _ _); apply Rg.mk))) ?_ rfl
  refine Rg.build_cons (m := 13) (r := Rg.eq _) (Rg.one_plain (by rfl) (by (intro ax wx hk K hK; obtain ⟨v34, k34, h34⟩ := hk.dep 11 34 _ rfl rfl rfl; (first | (cases (h34 : v34 = _)) | skip); have hj := hk.j; clear hk; obtain ⟨⟨a0, a1, a2, a3, b0, b1, b2, b3⟩, -⟩ := hj; (try simp only [setOf, setV] at k34); go_simp; refine hK _ _ ?_ (Below.refl _ _); apply Rg.mk))) ?_ rfl
  first
    | refine Rg.build_cons (m := 14) (Rg.one_no 12 35 false (by rfl) (by rfl) (by rfl) (by rfl)) ?_ rfl
    | refine Rg.build_cons (m := 14) (r := Rg.eq _) (Rg.one_yes 12 35 false (by rfl) (by rfl) (by rfl) (by rfl) (by (intro ax wx hk K hK; have k6 := hk.base 6 _ rfl rfl; have hj := hk.j; clear hk; obtain ⟨⟨a0, a1, a2, a3, b0, b1, b2, b3⟩, -⟩ := hj; (try simp only [setOf, setV] at k6); go_simp; refine hK _ _ ?_ (Below.refl _ _); apply Rg.mk))) ?_ rfl
  first
    | refine Rg.build_cons (m := 15) (Rg.one_no 12 35 false (by rfl) (by rfl) (by rfl) (by rfl)) ?_ rfl
    | refine Rg.build_cons (m := 15) (r := Rg.eq _) (Rg.one_yes 12 35 false (by rfl) (by rfl) (by rfl) (by rfl) (by (intro ax wx hk K hK; have k7 := hk.base 7 _ rfl rfl; have hj := hk.j; clear hk; obtain ⟨⟨a0, a1, a2, a3, b0, b1, b2, b3⟩, -⟩ := hj; (try simp only [setOf, setV] at k7); go_simp; refine hK _ _ ?_ (Below.refl _ _); apply Rg.mk))) ?_ rfl
  first
    | refine Rg.build_cons (m := 16) (Rg.one_no 12 35 false (by rfl) (by rfl) (by rfl) (by rfl)) ?_ rfl
    | refine Rg.build_cons (m := 16) (r := Rg.eq (setOf fun y => f y || g y)) (Rg.one_yes 12 35 false (by rfl) (by rfl) (by rfl) (by rfl) (by (intro ax wx hk K hK; obtain ⟨v36, k36, h36⟩ := hk.dep 13 36 _ rfl rfl rfl; (first | (cases (h36 : v36 = _)) | skip); obtain ⟨v37, k37, h37⟩ := hk.dep 14 37 _ rfl rfl rfl; (first | (cases (h37 : v37 = _)) | skip); have hj := hk.j; clear hk; obtain ⟨⟨a0, a1, a2, a3, b0, b1, b2, b3⟩, -⟩ := hj; skip; go_simp; refine (or_any f g _).mono ?_; rintro e w' ⟨rfl, hb⟩; refine hK _ _ ?_ hb; apply Rg.mk))) ?_ rfl
  first
    | refine Rg.build_cons (m := 17) (Rg.one_no 12 35 false (by rfl) (by rfl) (by rfl) (by rfl)) ?_ rfl
    | refine Rg.build_cons (m := 17) (r := Rg.eq _) (Rg.one_yes 12 35 false (by rfl) (by rfl) (by rfl) (by rfl) (by (intro ax wx hk K hK; have k5 := hk.base 5 _ rfl rfl; have hj := hk.j; clear hk; obtain ⟨⟨a0, a1, a2, a3, b0, b1, b2, b3⟩, -⟩ := hj; (try simp only [setOf, setV] at k5); go_simp; refine hK _ _ ?_ (Below.refl _ _); apply Rg.mk))) ?_ rfl
  first
    | refine Rg.build_cons (m := 18) (Rg.one_no 12 35 false (by rfl) (by rfl) (by rfl) (by rfl)) ?_ rfl
    | refine Rg.build_cons (m := 18) (r := Rg.eq _) (Rg.one_yes 12 35 false (by rfl) (by rfl) (by rfl) (by rfl) (by (intro ax wx hk K hK; obtain ⟨v38, k38, h38⟩ := hk.dep 15 38 _ rfl rfl rfl; (first | (cases (h38 : v38 = _)) | skip); obtain ⟨v39, k39, h39⟩ := hk.dep 16 39 _ rfl rfl rfl; (first | (cases (h39 : v39 = _)) | skip); have hj := hk.j; clear hk; obtain ⟨⟨a0, a1, a2, a3, b0, b1, b2, b3⟩, -⟩ := hj; skip; go_simp; refine (has_any (fun y => f y || g y) x _ x0 x1).mono ?_; rw [HA.out, HB.out]; rintro e w' ⟨rfl, hb⟩; refine hK _ _ ?_ hb; apply Rg.mk))) ?_ rfl
  first
    | refine Rg.build_cons (m := 19) (Rg.one_no 12 35 false (by rfl) (by rfl) (by rfl) (by rfl)) ?_ rfl
    | refine Rg.build_cons (m := 19) (r := Rg.eq _) (Rg.one_yes 12 35 false (by rfl) (by rfl) (by rfl) (by rfl) (by (intro ax wx hk K hK; have k14 := hk.base 14 _ rfl rfl; have hj := hk.j; clear hk; obtain ⟨⟨a0, a1, a2, a3, b0, b1, b2, b3⟩, -⟩ := hj; (try simp only [setOf, setV] at k14); go_simp; refine hK _ _ ?_ (Below.refl _ _); apply Rg.mk))) ?_ rfl
  first
    | refine Rg.build_cons (m := 20) (Rg.one_no 12 35 false (by rfl) (by rfl) (by rfl) (by rfl)) ?_ rfl
    | refine Rg.build_cons (m := 20) (r := Rg.eq _) (Rg.one_yes 12 35 false (by rfl) (by rfl) (by rfl) (by rfl) (by (intro ax wx hk K hK; obtain ⟨v41, k41, h41⟩ := hk.dep 18 41 _ rfl rfl rfl; (first | (cases (h41 : v41 = _)) | skip); have hj := hk.j; clear hk; obtain ⟨⟨a0, a1, a2, a3, b0, b1, b2, b3⟩, -⟩ := hj; (try simp only [setOf, setV] at k41); go_simp; refine hK _ _ ?_ (Below.refl _ _); apply Rg.mk))) ?_ rfl
  refine Rg.build_cons (m := 21) (r := Rg.if_ (a = false) (.bool b)) (Rg.one_sym 19 42 false (a) (by rfl) (by rfl) (by rfl) (by rfl) fun hc ax wx hk K hK => ?_) ?_ rfl
  · have k15 := hk.base 15 _ rfl rfl; have hj := hk.j; clear hk; obtain ⟨⟨a0, a1, a2, a3, b0, b1, b2, b3⟩, -⟩ := hj; (try simp only [setOf, setV] at k15); go_simp; exact hK _ _ (fun _ => rfl) (Below.refl _ _)
  first
    | refine Rg.build_cons (m := 22) (Rg.one_no 12 35 false (by rfl) (by rfl) (by rfl) (by rfl)) ?_ rfl
    | refine Rg.build_cons (m := 22) (r := Rg.eq (.bool (a || b))) (Rg.one_yes 12 35 false (by rfl) (by rfl) (by rfl) (by rfl) (by (intro ax wx hk K hK; obtain ⟨v42, k42, h42⟩ := hk.dep 19 42 _ rfl rfl rfl; (first | (cases (h42 : v42 = _)) | skip); obtain ⟨v43, k43, h43⟩ := hk.dep 20 43 _ rfl rfl rfl; (first | (cases (h43 : v43 = _)) | skip); have hj := hk.j; clear hk; obtain ⟨⟨a0, a1, a2, a3, b0, b1, b2, b3⟩, -⟩ := hj; (try simp only [setOf, setV] at k42 k43); (cases a <;> first | (have e := h43 rfl; subst e; go_simp; refine hK _ _ ?_ (Below.refl _ _); apply Rg.mk) | (go_simp; refine hK _ _ ?_ (Below.refl _ _); apply Rg.mk))))) ?_ rfl
  first
    | refine Rg.build_cons (m := 23) (Rg.one_no 12 35 false (by rfl) (by rfl) (by rfl) (by rfl)) ?_ rfl
    | refine Rg.build_cons (m := 23) (r := Rg.eq _) (Rg.one_yes 12 35 false (by rfl) (by rfl) (by rfl) (by rfl) (by (intro ax wx hk K hK; obtain ⟨v40, k40, h40⟩ := hk.dep 17 40 _ rfl rfl rfl; (first | (cases (h40 : v40 = _)) | skip); obtain ⟨v44, k44, h44⟩ := hk.dep 21 44 _ rfl rfl rfl; (first | (cases (h44 : v44 = _)) | skip); have hj := hk.j; clear hk; obtain ⟨⟨a0, a1, a2, a3, b0, b1, b2, b3⟩, -⟩ := hj; (try simp only [setOf, setV] at k40 k44); go_simp; refine hK _ _ ?_ (Below.refl _ _); apply Rg.mk))) ?_ rfl
  refine Rg.build_cons (m := 24) (r := Rg.eq _) (Rg.one_plain (by rfl) (by (intro ax wx hk K hK; obtain ⟨v35, k35, h35⟩ := hk.dep 12 35 _ rfl rfl rfl; (first | (cases (h35 : v35 = _)) | skip); obtain ⟨v45, k45, h45⟩ := hk.dep 22 45 _ rfl rfl rfl; (first | (cases (h45 : v45 = _)) | skip); have hj := hk.j; clear hk; obtain ⟨⟨a0, a1, a2, a3, b0, b1, b2, b3⟩, -⟩ := hj; (try simp only [setOf, setV] at k35 k45); go_simp; refine hK _ _ ?_ (Below.refl _ _); apply Rg.mk))) ?_ rfl
  refine Rg.build_cons (m := 25) (r := Rg.eq _) (Rg.one_plain (by rfl) (by (intro ax wx hk K hK; obtain ⟨v46, k46, h46⟩ := hk.dep 23 46 _ rfl rfl rfl; (first | (cases (h46 : v46 = _)) | skip); have hj := hk.j; clear hk; obtain ⟨⟨a0, a1, a2, a3, b0, b1, b2, b3⟩, -⟩ := hj; (try simp only [setOf, setV] at k46); go_simp; refine hK _ _ ?_ (Below.refl _ _); apply Rg.mk))) ?_ rfl
  first
    | refine Rg.build_cons (m := 26) (Rg.one_no 24 47 false (by rfl) (by rfl) (by rfl) (by rfl)) ?_ rfl
    | refine Rg.build_cons (m := 26) (r := Rg.eq _) (Rg.one_yes 24 47 false (by rfl) (by rfl) (by rfl) (by rfl) (by (intro ax wx hk K hK; have k6 := hk.base 6 _ rfl rfl; have hj := hk.j; clear hk; obtain ⟨⟨a0, a1, a2, a3, b0, b1, b2, b3⟩, -⟩ := hj; (try simp only [setOf, setV] at k6); go_simp; refine hK _ _ ?_ (Below.refl _ _); apply Rg.mk))) ?_ rfl
  first
    | refine Rg.build_cons (m := 27) (Rg.one_no 24 47 false (by rfl) (by rfl) (by rfl) (by rfl)) ?_ rfl
    | refine Rg.build_cons (m := 27) (r := Rg.eq (setOf fun x => !f x)) (Rg.one_yes 24 47 false (by rfl) (by rfl) (by rfl) (by rfl) (by (intro ax wx hk K hK; obtain ⟨v48, k48, h48⟩ := hk.dep 25 48 _ rfl rfl rfl; (first | (cases (h48 : v48 = _)) | skip); have hj := hk.j; clear hk; obtain ⟨⟨a0, a1, a2, a3, b0, b1, b2, b3⟩, -⟩ := hj; skip; go_simp; refine (not_any f _).mono ?_; rintro e w' ⟨rfl, hb⟩; refine hK _ _ ?_ hb; apply Rg.mk))) ?_ rfl
  first
    | refine Rg.build_cons (m := 28) (Rg.one_no 24 47 false (by rfl) (by rfl) (by rfl) (by rfl)) ?_ rfl
    | refine Rg.build_cons (m := 28) (r := Rg.eq _) (Rg.one_yes 24 47 false (by rfl) (by rfl) (by rfl) (by rfl) (by (intro ax wx hk K hK; have k5 := hk.base 5 _ rfl rfl; have hj := hk.j; clear hk; obtain ⟨⟨a0, a1, a2, a3, b0, b1, b2, b3⟩, -⟩ := hj; (try simp only [setOf, setV] at k5); go_simp; refine hK _ _ ?_ (Below.refl _ _); apply Rg.mk))) ?_ rfl
  first
    | refine Rg.build_cons (m := 29) (Rg.one_no 24 47 false (by rfl) (by rfl) (by rfl) (by rfl)) ?_ rfl
    | refine Rg.build_cons (m := 29) (r := Rg.eq _) (Rg.one_yes 24 47 false (by rfl) (by rfl) (by rfl) (by rfl) (by (intro ax wx hk K hK; obtain ⟨v49, k49, h49⟩ := hk.dep 26 49 _ rfl rfl rfl; (first | (cases (h49 : v49 = _)) | skip); obtain ⟨v50, k50, h50⟩ := hk.dep 27 50 _ rfl rfl rfl; (first | (cases (h50 : v50 = _)) | skip); have hj := hk.j; clear hk; obtain ⟨⟨a0, a1, a2, a3, b0, b1, b2, b3⟩, -⟩ := hj; skip; go_simp; refine (has_any (fun y => !f y) x _ x0 x1).mono ?_; rw [HA.out]; rintro e w' ⟨rfl, hb⟩; refine hK _ _ ?_ hb; apply Rg.mk))) ?_ rfl
  first
    | refine Rg.build_cons (m := 30) (Rg.one_no 24 47 false (by rfl) (by rfl) (by rfl) (by rfl)) ?_ rfl
    | refine Rg.build_cons (m := 30) (r := Rg.eq _) (Rg.one_yes 24 47 false (by rfl) (by rfl) (by rfl) (by rfl) (by (intro ax wx hk K hK; have k14 := hk.base 14 _ rfl rfl; have hj := hk.j; clear hk; obtain ⟨⟨a0, a1, a2, a3, b0, b1, b2, b3⟩, -⟩ := hj; (try simp only [setOf, setV] at k14); go_simp; refine hK _ _ ?_ (Below.refl _ _); apply Rg.mk))) ?_ rfl
  first
    | refine Rg.build_cons (m := 31) (Rg.one_no 24 47 false (by rfl) (by rfl) (by rfl) (by rfl)) ?_ rfl
    | refine Rg.build_cons (m := 31) (r := Rg.eq _) (Rg.one_yes 24 47 false (by rfl) (by rfl) (by rfl) (by rfl) (by (intro ax wx hk K hK; obtain ⟨v51, k51, h51⟩ := hk.dep 28 51 _ rfl rfl rfl; (first | (cases (h51 : v51 = _)) | skip); obtain ⟨v52, k52, h52⟩ := hk.dep 29 52 _ rfl rfl rfl; (first | (cases (h52 : v52 = _)) | skip); have hj := hk.j; clear hk; obtain ⟨⟨a0, a1, a2, a3, b0, b1, b2, b3⟩, -⟩ := hj; (try simp only [setOf, setV] at k51 k52); go_simp; refine hK _ _ ?_ (Below.refl _ _); apply Rg.mk))) ?_ rfl
  refine Rg.build_cons (m := 32) (r := Rg.eq _) (Rg.one_plain (by rfl) (by (intro ax wx hk K hK; obtain ⟨v47, k47, h47⟩ := hk.dep 24 47 _ rfl rfl rfl; (first | (cases (h47 : v47 = _)) | skip); obtain ⟨v53, k53, h53⟩ := hk.dep 30 53 _ rfl rfl rfl; (first | (cases (h53 : v53 = _)) | skip); have hj := hk.j; clear hk; obtain ⟨⟨a0, a1, a2, a3, b0, b1, b2, b3⟩, -⟩ := hj; (try simp only [setOf, setV] at k47 k53); go_simp; refine hK _ _ ?_ (Below.refl _ _); apply Rg.mk))) ?_ rfl
  refine Rg.build_cons (m := 33) (r := Rg.eq _) (Rg.one_plain (by rfl) (by (intro ax wx hk K hK; obtain ⟨v54, k54, h54⟩ := hk.dep 31 54 _ rfl rfl rfl; (first | (cases (h54 : v54 = _)) | skip); have hj := hk.j; clear hk; obtain ⟨⟨a0, a1, a2, a3, b0, b1, b2, b3⟩, -⟩ := hj; (try simp only [setOf, setV] at k54); go_simp; refine hK _ _ ?_ (Below.refl _ _); apply Rg.mk))) ?_ rfl
  first
    | refine Rg.build_cons (m := 34) (Rg.one_no 32 55 false (by rfl) (by rfl) (by rfl) (by rfl)) ?_ rfl
    | refine Rg.build_cons (m := 34) (r := Rg.eq _) (Rg.one_yes 32 55 false (by rfl) (by rfl) (by rfl) (by rfl) (by (intro ax wx hk K hK; have k6 := hk.base 6 _ rfl rfl; have hj := hk.j; clear hk; obtain ⟨⟨a0, a1, a2, a3, b0, b1, b2, b3⟩, -⟩ := hj; (try simp only [setOf, setV] at k6); go_simp; refine hK _ _ ?_ (Below.refl _ _); apply Rg.mk))) ?_ rfl
  first
    | refine Rg.build_cons (m := 35) (Rg.one_no 32 55 false (by rfl) (by rfl) (by rfl) (by rfl)) ?_ rfl
    | refine Rg.build_cons (m := 35) (r := Rg.eq _) (Rg.one_yes 32 55 false (by rfl) (by rfl) (by rfl) (by rfl) (by (intro ax wx hk K hK; obtain ⟨v56, k56, h56⟩ := hk.dep 33 56 _ rfl rfl rfl; (first | (cases (h56 : v56 = _)) | skip); have hj := hk.j; clear hk; obtain ⟨⟨a0, a1, a2, a3, b0, b1, b2, b3⟩, -⟩ := hj; skip; go_simp; refine (HN1.out _).mono ?_; rintro e w' ⟨rfl, hb⟩; refine hK _ _ ?_ hb; apply Rg.mk))) ?_ rfl
  first
    | refine Rg.build_cons (m := 36) (Rg.one_no 32 55 false (by rfl) (by rfl) (by rfl) (by rfl)) ?_ rfl
    | refine Rg.build_cons (m := 36) (r := Rg.eq _) (Rg.one_yes 32 55 false (by rfl) (by rfl) (by rfl) (by rfl) (by (intro ax wx hk K hK; have k6 := hk.base 6 _ rfl rfl; have hj := hk.j; clear hk; obtain ⟨⟨a0, a1, a2, a3, b0, b1, b2, b3⟩, -⟩ := hj; (try simp only [setOf, setV] at k6); go_simp; refine hK _ _ ?_ (Below.refl _ _); apply Rg.mk))) ?_ rfl
  first
    | refine Rg.build_cons (m := 37) (Rg.one_no 32 55 false (by rfl) (by rfl) (by rfl) (by rfl)) ?_ rfl
    | refine Rg.build_cons (m := 37) (r := Rg.eq (setOf fun x => !f x)) (Rg.one_yes 32 55 false (by rfl) (by rfl) (by rfl) (by rfl) (by (intro ax wx hk K hK; obtain ⟨v58, k58, h58⟩ := hk.dep 35 58 _ rfl rfl rfl; (first | (cases (h58 : v58 = _)) | skip); have hj := hk.j; clear hk; obtain ⟨⟨a0, a1, a2, a3, b0, b1, b2, b3⟩, -⟩ := hj; skip; go_simp; refine (not_any f _).mono ?_; rintro e w' ⟨rfl, hb⟩; refine hK _ _ ?_ hb; apply Rg.mk))) ?_ rfl
  first
    | refine Rg.build_cons (m := 38) (Rg.one_no 32 55 false (by rfl) (by rfl) (by rfl) (by rfl)) ?_ rfl
    | refine Rg.build_cons (m := 38) (r := Rg.eq _) (Rg.one_yes 32 55 false (by rfl) (by rfl) (by rfl) (by rfl) (by (intro ax wx hk K hK; obtain ⟨v59, k59, h59⟩ := hk.dep 36 59 _ rfl rfl rfl; (first | (cases (h59 : v59 = _)) | skip); have hj := hk.j; clear hk; obtain ⟨⟨a0, a1, a2, a3, b0, b1, b2, b3⟩, -⟩ := hj; skip; go_simp; refine (HN2.out _).mono ?_; rintro e w' ⟨rfl, hb⟩; refine hK _ _ ?_ hb; apply Rg.mk))) ?_ rfl
  first
    | refine Rg.build_cons (m := 39) (Rg.one_no 32 55 false (by rfl) (by rfl) (by rfl) (by rfl)) ?_ rfl
    | refine Rg.build_cons (m := 39) (r := Rg.eq (.int .i64 256)) (Rg.one_yes 32 55 false (by rfl) (by rfl) (by rfl) (by rfl) (by (intro ax wx hk K hK; obtain ⟨v57, k57, h57⟩ := hk.dep 34 57 _ rfl rfl rfl; (first | (cases (h57 : v57 = _)) | skip); obtain ⟨v60, k60, h60⟩ := hk.dep 37 60 _ rfl rfl rfl; (first | (cases (h60 : v60 = _)) | skip); have hj := hk.j; clear hk; obtain ⟨⟨a0, a1, a2, a3, b0, b1, b2, b3⟩, -⟩ := hj; (try simp only [setOf, setV] at k57 k60); (go_simp; refine hK _ _ ?_ (Below.refl _ _); show (Value.int .i64 _) = _; congr 1; rw [IntWalk.i64_in _ (by omega)]; omega)))) ?_ rfl
  first
    | refine Rg.build_cons (m := 40) (Rg.one_no 32 55 false (by rfl) (by rfl) (by rfl) (by rfl)) ?_ rfl
    | refine Rg.build_cons (m := 40) (r := Rg.eq _) (Rg.one_yes 32 55 false (by rfl) (by rfl) (by rfl) (by rfl) (by (intro ax wx hk K hK; obtain ⟨v61, k61, h61⟩ := hk.dep 38 61 _ rfl rfl rfl; (first | (cases (h61 : v61 = _)) | skip); have hj := hk.j; clear hk; obtain ⟨⟨a0, a1, a2, a3, b0, b1, b2, b3⟩, -⟩ := hj; (try simp only [setOf, setV] at k61); go_simp; refine hK _ _ ?_ (Below.refl _ _); apply Rg.mk))) ?_ rfl
  refine Rg.build_cons (m := 41) (r := Rg.eq _) (Rg.one_plain (by rfl) (by (intro ax wx hk K hK; obtain ⟨v55, k55, h55⟩ := hk.dep 32 55 _ rfl rfl rfl; (first | (cases (h55 : v55 = _)) | skip); obtain ⟨v62, k62, h62⟩ := hk.dep 39 62 _ rfl rfl rfl; (first | (cases (h62 : v62 = _)) | skip); have hj := hk.j; clear hk; obtain ⟨⟨a0, a1, a2, a3, b0, b1, b2, b3⟩, -⟩ := hj; (try simp only [setOf, setV] at k55 k62); go_simp; refine hK _ _ ?_ (Below.refl _ _); apply Rg.mk))) ?_ rfl
  refine Rg.build_end fun wx hj => ?_
  refine Rg.fin_eq rfl ?_
  first | refine Rg.fin_eq rfl ?_ | refine Rg.fin_any rfl fun v24 h24 => ?_
  first | refine Rg.fin_eq rfl ?_ | refine Rg.fin_any rfl fun v25 h25 => ?_
  refine Rg.fin_eq rfl ?_
  refine Rg.fin_eq rfl ?_
  refine Rg.fin_eq rfl ?_
  refine Rg.fin_eq rfl ?_
  first | refine Rg.fin_eq rfl ?_ | refine Rg.fin_any rfl fun v30 h30 => ?_
  first | refine Rg.fin_eq rfl ?_ | refine Rg.fin_any rfl fun v31 h31 => ?_
  refine Rg.fin_eq rfl ?_
  refine Rg.fin_eq rfl ?_
  refine Rg.fin_eq rfl ?_
  refine Rg.fin_eq rfl ?_
  refine Rg.fin_eq rfl ?_
  refine Rg.fin_eq rfl ?_
  first | refine Rg.fin_eq rfl ?_ | refine Rg.fin_any rfl fun v38 h38 => ?_
  refine Rg.fin_eq rfl ?_
  refine Rg.fin_eq rfl ?_
  refine Rg.fin_eq rfl ?_
  refine Rg.fin_eq rfl ?_
  first | refine Rg.fin_eq rfl ?_ | refine Rg.fin_any rfl fun v43 h43 => ?_
  first | refine Rg.fin_eq rfl ?_ | refine Rg.fin_any rfl fun v44 h44 => ?_
  refine Rg.fin_eq rfl ?_
  refine Rg.fin_eq rfl ?_
  refine Rg.fin_eq rfl ?_
  refine Rg.fin_eq rfl ?_
  first | refine Rg.fin_eq rfl ?_ | refine Rg.fin_any rfl fun v49 h49 => ?_
  refine Rg.fin_eq rfl ?_
  refine Rg.fin_eq rfl ?_
  refine Rg.fin_eq rfl ?_
  refine Rg.fin_eq rfl ?_
  refine Rg.fin_eq rfl ?_
  refine Rg.fin_eq rfl ?_
  refine Rg.fin_eq rfl ?_
  refine Rg.fin_eq rfl ?_
  refine Rg.fin_eq rfl ?_
  first | refine Rg.fin_eq rfl ?_ | refine Rg.fin_any rfl fun v59 h59 => ?_
  refine Rg.fin_eq rfl ?_
  first | refine Rg.fin_eq rfl ?_ | refine Rg.fin_any rfl fun v61 h61 => ?_
  refine Rg.fin_eq rfl ?_
  refine Rg.fin_eq rfl ?_
  refine Rg.fin_nil ?_
  simp only [List.set_cons_zero, List.set_cons_succ]
  have HB2 := Lib.hid hj.2; clear hj h24 h43 HK HBL a0 a1 a2 a3 b0 b1 b2 b3
  have hR : ∃ r, rngF lo.toNat (hi.toNat + 1) x.toNat = r ∧ ((r = true ∧ lo ≤ x ∧ x ≤ hi) ∨ (r = false ∧ lo ≤ x ∧ hi < x) ∨ (r = false ∧ x < lo)) := by
    refine ⟨_, rfl, ?_⟩
    unfold rngF
    rcases (by omega : (lo ≤ x ∧ x ≤ hi) ∨ (lo ≤ x ∧ hi < x) ∨ x < lo) with h | h | h
    · left; simp; omega
    · right; left; simp; omega
    · right; right; simp; omega
  obtain ⟨r, hR, hcase⟩ := hR
  have HR := Lib.hid hR; clear hR
  go_wp2_with fail
  refine (range_any lo hi _ l0 l1 h0 h1).mono ?_; rintro e w3 ⟨rfl, hb3⟩
  replace HB2 := Lib.hid (HB2.out.trans (hb3.mono HB2.out.size)); clear hb3
  go_wp2_with fail
  refine (has_any (rngF lo.toNat (hi.toNat + 1)) x _ x0 x1).mono ?_; rw [HR.out]; rintro e w4 ⟨rfl, hb4⟩
  replace HB2 := Lib.hid (HB2.out.trans (hb4.mono HB2.out.size)); clear hb4
  rcases hcase with ⟨rfl, c1, c2⟩ | ⟨rfl, c1, c2⟩ | ⟨rfl, c1⟩
  all_goals
    as_aux_lemma =>
      by_cases d1 : mid < lo
      · go_wp2_with fail
        go_returns
        exact ⟨rfl, HB2.out⟩
      · by_cases d2 : hi ≤ mid
        · go_wp2_with fail
          go_returns
          exact ⟨rfl, HB2.out⟩
        · go_wp2_with fail
          refine (range_any lo mid _ l0 l1 m0 m1).mono ?_; rintro e w5 ⟨rfl, hb5⟩
          replace HB2 := Lib.hid (HB2.out.trans (hb5.mono HB2.out.size)); clear hb5
          go_wp2_with fail
          refine (range_any (mid + 1) hi _ (by omega) (by omega) h0 h1).mono ?_; rintro e w6 ⟨rfl, hb6⟩
          replace HB2 := Lib.hid (HB2.out.trans (hb6.mono HB2.out.size)); clear hb6
          rw [show (mid + 1).toNat = mid.toNat + 1 from by omega]
          go_wp2_with fail
          refine (or_any _ _ _).mono ?_; rw [rng_join lo.toNat mid.toNat hi.toNat (by omega) (by omega)]; rintro e w7 ⟨rfl, hb7⟩
          replace HB2 := Lib.hid (HB2.out.trans (hb7.mono HB2.out.size)); clear hb7
          go_wp2_with fail
          refine (range_any lo hi _ l0 l1 h0 h1).mono ?_; rintro e w8 ⟨rfl, hb8⟩
          replace HB2 := Lib.hid (HB2.out.trans (hb8.mono HB2.out.size)); clear hb8
          unfold setOf
          go_wp2_with fail
          go_returns
          exact ⟨rfl, HB2.out⟩
end Go.Proofs.Ytklpjlcphikfaaa
