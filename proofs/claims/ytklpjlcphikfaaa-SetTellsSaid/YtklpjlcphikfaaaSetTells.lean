/- The walk of SetTells. -/
import Derived.Test.YtklpjlcphikfaaaSetEq
import Derived.Test.YtklpjlcphikfaaaReg
set_option linter.unusedVariables false
set_option linter.unusedSimpArgs false
namespace Go.Proofs.Ytklpjlcphikfaaa
open Go.RowKit Bt
set_option maxRecDepth 100000 in
set_option maxHeartbeats 4000000 in
theorem setTells_walk (v : Value) (xs : List Int) (lo hi x : Int) (f g : Nat → Bool) (w : World) (h : RdB w v xs) (l0 : 0 ≤ lo) (l1 : lo ≤ 255) (h0 : 0 ≤ hi) (h1 : hi ≤ 255) (x0 : 0 ≤ x) (x1 : x ≤ 255) :
    Calls Try.prog 10 #[v, .int .u8 lo, .int .u8 hi, setOf f, setOf g, .int .u8 x] w fun e w' => e = .returned (.bool true) ∧ Below w.heap.size w w' := by
  have hv : ∃ A c, v = .slice A xs.length c ∧ xs.length ≤ 140737488355328 := by
    rcases h with ⟨rfl, a, c, rfl⟩ | ⟨b, off, cap, rfl, _, hm, _⟩
    · exact ⟨a, c, rfl, by simp⟩
    · exact ⟨_, cap, rfl, hm⟩
  obtain ⟨A, c, rfl, hm⟩ := hv
  have H := Lib.hid h; clear h
  have gd := Try.eqGuardType33
  have es := eq_self
  unfold setOf
  by_cases hl : 1000 < xs.length
  · go_enter Try.func10, Try.ntmps10
    go_wp2_with fail
    refine (up01_any _).mono ?_; rintro e w1 ⟨rfl, hb1⟩
    go_wp2_with fail
    go_returns
    exact ⟨rfl, (((Below.refl _ _).alloc (Nat.le_refl _) _).alloc (by simp) _).trans (hb1.mono (by simp; omega))⟩
  · go_enter Try.func10, Try.ntmps10
    go_wp2_with fail
    refine (up01_any _).mono ?_; rintro e w1 ⟨rfl, hb1⟩
    have A0 : AtG w1 w.heap.size 33 (cellsOf f) := ((AtG.new w _ _).alloc _).below hb1
    have A1 : AtG w1 (w.heap.size + 1) 33 (cellsOf g) := by have := (AtG.new (w.alloc (.cells (cellsOf f) 33)) 33 (cellsOf g)).below hb1; simpa using this
    have B1 : Below w.heap.size w w1 := (((Below.refl _ _).alloc (Nat.le_refl _) _).alloc (by simp) _).trans (hb1.mono (by simp; omega))
    have a0 : w1.cell? ⟨w.heap.size, 0, none⟩ = some (.int .u64 ((wd f 0 : Nat) : Int)) := A0.cell 0 _ rfl
    have a1 : w1.cell? ⟨w.heap.size, 1, none⟩ = some (.int .u64 ((wd f 1 : Nat) : Int)) := A0.cell 1 _ rfl
    have a2 : w1.cell? ⟨w.heap.size, 2, none⟩ = some (.int .u64 ((wd f 2 : Nat) : Int)) := A0.cell 2 _ rfl
    have a3 : w1.cell? ⟨w.heap.size, 3, none⟩ = some (.int .u64 ((wd f 3 : Nat) : Int)) := A0.cell 3 _ rfl
    have b0 : w1.cell? ⟨w.heap.size + 1, 0, none⟩ = some (.int .u64 ((wd g 0 : Nat) : Int)) := A1.cell 0 _ rfl
    have b1 : w1.cell? ⟨w.heap.size + 1, 1, none⟩ = some (.int .u64 ((wd g 1 : Nat) : Int)) := A1.cell 1 _ rfl
    have b2 : w1.cell? ⟨w.heap.size + 1, 2, none⟩ = some (.int .u64 ((wd g 2 : Nat) : Int)) := A1.cell 2 _ rfl
    have b3 : w1.cell? ⟨w.heap.size + 1, 3, none⟩ = some (.int .u64 ((wd g 3 : Nat) : Int)) := A1.cell 3 _ rfl
    have HB1 := Lib.hid B1
    have H1 := Lib.hid (rdB_below H.out B1)
    clear A0 A1 B1 hb1
    go_wp2_with fail
    refine Rg.wp_region_each (by kernel_rfl) (fun w' => (w'.cell? ⟨w.heap.size, 0, none⟩ = some (.int .u64 ((wd f 0 : Nat) : Int)) ∧ w'.cell? ⟨w.heap.size, 1, none⟩ = some (.int .u64 ((wd f 1 : Nat) : Int)) ∧ w'.cell? ⟨w.heap.size, 2, none⟩ = some (.int .u64 ((wd f 2 : Nat) : Int)) ∧ w'.cell? ⟨w.heap.size, 3, none⟩ = some (.int .u64 ((wd f 3 : Nat) : Int)) ∧ w'.cell? ⟨w.heap.size + 1, 0, none⟩ = some (.int .u64 ((wd g 0 : Nat) : Int)) ∧ w'.cell? ⟨w.heap.size + 1, 1, none⟩ = some (.int .u64 ((wd g 1 : Nat) : Int)) ∧ w'.cell? ⟨w.heap.size + 1, 2, none⟩ = some (.int .u64 ((wd g 2 : Nat) : Int)) ∧ w'.cell? ⟨w.heap.size + 1, 3, none⟩ = some (.int .u64 ((wd g 3 : Nat) : Int))) ∧ Hid (RdB w' (.slice A xs.length c) xs) ∧ Hid (Below w.heap.size w w')) (fun w1 w2 h hb => ⟨keep8 h.1 hb, Lib.hid (rdB_below h.2.1.out hb), Lib.hid (h.2.2.out.trans (hb.mono h.2.2.out.size))⟩) (by kernel_rfl) (by kernel_rfl) (⟨⟨a0, a1, a2, a3, b0, b1, b2, b3⟩, H1, HB1⟩) ?_
    show Rg.Build _ _ _ _ _ 0 [_, _, _, _, _, _, _, _, _, _, _, _, _, _, _, _, _, _, _, _, _, _, _, _, _, _, _, _, _, _] []
    refine Rg.build_cons (m := 1) (r := Rg.eq _) (Rg.one_plain (by rfl) (by (intro ax wx hk K hK; have k0 := hk.base 0 _ rfl rfl; have hj := hk.j; clear hk; obtain ⟨⟨a0, a1, a2, a3, b0, b1, b2, b3⟩, hrd, -⟩ := hj; (try simp only [setOf, setV] at k0); go_simp; refine hK _ _ ?_ (Below.refl _ _); apply Rg.mk))) ?_ rfl
    refine Rg.build_cons (m := 2) (r := Rg.eq _) (Rg.one_plain (by rfl) (by (intro ax wx hk K hK; obtain ⟨v20, k20, h20⟩ := hk.dep 0 20 _ rfl rfl rfl; (first | (cases (h20 : v20 = _)) | skip); have hj := hk.j; clear hk; obtain ⟨⟨a0, a1, a2, a3, b0, b1, b2, b3⟩, hrd, -⟩ := hj; skip; go_simp; refine (of_any _ xs _ hrd.out).mono ?_; rintro e w' ⟨rfl, hb⟩; refine hK _ _ ?_ hb; apply Rg.mk))) ?_ rfl
    refine Rg.build_cons (m := 3) (r := Rg.eq _) (Rg.one_plain (by rfl) (by (intro ax wx hk K hK; have k0 := hk.base 0 _ rfl rfl; have hj := hk.j; clear hk; obtain ⟨⟨a0, a1, a2, a3, b0, b1, b2, b3⟩, hrd, -⟩ := hj; (try simp only [setOf, setV] at k0); go_simp; refine hK _ _ ?_ (Below.refl _ _); apply Rg.mk))) ?_ rfl
    refine Rg.build_cons (m := 4) (r := Rg.eq _) (Rg.one_plain (by rfl) (by (intro ax wx hk K hK; obtain ⟨v22, k22, h22⟩ := hk.dep 2 22 _ rfl rfl rfl; (first | (cases (h22 : v22 = _)) | skip); have hj := hk.j; clear hk; obtain ⟨⟨a0, a1, a2, a3, b0, b1, b2, b3⟩, hrd, -⟩ := hj; skip; go_simp; refine (refOf_any _ xs _ hrd.out).mono ?_; rintro e w' ⟨rfl, hb⟩; refine hK _ _ ?_ hb; apply Rg.mk))) ?_ rfl
    refine Rg.build_cons (m := 5) (r := Rg.eq _) (Rg.one_plain (by rfl) (by (intro ax wx hk K hK; obtain ⟨v21, k21, h21⟩ := hk.dep 1 21 _ rfl rfl rfl; (first | (cases (h21 : v21 = _)) | skip); obtain ⟨v23, k23, h23⟩ := hk.dep 3 23 _ rfl rfl rfl; (first | (cases (h23 : v23 = _)) | skip); have hj := hk.j; clear hk; obtain ⟨⟨a0, a1, a2, a3, b0, b1, b2, b3⟩, hrd, -⟩ := hj; (try simp only [setOf, setV] at k21 k23); go_simp; refine hK _ _ ?_ (Below.refl _ _); apply Rg.mk))) ?_ rfl
    refine Rg.build_cons (m := 6) (r := Rg.eq _) (Rg.one_plain (by rfl) (by (intro ax wx hk K hK; obtain ⟨v24, k24, h24⟩ := hk.dep 4 24 _ rfl rfl rfl; (first | (cases (h24 : v24 = _)) | skip); have hj := hk.j; clear hk; obtain ⟨⟨a0, a1, a2, a3, b0, b1, b2, b3⟩, hrd, -⟩ := hj; (try simp only [setOf, setV] at k24); go_simp; refine hK _ _ ?_ (Below.refl _ _); apply Rg.mk))) ?_ rfl
    first
      | refine Rg.build_cons (m := 7) (Rg.one_no 5 25 false (by rfl) (by rfl) (by rfl) (by rfl)) ?_ rfl
      | refine Rg.build_cons (m := 7) (r := Rg.eq _) (Rg.one_yes 5 25 false (by rfl) (by rfl) (by rfl) (by rfl) (by (intro ax wx hk K hK; have k1 := hk.base 1 _ rfl rfl; have hj := hk.j; clear hk; obtain ⟨⟨a0, a1, a2, a3, b0, b1, b2, b3⟩, hrd, -⟩ := hj; (try simp only [setOf, setV] at k1); go_simp; refine hK _ _ ?_ (Below.refl _ _); apply Rg.mk))) ?_ rfl
    first
      | refine Rg.build_cons (m := 8) (Rg.one_no 5 25 false (by rfl) (by rfl) (by rfl) (by rfl)) ?_ rfl
      | refine Rg.build_cons (m := 8) (r := Rg.eq _) (Rg.one_yes 5 25 false (by rfl) (by rfl) (by rfl) (by rfl) (by (intro ax wx hk K hK; have k2 := hk.base 2 _ rfl rfl; have hj := hk.j; clear hk; obtain ⟨⟨a0, a1, a2, a3, b0, b1, b2, b3⟩, hrd, -⟩ := hj; (try simp only [setOf, setV] at k2); go_simp; refine hK _ _ ?_ (Below.refl _ _); apply Rg.mk))) ?_ rfl
    first
      | refine Rg.build_cons (m := 9) (Rg.one_no 5 25 false (by rfl) (by rfl) (by rfl) (by rfl)) ?_ rfl
      | refine Rg.build_cons (m := 9) (r := Rg.eq _) (Rg.one_yes 5 25 false (by rfl) (by rfl) (by rfl) (by rfl) (by (intro ax wx hk K hK; obtain ⟨v26, k26, h26⟩ := hk.dep 6 26 _ rfl rfl rfl; (first | (cases (h26 : v26 = _)) | skip); obtain ⟨v27, k27, h27⟩ := hk.dep 7 27 _ rfl rfl rfl; (first | (cases (h27 : v27 = _)) | skip); have hj := hk.j; clear hk; obtain ⟨⟨a0, a1, a2, a3, b0, b1, b2, b3⟩, hrd, -⟩ := hj; skip; go_simp; refine (range_any lo hi _ l0 l1 h0 h1).mono ?_; rintro e w' ⟨rfl, hb⟩; refine hK _ _ ?_ hb; apply Rg.mk))) ?_ rfl
    first
      | refine Rg.build_cons (m := 10) (Rg.one_no 5 25 false (by rfl) (by rfl) (by rfl) (by rfl)) ?_ rfl
      | refine Rg.build_cons (m := 10) (r := Rg.eq _) (Rg.one_yes 5 25 false (by rfl) (by rfl) (by rfl) (by rfl) (by (intro ax wx hk K hK; have k1 := hk.base 1 _ rfl rfl; have hj := hk.j; clear hk; obtain ⟨⟨a0, a1, a2, a3, b0, b1, b2, b3⟩, hrd, -⟩ := hj; (try simp only [setOf, setV] at k1); go_simp; refine hK _ _ ?_ (Below.refl _ _); apply Rg.mk))) ?_ rfl
    first
      | refine Rg.build_cons (m := 11) (Rg.one_no 5 25 false (by rfl) (by rfl) (by rfl) (by rfl)) ?_ rfl
      | refine Rg.build_cons (m := 11) (r := Rg.eq _) (Rg.one_yes 5 25 false (by rfl) (by rfl) (by rfl) (by rfl) (by (intro ax wx hk K hK; have k2 := hk.base 2 _ rfl rfl; have hj := hk.j; clear hk; obtain ⟨⟨a0, a1, a2, a3, b0, b1, b2, b3⟩, hrd, -⟩ := hj; (try simp only [setOf, setV] at k2); go_simp; refine hK _ _ ?_ (Below.refl _ _); apply Rg.mk))) ?_ rfl
    first
      | refine Rg.build_cons (m := 12) (Rg.one_no 5 25 false (by rfl) (by rfl) (by rfl) (by rfl)) ?_ rfl
      | refine Rg.build_cons (m := 12) (r := Rg.eq _) (Rg.one_yes 5 25 false (by rfl) (by rfl) (by rfl) (by rfl) (by (intro ax wx hk K hK; obtain ⟨v29, k29, h29⟩ := hk.dep 9 29 _ rfl rfl rfl; (first | (cases (h29 : v29 = _)) | skip); obtain ⟨v30, k30, h30⟩ := hk.dep 10 30 _ rfl rfl rfl; (first | (cases (h30 : v30 = _)) | skip); have hj := hk.j; clear hk; obtain ⟨⟨a0, a1, a2, a3, b0, b1, b2, b3⟩, hrd, -⟩ := hj; skip; go_simp; refine (refRange_any lo hi _ l0 l1 h0 h1).mono ?_; rintro e w' ⟨rfl, hb⟩; refine hK _ _ ?_ hb; apply Rg.mk))) ?_ rfl
    first
      | refine Rg.build_cons (m := 13) (Rg.one_no 5 25 false (by rfl) (by rfl) (by rfl) (by rfl)) ?_ rfl
      | refine Rg.build_cons (m := 13) (r := Rg.eq _) (Rg.one_yes 5 25 false (by rfl) (by rfl) (by rfl) (by rfl) (by (intro ax wx hk K hK; obtain ⟨v28, k28, h28⟩ := hk.dep 8 28 _ rfl rfl rfl; (first | (cases (h28 : v28 = _)) | skip); obtain ⟨v31, k31, h31⟩ := hk.dep 11 31 _ rfl rfl rfl; (first | (cases (h31 : v31 = _)) | skip); have hj := hk.j; clear hk; obtain ⟨⟨a0, a1, a2, a3, b0, b1, b2, b3⟩, hrd, -⟩ := hj; (try simp only [setOf, setV] at k28 k31); go_simp; refine hK _ _ ?_ (Below.refl _ _); apply Rg.mk))) ?_ rfl
    refine Rg.build_cons (m := 14) (r := Rg.eq _) (Rg.one_plain (by rfl) (by (intro ax wx hk K hK; obtain ⟨v25, k25, h25⟩ := hk.dep 5 25 _ rfl rfl rfl; (first | (cases (h25 : v25 = _)) | skip); obtain ⟨v32, k32, h32⟩ := hk.dep 12 32 _ rfl rfl rfl; (first | (cases (h32 : v32 = _)) | skip); have hj := hk.j; clear hk; obtain ⟨⟨a0, a1, a2, a3, b0, b1, b2, b3⟩, hrd, -⟩ := hj; (try simp only [setOf, setV] at k25 k32); go_simp; refine hK _ _ ?_ (Below.refl _ _); apply Rg.mk))) ?_ rfl
    refine Rg.build_cons (m := 15) (r := Rg.eq _) (Rg.one_plain (by rfl) (by (intro ax wx hk K hK; obtain ⟨v33, k33, h33⟩ := hk.dep 13 33 _ rfl rfl rfl; (first | (cases (h33 : v33 = _)) | skip); have hj := hk.j; clear hk; obtain ⟨⟨a0, a1, a2, a3, b0, b1, b2, b3⟩, hrd, -⟩ := hj; (try simp only [setOf, setV] at k33); go_simp; refine hK _ _ ?_ (Below.refl _ _); apply Rg.mk))) ?_ rfl
    first
      | refine Rg.build_cons (m := 16) (Rg.one_no 14 34 false (by rfl) (by rfl) (by rfl) (by rfl)) ?_ rfl
      | refine Rg.build_cons (m := 16) (r := Rg.eq _) (Rg.one_yes 14 34 false (by rfl) (by rfl) (by rfl) (by rfl) (by (intro ax wx hk K hK; have k9 := hk.base 9 _ rfl rfl; have hj := hk.j; clear hk; obtain ⟨⟨a0, a1, a2, a3, b0, b1, b2, b3⟩, hrd, -⟩ := hj; (try simp only [setOf, setV] at k9); go_simp; refine hK _ _ ?_ (Below.refl _ _); apply Rg.mk))) ?_ rfl
    first
      | refine Rg.build_cons (m := 17) (Rg.one_no 14 34 false (by rfl) (by rfl) (by rfl) (by rfl)) ?_ rfl
      | refine Rg.build_cons (m := 17) (r := Rg.eq _) (Rg.one_yes 14 34 false (by rfl) (by rfl) (by rfl) (by rfl) (by (intro ax wx hk K hK; have k10 := hk.base 10 _ rfl rfl; have hj := hk.j; clear hk; obtain ⟨⟨a0, a1, a2, a3, b0, b1, b2, b3⟩, hrd, -⟩ := hj; (try simp only [setOf, setV] at k10); go_simp; refine hK _ _ ?_ (Below.refl _ _); apply Rg.mk))) ?_ rfl
    first
      | refine Rg.build_cons (m := 18) (Rg.one_no 14 34 false (by rfl) (by rfl) (by rfl) (by rfl)) ?_ rfl
      | refine Rg.build_cons (m := 18) (r := Rg.eq _) (Rg.one_yes 14 34 false (by rfl) (by rfl) (by rfl) (by rfl) (by (intro ax wx hk K hK; obtain ⟨v35, k35, h35⟩ := hk.dep 15 35 _ rfl rfl rfl; (first | (cases (h35 : v35 = _)) | skip); obtain ⟨v36, k36, h36⟩ := hk.dep 16 36 _ rfl rfl rfl; (first | (cases (h36 : v36 = _)) | skip); have hj := hk.j; clear hk; obtain ⟨⟨a0, a1, a2, a3, b0, b1, b2, b3⟩, hrd, -⟩ := hj; skip; go_simp; refine (or_any f g _).mono ?_; rintro e w' ⟨rfl, hb⟩; refine hK _ _ ?_ hb; apply Rg.mk))) ?_ rfl
    first
      | refine Rg.build_cons (m := 19) (Rg.one_no 14 34 false (by rfl) (by rfl) (by rfl) (by rfl)) ?_ rfl
      | refine Rg.build_cons (m := 19) (r := Rg.eq _) (Rg.one_yes 14 34 false (by rfl) (by rfl) (by rfl) (by rfl) (by (intro ax wx hk K hK; have k9 := hk.base 9 _ rfl rfl; have hj := hk.j; clear hk; obtain ⟨⟨a0, a1, a2, a3, b0, b1, b2, b3⟩, hrd, -⟩ := hj; (try simp only [setOf, setV] at k9); go_simp; refine hK _ _ ?_ (Below.refl _ _); apply Rg.mk))) ?_ rfl
    first
      | refine Rg.build_cons (m := 20) (Rg.one_no 14 34 false (by rfl) (by rfl) (by rfl) (by rfl)) ?_ rfl
      | refine Rg.build_cons (m := 20) (r := Rg.eq _) (Rg.one_yes 14 34 false (by rfl) (by rfl) (by rfl) (by rfl) (by (intro ax wx hk K hK; have k10 := hk.base 10 _ rfl rfl; have hj := hk.j; clear hk; obtain ⟨⟨a0, a1, a2, a3, b0, b1, b2, b3⟩, hrd, -⟩ := hj; (try simp only [setOf, setV] at k10); go_simp; refine hK _ _ ?_ (Below.refl _ _); apply Rg.mk))) ?_ rfl
    first
      | refine Rg.build_cons (m := 21) (Rg.one_no 14 34 false (by rfl) (by rfl) (by rfl) (by rfl)) ?_ rfl
      | refine Rg.build_cons (m := 21) (r := Rg.eq _) (Rg.one_yes 14 34 false (by rfl) (by rfl) (by rfl) (by rfl) (by (intro ax wx hk K hK; obtain ⟨v38, k38, h38⟩ := hk.dep 18 38 _ rfl rfl rfl; (first | (cases (h38 : v38 = _)) | skip); obtain ⟨v39, k39, h39⟩ := hk.dep 19 39 _ rfl rfl rfl; (first | (cases (h39 : v39 = _)) | skip); have hj := hk.j; clear hk; obtain ⟨⟨a0, a1, a2, a3, b0, b1, b2, b3⟩, hrd, -⟩ := hj; skip; go_simp; refine (refOr_any f g _).mono ?_; rintro e w' ⟨rfl, hb⟩; refine hK _ _ ?_ hb; apply Rg.mk))) ?_ rfl
    first
      | refine Rg.build_cons (m := 22) (Rg.one_no 14 34 false (by rfl) (by rfl) (by rfl) (by rfl)) ?_ rfl
      | refine Rg.build_cons (m := 22) (r := Rg.eq _) (Rg.one_yes 14 34 false (by rfl) (by rfl) (by rfl) (by rfl) (by (intro ax wx hk K hK; obtain ⟨v37, k37, h37⟩ := hk.dep 17 37 _ rfl rfl rfl; (first | (cases (h37 : v37 = _)) | skip); obtain ⟨v40, k40, h40⟩ := hk.dep 20 40 _ rfl rfl rfl; (first | (cases (h40 : v40 = _)) | skip); have hj := hk.j; clear hk; obtain ⟨⟨a0, a1, a2, a3, b0, b1, b2, b3⟩, hrd, -⟩ := hj; (try simp only [setOf, setV] at k37 k40); go_simp; refine hK _ _ ?_ (Below.refl _ _); apply Rg.mk))) ?_ rfl
    refine Rg.build_cons (m := 23) (r := Rg.eq _) (Rg.one_plain (by rfl) (by (intro ax wx hk K hK; obtain ⟨v34, k34, h34⟩ := hk.dep 14 34 _ rfl rfl rfl; (first | (cases (h34 : v34 = _)) | skip); obtain ⟨v41, k41, h41⟩ := hk.dep 21 41 _ rfl rfl rfl; (first | (cases (h41 : v41 = _)) | skip); have hj := hk.j; clear hk; obtain ⟨⟨a0, a1, a2, a3, b0, b1, b2, b3⟩, hrd, -⟩ := hj; (try simp only [setOf, setV] at k34 k41); go_simp; refine hK _ _ ?_ (Below.refl _ _); apply Rg.mk))) ?_ rfl
    refine Rg.build_cons (m := 24) (r := Rg.eq _) (Rg.one_plain (by rfl) (by (intro ax wx hk K hK; obtain ⟨v42, k42, h42⟩ := hk.dep 22 42 _ rfl rfl rfl; (first | (cases (h42 : v42 = _)) | skip); have hj := hk.j; clear hk; obtain ⟨⟨a0, a1, a2, a3, b0, b1, b2, b3⟩, hrd, -⟩ := hj; (try simp only [setOf, setV] at k42); go_simp; refine hK _ _ ?_ (Below.refl _ _); apply Rg.mk))) ?_ rfl
    first
      | refine Rg.build_cons (m := 25) (Rg.one_no 23 43 false (by rfl) (by rfl) (by rfl) (by rfl)) ?_ rfl
      | refine Rg.build_cons (m := 25) (r := Rg.eq _) (Rg.one_yes 23 43 false (by rfl) (by rfl) (by rfl) (by rfl) (by (intro ax wx hk K hK; have k9 := hk.base 9 _ rfl rfl; have hj := hk.j; clear hk; obtain ⟨⟨a0, a1, a2, a3, b0, b1, b2, b3⟩, hrd, -⟩ := hj; (try simp only [setOf, setV] at k9); go_simp; refine hK _ _ ?_ (Below.refl _ _); apply Rg.mk))) ?_ rfl
    first
      | refine Rg.build_cons (m := 26) (Rg.one_no 23 43 false (by rfl) (by rfl) (by rfl) (by rfl)) ?_ rfl
      | refine Rg.build_cons (m := 26) (r := Rg.eq _) (Rg.one_yes 23 43 false (by rfl) (by rfl) (by rfl) (by rfl) (by (intro ax wx hk K hK; obtain ⟨v44, k44, h44⟩ := hk.dep 24 44 _ rfl rfl rfl; (first | (cases (h44 : v44 = _)) | skip); have hj := hk.j; clear hk; obtain ⟨⟨a0, a1, a2, a3, b0, b1, b2, b3⟩, hrd, -⟩ := hj; skip; go_simp; refine (not_any f _).mono ?_; rintro e w' ⟨rfl, hb⟩; refine hK _ _ ?_ hb; apply Rg.mk))) ?_ rfl
    first
      | refine Rg.build_cons (m := 27) (Rg.one_no 23 43 false (by rfl) (by rfl) (by rfl) (by rfl)) ?_ rfl
      | refine Rg.build_cons (m := 27) (r := Rg.eq _) (Rg.one_yes 23 43 false (by rfl) (by rfl) (by rfl) (by rfl) (by (intro ax wx hk K hK; have k9 := hk.base 9 _ rfl rfl; have hj := hk.j; clear hk; obtain ⟨⟨a0, a1, a2, a3, b0, b1, b2, b3⟩, hrd, -⟩ := hj; (try simp only [setOf, setV] at k9); go_simp; refine hK _ _ ?_ (Below.refl _ _); apply Rg.mk))) ?_ rfl
    first
      | refine Rg.build_cons (m := 28) (Rg.one_no 23 43 false (by rfl) (by rfl) (by rfl) (by rfl)) ?_ rfl
      | refine Rg.build_cons (m := 28) (r := Rg.eq _) (Rg.one_yes 23 43 false (by rfl) (by rfl) (by rfl) (by rfl) (by (intro ax wx hk K hK; obtain ⟨v46, k46, h46⟩ := hk.dep 26 46 _ rfl rfl rfl; (first | (cases (h46 : v46 = _)) | skip); have hj := hk.j; clear hk; obtain ⟨⟨a0, a1, a2, a3, b0, b1, b2, b3⟩, hrd, -⟩ := hj; skip; go_simp; refine (refNot_any f _).mono ?_; rintro e w' ⟨rfl, hb⟩; refine hK _ _ ?_ hb; apply Rg.mk))) ?_ rfl
    first
      | refine Rg.build_cons (m := 29) (Rg.one_no 23 43 false (by rfl) (by rfl) (by rfl) (by rfl)) ?_ rfl
      | refine Rg.build_cons (m := 29) (r := Rg.eq _) (Rg.one_yes 23 43 false (by rfl) (by rfl) (by rfl) (by rfl) (by (intro ax wx hk K hK; obtain ⟨v45, k45, h45⟩ := hk.dep 25 45 _ rfl rfl rfl; (first | (cases (h45 : v45 = _)) | skip); obtain ⟨v47, k47, h47⟩ := hk.dep 27 47 _ rfl rfl rfl; (first | (cases (h47 : v47 = _)) | skip); have hj := hk.j; clear hk; obtain ⟨⟨a0, a1, a2, a3, b0, b1, b2, b3⟩, hrd, -⟩ := hj; (try simp only [setOf, setV] at k45 k47); go_simp; refine hK _ _ ?_ (Below.refl _ _); apply Rg.mk))) ?_ rfl
    refine Rg.build_cons (m := 30) (r := Rg.eq _) (Rg.one_plain (by rfl) (by (intro ax wx hk K hK; obtain ⟨v43, k43, h43⟩ := hk.dep 23 43 _ rfl rfl rfl; (first | (cases (h43 : v43 = _)) | skip); obtain ⟨v48, k48, h48⟩ := hk.dep 28 48 _ rfl rfl rfl; (first | (cases (h48 : v48 = _)) | skip); have hj := hk.j; clear hk; obtain ⟨⟨a0, a1, a2, a3, b0, b1, b2, b3⟩, hrd, -⟩ := hj; (try simp only [setOf, setV] at k43 k48); go_simp; refine hK _ _ ?_ (Below.refl _ _); apply Rg.mk))) ?_ rfl
    refine Rg.build_end fun wx hj => ?_
    refine Rg.fin_eq rfl ?_
    refine Rg.fin_eq rfl ?_
    refine Rg.fin_eq rfl ?_
    refine Rg.fin_eq rfl ?_
    refine Rg.fin_eq rfl ?_
    refine Rg.fin_eq rfl ?_
    refine Rg.fin_eq rfl ?_
    refine Rg.fin_eq rfl ?_
    refine Rg.fin_eq rfl ?_
    refine Rg.fin_eq rfl ?_
    refine Rg.fin_eq rfl ?_
    refine Rg.fin_eq rfl ?_
    refine Rg.fin_eq rfl ?_
    refine Rg.fin_eq rfl ?_
    refine Rg.fin_eq rfl ?_
    refine Rg.fin_eq rfl ?_
    refine Rg.fin_eq rfl ?_
    refine Rg.fin_eq rfl ?_
    refine Rg.fin_eq rfl ?_
    refine Rg.fin_eq rfl ?_
    refine Rg.fin_eq rfl ?_
    refine Rg.fin_eq rfl ?_
    refine Rg.fin_eq rfl ?_
    refine Rg.fin_eq rfl ?_
    refine Rg.fin_eq rfl ?_
    refine Rg.fin_eq rfl ?_
    refine Rg.fin_eq rfl ?_
    refine Rg.fin_eq rfl ?_
    refine Rg.fin_eq rfl ?_
    refine Rg.fin_eq rfl ?_
    refine Rg.fin_nil ?_
    simp only [List.set_cons_zero, List.set_cons_succ]
    have HB9 := Lib.hid hj.2.2.out
    have HK9 := Lib.hid hj.1
    have H9 := Lib.hid hj.2.1.out
    clear hj a0 a1 a2 a3 b0 b1 b2 b3
    obtain ⟨y0, y1, y2, y3, y4, y5, y6, y7⟩ := HK9.out
    go_wp2_with fail
    refine (refBytes_any f _).mono ?_; rintro e wA ⟨vA, rfl, hOA, hbA⟩
    have K := keep8 HK9.out hbA
    have HBA := HB9.out.trans (hbA.mono HB9.out.size)
    have RA := rdB_own hOA (by rw [lst_len]; have := cnt_le f 256; omega) (lst_bd255 f)
    have hcn := cnt_le f 256
    have hsl := own_slice hOA
    rw [lst_len] at hsl
    obtain ⟨pA, cA, rfl⟩ := hsl
    clear hOA hbA y0 y1 y2 y3 y4 y5 y6 y7 HB9 HK9 H9
    have HKA := Lib.hid K
    obtain ⟨z0, z1, z2, z3, z4, z5, z6, z7⟩ := K
    have HBA' := Lib.hid HBA; have RA' := Lib.hid RA; clear HBA RA
    generalize hS : strOfNums (lst f 256) = S
    have HS := Lib.hid hS; clear hS
    generalize hfx : f x.toNat = bx
    have HFX := Lib.hid hfx; clear hfx
    have HN : Hid (∀ w1 : World, Calls Try.prog 47 #[setOf f] w1 fun e w' => e = .returned (.int .i64 (cnt f 256)) ∧ Below w1.heap.size w1 w') := Lib.hid (count_any f)
    generalize hnn : cnt f 256 = n at *
    have HNN := Lib.hid hnn; clear hnn
    go_wp2_with fail
    refine Rg.wp_region_each (by kernel_rfl) (fun w' => (w'.cell? ⟨w.heap.size, 0, none⟩ = some (.int .u64 ((wd f 0 : Nat) : Int)) ∧ w'.cell? ⟨w.heap.size, 1, none⟩ = some (.int .u64 ((wd f 1 : Nat) : Int)) ∧ w'.cell? ⟨w.heap.size, 2, none⟩ = some (.int .u64 ((wd f 2 : Nat) : Int)) ∧ w'.cell? ⟨w.heap.size, 3, none⟩ = some (.int .u64 ((wd f 3 : Nat) : Int)) ∧ w'.cell? ⟨w.heap.size + 1, 0, none⟩ = some (.int .u64 ((wd g 0 : Nat) : Int)) ∧ w'.cell? ⟨w.heap.size + 1, 1, none⟩ = some (.int .u64 ((wd g 1 : Nat) : Int)) ∧ w'.cell? ⟨w.heap.size + 1, 2, none⟩ = some (.int .u64 ((wd g 2 : Nat) : Int)) ∧ w'.cell? ⟨w.heap.size + 1, 3, none⟩ = some (.int .u64 ((wd g 3 : Nat) : Int))) ∧ Hid (RdB w' (.slice pA n cA) (lst f 256)) ∧ Hid (Below w.heap.size w w')) (fun w1 w2 h hb => ⟨keep8 h.1 hb, Lib.hid (rdB_below h.2.1.out hb), Lib.hid (h.2.2.out.trans (hb.mono h.2.2.out.size))⟩) (by kernel_rfl) (by kernel_rfl) (⟨HKA.out, RA', HBA'⟩) ?_
    show Rg.Build _ _ _ _ _ 0 [_, _, _, _, _, _, _, _, _, _, _, _, _, _, _, _, _, _, _, _, _, _, _, _, _, _] []
    refine Rg.build_cons (m := 1) (r := Rg.eq _) (Rg.one_plain (by rfl) (by (intro ax wx hk K hK; have k13 := hk.base 13 _ rfl rfl; have hj := hk.j; clear hk; obtain ⟨⟨a0, a1, a2, a3, b0, b1, b2, b3⟩, hrd, -⟩ := hj; go_simp; refine hK _ _ ?_ (Below.refl _ _); apply Rg.mk))) ?_ rfl
    refine Rg.build_cons (m := 2) (r := Rg.eq _) (Rg.one_plain (by rfl) (by (intro ax wx hk K hK; obtain ⟨v52, k52, h52⟩ := hk.dep 0 52 _ rfl rfl rfl; (first | (cases (h52 : v52 = _)) | skip); have hj := hk.j; clear hk; obtain ⟨⟨a0, a1, a2, a3, b0, b1, b2, b3⟩, hrd, -⟩ := hj; go_simp; refine hK _ _ ?_ (Below.refl _ _); apply Rg.mk))) ?_ rfl
    first
      | refine Rg.build_cons (m := 3) (Rg.one_no 1 53 true (by rfl) (by rfl) (by rfl) (by rfl)) ?_ rfl
      | refine Rg.build_cons (m := 3) (r := Rg.eq _) (Rg.one_yes 1 53 true (by rfl) (by rfl) (by rfl) (by rfl) (by (intro ax wx hk K hK; have k9 := hk.base 9 _ rfl rfl; have hj := hk.j; clear hk; obtain ⟨⟨a0, a1, a2, a3, b0, b1, b2, b3⟩, hrd, -⟩ := hj; go_simp; refine hK _ _ ?_ (Below.refl _ _); apply Rg.mk))) ?_ rfl
    first
      | refine Rg.build_cons (m := 4) (Rg.one_no 1 53 true (by rfl) (by rfl) (by rfl) (by rfl)) ?_ rfl
      | refine Rg.build_cons (m := 4) (r := Rg.eq _) (Rg.one_yes 1 53 true (by rfl) (by rfl) (by rfl) (by rfl) (by (intro ax wx hk K hK; have k5 := hk.base 5 _ rfl rfl; have hj := hk.j; clear hk; obtain ⟨⟨a0, a1, a2, a3, b0, b1, b2, b3⟩, hrd, -⟩ := hj; go_simp; refine hK _ _ ?_ (Below.refl _ _); apply Rg.mk))) ?_ rfl
    first
      | refine Rg.build_cons (m := 5) (Rg.one_no 1 53 true (by rfl) (by rfl) (by rfl) (by rfl)) ?_ rfl
      | refine Rg.build_cons (m := 5) (r := Rg.eq _) (Rg.one_yes 1 53 true (by rfl) (by rfl) (by rfl) (by rfl) (by (intro ax wx hk K hK; obtain ⟨v54, k54, h54⟩ := hk.dep 2 54 _ rfl rfl rfl; (first | (cases (h54 : v54 = _)) | skip); obtain ⟨v55, k55, h55⟩ := hk.dep 3 55 _ rfl rfl rfl; (first | (cases (h55 : v55 = _)) | skip); have hj := hk.j; clear hk; obtain ⟨⟨a0, a1, a2, a3, b0, b1, b2, b3⟩, hrd, -⟩ := hj; go_simp; refine (has_any f x _ x0 x1).mono ?_; rw [HFX.out]; rintro e w' ⟨rfl, hb⟩; refine hK _ _ ?_ hb; apply Rg.mk))) ?_ rfl
    first
      | refine Rg.build_cons (m := 6) (Rg.one_no 1 53 true (by rfl) (by rfl) (by rfl) (by rfl)) ?_ rfl
      | refine Rg.build_cons (m := 6) (r := Rg.eq _) (Rg.one_yes 1 53 true (by rfl) (by rfl) (by rfl) (by rfl) (by (intro ax wx hk K hK; have k9 := hk.base 9 _ rfl rfl; have hj := hk.j; clear hk; obtain ⟨⟨a0, a1, a2, a3, b0, b1, b2, b3⟩, hrd, -⟩ := hj; go_simp; refine hK _ _ ?_ (Below.refl _ _); apply Rg.mk))) ?_ rfl
    first
      | refine Rg.build_cons (m := 7) (Rg.one_no 1 53 true (by rfl) (by rfl) (by rfl) (by rfl)) ?_ rfl
      | refine Rg.build_cons (m := 7) (r := Rg.eq _) (Rg.one_yes 1 53 true (by rfl) (by rfl) (by rfl) (by rfl) (by (intro ax wx hk K hK; have k5 := hk.base 5 _ rfl rfl; have hj := hk.j; clear hk; obtain ⟨⟨a0, a1, a2, a3, b0, b1, b2, b3⟩, hrd, -⟩ := hj; go_simp; refine hK _ _ ?_ (Below.refl _ _); apply Rg.mk))) ?_ rfl
    first
      | refine Rg.build_cons (m := 8) (Rg.one_no 1 53 true (by rfl) (by rfl) (by rfl) (by rfl)) ?_ rfl
      | refine Rg.build_cons (m := 8) (r := Rg.eq _) (Rg.one_yes 1 53 true (by rfl) (by rfl) (by rfl) (by rfl) (by (intro ax wx hk K hK; obtain ⟨v57, k57, h57⟩ := hk.dep 5 57 _ rfl rfl rfl; (first | (cases (h57 : v57 = _)) | skip); obtain ⟨v58, k58, h58⟩ := hk.dep 6 58 _ rfl rfl rfl; (first | (cases (h58 : v58 = _)) | skip); have hj := hk.j; clear hk; obtain ⟨⟨a0, a1, a2, a3, b0, b1, b2, b3⟩, hrd, -⟩ := hj; go_simp; refine (refHas_any f x _ x0 x1).mono ?_; rw [HFX.out]; rintro e w' ⟨rfl, hb⟩; refine hK _ _ ?_ hb; apply Rg.mk))) ?_ rfl
    first
      | refine Rg.build_cons (m := 9) (Rg.one_no 1 53 true (by rfl) (by rfl) (by rfl) (by rfl)) ?_ rfl
      | refine Rg.build_cons (m := 9) (r := Rg.eq _) (Rg.one_yes 1 53 true (by rfl) (by rfl) (by rfl) (by rfl) (by (intro ax wx hk K hK; obtain ⟨v56, k56, h56⟩ := hk.dep 4 56 _ rfl rfl rfl; (first | (cases (h56 : v56 = _)) | skip); obtain ⟨v59, k59, h59⟩ := hk.dep 7 59 _ rfl rfl rfl; (first | (cases (h59 : v59 = _)) | skip); have hj := hk.j; clear hk; obtain ⟨⟨a0, a1, a2, a3, b0, b1, b2, b3⟩, hrd, -⟩ := hj; go_simp; refine hK _ _ ?_ (Below.refl _ _); apply Rg.mk))) ?_ rfl
    refine Rg.build_cons (m := 10) (r := Rg.eq _) (Rg.one_plain (by rfl) (by (intro ax wx hk K hK; obtain ⟨v53, k53, h53⟩ := hk.dep 1 53 _ rfl rfl rfl; (first | (cases (h53 : v53 = _)) | skip); obtain ⟨v60, k60, h60⟩ := hk.dep 8 60 _ rfl rfl rfl; (first | (cases (h60 : v60 = _)) | skip); have hj := hk.j; clear hk; obtain ⟨⟨a0, a1, a2, a3, b0, b1, b2, b3⟩, hrd, -⟩ := hj; go_simp; refine hK _ _ ?_ (Below.refl _ _); apply Rg.mk))) ?_ rfl
    refine Rg.build_cons (m := 11) (r := Rg.eq _) (Rg.one_plain (by rfl) (by (intro ax wx hk K hK; obtain ⟨v61, k61, h61⟩ := hk.dep 9 61 _ rfl rfl rfl; (first | (cases (h61 : v61 = _)) | skip); have hj := hk.j; clear hk; obtain ⟨⟨a0, a1, a2, a3, b0, b1, b2, b3⟩, hrd, -⟩ := hj; go_simp; refine hK _ _ ?_ (Below.refl _ _); apply Rg.mk))) ?_ rfl
    first
      | refine Rg.build_cons (m := 12) (Rg.one_no 10 62 true (by rfl) (by rfl) (by rfl) (by rfl)) ?_ rfl
      | refine Rg.build_cons (m := 12) (r := Rg.eq _) (Rg.one_yes 10 62 true (by rfl) (by rfl) (by rfl) (by rfl) (by (intro ax wx hk K hK; have k9 := hk.base 9 _ rfl rfl; have hj := hk.j; clear hk; obtain ⟨⟨a0, a1, a2, a3, b0, b1, b2, b3⟩, hrd, -⟩ := hj; go_simp; refine hK _ _ ?_ (Below.refl _ _); apply Rg.mk))) ?_ rfl
    first
      | refine Rg.build_cons (m := 13) (Rg.one_no 10 62 true (by rfl) (by rfl) (by rfl) (by rfl)) ?_ rfl
      | refine Rg.build_cons (m := 13) (r := (⟨fun v w => RdB w v (lst f 256), fun _ _ _ h hb => rdB_below h hb⟩ : Rg.Rl)) (Rg.one_yes 10 62 true (by rfl) (by rfl) (by rfl) (by rfl) (by (intro ax wx hk K hK; obtain ⟨v63, k63, h63⟩ := hk.dep 11 63 _ rfl rfl rfl; (first | (cases (h63 : v63 = _)) | skip); have hj := hk.j; clear hk; obtain ⟨⟨a0, a1, a2, a3, b0, b1, b2, b3⟩, hrd, -⟩ := hj; go_simp; refine (bytes_any f _).mono ?_; rintro e w' ⟨vn, rfl, hON, hb⟩; exact hK _ _ (rdB_own hON (by rw [lst_len, HNN.out]; omega) (lst_bd255 f)) hb))) ?_ rfl
    first
      | refine Rg.build_cons (m := 14) (Rg.one_no 10 62 true (by rfl) (by rfl) (by rfl) (by rfl)) ?_ rfl
      | refine Rg.build_cons (m := 14) (r := Rg.eq _) (Rg.one_yes 10 62 true (by rfl) (by rfl) (by rfl) (by rfl) (by (intro ax wx hk K hK; obtain ⟨v64, k64, h64⟩ := hk.dep 12 64 _ rfl rfl rfl; (first | (cases (h64 : v64 = _)) | skip); have hj := hk.j; clear hk; obtain ⟨⟨a0, a1, a2, a3, b0, b1, b2, b3⟩, hrd, -⟩ := hj; (have CA := rdB_conv h64; rw [HS.out] at CA; go_simp; refine hK _ _ ?_ (Below.refl _ _); apply Rg.mk)))) ?_ rfl
    first
      | refine Rg.build_cons (m := 15) (Rg.one_no 10 62 true (by rfl) (by rfl) (by rfl) (by rfl)) ?_ rfl
      | refine Rg.build_cons (m := 15) (r := Rg.eq _) (Rg.one_yes 10 62 true (by rfl) (by rfl) (by rfl) (by rfl) (by (intro ax wx hk K hK; have k14 := hk.base 14 _ rfl rfl; have hj := hk.j; clear hk; obtain ⟨⟨a0, a1, a2, a3, b0, b1, b2, b3⟩, hrd, -⟩ := hj; go_simp; refine hK _ _ ?_ (Below.refl _ _); apply Rg.mk))) ?_ rfl
    first
      | refine Rg.build_cons (m := 16) (Rg.one_no 10 62 true (by rfl) (by rfl) (by rfl) (by rfl)) ?_ rfl
      | refine Rg.build_cons (m := 16) (r := Rg.eq _) (Rg.one_yes 10 62 true (by rfl) (by rfl) (by rfl) (by rfl) (by (intro ax wx hk K hK; obtain ⟨v66, k66, h66⟩ := hk.dep 14 66 _ rfl rfl rfl; (first | (cases (h66 : v66 = _)) | skip); have hj := hk.j; clear hk; obtain ⟨⟨a0, a1, a2, a3, b0, b1, b2, b3⟩, hrd, -⟩ := hj; (have CA := rdB_conv hrd.out; rw [HS.out] at CA; go_simp; refine hK _ _ ?_ (Below.refl _ _); apply Rg.mk)))) ?_ rfl
    first
      | refine Rg.build_cons (m := 17) (Rg.one_no 10 62 true (by rfl) (by rfl) (by rfl) (by rfl)) ?_ rfl
      | refine Rg.build_cons (m := 17) (r := Rg.eq _) (Rg.one_yes 10 62 true (by rfl) (by rfl) (by rfl) (by rfl) (by (intro ax wx hk K hK; obtain ⟨v65, k65, h65⟩ := hk.dep 13 65 _ rfl rfl rfl; (first | (cases (h65 : v65 = _)) | skip); obtain ⟨v67, k67, h67⟩ := hk.dep 15 67 _ rfl rfl rfl; (first | (cases (h67 : v67 = _)) | skip); have hj := hk.j; clear hk; obtain ⟨⟨a0, a1, a2, a3, b0, b1, b2, b3⟩, hrd, -⟩ := hj; go_simp; refine hK _ _ ?_ (Below.refl _ _); apply Rg.mk))) ?_ rfl
    refine Rg.build_cons (m := 18) (r := Rg.eq _) (Rg.one_plain (by rfl) (by (intro ax wx hk K hK; obtain ⟨v62, k62, h62⟩ := hk.dep 10 62 _ rfl rfl rfl; (first | (cases (h62 : v62 = _)) | skip); obtain ⟨v68, k68, h68⟩ := hk.dep 16 68 _ rfl rfl rfl; (first | (cases (h68 : v68 = _)) | skip); have hj := hk.j; clear hk; obtain ⟨⟨a0, a1, a2, a3, b0, b1, b2, b3⟩, hrd, -⟩ := hj; go_simp; refine hK _ _ ?_ (Below.refl _ _); apply Rg.mk))) ?_ rfl
    refine Rg.build_cons (m := 19) (r := Rg.eq _) (Rg.one_plain (by rfl) (by (intro ax wx hk K hK; obtain ⟨v69, k69, h69⟩ := hk.dep 17 69 _ rfl rfl rfl; (first | (cases (h69 : v69 = _)) | skip); have hj := hk.j; clear hk; obtain ⟨⟨a0, a1, a2, a3, b0, b1, b2, b3⟩, hrd, -⟩ := hj; go_simp; refine hK _ _ ?_ (Below.refl _ _); apply Rg.mk))) ?_ rfl
    first
      | refine Rg.build_cons (m := 20) (Rg.one_no 18 70 true (by rfl) (by rfl) (by rfl) (by rfl)) ?_ rfl
      | refine Rg.build_cons (m := 20) (r := Rg.eq _) (Rg.one_yes 18 70 true (by rfl) (by rfl) (by rfl) (by rfl) (by (intro ax wx hk K hK; have k9 := hk.base 9 _ rfl rfl; have hj := hk.j; clear hk; obtain ⟨⟨a0, a1, a2, a3, b0, b1, b2, b3⟩, hrd, -⟩ := hj; go_simp; refine hK _ _ ?_ (Below.refl _ _); apply Rg.mk))) ?_ rfl
    first
      | refine Rg.build_cons (m := 21) (Rg.one_no 18 70 true (by rfl) (by rfl) (by rfl) (by rfl)) ?_ rfl
      | refine Rg.build_cons (m := 21) (r := Rg.eq _) (Rg.one_yes 18 70 true (by rfl) (by rfl) (by rfl) (by rfl) (by (intro ax wx hk K hK; obtain ⟨v71, k71, h71⟩ := hk.dep 19 71 _ rfl rfl rfl; (first | (cases (h71 : v71 = _)) | skip); have hj := hk.j; clear hk; obtain ⟨⟨a0, a1, a2, a3, b0, b1, b2, b3⟩, hrd, -⟩ := hj; go_simp; refine (HN.out _).mono ?_; rintro e w' ⟨rfl, hb⟩; refine hK _ _ ?_ hb; apply Rg.mk))) ?_ rfl
    first
      | refine Rg.build_cons (m := 22) (Rg.one_no 18 70 true (by rfl) (by rfl) (by rfl) (by rfl)) ?_ rfl
      | refine Rg.build_cons (m := 22) (r := Rg.eq _) (Rg.one_yes 18 70 true (by rfl) (by rfl) (by rfl) (by rfl) (by (intro ax wx hk K hK; have k14 := hk.base 14 _ rfl rfl; have hj := hk.j; clear hk; obtain ⟨⟨a0, a1, a2, a3, b0, b1, b2, b3⟩, hrd, -⟩ := hj; go_simp; refine hK _ _ ?_ (Below.refl _ _); apply Rg.mk))) ?_ rfl
    first
      | refine Rg.build_cons (m := 23) (Rg.one_no 18 70 true (by rfl) (by rfl) (by rfl) (by rfl)) ?_ rfl
      | refine Rg.build_cons (m := 23) (r := Rg.eq _) (Rg.one_yes 18 70 true (by rfl) (by rfl) (by rfl) (by rfl) (by (intro ax wx hk K hK; obtain ⟨v73, k73, h73⟩ := hk.dep 21 73 _ rfl rfl rfl; (first | (cases (h73 : v73 = _)) | skip); have hj := hk.j; clear hk; obtain ⟨⟨a0, a1, a2, a3, b0, b1, b2, b3⟩, hrd, -⟩ := hj; go_simp; refine hK _ _ ?_ (Below.refl _ _); apply Rg.mk))) ?_ rfl
    first
      | refine Rg.build_cons (m := 24) (Rg.one_no 18 70 true (by rfl) (by rfl) (by rfl) (by rfl)) ?_ rfl
      | refine Rg.build_cons (m := 24) (r := Rg.eq _) (Rg.one_yes 18 70 true (by rfl) (by rfl) (by rfl) (by rfl) (by (intro ax wx hk K hK; obtain ⟨v72, k72, h72⟩ := hk.dep 20 72 _ rfl rfl rfl; (first | (cases (h72 : v72 = _)) | skip); obtain ⟨v74, k74, h74⟩ := hk.dep 22 74 _ rfl rfl rfl; (first | (cases (h74 : v74 = _)) | skip); have hj := hk.j; clear hk; obtain ⟨⟨a0, a1, a2, a3, b0, b1, b2, b3⟩, hrd, -⟩ := hj; go_simp; refine hK _ _ ?_ (Below.refl _ _); apply Rg.mk))) ?_ rfl
    refine Rg.build_cons (m := 25) (r := Rg.eq _) (Rg.one_plain (by rfl) (by (intro ax wx hk K hK; obtain ⟨v70, k70, h70⟩ := hk.dep 18 70 _ rfl rfl rfl; (first | (cases (h70 : v70 = _)) | skip); obtain ⟨v75, k75, h75⟩ := hk.dep 23 75 _ rfl rfl rfl; (first | (cases (h75 : v75 = _)) | skip); have hj := hk.j; clear hk; obtain ⟨⟨a0, a1, a2, a3, b0, b1, b2, b3⟩, hrd, -⟩ := hj; go_simp; refine hK _ _ ?_ (Below.refl _ _); apply Rg.mk))) ?_ rfl
    refine Rg.build_cons (m := 26) (r := Rg.eq _) (Rg.one_plain (by rfl) (by (intro ax wx hk K hK; obtain ⟨v76, k76, h76⟩ := hk.dep 24 76 _ rfl rfl rfl; (first | (cases (h76 : v76 = _)) | skip); have hj := hk.j; clear hk; obtain ⟨⟨a0, a1, a2, a3, b0, b1, b2, b3⟩, hrd, -⟩ := hj; go_simp; refine hK _ _ ?_ (Below.refl _ _); apply Rg.mk))) ?_ rfl
    refine Rg.build_end fun wx hj => ?_
    refine Rg.fin_eq rfl ?_
    refine Rg.fin_eq rfl ?_
    refine Rg.fin_eq rfl ?_
    refine Rg.fin_eq rfl ?_
    refine Rg.fin_eq rfl ?_
    refine Rg.fin_eq rfl ?_
    refine Rg.fin_eq rfl ?_
    refine Rg.fin_eq rfl ?_
    refine Rg.fin_eq rfl ?_
    refine Rg.fin_eq rfl ?_
    refine Rg.fin_eq rfl ?_
    refine Rg.fin_eq rfl ?_
    first | refine Rg.fin_eq rfl ?_ | refine Rg.fin_any rfl fun v64 h64 => ?_
    refine Rg.fin_eq rfl ?_
    refine Rg.fin_eq rfl ?_
    refine Rg.fin_eq rfl ?_
    refine Rg.fin_eq rfl ?_
    refine Rg.fin_eq rfl ?_
    refine Rg.fin_eq rfl ?_
    refine Rg.fin_eq rfl ?_
    refine Rg.fin_eq rfl ?_
    refine Rg.fin_eq rfl ?_
    refine Rg.fin_eq rfl ?_
    refine Rg.fin_eq rfl ?_
    refine Rg.fin_eq rfl ?_
    refine Rg.fin_eq rfl ?_
    refine Rg.fin_nil ?_
    simp only [List.set_cons_zero, List.set_cons_succ]
    have HB2 := hj.2.2.out
    clear hj z0 z1 z2 z3 z4 z5 z6 z7
    go_wp2_with fail
    go_returns
    exact ⟨rfl, HB2⟩
end Go.Proofs.Ytklpjlcphikfaaa
