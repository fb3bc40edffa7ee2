/- The walk of PacePlays. -/
import Derived.Test.YtklpjlcphikfaaaPaceDo
set_option linter.unusedVariables false
set_option linter.unusedSimpArgs false
namespace Go.Proofs.Ytklpjlcphikfaaa
open Go.RowKit
theorem fair_iff {L K Q R W : Int} {C : Bool} : fairB L K Q R W C = true ↔ (1 ≤ L ∧ L ≤ 32 ∧ 1 ≤ K ∧ K ≤ 1024 ∧ K ≤ Q ∧ Q ≤ 1024 ∧ 0 ≤ R ∧ R ≤ L ∧ 0 ≤ W ∧ (C = true → R = 0 ∧ W ≤ Q + L) ∧ (C = false → W ≤ Q)) := by unfold fairB; rw [decide_eq_true_iff]
/-- any deed of a fair pace -/
theorem do_any (g : Nat) (L K Q R W x n : Int) (C : Bool) (w : World) (hg : AtG w g 49 (pcC L K Q R W C)) (hf : fairB L K Q R W C = true) (hx1 : -9223372036854775808 ≤ x) (hx2 : x ≤ 9223372036854775807) (hn1 : -9223372036854775808 ≤ n) (hn2 : n ≤ 9223372036854775807) :
    Calls Try.prog 30 #[pcV L K Q R W C, .pointer (some ⟨g, 0, none⟩), .agg #[.int .i64 x, .int .i64 n]] w fun e w' =>
      ∃ R' W' C', e = .returned (.tuple #[pcV L K Q R' W' C', .int .i64 1]) ∧ fairB L K Q R' W' C' = true ∧ AtG w' g 49 (pcC L K Q R' W' C') ∧ w.grownBy w' (some g) := by
  have hf' := fair_iff.1 hf
  obtain ⟨a1, a2, a3, a4, a5, a6, a7, a8, a9, a10, a11⟩ := hf'
  rcases (by omega : x % 4 = 2 ∨ x % 4 = 3 ∨ (x % 4 = 0 ∨ x % 4 = 1)) with hx | hx | hx
  · have hW : W ≤ 100000 := by cases C <;> simp at a10 a11 <;> omega
    refine (do_tick g L K Q R W x n C w hg a3 a4 a9 hW hx hx1 hx2).mono fun e w' ⟨he, ha, hb⟩ => ⟨_, _, _, he, ?_, ha, hb⟩
    refine fair_iff.2 ⟨a1, a2, a3, a4, a5, a6, a7, a8, by omega, fun h => ?_, fun h => ?_⟩
    · have := a10 h; omega
    · have := a11 h; omega
  · cases C with
    | true =>
      refine (do_close g L K Q R W R W x n 9 true true (.iface 84 (.int .i64 9)) w hg hx hx1 hx2 (fun w => paceClose_shut L K Q R W w) (fun w h => refClose_shut g L K Q R W w h) (fun w => ?_)).mono fun e w' ⟨he, ha, hb⟩ => ⟨_, _, _, he, hf, ha, hb⟩
      exact code_some 9 w
    | false =>
      have hW := a11 rfl
      refine (do_close g L K Q R W 0 (W + R) x n 0 false true .nilIface w hg hx hx1 hx2 (fun w => paceClose_open L K Q R W w a7 (by omega) a9 (by omega)) (fun w h => refClose_open g L K Q R W w h a7 (by omega) a9 (by omega)) (fun w => code_nil w)).mono fun e w' ⟨he, ha, hb⟩ => ⟨_, _, _, he, ?_, ha, hb⟩
      exact fair_iff.2 ⟨a1, a2, a3, a4, a5, a6, by omega, by omega, by omega, fun h => ⟨rfl, by omega⟩, (fun h => by cases h)⟩
  · by_cases hn : n < 0
    · refine (do_write g L K Q R W R W x n 0 1 C (.iface 84 (.int .i64 1)) w hg hx hx1 hx2 (fun w => paceWrite_neg L K Q R W n C w hn) (fun w h => refWrite_neg g L K Q R W n C w h hn) (fun w => ?_)).mono fun e w' ⟨he, ha, hb⟩ => ⟨_, _, _, he, hf, ha, hb⟩
      exact code_some 1 w
    · cases C with
      | true =>
        refine (do_write g L K Q R W R W x n 0 9 true (.iface 84 (.int .i64 9)) w hg hx hx1 hx2 (fun w => paceWrite_shut L K Q R W n w (by omega)) (fun w h => refWrite_shut g L K Q R W n w h (by omega)) (fun w => ?_)).mono fun e w' ⟨he, ha, hb⟩ => ⟨_, _, _, he, hf, ha, hb⟩
        exact code_some 9 w
      | false =>
        have hW := a11 rfl
        refine (do_write g L K Q R W (R + min n (L - R)) (W + min (n - min n (L - R)) (Q - W)) x n (min n (L - R + (Q - W))) (wrBad n (L - R + (Q - W))) false (if n ≤ L - R + (Q - W) then .nilIface else .iface 84 (.int .i64 10)) w hg hx hx1 hx2
          (fun w => paceWrite_open L K Q R W n w a1 a2 a7 a8 a9 hW a6 (by omega) hn2) (fun w h => refWrite_open g L K Q R W n w h a1 a2 a7 a8 a9 hW a6 (by omega)) (fun w => ?_)).mono fun e w' ⟨he, ha, hb⟩ => ⟨_, _, _, he, ?_, ha, hb⟩
        · by_cases hc : n ≤ L - R + (Q - W)
          · rw [if_pos hc, show wrBad n (L - R + (Q - W)) = 0 from if_pos hc]; exact code_nil w
          · rw [if_neg hc, show wrBad n (L - R + (Q - W)) = 10 from if_neg hc]; exact code_some 10 w
        · exact fair_iff.2 ⟨a1, a2, a3, a4, a5, a6, by omega, by omega, by omega, (fun h => by cases h), fun h => by omega⟩
/-- six stores -/
def put6 (w : World) (g : Nat) (L K Q R W : Int) (C : Bool) : World := (((((w.setCell ⟨g, 0, none⟩ (.int .i64 L)).setCell ⟨g, 1, none⟩ (.int .i64 K)).setCell ⟨g, 2, none⟩ (.int .i64 Q)).setCell ⟨g, 3, none⟩ (.int .i64 R)).setCell ⟨g, 4, none⟩ (.int .i64 W)).setCell ⟨g, 5, none⟩ (.bool C)
theorem put6_at {w : World} {g T : Nat} {L K Q R W L' K' Q' R' W' : Int} {C C' : Bool} (h : AtG w g T (pcC L' K' Q' R' W' C')) : AtG (put6 w g L K Q R W C) g T (pcC L K Q R W C) := (((((h.set 0 _).set 1 _).set 2 _).set 3 _).set 4 _).set 5 _
theorem put6_far {w : World} {g f T : Nat} {cs : Array Value} {L K Q R W : Int} {C : Bool} (h : AtG w f T cs) (hne : f ≠ g) : AtG (put6 w g L K Q R W C) f T cs := (((((h.far (p := ⟨g, 0, none⟩) hne _).far (p := ⟨g, 1, none⟩) hne _).far (p := ⟨g, 2, none⟩) hne _).far (p := ⟨g, 3, none⟩) hne _).far (p := ⟨g, 4, none⟩) hne _).far (p := ⟨g, 5, none⟩) hne _
theorem put6_below {B : Nat} {a w : World} {g : Nat} {L K Q R W : Int} {C : Bool} (h : Below B a w) (hg : B ≤ g) : Below B a (put6 w g L K Q R W C) := (((((h.setCell (p := ⟨g, 0, none⟩) hg _).setCell (p := ⟨g, 1, none⟩) hg _).setCell (p := ⟨g, 2, none⟩) hg _).setCell (p := ⟨g, 3, none⟩) hg _).setCell (p := ⟨g, 4, none⟩) hg _).setCell (p := ⟨g, 5, none⟩) hg _
theorem put6_size {w : World} {g : Nat} {L K Q R W : Int} {C : Bool} : (put6 w g L K Q R W C).heap.size = w.heap.size := by simp [put6]
/-- A slice of deeds that is read. -/
def RdD (w : World) (v : Value) (ds : List (Int × Int)) : Prop :=
  (ds = [] ∧ ∃ a c, v = .slice a 0 c) ∨ ∃ b off cap, v = .slice (some ⟨b, off, none⟩) ds.length cap ∧ ds.length ≤ cap ∧ ds.length ≤ 140737488355328 ∧
    (∀ j, j < ds.length → w.cell? ⟨b, off + j * 2, none⟩ = some (.int .i64 (ds.getD j (0, 0)).1) ∧ w.cell? ⟨b, off + j * 2 + 1, none⟩ = some (.int .i64 (ds.getD j (0, 0)).2)) ∧
    (∀ j, -9223372036854775808 ≤ (ds.getD j (0, 0)).1 ∧ (ds.getD j (0, 0)).1 ≤ 9223372036854775807 ∧ -9223372036854775808 ≤ (ds.getD j (0, 0)).2 ∧ (ds.getD j (0, 0)).2 ≤ 9223372036854775807)
theorem rdD_slice {w : World} {v : Value} {ds : List (Int × Int)} (h : RdD w v ds) : ∃ A c, v = .slice A ds.length c ∧ ds.length ≤ 140737488355328 := by
  rcases h with ⟨rfl, a, c, rfl⟩ | ⟨b, off, cap, rfl, _, hm, _⟩
  · exact ⟨a, c, rfl, by simp⟩
  · exact ⟨_, cap, rfl, hm⟩
theorem rdD_below {W W1 : World} {v : Value} {ds : List (Int × Int)} (h : RdD W v ds) (hb : Below W.heap.size W W1) : RdD W1 v ds := by
  rcases h with h | ⟨b, off, cap, rfl, hcap, hmax, hc, hbd⟩
  · exact .inl h
  · exact .inr ⟨b, off, cap, rfl, hcap, hmax, fun j hj => ⟨(hb.cell (World.block_lt_of_cell? W _ (hc j hj).1)).trans (hc j hj).1, (hb.cell (World.block_lt_of_cell? W _ (hc j hj).2)).trans (hc j hj).2⟩, hbd⟩
set_option maxRecDepth 100000 in
set_option maxHeartbeats 4000000 in
theorem pacePlays_walk (L K Q R W : Int) (C : Bool) (v : Value) (ds : List (Int × Int)) (w : World) (h : RdD w v ds) :
    Calls Try.prog 8 #[pcV L K Q R W C, v] w fun e w' => e = .returned (.bool true) ∧ Below w.heap.size w w' := by
  obtain ⟨A, c, rfl, hm⟩ := rdD_slice h
  have H := Lib.hid h; clear h
  by_cases hl : 100 < ds.length
  · go_enter Try.func8, Try.ntmps8
    go_wp2_with fail
    refine (up13_any _).mono ?_; rintro e w1 ⟨rfl, hb1⟩
    go_wp2_with fail
    go_returns
    exact ⟨rfl, ((Below.refl _ _).alloc (Nat.le_refl _) _).trans (hb1.mono (by simp))⟩
  · cases hmay : fairB L K Q 0 0 false with
    | false =>
      have hno : L < 1 ∨ 32 < L ∨ K < 1 ∨ 1024 < Q ∨ Q < K := by
        unfold fairB at hmay; simp at hmay; omega
      have HNO := Lib.hid hno; have HMAY := Lib.hid hmay; clear hno hmay
      go_enter Try.func8, Try.ntmps8
      go_wp2_with fail
      refine (up13_any _).mono ?_; rintro e w1 ⟨rfl, hb1⟩
      have hP := (AtG.new w 42 (pcC L K Q R W C)).below hb1
      have hB := ((Below.refl w.heap.size w).alloc (Nat.le_refl _) (.cells (pcC L K Q R W C) 42)).trans (hb1.mono (by simp))
      have HP := Lib.hid hP; have HB := Lib.hid hB; clear hP hB hb1
      obtain ⟨p0, p1, p2, -⟩ := pc_cells HP.out
      go_wp2_with fail
      refine (paceNew_no L K Q _ HNO.out).mono ?_; rintro e w2 ⟨rfl, hb2⟩
      replace HP := Lib.hid (HP.out.below hb2); replace HB := Lib.hid (HB.out.trans (hb2.mono HB.out.size)); clear hb2 p0 p1 p2
      have HP3 := Lib.hid (HP.out.alloc (.cells (pcC 0 0 0 0 0 false) 42))
      have HQ := Lib.hid (AtG.new w2 42 (pcC 0 0 0 0 0 false))
      replace HB := Lib.hid (HB.out.alloc HB.out.size (.cells (pcC 0 0 0 0 0 false) 42))
      obtain ⟨p0, p1, p2, -⟩ := pc_cells HP3.out
      go_wp2_with fail
      refine (mayPace_any L K Q 0 0 false _).mono ?_; rw [HMAY.out]; rintro e w3 ⟨rfl, hb3⟩
      replace HQ := Lib.hid (HQ.out.below hb3); replace HB := Lib.hid (HB.out.trans (hb3.mono HB.out.size)); clear hb3 p0 p1 p2
      obtain ⟨q0, q1, q2, q3, q4, q5, -⟩ := pc_cells HQ.out
      go_wp2_with fail
      refine (code_some 1 _).mono ?_; rintro e w4 ⟨rfl, rfl⟩
      go_wp2_with fail
      refine (like_any 0 0 0 0 0 false _).mono ?_; rintro e w5 ⟨rfl, hb5⟩
      go_wp2_with fail
      go_returns
      exact ⟨rfl, HB.out.trans (hb5.mono HB.out.size)⟩
    | true =>
      have hyes := fair_iff.1 hmay
      obtain ⟨a1, a2, a3, a4, a5, a6, -⟩ := hyes
      have HMAY := Lib.hid hmay; clear hmay
      obtain ⟨fr, hfr⟩ : ∃ fr, fairB L K Q R W C = fr := ⟨_, rfl⟩
      have HFR := Lib.hid hfr; clear hfr
      go_enter Try.func8, Try.ntmps8
      go_wp2_with fail
      refine (up13_any _).mono ?_; rintro e w1 ⟨rfl, hb1⟩
      have hP := (AtG.new w 42 (pcC L K Q R W C)).below hb1
      have hB := ((Below.refl w.heap.size w).alloc (Nat.le_refl _) (.cells (pcC L K Q R W C) 42)).trans (hb1.mono (by simp))
      have HP := Lib.hid hP; have HB := Lib.hid hB; clear hP hB hb1
      obtain ⟨p0, p1, p2, -⟩ := pc_cells HP.out
      go_wp2_with fail
      refine (paceNew_yes L K Q _ a1 a2 a3 a6 a5).mono ?_; rintro e w2 ⟨rfl, hb2⟩
      replace HP := Lib.hid (HP.out.below hb2); replace HB := Lib.hid (HB.out.trans (hb2.mono HB.out.size)); clear hb2 p0 p1 p2
      have HP3 := Lib.hid (HP.out.alloc (.cells (pcC L K Q 0 0 false) 42))
      have HQ := Lib.hid (AtG.new w2 42 (pcC L K Q 0 0 false))
      have hz2 := HP.out.lt
      replace HB := Lib.hid (HB.out.alloc HB.out.size (.cells (pcC L K Q 0 0 false) 42))
      obtain ⟨p0, p1, p2, -⟩ := pc_cells HP3.out
      go_wp2_with fail
      refine (mayPace_any L K Q 0 0 false _).mono ?_; rw [HMAY.out]; rintro e w3 ⟨rfl, hb3⟩
      replace HQ := Lib.hid (HQ.out.below hb3); replace HB := Lib.hid (HB.out.trans (hb3.mono HB.out.size)); replace HP := Lib.hid (HP3.out.below hb3); clear hb3 p0 p1 p2 HP3
      go_wp2_with fail
      refine Rg.wp_region_each (by kernel_rfl) (fun w' => AtG w' w2.heap.size 42 (pcC L K Q 0 0 false) ∧ AtG w' w.heap.size 42 (pcC L K Q R W C) ∧ Below w.heap.size w w') (fun w2 w3 h hb => ⟨h.1.below hb, h.2.1.below hb, h.2.2.trans (hb.mono h.2.2.size)⟩) (by kernel_rfl) (by kernel_rfl) (⟨HQ.out, HP.out, HB.out⟩) ?_
      show Rg.Build _ _ _ _ _ 0 [_, _, _, _, _, _, _, _, _, _, _, _, _, _] []
      refine Rg.build_cons (m := 1) (r := Rg.eq _) (Rg.one_plain (by rfl) (by (intro ax wx hk Kx hK; have k7 := hk.base 7 _ rfl rfl; have hj := hk.j; clear hk; obtain ⟨hq, hp, -⟩ := hj; obtain ⟨hqc, hqf, hql⟩ := hq.rules; obtain ⟨hpc, hpf, hpl⟩ := hp.rules; clear hq hp; go_simp; refine hK _ _ ?_ (Below.refl _ _); apply Rg.mk))) ?_ rfl
      refine Rg.build_cons (m := 2) (r := Rg.eq _) (Rg.one_plain (by rfl) (by (intro ax wx hk Kx hK; obtain ⟨v50, k50, h50⟩ := hk.dep 0 50 _ rfl rfl rfl; (first | (cases (h50 : v50 = _)) | (obtain ⟨rfl, h50⟩ := h50) | skip); have hj := hk.j; clear hk; obtain ⟨hq, hp, -⟩ := hj; obtain ⟨hqc, hqf, hql⟩ := hq.rules; obtain ⟨hpc, hpf, hpl⟩ := hp.rules; clear hq hp; go_simp; refine hK _ _ ?_ (Below.refl _ _); apply Rg.mk))) ?_ rfl
      refine Rg.build_cons (m := 3) (r := Rg.eq _) (Rg.one_plain (by rfl) (by (intro ax wx hk Kx hK; obtain ⟨v51, k51, h51⟩ := hk.dep 1 51 _ rfl rfl rfl; (first | (cases (h51 : v51 = _)) | (obtain ⟨rfl, h51⟩ := h51) | skip); have hj := hk.j; clear hk; obtain ⟨hq, hp, -⟩ := hj; obtain ⟨hqc, hqf, hql⟩ := hq.rules; obtain ⟨hpc, hpf, hpl⟩ := hp.rules; clear hq hp; go_simp; refine hK _ _ ?_ (Below.refl _ _); apply Rg.mk))) ?_ rfl
      first
        | refine Rg.build_cons (m := 4) (Rg.one_no 2 52 false (by rfl) (by rfl) (by rfl) (by rfl)) ?_ rfl
        | refine Rg.build_cons (m := 4) (r := Rg.eq _) (Rg.one_yes 2 52 false (by rfl) (by rfl) (by rfl) (by rfl) (by (intro ax wx hk Kx hK; have k6 := hk.base 6 _ rfl rfl; have hj := hk.j; clear hk; obtain ⟨hq, hp, -⟩ := hj; obtain ⟨hqc, hqf, hql⟩ := hq.rules; obtain ⟨hpc, hpf, hpl⟩ := hp.rules; clear hq hp; go_simp; refine hK _ _ ?_ (Below.refl _ _); apply Rg.mk))) ?_ rfl
      first
        | refine Rg.build_cons (m := 5) (Rg.one_no 2 52 false (by rfl) (by rfl) (by rfl) (by rfl)) ?_ rfl
        | refine Rg.build_cons (m := 5) (r := Rg.eq _) (Rg.one_yes 2 52 false (by rfl) (by rfl) (by rfl) (by rfl) (by (intro ax wx hk Kx hK; obtain ⟨v53, k53, h53⟩ := hk.dep 3 53 _ rfl rfl rfl; (first | (cases (h53 : v53 = _)) | (obtain ⟨rfl, h53⟩ := h53) | skip); have hj := hk.j; clear hk; obtain ⟨hq, hp, -⟩ := hj; obtain ⟨hqc, hqf, hql⟩ := hq.rules; obtain ⟨hpc, hpf, hpl⟩ := hp.rules; clear hq hp; go_simp; refine (like_any L K Q 0 0 false _).mono ?_; rintro e w' ⟨rfl, hb⟩; refine hK _ _ ?_ hb; apply Rg.mk))) ?_ rfl
      first
        | refine Rg.build_cons (m := 6) (Rg.one_no 2 52 false (by rfl) (by rfl) (by rfl) (by rfl)) ?_ rfl
        | refine Rg.build_cons (m := 6) (r := Rg.eq _) (Rg.one_yes 2 52 false (by rfl) (by rfl) (by rfl) (by rfl) (by (intro ax wx hk Kx hK; have k2 := hk.base 2 _ rfl rfl; have hj := hk.j; clear hk; obtain ⟨hq, hp, -⟩ := hj; obtain ⟨hqc, hqf, hql⟩ := hq.rules; obtain ⟨hpc, hpf, hpl⟩ := hp.rules; clear hq hp; go_simp; refine hK _ _ ?_ (Below.refl _ _); apply Rg.mk))) ?_ rfl
      first
        | refine Rg.build_cons (m := 7) (Rg.one_no 2 52 false (by rfl) (by rfl) (by rfl) (by rfl)) ?_ rfl
        | refine Rg.build_cons (m := 7) (r := Rg.eq _) (Rg.one_yes 2 52 false (by rfl) (by rfl) (by rfl) (by rfl) (by (intro ax wx hk Kx hK; obtain ⟨v55, k55, h55⟩ := hk.dep 5 55 _ rfl rfl rfl; (first | (cases (h55 : v55 = _)) | (obtain ⟨rfl, h55⟩ := h55) | skip); have hj := hk.j; clear hk; obtain ⟨hq, hp, -⟩ := hj; obtain ⟨hqc, hqf, hql⟩ := hq.rules; obtain ⟨hpc, hpf, hpl⟩ := hp.rules; clear hq hp; go_simp; refine hK _ _ ?_ (Below.refl _ _); apply Rg.mk))) ?_ rfl
      first
        | refine Rg.build_cons (m := 8) (Rg.one_no 2 52 false (by rfl) (by rfl) (by rfl) (by rfl)) ?_ rfl
        | refine Rg.build_cons (m := 8) (r := Rg.eq _) (Rg.one_yes 2 52 false (by rfl) (by rfl) (by rfl) (by rfl) (by (intro ax wx hk Kx hK; have k2 := hk.base 2 _ rfl rfl; have hj := hk.j; clear hk; obtain ⟨hq, hp, -⟩ := hj; obtain ⟨hqc, hqf, hql⟩ := hq.rules; obtain ⟨hpc, hpf, hpl⟩ := hp.rules; clear hq hp; go_simp; refine hK _ _ ?_ (Below.refl _ _); apply Rg.mk))) ?_ rfl
      first
        | refine Rg.build_cons (m := 9) (Rg.one_no 2 52 false (by rfl) (by rfl) (by rfl) (by rfl)) ?_ rfl
        | refine Rg.build_cons (m := 9) (r := Rg.eq _) (Rg.one_yes 2 52 false (by rfl) (by rfl) (by rfl) (by rfl) (by (intro ax wx hk Kx hK; obtain ⟨v57, k57, h57⟩ := hk.dep 7 57 _ rfl rfl rfl; (first | (cases (h57 : v57 = _)) | (obtain ⟨rfl, h57⟩ := h57) | skip); have hj := hk.j; clear hk; obtain ⟨hq, hp, -⟩ := hj; obtain ⟨hqc, hqf, hql⟩ := hq.rules; obtain ⟨hpc, hpf, hpl⟩ := hp.rules; clear hq hp; go_simp; refine hK _ _ ?_ (Below.refl _ _); apply Rg.mk))) ?_ rfl
      first
        | refine Rg.build_cons (m := 10) (Rg.one_no 2 52 false (by rfl) (by rfl) (by rfl) (by rfl)) ?_ rfl
        | refine Rg.build_cons (m := 10) (r := Rg.eq _) (Rg.one_yes 2 52 false (by rfl) (by rfl) (by rfl) (by rfl) (by (intro ax wx hk Kx hK; have k2 := hk.base 2 _ rfl rfl; have hj := hk.j; clear hk; obtain ⟨hq, hp, -⟩ := hj; obtain ⟨hqc, hqf, hql⟩ := hq.rules; obtain ⟨hpc, hpf, hpl⟩ := hp.rules; clear hq hp; go_simp; refine hK _ _ ?_ (Below.refl _ _); apply Rg.mk))) ?_ rfl
      first
        | refine Rg.build_cons (m := 11) (Rg.one_no 2 52 false (by rfl) (by rfl) (by rfl) (by rfl)) ?_ rfl
        | refine Rg.build_cons (m := 11) (r := Rg.eq _) (Rg.one_yes 2 52 false (by rfl) (by rfl) (by rfl) (by rfl) (by (intro ax wx hk Kx hK; obtain ⟨v59, k59, h59⟩ := hk.dep 9 59 _ rfl rfl rfl; (first | (cases (h59 : v59 = _)) | (obtain ⟨rfl, h59⟩ := h59) | skip); have hj := hk.j; clear hk; obtain ⟨hq, hp, -⟩ := hj; obtain ⟨hqc, hqf, hql⟩ := hq.rules; obtain ⟨hpc, hpf, hpl⟩ := hp.rules; clear hq hp; go_simp; refine hK _ _ ?_ (Below.refl _ _); apply Rg.mk))) ?_ rfl
      first
        | refine Rg.build_cons (m := 12) (Rg.one_no 2 52 false (by rfl) (by rfl) (by rfl) (by rfl)) ?_ rfl
        | refine Rg.build_cons (m := 12) (r := Rg.eq _) (Rg.one_yes 2 52 false (by rfl) (by rfl) (by rfl) (by rfl) (by (intro ax wx hk Kx hK; obtain ⟨v56, k56, h56⟩ := hk.dep 6 56 _ rfl rfl rfl; (first | (cases (h56 : v56 = _)) | (obtain ⟨rfl, h56⟩ := h56) | skip); obtain ⟨v58, k58, h58⟩ := hk.dep 8 58 _ rfl rfl rfl; (first | (cases (h58 : v58 = _)) | (obtain ⟨rfl, h58⟩ := h58) | skip); obtain ⟨v60, k60, h60⟩ := hk.dep 10 60 _ rfl rfl rfl; (first | (cases (h60 : v60 = _)) | (obtain ⟨rfl, h60⟩ := h60) | skip); have hj := hk.j; clear hk; obtain ⟨hq, hp, -⟩ := hj; obtain ⟨hqc, hqf, hql⟩ := hq.rules; obtain ⟨hpc, hpf, hpl⟩ := hp.rules; clear hq hp; go_simp; refine hK _ _ ?_ (Below.refl _ _); apply Rg.mk))) ?_ rfl
      first
        | refine Rg.build_cons (m := 13) (Rg.one_no 2 52 false (by rfl) (by rfl) (by rfl) (by rfl)) ?_ rfl
        | refine Rg.build_cons (m := 13) (r := Rg.eq _) (Rg.one_yes 2 52 false (by rfl) (by rfl) (by rfl) (by rfl) (by (intro ax wx hk Kx hK; obtain ⟨v54, k54, h54⟩ := hk.dep 4 54 _ rfl rfl rfl; (first | (cases (h54 : v54 = _)) | (obtain ⟨rfl, h54⟩ := h54) | skip); obtain ⟨v61, k61, h61⟩ := hk.dep 11 61 _ rfl rfl rfl; (first | (cases (h61 : v61 = _)) | (obtain ⟨rfl, h61⟩ := h61) | skip); have hj := hk.j; clear hk; obtain ⟨hq, hp, -⟩ := hj; obtain ⟨hqc, hqf, hql⟩ := hq.rules; obtain ⟨hpc, hpf, hpl⟩ := hp.rules; clear hq hp; go_simp; refine hK _ _ ?_ (Below.refl _ _); apply Rg.mk))) ?_ rfl
      refine Rg.build_cons (m := 14) (r := Rg.eq _) (Rg.one_plain (by rfl) (by (intro ax wx hk Kx hK; obtain ⟨v52, k52, h52⟩ := hk.dep 2 52 _ rfl rfl rfl; (first | (cases (h52 : v52 = _)) | (obtain ⟨rfl, h52⟩ := h52) | skip); obtain ⟨v62, k62, h62⟩ := hk.dep 12 62 _ rfl rfl rfl; (first | (cases (h62 : v62 = _)) | (obtain ⟨rfl, h62⟩ := h62) | skip); have hj := hk.j; clear hk; obtain ⟨hq, hp, -⟩ := hj; obtain ⟨hqc, hqf, hql⟩ := hq.rules; obtain ⟨hpc, hpf, hpl⟩ := hp.rules; clear hq hp; go_simp; refine hK _ _ ?_ (Below.refl _ _); apply Rg.mk))) ?_ rfl
      refine Rg.build_end fun wx hj => ?_
      refine Rg.fin_eq rfl ?_
      refine Rg.fin_eq rfl ?_
      refine Rg.fin_eq rfl ?_
      refine Rg.fin_eq rfl ?_
      refine Rg.fin_eq rfl ?_
      refine Rg.fin_eq rfl ?_
      refine Rg.fin_eq rfl ?_
      refine Rg.fin_eq rfl ?_
      refine Rg.fin_eq rfl ?_
      refine Rg.fin_eq rfl ?_
      refine Rg.fin_eq rfl ?_
      refine Rg.fin_eq rfl ?_
      refine Rg.fin_eq rfl ?_
      refine Rg.fin_eq rfl ?_
      refine Rg.fin_nil ?_
      simp only [List.set_cons_zero, List.set_cons_succ]
      obtain ⟨hq, hp, hB⟩ := hj
      replace HQ := Lib.hid hq; replace HP := Lib.hid hp; replace HB := Lib.hid hB; clear hq hp hB
      obtain ⟨p0, p1, p2, p3, p4, p5, -⟩ := pc_cells HP.out
      go_wp2_with fail
      refine (like_any L K Q R W C _).mono ?_; rintro e w5 ⟨rfl, hb5⟩
      replace HQ := Lib.hid (HQ.out.below hb5); replace HB := Lib.hid (HB.out.trans (hb5.mono HB.out.size)); replace HP := Lib.hid (HP.out.below hb5); clear hb5 p0 p1 p2 p3 p4 p5
      go_wp2_with fail
      refine (mayPace_any L K Q R W C _).mono ?_; rw [HFR.out]; rintro e w6 ⟨rfl, hb6⟩
      replace HQ := Lib.hid (HQ.out.below hb6); replace HB := Lib.hid (HB.out.trans (hb6.mono HB.out.size)); replace HP := Lib.hid (HP.out.below hb6); clear hb6
      obtain ⟨p0, p1, p2, p3, p4, p5, -⟩ := pc_cells HP.out
      obtain ⟨q0, q1, q2, q3, q4, q5, qf⟩ := pc_cells HQ.out
      have hq2 := HQ.out.lt
      have hne : w2.heap.size ≠ w.heap.size := by omega
      cases fr
      · go_wp2_with fail
        refine (like_any _ _ _ _ _ _ _).mono ?_; rintro e w7 ⟨rfl, hb7⟩
        have HF7 := Lib.hid HMAY.out
        have HQ7 := Lib.hid (HQ.out.below hb7)
        have HB7 := Lib.hid (HB.out.trans (hb7.mono HB.out.size))
        have hs7 : w2.heap.size < w7.heap.size := HQ7.out.lt
        clear hb7 p0 p1 p2 p3 p4 p5 q0 q1 q2 q3 q4 q5 qf HQ HB HP
        go_wp2_with fail
        go_loopw [11, 12] (fun o i wr => ∃ (k : Nat) (R1 W1 : Int) (C1 : Bool), k ≤ ds.length ∧ i = .int .i64 k ∧ o = .int .i64 1 ∧ fairB L K Q R1 W1 C1 = true ∧ AtG wr w2.heap.size 42 (pcC L K Q R1 W1 C1) ∧ AtG wr w7.heap.size 49 (pcC L K Q R1 W1 C1) ∧ Below w.heap.size w wr) (fun _ i _ => ds.length - (intOf i).toNat)
        case atStart => exact ⟨0, _, _, _, by omega, rfl, rfl, HF7.out, HQ7.out.alloc _, AtG.new _ _ _, HB7.out.alloc HB7.out.size _⟩
        case round =>
          obtain ⟨k, R1, W1, C1, hk, rfl, rfl, hf1, hq1, hm1, hb1⟩ := hrel
          have HF1 := Lib.hid hf1; have HQ1 := Lib.hid hq1; have HM1 := Lib.hid hm1; have HB1 := Lib.hid hb1; clear hf1 hq1 hm1 hb1
          by_cases hlt : k < ds.length
          · rcases H.out with ⟨h0, _⟩ | ⟨b, off, cap, hv, hcap, _, hc, hbd⟩
            · subst h0; simp at hlt
            · obtain ⟨rfl, -, rfl⟩ := Value.slice.inj hv
              obtain ⟨hc1, hc2⟩ := hc k hlt
              obtain ⟨b1, b2, b3, b4⟩ := hbd k
              have hbl := World.block_lt_of_cell? w _ hc1
              have e1 := (HB1.out.cell (p := ⟨b, off + k * 2, none⟩) hbl).trans hc1
              have e2 := (HB1.out.cell (p := ⟨b, off + k * 2 + 1, none⟩) hbl).trans hc2
              clear hc1 hc2 hc hbd hv
              generalize ds.getD k (0, 0) = d at *
              obtain ⟨x, n⟩ := d
              simp only at e1 e2 b1 b2 b3 b4
              obtain ⟨q0, q1, q2, q3, q4, q5, qf⟩ := pc_cells HQ1.out
              go_wp2_with fail
              have hbz : w.heap.size ≤ wr.heap.size := HB1.out.size
              have hbw : w.heap.size ≤ w7.heap.size := HB7.out.size
              have hne7 : w2.heap.size ≠ w7.heap.size := by omega
              go_region_with (first
                | (go_at_call 30; refine (do_any _ L K Q R1 W1 x n C1 _ HM1.out.drew HF1.out b1 b2 b3 b4).mono ?_; rintro e w8 ⟨R2, W2, C2, rfl, hf2, hm2, hg2⟩; have HF2 := Lib.hid hf2; have HM2 := Lib.hid hm2; have HQ2 := Lib.hid (HQ1.out.drew.gb hg2 (by omega)); have HB2 := Lib.hid (HB1.out.drew.grown hg2 hbz (fun k hk => by cases hk; exact hbw)); clear hf2 hm2 hg2 q0 q1 q2 q3 q4 q5 qf e1 e2; obtain ⟨m0, m1, m2, m3, m4, m5, -⟩ := pc_cells HM2.out; obtain ⟨q0, q1, q2, q3, q4, q5, qf⟩ := pc_cells HQ2.out))
              all_goals
                go_wp2_with fail
                refine (mayPace_any _ _ _ _ _ _ _).mono ?_; rw [HF2.out]; rintro e w9 ⟨rfl, hb9⟩
                have hb9' : Below (put6 w8 w2.heap.size L K Q R2 W2 C2).heap.size (put6 w8 w2.heap.size L K Q R2 W2 C2) w9 := hb9
                have HQ9 := Lib.hid ((put6_at (L := L) (K := K) (Q := Q) (R := R2) (W := W2) (C := C2) HQ2.out).below hb9')
                have HM9 := Lib.hid ((put6_far (L := L) (K := K) (Q := Q) (R := R2) (W := W2) (C := C2) (g := w2.heap.size) HM2.out (Ne.symm hne7)).below hb9')
                have HB9 := Lib.hid ((put6_below (L := L) (K := K) (Q := Q) (R := R2) (W := W2) (C := C2) (g := w2.heap.size) HB2.out (by omega)).trans (hb9'.mono (by rw [put6_size]; exact HB2.out.size)))
                clear hb9 hb9' q0 q1 q2 q3 q4 q5 qf m0 m1 m2 m3 m4 m5
                go_wp2_with fail
                exact ⟨⟨k + 1, R2, W2, C2, by omega, by go_num, rfl, HF2.out, HQ9.out, HM9.out, HB9.out⟩, by simp [intOf]; omega⟩
          · go_wp2_with fail
            go_returns
            exact ⟨rfl, HB1.out⟩
      · go_wp2_with fail
        refine (like_any _ _ _ _ _ _ _).mono ?_; rintro e w7 ⟨rfl, hb7⟩
        have HF7 := Lib.hid HFR.out
        have HQ7 := Lib.hid (((((((HQ.out.set 0 (.int .i64 L)).set 1 (.int .i64 K)).set 2 (.int .i64 Q)).set 3 (.int .i64 R)).set 4 (.int .i64 W)).set 5 (.bool C)).below hb7)
        have HB7 := Lib.hid (((((((HB.out.setCell (p := ⟨w2.heap.size, 0, none⟩) (by simp; omega) (.int .i64 L)).setCell (p := ⟨w2.heap.size, 1, none⟩) (by simp; omega) (.int .i64 K)).setCell (p := ⟨w2.heap.size, 2, none⟩) (by simp; omega) (.int .i64 Q)).setCell (p := ⟨w2.heap.size, 3, none⟩) (by simp; omega) (.int .i64 R)).setCell (p := ⟨w2.heap.size, 4, none⟩) (by simp; omega) (.int .i64 W)).setCell (p := ⟨w2.heap.size, 5, none⟩) (by simp; omega) (.bool C)).trans (hb7.mono (by have := HB.out.size; simp; omega)))
        have hs7 : w2.heap.size < w7.heap.size := HQ7.out.lt
        clear hb7 p0 p1 p2 p3 p4 p5 q0 q1 q2 q3 q4 q5 qf HQ HB HP
        go_wp2_with fail
        go_loopw [11, 12] (fun o i wr => ∃ (k : Nat) (R1 W1 : Int) (C1 : Bool), k ≤ ds.length ∧ i = .int .i64 k ∧ o = .int .i64 1 ∧ fairB L K Q R1 W1 C1 = true ∧ AtG wr w2.heap.size 42 (pcC L K Q R1 W1 C1) ∧ AtG wr w7.heap.size 49 (pcC L K Q R1 W1 C1) ∧ Below w.heap.size w wr) (fun _ i _ => ds.length - (intOf i).toNat)
        case atStart => exact ⟨0, _, _, _, by omega, rfl, rfl, HF7.out, HQ7.out.alloc _, AtG.new _ _ _, HB7.out.alloc HB7.out.size _⟩
        case round =>
          obtain ⟨k, R1, W1, C1, hk, rfl, rfl, hf1, hq1, hm1, hb1⟩ := hrel
          have HF1 := Lib.hid hf1; have HQ1 := Lib.hid hq1; have HM1 := Lib.hid hm1; have HB1 := Lib.hid hb1; clear hf1 hq1 hm1 hb1
          by_cases hlt : k < ds.length
          · rcases H.out with ⟨h0, _⟩ | ⟨b, off, cap, hv, hcap, _, hc, hbd⟩
            · subst h0; simp at hlt
            · obtain ⟨rfl, -, rfl⟩ := Value.slice.inj hv
              obtain ⟨hc1, hc2⟩ := hc k hlt
              obtain ⟨b1, b2, b3, b4⟩ := hbd k
              have hbl := World.block_lt_of_cell? w _ hc1
              have e1 := (HB1.out.cell (p := ⟨b, off + k * 2, none⟩) hbl).trans hc1
              have e2 := (HB1.out.cell (p := ⟨b, off + k * 2 + 1, none⟩) hbl).trans hc2
              clear hc1 hc2 hc hbd hv
              generalize ds.getD k (0, 0) = d at *
              obtain ⟨x, n⟩ := d
              simp only at e1 e2 b1 b2 b3 b4
              obtain ⟨q0, q1, q2, q3, q4, q5, qf⟩ := pc_cells HQ1.out
              go_wp2_with fail
              have hbz : w.heap.size ≤ wr.heap.size := HB1.out.size
              have hbw : w.heap.size ≤ w7.heap.size := HB7.out.size
              have hne7 : w2.heap.size ≠ w7.heap.size := by omega
              go_region_with (first
                | (go_at_call 30; refine (do_any _ L K Q R1 W1 x n C1 _ HM1.out.drew HF1.out b1 b2 b3 b4).mono ?_; rintro e w8 ⟨R2, W2, C2, rfl, hf2, hm2, hg2⟩; have HF2 := Lib.hid hf2; have HM2 := Lib.hid hm2; have HQ2 := Lib.hid (HQ1.out.drew.gb hg2 (by omega)); have HB2 := Lib.hid (HB1.out.drew.grown hg2 hbz (fun k hk => by cases hk; exact hbw)); clear hf2 hm2 hg2 q0 q1 q2 q3 q4 q5 qf e1 e2; obtain ⟨m0, m1, m2, m3, m4, m5, -⟩ := pc_cells HM2.out; obtain ⟨q0, q1, q2, q3, q4, q5, qf⟩ := pc_cells HQ2.out))
              all_goals
                go_wp2_with fail
                refine (mayPace_any _ _ _ _ _ _ _).mono ?_; rw [HF2.out]; rintro e w9 ⟨rfl, hb9⟩
                have hb9' : Below (put6 w8 w2.heap.size L K Q R2 W2 C2).heap.size (put6 w8 w2.heap.size L K Q R2 W2 C2) w9 := hb9
                have HQ9 := Lib.hid ((put6_at (L := L) (K := K) (Q := Q) (R := R2) (W := W2) (C := C2) HQ2.out).below hb9')
                have HM9 := Lib.hid ((put6_far (L := L) (K := K) (Q := Q) (R := R2) (W := W2) (C := C2) (g := w2.heap.size) HM2.out (Ne.symm hne7)).below hb9')
                have HB9 := Lib.hid ((put6_below (L := L) (K := K) (Q := Q) (R := R2) (W := W2) (C := C2) (g := w2.heap.size) HB2.out (by omega)).trans (hb9'.mono (by rw [put6_size]; exact HB2.out.size)))
                clear hb9 hb9' q0 q1 q2 q3 q4 q5 qf m0 m1 m2 m3 m4 m5
                go_wp2_with fail
                exact ⟨⟨k + 1, R2, W2, C2, by omega, by go_num, rfl, HF2.out, HQ9.out, HM9.out, HB9.out⟩, by simp [intOf]; omega⟩
          · go_wp2_with fail
            go_returns
            exact ⟨rfl, HB1.out⟩
end Go.Proofs.Ytklpjlcphikfaaa
