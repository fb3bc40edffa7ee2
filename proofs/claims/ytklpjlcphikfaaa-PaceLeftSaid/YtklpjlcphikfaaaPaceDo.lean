/- The walks of Do, a deed of a pace and its model. -/
import Derived.Test.YtklpjlcphikfaaaPaceRef
import Derived.Test.YtklpjlcphikfaaaRegS
set_option linter.unusedVariables false
set_option linter.unusedSimpArgs false
namespace Go.Proofs.Ytklpjlcphikfaaa
open Go.RowKit
theorem pc_cells {w : World} {g T : Nat} {L K Q R W : Int} {C : Bool} (h : AtG w g T (pcC L K Q R W C)) : w.cell? ⟨g, 0, none⟩ = some (.int .i64 L) ∧ w.cell? ⟨g, 1, none⟩ = some (.int .i64 K) ∧ w.cell? ⟨g, 2, none⟩ = some (.int .i64 Q) ∧ w.cell? ⟨g, 3, none⟩ = some (.int .i64 R) ∧ w.cell? ⟨g, 4, none⟩ = some (.int .i64 W) ∧ w.cell? ⟨g, 5, none⟩ = some (.bool C) ∧ ∀ i, w.frozen? ⟨g, i, none⟩ = false :=
  ⟨h.cell 0 _ rfl, h.cell 1 _ rfl, h.cell 2 _ rfl, h.cell 3 _ rfl, h.cell 4 _ rfl, h.cell 5 _ rfl, fun i => h.frozen i⟩
set_option maxRecDepth 100000 in
set_option maxHeartbeats 4000000 in
theorem do_tick (g : Nat) (L K Q R W x n : Int) (C : Bool) (w : World) (hg : AtG w g 49 (pcC L K Q R W C)) (h1 : 1 ≤ K) (h2 : K ≤ 1024) (h3 : 0 ≤ W) (h4 : W ≤ 100000) (hx : x % 4 = 2) (hx1 : -9223372036854775808 ≤ x) (hx2 : x ≤ 9223372036854775807) :
    Calls Try.prog 30 #[pcV L K Q R W C, .pointer (some ⟨g, 0, none⟩), .agg #[.int .i64 x, .int .i64 n]] w fun e w' =>
      e = .returned (.tuple #[pcV L K Q R (W - min K W) C, .int .i64 1]) ∧ AtG w' g 49 (pcC L K Q R (W - min K W) C) ∧ w.grownBy w' (some g) := by
  have hgl := hg.lt
  have HG := Lib.hid hg; clear hg
  have HX := Lib.hid hx; clear hx
  go_enter Try.func30, Try.ntmps30
  go_wp2_with fail
  go_call pick_any as e w1 ⟨rfl, rfl⟩
  rw [HX.out]
  go_wp2_with fail
  have hA : AtG (((w.alloc (.cells #[.int .i64 L, .int .i64 K, .int .i64 Q, .int .i64 R, .int .i64 W, .bool C] 42)).alloc (.cells #[.int .i64 x, .int .i64 n] 56)).alloc (.cells #[.int .i64 0, .int .i64 0, .int .i64 0, .int .i64 0, .int .i64 0, .bool false] 42)) g 49 (pcC L K Q R W C) := ((HG.out.alloc _).alloc _).alloc _
  have HA := Lib.hid hA; clear hA
  go_call paceTick_any as e w1 ⟨rfl, hb1⟩
  have HA1 := Lib.hid (HA.out.below hb1)
  have hR0 : AtG w1 (w.heap.size + 1 + 1) 42 (pcC 0 0 0 0 0 false) := by
    have := (AtG.new ((w.alloc (.cells #[.int .i64 L, .int .i64 K, .int .i64 Q, .int .i64 R, .int .i64 W, .bool C] 42)).alloc (.cells #[.int .i64 x, .int .i64 n] 56)) 42 (pcC 0 0 0 0 0 false)).below hb1
    simpa using this
  have HR0 := Lib.hid hR0; clear hR0
  have hsz : w.heap.size + 1 + 1 < w1.heap.size := HR0.out.lt
  have HB := Lib.hid (gb_below (gb_alloc (gb_alloc (gb_alloc (gb_refl w (some g)) _) _) _) hb1); clear hb1
  generalize hm : min K W = m
  have HM := Lib.hid hm; clear hm
  go_wp2_with fail
  have HQ := Lib.hid (AtG.new w1 42 (pcC L K Q R (W - m) C))
  refine RgS.wp_region_each (by kernel_rfl) 2 (fun w' => AtG w' w1.heap.size 42 (pcC L K Q R (W - m) C) ∧ AtG w' (w.heap.size + 1 + 1) 42 (pcC 0 0 0 0 0 false) ∧ w.grownBy w' (some g)) (fun w' => AtG w' g 49 (pcC L K Q R W C)) (fun w' w2 => w'.grownBy w2 (some g)) (fun w2 w3 h hb => ⟨h.1.below hb, h.2.1.below hb, gb_below h.2.2 hb⟩) (fun w2 w3 h hb => ⟨h.1.gb hb (by omega), h.2.1.gb hb (by omega), World.grownBy.trans h.2.2 hb⟩) (fun w2 w3 h hb => h.below hb) (by kernel_rfl) (by kernel_rfl) (⟨HQ.out, HR0.out.alloc _, gb_alloc HB.out _⟩) (HA1.out.alloc _) ?_
  show RgS.Build _ _ _ _ _ _ _ _ 0 [_, _, _, _, _, _, _, _, _, _, _, _] []
  refine RgS.build_cons (m := 1) (r := Rg.eq _) (RgS.one_plain (by rfl) (by rfl) (by (intro ax wx hk Kx hK; have k9 := hk.base 9 _ rfl rfl; have hj := hk.j; clear hk; obtain ⟨hq, -, -⟩ := hj; obtain ⟨hqc, hqf, hql⟩ := hq.rules; clear hq; go_simp; refine hK _ _ ?_ (Below.refl _ _); apply Rg.mk))) ?_ rfl (fun _ _ _ _ h _ => h)
  refine RgS.build_cons (m := 2) (r := Rg.eq _) (RgS.one_plain (by rfl) (by rfl) (by (intro ax wx hk Kx hK; have k1 := hk.base 1 _ rfl rfl; have hj := hk.j; clear hk; obtain ⟨hq, -, -⟩ := hj; obtain ⟨hqc, hqf, hql⟩ := hq.rules; clear hq; go_simp; refine hK _ _ ?_ (Below.refl _ _); apply Rg.mk))) ?_ rfl (fun _ _ _ _ h _ => h)
  refine RgS.build_cons (m := 3) (r := (⟨fun v w' => v = .int .i64 m ∧ AtG w' g 49 (pcC L K Q R (W - m) C), fun v w2 w3 h hb => ⟨h.1, h.2.below hb⟩⟩ : Rg.Rl)) (RgS.one_spec (by rfl) (by rfl) (by (intro ax wx hk hp Kx hK; obtain ⟨v28, k28, h28⟩ := hk.dep 1 28 _ rfl rfl rfl; (first | (cases (h28 : v28 = _)) | (obtain ⟨rfl, h28⟩ := h28) | skip); have hj := hk.j; clear hk; obtain ⟨hq, -, -⟩ := hj; obtain ⟨hqc, hqf, hql⟩ := hq.rules; clear hq; go_simp; refine (refTick_any g L K Q R W C _ hp h1 h2 h3 h4).mono ?_; rw [HM.out]; rintro e w' ⟨rfl, hat, hg2⟩; exact hK _ _ ⟨rfl, hat⟩ hg2))) ?_ rfl (fun h => by cases h)
  refine RgS.build_cons (m := 4) (r := Rg.eq _) (RgS.one_plain (by rfl) (by rfl) (by (intro ax wx hk Kx hK; obtain ⟨v27, k27, h27⟩ := hk.dep 0 27 _ rfl rfl rfl; (first | (cases (h27 : v27 = _)) | (obtain ⟨rfl, h27⟩ := h27) | skip); obtain ⟨v29, k29, h29⟩ := hk.dep 2 29 _ rfl rfl rfl; (first | (cases (h29 : v29 = _)) | (obtain ⟨rfl, h29⟩ := h29) | skip); have hj := hk.j; clear hk; obtain ⟨hq, -, -⟩ := hj; obtain ⟨hqc, hqf, hql⟩ := hq.rules; clear hq; go_simp; refine hK _ _ ?_ (Below.refl _ _); apply Rg.mk))) ?_ rfl (fun _ _ _ _ h _ => h)
  refine RgS.build_cons (m := 5) (r := Rg.eq _) (RgS.one_plain (by rfl) (by rfl) (by (intro ax wx hk Kx hK; obtain ⟨v30, k30, h30⟩ := hk.dep 3 30 _ rfl rfl rfl; (first | (cases (h30 : v30 = _)) | (obtain ⟨rfl, h30⟩ := h30) | skip); have hj := hk.j; clear hk; obtain ⟨hq, -, -⟩ := hj; obtain ⟨hqc, hqf, hql⟩ := hq.rules; clear hq; go_simp; refine hK _ _ ?_ (Below.refl _ _); apply Rg.mk))) ?_ rfl (fun _ _ _ _ h _ => h)
  first
    | refine RgS.build_cons (m := 6) (RgS.one_no 4 31 false (by rfl) (by rfl) (by rfl) (by rfl)) ?_ rfl (fun _ _ _ _ h _ => h)
    | refine RgS.build_cons (m := 6) (r := Rg.eq _) (RgS.one_yes 4 31 false (by rfl) (by rfl) (by rfl) (by rfl) (by rfl) (by (intro ax wx hk Kx hK; have k8 := hk.base 8 _ rfl rfl; have hj := hk.j; clear hk; obtain ⟨hq, -, -⟩ := hj; obtain ⟨hqc, hqf, hql⟩ := hq.rules; clear hq; go_simp; refine hK _ _ ?_ (Below.refl _ _); apply Rg.mk))) ?_ rfl (fun _ _ _ _ h _ => h)
  first
    | refine RgS.build_cons (m := 7) (RgS.one_no 4 31 false (by rfl) (by rfl) (by rfl) (by rfl)) ?_ rfl (fun _ _ _ _ h _ => h)
    | refine RgS.build_cons (m := 7) (r := Rg.eq _) (RgS.one_yes 4 31 false (by rfl) (by rfl) (by rfl) (by rfl) (by rfl) (by (intro ax wx hk Kx hK; obtain ⟨v32, k32, h32⟩ := hk.dep 5 32 _ rfl rfl rfl; (first | (cases (h32 : v32 = _)) | (obtain ⟨rfl, h32⟩ := h32) | skip); have hj := hk.j; clear hk; obtain ⟨hq, -, -⟩ := hj; obtain ⟨hqc, hqf, hql⟩ := hq.rules; clear hq; go_simp; refine (like_any L K Q R (W - m) C _).mono ?_; rintro e w' ⟨rfl, hb⟩; refine hK _ _ ?_ hb; apply Rg.mk))) ?_ rfl (fun _ _ _ _ h _ => h)
  first
    | refine RgS.build_cons (m := 8) (RgS.one_no 4 31 false (by rfl) (by rfl) (by rfl) (by rfl)) ?_ rfl (fun _ _ _ _ h _ => h)
    | refine RgS.build_cons (m := 8) (r := Rg.eq _) (RgS.one_yes 4 31 false (by rfl) (by rfl) (by rfl) (by rfl) (by rfl) (by (intro ax wx hk Kx hK; have k1 := hk.base 1 _ rfl rfl; have hj := hk.j; clear hk; obtain ⟨hq, -, -⟩ := hj; obtain ⟨hqc, hqf, hql⟩ := hq.rules; clear hq; go_simp; refine hK _ _ ?_ (Below.refl _ _); apply Rg.mk))) ?_ rfl (fun _ _ _ _ h _ => h)
  first
    | refine RgS.build_cons (m := 9) (RgS.one_no 4 31 false (by rfl) (by rfl) (by rfl) (by rfl)) ?_ rfl (fun _ _ _ _ h _ => h)
    | refine RgS.build_cons (m := 9) (r := Rg.eq _) (RgS.one_yes 4 31 false (by rfl) (by rfl) (by rfl) (by rfl) (by rfl) (by (intro ax wx hk Kx hK; obtain ⟨v34, k34, h34⟩ := hk.dep 7 34 _ rfl rfl rfl; (first | (cases (h34 : v34 = _)) | (obtain ⟨rfl, h34⟩ := h34) | skip); have hj := hk.j; clear hk; obtain ⟨hq, -, -⟩ := hj; obtain ⟨hqc, hqf, hql⟩ := hq.rules; clear hq; go_simp; refine hK _ _ ?_ (Below.refl _ _); apply Rg.mk))) ?_ rfl (fun _ _ _ _ h _ => h)
  first
    | refine RgS.build_cons (m := 10) (RgS.one_no 4 31 false (by rfl) (by rfl) (by rfl) (by rfl)) ?_ rfl (fun _ _ _ _ h _ => h)
    | refine RgS.build_cons (m := 10) (r := Rg.eq _) (RgS.one_yes 4 31 false (by rfl) (by rfl) (by rfl) (by rfl) (by rfl) (by (intro ax wx hk Kx hK; obtain ⟨v35, k35, h35⟩ := hk.dep 8 35 _ rfl rfl rfl; (first | (cases (h35 : v35 = _)) | (obtain ⟨rfl, h35⟩ := h35) | skip); obtain ⟨u, ku, rfl, hat⟩ := hk.far 3 2 29 _ rfl rfl rfl; have hj := hk.j; clear hk; obtain ⟨hq, -, -⟩ := hj; obtain ⟨hqc, hqf, hql⟩ := hq.rules; clear hq; (obtain ⟨hgc, hgf, hgl2⟩ := hat.rules; clear hat; go_simp; refine hK _ _ ?_ (Below.refl _ _); apply Rg.mk)))) ?_ rfl (fun _ _ _ _ h _ => h)
  first
    | refine RgS.build_cons (m := 11) (RgS.one_no 4 31 false (by rfl) (by rfl) (by rfl) (by rfl)) ?_ rfl (fun _ _ _ _ h _ => h)
    | refine RgS.build_cons (m := 11) (r := Rg.eq _) (RgS.one_yes 4 31 false (by rfl) (by rfl) (by rfl) (by rfl) (by rfl) (by (intro ax wx hk Kx hK; obtain ⟨v33, k33, h33⟩ := hk.dep 6 33 _ rfl rfl rfl; (first | (cases (h33 : v33 = _)) | (obtain ⟨rfl, h33⟩ := h33) | skip); obtain ⟨v36, k36, h36⟩ := hk.dep 9 36 _ rfl rfl rfl; (first | (cases (h36 : v36 = _)) | (obtain ⟨rfl, h36⟩ := h36) | skip); have hj := hk.j; clear hk; obtain ⟨hq, -, -⟩ := hj; obtain ⟨hqc, hqf, hql⟩ := hq.rules; clear hq; go_simp; refine hK _ _ ?_ (Below.refl _ _); apply Rg.mk))) ?_ rfl (fun _ _ _ _ h _ => h)
  refine RgS.build_cons (m := 12) (r := Rg.eq _) (RgS.one_plain (by rfl) (by rfl) (by (intro ax wx hk Kx hK; obtain ⟨v31, k31, h31⟩ := hk.dep 4 31 _ rfl rfl rfl; (first | (cases (h31 : v31 = _)) | (obtain ⟨rfl, h31⟩ := h31) | skip); obtain ⟨v37, k37, h37⟩ := hk.dep 10 37 _ rfl rfl rfl; (first | (cases (h37 : v37 = _)) | (obtain ⟨rfl, h37⟩ := h37) | skip); have hj := hk.j; clear hk; obtain ⟨hq, -, -⟩ := hj; obtain ⟨hqc, hqf, hql⟩ := hq.rules; clear hq; go_simp; refine hK _ _ ?_ (Below.refl _ _); apply Rg.mk))) ?_ rfl (fun _ _ _ _ h _ => h)
  refine RgS.build_end fun wx hj => ?_
  refine Rg.fin_eq rfl ?_
  refine Rg.fin_eq rfl ?_
  first | refine Rg.fin_eq rfl ?_ | refine Rg.fin_any rfl fun v29 h29 => ?_
  refine Rg.fin_eq rfl ?_
  refine Rg.fin_eq rfl ?_
  refine Rg.fin_eq rfl ?_
  refine Rg.fin_eq rfl ?_
  refine Rg.fin_eq rfl ?_
  refine Rg.fin_eq rfl ?_
  refine Rg.fin_eq rfl ?_
  refine Rg.fin_eq rfl ?_
  refine Rg.fin_eq rfl ?_
  refine Rg.fin_nil ?_
  simp only [List.set_cons_zero, List.set_cons_succ]
  obtain ⟨hq, hr, hgr⟩ := hj
  have hat := h29.2
  have HAT := Lib.hid hat; have HGR := Lib.hid hgr
  have hne : g ≠ w.heap.size + 1 + 1 := by omega
  obtain ⟨q0, q1, q2, q3, q4, q5, -⟩ := pc_cells hq
  obtain ⟨d0, d1, d2, d3, d4, d5, df⟩ := pc_cells hr
  clear hat hgr hq hr h29
  go_wp2
  refine bodyPost_ret (v := .tuple #[pcV L K Q R (W - m) C, .int .i64 1]) (by simp [results, Try.results30, go_sem, d0, d1, d2, d3, d4, d5]; try rfl) rfl ⟨by rw [HM.out], ?_, ?_⟩
  · rw [HM.out]; exact (((((HAT.out.far hne _).far hne _).far hne _).far hne _).far hne _).far hne _
  · exact gb_setNew (gb_setNew (gb_setNew (gb_setNew (gb_setNew (gb_setNew HGR.out (by simp; omega) _) (by simp; omega) _) (by simp; omega) _) (by simp; omega) _) (by simp; omega) _) (by simp; omega) _
set_option maxRecDepth 100000 in
set_option maxHeartbeats 4000000 in
theorem do_close (g : Nat) (L K Q R W R' W' x n b : Int) (C C' : Bool) (ev : Value) (w : World) (hg : AtG w g 49 (pcC L K Q R W C)) (hx : x % 4 = 3) (hx1 : -9223372036854775808 ≤ x) (hx2 : x ≤ 9223372036854775807)
    (hp : ∀ w, Calls Try.prog 34 #[pcV L K Q R W C] w fun e w' => e = .returned (.tuple #[pcV L K Q R' W' C', ev]) ∧ Below w.heap.size w w')
    (hm : ∀ w, AtG w g 49 (pcC L K Q R W C) → Calls Try.prog 59 #[.pointer (some ⟨g, 0, none⟩)] w fun e w' => e = .returned (.int .i64 b) ∧ AtG w' g 49 (pcC L K Q R' W' C') ∧ w.grownBy w' (some g))
    (hc : ∀ w, Calls Try.prog 28 #[ev] w fun e w' => e = .returned (.int .i64 b) ∧ w' = w) :
    Calls Try.prog 30 #[pcV L K Q R W C, .pointer (some ⟨g, 0, none⟩), .agg #[.int .i64 x, .int .i64 n]] w fun e w' =>
      e = .returned (.tuple #[pcV L K Q R' W' C', .int .i64 1]) ∧ AtG w' g 49 (pcC L K Q R' W' C') ∧ w.grownBy w' (some g) := by
  have hgl := hg.lt
  have HG := Lib.hid hg; have HP := Lib.hid hp; have HMM := Lib.hid hm; have HC := Lib.hid hc; clear hg hp hm hc
  have HX := Lib.hid hx; clear hx
  go_enter Try.func30, Try.ntmps30
  go_wp2_with fail
  go_call pick_any as e w1 ⟨rfl, rfl⟩
  rw [HX.out]
  go_wp2_with fail
  have hA : AtG (((w.alloc (.cells #[.int .i64 L, .int .i64 K, .int .i64 Q, .int .i64 R, .int .i64 W, .bool C] 42)).alloc (.cells #[.int .i64 x, .int .i64 n] 56)).alloc (.cells #[.int .i64 0, .int .i64 0, .int .i64 0, .int .i64 0, .int .i64 0, .bool false] 42)) g 49 (pcC L K Q R W C) := ((HG.out.alloc _).alloc _).alloc _
  have HA := Lib.hid hA; clear hA
  refine (HP.out _).mono ?_; rintro e w1 ⟨rfl, hb1⟩
  have HA1 := Lib.hid (HA.out.below hb1)
  have hR0 : AtG w1 (w.heap.size + 1 + 1) 42 (pcC 0 0 0 0 0 false) := by
    have := (AtG.new ((w.alloc (.cells #[.int .i64 L, .int .i64 K, .int .i64 Q, .int .i64 R, .int .i64 W, .bool C] 42)).alloc (.cells #[.int .i64 x, .int .i64 n] 56)) 42 (pcC 0 0 0 0 0 false)).below hb1
    simpa using this
  have HR0 := Lib.hid hR0; clear hR0
  have hsz : w.heap.size + 1 + 1 < w1.heap.size := HR0.out.lt
  have HB := Lib.hid (gb_below (gb_alloc (gb_alloc (gb_alloc (gb_refl w (some g)) _) _) _) hb1); clear hb1
  go_wp2_with fail
  have HQ := Lib.hid (AtG.new w1 42 (pcC L K Q R' W' C'))
  refine RgS.wp_region_each (by kernel_rfl) 3 (fun w' => AtG w' w1.heap.size 42 (pcC L K Q R' W' C') ∧ AtG w' (w.heap.size + 1 + 1) 42 (pcC 0 0 0 0 0 false) ∧ w.grownBy w' (some g)) (fun w' => AtG w' g 49 (pcC L K Q R W C)) (fun w' w2 => w'.grownBy w2 (some g)) (fun w2 w3 h hb => ⟨h.1.below hb, h.2.1.below hb, gb_below h.2.2 hb⟩) (fun w2 w3 h hb => ⟨h.1.gb hb (by omega), h.2.1.gb hb (by omega), World.grownBy.trans h.2.2 hb⟩) (fun w2 w3 h hb => h.below hb) (by kernel_rfl) (by kernel_rfl) (⟨HQ.out, HR0.out.alloc _, gb_alloc HB.out _⟩) (HA1.out.alloc _) ?_
  show RgS.Build _ _ _ _ _ _ _ _ 0 [_, _, _, _, _, _, _, _, _, _, _, _, _] []
  refine RgS.build_cons (m := 1) (r := Rg.eq _) (RgS.one_plain (by rfl) (by rfl) (by (intro ax wx hk Kx hK; have k11 := hk.base 11 _ rfl rfl; have hj := hk.j; clear hk; obtain ⟨hq, -, -⟩ := hj; obtain ⟨hqc, hqf, hql⟩ := hq.rules; clear hq; go_simp; refine hK _ _ ?_ (Below.refl _ _); apply Rg.mk))) ?_ rfl (fun _ _ _ _ h _ => h)
  refine RgS.build_cons (m := 2) (r := Rg.eq (.int .i64 b)) (RgS.one_plain (by rfl) (by rfl) (by (intro ax wx hk Kx hK; obtain ⟨v48, k48, h48⟩ := hk.dep 0 48 _ rfl rfl rfl; (first | (cases (h48 : v48 = _)) | (obtain ⟨rfl, h48⟩ := h48) | skip); have hj := hk.j; clear hk; obtain ⟨hq, -, -⟩ := hj; obtain ⟨hqc, hqf, hql⟩ := hq.rules; clear hq; go_simp; refine (HC.out _).mono ?_; rintro e w' ⟨rfl, rfl⟩; exact hK _ _ Rg.mk (Below.refl _ _)))) ?_ rfl (fun _ _ _ _ h _ => h)
  refine RgS.build_cons (m := 3) (r := Rg.eq _) (RgS.one_plain (by rfl) (by rfl) (by (intro ax wx hk Kx hK; have k1 := hk.base 1 _ rfl rfl; have hj := hk.j; clear hk; obtain ⟨hq, -, -⟩ := hj; obtain ⟨hqc, hqf, hql⟩ := hq.rules; clear hq; go_simp; refine hK _ _ ?_ (Below.refl _ _); apply Rg.mk))) ?_ rfl (fun _ _ _ _ h _ => h)
  refine RgS.build_cons (m := 4) (r := (⟨fun v w' => v = .int .i64 b ∧ AtG w' g 49 (pcC L K Q R' W' C'), fun v w2 w3 h hb => ⟨h.1, h.2.below hb⟩⟩ : Rg.Rl)) (RgS.one_spec (by rfl) (by rfl) (by (intro ax wx hk hp Kx hK; obtain ⟨v50, k50, h50⟩ := hk.dep 2 50 _ rfl rfl rfl; (first | (cases (h50 : v50 = _)) | (obtain ⟨rfl, h50⟩ := h50) | skip); have hj := hk.j; clear hk; obtain ⟨hq, -, -⟩ := hj; obtain ⟨hqc, hqf, hql⟩ := hq.rules; clear hq; go_simp; refine (HMM.out _ hp).mono ?_; rintro e w' ⟨rfl, hat, hg2⟩; exact hK _ _ ⟨rfl, hat⟩ hg2))) ?_ rfl (fun h => by cases h)
  refine RgS.build_cons (m := 5) (r := Rg.eq _) (RgS.one_plain (by rfl) (by rfl) (by (intro ax wx hk Kx hK; obtain ⟨v49, k49, h49⟩ := hk.dep 1 49 _ rfl rfl rfl; (first | (cases (h49 : v49 = _)) | (obtain ⟨rfl, h49⟩ := h49) | skip); obtain ⟨v51, k51, h51⟩ := hk.dep 3 51 _ rfl rfl rfl; (first | (cases (h51 : v51 = _)) | (obtain ⟨rfl, h51⟩ := h51) | skip); have hj := hk.j; clear hk; obtain ⟨hq, -, -⟩ := hj; obtain ⟨hqc, hqf, hql⟩ := hq.rules; clear hq; go_simp; refine hK _ _ ?_ (Below.refl _ _); apply Rg.mk))) ?_ rfl (fun _ _ _ _ h _ => h)
  refine RgS.build_cons (m := 6) (r := Rg.eq _) (RgS.one_plain (by rfl) (by rfl) (by (intro ax wx hk Kx hK; obtain ⟨v52, k52, h52⟩ := hk.dep 4 52 _ rfl rfl rfl; (first | (cases (h52 : v52 = _)) | (obtain ⟨rfl, h52⟩ := h52) | skip); have hj := hk.j; clear hk; obtain ⟨hq, -, -⟩ := hj; obtain ⟨hqc, hqf, hql⟩ := hq.rules; clear hq; go_simp; refine hK _ _ ?_ (Below.refl _ _); apply Rg.mk))) ?_ rfl (fun _ _ _ _ h _ => h)
  first
    | refine RgS.build_cons (m := 7) (RgS.one_no 5 53 false (by rfl) (by rfl) (by rfl) (by rfl)) ?_ rfl (fun _ _ _ _ h _ => h)
    | refine RgS.build_cons (m := 7) (r := Rg.eq _) (RgS.one_yes 5 53 false (by rfl) (by rfl) (by rfl) (by rfl) (by rfl) (by (intro ax wx hk Kx hK; have k10 := hk.base 10 _ rfl rfl; have hj := hk.j; clear hk; obtain ⟨hq, -, -⟩ := hj; obtain ⟨hqc, hqf, hql⟩ := hq.rules; clear hq; go_simp; refine hK _ _ ?_ (Below.refl _ _); apply Rg.mk))) ?_ rfl (fun _ _ _ _ h _ => h)
  first
    | refine RgS.build_cons (m := 8) (RgS.one_no 5 53 false (by rfl) (by rfl) (by rfl) (by rfl)) ?_ rfl (fun _ _ _ _ h _ => h)
    | refine RgS.build_cons (m := 8) (r := Rg.eq _) (RgS.one_yes 5 53 false (by rfl) (by rfl) (by rfl) (by rfl) (by rfl) (by (intro ax wx hk Kx hK; obtain ⟨v54, k54, h54⟩ := hk.dep 6 54 _ rfl rfl rfl; (first | (cases (h54 : v54 = _)) | (obtain ⟨rfl, h54⟩ := h54) | skip); have hj := hk.j; clear hk; obtain ⟨hq, -, -⟩ := hj; obtain ⟨hqc, hqf, hql⟩ := hq.rules; clear hq; go_simp; refine (like_any L K Q R' W' C' _).mono ?_; rintro e w' ⟨rfl, hb⟩; refine hK _ _ ?_ hb; apply Rg.mk))) ?_ rfl (fun _ _ _ _ h _ => h)
  first
    | refine RgS.build_cons (m := 9) (RgS.one_no 5 53 false (by rfl) (by rfl) (by rfl) (by rfl)) ?_ rfl (fun _ _ _ _ h _ => h)
    | refine RgS.build_cons (m := 9) (r := Rg.eq _) (RgS.one_yes 5 53 false (by rfl) (by rfl) (by rfl) (by rfl) (by rfl) (by (intro ax wx hk Kx hK; have k1 := hk.base 1 _ rfl rfl; have hj := hk.j; clear hk; obtain ⟨hq, -, -⟩ := hj; obtain ⟨hqc, hqf, hql⟩ := hq.rules; clear hq; go_simp; refine hK _ _ ?_ (Below.refl _ _); apply Rg.mk))) ?_ rfl (fun _ _ _ _ h _ => h)
  first
    | refine RgS.build_cons (m := 10) (RgS.one_no 5 53 false (by rfl) (by rfl) (by rfl) (by rfl)) ?_ rfl (fun _ _ _ _ h _ => h)
    | refine RgS.build_cons (m := 10) (r := Rg.eq _) (RgS.one_yes 5 53 false (by rfl) (by rfl) (by rfl) (by rfl) (by rfl) (by (intro ax wx hk Kx hK; obtain ⟨v56, k56, h56⟩ := hk.dep 8 56 _ rfl rfl rfl; (first | (cases (h56 : v56 = _)) | (obtain ⟨rfl, h56⟩ := h56) | skip); have hj := hk.j; clear hk; obtain ⟨hq, -, -⟩ := hj; obtain ⟨hqc, hqf, hql⟩ := hq.rules; clear hq; go_simp; refine hK _ _ ?_ (Below.refl _ _); apply Rg.mk))) ?_ rfl (fun _ _ _ _ h _ => h)
  first
    | refine RgS.build_cons (m := 11) (RgS.one_no 5 53 false (by rfl) (by rfl) (by rfl) (by rfl)) ?_ rfl (fun _ _ _ _ h _ => h)
    | refine RgS.build_cons (m := 11) (r := Rg.eq _) (RgS.one_yes 5 53 false (by rfl) (by rfl) (by rfl) (by rfl) (by rfl) (by (intro ax wx hk Kx hK; obtain ⟨v57, k57, h57⟩ := hk.dep 9 57 _ rfl rfl rfl; (first | (cases (h57 : v57 = _)) | (obtain ⟨rfl, h57⟩ := h57) | skip); obtain ⟨u, ku, rfl, hat⟩ := hk.far 3 3 51 _ rfl rfl rfl; have hj := hk.j; clear hk; obtain ⟨hq, -, -⟩ := hj; obtain ⟨hqc, hqf, hql⟩ := hq.rules; clear hq; (obtain ⟨hgc, hgf, hgl2⟩ := hat.rules; clear hat; go_simp; refine hK _ _ ?_ (Below.refl _ _); apply Rg.mk)))) ?_ rfl (fun _ _ _ _ h _ => h)
  first
    | refine RgS.build_cons (m := 12) (RgS.one_no 5 53 false (by rfl) (by rfl) (by rfl) (by rfl)) ?_ rfl (fun _ _ _ _ h _ => h)
    | refine RgS.build_cons (m := 12) (r := Rg.eq _) (RgS.one_yes 5 53 false (by rfl) (by rfl) (by rfl) (by rfl) (by rfl) (by (intro ax wx hk Kx hK; obtain ⟨v55, k55, h55⟩ := hk.dep 7 55 _ rfl rfl rfl; (first | (cases (h55 : v55 = _)) | (obtain ⟨rfl, h55⟩ := h55) | skip); obtain ⟨v58, k58, h58⟩ := hk.dep 10 58 _ rfl rfl rfl; (first | (cases (h58 : v58 = _)) | (obtain ⟨rfl, h58⟩ := h58) | skip); have hj := hk.j; clear hk; obtain ⟨hq, -, -⟩ := hj; obtain ⟨hqc, hqf, hql⟩ := hq.rules; clear hq; go_simp; refine hK _ _ ?_ (Below.refl _ _); apply Rg.mk))) ?_ rfl (fun _ _ _ _ h _ => h)
  refine RgS.build_cons (m := 13) (r := Rg.eq _) (RgS.one_plain (by rfl) (by rfl) (by (intro ax wx hk Kx hK; obtain ⟨v53, k53, h53⟩ := hk.dep 5 53 _ rfl rfl rfl; (first | (cases (h53 : v53 = _)) | (obtain ⟨rfl, h53⟩ := h53) | skip); obtain ⟨v59, k59, h59⟩ := hk.dep 11 59 _ rfl rfl rfl; (first | (cases (h59 : v59 = _)) | (obtain ⟨rfl, h59⟩ := h59) | skip); have hj := hk.j; clear hk; obtain ⟨hq, -, -⟩ := hj; obtain ⟨hqc, hqf, hql⟩ := hq.rules; clear hq; go_simp; refine hK _ _ ?_ (Below.refl _ _); apply Rg.mk))) ?_ rfl (fun _ _ _ _ h _ => h)
  refine RgS.build_end fun wx hj => ?_
  refine Rg.fin_eq rfl ?_
  first | refine Rg.fin_eq rfl ?_ | refine Rg.fin_any rfl fun v49 h49 => ?_
  refine Rg.fin_eq rfl ?_
  first | refine Rg.fin_eq rfl ?_ | refine Rg.fin_any rfl fun v51 h51 => ?_
  refine Rg.fin_eq rfl ?_
  refine Rg.fin_eq rfl ?_
  refine Rg.fin_eq rfl ?_
  refine Rg.fin_eq rfl ?_
  refine Rg.fin_eq rfl ?_
  refine Rg.fin_eq rfl ?_
  refine Rg.fin_eq rfl ?_
  refine Rg.fin_eq rfl ?_
  refine Rg.fin_eq rfl ?_
  refine Rg.fin_nil ?_
  simp only [List.set_cons_zero, List.set_cons_succ]
  obtain ⟨hq, hr, hgr⟩ := hj
  have hat := h51.2
  have HAT := Lib.hid hat; have HGR := Lib.hid hgr
  have hne : g ≠ w.heap.size + 1 + 1 := by omega
  obtain ⟨q0, q1, q2, q3, q4, q5, -⟩ := pc_cells hq
  obtain ⟨d0, d1, d2, d3, d4, d5, df⟩ := pc_cells hr
  clear hat hgr hq hr h51
  go_wp2
  refine bodyPost_ret (v := .tuple #[pcV L K Q R' W' C', .int .i64 1]) (by simp [results, Try.results30, go_sem, d0, d1, d2, d3, d4, d5]; try rfl) rfl ⟨rfl, ?_, ?_⟩
  · exact (((((HAT.out.far hne _).far hne _).far hne _).far hne _).far hne _).far hne _
  · exact gb_setNew (gb_setNew (gb_setNew (gb_setNew (gb_setNew (gb_setNew HGR.out (by simp; omega) _) (by simp; omega) _) (by simp; omega) _) (by simp; omega) _) (by simp; omega) _) (by simp; omega) _
set_option maxRecDepth 100000 in
set_option maxHeartbeats 4000000 in
theorem do_write (g : Nat) (L K Q R W R' W' x n c b : Int) (C : Bool) (ev : Value) (w : World) (hg : AtG w g 49 (pcC L K Q R W C)) (hx : x % 4 = 0 ∨ x % 4 = 1) (hx1 : -9223372036854775808 ≤ x) (hx2 : x ≤ 9223372036854775807)
    (hp : ∀ w, Calls Try.prog 33 #[pcV L K Q R W C, .int .i64 n] w fun e w' => e = .returned (.tuple #[pcV L K Q R' W' C, .int .i64 c, ev]) ∧ Below w.heap.size w w')
    (hm : ∀ w, AtG w g 49 (pcC L K Q R W C) → Calls Try.prog 60 #[.pointer (some ⟨g, 0, none⟩), .int .i64 n] w fun e w' => e = .returned (.tuple #[.int .i64 c, .int .i64 b]) ∧ AtG w' g 49 (pcC L K Q R' W' C) ∧ w.grownBy w' (some g))
    (hc : ∀ w, Calls Try.prog 28 #[ev] w fun e w' => e = .returned (.int .i64 b) ∧ w' = w) :
    Calls Try.prog 30 #[pcV L K Q R W C, .pointer (some ⟨g, 0, none⟩), .agg #[.int .i64 x, .int .i64 n]] w fun e w' =>
      e = .returned (.tuple #[pcV L K Q R' W' C, .int .i64 1]) ∧ AtG w' g 49 (pcC L K Q R' W' C) ∧ w.grownBy w' (some g) := by
  have hgl := hg.lt
  have HG := Lib.hid hg; have HP := Lib.hid hp; have HMM := Lib.hid hm; have HC := Lib.hid hc; clear hg hp hm hc
  generalize hx4 : x % 4 = x4 at hx
  have HX := Lib.hid hx4; clear hx4
  have hx5 : (x4 == 2) = false := by rcases hx with rfl | rfl <;> rfl
  have hx6 : (x4 == 3) = false := by rcases hx with rfl | rfl <;> rfl
  clear hx
  go_enter Try.func30, Try.ntmps30
  go_wp2_with fail
  go_call pick_any as e w1 ⟨rfl, rfl⟩
  rw [HX.out]
  go_wp2_with fail
  have hA : AtG (((w.alloc (.cells #[.int .i64 L, .int .i64 K, .int .i64 Q, .int .i64 R, .int .i64 W, .bool C] 42)).alloc (.cells #[.int .i64 x, .int .i64 n] 56)).alloc (.cells #[.int .i64 0, .int .i64 0, .int .i64 0, .int .i64 0, .int .i64 0, .bool false] 42)) g 49 (pcC L K Q R W C) := ((HG.out.alloc _).alloc _).alloc _
  have HA := Lib.hid hA; clear hA
  refine (HP.out _).mono ?_; rintro e w1 ⟨rfl, hb1⟩
  have HA1 := Lib.hid (HA.out.below hb1)
  have hR0 : AtG w1 (w.heap.size + 1 + 1) 42 (pcC 0 0 0 0 0 false) := by
    have := (AtG.new ((w.alloc (.cells #[.int .i64 L, .int .i64 K, .int .i64 Q, .int .i64 R, .int .i64 W, .bool C] 42)).alloc (.cells #[.int .i64 x, .int .i64 n] 56)) 42 (pcC 0 0 0 0 0 false)).below hb1
    simpa using this
  have hD0 : AtG w1 (w.heap.size + 1) 56 #[.int .i64 x, .int .i64 n] := by
    have := ((AtG.new (w.alloc (.cells #[.int .i64 L, .int .i64 K, .int .i64 Q, .int .i64 R, .int .i64 W, .bool C] 42)) 56 #[.int .i64 x, .int .i64 n]).alloc (.cells (pcC 0 0 0 0 0 false) 42)).below hb1
    simpa using this
  have e1 : ∀ o, (w1.alloc o).cell? ⟨w.heap.size + 1, 1, none⟩ = some (.int .i64 n) := fun o => (hD0.alloc o).cell 1 _ rfl
  have HR0 := Lib.hid hR0; clear hR0 hD0
  have hsz : w.heap.size + 1 + 1 < w1.heap.size := HR0.out.lt
  have HB := Lib.hid (gb_below (gb_alloc (gb_alloc (gb_alloc (gb_refl w (some g)) _) _) _) hb1); clear hb1
  go_wp2_with fail
  have HQ := Lib.hid (AtG.new w1 42 (pcC L K Q R' W' C))
  refine (HMM.out _ (HA1.out.alloc _)).mono ?_; rintro e w2 ⟨rfl, hat2, hg2⟩
  have HQ2 := Lib.hid (HQ.out.gb hg2 (by omega))
  have HR2 := Lib.hid ((HR0.out.alloc _).gb hg2 (by omega))
  have HAT2 := Lib.hid hat2
  have HB2 := Lib.hid (World.grownBy.trans (gb_alloc HB.out _) hg2)
  clear hat2 hg2 e1
  go_wp2_with fail
  refine Rg.wp_region_each (by kernel_rfl) (fun w' => AtG w' w1.heap.size 42 (pcC L K Q R' W' C) ∧ AtG w' (w.heap.size + 1 + 1) 42 (pcC 0 0 0 0 0 false) ∧ w.grownBy w' (some g) ∧ AtG w' g 49 (pcC L K Q R' W' C)) (fun w2 w3 h hb => ⟨h.1.below hb, h.2.1.below hb, gb_below h.2.2.1 hb, h.2.2.2.below hb⟩) (by kernel_rfl) (by kernel_rfl) (⟨HQ2.out, HR2.out, HB2.out, HAT2.out⟩) ?_
  show Rg.Build _ _ _ _ _ 0 [_, _, _, _, _, _, _, _, _, _, _, _, _, _, _, _, _] []
  refine Rg.build_cons (m := 1) (r := Rg.eq _) (Rg.one_plain (by rfl) (by (intro ax wx hk Kx hK; have k13 := hk.base 13 _ rfl rfl; have hj := hk.j; clear hk; obtain ⟨hq, -, -, hat⟩ := hj; obtain ⟨hqc, hqf, hql⟩ := hq.rules; obtain ⟨hgc, hgf, hgl2⟩ := hat.rules; clear hq hat; go_simp; refine hK _ _ ?_ (Below.refl _ _); apply Rg.mk))) ?_ rfl
  refine Rg.build_cons (m := 2) (r := Rg.eq _) (Rg.one_plain (by rfl) (by (intro ax wx hk Kx hK; have k15 := hk.base 15 _ rfl rfl; have hj := hk.j; clear hk; obtain ⟨hq, -, -, hat⟩ := hj; obtain ⟨hqc, hqf, hql⟩ := hq.rules; obtain ⟨hgc, hgf, hgl2⟩ := hat.rules; clear hq hat; go_simp; refine hK _ _ ?_ (Below.refl _ _); apply Rg.mk))) ?_ rfl
  refine Rg.build_cons (m := 3) (r := Rg.eq _) (Rg.one_plain (by rfl) (by (intro ax wx hk Kx hK; obtain ⟨v78, k78, h78⟩ := hk.dep 0 78 _ rfl rfl rfl; (first | (cases (h78 : v78 = _)) | (obtain ⟨rfl, h78⟩ := h78) | skip); obtain ⟨v79, k79, h79⟩ := hk.dep 1 79 _ rfl rfl rfl; (first | (cases (h79 : v79 = _)) | (obtain ⟨rfl, h79⟩ := h79) | skip); have hj := hk.j; clear hk; obtain ⟨hq, -, -, hat⟩ := hj; obtain ⟨hqc, hqf, hql⟩ := hq.rules; obtain ⟨hgc, hgf, hgl2⟩ := hat.rules; clear hq hat; go_simp; refine hK _ _ ?_ (Below.refl _ _); apply Rg.mk))) ?_ rfl
  refine Rg.build_cons (m := 4) (r := Rg.eq _) (Rg.one_plain (by rfl) (by (intro ax wx hk Kx hK; obtain ⟨v80, k80, h80⟩ := hk.dep 2 80 _ rfl rfl rfl; (first | (cases (h80 : v80 = _)) | (obtain ⟨rfl, h80⟩ := h80) | skip); have hj := hk.j; clear hk; obtain ⟨hq, -, -, hat⟩ := hj; obtain ⟨hqc, hqf, hql⟩ := hq.rules; obtain ⟨hgc, hgf, hgl2⟩ := hat.rules; clear hq hat; go_simp; refine hK _ _ ?_ (Below.refl _ _); apply Rg.mk))) ?_ rfl
  first
    | refine Rg.build_cons (m := 5) (Rg.one_no 3 81 false (by rfl) (by rfl) (by rfl) (by rfl)) ?_ rfl
    | refine Rg.build_cons (m := 5) (r := Rg.eq _) (Rg.one_yes 3 81 false (by rfl) (by rfl) (by rfl) (by rfl) (by (intro ax wx hk Kx hK; have k14 := hk.base 14 _ rfl rfl; have hj := hk.j; clear hk; obtain ⟨hq, -, -, hat⟩ := hj; obtain ⟨hqc, hqf, hql⟩ := hq.rules; obtain ⟨hgc, hgf, hgl2⟩ := hat.rules; clear hq hat; go_simp; refine hK _ _ ?_ (Below.refl _ _); apply Rg.mk))) ?_ rfl
  first
    | refine Rg.build_cons (m := 6) (Rg.one_no 3 81 false (by rfl) (by rfl) (by rfl) (by rfl)) ?_ rfl
    | refine Rg.build_cons (m := 6) (r := Rg.eq (.int .i64 b)) (Rg.one_yes 3 81 false (by rfl) (by rfl) (by rfl) (by rfl) (by (intro ax wx hk Kx hK; obtain ⟨v82, k82, h82⟩ := hk.dep 4 82 _ rfl rfl rfl; (first | (cases (h82 : v82 = _)) | (obtain ⟨rfl, h82⟩ := h82) | skip); have hj := hk.j; clear hk; obtain ⟨hq, -, -, hat⟩ := hj; obtain ⟨hqc, hqf, hql⟩ := hq.rules; obtain ⟨hgc, hgf, hgl2⟩ := hat.rules; clear hq hat; go_simp; refine (HC.out _).mono ?_; rintro e w' ⟨rfl, rfl⟩; exact hK _ _ Rg.mk (Below.refl _ _)))) ?_ rfl
  first
    | refine Rg.build_cons (m := 7) (Rg.one_no 3 81 false (by rfl) (by rfl) (by rfl) (by rfl)) ?_ rfl
    | refine Rg.build_cons (m := 7) (r := Rg.eq _) (Rg.one_yes 3 81 false (by rfl) (by rfl) (by rfl) (by rfl) (by (intro ax wx hk Kx hK; have k16 := hk.base 16 _ rfl rfl; have hj := hk.j; clear hk; obtain ⟨hq, -, -, hat⟩ := hj; obtain ⟨hqc, hqf, hql⟩ := hq.rules; obtain ⟨hgc, hgf, hgl2⟩ := hat.rules; clear hq hat; go_simp; refine hK _ _ ?_ (Below.refl _ _); apply Rg.mk))) ?_ rfl
  first
    | refine Rg.build_cons (m := 8) (Rg.one_no 3 81 false (by rfl) (by rfl) (by rfl) (by rfl)) ?_ rfl
    | refine Rg.build_cons (m := 8) (r := Rg.eq _) (Rg.one_yes 3 81 false (by rfl) (by rfl) (by rfl) (by rfl) (by (intro ax wx hk Kx hK; obtain ⟨v83, k83, h83⟩ := hk.dep 5 83 _ rfl rfl rfl; (first | (cases (h83 : v83 = _)) | (obtain ⟨rfl, h83⟩ := h83) | skip); obtain ⟨v84, k84, h84⟩ := hk.dep 6 84 _ rfl rfl rfl; (first | (cases (h84 : v84 = _)) | (obtain ⟨rfl, h84⟩ := h84) | skip); have hj := hk.j; clear hk; obtain ⟨hq, -, -, hat⟩ := hj; obtain ⟨hqc, hqf, hql⟩ := hq.rules; obtain ⟨hgc, hgf, hgl2⟩ := hat.rules; clear hq hat; go_simp; refine hK _ _ ?_ (Below.refl _ _); apply Rg.mk))) ?_ rfl
  refine Rg.build_cons (m := 9) (r := Rg.eq _) (Rg.one_plain (by rfl) (by (intro ax wx hk Kx hK; obtain ⟨v81, k81, h81⟩ := hk.dep 3 81 _ rfl rfl rfl; (first | (cases (h81 : v81 = _)) | (obtain ⟨rfl, h81⟩ := h81) | skip); obtain ⟨v85, k85, h85⟩ := hk.dep 7 85 _ rfl rfl rfl; (first | (cases (h85 : v85 = _)) | (obtain ⟨rfl, h85⟩ := h85) | skip); have hj := hk.j; clear hk; obtain ⟨hq, -, -, hat⟩ := hj; obtain ⟨hqc, hqf, hql⟩ := hq.rules; obtain ⟨hgc, hgf, hgl2⟩ := hat.rules; clear hq hat; go_simp; refine hK _ _ ?_ (Below.refl _ _); apply Rg.mk))) ?_ rfl
  refine Rg.build_cons (m := 10) (r := Rg.eq _) (Rg.one_plain (by rfl) (by (intro ax wx hk Kx hK; obtain ⟨v86, k86, h86⟩ := hk.dep 8 86 _ rfl rfl rfl; (first | (cases (h86 : v86 = _)) | (obtain ⟨rfl, h86⟩ := h86) | skip); have hj := hk.j; clear hk; obtain ⟨hq, -, -, hat⟩ := hj; obtain ⟨hqc, hqf, hql⟩ := hq.rules; obtain ⟨hgc, hgf, hgl2⟩ := hat.rules; clear hq hat; go_simp; refine hK _ _ ?_ (Below.refl _ _); apply Rg.mk))) ?_ rfl
  first
    | refine Rg.build_cons (m := 11) (Rg.one_no 9 87 false (by rfl) (by rfl) (by rfl) (by rfl)) ?_ rfl
    | refine Rg.build_cons (m := 11) (r := Rg.eq _) (Rg.one_yes 9 87 false (by rfl) (by rfl) (by rfl) (by rfl) (by (intro ax wx hk Kx hK; have k12 := hk.base 12 _ rfl rfl; have hj := hk.j; clear hk; obtain ⟨hq, -, -, hat⟩ := hj; obtain ⟨hqc, hqf, hql⟩ := hq.rules; obtain ⟨hgc, hgf, hgl2⟩ := hat.rules; clear hq hat; go_simp; refine hK _ _ ?_ (Below.refl _ _); apply Rg.mk))) ?_ rfl
  first
    | refine Rg.build_cons (m := 12) (Rg.one_no 9 87 false (by rfl) (by rfl) (by rfl) (by rfl)) ?_ rfl
    | refine Rg.build_cons (m := 12) (r := Rg.eq _) (Rg.one_yes 9 87 false (by rfl) (by rfl) (by rfl) (by rfl) (by (intro ax wx hk Kx hK; obtain ⟨v88, k88, h88⟩ := hk.dep 10 88 _ rfl rfl rfl; (first | (cases (h88 : v88 = _)) | (obtain ⟨rfl, h88⟩ := h88) | skip); have hj := hk.j; clear hk; obtain ⟨hq, -, -, hat⟩ := hj; obtain ⟨hqc, hqf, hql⟩ := hq.rules; obtain ⟨hgc, hgf, hgl2⟩ := hat.rules; clear hq hat; go_simp; refine (like_any L K Q R' W' C _).mono ?_; rintro e w' ⟨rfl, hb⟩; refine hK _ _ ?_ hb; apply Rg.mk))) ?_ rfl
  first
    | refine Rg.build_cons (m := 13) (Rg.one_no 9 87 false (by rfl) (by rfl) (by rfl) (by rfl)) ?_ rfl
    | refine Rg.build_cons (m := 13) (r := Rg.eq _) (Rg.one_yes 9 87 false (by rfl) (by rfl) (by rfl) (by rfl) (by (intro ax wx hk Kx hK; have k1 := hk.base 1 _ rfl rfl; have hj := hk.j; clear hk; obtain ⟨hq, -, -, hat⟩ := hj; obtain ⟨hqc, hqf, hql⟩ := hq.rules; obtain ⟨hgc, hgf, hgl2⟩ := hat.rules; clear hq hat; go_simp; refine hK _ _ ?_ (Below.refl _ _); apply Rg.mk))) ?_ rfl
  first
    | refine Rg.build_cons (m := 14) (Rg.one_no 9 87 false (by rfl) (by rfl) (by rfl) (by rfl)) ?_ rfl
    | refine Rg.build_cons (m := 14) (r := Rg.eq _) (Rg.one_yes 9 87 false (by rfl) (by rfl) (by rfl) (by rfl) (by (intro ax wx hk Kx hK; obtain ⟨v90, k90, h90⟩ := hk.dep 12 90 _ rfl rfl rfl; (first | (cases (h90 : v90 = _)) | (obtain ⟨rfl, h90⟩ := h90) | skip); have hj := hk.j; clear hk; obtain ⟨hq, -, -, hat⟩ := hj; obtain ⟨hqc, hqf, hql⟩ := hq.rules; obtain ⟨hgc, hgf, hgl2⟩ := hat.rules; clear hq hat; go_simp; refine hK _ _ ?_ (Below.refl _ _); apply Rg.mk))) ?_ rfl
  first
    | refine Rg.build_cons (m := 15) (Rg.one_no 9 87 false (by rfl) (by rfl) (by rfl) (by rfl)) ?_ rfl
    | refine Rg.build_cons (m := 15) (r := Rg.eq _) (Rg.one_yes 9 87 false (by rfl) (by rfl) (by rfl) (by rfl) (by (intro ax wx hk Kx hK; obtain ⟨v91, k91, h91⟩ := hk.dep 13 91 _ rfl rfl rfl; (first | (cases (h91 : v91 = _)) | (obtain ⟨rfl, h91⟩ := h91) | skip); have hj := hk.j; clear hk; obtain ⟨hq, -, -, hat⟩ := hj; obtain ⟨hqc, hqf, hql⟩ := hq.rules; obtain ⟨hgc, hgf, hgl2⟩ := hat.rules; clear hq hat; go_simp; refine hK _ _ ?_ (Below.refl _ _); apply Rg.mk))) ?_ rfl
  first
    | refine Rg.build_cons (m := 16) (Rg.one_no 9 87 false (by rfl) (by rfl) (by rfl) (by rfl)) ?_ rfl
    | refine Rg.build_cons (m := 16) (r := Rg.eq _) (Rg.one_yes 9 87 false (by rfl) (by rfl) (by rfl) (by rfl) (by (intro ax wx hk Kx hK; obtain ⟨v89, k89, h89⟩ := hk.dep 11 89 _ rfl rfl rfl; (first | (cases (h89 : v89 = _)) | (obtain ⟨rfl, h89⟩ := h89) | skip); obtain ⟨v92, k92, h92⟩ := hk.dep 14 92 _ rfl rfl rfl; (first | (cases (h92 : v92 = _)) | (obtain ⟨rfl, h92⟩ := h92) | skip); have hj := hk.j; clear hk; obtain ⟨hq, -, -, hat⟩ := hj; obtain ⟨hqc, hqf, hql⟩ := hq.rules; obtain ⟨hgc, hgf, hgl2⟩ := hat.rules; clear hq hat; go_simp; refine hK _ _ ?_ (Below.refl _ _); apply Rg.mk))) ?_ rfl
  refine Rg.build_cons (m := 17) (r := Rg.eq _) (Rg.one_plain (by rfl) (by (intro ax wx hk Kx hK; obtain ⟨v87, k87, h87⟩ := hk.dep 9 87 _ rfl rfl rfl; (first | (cases (h87 : v87 = _)) | (obtain ⟨rfl, h87⟩ := h87) | skip); obtain ⟨v93, k93, h93⟩ := hk.dep 15 93 _ rfl rfl rfl; (first | (cases (h93 : v93 = _)) | (obtain ⟨rfl, h93⟩ := h93) | skip); have hj := hk.j; clear hk; obtain ⟨hq, -, -, hat⟩ := hj; obtain ⟨hqc, hqf, hql⟩ := hq.rules; obtain ⟨hgc, hgf, hgl2⟩ := hat.rules; clear hq hat; go_simp; refine hK _ _ ?_ (Below.refl _ _); apply Rg.mk))) ?_ rfl
  refine Rg.build_end fun wx hj => ?_
  refine Rg.fin_eq rfl ?_
  refine Rg.fin_eq rfl ?_
  refine Rg.fin_eq rfl ?_
  refine Rg.fin_eq rfl ?_
  refine Rg.fin_eq rfl ?_
  first | refine Rg.fin_eq rfl ?_ | refine Rg.fin_any rfl fun v83 h83 => ?_
  refine Rg.fin_eq rfl ?_
  refine Rg.fin_eq rfl ?_
  refine Rg.fin_eq rfl ?_
  refine Rg.fin_eq rfl ?_
  refine Rg.fin_eq rfl ?_
  refine Rg.fin_eq rfl ?_
  refine Rg.fin_eq rfl ?_
  refine Rg.fin_eq rfl ?_
  refine Rg.fin_eq rfl ?_
  refine Rg.fin_eq rfl ?_
  refine Rg.fin_eq rfl ?_
  refine Rg.fin_nil ?_
  simp only [List.set_cons_zero, List.set_cons_succ]
  obtain ⟨hq, hr, hgr, hat⟩ := hj
  have HAT := Lib.hid hat; have HGR := Lib.hid hgr
  have hne : g ≠ w.heap.size + 1 + 1 := by omega
  obtain ⟨q0, q1, q2, q3, q4, q5, -⟩ := pc_cells hq
  obtain ⟨d0, d1, d2, d3, d4, d5, df⟩ := pc_cells hr
  clear hat hgr hq hr
  go_wp2
  refine bodyPost_ret (v := .tuple #[pcV L K Q R' W' C, .int .i64 1]) (by simp [results, Try.results30, go_sem, d0, d1, d2, d3, d4, d5]; try rfl) rfl ⟨rfl, ?_, ?_⟩
  · exact (((((HAT.out.far hne _).far hne _).far hne _).far hne _).far hne _).far hne _
  · exact gb_setNew (gb_setNew (gb_setNew (gb_setNew (gb_setNew (gb_setNew HGR.out (by simp; omega) _) (by simp; omega) _) (by simp; omega) _) (by simp; omega) _) (by simp; omega) _) (by simp; omega) _
end Go.Proofs.Ytklpjlcphikfaaa
