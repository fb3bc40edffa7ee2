/- The walk of PaceLeft. -/
import Derived.Test.YtklpjlcphikfaaaPacePlays
import Derived.Test.YtklpjlcphikfaaaRegX
set_option linter.unusedVariables false
set_option linter.unusedSimpArgs false
namespace Go.Proofs.Ytklpjlcphikfaaa
open Go.RowKit
theorem put6_cell {w : World} {g b o : Nat} {u : Value} {L K Q R W : Int} {C : Bool} (h : w.cell? ⟨b, o, none⟩ = some u) (hne : b ≠ g) : (put6 w g L K Q R W C).cell? ⟨b, o, none⟩ = some u := by
  have e : ∀ (w : World) (i : Nat) (x : Value), (w.setCell ⟨g, i, none⟩ x).cell? ⟨b, o, none⟩ = w.cell? ⟨b, o, none⟩ := fun w i x => World.cell?_setCell_other w _ _ x (fun e => hne (by injection e with e1; exact e1.symm))
  unfold put6; rw [e, e, e, e, e, e]; exact h
/-- a write, told in what was taken and what went -/
theorem write_left (l k q R W T V n : Int) (l1 : 1 ≤ l) (l2 : l ≤ 32) (q1 : q ≤ 1024) (hn2 : n ≤ 9223372036854775807) (hR : R = min T l) (hW : W = T - V - R) (hT : 0 ≤ T) (hW0 : 0 ≤ W) (hWq : W ≤ q) :
    ∃ R' W' c ev, (∀ w, Calls Try.prog 33 #[pcV l k q R W false, .int .i64 n] w fun e w' => e = .returned (.tuple #[pcV l k q R' W' false, .int .i64 c, ev]) ∧ Below w.heap.size w w') ∧
      0 ≤ c ∧ c ≤ 1056 ∧ c ≤ max n 0 ∧ R' = min (T + c) l ∧ W' = T + c - V - R' ∧ 0 ≤ W' ∧ W' ≤ q := by
  by_cases hn : n < 0
  · exact ⟨R, W, 0, _, fun w => paceWrite_neg l k q R W n false w hn, by omega, by omega, by omega, by omega, by omega, by omega, by omega⟩
  · exact ⟨_, _, _, _, fun w => paceWrite_open l k q R W n w l1 l2 (by omega) (by omega) hW0 hWq q1 (by omega) hn2, by omega, by omega, by omega, by omega, by omega, by omega, by omega⟩
/-- how many ticks -/
theorem ticks_end (N k j : Int) (hk : 1 ≤ k) (h : (0 < j ∧ (j - 1) * k < N ∧ N ≤ j * k) ∨ (j = 0 ∧ N = 0)) : (N + k - 1) / k = j := by
  rcases h with ⟨h0, h1, h2⟩ | ⟨rfl, rfl⟩
  · rw [Int.ediv_eq_iff_of_pos (by omega)]
    have : (j - 1) * k = j * k - k := by rw [Int.sub_mul]; omega
    omega
  · rw [Int.ediv_eq_zero_of_lt] <;> omega
theorem le_mul_pos (j k : Int) (hj : 0 ≤ j) (hk : 1 ≤ k) : j ≤ j * k := by
  have := Int.mul_le_mul_of_nonneg_left hk hj
  omega
theorem succ_mul' (j k : Int) : (j + 1) * k = j * k + k := by rw [Int.add_mul]; omega
set_option maxRecDepth 100000 in
set_option maxHeartbeats 4000000 in
theorem paceLeft_walk (l k q : Int) (v : Value) (ds : List (Int × Int)) (w : World) (h : RdD w v ds) :
    Calls Try.prog 9 #[.int .i64 l, .int .i64 k, .int .i64 q, v] w fun e w' => e = .returned (.bool true) ∧ Below w.heap.size w w' := by
  obtain ⟨A, c, rfl, hm⟩ := rdD_slice h
  have H := Lib.hid h; clear h
  by_cases hno : l < 1 ∨ 32 < l ∨ k < 1 ∨ 1024 < q ∨ q < k
  · have HNO := Lib.hid hno; clear hno
    go_enter Try.func9, Try.ntmps9
    go_wp2_with fail
    refine (up13_any _).mono ?_; rintro e w1 ⟨rfl, hb1⟩
    go_wp2_with fail
    refine (paceNew_no l k q _ HNO.out).mono ?_; rintro e w2 ⟨rfl, hb2⟩
    go_wp2_with fail
    go_returns
    exact ⟨rfl, (hb1.trans (hb2.mono hb1.size)).alloc (Nat.le_trans hb1.size hb2.size) _⟩
  · obtain ⟨l1, l2, k1, q1, kq⟩ : 1 ≤ l ∧ l ≤ 32 ∧ 1 ≤ k ∧ q ≤ 1024 ∧ k ≤ q := by omega
    clear hno
    by_cases hl : 100 < ds.length
    · go_enter Try.func9, Try.ntmps9
      go_wp2_with fail
      refine (up13_any _).mono ?_; rintro e w1 ⟨rfl, hb1⟩
      go_wp2_with fail
      refine (paceNew_yes l k q _ l1 l2 k1 q1 kq).mono ?_; rintro e w2 ⟨rfl, hb2⟩
      go_wp2_with fail
      go_returns
      exact ⟨rfl, (hb1.trans (hb2.mono hb1.size)).alloc (Nat.le_trans hb1.size hb2.size) _⟩
    · go_enter Try.func9, Try.ntmps9
      go_wp2_with fail
      refine (up13_any _).mono ?_; rintro e w1 ⟨rfl, hb1⟩
      go_wp2_with fail
      refine (paceNew_yes l k q _ l1 l2 k1 q1 kq).mono ?_; rintro e w2 ⟨rfl, hb2⟩
      have HP := Lib.hid (AtG.new w2 42 (pcC l k q 0 0 false))
      have HB := Lib.hid ((hb1.trans (hb2.mono hb1.size)).alloc (Nat.le_trans hb1.size hb2.size) (.cells (pcC l k q 0 0 false) 42))
      have hz2 : w.heap.size ≤ w2.heap.size := Nat.le_trans hb1.size hb2.size
      clear hb1 hb2
      go_wp2_with fail
      go_loopw [12, 13, 14] (fun t v i wr => ∃ (j : Nat) (T V R W : Int), j ≤ ds.length ∧ i = .int .i64 j ∧ t = .int .i64 T ∧ v = .int .i64 V ∧ 0 ≤ T ∧ T ≤ j * 1056 ∧ 0 ≤ V ∧ V ≤ j * 1024 ∧ R = min T l ∧ W = T - V - R ∧ 0 ≤ W ∧ W ≤ q ∧ AtG wr w2.heap.size 42 (pcC l k q R W false) ∧ Below w.heap.size w wr) (fun _ _ i _ => ds.length - (intOf i).toNat)
      case atStart => exact ⟨0, 0, 0, 0, 0, by omega, rfl, rfl, rfl, by omega, by omega, by omega, by omega, by omega, by omega, by omega, by omega, HP.out, HB.out⟩
      case round =>
        obtain ⟨j, T, V, R, W, hj, rfl, rfl, rfl, hT0, hT1, hV0, hV1, hR, hW, hW0, hW1, hq1, hb1⟩ := hrel
        have HQ1 := Lib.hid hq1; have HB1 := Lib.hid hb1; clear hq1 hb1
        have hR0 : 0 ≤ R := by omega
        have hR1 : R ≤ 32 := by omega
        have HR := Lib.hid hR; have HW := Lib.hid hW; clear hR hW HP HB
        have hT2 : T ≤ 105600 := by omega
        have hV2 : V ≤ 102400 := by omega
        by_cases hlt : j < ds.length
        · rcases H.out with ⟨h0, _⟩ | ⟨b, off, cap, hv, hcap, _, hc, hbd⟩
          · subst h0; simp at hlt
          · obtain ⟨rfl, -, rfl⟩ := Value.slice.inj hv
            obtain ⟨hc1, hc2⟩ := hc j hlt
            obtain ⟨b1, b2, b3, b4⟩ := hbd j
            have hbl := World.block_lt_of_cell? w _ hc1
            have e1 := (HB1.out.cell (p := ⟨b, off + j * 2, none⟩) hbl).trans hc1
            have e2 := (HB1.out.cell (p := ⟨b, off + j * 2 + 1, none⟩) hbl).trans hc2
            clear hc1 hc2 hc hbd hv
            generalize ds.getD j (0, 0) = d at *
            obtain ⟨x, n⟩ := d
            simp only at e1 e2 b1 b2 b3 b4
            obtain ⟨q0, q1', q2, q3, q4, q5, qf⟩ := pc_cells HQ1.out
            have hsr : w2.heap.size < wr.heap.size := HQ1.out.lt
            have hsb : w.heap.size ≤ wr.heap.size := HB1.out.size
            go_wp2_with fail
            go_call pick_any as e w3 ⟨rfl, rfl⟩
            by_cases hx : x % 4 = 2
            · rw [hx]
              clear hx
              obtain ⟨m, hmd⟩ : ∃ m, min k W = m := ⟨_, rfl⟩
              have hm0 : 0 ≤ m ∧ m ≤ k ∧ m ≤ W := by omega
              obtain ⟨m0, m1, m2⟩ := hm0
              obtain ⟨W2, hW2⟩ : ∃ W2, W2 = W - m := ⟨_, rfl⟩
              have hnw : W2 = T - (V + m) - R := by have := HW.out; omega
              have hw0 : 0 ≤ W2 := by omega
              have hw1 : W2 ≤ q := by omega
              have HTK : Hid (∀ w, Calls Try.prog 32 #[pcV l k q R W false] w fun e w' => e = .returned (.tuple #[pcV l k q R W2 false, .int .i64 m]) ∧ Below w.heap.size w w') := Lib.hid (fun w => by
                have := paceTick_any l k q R W false w k1 (by omega) hW0 (by omega)
                rw [hmd, ← hW2] at this; exact this)
              have c1 : (W2 != T - (V + m) - R) = false := by simpa using hnw
              have c2 : (R != if l < T then l else T) = false := by have := HR.out; simp only [bne_eq_false_iff_eq]; split <;> omega
              have HNW := Lib.hid hnw
              clear hmd hnw hW2
              go_wp2_with fail
              refine (HTK.out _).mono ?_; rintro e w4 ⟨rfl, hb4⟩
              have HQ4 := Lib.hid (HQ1.out.below hb4)
              have HB4 := Lib.hid (HB1.out.trans (hb4.mono hsb))
              have hs4 : w2.heap.size < w4.heap.size := Nat.lt_of_lt_of_le hsr hb4.size
              clear hb4 q0 q1' q2 q3 q4 q5 qf e1 e2
              obtain ⟨q0, q1', q2, q3, q4, q5, qf⟩ := pc_cells HQ4.out
              clear H HQ1 HB1 HTK HW b1 b2 b3 b4 hsr hsb hcap
              go_wp2_with fail
              exact ⟨⟨j + 1, T, V + m, R, W2, by omega, by go_num, rfl, rfl, hT0, by omega, by omega, by omega, HR.out, HNW.out, hw0, hw1, (put6_at (w := w4) (g := w2.heap.size) (L := l) (K := k) (Q := q) (R := R) (W := W2) (C := false) HQ4.out).alloc (.cells (pcC l k q R W2 false) 42), (put6_below (w := w4) (g := w2.heap.size) (L := l) (K := k) (Q := q) (R := R) (W := W2) (C := false) HB4.out hz2).alloc (by rw [put6_size]; exact HB4.out.size) (.cells (pcC l k q R W2 false) 42)⟩, by simp [intOf]; omega⟩
            · have hx2 : (x % 4 == 2) = false := by simpa using hx
              clear hx
              obtain ⟨R', W', c', ev, hcall, c0, c1, c2, hR', hW', w0, w1'⟩ := write_left l k q R W T V n l1 l2 q1 b4 HR.out HW.out hT0 hW0 hW1
              have HC := Lib.hid hcall; clear hcall
              have HR' := Lib.hid hR'; have HW' := Lib.hid hW'; clear hR' hW'
              have hR2 : 0 ≤ R' := by have := HR'.out; omega
              have hR3 : R' ≤ 32 := by have := HR'.out; omega
              have d1 : (W' != T + c' - V - R') = false := by simpa using HW'.out
              have d2 : (R' != if l < T + c' then l else T + c') = false := by have := HR'.out; simp only [bne_eq_false_iff_eq]; split <;> omega
              have d3 : c' ≤ if n < 0 then 0 else n := by split <;> omega
              go_wp2_with fail
              have HE2 : Hid (w3.cell? ⟨b, off + j * 2 + 1, none⟩ = some (.int .i64 n)) := Lib.hid e2
              clear e1 e2 q0 q1' q2 q3 q4 q5 qf
              refine RgX.start (by kernel_rfl) [(12, fun w1 w4 => ∃ g, w3.heap.size ≤ g ∧ AtG w1 g 42 (pcC 0 0 0 0 0 false) ∧ w4 = put6 w1 g l k q R' W' false)] [⟨fun w4 => AtG w4 w2.heap.size 42 (pcC l k q R W false), none⟩, ⟨fun w4 => Below w.heap.size w w4, none⟩, ⟨fun w4 => w4.cell? ⟨b, off + j * 2 + 1, none⟩ = some (.int .i64 n), none⟩, ⟨fun w4 => w3.heap.size ≤ w4.heap.size, none⟩] ⟨⟨fun _ _ h hb => h.below hb, ⟨fun _ _ => (fun w1 w4 h he => by obtain ⟨g, hg, -, rfl⟩ := he; exact put6_far h (by omega)), trivial⟩⟩, ⟨fun _ _ h hb => h.trans (hb.mono h.size), ⟨fun _ _ => (fun w1 w4 h he => by obtain ⟨g, hg, -, rfl⟩ := he; exact put6_below h (by omega)), trivial⟩⟩, ⟨fun _ _ h hb => (hb.cell (World.block_lt_of_cell? _ _ h)).trans h, ⟨fun _ _ => (fun w1 w4 h he => by obtain ⟨g, hg, -, rfl⟩ := he; exact put6_cell h (by omega)), trivial⟩⟩, ⟨fun _ _ h hb => Nat.le_trans h hb.size, ⟨fun _ _ => (fun w1 w4 h he => by obtain ⟨g, hg, -, rfl⟩ := he; show w3.heap.size ≤ (put6 w1 g l k q R' W' false).heap.size; rw [put6_size]; exact h), trivial⟩⟩, trivial⟩ (by kernel_rfl) (by kernel_rfl) ⟨HQ1.out.drew, HB1.out.drew, by simpa using HE2.out, Nat.le_refl _, trivial⟩ ?_
              show RgX.Build _ _ _ _ _ _ 0 [_, _, _, _, _, _, _, _, _, _, _, _, _, _, _] []
              refine RgX.build_cons (m := 1) (r := RgX.eq _) (RgX.one_plain (by rfl) (by (intro ax wx hk Kx hK; have k10 := hk.base 10 _ rfl rfl; have hp := hk.fact 0 0 _ rfl rfl; (try dsimp only at hp); have hB := hk.fact 1 0 _ rfl rfl; (try dsimp only at hB); have hx := hk.fact 2 0 _ rfl rfl; (try dsimp only at hx); have hz := hk.fact 3 0 _ rfl rfl; (try dsimp only at hz); clear hk; obtain ⟨q0, q1', q2, q3, q4, q5, qf⟩ := pc_cells hp; go_simp; refine hK _ _ (fun h => by cases h) (fun _ _ => ?_) (Below.refl _ _); apply RgX.mk))) ?_ rfl RgX.keep_eq (fun _ h => by cases h)
              refine RgX.build_cons (m := 2) (r := RgX.eq _) (RgX.one_plain (by rfl) (by (intro ax wx hk Kx hK; have k3 := hk.base 3 _ rfl rfl; have hp := hk.fact 0 0 _ rfl rfl; (try dsimp only at hp); have hB := hk.fact 1 0 _ rfl rfl; (try dsimp only at hB); have hx := hk.fact 2 0 _ rfl rfl; (try dsimp only at hx); have hz := hk.fact 3 0 _ rfl rfl; (try dsimp only at hz); clear hk; go_simp; refine hK _ _ (fun h => by cases h) (fun _ _ => ?_) (Below.refl _ _); apply RgX.mk))) ?_ rfl RgX.keep_eq (fun _ h => by cases h)
              refine RgX.build_cons (m := 3) (r := RgX.eq _) (RgX.one_plain (by rfl) (by (intro ax wx hk Kx hK; have k14 := hk.base 14 _ rfl rfl; have hp := hk.fact 0 0 _ rfl rfl; (try dsimp only at hp); have hB := hk.fact 1 0 _ rfl rfl; (try dsimp only at hB); have hx := hk.fact 2 0 _ rfl rfl; (try dsimp only at hx); have hz := hk.fact 3 0 _ rfl rfl; (try dsimp only at hz); clear hk; go_simp; refine hK _ _ (fun h => by cases h) (fun _ _ => ?_) (Below.refl _ _); apply RgX.mk))) ?_ rfl RgX.keep_eq (fun _ h => by cases h)
              refine RgX.build_cons (m := 4) (r := RgX.eq _) (RgX.one_plain (by rfl) (by (intro ax wx hk Kx hK; obtain ⟨v71, k71, h71⟩ := hk.dep 0 1 71 _ rfl rfl rfl; (first | (replace h71 := h71 9 undef rfl rfl; first | (cases (h71 : v71 = _)) | (obtain ⟨rfl, h71⟩ := h71) | skip) | skip); obtain ⟨v72, k72, h72⟩ := hk.dep 0 2 72 _ rfl rfl rfl; (first | (replace h72 := h72 9 undef rfl rfl; first | (cases (h72 : v72 = _)) | (obtain ⟨rfl, h72⟩ := h72) | skip) | skip); have hp := hk.fact 0 0 _ rfl rfl; (try dsimp only at hp); have hB := hk.fact 1 0 _ rfl rfl; (try dsimp only at hB); have hx := hk.fact 2 0 _ rfl rfl; (try dsimp only at hx); have hz := hk.fact 3 0 _ rfl rfl; (try dsimp only at hz); clear hk; go_simp; refine hK _ _ (fun h => by cases h) (fun _ _ => ?_) (Below.refl _ _); apply RgX.mk))) ?_ rfl RgX.keep_eq (fun _ h => by cases h)
              refine RgX.build_cons (m := 5) (r := RgX.eq _) (RgX.one_plain (by rfl) (by (intro ax wx hk Kx hK; obtain ⟨v73, k73, h73⟩ := hk.dep 0 3 73 _ rfl rfl rfl; (first | (replace h73 := h73 9 undef rfl rfl; first | (cases (h73 : v73 = _)) | (obtain ⟨rfl, h73⟩ := h73) | skip) | skip); have hp := hk.fact 0 0 _ rfl rfl; (try dsimp only at hp); have hB := hk.fact 1 0 _ rfl rfl; (try dsimp only at hB); have hx := hk.fact 2 0 _ rfl rfl; (try dsimp only at hx); have hz := hk.fact 3 0 _ rfl rfl; (try dsimp only at hz); clear hk; go_simp; refine hK _ _ (fun h => by cases h) (fun _ _ => ?_) (Below.refl _ _); apply RgX.mk))) ?_ rfl RgX.keep_eq (fun _ h => by cases h)
              refine RgX.build_cons (m := 6) (r := RgX.eq _) (RgX.one_plain (by rfl) (by (intro ax wx hk Kx hK; obtain ⟨v74, k74, h74⟩ := hk.dep 0 4 74 _ rfl rfl rfl; (first | (replace h74 := h74 9 undef rfl rfl; first | (cases (h74 : v74 = _)) | (obtain ⟨rfl, h74⟩ := h74) | skip) | skip); have hp := hk.fact 0 0 _ rfl rfl; (try dsimp only at hp); have hB := hk.fact 1 0 _ rfl rfl; (try dsimp only at hB); have hx := hk.fact 2 0 _ rfl rfl; (try dsimp only at hx); have hz := hk.fact 3 0 _ rfl rfl; (try dsimp only at hz); clear hk; go_simp; refine hK _ _ (fun h => by cases h) (fun _ _ => ?_) (Below.refl _ _); apply RgX.mk))) ?_ rfl RgX.keep_eq (fun _ h => by cases h)
              refine RgX.build_cons (m := 7) (r := RgX.eq _) (RgX.one_plain (by rfl) (by (intro ax wx hk Kx hK; obtain ⟨v70, k70, h70⟩ := hk.dep 0 0 70 _ rfl rfl rfl; (first | (replace h70 := h70 9 undef rfl rfl; first | (cases (h70 : v70 = _)) | (obtain ⟨rfl, h70⟩ := h70) | skip) | skip); obtain ⟨v75, k75, h75⟩ := hk.dep 0 5 75 _ rfl rfl rfl; (first | (replace h75 := h75 9 undef rfl rfl; first | (cases (h75 : v75 = _)) | (obtain ⟨rfl, h75⟩ := h75) | skip) | skip); have hp := hk.fact 0 0 _ rfl rfl; (try dsimp only at hp); have hB := hk.fact 1 0 _ rfl rfl; (try dsimp only at hB); have hx := hk.fact 2 0 _ rfl rfl; (try dsimp only at hx); have hz := hk.fact 3 0 _ rfl rfl; (try dsimp only at hz); clear hk; go_simp; refine (HC.out _).mono ?_; rintro e w' ⟨rfl, hb⟩; refine hK _ _ (fun h => by cases h) (fun _ _ => ?_) hb; apply RgX.mk))) ?_ rfl RgX.keep_eq (fun _ h => by cases h)
              refine RgX.build_cons (m := 8) (r := RgX.eq _) (RgX.one_plain (by rfl) (by (intro ax wx hk Kx hK; obtain ⟨v76, k76, h76⟩ := hk.dep 0 6 76 _ rfl rfl rfl; (first | (replace h76 := h76 9 undef rfl rfl; first | (cases (h76 : v76 = _)) | (obtain ⟨rfl, h76⟩ := h76) | skip) | skip); have hp := hk.fact 0 0 _ rfl rfl; (try dsimp only at hp); have hB := hk.fact 1 0 _ rfl rfl; (try dsimp only at hB); have hx := hk.fact 2 0 _ rfl rfl; (try dsimp only at hx); have hz := hk.fact 3 0 _ rfl rfl; (try dsimp only at hz); clear hk; go_simp; refine hK _ _ (fun h => by cases h) (fun _ _ => ?_) (Below.refl _ _); apply RgX.mk))) ?_ rfl RgX.keep_eq (fun _ h => by cases h)
              refine RgX.build_cons (m := 9) (r := RgX.eq _) (RgX.one_plain (by rfl) (by (intro ax wx hk Kx hK; obtain ⟨v69, k69, h69⟩ := hk.dep 0 7 69 _ rfl rfl rfl; (first | (replace h69 := h69 9 undef rfl rfl; first | (cases (h69 : v69 = _)) | (obtain ⟨rfl, h69⟩ := h69) | skip) | skip); have hp := hk.fact 0 0 _ rfl rfl; (try dsimp only at hp); have hB := hk.fact 1 0 _ rfl rfl; (try dsimp only at hB); have hx := hk.fact 2 0 _ rfl rfl; (try dsimp only at hx); have hz := hk.fact 3 0 _ rfl rfl; (try dsimp only at hz); clear hk; go_simp; refine hK _ _ (fun h => by cases h) (fun _ _ => ?_) (Below.refl _ _); apply RgX.mk))) ?_ rfl RgX.keep_eq (fun _ h => by cases h)
              refine RgX.build_cons (m := 10) (r := RgX.eq _) (RgX.one_plain (by rfl) (by (intro ax wx hk Kx hK; obtain ⟨v69, k69, h69⟩ := hk.dep 0 7 69 _ rfl rfl rfl; (first | (replace h69 := h69 9 undef rfl rfl; first | (cases (h69 : v69 = _)) | (obtain ⟨rfl, h69⟩ := h69) | skip) | skip); have hp := hk.fact 0 0 _ rfl rfl; (try dsimp only at hp); have hB := hk.fact 1 0 _ rfl rfl; (try dsimp only at hB); have hx := hk.fact 2 0 _ rfl rfl; (try dsimp only at hx); have hz := hk.fact 3 0 _ rfl rfl; (try dsimp only at hz); clear hk; go_simp; refine hK _ _ (fun h => by cases h) (fun _ _ => ?_) (Below.refl _ _); apply RgX.mk))) ?_ rfl RgX.keep_eq (fun _ h => by cases h)
              refine RgX.build_cons (m := 11) (r := RgX.eq _) (RgX.one_plain (by rfl) (by (intro ax wx hk Kx hK; obtain ⟨v69, k69, h69⟩ := hk.dep 0 7 69 _ rfl rfl rfl; (first | (replace h69 := h69 9 undef rfl rfl; first | (cases (h69 : v69 = _)) | (obtain ⟨rfl, h69⟩ := h69) | skip) | skip); have hp := hk.fact 0 0 _ rfl rfl; (try dsimp only at hp); have hB := hk.fact 1 0 _ rfl rfl; (try dsimp only at hB); have hx := hk.fact 2 0 _ rfl rfl; (try dsimp only at hx); have hz := hk.fact 3 0 _ rfl rfl; (try dsimp only at hz); clear hk; go_simp; refine hK _ _ (fun h => by cases h) (fun _ _ => ?_) (Below.refl _ _); apply RgX.mk))) ?_ rfl RgX.keep_eq (fun _ h => by cases h)
              refine RgX.build_cons (m := 12) (r := (⟨fun v _ w4 => ∃ g, v = .pointer (some ⟨g, 0, none⟩) ∧ w3.heap.size ≤ g ∧ AtG w4 g 42 (pcC 0 0 0 0 0 false), some 12, none⟩ : RgX.Rl)) (RgX.one_plain (by rfl) (by (intro ax wx hk Kx hK; have hp := hk.fact 0 0 _ rfl rfl; (try dsimp only at hp); have hB := hk.fact 1 0 _ rfl rfl; (try dsimp only at hB); have hx := hk.fact 2 0 _ rfl rfl; (try dsimp only at hx); have hz := hk.fact 3 0 _ rfl rfl; (try dsimp only at hz); clear hk; (go_simp; exact hK _ _ (fun h => by cases h) (fun u _ => ⟨wx.heap.size, rfl, hz, AtG.new _ _ _⟩) ((Below.refl _ _).alloc (Nat.le_refl _) _))))) ?_ rfl (RgX.keep_r (fun _ _ _ _ h hb => by obtain ⟨g, h1, h2, h3⟩ := h; exact ⟨g, h1, h2, h3.below hb⟩) (fun _ _ => ⟨fun _ h => absurd rfl h, trivial⟩)) (fun _ h => by cases h)
              refine RgX.build_cons (m := 13) (r := (⟨fun _ u w4 => ∃ g, u = .pointer (some ⟨g, 0, none⟩) ∧ w3.heap.size ≤ g ∧ AtG w4 g 42 (pcC l k q R' W' false), none, some 11⟩ : RgX.Rl)) (RgX.one_plain (by rfl) (by (intro ax wx hk Kx hK; obtain ⟨v17, k17, h17⟩ := hk.dep 0 11 17 _ rfl rfl rfl; (first | (replace h17 := h17 9 undef rfl rfl; first | (cases (h17 : v17 = _)) | (obtain ⟨rfl, h17⟩ := h17) | skip) | skip); obtain ⟨v77, k77, h77⟩ := hk.dep 0 8 77 _ rfl rfl rfl; (first | (replace h77 := h77 9 undef rfl rfl; first | (cases (h77 : v77 = _)) | (obtain ⟨rfl, h77⟩ := h77) | skip) | skip); have hp := hk.fact 0 0 _ rfl rfl; (try dsimp only at hp); have hB := hk.fact 1 0 _ rfl rfl; (try dsimp only at hB); have hx := hk.fact 2 0 _ rfl rfl; (try dsimp only at hx); have hz := hk.fact 3 0 _ rfl rfl; (try dsimp only at hz); clear hk; (obtain ⟨g, rfl, hg0, hg1⟩ := h17; obtain ⟨d0, d1, d2, d3, d4, d5, df⟩ := pc_cells hg1; go_simp; refine hK undef _ (fun _ => rfl) (fun u hu => ?_) ⟨g, hg0, hg1, rfl⟩; obtain ⟨t, ht, hu⟩ := hu; cases ht; rw [k17] at hu; cases hu; exact ⟨g, rfl, hg0, put6_at hg1⟩)))) ?_ rfl (RgX.keep_r (fun _ _ _ _ h hb => by obtain ⟨g, h1, h2, h3⟩ := h; exact ⟨g, h1, h2, h3.below hb⟩) (fun _ _ => ⟨fun h _ => absurd rfl h, trivial⟩)) (fun j h => by cases h; exact ⟨0, rfl⟩)
              refine RgX.build_cons (m := 14) (r := RgX.eq _) (RgX.one_plain (by rfl) (by (intro ax wx hk Kx hK; obtain ⟨v78, k78, h78⟩ := hk.dep 0 9 78 _ rfl rfl rfl; (first | (replace h78 := h78 9 undef rfl rfl; first | (cases (h78 : v78 = _)) | (obtain ⟨rfl, h78⟩ := h78) | skip) | skip); have hp := hk.fact 0 0 _ rfl rfl; (try dsimp only at hp); have hB := hk.fact 1 0 _ rfl rfl; (try dsimp only at hB); have hx := hk.fact 2 0 _ rfl rfl; (try dsimp only at hx); have hz := hk.fact 3 0 _ rfl rfl; (try dsimp only at hz); clear hk; go_simp; refine hK _ _ (fun h => by cases h) (fun _ _ => ?_) (Below.refl _ _); apply RgX.mk))) ?_ rfl RgX.keep_eq (fun _ h => by cases h)
              refine RgX.build_cons (m := 15) (r := RgX.eq _) (RgX.one_plain (by rfl) (by (intro ax wx hk Kx hK; obtain ⟨v79, k79, h79⟩ := hk.dep 0 10 79 _ rfl rfl rfl; (first | (replace h79 := h79 9 undef rfl rfl; first | (cases (h79 : v79 = _)) | (obtain ⟨rfl, h79⟩ := h79) | skip) | skip); have hp := hk.fact 0 0 _ rfl rfl; (try dsimp only at hp); have hB := hk.fact 1 0 _ rfl rfl; (try dsimp only at hB); have hx := hk.fact 2 0 _ rfl rfl; (try dsimp only at hx); have hz := hk.fact 3 0 _ rfl rfl; (try dsimp only at hz); clear hk; go_simp; refine hK _ _ (fun h => by cases h) (fun _ _ => ?_) (Below.refl _ _); apply RgX.mk))) ?_ rfl RgX.keep_eq (fun _ h => by cases h)
              refine RgX.build_end fun wx hj => ?_
              have hp := hj 0 _ rfl rfl
              have hB := hj 1 _ rfl rfl
              have hx := hj 2 _ rfl rfl
              have hz := hj 3 _ rfl rfl
              clear hj
              refine RgX.fin_eq rfl ?_
              refine RgX.fin_eq rfl ?_
              refine RgX.fin_eq rfl ?_
              refine RgX.fin_eq rfl ?_
              refine RgX.fin_eq rfl ?_
              refine RgX.fin_eq rfl ?_
              refine RgX.fin_eq rfl ?_
              refine RgX.fin_eq rfl ?_
              refine RgX.fin_eq rfl ?_
              refine RgX.fin_eq rfl ?_
              refine RgX.fin_eq rfl ?_
              first | refine RgX.fin_eq rfl ?_ | refine RgX.fin_any rfl fun v17 h17 => ?_
              refine RgX.fin_none rfl fun s12 => ?_
              refine RgX.fin_eq rfl ?_
              refine RgX.fin_eq rfl ?_
              refine RgX.fin_nil ?_
              simp only [List.set_cons_zero, List.set_cons_succ]
              clear h17
              obtain ⟨g, rfl, hg0, hg1⟩ := s12 rfl _ ⟨17, rfl, rfl⟩
              clear s12
              have HP4 := Lib.hid hp; have HB4 := Lib.hid hB; have HG4 := Lib.hid hg1
              have hgn : g ≠ w2.heap.size := by omega
              obtain ⟨n0, n1, n2, n3, n4, n5, -⟩ := pc_cells hg1
              obtain ⟨q0, q1', q2, q3, q4, q5, qf⟩ := pc_cells hp
              clear hp hB hg1 H HC HB1 HQ1 b1 b2
              go_wp2_with fail
              exact ⟨⟨j + 1, T + c', V, R', W', by omega, by go_num, rfl, rfl, by omega, by omega, hV0, by omega, HR'.out, HW'.out, w0, w1', put6_at (w := wx) (g := w2.heap.size) (L := l) (K := k) (Q := q) (R := R') (W := W') (C := false) HP4.out, put6_below (w := wx) (g := w2.heap.size) (L := l) (K := k) (Q := q) (R := R') (W := W') (C := false) HB4.out hz2⟩, by simp [intOf]; omega⟩
        · obtain ⟨q0, q1', q2, q3, q4, q5, qf⟩ := pc_cells HQ1.out
          obtain ⟨N, hN⟩ : ∃ N, N = T - V := ⟨_, rfl⟩
          have hN0 : 0 ≤ N ∧ N ≤ 1056 := by have := HW.out; omega
          obtain ⟨hN1, hN2⟩ := hN0
          have HCL : Hid (∀ w, Calls Try.prog 34 #[pcV l k q R W false] w fun e w' => e = .returned (.tuple #[pcV l k q 0 N true, .nilIface]) ∧ Below w.heap.size w w') := Lib.hid (fun w => by
            have h1 := paceClose_open l k q R W w hR0 (by omega) hW0 (by omega)
            rw [show W + R = N from by have := HW.out; omega] at h1; exact h1)
          have c1 : (N != T - V) = false := by simpa using hN
          clear hN
          go_wp2_with fail
          refine (HCL.out _).mono ?_; rintro e w4 ⟨rfl, hb4⟩
          have hQ4 := HQ1.out.below hb4
          have HQ4 := Lib.hid hQ4
          have HB4 := Lib.hid (HB1.out.trans (hb4.mono HB1.out.size))
          clear hb4 q0 q1' q2 q3 q4 q5 qf HQ1 HB1 H HCL
          obtain ⟨q0, q1', q2, q3, q4, q5, qf⟩ := pc_cells hQ4
          clear hQ4
          go_wp2_with fail
          go_loopw [20] (fun t wr => ∃ (i : Nat) (r P : Int), t = .int .i64 i ∧ P = (i : Int) * k ∧ 0 ≤ r ∧ r ≤ 1056 ∧ ((0 < r ∧ N = P + r) ∨ (r = 0 ∧ ((0 < (i : Int) ∧ P - k < N ∧ N ≤ P) ∨ ((i : Int) = 0 ∧ N = 0)))) ∧ (i : Int) ≤ 1056 ∧ AtG wr w2.heap.size 42 (pcC l k q 0 r true) ∧ Below w.heap.size w wr) (fun t _ => 2000 - (intOf t).toNat)
          case atStart => exact ⟨0, N, 0, rfl, by simp, hN1, hN2, by omega, by omega, put6_at (w := w4) (g := w2.heap.size) (L := l) (K := k) (Q := q) (R := 0) (W := N) (C := true) HQ4.out, put6_below (w := w4) (g := w2.heap.size) (L := l) (K := k) (Q := q) (R := 0) (W := N) (C := true) HB4.out hz2⟩
          case round =>
            obtain ⟨i, r, P, rfl, hP, hr0, hr1, hcase, hi1, hq5, hb5⟩ := hrel
            have HQ5 := Lib.hid hq5; have HB5 := Lib.hid hb5; have HP5 := Lib.hid hP; have HCA := Lib.hid hcase
            clear hb5 hP hcase q0 q1' q2 q3 q4 q5 qf HQ4 HB4 c1
            obtain ⟨q0, q1', q2, q3, q4, q5, qf⟩ := pc_cells hq5
            clear hq5
            by_cases hr : 0 < r
            · obtain ⟨m, hmd⟩ : ∃ m, min k r = m := ⟨_, rfl⟩
              obtain ⟨r2, hr2⟩ : ∃ r2, r2 = r - m := ⟨_, rfl⟩
              have HTK : Hid (∀ w, Calls Try.prog 32 #[pcV l k q 0 r true] w fun e w' => e = .returned (.tuple #[pcV l k q 0 r2 true, .int .i64 m]) ∧ Below w.heap.size w w') := Lib.hid (fun w => by
                have h1 := paceTick_any l k q 0 r true w k1 (by omega) hr0 (by omega)
                rw [hmd, ← hr2] at h1; exact h1)
              have c3 : (m != if r < k then r else k) = false := by simp only [bne_eq_false_iff_eq]; split <;> omega
              have hNEW : 0 ≤ r2 ∧ r2 ≤ 1056 ∧ ((0 < r2 ∧ N = (P + k) + r2) ∨ (r2 = 0 ∧ ((0 < ((i + 1 : Nat) : Int) ∧ (P + k) - k < N ∧ N ≤ P + k) ∨ (((i + 1 : Nat) : Int) = 0 ∧ N = 0)))) ∧ ((i + 1 : Nat) : Int) ≤ 1056 := by
                have h1 := HCA.out
                have h2 := le_mul_pos (i : Int) k (by omega) k1
                have h3 := HP5.out
                omega
              have HNEW := Lib.hid hNEW
              have HPK := Lib.hid (show P + k = ((i + 1 : Nat) : Int) * k from by have h3 := HP5.out; rw [show ((i + 1 : Nat) : Int) = (i : Int) + 1 from by omega, succ_mul', h3])
              clear hmd hr2 hNEW
              go_wp2_with fail
              refine (HTK.out _).mono ?_; rintro e w6 ⟨rfl, hb6⟩
              have hs6 : w2.heap.size < w6.heap.size := Nat.lt_of_lt_of_le HQ5.out.lt hb6.size
              have hQ6 := HQ5.out.below hb6
              have HQ6 := Lib.hid hQ6
              have HB6 := Lib.hid (HB5.out.trans (hb6.mono HB5.out.size))
              clear hb6 q0 q1' q2 q3 q4 q5 qf HQ5 HB5 HTK
              obtain ⟨q0, q1', q2, q3, q4, q5, qf⟩ := pc_cells hQ6
              clear hQ6
              go_wp2_with fail
              exact ⟨⟨i + 1, r2, P + k, by go_num, HPK.out, HNEW.out.1, HNEW.out.2.1, HNEW.out.2.2.1, HNEW.out.2.2.2, (put6_at (w := w6) (g := w2.heap.size) (L := l) (K := k) (Q := q) (R := 0) (W := r2) (C := true) HQ6.out).alloc _, (put6_below (w := w6) (g := w2.heap.size) (L := l) (K := k) (Q := q) (R := 0) (W := r2) (C := true) HB6.out hz2).alloc (by rw [put6_size]; exact HB6.out.size) _⟩, by simp [intOf]; omega⟩
            · have hEND : (N + k - 1) / k = (i : Int) := ticks_end N k i k1 (by
                have h1 := HCA.out; have h3 := HP5.out
                have h4 : ((i : Int) - 1) * k = (i : Int) * k - k := by rw [Int.sub_mul]; omega
                rw [h4, ← h3]; omega)
              have HEND := Lib.hid hEND
              clear hEND
              go_wp2_with fail
              go_returns
              exact ⟨ret_bool (by rw [HEND.out]; simp), HB5.out⟩
end Go.Proofs.Ytklpjlcphikfaaa
