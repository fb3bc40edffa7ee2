/- The document's Reader: peek and next of any place; Digits, Words, wide. -/
import Derived.Test.YtgjcibhhffkemaaGreatDoorPf1
set_option linter.unusedVariables false
set_option linter.unusedSimpArgs false
namespace Go.Proofs.YtgjcibhhffkemaaGreatDoor
open Go.RowKit Bt
/-- what is read stands in the reader's cells -/
def StR {α : Type} (s : ByteArray) (g : Nat) (o x : Int) (r : Re α) (w : World) : Prop :=
  match r with | .ok _ q => AtG w g 114 (rdr s (q : Int) o 0 x) | .no c y => ∃ p, AtG w g 114 (rdr s p o c (y : Int))
theorem peek_any (g : Nat) (s : ByteArray) (p : Nat) (o x : Int) (w : World) (h : AtG w g 114 (rdr s p o 0 x)) :
    Calls Tryz.prog 69 #[.pointer (some ⟨g, 0, none⟩)] w fun e w' => e = .returned (.int .i64 (ch s p)) ∧ Below w.heap.size w w' := by
  rcases Nat.lt_or_ge p s.size with h1 | h1
  · rw [ch_in h1]; exact peek_in g s p o x w h h1
  · rw [ch_end h1]; exact peek_end g s p o x w h (by omega)
theorem next_ch (g : Nat) (s : ByteArray) (p : Nat) (o x : Int) (w : World) (h : AtG w g 114 (rdr s p o 0 x)) (hc : 0 ≤ ch s p) (hm : s.size ≤ 140737488355328) :
    Calls Tryz.prog 97 #[.pointer (some ⟨g, 0, none⟩)] w fun e w' => e = .returned (.int .i64 (ch s p)) ∧ AtG w' g 114 (rdr s ((p + 1 : Nat) : Int) o 0 x) ∧ Only (fun k => k = g) w w' := by
  have h1 := ch_ge hc
  rw [ch_in h1]
  have := next_in g s p o x w h h1 hm
  rw [show ((p : Int) + 1) = ((p + 1 : Nat) : Int) from by omega] at this
  exact this
theorem next_no (g : Nat) (s : ByteArray) (p : Nat) (o x : Int) (w : World) (h : AtG w g 114 (rdr s p o 0 x)) (hp : p ≤ s.size) (hc : ch s p < 0) :
    Calls Tryz.prog 97 #[.pointer (some ⟨g, 0, none⟩)] w fun e w' => e = .returned (.int .i64 (-1)) ∧ AtG w' g 114 (rdr s p o 2 (p : Int)) ∧ Only (fun k => k = g) w w' := by
  have h1 : s.size ≤ p := by
    rcases Nat.lt_or_ge p s.size with h1 | h1
    · have := ch_pos h1; omega
    · exact h1
  obtain rfl : p = s.size := by omega
  exact next_end g s s.size o x w h (by omega)
theorem below_set4 {B : Nat} {w w1 : World} (h : Below B w w1) (g : Nat) (hg : B ≤ g) (a b c d : Value) : Below B w ((((w1.setCell ⟨g, 0, none⟩ a).setCell ⟨g, 1, none⟩ b).setCell ⟨g, 2, none⟩ c).setCell ⟨g, 3, none⟩ d) :=
  (((h.setCell hg _).setCell hg _).setCell hg _).setCell hg _
theorem digits_any (w : World) : Calls Tryz.prog 129 #[] w fun e w' => e = .returned (setOf digF) ∧ Below w.heap.size w w' := by
  have hr := fun w => refRange_any 48 57 w (by omega) (by omega) (by omega) (by omega)
  have hd : setOf (rngF (48 : Int).toNat ((57 : Int).toNat + 1)) = setOf digF := rfl
  rw [hd] at hr
  have HR := Lib.hid hr; clear hr hd
  have HA := Lib.hid (AtG.new w 38 (setC 0 0 0 0))
  have HB := Lib.hid ((Below.refl w.heap.size w).alloc (Nat.le_refl _) (.cells (setC 0 0 0 0) 38))
  go_enter Tryz.func129, Tryz.ntmps129
  go_wp2_with fail
  refine (HR.out _).mono ?_
  rintro e9 w9 ⟨rfl, hw9⟩
  have HA9 := Lib.hid (HA.out.below hw9)
  have d0 := (HA9.out).cell 0 _ rfl; have d1 := (HA9.out).cell 1 _ rfl; have d2 := (HA9.out).cell 2 _ rfl; have d3 := (HA9.out).cell 3 _ rfl
  have f0 := (HA9.out).frozen 0; have f1 := (HA9.out).frozen 1; have f2 := (HA9.out).frozen 2; have f3 := (HA9.out).frozen 3
  have HB9 := Lib.hid (HB.out.trans (hw9.mono HB.out.size))
  clear hw9
  unfold setOf
  go_wp2_with fail
  refine bodyPost_ret (v := setOf digF) (by simp [results, Tryz.results129, go_sem, d0, d1, d2, d3]; try rfl) rfl ⟨rfl, ?_⟩
  exact below_set4 HB9.out _ (Nat.le_refl _) _ _ _ _
/-- a set stored over a whole block -/
def putS (w : World) (g : Nat) (f : Nat → Bool) : World := (((w.setCell ⟨g, 0, none⟩ (.int .u64 ((wd f 0 : Nat) : Int))).setCell ⟨g, 1, none⟩ (.int .u64 ((wd f 1 : Nat) : Int))).setCell ⟨g, 2, none⟩ (.int .u64 ((wd f 2 : Nat) : Int))).setCell ⟨g, 3, none⟩ (.int .u64 ((wd f 3 : Nat) : Int))
theorem putS_at {w : World} {g T : Nat} {a b c d : Value} (h : AtG w g T #[a, b, c, d]) (f : Nat → Bool) : AtG (putS w g f) g T (cellsOf f) := (((h.set 0 _).set 1 _).set 2 _).set 3 _
theorem putS_far {w : World} {g g' T : Nat} {cs : Array Value} (h : AtG w g' T cs) (hg : g' ≠ g) (f : Nat → Bool) : AtG (putS w g f) g' T cs := (((h.far hg _).far hg _).far hg _).far hg _
theorem putS_size (w : World) (g : Nat) (f : Nat → Bool) : (putS w g f).heap.size = w.heap.size := by simp [putS]
theorem putS_below {B : Nat} {w w1 : World} (h : Below B w w1) {g : Nat} (hg : B ≤ g) (f : Nat → Bool) : Below B w (putS w1 g f) := below_set4 h g hg _ _ _ _
theorem putS_only {S : Nat → Prop} (w : World) {g : Nat} (hg : S g) (f : Nat → Bool) : Only S w (putS w g f) :=
  have h : ∀ (w : World) i v, Only S w (w.setCell ⟨g, i, none⟩ v) := fun w i v => Only.set w g i v hg
  (((h _ _ _).trans (h _ _ _) (fun _ h => .inl h)).trans (h _ _ _) (fun _ h => .inl h)).trans (h _ _ _) (fun _ h => .inl h)
/-- a slice of one byte -/
theorem refOf_one (w : World) (g : Nat) (c : Nat) (hc : c < 256) (h : AtG w g 5 #[.int .u8 (c : Int)]) :
    Calls Tryz.prog 72 #[.slice (some ⟨g, 0, none⟩) 1 1] w fun e w' => e = .returned (setOf fun y => y == c) ∧ Below w.heap.size w w' := by
  have hr : RdB w (.slice (some ⟨g, 0, none⟩) 1 1) [(c : Int)] := rdB_cells [(c : Int)] h (Nat.le_refl _) (by simp) (by intro x hx; simp at hx; subst hx; omega)
  have := refOf_any _ _ w hr
  rw [show setOf (memF [(c : Int)]) = setOf (fun y => y == c) from setOf_ext fun x hx => by
    unfold memF; rw [Bool.eq_iff_iff]; simp; omega] at this
  exact this
set_option maxRecDepth 100000 in
theorem words_any (w : World) : Calls Tryz.prog 130 #[] w fun e w' => e = .returned (setOf wordF) ∧ Below w.heap.size w w' := by
  have HD := Lib.hid digits_any
  have HF1 := Lib.hid (fun w => refRange_any 97 122 w (by omega) (by omega) (by omega) (by omega))
  have HF2 := Lib.hid (fun w => refRange_any 65 90 w (by omega) (by omega) (by omega) (by omega))
  have HA := Lib.hid (AtG.new w 38 (setC 0 0 0 0))
  have HB := Lib.hid ((Below.refl w.heap.size w).alloc (Nat.le_refl _) (.cells (setC 0 0 0 0) 38))
  go_enter Tryz.func130, Tryz.ntmps130
  go_wp2_with fail
  refine (HD.out _).mono ?_
  rintro e9 w1 ⟨rfl, hw⟩
  have HA1 := Lib.hid (HA.out.below hw)
  have HB1 := Lib.hid (HB.out.trans (hw.mono HB.out.size))
  clear hw HA HB
  go_wp2_with fail
  refine (refOf_one _ w1.heap.size 95 (by decide) (AtG.new w1 _ _)).mono ?_
  rintro e9 w2 ⟨rfl, hw⟩
  have HA2 := Lib.hid ((HA1.out.alloc _).below hw)
  have HB2 := Lib.hid ((HB1.out.alloc HB1.out.size (.cells #[.int .u8 95] 5)).trans (hw.mono (by have := HB1.out.size; simp; omega)))
  clear hw HA1 HB1
  go_wp2_with fail
  refine (refOr_any _ _ _).mono ?_
  rintro e9 w3 ⟨rfl, hw⟩
  have HA3 := Lib.hid (HA2.out.below hw)
  have HB3 := Lib.hid (HB2.out.trans (hw.mono HB2.out.size))
  clear hw HA2 HB2
  unfold setOf
  go_upto_region 2 with (fail)
  have HA4 := Lib.hid (HA3.out.alloc (.cells (cellsOf fun x => digF x || x == 95) 38))
  have HG4 : Hid (AtG (w3.alloc (.cells (cellsOf fun x => digF x || x == 95) 38)) w3.heap.size 38 (cellsOf fun x => digF x || x == 95)) := Lib.hid (AtG.new w3 _ _)
  have HB4 := Lib.hid (HB3.out.alloc HB3.out.size (.cells (cellsOf fun x => digF x || x == 95) 38))
  have hne : w3.heap.size ≠ w.heap.size := by have := HA3.out.lt; omega
  refine RgX.start (by kernel_rfl) [(5, fun w5 w6 => ∃ f, w6 = putS w5 w.heap.size f)] [⟨fun w5 => AtG w5 w3.heap.size 38 (cellsOf fun x => digF x || x == 95) ∧ Below w.heap.size w w5, none⟩, ⟨fun w5 => AtG w5 w.heap.size 38 (setC 0 0 0 0), some 5⟩] ⟨⟨fun _ _ h hb => ⟨h.1.below hb, h.2.trans (hb.mono h.2.size)⟩, ⟨fun _ _ _ _ => (fun w5 w6 h he => by obtain ⟨f, rfl⟩ := he; exact ⟨putS_far h.1 hne _, putS_below h.2 (Nat.le_refl _) _⟩), trivial⟩⟩, ⟨fun _ _ h hb => h.below hb, ⟨fun _ h _ _ => absurd rfl h, trivial⟩⟩, trivial⟩ (by kernel_rfl) (by kernel_rfl) ⟨⟨HG4.out.drew, HB4.out.drew⟩, HA4.out.drew, trivial⟩ ?_
  show RgX.Build _ _ _ _ _ _ 0 [_, _, _, _, _, _] []
  refine RgX.build_cons (m := 1) (r := RgX.eq _) (RgX.one_plain (by rfl) (by (intro ax wx hk Kx hK; have k1 := hk.base 1 _ rfl rfl; have hg := hk.fact 0 0 _ rfl rfl; (try dsimp only at hg); have ha := hk.fact 1 1 _ rfl rfl; (try dsimp only at ha); clear hk; have z0 := hg.1.cell 0 _ rfl; have z1 := hg.1.cell 1 _ rfl; have z2 := hg.1.cell 2 _ rfl; have z3 := hg.1.cell 3 _ rfl; go_simp; refine hK _ _ (fun h => by cases h) (fun _ _ => ?_) (Below.refl _ _); apply RgX.mk))) ?_ rfl RgX.keep_eq (fun _ h => by cases h)
  refine RgX.build_cons (m := 2) (r := RgX.eq _) (RgX.one_plain (by rfl) (by (intro ax wx hk Kx hK; have hg := hk.fact 0 0 _ rfl rfl; (try dsimp only at hg); have ha := hk.fact 1 1 _ rfl rfl; (try dsimp only at ha); clear hk; go_simp; refine (HF1.out _).mono ?_; rintro e w' ⟨rfl, hb⟩; refine hK _ _ (fun h => by cases h) (fun _ _ => ?_) hb; apply RgX.mk))) ?_ rfl RgX.keep_eq (fun _ h => by cases h)
  refine RgX.build_cons (m := 3) (r := RgX.eq _) (RgX.one_plain (by rfl) (by (intro ax wx hk Kx hK; have hg := hk.fact 0 0 _ rfl rfl; (try dsimp only at hg); have ha := hk.fact 1 1 _ rfl rfl; (try dsimp only at ha); clear hk; go_simp; refine (HF2.out _).mono ?_; rintro e w' ⟨rfl, hb⟩; refine hK _ _ (fun h => by cases h) (fun _ _ => ?_) hb; apply RgX.mk))) ?_ rfl RgX.keep_eq (fun _ h => by cases h)
  refine RgX.build_cons (m := 4) (r := RgX.eq _) (RgX.one_plain (by rfl) (by (intro ax wx hk Kx hK; obtain ⟨v7, k7, h7⟩ := hk.dep 0 1 7 _ rfl rfl rfl; (first | (replace h7 := h7 9 undef rfl rfl; first | (cases (h7 : v7 = _)) | (obtain ⟨rfl, h7⟩ := h7) | skip) | skip); obtain ⟨v8, k8, h8⟩ := hk.dep 0 2 8 _ rfl rfl rfl; (first | (replace h8 := h8 9 undef rfl rfl; first | (cases (h8 : v8 = _)) | (obtain ⟨rfl, h8⟩ := h8) | skip) | skip); have hg := hk.fact 0 0 _ rfl rfl; (try dsimp only at hg); have ha := hk.fact 1 1 _ rfl rfl; (try dsimp only at ha); clear hk; go_simp; refine (refOr_any _ _ _).mono ?_; rintro e w' ⟨rfl, hb⟩; refine hK _ _ (fun h => by cases h) (fun _ _ => ?_) hb; apply RgX.mk))) ?_ rfl RgX.keep_eq (fun _ h => by cases h)
  refine RgX.build_cons (m := 5) (r := RgX.eq _) (RgX.one_plain (by rfl) (by (intro ax wx hk Kx hK; obtain ⟨v6, k6, h6⟩ := hk.dep 0 0 6 _ rfl rfl rfl; (first | (replace h6 := h6 9 undef rfl rfl; first | (cases (h6 : v6 = _)) | (obtain ⟨rfl, h6⟩ := h6) | skip) | skip); obtain ⟨v9, k9, h9⟩ := hk.dep 0 3 9 _ rfl rfl rfl; (first | (replace h9 := h9 9 undef rfl rfl; first | (cases (h9 : v9 = _)) | (obtain ⟨rfl, h9⟩ := h9) | skip) | skip); have hg := hk.fact 0 0 _ rfl rfl; (try dsimp only at hg); have ha := hk.fact 1 1 _ rfl rfl; (try dsimp only at ha); clear hk; go_simp; refine (refOr_any (fun x => digF x || x == 95) _ _).mono ?_; rintro e w' ⟨rfl, hb⟩; refine hK _ _ (fun h => by cases h) (fun _ _ => ?_) hb; apply RgX.mk))) ?_ rfl RgX.keep_eq (fun _ h => by cases h)
  refine RgX.build_cons (m := 6) (r := (⟨fun _ _ w5 => AtG w5 w.heap.size 38 (cellsOf wordF), none, none⟩ : RgX.Rl)) (RgX.one_plain (by rfl) (by (intro ax wx hk Kx hK; have k0 := hk.base 0 _ rfl rfl; obtain ⟨v10, k10, h10⟩ := hk.dep 0 4 10 _ rfl rfl rfl; (first | (replace h10 := h10 9 undef rfl rfl; first | (cases (h10 : v10 = _)) | (obtain ⟨rfl, h10⟩ := h10) | skip) | skip); have hg := hk.fact 0 0 _ rfl rfl; (try dsimp only at hg); have ha := hk.fact 1 0 _ rfl rfl; (try dsimp only at ha); clear hk; (have d0 := ha.cell 0 _ rfl; have d1 := ha.cell 1 _ rfl; have d2 := ha.cell 2 _ rfl; have d3 := ha.cell 3 _ rfl; have f0 := ha.frozen 0; have f1 := ha.frozen 1; have f2 := ha.frozen 2; have f3 := ha.frozen 3; unfold setOf at k10; go_simp; exact hK undef _ (fun _ => rfl) (fun u hu => putS_at ha wordF) ⟨wordF, rfl⟩)))) ?_ rfl (RgX.keep_r (fun _ _ _ _ h hb => h.below hb) (fun _ _ => ⟨fun h _ _ _ => absurd rfl h, trivial⟩)) (fun _ h => by cases h)
  refine RgX.build_end fun wx hj => ?_
  have hg := hj 0 _ rfl rfl
  clear hj
  refine RgX.fin_eq rfl ?_
  refine RgX.fin_eq rfl ?_
  refine RgX.fin_eq rfl ?_
  refine RgX.fin_eq rfl ?_
  refine RgX.fin_eq rfl ?_
  refine RgX.fin_none rfl fun s5 => ?_
  refine RgX.fin_nil ?_
  simp only [List.set_cons_zero, List.set_cons_succ]
  have hA := s5 rfl undef rfl
  have hB := hg.2
  have d0 := (hA).cell 0 _ rfl; have d1 := (hA).cell 1 _ rfl; have d2 := (hA).cell 2 _ rfl; have d3 := (hA).cell 3 _ rfl
  have f0 := (hA).frozen 0; have f1 := (hA).frozen 1; have f2 := (hA).frozen 2; have f3 := (hA).frozen 3
  clear s5 hg
  go_wp2_with fail
  refine bodyPost_ret (v := setOf wordF) (by simp [results, Tryz.results130, go_sem, d0, d1, d2, d3]; try rfl) rfl ⟨rfl, ?_⟩
  exact hB
end Go.Proofs.YtgjcibhhffkemaaGreatDoor
/- The document's Reader: wide, escaped, member. -/
set_option linter.unusedVariables false
set_option linter.unusedSimpArgs false
namespace Go.Proofs.YtgjcibhhffkemaaGreatDoor
open Go.RowKit Bt
theorem setOf_emp : setOf emp = setV 0 0 0 0 := by unfold setOf emp; simp [wd_none]
theorem inT_bl (c : Int) (s : ByteArray) : InT c s ↔ c ∈ bl s := by
  unfold InT bl
  simp only [List.mem_map]
  constructor
  · rintro ⟨j, h, rfl⟩
    exact ⟨s[j], by rw [Array.mem_toList_iff]; exact Array.getElem_mem (xs := s.data) h, rfl⟩
  · rintro ⟨b, hb, rfl⟩
    rw [Array.mem_toList_iff] at hb
    obtain ⟨j, hj, e⟩ := Array.getElem_of_mem hb
    exact ⟨j, hj, by rw [← e]; rfl⟩
/-- what may be a class by itself -/
def wideV (c : Int) : Value := match wideF c with | some f => .tuple #[setOf f, .bool true] | none => .tuple #[setOf emp, .bool false]
set_option maxRecDepth 100000 in
theorem wide_any (c : Int) (w : World) : Calls Tryz.prog 111 #[.int .i64 c] w fun e w' => e = .returned (wideV c) ∧ Below w.heap.size w w' := by
  have HD := Lib.hid digits_any
  have HW := Lib.hid words_any
  have HA := Lib.hid (AtG.new w 38 (setC 0 0 0 0))
  have HB := Lib.hid ((Below.refl w.heap.size w).alloc (Nat.le_refl _) (.cells (setC 0 0 0 0) 38))
  by_cases h1 : c = 100
  · subst h1
    go_enter Tryz.func111, Tryz.ntmps111
    go_wp2_with fail
    refine (HD.out _).mono ?_
    rintro e9 w1 ⟨rfl, hw⟩
    have HA1 := Lib.hid (HA.out.below hw)
    have HB1 := Lib.hid (HB.out.trans (hw.mono HB.out.size))
    clear hw
    have d0 := (HA1.out).cell 0 _ rfl; have d1 := (HA1.out).cell 1 _ rfl; have d2 := (HA1.out).cell 2 _ rfl; have d3 := (HA1.out).cell 3 _ rfl
    have f0 := (HA1.out).frozen 0; have f1 := (HA1.out).frozen 1; have f2 := (HA1.out).frozen 2; have f3 := (HA1.out).frozen 3
    unfold setOf
    go_wp2_with fail
    refine bodyPost_ret (v := wideV 100) (by simp [results, Tryz.results111, go_sem, d0, d1, d2, d3]; try rfl) rfl ⟨rfl, ?_⟩
    exact below_set4 HB1.out _ (Nat.le_refl _) _ _ _ _
  by_cases h2 : c = 119
  · subst h2
    go_enter Tryz.func111, Tryz.ntmps111
    go_wp2_with fail
    refine (HW.out _).mono ?_
    rintro e9 w1 ⟨rfl, hw⟩
    have HA1 := Lib.hid (HA.out.below hw)
    have HB1 := Lib.hid (HB.out.trans (hw.mono HB.out.size))
    clear hw
    have d0 := (HA1.out).cell 0 _ rfl; have d1 := (HA1.out).cell 1 _ rfl; have d2 := (HA1.out).cell 2 _ rfl; have d3 := (HA1.out).cell 3 _ rfl
    have f0 := (HA1.out).frozen 0; have f1 := (HA1.out).frozen 1; have f2 := (HA1.out).frozen 2; have f3 := (HA1.out).frozen 3
    unfold setOf
    go_wp2_with fail
    refine bodyPost_ret (v := wideV 119) (by simp [results, Tryz.results111, go_sem, d0, d1, d2, d3]; try rfl) rfl ⟨rfl, ?_⟩
    exact below_set4 HB1.out _ (Nat.le_refl _) _ _ _ _
  · have e1 : (c == 100) = false := by rw [beq_eq_false_iff_ne]; exact h1
    have e2 : (c == 119) = false := by rw [beq_eq_false_iff_ne]; exact h2
    have hv : wideV c = .tuple #[setV 0 0 0 0, .bool false] := by
      have : wideF c = none := by unfold wideF; rw [if_neg h1, if_neg h2]
      unfold wideV; rw [this]; simp only [setOf_emp]
    rw [hv]
    clear h1 h2 hv
    go_enter Tryz.func111, Tryz.ntmps111
    go_wp2_with fail
    go_returns
    exact ⟨rfl, by go_grown⟩
/-- what may stand behind a backslash, as the code has it -/
def spcS : ByteArray := ⟨#[92, 46, 91, 93, 40, 41, 123, 125, 124, 63, 42, 43, 94, 36, 45, 47]⟩
theorem spcS_bl : bl spcS = spc := by decide
def brkS : ByteArray := ⟨#[93, 41, 125, 123, 124, 63, 94, 36]⟩
theorem brkS_bl : bl brkS = brk := by decide
set_option maxRecDepth 100000 in
theorem escaped_any (g : Nat) (s : ByteArray) (p : Nat) (o x : Int) (w : World) (h : AtG w g 114 (rdr s p o 0 x)) (hp : p ≤ s.size) (hm : s.size ≤ 1000) :
    Calls Tryz.prog 112 #[.pointer (some ⟨g, 0, none⟩)] w fun e w' => Only (fun k => k = g) w w' ∧ StR s g o x (escF s p) w' ∧ ∃ v : Nat, v < 256 ∧ e = .returned (.int .u8 v) ∧ ∀ a q, escF s p = .ok a q → v = a := by
  by_cases hc : ch s p < 0
  · have HN := Lib.hid (next_no g s p o x w h hp hc)
    have he : escF s p = .no 2 p := by
      unfold escF
      rw [if_neg (by omega), if_neg (by omega), if_neg (by unfold spc; simp only [List.mem_cons, List.not_mem_nil, or_false]; omega)]
    rw [he]
    clear he h hc hp
    go_enter Tryz.func112, Tryz.ntmps112
    go_wp2_with fail
    refine (HN.out).mono ?_
    rintro e9 w1 ⟨rfl, hA, hO⟩
    have HA := Lib.hid hA; have HO := Lib.hid hO; clear hA hO
    have z1 : w1.cell? ⟨g, 1, none⟩ = some (.int .i64 (p : Int)) := HA.out.cell 1 _ rfl
    go_wp2_with fail
    refine (in_any (-1) spcS _ (by decide)).mono ?_
    rintro e9 w9 ⟨b, rfl, hb, rfl⟩
    obtain rfl : b = false := by
      rw [← Bool.not_eq_true, hb, inT_bl, spcS_bl]; decide
    clear hb
    go_wp2_with fail
    refine (fail_no g s _ o 2 _ _ 2 _ HA.out (by decide)).mono ?_
    rintro e9 w9 ⟨rfl, rfl⟩
    go_wp2_with fail
    go_returns
    exact ⟨HO.out, ⟨_, HA.out⟩, 0, by decide, rfl, fun a q h => by cases h⟩
  · have HN := Lib.hid (next_ch g s p o x w h (by omega) (by omega))
    have hp1 := ch_ge (s := s) (p := p) (by omega)
    have hl := ch_lt s p
    have he : ∀ c, ch s p = c → escF s p = if c = 110 then .ok 10 (p + 1) else if c = 116 then .ok 9 (p + 1) else if c ∈ spc then .ok c.toNat (p + 1) else .no 2 p := fun c hc => by unfold escF; rw [hc]
    generalize ch s p = c at *
    have he := he c rfl
    rw [he]
    obtain ⟨pi, hpi⟩ : ∃ pi : Int, pi = ((p + 1 : Nat) : Int) := ⟨_, rfl⟩
    rw [← hpi] at HN
    have hpi2 : pi - 1 = (p : Int) := by omega
    have hpi3 : 0 ≤ pi - 1 := by omega
    have hpi4 : pi < 10000 := by omega
    have hw8 : IntKind.u8.wrap c = c := by rw [IntKind.wrap_u8]; omega
    have hn8 : ((c.toNat : Nat) : Int) = c := by omega
    clear he h
    by_cases h1 : c = 110
    · subst h1
      rw [if_pos rfl]
      go_enter Tryz.func112, Tryz.ntmps112
      go_wp2_with fail
      refine (HN.out).mono ?_
      rintro e9 w1 ⟨rfl, hA, hO⟩
      have HA := Lib.hid hA; have HO := Lib.hid hO; clear hA hO
      go_wp2_with fail
      go_returns
      exact ⟨HO.out, by show AtG _ g _ (rdr s ((p + 1 : Nat) : Int) o 0 x); rw [← hpi]; exact HA.out, 10, by decide, rfl, fun a q h => by injection h⟩
    rw [if_neg h1]
    have e1 : (c == 110) = false := by rw [beq_eq_false_iff_ne]; exact h1
    clear h1
    by_cases h2 : c = 116
    · subst h2
      rw [if_pos rfl]
      go_enter Tryz.func112, Tryz.ntmps112
      go_wp2_with fail
      refine (HN.out).mono ?_
      rintro e9 w1 ⟨rfl, hA, hO⟩
      have HA := Lib.hid hA; have HO := Lib.hid hO; clear hA hO
      go_wp2_with fail
      go_returns
      exact ⟨HO.out, by show AtG _ g _ (rdr s ((p + 1 : Nat) : Int) o 0 x); rw [← hpi]; exact HA.out, 9, by decide, rfl, fun a q h => by injection h⟩
    rw [if_neg h2]
    have e2 : (c == 116) = false := by rw [beq_eq_false_iff_ne]; exact h2
    clear h2
    have HI := Lib.hid (fun w => in_any c spcS w (by decide))
    by_cases h3 : c ∈ spc
    · rw [if_pos h3]
      have HI : Hid (∀ w, Calls Tryz.prog 113 #[.int .i64 c, .string spcS] w fun e w' => e = .returned (.bool true) ∧ w' = w) := Lib.hid (fun w => (HI.out w).mono (by
        rintro e w' ⟨b, rfl, hb, rfl⟩
        obtain rfl : b = true := by rw [hb, inT_bl, spcS_bl]; exact h3
        exact ⟨rfl, rfl⟩))
      clear h3
      go_enter Tryz.func112, Tryz.ntmps112
      go_wp2_with fail
      refine (HN.out).mono ?_
      rintro e9 w1 ⟨rfl, hA, hO⟩
      have HA := Lib.hid hA; have HO := Lib.hid hO; clear hA hO
      go_wp2_with fail
      refine (HI.out _).mono ?_
      rintro e9 w9 ⟨rfl, hw9⟩; subst hw9
      go_wp2_with fail
      go_returns
      exact ⟨HO.out, by show AtG _ g _ (rdr s ((p + 1 : Nat) : Int) o 0 x); rw [← hpi]; exact HA.out, c.toNat, by omega, by simp [hw8, hn8], fun a q h => by injection h⟩
    · rw [if_neg h3]
      have HI : Hid (∀ w, Calls Tryz.prog 113 #[.int .i64 c, .string spcS] w fun e w' => e = .returned (.bool false) ∧ w' = w) := Lib.hid (fun w => (HI.out w).mono (by
        rintro e w' ⟨b, rfl, hb, rfl⟩
        obtain rfl : b = false := by rw [← Bool.not_eq_true, hb, inT_bl, spcS_bl]; exact h3
        exact ⟨rfl, rfl⟩))
      clear h3
      go_enter Tryz.func112, Tryz.ntmps112
      go_wp2_with fail
      refine (HN.out).mono ?_
      rintro e9 w1 ⟨rfl, hA, hO⟩
      have HA := Lib.hid hA; have HO := Lib.hid hO; clear hA hO
      have z1 : w1.cell? ⟨g, 1, none⟩ = some (.int .i64 pi) := HA.out.cell 1 _ rfl
      go_wp2_with fail
      refine (HI.out _).mono ?_
      rintro e9 w9 ⟨rfl, hw9⟩; subst hw9
      go_wp2_with fail
      refine (fail_yes g s _ o x _ 2 _ HA.out).mono ?_
      rintro e9 w2 ⟨rfl, hA2, hw⟩
      have HA2 := Lib.hid hA2
      have HO2 : Hid (Only (fun k => k = g) w w2) := Lib.hid (HO.out.trans (by rw [hw]; exact (Only.set (S := fun k => k = g) _ _ _ _ rfl).trans (Only.set (S := fun k => k = g) _ _ _ _ rfl) (fun k hk => .inl hk)) (fun k hk => .inl hk))
      clear hA2 hw
      go_wp2_with fail
      go_returns
      exact ⟨HO2.out, ⟨_, HA2.out⟩, 0, by decide, rfl, fun a q h => by cases h⟩
set_option maxRecDepth 100000 in
theorem member_any (g : Nat) (s : ByteArray) (p : Nat) (o x : Int) (w : World) (h : AtG w g 114 (rdr s p o 0 x)) (hp : p ≤ s.size) (hm : s.size ≤ 1000) :
    Calls Tryz.prog 134 #[.pointer (some ⟨g, 0, none⟩)] w fun e w' => Only (fun k => k = g) w w' ∧ StR s g o x (memberF s p) w' ∧ ∃ v : Nat, v < 256 ∧ e = .returned (.int .u8 v) ∧ ∀ a q, memberF s p = .ok a q → v = a := by
  by_cases hc : ch s p < 0
  · have HN := Lib.hid (next_no g s p o x w h hp hc)
    have he : memberF s p = .no 2 p := by unfold memberF; rw [if_pos hc]
    rw [he]
    clear he h hc hp
    go_enter Tryz.func134, Tryz.ntmps134
    go_wp2_with fail
    refine (HN.out).mono ?_
    rintro e9 w1 ⟨rfl, hA, hO⟩
    have HA := Lib.hid hA; have HO := Lib.hid hO; clear hA hO
    go_wp2_with fail
    go_returns
    exact ⟨HO.out, ⟨_, HA.out⟩, 0, by decide, rfl, fun a q h => by cases h⟩
  · have HN := Lib.hid (next_ch g s p o x w h (by omega) (by omega))
    have hp1 := ch_ge (s := s) (p := p) (by omega)
    have hl := ch_lt s p
    have he : ∀ c, ch s p = c → memberF s p = if c < 0 then .no 2 p else if c = 93 then .no 2 p else if c = 92 then escF s (p + 1) else .ok c.toNat (p + 1) := fun c hc => by unfold memberF; rw [hc]
    generalize ch s p = c at *
    have he := he c rfl
    rw [he, if_neg hc]
    have HE := fun w h => Lib.hid (escaped_any g s (p + 1) o x w h hp1 hm)
    obtain ⟨pi, hpi⟩ : ∃ pi : Int, pi = ((p + 1 : Nat) : Int) := ⟨_, rfl⟩
    rw [← hpi] at HN HE
    have hpi2 : pi - 1 = (p : Int) := by omega
    have hpi3 : 0 ≤ pi - 1 := by omega
    have hpi4 : pi < 10000 := by omega
    have hw8 : IntKind.u8.wrap c = c := by rw [IntKind.wrap_u8]; omega
    have hn8 : ((c.toNat : Nat) : Int) = c := by omega
    clear he h
    by_cases h1 : c = 93
    · subst h1
      rw [if_pos rfl]
      go_enter Tryz.func134, Tryz.ntmps134
      go_wp2_with fail
      refine (HN.out).mono ?_
      rintro e9 w1 ⟨rfl, hA, hO⟩
      have HA := Lib.hid hA; have HO := Lib.hid hO; clear hA hO
      have z1 : w1.cell? ⟨g, 1, none⟩ = some (.int .i64 pi) := HA.out.cell 1 _ rfl
      go_wp2_with fail
      refine (fail_yes g s _ o x _ 2 _ HA.out).mono ?_
      rintro e9 w2 ⟨rfl, hA2, hw⟩
      have HA2 := Lib.hid hA2
      have HO2 : Hid (Only (fun k => k = g) w w2) := Lib.hid (HO.out.trans (by rw [hw]; exact (Only.set (S := fun k => k = g) _ _ _ _ rfl).trans (Only.set (S := fun k => k = g) _ _ _ _ rfl) (fun k hk => .inl hk)) (fun k hk => .inl hk))
      clear hA2 hw
      go_wp2_with fail
      go_returns
      exact ⟨HO2.out, ⟨_, HA2.out⟩, 93, by decide, rfl, fun a q h => by cases h⟩
    rw [if_neg h1]
    have e1 : (c == 93) = false := by rw [beq_eq_false_iff_ne]; exact h1
    clear h1
    by_cases h2 : c = 92
    · subst h2
      rw [if_pos rfl]
      go_enter Tryz.func134, Tryz.ntmps134
      go_wp2_with fail
      refine (HN.out).mono ?_
      rintro e9 w1 ⟨rfl, hA, hO⟩
      have HA := Lib.hid hA; have HO := Lib.hid hO; clear hA hO
      go_wp2_with fail
      refine ((HE _ HA.out).out).mono ?_
      rintro e9 w2 ⟨hO2, hS, v, hv, rfl, hq⟩
      have HO2 := Lib.hid (HO.out.trans hO2 (fun k hk => .inl hk))
      have HS := Lib.hid hS; have HV := Lib.hid hv; have HQ := Lib.hid hq
      clear hO2 hS hv hq
      go_wp2_with fail
      go_returns
      exact ⟨HO2.out, HS.out, v, HV.out, rfl, HQ.out⟩
    · rw [if_neg h2]
      have e2 : (c == 92) = false := by rw [beq_eq_false_iff_ne]; exact h2
      have hmx : max c 0 = c := by omega
      clear h2
      go_enter Tryz.func134, Tryz.ntmps134
      go_wp2_with fail
      refine (HN.out).mono ?_
      rintro e9 w1 ⟨rfl, hA, hO⟩
      have HA := Lib.hid hA; have HO := Lib.hid hO; clear hA hO
      go_wp2_with fail
      go_returns
      exact ⟨HO.out, by show AtG _ g _ (rdr s ((p + 1 : Nat) : Int) o 0 x); rw [← hpi]; exact HA.out, c.toNat, by omega, by simp [hw8, hn8, hmx], fun a q h => by injection h⟩
end Go.Proofs.YtgjcibhhffkemaaGreatDoor
/- The document's Reader: item. -/
set_option linter.unusedVariables false
set_option linter.unusedSimpArgs false
namespace Go.Proofs.YtgjcibhhffkemaaGreatDoor
open Go.RowKit Bt
theorem Only.tr {S : Nat → Prop} {w w1 w2 : World} (h : Only S w w1) (h' : Only S w1 w2) : Only S w w2 := h.trans h' (fun k hk => .inl hk)
theorem Only.tb {S : Nat → Prop} {w w1 w2 : World} (h : Only S w w1) (h' : Below w1.heap.size w1 w2) : Only S w w2 := h.trans (Only.of_below (S := S) h') (fun k hk => .inl hk)
theorem Only.al {S : Nat → Prop} {w w1 : World} (h : Only S w w1) (o : Obj) : Only S w (w1.alloc o) := h.tb ((Below.refl _ _).alloc (Nat.le_refl _) o)
theorem Only.st {S : Nat → Prop} {w w1 : World} (h : Only S w w1) (g i : Nat) (v : Value) (hg : S g ∨ w.heap.size ≤ g) : Only S w (w1.setCell ⟨g, i, none⟩ v) :=
  h.trans (Only.set (S := fun k => k = g) w1 g i v rfl) (fun k hk => by subst hk; exact hg)
theorem Only.pS {S : Nat → Prop} {w w1 : World} (h : Only S w w1) (g : Nat) (f : Nat → Bool) (hg : S g ∨ w.heap.size ≤ g) : Only S w (putS w1 g f) :=
  (((h.st g 0 _ hg).st g 1 _ hg).st g 2 _ hg).st g 3 _ hg
theorem failO (g : Nat) (s : ByteArray) (p o x at' bad : Int) (w : World) (h : AtG w g 114 (rdr s p o 0 x)) :
    Calls Tryz.prog 99 #[.pointer (some ⟨g, 0, none⟩), .int .i64 at', .int .i64 bad] w fun e w' => e = .returned (.tuple #[]) ∧ AtG w' g 114 (rdr s p o bad at') ∧ Only (fun k => k = g) w w' :=
  (fail_yes g s p o x at' bad w h).mono (by
    rintro e w' ⟨h1, h2, h3⟩
    exact ⟨h1, h2, by rw [h3]; exact ((Only.refl (S := fun k => k = g) w).st g _ _ (.inl rfl)).st g _ _ (.inl rfl)⟩)
theorem rangeN (a b : Nat) (w : World) (ha : a < 256) (hb : b < 256) :
    Calls Tryz.prog 135 #[.int .u8 (a : Int), .int .u8 (b : Int)] w fun e w' => e = .returned (setOf (spanF a (b + 1))) ∧ Below w.heap.size w w' := by
  have := refRange_any (a : Int) (b : Int) w (by omega) (by omega) (by omega) (by omega)
  rw [Int.toNat_natCast, Int.toNat_natCast] at this
  exact this
set_option maxRecDepth 100000 in
set_option maxHeartbeats 1600000 in
theorem item_some (g : Nat) (s : ByteArray) (p : Nat) (o x : Int) (w : World) (h : AtG w g 114 (rdr s p o 0 x)) (hp : p ≤ s.size) (hm : s.size ≤ 1000) (h92 : ch s p = 92) (hn : p + 1 < s.size) (F : Nat → Bool) (hwd : wideF (ch s (p + 1)) = some F) :
    Calls Tryz.prog 128 #[.pointer (some ⟨g, 0, none⟩)] w fun e w' => ∃ F : Nat → Bool, e = .returned (setOf F) ∧ StR s g o x (itemF s p) w' ∧ Only (fun k => k = g) w w' ∧ ∀ f q, itemF s p = .ok f q → F = f := by
  have HP := Lib.hid hp; have HM := Lib.hid hm
  have HR0 := Lib.hid (AtG.new w 38 (setC 0 0 0 0))
  have HA0 := Lib.hid (h.alloc (.cells (setC 0 0 0 0) 38))
  have HO0 := Lib.hid ((Only.refl (S := fun k => k = g) w).al (.cells (setC 0 0 0 0) 38))
  have HG : Hid (w.heap.size ≠ g) := Lib.hid (by have := h.lt; omega)
  have HG2 : Hid (g ≠ w.heap.size) := Lib.hid (by have := h.lt; omega)
  have HZ : Hid (w.heap.size ≤ w.heap.size) := Lib.hid (Nat.le_refl _)
  have HPK := Lib.hid (fun w h => peek_any g s p o x w h)
  have hif : ∀ c, ch s p = c → itemF s p = if c = 92 ∧ p + 1 < s.size then (match wideF (ch s (p + 1)) with | some f => .ok f (p + 2) | none => itemE s (memberF s p)) else itemE s (memberF s p) := fun c hc => by unfold itemF; rw [hc]; rfl
  generalize ch s p = c at *
  rw [hif c rfl]
  clear hif h hp hm
  have hpI : (p : Int) < 1001 := by have := HP.out; have := HM.out; omega
  subst h92
  rw [if_pos ⟨rfl, hn⟩]
  have hnI : (p : Int) + 1 < (s.size : Int) := by omega
  have hwp : IntKind.i64.wrap ((p : Int) + 1) = (p : Int) + 1 := by rw [IntKind.wrap_i64]; omega
  have hcl := ch_lt s (p + 1)
  obtain ⟨c1, hc1⟩ : ∃ c1, c1 = ch s (p + 1) := ⟨_, rfl⟩
  have hch : ((s[p + 1].toNat : Nat) : Int) = c1 := by rw [hc1, ch_in hn]
  rw [← hc1] at hcl hwd
  rw [← hc1, hwd]
  clear hc1
  have hwr : IntKind.i64.wrap c1 = c1 := by rw [IntKind.wrap_i64]; omega
  have hV : wideV c1 = .tuple #[setOf F, .bool true] := by unfold wideV; rw [hwd]
  have HWD : Hid (∀ w, Calls Tryz.prog 111 #[.int .i64 c1] w fun e w' => e = .returned (.tuple #[setOf F, .bool true]) ∧ Below w.heap.size w w') := Lib.hid (fun w => by rw [← hV]; exact wide_any _ w)
  clear hwd hV
  dsimp only
  go_enter Tryz.func128, Tryz.ntmps128
  go_upto_region 1 with (fail)
  refine Rg.wp_region_each (by kernel_rfl) (fun w' => AtG w' g 114 (rdr s p o 0 x) ∧ AtG w' w.heap.size 38 (setC 0 0 0 0) ∧ Only (fun k => k = g) w w') (fun w1 w2 h hb => ⟨h.1.below hb, h.2.1.below hb, h.2.2.tb hb⟩) (by kernel_rfl) (by kernel_rfl) (⟨HA0.out, HR0.out, HO0.out⟩) ?_
  show Rg.Build _ _ _ _ _ 0 [_, _, _, _, _, _, _, _, _, _, _, _, _, _, _, _] []
  refine Rg.build_cons (m := 1) (r := Rg.eq _) (Rg.one_plain (by rfl) (by (intro ax wx hk Kx hK; have k0 := hk.base 0 _ rfl rfl; have hj := hk.j; clear hk; have z1 : wx.cell? ⟨g, 1, none⟩ = some (.int .i64 (p : Int)) := hj.1.cell 1 _ rfl; have z0 : wx.cell? ⟨g, 0, none⟩ = some (.string s) := hj.1.cell 0 _ rfl; go_simp; refine hK _ _ ?_ (Below.refl _ _); apply Rg.mk))) ?_ rfl
  refine Rg.build_cons (m := 2) (r := Rg.eq _) (Rg.one_plain (by rfl) (by (intro ax wx hk Kx hK; obtain ⟨v7, k7, h7⟩ := hk.dep 0 7 _ rfl rfl rfl; (first | (cases (h7 : v7 = _)) | (obtain ⟨rfl, h7⟩ := h7) | skip); have hj := hk.j; clear hk; have z1 : wx.cell? ⟨g, 1, none⟩ = some (.int .i64 (p : Int)) := hj.1.cell 1 _ rfl; have z0 : wx.cell? ⟨g, 0, none⟩ = some (.string s) := hj.1.cell 0 _ rfl; go_simp; refine (HPK.out _ hj.1).mono ?_; rintro e w' ⟨rfl, hb⟩; refine hK _ _ ?_ hb; apply Rg.mk))) ?_ rfl
  refine Rg.build_cons (m := 3) (r := Rg.eq (.bool true)) (Rg.one_plain (by rfl) (by (intro ax wx hk Kx hK; obtain ⟨v8, k8, h8⟩ := hk.dep 1 8 _ rfl rfl rfl; (first | (cases (h8 : v8 = _)) | (obtain ⟨rfl, h8⟩ := h8) | skip); have hj := hk.j; clear hk; have z1 : wx.cell? ⟨g, 1, none⟩ = some (.int .i64 (p : Int)) := hj.1.cell 1 _ rfl; have z0 : wx.cell? ⟨g, 0, none⟩ = some (.string s) := hj.1.cell 0 _ rfl; (go_simp; refine hK _ _ ?_ (Below.refl _ _); simp [Rg.eq])))) ?_ rfl
  refine Rg.build_cons (m := 4) (r := Rg.eq _) (Rg.one_plain (by rfl) (by (intro ax wx hk Kx hK; obtain ⟨v9, k9, h9⟩ := hk.dep 2 9 _ rfl rfl rfl; (first | (cases (h9 : v9 = _)) | (obtain ⟨rfl, h9⟩ := h9) | skip); have hj := hk.j; clear hk; have z1 : wx.cell? ⟨g, 1, none⟩ = some (.int .i64 (p : Int)) := hj.1.cell 1 _ rfl; have z0 : wx.cell? ⟨g, 0, none⟩ = some (.string s) := hj.1.cell 0 _ rfl; go_simp; refine hK _ _ ?_ (Below.refl _ _); apply Rg.mk))) ?_ rfl
  first
    | refine Rg.build_cons (m := 5) (Rg.one_no 3 10 true (by rfl) (by rfl) (by rfl) (by rfl)) ?_ rfl
    | refine Rg.build_cons (m := 5) (Rg.one_und 3 10 true (by rfl) (by rfl) (by rfl) (by rfl)) ?_ rfl
    | refine Rg.build_cons (m := 5) (r := Rg.eq _) (Rg.one_yes 3 10 true (by rfl) (by rfl) (by rfl) (by rfl) (by (intro ax wx hk Kx hK; have k0 := hk.base 0 _ rfl rfl; have hj := hk.j; clear hk; have z1 : wx.cell? ⟨g, 1, none⟩ = some (.int .i64 (p : Int)) := hj.1.cell 1 _ rfl; have z0 : wx.cell? ⟨g, 0, none⟩ = some (.string s) := hj.1.cell 0 _ rfl; go_simp; refine hK _ _ ?_ (Below.refl _ _); apply Rg.mk))) ?_ rfl
  first
    | refine Rg.build_cons (m := 6) (Rg.one_no 3 10 true (by rfl) (by rfl) (by rfl) (by rfl)) ?_ rfl
    | refine Rg.build_cons (m := 6) (Rg.one_und 3 10 true (by rfl) (by rfl) (by rfl) (by rfl)) ?_ rfl
    | refine Rg.build_cons (m := 6) (r := Rg.eq _) (Rg.one_yes 3 10 true (by rfl) (by rfl) (by rfl) (by rfl) (by (intro ax wx hk Kx hK; obtain ⟨v11, k11, h11⟩ := hk.dep 4 11 _ rfl rfl rfl; (first | (cases (h11 : v11 = _)) | (obtain ⟨rfl, h11⟩ := h11) | skip); have hj := hk.j; clear hk; have z1 : wx.cell? ⟨g, 1, none⟩ = some (.int .i64 (p : Int)) := hj.1.cell 1 _ rfl; have z0 : wx.cell? ⟨g, 0, none⟩ = some (.string s) := hj.1.cell 0 _ rfl; go_simp; refine hK _ _ ?_ (Below.refl _ _); apply Rg.mk))) ?_ rfl
  first
    | refine Rg.build_cons (m := 7) (Rg.one_no 3 10 true (by rfl) (by rfl) (by rfl) (by rfl)) ?_ rfl
    | refine Rg.build_cons (m := 7) (Rg.one_und 3 10 true (by rfl) (by rfl) (by rfl) (by rfl)) ?_ rfl
    | refine Rg.build_cons (m := 7) (r := Rg.eq _) (Rg.one_yes 3 10 true (by rfl) (by rfl) (by rfl) (by rfl) (by (intro ax wx hk Kx hK; obtain ⟨v12, k12, h12⟩ := hk.dep 5 12 _ rfl rfl rfl; (first | (cases (h12 : v12 = _)) | (obtain ⟨rfl, h12⟩ := h12) | skip); have hj := hk.j; clear hk; have z1 : wx.cell? ⟨g, 1, none⟩ = some (.int .i64 (p : Int)) := hj.1.cell 1 _ rfl; have z0 : wx.cell? ⟨g, 0, none⟩ = some (.string s) := hj.1.cell 0 _ rfl; go_simp; refine hK _ _ ?_ (Below.refl _ _); apply Rg.mk))) ?_ rfl
  first
    | refine Rg.build_cons (m := 8) (Rg.one_no 3 10 true (by rfl) (by rfl) (by rfl) (by rfl)) ?_ rfl
    | refine Rg.build_cons (m := 8) (Rg.one_und 3 10 true (by rfl) (by rfl) (by rfl) (by rfl)) ?_ rfl
    | refine Rg.build_cons (m := 8) (r := Rg.eq _) (Rg.one_yes 3 10 true (by rfl) (by rfl) (by rfl) (by rfl) (by (intro ax wx hk Kx hK; obtain ⟨v13, k13, h13⟩ := hk.dep 6 13 _ rfl rfl rfl; (first | (cases (h13 : v13 = _)) | (obtain ⟨rfl, h13⟩ := h13) | skip); have hj := hk.j; clear hk; have z1 : wx.cell? ⟨g, 1, none⟩ = some (.int .i64 (p : Int)) := hj.1.cell 1 _ rfl; have z0 : wx.cell? ⟨g, 0, none⟩ = some (.string s) := hj.1.cell 0 _ rfl; go_simp; refine hK _ _ ?_ (Below.refl _ _); apply Rg.mk))) ?_ rfl
  first
    | refine Rg.build_cons (m := 9) (Rg.one_no 3 10 true (by rfl) (by rfl) (by rfl) (by rfl)) ?_ rfl
    | refine Rg.build_cons (m := 9) (Rg.one_und 3 10 true (by rfl) (by rfl) (by rfl) (by rfl)) ?_ rfl
    | refine Rg.build_cons (m := 9) (r := Rg.eq (.int .i64 ((p : Int) + 1))) (Rg.one_yes 3 10 true (by rfl) (by rfl) (by rfl) (by rfl) (by (intro ax wx hk Kx hK; obtain ⟨v14, k14, h14⟩ := hk.dep 7 14 _ rfl rfl rfl; (first | (cases (h14 : v14 = _)) | (obtain ⟨rfl, h14⟩ := h14) | skip); have hj := hk.j; clear hk; have z1 : wx.cell? ⟨g, 1, none⟩ = some (.int .i64 (p : Int)) := hj.1.cell 1 _ rfl; have z0 : wx.cell? ⟨g, 0, none⟩ = some (.string s) := hj.1.cell 0 _ rfl; (go_simp; refine hK _ _ ?_ (Below.refl _ _); simp [Rg.eq, hwp])))) ?_ rfl
  first
    | refine Rg.build_cons (m := 10) (Rg.one_no 3 10 true (by rfl) (by rfl) (by rfl) (by rfl)) ?_ rfl
    | refine Rg.build_cons (m := 10) (Rg.one_und 3 10 true (by rfl) (by rfl) (by rfl) (by rfl)) ?_ rfl
    | refine Rg.build_cons (m := 10) (r := Rg.eq _) (Rg.one_yes 3 10 true (by rfl) (by rfl) (by rfl) (by rfl) (by (intro ax wx hk Kx hK; have k0 := hk.base 0 _ rfl rfl; have hj := hk.j; clear hk; have z1 : wx.cell? ⟨g, 1, none⟩ = some (.int .i64 (p : Int)) := hj.1.cell 1 _ rfl; have z0 : wx.cell? ⟨g, 0, none⟩ = some (.string s) := hj.1.cell 0 _ rfl; go_simp; refine hK _ _ ?_ (Below.refl _ _); apply Rg.mk))) ?_ rfl
  first
    | refine Rg.build_cons (m := 11) (Rg.one_no 3 10 true (by rfl) (by rfl) (by rfl) (by rfl)) ?_ rfl
    | refine Rg.build_cons (m := 11) (Rg.one_und 3 10 true (by rfl) (by rfl) (by rfl) (by rfl)) ?_ rfl
    | refine Rg.build_cons (m := 11) (r := Rg.eq _) (Rg.one_yes 3 10 true (by rfl) (by rfl) (by rfl) (by rfl) (by (intro ax wx hk Kx hK; obtain ⟨v16, k16, h16⟩ := hk.dep 9 16 _ rfl rfl rfl; (first | (cases (h16 : v16 = _)) | (obtain ⟨rfl, h16⟩ := h16) | skip); have hj := hk.j; clear hk; have z1 : wx.cell? ⟨g, 1, none⟩ = some (.int .i64 (p : Int)) := hj.1.cell 1 _ rfl; have z0 : wx.cell? ⟨g, 0, none⟩ = some (.string s) := hj.1.cell 0 _ rfl; go_simp; refine hK _ _ ?_ (Below.refl _ _); apply Rg.mk))) ?_ rfl
  first
    | refine Rg.build_cons (m := 12) (Rg.one_no 3 10 true (by rfl) (by rfl) (by rfl) (by rfl)) ?_ rfl
    | refine Rg.build_cons (m := 12) (Rg.one_und 3 10 true (by rfl) (by rfl) (by rfl) (by rfl)) ?_ rfl
    | refine Rg.build_cons (m := 12) (r := Rg.eq _) (Rg.one_yes 3 10 true (by rfl) (by rfl) (by rfl) (by rfl) (by (intro ax wx hk Kx hK; obtain ⟨v17, k17, h17⟩ := hk.dep 10 17 _ rfl rfl rfl; (first | (cases (h17 : v17 = _)) | (obtain ⟨rfl, h17⟩ := h17) | skip); have hj := hk.j; clear hk; have z1 : wx.cell? ⟨g, 1, none⟩ = some (.int .i64 (p : Int)) := hj.1.cell 1 _ rfl; have z0 : wx.cell? ⟨g, 0, none⟩ = some (.string s) := hj.1.cell 0 _ rfl; go_simp; refine hK _ _ ?_ (Below.refl _ _); apply Rg.mk))) ?_ rfl
  first
    | refine Rg.build_cons (m := 13) (Rg.one_no 3 10 true (by rfl) (by rfl) (by rfl) (by rfl)) ?_ rfl
    | refine Rg.build_cons (m := 13) (Rg.one_und 3 10 true (by rfl) (by rfl) (by rfl) (by rfl)) ?_ rfl
    | refine Rg.build_cons (m := 13) (r := Rg.eq _) (Rg.one_yes 3 10 true (by rfl) (by rfl) (by rfl) (by rfl) (by (intro ax wx hk Kx hK; obtain ⟨v18, k18, h18⟩ := hk.dep 11 18 _ rfl rfl rfl; (first | (cases (h18 : v18 = _)) | (obtain ⟨rfl, h18⟩ := h18) | skip); have hj := hk.j; clear hk; have z1 : wx.cell? ⟨g, 1, none⟩ = some (.int .i64 (p : Int)) := hj.1.cell 1 _ rfl; have z0 : wx.cell? ⟨g, 0, none⟩ = some (.string s) := hj.1.cell 0 _ rfl; go_simp; refine hK _ _ ?_ (Below.refl _ _); apply Rg.mk))) ?_ rfl
  first
    | refine Rg.build_cons (m := 14) (Rg.one_no 3 10 true (by rfl) (by rfl) (by rfl) (by rfl)) ?_ rfl
    | refine Rg.build_cons (m := 14) (Rg.one_und 3 10 true (by rfl) (by rfl) (by rfl) (by rfl)) ?_ rfl
    | refine Rg.build_cons (m := 14) (r := Rg.eq _) (Rg.one_yes 3 10 true (by rfl) (by rfl) (by rfl) (by rfl) (by (intro ax wx hk Kx hK; obtain ⟨v19, k19, h19⟩ := hk.dep 12 19 _ rfl rfl rfl; (first | (cases (h19 : v19 = _)) | (obtain ⟨rfl, h19⟩ := h19) | skip); have hj := hk.j; clear hk; have z1 : wx.cell? ⟨g, 1, none⟩ = some (.int .i64 (p : Int)) := hj.1.cell 1 _ rfl; have z0 : wx.cell? ⟨g, 0, none⟩ = some (.string s) := hj.1.cell 0 _ rfl; go_simp; refine hK _ _ ?_ (Below.refl _ _); apply Rg.mk))) ?_ rfl
  first
    | refine Rg.build_cons (m := 15) (Rg.one_no 3 10 true (by rfl) (by rfl) (by rfl) (by rfl)) ?_ rfl
    | refine Rg.build_cons (m := 15) (Rg.one_und 3 10 true (by rfl) (by rfl) (by rfl) (by rfl)) ?_ rfl
    | refine Rg.build_cons (m := 15) (r := Rg.eq (.bool true)) (Rg.one_yes 3 10 true (by rfl) (by rfl) (by rfl) (by rfl) (by (intro ax wx hk Kx hK; obtain ⟨v15, k15, h15⟩ := hk.dep 8 15 _ rfl rfl rfl; (first | (cases (h15 : v15 = _)) | (obtain ⟨rfl, h15⟩ := h15) | skip); obtain ⟨v20, k20, h20⟩ := hk.dep 13 20 _ rfl rfl rfl; (first | (cases (h20 : v20 = _)) | (obtain ⟨rfl, h20⟩ := h20) | skip); have hj := hk.j; clear hk; have z1 : wx.cell? ⟨g, 1, none⟩ = some (.int .i64 (p : Int)) := hj.1.cell 1 _ rfl; have z0 : wx.cell? ⟨g, 0, none⟩ = some (.string s) := hj.1.cell 0 _ rfl; (go_simp; refine hK _ _ ?_ (Below.refl _ _); simp [Rg.eq, hnI])))) ?_ rfl
  refine Rg.build_cons (m := 16) (r := Rg.eq _) (Rg.one_plain (by rfl) (by (intro ax wx hk Kx hK; obtain ⟨v10, k10, h10⟩ := hk.dep 3 10 _ rfl rfl rfl; (first | (cases (h10 : v10 = _)) | (obtain ⟨rfl, h10⟩ := h10) | skip); obtain ⟨v21, k21, h21⟩ := hk.dep 14 21 _ rfl rfl rfl; (first | (cases (h21 : v21 = _)) | (obtain ⟨rfl, h21⟩ := h21) | skip); have hj := hk.j; clear hk; have z1 : wx.cell? ⟨g, 1, none⟩ = some (.int .i64 (p : Int)) := hj.1.cell 1 _ rfl; have z0 : wx.cell? ⟨g, 0, none⟩ = some (.string s) := hj.1.cell 0 _ rfl; go_simp; refine hK _ _ ?_ (Below.refl _ _); apply Rg.mk))) ?_ rfl
  refine Rg.build_end fun wx hj => ?_
  refine Rg.fin_eq rfl ?_
  refine Rg.fin_eq rfl ?_
  first | refine Rg.fin_eq rfl ?_ | refine Rg.fin_any rfl fun v9 h9 => ?_
  refine Rg.fin_eq rfl ?_
  refine Rg.fin_eq rfl ?_
  refine Rg.fin_eq rfl ?_
  refine Rg.fin_eq rfl ?_
  refine Rg.fin_eq rfl ?_
  first | refine Rg.fin_eq rfl ?_ | refine Rg.fin_any rfl fun v15 h15 => ?_
  refine Rg.fin_eq rfl ?_
  refine Rg.fin_eq rfl ?_
  refine Rg.fin_eq rfl ?_
  refine Rg.fin_eq rfl ?_
  refine Rg.fin_eq rfl ?_
  first | refine Rg.fin_eq rfl ?_ | refine Rg.fin_any rfl fun v21 h21 => ?_
  refine Rg.fin_eq rfl ?_
  refine Rg.fin_nil ?_
  simp only [List.set_cons_zero, List.set_cons_succ]
  have HJ := Lib.hid hj; clear hj
  go_upto_region 2 with (fail)
  obtain ⟨w1, rfl⟩ : ∃ w1 : World, w1 = wx := ⟨_, rfl⟩
  refine RgX.start (by kernel_rfl) [(16, fun w5 w6 => ∃ gg f, w.heap.size < gg ∧ gg ≠ g ∧ w6 = putS w5 gg f)] [⟨fun w' => AtG w' g 114 (rdr s p o 0 x) ∧ AtG w' w.heap.size 38 (setC 0 0 0 0) ∧ Only (fun k => k = g) w w', none⟩] ⟨⟨fun _ _ h hb => ⟨h.1.below hb, h.2.1.below hb, h.2.2.tb hb⟩, ⟨fun _ _ _ _ => (fun w5 w6 h he => by obtain ⟨gg, f, h1, h2, rfl⟩ := he; exact ⟨putS_far h.1 (fun e => h2 e.symm) _, putS_far h.2.1 (by omega) _, h.2.2.pS _ _ (.inr (by omega))⟩), trivial⟩⟩, trivial⟩ (by kernel_rfl) (by kernel_rfl) ⟨⟨HJ.out.1.drew, HJ.out.2.1.drew, HJ.out.2.2.drew⟩, trivial⟩ ?_
  show RgX.Build _ _ _ _ _ _ 0 [_, _, _, _, _, _, _, _, _, _, _, _, _, _, _, _, _, _] []
  refine RgX.build_cons (m := 1) (r := RgX.eq _) (RgX.one_plain (by rfl) (by (intro ax wx hk Kx hK; have k0 := hk.base 0 _ rfl rfl; have hL := hk.fact 0 0 _ rfl rfl; (try dsimp only at hL); clear hk; have z1 : wx.cell? ⟨g, 1, none⟩ = some (.int .i64 (p : Int)) := hL.1.cell 1 _ rfl; have z0 : wx.cell? ⟨g, 0, none⟩ = some (.string s) := hL.1.cell 0 _ rfl; go_simp; refine hK _ _ (fun h => by cases h) (fun _ _ => ?_) (Below.refl _ _); apply RgX.mk))) ?_ rfl RgX.keep_eq (fun _ h => by cases h)
  refine RgX.build_cons (m := 2) (r := RgX.eq _) (RgX.one_plain (by rfl) (by (intro ax wx hk Kx hK; obtain ⟨v24, k24, h24⟩ := hk.dep 0 0 24 _ rfl rfl rfl; (first | (replace h24 := h24 9 undef rfl rfl; first | (cases (h24 : v24 = _)) | (obtain ⟨rfl, h24⟩ := h24) | skip) | skip); have hL := hk.fact 0 0 _ rfl rfl; (try dsimp only at hL); clear hk; have z1 : wx.cell? ⟨g, 1, none⟩ = some (.int .i64 (p : Int)) := hL.1.cell 1 _ rfl; have z0 : wx.cell? ⟨g, 0, none⟩ = some (.string s) := hL.1.cell 0 _ rfl; go_simp; refine hK _ _ (fun h => by cases h) (fun _ _ => ?_) (Below.refl _ _); apply RgX.mk))) ?_ rfl RgX.keep_eq (fun _ h => by cases h)
  refine RgX.build_cons (m := 3) (r := RgX.eq _) (RgX.one_plain (by rfl) (by (intro ax wx hk Kx hK; obtain ⟨v25, k25, h25⟩ := hk.dep 0 1 25 _ rfl rfl rfl; (first | (replace h25 := h25 9 undef rfl rfl; first | (cases (h25 : v25 = _)) | (obtain ⟨rfl, h25⟩ := h25) | skip) | skip); have hL := hk.fact 0 0 _ rfl rfl; (try dsimp only at hL); clear hk; have z1 : wx.cell? ⟨g, 1, none⟩ = some (.int .i64 (p : Int)) := hL.1.cell 1 _ rfl; have z0 : wx.cell? ⟨g, 0, none⟩ = some (.string s) := hL.1.cell 0 _ rfl; go_simp; refine hK _ _ (fun h => by cases h) (fun _ _ => ?_) (Below.refl _ _); apply RgX.mk))) ?_ rfl RgX.keep_eq (fun _ h => by cases h)
  refine RgX.build_cons (m := 4) (r := RgX.eq _) (RgX.one_plain (by rfl) (by (intro ax wx hk Kx hK; obtain ⟨v26, k26, h26⟩ := hk.dep 0 2 26 _ rfl rfl rfl; (first | (replace h26 := h26 9 undef rfl rfl; first | (cases (h26 : v26 = _)) | (obtain ⟨rfl, h26⟩ := h26) | skip) | skip); have hL := hk.fact 0 0 _ rfl rfl; (try dsimp only at hL); clear hk; have z1 : wx.cell? ⟨g, 1, none⟩ = some (.int .i64 (p : Int)) := hL.1.cell 1 _ rfl; have z0 : wx.cell? ⟨g, 0, none⟩ = some (.string s) := hL.1.cell 0 _ rfl; go_simp; refine hK _ _ (fun h => by cases h) (fun _ _ => ?_) (Below.refl _ _); apply RgX.mk))) ?_ rfl RgX.keep_eq (fun _ h => by cases h)
  refine RgX.build_cons (m := 5) (r := RgX.eq _) (RgX.one_plain (by rfl) (by (intro ax wx hk Kx hK; have k0 := hk.base 0 _ rfl rfl; have hL := hk.fact 0 0 _ rfl rfl; (try dsimp only at hL); clear hk; have z1 : wx.cell? ⟨g, 1, none⟩ = some (.int .i64 (p : Int)) := hL.1.cell 1 _ rfl; have z0 : wx.cell? ⟨g, 0, none⟩ = some (.string s) := hL.1.cell 0 _ rfl; go_simp; refine hK _ _ (fun h => by cases h) (fun _ _ => ?_) (Below.refl _ _); apply RgX.mk))) ?_ rfl RgX.keep_eq (fun _ h => by cases h)
  refine RgX.build_cons (m := 6) (r := RgX.eq _) (RgX.one_plain (by rfl) (by (intro ax wx hk Kx hK; obtain ⟨v28, k28, h28⟩ := hk.dep 0 4 28 _ rfl rfl rfl; (first | (replace h28 := h28 9 undef rfl rfl; first | (cases (h28 : v28 = _)) | (obtain ⟨rfl, h28⟩ := h28) | skip) | skip); have hL := hk.fact 0 0 _ rfl rfl; (try dsimp only at hL); clear hk; have z1 : wx.cell? ⟨g, 1, none⟩ = some (.int .i64 (p : Int)) := hL.1.cell 1 _ rfl; have z0 : wx.cell? ⟨g, 0, none⟩ = some (.string s) := hL.1.cell 0 _ rfl; go_simp; refine hK _ _ (fun h => by cases h) (fun _ _ => ?_) (Below.refl _ _); apply RgX.mk))) ?_ rfl RgX.keep_eq (fun _ h => by cases h)
  refine RgX.build_cons (m := 7) (r := RgX.eq _) (RgX.one_plain (by rfl) (by (intro ax wx hk Kx hK; obtain ⟨v29, k29, h29⟩ := hk.dep 0 5 29 _ rfl rfl rfl; (first | (replace h29 := h29 9 undef rfl rfl; first | (cases (h29 : v29 = _)) | (obtain ⟨rfl, h29⟩ := h29) | skip) | skip); have hL := hk.fact 0 0 _ rfl rfl; (try dsimp only at hL); clear hk; have z1 : wx.cell? ⟨g, 1, none⟩ = some (.int .i64 (p : Int)) := hL.1.cell 1 _ rfl; have z0 : wx.cell? ⟨g, 0, none⟩ = some (.string s) := hL.1.cell 0 _ rfl; go_simp; refine hK _ _ (fun h => by cases h) (fun _ _ => ?_) (Below.refl _ _); apply RgX.mk))) ?_ rfl RgX.keep_eq (fun _ h => by cases h)
  refine RgX.build_cons (m := 8) (r := RgX.eq _) (RgX.one_plain (by rfl) (by (intro ax wx hk Kx hK; obtain ⟨v30, k30, h30⟩ := hk.dep 0 6 30 _ rfl rfl rfl; (first | (replace h30 := h30 9 undef rfl rfl; first | (cases (h30 : v30 = _)) | (obtain ⟨rfl, h30⟩ := h30) | skip) | skip); have hL := hk.fact 0 0 _ rfl rfl; (try dsimp only at hL); clear hk; have z1 : wx.cell? ⟨g, 1, none⟩ = some (.int .i64 (p : Int)) := hL.1.cell 1 _ rfl; have z0 : wx.cell? ⟨g, 0, none⟩ = some (.string s) := hL.1.cell 0 _ rfl; go_simp; refine hK _ _ (fun h => by cases h) (fun _ _ => ?_) (Below.refl _ _); apply RgX.mk))) ?_ rfl RgX.keep_eq (fun _ h => by cases h)
  refine RgX.build_cons (m := 9) (r := RgX.eq (.int .i64 ((p : Int) + 1))) (RgX.one_plain (by rfl) (by (intro ax wx hk Kx hK; obtain ⟨v31, k31, h31⟩ := hk.dep 0 7 31 _ rfl rfl rfl; (first | (replace h31 := h31 9 undef rfl rfl; first | (cases (h31 : v31 = _)) | (obtain ⟨rfl, h31⟩ := h31) | skip) | skip); have hL := hk.fact 0 0 _ rfl rfl; (try dsimp only at hL); clear hk; have z1 : wx.cell? ⟨g, 1, none⟩ = some (.int .i64 (p : Int)) := hL.1.cell 1 _ rfl; have z0 : wx.cell? ⟨g, 0, none⟩ = some (.string s) := hL.1.cell 0 _ rfl; (go_simp; refine hK _ _ (fun h => by cases h) (fun _ _ => ?_) (Below.refl _ _); simp [RgX.eq, hwp])))) ?_ rfl RgX.keep_eq (fun _ h => by cases h)
  refine RgX.build_cons (m := 10) (r := RgX.eq (.int .u8 (c1))) (RgX.one_plain (by rfl) (by (intro ax wx hk Kx hK; obtain ⟨v27, k27, h27⟩ := hk.dep 0 3 27 _ rfl rfl rfl; (first | (replace h27 := h27 9 undef rfl rfl; first | (cases (h27 : v27 = _)) | (obtain ⟨rfl, h27⟩ := h27) | skip) | skip); obtain ⟨v32, k32, h32⟩ := hk.dep 0 8 32 _ rfl rfl rfl; (first | (replace h32 := h32 9 undef rfl rfl; first | (cases (h32 : v32 = _)) | (obtain ⟨rfl, h32⟩ := h32) | skip) | skip); have hL := hk.fact 0 0 _ rfl rfl; (try dsimp only at hL); clear hk; have z1 : wx.cell? ⟨g, 1, none⟩ = some (.int .i64 (p : Int)) := hL.1.cell 1 _ rfl; have z0 : wx.cell? ⟨g, 0, none⟩ = some (.string s) := hL.1.cell 0 _ rfl; (go_simp; refine hK _ _ (fun h => by cases h) (fun _ _ => ?_) (Below.refl _ _); simp [RgX.eq, hch])))) ?_ rfl RgX.keep_eq (fun _ h => by cases h)
  refine RgX.build_cons (m := 11) (r := RgX.eq (.int .i64 (c1))) (RgX.one_plain (by rfl) (by (intro ax wx hk Kx hK; obtain ⟨v33, k33, h33⟩ := hk.dep 0 9 33 _ rfl rfl rfl; (first | (replace h33 := h33 9 undef rfl rfl; first | (cases (h33 : v33 = _)) | (obtain ⟨rfl, h33⟩ := h33) | skip) | skip); have hL := hk.fact 0 0 _ rfl rfl; (try dsimp only at hL); clear hk; have z1 : wx.cell? ⟨g, 1, none⟩ = some (.int .i64 (p : Int)) := hL.1.cell 1 _ rfl; have z0 : wx.cell? ⟨g, 0, none⟩ = some (.string s) := hL.1.cell 0 _ rfl; (go_simp; refine hK _ _ (fun h => by cases h) (fun _ _ => ?_) (Below.refl _ _); simp [RgX.eq, hwr])))) ?_ rfl RgX.keep_eq (fun _ h => by cases h)
  refine RgX.build_cons (m := 12) (r := RgX.eq _) (RgX.one_plain (by rfl) (by (intro ax wx hk Kx hK; obtain ⟨v34, k34, h34⟩ := hk.dep 0 10 34 _ rfl rfl rfl; (first | (replace h34 := h34 9 undef rfl rfl; first | (cases (h34 : v34 = _)) | (obtain ⟨rfl, h34⟩ := h34) | skip) | skip); have hL := hk.fact 0 0 _ rfl rfl; (try dsimp only at hL); clear hk; have z1 : wx.cell? ⟨g, 1, none⟩ = some (.int .i64 (p : Int)) := hL.1.cell 1 _ rfl; have z0 : wx.cell? ⟨g, 0, none⟩ = some (.string s) := hL.1.cell 0 _ rfl; go_simp; refine (HWD.out _).mono ?_; rintro e w' ⟨rfl, hb⟩; refine hK _ _ (fun h => by cases h) (fun _ _ => ?_) hb; apply RgX.mk))) ?_ rfl RgX.keep_eq (fun _ h => by cases h)
  refine RgX.build_cons (m := 13) (r := RgX.eq _) (RgX.one_plain (by rfl) (by (intro ax wx hk Kx hK; obtain ⟨v35, k35, h35⟩ := hk.dep 0 11 35 _ rfl rfl rfl; (first | (replace h35 := h35 9 undef rfl rfl; first | (cases (h35 : v35 = _)) | (obtain ⟨rfl, h35⟩ := h35) | skip) | skip); have hL := hk.fact 0 0 _ rfl rfl; (try dsimp only at hL); clear hk; have z1 : wx.cell? ⟨g, 1, none⟩ = some (.int .i64 (p : Int)) := hL.1.cell 1 _ rfl; have z0 : wx.cell? ⟨g, 0, none⟩ = some (.string s) := hL.1.cell 0 _ rfl; go_simp; refine hK _ _ (fun h => by cases h) (fun _ _ => ?_) (Below.refl _ _); apply RgX.mk))) ?_ rfl RgX.keep_eq (fun _ h => by cases h)
  refine RgX.build_cons (m := 14) (r := RgX.eq _) (RgX.one_plain (by rfl) (by (intro ax wx hk Kx hK; obtain ⟨v23, k23, h23⟩ := hk.dep 0 12 23 _ rfl rfl rfl; (first | (replace h23 := h23 9 undef rfl rfl; first | (cases (h23 : v23 = _)) | (obtain ⟨rfl, h23⟩ := h23) | skip) | skip); have hL := hk.fact 0 0 _ rfl rfl; (try dsimp only at hL); clear hk; have z1 : wx.cell? ⟨g, 1, none⟩ = some (.int .i64 (p : Int)) := hL.1.cell 1 _ rfl; have z0 : wx.cell? ⟨g, 0, none⟩ = some (.string s) := hL.1.cell 0 _ rfl; go_simp; refine hK _ _ (fun h => by cases h) (fun _ _ => ?_) (Below.refl _ _); apply RgX.mk))) ?_ rfl RgX.keep_eq (fun _ h => by cases h)
  refine RgX.build_cons (m := 15) (r := RgX.eq _) (RgX.one_plain (by rfl) (by (intro ax wx hk Kx hK; obtain ⟨v23, k23, h23⟩ := hk.dep 0 12 23 _ rfl rfl rfl; (first | (replace h23 := h23 9 undef rfl rfl; first | (cases (h23 : v23 = _)) | (obtain ⟨rfl, h23⟩ := h23) | skip) | skip); have hL := hk.fact 0 0 _ rfl rfl; (try dsimp only at hL); clear hk; have z1 : wx.cell? ⟨g, 1, none⟩ = some (.int .i64 (p : Int)) := hL.1.cell 1 _ rfl; have z0 : wx.cell? ⟨g, 0, none⟩ = some (.string s) := hL.1.cell 0 _ rfl; go_simp; refine hK _ _ (fun h => by cases h) (fun _ _ => ?_) (Below.refl _ _); apply RgX.mk))) ?_ rfl RgX.keep_eq (fun _ h => by cases h)
  refine RgX.build_cons (m := 16) (r := (⟨fun v _ w5 => ∃ gg, v = .pointer (some ⟨gg, 0, none⟩) ∧ w.heap.size < gg ∧ gg ≠ g ∧ AtG w5 gg 38 (setC 0 0 0 0), some 16, none⟩ : RgX.Rl)) (RgX.one_plain (by rfl) (by (intro ax wx hk Kx hK; have hL := hk.fact 0 0 _ rfl rfl; (try dsimp only at hL); clear hk; have z1 : wx.cell? ⟨g, 1, none⟩ = some (.int .i64 (p : Int)) := hL.1.cell 1 _ rfl; have z0 : wx.cell? ⟨g, 0, none⟩ = some (.string s) := hL.1.cell 0 _ rfl; (go_simp; exact hK _ _ (fun h => by cases h) (fun u _ => ⟨wx.heap.size, rfl, hL.2.1.lt, by have := hL.1.lt; omega, AtG.new _ _ _⟩) ((Below.refl _ _).alloc (Nat.le_refl _) _))))) ?_ rfl (RgX.keep_r (fun _ _ _ _ h hb => by obtain ⟨gg, h1, h2, h3, h4⟩ := h; exact ⟨gg, h1, h2, h3, h4.below hb⟩) (fun _ _ => ⟨fun _ h _ _ => absurd rfl h, trivial⟩)) (fun _ h => by cases h)
  refine RgX.build_cons (m := 17) (r := (⟨fun _ u w5 => ∃ gg, u = .pointer (some ⟨gg, 0, none⟩) ∧ w.heap.size < gg ∧ gg ≠ g ∧ AtG w5 gg 38 (cellsOf F), none, some 15⟩ : RgX.Rl)) (RgX.one_plain (by rfl) (by (intro ax wx hk Kx hK; obtain ⟨v3, k3, h3⟩ := hk.dep 0 15 3 _ rfl rfl rfl; (first | (replace h3 := h3 9 undef rfl rfl; first | (cases (h3 : v3 = _)) | (obtain ⟨rfl, h3⟩ := h3) | skip) | skip); obtain ⟨v36, k36, h36⟩ := hk.dep 0 13 36 _ rfl rfl rfl; (first | (replace h36 := h36 9 undef rfl rfl; first | (cases (h36 : v36 = _)) | (obtain ⟨rfl, h36⟩ := h36) | skip) | skip); have hL := hk.fact 0 0 _ rfl rfl; (try dsimp only at hL); clear hk; have z1 : wx.cell? ⟨g, 1, none⟩ = some (.int .i64 (p : Int)) := hL.1.cell 1 _ rfl; have z0 : wx.cell? ⟨g, 0, none⟩ = some (.string s) := hL.1.cell 0 _ rfl; (obtain ⟨gg, rfl, hg0, hg1, hg2⟩ := h3; have d0 := hg2.cell 0 _ rfl; have d1 := hg2.cell 1 _ rfl; have d2 := hg2.cell 2 _ rfl; have d3 := hg2.cell 3 _ rfl; have f0 := hg2.frozen 0; have f1 := hg2.frozen 1; have f2 := hg2.frozen 2; have f3 := hg2.frozen 3; unfold setOf at k36; go_simp; refine hK undef (putS wx gg F) (fun _ => rfl) (fun u hu => ?_) ⟨gg, F, hg0, hg1, rfl⟩; obtain ⟨t, ht, hu⟩ := hu; cases ht; rw [k3] at hu; cases hu; exact ⟨gg, rfl, hg0, hg1, putS_at hg2 F⟩)))) ?_ rfl (RgX.keep_r (fun _ _ _ _ h hb => by obtain ⟨gg, h1, h2, h3, h4⟩ := h; exact ⟨gg, h1, h2, h3, h4.below hb⟩) (fun _ _ => ⟨fun h _ _ _ => absurd rfl h, trivial⟩)) (fun j h => by cases h; exact ⟨0, rfl⟩)
  refine RgX.build_cons (m := 18) (r := RgX.eq _) (RgX.one_plain (by rfl) (by (intro ax wx hk Kx hK; obtain ⟨v37, k37, h37⟩ := hk.dep 0 14 37 _ rfl rfl rfl; (first | (replace h37 := h37 9 undef rfl rfl; first | (cases (h37 : v37 = _)) | (obtain ⟨rfl, h37⟩ := h37) | skip) | skip); have hL := hk.fact 0 0 _ rfl rfl; (try dsimp only at hL); clear hk; have z1 : wx.cell? ⟨g, 1, none⟩ = some (.int .i64 (p : Int)) := hL.1.cell 1 _ rfl; have z0 : wx.cell? ⟨g, 0, none⟩ = some (.string s) := hL.1.cell 0 _ rfl; go_simp; refine hK _ _ (fun h => by cases h) (fun _ _ => ?_) (Below.refl _ _); apply RgX.mk))) ?_ rfl RgX.keep_eq (fun _ h => by cases h)
  refine RgX.build_end fun wx hj => ?_
  have hL := hj 0 _ rfl rfl
  clear hj
  refine RgX.fin_eq rfl ?_
  refine RgX.fin_eq rfl ?_
  refine RgX.fin_eq rfl ?_
  refine RgX.fin_eq rfl ?_
  refine RgX.fin_eq rfl ?_
  refine RgX.fin_eq rfl ?_
  refine RgX.fin_eq rfl ?_
  refine RgX.fin_eq rfl ?_
  refine RgX.fin_eq rfl ?_
  refine RgX.fin_eq rfl ?_
  refine RgX.fin_eq rfl ?_
  refine RgX.fin_eq rfl ?_
  refine RgX.fin_eq rfl ?_
  refine RgX.fin_eq rfl ?_
  refine RgX.fin_eq rfl ?_
  first | refine RgX.fin_eq rfl ?_ | refine RgX.fin_any rfl fun v3 h3 => ?_
  refine RgX.fin_none rfl fun s16 => ?_
  refine RgX.fin_eq rfl ?_
  refine RgX.fin_nil ?_
  simp only [List.set_cons_zero, List.set_cons_succ]
  clear h3
  obtain ⟨gg, rfl, hg0, hg1, hg2⟩ := s16 rfl v3 ⟨3, by kernel_rfl, by kernel_rfl⟩
  have HA := Lib.hid hL.1; have HR := Lib.hid hL.2.1; have HO := Lib.hid hL.2.2
  clear hL s16 HJ
  have hwp2 : IntKind.i64.wrap ((p : Int) + 2) = (p : Int) + 2 := by rw [IntKind.wrap_i64]; omega
  have z1 : wx.cell? ⟨g, 1, none⟩ = some (.int .i64 (p : Int)) := HA.out.cell 1 _ rfl
  have y1 := HA.out.frozen 1
  have c0 : wx.cell? ⟨gg, 0, none⟩ = some (.int .u64 ((wd F 0 : Nat) : Int)) := hg2.cell 0 _ rfl; have c1 : wx.cell? ⟨gg, 1, none⟩ = some (.int .u64 ((wd F 1 : Nat) : Int)) := hg2.cell 1 _ rfl; have c2 : wx.cell? ⟨gg, 2, none⟩ = some (.int .u64 ((wd F 2 : Nat) : Int)) := hg2.cell 2 _ rfl; have c3 : wx.cell? ⟨gg, 3, none⟩ = some (.int .u64 ((wd F 3 : Nat) : Int)) := hg2.cell 3 _ rfl
  have d0 := (HR.out).cell 0 _ rfl; have d1 := (HR.out).cell 1 _ rfl; have d2 := (HR.out).cell 2 _ rfl; have d3 := (HR.out).cell 3 _ rfl
  have f0 := (HR.out).frozen 0; have f1 := (HR.out).frozen 1; have f2 := (HR.out).frozen 2; have f3 := (HR.out).frozen 3
  have hn1 := HG.out; have hn2 := HG2.out
  clear hg2
  go_wp2_with fail
  refine bodyPost_ret (v := setOf F) (by simp [results, Tryz.results128, go_sem, d0, d1, d2, d3, hn1, hn2]; try rfl) rfl ⟨F, rfl, ?_, ?_, fun a q h => by injection h⟩
  · have hx : AtG (wx.setCell ⟨g, 1, none⟩ (.int .i64 ((p : Int) + 2))) g 114 (rdr s ((p + 2 : Nat) : Int) o 0 x) := by
      rw [show ((p + 2 : Nat) : Int) = (p : Int) + 2 from by omega]; exact HA.out.set 1 _
    exact putS_far hx HG2.out F
  · exact (HO.out.st g 1 _ (.inl rfl)).pS _ F (.inr (Nat.le_refl _))
set_option maxRecDepth 100000 in
set_option maxHeartbeats 1600000 in
theorem item_none (g : Nat) (s : ByteArray) (p : Nat) (o x : Int) (w : World) (h : AtG w g 114 (rdr s p o 0 x)) (hp : p ≤ s.size) (hm : s.size ≤ 1000) (h92 : ch s p = 92) (hn : p + 1 < s.size) (hwd : wideF (ch s (p + 1)) = none) :
    Calls Tryz.prog 128 #[.pointer (some ⟨g, 0, none⟩)] w fun e w' => ∃ F : Nat → Bool, e = .returned (setOf F) ∧ StR s g o x (itemF s p) w' ∧ Only (fun k => k = g) w w' ∧ ∀ f q, itemF s p = .ok f q → F = f := by
  have HP := Lib.hid hp; have HM := Lib.hid hm
  have HR0 := Lib.hid (AtG.new w 38 (setC 0 0 0 0))
  have HA0 := Lib.hid (h.alloc (.cells (setC 0 0 0 0) 38))
  have HO0 := Lib.hid ((Only.refl (S := fun k => k = g) w).al (.cells (setC 0 0 0 0) 38))
  have HG : Hid (w.heap.size ≠ g) := Lib.hid (by have := h.lt; omega)
  have HG2 : Hid (g ≠ w.heap.size) := Lib.hid (by have := h.lt; omega)
  have HZ : Hid (w.heap.size ≤ w.heap.size) := Lib.hid (Nat.le_refl _)
  have HPK := Lib.hid (fun w h => peek_any g s p o x w h)
  have hif : ∀ c, ch s p = c → itemF s p = if c = 92 ∧ p + 1 < s.size then (match wideF (ch s (p + 1)) with | some f => .ok f (p + 2) | none => itemE s (memberF s p)) else itemE s (memberF s p) := fun c hc => by unfold itemF; rw [hc]; rfl
  generalize ch s p = c at *
  rw [hif c rfl]
  clear hif h hp hm
  have hpI : (p : Int) < 1001 := by have := HP.out; have := HM.out; omega
  subst h92
  rw [if_pos ⟨rfl, hn⟩]
  have hnI : (p : Int) + 1 < (s.size : Int) := by omega
  have hwp : IntKind.i64.wrap ((p : Int) + 1) = (p : Int) + 1 := by rw [IntKind.wrap_i64]; omega
  have hcl := ch_lt s (p + 1)
  obtain ⟨c1, hc1⟩ : ∃ c1, c1 = ch s (p + 1) := ⟨_, rfl⟩
  have hch : ((s[p + 1].toNat : Nat) : Int) = c1 := by rw [hc1, ch_in hn]
  rw [← hc1] at hcl hwd
  rw [← hc1, hwd]
  clear hc1
  have hwr : IntKind.i64.wrap c1 = c1 := by rw [IntKind.wrap_i64]; omega
  have hV : wideV c1 = .tuple #[setOf emp, .bool false] := by unfold wideV; rw [hwd]
  obtain ⟨F, hF⟩ : ∃ F, F = emp := ⟨_, rfl⟩
  rw [← hF] at hV
  have HWD : Hid (∀ w, Calls Tryz.prog 111 #[.int .i64 c1] w fun e w' => e = .returned (.tuple #[setOf F, .bool false]) ∧ Below w.heap.size w w') := Lib.hid (fun w => by rw [← hV]; exact wide_any _ w)
  clear hwd hV hF
  dsimp only
  obtain ⟨R, hR⟩ : ∃ R, R = itemE s (memberF s p) := ⟨_, rfl⟩
  rw [← hR]
  have HR0X := Lib.hid hR
  clear hR
  go_enter Tryz.func128, Tryz.ntmps128
  go_upto_region 1 with (fail)
  refine Rg.wp_region_each (by kernel_rfl) (fun w' => AtG w' g 114 (rdr s p o 0 x) ∧ AtG w' w.heap.size 38 (setC 0 0 0 0) ∧ Only (fun k => k = g) w w') (fun w1 w2 h hb => ⟨h.1.below hb, h.2.1.below hb, h.2.2.tb hb⟩) (by kernel_rfl) (by kernel_rfl) (⟨HA0.out, HR0.out, HO0.out⟩) ?_
  show Rg.Build _ _ _ _ _ 0 [_, _, _, _, _, _, _, _, _, _, _, _, _, _, _, _] []
  refine Rg.build_cons (m := 1) (r := Rg.eq _) (Rg.one_plain (by rfl) (by (intro ax wx hk Kx hK; have k0 := hk.base 0 _ rfl rfl; have hj := hk.j; clear hk; have z1 : wx.cell? ⟨g, 1, none⟩ = some (.int .i64 (p : Int)) := hj.1.cell 1 _ rfl; have z0 : wx.cell? ⟨g, 0, none⟩ = some (.string s) := hj.1.cell 0 _ rfl; go_simp; refine hK _ _ ?_ (Below.refl _ _); apply Rg.mk))) ?_ rfl
  refine Rg.build_cons (m := 2) (r := Rg.eq _) (Rg.one_plain (by rfl) (by (intro ax wx hk Kx hK; obtain ⟨v7, k7, h7⟩ := hk.dep 0 7 _ rfl rfl rfl; (first | (cases (h7 : v7 = _)) | (obtain ⟨rfl, h7⟩ := h7) | skip); have hj := hk.j; clear hk; have z1 : wx.cell? ⟨g, 1, none⟩ = some (.int .i64 (p : Int)) := hj.1.cell 1 _ rfl; have z0 : wx.cell? ⟨g, 0, none⟩ = some (.string s) := hj.1.cell 0 _ rfl; go_simp; refine (HPK.out _ hj.1).mono ?_; rintro e w' ⟨rfl, hb⟩; refine hK _ _ ?_ hb; apply Rg.mk))) ?_ rfl
  refine Rg.build_cons (m := 3) (r := Rg.eq (.bool true)) (Rg.one_plain (by rfl) (by (intro ax wx hk Kx hK; obtain ⟨v8, k8, h8⟩ := hk.dep 1 8 _ rfl rfl rfl; (first | (cases (h8 : v8 = _)) | (obtain ⟨rfl, h8⟩ := h8) | skip); have hj := hk.j; clear hk; have z1 : wx.cell? ⟨g, 1, none⟩ = some (.int .i64 (p : Int)) := hj.1.cell 1 _ rfl; have z0 : wx.cell? ⟨g, 0, none⟩ = some (.string s) := hj.1.cell 0 _ rfl; (go_simp; refine hK _ _ ?_ (Below.refl _ _); simp [Rg.eq])))) ?_ rfl
  refine Rg.build_cons (m := 4) (r := Rg.eq _) (Rg.one_plain (by rfl) (by (intro ax wx hk Kx hK; obtain ⟨v9, k9, h9⟩ := hk.dep 2 9 _ rfl rfl rfl; (first | (cases (h9 : v9 = _)) | (obtain ⟨rfl, h9⟩ := h9) | skip); have hj := hk.j; clear hk; have z1 : wx.cell? ⟨g, 1, none⟩ = some (.int .i64 (p : Int)) := hj.1.cell 1 _ rfl; have z0 : wx.cell? ⟨g, 0, none⟩ = some (.string s) := hj.1.cell 0 _ rfl; go_simp; refine hK _ _ ?_ (Below.refl _ _); apply Rg.mk))) ?_ rfl
  first
    | refine Rg.build_cons (m := 5) (Rg.one_no 3 10 true (by rfl) (by rfl) (by rfl) (by rfl)) ?_ rfl
    | refine Rg.build_cons (m := 5) (Rg.one_und 3 10 true (by rfl) (by rfl) (by rfl) (by rfl)) ?_ rfl
    | refine Rg.build_cons (m := 5) (r := Rg.eq _) (Rg.one_yes 3 10 true (by rfl) (by rfl) (by rfl) (by rfl) (by (intro ax wx hk Kx hK; have k0 := hk.base 0 _ rfl rfl; have hj := hk.j; clear hk; have z1 : wx.cell? ⟨g, 1, none⟩ = some (.int .i64 (p : Int)) := hj.1.cell 1 _ rfl; have z0 : wx.cell? ⟨g, 0, none⟩ = some (.string s) := hj.1.cell 0 _ rfl; go_simp; refine hK _ _ ?_ (Below.refl _ _); apply Rg.mk))) ?_ rfl
  first
    | refine Rg.build_cons (m := 6) (Rg.one_no 3 10 true (by rfl) (by rfl) (by rfl) (by rfl)) ?_ rfl
    | refine Rg.build_cons (m := 6) (Rg.one_und 3 10 true (by rfl) (by rfl) (by rfl) (by rfl)) ?_ rfl
    | refine Rg.build_cons (m := 6) (r := Rg.eq _) (Rg.one_yes 3 10 true (by rfl) (by rfl) (by rfl) (by rfl) (by (intro ax wx hk Kx hK; obtain ⟨v11, k11, h11⟩ := hk.dep 4 11 _ rfl rfl rfl; (first | (cases (h11 : v11 = _)) | (obtain ⟨rfl, h11⟩ := h11) | skip); have hj := hk.j; clear hk; have z1 : wx.cell? ⟨g, 1, none⟩ = some (.int .i64 (p : Int)) := hj.1.cell 1 _ rfl; have z0 : wx.cell? ⟨g, 0, none⟩ = some (.string s) := hj.1.cell 0 _ rfl; go_simp; refine hK _ _ ?_ (Below.refl _ _); apply Rg.mk))) ?_ rfl
  first
    | refine Rg.build_cons (m := 7) (Rg.one_no 3 10 true (by rfl) (by rfl) (by rfl) (by rfl)) ?_ rfl
    | refine Rg.build_cons (m := 7) (Rg.one_und 3 10 true (by rfl) (by rfl) (by rfl) (by rfl)) ?_ rfl
    | refine Rg.build_cons (m := 7) (r := Rg.eq _) (Rg.one_yes 3 10 true (by rfl) (by rfl) (by rfl) (by rfl) (by (intro ax wx hk Kx hK; obtain ⟨v12, k12, h12⟩ := hk.dep 5 12 _ rfl rfl rfl; (first | (cases (h12 : v12 = _)) | (obtain ⟨rfl, h12⟩ := h12) | skip); have hj := hk.j; clear hk; have z1 : wx.cell? ⟨g, 1, none⟩ = some (.int .i64 (p : Int)) := hj.1.cell 1 _ rfl; have z0 : wx.cell? ⟨g, 0, none⟩ = some (.string s) := hj.1.cell 0 _ rfl; go_simp; refine hK _ _ ?_ (Below.refl _ _); apply Rg.mk))) ?_ rfl
  first
    | refine Rg.build_cons (m := 8) (Rg.one_no 3 10 true (by rfl) (by rfl) (by rfl) (by rfl)) ?_ rfl
    | refine Rg.build_cons (m := 8) (Rg.one_und 3 10 true (by rfl) (by rfl) (by rfl) (by rfl)) ?_ rfl
    | refine Rg.build_cons (m := 8) (r := Rg.eq _) (Rg.one_yes 3 10 true (by rfl) (by rfl) (by rfl) (by rfl) (by (intro ax wx hk Kx hK; obtain ⟨v13, k13, h13⟩ := hk.dep 6 13 _ rfl rfl rfl; (first | (cases (h13 : v13 = _)) | (obtain ⟨rfl, h13⟩ := h13) | skip); have hj := hk.j; clear hk; have z1 : wx.cell? ⟨g, 1, none⟩ = some (.int .i64 (p : Int)) := hj.1.cell 1 _ rfl; have z0 : wx.cell? ⟨g, 0, none⟩ = some (.string s) := hj.1.cell 0 _ rfl; go_simp; refine hK _ _ ?_ (Below.refl _ _); apply Rg.mk))) ?_ rfl
  first
    | refine Rg.build_cons (m := 9) (Rg.one_no 3 10 true (by rfl) (by rfl) (by rfl) (by rfl)) ?_ rfl
    | refine Rg.build_cons (m := 9) (Rg.one_und 3 10 true (by rfl) (by rfl) (by rfl) (by rfl)) ?_ rfl
    | refine Rg.build_cons (m := 9) (r := Rg.eq (.int .i64 ((p : Int) + 1))) (Rg.one_yes 3 10 true (by rfl) (by rfl) (by rfl) (by rfl) (by (intro ax wx hk Kx hK; obtain ⟨v14, k14, h14⟩ := hk.dep 7 14 _ rfl rfl rfl; (first | (cases (h14 : v14 = _)) | (obtain ⟨rfl, h14⟩ := h14) | skip); have hj := hk.j; clear hk; have z1 : wx.cell? ⟨g, 1, none⟩ = some (.int .i64 (p : Int)) := hj.1.cell 1 _ rfl; have z0 : wx.cell? ⟨g, 0, none⟩ = some (.string s) := hj.1.cell 0 _ rfl; (go_simp; refine hK _ _ ?_ (Below.refl _ _); simp [Rg.eq, hwp])))) ?_ rfl
  first
    | refine Rg.build_cons (m := 10) (Rg.one_no 3 10 true (by rfl) (by rfl) (by rfl) (by rfl)) ?_ rfl
    | refine Rg.build_cons (m := 10) (Rg.one_und 3 10 true (by rfl) (by rfl) (by rfl) (by rfl)) ?_ rfl
    | refine Rg.build_cons (m := 10) (r := Rg.eq _) (Rg.one_yes 3 10 true (by rfl) (by rfl) (by rfl) (by rfl) (by (intro ax wx hk Kx hK; have k0 := hk.base 0 _ rfl rfl; have hj := hk.j; clear hk; have z1 : wx.cell? ⟨g, 1, none⟩ = some (.int .i64 (p : Int)) := hj.1.cell 1 _ rfl; have z0 : wx.cell? ⟨g, 0, none⟩ = some (.string s) := hj.1.cell 0 _ rfl; go_simp; refine hK _ _ ?_ (Below.refl _ _); apply Rg.mk))) ?_ rfl
  first
    | refine Rg.build_cons (m := 11) (Rg.one_no 3 10 true (by rfl) (by rfl) (by rfl) (by rfl)) ?_ rfl
    | refine Rg.build_cons (m := 11) (Rg.one_und 3 10 true (by rfl) (by rfl) (by rfl) (by rfl)) ?_ rfl
    | refine Rg.build_cons (m := 11) (r := Rg.eq _) (Rg.one_yes 3 10 true (by rfl) (by rfl) (by rfl) (by rfl) (by (intro ax wx hk Kx hK; obtain ⟨v16, k16, h16⟩ := hk.dep 9 16 _ rfl rfl rfl; (first | (cases (h16 : v16 = _)) | (obtain ⟨rfl, h16⟩ := h16) | skip); have hj := hk.j; clear hk; have z1 : wx.cell? ⟨g, 1, none⟩ = some (.int .i64 (p : Int)) := hj.1.cell 1 _ rfl; have z0 : wx.cell? ⟨g, 0, none⟩ = some (.string s) := hj.1.cell 0 _ rfl; go_simp; refine hK _ _ ?_ (Below.refl _ _); apply Rg.mk))) ?_ rfl
  first
    | refine Rg.build_cons (m := 12) (Rg.one_no 3 10 true (by rfl) (by rfl) (by rfl) (by rfl)) ?_ rfl
    | refine Rg.build_cons (m := 12) (Rg.one_und 3 10 true (by rfl) (by rfl) (by rfl) (by rfl)) ?_ rfl
    | refine Rg.build_cons (m := 12) (r := Rg.eq _) (Rg.one_yes 3 10 true (by rfl) (by rfl) (by rfl) (by rfl) (by (intro ax wx hk Kx hK; obtain ⟨v17, k17, h17⟩ := hk.dep 10 17 _ rfl rfl rfl; (first | (cases (h17 : v17 = _)) | (obtain ⟨rfl, h17⟩ := h17) | skip); have hj := hk.j; clear hk; have z1 : wx.cell? ⟨g, 1, none⟩ = some (.int .i64 (p : Int)) := hj.1.cell 1 _ rfl; have z0 : wx.cell? ⟨g, 0, none⟩ = some (.string s) := hj.1.cell 0 _ rfl; go_simp; refine hK _ _ ?_ (Below.refl _ _); apply Rg.mk))) ?_ rfl
  first
    | refine Rg.build_cons (m := 13) (Rg.one_no 3 10 true (by rfl) (by rfl) (by rfl) (by rfl)) ?_ rfl
    | refine Rg.build_cons (m := 13) (Rg.one_und 3 10 true (by rfl) (by rfl) (by rfl) (by rfl)) ?_ rfl
    | refine Rg.build_cons (m := 13) (r := Rg.eq _) (Rg.one_yes 3 10 true (by rfl) (by rfl) (by rfl) (by rfl) (by (intro ax wx hk Kx hK; obtain ⟨v18, k18, h18⟩ := hk.dep 11 18 _ rfl rfl rfl; (first | (cases (h18 : v18 = _)) | (obtain ⟨rfl, h18⟩ := h18) | skip); have hj := hk.j; clear hk; have z1 : wx.cell? ⟨g, 1, none⟩ = some (.int .i64 (p : Int)) := hj.1.cell 1 _ rfl; have z0 : wx.cell? ⟨g, 0, none⟩ = some (.string s) := hj.1.cell 0 _ rfl; go_simp; refine hK _ _ ?_ (Below.refl _ _); apply Rg.mk))) ?_ rfl
  first
    | refine Rg.build_cons (m := 14) (Rg.one_no 3 10 true (by rfl) (by rfl) (by rfl) (by rfl)) ?_ rfl
    | refine Rg.build_cons (m := 14) (Rg.one_und 3 10 true (by rfl) (by rfl) (by rfl) (by rfl)) ?_ rfl
    | refine Rg.build_cons (m := 14) (r := Rg.eq _) (Rg.one_yes 3 10 true (by rfl) (by rfl) (by rfl) (by rfl) (by (intro ax wx hk Kx hK; obtain ⟨v19, k19, h19⟩ := hk.dep 12 19 _ rfl rfl rfl; (first | (cases (h19 : v19 = _)) | (obtain ⟨rfl, h19⟩ := h19) | skip); have hj := hk.j; clear hk; have z1 : wx.cell? ⟨g, 1, none⟩ = some (.int .i64 (p : Int)) := hj.1.cell 1 _ rfl; have z0 : wx.cell? ⟨g, 0, none⟩ = some (.string s) := hj.1.cell 0 _ rfl; go_simp; refine hK _ _ ?_ (Below.refl _ _); apply Rg.mk))) ?_ rfl
  first
    | refine Rg.build_cons (m := 15) (Rg.one_no 3 10 true (by rfl) (by rfl) (by rfl) (by rfl)) ?_ rfl
    | refine Rg.build_cons (m := 15) (Rg.one_und 3 10 true (by rfl) (by rfl) (by rfl) (by rfl)) ?_ rfl
    | refine Rg.build_cons (m := 15) (r := Rg.eq (.bool true)) (Rg.one_yes 3 10 true (by rfl) (by rfl) (by rfl) (by rfl) (by (intro ax wx hk Kx hK; obtain ⟨v15, k15, h15⟩ := hk.dep 8 15 _ rfl rfl rfl; (first | (cases (h15 : v15 = _)) | (obtain ⟨rfl, h15⟩ := h15) | skip); obtain ⟨v20, k20, h20⟩ := hk.dep 13 20 _ rfl rfl rfl; (first | (cases (h20 : v20 = _)) | (obtain ⟨rfl, h20⟩ := h20) | skip); have hj := hk.j; clear hk; have z1 : wx.cell? ⟨g, 1, none⟩ = some (.int .i64 (p : Int)) := hj.1.cell 1 _ rfl; have z0 : wx.cell? ⟨g, 0, none⟩ = some (.string s) := hj.1.cell 0 _ rfl; (go_simp; refine hK _ _ ?_ (Below.refl _ _); simp [Rg.eq, hnI])))) ?_ rfl
  refine Rg.build_cons (m := 16) (r := Rg.eq _) (Rg.one_plain (by rfl) (by (intro ax wx hk Kx hK; obtain ⟨v10, k10, h10⟩ := hk.dep 3 10 _ rfl rfl rfl; (first | (cases (h10 : v10 = _)) | (obtain ⟨rfl, h10⟩ := h10) | skip); obtain ⟨v21, k21, h21⟩ := hk.dep 14 21 _ rfl rfl rfl; (first | (cases (h21 : v21 = _)) | (obtain ⟨rfl, h21⟩ := h21) | skip); have hj := hk.j; clear hk; have z1 : wx.cell? ⟨g, 1, none⟩ = some (.int .i64 (p : Int)) := hj.1.cell 1 _ rfl; have z0 : wx.cell? ⟨g, 0, none⟩ = some (.string s) := hj.1.cell 0 _ rfl; go_simp; refine hK _ _ ?_ (Below.refl _ _); apply Rg.mk))) ?_ rfl
  refine Rg.build_end fun wx hj => ?_
  refine Rg.fin_eq rfl ?_
  refine Rg.fin_eq rfl ?_
  first | refine Rg.fin_eq rfl ?_ | refine Rg.fin_any rfl fun v9 h9 => ?_
  refine Rg.fin_eq rfl ?_
  refine Rg.fin_eq rfl ?_
  refine Rg.fin_eq rfl ?_
  refine Rg.fin_eq rfl ?_
  refine Rg.fin_eq rfl ?_
  first | refine Rg.fin_eq rfl ?_ | refine Rg.fin_any rfl fun v15 h15 => ?_
  refine Rg.fin_eq rfl ?_
  refine Rg.fin_eq rfl ?_
  refine Rg.fin_eq rfl ?_
  refine Rg.fin_eq rfl ?_
  refine Rg.fin_eq rfl ?_
  first | refine Rg.fin_eq rfl ?_ | refine Rg.fin_any rfl fun v21 h21 => ?_
  refine Rg.fin_eq rfl ?_
  refine Rg.fin_nil ?_
  simp only [List.set_cons_zero, List.set_cons_succ]
  have HJ := Lib.hid hj; clear hj
  go_upto_region 2 with (fail)
  obtain ⟨w1, rfl⟩ : ∃ w1 : World, w1 = wx := ⟨_, rfl⟩
  refine RgX.start (by kernel_rfl) [(16, fun w5 w6 => ∃ gg f, w.heap.size < gg ∧ gg ≠ g ∧ w6 = putS w5 gg f)] [⟨fun w' => AtG w' g 114 (rdr s p o 0 x) ∧ AtG w' w.heap.size 38 (setC 0 0 0 0) ∧ Only (fun k => k = g) w w', none⟩] ⟨⟨fun _ _ h hb => ⟨h.1.below hb, h.2.1.below hb, h.2.2.tb hb⟩, ⟨fun _ _ _ _ => (fun w5 w6 h he => by obtain ⟨gg, f, h1, h2, rfl⟩ := he; exact ⟨putS_far h.1 (fun e => h2 e.symm) _, putS_far h.2.1 (by omega) _, h.2.2.pS _ _ (.inr (by omega))⟩), trivial⟩⟩, trivial⟩ (by kernel_rfl) (by kernel_rfl) ⟨⟨HJ.out.1.drew, HJ.out.2.1.drew, HJ.out.2.2.drew⟩, trivial⟩ ?_
  show RgX.Build _ _ _ _ _ _ 0 [_, _, _, _, _, _, _, _, _, _, _, _, _, _, _, _, _, _] []
  refine RgX.build_cons (m := 1) (r := RgX.eq _) (RgX.one_plain (by rfl) (by (intro ax wx hk Kx hK; have k0 := hk.base 0 _ rfl rfl; have hL := hk.fact 0 0 _ rfl rfl; (try dsimp only at hL); clear hk; have z1 : wx.cell? ⟨g, 1, none⟩ = some (.int .i64 (p : Int)) := hL.1.cell 1 _ rfl; have z0 : wx.cell? ⟨g, 0, none⟩ = some (.string s) := hL.1.cell 0 _ rfl; go_simp; refine hK _ _ (fun h => by cases h) (fun _ _ => ?_) (Below.refl _ _); apply RgX.mk))) ?_ rfl RgX.keep_eq (fun _ h => by cases h)
  refine RgX.build_cons (m := 2) (r := RgX.eq _) (RgX.one_plain (by rfl) (by (intro ax wx hk Kx hK; obtain ⟨v24, k24, h24⟩ := hk.dep 0 0 24 _ rfl rfl rfl; (first | (replace h24 := h24 9 undef rfl rfl; first | (cases (h24 : v24 = _)) | (obtain ⟨rfl, h24⟩ := h24) | skip) | skip); have hL := hk.fact 0 0 _ rfl rfl; (try dsimp only at hL); clear hk; have z1 : wx.cell? ⟨g, 1, none⟩ = some (.int .i64 (p : Int)) := hL.1.cell 1 _ rfl; have z0 : wx.cell? ⟨g, 0, none⟩ = some (.string s) := hL.1.cell 0 _ rfl; go_simp; refine hK _ _ (fun h => by cases h) (fun _ _ => ?_) (Below.refl _ _); apply RgX.mk))) ?_ rfl RgX.keep_eq (fun _ h => by cases h)
  refine RgX.build_cons (m := 3) (r := RgX.eq _) (RgX.one_plain (by rfl) (by (intro ax wx hk Kx hK; obtain ⟨v25, k25, h25⟩ := hk.dep 0 1 25 _ rfl rfl rfl; (first | (replace h25 := h25 9 undef rfl rfl; first | (cases (h25 : v25 = _)) | (obtain ⟨rfl, h25⟩ := h25) | skip) | skip); have hL := hk.fact 0 0 _ rfl rfl; (try dsimp only at hL); clear hk; have z1 : wx.cell? ⟨g, 1, none⟩ = some (.int .i64 (p : Int)) := hL.1.cell 1 _ rfl; have z0 : wx.cell? ⟨g, 0, none⟩ = some (.string s) := hL.1.cell 0 _ rfl; go_simp; refine hK _ _ (fun h => by cases h) (fun _ _ => ?_) (Below.refl _ _); apply RgX.mk))) ?_ rfl RgX.keep_eq (fun _ h => by cases h)
  refine RgX.build_cons (m := 4) (r := RgX.eq _) (RgX.one_plain (by rfl) (by (intro ax wx hk Kx hK; obtain ⟨v26, k26, h26⟩ := hk.dep 0 2 26 _ rfl rfl rfl; (first | (replace h26 := h26 9 undef rfl rfl; first | (cases (h26 : v26 = _)) | (obtain ⟨rfl, h26⟩ := h26) | skip) | skip); have hL := hk.fact 0 0 _ rfl rfl; (try dsimp only at hL); clear hk; have z1 : wx.cell? ⟨g, 1, none⟩ = some (.int .i64 (p : Int)) := hL.1.cell 1 _ rfl; have z0 : wx.cell? ⟨g, 0, none⟩ = some (.string s) := hL.1.cell 0 _ rfl; go_simp; refine hK _ _ (fun h => by cases h) (fun _ _ => ?_) (Below.refl _ _); apply RgX.mk))) ?_ rfl RgX.keep_eq (fun _ h => by cases h)
  refine RgX.build_cons (m := 5) (r := RgX.eq _) (RgX.one_plain (by rfl) (by (intro ax wx hk Kx hK; have k0 := hk.base 0 _ rfl rfl; have hL := hk.fact 0 0 _ rfl rfl; (try dsimp only at hL); clear hk; have z1 : wx.cell? ⟨g, 1, none⟩ = some (.int .i64 (p : Int)) := hL.1.cell 1 _ rfl; have z0 : wx.cell? ⟨g, 0, none⟩ = some (.string s) := hL.1.cell 0 _ rfl; go_simp; refine hK _ _ (fun h => by cases h) (fun _ _ => ?_) (Below.refl _ _); apply RgX.mk))) ?_ rfl RgX.keep_eq (fun _ h => by cases h)
  refine RgX.build_cons (m := 6) (r := RgX.eq _) (RgX.one_plain (by rfl) (by (intro ax wx hk Kx hK; obtain ⟨v28, k28, h28⟩ := hk.dep 0 4 28 _ rfl rfl rfl; (first | (replace h28 := h28 9 undef rfl rfl; first | (cases (h28 : v28 = _)) | (obtain ⟨rfl, h28⟩ := h28) | skip) | skip); have hL := hk.fact 0 0 _ rfl rfl; (try dsimp only at hL); clear hk; have z1 : wx.cell? ⟨g, 1, none⟩ = some (.int .i64 (p : Int)) := hL.1.cell 1 _ rfl; have z0 : wx.cell? ⟨g, 0, none⟩ = some (.string s) := hL.1.cell 0 _ rfl; go_simp; refine hK _ _ (fun h => by cases h) (fun _ _ => ?_) (Below.refl _ _); apply RgX.mk))) ?_ rfl RgX.keep_eq (fun _ h => by cases h)
  refine RgX.build_cons (m := 7) (r := RgX.eq _) (RgX.one_plain (by rfl) (by (intro ax wx hk Kx hK; obtain ⟨v29, k29, h29⟩ := hk.dep 0 5 29 _ rfl rfl rfl; (first | (replace h29 := h29 9 undef rfl rfl; first | (cases (h29 : v29 = _)) | (obtain ⟨rfl, h29⟩ := h29) | skip) | skip); have hL := hk.fact 0 0 _ rfl rfl; (try dsimp only at hL); clear hk; have z1 : wx.cell? ⟨g, 1, none⟩ = some (.int .i64 (p : Int)) := hL.1.cell 1 _ rfl; have z0 : wx.cell? ⟨g, 0, none⟩ = some (.string s) := hL.1.cell 0 _ rfl; go_simp; refine hK _ _ (fun h => by cases h) (fun _ _ => ?_) (Below.refl _ _); apply RgX.mk))) ?_ rfl RgX.keep_eq (fun _ h => by cases h)
  refine RgX.build_cons (m := 8) (r := RgX.eq _) (RgX.one_plain (by rfl) (by (intro ax wx hk Kx hK; obtain ⟨v30, k30, h30⟩ := hk.dep 0 6 30 _ rfl rfl rfl; (first | (replace h30 := h30 9 undef rfl rfl; first | (cases (h30 : v30 = _)) | (obtain ⟨rfl, h30⟩ := h30) | skip) | skip); have hL := hk.fact 0 0 _ rfl rfl; (try dsimp only at hL); clear hk; have z1 : wx.cell? ⟨g, 1, none⟩ = some (.int .i64 (p : Int)) := hL.1.cell 1 _ rfl; have z0 : wx.cell? ⟨g, 0, none⟩ = some (.string s) := hL.1.cell 0 _ rfl; go_simp; refine hK _ _ (fun h => by cases h) (fun _ _ => ?_) (Below.refl _ _); apply RgX.mk))) ?_ rfl RgX.keep_eq (fun _ h => by cases h)
  refine RgX.build_cons (m := 9) (r := RgX.eq (.int .i64 ((p : Int) + 1))) (RgX.one_plain (by rfl) (by (intro ax wx hk Kx hK; obtain ⟨v31, k31, h31⟩ := hk.dep 0 7 31 _ rfl rfl rfl; (first | (replace h31 := h31 9 undef rfl rfl; first | (cases (h31 : v31 = _)) | (obtain ⟨rfl, h31⟩ := h31) | skip) | skip); have hL := hk.fact 0 0 _ rfl rfl; (try dsimp only at hL); clear hk; have z1 : wx.cell? ⟨g, 1, none⟩ = some (.int .i64 (p : Int)) := hL.1.cell 1 _ rfl; have z0 : wx.cell? ⟨g, 0, none⟩ = some (.string s) := hL.1.cell 0 _ rfl; (go_simp; refine hK _ _ (fun h => by cases h) (fun _ _ => ?_) (Below.refl _ _); simp [RgX.eq, hwp])))) ?_ rfl RgX.keep_eq (fun _ h => by cases h)
  refine RgX.build_cons (m := 10) (r := RgX.eq (.int .u8 (c1))) (RgX.one_plain (by rfl) (by (intro ax wx hk Kx hK; obtain ⟨v27, k27, h27⟩ := hk.dep 0 3 27 _ rfl rfl rfl; (first | (replace h27 := h27 9 undef rfl rfl; first | (cases (h27 : v27 = _)) | (obtain ⟨rfl, h27⟩ := h27) | skip) | skip); obtain ⟨v32, k32, h32⟩ := hk.dep 0 8 32 _ rfl rfl rfl; (first | (replace h32 := h32 9 undef rfl rfl; first | (cases (h32 : v32 = _)) | (obtain ⟨rfl, h32⟩ := h32) | skip) | skip); have hL := hk.fact 0 0 _ rfl rfl; (try dsimp only at hL); clear hk; have z1 : wx.cell? ⟨g, 1, none⟩ = some (.int .i64 (p : Int)) := hL.1.cell 1 _ rfl; have z0 : wx.cell? ⟨g, 0, none⟩ = some (.string s) := hL.1.cell 0 _ rfl; (go_simp; refine hK _ _ (fun h => by cases h) (fun _ _ => ?_) (Below.refl _ _); simp [RgX.eq, hch])))) ?_ rfl RgX.keep_eq (fun _ h => by cases h)
  refine RgX.build_cons (m := 11) (r := RgX.eq (.int .i64 (c1))) (RgX.one_plain (by rfl) (by (intro ax wx hk Kx hK; obtain ⟨v33, k33, h33⟩ := hk.dep 0 9 33 _ rfl rfl rfl; (first | (replace h33 := h33 9 undef rfl rfl; first | (cases (h33 : v33 = _)) | (obtain ⟨rfl, h33⟩ := h33) | skip) | skip); have hL := hk.fact 0 0 _ rfl rfl; (try dsimp only at hL); clear hk; have z1 : wx.cell? ⟨g, 1, none⟩ = some (.int .i64 (p : Int)) := hL.1.cell 1 _ rfl; have z0 : wx.cell? ⟨g, 0, none⟩ = some (.string s) := hL.1.cell 0 _ rfl; (go_simp; refine hK _ _ (fun h => by cases h) (fun _ _ => ?_) (Below.refl _ _); simp [RgX.eq, hwr])))) ?_ rfl RgX.keep_eq (fun _ h => by cases h)
  refine RgX.build_cons (m := 12) (r := RgX.eq _) (RgX.one_plain (by rfl) (by (intro ax wx hk Kx hK; obtain ⟨v34, k34, h34⟩ := hk.dep 0 10 34 _ rfl rfl rfl; (first | (replace h34 := h34 9 undef rfl rfl; first | (cases (h34 : v34 = _)) | (obtain ⟨rfl, h34⟩ := h34) | skip) | skip); have hL := hk.fact 0 0 _ rfl rfl; (try dsimp only at hL); clear hk; have z1 : wx.cell? ⟨g, 1, none⟩ = some (.int .i64 (p : Int)) := hL.1.cell 1 _ rfl; have z0 : wx.cell? ⟨g, 0, none⟩ = some (.string s) := hL.1.cell 0 _ rfl; go_simp; refine (HWD.out _).mono ?_; rintro e w' ⟨rfl, hb⟩; refine hK _ _ (fun h => by cases h) (fun _ _ => ?_) hb; apply RgX.mk))) ?_ rfl RgX.keep_eq (fun _ h => by cases h)
  refine RgX.build_cons (m := 13) (r := RgX.eq _) (RgX.one_plain (by rfl) (by (intro ax wx hk Kx hK; obtain ⟨v35, k35, h35⟩ := hk.dep 0 11 35 _ rfl rfl rfl; (first | (replace h35 := h35 9 undef rfl rfl; first | (cases (h35 : v35 = _)) | (obtain ⟨rfl, h35⟩ := h35) | skip) | skip); have hL := hk.fact 0 0 _ rfl rfl; (try dsimp only at hL); clear hk; have z1 : wx.cell? ⟨g, 1, none⟩ = some (.int .i64 (p : Int)) := hL.1.cell 1 _ rfl; have z0 : wx.cell? ⟨g, 0, none⟩ = some (.string s) := hL.1.cell 0 _ rfl; go_simp; refine hK _ _ (fun h => by cases h) (fun _ _ => ?_) (Below.refl _ _); apply RgX.mk))) ?_ rfl RgX.keep_eq (fun _ h => by cases h)
  refine RgX.build_cons (m := 14) (r := RgX.eq _) (RgX.one_plain (by rfl) (by (intro ax wx hk Kx hK; obtain ⟨v23, k23, h23⟩ := hk.dep 0 12 23 _ rfl rfl rfl; (first | (replace h23 := h23 9 undef rfl rfl; first | (cases (h23 : v23 = _)) | (obtain ⟨rfl, h23⟩ := h23) | skip) | skip); have hL := hk.fact 0 0 _ rfl rfl; (try dsimp only at hL); clear hk; have z1 : wx.cell? ⟨g, 1, none⟩ = some (.int .i64 (p : Int)) := hL.1.cell 1 _ rfl; have z0 : wx.cell? ⟨g, 0, none⟩ = some (.string s) := hL.1.cell 0 _ rfl; go_simp; refine hK _ _ (fun h => by cases h) (fun _ _ => ?_) (Below.refl _ _); apply RgX.mk))) ?_ rfl RgX.keep_eq (fun _ h => by cases h)
  refine RgX.build_cons (m := 15) (r := RgX.eq _) (RgX.one_plain (by rfl) (by (intro ax wx hk Kx hK; obtain ⟨v23, k23, h23⟩ := hk.dep 0 12 23 _ rfl rfl rfl; (first | (replace h23 := h23 9 undef rfl rfl; first | (cases (h23 : v23 = _)) | (obtain ⟨rfl, h23⟩ := h23) | skip) | skip); have hL := hk.fact 0 0 _ rfl rfl; (try dsimp only at hL); clear hk; have z1 : wx.cell? ⟨g, 1, none⟩ = some (.int .i64 (p : Int)) := hL.1.cell 1 _ rfl; have z0 : wx.cell? ⟨g, 0, none⟩ = some (.string s) := hL.1.cell 0 _ rfl; go_simp; refine hK _ _ (fun h => by cases h) (fun _ _ => ?_) (Below.refl _ _); apply RgX.mk))) ?_ rfl RgX.keep_eq (fun _ h => by cases h)
  refine RgX.build_cons (m := 16) (r := (⟨fun v _ w5 => ∃ gg, v = .pointer (some ⟨gg, 0, none⟩) ∧ w.heap.size < gg ∧ gg ≠ g ∧ AtG w5 gg 38 (setC 0 0 0 0), some 16, none⟩ : RgX.Rl)) (RgX.one_plain (by rfl) (by (intro ax wx hk Kx hK; have hL := hk.fact 0 0 _ rfl rfl; (try dsimp only at hL); clear hk; have z1 : wx.cell? ⟨g, 1, none⟩ = some (.int .i64 (p : Int)) := hL.1.cell 1 _ rfl; have z0 : wx.cell? ⟨g, 0, none⟩ = some (.string s) := hL.1.cell 0 _ rfl; (go_simp; exact hK _ _ (fun h => by cases h) (fun u _ => ⟨wx.heap.size, rfl, hL.2.1.lt, by have := hL.1.lt; omega, AtG.new _ _ _⟩) ((Below.refl _ _).alloc (Nat.le_refl _) _))))) ?_ rfl (RgX.keep_r (fun _ _ _ _ h hb => by obtain ⟨gg, h1, h2, h3, h4⟩ := h; exact ⟨gg, h1, h2, h3, h4.below hb⟩) (fun _ _ => ⟨fun _ h _ _ => absurd rfl h, trivial⟩)) (fun _ h => by cases h)
  refine RgX.build_cons (m := 17) (r := (⟨fun _ u w5 => ∃ gg, u = .pointer (some ⟨gg, 0, none⟩) ∧ w.heap.size < gg ∧ gg ≠ g ∧ AtG w5 gg 38 (cellsOf F), none, some 15⟩ : RgX.Rl)) (RgX.one_plain (by rfl) (by (intro ax wx hk Kx hK; obtain ⟨v3, k3, h3⟩ := hk.dep 0 15 3 _ rfl rfl rfl; (first | (replace h3 := h3 9 undef rfl rfl; first | (cases (h3 : v3 = _)) | (obtain ⟨rfl, h3⟩ := h3) | skip) | skip); obtain ⟨v36, k36, h36⟩ := hk.dep 0 13 36 _ rfl rfl rfl; (first | (replace h36 := h36 9 undef rfl rfl; first | (cases (h36 : v36 = _)) | (obtain ⟨rfl, h36⟩ := h36) | skip) | skip); have hL := hk.fact 0 0 _ rfl rfl; (try dsimp only at hL); clear hk; have z1 : wx.cell? ⟨g, 1, none⟩ = some (.int .i64 (p : Int)) := hL.1.cell 1 _ rfl; have z0 : wx.cell? ⟨g, 0, none⟩ = some (.string s) := hL.1.cell 0 _ rfl; (obtain ⟨gg, rfl, hg0, hg1, hg2⟩ := h3; have d0 := hg2.cell 0 _ rfl; have d1 := hg2.cell 1 _ rfl; have d2 := hg2.cell 2 _ rfl; have d3 := hg2.cell 3 _ rfl; have f0 := hg2.frozen 0; have f1 := hg2.frozen 1; have f2 := hg2.frozen 2; have f3 := hg2.frozen 3; unfold setOf at k36; go_simp; refine hK undef (putS wx gg F) (fun _ => rfl) (fun u hu => ?_) ⟨gg, F, hg0, hg1, rfl⟩; obtain ⟨t, ht, hu⟩ := hu; cases ht; rw [k3] at hu; cases hu; exact ⟨gg, rfl, hg0, hg1, putS_at hg2 F⟩)))) ?_ rfl (RgX.keep_r (fun _ _ _ _ h hb => by obtain ⟨gg, h1, h2, h3, h4⟩ := h; exact ⟨gg, h1, h2, h3, h4.below hb⟩) (fun _ _ => ⟨fun h _ _ _ => absurd rfl h, trivial⟩)) (fun j h => by cases h; exact ⟨0, rfl⟩)
  refine RgX.build_cons (m := 18) (r := RgX.eq _) (RgX.one_plain (by rfl) (by (intro ax wx hk Kx hK; obtain ⟨v37, k37, h37⟩ := hk.dep 0 14 37 _ rfl rfl rfl; (first | (replace h37 := h37 9 undef rfl rfl; first | (cases (h37 : v37 = _)) | (obtain ⟨rfl, h37⟩ := h37) | skip) | skip); have hL := hk.fact 0 0 _ rfl rfl; (try dsimp only at hL); clear hk; have z1 : wx.cell? ⟨g, 1, none⟩ = some (.int .i64 (p : Int)) := hL.1.cell 1 _ rfl; have z0 : wx.cell? ⟨g, 0, none⟩ = some (.string s) := hL.1.cell 0 _ rfl; go_simp; refine hK _ _ (fun h => by cases h) (fun _ _ => ?_) (Below.refl _ _); apply RgX.mk))) ?_ rfl RgX.keep_eq (fun _ h => by cases h)
  refine RgX.build_end fun wx hj => ?_
  have hL := hj 0 _ rfl rfl
  clear hj
  refine RgX.fin_eq rfl ?_
  refine RgX.fin_eq rfl ?_
  refine RgX.fin_eq rfl ?_
  refine RgX.fin_eq rfl ?_
  refine RgX.fin_eq rfl ?_
  refine RgX.fin_eq rfl ?_
  refine RgX.fin_eq rfl ?_
  refine RgX.fin_eq rfl ?_
  refine RgX.fin_eq rfl ?_
  refine RgX.fin_eq rfl ?_
  refine RgX.fin_eq rfl ?_
  refine RgX.fin_eq rfl ?_
  refine RgX.fin_eq rfl ?_
  refine RgX.fin_eq rfl ?_
  refine RgX.fin_eq rfl ?_
  first | refine RgX.fin_eq rfl ?_ | refine RgX.fin_any rfl fun v3 h3 => ?_
  refine RgX.fin_none rfl fun s16 => ?_
  refine RgX.fin_eq rfl ?_
  refine RgX.fin_nil ?_
  simp only [List.set_cons_zero, List.set_cons_succ]
  clear h3
  obtain ⟨gg, rfl, hg0, hg1, hg2⟩ := s16 rfl v3 ⟨3, by kernel_rfl, by kernel_rfl⟩
  have HA := Lib.hid hL.1; have HR := Lib.hid hL.2.1; have HO := Lib.hid hL.2.2
  clear hL s16 HJ
  clear hg0 hg1 hg2
  go_wp2_with fail
  refine (member_any g s p o x _ HA.out HP.out HM.out).mono ?_
  rintro e9 w2 ⟨hO2, hS, v, hv, rfl, hq⟩
  have HR2 := Lib.hid (HR.out.only hO2 HG.out)
  have HO2 := Lib.hid (HO.out.tr hO2)
  have HV := Lib.hid hv
  clear hO2 hv
  cases hmf : memberF s p with
  | no cc yy =>
    rw [hmf] at hS
    obtain ⟨pb, hS⟩ := hS
    have hcc : cc ≠ 0 := by have := (memberF_in s p HP.out).1; rw [hmf] at this; have := this.1; omega
    have HX : Hid (R = .no cc yy) := Lib.hid (by rw [HR0X.out, hmf]; rfl)
    have HS := Lib.hid hS; have HCC := Lib.hid hcc
    clear hS hq hcc hmf
    go_wp2_with fail
    refine (peek_bad g s pb o cc yy _ HS.out HCC.out).mono ?_
    rintro e9 w3 ⟨rfl, hb⟩
    have HS3 := Lib.hid (HS.out.below hb); have HR3 := Lib.hid (HR2.out.below hb); have HO3 := Lib.hid (HO2.out.tb hb)
    clear hb
    go_wp2_with fail
    refine (rangeN v v _ HV.out HV.out).mono ?_
    rintro e9 w4 ⟨rfl, hb⟩
    have HS4 := Lib.hid (HS3.out.below hb); have HR4 := Lib.hid (HR3.out.below hb); have HO4 := Lib.hid (HO3.out.tb hb)
    clear hb
    have d0 := (HR4.out).cell 0 _ rfl; have d1 := (HR4.out).cell 1 _ rfl; have d2 := (HR4.out).cell 2 _ rfl; have d3 := (HR4.out).cell 3 _ rfl
    have f0 := (HR4.out).frozen 0; have f1 := (HR4.out).frozen 1; have f2 := (HR4.out).frozen 2; have f3 := (HR4.out).frozen 3
    unfold setOf
    go_wp2_with fail
    refine bodyPost_ret (v := setOf (spanF v (v + 1))) (by simp [results, Tryz.results128, go_sem, d0, d1, d2, d3]; try rfl) rfl ⟨_, rfl, ?_, ?_, fun a q h => by rw [HX.out] at h; cases h⟩
    · rw [HX.out]; exact ⟨pb, putS_far HS4.out HG2.out _⟩
    · exact HO4.out.pS _ _ (.inr HZ.out)
  | ok lo q =>
    rw [hmf] at hS hq
    obtain rfl := hq lo q rfl
    have hq0 : q ≤ s.size := by have := (memberF_in s p HP.out).1; rw [hmf] at this; exact this.2
    have HS := Lib.hid hS; have HQ := Lib.hid hq0
    clear hS hq
    have HPK := Lib.hid (peek_any g s q o x _ HS.out)
    have HX9 : Hid (R = itemE s (.ok v q)) := Lib.hid (by rw [HR0X.out, hmf])
    clear hmf
    have hie : ∀ c, ch s q = c → itemE s (.ok v q) = if c = 45 then (match memberF s (q + 1) with | .no c x => .no c x | .ok hi r => if hi < v then .no 2 (r - 1) else .ok (spanF v (hi + 1)) r) else .ok (spanF v (v + 1)) q := fun c hc => by rw [itemE, hc]; rfl
    have hgeq : 0 ≤ ch s q → q < s.size := ch_ge
    generalize ch s q = c at *
    have hie := hie c rfl
    by_cases h45 : c = 45
    · subst h45
      have HX0 : Hid (R = (match memberF s (q + 1) with | .no c x => .no c x | .ok hi r => if hi < v then .no 2 (r - 1) else .ok (spanF v (hi + 1)) r)) := Lib.hid (by rw [HX9.out, hie, if_pos rfl])
      have hq1 : q + 1 ≤ s.size := hgeq (by decide)
      have HQ1 := Lib.hid hq1
      have hq1' : (q : Int) < 1000 := by have := HM.out; omega
      obtain ⟨qi, hqi⟩ : ∃ qi : Int, qi = (q : Int) := ⟨_, rfl⟩
      have HS := HS
      rw [← hqi] at hq1'
      have hS : AtG w2 g 114 (rdr s qi o 0 x) := by rw [hqi]; exact HS.out
      have hqi0 : 0 ≤ qi := by omega
      clear HS
      have HS := Lib.hid hS; have HQI := Lib.hid hqi; clear hS hq1 hie hgeq hqi
      go_wp2_with fail
      refine (HPK.out).mono ?_
      rintro e9 w3 ⟨rfl, hb⟩
      have HS3 := Lib.hid (HS.out.below hb); have HR3 := Lib.hid (HR2.out.below hb); have HO3 := Lib.hid (HO2.out.tb hb)
      clear hb
      have z1 : w3.cell? ⟨g, 1, none⟩ = some (.int .i64 qi) := HS3.out.cell 1 _ rfl
      have f1 := HS3.out.frozen 1
      go_wp2_with fail
      have hat : AtG (w3.setCell ⟨g, 1, none⟩ (.int .i64 (qi + 1))) g 114 (rdr s ((q + 1 : Nat) : Int) o 0 x) := by
        rw [show ((q + 1 : Nat) : Int) = qi + 1 from by have := HQI.out; omega]; exact HS3.out.set 1 _
      have HR4 := Lib.hid (HR3.out.far (p := ⟨g, 1, none⟩) HG.out (.int .i64 (qi + 1)))
      have HO4 := Lib.hid (HO3.out.st g 1 (.int .i64 (qi + 1)) (.inl rfl))
      refine (member_any g s (q + 1) o x _ hat HQ1.out HM.out).mono ?_
      rintro e9 w5 ⟨hO5, hS5, v5, hv5, rfl, hq5⟩
      have HR5 := Lib.hid (HR4.out.only hO5 HG.out)
      have HO5 := Lib.hid (HO4.out.tr hO5)
      have HV5 := Lib.hid hv5
      clear hat HR4 HO4 hO5 hv5 HR3 HO3 HS3 z1 f1
      have hvI : (v : Int) < 256 := by have := HV.out; omega
      have hv5I : (v5 : Int) < 256 := by have := HV5.out; omega
      cases hmf : memberF s (q + 1) with
      | no cc yy =>
        rw [hmf] at hS5
        obtain ⟨pb, hS5⟩ := hS5
        have hcc : cc ≠ 0 := by have := (memberF_in s (q + 1) HQ1.out).1; rw [hmf] at this; have := this.1; omega
        have HX : Hid (R = .no cc yy) := Lib.hid (by rw [HX0.out, hmf])
        have HS5 := Lib.hid hS5; have HCC := Lib.hid hcc
        have z1 : w5.cell? ⟨g, 1, none⟩ = some (.int .i64 pb) := HS5.out.cell 1 _ rfl
        clear hS5 hq5 hcc hmf
        by_cases hlt : (v5 : Int) < (v : Int)
        · go_wp2_with fail
          refine (fail_no g s pb o cc yy _ 2 _ HS5.out HCC.out).mono ?_
          rintro e9 w9 ⟨rfl, hw9⟩; subst hw9
          go_wp2_with fail
          refine (rangeN v v5 _ HV.out HV5.out).mono ?_
          rintro e9 w4 ⟨rfl, hb⟩
          have HS4 := Lib.hid (HS5.out.below hb); have HR4 := Lib.hid (HR5.out.below hb); have HO4 := Lib.hid (HO5.out.tb hb)
          clear hb z1
          have d0 := (HR4.out).cell 0 _ rfl; have d1 := (HR4.out).cell 1 _ rfl; have d2 := (HR4.out).cell 2 _ rfl; have d3 := (HR4.out).cell 3 _ rfl
          have f0 := (HR4.out).frozen 0; have f1 := (HR4.out).frozen 1; have f2 := (HR4.out).frozen 2; have f3 := (HR4.out).frozen 3
          unfold setOf
          go_wp2_with fail
          refine bodyPost_ret (v := setOf (spanF v (v5 + 1))) (by simp [results, Tryz.results128, go_sem, d0, d1, d2, d3]; try rfl) rfl ⟨_, rfl, ?_, ?_, fun a q h => by rw [HX.out] at h; cases h⟩
          · rw [HX.out]; exact ⟨pb, putS_far HS4.out HG2.out _⟩
          · exact HO4.out.pS _ _ (.inr HZ.out)
        · go_wp2_with fail
          refine (rangeN v v5 _ HV.out HV5.out).mono ?_
          rintro e9 w4 ⟨rfl, hb⟩
          have HS4 := Lib.hid (HS5.out.below hb); have HR4 := Lib.hid (HR5.out.below hb); have HO4 := Lib.hid (HO5.out.tb hb)
          clear hb z1
          have d0 := (HR4.out).cell 0 _ rfl; have d1 := (HR4.out).cell 1 _ rfl; have d2 := (HR4.out).cell 2 _ rfl; have d3 := (HR4.out).cell 3 _ rfl
          have f0 := (HR4.out).frozen 0; have f1 := (HR4.out).frozen 1; have f2 := (HR4.out).frozen 2; have f3 := (HR4.out).frozen 3
          unfold setOf
          go_wp2_with fail
          refine bodyPost_ret (v := setOf (spanF v (v5 + 1))) (by simp [results, Tryz.results128, go_sem, d0, d1, d2, d3]; try rfl) rfl ⟨_, rfl, ?_, ?_, fun a q h => by rw [HX.out] at h; cases h⟩
          · rw [HX.out]; exact ⟨pb, putS_far HS4.out HG2.out _⟩
          · exact HO4.out.pS _ _ (.inr HZ.out)
      | ok hi r =>
        rw [hmf] at hS5 hq5
        obtain rfl := hq5 hi r rfl
        have hr0 : q + 2 ≤ r ∧ r ≤ s.size := by have := (memberF_in s (q + 1) HQ1.out).1; rw [hmf] at this; exact this
        have HX1 : Hid (R = (if v5 < v then .no 2 (r - 1) else .ok (spanF v (v5 + 1)) r)) := Lib.hid (by rw [HX0.out, hmf])
        obtain ⟨ri, hri⟩ : ∃ ri : Int, ri = (r : Int) := ⟨_, rfl⟩
        have hS5 : AtG w5 g 114 (rdr s ri o 0 x) := by rw [hri]; exact hS5
        have HS5 := Lib.hid hS5
        have z1 : w5.cell? ⟨g, 1, none⟩ = some (.int .i64 ri) := HS5.out.cell 1 _ rfl
        have hr1 : ri - 1 = ((r - 1 : Nat) : Int) := by omega
        have HR1 := Lib.hid hr1
        have hr2 : 0 ≤ ri - 1 := by omega
        have hr3 : ri < 10000 := by have := HM.out; omega
        have HRI := Lib.hid hri
        clear hS5 hq5 hmf hri hr0
        by_cases hlt : (v5 : Int) < (v : Int)
        · have HX : Hid (R = .no 2 (r - 1)) := Lib.hid (by rw [HX1.out, if_pos (by omega)])
          go_wp2_with fail
          refine (failO g s ri o x _ 2 _ HS5.out).mono ?_
          rintro e9 w6 ⟨rfl, hA6, hO6⟩
          have HS6 := Lib.hid hA6; have HR6 := Lib.hid (HR5.out.only hO6 HG.out); have HO6 := Lib.hid (HO5.out.tr hO6)
          clear hA6 hO6 z1
          go_wp2_with fail
          refine (rangeN v v5 _ HV.out HV5.out).mono ?_
          rintro e9 w4 ⟨rfl, hb⟩
          have HS4 := Lib.hid (HS6.out.below hb); have HR4 := Lib.hid (HR6.out.below hb); have HO4 := Lib.hid (HO6.out.tb hb)
          clear hb
          have d0 := (HR4.out).cell 0 _ rfl; have d1 := (HR4.out).cell 1 _ rfl; have d2 := (HR4.out).cell 2 _ rfl; have d3 := (HR4.out).cell 3 _ rfl
          have f0 := (HR4.out).frozen 0; have f1 := (HR4.out).frozen 1; have f2 := (HR4.out).frozen 2; have f3 := (HR4.out).frozen 3
          unfold setOf
          go_wp2_with fail
          refine bodyPost_ret (v := setOf (spanF v (v5 + 1))) (by simp [results, Tryz.results128, go_sem, d0, d1, d2, d3]; try rfl) rfl ⟨_, rfl, ?_, ?_, fun a q h => by rw [HX.out] at h; cases h⟩
          · rw [HX.out]; exact ⟨ri, putS_far (by first | exact HS4.out | (rw [← HR1.out]; exact HS4.out)) HG2.out _⟩
          · exact HO4.out.pS _ _ (.inr HZ.out)
        · have HX : Hid (R = .ok (spanF v (v5 + 1)) r) := Lib.hid (by rw [HX1.out, if_neg (by omega)])
          go_wp2_with fail
          refine (rangeN v v5 _ HV.out HV5.out).mono ?_
          rintro e9 w4 ⟨rfl, hb⟩
          have HS4 := Lib.hid (HS5.out.below hb); have HR4 := Lib.hid (HR5.out.below hb); have HO4 := Lib.hid (HO5.out.tb hb)
          clear hb z1
          have d0 := (HR4.out).cell 0 _ rfl; have d1 := (HR4.out).cell 1 _ rfl; have d2 := (HR4.out).cell 2 _ rfl; have d3 := (HR4.out).cell 3 _ rfl
          have f0 := (HR4.out).frozen 0; have f1 := (HR4.out).frozen 1; have f2 := (HR4.out).frozen 2; have f3 := (HR4.out).frozen 3
          unfold setOf
          go_wp2_with fail
          refine bodyPost_ret (v := setOf (spanF v (v5 + 1))) (by simp [results, Tryz.results128, go_sem, d0, d1, d2, d3]; try rfl) rfl ⟨_, rfl, ?_, ?_, fun a q h => by rw [HX.out] at h; injection h⟩
          · rw [HX.out]; show AtG _ g _ (rdr s (r : Int) o 0 x); rw [← HRI.out]; exact putS_far HS4.out HG2.out _
          · exact HO4.out.pS _ _ (.inr HZ.out)
    · have HX : Hid (R = .ok (spanF v (v + 1)) q) := Lib.hid (by rw [HX9.out, hie, if_neg h45])
      have e45 : (c == 45) = false := by rw [beq_eq_false_iff_ne]; exact h45
      clear h45 hie hgeq
      go_wp2_with fail
      refine (HPK.out).mono ?_
      rintro e9 w3 ⟨rfl, hb⟩
      have HS3 := Lib.hid (HS.out.below hb); have HR3 := Lib.hid (HR2.out.below hb); have HO3 := Lib.hid (HO2.out.tb hb)
      clear hb
      go_wp2_with fail
      refine (rangeN v v _ HV.out HV.out).mono ?_
      rintro e9 w4 ⟨rfl, hb⟩
      have HS4 := Lib.hid (HS3.out.below hb); have HR4 := Lib.hid (HR3.out.below hb); have HO4 := Lib.hid (HO3.out.tb hb)
      clear hb
      have d0 := (HR4.out).cell 0 _ rfl; have d1 := (HR4.out).cell 1 _ rfl; have d2 := (HR4.out).cell 2 _ rfl; have d3 := (HR4.out).cell 3 _ rfl
      have f0 := (HR4.out).frozen 0; have f1 := (HR4.out).frozen 1; have f2 := (HR4.out).frozen 2; have f3 := (HR4.out).frozen 3
      unfold setOf
      go_wp2_with fail
      refine bodyPost_ret (v := setOf (spanF v (v + 1))) (by simp [results, Tryz.results128, go_sem, d0, d1, d2, d3]; try rfl) rfl ⟨_, rfl, ?_, ?_, fun a q h => by rw [HX.out] at h; injection h⟩
      · rw [HX.out]; exact putS_far HS4.out HG2.out _
      · exact HO4.out.pS _ _ (.inr HZ.out)
set_option maxRecDepth 100000 in
set_option maxHeartbeats 1600000 in
theorem item_last (g : Nat) (s : ByteArray) (p : Nat) (o x : Int) (w : World) (h : AtG w g 114 (rdr s p o 0 x)) (hp : p ≤ s.size) (hm : s.size ≤ 1000) (h92 : ch s p = 92) (hn : ¬ p + 1 < s.size) :
    Calls Tryz.prog 128 #[.pointer (some ⟨g, 0, none⟩)] w fun e w' => ∃ F : Nat → Bool, e = .returned (setOf F) ∧ StR s g o x (itemF s p) w' ∧ Only (fun k => k = g) w w' ∧ ∀ f q, itemF s p = .ok f q → F = f := by
  have HP := Lib.hid hp; have HM := Lib.hid hm
  have HR0 := Lib.hid (AtG.new w 38 (setC 0 0 0 0))
  have HA0 := Lib.hid (h.alloc (.cells (setC 0 0 0 0) 38))
  have HO0 := Lib.hid ((Only.refl (S := fun k => k = g) w).al (.cells (setC 0 0 0 0) 38))
  have HG : Hid (w.heap.size ≠ g) := Lib.hid (by have := h.lt; omega)
  have HG2 : Hid (g ≠ w.heap.size) := Lib.hid (by have := h.lt; omega)
  have HZ : Hid (w.heap.size ≤ w.heap.size) := Lib.hid (Nat.le_refl _)
  have HPK := Lib.hid (fun w h => peek_any g s p o x w h)
  have hif : ∀ c, ch s p = c → itemF s p = if c = 92 ∧ p + 1 < s.size then (match wideF (ch s (p + 1)) with | some f => .ok f (p + 2) | none => itemE s (memberF s p)) else itemE s (memberF s p) := fun c hc => by unfold itemF; rw [hc]; rfl
  generalize ch s p = c at *
  rw [hif c rfl]
  clear hif h hp hm
  have hpI : (p : Int) < 1001 := by have := HP.out; have := HM.out; omega
  subst h92
  rw [if_neg (fun h => hn h.2)]
  have hnI : ¬ (p : Int) + 1 < (s.size : Int) := by omega
  have hwp : IntKind.i64.wrap ((p : Int) + 1) = (p : Int) + 1 := by rw [IntKind.wrap_i64]; omega
  obtain ⟨R, hR⟩ : ∃ R, R = itemE s (memberF s p) := ⟨_, rfl⟩
  rw [← hR]
  have HR0X := Lib.hid hR
  clear hR hn
  go_enter Tryz.func128, Tryz.ntmps128
  go_upto_region 1 with (fail)
  refine Rg.wp_region_each (by kernel_rfl) (fun w' => AtG w' g 114 (rdr s p o 0 x) ∧ AtG w' w.heap.size 38 (setC 0 0 0 0) ∧ Only (fun k => k = g) w w') (fun w1 w2 h hb => ⟨h.1.below hb, h.2.1.below hb, h.2.2.tb hb⟩) (by kernel_rfl) (by kernel_rfl) (⟨HA0.out, HR0.out, HO0.out⟩) ?_
  show Rg.Build _ _ _ _ _ 0 [_, _, _, _, _, _, _, _, _, _, _, _, _, _, _, _] []
  refine Rg.build_cons (m := 1) (r := Rg.eq _) (Rg.one_plain (by rfl) (by (intro ax wx hk Kx hK; have k0 := hk.base 0 _ rfl rfl; have hj := hk.j; clear hk; have z1 : wx.cell? ⟨g, 1, none⟩ = some (.int .i64 (p : Int)) := hj.1.cell 1 _ rfl; have z0 : wx.cell? ⟨g, 0, none⟩ = some (.string s) := hj.1.cell 0 _ rfl; go_simp; refine hK _ _ ?_ (Below.refl _ _); apply Rg.mk))) ?_ rfl
  refine Rg.build_cons (m := 2) (r := Rg.eq _) (Rg.one_plain (by rfl) (by (intro ax wx hk Kx hK; obtain ⟨v7, k7, h7⟩ := hk.dep 0 7 _ rfl rfl rfl; (first | (cases (h7 : v7 = _)) | (obtain ⟨rfl, h7⟩ := h7) | skip); have hj := hk.j; clear hk; have z1 : wx.cell? ⟨g, 1, none⟩ = some (.int .i64 (p : Int)) := hj.1.cell 1 _ rfl; have z0 : wx.cell? ⟨g, 0, none⟩ = some (.string s) := hj.1.cell 0 _ rfl; go_simp; refine (HPK.out _ hj.1).mono ?_; rintro e w' ⟨rfl, hb⟩; refine hK _ _ ?_ hb; apply Rg.mk))) ?_ rfl
  refine Rg.build_cons (m := 3) (r := Rg.eq (.bool true)) (Rg.one_plain (by rfl) (by (intro ax wx hk Kx hK; obtain ⟨v8, k8, h8⟩ := hk.dep 1 8 _ rfl rfl rfl; (first | (cases (h8 : v8 = _)) | (obtain ⟨rfl, h8⟩ := h8) | skip); have hj := hk.j; clear hk; have z1 : wx.cell? ⟨g, 1, none⟩ = some (.int .i64 (p : Int)) := hj.1.cell 1 _ rfl; have z0 : wx.cell? ⟨g, 0, none⟩ = some (.string s) := hj.1.cell 0 _ rfl; (go_simp; refine hK _ _ ?_ (Below.refl _ _); simp [Rg.eq])))) ?_ rfl
  refine Rg.build_cons (m := 4) (r := Rg.eq _) (Rg.one_plain (by rfl) (by (intro ax wx hk Kx hK; obtain ⟨v9, k9, h9⟩ := hk.dep 2 9 _ rfl rfl rfl; (first | (cases (h9 : v9 = _)) | (obtain ⟨rfl, h9⟩ := h9) | skip); have hj := hk.j; clear hk; have z1 : wx.cell? ⟨g, 1, none⟩ = some (.int .i64 (p : Int)) := hj.1.cell 1 _ rfl; have z0 : wx.cell? ⟨g, 0, none⟩ = some (.string s) := hj.1.cell 0 _ rfl; go_simp; refine hK _ _ ?_ (Below.refl _ _); apply Rg.mk))) ?_ rfl
  first
    | refine Rg.build_cons (m := 5) (Rg.one_no 3 10 true (by rfl) (by rfl) (by rfl) (by rfl)) ?_ rfl
    | refine Rg.build_cons (m := 5) (Rg.one_und 3 10 true (by rfl) (by rfl) (by rfl) (by rfl)) ?_ rfl
    | refine Rg.build_cons (m := 5) (r := Rg.eq _) (Rg.one_yes 3 10 true (by rfl) (by rfl) (by rfl) (by rfl) (by (intro ax wx hk Kx hK; have k0 := hk.base 0 _ rfl rfl; have hj := hk.j; clear hk; have z1 : wx.cell? ⟨g, 1, none⟩ = some (.int .i64 (p : Int)) := hj.1.cell 1 _ rfl; have z0 : wx.cell? ⟨g, 0, none⟩ = some (.string s) := hj.1.cell 0 _ rfl; go_simp; refine hK _ _ ?_ (Below.refl _ _); apply Rg.mk))) ?_ rfl
  first
    | refine Rg.build_cons (m := 6) (Rg.one_no 3 10 true (by rfl) (by rfl) (by rfl) (by rfl)) ?_ rfl
    | refine Rg.build_cons (m := 6) (Rg.one_und 3 10 true (by rfl) (by rfl) (by rfl) (by rfl)) ?_ rfl
    | refine Rg.build_cons (m := 6) (r := Rg.eq _) (Rg.one_yes 3 10 true (by rfl) (by rfl) (by rfl) (by rfl) (by (intro ax wx hk Kx hK; obtain ⟨v11, k11, h11⟩ := hk.dep 4 11 _ rfl rfl rfl; (first | (cases (h11 : v11 = _)) | (obtain ⟨rfl, h11⟩ := h11) | skip); have hj := hk.j; clear hk; have z1 : wx.cell? ⟨g, 1, none⟩ = some (.int .i64 (p : Int)) := hj.1.cell 1 _ rfl; have z0 : wx.cell? ⟨g, 0, none⟩ = some (.string s) := hj.1.cell 0 _ rfl; go_simp; refine hK _ _ ?_ (Below.refl _ _); apply Rg.mk))) ?_ rfl
  first
    | refine Rg.build_cons (m := 7) (Rg.one_no 3 10 true (by rfl) (by rfl) (by rfl) (by rfl)) ?_ rfl
    | refine Rg.build_cons (m := 7) (Rg.one_und 3 10 true (by rfl) (by rfl) (by rfl) (by rfl)) ?_ rfl
    | refine Rg.build_cons (m := 7) (r := Rg.eq _) (Rg.one_yes 3 10 true (by rfl) (by rfl) (by rfl) (by rfl) (by (intro ax wx hk Kx hK; obtain ⟨v12, k12, h12⟩ := hk.dep 5 12 _ rfl rfl rfl; (first | (cases (h12 : v12 = _)) | (obtain ⟨rfl, h12⟩ := h12) | skip); have hj := hk.j; clear hk; have z1 : wx.cell? ⟨g, 1, none⟩ = some (.int .i64 (p : Int)) := hj.1.cell 1 _ rfl; have z0 : wx.cell? ⟨g, 0, none⟩ = some (.string s) := hj.1.cell 0 _ rfl; go_simp; refine hK _ _ ?_ (Below.refl _ _); apply Rg.mk))) ?_ rfl
  first
    | refine Rg.build_cons (m := 8) (Rg.one_no 3 10 true (by rfl) (by rfl) (by rfl) (by rfl)) ?_ rfl
    | refine Rg.build_cons (m := 8) (Rg.one_und 3 10 true (by rfl) (by rfl) (by rfl) (by rfl)) ?_ rfl
    | refine Rg.build_cons (m := 8) (r := Rg.eq _) (Rg.one_yes 3 10 true (by rfl) (by rfl) (by rfl) (by rfl) (by (intro ax wx hk Kx hK; obtain ⟨v13, k13, h13⟩ := hk.dep 6 13 _ rfl rfl rfl; (first | (cases (h13 : v13 = _)) | (obtain ⟨rfl, h13⟩ := h13) | skip); have hj := hk.j; clear hk; have z1 : wx.cell? ⟨g, 1, none⟩ = some (.int .i64 (p : Int)) := hj.1.cell 1 _ rfl; have z0 : wx.cell? ⟨g, 0, none⟩ = some (.string s) := hj.1.cell 0 _ rfl; go_simp; refine hK _ _ ?_ (Below.refl _ _); apply Rg.mk))) ?_ rfl
  first
    | refine Rg.build_cons (m := 9) (Rg.one_no 3 10 true (by rfl) (by rfl) (by rfl) (by rfl)) ?_ rfl
    | refine Rg.build_cons (m := 9) (Rg.one_und 3 10 true (by rfl) (by rfl) (by rfl) (by rfl)) ?_ rfl
    | refine Rg.build_cons (m := 9) (r := Rg.eq (.int .i64 ((p : Int) + 1))) (Rg.one_yes 3 10 true (by rfl) (by rfl) (by rfl) (by rfl) (by (intro ax wx hk Kx hK; obtain ⟨v14, k14, h14⟩ := hk.dep 7 14 _ rfl rfl rfl; (first | (cases (h14 : v14 = _)) | (obtain ⟨rfl, h14⟩ := h14) | skip); have hj := hk.j; clear hk; have z1 : wx.cell? ⟨g, 1, none⟩ = some (.int .i64 (p : Int)) := hj.1.cell 1 _ rfl; have z0 : wx.cell? ⟨g, 0, none⟩ = some (.string s) := hj.1.cell 0 _ rfl; (go_simp; refine hK _ _ ?_ (Below.refl _ _); simp [Rg.eq, hwp])))) ?_ rfl
  first
    | refine Rg.build_cons (m := 10) (Rg.one_no 3 10 true (by rfl) (by rfl) (by rfl) (by rfl)) ?_ rfl
    | refine Rg.build_cons (m := 10) (Rg.one_und 3 10 true (by rfl) (by rfl) (by rfl) (by rfl)) ?_ rfl
    | refine Rg.build_cons (m := 10) (r := Rg.eq _) (Rg.one_yes 3 10 true (by rfl) (by rfl) (by rfl) (by rfl) (by (intro ax wx hk Kx hK; have k0 := hk.base 0 _ rfl rfl; have hj := hk.j; clear hk; have z1 : wx.cell? ⟨g, 1, none⟩ = some (.int .i64 (p : Int)) := hj.1.cell 1 _ rfl; have z0 : wx.cell? ⟨g, 0, none⟩ = some (.string s) := hj.1.cell 0 _ rfl; go_simp; refine hK _ _ ?_ (Below.refl _ _); apply Rg.mk))) ?_ rfl
  first
    | refine Rg.build_cons (m := 11) (Rg.one_no 3 10 true (by rfl) (by rfl) (by rfl) (by rfl)) ?_ rfl
    | refine Rg.build_cons (m := 11) (Rg.one_und 3 10 true (by rfl) (by rfl) (by rfl) (by rfl)) ?_ rfl
    | refine Rg.build_cons (m := 11) (r := Rg.eq _) (Rg.one_yes 3 10 true (by rfl) (by rfl) (by rfl) (by rfl) (by (intro ax wx hk Kx hK; obtain ⟨v16, k16, h16⟩ := hk.dep 9 16 _ rfl rfl rfl; (first | (cases (h16 : v16 = _)) | (obtain ⟨rfl, h16⟩ := h16) | skip); have hj := hk.j; clear hk; have z1 : wx.cell? ⟨g, 1, none⟩ = some (.int .i64 (p : Int)) := hj.1.cell 1 _ rfl; have z0 : wx.cell? ⟨g, 0, none⟩ = some (.string s) := hj.1.cell 0 _ rfl; go_simp; refine hK _ _ ?_ (Below.refl _ _); apply Rg.mk))) ?_ rfl
  first
    | refine Rg.build_cons (m := 12) (Rg.one_no 3 10 true (by rfl) (by rfl) (by rfl) (by rfl)) ?_ rfl
    | refine Rg.build_cons (m := 12) (Rg.one_und 3 10 true (by rfl) (by rfl) (by rfl) (by rfl)) ?_ rfl
    | refine Rg.build_cons (m := 12) (r := Rg.eq _) (Rg.one_yes 3 10 true (by rfl) (by rfl) (by rfl) (by rfl) (by (intro ax wx hk Kx hK; obtain ⟨v17, k17, h17⟩ := hk.dep 10 17 _ rfl rfl rfl; (first | (cases (h17 : v17 = _)) | (obtain ⟨rfl, h17⟩ := h17) | skip); have hj := hk.j; clear hk; have z1 : wx.cell? ⟨g, 1, none⟩ = some (.int .i64 (p : Int)) := hj.1.cell 1 _ rfl; have z0 : wx.cell? ⟨g, 0, none⟩ = some (.string s) := hj.1.cell 0 _ rfl; go_simp; refine hK _ _ ?_ (Below.refl _ _); apply Rg.mk))) ?_ rfl
  first
    | refine Rg.build_cons (m := 13) (Rg.one_no 3 10 true (by rfl) (by rfl) (by rfl) (by rfl)) ?_ rfl
    | refine Rg.build_cons (m := 13) (Rg.one_und 3 10 true (by rfl) (by rfl) (by rfl) (by rfl)) ?_ rfl
    | refine Rg.build_cons (m := 13) (r := Rg.eq _) (Rg.one_yes 3 10 true (by rfl) (by rfl) (by rfl) (by rfl) (by (intro ax wx hk Kx hK; obtain ⟨v18, k18, h18⟩ := hk.dep 11 18 _ rfl rfl rfl; (first | (cases (h18 : v18 = _)) | (obtain ⟨rfl, h18⟩ := h18) | skip); have hj := hk.j; clear hk; have z1 : wx.cell? ⟨g, 1, none⟩ = some (.int .i64 (p : Int)) := hj.1.cell 1 _ rfl; have z0 : wx.cell? ⟨g, 0, none⟩ = some (.string s) := hj.1.cell 0 _ rfl; go_simp; refine hK _ _ ?_ (Below.refl _ _); apply Rg.mk))) ?_ rfl
  first
    | refine Rg.build_cons (m := 14) (Rg.one_no 3 10 true (by rfl) (by rfl) (by rfl) (by rfl)) ?_ rfl
    | refine Rg.build_cons (m := 14) (Rg.one_und 3 10 true (by rfl) (by rfl) (by rfl) (by rfl)) ?_ rfl
    | refine Rg.build_cons (m := 14) (r := Rg.eq _) (Rg.one_yes 3 10 true (by rfl) (by rfl) (by rfl) (by rfl) (by (intro ax wx hk Kx hK; obtain ⟨v19, k19, h19⟩ := hk.dep 12 19 _ rfl rfl rfl; (first | (cases (h19 : v19 = _)) | (obtain ⟨rfl, h19⟩ := h19) | skip); have hj := hk.j; clear hk; have z1 : wx.cell? ⟨g, 1, none⟩ = some (.int .i64 (p : Int)) := hj.1.cell 1 _ rfl; have z0 : wx.cell? ⟨g, 0, none⟩ = some (.string s) := hj.1.cell 0 _ rfl; go_simp; refine hK _ _ ?_ (Below.refl _ _); apply Rg.mk))) ?_ rfl
  first
    | refine Rg.build_cons (m := 15) (Rg.one_no 3 10 true (by rfl) (by rfl) (by rfl) (by rfl)) ?_ rfl
    | refine Rg.build_cons (m := 15) (Rg.one_und 3 10 true (by rfl) (by rfl) (by rfl) (by rfl)) ?_ rfl
    | refine Rg.build_cons (m := 15) (r := Rg.eq (.bool false)) (Rg.one_yes 3 10 true (by rfl) (by rfl) (by rfl) (by rfl) (by (intro ax wx hk Kx hK; obtain ⟨v15, k15, h15⟩ := hk.dep 8 15 _ rfl rfl rfl; (first | (cases (h15 : v15 = _)) | (obtain ⟨rfl, h15⟩ := h15) | skip); obtain ⟨v20, k20, h20⟩ := hk.dep 13 20 _ rfl rfl rfl; (first | (cases (h20 : v20 = _)) | (obtain ⟨rfl, h20⟩ := h20) | skip); have hj := hk.j; clear hk; have z1 : wx.cell? ⟨g, 1, none⟩ = some (.int .i64 (p : Int)) := hj.1.cell 1 _ rfl; have z0 : wx.cell? ⟨g, 0, none⟩ = some (.string s) := hj.1.cell 0 _ rfl; (go_simp; refine hK _ _ ?_ (Below.refl _ _); simp [Rg.eq, hnI]; try omega)))) ?_ rfl
  refine Rg.build_cons (m := 16) (r := Rg.eq _) (Rg.one_plain (by rfl) (by (intro ax wx hk Kx hK; obtain ⟨v10, k10, h10⟩ := hk.dep 3 10 _ rfl rfl rfl; (first | (cases (h10 : v10 = _)) | (obtain ⟨rfl, h10⟩ := h10) | skip); obtain ⟨v21, k21, h21⟩ := hk.dep 14 21 _ rfl rfl rfl; (first | (cases (h21 : v21 = _)) | (obtain ⟨rfl, h21⟩ := h21) | skip); have hj := hk.j; clear hk; have z1 : wx.cell? ⟨g, 1, none⟩ = some (.int .i64 (p : Int)) := hj.1.cell 1 _ rfl; have z0 : wx.cell? ⟨g, 0, none⟩ = some (.string s) := hj.1.cell 0 _ rfl; go_simp; refine hK _ _ ?_ (Below.refl _ _); apply Rg.mk))) ?_ rfl
  refine Rg.build_end fun wx hj => ?_
  refine Rg.fin_eq rfl ?_
  refine Rg.fin_eq rfl ?_
  first | refine Rg.fin_eq rfl ?_ | refine Rg.fin_any rfl fun v9 h9 => ?_
  refine Rg.fin_eq rfl ?_
  refine Rg.fin_eq rfl ?_
  refine Rg.fin_eq rfl ?_
  refine Rg.fin_eq rfl ?_
  refine Rg.fin_eq rfl ?_
  first | refine Rg.fin_eq rfl ?_ | refine Rg.fin_any rfl fun v15 h15 => ?_
  refine Rg.fin_eq rfl ?_
  refine Rg.fin_eq rfl ?_
  refine Rg.fin_eq rfl ?_
  refine Rg.fin_eq rfl ?_
  refine Rg.fin_eq rfl ?_
  first | refine Rg.fin_eq rfl ?_ | refine Rg.fin_any rfl fun v21 h21 => ?_
  refine Rg.fin_eq rfl ?_
  refine Rg.fin_nil ?_
  simp only [List.set_cons_zero, List.set_cons_succ]
  have HA := Lib.hid hj.1; have HR := Lib.hid hj.2.1; have HO := Lib.hid hj.2.2
  clear hj
  go_wp2_with fail
  refine (member_any g s p o x _ HA.out HP.out HM.out).mono ?_
  rintro e9 w2 ⟨hO2, hS, v, hv, rfl, hq⟩
  have HR2 := Lib.hid (HR.out.only hO2 HG.out)
  have HO2 := Lib.hid (HO.out.tr hO2)
  have HV := Lib.hid hv
  clear hO2 hv
  cases hmf : memberF s p with
  | no cc yy =>
    rw [hmf] at hS
    obtain ⟨pb, hS⟩ := hS
    have hcc : cc ≠ 0 := by have := (memberF_in s p HP.out).1; rw [hmf] at this; have := this.1; omega
    have HX : Hid (R = .no cc yy) := Lib.hid (by rw [HR0X.out, hmf]; rfl)
    have HS := Lib.hid hS; have HCC := Lib.hid hcc
    clear hS hq hcc hmf
    go_wp2_with fail
    refine (peek_bad g s pb o cc yy _ HS.out HCC.out).mono ?_
    rintro e9 w3 ⟨rfl, hb⟩
    have HS3 := Lib.hid (HS.out.below hb); have HR3 := Lib.hid (HR2.out.below hb); have HO3 := Lib.hid (HO2.out.tb hb)
    clear hb
    go_wp2_with fail
    refine (rangeN v v _ HV.out HV.out).mono ?_
    rintro e9 w4 ⟨rfl, hb⟩
    have HS4 := Lib.hid (HS3.out.below hb); have HR4 := Lib.hid (HR3.out.below hb); have HO4 := Lib.hid (HO3.out.tb hb)
    clear hb
    have d0 := (HR4.out).cell 0 _ rfl; have d1 := (HR4.out).cell 1 _ rfl; have d2 := (HR4.out).cell 2 _ rfl; have d3 := (HR4.out).cell 3 _ rfl
    have f0 := (HR4.out).frozen 0; have f1 := (HR4.out).frozen 1; have f2 := (HR4.out).frozen 2; have f3 := (HR4.out).frozen 3
    unfold setOf
    go_wp2_with fail
    refine bodyPost_ret (v := setOf (spanF v (v + 1))) (by simp [results, Tryz.results128, go_sem, d0, d1, d2, d3]; try rfl) rfl ⟨_, rfl, ?_, ?_, fun a q h => by rw [HX.out] at h; cases h⟩
    · rw [HX.out]; exact ⟨pb, putS_far HS4.out HG2.out _⟩
    · exact HO4.out.pS _ _ (.inr HZ.out)
  | ok lo q =>
    rw [hmf] at hS hq
    obtain rfl := hq lo q rfl
    have hq0 : q ≤ s.size := by have := (memberF_in s p HP.out).1; rw [hmf] at this; exact this.2
    have HS := Lib.hid hS; have HQ := Lib.hid hq0
    clear hS hq
    have HPK := Lib.hid (peek_any g s q o x _ HS.out)
    have HX9 : Hid (R = itemE s (.ok v q)) := Lib.hid (by rw [HR0X.out, hmf])
    clear hmf
    have hie : ∀ c, ch s q = c → itemE s (.ok v q) = if c = 45 then (match memberF s (q + 1) with | .no c x => .no c x | .ok hi r => if hi < v then .no 2 (r - 1) else .ok (spanF v (hi + 1)) r) else .ok (spanF v (v + 1)) q := fun c hc => by rw [itemE, hc]; rfl
    have hgeq : 0 ≤ ch s q → q < s.size := ch_ge
    generalize ch s q = c at *
    have hie := hie c rfl
    by_cases h45 : c = 45
    · subst h45
      have HX0 : Hid (R = (match memberF s (q + 1) with | .no c x => .no c x | .ok hi r => if hi < v then .no 2 (r - 1) else .ok (spanF v (hi + 1)) r)) := Lib.hid (by rw [HX9.out, hie, if_pos rfl])
      have hq1 : q + 1 ≤ s.size := hgeq (by decide)
      have HQ1 := Lib.hid hq1
      have hq1' : (q : Int) < 1000 := by have := HM.out; omega
      obtain ⟨qi, hqi⟩ : ∃ qi : Int, qi = (q : Int) := ⟨_, rfl⟩
      have HS := HS
      rw [← hqi] at hq1'
      have hS : AtG w2 g 114 (rdr s qi o 0 x) := by rw [hqi]; exact HS.out
      have hqi0 : 0 ≤ qi := by omega
      clear HS
      have HS := Lib.hid hS; have HQI := Lib.hid hqi; clear hS hq1 hie hgeq hqi
      go_wp2_with fail
      refine (HPK.out).mono ?_
      rintro e9 w3 ⟨rfl, hb⟩
      have HS3 := Lib.hid (HS.out.below hb); have HR3 := Lib.hid (HR2.out.below hb); have HO3 := Lib.hid (HO2.out.tb hb)
      clear hb
      have z1 : w3.cell? ⟨g, 1, none⟩ = some (.int .i64 qi) := HS3.out.cell 1 _ rfl
      have f1 := HS3.out.frozen 1
      go_wp2_with fail
      have hat : AtG (w3.setCell ⟨g, 1, none⟩ (.int .i64 (qi + 1))) g 114 (rdr s ((q + 1 : Nat) : Int) o 0 x) := by
        rw [show ((q + 1 : Nat) : Int) = qi + 1 from by have := HQI.out; omega]; exact HS3.out.set 1 _
      have HR4 := Lib.hid (HR3.out.far (p := ⟨g, 1, none⟩) HG.out (.int .i64 (qi + 1)))
      have HO4 := Lib.hid (HO3.out.st g 1 (.int .i64 (qi + 1)) (.inl rfl))
      refine (member_any g s (q + 1) o x _ hat HQ1.out HM.out).mono ?_
      rintro e9 w5 ⟨hO5, hS5, v5, hv5, rfl, hq5⟩
      have HR5 := Lib.hid (HR4.out.only hO5 HG.out)
      have HO5 := Lib.hid (HO4.out.tr hO5)
      have HV5 := Lib.hid hv5
      clear hat HR4 HO4 hO5 hv5 HR3 HO3 HS3 z1 f1
      have hvI : (v : Int) < 256 := by have := HV.out; omega
      have hv5I : (v5 : Int) < 256 := by have := HV5.out; omega
      cases hmf : memberF s (q + 1) with
      | no cc yy =>
        rw [hmf] at hS5
        obtain ⟨pb, hS5⟩ := hS5
        have hcc : cc ≠ 0 := by have := (memberF_in s (q + 1) HQ1.out).1; rw [hmf] at this; have := this.1; omega
        have HX : Hid (R = .no cc yy) := Lib.hid (by rw [HX0.out, hmf])
        have HS5 := Lib.hid hS5; have HCC := Lib.hid hcc
        have z1 : w5.cell? ⟨g, 1, none⟩ = some (.int .i64 pb) := HS5.out.cell 1 _ rfl
        clear hS5 hq5 hcc hmf
        by_cases hlt : (v5 : Int) < (v : Int)
        · go_wp2_with fail
          refine (fail_no g s pb o cc yy _ 2 _ HS5.out HCC.out).mono ?_
          rintro e9 w9 ⟨rfl, hw9⟩; subst hw9
          go_wp2_with fail
          refine (rangeN v v5 _ HV.out HV5.out).mono ?_
          rintro e9 w4 ⟨rfl, hb⟩
          have HS4 := Lib.hid (HS5.out.below hb); have HR4 := Lib.hid (HR5.out.below hb); have HO4 := Lib.hid (HO5.out.tb hb)
          clear hb z1
          have d0 := (HR4.out).cell 0 _ rfl; have d1 := (HR4.out).cell 1 _ rfl; have d2 := (HR4.out).cell 2 _ rfl; have d3 := (HR4.out).cell 3 _ rfl
          have f0 := (HR4.out).frozen 0; have f1 := (HR4.out).frozen 1; have f2 := (HR4.out).frozen 2; have f3 := (HR4.out).frozen 3
          unfold setOf
          go_wp2_with fail
          refine bodyPost_ret (v := setOf (spanF v (v5 + 1))) (by simp [results, Tryz.results128, go_sem, d0, d1, d2, d3]; try rfl) rfl ⟨_, rfl, ?_, ?_, fun a q h => by rw [HX.out] at h; cases h⟩
          · rw [HX.out]; exact ⟨pb, putS_far HS4.out HG2.out _⟩
          · exact HO4.out.pS _ _ (.inr HZ.out)
        · go_wp2_with fail
          refine (rangeN v v5 _ HV.out HV5.out).mono ?_
          rintro e9 w4 ⟨rfl, hb⟩
          have HS4 := Lib.hid (HS5.out.below hb); have HR4 := Lib.hid (HR5.out.below hb); have HO4 := Lib.hid (HO5.out.tb hb)
          clear hb z1
          have d0 := (HR4.out).cell 0 _ rfl; have d1 := (HR4.out).cell 1 _ rfl; have d2 := (HR4.out).cell 2 _ rfl; have d3 := (HR4.out).cell 3 _ rfl
          have f0 := (HR4.out).frozen 0; have f1 := (HR4.out).frozen 1; have f2 := (HR4.out).frozen 2; have f3 := (HR4.out).frozen 3
          unfold setOf
          go_wp2_with fail
          refine bodyPost_ret (v := setOf (spanF v (v5 + 1))) (by simp [results, Tryz.results128, go_sem, d0, d1, d2, d3]; try rfl) rfl ⟨_, rfl, ?_, ?_, fun a q h => by rw [HX.out] at h; cases h⟩
          · rw [HX.out]; exact ⟨pb, putS_far HS4.out HG2.out _⟩
          · exact HO4.out.pS _ _ (.inr HZ.out)
      | ok hi r =>
        rw [hmf] at hS5 hq5
        obtain rfl := hq5 hi r rfl
        have hr0 : q + 2 ≤ r ∧ r ≤ s.size := by have := (memberF_in s (q + 1) HQ1.out).1; rw [hmf] at this; exact this
        have HX1 : Hid (R = (if v5 < v then .no 2 (r - 1) else .ok (spanF v (v5 + 1)) r)) := Lib.hid (by rw [HX0.out, hmf])
        obtain ⟨ri, hri⟩ : ∃ ri : Int, ri = (r : Int) := ⟨_, rfl⟩
        have hS5 : AtG w5 g 114 (rdr s ri o 0 x) := by rw [hri]; exact hS5
        have HS5 := Lib.hid hS5
        have z1 : w5.cell? ⟨g, 1, none⟩ = some (.int .i64 ri) := HS5.out.cell 1 _ rfl
        have hr1 : ri - 1 = ((r - 1 : Nat) : Int) := by omega
        have HR1 := Lib.hid hr1
        have hr2 : 0 ≤ ri - 1 := by omega
        have hr3 : ri < 10000 := by have := HM.out; omega
        have HRI := Lib.hid hri
        clear hS5 hq5 hmf hri hr0
        by_cases hlt : (v5 : Int) < (v : Int)
        · have HX : Hid (R = .no 2 (r - 1)) := Lib.hid (by rw [HX1.out, if_pos (by omega)])
          go_wp2_with fail
          refine (failO g s ri o x _ 2 _ HS5.out).mono ?_
          rintro e9 w6 ⟨rfl, hA6, hO6⟩
          have HS6 := Lib.hid hA6; have HR6 := Lib.hid (HR5.out.only hO6 HG.out); have HO6 := Lib.hid (HO5.out.tr hO6)
          clear hA6 hO6 z1
          go_wp2_with fail
          refine (rangeN v v5 _ HV.out HV5.out).mono ?_
          rintro e9 w4 ⟨rfl, hb⟩
          have HS4 := Lib.hid (HS6.out.below hb); have HR4 := Lib.hid (HR6.out.below hb); have HO4 := Lib.hid (HO6.out.tb hb)
          clear hb
          have d0 := (HR4.out).cell 0 _ rfl; have d1 := (HR4.out).cell 1 _ rfl; have d2 := (HR4.out).cell 2 _ rfl; have d3 := (HR4.out).cell 3 _ rfl
          have f0 := (HR4.out).frozen 0; have f1 := (HR4.out).frozen 1; have f2 := (HR4.out).frozen 2; have f3 := (HR4.out).frozen 3
          unfold setOf
          go_wp2_with fail
          refine bodyPost_ret (v := setOf (spanF v (v5 + 1))) (by simp [results, Tryz.results128, go_sem, d0, d1, d2, d3]; try rfl) rfl ⟨_, rfl, ?_, ?_, fun a q h => by rw [HX.out] at h; cases h⟩
          · rw [HX.out]; exact ⟨ri, putS_far (by first | exact HS4.out | (rw [← HR1.out]; exact HS4.out)) HG2.out _⟩
          · exact HO4.out.pS _ _ (.inr HZ.out)
        · have HX : Hid (R = .ok (spanF v (v5 + 1)) r) := Lib.hid (by rw [HX1.out, if_neg (by omega)])
          go_wp2_with fail
          refine (rangeN v v5 _ HV.out HV5.out).mono ?_
          rintro e9 w4 ⟨rfl, hb⟩
          have HS4 := Lib.hid (HS5.out.below hb); have HR4 := Lib.hid (HR5.out.below hb); have HO4 := Lib.hid (HO5.out.tb hb)
          clear hb z1
          have d0 := (HR4.out).cell 0 _ rfl; have d1 := (HR4.out).cell 1 _ rfl; have d2 := (HR4.out).cell 2 _ rfl; have d3 := (HR4.out).cell 3 _ rfl
          have f0 := (HR4.out).frozen 0; have f1 := (HR4.out).frozen 1; have f2 := (HR4.out).frozen 2; have f3 := (HR4.out).frozen 3
          unfold setOf
          go_wp2_with fail
          refine bodyPost_ret (v := setOf (spanF v (v5 + 1))) (by simp [results, Tryz.results128, go_sem, d0, d1, d2, d3]; try rfl) rfl ⟨_, rfl, ?_, ?_, fun a q h => by rw [HX.out] at h; injection h⟩
          · rw [HX.out]; show AtG _ g _ (rdr s (r : Int) o 0 x); rw [← HRI.out]; exact putS_far HS4.out HG2.out _
          · exact HO4.out.pS _ _ (.inr HZ.out)
    · have HX : Hid (R = .ok (spanF v (v + 1)) q) := Lib.hid (by rw [HX9.out, hie, if_neg h45])
      have e45 : (c == 45) = false := by rw [beq_eq_false_iff_ne]; exact h45
      clear h45 hie hgeq
      go_wp2_with fail
      refine (HPK.out).mono ?_
      rintro e9 w3 ⟨rfl, hb⟩
      have HS3 := Lib.hid (HS.out.below hb); have HR3 := Lib.hid (HR2.out.below hb); have HO3 := Lib.hid (HO2.out.tb hb)
      clear hb
      go_wp2_with fail
      refine (rangeN v v _ HV.out HV.out).mono ?_
      rintro e9 w4 ⟨rfl, hb⟩
      have HS4 := Lib.hid (HS3.out.below hb); have HR4 := Lib.hid (HR3.out.below hb); have HO4 := Lib.hid (HO3.out.tb hb)
      clear hb
      have d0 := (HR4.out).cell 0 _ rfl; have d1 := (HR4.out).cell 1 _ rfl; have d2 := (HR4.out).cell 2 _ rfl; have d3 := (HR4.out).cell 3 _ rfl
      have f0 := (HR4.out).frozen 0; have f1 := (HR4.out).frozen 1; have f2 := (HR4.out).frozen 2; have f3 := (HR4.out).frozen 3
      unfold setOf
      go_wp2_with fail
      refine bodyPost_ret (v := setOf (spanF v (v + 1))) (by simp [results, Tryz.results128, go_sem, d0, d1, d2, d3]; try rfl) rfl ⟨_, rfl, ?_, ?_, fun a q h => by rw [HX.out] at h; injection h⟩
      · rw [HX.out]; exact putS_far HS4.out HG2.out _
      · exact HO4.out.pS _ _ (.inr HZ.out)
set_option maxRecDepth 100000 in
set_option maxHeartbeats 1600000 in
theorem item_other (g : Nat) (s : ByteArray) (p : Nat) (o x : Int) (w : World) (h : AtG w g 114 (rdr s p o 0 x)) (hp : p ≤ s.size) (hm : s.size ≤ 1000) (h92 : ch s p ≠ 92) :
    Calls Tryz.prog 128 #[.pointer (some ⟨g, 0, none⟩)] w fun e w' => ∃ F : Nat → Bool, e = .returned (setOf F) ∧ StR s g o x (itemF s p) w' ∧ Only (fun k => k = g) w w' ∧ ∀ f q, itemF s p = .ok f q → F = f := by
  have HP := Lib.hid hp; have HM := Lib.hid hm
  have HR0 := Lib.hid (AtG.new w 38 (setC 0 0 0 0))
  have HA0 := Lib.hid (h.alloc (.cells (setC 0 0 0 0) 38))
  have HO0 := Lib.hid ((Only.refl (S := fun k => k = g) w).al (.cells (setC 0 0 0 0) 38))
  have HG : Hid (w.heap.size ≠ g) := Lib.hid (by have := h.lt; omega)
  have HG2 : Hid (g ≠ w.heap.size) := Lib.hid (by have := h.lt; omega)
  have HZ : Hid (w.heap.size ≤ w.heap.size) := Lib.hid (Nat.le_refl _)
  have HPK := Lib.hid (fun w h => peek_any g s p o x w h)
  have hif : ∀ c, ch s p = c → itemF s p = if c = 92 ∧ p + 1 < s.size then (match wideF (ch s (p + 1)) with | some f => .ok f (p + 2) | none => itemE s (memberF s p)) else itemE s (memberF s p) := fun c hc => by unfold itemF; rw [hc]; rfl
  generalize ch s p = c at *
  rw [hif c rfl]
  clear hif h hp hm
  have hpI : (p : Int) < 1001 := by have := HP.out; have := HM.out; omega
  rw [if_neg (fun h => h92 h.1)]
  have e92 : (c == 92) = false := by rw [beq_eq_false_iff_ne]; exact h92
  obtain ⟨R, hR⟩ : ∃ R, R = itemE s (memberF s p) := ⟨_, rfl⟩
  rw [← hR]
  have HR0X := Lib.hid hR
  clear hR
  go_enter Tryz.func128, Tryz.ntmps128
  go_upto_region 1 with (fail)
  refine Rg.wp_region_each (by kernel_rfl) (fun w' => AtG w' g 114 (rdr s p o 0 x) ∧ AtG w' w.heap.size 38 (setC 0 0 0 0) ∧ Only (fun k => k = g) w w') (fun w1 w2 h hb => ⟨h.1.below hb, h.2.1.below hb, h.2.2.tb hb⟩) (by kernel_rfl) (by kernel_rfl) (⟨HA0.out, HR0.out, HO0.out⟩) ?_
  show Rg.Build _ _ _ _ _ 0 [_, _, _, _, _, _, _, _, _, _, _, _, _, _, _, _] []
  refine Rg.build_cons (m := 1) (r := Rg.eq _) (Rg.one_plain (by rfl) (by (intro ax wx hk Kx hK; have k0 := hk.base 0 _ rfl rfl; have hj := hk.j; clear hk; have z1 : wx.cell? ⟨g, 1, none⟩ = some (.int .i64 (p : Int)) := hj.1.cell 1 _ rfl; have z0 : wx.cell? ⟨g, 0, none⟩ = some (.string s) := hj.1.cell 0 _ rfl; go_simp; refine hK _ _ ?_ (Below.refl _ _); apply Rg.mk))) ?_ rfl
  refine Rg.build_cons (m := 2) (r := Rg.eq _) (Rg.one_plain (by rfl) (by (intro ax wx hk Kx hK; obtain ⟨v7, k7, h7⟩ := hk.dep 0 7 _ rfl rfl rfl; (first | (cases (h7 : v7 = _)) | (obtain ⟨rfl, h7⟩ := h7) | skip); have hj := hk.j; clear hk; have z1 : wx.cell? ⟨g, 1, none⟩ = some (.int .i64 (p : Int)) := hj.1.cell 1 _ rfl; have z0 : wx.cell? ⟨g, 0, none⟩ = some (.string s) := hj.1.cell 0 _ rfl; go_simp; refine (HPK.out _ hj.1).mono ?_; rintro e w' ⟨rfl, hb⟩; refine hK _ _ ?_ hb; apply Rg.mk))) ?_ rfl
  refine Rg.build_cons (m := 3) (r := Rg.eq (.bool false)) (Rg.one_plain (by rfl) (by (intro ax wx hk Kx hK; obtain ⟨v8, k8, h8⟩ := hk.dep 1 8 _ rfl rfl rfl; (first | (cases (h8 : v8 = _)) | (obtain ⟨rfl, h8⟩ := h8) | skip); have hj := hk.j; clear hk; have z1 : wx.cell? ⟨g, 1, none⟩ = some (.int .i64 (p : Int)) := hj.1.cell 1 _ rfl; have z0 : wx.cell? ⟨g, 0, none⟩ = some (.string s) := hj.1.cell 0 _ rfl; (go_simp; refine hK _ _ ?_ (Below.refl _ _); simp [Rg.eq, e92]; try exact h92)))) ?_ rfl
  refine Rg.build_cons (m := 4) (r := Rg.eq _) (Rg.one_plain (by rfl) (by (intro ax wx hk Kx hK; obtain ⟨v9, k9, h9⟩ := hk.dep 2 9 _ rfl rfl rfl; (first | (cases (h9 : v9 = _)) | (obtain ⟨rfl, h9⟩ := h9) | skip); have hj := hk.j; clear hk; have z1 : wx.cell? ⟨g, 1, none⟩ = some (.int .i64 (p : Int)) := hj.1.cell 1 _ rfl; have z0 : wx.cell? ⟨g, 0, none⟩ = some (.string s) := hj.1.cell 0 _ rfl; go_simp; refine hK _ _ ?_ (Below.refl _ _); apply Rg.mk))) ?_ rfl
  first
    | refine Rg.build_cons (m := 5) (Rg.one_no 3 10 true (by rfl) (by rfl) (by rfl) (by rfl)) ?_ rfl
    | refine Rg.build_cons (m := 5) (Rg.one_und 3 10 true (by rfl) (by rfl) (by rfl) (by rfl)) ?_ rfl
    | refine Rg.build_cons (m := 5) (r := Rg.eq _) (Rg.one_yes 3 10 true (by rfl) (by rfl) (by rfl) (by rfl) (by (intro ax wx hk Kx hK; have k0 := hk.base 0 _ rfl rfl; have hj := hk.j; clear hk; have z1 : wx.cell? ⟨g, 1, none⟩ = some (.int .i64 (p : Int)) := hj.1.cell 1 _ rfl; have z0 : wx.cell? ⟨g, 0, none⟩ = some (.string s) := hj.1.cell 0 _ rfl; go_simp; refine hK _ _ ?_ (Below.refl _ _); apply Rg.mk))) ?_ rfl
  first
    | refine Rg.build_cons (m := 6) (Rg.one_no 3 10 true (by rfl) (by rfl) (by rfl) (by rfl)) ?_ rfl
    | refine Rg.build_cons (m := 6) (Rg.one_und 3 10 true (by rfl) (by rfl) (by rfl) (by rfl)) ?_ rfl
    | refine Rg.build_cons (m := 6) (r := Rg.eq _) (Rg.one_yes 3 10 true (by rfl) (by rfl) (by rfl) (by rfl) (by (intro ax wx hk Kx hK; obtain ⟨v11, k11, h11⟩ := hk.dep 4 11 _ rfl rfl rfl; (first | (cases (h11 : v11 = _)) | (obtain ⟨rfl, h11⟩ := h11) | skip); have hj := hk.j; clear hk; have z1 : wx.cell? ⟨g, 1, none⟩ = some (.int .i64 (p : Int)) := hj.1.cell 1 _ rfl; have z0 : wx.cell? ⟨g, 0, none⟩ = some (.string s) := hj.1.cell 0 _ rfl; go_simp; refine hK _ _ ?_ (Below.refl _ _); apply Rg.mk))) ?_ rfl
  first
    | refine Rg.build_cons (m := 7) (Rg.one_no 3 10 true (by rfl) (by rfl) (by rfl) (by rfl)) ?_ rfl
    | refine Rg.build_cons (m := 7) (Rg.one_und 3 10 true (by rfl) (by rfl) (by rfl) (by rfl)) ?_ rfl
    | refine Rg.build_cons (m := 7) (r := Rg.eq _) (Rg.one_yes 3 10 true (by rfl) (by rfl) (by rfl) (by rfl) (by (intro ax wx hk Kx hK; obtain ⟨v12, k12, h12⟩ := hk.dep 5 12 _ rfl rfl rfl; (first | (cases (h12 : v12 = _)) | (obtain ⟨rfl, h12⟩ := h12) | skip); have hj := hk.j; clear hk; have z1 : wx.cell? ⟨g, 1, none⟩ = some (.int .i64 (p : Int)) := hj.1.cell 1 _ rfl; have z0 : wx.cell? ⟨g, 0, none⟩ = some (.string s) := hj.1.cell 0 _ rfl; go_simp; refine hK _ _ ?_ (Below.refl _ _); apply Rg.mk))) ?_ rfl
  first
    | refine Rg.build_cons (m := 8) (Rg.one_no 3 10 true (by rfl) (by rfl) (by rfl) (by rfl)) ?_ rfl
    | refine Rg.build_cons (m := 8) (Rg.one_und 3 10 true (by rfl) (by rfl) (by rfl) (by rfl)) ?_ rfl
    | refine Rg.build_cons (m := 8) (r := Rg.eq _) (Rg.one_yes 3 10 true (by rfl) (by rfl) (by rfl) (by rfl) (by (intro ax wx hk Kx hK; obtain ⟨v13, k13, h13⟩ := hk.dep 6 13 _ rfl rfl rfl; (first | (cases (h13 : v13 = _)) | (obtain ⟨rfl, h13⟩ := h13) | skip); have hj := hk.j; clear hk; have z1 : wx.cell? ⟨g, 1, none⟩ = some (.int .i64 (p : Int)) := hj.1.cell 1 _ rfl; have z0 : wx.cell? ⟨g, 0, none⟩ = some (.string s) := hj.1.cell 0 _ rfl; go_simp; refine hK _ _ ?_ (Below.refl _ _); apply Rg.mk))) ?_ rfl
  first
    | refine Rg.build_cons (m := 9) (Rg.one_no 3 10 true (by rfl) (by rfl) (by rfl) (by rfl)) ?_ rfl
    | refine Rg.build_cons (m := 9) (Rg.one_und 3 10 true (by rfl) (by rfl) (by rfl) (by rfl)) ?_ rfl
    | refine Rg.build_cons (m := 9) (r := Rg.eq _) (Rg.one_yes 3 10 true (by rfl) (by rfl) (by rfl) (by rfl) (by (intro ax wx hk Kx hK; obtain ⟨v14, k14, h14⟩ := hk.dep 7 14 _ rfl rfl rfl; (first | (cases (h14 : v14 = _)) | (obtain ⟨rfl, h14⟩ := h14) | skip); have hj := hk.j; clear hk; have z1 : wx.cell? ⟨g, 1, none⟩ = some (.int .i64 (p : Int)) := hj.1.cell 1 _ rfl; have z0 : wx.cell? ⟨g, 0, none⟩ = some (.string s) := hj.1.cell 0 _ rfl; go_simp; refine hK _ _ ?_ (Below.refl _ _); apply Rg.mk))) ?_ rfl
  first
    | refine Rg.build_cons (m := 10) (Rg.one_no 3 10 true (by rfl) (by rfl) (by rfl) (by rfl)) ?_ rfl
    | refine Rg.build_cons (m := 10) (Rg.one_und 3 10 true (by rfl) (by rfl) (by rfl) (by rfl)) ?_ rfl
    | refine Rg.build_cons (m := 10) (r := Rg.eq _) (Rg.one_yes 3 10 true (by rfl) (by rfl) (by rfl) (by rfl) (by (intro ax wx hk Kx hK; have k0 := hk.base 0 _ rfl rfl; have hj := hk.j; clear hk; have z1 : wx.cell? ⟨g, 1, none⟩ = some (.int .i64 (p : Int)) := hj.1.cell 1 _ rfl; have z0 : wx.cell? ⟨g, 0, none⟩ = some (.string s) := hj.1.cell 0 _ rfl; go_simp; refine hK _ _ ?_ (Below.refl _ _); apply Rg.mk))) ?_ rfl
  first
    | refine Rg.build_cons (m := 11) (Rg.one_no 3 10 true (by rfl) (by rfl) (by rfl) (by rfl)) ?_ rfl
    | refine Rg.build_cons (m := 11) (Rg.one_und 3 10 true (by rfl) (by rfl) (by rfl) (by rfl)) ?_ rfl
    | refine Rg.build_cons (m := 11) (r := Rg.eq _) (Rg.one_yes 3 10 true (by rfl) (by rfl) (by rfl) (by rfl) (by (intro ax wx hk Kx hK; obtain ⟨v16, k16, h16⟩ := hk.dep 9 16 _ rfl rfl rfl; (first | (cases (h16 : v16 = _)) | (obtain ⟨rfl, h16⟩ := h16) | skip); have hj := hk.j; clear hk; have z1 : wx.cell? ⟨g, 1, none⟩ = some (.int .i64 (p : Int)) := hj.1.cell 1 _ rfl; have z0 : wx.cell? ⟨g, 0, none⟩ = some (.string s) := hj.1.cell 0 _ rfl; go_simp; refine hK _ _ ?_ (Below.refl _ _); apply Rg.mk))) ?_ rfl
  first
    | refine Rg.build_cons (m := 12) (Rg.one_no 3 10 true (by rfl) (by rfl) (by rfl) (by rfl)) ?_ rfl
    | refine Rg.build_cons (m := 12) (Rg.one_und 3 10 true (by rfl) (by rfl) (by rfl) (by rfl)) ?_ rfl
    | refine Rg.build_cons (m := 12) (r := Rg.eq _) (Rg.one_yes 3 10 true (by rfl) (by rfl) (by rfl) (by rfl) (by (intro ax wx hk Kx hK; obtain ⟨v17, k17, h17⟩ := hk.dep 10 17 _ rfl rfl rfl; (first | (cases (h17 : v17 = _)) | (obtain ⟨rfl, h17⟩ := h17) | skip); have hj := hk.j; clear hk; have z1 : wx.cell? ⟨g, 1, none⟩ = some (.int .i64 (p : Int)) := hj.1.cell 1 _ rfl; have z0 : wx.cell? ⟨g, 0, none⟩ = some (.string s) := hj.1.cell 0 _ rfl; go_simp; refine hK _ _ ?_ (Below.refl _ _); apply Rg.mk))) ?_ rfl
  first
    | refine Rg.build_cons (m := 13) (Rg.one_no 3 10 true (by rfl) (by rfl) (by rfl) (by rfl)) ?_ rfl
    | refine Rg.build_cons (m := 13) (Rg.one_und 3 10 true (by rfl) (by rfl) (by rfl) (by rfl)) ?_ rfl
    | refine Rg.build_cons (m := 13) (r := Rg.eq _) (Rg.one_yes 3 10 true (by rfl) (by rfl) (by rfl) (by rfl) (by (intro ax wx hk Kx hK; obtain ⟨v18, k18, h18⟩ := hk.dep 11 18 _ rfl rfl rfl; (first | (cases (h18 : v18 = _)) | (obtain ⟨rfl, h18⟩ := h18) | skip); have hj := hk.j; clear hk; have z1 : wx.cell? ⟨g, 1, none⟩ = some (.int .i64 (p : Int)) := hj.1.cell 1 _ rfl; have z0 : wx.cell? ⟨g, 0, none⟩ = some (.string s) := hj.1.cell 0 _ rfl; go_simp; refine hK _ _ ?_ (Below.refl _ _); apply Rg.mk))) ?_ rfl
  first
    | refine Rg.build_cons (m := 14) (Rg.one_no 3 10 true (by rfl) (by rfl) (by rfl) (by rfl)) ?_ rfl
    | refine Rg.build_cons (m := 14) (Rg.one_und 3 10 true (by rfl) (by rfl) (by rfl) (by rfl)) ?_ rfl
    | refine Rg.build_cons (m := 14) (r := Rg.eq _) (Rg.one_yes 3 10 true (by rfl) (by rfl) (by rfl) (by rfl) (by (intro ax wx hk Kx hK; obtain ⟨v19, k19, h19⟩ := hk.dep 12 19 _ rfl rfl rfl; (first | (cases (h19 : v19 = _)) | (obtain ⟨rfl, h19⟩ := h19) | skip); have hj := hk.j; clear hk; have z1 : wx.cell? ⟨g, 1, none⟩ = some (.int .i64 (p : Int)) := hj.1.cell 1 _ rfl; have z0 : wx.cell? ⟨g, 0, none⟩ = some (.string s) := hj.1.cell 0 _ rfl; go_simp; refine hK _ _ ?_ (Below.refl _ _); apply Rg.mk))) ?_ rfl
  first
    | refine Rg.build_cons (m := 15) (Rg.one_no 3 10 true (by rfl) (by rfl) (by rfl) (by rfl)) ?_ rfl
    | refine Rg.build_cons (m := 15) (Rg.one_und 3 10 true (by rfl) (by rfl) (by rfl) (by rfl)) ?_ rfl
    | refine Rg.build_cons (m := 15) (r := Rg.eq _) (Rg.one_yes 3 10 true (by rfl) (by rfl) (by rfl) (by rfl) (by (intro ax wx hk Kx hK; obtain ⟨v15, k15, h15⟩ := hk.dep 8 15 _ rfl rfl rfl; (first | (cases (h15 : v15 = _)) | (obtain ⟨rfl, h15⟩ := h15) | skip); obtain ⟨v20, k20, h20⟩ := hk.dep 13 20 _ rfl rfl rfl; (first | (cases (h20 : v20 = _)) | (obtain ⟨rfl, h20⟩ := h20) | skip); have hj := hk.j; clear hk; have z1 : wx.cell? ⟨g, 1, none⟩ = some (.int .i64 (p : Int)) := hj.1.cell 1 _ rfl; have z0 : wx.cell? ⟨g, 0, none⟩ = some (.string s) := hj.1.cell 0 _ rfl; go_simp; refine hK _ _ ?_ (Below.refl _ _); apply Rg.mk))) ?_ rfl
  refine Rg.build_cons (m := 16) (r := Rg.eq _) (Rg.one_plain (by rfl) (by (intro ax wx hk Kx hK; obtain ⟨v10, k10, h10⟩ := hk.dep 3 10 _ rfl rfl rfl; (first | (cases (h10 : v10 = _)) | (obtain ⟨rfl, h10⟩ := h10) | skip); obtain ⟨v21, k21, h21⟩ := hk.dep 14 21 _ rfl rfl rfl; (first | (cases (h21 : v21 = _)) | (obtain ⟨rfl, h21⟩ := h21) | skip); have hj := hk.j; clear hk; have z1 : wx.cell? ⟨g, 1, none⟩ = some (.int .i64 (p : Int)) := hj.1.cell 1 _ rfl; have z0 : wx.cell? ⟨g, 0, none⟩ = some (.string s) := hj.1.cell 0 _ rfl; go_simp; refine hK _ _ ?_ (Below.refl _ _); apply Rg.mk))) ?_ rfl
  refine Rg.build_end fun wx hj => ?_
  refine Rg.fin_eq rfl ?_
  refine Rg.fin_eq rfl ?_
  first | refine Rg.fin_eq rfl ?_ | refine Rg.fin_any rfl fun v9 h9 => ?_
  refine Rg.fin_eq rfl ?_
  refine Rg.fin_eq rfl ?_
  refine Rg.fin_eq rfl ?_
  refine Rg.fin_eq rfl ?_
  refine Rg.fin_eq rfl ?_
  refine Rg.fin_eq rfl ?_
  refine Rg.fin_eq rfl ?_
  refine Rg.fin_eq rfl ?_
  refine Rg.fin_eq rfl ?_
  refine Rg.fin_eq rfl ?_
  refine Rg.fin_eq rfl ?_
  refine Rg.fin_eq rfl ?_
  refine Rg.fin_eq rfl ?_
  refine Rg.fin_nil ?_
  simp only [List.set_cons_zero, List.set_cons_succ]
  have HA := Lib.hid hj.1; have HR := Lib.hid hj.2.1; have HO := Lib.hid hj.2.2
  clear hj
  go_wp2_with fail
  refine (member_any g s p o x _ HA.out HP.out HM.out).mono ?_
  rintro e9 w2 ⟨hO2, hS, v, hv, rfl, hq⟩
  have HR2 := Lib.hid (HR.out.only hO2 HG.out)
  have HO2 := Lib.hid (HO.out.tr hO2)
  have HV := Lib.hid hv
  clear hO2 hv
  cases hmf : memberF s p with
  | no cc yy =>
    rw [hmf] at hS
    obtain ⟨pb, hS⟩ := hS
    have hcc : cc ≠ 0 := by have := (memberF_in s p HP.out).1; rw [hmf] at this; have := this.1; omega
    have HX : Hid (R = .no cc yy) := Lib.hid (by rw [HR0X.out, hmf]; rfl)
    have HS := Lib.hid hS; have HCC := Lib.hid hcc
    clear hS hq hcc hmf
    go_wp2_with fail
    refine (peek_bad g s pb o cc yy _ HS.out HCC.out).mono ?_
    rintro e9 w3 ⟨rfl, hb⟩
    have HS3 := Lib.hid (HS.out.below hb); have HR3 := Lib.hid (HR2.out.below hb); have HO3 := Lib.hid (HO2.out.tb hb)
    clear hb
    go_wp2_with fail
    refine (rangeN v v _ HV.out HV.out).mono ?_
    rintro e9 w4 ⟨rfl, hb⟩
    have HS4 := Lib.hid (HS3.out.below hb); have HR4 := Lib.hid (HR3.out.below hb); have HO4 := Lib.hid (HO3.out.tb hb)
    clear hb
    have d0 := (HR4.out).cell 0 _ rfl; have d1 := (HR4.out).cell 1 _ rfl; have d2 := (HR4.out).cell 2 _ rfl; have d3 := (HR4.out).cell 3 _ rfl
    have f0 := (HR4.out).frozen 0; have f1 := (HR4.out).frozen 1; have f2 := (HR4.out).frozen 2; have f3 := (HR4.out).frozen 3
    unfold setOf
    go_wp2_with fail
    refine bodyPost_ret (v := setOf (spanF v (v + 1))) (by simp [results, Tryz.results128, go_sem, d0, d1, d2, d3]; try rfl) rfl ⟨_, rfl, ?_, ?_, fun a q h => by rw [HX.out] at h; cases h⟩
    · rw [HX.out]; exact ⟨pb, putS_far HS4.out HG2.out _⟩
    · exact HO4.out.pS _ _ (.inr HZ.out)
  | ok lo q =>
    rw [hmf] at hS hq
    obtain rfl := hq lo q rfl
    have hq0 : q ≤ s.size := by have := (memberF_in s p HP.out).1; rw [hmf] at this; exact this.2
    have HS := Lib.hid hS; have HQ := Lib.hid hq0
    clear hS hq
    have HPK := Lib.hid (peek_any g s q o x _ HS.out)
    have HX9 : Hid (R = itemE s (.ok v q)) := Lib.hid (by rw [HR0X.out, hmf])
    clear hmf
    have hie : ∀ c, ch s q = c → itemE s (.ok v q) = if c = 45 then (match memberF s (q + 1) with | .no c x => .no c x | .ok hi r => if hi < v then .no 2 (r - 1) else .ok (spanF v (hi + 1)) r) else .ok (spanF v (v + 1)) q := fun c hc => by rw [itemE, hc]; rfl
    have hgeq : 0 ≤ ch s q → q < s.size := ch_ge
    generalize ch s q = c at *
    have hie := hie c rfl
    by_cases h45 : c = 45
    · subst h45
      have HX0 : Hid (R = (match memberF s (q + 1) with | .no c x => .no c x | .ok hi r => if hi < v then .no 2 (r - 1) else .ok (spanF v (hi + 1)) r)) := Lib.hid (by rw [HX9.out, hie, if_pos rfl])
      have hq1 : q + 1 ≤ s.size := hgeq (by decide)
      have HQ1 := Lib.hid hq1
      have hq1' : (q : Int) < 1000 := by have := HM.out; omega
      obtain ⟨qi, hqi⟩ : ∃ qi : Int, qi = (q : Int) := ⟨_, rfl⟩
      have HS := HS
      rw [← hqi] at hq1'
      have hS : AtG w2 g 114 (rdr s qi o 0 x) := by rw [hqi]; exact HS.out
      have hqi0 : 0 ≤ qi := by omega
      clear HS
      have HS := Lib.hid hS; have HQI := Lib.hid hqi; clear hS hq1 hie hgeq hqi
      go_wp2_with fail
      refine (HPK.out).mono ?_
      rintro e9 w3 ⟨rfl, hb⟩
      have HS3 := Lib.hid (HS.out.below hb); have HR3 := Lib.hid (HR2.out.below hb); have HO3 := Lib.hid (HO2.out.tb hb)
      clear hb
      have z1 : w3.cell? ⟨g, 1, none⟩ = some (.int .i64 qi) := HS3.out.cell 1 _ rfl
      have f1 := HS3.out.frozen 1
      go_wp2_with fail
      have hat : AtG (w3.setCell ⟨g, 1, none⟩ (.int .i64 (qi + 1))) g 114 (rdr s ((q + 1 : Nat) : Int) o 0 x) := by
        rw [show ((q + 1 : Nat) : Int) = qi + 1 from by have := HQI.out; omega]; exact HS3.out.set 1 _
      have HR4 := Lib.hid (HR3.out.far (p := ⟨g, 1, none⟩) HG.out (.int .i64 (qi + 1)))
      have HO4 := Lib.hid (HO3.out.st g 1 (.int .i64 (qi + 1)) (.inl rfl))
      refine (member_any g s (q + 1) o x _ hat HQ1.out HM.out).mono ?_
      rintro e9 w5 ⟨hO5, hS5, v5, hv5, rfl, hq5⟩
      have HR5 := Lib.hid (HR4.out.only hO5 HG.out)
      have HO5 := Lib.hid (HO4.out.tr hO5)
      have HV5 := Lib.hid hv5
      clear hat HR4 HO4 hO5 hv5 HR3 HO3 HS3 z1 f1
      have hvI : (v : Int) < 256 := by have := HV.out; omega
      have hv5I : (v5 : Int) < 256 := by have := HV5.out; omega
      cases hmf : memberF s (q + 1) with
      | no cc yy =>
        rw [hmf] at hS5
        obtain ⟨pb, hS5⟩ := hS5
        have hcc : cc ≠ 0 := by have := (memberF_in s (q + 1) HQ1.out).1; rw [hmf] at this; have := this.1; omega
        have HX : Hid (R = .no cc yy) := Lib.hid (by rw [HX0.out, hmf])
        have HS5 := Lib.hid hS5; have HCC := Lib.hid hcc
        have z1 : w5.cell? ⟨g, 1, none⟩ = some (.int .i64 pb) := HS5.out.cell 1 _ rfl
        clear hS5 hq5 hcc hmf
        by_cases hlt : (v5 : Int) < (v : Int)
        · go_wp2_with fail
          refine (fail_no g s pb o cc yy _ 2 _ HS5.out HCC.out).mono ?_
          rintro e9 w9 ⟨rfl, hw9⟩; subst hw9
          go_wp2_with fail
          refine (rangeN v v5 _ HV.out HV5.out).mono ?_
          rintro e9 w4 ⟨rfl, hb⟩
          have HS4 := Lib.hid (HS5.out.below hb); have HR4 := Lib.hid (HR5.out.below hb); have HO4 := Lib.hid (HO5.out.tb hb)
          clear hb z1
          have d0 := (HR4.out).cell 0 _ rfl; have d1 := (HR4.out).cell 1 _ rfl; have d2 := (HR4.out).cell 2 _ rfl; have d3 := (HR4.out).cell 3 _ rfl
          have f0 := (HR4.out).frozen 0; have f1 := (HR4.out).frozen 1; have f2 := (HR4.out).frozen 2; have f3 := (HR4.out).frozen 3
          unfold setOf
          go_wp2_with fail
          refine bodyPost_ret (v := setOf (spanF v (v5 + 1))) (by simp [results, Tryz.results128, go_sem, d0, d1, d2, d3]; try rfl) rfl ⟨_, rfl, ?_, ?_, fun a q h => by rw [HX.out] at h; cases h⟩
          · rw [HX.out]; exact ⟨pb, putS_far HS4.out HG2.out _⟩
          · exact HO4.out.pS _ _ (.inr HZ.out)
        · go_wp2_with fail
          refine (rangeN v v5 _ HV.out HV5.out).mono ?_
          rintro e9 w4 ⟨rfl, hb⟩
          have HS4 := Lib.hid (HS5.out.below hb); have HR4 := Lib.hid (HR5.out.below hb); have HO4 := Lib.hid (HO5.out.tb hb)
          clear hb z1
          have d0 := (HR4.out).cell 0 _ rfl; have d1 := (HR4.out).cell 1 _ rfl; have d2 := (HR4.out).cell 2 _ rfl; have d3 := (HR4.out).cell 3 _ rfl
          have f0 := (HR4.out).frozen 0; have f1 := (HR4.out).frozen 1; have f2 := (HR4.out).frozen 2; have f3 := (HR4.out).frozen 3
          unfold setOf
          go_wp2_with fail
          refine bodyPost_ret (v := setOf (spanF v (v5 + 1))) (by simp [results, Tryz.results128, go_sem, d0, d1, d2, d3]; try rfl) rfl ⟨_, rfl, ?_, ?_, fun a q h => by rw [HX.out] at h; cases h⟩
          · rw [HX.out]; exact ⟨pb, putS_far HS4.out HG2.out _⟩
          · exact HO4.out.pS _ _ (.inr HZ.out)
      | ok hi r =>
        rw [hmf] at hS5 hq5
        obtain rfl := hq5 hi r rfl
        have hr0 : q + 2 ≤ r ∧ r ≤ s.size := by have := (memberF_in s (q + 1) HQ1.out).1; rw [hmf] at this; exact this
        have HX1 : Hid (R = (if v5 < v then .no 2 (r - 1) else .ok (spanF v (v5 + 1)) r)) := Lib.hid (by rw [HX0.out, hmf])
        obtain ⟨ri, hri⟩ : ∃ ri : Int, ri = (r : Int) := ⟨_, rfl⟩
        have hS5 : AtG w5 g 114 (rdr s ri o 0 x) := by rw [hri]; exact hS5
        have HS5 := Lib.hid hS5
        have z1 : w5.cell? ⟨g, 1, none⟩ = some (.int .i64 ri) := HS5.out.cell 1 _ rfl
        have hr1 : ri - 1 = ((r - 1 : Nat) : Int) := by omega
        have HR1 := Lib.hid hr1
        have hr2 : 0 ≤ ri - 1 := by omega
        have hr3 : ri < 10000 := by have := HM.out; omega
        have HRI := Lib.hid hri
        clear hS5 hq5 hmf hri hr0
        by_cases hlt : (v5 : Int) < (v : Int)
        · have HX : Hid (R = .no 2 (r - 1)) := Lib.hid (by rw [HX1.out, if_pos (by omega)])
          go_wp2_with fail
          refine (failO g s ri o x _ 2 _ HS5.out).mono ?_
          rintro e9 w6 ⟨rfl, hA6, hO6⟩
          have HS6 := Lib.hid hA6; have HR6 := Lib.hid (HR5.out.only hO6 HG.out); have HO6 := Lib.hid (HO5.out.tr hO6)
          clear hA6 hO6 z1
          go_wp2_with fail
          refine (rangeN v v5 _ HV.out HV5.out).mono ?_
          rintro e9 w4 ⟨rfl, hb⟩
          have HS4 := Lib.hid (HS6.out.below hb); have HR4 := Lib.hid (HR6.out.below hb); have HO4 := Lib.hid (HO6.out.tb hb)
          clear hb
          have d0 := (HR4.out).cell 0 _ rfl; have d1 := (HR4.out).cell 1 _ rfl; have d2 := (HR4.out).cell 2 _ rfl; have d3 := (HR4.out).cell 3 _ rfl
          have f0 := (HR4.out).frozen 0; have f1 := (HR4.out).frozen 1; have f2 := (HR4.out).frozen 2; have f3 := (HR4.out).frozen 3
          unfold setOf
          go_wp2_with fail
          refine bodyPost_ret (v := setOf (spanF v (v5 + 1))) (by simp [results, Tryz.results128, go_sem, d0, d1, d2, d3]; try rfl) rfl ⟨_, rfl, ?_, ?_, fun a q h => by rw [HX.out] at h; cases h⟩
          · rw [HX.out]; exact ⟨ri, putS_far (by first | exact HS4.out | (rw [← HR1.out]; exact HS4.out)) HG2.out _⟩
          · exact HO4.out.pS _ _ (.inr HZ.out)
        · have HX : Hid (R = .ok (spanF v (v5 + 1)) r) := Lib.hid (by rw [HX1.out, if_neg (by omega)])
          go_wp2_with fail
          refine (rangeN v v5 _ HV.out HV5.out).mono ?_
          rintro e9 w4 ⟨rfl, hb⟩
          have HS4 := Lib.hid (HS5.out.below hb); have HR4 := Lib.hid (HR5.out.below hb); have HO4 := Lib.hid (HO5.out.tb hb)
          clear hb z1
          have d0 := (HR4.out).cell 0 _ rfl; have d1 := (HR4.out).cell 1 _ rfl; have d2 := (HR4.out).cell 2 _ rfl; have d3 := (HR4.out).cell 3 _ rfl
          have f0 := (HR4.out).frozen 0; have f1 := (HR4.out).frozen 1; have f2 := (HR4.out).frozen 2; have f3 := (HR4.out).frozen 3
          unfold setOf
          go_wp2_with fail
          refine bodyPost_ret (v := setOf (spanF v (v5 + 1))) (by simp [results, Tryz.results128, go_sem, d0, d1, d2, d3]; try rfl) rfl ⟨_, rfl, ?_, ?_, fun a q h => by rw [HX.out] at h; injection h⟩
          · rw [HX.out]; show AtG _ g _ (rdr s (r : Int) o 0 x); rw [← HRI.out]; exact putS_far HS4.out HG2.out _
          · exact HO4.out.pS _ _ (.inr HZ.out)
    · have HX : Hid (R = .ok (spanF v (v + 1)) q) := Lib.hid (by rw [HX9.out, hie, if_neg h45])
      have e45 : (c == 45) = false := by rw [beq_eq_false_iff_ne]; exact h45
      clear h45 hie hgeq
      go_wp2_with fail
      refine (HPK.out).mono ?_
      rintro e9 w3 ⟨rfl, hb⟩
      have HS3 := Lib.hid (HS.out.below hb); have HR3 := Lib.hid (HR2.out.below hb); have HO3 := Lib.hid (HO2.out.tb hb)
      clear hb
      go_wp2_with fail
      refine (rangeN v v _ HV.out HV.out).mono ?_
      rintro e9 w4 ⟨rfl, hb⟩
      have HS4 := Lib.hid (HS3.out.below hb); have HR4 := Lib.hid (HR3.out.below hb); have HO4 := Lib.hid (HO3.out.tb hb)
      clear hb
      have d0 := (HR4.out).cell 0 _ rfl; have d1 := (HR4.out).cell 1 _ rfl; have d2 := (HR4.out).cell 2 _ rfl; have d3 := (HR4.out).cell 3 _ rfl
      have f0 := (HR4.out).frozen 0; have f1 := (HR4.out).frozen 1; have f2 := (HR4.out).frozen 2; have f3 := (HR4.out).frozen 3
      unfold setOf
      go_wp2_with fail
      refine bodyPost_ret (v := setOf (spanF v (v + 1))) (by simp [results, Tryz.results128, go_sem, d0, d1, d2, d3]; try rfl) rfl ⟨_, rfl, ?_, ?_, fun a q h => by rw [HX.out] at h; injection h⟩
      · rw [HX.out]; exact putS_far HS4.out HG2.out _
      · exact HO4.out.pS _ _ (.inr HZ.out)
theorem item_any (g : Nat) (s : ByteArray) (p : Nat) (o x : Int) (w : World) (h : AtG w g 114 (rdr s p o 0 x)) (hp : p ≤ s.size) (hm : s.size ≤ 1000) :
    Calls Tryz.prog 128 #[.pointer (some ⟨g, 0, none⟩)] w fun e w' => ∃ F : Nat → Bool, e = .returned (setOf F) ∧ StR s g o x (itemF s p) w' ∧ Only (fun k => k = g) w w' ∧ ∀ f q, itemF s p = .ok f q → F = f := by
  by_cases h92 : ch s p = 92
  · by_cases hn : p + 1 < s.size
    · cases hwd : wideF (ch s (p + 1)) with
      | some F => exact item_some g s p o x w h hp hm h92 hn F hwd
      | none => exact item_none g s p o x w h hp hm h92 hn hwd
    · exact item_last g s p o x w h hp hm h92 hn
  · exact item_other g s p o x w h hp hm h92
end Go.Proofs.YtgjcibhhffkemaaGreatDoor
/- Nodes in memory: a tree as a value and the rows of its kids. -/
set_option linter.unusedVariables false
set_option linter.unusedSimpArgs false
namespace Go.Proofs.YtgjcibhhffkemaaGreatDoor
open Go.RowKit Bt
/-- a node's value, kv being its kids' slice -/
def nodeV (t : Tree) (kv : Value) : Value := match t with | .node op f mn mx _ => .agg #[.int .i64 op, .int .u64 ((wd f 0 : Nat) : Int), .int .u64 ((wd f 1 : Nat) : Int), .int .u64 ((wd f 2 : Nat) : Int), .int .u64 ((wd f 3 : Nat) : Int), .int .i64 mn, .int .i64 mx, kv]
/-- its cells -/
def nodeL (t : Tree) (kv : Value) : List Value := match t with | .node op f mn mx _ => [.int .i64 op, .int .u64 ((wd f 0 : Nat) : Int), .int .u64 ((wd f 1 : Nat) : Int), .int .u64 ((wd f 2 : Nat) : Int), .int .u64 ((wd f 3 : Nat) : Int), .int .i64 mn, .int .i64 mx, kv]
theorem nodeL_len (t : Tree) (kv : Value) : (nodeL t kv).length = 8 := by cases t; rfl
mutual
/-- a tree's kids stand at the slice kv, in blocks of D -/
def KAt (D : Nat → Prop) (w : World) : Tree → Value → Prop
  | .node _ _ _ _ kids, kv => (kids = [] ∧ ∃ a c, kv = .slice a 0 c) ∨ (kids ≠ [] ∧ kids.length ≤ 1000 ∧ ∃ b off cap, kv = .slice (some ⟨b, off, none⟩) kids.length cap ∧ kids.length ≤ cap ∧ D b ∧ KRow D w kids b off)
/-- a row of nodes -/
def KRow (D : Nat → Prop) (w : World) : List Tree → Nat → Nat → Prop
  | [], _, _ => True
  | t :: l, b, off => (∃ kv, (∀ i, i < 8 → w.cell? ⟨b, off + i, none⟩ = (nodeL t kv)[i]?) ∧ KAt D w t kv) ∧ KRow D w l b (off + 8)
end
theorem cell_same {w w' : World} {b : Nat} (h : w'.heap[b]? = w.heap[b]?) (i : Nat) : w'.cell? ⟨b, i, none⟩ = w.cell? ⟨b, i, none⟩ := by
  unfold World.cell?; simp only [h]
mutual
theorem KAt.keep {D D' : Nat → Prop} {w w' : World} (hk : ∀ b, D b → w'.heap[b]? = w.heap[b]?) (hD : ∀ b, D b → D' b) : ∀ (t : Tree) (kv : Value), KAt D w t kv → KAt D' w' t kv
  | .node op f mn mx kids, kv, h => by
    rw [KAt] at h ⊢
    rcases h with h | ⟨h1, hl, b, off, cap, h2, h3, h4, h5⟩
    · exact .inl h
    · exact .inr ⟨h1, hl, b, off, cap, h2, h3, hD b h4, KRow.keep hk hD kids b off h4 h5⟩
theorem KRow.keep {D D' : Nat → Prop} {w w' : World} (hk : ∀ b, D b → w'.heap[b]? = w.heap[b]?) (hD : ∀ b, D b → D' b) : ∀ (l : List Tree) (b off : Nat), D b → KRow D w l b off → KRow D' w' l b off
  | [], b, off, hb, h => by rw [KRow]; trivial
  | t :: l, b, off, hb, h => by
    rw [KRow] at h ⊢
    obtain ⟨⟨kv, h1, h2⟩, h3⟩ := h
    exact ⟨⟨kv, fun i hi => by rw [cell_same (hk b hb)]; exact h1 i hi, KAt.keep hk hD t kv h2⟩, KRow.keep hk hD l b (off + 8) hb h3⟩
end
/-- the blocks from lo up to below hi -/
def Iv (lo hi : Nat) : Nat → Prop := fun b => lo ≤ b ∧ b < hi
theorem KAt.below {lo hi hi' : Nat} {w w' : World} {t : Tree} {kv : Value} (h : KAt (Iv lo hi) w t kv) (hb : Below hi w w') (hh : hi ≤ hi') : KAt (Iv lo hi') w' t kv :=
  KAt.keep (fun b hb' => hb.block b hb'.2) (fun b h => ⟨h.1, Nat.lt_of_lt_of_le h.2 hh⟩) t kv h
theorem KAt.only {D : Nat → Prop} {S : Nat → Prop} {w w' : World} {t : Tree} {kv : Value} (h : KAt D w t kv) (hb : Only S w w') (hD : ∀ b, D b → b < w.heap.size ∧ ¬ S b) : KAt D w' t kv :=
  KAt.keep (fun b hb' => hb.block b (hD b hb').1 (hD b hb').2) (fun b h => h) t kv h
theorem KAt.mono {D D' : Nat → Prop} {w : World} {t : Tree} {kv : Value} (h : KAt D w t kv) (hD : ∀ b, D b → D' b) : KAt D' w t kv := KAt.keep (fun _ _ => rfl) hD t kv h
theorem KRow.get {D : Nat → Prop} {w : World} : ∀ (l : List Tree) (b off j : Nat) (t : Tree), KRow D w l b off → l[j]? = some t → ∃ kv, (∀ i, i < 8 → w.cell? ⟨b, off + 8 * j + i, none⟩ = (nodeL t kv)[i]?) ∧ KAt D w t kv
  | [], b, off, j, t, h, hj => by simp at hj
  | t :: l, b, off, 0, u, h, hj => by
    rw [KRow] at h
    simp at hj; subst hj
    simpa using h.1
  | t :: l, b, off, j + 1, u, h, hj => by
    rw [KRow] at h
    obtain ⟨kv, h1, h2⟩ := KRow.get l b (off + 8) j u h.2 (by simpa using hj)
    exact ⟨kv, fun i hi => by rw [← h1 i hi, show off + 8 * (j + 1) + i = off + 8 + 8 * j + i from by omega], h2⟩
theorem KRow.mk {D : Nat → Prop} {w : World} : ∀ (l : List Tree) (b off : Nat), (∀ j t, l[j]? = some t → ∃ kv, (∀ i, i < 8 → w.cell? ⟨b, off + 8 * j + i, none⟩ = (nodeL t kv)[i]?) ∧ KAt D w t kv) → KRow D w l b off
  | [], b, off, h => by rw [KRow]; trivial
  | t :: l, b, off, h => by
    rw [KRow]
    refine ⟨by simpa using h 0 t rfl, KRow.mk l b (off + 8) fun j u hj => ?_⟩
    obtain ⟨kv, h1, h2⟩ := h (j + 1) u (by simpa using hj)
    exact ⟨kv, fun i hi => by rw [← h1 i hi, show off + 8 * (j + 1) + i = off + 8 + 8 * j + i from by omega], h2⟩
theorem KAt.slice {D : Nat → Prop} {w : World} {op : Int} {f : Nat → Bool} {mn mx : Int} {kids : List Tree} {kv : Value} (h : KAt D w (.node op f mn mx kids) kv) : ∃ a c, kv = .slice a kids.length c := by
  rw [KAt] at h
  rcases h with ⟨rfl, a, c, rfl⟩ | ⟨_, _, b, off, cap, rfl, _⟩
  · exact ⟨a, c, rfl⟩
  · exact ⟨_, cap, rfl⟩
/-- a row that is being built: trees and their kids' slices -/
def flatN (ps : List (Tree × Value)) : List Value := ps.flatMap (fun p => nodeL p.1 p.2)
theorem flatN_snoc (ps : List (Tree × Value)) (t : Tree) (kv : Value) : flatN (ps ++ [(t, kv)]) = flatN ps ++ nodeL t kv := by unfold flatN; rw [List.flatMap_append]; simp
theorem flatN_one (t : Tree) (kv : Value) : flatN [(t, kv)] = nodeL t kv := by unfold flatN; simp
theorem flatN_get : ∀ (ps : List (Tree × Value)) (j : Nat) (p : Tree × Value), ps[j]? = some p → ∀ i, i < 8 → (flatN ps)[8 * j + i]? = (nodeL p.1 p.2)[i]?
  | [], j, p, h, i, hi => by simp at h
  | q :: ps, 0, p, h, i, hi => by
    simp at h; subst h
    unfold flatN; rw [List.flatMap_cons, List.getElem?_append_left (by rw [nodeL_len]; omega)]; simp
  | q :: ps, j + 1, p, h, i, hi => by
    have h1 := flatN_get ps j p (by simpa using h) i hi
    unfold flatN at h1 ⊢
    rw [List.flatMap_cons, List.getElem?_append_right (by rw [nodeL_len]; omega), nodeL_len, show 8 * (j + 1) + i - 8 = 8 * j + i from by omega]
    exact h1
theorem flatN_len (ps : List (Tree × Value)) : (flatN ps).length = ps.length * 8 := by
  induction ps with
  | nil => rfl
  | cons p ps ih => unfold flatN at *; rw [List.flatMap_cons, List.length_append, nodeL_len, ih, List.length_cons]; omega
def AllK (D : Nat → Prop) (w : World) (ps : List (Tree × Value)) : Prop := ∀ p ∈ ps, KAt D w p.1 p.2
theorem infoNode : (Tryz.prog.info? 41).map (fun i => (i.zero, i.size, i.bytes)) = some (some (.agg #[.int .i64 0, .int .u64 0, .int .u64 0, .int .u64 0, .int .u64 0, .int .i64 0, .int .i64 0, .slice none 0 0]), 8, 80) := by kernel_rfl
theorem own_kids {D : Nat → Prop} {w : World} {base n : Nat} {v : Value} {ps : List (Tree × Value)} (h : w.ownsRow base 41 8 v n (flatN ps)) (ha : AllK D w ps) (hn : ps ≠ []) :
    ∃ b cap, v = .slice (some ⟨b, 0, none⟩) ps.length cap ∧ ps.length ≤ cap ∧ base ≤ b ∧ b < w.heap.size ∧ v.ownBlock = some b ∧ KRow D w (ps.map (·.1)) b 0 := by
  have hl := h.1
  rw [flatN_len] at hl
  have hl : ps.length = n := by omega
  rcases h.2 with ⟨rfl, h0⟩ | ⟨g, cap, cur, rfl, hb, hh, hnc, hcm, hcs, hct⟩
  · exact absurd (List.eq_nil_of_length_eq_zero (by omega)) hn
  · refine ⟨g, cap, by rw [hl], by omega, hb, (Array.getElem?_eq_some_iff.1 hh).1, rfl, KRow.mk _ _ _ fun j t hj => ?_⟩
    rw [List.getElem?_map] at hj
    obtain ⟨p, hp, rfl⟩ := Option.map_eq_some_iff.1 hj
    refine ⟨p.2, fun i hi => ?_, ha p (List.mem_of_getElem? hp)⟩
    have hg := flatN_get ps j p hp i hi
    have hi2 : i < (nodeL p.1 p.2).length := by rw [nodeL_len]; exact hi
    rw [List.getElem?_eq_getElem hi2] at hg ⊢
    rw [← hct, List.getElem?_take] at hg
    split at hg
    · have : cur[8 * j + i]? = some (nodeL p.1 p.2)[i] := by simpa using hg
      simp [World.cell?, hh, this]
    · cases hg
theorem own_node {w : World} {g base : Nat} {t : Tree} {kv : Value} (h : AtG w g 41 (nodeL t kv).toArray) (hb : base ≤ g) : w.ownsRow base 41 8 (.slice (some ⟨g, 0, none⟩) 1 1) 1 (flatN [(t, kv)]) := by
  rw [flatN_one]
  exact ⟨by rw [nodeL_len], .inr ⟨g, 1, _, rfl, hb, h, Nat.le_refl _, by decide, by simp [nodeL_len], by rw [show 1 * 8 = (nodeL t kv).length from by rw [nodeL_len]]; simp⟩⟩
set_option maxRecDepth 100000 in
theorem one_any (f : Nat → Bool) (w : World) : Calls Tryz.prog 108 #[setOf f] w fun e w' => e = .returned (nodeV (one f) (.slice none 0 0)) ∧ Below w.heap.size w w' := by
  unfold setOf
  go_enter Tryz.func108, Tryz.ntmps108
  go_wp2
  go_returns
  exact ⟨rfl, by go_grown⟩
end Go.Proofs.YtgjcibhhffkemaaGreatDoor
/- The document's Reader: One, many, number. -/
set_option linter.unusedVariables false
set_option linter.unusedSimpArgs false
namespace Go.Proofs.YtgjcibhhffkemaaGreatDoor
open Go.RowKit Bt
set_option maxRecDepth 100000 in
theorem number_any (g : Nat) (s : ByteArray) (p : Nat) (o x : Int) (w : World) (h : AtG w g 114 (rdr s p o 0 x)) (hp : p ≤ s.size) (hm : s.size ≤ 1000) :
    Calls Tryz.prog 98 #[.pointer (some ⟨g, 0, none⟩)] w fun e w' => ∃ v : Int, e = .returned (.int .i64 v) ∧ StR s g o x (numF s p) w' ∧ Only (fun k => k = g) w w' ∧ (∀ a q, numF s p = .ok a q → v = a) ∧ 0 ≤ v ∧ v ≤ 99 := by
  by_cases hc : ch s p < 0
  · have HN := Lib.hid (next_no g s p o x w h hp hc)
    have he : numF s p = .no 2 p := by unfold numF; rw [if_pos (by omega)]
    rw [he]
    clear he h hc hp
    go_enter Tryz.func98, Tryz.ntmps98
    go_wp2_with fail
    refine (HN.out).mono ?_
    rintro e9 w1 ⟨rfl, hA, hO⟩
    have HA := Lib.hid hA; have HO := Lib.hid hO; clear hA hO
    have z1 : w1.cell? ⟨g, 1, none⟩ = some (.int .i64 (p : Int)) := HA.out.cell 1 _ rfl
    go_wp2_with fail
    refine (fail_no g s _ o 2 _ _ 2 _ HA.out (by decide)).mono ?_
    rintro e9 w9 ⟨rfl, rfl⟩
    go_wp2_with fail
    go_returns
    exact ⟨0, rfl, ⟨_, HA.out⟩, HO.out, (fun a q h => by cases h), by decide, by decide⟩
  have HN := Lib.hid (next_ch g s p o x w h (by omega) (by omega))
  have hp1 := ch_ge (s := s) (p := p) (by omega)
  have hl := ch_lt s p
  have HE := fun w h => Lib.hid (peek_any g s (p + 1) o x w h)
  have hge : 0 ≤ ch s (p + 1) → p + 1 < s.size := ch_ge
  have hl1 := ch_lt s (p + 1)
  obtain ⟨R, hR⟩ : ∃ R, R = numF s p := ⟨_, rfl⟩
  rw [← hR]
  unfold numF at hR
  generalize ch s p = c at *
  generalize ch s (p + 1) = d at *
  obtain ⟨pi, hpi⟩ : ∃ pi : Int, pi = ((p + 1 : Nat) : Int) := ⟨_, rfl⟩
  rw [← hpi] at HN HE
  have hpi2 : pi - 1 = (p : Int) := by omega
  have hpi3 : 0 ≤ pi - 1 := by omega
  have hpi4 : pi < 10000 := by omega
  have HPI := Lib.hid hpi
  clear h hpi
  by_cases h1 : c < 48
  · have HX : Hid (R = .no 2 p) := Lib.hid (by rw [hR, if_pos (.inl h1)])
    clear hR
    go_enter Tryz.func98, Tryz.ntmps98
    go_wp2_with fail
    refine (HN.out).mono ?_
    rintro e9 w1 ⟨rfl, hA, hO⟩
    have HA := Lib.hid hA; have HO := Lib.hid hO; clear hA hO
    have z1 : w1.cell? ⟨g, 1, none⟩ = some (.int .i64 pi) := HA.out.cell 1 _ rfl
    go_wp2_with fail
    refine (failO g s _ o x _ 2 _ HA.out).mono ?_
    rintro e9 w2 ⟨rfl, hA2, hO2⟩
    have HA2 := Lib.hid hA2; have HO2 := Lib.hid (HO.out.tr hO2)
    clear hA2 hO2
    go_wp2_with fail
    go_returns
    exact ⟨0, rfl, by rw [HX.out]; exact ⟨_, HA2.out⟩, HO2.out, (fun a q h => by rw [HX.out] at h; cases h), by decide, by decide⟩
  by_cases h2 : 57 < c
  · have HX : Hid (R = .no 2 p) := Lib.hid (by rw [hR, if_pos (.inr h2)])
    clear hR
    go_enter Tryz.func98, Tryz.ntmps98
    go_wp2_with fail
    refine (HN.out).mono ?_
    rintro e9 w1 ⟨rfl, hA, hO⟩
    have HA := Lib.hid hA; have HO := Lib.hid hO; clear hA hO
    have z1 : w1.cell? ⟨g, 1, none⟩ = some (.int .i64 pi) := HA.out.cell 1 _ rfl
    go_wp2_with fail
    refine (failO g s _ o x _ 2 _ HA.out).mono ?_
    rintro e9 w2 ⟨rfl, hA2, hO2⟩
    have HA2 := Lib.hid hA2; have HO2 := Lib.hid (HO.out.tr hO2)
    clear hA2 hO2
    go_wp2_with fail
    go_returns
    exact ⟨0, rfl, by rw [HX.out]; exact ⟨_, HA2.out⟩, HO2.out, (fun a q h => by rw [HX.out] at h; cases h), by decide, by decide⟩
  by_cases h3 : 48 ≤ d
  · by_cases h4 : d ≤ 57
    · have HX : Hid (R = .ok (10 * (c - 48) + d - 48) (p + 2)) := Lib.hid (by rw [hR, if_neg (by omega), if_pos ⟨h3, h4⟩])
      clear hR
      go_enter Tryz.func98, Tryz.ntmps98
      go_wp2_with fail
      refine (HN.out).mono ?_
      rintro e9 w1 ⟨rfl, hA, hO⟩
      have HA := Lib.hid hA; have HO := Lib.hid hO; clear hA hO
      go_wp2_with fail
      refine ((HE _ HA.out).out).mono ?_
      rintro e9 w2 ⟨rfl, hb⟩
      have HA2 := Lib.hid (HA.out.below hb); have HO2 := Lib.hid (HO.out.tb hb)
      clear hb
      have z1 : w2.cell? ⟨g, 1, none⟩ = some (.int .i64 pi) := HA2.out.cell 1 _ rfl
      have f1 := HA2.out.frozen 1
      go_wp2_with fail
      go_returns
      exact ⟨10 * (c - 48) + d - 48, rfl, by rw [HX.out]; show AtG _ g _ (rdr s ((p + 2 : Nat) : Int) o 0 x); rw [show ((p + 2 : Nat) : Int) = pi + 1 from by have := HPI.out; omega]; exact HA2.out.set 1 _, HO2.out.st g 1 _ (.inl rfl), (fun a q h => by rw [HX.out] at h; injection h), by omega, by omega⟩
    · have HX : Hid (R = .ok (c - 48) (p + 1)) := Lib.hid (by rw [hR, if_neg (by omega), if_neg (fun h => h4 h.2)])
      clear hR
      go_enter Tryz.func98, Tryz.ntmps98
      go_wp2_with fail
      refine (HN.out).mono ?_
      rintro e9 w1 ⟨rfl, hA, hO⟩
      have HA := Lib.hid hA; have HO := Lib.hid hO; clear hA hO
      go_wp2_with fail
      refine ((HE _ HA.out).out).mono ?_
      rintro e9 w2 ⟨rfl, hb⟩
      have HA2 := Lib.hid (HA.out.below hb); have HO2 := Lib.hid (HO.out.tb hb)
      clear hb
      go_wp2_with fail
      go_returns
      exact ⟨c - 48, rfl, by rw [HX.out]; show AtG _ g _ (rdr s ((p + 1 : Nat) : Int) o 0 x); rw [← HPI.out]; exact HA2.out, HO2.out, (fun a q h => by rw [HX.out] at h; injection h), by omega, by omega⟩
  · have HX : Hid (R = .ok (c - 48) (p + 1)) := Lib.hid (by rw [hR, if_neg (by omega), if_neg (fun h => h3 h.1)])
    clear hR
    go_enter Tryz.func98, Tryz.ntmps98
    go_wp2_with fail
    refine (HN.out).mono ?_
    rintro e9 w1 ⟨rfl, hA, hO⟩
    have HA := Lib.hid hA; have HO := Lib.hid hO; clear hA hO
    go_wp2_with fail
    refine ((HE _ HA.out).out).mono ?_
    rintro e9 w2 ⟨rfl, hb⟩
    have HA2 := Lib.hid (HA.out.below hb); have HO2 := Lib.hid (HO.out.tb hb)
    clear hb
    go_wp2_with fail
    go_returns
    exact ⟨c - 48, rfl, by rw [HX.out]; show AtG _ g _ (rdr s ((p + 1 : Nat) : Int) o 0 x); rw [← HPI.out]; exact HA2.out, HO2.out, (fun a q h => by rw [HX.out] at h; injection h), by omega, by omega⟩
end Go.Proofs.YtgjcibhhffkemaaGreatDoor
/- The document's Reader: class. -/
set_option linter.unusedVariables false
set_option linter.unusedSimpArgs false
namespace Go.Proofs.YtgjcibhhffkemaaGreatDoor
open Go.RowKit Bt
/-- how much is left to read -/
def leftR (s : ByteArray) (g : Nat) (w : World) : Nat :=
  match w.cell? ⟨g, 1, none⟩, w.cell? ⟨g, 3, none⟩ with
  | some (.int _ a), some (.int _ b) => if b = 0 then s.size + 2 - a.toNat else 0
  | _, _ => 0
theorem leftR_ok {s : ByteArray} {g p : Nat} {o x : Int} {w : World} (h : AtG w g 114 (rdr s p o 0 x)) : leftR s g w = s.size + 2 - p := by
  have h1 : w.cell? ⟨g, 1, none⟩ = some (.int .i64 (p : Int)) := h.cell 1 _ rfl
  have h3 : w.cell? ⟨g, 3, none⟩ = some (.int .i64 0) := h.cell 3 _ rfl
  unfold leftR; rw [h1, h3]; simp
theorem leftR_no {s : ByteArray} {g : Nat} {p o x b : Int} {w : World} (h : AtG w g 114 (rdr s p o b x)) (hb : b ≠ 0) : leftR s g w = 0 := by
  have h1 : w.cell? ⟨g, 1, none⟩ = some (.int .i64 p) := h.cell 1 _ rfl
  have h3 : w.cell? ⟨g, 3, none⟩ = some (.int .i64 b) := h.cell 3 _ rfl
  unfold leftR; rw [h1, h3]; simp [hb]
theorem StR.far {α : Type} {s : ByteArray} {g : Nat} {o x : Int} {r : Re α} {w : World} (h : StR s g o x r w) {gg : Nat} (hg : g ≠ gg) (f : Nat → Bool) : StR s g o x r (putS w gg f) := by
  cases r with
  | ok a q => exact putS_far h hg f
  | no c y => obtain ⟨p, h⟩ := h; exact ⟨p, putS_far h hg f⟩
theorem StR.below {α : Type} {s : ByteArray} {g : Nat} {o x : Int} {r : Re α} {w w' : World} (h : StR s g o x r w) (hb : Below w.heap.size w w') : StR s g o x r w' := by
  cases r with
  | ok a q => exact AtG.below h hb
  | no c y => obtain ⟨p, h⟩ := h; exact ⟨p, h.below hb⟩
def negF (b : Bool) (f : Nat → Bool) : Nat → Bool := if b then (fun y => !f y) else f
set_option maxRecDepth 100000 in
set_option maxHeartbeats 1600000 in
theorem class_neg (g : Nat) (s : ByteArray) (p : Nat) (o x : Int) (w : World) (h : AtG w g 114 (rdr s p o 0 x)) (hp : p ≤ s.size) (hm : s.size ≤ 1000) (h94 : ch s p = 94) :
    Calls Tryz.prog 109 #[.pointer (some ⟨g, 0, none⟩)] w fun e w' => ∃ F : Nat → Bool, e = .returned (setOf F) ∧ StR s g o x (classF s p) w' ∧ Only (fun k => k = g) w w' ∧ ∀ f q, classF s p = .ok f q → F = f := by
  have HM := Lib.hid hm
  have HLT := Lib.hid h.lt
  have HR0 := Lib.hid (AtG.new w 38 (setC 0 0 0 0))
  have HA0 := Lib.hid (h.alloc (.cells (setC 0 0 0 0) 38))
  have HO0 := Lib.hid ((Only.refl (S := fun k => k = g) w).al (.cells (setC 0 0 0 0) 38))
  have HG : Hid (w.heap.size ≠ g) := Lib.hid (by have := h.lt; omega)
  have HG2 : Hid (g ≠ w.heap.size) := Lib.hid (by have := h.lt; omega)
  have HPK0 := Lib.hid (peek_any g s p o x _ HA0.out)
  obtain ⟨R, hR⟩ : ∃ R, R = classF s p := ⟨_, rfl⟩
  rw [← hR]
  have hRX : R = clsE s true (itemF s (p + 1)) := by rw [hR]; unfold classF; rw [if_pos h94]
  have hp1 := ch_ge (s := s) (p := p) (by omega)
  obtain ⟨p0, hp0⟩ : ∃ p0, p0 = p + 1 := ⟨_, rfl⟩
  rw [← hp0] at hRX
  have HP : Hid (p0 ≤ s.size) := Lib.hid (by omega)
  have HRX := Lib.hid hRX
  have HP0 : Hid ((p0 : Int) = (p : Int) + 1) := Lib.hid (by omega)
  have hwp : IntKind.i64.wrap ((p : Int) + 1) = (p : Int) + 1 := by rw [IntKind.wrap_i64]; omega
  rw [h94] at HPK0
  have hpI : (p : Int) < 1001 := by omega
  clear hR hRX hp0 hp1 h94 h hp hm
  go_enter Tryz.func109, Tryz.ntmps109
  go_wp2_with fail
  refine (HPK0.out).mono ?_
  rintro e9 w1 ⟨rfl, hb⟩
  have HA1 := Lib.hid (HA0.out.below hb); have HR1 := Lib.hid (HR0.out.below hb); have HO1 := Lib.hid (HO0.out.tb hb)
  clear hb
  have z1 : w1.cell? ⟨g, 1, none⟩ = some (.int .i64 (p : Int)) := HA1.out.cell 1 _ rfl
  have y1 := HA1.out.frozen 1
  have HA := Lib.hid (show AtG (w1.setCell ⟨g, 1, none⟩ (.int .i64 ((p : Int) + 1))) g 114 (rdr s (p0 : Int) o 0 x) from by rw [HP0.out]; exact HA1.out.set 1 _)
  have HR := Lib.hid (HR1.out.far (p := ⟨g, 1, none⟩) HG.out (.int .i64 ((p : Int) + 1)))
  have HO := Lib.hid (HO1.out.st g 1 (.int .i64 ((p : Int) + 1)) (.inl rfl))
  clear HA1 HR1 HO1
  go_wp2_with fail
  refine (item_any g s p0 o x _ HA.out HP.out HM.out).mono ?_
  rintro e9 w2 ⟨F0, rfl, hS, hO2, hq⟩
  have HR2 := Lib.hid (HR.out.only hO2 HG.out)
  have HO2 := Lib.hid (HO.out.tr hO2)
  have HS := Lib.hid hS; have HF0 := Lib.hid hq
  clear hS hO2 hq HR HO HA
  have HGS : Hid (w.heap.size ≠ w2.heap.size ∧ w2.heap.size ≠ g ∧ w.heap.size ≤ w2.heap.size ∧ g ≠ w2.heap.size) := Lib.hid (by
    have h1 := HR2.out.lt
    have h2 := HO2.out.size
    have h3 := HLT.out
    omega)
  unfold setOf
  go_wp2_with fail
  go_loopw [] (fun wr => ∃ F : Nat → Bool, AtG wr w2.heap.size 38 (cellsOf F) ∧ AtG wr w.heap.size 38 (setC 0 0 0 0) ∧ Only (fun k => k = g) w wr ∧ ((∃ q k : Nat, AtG wr g 114 (rdr s (q : Int) o 0 x) ∧ q ≤ s.size ∧ s.size - q < k ∧ R = (clsF s k F q).map (negF true)) ∨ (∃ (cc : Int) (yy : Nat) (pb : Int), cc ≠ 0 ∧ AtG wr g 114 (rdr s pb o cc (yy : Int)) ∧ R = .no cc yy))) (fun wr => leftR s g wr)
  case atStart =>
    refine ⟨F0, AtG.new w2 _ _, HR2.out.alloc _, HO2.out.al _, ?_⟩
    cases hif : itemF s p0 with
    | ok f q =>
      have hS := HS.out; have hq := HF0.out
      rw [hif] at hS
      obtain rfl := hq f q hif
      have hin := itemF_in s p0 HP.out
      rw [hif] at hin
      exact .inl ⟨q, s.size + 1, AtG.alloc hS _, hin.2, by omega, by rw [HRX.out, hif]; rfl⟩
    | no cc yy =>
      have hS := HS.out
      rw [hif] at hS
      obtain ⟨pb, hS⟩ := hS
      have hin := itemF_in s p0 HP.out
      rw [hif] at hin
      exact .inr ⟨cc, yy, pb, by have := hin.1; omega, AtG.alloc hS _, by rw [HRX.out, hif]; rfl⟩
  case round =>
    obtain ⟨F, hs9, hr9, ho9, ⟨q, k, ha9, hq9, hk9, hx9⟩ | ⟨cc, yy, pb, hcc, ha9, hx9⟩⟩ := hrel
    · have HS9 := Lib.hid hs9; have HR9 := Lib.hid hr9; have HO9 := Lib.hid ho9; have HA9 := Lib.hid ha9
      have HQ := Lib.hid hq9; have HK := Lib.hid hk9; have HX9 := Lib.hid hx9
      clear hs9 hr9 ho9 hq9 hk9 hx9
      have z3 : wr.cell? ⟨g, 3, none⟩ = some (.int .i64 0) := HA9.out.cell 3 _ rfl
      have HPK := Lib.hid (peek_any g s q o x _ HA9.out)
      obtain ⟨k', rfl⟩ : ∃ k', k = k' + 1 := ⟨k - 1, by have := HK.out; omega⟩
      have hcf : clsF s (k' + 1) F q = if ch s q = 93 then .ok F (q + 1) else match itemF s q with | .ok g q => clsF s k' (fun y => F y || g y) q | .no c x => .no c x := rfl
      clear ha9
      by_cases h93 : ch s q = 93
      · rw [if_pos h93] at hcf
        have HX : Hid (R = .ok (negF true F) (q + 1)) := Lib.hid (by rw [HX9.out, hcf]; rfl)
        have hN := fun w h => next_ch g s q o x w h (by omega) (by have := HM.out; omega)
        rw [h93] at HPK hN
        have HN := Lib.hid hN
        clear hcf hN h93
        go_wp2_with fail
        refine (HPK.out).mono ?_
        rintro e9 w3 ⟨rfl, hb⟩
        have HA3 := Lib.hid (HA9.out.below hb); have HR3 := Lib.hid (HR9.out.below hb); have HO3 := Lib.hid (HO9.out.tb hb); have HS3 := Lib.hid (HS9.out.below hb)
        clear hb z3
        go_wp2_with fail
        refine (HN.out _ HA3.out).mono ?_
        rintro e9 wq ⟨rfl, hA, hO⟩
        have HAq := Lib.hid hA; have HRq := Lib.hid (HR3.out.only hO HG.out); have HOq := Lib.hid (HO3.out.tr hO); have HSq := Lib.hid (HS3.out.only hO HGS.out.2.1)
        clear hA hO
        have d0 := (HRq.out).cell 0 _ rfl; have d1 := (HRq.out).cell 1 _ rfl; have d2 := (HRq.out).cell 2 _ rfl; have d3 := (HRq.out).cell 3 _ rfl
        have f0 := (HRq.out).frozen 0; have f1 := (HRq.out).frozen 1; have f2 := (HRq.out).frozen 2; have f3 := (HRq.out).frozen 3
        have e0 : wq.cell? ⟨w2.heap.size, 0, none⟩ = some (.int .u64 ((wd F 0 : Nat) : Int)) := HSq.out.cell 0 _ rfl
        have e1 : wq.cell? ⟨w2.heap.size, 1, none⟩ = some (.int .u64 ((wd F 1 : Nat) : Int)) := HSq.out.cell 1 _ rfl
        have e2 : wq.cell? ⟨w2.heap.size, 2, none⟩ = some (.int .u64 ((wd F 2 : Nat) : Int)) := HSq.out.cell 2 _ rfl
        have e3 : wq.cell? ⟨w2.heap.size, 3, none⟩ = some (.int .u64 ((wd F 3 : Nat) : Int)) := HSq.out.cell 3 _ rfl
        go_wp2_with fail
        refine (refNot_any F _).mono ?_
        rintro e9 wn ⟨rfl, hb⟩
        have HAn := Lib.hid (HAq.out.below hb); have HRn := Lib.hid (HRq.out.below hb); have HOn := Lib.hid (HOq.out.tb hb)
        clear hb d0 d1 d2 d3 f0 f1 f2 f3 e0 e1 e2 e3
        have d0 := (HRn.out).cell 0 _ rfl; have d1 := (HRn.out).cell 1 _ rfl; have d2 := (HRn.out).cell 2 _ rfl; have d3 := (HRn.out).cell 3 _ rfl
        have f0 := (HRn.out).frozen 0; have f1 := (HRn.out).frozen 1; have f2 := (HRn.out).frozen 2; have f3 := (HRn.out).frozen 3
        unfold setOf
        go_wp2_with fail
        refine bodyPost_ret (v := setOf (fun x => !F x)) (by simp [results, Tryz.results109, go_sem, d0, d1, d2, d3]; try rfl) rfl ⟨_, rfl, ?_, ?_, ?_⟩
        · rw [HX.out]; exact putS_far HAn.out HG2.out _
        · exact HOn.out.pS _ _ (.inr (Nat.le_refl _))
        · intro a b h; rw [HX.out] at h; injection h
      · rw [if_neg h93] at hcf
        have e93 : (ch s q == 93) = false := by rw [beq_eq_false_iff_ne]; exact h93
        have HCF := Lib.hid hcf
        generalize ch s q = c at *
        clear hcf
        go_wp2_with fail
        refine (HPK.out).mono ?_
        rintro e9 wx9 ⟨rfl, hb⟩
        have HA9' := Lib.hid (HA9.out.below hb); have HR9' := Lib.hid (HR9.out.below hb); have HO9' := Lib.hid (HO9.out.tb hb); have HS9' := Lib.hid (HS9.out.below hb)
        have HLE := Lib.hid (leftR_ok HA9.out)
        clear hb z3 HA9 HR9 HO9 HS9
        have HA9 := HA9'; have HR9 := HR9'; have HO9 := HO9'; have HS9 := HS9'
        clear HA9' HR9' HO9' HS9'
        go_upto_region 6 with (fail)
        have hin := itemF_in s q HQ.out
        cases hif : itemF s q with
        | ok G r =>
          rw [hif] at hin
          have HIF := Lib.hid hif; have HIN := Lib.hid hin
          clear hif hin h93 e93
          refine RgX.start (by kernel_rfl) [(2, fun w5 w6 => Only (fun k => k = g) w5 w6), (4, fun w5 w6 => ∃ f, w6 = putS w5 w2.heap.size f)] [⟨fun w5 => AtG w5 w.heap.size 38 (setC 0 0 0 0) ∧ Only (fun k => k = g) w w5, none⟩, ⟨fun w5 => AtG w5 g 114 (rdr s (q : Int) o 0 x), some 2⟩, ⟨fun w5 => AtG w5 w2.heap.size 38 (cellsOf F), some 4⟩] ⟨⟨fun _ _ h hb => ⟨h.1.below hb, h.2.tb hb⟩, ⟨fun _ _ _ _ => (fun w5 w6 h he => ⟨h.1.only he HG.out, h.2.tr he⟩), fun _ _ _ _ => (fun w5 w6 h he => by obtain ⟨f, rfl⟩ := he; exact ⟨putS_far h.1 HGS.out.1 _, h.2.pS _ _ (.inr HGS.out.2.2.1)⟩), trivial⟩⟩, ⟨fun _ _ h hb => h.below hb, ⟨fun _ h _ _ => absurd rfl h, fun _ _ h _ => absurd ⟨2, 1, rfl, rfl⟩ h, trivial⟩⟩, ⟨fun _ _ h hb => h.below hb, ⟨fun _ _ _ _ => (fun w5 w6 h he => h.only he HGS.out.2.1), fun _ h _ _ => absurd rfl h, trivial⟩⟩, trivial⟩ (by kernel_rfl) (by kernel_rfl) ⟨⟨HR9.out.drew, HO9.out.drew⟩, HA9.out.drew, HS9.out.drew, trivial⟩ ?_
          show RgX.Build _ _ _ _ _ _ 0 [_, _, _, _, _] []
          refine RgX.build_cons (m := 1) (r := RgX.eq _) (RgX.one_plain (by rfl) (by (intro ax wx hk Kx hK; have k4 := hk.base 4 _ rfl rfl; have hL := hk.fact 0 0 _ rfl rfl; (try dsimp only at hL); have hs := hk.fact 2 1 _ rfl rfl; (try dsimp only at hs); clear hk; have z0 : wx.cell? ⟨w2.heap.size, 0, none⟩ = some (.int .u64 ((wd F 0 : Nat) : Int)) := hs.cell 0 _ rfl; have z1 : wx.cell? ⟨w2.heap.size, 1, none⟩ = some (.int .u64 ((wd F 1 : Nat) : Int)) := hs.cell 1 _ rfl; have z2 : wx.cell? ⟨w2.heap.size, 2, none⟩ = some (.int .u64 ((wd F 2 : Nat) : Int)) := hs.cell 2 _ rfl; have z3 : wx.cell? ⟨w2.heap.size, 3, none⟩ = some (.int .u64 ((wd F 3 : Nat) : Int)) := hs.cell 3 _ rfl; go_simp; refine hK _ _ (fun h => by cases h) (fun _ _ => ?_) (Below.refl _ _); apply RgX.mk))) ?_ rfl RgX.keep_eq (fun _ h => by cases h)
          refine RgX.build_cons (m := 2) (r := RgX.eq _) (RgX.one_plain (by rfl) (by (intro ax wx hk Kx hK; have k0 := hk.base 0 _ rfl rfl; have hL := hk.fact 0 0 _ rfl rfl; (try dsimp only at hL); have hg := hk.fact 1 1 _ rfl rfl; (try dsimp only at hg); have hs := hk.fact 2 1 _ rfl rfl; (try dsimp only at hs); clear hk; go_simp; refine hK _ _ (fun h => by cases h) (fun _ _ => ?_) (Below.refl _ _); apply RgX.mk))) ?_ rfl RgX.keep_eq (fun _ h => by cases h)
          refine RgX.build_cons (m := 3) (r := (⟨fun v _ w5 => v = setOf G ∧ StR s g o x (.ok G r) w5, none, none⟩ : RgX.Rl)) (RgX.one_plain (by rfl) (by (intro ax wx hk Kx hK; obtain ⟨v29, k29, h29⟩ := hk.dep 0 1 29 _ rfl rfl rfl; (first | (replace h29 := h29 9 undef rfl rfl; first | (cases (h29 : v29 = _)) | (obtain ⟨rfl, h29⟩ := h29) | skip) | skip); have hL := hk.fact 0 0 _ rfl rfl; (try dsimp only at hL); have hg := hk.fact 1 0 _ rfl rfl; (try dsimp only at hg); have hs := hk.fact 2 1 _ rfl rfl; (try dsimp only at hs); clear hk; go_simp; refine (item_any g s q o x _ hg HQ.out HM.out).mono ?_; rintro e w' ⟨G', rfl, hS5, hO5, hq5⟩; (rw [HIF.out] at hS5 hq5; obtain rfl := hq5 G r rfl; exact hK _ _ (fun h => by cases h) (fun _ _ => ⟨rfl, hS5⟩) hO5)))) ?_ rfl (RgX.keep_r (fun _ _ _ _ h hb => ⟨h.1, StR.below h.2 hb⟩) (fun _ _ => ⟨fun h _ _ _ => absurd rfl h, fun _ _ _ _ => (fun w5 w6 h he => by obtain ⟨f, rfl⟩ := he; exact ⟨h.1, StR.far h.2 HGS.out.2.2.2 _⟩), trivial⟩)) (fun _ h => by cases h)
          refine RgX.build_cons (m := 4) (r := RgX.eq _) (RgX.one_plain (by rfl) (by (intro ax wx hk Kx hK; obtain ⟨v28, k28, h28⟩ := hk.dep 0 0 28 _ rfl rfl rfl; (first | (replace h28 := h28 9 undef rfl rfl; first | (cases (h28 : v28 = _)) | (obtain ⟨rfl, h28⟩ := h28) | skip) | skip); obtain ⟨v30, k30, h30⟩ := hk.dep 0 2 30 _ rfl rfl rfl; (first | (replace h30 := h30 9 undef rfl rfl; first | (cases (h30 : v30 = _)) | (obtain ⟨rfl, h30⟩ := h30) | skip) | skip); have hL := hk.fact 0 0 _ rfl rfl; (try dsimp only at hL); have hs := hk.fact 2 1 _ rfl rfl; (try dsimp only at hs); clear hk; go_simp; refine (refOr_any F G _).mono ?_; rintro e w' ⟨rfl, hb⟩; refine hK _ _ (fun h => by cases h) (fun _ _ => ?_) hb; apply RgX.mk))) ?_ rfl RgX.keep_eq (fun _ h => by cases h)
          refine RgX.build_cons (m := 5) (r := (⟨fun _ _ w5 => AtG w5 w2.heap.size 38 (cellsOf fun x => F x || G x), none, none⟩ : RgX.Rl)) (RgX.one_plain (by rfl) (by (intro ax wx hk Kx hK; have k4 := hk.base 4 _ rfl rfl; obtain ⟨v31, k31, h31⟩ := hk.dep 0 3 31 _ rfl rfl rfl; (first | (replace h31 := h31 9 undef rfl rfl; first | (cases (h31 : v31 = _)) | (obtain ⟨rfl, h31⟩ := h31) | skip) | skip); have hL := hk.fact 0 0 _ rfl rfl; (try dsimp only at hL); have hs := hk.fact 2 0 _ rfl rfl; (try dsimp only at hs); clear hk; (have d0 : wx.cell? ⟨w2.heap.size, 0, none⟩ = some (.int .u64 ((wd F 0 : Nat) : Int)) := hs.cell 0 _ rfl; have d1 : wx.cell? ⟨w2.heap.size, 1, none⟩ = some (.int .u64 ((wd F 1 : Nat) : Int)) := hs.cell 1 _ rfl; have d2 : wx.cell? ⟨w2.heap.size, 2, none⟩ = some (.int .u64 ((wd F 2 : Nat) : Int)) := hs.cell 2 _ rfl; have d3 : wx.cell? ⟨w2.heap.size, 3, none⟩ = some (.int .u64 ((wd F 3 : Nat) : Int)) := hs.cell 3 _ rfl; have f0 := hs.frozen 0; have f1 := hs.frozen 1; have f2 := hs.frozen 2; have f3 := hs.frozen 3; unfold setOf at k31; go_simp; exact hK undef _ (fun _ => rfl) (fun u hu => putS_at hs _) ⟨_, rfl⟩)))) ?_ rfl (RgX.keep_r (fun _ _ _ _ h hb => h.below hb) (fun _ _ => ⟨fun _ _ _ h => absurd ⟨1, rfl⟩ h, fun h _ _ _ => absurd rfl h, trivial⟩)) (fun _ h => by cases h)
          refine RgX.build_end fun wx hj => ?_
          have hL := hj 0 _ rfl rfl
          clear hj
          refine RgX.fin_eq rfl ?_
          refine RgX.fin_eq rfl ?_
          first | refine RgX.fin_eq rfl ?_ | refine RgX.fin_any rfl fun v30 h30 => ?_
          refine RgX.fin_eq rfl ?_
          refine RgX.fin_none rfl fun s4 => ?_
          refine RgX.fin_nil ?_
          simp only [List.set_cons_zero, List.set_cons_succ]
          have hS5 := (h30 rfl undef rfl).2
          have hs5 := s4 rfl undef rfl
          clear h30 s4
          have HL := Lib.hid hL; have H5 := Lib.hid hS5; have H6 := Lib.hid hs5
          clear hL hS5 hs5
          go_wp2_with fail
          refine ⟨⟨_, H6.out, HL.out.1, HL.out.2, .inl ⟨r, k', H5.out, HIN.out.2, by have := HIN.out.1; have := HIN.out.2; have := HK.out; omega, by rw [HX9.out, HCF.out, HIF.out]⟩⟩, ?_⟩
          rw [leftR_ok H5.out, HLE.out]
          have := HIN.out.1; have := HIN.out.2; omega
        | no cc yy =>
          rw [hif] at hin
          have HIF := Lib.hid hif; have HIN := Lib.hid hin
          clear hif hin h93 e93
          refine RgX.start (by kernel_rfl) [(2, fun w5 w6 => Only (fun k => k = g) w5 w6), (4, fun w5 w6 => ∃ f, w6 = putS w5 w2.heap.size f)] [⟨fun w5 => AtG w5 w.heap.size 38 (setC 0 0 0 0) ∧ Only (fun k => k = g) w w5, none⟩, ⟨fun w5 => AtG w5 g 114 (rdr s (q : Int) o 0 x), some 2⟩, ⟨fun w5 => AtG w5 w2.heap.size 38 (cellsOf F), some 4⟩] ⟨⟨fun _ _ h hb => ⟨h.1.below hb, h.2.tb hb⟩, ⟨fun _ _ _ _ => (fun w5 w6 h he => ⟨h.1.only he HG.out, h.2.tr he⟩), fun _ _ _ _ => (fun w5 w6 h he => by obtain ⟨f, rfl⟩ := he; exact ⟨putS_far h.1 HGS.out.1 _, h.2.pS _ _ (.inr HGS.out.2.2.1)⟩), trivial⟩⟩, ⟨fun _ _ h hb => h.below hb, ⟨fun _ h _ _ => absurd rfl h, fun _ _ h _ => absurd ⟨2, 1, rfl, rfl⟩ h, trivial⟩⟩, ⟨fun _ _ h hb => h.below hb, ⟨fun _ _ _ _ => (fun w5 w6 h he => h.only he HGS.out.2.1), fun _ h _ _ => absurd rfl h, trivial⟩⟩, trivial⟩ (by kernel_rfl) (by kernel_rfl) ⟨⟨HR9.out.drew, HO9.out.drew⟩, HA9.out.drew, HS9.out.drew, trivial⟩ ?_
          show RgX.Build _ _ _ _ _ _ 0 [_, _, _, _, _] []
          refine RgX.build_cons (m := 1) (r := RgX.eq _) (RgX.one_plain (by rfl) (by (intro ax wx hk Kx hK; have k4 := hk.base 4 _ rfl rfl; have hL := hk.fact 0 0 _ rfl rfl; (try dsimp only at hL); have hs := hk.fact 2 1 _ rfl rfl; (try dsimp only at hs); clear hk; have z0 : wx.cell? ⟨w2.heap.size, 0, none⟩ = some (.int .u64 ((wd F 0 : Nat) : Int)) := hs.cell 0 _ rfl; have z1 : wx.cell? ⟨w2.heap.size, 1, none⟩ = some (.int .u64 ((wd F 1 : Nat) : Int)) := hs.cell 1 _ rfl; have z2 : wx.cell? ⟨w2.heap.size, 2, none⟩ = some (.int .u64 ((wd F 2 : Nat) : Int)) := hs.cell 2 _ rfl; have z3 : wx.cell? ⟨w2.heap.size, 3, none⟩ = some (.int .u64 ((wd F 3 : Nat) : Int)) := hs.cell 3 _ rfl; go_simp; refine hK _ _ (fun h => by cases h) (fun _ _ => ?_) (Below.refl _ _); apply RgX.mk))) ?_ rfl RgX.keep_eq (fun _ h => by cases h)
          refine RgX.build_cons (m := 2) (r := RgX.eq _) (RgX.one_plain (by rfl) (by (intro ax wx hk Kx hK; have k0 := hk.base 0 _ rfl rfl; have hL := hk.fact 0 0 _ rfl rfl; (try dsimp only at hL); have hg := hk.fact 1 1 _ rfl rfl; (try dsimp only at hg); have hs := hk.fact 2 1 _ rfl rfl; (try dsimp only at hs); clear hk; go_simp; refine hK _ _ (fun h => by cases h) (fun _ _ => ?_) (Below.refl _ _); apply RgX.mk))) ?_ rfl RgX.keep_eq (fun _ h => by cases h)
          refine RgX.build_cons (m := 3) (r := (⟨fun v _ w5 => (∃ G', v = setOf G') ∧ StR s g o x (.no cc yy : Re Nat) w5, none, none⟩ : RgX.Rl)) (RgX.one_plain (by rfl) (by (intro ax wx hk Kx hK; obtain ⟨v29, k29, h29⟩ := hk.dep 0 1 29 _ rfl rfl rfl; (first | (replace h29 := h29 9 undef rfl rfl; first | (cases (h29 : v29 = _)) | (obtain ⟨rfl, h29⟩ := h29) | skip) | skip); have hL := hk.fact 0 0 _ rfl rfl; (try dsimp only at hL); have hg := hk.fact 1 0 _ rfl rfl; (try dsimp only at hg); have hs := hk.fact 2 1 _ rfl rfl; (try dsimp only at hs); clear hk; go_simp; refine (item_any g s q o x _ hg HQ.out HM.out).mono ?_; rintro e w' ⟨G', rfl, hS5, hO5, hq5⟩; (rw [HIF.out] at hS5; exact hK _ _ (fun h => by cases h) (fun _ _ => ⟨⟨G', rfl⟩, hS5⟩) hO5)))) ?_ rfl (RgX.keep_r (fun _ _ _ _ h hb => ⟨h.1, StR.below h.2 hb⟩) (fun _ _ => ⟨fun h _ _ _ => absurd rfl h, fun _ _ _ _ => (fun w5 w6 h he => by obtain ⟨f, rfl⟩ := he; exact ⟨h.1, StR.far h.2 HGS.out.2.2.2 _⟩), trivial⟩)) (fun _ h => by cases h)
          refine RgX.build_cons (m := 4) (r := (⟨fun v _ _ => ∃ G', v = setOf G', none, none⟩ : RgX.Rl)) (RgX.one_plain (by rfl) (by (intro ax wx hk Kx hK; obtain ⟨v28, k28, h28⟩ := hk.dep 0 0 28 _ rfl rfl rfl; (first | (replace h28 := h28 9 undef rfl rfl; first | (cases (h28 : v28 = _)) | (obtain ⟨rfl, h28⟩ := h28) | skip) | skip); obtain ⟨v30, k30, h30⟩ := hk.dep 0 2 30 _ rfl rfl rfl; (first | (replace h30 := h30 9 undef rfl rfl; first | (cases (h30 : v30 = _)) | (obtain ⟨rfl, h30⟩ := h30) | skip) | skip); have hL := hk.fact 0 0 _ rfl rfl; (try dsimp only at hL); have hs := hk.fact 2 1 _ rfl rfl; (try dsimp only at hs); clear hk; obtain ⟨⟨G', rfl⟩, hS6⟩ := h30; go_simp; refine (refOr_any F G' _).mono ?_; rintro e w' ⟨rfl, hb⟩; exact hK _ _ (fun h => by cases h) (fun _ _ => ⟨_, rfl⟩) hb))) ?_ rfl (RgX.keep_r (fun _ _ _ _ h hb => h) (fun _ _ => ⟨fun _ _ _ h => absurd ⟨1, rfl⟩ h, fun _ _ _ _ => (fun w5 w6 h he => h), trivial⟩)) (fun _ h => by cases h)
          refine RgX.build_cons (m := 5) (r := (⟨fun _ _ w5 => ∃ G', AtG w5 w2.heap.size 38 (cellsOf G'), none, none⟩ : RgX.Rl)) (RgX.one_plain (by rfl) (by (intro ax wx hk Kx hK; have k4 := hk.base 4 _ rfl rfl; obtain ⟨v31, k31, h31⟩ := hk.dep 0 3 31 _ rfl rfl rfl; (first | (replace h31 := h31 9 undef rfl rfl; first | (cases (h31 : v31 = _)) | (obtain ⟨rfl, h31⟩ := h31) | skip) | skip); have hL := hk.fact 0 0 _ rfl rfl; (try dsimp only at hL); have hs := hk.fact 2 0 _ rfl rfl; (try dsimp only at hs); clear hk; obtain ⟨G', rfl⟩ := h31; (have d0 : wx.cell? ⟨w2.heap.size, 0, none⟩ = some (.int .u64 ((wd F 0 : Nat) : Int)) := hs.cell 0 _ rfl; have d1 : wx.cell? ⟨w2.heap.size, 1, none⟩ = some (.int .u64 ((wd F 1 : Nat) : Int)) := hs.cell 1 _ rfl; have d2 : wx.cell? ⟨w2.heap.size, 2, none⟩ = some (.int .u64 ((wd F 2 : Nat) : Int)) := hs.cell 2 _ rfl; have d3 : wx.cell? ⟨w2.heap.size, 3, none⟩ = some (.int .u64 ((wd F 3 : Nat) : Int)) := hs.cell 3 _ rfl; have f0 := hs.frozen 0; have f1 := hs.frozen 1; have f2 := hs.frozen 2; have f3 := hs.frozen 3; unfold setOf at k31; go_simp; exact hK undef _ (fun _ => rfl) (fun u hu => ⟨_, putS_at hs _⟩) ⟨_, rfl⟩)))) ?_ rfl (RgX.keep_r (fun _ _ _ _ h hb => by obtain ⟨G', h⟩ := h; exact ⟨G', h.below hb⟩) (fun _ _ => ⟨fun _ _ _ h => absurd ⟨1, rfl⟩ h, fun h _ _ _ => absurd rfl h, trivial⟩)) (fun _ h => by cases h)
          refine RgX.build_end fun wx hj => ?_
          have hL := hj 0 _ rfl rfl
          clear hj
          refine RgX.fin_eq rfl ?_
          refine RgX.fin_eq rfl ?_
          first | refine RgX.fin_eq rfl ?_ | refine RgX.fin_any rfl fun v30 h30 => ?_
          first | refine RgX.fin_eq rfl ?_ | refine RgX.fin_any rfl fun v31 h31 => ?_
          refine RgX.fin_none rfl fun s4 => ?_
          refine RgX.fin_nil ?_
          simp only [List.set_cons_zero, List.set_cons_succ]
          have hS5 := (h30 rfl undef rfl).2
          have hs5 := s4 rfl undef rfl
          clear h30 s4 h31
          obtain ⟨pb, hS5⟩ := hS5
          obtain ⟨G', hs5⟩ := hs5
          have HL := Lib.hid hL; have H5 := Lib.hid hS5; have H6 := Lib.hid hs5
          have hcc : cc ≠ 0 := by have := HIN.out.1; omega
          have HCC := Lib.hid hcc
          clear hL hS5 hs5 hcc
          go_wp2_with fail
          refine ⟨⟨G', H6.out, HL.out.1, HL.out.2, .inr ⟨cc, yy, pb, HCC.out, H5.out, by rw [HX9.out, HCF.out, HIF.out]; rfl⟩⟩, ?_⟩
          rw [leftR_no H5.out HCC.out, HLE.out]
          have := HQ.out; omega
    · have HS9 := Lib.hid hs9; have HR9 := Lib.hid hr9; have HO9 := Lib.hid ho9; have HA9 := Lib.hid ha9; have HX := Lib.hid hx9; have HCC := Lib.hid hcc
      have e0 : (cc == 0) = false := by rw [beq_eq_false_iff_ne]; exact hcc
      clear hs9 hr9 ho9 ha9 hx9 hcc
      have z3 : wr.cell? ⟨g, 3, none⟩ = some (.int .i64 cc) := HA9.out.cell 3 _ rfl
      go_wp2_with fail
      refine (next_bad g s pb o cc _ _ HA9.out HCC.out).mono ?_
      rintro e9 wq ⟨rfl, hb⟩
      have HAq := Lib.hid (HA9.out.below hb); have HRq := Lib.hid (HR9.out.below hb); have HOq := Lib.hid (HO9.out.tb hb); have HSq := Lib.hid (HS9.out.below hb)
      clear hb z3 e0
      have d0 := (HRq.out).cell 0 _ rfl; have d1 := (HRq.out).cell 1 _ rfl; have d2 := (HRq.out).cell 2 _ rfl; have d3 := (HRq.out).cell 3 _ rfl
      have f0 := (HRq.out).frozen 0; have f1 := (HRq.out).frozen 1; have f2 := (HRq.out).frozen 2; have f3 := (HRq.out).frozen 3
      have e0 : wq.cell? ⟨w2.heap.size, 0, none⟩ = some (.int .u64 ((wd F 0 : Nat) : Int)) := HSq.out.cell 0 _ rfl
      have e1 : wq.cell? ⟨w2.heap.size, 1, none⟩ = some (.int .u64 ((wd F 1 : Nat) : Int)) := HSq.out.cell 1 _ rfl
      have e2 : wq.cell? ⟨w2.heap.size, 2, none⟩ = some (.int .u64 ((wd F 2 : Nat) : Int)) := HSq.out.cell 2 _ rfl
      have e3 : wq.cell? ⟨w2.heap.size, 3, none⟩ = some (.int .u64 ((wd F 3 : Nat) : Int)) := HSq.out.cell 3 _ rfl
      go_wp2_with fail
      refine (refNot_any F _).mono ?_
      rintro e9 wn ⟨rfl, hb⟩
      have HAn := Lib.hid (HAq.out.below hb); have HRn := Lib.hid (HRq.out.below hb); have HOn := Lib.hid (HOq.out.tb hb)
      clear hb d0 d1 d2 d3 f0 f1 f2 f3 e0 e1 e2 e3
      have d0 := (HRn.out).cell 0 _ rfl; have d1 := (HRn.out).cell 1 _ rfl; have d2 := (HRn.out).cell 2 _ rfl; have d3 := (HRn.out).cell 3 _ rfl
      have f0 := (HRn.out).frozen 0; have f1 := (HRn.out).frozen 1; have f2 := (HRn.out).frozen 2; have f3 := (HRn.out).frozen 3
      unfold setOf
      go_wp2_with fail
      refine bodyPost_ret (v := setOf (fun x => !F x)) (by simp [results, Tryz.results109, go_sem, d0, d1, d2, d3]; try rfl) rfl ⟨_, rfl, ?_, ?_, ?_⟩
      · rw [HX.out]; exact ⟨pb, putS_far HAn.out HG2.out _⟩
      · exact HOn.out.pS _ _ (.inr (Nat.le_refl _))
      · intro a b h; rw [HX.out] at h; cases h
set_option maxRecDepth 100000 in
set_option maxHeartbeats 1600000 in
theorem class_pos (g : Nat) (s : ByteArray) (p : Nat) (o x : Int) (w : World) (h : AtG w g 114 (rdr s p o 0 x)) (hp : p ≤ s.size) (hm : s.size ≤ 1000) (h94 : ch s p ≠ 94) :
    Calls Tryz.prog 109 #[.pointer (some ⟨g, 0, none⟩)] w fun e w' => ∃ F : Nat → Bool, e = .returned (setOf F) ∧ StR s g o x (classF s p) w' ∧ Only (fun k => k = g) w w' ∧ ∀ f q, classF s p = .ok f q → F = f := by
  have HM := Lib.hid hm
  have HLT := Lib.hid h.lt
  have HR0 := Lib.hid (AtG.new w 38 (setC 0 0 0 0))
  have HA0 := Lib.hid (h.alloc (.cells (setC 0 0 0 0) 38))
  have HO0 := Lib.hid ((Only.refl (S := fun k => k = g) w).al (.cells (setC 0 0 0 0) 38))
  have HG : Hid (w.heap.size ≠ g) := Lib.hid (by have := h.lt; omega)
  have HG2 : Hid (g ≠ w.heap.size) := Lib.hid (by have := h.lt; omega)
  have HPK0 := Lib.hid (peek_any g s p o x _ HA0.out)
  obtain ⟨R, hR⟩ : ∃ R, R = classF s p := ⟨_, rfl⟩
  rw [← hR]
  have hRX : R = clsE s false (itemF s p) := by rw [hR]; unfold classF; rw [if_neg h94]
  obtain ⟨p0, hp0⟩ : ∃ p0, p0 = p := ⟨_, rfl⟩
  have hA1 := HA0.out
  rw [← hp0] at hRX hA1
  have HP : Hid (p0 ≤ s.size) := Lib.hid (by omega)
  have HRX := Lib.hid hRX
  have HA0 := Lib.hid hA1
  have e94 : (ch s p == 94) = false := by rw [beq_eq_false_iff_ne]; exact h94
  clear hR hRX h hp hm hA1 hp0
  generalize ch s p = c at *
  go_enter Tryz.func109, Tryz.ntmps109
  go_wp2_with fail
  refine (HPK0.out).mono ?_
  rintro e9 w1 ⟨rfl, hb⟩
  have HA := Lib.hid (HA0.out.below hb); have HR := Lib.hid (HR0.out.below hb); have HO := Lib.hid (HO0.out.tb hb)
  clear hb
  clear h94
  go_wp2_with fail
  refine (item_any g s p0 o x _ HA.out HP.out HM.out).mono ?_
  rintro e9 w2 ⟨F0, rfl, hS, hO2, hq⟩
  have HR2 := Lib.hid (HR.out.only hO2 HG.out)
  have HO2 := Lib.hid (HO.out.tr hO2)
  have HS := Lib.hid hS; have HF0 := Lib.hid hq
  clear hS hO2 hq HR HO HA
  have HGS : Hid (w.heap.size ≠ w2.heap.size ∧ w2.heap.size ≠ g ∧ w.heap.size ≤ w2.heap.size ∧ g ≠ w2.heap.size) := Lib.hid (by
    have h1 := HR2.out.lt
    have h2 := HO2.out.size
    have h3 := HLT.out
    omega)
  unfold setOf
  go_wp2_with fail
  go_loopw [] (fun wr => ∃ F : Nat → Bool, AtG wr w2.heap.size 38 (cellsOf F) ∧ AtG wr w.heap.size 38 (setC 0 0 0 0) ∧ Only (fun k => k = g) w wr ∧ ((∃ q k : Nat, AtG wr g 114 (rdr s (q : Int) o 0 x) ∧ q ≤ s.size ∧ s.size - q < k ∧ R = (clsF s k F q).map (negF false)) ∨ (∃ (cc : Int) (yy : Nat) (pb : Int), cc ≠ 0 ∧ AtG wr g 114 (rdr s pb o cc (yy : Int)) ∧ R = .no cc yy))) (fun wr => leftR s g wr)
  case atStart =>
    refine ⟨F0, AtG.new w2 _ _, HR2.out.alloc _, HO2.out.al _, ?_⟩
    cases hif : itemF s p0 with
    | ok f q =>
      have hS := HS.out; have hq := HF0.out
      rw [hif] at hS
      obtain rfl := hq f q hif
      have hin := itemF_in s p0 HP.out
      rw [hif] at hin
      exact .inl ⟨q, s.size + 1, AtG.alloc hS _, hin.2, by omega, by rw [HRX.out, hif]; rfl⟩
    | no cc yy =>
      have hS := HS.out
      rw [hif] at hS
      obtain ⟨pb, hS⟩ := hS
      have hin := itemF_in s p0 HP.out
      rw [hif] at hin
      exact .inr ⟨cc, yy, pb, by have := hin.1; omega, AtG.alloc hS _, by rw [HRX.out, hif]; rfl⟩
  case round =>
    obtain ⟨F, hs9, hr9, ho9, ⟨q, k, ha9, hq9, hk9, hx9⟩ | ⟨cc, yy, pb, hcc, ha9, hx9⟩⟩ := hrel
    · have HS9 := Lib.hid hs9; have HR9 := Lib.hid hr9; have HO9 := Lib.hid ho9; have HA9 := Lib.hid ha9
      have HQ := Lib.hid hq9; have HK := Lib.hid hk9; have HX9 := Lib.hid hx9
      clear hs9 hr9 ho9 hq9 hk9 hx9
      have z3 : wr.cell? ⟨g, 3, none⟩ = some (.int .i64 0) := HA9.out.cell 3 _ rfl
      have HPK := Lib.hid (peek_any g s q o x _ HA9.out)
      obtain ⟨k', rfl⟩ : ∃ k', k = k' + 1 := ⟨k - 1, by have := HK.out; omega⟩
      have hcf : clsF s (k' + 1) F q = if ch s q = 93 then .ok F (q + 1) else match itemF s q with | .ok g q => clsF s k' (fun y => F y || g y) q | .no c x => .no c x := rfl
      clear ha9
      by_cases h93 : ch s q = 93
      · rw [if_pos h93] at hcf
        have HX : Hid (R = .ok (negF false F) (q + 1)) := Lib.hid (by rw [HX9.out, hcf]; rfl)
        have hN := fun w h => next_ch g s q o x w h (by omega) (by have := HM.out; omega)
        rw [h93] at HPK hN
        have HN := Lib.hid hN
        clear hcf hN h93
        go_wp2_with fail
        refine (HPK.out).mono ?_
        rintro e9 w3 ⟨rfl, hb⟩
        have HA3 := Lib.hid (HA9.out.below hb); have HR3 := Lib.hid (HR9.out.below hb); have HO3 := Lib.hid (HO9.out.tb hb); have HS3 := Lib.hid (HS9.out.below hb)
        clear hb z3
        go_wp2_with fail
        refine (HN.out _ HA3.out).mono ?_
        rintro e9 wq ⟨rfl, hA, hO⟩
        have HAq := Lib.hid hA; have HRq := Lib.hid (HR3.out.only hO HG.out); have HOq := Lib.hid (HO3.out.tr hO); have HSq := Lib.hid (HS3.out.only hO HGS.out.2.1)
        clear hA hO
        have d0 := (HRq.out).cell 0 _ rfl; have d1 := (HRq.out).cell 1 _ rfl; have d2 := (HRq.out).cell 2 _ rfl; have d3 := (HRq.out).cell 3 _ rfl
        have f0 := (HRq.out).frozen 0; have f1 := (HRq.out).frozen 1; have f2 := (HRq.out).frozen 2; have f3 := (HRq.out).frozen 3
        have e0 : wq.cell? ⟨w2.heap.size, 0, none⟩ = some (.int .u64 ((wd F 0 : Nat) : Int)) := HSq.out.cell 0 _ rfl
        have e1 : wq.cell? ⟨w2.heap.size, 1, none⟩ = some (.int .u64 ((wd F 1 : Nat) : Int)) := HSq.out.cell 1 _ rfl
        have e2 : wq.cell? ⟨w2.heap.size, 2, none⟩ = some (.int .u64 ((wd F 2 : Nat) : Int)) := HSq.out.cell 2 _ rfl
        have e3 : wq.cell? ⟨w2.heap.size, 3, none⟩ = some (.int .u64 ((wd F 3 : Nat) : Int)) := HSq.out.cell 3 _ rfl
        go_wp2_with fail
        refine bodyPost_ret (v := setOf F) (by simp [results, Tryz.results109, go_sem, d0, d1, d2, d3]; try rfl) rfl ⟨_, rfl, ?_, ?_, ?_⟩
        · rw [HX.out]; exact putS_far HAq.out HG2.out _
        · exact HOq.out.pS _ _ (.inr (Nat.le_refl _))
        · intro a b h; rw [HX.out] at h; injection h
      · rw [if_neg h93] at hcf
        have e93 : (ch s q == 93) = false := by rw [beq_eq_false_iff_ne]; exact h93
        have HCF := Lib.hid hcf
        generalize ch s q = c at *
        clear hcf
        go_wp2_with fail
        refine (HPK.out).mono ?_
        rintro e9 wx9 ⟨rfl, hb⟩
        have HA9' := Lib.hid (HA9.out.below hb); have HR9' := Lib.hid (HR9.out.below hb); have HO9' := Lib.hid (HO9.out.tb hb); have HS9' := Lib.hid (HS9.out.below hb)
        have HLE := Lib.hid (leftR_ok HA9.out)
        clear hb z3 HA9 HR9 HO9 HS9
        have HA9 := HA9'; have HR9 := HR9'; have HO9 := HO9'; have HS9 := HS9'
        clear HA9' HR9' HO9' HS9'
        go_upto_region 6 with (fail)
        have hin := itemF_in s q HQ.out
        cases hif : itemF s q with
        | ok G r =>
          rw [hif] at hin
          have HIF := Lib.hid hif; have HIN := Lib.hid hin
          clear hif hin h93 e93
          refine RgX.start (by kernel_rfl) [(2, fun w5 w6 => Only (fun k => k = g) w5 w6), (4, fun w5 w6 => ∃ f, w6 = putS w5 w2.heap.size f)] [⟨fun w5 => AtG w5 w.heap.size 38 (setC 0 0 0 0) ∧ Only (fun k => k = g) w w5, none⟩, ⟨fun w5 => AtG w5 g 114 (rdr s (q : Int) o 0 x), some 2⟩, ⟨fun w5 => AtG w5 w2.heap.size 38 (cellsOf F), some 4⟩] ⟨⟨fun _ _ h hb => ⟨h.1.below hb, h.2.tb hb⟩, ⟨fun _ _ _ _ => (fun w5 w6 h he => ⟨h.1.only he HG.out, h.2.tr he⟩), fun _ _ _ _ => (fun w5 w6 h he => by obtain ⟨f, rfl⟩ := he; exact ⟨putS_far h.1 HGS.out.1 _, h.2.pS _ _ (.inr HGS.out.2.2.1)⟩), trivial⟩⟩, ⟨fun _ _ h hb => h.below hb, ⟨fun _ h _ _ => absurd rfl h, fun _ _ h _ => absurd ⟨2, 1, rfl, rfl⟩ h, trivial⟩⟩, ⟨fun _ _ h hb => h.below hb, ⟨fun _ _ _ _ => (fun w5 w6 h he => h.only he HGS.out.2.1), fun _ h _ _ => absurd rfl h, trivial⟩⟩, trivial⟩ (by kernel_rfl) (by kernel_rfl) ⟨⟨HR9.out.drew, HO9.out.drew⟩, HA9.out.drew, HS9.out.drew, trivial⟩ ?_
          show RgX.Build _ _ _ _ _ _ 0 [_, _, _, _, _] []
          refine RgX.build_cons (m := 1) (r := RgX.eq _) (RgX.one_plain (by rfl) (by (intro ax wx hk Kx hK; have k4 := hk.base 4 _ rfl rfl; have hL := hk.fact 0 0 _ rfl rfl; (try dsimp only at hL); have hs := hk.fact 2 1 _ rfl rfl; (try dsimp only at hs); clear hk; have z0 : wx.cell? ⟨w2.heap.size, 0, none⟩ = some (.int .u64 ((wd F 0 : Nat) : Int)) := hs.cell 0 _ rfl; have z1 : wx.cell? ⟨w2.heap.size, 1, none⟩ = some (.int .u64 ((wd F 1 : Nat) : Int)) := hs.cell 1 _ rfl; have z2 : wx.cell? ⟨w2.heap.size, 2, none⟩ = some (.int .u64 ((wd F 2 : Nat) : Int)) := hs.cell 2 _ rfl; have z3 : wx.cell? ⟨w2.heap.size, 3, none⟩ = some (.int .u64 ((wd F 3 : Nat) : Int)) := hs.cell 3 _ rfl; go_simp; refine hK _ _ (fun h => by cases h) (fun _ _ => ?_) (Below.refl _ _); apply RgX.mk))) ?_ rfl RgX.keep_eq (fun _ h => by cases h)
          refine RgX.build_cons (m := 2) (r := RgX.eq _) (RgX.one_plain (by rfl) (by (intro ax wx hk Kx hK; have k0 := hk.base 0 _ rfl rfl; have hL := hk.fact 0 0 _ rfl rfl; (try dsimp only at hL); have hg := hk.fact 1 1 _ rfl rfl; (try dsimp only at hg); have hs := hk.fact 2 1 _ rfl rfl; (try dsimp only at hs); clear hk; go_simp; refine hK _ _ (fun h => by cases h) (fun _ _ => ?_) (Below.refl _ _); apply RgX.mk))) ?_ rfl RgX.keep_eq (fun _ h => by cases h)
          refine RgX.build_cons (m := 3) (r := (⟨fun v _ w5 => v = setOf G ∧ StR s g o x (.ok G r) w5, none, none⟩ : RgX.Rl)) (RgX.one_plain (by rfl) (by (intro ax wx hk Kx hK; obtain ⟨v29, k29, h29⟩ := hk.dep 0 1 29 _ rfl rfl rfl; (first | (replace h29 := h29 9 undef rfl rfl; first | (cases (h29 : v29 = _)) | (obtain ⟨rfl, h29⟩ := h29) | skip) | skip); have hL := hk.fact 0 0 _ rfl rfl; (try dsimp only at hL); have hg := hk.fact 1 0 _ rfl rfl; (try dsimp only at hg); have hs := hk.fact 2 1 _ rfl rfl; (try dsimp only at hs); clear hk; go_simp; refine (item_any g s q o x _ hg HQ.out HM.out).mono ?_; rintro e w' ⟨G', rfl, hS5, hO5, hq5⟩; (rw [HIF.out] at hS5 hq5; obtain rfl := hq5 G r rfl; exact hK _ _ (fun h => by cases h) (fun _ _ => ⟨rfl, hS5⟩) hO5)))) ?_ rfl (RgX.keep_r (fun _ _ _ _ h hb => ⟨h.1, StR.below h.2 hb⟩) (fun _ _ => ⟨fun h _ _ _ => absurd rfl h, fun _ _ _ _ => (fun w5 w6 h he => by obtain ⟨f, rfl⟩ := he; exact ⟨h.1, StR.far h.2 HGS.out.2.2.2 _⟩), trivial⟩)) (fun _ h => by cases h)
          refine RgX.build_cons (m := 4) (r := RgX.eq _) (RgX.one_plain (by rfl) (by (intro ax wx hk Kx hK; obtain ⟨v28, k28, h28⟩ := hk.dep 0 0 28 _ rfl rfl rfl; (first | (replace h28 := h28 9 undef rfl rfl; first | (cases (h28 : v28 = _)) | (obtain ⟨rfl, h28⟩ := h28) | skip) | skip); obtain ⟨v30, k30, h30⟩ := hk.dep 0 2 30 _ rfl rfl rfl; (first | (replace h30 := h30 9 undef rfl rfl; first | (cases (h30 : v30 = _)) | (obtain ⟨rfl, h30⟩ := h30) | skip) | skip); have hL := hk.fact 0 0 _ rfl rfl; (try dsimp only at hL); have hs := hk.fact 2 1 _ rfl rfl; (try dsimp only at hs); clear hk; go_simp; refine (refOr_any F G _).mono ?_; rintro e w' ⟨rfl, hb⟩; refine hK _ _ (fun h => by cases h) (fun _ _ => ?_) hb; apply RgX.mk))) ?_ rfl RgX.keep_eq (fun _ h => by cases h)
          refine RgX.build_cons (m := 5) (r := (⟨fun _ _ w5 => AtG w5 w2.heap.size 38 (cellsOf fun x => F x || G x), none, none⟩ : RgX.Rl)) (RgX.one_plain (by rfl) (by (intro ax wx hk Kx hK; have k4 := hk.base 4 _ rfl rfl; obtain ⟨v31, k31, h31⟩ := hk.dep 0 3 31 _ rfl rfl rfl; (first | (replace h31 := h31 9 undef rfl rfl; first | (cases (h31 : v31 = _)) | (obtain ⟨rfl, h31⟩ := h31) | skip) | skip); have hL := hk.fact 0 0 _ rfl rfl; (try dsimp only at hL); have hs := hk.fact 2 0 _ rfl rfl; (try dsimp only at hs); clear hk; (have d0 : wx.cell? ⟨w2.heap.size, 0, none⟩ = some (.int .u64 ((wd F 0 : Nat) : Int)) := hs.cell 0 _ rfl; have d1 : wx.cell? ⟨w2.heap.size, 1, none⟩ = some (.int .u64 ((wd F 1 : Nat) : Int)) := hs.cell 1 _ rfl; have d2 : wx.cell? ⟨w2.heap.size, 2, none⟩ = some (.int .u64 ((wd F 2 : Nat) : Int)) := hs.cell 2 _ rfl; have d3 : wx.cell? ⟨w2.heap.size, 3, none⟩ = some (.int .u64 ((wd F 3 : Nat) : Int)) := hs.cell 3 _ rfl; have f0 := hs.frozen 0; have f1 := hs.frozen 1; have f2 := hs.frozen 2; have f3 := hs.frozen 3; unfold setOf at k31; go_simp; exact hK undef _ (fun _ => rfl) (fun u hu => putS_at hs _) ⟨_, rfl⟩)))) ?_ rfl (RgX.keep_r (fun _ _ _ _ h hb => h.below hb) (fun _ _ => ⟨fun _ _ _ h => absurd ⟨1, rfl⟩ h, fun h _ _ _ => absurd rfl h, trivial⟩)) (fun _ h => by cases h)
          refine RgX.build_end fun wx hj => ?_
          have hL := hj 0 _ rfl rfl
          clear hj
          refine RgX.fin_eq rfl ?_
          refine RgX.fin_eq rfl ?_
          first | refine RgX.fin_eq rfl ?_ | refine RgX.fin_any rfl fun v30 h30 => ?_
          refine RgX.fin_eq rfl ?_
          refine RgX.fin_none rfl fun s4 => ?_
          refine RgX.fin_nil ?_
          simp only [List.set_cons_zero, List.set_cons_succ]
          have hS5 := (h30 rfl undef rfl).2
          have hs5 := s4 rfl undef rfl
          clear h30 s4
          have HL := Lib.hid hL; have H5 := Lib.hid hS5; have H6 := Lib.hid hs5
          clear hL hS5 hs5
          go_wp2_with fail
          refine ⟨⟨_, H6.out, HL.out.1, HL.out.2, .inl ⟨r, k', H5.out, HIN.out.2, by have := HIN.out.1; have := HIN.out.2; have := HK.out; omega, by rw [HX9.out, HCF.out, HIF.out]⟩⟩, ?_⟩
          rw [leftR_ok H5.out, HLE.out]
          have := HIN.out.1; have := HIN.out.2; omega
        | no cc yy =>
          rw [hif] at hin
          have HIF := Lib.hid hif; have HIN := Lib.hid hin
          clear hif hin h93 e93
          refine RgX.start (by kernel_rfl) [(2, fun w5 w6 => Only (fun k => k = g) w5 w6), (4, fun w5 w6 => ∃ f, w6 = putS w5 w2.heap.size f)] [⟨fun w5 => AtG w5 w.heap.size 38 (setC 0 0 0 0) ∧ Only (fun k => k = g) w w5, none⟩, ⟨fun w5 => AtG w5 g 114 (rdr s (q : Int) o 0 x), some 2⟩, ⟨fun w5 => AtG w5 w2.heap.size 38 (cellsOf F), some 4⟩] ⟨⟨fun _ _ h hb => ⟨h.1.below hb, h.2.tb hb⟩, ⟨fun _ _ _ _ => (fun w5 w6 h he => ⟨h.1.only he HG.out, h.2.tr he⟩), fun _ _ _ _ => (fun w5 w6 h he => by obtain ⟨f, rfl⟩ := he; exact ⟨putS_far h.1 HGS.out.1 _, h.2.pS _ _ (.inr HGS.out.2.2.1)⟩), trivial⟩⟩, ⟨fun _ _ h hb => h.below hb, ⟨fun _ h _ _ => absurd rfl h, fun _ _ h _ => absurd ⟨2, 1, rfl, rfl⟩ h, trivial⟩⟩, ⟨fun _ _ h hb => h.below hb, ⟨fun _ _ _ _ => (fun w5 w6 h he => h.only he HGS.out.2.1), fun _ h _ _ => absurd rfl h, trivial⟩⟩, trivial⟩ (by kernel_rfl) (by kernel_rfl) ⟨⟨HR9.out.drew, HO9.out.drew⟩, HA9.out.drew, HS9.out.drew, trivial⟩ ?_
          show RgX.Build _ _ _ _ _ _ 0 [_, _, _, _, _] []
          refine RgX.build_cons (m := 1) (r := RgX.eq _) (RgX.one_plain (by rfl) (by (intro ax wx hk Kx hK; have k4 := hk.base 4 _ rfl rfl; have hL := hk.fact 0 0 _ rfl rfl; (try dsimp only at hL); have hs := hk.fact 2 1 _ rfl rfl; (try dsimp only at hs); clear hk; have z0 : wx.cell? ⟨w2.heap.size, 0, none⟩ = some (.int .u64 ((wd F 0 : Nat) : Int)) := hs.cell 0 _ rfl; have z1 : wx.cell? ⟨w2.heap.size, 1, none⟩ = some (.int .u64 ((wd F 1 : Nat) : Int)) := hs.cell 1 _ rfl; have z2 : wx.cell? ⟨w2.heap.size, 2, none⟩ = some (.int .u64 ((wd F 2 : Nat) : Int)) := hs.cell 2 _ rfl; have z3 : wx.cell? ⟨w2.heap.size, 3, none⟩ = some (.int .u64 ((wd F 3 : Nat) : Int)) := hs.cell 3 _ rfl; go_simp; refine hK _ _ (fun h => by cases h) (fun _ _ => ?_) (Below.refl _ _); apply RgX.mk))) ?_ rfl RgX.keep_eq (fun _ h => by cases h)
          refine RgX.build_cons (m := 2) (r := RgX.eq _) (RgX.one_plain (by rfl) (by (intro ax wx hk Kx hK; have k0 := hk.base 0 _ rfl rfl; have hL := hk.fact 0 0 _ rfl rfl; (try dsimp only at hL); have hg := hk.fact 1 1 _ rfl rfl; (try dsimp only at hg); have hs := hk.fact 2 1 _ rfl rfl; (try dsimp only at hs); clear hk; go_simp; refine hK _ _ (fun h => by cases h) (fun _ _ => ?_) (Below.refl _ _); apply RgX.mk))) ?_ rfl RgX.keep_eq (fun _ h => by cases h)
          refine RgX.build_cons (m := 3) (r := (⟨fun v _ w5 => (∃ G', v = setOf G') ∧ StR s g o x (.no cc yy : Re Nat) w5, none, none⟩ : RgX.Rl)) (RgX.one_plain (by rfl) (by (intro ax wx hk Kx hK; obtain ⟨v29, k29, h29⟩ := hk.dep 0 1 29 _ rfl rfl rfl; (first | (replace h29 := h29 9 undef rfl rfl; first | (cases (h29 : v29 = _)) | (obtain ⟨rfl, h29⟩ := h29) | skip) | skip); have hL := hk.fact 0 0 _ rfl rfl; (try dsimp only at hL); have hg := hk.fact 1 0 _ rfl rfl; (try dsimp only at hg); have hs := hk.fact 2 1 _ rfl rfl; (try dsimp only at hs); clear hk; go_simp; refine (item_any g s q o x _ hg HQ.out HM.out).mono ?_; rintro e w' ⟨G', rfl, hS5, hO5, hq5⟩; (rw [HIF.out] at hS5; exact hK _ _ (fun h => by cases h) (fun _ _ => ⟨⟨G', rfl⟩, hS5⟩) hO5)))) ?_ rfl (RgX.keep_r (fun _ _ _ _ h hb => ⟨h.1, StR.below h.2 hb⟩) (fun _ _ => ⟨fun h _ _ _ => absurd rfl h, fun _ _ _ _ => (fun w5 w6 h he => by obtain ⟨f, rfl⟩ := he; exact ⟨h.1, StR.far h.2 HGS.out.2.2.2 _⟩), trivial⟩)) (fun _ h => by cases h)
          refine RgX.build_cons (m := 4) (r := (⟨fun v _ _ => ∃ G', v = setOf G', none, none⟩ : RgX.Rl)) (RgX.one_plain (by rfl) (by (intro ax wx hk Kx hK; obtain ⟨v28, k28, h28⟩ := hk.dep 0 0 28 _ rfl rfl rfl; (first | (replace h28 := h28 9 undef rfl rfl; first | (cases (h28 : v28 = _)) | (obtain ⟨rfl, h28⟩ := h28) | skip) | skip); obtain ⟨v30, k30, h30⟩ := hk.dep 0 2 30 _ rfl rfl rfl; (first | (replace h30 := h30 9 undef rfl rfl; first | (cases (h30 : v30 = _)) | (obtain ⟨rfl, h30⟩ := h30) | skip) | skip); have hL := hk.fact 0 0 _ rfl rfl; (try dsimp only at hL); have hs := hk.fact 2 1 _ rfl rfl; (try dsimp only at hs); clear hk; obtain ⟨⟨G', rfl⟩, hS6⟩ := h30; go_simp; refine (refOr_any F G' _).mono ?_; rintro e w' ⟨rfl, hb⟩; exact hK _ _ (fun h => by cases h) (fun _ _ => ⟨_, rfl⟩) hb))) ?_ rfl (RgX.keep_r (fun _ _ _ _ h hb => h) (fun _ _ => ⟨fun _ _ _ h => absurd ⟨1, rfl⟩ h, fun _ _ _ _ => (fun w5 w6 h he => h), trivial⟩)) (fun _ h => by cases h)
          refine RgX.build_cons (m := 5) (r := (⟨fun _ _ w5 => ∃ G', AtG w5 w2.heap.size 38 (cellsOf G'), none, none⟩ : RgX.Rl)) (RgX.one_plain (by rfl) (by (intro ax wx hk Kx hK; have k4 := hk.base 4 _ rfl rfl; obtain ⟨v31, k31, h31⟩ := hk.dep 0 3 31 _ rfl rfl rfl; (first | (replace h31 := h31 9 undef rfl rfl; first | (cases (h31 : v31 = _)) | (obtain ⟨rfl, h31⟩ := h31) | skip) | skip); have hL := hk.fact 0 0 _ rfl rfl; (try dsimp only at hL); have hs := hk.fact 2 0 _ rfl rfl; (try dsimp only at hs); clear hk; obtain ⟨G', rfl⟩ := h31; (have d0 : wx.cell? ⟨w2.heap.size, 0, none⟩ = some (.int .u64 ((wd F 0 : Nat) : Int)) := hs.cell 0 _ rfl; have d1 : wx.cell? ⟨w2.heap.size, 1, none⟩ = some (.int .u64 ((wd F 1 : Nat) : Int)) := hs.cell 1 _ rfl; have d2 : wx.cell? ⟨w2.heap.size, 2, none⟩ = some (.int .u64 ((wd F 2 : Nat) : Int)) := hs.cell 2 _ rfl; have d3 : wx.cell? ⟨w2.heap.size, 3, none⟩ = some (.int .u64 ((wd F 3 : Nat) : Int)) := hs.cell 3 _ rfl; have f0 := hs.frozen 0; have f1 := hs.frozen 1; have f2 := hs.frozen 2; have f3 := hs.frozen 3; unfold setOf at k31; go_simp; exact hK undef _ (fun _ => rfl) (fun u hu => ⟨_, putS_at hs _⟩) ⟨_, rfl⟩)))) ?_ rfl (RgX.keep_r (fun _ _ _ _ h hb => by obtain ⟨G', h⟩ := h; exact ⟨G', h.below hb⟩) (fun _ _ => ⟨fun _ _ _ h => absurd ⟨1, rfl⟩ h, fun h _ _ _ => absurd rfl h, trivial⟩)) (fun _ h => by cases h)
          refine RgX.build_end fun wx hj => ?_
          have hL := hj 0 _ rfl rfl
          clear hj
          refine RgX.fin_eq rfl ?_
          refine RgX.fin_eq rfl ?_
          first | refine RgX.fin_eq rfl ?_ | refine RgX.fin_any rfl fun v30 h30 => ?_
          first | refine RgX.fin_eq rfl ?_ | refine RgX.fin_any rfl fun v31 h31 => ?_
          refine RgX.fin_none rfl fun s4 => ?_
          refine RgX.fin_nil ?_
          simp only [List.set_cons_zero, List.set_cons_succ]
          have hS5 := (h30 rfl undef rfl).2
          have hs5 := s4 rfl undef rfl
          clear h30 s4 h31
          obtain ⟨pb, hS5⟩ := hS5
          obtain ⟨G', hs5⟩ := hs5
          have HL := Lib.hid hL; have H5 := Lib.hid hS5; have H6 := Lib.hid hs5
          have hcc : cc ≠ 0 := by have := HIN.out.1; omega
          have HCC := Lib.hid hcc
          clear hL hS5 hs5 hcc
          go_wp2_with fail
          refine ⟨⟨G', H6.out, HL.out.1, HL.out.2, .inr ⟨cc, yy, pb, HCC.out, H5.out, by rw [HX9.out, HCF.out, HIF.out]; rfl⟩⟩, ?_⟩
          rw [leftR_no H5.out HCC.out, HLE.out]
          have := HQ.out; omega
    · have HS9 := Lib.hid hs9; have HR9 := Lib.hid hr9; have HO9 := Lib.hid ho9; have HA9 := Lib.hid ha9; have HX := Lib.hid hx9; have HCC := Lib.hid hcc
      have e0 : (cc == 0) = false := by rw [beq_eq_false_iff_ne]; exact hcc
      clear hs9 hr9 ho9 ha9 hx9 hcc
      have z3 : wr.cell? ⟨g, 3, none⟩ = some (.int .i64 cc) := HA9.out.cell 3 _ rfl
      go_wp2_with fail
      refine (next_bad g s pb o cc _ _ HA9.out HCC.out).mono ?_
      rintro e9 wq ⟨rfl, hb⟩
      have HAq := Lib.hid (HA9.out.below hb); have HRq := Lib.hid (HR9.out.below hb); have HOq := Lib.hid (HO9.out.tb hb); have HSq := Lib.hid (HS9.out.below hb)
      clear hb z3 e0
      have d0 := (HRq.out).cell 0 _ rfl; have d1 := (HRq.out).cell 1 _ rfl; have d2 := (HRq.out).cell 2 _ rfl; have d3 := (HRq.out).cell 3 _ rfl
      have f0 := (HRq.out).frozen 0; have f1 := (HRq.out).frozen 1; have f2 := (HRq.out).frozen 2; have f3 := (HRq.out).frozen 3
      have e0 : wq.cell? ⟨w2.heap.size, 0, none⟩ = some (.int .u64 ((wd F 0 : Nat) : Int)) := HSq.out.cell 0 _ rfl
      have e1 : wq.cell? ⟨w2.heap.size, 1, none⟩ = some (.int .u64 ((wd F 1 : Nat) : Int)) := HSq.out.cell 1 _ rfl
      have e2 : wq.cell? ⟨w2.heap.size, 2, none⟩ = some (.int .u64 ((wd F 2 : Nat) : Int)) := HSq.out.cell 2 _ rfl
      have e3 : wq.cell? ⟨w2.heap.size, 3, none⟩ = some (.int .u64 ((wd F 3 : Nat) : Int)) := HSq.out.cell 3 _ rfl
      go_wp2_with fail
      refine bodyPost_ret (v := setOf F) (by simp [results, Tryz.results109, go_sem, d0, d1, d2, d3]; try rfl) rfl ⟨_, rfl, ?_, ?_, ?_⟩
      · rw [HX.out]; exact ⟨pb, putS_far HAq.out HG2.out _⟩
      · exact HOq.out.pS _ _ (.inr (Nat.le_refl _))
      · intro a b h; rw [HX.out] at h; cases h
theorem class_any (g : Nat) (s : ByteArray) (p : Nat) (o x : Int) (w : World) (h : AtG w g 114 (rdr s p o 0 x)) (hp : p ≤ s.size) (hm : s.size ≤ 1000) :
    Calls Tryz.prog 109 #[.pointer (some ⟨g, 0, none⟩)] w fun e w' => ∃ F : Nat → Bool, e = .returned (setOf F) ∧ StR s g o x (classF s p) w' ∧ Only (fun k => k = g) w w' ∧ ∀ f q, classF s p = .ok f q → F = f := by
  by_cases h94 : ch s p = 94
  · exact class_neg g s p o x w h hp hm h94
  · exact class_pos g s p o x w h hp hm h94
end Go.Proofs.YtgjcibhhffkemaaGreatDoor
/- The document's Reader: many. -/
set_option linter.unusedVariables false
set_option linter.unusedSimpArgs false
namespace Go.Proofs.YtgjcibhhffkemaaGreatDoor
open Go.RowKit Bt
theorem many_one (op : Int) (b cap : Nat) (t : Tree) (a' : Option Addr) (n' c' : Nat) (w : World) (h : ∀ i, i < 8 → w.cell? ⟨b, i, none⟩ = (nodeL t (.slice a' n' c'))[i]?) :
    Calls Tryz.prog 70 #[.int .i64 op, .slice (some ⟨b, 0, none⟩) 1 cap] w fun e w' => e = .returned (nodeV t (.slice a' n' c')) ∧ Below w.heap.size w w' := by
  obtain ⟨op', f, mn, mx, kids⟩ := t
  have hb : b < w.heap.size := World.block_lt_of_cell? w _ (h 0 (by omega))
  have hne : ¬ b = w.heap.size := by omega
  have z0 : w.cell? ⟨b, 0, none⟩ = some (.int .i64 op') := h 0 (by omega)
  have z1 : w.cell? ⟨b, 1, none⟩ = some (.int .u64 ((wd f 0 : Nat) : Int)) := h 1 (by omega)
  have z2 : w.cell? ⟨b, 2, none⟩ = some (.int .u64 ((wd f 1 : Nat) : Int)) := h 2 (by omega)
  have z3 : w.cell? ⟨b, 3, none⟩ = some (.int .u64 ((wd f 2 : Nat) : Int)) := h 3 (by omega)
  have z4 : w.cell? ⟨b, 4, none⟩ = some (.int .u64 ((wd f 3 : Nat) : Int)) := h 4 (by omega)
  have z5 : w.cell? ⟨b, 5, none⟩ = some (.int .i64 mn) := h 5 (by omega)
  have z6 : w.cell? ⟨b, 6, none⟩ = some (.int .i64 mx) := h 6 (by omega)
  have z7 : w.cell? ⟨b, 7, none⟩ = some (.slice a' n' c') := h 7 (by omega)
  clear h
  unfold nodeV
  dsimp only
  go_enter Tryz.func70, Tryz.ntmps70
  go_wp2
  go_returns
  exact ⟨rfl, by go_grown⟩
theorem many_more (op : Int) (a : Option Addr) (n cap : Nat) (w : World) (h : n ≠ 1) (hn : n ≤ 1000) :
    Calls Tryz.prog 70 #[.int .i64 op, .slice a n cap] w fun e w' => e = .returned (.agg #[.int .i64 op, .int .u64 0, .int .u64 0, .int .u64 0, .int .u64 0, .int .i64 0, .int .i64 0, .slice a n cap]) ∧ Below w.heap.size w w' := by
  have e1 : ((n : Int) == 1) = false := by rw [beq_eq_false_iff_ne]; omega
  have h1 : ¬ (n : Int) = 1 := by omega
  go_enter Tryz.func70, Tryz.ntmps70
  go_wp2
  go_returns
  exact ⟨rfl, by go_grown⟩
/-- the blocks from lo up to below hi, but for a row's own -/
def IvB (lo hi : Nat) (v : Value) : Nat → Prop := fun x => (lo ≤ x ∧ x < hi) ∧ v.ownBlock ≠ some x
theorem many_any (op : Int) (lo n : Nat) (v : Value) (ps : List (Tree × Value)) (w : World) (h : w.ownsRow lo 41 8 v n (flatN ps)) (ha : AllK (IvB lo w.heap.size v) w ps) (hn : ps ≠ []) (hl : ps.length ≤ 1000) :
    Calls Tryz.prog 70 #[.int .i64 op, v] w fun e w' => Below w.heap.size w w' ∧ ∃ kv, e = .returned (nodeV (many op (ps.map (·.1))) kv) ∧ KAt (Iv lo w.heap.size) w (many op (ps.map (·.1))) kv := by
  obtain ⟨b, cap, rfl, hcap, hlo, hhi, hob, hr⟩ := own_kids h ha hn
  clear hr
  match ps, hn with
  | [(t, kv)], _ =>
    have hk := ha (t, kv) (by simp)
    obtain ⟨a', n', c', rfl⟩ : ∃ a n c, kv = .slice a n c := by
      cases t with
      | node op' f mn mx kids => obtain ⟨a, c, h⟩ := KAt.slice hk; exact ⟨a, _, c, h⟩
    refine (many_one op b cap t a' n' c' w ?_).mono (by rintro e w' ⟨rfl, hb⟩; exact ⟨hb, _, rfl, hk.mono fun x hx => hx.1⟩)
    intro i hi
    obtain ⟨g, cap', cur, heq, hb, hh, hnc, hcm, hcs, hct⟩ := h.2.resolve_left (by rintro ⟨h, _⟩; cases h)
    injection heq with e1 e2 e3
    injection e1 with e1
    injection e1 with e1
    subst e1
    rw [flatN_one] at hct
    generalize nodeL t (.slice a' n' c') = L at hct ⊢
    rw [← hct, List.getElem?_take, if_pos (by simp at e2; omega)]
    simp [World.cell?, hh]
  | p :: q :: r, _ =>
    refine (many_more op _ _ cap w (by simp) hl).mono ?_
    rintro e w' ⟨rfl, hb⟩
    refine ⟨hb, .slice (some ⟨b, 0, none⟩) (p :: q :: r).length cap, ?_, ?_⟩
    · show Ending.returned _ = Ending.returned (.agg #[.int .i64 op, .int .u64 ((wd emp 0 : Nat) : Int), .int .u64 ((wd emp 1 : Nat) : Int), .int .u64 ((wd emp 2 : Nat) : Int), .int .u64 ((wd emp 3 : Nat) : Int), .int .i64 0, .int .i64 0, _])
      unfold emp; simp only [wd_none]; rfl
    · show KAt _ w (.node op emp 0 0 ((p :: q :: r).map (·.1))) _
      rw [KAt]
      refine .inr ⟨by simp, by simpa using hl, b, 0, cap, by simp, by simpa using hcap, ⟨hlo, hhi⟩, ?_⟩
      obtain ⟨b', cap', heq, _, _, _, hob', hr'⟩ := own_kids h ha (by simp)
      injection heq with e1 e2 e3
      injection e1 with e1
      injection e1 with e1
      subst e1
      refine KRow.mk _ _ _ fun j t hj => ?_
      obtain ⟨kv, h1, h2⟩ := KRow.get _ _ _ _ _ hr' hj
      exact ⟨kv, h1, h2.mono fun x hx => hx.1⟩
end Go.Proofs.YtgjcibhhffkemaaGreatDoor
/- The document's Reader: what a call that reads a node leaves; ends of such calls. -/
set_option linter.unusedVariables false
set_option linter.unusedSimpArgs false
namespace Go.Proofs.YtgjcibhhffkemaaGreatDoor
open Go.RowKit Bt
/-- what is left by a call that reads a node -/
def NPost (s : ByteArray) (g o : Nat) (x : Int) (w : World) (q : Q) (p : Nat) (e : Ending) (w' : World) : Prop :=
  ∃ t kv, e = .returned (nodeV t kv) ∧ KAt (Iv w.heap.size w'.heap.size) w' t kv ∧ Only (fun k => k = g) w w' ∧ ∃ r : Re Tree, P s q o p r ∧ StR s g (o : Int) x r w' ∧ ∀ t' q', r = .ok t' q' → t = t'
def nodeZ : Array Value := #[.int .i64 0, .int .u64 0, .int .u64 0, .int .u64 0, .int .u64 0, .int .i64 0, .int .i64 0, .slice none 0 0]
/-- a node stored over a whole block -/
def putN (w : World) (g : Nat) (op : Int) (f : Nat → Bool) (mn mx : Int) (kv : Value) : World :=
  (((((((w.setCell ⟨g, 0, none⟩ (.int .i64 op)).setCell ⟨g, 1, none⟩ (.int .u64 ((wd f 0 : Nat) : Int))).setCell ⟨g, 2, none⟩ (.int .u64 ((wd f 1 : Nat) : Int))).setCell ⟨g, 3, none⟩ (.int .u64 ((wd f 2 : Nat) : Int))).setCell ⟨g, 4, none⟩ (.int .u64 ((wd f 3 : Nat) : Int))).setCell ⟨g, 5, none⟩ (.int .i64 mn)).setCell ⟨g, 6, none⟩ (.int .i64 mx)).setCell ⟨g, 7, none⟩ kv
theorem putN_at {w : World} {g T : Nat} {a b c d e f' i j : Value} (h : AtG w g T #[a, b, c, d, e, f', i, j]) (op : Int) (f : Nat → Bool) (mn mx : Int) (kv : Value) : AtG (putN w g op f mn mx kv) g T #[.int .i64 op, .int .u64 ((wd f 0 : Nat) : Int), .int .u64 ((wd f 1 : Nat) : Int), .int .u64 ((wd f 2 : Nat) : Int), .int .u64 ((wd f 3 : Nat) : Int), .int .i64 mn, .int .i64 mx, kv] := by
  have key : ∀ (w : World) (a b c d e f' i j : Value) (A B C D E F I J : Value), AtG w g T #[a, b, c, d, e, f', i, j] → AtG ((((((((w.setCell ⟨g, 0, none⟩ A).setCell ⟨g, 1, none⟩ B).setCell ⟨g, 2, none⟩ C).setCell ⟨g, 3, none⟩ D).setCell ⟨g, 4, none⟩ E).setCell ⟨g, 5, none⟩ F).setCell ⟨g, 6, none⟩ I).setCell ⟨g, 7, none⟩ J) g T #[A, B, C, D, E, F, I, J] := by
    intro w a b c d e f' i j A B C D E F I J h
    have h0 : AtG (w.setCell ⟨g, 0, none⟩ A) g T #[A, b, c, d, e, f', i, j] := h.set 0 A
    have h1 : AtG ((w.setCell ⟨g, 0, none⟩ A).setCell ⟨g, 1, none⟩ B) g T #[A, B, c, d, e, f', i, j] := h0.set 1 B
    have h2 : AtG (((w.setCell ⟨g, 0, none⟩ A).setCell ⟨g, 1, none⟩ B).setCell ⟨g, 2, none⟩ C) g T #[A, B, C, d, e, f', i, j] := h1.set 2 C
    have h3 : AtG ((((w.setCell ⟨g, 0, none⟩ A).setCell ⟨g, 1, none⟩ B).setCell ⟨g, 2, none⟩ C).setCell ⟨g, 3, none⟩ D) g T #[A, B, C, D, e, f', i, j] := h2.set 3 D
    have h4 : AtG (((((w.setCell ⟨g, 0, none⟩ A).setCell ⟨g, 1, none⟩ B).setCell ⟨g, 2, none⟩ C).setCell ⟨g, 3, none⟩ D).setCell ⟨g, 4, none⟩ E) g T #[A, B, C, D, E, f', i, j] := h3.set 4 E
    have h5 : AtG ((((((w.setCell ⟨g, 0, none⟩ A).setCell ⟨g, 1, none⟩ B).setCell ⟨g, 2, none⟩ C).setCell ⟨g, 3, none⟩ D).setCell ⟨g, 4, none⟩ E).setCell ⟨g, 5, none⟩ F) g T #[A, B, C, D, E, F, i, j] := h4.set 5 F
    have h6 : AtG (((((((w.setCell ⟨g, 0, none⟩ A).setCell ⟨g, 1, none⟩ B).setCell ⟨g, 2, none⟩ C).setCell ⟨g, 3, none⟩ D).setCell ⟨g, 4, none⟩ E).setCell ⟨g, 5, none⟩ F).setCell ⟨g, 6, none⟩ I) g T #[A, B, C, D, E, F, I, j] := h5.set 6 I
    have h7 : AtG ((((((((w.setCell ⟨g, 0, none⟩ A).setCell ⟨g, 1, none⟩ B).setCell ⟨g, 2, none⟩ C).setCell ⟨g, 3, none⟩ D).setCell ⟨g, 4, none⟩ E).setCell ⟨g, 5, none⟩ F).setCell ⟨g, 6, none⟩ I).setCell ⟨g, 7, none⟩ J) g T #[A, B, C, D, E, F, I, J] := h6.set 7 J
    exact h7
  exact key w _ _ _ _ _ _ _ _ _ _ _ _ _ _ _ _ h
theorem putN_far {w : World} {g g' T : Nat} {cs : Array Value} (h : AtG w g' T cs) (hg : g' ≠ g) (op : Int) (f : Nat → Bool) (mn mx : Int) (kv : Value) : AtG (putN w g op f mn mx kv) g' T cs :=
  (((((((h.far hg _).far hg _).far hg _).far hg _).far hg _).far hg _).far hg _).far hg _
theorem putN_size (w : World) (g : Nat) (op : Int) (f : Nat → Bool) (mn mx : Int) (kv : Value) : (putN w g op f mn mx kv).heap.size = w.heap.size := by simp [putN]
theorem Only.pN {S : Nat → Prop} {w w1 : World} (h : Only S w w1) (g : Nat) (hg : S g ∨ w.heap.size ≤ g) (op : Int) (f : Nat → Bool) (mn mx : Int) (kv : Value) : Only S w (putN w1 g op f mn mx kv) :=
  (((((((h.st g 0 _ hg).st g 1 _ hg).st g 2 _ hg).st g 3 _ hg).st g 4 _ hg).st g 5 _ hg).st g 6 _ hg).st g 7 _ hg
theorem putN_block (w : World) (g : Nat) (op : Int) (f : Nat → Bool) (mn mx : Int) (kv : Value) (b : Nat) (hb : b ≠ g) (hl : b < w.heap.size) : (putN w g op f mn mx kv).heap[b]? = w.heap[b]? :=
  ((Only.refl (S := fun k => k = g) w).pN g (.inl rfl) op f mn mx kv).block b hl hb
theorem StR.farN {α : Type} {s : ByteArray} {g : Nat} {o x : Int} {r : Re α} {w : World} (h : StR s g o x r w) {gg : Nat} (hg : g ≠ gg) (op : Int) (f : Nat → Bool) (mn mx : Int) (kv : Value) : StR s g o x r (putN w gg op f mn mx kv) := by
  cases r with
  | ok a q => exact putN_far h hg op f mn mx kv
  | no c y => obtain ⟨p, h⟩ := h; exact ⟨p, putN_far h hg op f mn mx kv⟩
theorem StR.alloc {α : Type} {s : ByteArray} {g : Nat} {o x : Int} {r : Re α} {w : World} (h : StR s g o x r w) (ob : Obj) : StR s g o x r (w.alloc ob) := StR.below h ((Below.refl _ _).alloc (Nat.le_refl _) ob)
theorem StR.map {α β : Type} {s : ByteArray} {g : Nat} {o x : Int} {r : Re α} {w : World} (f : α → β) (h : StR s g o x r w) : StR s g o x (r.map f) w := by cases r <;> exact h
theorem kat_one (D : Nat → Prop) (w : World) (op : Int) (f : Nat → Bool) (mn mx : Int) : KAt D w (.node op f mn mx []) (.slice none 0 0) := by rw [KAt]; exact .inl ⟨rfl, none, 0, rfl⟩
theorem node_post {s : ByteArray} {g o : Nat} {x : Int} {w wn : World} {q : Q} {p : Nat} {r : Re Tree} {op : Int} {f : Nat → Bool} {mn mx : Int} {kids : List Tree} {kv : Value}
    (hP : P s q o p r) (hS : StR s g (o : Int) x r wn) (hO : Only (fun k => k = g) w wn) (hg : g < w.heap.size) (hl : w.heap.size < wn.heap.size) (hK : KAt (Iv (w.heap.size + 1) wn.heap.size) wn (.node op f mn mx kids) kv) (hi : ∀ t' q', r = .ok t' q' → .node op f mn mx kids = t') :
    NPost s g o x w q p (.returned (nodeV (.node op f mn mx kids) kv)) (putN wn w.heap.size op f mn mx kv) := by
  refine ⟨_, kv, rfl, ?_, hO.pN _ (.inr (Nat.le_refl _)) _ _ _ _ _, r, hP, StR.farN hS (by omega) _ _ _ _ _, hi⟩
  rw [putN_size]
  exact KAt.keep (fun b hb => putN_block _ _ _ _ _ _ _ b (by have := hb.1; omega) hb.2) (fun b hb => ⟨by have := hb.1; omega, hb.2⟩) _ _ hK
/-- between: what has been read, the result's cell, what was left alone -/
structure AtM (s : ByteArray) (g : Nat) (o x : Int) (r : Re Unit) (w wn : World) : Prop where
  st : StR s g o x r wn
  cell : AtG wn w.heap.size 41 nodeZ
  only : Only (fun k => k = g) w wn
namespace AtM
variable {s : ByteArray} {g : Nat} {o x : Int} {r : Re Unit} {w wn w2 : World}
theorem below (h : AtM s g o x r w wn) (hb : Below wn.heap.size wn w2) : AtM s g o x r w w2 := ⟨StR.below h.st hb, h.cell.below hb, h.only.tb hb⟩
theorem al (h : AtM s g o x r w wn) (ob : Obj) : AtM s g o x r w (wn.alloc ob) := h.below ((Below.refl _ _).alloc (Nat.le_refl _) ob)
theorem next {r' : Re Unit} {o' : Int} (h : AtM s g o x r w wn) (hg : g < w.heap.size) (hO : Only (fun k => k = g) wn w2) (hs : StR s g o' x r' w2) : AtM s g o' x r' w w2 := ⟨hs, h.cell.only hO (by show ¬ (w.heap.size = g); omega), h.only.tr hO⟩
end AtM
def Re.unit {α : Type} (r : Re α) : Re Unit := r.map (fun _ => ())
theorem atM_start {s : ByteArray} {g p : Nat} {o x : Int} {w : World} (h : AtG w g 114 (rdr s (p : Int) o 0 x)) : AtM s g o x (.ok () p) w (w.alloc (.cells nodeZ 41)) :=
  ⟨AtG.alloc h _, AtG.new w _ _, (Only.refl _).al _⟩
theorem StR.unit {α : Type} {s : ByteArray} {g : Nat} {o x : Int} {r : Re α} {w : World} (h : StR s g o x r w) : StR s g o x r.unit w := StR.map _ h
theorem StR.ununit {α : Type} {s : ByteArray} {g : Nat} {o x : Int} {r : Re α} {w : World} (h : StR s g o x r.unit w) : StR s g o x r w := by cases r <;> exact h
/-- a slice of one byte -/
theorem refOf_oneI (w : World) (g : Nat) (c : Int) (h0 : 0 ≤ c) (h1 : c < 256) (h : AtG w g 5 #[.int .u8 c]) :
    Calls Tryz.prog 72 #[.slice (some ⟨g, 0, none⟩) 1 1] w fun e w' => e = .returned (setOf fun y => y == c.toNat) ∧ Below w.heap.size w w' := by
  obtain ⟨n, rfl⟩ := Int.eq_ofNat_of_zero_le h0
  rw [Int.toNat_natCast]
  exact refOf_one w g n (by omega) h
end Go.Proofs.YtgjcibhhffkemaaGreatDoor
/- The document's Reader: atom, but for brackets. -/
set_option linter.unusedVariables false
set_option linter.unusedSimpArgs false
namespace Go.Proofs.YtgjcibhhffkemaaGreatDoor
open Go.RowKit Bt
theorem oneE {c : Nat → Bool} : one c = .node 1 c 0 0 [] := rfl
set_option maxRecDepth 100000 in
set_option maxHeartbeats 1600000 in
theorem atom_end (g : Nat) (s : ByteArray) (p o : Nat) (x : Int) (w : World) (h : AtG w g 114 (rdr s p o 0 x)) (hp : p ≤ s.size) (hm : s.size ≤ 1000) (hc : ch s p < 0) :
    Calls Tryz.prog 96 #[.pointer (some ⟨g, 0, none⟩)] w (NPost s g o x w .atom p) := by
  have HM := Lib.hid hm; have HLT := Lib.hid h.lt; have H0 := Lib.hid (atM_start h)
  have HN0 := Lib.hid (next_no g s p o x _ (AtG.alloc h (.cells nodeZ 41)) hp hc)
  have HPP : Hid (P s .atom o p (.no 2 p)) := Lib.hid (by
    have h1 : atomF s p = .no 2 p := by unfold atomF; rw [if_pos hc]
    have h2 : P s .atom o p (atomF s p) := P.plain (by omega)
    rw [h1] at h2; exact h2)
  clear h hp hm hc
  go_enter Tryz.func96, Tryz.ntmps96
  go_wp2_with fail
  refine (HN0.out).mono ?_
  rintro e9 w1 ⟨rfl, hA, hO⟩
  have H1 := Lib.hid (H0.out.next (r' := .no 2 p) HLT.out hO ⟨_, hA⟩)
  clear hA hO
  go_wp2_with fail
  refine (in_any (-1) brkS _ (by decide)).mono ?_
  rintro e9 w9 ⟨b, rfl, hb, rfl⟩
  obtain rfl : b = false := by
    rw [← Bool.not_eq_true, hb, inT_bl, brkS_bl]; decide
  clear hb
  go_wp2_with fail
  refine (refOf_oneI _ w9.heap.size (0) (by decide) (by decide) (AtG.new w9 _ _)).mono ?_
  rintro e9 wo ⟨rfl, hb⟩
  have HWO := Lib.hid ((H1.out.al (.cells #[.int .u8 (0)] 5)).below hb)
  clear hb
  go_wp2_with fail
  refine (one_any (fun y => y == (0 : Int).toNat) _).mono ?_
  rintro e9 wn ⟨rfl, hb⟩
  have HN := Lib.hid (HWO.out.below hb)
  have HSZ := Lib.hid (show w.heap.size < wn.heap.size from HN.out.cell.lt)
  clear hb
  have d0 : wn.cell? ⟨w.heap.size, 0, none⟩ = some (.int .i64 0) := (HN.out.cell).cell 0 _ rfl
  have d1 : wn.cell? ⟨w.heap.size, 1, none⟩ = some (.int .u64 0) := (HN.out.cell).cell 1 _ rfl
  have d2 : wn.cell? ⟨w.heap.size, 2, none⟩ = some (.int .u64 0) := (HN.out.cell).cell 2 _ rfl
  have d3 : wn.cell? ⟨w.heap.size, 3, none⟩ = some (.int .u64 0) := (HN.out.cell).cell 3 _ rfl
  have d4 : wn.cell? ⟨w.heap.size, 4, none⟩ = some (.int .u64 0) := (HN.out.cell).cell 4 _ rfl
  have d5 : wn.cell? ⟨w.heap.size, 5, none⟩ = some (.int .i64 0) := (HN.out.cell).cell 5 _ rfl
  have d6 : wn.cell? ⟨w.heap.size, 6, none⟩ = some (.int .i64 0) := (HN.out.cell).cell 6 _ rfl
  have d7 : wn.cell? ⟨w.heap.size, 7, none⟩ = some (.slice none 0 0) := (HN.out.cell).cell 7 _ rfl
  have f0 := (HN.out.cell).frozen 0; have f1 := (HN.out.cell).frozen 1; have f2 := (HN.out.cell).frozen 2; have f3 := (HN.out.cell).frozen 3
  have f4 := (HN.out.cell).frozen 4; have f5 := (HN.out.cell).frozen 5; have f6 := (HN.out.cell).frozen 6; have f7 := (HN.out.cell).frozen 7
  unfold nodeV one
  dsimp only
  go_wp2_with fail
  refine bodyPost_ret (v := nodeV (one (fun y => y == (0 : Int).toNat)) (.slice none 0 0)) (by simp [results, Tryz.results96, go_sem, d0, d1, d2, d3, d4, d5, d6, d7]; try rfl) rfl ?_
  exact node_post (r := .no 2 p) HPP.out (StR.ununit HN.out.st) HN.out.only HLT.out HSZ.out (kat_one _ _ _ _ _ _) (fun _ _ h => by cases h)
set_option maxRecDepth 100000 in
set_option maxHeartbeats 1600000 in
theorem atom_dot (g : Nat) (s : ByteArray) (p o : Nat) (x : Int) (w : World) (h : AtG w g 114 (rdr s p o 0 x)) (hp : p ≤ s.size) (hm : s.size ≤ 1000) (hc : ch s p = 46) :
    Calls Tryz.prog 96 #[.pointer (some ⟨g, 0, none⟩)] w (NPost s g o x w .atom p) := by
  have HM := Lib.hid hm; have HLT := Lib.hid h.lt; have H0 := Lib.hid (atM_start h)
  have HN0 := next_ch g s p o x _ (AtG.alloc h (.cells nodeZ 41)) (by omega) (by omega)
  have hp1 := ch_ge (s := s) (p := p) (by omega)
  obtain ⟨pi, hpi⟩ : ∃ pi : Int, pi = ((p + 1 : Nat) : Int) := ⟨_, rfl⟩
  have hpi2 : pi - 1 = (p : Int) := by omega
  have hpi3 : 0 ≤ pi - 1 := by omega
  have hpi4 : pi < 10000 := by omega
  have HPP : Hid (P s .atom o p (.ok (one fun y => !(y == 10)) (p + 1))) := Lib.hid (by
    have h1 : atomF s p = .ok (one fun y => !(y == 10)) (p + 1) := by unfold atomF; rw [hc]; rfl
    have h2 : P s .atom o p (atomF s p) := P.plain (by omega)
    rw [h1] at h2; exact h2)
  rw [hc] at HN0
  have HN0 := Lib.hid HN0
  clear h hp hm hc hpi hp1
  go_enter Tryz.func96, Tryz.ntmps96
  go_wp2_with fail
  refine (HN0.out).mono ?_
  rintro e9 w1 ⟨rfl, hA, hO⟩
  have H1 := Lib.hid (H0.out.next (r' := .ok () (p + 1)) HLT.out hO hA)
  clear hA hO
  go_wp2_with fail
  refine (refOf_oneI _ w1.heap.size 10 (by decide) (by decide) (AtG.new w1 _ _)).mono ?_
  rintro e9 w2 ⟨rfl, hb⟩
  have H2 := Lib.hid ((H1.out.al (.cells #[.int .u8 10] 5)).below hb)
  clear hb
  go_wp2_with fail
  refine (refNot_any _ _).mono ?_
  rintro e9 w3 ⟨rfl, hb⟩
  have H3 := Lib.hid (H2.out.below hb)
  clear hb
  go_wp2_with fail
  refine (one_any (fun y => !(y == 10)) _).mono ?_
  rintro e9 wn ⟨rfl, hb⟩
  have HN := Lib.hid (H3.out.below hb)
  have HSZ := Lib.hid (show w.heap.size < wn.heap.size from HN.out.cell.lt)
  clear hb
  have d0 : wn.cell? ⟨w.heap.size, 0, none⟩ = some (.int .i64 0) := (HN.out.cell).cell 0 _ rfl
  have d1 : wn.cell? ⟨w.heap.size, 1, none⟩ = some (.int .u64 0) := (HN.out.cell).cell 1 _ rfl
  have d2 : wn.cell? ⟨w.heap.size, 2, none⟩ = some (.int .u64 0) := (HN.out.cell).cell 2 _ rfl
  have d3 : wn.cell? ⟨w.heap.size, 3, none⟩ = some (.int .u64 0) := (HN.out.cell).cell 3 _ rfl
  have d4 : wn.cell? ⟨w.heap.size, 4, none⟩ = some (.int .u64 0) := (HN.out.cell).cell 4 _ rfl
  have d5 : wn.cell? ⟨w.heap.size, 5, none⟩ = some (.int .i64 0) := (HN.out.cell).cell 5 _ rfl
  have d6 : wn.cell? ⟨w.heap.size, 6, none⟩ = some (.int .i64 0) := (HN.out.cell).cell 6 _ rfl
  have d7 : wn.cell? ⟨w.heap.size, 7, none⟩ = some (.slice none 0 0) := (HN.out.cell).cell 7 _ rfl
  have f0 := (HN.out.cell).frozen 0; have f1 := (HN.out.cell).frozen 1; have f2 := (HN.out.cell).frozen 2; have f3 := (HN.out.cell).frozen 3
  have f4 := (HN.out.cell).frozen 4; have f5 := (HN.out.cell).frozen 5; have f6 := (HN.out.cell).frozen 6; have f7 := (HN.out.cell).frozen 7
  unfold nodeV one
  dsimp only
  go_wp2_with fail
  refine bodyPost_ret (v := nodeV (one (fun y => !(y == 10))) (.slice none 0 0)) (by simp [results, Tryz.results96, go_sem, d0, d1, d2, d3, d4, d5, d6, d7]; try rfl) rfl ?_
  exact node_post (r := .ok (one fun y => !(y == 10)) (p + 1)) HPP.out (StR.ununit HN.out.st) HN.out.only HLT.out HSZ.out (kat_one _ _ _ _ _ _) (fun _ _ h => by injection h)
set_option maxRecDepth 100000 in
set_option maxHeartbeats 1600000 in
theorem atom_class (g : Nat) (s : ByteArray) (p o : Nat) (x : Int) (w : World) (h : AtG w g 114 (rdr s p o 0 x)) (hp : p ≤ s.size) (hm : s.size ≤ 1000) (hc : ch s p = 91) :
    Calls Tryz.prog 96 #[.pointer (some ⟨g, 0, none⟩)] w (NPost s g o x w .atom p) := by
  have HM := Lib.hid hm; have HLT := Lib.hid h.lt; have H0 := Lib.hid (atM_start h)
  have HN0 := next_ch g s p o x _ (AtG.alloc h (.cells nodeZ 41)) (by omega) (by omega)
  have hp1 := ch_ge (s := s) (p := p) (by omega)
  obtain ⟨pi, hpi⟩ : ∃ pi : Int, pi = ((p + 1 : Nat) : Int) := ⟨_, rfl⟩
  have hpi2 : pi - 1 = (p : Int) := by omega
  have hpi3 : 0 ≤ pi - 1 := by omega
  have hpi4 : pi < 10000 := by omega
  have HPP : Hid (P s .atom o p ((classF s (p + 1)).map one)) := Lib.hid (by
    have h1 : atomF s p = (classF s (p + 1)).map one := by unfold atomF; rw [hc]; rfl
    have h2 : P s .atom o p (atomF s p) := P.plain (by omega)
    rw [h1] at h2; exact h2)
  rw [hc] at HN0
  have HN0 := Lib.hid HN0
  have HP1 := Lib.hid hp1
  clear h hp hm hc hpi hp1
  go_enter Tryz.func96, Tryz.ntmps96
  go_wp2_with fail
  refine (HN0.out).mono ?_
  rintro e9 w1 ⟨rfl, hA, hO⟩
  have H1 := Lib.hid (H0.out.next (r' := .ok () (p + 1)) HLT.out hO hA)
  have HA1 := Lib.hid hA
  clear hA hO
  go_wp2_with fail
  refine (class_any g s (p + 1) o x _ HA1.out HP1.out HM.out).mono ?_
  rintro e9 w3 ⟨F, rfl, hS, hO, hq⟩
  have H3 := Lib.hid (H1.out.next (r' := ((classF s (p + 1)).map one).unit) HLT.out hO (StR.unit (StR.map _ hS)))
  have HQ := Lib.hid hq
  clear hS hO hq
  go_wp2_with fail
  refine (one_any (F) _).mono ?_
  rintro e9 wn ⟨rfl, hb⟩
  have HN := Lib.hid (H3.out.below hb)
  have HSZ := Lib.hid (show w.heap.size < wn.heap.size from HN.out.cell.lt)
  clear hb
  have d0 : wn.cell? ⟨w.heap.size, 0, none⟩ = some (.int .i64 0) := (HN.out.cell).cell 0 _ rfl
  have d1 : wn.cell? ⟨w.heap.size, 1, none⟩ = some (.int .u64 0) := (HN.out.cell).cell 1 _ rfl
  have d2 : wn.cell? ⟨w.heap.size, 2, none⟩ = some (.int .u64 0) := (HN.out.cell).cell 2 _ rfl
  have d3 : wn.cell? ⟨w.heap.size, 3, none⟩ = some (.int .u64 0) := (HN.out.cell).cell 3 _ rfl
  have d4 : wn.cell? ⟨w.heap.size, 4, none⟩ = some (.int .u64 0) := (HN.out.cell).cell 4 _ rfl
  have d5 : wn.cell? ⟨w.heap.size, 5, none⟩ = some (.int .i64 0) := (HN.out.cell).cell 5 _ rfl
  have d6 : wn.cell? ⟨w.heap.size, 6, none⟩ = some (.int .i64 0) := (HN.out.cell).cell 6 _ rfl
  have d7 : wn.cell? ⟨w.heap.size, 7, none⟩ = some (.slice none 0 0) := (HN.out.cell).cell 7 _ rfl
  have f0 := (HN.out.cell).frozen 0; have f1 := (HN.out.cell).frozen 1; have f2 := (HN.out.cell).frozen 2; have f3 := (HN.out.cell).frozen 3
  have f4 := (HN.out.cell).frozen 4; have f5 := (HN.out.cell).frozen 5; have f6 := (HN.out.cell).frozen 6; have f7 := (HN.out.cell).frozen 7
  unfold nodeV one
  dsimp only
  go_wp2_with fail
  refine bodyPost_ret (v := nodeV (one (F)) (.slice none 0 0)) (by simp [results, Tryz.results96, go_sem, d0, d1, d2, d3, d4, d5, d6, d7]; try rfl) rfl ?_
  exact node_post (r := (classF s (p + 1)).map one) HPP.out (StR.ununit HN.out.st) HN.out.only HLT.out HSZ.out (kat_one _ _ _ _ _ _) (fun t' q' h => by cases hcl : classF s (p + 1) with | ok f q => rw [hcl] at h; have := HQ.out f q hcl; subst this; injection h | no c y => rw [hcl] at h; cases h)
set_option maxRecDepth 100000 in
set_option maxHeartbeats 1600000 in
theorem atom_star (g : Nat) (s : ByteArray) (p o : Nat) (x : Int) (w : World) (h : AtG w g 114 (rdr s p o 0 x)) (hp : p ≤ s.size) (hm : s.size ≤ 1000) (c : Int) (hcc : c = 42 ∨ c = 43) (hc : ch s p = c) :
    Calls Tryz.prog 96 #[.pointer (some ⟨g, 0, none⟩)] w (NPost s g o x w .atom p) := by
  have HM := Lib.hid hm; have HLT := Lib.hid h.lt; have H0 := Lib.hid (atM_start h)
  have HN0 := next_ch g s p o x _ (AtG.alloc h (.cells nodeZ 41)) (by omega) (by omega)
  have hp1 := ch_ge (s := s) (p := p) (by omega)
  obtain ⟨pi, hpi⟩ : ∃ pi : Int, pi = ((p + 1 : Nat) : Int) := ⟨_, rfl⟩
  have hpi2 : pi - 1 = (p : Int) := by omega
  have hpi3 : 0 ≤ pi - 1 := by omega
  have hpi4 : pi < 10000 := by omega
  have HPP : Hid (P s .atom o p (.no 3 p)) := Lib.hid (by
    have h1 : atomF s p = .no 3 p := by unfold atomF; rw [hc]; rcases hcc with rfl | rfl <;> rfl
    have h2 : P s .atom o p (atomF s p) := P.plain (by omega)
    rw [h1] at h2; exact h2)
  rw [hc] at HN0
  rw [← hpi] at HN0
  have HN0 := Lib.hid HN0
  clear h hp hm hc hpi hp1
  rcases hcc with rfl | rfl
  · go_enter Tryz.func96, Tryz.ntmps96
    go_wp2_with fail
    refine (HN0.out).mono ?_
    rintro e9 w1 ⟨rfl, hA, hO⟩
    have HA1 := Lib.hid hA; have HO1 := Lib.hid hO
    clear hA hO
    have z1 : w1.cell? ⟨g, 1, none⟩ = some (.int .i64 pi) := HA1.out.cell 1 _ rfl
    go_wp2_with fail
    refine (failO g s _ o x _ 3 _ HA1.out).mono ?_
    rintro e9 w2 ⟨rfl, hA2, hO2⟩
    have H2 := Lib.hid (H0.out.next (r' := .no 3 p) HLT.out (HO1.out.tr hO2) ⟨_, hA2⟩)
    clear hA2 hO2 z1
    go_wp2_with fail
    refine (in_any 42 brkS _ (by decide)).mono ?_
    rintro e9 w9 ⟨b, rfl, hb, rfl⟩
    obtain rfl : b = false := by
      rw [← Bool.not_eq_true, hb, inT_bl, brkS_bl]; decide
    clear hb
    go_wp2_with fail
    refine (refOf_oneI _ w9.heap.size (42) (by decide) (by decide) (AtG.new w9 _ _)).mono ?_
    rintro e9 wo ⟨rfl, hb⟩
    have HWO := Lib.hid ((H2.out.al (.cells #[.int .u8 (42)] 5)).below hb)
    clear hb
    go_wp2_with fail
    refine (one_any (fun y => y == (42 : Int).toNat) _).mono ?_
    rintro e9 wn ⟨rfl, hb⟩
    have HN := Lib.hid (HWO.out.below hb)
    have HSZ := Lib.hid (show w.heap.size < wn.heap.size from HN.out.cell.lt)
    clear hb
    have d0 : wn.cell? ⟨w.heap.size, 0, none⟩ = some (.int .i64 0) := (HN.out.cell).cell 0 _ rfl
    have d1 : wn.cell? ⟨w.heap.size, 1, none⟩ = some (.int .u64 0) := (HN.out.cell).cell 1 _ rfl
    have d2 : wn.cell? ⟨w.heap.size, 2, none⟩ = some (.int .u64 0) := (HN.out.cell).cell 2 _ rfl
    have d3 : wn.cell? ⟨w.heap.size, 3, none⟩ = some (.int .u64 0) := (HN.out.cell).cell 3 _ rfl
    have d4 : wn.cell? ⟨w.heap.size, 4, none⟩ = some (.int .u64 0) := (HN.out.cell).cell 4 _ rfl
    have d5 : wn.cell? ⟨w.heap.size, 5, none⟩ = some (.int .i64 0) := (HN.out.cell).cell 5 _ rfl
    have d6 : wn.cell? ⟨w.heap.size, 6, none⟩ = some (.int .i64 0) := (HN.out.cell).cell 6 _ rfl
    have d7 : wn.cell? ⟨w.heap.size, 7, none⟩ = some (.slice none 0 0) := (HN.out.cell).cell 7 _ rfl
    have f0 := (HN.out.cell).frozen 0; have f1 := (HN.out.cell).frozen 1; have f2 := (HN.out.cell).frozen 2; have f3 := (HN.out.cell).frozen 3
    have f4 := (HN.out.cell).frozen 4; have f5 := (HN.out.cell).frozen 5; have f6 := (HN.out.cell).frozen 6; have f7 := (HN.out.cell).frozen 7
    unfold nodeV one
    dsimp only
    go_wp2_with fail
    refine bodyPost_ret (v := nodeV (one (fun y => y == (42 : Int).toNat)) (.slice none 0 0)) (by simp [results, Tryz.results96, go_sem, d0, d1, d2, d3, d4, d5, d6, d7]; try rfl) rfl ?_
    exact node_post (r := .no 3 p) HPP.out (StR.ununit HN.out.st) HN.out.only HLT.out HSZ.out (kat_one _ _ _ _ _ _) (fun _ _ h => by cases h)
  · go_enter Tryz.func96, Tryz.ntmps96
    go_wp2_with fail
    refine (HN0.out).mono ?_
    rintro e9 w1 ⟨rfl, hA, hO⟩
    have HA1 := Lib.hid hA; have HO1 := Lib.hid hO
    clear hA hO
    have z1 : w1.cell? ⟨g, 1, none⟩ = some (.int .i64 pi) := HA1.out.cell 1 _ rfl
    go_wp2_with fail
    refine (failO g s _ o x _ 3 _ HA1.out).mono ?_
    rintro e9 w2 ⟨rfl, hA2, hO2⟩
    have H2 := Lib.hid (H0.out.next (r' := .no 3 p) HLT.out (HO1.out.tr hO2) ⟨_, hA2⟩)
    clear hA2 hO2 z1
    go_wp2_with fail
    refine (in_any 43 brkS _ (by decide)).mono ?_
    rintro e9 w9 ⟨b, rfl, hb, rfl⟩
    obtain rfl : b = false := by
      rw [← Bool.not_eq_true, hb, inT_bl, brkS_bl]; decide
    clear hb
    go_wp2_with fail
    refine (refOf_oneI _ w9.heap.size (43) (by decide) (by decide) (AtG.new w9 _ _)).mono ?_
    rintro e9 wo ⟨rfl, hb⟩
    have HWO := Lib.hid ((H2.out.al (.cells #[.int .u8 (43)] 5)).below hb)
    clear hb
    go_wp2_with fail
    refine (one_any (fun y => y == (43 : Int).toNat) _).mono ?_
    rintro e9 wn ⟨rfl, hb⟩
    have HN := Lib.hid (HWO.out.below hb)
    have HSZ := Lib.hid (show w.heap.size < wn.heap.size from HN.out.cell.lt)
    clear hb
    have d0 : wn.cell? ⟨w.heap.size, 0, none⟩ = some (.int .i64 0) := (HN.out.cell).cell 0 _ rfl
    have d1 : wn.cell? ⟨w.heap.size, 1, none⟩ = some (.int .u64 0) := (HN.out.cell).cell 1 _ rfl
    have d2 : wn.cell? ⟨w.heap.size, 2, none⟩ = some (.int .u64 0) := (HN.out.cell).cell 2 _ rfl
    have d3 : wn.cell? ⟨w.heap.size, 3, none⟩ = some (.int .u64 0) := (HN.out.cell).cell 3 _ rfl
    have d4 : wn.cell? ⟨w.heap.size, 4, none⟩ = some (.int .u64 0) := (HN.out.cell).cell 4 _ rfl
    have d5 : wn.cell? ⟨w.heap.size, 5, none⟩ = some (.int .i64 0) := (HN.out.cell).cell 5 _ rfl
    have d6 : wn.cell? ⟨w.heap.size, 6, none⟩ = some (.int .i64 0) := (HN.out.cell).cell 6 _ rfl
    have d7 : wn.cell? ⟨w.heap.size, 7, none⟩ = some (.slice none 0 0) := (HN.out.cell).cell 7 _ rfl
    have f0 := (HN.out.cell).frozen 0; have f1 := (HN.out.cell).frozen 1; have f2 := (HN.out.cell).frozen 2; have f3 := (HN.out.cell).frozen 3
    have f4 := (HN.out.cell).frozen 4; have f5 := (HN.out.cell).frozen 5; have f6 := (HN.out.cell).frozen 6; have f7 := (HN.out.cell).frozen 7
    unfold nodeV one
    dsimp only
    go_wp2_with fail
    refine bodyPost_ret (v := nodeV (one (fun y => y == (43 : Int).toNat)) (.slice none 0 0)) (by simp [results, Tryz.results96, go_sem, d0, d1, d2, d3, d4, d5, d6, d7]; try rfl) rfl ?_
    exact node_post (r := .no 3 p) HPP.out (StR.ununit HN.out.st) HN.out.only HLT.out HSZ.out (kat_one _ _ _ _ _ _) (fun _ _ h => by cases h)
set_option maxRecDepth 100000 in
set_option maxHeartbeats 1600000 in
theorem atom_brk (g : Nat) (s : ByteArray) (p o : Nat) (x : Int) (w : World) (h : AtG w g 114 (rdr s p o 0 x)) (hp : p ≤ s.size) (hm : s.size ≤ 1000) (c : Int) (hc : ch s p = c) (h0 : 0 ≤ c) (n1 : c ≠ 40) (n2 : c ≠ 91) (n3 : c ≠ 46) (n4 : c ≠ 92) (n5 : c ≠ 42) (n6 : c ≠ 43) (hb9 : c ∈ brk) :
    Calls Tryz.prog 96 #[.pointer (some ⟨g, 0, none⟩)] w (NPost s g o x w .atom p) := by
  have HM := Lib.hid hm; have HLT := Lib.hid h.lt; have H0 := Lib.hid (atM_start h)
  have HN0 := next_ch g s p o x _ (AtG.alloc h (.cells nodeZ 41)) (by omega) (by omega)
  have hp1 := ch_ge (s := s) (p := p) (by omega)
  obtain ⟨pi, hpi⟩ : ∃ pi : Int, pi = ((p + 1 : Nat) : Int) := ⟨_, rfl⟩
  have hpi2 : pi - 1 = (p : Int) := by omega
  have hpi3 : 0 ≤ pi - 1 := by omega
  have hpi4 : pi < 10000 := by omega
  have hl := ch_lt s p
  have HPP : Hid (P s .atom o p (.no 2 p)) := Lib.hid (by
    have h1 : atomF s p = .no 2 p := by
      unfold atomF; rw [hc, if_neg (by omega), if_neg n2, if_neg n3, if_neg n4, if_neg (by omega), if_pos hb9]
    have h2 : P s .atom o p (atomF s p) := P.plain (by omega)
    rw [h1] at h2; exact h2)
  rw [hc] at HN0 hl
  rw [← hpi] at HN0
  have HN0 := Lib.hid HN0
  have HB9 := Lib.hid hb9
  have e1 : (c == 40) = false := by rw [beq_eq_false_iff_ne]; exact n1
  have e2 : (c == 91) = false := by rw [beq_eq_false_iff_ne]; exact n2
  have e3 : (c == 46) = false := by rw [beq_eq_false_iff_ne]; exact n3
  have e4 : (c == 92) = false := by rw [beq_eq_false_iff_ne]; exact n4
  have e5 : (c == 42) = false := by rw [beq_eq_false_iff_ne]; exact n5
  have e6 : (c == 43) = false := by rw [beq_eq_false_iff_ne]; exact n6
  have hw8 : IntKind.u8.wrap c = c := by rw [IntKind.wrap_u8]; omega
  have hmx : max c 0 = c := by omega
  have HC0 := Lib.hid h0; have HC1 := Lib.hid hl.2
  clear h hp hm hc hpi hp1 hb9 n1 n2 n3 n4 n5 n6 hl
  go_enter Tryz.func96, Tryz.ntmps96
  go_wp2_with fail
  refine (HN0.out).mono ?_
  rintro e9 w1 ⟨rfl, hA, hO⟩
  have HA1 := Lib.hid hA; have HO1 := Lib.hid hO
  clear hA hO
  have z1 : w1.cell? ⟨g, 1, none⟩ = some (.int .i64 pi) := HA1.out.cell 1 _ rfl
  go_wp2_with fail
  refine (in_any c brkS _ (by decide)).mono ?_
  rintro e9 w9 ⟨b, rfl, hb, rfl⟩
  obtain rfl : b = true := by
    rw [hb, inT_bl, brkS_bl]; exact HB9.out
  clear hb
  go_wp2_with fail
  refine (failO g s _ o x _ 2 _ HA1.out).mono ?_
  rintro e9 w2 ⟨rfl, hA2, hO2⟩
  have H2 := Lib.hid (H0.out.next (r' := .no 2 p) HLT.out (HO1.out.tr hO2) ⟨_, hA2⟩)
  clear hA2 hO2 z1
  go_wp2_with fail
  refine (refOf_oneI _ w2.heap.size (c) (HC0.out) (HC1.out) (AtG.new w2 _ _)).mono ?_
  rintro e9 wo ⟨rfl, hb⟩
  have HWO := Lib.hid ((H2.out.al (.cells #[.int .u8 (c)] 5)).below hb)
  clear hb
  go_wp2_with fail
  refine (one_any (fun y => y == (c : Int).toNat) _).mono ?_
  rintro e9 wn ⟨rfl, hb⟩
  have HN := Lib.hid (HWO.out.below hb)
  have HSZ := Lib.hid (show w.heap.size < wn.heap.size from HN.out.cell.lt)
  clear hb
  have d0 : wn.cell? ⟨w.heap.size, 0, none⟩ = some (.int .i64 0) := (HN.out.cell).cell 0 _ rfl
  have d1 : wn.cell? ⟨w.heap.size, 1, none⟩ = some (.int .u64 0) := (HN.out.cell).cell 1 _ rfl
  have d2 : wn.cell? ⟨w.heap.size, 2, none⟩ = some (.int .u64 0) := (HN.out.cell).cell 2 _ rfl
  have d3 : wn.cell? ⟨w.heap.size, 3, none⟩ = some (.int .u64 0) := (HN.out.cell).cell 3 _ rfl
  have d4 : wn.cell? ⟨w.heap.size, 4, none⟩ = some (.int .u64 0) := (HN.out.cell).cell 4 _ rfl
  have d5 : wn.cell? ⟨w.heap.size, 5, none⟩ = some (.int .i64 0) := (HN.out.cell).cell 5 _ rfl
  have d6 : wn.cell? ⟨w.heap.size, 6, none⟩ = some (.int .i64 0) := (HN.out.cell).cell 6 _ rfl
  have d7 : wn.cell? ⟨w.heap.size, 7, none⟩ = some (.slice none 0 0) := (HN.out.cell).cell 7 _ rfl
  have f0 := (HN.out.cell).frozen 0; have f1 := (HN.out.cell).frozen 1; have f2 := (HN.out.cell).frozen 2; have f3 := (HN.out.cell).frozen 3
  have f4 := (HN.out.cell).frozen 4; have f5 := (HN.out.cell).frozen 5; have f6 := (HN.out.cell).frozen 6; have f7 := (HN.out.cell).frozen 7
  unfold nodeV one
  dsimp only
  go_wp2_with fail
  refine bodyPost_ret (v := nodeV (one (fun y => y == (c : Int).toNat)) (.slice none 0 0)) (by simp [results, Tryz.results96, go_sem, d0, d1, d2, d3, d4, d5, d6, d7]; try rfl) rfl ?_
  exact node_post (r := .no 2 p) HPP.out (StR.ununit HN.out.st) HN.out.only HLT.out HSZ.out (kat_one _ _ _ _ _ _) (fun _ _ h => by cases h)
set_option maxRecDepth 100000 in
set_option maxHeartbeats 1600000 in
theorem atom_lit (g : Nat) (s : ByteArray) (p o : Nat) (x : Int) (w : World) (h : AtG w g 114 (rdr s p o 0 x)) (hp : p ≤ s.size) (hm : s.size ≤ 1000) (c : Int) (hc : ch s p = c) (h0 : 0 ≤ c) (n1 : c ≠ 40) (n2 : c ≠ 91) (n3 : c ≠ 46) (n4 : c ≠ 92) (n5 : c ≠ 42) (n6 : c ≠ 43) (hb9 : c ∉ brk) :
    Calls Tryz.prog 96 #[.pointer (some ⟨g, 0, none⟩)] w (NPost s g o x w .atom p) := by
  have HM := Lib.hid hm; have HLT := Lib.hid h.lt; have H0 := Lib.hid (atM_start h)
  have HN0 := next_ch g s p o x _ (AtG.alloc h (.cells nodeZ 41)) (by omega) (by omega)
  have hp1 := ch_ge (s := s) (p := p) (by omega)
  obtain ⟨pi, hpi⟩ : ∃ pi : Int, pi = ((p + 1 : Nat) : Int) := ⟨_, rfl⟩
  have hpi2 : pi - 1 = (p : Int) := by omega
  have hpi3 : 0 ≤ pi - 1 := by omega
  have hpi4 : pi < 10000 := by omega
  have hl := ch_lt s p
  have HPP : Hid (P s .atom o p (.ok (one fun y => y == c.toNat) (p + 1))) := Lib.hid (by
    have h1 : atomF s p = .ok (one fun y => y == c.toNat) (p + 1) := by
      unfold atomF; rw [hc, if_neg (by omega), if_neg n2, if_neg n3, if_neg n4, if_neg (by omega), if_neg hb9]
    have h2 : P s .atom o p (atomF s p) := P.plain (by omega)
    rw [h1] at h2; exact h2)
  rw [hc] at HN0 hl
  have HN0 := Lib.hid HN0
  have HB9 := Lib.hid hb9
  have e1 : (c == 40) = false := by rw [beq_eq_false_iff_ne]; exact n1
  have e2 : (c == 91) = false := by rw [beq_eq_false_iff_ne]; exact n2
  have e3 : (c == 46) = false := by rw [beq_eq_false_iff_ne]; exact n3
  have e4 : (c == 92) = false := by rw [beq_eq_false_iff_ne]; exact n4
  have e5 : (c == 42) = false := by rw [beq_eq_false_iff_ne]; exact n5
  have e6 : (c == 43) = false := by rw [beq_eq_false_iff_ne]; exact n6
  have hw8 : IntKind.u8.wrap c = c := by rw [IntKind.wrap_u8]; omega
  have hmx : max c 0 = c := by omega
  have HC0 := Lib.hid h0; have HC1 := Lib.hid hl.2
  clear h hp hm hc hpi hp1 hb9 n1 n2 n3 n4 n5 n6 hl
  go_enter Tryz.func96, Tryz.ntmps96
  go_wp2_with fail
  refine (HN0.out).mono ?_
  rintro e9 w1 ⟨rfl, hA, hO⟩
  have H1 := Lib.hid (H0.out.next (r' := .ok () (p + 1)) HLT.out hO hA)
  clear hA hO
  go_wp2_with fail
  refine (in_any c brkS _ (by decide)).mono ?_
  rintro e9 w9 ⟨b, rfl, hb, rfl⟩
  obtain rfl : b = false := by
    rw [← Bool.not_eq_true, hb, inT_bl, brkS_bl]; exact HB9.out
  clear hb
  go_wp2_with fail
  refine (refOf_oneI _ w9.heap.size (c) (HC0.out) (HC1.out) (AtG.new w9 _ _)).mono ?_
  rintro e9 wo ⟨rfl, hb⟩
  have HWO := Lib.hid ((H1.out.al (.cells #[.int .u8 (c)] 5)).below hb)
  clear hb
  go_wp2_with fail
  refine (one_any (fun y => y == (c : Int).toNat) _).mono ?_
  rintro e9 wn ⟨rfl, hb⟩
  have HN := Lib.hid (HWO.out.below hb)
  have HSZ := Lib.hid (show w.heap.size < wn.heap.size from HN.out.cell.lt)
  clear hb
  have d0 : wn.cell? ⟨w.heap.size, 0, none⟩ = some (.int .i64 0) := (HN.out.cell).cell 0 _ rfl
  have d1 : wn.cell? ⟨w.heap.size, 1, none⟩ = some (.int .u64 0) := (HN.out.cell).cell 1 _ rfl
  have d2 : wn.cell? ⟨w.heap.size, 2, none⟩ = some (.int .u64 0) := (HN.out.cell).cell 2 _ rfl
  have d3 : wn.cell? ⟨w.heap.size, 3, none⟩ = some (.int .u64 0) := (HN.out.cell).cell 3 _ rfl
  have d4 : wn.cell? ⟨w.heap.size, 4, none⟩ = some (.int .u64 0) := (HN.out.cell).cell 4 _ rfl
  have d5 : wn.cell? ⟨w.heap.size, 5, none⟩ = some (.int .i64 0) := (HN.out.cell).cell 5 _ rfl
  have d6 : wn.cell? ⟨w.heap.size, 6, none⟩ = some (.int .i64 0) := (HN.out.cell).cell 6 _ rfl
  have d7 : wn.cell? ⟨w.heap.size, 7, none⟩ = some (.slice none 0 0) := (HN.out.cell).cell 7 _ rfl
  have f0 := (HN.out.cell).frozen 0; have f1 := (HN.out.cell).frozen 1; have f2 := (HN.out.cell).frozen 2; have f3 := (HN.out.cell).frozen 3
  have f4 := (HN.out.cell).frozen 4; have f5 := (HN.out.cell).frozen 5; have f6 := (HN.out.cell).frozen 6; have f7 := (HN.out.cell).frozen 7
  unfold nodeV one
  dsimp only
  go_wp2_with fail
  refine bodyPost_ret (v := nodeV (one (fun y => y == (c : Int).toNat)) (.slice none 0 0)) (by simp [results, Tryz.results96, go_sem, d0, d1, d2, d3, d4, d5, d6, d7]; try rfl) rfl ?_
  exact node_post (r := .ok (one fun y => y == c.toNat) (p + 1)) HPP.out (StR.ununit HN.out.st) HN.out.only HLT.out HSZ.out (kat_one _ _ _ _ _ _) (fun _ _ h => by injection h)
end Go.Proofs.YtgjcibhhffkemaaGreatDoor
/- The document's Reader: atom, behind a backslash. -/
set_option linter.unusedVariables false
set_option linter.unusedSimpArgs false
namespace Go.Proofs.YtgjcibhhffkemaaGreatDoor
open Go.RowKit Bt
set_option maxRecDepth 100000 in
set_option maxHeartbeats 1600000 in
theorem atom_wide (g : Nat) (s : ByteArray) (p o : Nat) (x : Int) (w : World) (h : AtG w g 114 (rdr s p o 0 x)) (hp : p ≤ s.size) (hm : s.size ≤ 1000) (hc : ch s p = 92) (F : Nat → Bool) (hwd : wideF (ch s (p + 1)) = some F) :
    Calls Tryz.prog 96 #[.pointer (some ⟨g, 0, none⟩)] w (NPost s g o x w .atom p) := by
  have HM := Lib.hid hm; have HLT := Lib.hid h.lt; have H0 := Lib.hid (atM_start h)
  have HN0 := next_ch g s p o x _ (AtG.alloc h (.cells nodeZ 41)) (by omega) (by omega)
  have hp1 := ch_ge (s := s) (p := p) (by omega)
  obtain ⟨pi, hpi⟩ : ∃ pi : Int, pi = ((p + 1 : Nat) : Int) := ⟨_, rfl⟩
  have hpi2 : pi - 1 = (p : Int) := by omega
  have hpi3 : 0 ≤ pi - 1 := by omega
  have hpi4 : pi < 10000 := by omega
  have HPP : Hid (P s .atom o p (.ok (one F) (p + 2))) := Lib.hid (by
    have h1 : atomF s p = .ok (one F) (p + 2) := by unfold atomF; rw [hc, if_neg (by decide), if_neg (by decide), if_neg (by decide), if_pos rfl, hwd]
    have h2 : P s .atom o p (atomF s p) := P.plain (by omega)
    rw [h1] at h2; exact h2)
  rw [hc] at HN0
  rw [← hpi] at HN0
  have HN0 := Lib.hid HN0
  have HPK := Lib.hid (fun w h => peek_any g s (p + 1) o x w h)
  have hV : wideV (ch s (p + 1)) = .tuple #[setOf F, .bool true] := by unfold wideV; rw [hwd]
  have HWD : Hid (∀ w, Calls Tryz.prog 111 #[.int .i64 (ch s (p + 1))] w fun e w' => e = .returned (.tuple #[setOf F, .bool true]) ∧ Below w.heap.size w w') := Lib.hid (fun w => by rw [← hV]; exact wide_any _ w)
  have HP1 := Lib.hid hp1; have HPI := Lib.hid hpi
  rw [← hpi] at HPK
  clear h hp hm hc hpi hp1 hwd hV
  generalize ch s (p + 1) = d at *
  go_enter Tryz.func96, Tryz.ntmps96
  go_wp2_with fail
  refine (HN0.out).mono ?_
  rintro e9 w1 ⟨rfl, hA, hO⟩
  have HA1 := Lib.hid hA; have HO1 := Lib.hid (H0.out.next (r' := .ok () (p + 1)) HLT.out hO (by rw [HPI.out] at hA; exact hA))
  clear hA hO
  go_wp2_with fail
  refine (HPK.out _ HA1.out).mono ?_
  rintro e9 w2 ⟨rfl, hb⟩
  have HA2 := Lib.hid (HA1.out.below hb); have H2 := Lib.hid (HO1.out.below hb)
  clear hb
  go_wp2_with fail
  refine (HWD.out _).mono ?_
  rintro e9 w3 ⟨rfl, hb⟩
  have HA3 := Lib.hid (HA2.out.below hb); have H3 := Lib.hid (H2.out.below hb)
  have hg3 := HA3.out.lt
  clear hb
  have z1 : w3.cell? ⟨g, 1, none⟩ = some (.int .i64 pi) := HA3.out.cell 1 _ rfl
  have f1 := HA3.out.frozen 1
  have HPI2 : Hid (((p + 2 : Nat) : Int) = pi + 1) := Lib.hid (by have := HPI.out; omega)
  have H5 := Lib.hid ((H3.out.next (r' := .ok () (p + 2)) (o' := o) HLT.out ((Only.refl (S := fun k => k = g) w3).st g 1 (.int .i64 (pi + 1)) (.inl rfl)) (by show AtG _ g _ (rdr s ((p + 2 : Nat) : Int) o 0 x); rw [HPI2.out]; exact HA3.out.set 1 (.int .i64 (pi + 1)))).al (.cells (cellsOf F) 38))
  unfold setOf
  go_wp2_with fail
  refine (one_any (F) _).mono ?_
  rintro e9 wn ⟨rfl, hb⟩
  have HN := Lib.hid (H5.out.below hb)
  have HSZ := Lib.hid (show w.heap.size < wn.heap.size from HN.out.cell.lt)
  clear hb
  have d0 : wn.cell? ⟨w.heap.size, 0, none⟩ = some (.int .i64 0) := (HN.out.cell).cell 0 _ rfl
  have d1 : wn.cell? ⟨w.heap.size, 1, none⟩ = some (.int .u64 0) := (HN.out.cell).cell 1 _ rfl
  have d2 : wn.cell? ⟨w.heap.size, 2, none⟩ = some (.int .u64 0) := (HN.out.cell).cell 2 _ rfl
  have d3 : wn.cell? ⟨w.heap.size, 3, none⟩ = some (.int .u64 0) := (HN.out.cell).cell 3 _ rfl
  have d4 : wn.cell? ⟨w.heap.size, 4, none⟩ = some (.int .u64 0) := (HN.out.cell).cell 4 _ rfl
  have d5 : wn.cell? ⟨w.heap.size, 5, none⟩ = some (.int .i64 0) := (HN.out.cell).cell 5 _ rfl
  have d6 : wn.cell? ⟨w.heap.size, 6, none⟩ = some (.int .i64 0) := (HN.out.cell).cell 6 _ rfl
  have d7 : wn.cell? ⟨w.heap.size, 7, none⟩ = some (.slice none 0 0) := (HN.out.cell).cell 7 _ rfl
  have f0 := (HN.out.cell).frozen 0; have f1 := (HN.out.cell).frozen 1; have f2 := (HN.out.cell).frozen 2; have f3 := (HN.out.cell).frozen 3
  have f4 := (HN.out.cell).frozen 4; have f5 := (HN.out.cell).frozen 5; have f6 := (HN.out.cell).frozen 6; have f7 := (HN.out.cell).frozen 7
  unfold nodeV one
  dsimp only
  go_wp2_with fail
  refine bodyPost_ret (v := nodeV (one (F)) (.slice none 0 0)) (by simp [results, Tryz.results96, go_sem, d0, d1, d2, d3, d4, d5, d6, d7]; try rfl) rfl ?_
  exact node_post (r := .ok (one F) (p + 2)) HPP.out (StR.ununit HN.out.st) HN.out.only HLT.out HSZ.out (kat_one _ _ _ _ _ _) (fun _ _ h => by injection h)
set_option maxRecDepth 100000 in
set_option maxHeartbeats 1600000 in
theorem atom_esc (g : Nat) (s : ByteArray) (p o : Nat) (x : Int) (w : World) (h : AtG w g 114 (rdr s p o 0 x)) (hp : p ≤ s.size) (hm : s.size ≤ 1000) (hc : ch s p = 92) (hwd : wideF (ch s (p + 1)) = none) :
    Calls Tryz.prog 96 #[.pointer (some ⟨g, 0, none⟩)] w (NPost s g o x w .atom p) := by
  have HM := Lib.hid hm; have HLT := Lib.hid h.lt; have H0 := Lib.hid (atM_start h)
  have HN0 := next_ch g s p o x _ (AtG.alloc h (.cells nodeZ 41)) (by omega) (by omega)
  have hp1 := ch_ge (s := s) (p := p) (by omega)
  obtain ⟨pi, hpi⟩ : ∃ pi : Int, pi = ((p + 1 : Nat) : Int) := ⟨_, rfl⟩
  have hpi2 : pi - 1 = (p : Int) := by omega
  have hpi3 : 0 ≤ pi - 1 := by omega
  have hpi4 : pi < 10000 := by omega
  have HPP : Hid (P s .atom o p ((escF s (p + 1)).map fun c => one (fun y => y == c))) := Lib.hid (by
    have h1 : atomF s p = (escF s (p + 1)).map fun c => one (fun y => y == c) := by unfold atomF; rw [hc, if_neg (by decide), if_neg (by decide), if_neg (by decide), if_pos rfl, hwd]
    have h2 : P s .atom o p (atomF s p) := P.plain (by omega)
    rw [h1] at h2; exact h2)
  rw [hc] at HN0
  rw [← hpi] at HN0
  have HN0 := Lib.hid HN0
  have HPK := Lib.hid (fun w h => peek_any g s (p + 1) o x w h)
  have hV : wideV (ch s (p + 1)) = .tuple #[setOf emp, .bool false] := by unfold wideV; rw [hwd]
  have HWD : Hid (∀ w, Calls Tryz.prog 111 #[.int .i64 (ch s (p + 1))] w fun e w' => e = .returned (.tuple #[setOf emp, .bool false]) ∧ Below w.heap.size w w') := Lib.hid (fun w => by rw [← hV]; exact wide_any _ w)
  have HP1 := Lib.hid hp1; have HPI := Lib.hid hpi
  rw [← hpi] at HPK
  have HES := Lib.hid (fun w h => escaped_any g s (p + 1) o x w h hp1 hm)
  rw [← hpi] at HES
  clear h hp hm hc hpi hp1 hwd hV
  generalize ch s (p + 1) = d at *
  go_enter Tryz.func96, Tryz.ntmps96
  go_wp2_with fail
  refine (HN0.out).mono ?_
  rintro e9 w1 ⟨rfl, hA, hO⟩
  have HA1 := Lib.hid hA; have HO1 := Lib.hid (H0.out.next (r' := .ok () (p + 1)) HLT.out hO (by rw [HPI.out] at hA; exact hA))
  clear hA hO
  go_wp2_with fail
  refine (HPK.out _ HA1.out).mono ?_
  rintro e9 w2 ⟨rfl, hb⟩
  have HA2 := Lib.hid (HA1.out.below hb); have H2 := Lib.hid (HO1.out.below hb)
  clear hb
  go_wp2_with fail
  refine (HWD.out _).mono ?_
  rintro e9 w3 ⟨rfl, hb⟩
  have HA3 := Lib.hid (HA2.out.below hb); have H3 := Lib.hid (H2.out.below hb)
  have hg3 := HA3.out.lt
  clear hb
  have HA4 := Lib.hid (HA3.out.alloc (.cells (cellsOf emp) 38)); have H4 := Lib.hid (H3.out.al (.cells (cellsOf emp) 38))
  unfold setOf
  go_wp2_with fail
  refine (HES.out _ HA4.out).mono ?_
  rintro e9 w5 ⟨hO5, hS, v, hv, rfl, hq⟩
  have H5 := Lib.hid (H4.out.next (r' := ((escF s (p + 1)).map fun c => one (fun y => y == c)).unit) HLT.out hO5 (StR.unit (StR.map _ hS)))
  have hv0 : (0 : Int) ≤ (v : Int) := by omega
  have hv1 : (v : Int) < 256 := by omega
  have HV0 := Lib.hid hv0; have HV1 := Lib.hid hv1; have HQ := Lib.hid hq
  clear hO5 hS hv hq hv0 hv1
  go_wp2_with fail
  refine (refOf_oneI _ w5.heap.size ((v : Int)) (HV0.out) (HV1.out) (AtG.new w5 _ _)).mono ?_
  rintro e9 wo ⟨rfl, hb⟩
  have HWO := Lib.hid ((H5.out.al (.cells #[.int .u8 ((v : Int))] 5)).below hb)
  clear hb
  go_wp2_with fail
  refine (one_any (fun y => y == ((v : Int) : Int).toNat) _).mono ?_
  rintro e9 wn ⟨rfl, hb⟩
  have HN := Lib.hid (HWO.out.below hb)
  have HSZ := Lib.hid (show w.heap.size < wn.heap.size from HN.out.cell.lt)
  clear hb
  have d0 : wn.cell? ⟨w.heap.size, 0, none⟩ = some (.int .i64 0) := (HN.out.cell).cell 0 _ rfl
  have d1 : wn.cell? ⟨w.heap.size, 1, none⟩ = some (.int .u64 0) := (HN.out.cell).cell 1 _ rfl
  have d2 : wn.cell? ⟨w.heap.size, 2, none⟩ = some (.int .u64 0) := (HN.out.cell).cell 2 _ rfl
  have d3 : wn.cell? ⟨w.heap.size, 3, none⟩ = some (.int .u64 0) := (HN.out.cell).cell 3 _ rfl
  have d4 : wn.cell? ⟨w.heap.size, 4, none⟩ = some (.int .u64 0) := (HN.out.cell).cell 4 _ rfl
  have d5 : wn.cell? ⟨w.heap.size, 5, none⟩ = some (.int .i64 0) := (HN.out.cell).cell 5 _ rfl
  have d6 : wn.cell? ⟨w.heap.size, 6, none⟩ = some (.int .i64 0) := (HN.out.cell).cell 6 _ rfl
  have d7 : wn.cell? ⟨w.heap.size, 7, none⟩ = some (.slice none 0 0) := (HN.out.cell).cell 7 _ rfl
  have f0 := (HN.out.cell).frozen 0; have f1 := (HN.out.cell).frozen 1; have f2 := (HN.out.cell).frozen 2; have f3 := (HN.out.cell).frozen 3
  have f4 := (HN.out.cell).frozen 4; have f5 := (HN.out.cell).frozen 5; have f6 := (HN.out.cell).frozen 6; have f7 := (HN.out.cell).frozen 7
  unfold nodeV one
  dsimp only
  go_wp2_with fail
  refine bodyPost_ret (v := nodeV (one (fun y => y == ((v : Int) : Int).toNat)) (.slice none 0 0)) (by simp [results, Tryz.results96, go_sem, d0, d1, d2, d3, d4, d5, d6, d7]; try rfl) rfl ?_
  exact node_post (r := (escF s (p + 1)).map fun c => one (fun y => y == c)) HPP.out (StR.ununit HN.out.st) HN.out.only HLT.out HSZ.out (kat_one _ _ _ _ _ _) (fun t' q' h => by cases hes : escF s (p + 1) with | ok a q => rw [hes] at h; have := HQ.out a q hes; subst this; injection h | no c y => rw [hes] at h; cases h)
end Go.Proofs.YtgjcibhhffkemaaGreatDoor
