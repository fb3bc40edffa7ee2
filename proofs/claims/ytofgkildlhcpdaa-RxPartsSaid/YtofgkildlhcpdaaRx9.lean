/- The program's reader of patterns: many, group, atoms. -/
import Derived.Test.YtofgkildlhcpdaaRx8
set_option linter.unusedVariables false
set_option linter.unusedSimpArgs false
namespace Go.Proofs.Ytofgkildlhcpdaa
open Go.RowKit Bt
theorem manyX_one (op : Int) (b cap : Nat) (t : Tree) (a' : Option Addr) (n' c' : Nat) (w : World) (h : ∀ i, i < 8 → w.cell? ⟨b, i, none⟩ = (nodeL t (.slice a' n' c'))[i]?) :
    Calls Try.prog 68 #[.int .i64 op, .slice (some ⟨b, 0, none⟩) 1 cap] w fun e w' => e = .returned (nodeV t (.slice a' n' c')) ∧ Below w.heap.size w w' := by
  obtain ⟨op', f, mn, mx, kids⟩ := t
  have hb : b < w.heap.size := World.block_lt_of_cell? w _ (h 0 (by omega))
  have hne : ¬ b = w.heap.size := by omega
  have z0 : w.cell? ⟨b, 0, none⟩ = some (.int .i64 op') := h 0 (by omega)
  have z1 : w.cell? ⟨b, 1, none⟩ = some (.int .u64 ((wd f 0 : Nat) : Int)) := h 1 (by omega)
  have z2 : w.cell? ⟨b, 2, none⟩ = some (.int .u64 ((wd f 1 : Nat) : Int)) := h 2 (by omega)
  have z3 : w.cell? ⟨b, 3, none⟩ = some (.int .u64 ((wd f 2 : Nat) : Int)) := h 3 (by omega)
  have z4 : w.cell? ⟨b, 4, none⟩ = some (.int .u64 ((wd f 3 : Nat) : Int)) := h 4 (by omega)
  have z5 : w.cell? ⟨b, 5, none⟩ = some (.int .i64 mn) := h 5 (by omega)
  have z6 : w.cell? ⟨b, 6, none⟩ = some (.int .i64 mx) := h 6 (by omega)
  have z7 : w.cell? ⟨b, 7, none⟩ = some (.slice a' n' c') := h 7 (by omega)
  clear h
  unfold nodeV
  dsimp only
  go_enter Try.func68, Try.ntmps68
  go_wp2
  go_returns
  exact ⟨rfl, by go_grown⟩
theorem manyX_more (op : Int) (a : Option Addr) (n cap : Nat) (w : World) (h : n ≠ 1) (hn : n ≤ 1000) :
    Calls Try.prog 68 #[.int .i64 op, .slice a n cap] w fun e w' => e = .returned (.agg #[.int .i64 op, .int .u64 0, .int .u64 0, .int .u64 0, .int .u64 0, .int .i64 0, .int .i64 0, .slice a n cap]) ∧ Below w.heap.size w w' := by
  have e1 : ((n : Int) == 1) = false := by rw [beq_eq_false_iff_ne]; omega
  have h1 : ¬ (n : Int) = 1 := by omega
  go_enter Try.func68, Try.ntmps68
  go_wp2
  go_returns
  exact ⟨rfl, by go_grown⟩
theorem manyX_any (op : Int) (lo n : Nat) (v : Value) (ps : List (Tree × Value)) (w : World) (h : w.ownsRow lo 29 8 v n (flatN ps)) (ha : AllK (IvB lo w.heap.size v) w ps) (hn : ps ≠ []) (hl : ps.length ≤ 1000) :
    Calls Try.prog 68 #[.int .i64 op, v] w fun e w' => Below w.heap.size w w' ∧ ∃ kv, e = .returned (nodeV (many op (ps.map (·.1))) kv) ∧ KAt (Iv lo w.heap.size) w (many op (ps.map (·.1))) kv := by
  obtain ⟨b, cap, rfl, hcap, hlo, hhi, hob, hr⟩ := own_kids h ha hn
  clear hr
  match ps, hn with
  | [(t, kv)], _ =>
    have hk := ha (t, kv) (by simp)
    obtain ⟨a', n', c', rfl⟩ : ∃ a n c, kv = .slice a n c := by
      cases t with
      | node op' f mn mx kids => obtain ⟨a, c, h⟩ := KAt.slice hk; exact ⟨a, _, c, h⟩
    refine (manyX_one op b cap t a' n' c' w ?_).mono (by rintro e w' ⟨rfl, hb⟩; exact ⟨hb, _, rfl, hk.mono fun x hx => hx.1⟩)
    intro i hi
    obtain ⟨g, cap', cur, heq, hb, hh, hnc, hcm, hcs, hct⟩ := h.2.resolve_left (by rintro ⟨h, _⟩; cases h)
    injection heq with e1 e2 e3
    injection e1 with e1
    injection e1 with e1
    subst e1
    rw [flatN_one] at hct
    generalize nodeL t (.slice a' n' c') = L at hct ⊢
    rw [← hct, List.getElem?_take, if_pos (by simp at e2; omega)]
    simp [World.cell?, hh]
  | p :: q :: r, _ =>
    refine (manyX_more op _ _ cap w (by simp) hl).mono ?_
    rintro e w' ⟨rfl, hb⟩
    refine ⟨hb, .slice (some ⟨b, 0, none⟩) (p :: q :: r).length cap, ?_, ?_⟩
    · show Ending.returned _ = Ending.returned (.agg #[.int .i64 op, .int .u64 ((wd emp 0 : Nat) : Int), .int .u64 ((wd emp 1 : Nat) : Int), .int .u64 ((wd emp 2 : Nat) : Int), .int .u64 ((wd emp 3 : Nat) : Int), .int .i64 0, .int .i64 0, _])
      unfold emp; simp only [wd_none]; rfl
    · show KAt _ w (.node op emp 0 0 ((p :: q :: r).map (·.1))) _
      rw [KAt]
      refine .inr ⟨by simp, by simpa using hl, b, 0, cap, by simp, by simpa using hcap, ⟨hlo, hhi⟩, ?_⟩
      obtain ⟨b', cap', heq, _, _, _, hob', hr'⟩ := own_kids h ha (by simp)
      injection heq with e1 e2 e3
      injection e1 with e1
      injection e1 with e1
      subst e1
      refine KRow.mk _ _ _ fun j t hj => ?_
      obtain ⟨kv, h1, h2⟩ := KRow.get _ _ _ _ _ hr' hj
      exact ⟨kv, h1, h2.mono fun x hx => hx.1⟩
/-- what the reader does with a pattern from a place on -/
def PatCx (s : ByteArray) (p o : Nat) : Prop := ∀ (g : Nat) (w : World), AtG w g 85 (rxr s (p : Int) (o : Int)) → Calls Try.prog 60 #[.pointer (some ⟨g, 0, none⟩)] w fun e w' => ∃ r, P s .pat o p r ∧ RxN g s o w r e w'
theorem rxn_no {g : Nat} {s : ByteArray} {o c : Nat} {w w1 w2 : World} {C : Int} {b : Nat} (ho : Only (fun k => k = g) w w2) (hx : AtG w2 b 82 #[.int .i64 (c : Int), .int .i64 C]) :
    RxN g s o w (.no C c) (.panicked [{ v := .iface 79 (.pointer (some ⟨b, 0, none⟩)), recovered := false }]) w2 := ⟨ho, b, rfl, hx⟩
set_option maxRecDepth 100000 in
set_option maxHeartbeats 3200000 in
theorem groupX (g : Nat) (s : ByteArray) (p o : Nat) (w : World) (h : AtG w g 85 (rxr s ((p + 1 : Nat) : Int) (o : Int))) (hp : p < s.size) (hs : s.size ≤ 900) (h40 : ch s p = 40) (ho20 : o ≤ 20) (HP : o ≠ 20 → PatCx s (p + 1) (o + 1)) :
    Calls Try.prog 85 #[.pointer (some ⟨g, 0, none⟩)] w fun e w' => ∃ r, P s .atom o p r ∧ RxN g s o w r e w' := by
  have HS := Lib.hid hs; have HPL := Lib.hid hp; have H40 := Lib.hid h40
  have HG := Lib.hid (show ¬ w.heap.size = g by have := h.lt; omega)
  have HGL := Lib.hid h.lt
  have HA0 := Lib.hid (h.alloc (.cells nodeZ 29))
  have HZ0 := Lib.hid (AtG.new w 29 nodeZ)
  have HO0 := Lib.hid ((Only.refl (S := fun k => k = g) w).al (.cells nodeZ 29))
  obtain ⟨W, hW⟩ : ∃ W : World, W = w.alloc (.cells nodeZ 29) := ⟨_, rfl⟩
  rw [← hW] at HA0 HZ0 HO0
  have HW1 : Hid (W.heap.size = w.heap.size + 1) := Lib.hid (by rw [hW]; simp)
  have hW' : w.alloc (.cells #[.int .i64 0, .int .u64 0, .int .u64 0, .int .u64 0, .int .u64 0, .int .i64 0, .int .i64 0, .slice none 0 0] 29) = W := hW.symm
  have z1 : W.cell? ⟨g, 1, none⟩ = some (.int .i64 ((p + 1 : Nat) : Int)) := HA0.out.cell 1 _ rfl
  rw [show ((p + 1 : Nat) : Int) = (p : Int) + 1 from by omega] at z1
  have z2 : W.cell? ⟨g, 2, none⟩ = some (.int .i64 (o : Int)) := HA0.out.cell 2 _ rfl
  have y2 := HA0.out.frozen 2
  have hpI : (p : Int) < 1000 := by omega
  clear hW h hp h40
  by_cases h20 : o = 20
  · subst h20
    have HP4 := Lib.hid (P.deep (s := s) (o := 20) H40.out rfl)
    clear HP
    go_enter Try.func85, Try.ntmps85
    go_wp2_with fail
    refine (failX g p 4 _).mono ?_
    rintro e9 w2 ⟨hb2, b, rfl, hx⟩
    exact ⟨rfl, _, HP4.out, HO0.out.tb hb2, b, rfl, hx⟩
  · have hoI : ¬ (o : Int) = 20 := by omega
    have e20 : ((o : Int) == 20) = false := by rw [beq_eq_false_iff_ne]; exact hoI
    have ho2 : (o : Int) < 20 := by omega
    have HO1 := Lib.hid (HO0.out.st g 2 (.int .i64 ((o : Int) + 1)) (.inl rfl))
    have HZ1 := Lib.hid (HZ0.out.far (p := ⟨g, 2, none⟩) (fun e => HG.out e) (.int .i64 ((o : Int) + 1)))
    have HA1 : Hid (AtG (W.setCell ⟨g, 2, none⟩ (.int .i64 ((o : Int) + 1))) g 85 (rxr s ((p + 1 : Nat) : Int) ((o + 1 : Nat) : Int))) := Lib.hid (by
      rw [show ((o + 1 : Nat) : Int) = (o : Int) + 1 from by omega]; exact HA0.out.set 2 _)
    have HSZ1 : Hid ((W.setCell ⟨g, 2, none⟩ (.int .i64 ((o : Int) + 1))).heap.size = w.heap.size + 1) := Lib.hid (by simp [HW1.out])
    have HC := Lib.hid (HP h20 g _ HA1.out)
    have HO20 := Lib.hid h20
    clear HP h20 HA0
    go_enter Try.func85, Try.ntmps85
    go_wp2_with fail
    refine (HC.out).mono ?_
    rintro e9 w2 ⟨r, hPr, ho, hr⟩
    have HPS := Lib.hid (P.sub (s := s) (o := o) (p := p) H40.out HO20.out hPr)
    have hin := P.in hPr HPL.out
    have HO2 := Lib.hid (HO1.out.tr ho); have HZ2 := Lib.hid (HZ1.out.only ho HG.out)
    clear hW' z1 z2 y2 HC HO1 HZ1 HA1 hPr
    cases r with
    | no c x =>
      obtain ⟨b, rfl, hx⟩ := hr
      exact ⟨rfl, _, HPS.out, HO2.out, b, rfl, hx⟩
    | ok t q =>
      obtain ⟨kv, rfl, hk, ha⟩ := hr
      rw [HSZ1.out] at hk
      obtain ⟨op, f, mn, mx, kids⟩ := t
      obtain ⟨ka, kc, rfl⟩ := KAt.slice hk
      have hq : q ≤ s.size := hin.2
      have HQ := Lib.hid hq
      have HA2 := Lib.hid ha; have HK2 := Lib.hid hk
      have HWT := Lib.hid (fun (w1 : World) (h1 : AtG w1 g 85 (rxr s (q : Int) ((o + 1 : Nat) : Int))) => wantX g s q (o + 1) 41 w1 h1 hq (by have := HS.out; omega) (by decide))
      have HGL2 := Lib.hid (show ¬ w2.heap.size = g by have := ha.lt; omega)
      have HQI := Lib.hid (show (q : Int) < 1000 by have := HS.out; omega)
      clear ha hk hin ho hq HSZ1
      unfold nodeV
      dsimp only
      go_upto_region 5 with (fail)
      obtain ⟨W3, hW3⟩ : ∃ W3 : World, W3 = w2.alloc (.cells (nodeC op f mn mx (.slice ka kids.length kc)) 29) := ⟨_, rfl⟩
      have hW3' : w2.alloc (.cells #[.int .i64 op, .int .u64 ((wd f 0 : Nat) : Int), .int .u64 ((wd f 1 : Nat) : Int), .int .u64 ((wd f 2 : Nat) : Int), .int .u64 ((wd f 3 : Nat) : Int), .int .i64 mn, .int .i64 mx, .slice ka kids.length kc] 29) = W3 := hW3.symm
      have HN3 : Hid (AtG W3 w2.heap.size 29 (nodeC op f mn mx (.slice ka kids.length kc))) := Lib.hid (by rw [hW3]; exact AtG.new _ _ _)
      have HA3 : Hid (AtG W3 g 85 (rxr s (q : Int) ((o + 1 : Nat) : Int))) := Lib.hid (by rw [hW3]; exact HA2.out.alloc _)
      have HZ3 : Hid (AtG W3 w.heap.size 29 nodeZ) := Lib.hid (by rw [hW3]; exact HZ2.out.alloc _)
      have HO3 : Hid (Only (fun k => k = g) w W3) := Lib.hid (by rw [hW3]; exact HO2.out.al _)
      have HK3 : Hid (KAt (Iv (w.heap.size + 1) W3.heap.size) W3 (.node op f mn mx kids) (.slice ka kids.length kc)) := Lib.hid (by
        rw [hW3]; exact KAt.below HK2.out ((Below.refl _ _).alloc (Nat.le_refl _) _) (by simp))
      have HSB : Hid (w.heap.size < w2.heap.size) := Lib.hid HZ2.out.lt
      rw [hW3']
      clear hW3 hW3' HA2 HZ2 HO2 HK2
      have HWC := Lib.hid (HWT.out _ HA3.out)
      have HWF := Lib.hid (show wantF s 41 q = if ch s q = 41 then .ok () (q + 1) else .no 2 q from rfl)
      have HCF := Lib.hid (show closeF s (.ok (Tree.node op f mn mx kids) q) = if ch s q = 41 then .ok (Tree.node op f mn mx kids) (q + 1) else .no 2 q from rfl)
      go_wp2_with fail
      refine (HWC.out).mono ?_
      by_cases h41 : ch s q = 41
      · rw [HWF.out, if_pos h41]
        have HPP := Lib.hid (show P s .atom o p (.ok (Tree.node op f mn mx kids) (q + 1)) by have := HPS.out; rw [HCF.out, if_pos h41] at this; exact this)
        rintro e9 w4 ⟨ho, rfl, ha⟩
        have HA4 := Lib.hid ha; have HO4 := Lib.hid (HO3.out.tr ho); have HZ4 := Lib.hid (HZ3.out.only ho HG.out); have HN4 := Lib.hid (HN3.out.only ho HGL2.out)
        have HK4 := Lib.hid (KAt.only (D := Iv (w.heap.size + 1) W3.heap.size) HK3.out ho (fun b hb => ⟨hb.2, fun e => by have := hb.1; have := HGL.out; have e2 : b = g := e; omega⟩))
        have HSZ4 := Lib.hid ho.size
        clear ho ha h41 HWC HWT HWF HCF HPS HA3 HO3 HZ3 HN3 HK3
        have z2 : w4.cell? ⟨g, 2, none⟩ = some (.int .i64 ((o + 1 : Nat) : Int)) := HA4.out.cell 2 _ rfl
        rw [show ((o + 1 : Nat) : Int) = (o : Int) + 1 from by omega] at z2
        have y2 := HA4.out.frozen 2
        have ho1 : (o : Int) + 1 - 1 = (o : Int) := by omega
        have HA5 : Hid (AtG (w4.setCell ⟨g, 2, none⟩ (.int .i64 (o : Int))) g 85 (rxr s ((q + 1 : Nat) : Int) (o : Int))) := Lib.hid (HA4.out.set 2 _)
        have HZ5 := Lib.hid (HZ4.out.far (p := ⟨g, 2, none⟩) (fun e => HG.out e) (.int .i64 (o : Int)))
        have HN5 := Lib.hid (HN4.out.far (p := ⟨g, 2, none⟩) (fun e => HGL2.out e) (.int .i64 (o : Int)))
        have HO5 := Lib.hid (HO4.out.st g 2 (.int .i64 (o : Int)) (.inl rfl))
        have HK5 := Lib.hid (KAt.only (S := fun k => k = g) HK4.out (Only.set (S := fun k => k = g) w4 g 2 (.int .i64 (o : Int)) rfl) (fun b hb => ⟨by have := hb.2; have := HSZ4.out; omega, fun e => by have := hb.1; have := HGL.out; have e2 : b = g := e; omega⟩))
        go_upto_region 7 with (fail)
        obtain ⟨wq, hwq⟩ : ∃ wq : World, wq = w4.setCell ⟨g, 2, none⟩ (.int .i64 (o : Int)) := ⟨_, rfl⟩
        rw [← hwq] at HA5 HZ5 HN5 HO5 HK5 ⊢
        have HSZ5 : Hid (W3.heap.size ≤ wq.heap.size) := Lib.hid (by rw [hwq]; simpa using HSZ4.out)
        clear hwq z2 y2 HA4 HZ4 HN4 HO4 HK4
        have hn1 : ¬ w2.heap.size = w.heap.size := by have := HSB.out; omega
        have hn2 : ¬ w.heap.size = w2.heap.size := by have := HSB.out; omega
        have a0 : (wq).cell? ⟨w2.heap.size, 0, none⟩ = some (.int .i64 op) := (HN5.out).cell 0 _ rfl
        have a1 : (wq).cell? ⟨w2.heap.size, 1, none⟩ = some (.int .u64 ((wd f 0 : Nat) : Int)) := (HN5.out).cell 1 _ rfl
        have a2 : (wq).cell? ⟨w2.heap.size, 2, none⟩ = some (.int .u64 ((wd f 1 : Nat) : Int)) := (HN5.out).cell 2 _ rfl
        have a3 : (wq).cell? ⟨w2.heap.size, 3, none⟩ = some (.int .u64 ((wd f 2 : Nat) : Int)) := (HN5.out).cell 3 _ rfl
        have a4 : (wq).cell? ⟨w2.heap.size, 4, none⟩ = some (.int .u64 ((wd f 3 : Nat) : Int)) := (HN5.out).cell 4 _ rfl
        have a5 : (wq).cell? ⟨w2.heap.size, 5, none⟩ = some (.int .i64 mn) := (HN5.out).cell 5 _ rfl
        have a6 : (wq).cell? ⟨w2.heap.size, 6, none⟩ = some (.int .i64 mx) := (HN5.out).cell 6 _ rfl
        have a7 : (wq).cell? ⟨w2.heap.size, 7, none⟩ = some (.slice ka kids.length kc) := (HN5.out).cell 7 _ rfl
        have d0 : wq.cell? ⟨w.heap.size, 0, none⟩ = some (.int .i64 0) := (HZ5.out).cell 0 _ rfl
        have d1 : wq.cell? ⟨w.heap.size, 1, none⟩ = some (.int .u64 0) := (HZ5.out).cell 1 _ rfl
        have d2 : wq.cell? ⟨w.heap.size, 2, none⟩ = some (.int .u64 0) := (HZ5.out).cell 2 _ rfl
        have d3 : wq.cell? ⟨w.heap.size, 3, none⟩ = some (.int .u64 0) := (HZ5.out).cell 3 _ rfl
        have d4 : wq.cell? ⟨w.heap.size, 4, none⟩ = some (.int .u64 0) := (HZ5.out).cell 4 _ rfl
        have d5 : wq.cell? ⟨w.heap.size, 5, none⟩ = some (.int .i64 0) := (HZ5.out).cell 5 _ rfl
        have d6 : wq.cell? ⟨w.heap.size, 6, none⟩ = some (.int .i64 0) := (HZ5.out).cell 6 _ rfl
        have d7 : wq.cell? ⟨w.heap.size, 7, none⟩ = some (.slice none 0 0) := (HZ5.out).cell 7 _ rfl
        have f0 := (HZ5.out).frozen 0; have f1 := (HZ5.out).frozen 1; have f2 := (HZ5.out).frozen 2; have f3 := (HZ5.out).frozen 3
        have f4 := (HZ5.out).frozen 4; have f5 := (HZ5.out).frozen 5; have f6 := (HZ5.out).frozen 6; have f7 := (HZ5.out).frozen 7
        go_wp2_with fail
        refine bodyPost_ret (v := nodeV (.node op f mn mx kids) (.slice ka kids.length kc)) (by unfold nodeV; simp [results, Try.results85, go_sem, d0, d1, d2, d3, d4, d5, d6, d7]; try rfl) rfl ?_
        exact ⟨_, HPP.out, rxn_post HO5.out HA5.out HG.out HZ5.out.lt (HK5.out.mono fun b hb => ⟨hb.1, Nat.lt_of_lt_of_le hb.2 HSZ5.out⟩)⟩
      · rw [HWF.out, if_neg h41]
        have HPP := Lib.hid (show P s .atom o p (.no 2 q) by have := HPS.out; rw [HCF.out, if_neg h41] at this; exact this)
        rintro e9 w4 ⟨ho, b, rfl, hx⟩
        exact ⟨rfl, _, HPP.out, HO3.out.tr ho, b, rfl, hx⟩
end Go.Proofs.Ytofgkildlhcpdaa
