/- The program's Parse; the help's Spot. -/
import Derived.Test.YtofgkildlhcpdaaRx12
set_option linter.unusedVariables false
set_option linter.unusedSimpArgs false
namespace Go.Proofs.Ytofgkildlhcpdaa
open Go.RowKit Bt
theorem KAt.putNX {D : Nat → Prop} {w : World} {g : Nat} {t : Tree} {kv : Value} (h : KAt D w t kv) (hD : ∀ b, D b → b ≠ g) (op : Int) (f : Nat → Bool) (mn mx : Int) (v : Value) : KAt D (putN w g op f mn mx v) t kv :=
  KAt.keep (fun b hb => putN_block _ _ _ _ _ _ _ b (hD b hb.1) hb.2) (fun b hb => hb.1) t kv (KAt.lt t kv h)
/-- what a text is -/
def RxRes (s : ByteArray) (R : Re Tree) : Prop := (200 < s.size ∧ R = .no 4 0) ∨ (s.size ≤ 200 ∧ P s .pat 0 0 R)
theorem RxRes.det {s : ByteArray} {R R' : Re Tree} (h : RxRes s R) (h' : RxRes s R') : R = R' := by
  rcases h with ⟨h1, rfl⟩ | ⟨h1, h2⟩ <;> rcases h' with ⟨h3, rfl⟩ | ⟨h3, h4⟩
  · rfl
  · omega
  · omega
  · exact h2.det _ h4
/-- what the program's Parse leaves -/
def ParseX (s : ByteArray) (w : World) (e : Ending) (w' : World) : Prop :=
  Below w.heap.size w w' ∧ ∃ R, RxRes s R ∧ match R with
    | .ok t q => ∃ kv, e = .returned (.tuple #[nodeV t kv, .nilIface]) ∧ KAt (fun b => w.heap.size ≤ b) w' t kv
    | .no c x => ∃ b, e = .returned (.tuple #[zeroN, spotV b]) ∧ AtG w' b 82 #[.int .i64 (x : Int), .int .i64 c]
set_option maxRecDepth 100000 in
set_option maxHeartbeats 1600000 in
theorem parseX (s : ByteArray) (w : World) : Calls Try.prog 31 #[.string s] w (ParseX s w) := by
  have HZ0 := Lib.hid (AtG.new w 29 nodeZ)
  have HB0 := Lib.hid ((Below.refl w.heap.size w).alloc (Nat.le_refl _) (.cells nodeZ 29))
  by_cases hl : 200 < s.size
  · have hlI : (200 : Int) < (s.size : Int) := by omega
    obtain ⟨W, hW⟩ : ∃ W : World, W = w.alloc (.cells nodeZ 29) := ⟨_, rfl⟩
    have hW' : w.alloc (.cells #[.int .i64 0, .int .u64 0, .int .u64 0, .int .u64 0, .int .u64 0, .int .i64 0, .int .i64 0, .slice none 0 0] 29) = W := hW.symm
    rw [← hW] at HZ0 HB0
    have HR := Lib.hid (show RxRes s (.no 4 0) from .inl ⟨hl, rfl⟩)
    clear hW
    obtain ⟨W2, hW2⟩ : ∃ W2 : World, W2 = W.alloc (.cells #[.int .i64 0, .int .i64 4] 82) := ⟨_, rfl⟩
    have hW2' : W.alloc (.cells #[.int .i64 0, .int .i64 4] 82) = W2 := hW2.symm
    have HX2 := Lib.hid (show AtG W2 W.heap.size 82 #[.int .i64 0, .int .i64 4] by rw [hW2]; exact AtG.new _ _ _)
    have HZ2 := Lib.hid (show AtG W2 w.heap.size 29 nodeZ by rw [hW2]; exact HZ0.out.alloc _)
    have HB2 := Lib.hid (show Below w.heap.size w W2 by rw [hW2]; exact HB0.out.alloc HB0.out.size _)
    have HNE := Lib.hid (show W.heap.size ≠ w.heap.size by have := HZ0.out.lt; omega)
    clear hW2 HZ0 HB0 hl
    go_enter Try.func31, Try.ntmps31
    go_upto_region 2 with (fail)
    have d0 : W2.cell? ⟨w.heap.size, 0, none⟩ = some (.int .i64 0) := (HZ2.out).cell 0 _ rfl
    have d1 : W2.cell? ⟨w.heap.size, 1, none⟩ = some (.int .u64 0) := (HZ2.out).cell 1 _ rfl
    have d2 : W2.cell? ⟨w.heap.size, 2, none⟩ = some (.int .u64 0) := (HZ2.out).cell 2 _ rfl
    have d3 : W2.cell? ⟨w.heap.size, 3, none⟩ = some (.int .u64 0) := (HZ2.out).cell 3 _ rfl
    have d4 : W2.cell? ⟨w.heap.size, 4, none⟩ = some (.int .u64 0) := (HZ2.out).cell 4 _ rfl
    have d5 : W2.cell? ⟨w.heap.size, 5, none⟩ = some (.int .i64 0) := (HZ2.out).cell 5 _ rfl
    have d6 : W2.cell? ⟨w.heap.size, 6, none⟩ = some (.int .i64 0) := (HZ2.out).cell 6 _ rfl
    have d7 : W2.cell? ⟨w.heap.size, 7, none⟩ = some (.slice none 0 0) := (HZ2.out).cell 7 _ rfl
    have f0 := (HZ2.out).frozen 0; have f1 := (HZ2.out).frozen 1; have f2 := (HZ2.out).frozen 2; have f3 := (HZ2.out).frozen 3
    have f4 := (HZ2.out).frozen 4; have f5 := (HZ2.out).frozen 5; have f6 := (HZ2.out).frozen 6; have f7 := (HZ2.out).frozen 7
    go_wp2_with fail
    refine bodyPost_ret (v := .tuple #[zeroN, spotV W.heap.size]) (by unfold zeroN spotV; simp [results, Try.results31, go_sem, d0, d1, d2, d3, d4, d5, d6, d7]; try rfl) rfl ?_
    refine ⟨(show Below w.heap.size w (putZ W2 w.heap.size) from by rw [putZ_eq]; exact putN_below HB2.out (Nat.le_refl _) _ _ _ _ _), _, HR.out, _, rfl, ?_⟩
    show AtG (putZ W2 w.heap.size) W.heap.size _ _
    rw [putZ_eq]; exact putN_far HX2.out HNE.out 0 emp 0 0 (.slice none 0 0)
  · have hlI : ¬ (200 : Int) < (s.size : Int) := by omega
    obtain ⟨W, hW⟩ : ∃ W : World, W = (w.alloc (.cells nodeZ 29)).alloc (.cells (rxr s 0 0) 85) := ⟨_, rfl⟩
    have hW' : (w.alloc (.cells #[.int .i64 0, .int .u64 0, .int .u64 0, .int .u64 0, .int .u64 0, .int .i64 0, .int .i64 0, .slice none 0 0] 29)).alloc (.cells #[.string s, .int .i64 0, .int .i64 0] 85) = W := hW.symm
    have HZ1 := Lib.hid (show AtG W w.heap.size 29 nodeZ by rw [hW]; exact HZ0.out.alloc _)
    have HB1 := Lib.hid (show Below w.heap.size w W by rw [hW]; exact HB0.out.alloc HB0.out.size _)
    have HA1 := Lib.hid (show AtG W (w.heap.size + 1) 85 (rxr s 0 0) by
      rw [hW]
      have := AtG.new (w.alloc (.cells nodeZ 29)) 85 (rxr s 0 0)
      simpa using this)
    have HRD := Lib.hid (readX (w.heap.size + 1) s W HA1.out (by omega))
    have HS := Lib.hid (show s.size ≤ 200 by omega)
    clear hW HZ0 HB0
    go_enter Try.func31, Try.ntmps31
    go_wp2_with fail
    refine (HRD.out).mono ?_
    rintro e9 w2 ⟨ho, r, hPr, hr⟩
    have HPS := Lib.hid (show RxRes s r from .inr ⟨HS.out, hPr⟩)
    have HB2 := Lib.hid (HB1.out.trans (ho.below (B := w.heap.size) (Nat.le_of_lt HZ1.out.lt) (fun k hk => by subst hk; omega)))
    have HZ2 := Lib.hid (HZ1.out.only ho (by show ¬ (w.heap.size = w.heap.size + 1); omega))
    have HSZ := Lib.hid (show w.heap.size < W.heap.size from HZ1.out.lt)
    clear hPr ho HRD hW'
    have d0 : w2.cell? ⟨w.heap.size, 0, none⟩ = some (.int .i64 0) := (HZ2.out).cell 0 _ rfl
    have d1 : w2.cell? ⟨w.heap.size, 1, none⟩ = some (.int .u64 0) := (HZ2.out).cell 1 _ rfl
    have d2 : w2.cell? ⟨w.heap.size, 2, none⟩ = some (.int .u64 0) := (HZ2.out).cell 2 _ rfl
    have d3 : w2.cell? ⟨w.heap.size, 3, none⟩ = some (.int .u64 0) := (HZ2.out).cell 3 _ rfl
    have d4 : w2.cell? ⟨w.heap.size, 4, none⟩ = some (.int .u64 0) := (HZ2.out).cell 4 _ rfl
    have d5 : w2.cell? ⟨w.heap.size, 5, none⟩ = some (.int .i64 0) := (HZ2.out).cell 5 _ rfl
    have d6 : w2.cell? ⟨w.heap.size, 6, none⟩ = some (.int .i64 0) := (HZ2.out).cell 6 _ rfl
    have d7 : w2.cell? ⟨w.heap.size, 7, none⟩ = some (.slice none 0 0) := (HZ2.out).cell 7 _ rfl
    have f0 := (HZ2.out).frozen 0; have f1 := (HZ2.out).frozen 1; have f2 := (HZ2.out).frozen 2; have f3 := (HZ2.out).frozen 3
    have f4 := (HZ2.out).frozen 4; have f5 := (HZ2.out).frozen 5; have f6 := (HZ2.out).frozen 6; have f7 := (HZ2.out).frozen 7
    cases r with
    | no c x =>
      obtain ⟨b, rfl, hx⟩ := hr
      have HX := Lib.hid hx
      clear hx
      unfold zeroN spotV
      go_wp2_with fail
      refine bodyPost_ret (v := .tuple #[zeroN, spotV b]) (by unfold zeroN spotV; simp [results, Try.results31, go_sem, d0, d1, d2, d3, d4, d5, d6, d7]; try rfl) rfl ?_
      refine ⟨(show Below w.heap.size w (putZ w2 w.heap.size) from by rw [putZ_eq]; exact putN_below HB2.out (Nat.le_refl _) _ _ _ _ _), _, HPS.out, b, rfl, ?_⟩
      have hb1 : b ≠ w.heap.size := fun e => by subst e; have := HX.out.ne HZ2.out (by decide); exact this rfl
      show AtG (putZ w2 w.heap.size) b _ _
      rw [putZ_eq]; exact putN_far HX.out hb1 0 emp 0 0 (.slice none 0 0)
    | ok t q =>
      obtain ⟨kv, rfl, hk⟩ := hr
      obtain ⟨op, f, mn, mx, kids⟩ := t
      obtain ⟨ka, kc, rfl⟩ := KAt.slice hk
      have HK2 := Lib.hid hk
      clear hk
      unfold nodeV
      dsimp only
      go_wp2_with fail
      refine bodyPost_ret (v := .tuple #[nodeV (.node op f mn mx kids) (.slice ka kids.length kc), .nilIface]) (by unfold nodeV; simp [results, Try.results31, go_sem, d0, d1, d2, d3, d4, d5, d6, d7]; try rfl) rfl ?_
      refine ⟨putN_below HB2.out (Nat.le_refl _) _ _ _ _ _, _, HPS.out, _, rfl, ?_⟩
      exact (KAt.putNX HK2.out (fun b hb => by have := HSZ.out; omega) op f mn mx _).mono fun b hb => by have := HSZ.out; omega
set_option maxRecDepth 100000 in
theorem spot_nil (w : World) : Calls Try.prog 33 #[.nilIface] w fun e w' => e = .returned (.tuple #[.int .i64 0, .int .i64 0]) ∧ w' = w := by
  have h1 : (binOp BinOp.eql 59 .nilIface .nilIface).run Try.prog w = .ok (.bool true) w := by rfl
  go_enter Try.func33, Try.ntmps33
  go_wp2
  go_returns
  exact ⟨rfl, rfl⟩
set_option maxRecDepth 100000 in
theorem spot_some (b : Nat) (x c : Int) (w : World) (h : AtG w b 82 #[.int .i64 x, .int .i64 c]) : Calls Try.prog 33 #[spotV b] w fun e w' => e = .returned (.tuple #[.int .i64 c, .int .i64 x]) ∧ Below w.heap.size w w' := by
  unfold spotV
  have h1 : (binOp BinOp.eql 59 (.iface 79 (.pointer (some ⟨b, 0, none⟩))) .nilIface).run Try.prog w = .ok (.bool false) w := by rfl
  have h2 : (Instr.typeAssert (.iface 79 (.pointer (some ⟨b, 0, none⟩))) 59 79 true).run Try.prog w = .ok (.tuple #[.pointer (some ⟨b, 0, none⟩), .bool true]) w := by rfl
  have h3 : (binOp BinOp.neq 79 (.pointer (some ⟨b, 0, none⟩)) (.pointer none)).run Try.prog w = .ok (.bool true) w := by rfl
  have H := Lib.hid h
  have HL := Lib.hid h.lt
  clear h
  go_enter Try.func33, Try.ntmps33
  go_upto_region 5 with (fail)
  refine Rg.wp_region_each (by kernel_rfl) (fun w' => Below w.heap.size w w') (fun w1 w2 h hb => h.trans (hb.mono h.size)) (by kernel_rfl) (by kernel_rfl) (Below.refl _ _) ?_
  show Rg.Build _ _ _ _ _ 0 [_, _, _, _, _, _, _, _, _, _] []
  refine Rg.build_cons (m := 1) (r := Rg.eq _) (Rg.one_plain (by rfl) (by (intro ax wx hk Kx hK; have k4 := hk.base 4 _ rfl rfl; have hj := hk.j; clear hk; have z0 : wx.cell? ⟨b, 0, none⟩ = some (.int .i64 x) := (hj.cell (p := ⟨b, 0, none⟩) HL.out).trans (H.out.cell 0 _ rfl); have z1 : wx.cell? ⟨b, 1, none⟩ = some (.int .i64 c) := (hj.cell (p := ⟨b, 1, none⟩) HL.out).trans (H.out.cell 1 _ rfl); go_simp; refine hK _ _ ?_ (Below.refl _ _); apply Rg.mk))) ?_ rfl
  refine Rg.build_cons (m := 2) (r := Rg.eq _) (Rg.one_plain (by rfl) (by (intro ax wx hk Kx hK; obtain ⟨v18, k18, h18⟩ := hk.dep 0 18 _ rfl rfl rfl; (first | (cases (h18 : v18 = _)) | (obtain ⟨rfl, h18⟩ := h18) | skip); have hj := hk.j; clear hk; have z0 : wx.cell? ⟨b, 0, none⟩ = some (.int .i64 x) := (hj.cell (p := ⟨b, 0, none⟩) HL.out).trans (H.out.cell 0 _ rfl); have z1 : wx.cell? ⟨b, 1, none⟩ = some (.int .i64 c) := (hj.cell (p := ⟨b, 1, none⟩) HL.out).trans (H.out.cell 1 _ rfl); go_simp; refine hK _ _ ?_ (Below.refl _ _); apply Rg.mk))) ?_ rfl
  refine Rg.build_cons (m := 3) (r := Rg.eq _) (Rg.one_plain (by rfl) (by (intro ax wx hk Kx hK; obtain ⟨v19, k19, h19⟩ := hk.dep 1 19 _ rfl rfl rfl; (first | (cases (h19 : v19 = _)) | (obtain ⟨rfl, h19⟩ := h19) | skip); have hj := hk.j; clear hk; have z0 : wx.cell? ⟨b, 0, none⟩ = some (.int .i64 x) := (hj.cell (p := ⟨b, 0, none⟩) HL.out).trans (H.out.cell 0 _ rfl); have z1 : wx.cell? ⟨b, 1, none⟩ = some (.int .i64 c) := (hj.cell (p := ⟨b, 1, none⟩) HL.out).trans (H.out.cell 1 _ rfl); go_simp; refine hK _ _ ?_ (Below.refl _ _); apply Rg.mk))) ?_ rfl
  refine Rg.build_cons (m := 4) (r := Rg.eq _) (Rg.one_plain (by rfl) (by (intro ax wx hk Kx hK; obtain ⟨v20, k20, h20⟩ := hk.dep 2 20 _ rfl rfl rfl; (first | (cases (h20 : v20 = _)) | (obtain ⟨rfl, h20⟩ := h20) | skip); have hj := hk.j; clear hk; have z0 : wx.cell? ⟨b, 0, none⟩ = some (.int .i64 x) := (hj.cell (p := ⟨b, 0, none⟩) HL.out).trans (H.out.cell 0 _ rfl); have z1 : wx.cell? ⟨b, 1, none⟩ = some (.int .i64 c) := (hj.cell (p := ⟨b, 1, none⟩) HL.out).trans (H.out.cell 1 _ rfl); go_simp; refine hK _ _ ?_ (Below.refl _ _); apply Rg.mk))) ?_ rfl
  refine Rg.build_cons (m := 5) (r := Rg.eq _) (Rg.one_plain (by rfl) (by (intro ax wx hk Kx hK; have k4 := hk.base 4 _ rfl rfl; have hj := hk.j; clear hk; have z0 : wx.cell? ⟨b, 0, none⟩ = some (.int .i64 x) := (hj.cell (p := ⟨b, 0, none⟩) HL.out).trans (H.out.cell 0 _ rfl); have z1 : wx.cell? ⟨b, 1, none⟩ = some (.int .i64 c) := (hj.cell (p := ⟨b, 1, none⟩) HL.out).trans (H.out.cell 1 _ rfl); go_simp; refine hK _ _ ?_ (Below.refl _ _); apply Rg.mk))) ?_ rfl
  refine Rg.build_cons (m := 6) (r := Rg.eq _) (Rg.one_plain (by rfl) (by (intro ax wx hk Kx hK; obtain ⟨v22, k22, h22⟩ := hk.dep 4 22 _ rfl rfl rfl; (first | (cases (h22 : v22 = _)) | (obtain ⟨rfl, h22⟩ := h22) | skip); have hj := hk.j; clear hk; have z0 : wx.cell? ⟨b, 0, none⟩ = some (.int .i64 x) := (hj.cell (p := ⟨b, 0, none⟩) HL.out).trans (H.out.cell 0 _ rfl); have z1 : wx.cell? ⟨b, 1, none⟩ = some (.int .i64 c) := (hj.cell (p := ⟨b, 1, none⟩) HL.out).trans (H.out.cell 1 _ rfl); go_simp; refine hK _ _ ?_ (Below.refl _ _); apply Rg.mk))) ?_ rfl
  refine Rg.build_cons (m := 7) (r := Rg.eq _) (Rg.one_plain (by rfl) (by (intro ax wx hk Kx hK; obtain ⟨v23, k23, h23⟩ := hk.dep 5 23 _ rfl rfl rfl; (first | (cases (h23 : v23 = _)) | (obtain ⟨rfl, h23⟩ := h23) | skip); have hj := hk.j; clear hk; have z0 : wx.cell? ⟨b, 0, none⟩ = some (.int .i64 x) := (hj.cell (p := ⟨b, 0, none⟩) HL.out).trans (H.out.cell 0 _ rfl); have z1 : wx.cell? ⟨b, 1, none⟩ = some (.int .i64 c) := (hj.cell (p := ⟨b, 1, none⟩) HL.out).trans (H.out.cell 1 _ rfl); go_simp; refine hK _ _ ?_ (Below.refl _ _); apply Rg.mk))) ?_ rfl
  refine Rg.build_cons (m := 8) (r := Rg.eq _) (Rg.one_plain (by rfl) (by (intro ax wx hk Kx hK; obtain ⟨v24, k24, h24⟩ := hk.dep 6 24 _ rfl rfl rfl; (first | (cases (h24 : v24 = _)) | (obtain ⟨rfl, h24⟩ := h24) | skip); have hj := hk.j; clear hk; have z0 : wx.cell? ⟨b, 0, none⟩ = some (.int .i64 x) := (hj.cell (p := ⟨b, 0, none⟩) HL.out).trans (H.out.cell 0 _ rfl); have z1 : wx.cell? ⟨b, 1, none⟩ = some (.int .i64 c) := (hj.cell (p := ⟨b, 1, none⟩) HL.out).trans (H.out.cell 1 _ rfl); go_simp; refine hK _ _ ?_ (Below.refl _ _); apply Rg.mk))) ?_ rfl
  refine Rg.build_cons (m := 9) (r := Rg.eq _) (Rg.one_plain (by rfl) (by (intro ax wx hk Kx hK; obtain ⟨v21, k21, h21⟩ := hk.dep 3 21 _ rfl rfl rfl; (first | (cases (h21 : v21 = _)) | (obtain ⟨rfl, h21⟩ := h21) | skip); have hj := hk.j; clear hk; have z0 : wx.cell? ⟨b, 0, none⟩ = some (.int .i64 x) := (hj.cell (p := ⟨b, 0, none⟩) HL.out).trans (H.out.cell 0 _ rfl); have z1 : wx.cell? ⟨b, 1, none⟩ = some (.int .i64 c) := (hj.cell (p := ⟨b, 1, none⟩) HL.out).trans (H.out.cell 1 _ rfl); go_simp; refine hK _ _ ?_ (Below.refl _ _); apply Rg.mk))) ?_ rfl
  refine Rg.build_cons (m := 10) (r := Rg.eq _) (Rg.one_plain (by rfl) (by (intro ax wx hk Kx hK; obtain ⟨v25, k25, h25⟩ := hk.dep 7 25 _ rfl rfl rfl; (first | (cases (h25 : v25 = _)) | (obtain ⟨rfl, h25⟩ := h25) | skip); have hj := hk.j; clear hk; have z0 : wx.cell? ⟨b, 0, none⟩ = some (.int .i64 x) := (hj.cell (p := ⟨b, 0, none⟩) HL.out).trans (H.out.cell 0 _ rfl); have z1 : wx.cell? ⟨b, 1, none⟩ = some (.int .i64 c) := (hj.cell (p := ⟨b, 1, none⟩) HL.out).trans (H.out.cell 1 _ rfl); go_simp; refine hK _ _ ?_ (Below.refl _ _); apply Rg.mk))) ?_ rfl
  refine Rg.build_end fun wx hj => ?_
  refine Rg.fin_eq rfl ?_
  refine Rg.fin_eq rfl ?_
  refine Rg.fin_eq rfl ?_
  refine Rg.fin_eq rfl ?_
  refine Rg.fin_eq rfl ?_
  refine Rg.fin_eq rfl ?_
  refine Rg.fin_eq rfl ?_
  refine Rg.fin_eq rfl ?_
  refine Rg.fin_eq rfl ?_
  refine Rg.fin_eq rfl ?_
  refine Rg.fin_nil ?_
  simp only [List.set_cons_zero, List.set_cons_succ]
  have HJ := Lib.hid hj
  clear hj
  go_wp2_with fail
  go_returns
  exact ⟨rfl, HJ.out⟩
end Go.Proofs.Ytofgkildlhcpdaa
