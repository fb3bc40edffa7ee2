/- The program's reader of patterns: fail, peek, is, next, want, digit. -/
import Derived.Test.YtofgkildlhcpdaaK4
import Derived.WalkLawsBesides
set_option linter.unusedVariables false
set_option linter.unusedSimpArgs false
namespace Go.Proofs.Ytofgkildlhcpdaa
open Go.RowKit Bt
/-- the reader's cells: text, place, open brackets -/
def rxr (s : ByteArray) (p o : Int) : Array Value := #[.string s, .int .i64 p, .int .i64 o]
/-- a panic with a Spot -/
def RxNo (c : Int) (x : Nat) (e : Ending) (w' : World) : Prop := ∃ b, e = .panicked [{ v := .iface 79 (.pointer (some ⟨b, 0, none⟩)), recovered := false }] ∧ AtG w' b 82 #[.int .i64 (x : Int), .int .i64 c]
/-- what a part of the reader leaves -/
def RxP {α : Type} (g : Nat) (s : ByteArray) (o : Nat) (w : World) (R : Re α) (V : α → Value) (e : Ending) (w' : World) : Prop :=
  Only (fun k => k = g) w w' ∧ match R with
    | .ok a q => e = .returned (V a) ∧ AtG w' g 85 (rxr s (q : Int) (o : Int))
    | .no c x => RxNo c x e w'
theorem failX (g x : Nat) (c : Int) (w : World) : Calls Try.prog 92 #[.pointer (some ⟨g, 0, none⟩), .int .i64 (x : Int), .int .i64 c] w fun e w' => Below w.heap.size w w' ∧ RxNo c x e w' := by
  go_enter Try.func92, Try.ntmps92
  go_wp2
  exact ⟨rfl, (Below.refl _ _).alloc (Nat.le_refl _) _, _, rfl, AtG.new _ _ _⟩
set_option maxRecDepth 100000 in
theorem peekX_end (g : Nat) (s : ByteArray) (p : Nat) (o : Int) (w : World) (h : AtG w g 85 (rxr s p o)) (hp : p = s.size) :
    Calls Try.prog 71 #[.pointer (some ⟨g, 0, none⟩)] w fun e w' => e = .returned (.tuple #[.int .u8 0, .bool false]) ∧ Below w.heap.size w w' := by
  unfold rxr at h
  have H := Lib.hid h
  have HLT := Lib.hid h.lt
  clear h
  go_enter Try.func71, Try.ntmps71
  go_upto_region 1 with (fail)
  refine Rg.wp_region_each (by kernel_rfl) (fun w' => Below w.heap.size w w') (fun w1 w2 h hb => h.trans (hb.mono h.size)) (by kernel_rfl) (by kernel_rfl) (Below.refl _ _) ?_
  show Rg.Build _ _ _ _ _ 0 [_, _, _, _, _, _, _, _, _, _] []
  refine Rg.build_cons (m := 1) (r := Rg.eq _) (Rg.one_plain (by rfl) (by (intro ax wx hk Kx hK; have k0 := hk.base 0 _ rfl rfl; have hj := hk.j; clear hk; have z0 := (hj.cell (p := ⟨g, 0, none⟩) HLT.out).trans (H.out.cell 0 _ rfl); have z1 := (hj.cell (p := ⟨g, 1, none⟩) HLT.out).trans (H.out.cell 1 _ rfl); go_simp; refine hK _ _ ?_ (Below.refl _ _); apply Rg.mk))) ?_ rfl
  refine Rg.build_cons (m := 2) (r := Rg.eq _) (Rg.one_plain (by rfl) (by (intro ax wx hk Kx hK; obtain ⟨v4, k4, h4⟩ := hk.dep 0 4 _ rfl rfl rfl; (first | (cases (h4 : v4 = _)) | (obtain ⟨rfl, h4⟩ := h4) | skip); have hj := hk.j; clear hk; have z0 := (hj.cell (p := ⟨g, 0, none⟩) HLT.out).trans (H.out.cell 0 _ rfl); have z1 := (hj.cell (p := ⟨g, 1, none⟩) HLT.out).trans (H.out.cell 1 _ rfl); go_simp; refine hK _ _ ?_ (Below.refl _ _); apply Rg.mk))) ?_ rfl
  refine Rg.build_cons (m := 3) (r := Rg.eq _) (Rg.one_plain (by rfl) (by (intro ax wx hk Kx hK; obtain ⟨v5, k5, h5⟩ := hk.dep 1 5 _ rfl rfl rfl; (first | (cases (h5 : v5 = _)) | (obtain ⟨rfl, h5⟩ := h5) | skip); have hj := hk.j; clear hk; have z0 := (hj.cell (p := ⟨g, 0, none⟩) HLT.out).trans (H.out.cell 0 _ rfl); have z1 := (hj.cell (p := ⟨g, 1, none⟩) HLT.out).trans (H.out.cell 1 _ rfl); go_simp; refine hK _ _ ?_ (Below.refl _ _); apply Rg.mk))) ?_ rfl
  refine Rg.build_cons (m := 4) (r := Rg.eq _) (Rg.one_plain (by rfl) (by (intro ax wx hk Kx hK; obtain ⟨v6, k6, h6⟩ := hk.dep 2 6 _ rfl rfl rfl; (first | (cases (h6 : v6 = _)) | (obtain ⟨rfl, h6⟩ := h6) | skip); have hj := hk.j; clear hk; have z0 := (hj.cell (p := ⟨g, 0, none⟩) HLT.out).trans (H.out.cell 0 _ rfl); have z1 := (hj.cell (p := ⟨g, 1, none⟩) HLT.out).trans (H.out.cell 1 _ rfl); go_simp; refine hK _ _ ?_ (Below.refl _ _); apply Rg.mk))) ?_ rfl
  refine Rg.build_cons (m := 5) (r := Rg.eq _) (Rg.one_plain (by rfl) (by (intro ax wx hk Kx hK; have k0 := hk.base 0 _ rfl rfl; have hj := hk.j; clear hk; have z0 := (hj.cell (p := ⟨g, 0, none⟩) HLT.out).trans (H.out.cell 0 _ rfl); have z1 := (hj.cell (p := ⟨g, 1, none⟩) HLT.out).trans (H.out.cell 1 _ rfl); go_simp; refine hK _ _ ?_ (Below.refl _ _); apply Rg.mk))) ?_ rfl
  refine Rg.build_cons (m := 6) (r := Rg.eq _) (Rg.one_plain (by rfl) (by (intro ax wx hk Kx hK; obtain ⟨v8, k8, h8⟩ := hk.dep 4 8 _ rfl rfl rfl; (first | (cases (h8 : v8 = _)) | (obtain ⟨rfl, h8⟩ := h8) | skip); have hj := hk.j; clear hk; have z0 := (hj.cell (p := ⟨g, 0, none⟩) HLT.out).trans (H.out.cell 0 _ rfl); have z1 := (hj.cell (p := ⟨g, 1, none⟩) HLT.out).trans (H.out.cell 1 _ rfl); go_simp; refine hK _ _ ?_ (Below.refl _ _); apply Rg.mk))) ?_ rfl
  refine Rg.build_cons (m := 7) (r := Rg.eq _) (Rg.one_plain (by rfl) (by (intro ax wx hk Kx hK; obtain ⟨v9, k9, h9⟩ := hk.dep 5 9 _ rfl rfl rfl; (first | (cases (h9 : v9 = _)) | (obtain ⟨rfl, h9⟩ := h9) | skip); have hj := hk.j; clear hk; have z0 := (hj.cell (p := ⟨g, 0, none⟩) HLT.out).trans (H.out.cell 0 _ rfl); have z1 := (hj.cell (p := ⟨g, 1, none⟩) HLT.out).trans (H.out.cell 1 _ rfl); go_simp; refine hK _ _ ?_ (Below.refl _ _); apply Rg.mk))) ?_ rfl
  refine Rg.build_cons (m := 8) (r := Rg.eq _) (Rg.one_plain (by rfl) (by (intro ax wx hk Kx hK; obtain ⟨v10, k10, h10⟩ := hk.dep 6 10 _ rfl rfl rfl; (first | (cases (h10 : v10 = _)) | (obtain ⟨rfl, h10⟩ := h10) | skip); have hj := hk.j; clear hk; have z0 := (hj.cell (p := ⟨g, 0, none⟩) HLT.out).trans (H.out.cell 0 _ rfl); have z1 := (hj.cell (p := ⟨g, 1, none⟩) HLT.out).trans (H.out.cell 1 _ rfl); go_simp; refine hK _ _ ?_ (Below.refl _ _); apply Rg.mk))) ?_ rfl
  refine Rg.build_cons (m := 9) (r := Rg.eq _) (Rg.one_plain (by rfl) (by (intro ax wx hk Kx hK; obtain ⟨v11, k11, h11⟩ := hk.dep 7 11 _ rfl rfl rfl; (first | (cases (h11 : v11 = _)) | (obtain ⟨rfl, h11⟩ := h11) | skip); have hj := hk.j; clear hk; have z0 := (hj.cell (p := ⟨g, 0, none⟩) HLT.out).trans (H.out.cell 0 _ rfl); have z1 := (hj.cell (p := ⟨g, 1, none⟩) HLT.out).trans (H.out.cell 1 _ rfl); go_simp; refine hK _ _ ?_ (Below.refl _ _); apply Rg.mk))) ?_ rfl
  refine Rg.build_cons (m := 10) (r := Rg.eq (.bool true)) (Rg.one_plain (by rfl) (by (intro ax wx hk Kx hK; obtain ⟨v7, k7, h7⟩ := hk.dep 3 7 _ rfl rfl rfl; (first | (cases (h7 : v7 = _)) | (obtain ⟨rfl, h7⟩ := h7) | skip); obtain ⟨v12, k12, h12⟩ := hk.dep 8 12 _ rfl rfl rfl; (first | (cases (h12 : v12 = _)) | (obtain ⟨rfl, h12⟩ := h12) | skip); have hj := hk.j; clear hk; have z0 := (hj.cell (p := ⟨g, 0, none⟩) HLT.out).trans (H.out.cell 0 _ rfl); have z1 := (hj.cell (p := ⟨g, 1, none⟩) HLT.out).trans (H.out.cell 1 _ rfl); (go_simp; refine hK _ _ ?_ (Below.refl _ _); simp [Rg.eq, hp])))) ?_ rfl
  refine Rg.build_end fun wx hj => ?_
  refine Rg.fin_eq rfl ?_
  refine Rg.fin_eq rfl ?_
  refine Rg.fin_eq rfl ?_
  refine Rg.fin_eq rfl ?_
  refine Rg.fin_eq rfl ?_
  refine Rg.fin_eq rfl ?_
  refine Rg.fin_eq rfl ?_
  refine Rg.fin_eq rfl ?_
  refine Rg.fin_eq rfl ?_
  first | refine Rg.fin_eq rfl ?_ | refine Rg.fin_any rfl fun v13 h13 => ?_
  refine Rg.fin_nil ?_
  simp only [List.set_cons_zero, List.set_cons_succ]
  have HJ := Lib.hid hj; clear hj
  go_wp2_with fail
  go_returns
  exact ⟨rfl, HJ.out⟩
set_option maxRecDepth 100000 in
theorem peekX_in (g : Nat) (s : ByteArray) (p : Nat) (o : Int) (w : World) (h : AtG w g 85 (rxr s p o)) (hp : p < s.size) :
    Calls Try.prog 71 #[.pointer (some ⟨g, 0, none⟩)] w fun e w' => e = .returned (.tuple #[.int .u8 (ch s p), .bool true]) ∧ Below w.heap.size w w' := by
  unfold rxr at h
  have H := Lib.hid h
  have HLT := Lib.hid h.lt
  have hch := ch_in hp
  have hp2 : ¬ p = s.size := by omega
  have hpI : (p : Int) < s.size := by omega
  clear h
  go_enter Try.func71, Try.ntmps71
  go_upto_region 1 with (fail)
  refine Rg.wp_region_each (by kernel_rfl) (fun w' => Below w.heap.size w w') (fun w1 w2 h hb => h.trans (hb.mono h.size)) (by kernel_rfl) (by kernel_rfl) (Below.refl _ _) ?_
  show Rg.Build _ _ _ _ _ 0 [_, _, _, _, _, _, _, _, _, _] []
  refine Rg.build_cons (m := 1) (r := Rg.eq _) (Rg.one_plain (by rfl) (by (intro ax wx hk Kx hK; have k0 := hk.base 0 _ rfl rfl; have hj := hk.j; clear hk; have z0 := (hj.cell (p := ⟨g, 0, none⟩) HLT.out).trans (H.out.cell 0 _ rfl); have z1 := (hj.cell (p := ⟨g, 1, none⟩) HLT.out).trans (H.out.cell 1 _ rfl); go_simp; refine hK _ _ ?_ (Below.refl _ _); apply Rg.mk))) ?_ rfl
  refine Rg.build_cons (m := 2) (r := Rg.eq _) (Rg.one_plain (by rfl) (by (intro ax wx hk Kx hK; obtain ⟨v4, k4, h4⟩ := hk.dep 0 4 _ rfl rfl rfl; (first | (cases (h4 : v4 = _)) | (obtain ⟨rfl, h4⟩ := h4) | skip); have hj := hk.j; clear hk; have z0 := (hj.cell (p := ⟨g, 0, none⟩) HLT.out).trans (H.out.cell 0 _ rfl); have z1 := (hj.cell (p := ⟨g, 1, none⟩) HLT.out).trans (H.out.cell 1 _ rfl); go_simp; refine hK _ _ ?_ (Below.refl _ _); apply Rg.mk))) ?_ rfl
  refine Rg.build_cons (m := 3) (r := Rg.eq _) (Rg.one_plain (by rfl) (by (intro ax wx hk Kx hK; obtain ⟨v5, k5, h5⟩ := hk.dep 1 5 _ rfl rfl rfl; (first | (cases (h5 : v5 = _)) | (obtain ⟨rfl, h5⟩ := h5) | skip); have hj := hk.j; clear hk; have z0 := (hj.cell (p := ⟨g, 0, none⟩) HLT.out).trans (H.out.cell 0 _ rfl); have z1 := (hj.cell (p := ⟨g, 1, none⟩) HLT.out).trans (H.out.cell 1 _ rfl); go_simp; refine hK _ _ ?_ (Below.refl _ _); apply Rg.mk))) ?_ rfl
  refine Rg.build_cons (m := 4) (r := Rg.eq _) (Rg.one_plain (by rfl) (by (intro ax wx hk Kx hK; obtain ⟨v6, k6, h6⟩ := hk.dep 2 6 _ rfl rfl rfl; (first | (cases (h6 : v6 = _)) | (obtain ⟨rfl, h6⟩ := h6) | skip); have hj := hk.j; clear hk; have z0 := (hj.cell (p := ⟨g, 0, none⟩) HLT.out).trans (H.out.cell 0 _ rfl); have z1 := (hj.cell (p := ⟨g, 1, none⟩) HLT.out).trans (H.out.cell 1 _ rfl); go_simp; refine hK _ _ ?_ (Below.refl _ _); apply Rg.mk))) ?_ rfl
  refine Rg.build_cons (m := 5) (r := Rg.eq _) (Rg.one_plain (by rfl) (by (intro ax wx hk Kx hK; have k0 := hk.base 0 _ rfl rfl; have hj := hk.j; clear hk; have z0 := (hj.cell (p := ⟨g, 0, none⟩) HLT.out).trans (H.out.cell 0 _ rfl); have z1 := (hj.cell (p := ⟨g, 1, none⟩) HLT.out).trans (H.out.cell 1 _ rfl); go_simp; refine hK _ _ ?_ (Below.refl _ _); apply Rg.mk))) ?_ rfl
  refine Rg.build_cons (m := 6) (r := Rg.eq _) (Rg.one_plain (by rfl) (by (intro ax wx hk Kx hK; obtain ⟨v8, k8, h8⟩ := hk.dep 4 8 _ rfl rfl rfl; (first | (cases (h8 : v8 = _)) | (obtain ⟨rfl, h8⟩ := h8) | skip); have hj := hk.j; clear hk; have z0 := (hj.cell (p := ⟨g, 0, none⟩) HLT.out).trans (H.out.cell 0 _ rfl); have z1 := (hj.cell (p := ⟨g, 1, none⟩) HLT.out).trans (H.out.cell 1 _ rfl); go_simp; refine hK _ _ ?_ (Below.refl _ _); apply Rg.mk))) ?_ rfl
  refine Rg.build_cons (m := 7) (r := Rg.eq _) (Rg.one_plain (by rfl) (by (intro ax wx hk Kx hK; obtain ⟨v9, k9, h9⟩ := hk.dep 5 9 _ rfl rfl rfl; (first | (cases (h9 : v9 = _)) | (obtain ⟨rfl, h9⟩ := h9) | skip); have hj := hk.j; clear hk; have z0 := (hj.cell (p := ⟨g, 0, none⟩) HLT.out).trans (H.out.cell 0 _ rfl); have z1 := (hj.cell (p := ⟨g, 1, none⟩) HLT.out).trans (H.out.cell 1 _ rfl); go_simp; refine hK _ _ ?_ (Below.refl _ _); apply Rg.mk))) ?_ rfl
  refine Rg.build_cons (m := 8) (r := Rg.eq _) (Rg.one_plain (by rfl) (by (intro ax wx hk Kx hK; obtain ⟨v10, k10, h10⟩ := hk.dep 6 10 _ rfl rfl rfl; (first | (cases (h10 : v10 = _)) | (obtain ⟨rfl, h10⟩ := h10) | skip); have hj := hk.j; clear hk; have z0 := (hj.cell (p := ⟨g, 0, none⟩) HLT.out).trans (H.out.cell 0 _ rfl); have z1 := (hj.cell (p := ⟨g, 1, none⟩) HLT.out).trans (H.out.cell 1 _ rfl); go_simp; refine hK _ _ ?_ (Below.refl _ _); apply Rg.mk))) ?_ rfl
  refine Rg.build_cons (m := 9) (r := Rg.eq _) (Rg.one_plain (by rfl) (by (intro ax wx hk Kx hK; obtain ⟨v11, k11, h11⟩ := hk.dep 7 11 _ rfl rfl rfl; (first | (cases (h11 : v11 = _)) | (obtain ⟨rfl, h11⟩ := h11) | skip); have hj := hk.j; clear hk; have z0 := (hj.cell (p := ⟨g, 0, none⟩) HLT.out).trans (H.out.cell 0 _ rfl); have z1 := (hj.cell (p := ⟨g, 1, none⟩) HLT.out).trans (H.out.cell 1 _ rfl); go_simp; refine hK _ _ ?_ (Below.refl _ _); apply Rg.mk))) ?_ rfl
  refine Rg.build_cons (m := 10) (r := Rg.eq (.bool false)) (Rg.one_plain (by rfl) (by (intro ax wx hk Kx hK; obtain ⟨v7, k7, h7⟩ := hk.dep 3 7 _ rfl rfl rfl; (first | (cases (h7 : v7 = _)) | (obtain ⟨rfl, h7⟩ := h7) | skip); obtain ⟨v12, k12, h12⟩ := hk.dep 8 12 _ rfl rfl rfl; (first | (cases (h12 : v12 = _)) | (obtain ⟨rfl, h12⟩ := h12) | skip); have hj := hk.j; clear hk; have z0 := (hj.cell (p := ⟨g, 0, none⟩) HLT.out).trans (H.out.cell 0 _ rfl); have z1 := (hj.cell (p := ⟨g, 1, none⟩) HLT.out).trans (H.out.cell 1 _ rfl); (go_simp; refine hK _ _ ?_ (Below.refl _ _); simp [Rg.eq]; omega)))) ?_ rfl
  refine Rg.build_end fun wx hj => ?_
  refine Rg.fin_eq rfl ?_
  refine Rg.fin_eq rfl ?_
  refine Rg.fin_eq rfl ?_
  refine Rg.fin_eq rfl ?_
  refine Rg.fin_eq rfl ?_
  refine Rg.fin_eq rfl ?_
  refine Rg.fin_eq rfl ?_
  refine Rg.fin_eq rfl ?_
  refine Rg.fin_eq rfl ?_
  first | refine Rg.fin_eq rfl ?_ | refine Rg.fin_any rfl fun v13 h13 => ?_
  refine Rg.fin_nil ?_
  simp only [List.set_cons_zero, List.set_cons_succ]
  have HJ := Lib.hid hj; clear hj
  go_upto_region 3 with (fail)
  obtain ⟨wy, rfl⟩ : ∃ wy : World, wy = wx := ⟨_, rfl⟩
  refine Rg.wp_region_each (by kernel_rfl) (fun w' => Below w.heap.size w w') (fun w1 w2 h hb => h.trans (hb.mono h.size)) (by kernel_rfl) (by kernel_rfl) (HJ.out) ?_
  show Rg.Build _ _ _ _ _ 0 [_, _, _, _, _, _, _, _, _, _, _] []
  refine Rg.build_cons (m := 1) (r := Rg.eq _) (Rg.one_plain (by rfl) (by (intro ax wx hk Kx hK; have k0 := hk.base 0 _ rfl rfl; have hj := hk.j; clear hk; have z0 := (hj.cell (p := ⟨g, 0, none⟩) HLT.out).trans (H.out.cell 0 _ rfl); have z1 := (hj.cell (p := ⟨g, 1, none⟩) HLT.out).trans (H.out.cell 1 _ rfl); go_simp; refine hK _ _ ?_ (Below.refl _ _); apply Rg.mk))) ?_ rfl
  refine Rg.build_cons (m := 2) (r := Rg.eq _) (Rg.one_plain (by rfl) (by (intro ax wx hk Kx hK; obtain ⟨v14, k14, h14⟩ := hk.dep 0 14 _ rfl rfl rfl; (first | (cases (h14 : v14 = _)) | (obtain ⟨rfl, h14⟩ := h14) | skip); have hj := hk.j; clear hk; have z0 := (hj.cell (p := ⟨g, 0, none⟩) HLT.out).trans (H.out.cell 0 _ rfl); have z1 := (hj.cell (p := ⟨g, 1, none⟩) HLT.out).trans (H.out.cell 1 _ rfl); go_simp; refine hK _ _ ?_ (Below.refl _ _); apply Rg.mk))) ?_ rfl
  refine Rg.build_cons (m := 3) (r := Rg.eq _) (Rg.one_plain (by rfl) (by (intro ax wx hk Kx hK; obtain ⟨v15, k15, h15⟩ := hk.dep 1 15 _ rfl rfl rfl; (first | (cases (h15 : v15 = _)) | (obtain ⟨rfl, h15⟩ := h15) | skip); have hj := hk.j; clear hk; have z0 := (hj.cell (p := ⟨g, 0, none⟩) HLT.out).trans (H.out.cell 0 _ rfl); have z1 := (hj.cell (p := ⟨g, 1, none⟩) HLT.out).trans (H.out.cell 1 _ rfl); go_simp; refine hK _ _ ?_ (Below.refl _ _); apply Rg.mk))) ?_ rfl
  refine Rg.build_cons (m := 4) (r := Rg.eq _) (Rg.one_plain (by rfl) (by (intro ax wx hk Kx hK; obtain ⟨v16, k16, h16⟩ := hk.dep 2 16 _ rfl rfl rfl; (first | (cases (h16 : v16 = _)) | (obtain ⟨rfl, h16⟩ := h16) | skip); have hj := hk.j; clear hk; have z0 := (hj.cell (p := ⟨g, 0, none⟩) HLT.out).trans (H.out.cell 0 _ rfl); have z1 := (hj.cell (p := ⟨g, 1, none⟩) HLT.out).trans (H.out.cell 1 _ rfl); go_simp; refine hK _ _ ?_ (Below.refl _ _); apply Rg.mk))) ?_ rfl
  refine Rg.build_cons (m := 5) (r := Rg.eq _) (Rg.one_plain (by rfl) (by (intro ax wx hk Kx hK; have k0 := hk.base 0 _ rfl rfl; have hj := hk.j; clear hk; have z0 := (hj.cell (p := ⟨g, 0, none⟩) HLT.out).trans (H.out.cell 0 _ rfl); have z1 := (hj.cell (p := ⟨g, 1, none⟩) HLT.out).trans (H.out.cell 1 _ rfl); go_simp; refine hK _ _ ?_ (Below.refl _ _); apply Rg.mk))) ?_ rfl
  refine Rg.build_cons (m := 6) (r := Rg.eq _) (Rg.one_plain (by rfl) (by (intro ax wx hk Kx hK; obtain ⟨v18, k18, h18⟩ := hk.dep 4 18 _ rfl rfl rfl; (first | (cases (h18 : v18 = _)) | (obtain ⟨rfl, h18⟩ := h18) | skip); have hj := hk.j; clear hk; have z0 := (hj.cell (p := ⟨g, 0, none⟩) HLT.out).trans (H.out.cell 0 _ rfl); have z1 := (hj.cell (p := ⟨g, 1, none⟩) HLT.out).trans (H.out.cell 1 _ rfl); go_simp; refine hK _ _ ?_ (Below.refl _ _); apply Rg.mk))) ?_ rfl
  refine Rg.build_cons (m := 7) (r := Rg.eq _) (Rg.one_plain (by rfl) (by (intro ax wx hk Kx hK; obtain ⟨v19, k19, h19⟩ := hk.dep 5 19 _ rfl rfl rfl; (first | (cases (h19 : v19 = _)) | (obtain ⟨rfl, h19⟩ := h19) | skip); have hj := hk.j; clear hk; have z0 := (hj.cell (p := ⟨g, 0, none⟩) HLT.out).trans (H.out.cell 0 _ rfl); have z1 := (hj.cell (p := ⟨g, 1, none⟩) HLT.out).trans (H.out.cell 1 _ rfl); go_simp; refine hK _ _ ?_ (Below.refl _ _); apply Rg.mk))) ?_ rfl
  refine Rg.build_cons (m := 8) (r := Rg.eq _) (Rg.one_plain (by rfl) (by (intro ax wx hk Kx hK; obtain ⟨v20, k20, h20⟩ := hk.dep 6 20 _ rfl rfl rfl; (first | (cases (h20 : v20 = _)) | (obtain ⟨rfl, h20⟩ := h20) | skip); have hj := hk.j; clear hk; have z0 := (hj.cell (p := ⟨g, 0, none⟩) HLT.out).trans (H.out.cell 0 _ rfl); have z1 := (hj.cell (p := ⟨g, 1, none⟩) HLT.out).trans (H.out.cell 1 _ rfl); go_simp; refine hK _ _ ?_ (Below.refl _ _); apply Rg.mk))) ?_ rfl
  refine Rg.build_cons (m := 9) (r := Rg.eq (.int .u8 (ch s p))) (Rg.one_plain (by rfl) (by (intro ax wx hk Kx hK; obtain ⟨v17, k17, h17⟩ := hk.dep 3 17 _ rfl rfl rfl; (first | (cases (h17 : v17 = _)) | (obtain ⟨rfl, h17⟩ := h17) | skip); obtain ⟨v21, k21, h21⟩ := hk.dep 7 21 _ rfl rfl rfl; (first | (cases (h21 : v21 = _)) | (obtain ⟨rfl, h21⟩ := h21) | skip); have hj := hk.j; clear hk; have z0 := (hj.cell (p := ⟨g, 0, none⟩) HLT.out).trans (H.out.cell 0 _ rfl); have z1 := (hj.cell (p := ⟨g, 1, none⟩) HLT.out).trans (H.out.cell 1 _ rfl); (go_simp; refine hK _ _ ?_ (Below.refl _ _); simp [Rg.eq, hch])))) ?_ rfl
  refine Rg.build_cons (m := 10) (r := Rg.eq _) (Rg.one_plain (by rfl) (by (intro ax wx hk Kx hK; obtain ⟨v22, k22, h22⟩ := hk.dep 8 22 _ rfl rfl rfl; (first | (cases (h22 : v22 = _)) | (obtain ⟨rfl, h22⟩ := h22) | skip); have hj := hk.j; clear hk; have z0 := (hj.cell (p := ⟨g, 0, none⟩) HLT.out).trans (H.out.cell 0 _ rfl); have z1 := (hj.cell (p := ⟨g, 1, none⟩) HLT.out).trans (H.out.cell 1 _ rfl); go_simp; refine hK _ _ ?_ (Below.refl _ _); apply Rg.mk))) ?_ rfl
  refine Rg.build_cons (m := 11) (r := Rg.eq _) (Rg.one_plain (by rfl) (by (intro ax wx hk Kx hK; have hj := hk.j; clear hk; have z0 := (hj.cell (p := ⟨g, 0, none⟩) HLT.out).trans (H.out.cell 0 _ rfl); have z1 := (hj.cell (p := ⟨g, 1, none⟩) HLT.out).trans (H.out.cell 1 _ rfl); go_simp; refine hK _ _ ?_ (Below.refl _ _); apply Rg.mk))) ?_ rfl
  refine Rg.build_end fun wx hj => ?_
  refine Rg.fin_eq rfl ?_
  refine Rg.fin_eq rfl ?_
  refine Rg.fin_eq rfl ?_
  refine Rg.fin_eq rfl ?_
  refine Rg.fin_eq rfl ?_
  refine Rg.fin_eq rfl ?_
  refine Rg.fin_eq rfl ?_
  refine Rg.fin_eq rfl ?_
  first | refine Rg.fin_eq rfl ?_ | refine Rg.fin_any rfl fun v22 h22 => ?_
  refine Rg.fin_eq rfl ?_
  refine Rg.fin_eq rfl ?_
  refine Rg.fin_nil ?_
  simp only [List.set_cons_zero, List.set_cons_succ]
  have HJ2 := Lib.hid hj; clear hj
  go_wp2_with fail
  go_returns
  exact ⟨by rw [hch]; rfl, HJ2.out⟩
set_option maxRecDepth 100000 in
theorem isX (g : Nat) (s : ByteArray) (p : Nat) (o : Int) (c : Int) (w : World) (h : AtG w g 85 (rxr s p o)) (hp : p ≤ s.size) (hc : 0 ≤ c) :
    Calls Try.prog 67 #[.pointer (some ⟨g, 0, none⟩), .int .u8 c] w fun e w' => e = .returned (.bool (decide (ch s p = c))) ∧ Below w.heap.size w w' := by
  by_cases hlt : p < s.size
  · have HP := Lib.hid (peekX_in g s p o w h hlt)
    generalize ch s p = d at *
    clear h
    go_enter Try.func67, Try.ntmps67
    go_wp2_with fail
    refine (HP.out).mono ?_
    rintro e9 w1 ⟨rfl, hb⟩
    have HB := Lib.hid hb
    clear hb
    by_cases hd : d = c
    · subst hd
      go_wp2_with fail
      go_returns
      exact ⟨by simp, HB.out⟩
    · have hd1 : (d == c) = false := by rw [beq_eq_false_iff_ne]; exact hd
      go_wp2_with fail
      go_returns
      exact ⟨by rw [decide_eq_false hd]; simp [hd], HB.out⟩
  · have HP := Lib.hid (peekX_end g s p o w h (by omega))
    have hd : ¬ ch s p = c := by rw [ch_end (by omega)]; omega
    have HD := Lib.hid hd
    clear h hd
    go_enter Try.func67, Try.ntmps67
    go_wp2_with fail
    refine (HP.out).mono ?_
    rintro e9 w1 ⟨rfl, hb⟩
    have HB := Lib.hid hb
    clear hb
    go_wp2_with fail
    go_returns
    exact ⟨by rw [decide_eq_false HD.out]; rfl, HB.out⟩
set_option maxRecDepth 100000 in
theorem nextX_in (g : Nat) (s : ByteArray) (p : Nat) (o : Int) (w : World) (h : AtG w g 85 (rxr s p o)) (hp : p < s.size) (hs : s.size ≤ 1000) :
    Calls Try.prog 84 #[.pointer (some ⟨g, 0, none⟩)] w fun e w' => e = .returned (.int .u8 (ch s p)) ∧ Only (fun k => k = g) w w' ∧ AtG w' g 85 (rxr s ((p + 1 : Nat) : Int) o) := by
  have HP := Lib.hid (peekX_in g s p o w h hp)
  have H := Lib.hid h
  have hpI : (p : Int) < 1000 := by omega
  generalize ch s p = d at *
  clear h
  go_enter Try.func84, Try.ntmps84
  go_wp2_with fail
  refine (HP.out).mono ?_
  rintro e9 w1 ⟨rfl, hb⟩
  have H1 := Lib.hid (H.out.below hb); have HB := Lib.hid hb
  clear hb
  have z1 : w1.cell? ⟨g, 1, none⟩ = some (.int .i64 (p : Int)) := H1.out.cell 1 _ rfl
  have f1 := H1.out.frozen 1
  go_wp2_with fail
  go_returns
  refine ⟨rfl, (Only.of_below HB.out).trans (Only.set (S := fun k => k = g) _ _ _ _ rfl) (fun k hk => .inl hk), ?_⟩
  rw [show ((p + 1 : Nat) : Int) = (p : Int) + 1 from by omega]
  exact H1.out.set 1 _
set_option maxRecDepth 100000 in
theorem nextX_end (g : Nat) (s : ByteArray) (p : Nat) (o : Int) (w : World) (h : AtG w g 85 (rxr s p o)) (hp : p = s.size) :
    Calls Try.prog 84 #[.pointer (some ⟨g, 0, none⟩)] w fun e w' => Only (fun k => k = g) w w' ∧ RxNo 2 p e w' := by
  have HP := Lib.hid (peekX_end g s p o w h hp)
  have H := Lib.hid h
  clear h hp
  go_enter Try.func84, Try.ntmps84
  go_wp2_with fail
  refine (HP.out).mono ?_
  rintro e9 w1 ⟨rfl, hb⟩
  have H1 := Lib.hid (H.out.below hb); have HB := Lib.hid hb
  clear hb
  have z1 : w1.cell? ⟨g, 1, none⟩ = some (.int .i64 (p : Int)) := H1.out.cell 1 _ rfl
  go_wp2_with fail
  refine (failX g p 2 _).mono ?_
  rintro e9 w2 ⟨hb2, b, rfl, ha⟩
  exact ⟨rfl, (Only.of_below HB.out).trans (Only.of_below (S := fun k => k = g) hb2) (fun k hk => .inl hk), b, rfl, ha⟩
theorem RxNo.below {c : Int} {x : Nat} {e : Ending} {w w' : World} (h : RxNo c x e w) (hb : Below w.heap.size w w') : RxNo c x e w' := by
  obtain ⟨b, h1, h2⟩ := h; exact ⟨b, h1, h2.below hb⟩
end Go.Proofs.Ytofgkildlhcpdaa
