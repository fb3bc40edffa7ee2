/- The document's Do whole; lists of instructions compared; Trace. -/
import Derived.Test.YtpikoijohfmnaaaRefCt4
import Derived.Test.YtpikoijohfmnaaaRefCt4b
import Derived.Test.YtpikoijohfmnaaaRefCt5
import Derived.Test.YtpikoijohfmnaaaCt8
set_option linter.unusedVariables false
set_option linter.unusedSimpArgs false
namespace Go.Proofs.Ytpikoijohfmnaaa
open Go.RowKit
theorem refDo_yes (x : Ins) (g mp k s : Nat) (lv : Value) (q : Int → Option Int) (tr : List Ins) (w : World) (h : RfM w g mp lv k s q tr) (hm : mayP k x = true) (htr : tr.length ≤ 1000000000000) (hs : s ≤ 1000000000000) (ho : x.ok) :
    Calls Try.prog 11 #[.pointer (some ⟨g, 0, none⟩), x.val] w (RfPost g mp k s lv q tr x w) := by
  obtain ⟨op, d, a, b, c, n⟩ := x
  obtain ⟨hop, _, _, _, _, hS⟩ := mayP_in hm
  have hn0 : 0 ≤ n := ho.2.2.2.2.2.1
  rcases (by omega : op = 0 ∨ op = 1 ∨ op = 2 ∨ op = 3 ∨ op = 4 ∨ op = 5 ∨ op = 6 ∨ op = 7 ∨ op = 8 ∨ op = 9 ∨ op = 10 ∨ op = 11) with rfl | rfl | rfl | rfl | rfl | rfl | rfl | rfl | rfl | rfl | rfl | rfl
  · exact refDo_const d a b c n g mp k s lv q tr w h hm htr hs ho
  · by_cases hz : atQ q a = 0
    · exact refDo_sel0 d a b c n g mp k s lv q tr w h hm htr hs ho hz
    · exact refDo_sel1 d a b c n g mp k s lv q tr w h hm htr hs ho hz
  · exact refDo_eq d a b c n g mp k s lv q tr w h hm htr hs ho
  · exact refDo_lt d a b c n g mp k s lv q tr w h hm htr hs ho
  · exact refDo_add d a b c n g mp k s lv q tr w h hm htr hs ho
  · by_cases hl : atQ q a < atQ q b
    · exact refDo_csub1 d a b c n g mp k s lv q tr w h hm htr hs ho hl
    · exact refDo_csub2 d a b c n g mp k s lv q tr w h hm htr hs ho (by omega)
  · exact refDo_shl d a b c n g mp k s lv q tr w h hm htr hs ho hn0 (hS rfl)
  · exact refDo_shr d a b c n g mp k s lv q tr w h hm htr hs ho hn0 (hS rfl)
  · exact refDo_and d a b c n g mp k s lv q tr w h hm htr hs ho
  · exact refDo_or d a b c n g mp k s lv q tr w h hm htr hs ho
  · exact refDo_in d a b c n g mp k s lv q tr w h hm htr hs ho
  · exact refDo_emit d a b c n g mp k s lv q tr w h hm htr hs ho
/-- instructions that are read -/
def RdIns (w : World) (v : Value) (l : List Ins) : Prop := RdRows w v 6 (l.map fun x => x.cells.toList)
theorem rdIns_own {w : World} {base n : Nat} {v : Value} {l : List Ins} (h : w.ownsRow base 35 6 v n (flat6 l)) (hl : l.length ≤ 1000000000000) : RdIns w v l := by
  obtain ⟨hn, h⟩ := h
  rw [flat6_len] at hn
  have hn : l.length = n := by omega
  rcases h with ⟨rfl, h0⟩ | ⟨g, cap, cur, rfl, hb, hh, hnc, hcm, hcs, hct⟩
  · have : l = [] := List.eq_nil_of_length_eq_zero (by omega)
    subst this
    exact .inl ⟨rfl, _, _, rfl⟩
  · refine .inr ⟨g, 0, cap, by rw [List.length_map, hn], by rw [List.length_map]; omega, by rw [List.length_map]; omega, fun j r hr i hi => ?_, fun r hr => ?_⟩
    · have hj : j < l.length := by have := (List.getElem?_eq_some_iff.1 hr).1; simpa using this
      have hr' : r = l[j].cells.toList := by
        rw [List.getElem?_map, List.getElem?_eq_getElem hj] at hr
        simpa using hr.symm
      subst hr'
      rw [← flat6_get l j hj i hi, ← hct, List.getElem?_take, if_pos (by omega)]
      simp [World.cell?, hh]
    · simp only [List.mem_map] at hr
      obtain ⟨f, _, rfl⟩ := hr
      rfl
theorem rdIns_below {w w' : World} {v : Value} {l : List Ins} (h : RdIns w v l) (hb : Below w.heap.size w w') : RdIns w' v l := RdRows.below h hb
theorem rdIns_form {w : World} {v : Value} {l : List Ins} (h : RdIns w v l) : ∃ a c, v = .slice a l.length c ∧ l.length ≤ 140737488355328 ∧ (l.length = 0 ∨ ∃ b o, a = some ⟨b, o, none⟩) := by
  rcases h with ⟨h0, a, c, rfl⟩ | ⟨b, off, cap, rfl, _, hm, _⟩
  · have h1 : l.length = 0 := by have := congrArg List.length h0; rwa [List.length_map] at this
    exact ⟨a, c, by rw [h1], by omega, .inl h1⟩
  · rw [List.length_map] at hm
    exact ⟨_, cap, by rw [List.length_map], by omega, .inr ⟨b, off, rfl⟩⟩
theorem rdIns_cells {w : World} {b off n cap : Nat} {l : List Ins} (h : RdIns w (.slice (some ⟨b, off, none⟩) n cap) l) (j : Nat) (hj : j < l.length) :
    w.cell? ⟨b, off + j * 6, none⟩ = some (.int .i64 l[j].op) ∧ w.cell? ⟨b, off + j * 6 + 1, none⟩ = some (.int .i64 l[j].d) ∧ w.cell? ⟨b, off + j * 6 + 2, none⟩ = some (.int .i64 l[j].a) ∧
    w.cell? ⟨b, off + j * 6 + 3, none⟩ = some (.int .i64 l[j].b) ∧ w.cell? ⟨b, off + j * 6 + 4, none⟩ = some (.int .i64 l[j].c) ∧ w.cell? ⟨b, off + j * 6 + 5, none⟩ = some (.int .u64 l[j].n) := by
  rcases h with ⟨h0, _⟩ | ⟨b', off', cap', heq, _, _, h3, _⟩
  · have := congrArg List.length h0; rw [List.length_map] at this; simp at this; subst this; cases hj
  · injection heq with e1 e2 e3
    injection e1 with e1
    injection e1 with e1 e4
    subst e1; subst e4
    have hr : (l.map fun x => x.cells.toList)[j]? = some l[j].cells.toList := by rw [List.getElem?_map, List.getElem?_eq_getElem hj]; rfl
    exact ⟨h3 j _ hr 0 (by omega), h3 j _ hr 1 (by omega), h3 j _ hr 2 (by omega), h3 j _ hr 3 (by omega), h3 j _ hr 4 (by omega), h3 j _ hr 5 (by omega)⟩
set_option maxRecDepth 100000 in
set_option maxHeartbeats 4000000 in
theorem same_ins (va vb : Value) (l : List Ins) (w : World) (ha : RdIns w va l) (hb : RdIns w vb l) :
    Calls Try.prog 13 #[va, vb] w fun e w' => e = .returned (.bool true) ∧ Below w.heap.size w w' := by
  obtain ⟨a1, c1, rfl, hl, hA⟩ := rdIns_form ha
  obtain ⟨a2, c2, rfl, _, hB⟩ := rdIns_form hb
  obtain ⟨n, hn⟩ : ∃ n, l.length = n := ⟨_, rfl⟩
  rw [hn] at ha hb hl hA hB ⊢
  have HA := Lib.hid ha; have HB := Lib.hid hb; have HN := Lib.hid hn; have HFA := Lib.hid hA; have HFB := Lib.hid hB
  clear ha hb hn hA hB
  go_enter Try.func13, Try.ntmps13
  go_wp2_with fail
  go_loopw [5] (fun i wr => ∃ k : Nat, k ≤ n ∧ i = .int .i64 k ∧ Below w.heap.size w wr) (fun i _ => n - (intOf i).toNat)
  case atStart => exact ⟨0, by omega, rfl, Below.refl _ _⟩
  case round =>
    obtain ⟨k, hk, rfl, hbl⟩ := hrel
    have HBL := Lib.hid hbl; clear hbl
    by_cases hkn : k < n
    · have hkl : k < l.length := by rw [HN.out]; exact hkn
      rcases HFA.out with h0 | ⟨b1, o1, rfl⟩
      · exact absurd h0 (by omega)
      rcases HFB.out with h0 | ⟨b2, o2, rfl⟩
      · exact absurd h0 (by omega)
      obtain ⟨⟨op, d, a, b, c, m⟩, hx⟩ : ∃ x, l[k] = x := ⟨_, rfl⟩
      have ca := rdIns_cells (rdIns_below HA.out HBL.out) k hkl
      have cb := rdIns_cells (rdIns_below HB.out HBL.out) k hkl
      rw [hx] at ca cb
      dsimp only at ca cb
      have hlt1 := block_lt_of_cell ca.1
      have hlt2 := block_lt_of_cell cb.1
      have CA := Lib.hid ca; have CB := Lib.hid cb; have L1 := Lib.hid hlt1; have L2 := Lib.hid hlt2
      clear ca cb hx hlt1 hlt2
      obtain ⟨wy, rfl⟩ : ∃ wy : World, wy = wr := ⟨_, rfl⟩
      go_upto_region 6 with (fail)
      refine Rg.wp_region_each (by kernel_rfl) (fun w' => Below wy.heap.size wy w') (fun w1 w2 h hb => h.trans (hb.mono h.size)) (by kernel_rfl) (by kernel_rfl) (Below.refl _ _) ?_
      show Rg.Build _ _ _ _ _ 0 [_, _, _, _, _, _, _, _, _] []
      refine Rg.build_cons (m := 1) (r := Rg.eq _) (Rg.one_plain (by rfl) (by (intro ax wx hk Kx hK; have k0 := hk.base 0 _ rfl rfl; have hj := hk.j; clear hk; have z0 := (hj.cell (p := ⟨b1, o1 + k * 6, none⟩) L1.out).trans CA.out.1; have z1 := (hj.cell (p := ⟨b1, o1 + k * 6 + 1, none⟩) L1.out).trans CA.out.2.1; have z2 := (hj.cell (p := ⟨b1, o1 + k * 6 + 2, none⟩) L1.out).trans CA.out.2.2.1; have z3 := (hj.cell (p := ⟨b1, o1 + k * 6 + 3, none⟩) L1.out).trans CA.out.2.2.2.1; have z4 := (hj.cell (p := ⟨b1, o1 + k * 6 + 4, none⟩) L1.out).trans CA.out.2.2.2.2.1; have z5 := (hj.cell (p := ⟨b1, o1 + k * 6 + 5, none⟩) L1.out).trans CA.out.2.2.2.2.2; have y0 := (hj.cell (p := ⟨b2, o2 + k * 6, none⟩) L2.out).trans CB.out.1; have y1 := (hj.cell (p := ⟨b2, o2 + k * 6 + 1, none⟩) L2.out).trans CB.out.2.1; have y2 := (hj.cell (p := ⟨b2, o2 + k * 6 + 2, none⟩) L2.out).trans CB.out.2.2.1; have y3 := (hj.cell (p := ⟨b2, o2 + k * 6 + 3, none⟩) L2.out).trans CB.out.2.2.2.1; have y4 := (hj.cell (p := ⟨b2, o2 + k * 6 + 4, none⟩) L2.out).trans CB.out.2.2.2.2.1; have y5 := (hj.cell (p := ⟨b2, o2 + k * 6 + 5, none⟩) L2.out).trans CB.out.2.2.2.2.2; go_simp; refine hK _ _ ?_ (Below.refl _ _); apply Rg.mk))) ?_ rfl
      refine Rg.build_cons (m := 2) (r := Rg.eq _) (Rg.one_plain (by rfl) (by (intro ax wx hk Kx hK; have k5 := hk.base 5 _ rfl rfl; have hj := hk.j; clear hk; have z0 := (hj.cell (p := ⟨b1, o1 + k * 6, none⟩) L1.out).trans CA.out.1; have z1 := (hj.cell (p := ⟨b1, o1 + k * 6 + 1, none⟩) L1.out).trans CA.out.2.1; have z2 := (hj.cell (p := ⟨b1, o1 + k * 6 + 2, none⟩) L1.out).trans CA.out.2.2.1; have z3 := (hj.cell (p := ⟨b1, o1 + k * 6 + 3, none⟩) L1.out).trans CA.out.2.2.2.1; have z4 := (hj.cell (p := ⟨b1, o1 + k * 6 + 4, none⟩) L1.out).trans CA.out.2.2.2.2.1; have z5 := (hj.cell (p := ⟨b1, o1 + k * 6 + 5, none⟩) L1.out).trans CA.out.2.2.2.2.2; have y0 := (hj.cell (p := ⟨b2, o2 + k * 6, none⟩) L2.out).trans CB.out.1; have y1 := (hj.cell (p := ⟨b2, o2 + k * 6 + 1, none⟩) L2.out).trans CB.out.2.1; have y2 := (hj.cell (p := ⟨b2, o2 + k * 6 + 2, none⟩) L2.out).trans CB.out.2.2.1; have y3 := (hj.cell (p := ⟨b2, o2 + k * 6 + 3, none⟩) L2.out).trans CB.out.2.2.2.1; have y4 := (hj.cell (p := ⟨b2, o2 + k * 6 + 4, none⟩) L2.out).trans CB.out.2.2.2.2.1; have y5 := (hj.cell (p := ⟨b2, o2 + k * 6 + 5, none⟩) L2.out).trans CB.out.2.2.2.2.2; go_simp; refine hK _ _ ?_ (Below.refl _ _); apply Rg.mk))) ?_ rfl
      refine Rg.build_cons (m := 3) (r := Rg.eq _) (Rg.one_plain (by rfl) (by (intro ax wx hk Kx hK; obtain ⟨v17, k17, h17⟩ := hk.dep 0 17 _ rfl rfl rfl; (first | (cases (h17 : v17 = _)) | (obtain ⟨rfl, h17⟩ := h17) | skip); obtain ⟨v18, k18, h18⟩ := hk.dep 1 18 _ rfl rfl rfl; (first | (cases (h18 : v18 = _)) | (obtain ⟨rfl, h18⟩ := h18) | skip); have hj := hk.j; clear hk; have z0 := (hj.cell (p := ⟨b1, o1 + k * 6, none⟩) L1.out).trans CA.out.1; have z1 := (hj.cell (p := ⟨b1, o1 + k * 6 + 1, none⟩) L1.out).trans CA.out.2.1; have z2 := (hj.cell (p := ⟨b1, o1 + k * 6 + 2, none⟩) L1.out).trans CA.out.2.2.1; have z3 := (hj.cell (p := ⟨b1, o1 + k * 6 + 3, none⟩) L1.out).trans CA.out.2.2.2.1; have z4 := (hj.cell (p := ⟨b1, o1 + k * 6 + 4, none⟩) L1.out).trans CA.out.2.2.2.2.1; have z5 := (hj.cell (p := ⟨b1, o1 + k * 6 + 5, none⟩) L1.out).trans CA.out.2.2.2.2.2; have y0 := (hj.cell (p := ⟨b2, o2 + k * 6, none⟩) L2.out).trans CB.out.1; have y1 := (hj.cell (p := ⟨b2, o2 + k * 6 + 1, none⟩) L2.out).trans CB.out.2.1; have y2 := (hj.cell (p := ⟨b2, o2 + k * 6 + 2, none⟩) L2.out).trans CB.out.2.2.1; have y3 := (hj.cell (p := ⟨b2, o2 + k * 6 + 3, none⟩) L2.out).trans CB.out.2.2.2.1; have y4 := (hj.cell (p := ⟨b2, o2 + k * 6 + 4, none⟩) L2.out).trans CB.out.2.2.2.2.1; have y5 := (hj.cell (p := ⟨b2, o2 + k * 6 + 5, none⟩) L2.out).trans CB.out.2.2.2.2.2; go_simp; refine hK _ _ ?_ (Below.refl _ _); apply Rg.mk))) ?_ rfl
      refine Rg.build_cons (m := 4) (r := Rg.eq _) (Rg.one_plain (by rfl) (by (intro ax wx hk Kx hK; obtain ⟨v19, k19, h19⟩ := hk.dep 2 19 _ rfl rfl rfl; (first | (cases (h19 : v19 = _)) | (obtain ⟨rfl, h19⟩ := h19) | skip); have hj := hk.j; clear hk; have z0 := (hj.cell (p := ⟨b1, o1 + k * 6, none⟩) L1.out).trans CA.out.1; have z1 := (hj.cell (p := ⟨b1, o1 + k * 6 + 1, none⟩) L1.out).trans CA.out.2.1; have z2 := (hj.cell (p := ⟨b1, o1 + k * 6 + 2, none⟩) L1.out).trans CA.out.2.2.1; have z3 := (hj.cell (p := ⟨b1, o1 + k * 6 + 3, none⟩) L1.out).trans CA.out.2.2.2.1; have z4 := (hj.cell (p := ⟨b1, o1 + k * 6 + 4, none⟩) L1.out).trans CA.out.2.2.2.2.1; have z5 := (hj.cell (p := ⟨b1, o1 + k * 6 + 5, none⟩) L1.out).trans CA.out.2.2.2.2.2; have y0 := (hj.cell (p := ⟨b2, o2 + k * 6, none⟩) L2.out).trans CB.out.1; have y1 := (hj.cell (p := ⟨b2, o2 + k * 6 + 1, none⟩) L2.out).trans CB.out.2.1; have y2 := (hj.cell (p := ⟨b2, o2 + k * 6 + 2, none⟩) L2.out).trans CB.out.2.2.1; have y3 := (hj.cell (p := ⟨b2, o2 + k * 6 + 3, none⟩) L2.out).trans CB.out.2.2.2.1; have y4 := (hj.cell (p := ⟨b2, o2 + k * 6 + 4, none⟩) L2.out).trans CB.out.2.2.2.2.1; have y5 := (hj.cell (p := ⟨b2, o2 + k * 6 + 5, none⟩) L2.out).trans CB.out.2.2.2.2.2; go_simp; refine hK _ _ ?_ (Below.refl _ _); apply Rg.mk))) ?_ rfl
      refine Rg.build_cons (m := 5) (r := Rg.eq _) (Rg.one_plain (by rfl) (by (intro ax wx hk Kx hK; have k1 := hk.base 1 _ rfl rfl; have hj := hk.j; clear hk; have z0 := (hj.cell (p := ⟨b1, o1 + k * 6, none⟩) L1.out).trans CA.out.1; have z1 := (hj.cell (p := ⟨b1, o1 + k * 6 + 1, none⟩) L1.out).trans CA.out.2.1; have z2 := (hj.cell (p := ⟨b1, o1 + k * 6 + 2, none⟩) L1.out).trans CA.out.2.2.1; have z3 := (hj.cell (p := ⟨b1, o1 + k * 6 + 3, none⟩) L1.out).trans CA.out.2.2.2.1; have z4 := (hj.cell (p := ⟨b1, o1 + k * 6 + 4, none⟩) L1.out).trans CA.out.2.2.2.2.1; have z5 := (hj.cell (p := ⟨b1, o1 + k * 6 + 5, none⟩) L1.out).trans CA.out.2.2.2.2.2; have y0 := (hj.cell (p := ⟨b2, o2 + k * 6, none⟩) L2.out).trans CB.out.1; have y1 := (hj.cell (p := ⟨b2, o2 + k * 6 + 1, none⟩) L2.out).trans CB.out.2.1; have y2 := (hj.cell (p := ⟨b2, o2 + k * 6 + 2, none⟩) L2.out).trans CB.out.2.2.1; have y3 := (hj.cell (p := ⟨b2, o2 + k * 6 + 3, none⟩) L2.out).trans CB.out.2.2.2.1; have y4 := (hj.cell (p := ⟨b2, o2 + k * 6 + 4, none⟩) L2.out).trans CB.out.2.2.2.2.1; have y5 := (hj.cell (p := ⟨b2, o2 + k * 6 + 5, none⟩) L2.out).trans CB.out.2.2.2.2.2; go_simp; refine hK _ _ ?_ (Below.refl _ _); apply Rg.mk))) ?_ rfl
      refine Rg.build_cons (m := 6) (r := Rg.eq _) (Rg.one_plain (by rfl) (by (intro ax wx hk Kx hK; have k5 := hk.base 5 _ rfl rfl; have hj := hk.j; clear hk; have z0 := (hj.cell (p := ⟨b1, o1 + k * 6, none⟩) L1.out).trans CA.out.1; have z1 := (hj.cell (p := ⟨b1, o1 + k * 6 + 1, none⟩) L1.out).trans CA.out.2.1; have z2 := (hj.cell (p := ⟨b1, o1 + k * 6 + 2, none⟩) L1.out).trans CA.out.2.2.1; have z3 := (hj.cell (p := ⟨b1, o1 + k * 6 + 3, none⟩) L1.out).trans CA.out.2.2.2.1; have z4 := (hj.cell (p := ⟨b1, o1 + k * 6 + 4, none⟩) L1.out).trans CA.out.2.2.2.2.1; have z5 := (hj.cell (p := ⟨b1, o1 + k * 6 + 5, none⟩) L1.out).trans CA.out.2.2.2.2.2; have y0 := (hj.cell (p := ⟨b2, o2 + k * 6, none⟩) L2.out).trans CB.out.1; have y1 := (hj.cell (p := ⟨b2, o2 + k * 6 + 1, none⟩) L2.out).trans CB.out.2.1; have y2 := (hj.cell (p := ⟨b2, o2 + k * 6 + 2, none⟩) L2.out).trans CB.out.2.2.1; have y3 := (hj.cell (p := ⟨b2, o2 + k * 6 + 3, none⟩) L2.out).trans CB.out.2.2.2.1; have y4 := (hj.cell (p := ⟨b2, o2 + k * 6 + 4, none⟩) L2.out).trans CB.out.2.2.2.2.1; have y5 := (hj.cell (p := ⟨b2, o2 + k * 6 + 5, none⟩) L2.out).trans CB.out.2.2.2.2.2; go_simp; refine hK _ _ ?_ (Below.refl _ _); apply Rg.mk))) ?_ rfl
      refine Rg.build_cons (m := 7) (r := Rg.eq _) (Rg.one_plain (by rfl) (by (intro ax wx hk Kx hK; obtain ⟨v21, k21, h21⟩ := hk.dep 4 21 _ rfl rfl rfl; (first | (cases (h21 : v21 = _)) | (obtain ⟨rfl, h21⟩ := h21) | skip); obtain ⟨v22, k22, h22⟩ := hk.dep 5 22 _ rfl rfl rfl; (first | (cases (h22 : v22 = _)) | (obtain ⟨rfl, h22⟩ := h22) | skip); have hj := hk.j; clear hk; have z0 := (hj.cell (p := ⟨b1, o1 + k * 6, none⟩) L1.out).trans CA.out.1; have z1 := (hj.cell (p := ⟨b1, o1 + k * 6 + 1, none⟩) L1.out).trans CA.out.2.1; have z2 := (hj.cell (p := ⟨b1, o1 + k * 6 + 2, none⟩) L1.out).trans CA.out.2.2.1; have z3 := (hj.cell (p := ⟨b1, o1 + k * 6 + 3, none⟩) L1.out).trans CA.out.2.2.2.1; have z4 := (hj.cell (p := ⟨b1, o1 + k * 6 + 4, none⟩) L1.out).trans CA.out.2.2.2.2.1; have z5 := (hj.cell (p := ⟨b1, o1 + k * 6 + 5, none⟩) L1.out).trans CA.out.2.2.2.2.2; have y0 := (hj.cell (p := ⟨b2, o2 + k * 6, none⟩) L2.out).trans CB.out.1; have y1 := (hj.cell (p := ⟨b2, o2 + k * 6 + 1, none⟩) L2.out).trans CB.out.2.1; have y2 := (hj.cell (p := ⟨b2, o2 + k * 6 + 2, none⟩) L2.out).trans CB.out.2.2.1; have y3 := (hj.cell (p := ⟨b2, o2 + k * 6 + 3, none⟩) L2.out).trans CB.out.2.2.2.1; have y4 := (hj.cell (p := ⟨b2, o2 + k * 6 + 4, none⟩) L2.out).trans CB.out.2.2.2.2.1; have y5 := (hj.cell (p := ⟨b2, o2 + k * 6 + 5, none⟩) L2.out).trans CB.out.2.2.2.2.2; go_simp; refine hK _ _ ?_ (Below.refl _ _); apply Rg.mk))) ?_ rfl
      refine Rg.build_cons (m := 8) (r := Rg.eq _) (Rg.one_plain (by rfl) (by (intro ax wx hk Kx hK; obtain ⟨v23, k23, h23⟩ := hk.dep 6 23 _ rfl rfl rfl; (first | (cases (h23 : v23 = _)) | (obtain ⟨rfl, h23⟩ := h23) | skip); have hj := hk.j; clear hk; have z0 := (hj.cell (p := ⟨b1, o1 + k * 6, none⟩) L1.out).trans CA.out.1; have z1 := (hj.cell (p := ⟨b1, o1 + k * 6 + 1, none⟩) L1.out).trans CA.out.2.1; have z2 := (hj.cell (p := ⟨b1, o1 + k * 6 + 2, none⟩) L1.out).trans CA.out.2.2.1; have z3 := (hj.cell (p := ⟨b1, o1 + k * 6 + 3, none⟩) L1.out).trans CA.out.2.2.2.1; have z4 := (hj.cell (p := ⟨b1, o1 + k * 6 + 4, none⟩) L1.out).trans CA.out.2.2.2.2.1; have z5 := (hj.cell (p := ⟨b1, o1 + k * 6 + 5, none⟩) L1.out).trans CA.out.2.2.2.2.2; have y0 := (hj.cell (p := ⟨b2, o2 + k * 6, none⟩) L2.out).trans CB.out.1; have y1 := (hj.cell (p := ⟨b2, o2 + k * 6 + 1, none⟩) L2.out).trans CB.out.2.1; have y2 := (hj.cell (p := ⟨b2, o2 + k * 6 + 2, none⟩) L2.out).trans CB.out.2.2.1; have y3 := (hj.cell (p := ⟨b2, o2 + k * 6 + 3, none⟩) L2.out).trans CB.out.2.2.2.1; have y4 := (hj.cell (p := ⟨b2, o2 + k * 6 + 4, none⟩) L2.out).trans CB.out.2.2.2.2.1; have y5 := (hj.cell (p := ⟨b2, o2 + k * 6 + 5, none⟩) L2.out).trans CB.out.2.2.2.2.2; go_simp; refine hK _ _ ?_ (Below.refl _ _); apply Rg.mk))) ?_ rfl
      refine Rg.build_cons (m := 9) (r := Rg.eq (.bool false)) (Rg.one_plain (by rfl) (by (intro ax wx hk Kx hK; obtain ⟨v20, k20, h20⟩ := hk.dep 3 20 _ rfl rfl rfl; (first | (cases (h20 : v20 = _)) | (obtain ⟨rfl, h20⟩ := h20) | skip); obtain ⟨v24, k24, h24⟩ := hk.dep 7 24 _ rfl rfl rfl; (first | (cases (h24 : v24 = _)) | (obtain ⟨rfl, h24⟩ := h24) | skip); have hj := hk.j; clear hk; have z0 := (hj.cell (p := ⟨b1, o1 + k * 6, none⟩) L1.out).trans CA.out.1; have z1 := (hj.cell (p := ⟨b1, o1 + k * 6 + 1, none⟩) L1.out).trans CA.out.2.1; have z2 := (hj.cell (p := ⟨b1, o1 + k * 6 + 2, none⟩) L1.out).trans CA.out.2.2.1; have z3 := (hj.cell (p := ⟨b1, o1 + k * 6 + 3, none⟩) L1.out).trans CA.out.2.2.2.1; have z4 := (hj.cell (p := ⟨b1, o1 + k * 6 + 4, none⟩) L1.out).trans CA.out.2.2.2.2.1; have z5 := (hj.cell (p := ⟨b1, o1 + k * 6 + 5, none⟩) L1.out).trans CA.out.2.2.2.2.2; have y0 := (hj.cell (p := ⟨b2, o2 + k * 6, none⟩) L2.out).trans CB.out.1; have y1 := (hj.cell (p := ⟨b2, o2 + k * 6 + 1, none⟩) L2.out).trans CB.out.2.1; have y2 := (hj.cell (p := ⟨b2, o2 + k * 6 + 2, none⟩) L2.out).trans CB.out.2.2.1; have y3 := (hj.cell (p := ⟨b2, o2 + k * 6 + 3, none⟩) L2.out).trans CB.out.2.2.2.1; have y4 := (hj.cell (p := ⟨b2, o2 + k * 6 + 4, none⟩) L2.out).trans CB.out.2.2.2.2.1; have y5 := (hj.cell (p := ⟨b2, o2 + k * 6 + 5, none⟩) L2.out).trans CB.out.2.2.2.2.2; (go_simp; refine hK _ _ ?_ (Below.refl _ _); simp [Rg.eq])))) ?_ rfl
      refine Rg.build_end fun wx hj => ?_
      refine Rg.fin_eq rfl ?_
      refine Rg.fin_eq rfl ?_
      refine Rg.fin_eq rfl ?_
      refine Rg.fin_eq rfl ?_
      refine Rg.fin_eq rfl ?_
      refine Rg.fin_eq rfl ?_
      refine Rg.fin_eq rfl ?_
      refine Rg.fin_eq rfl ?_
      first | refine Rg.fin_eq rfl ?_ | refine Rg.fin_any rfl fun v25 h25 => ?_
      refine Rg.fin_nil ?_
      simp only [List.set_cons_zero, List.set_cons_succ]
      have HB2 := Lib.hid (HBL.out.trans (hj.mono HBL.out.size))
      clear hj
      go_wp2_with fail
      exact ⟨⟨k + 1, by omega, by go_num, HB2.out⟩, by simp [intOf]; omega⟩
    · go_wp2_with fail
      go_returns
      exact ⟨rfl, HBL.out⟩
theorem trace_any (g gc k : Nat) (tv : Value) (f : Nat → Int) (tr : List Ins) (w : World) (h : CtM w g gc tv k f tr) :
    Calls Try.prog 14 #[.pointer (some ⟨g, 0, none⟩)] w fun e w' => e = .returned tv ∧ CtM w' g gc (.slice none 0 0) k f [] ∧ w'.ownsRow 0 35 6 tv tr.length (flat6 tr) ∧ Only (fun j => j = g) w w' := by
  have c0 := h.m.cell 1 _ rfl
  have c1 := h.m.frozen 1
  obtain ⟨a, l, c, hv⟩ := own_slice h.t
  subst hv
  have H := Lib.hid h; clear h
  go_enter Try.func14, Try.ntmps14
  go_wp2_with fail
  go_returns
  have hne := own_ne H.out.t H.out.m (by decide)
  have ho : Only (fun j => j = g) w (w.setCell ⟨g, 1, none⟩ (.slice none 0 0)) := Only.set _ _ _ _ rfl
  refine ⟨rfl, ⟨?_, H.out.c.only ho (fun e => H.out.c.ne H.out.m (by decide) e), ⟨rfl, .inl ⟨rfl, rfl⟩⟩, H.out.v⟩, own_only H.out.t ho (fun q hq e => hne (by rw [hq, e])), ho⟩
  exact H.out.m.set 1 _
theorem refNew_any (n : Nat) (w : World) : Calls Try.prog 9 #[.int .i64 (n : Int)] w fun e w' => ∃ g mp, e = .returned (.pointer (some ⟨g, 0, none⟩)) ∧ w.heap.size ≤ g ∧ w.heap.size ≤ mp ∧ RfM w' g mp (.slice none 0 0) n 0 (fun _ => none) [] ∧ Below w.heap.size w w' := by
  have hmm := @run_makeMap Try.prog
  go_enter Try.func9, Try.ntmps9
  go_wp2_with fail
  go_returns
  refine ⟨w.heap.size + 1, w.heap.size, rfl, by omega, Nat.le_refl _, ⟨?_, ?_, ⟨rfl, .inl ⟨rfl, rfl⟩⟩, fun _ => by simp⟩, by go_grown⟩
  · have := AtG.new (w.alloc (.map #[] 0)) 43 #[.int .i64 n, .map (some w.heap.size), .slice none 0 0]
    simpa using this
  · exact ((OwnF.made w Try.prog 3 29 .u64).alloc _).ext (fun x hx => by cases x with | int kk c => cases kk <;> rfl | _ => rfl)
end Go.Proofs.Ytpikoijohfmnaaa
