/- The walks of slices.Clone, mask.Mask and the document's Mask. -/
import Derived.Test.YtofgkildlhcpdaaMask4
import Derived.Laws.BytesArg
set_option linter.unusedVariables false
set_option linter.unusedSimpArgs false
namespace Go.Proofs.Ytofgkildlhcpdaa
open Go.RowKit Bt Luhn
/-- bytes of a block of the call's own, as a function -/
def UAt (w : World) (g0 base : Nat) (A : Option Addr) (c n : Nat) (q : Nat → Int) : Prop := ∀ j, j < n → ∃ g, A = some ⟨g, 0, none⟩ ∧ n ≤ c ∧ g ≠ g0 ∧ base ≤ g ∧ g < w.heap.size ∧ w.cell? ⟨g, j, none⟩ = some (.int .u8 (q j)) ∧ w.frozen? ⟨g, j, none⟩ = false
theorem UAt.below {w w' : World} {g0 base : Nat} {A : Option Addr} {c n : Nat} {q : Nat → Int} (h : UAt w g0 base A c n q) (hb : Below w.heap.size w w') : UAt w' g0 base A c n q := fun j hj => by
  obtain ⟨g, h1, h2, h3, h6, h4, h5, h7⟩ := h j hj
  have hs := hb.block g h4
  exact ⟨g, h1, h2, h3, h6, Nat.lt_of_lt_of_le h4 hb.size, (hb.cell (p := ⟨g, j, none⟩) h4).trans h5, by rw [← h7]; unfold World.frozen?; rw [hs]⟩
theorem UAt.set {w : World} {g0 g base c n : Nat} {q : Nat → Int} (h : UAt w g0 base (some ⟨g, 0, none⟩) c n q) (k : Nat) (m : Int) (hk : k < n) : UAt (w.setCell ⟨g, k, none⟩ (.int .u8 m)) g0 base (some ⟨g, 0, none⟩) c n (fun j => if j = k then m else q j) := fun j hj => by
  obtain ⟨g', h1, h2, h3, h6, h4, h5, h7⟩ := h j hj
  injection h1 with h1
  injection h1 with h1
  subst h1
  refine ⟨g, rfl, h2, h3, h6, by simpa using h4, ?_, ?_⟩
  · dsimp only
    by_cases hjk : j = k
    · subst hjk; rw [if_pos rfl]; exact World.cell?_setCell_same w _ _ (by rw [h5])
    · rw [if_neg hjk]; rw [World.cell?_setCell_other w _ _ _ (by simp [hjk])]; exact h5
  · simpa using h7
theorem UAt.rdB {w : World} {g0 base : Nat} {A : Option Addr} {c n : Nat} {q : Nat → Int} {l : List Int} (h : UAt w g0 base A c n q) (hl : l.length = n) (hn : n ≤ 1000) (hq : ∀ j, j < n → q j = l.getD j 0) (hb : ∀ x ∈ l, 0 ≤ x ∧ x ≤ 255) : RdB w (.slice A n c) l := by
  by_cases h0 : n = 0
  · subst h0
    exact .inl ⟨List.eq_nil_of_length_eq_zero hl, A, c, rfl⟩
  · obtain ⟨g, h1, h2, _⟩ := h 0 (by omega)
    subst h1
    refine .inr ⟨g, 0, c, by rw [hl], by omega, by omega, fun j hj => ?_, fun j => ?_⟩
    · obtain ⟨g', h1, _, _, _, _, h5, _⟩ := h j (by omega)
      injection h1 with h1
      injection h1 with h1
      subst h1
      rw [Nat.zero_add, h5, hq j (by omega)]
    · by_cases hj : j < l.length
      · have := hb l[j] (List.getElem_mem hj)
        simpa [List.getD_eq_getElem?_getD, List.getElem?_eq_getElem hj] using this
      · simp [List.getD_eq_getElem?_getD, List.getElem?_eq_none (Nat.not_lt.1 hj)]
theorem hide_bd {f : Nat → Bool} {m : Int} {xs : List Int} (hm : 0 ≤ m ∧ m ≤ 255) (hx : ∀ x ∈ xs, 0 ≤ x ∧ x ≤ 255) : ∀ x ∈ hide f m xs, 0 ≤ x ∧ x ≤ 255 := fun x h => by
  unfold hide at h
  obtain ⟨i, hi, rfl⟩ := List.mem_map.1 h
  have hi' := List.mem_range.1 hi
  split
  · exact hm
  · rw [List.getD_eq_getElem?_getD, List.getElem?_eq_getElem hi']; exact hx _ (List.getElem_mem hi')
set_option maxRecDepth 100000 in
set_option maxHeartbeats 1600000 in
theorem clone_any (w : World) (A : Option Addr) (vc : Nat) (xs : List Int) (hx : RdB w (.slice A xs.length vc) xs) (hn : ∀ c, Value.slice A xs.length vc = .slice none 0 c → c = 0) (hl : xs.length ≤ 1000) :
    Calls Try.prog 46 #[.slice A xs.length vc] w fun e w' => Below w.heap.size w w' ∧ ∃ a c, e = .returned (.slice a xs.length c) ∧ ((∀ j, j < xs.length → ∃ g, a = some ⟨g, 0, none⟩ ∧ xs.length ≤ c ∧ w.heap.size ≤ g ∧ g < w'.heap.size ∧ w'.cell? ⟨g, j, none⟩ = some (.int .u8 (xs.getD j 0)) ∧ w'.frozen? ⟨g, j, none⟩ = false)) := by
  have HS := Lib.hid (src_rdB hx hn)
  have HN := Lib.hid hn
  have HX := Lib.hid hx
  clear hn hx
  cases A with
  | none =>
    have h0 : xs.length = 0 := by
      rcases HX.out with ⟨h, _⟩ | ⟨b, off, cap, h, _⟩
      · rw [h]; rfl
      · cases h
    have hxs : xs = [] := List.eq_nil_of_length_eq_zero h0
    subst hxs
    have hv : vc = 0 := HN.out vc rfl
    subst hv
    clear HS HN HX h0
    have heq : (binOp BinOp.eql 22 (.slice none 0 0) (.slice none 0 0)).run Try.prog w = .ok (.bool true) w := by rfl
    go_enter Try.func46, Try.ntmps46
    go_wp2_with fail
    go_returns
    exact ⟨Below.refl _ _, none, 0, rfl, fun j hj => by simp at hj⟩
  | some a =>
    have heq : (binOp BinOp.eql 22 (.slice (some a) xs.length vc) (.slice none 0 0)).run Try.prog w = .ok (.bool false) w := by rfl
    go_enter Try.func46, Try.ntmps46
    go_wp2_with (first
      | (at_builtin; refine wpList_appRow rfl (.tmp 5) (.tmp 6) 22 rfl w.heap.size 5 (.int .u8 0) 1 1 Try.underlying22 infoU8 rfl (by decide) _ _ 0 xs.length [] _ (own_empty (AtG.new w 5 #[]) (Nat.le_refl _)) (src_below HS.out ((Below.refl _ _).alloc (Nat.le_refl _) _)) rfl rfl (by simp) (u8_one _) (by omega) (by decide) (by simp) ?_; intro v1 wa ho1 hg1))
    go_returns
    have hB : Below w.heap.size w wa := ((Below.refl w.heap.size w).alloc (Nat.le_refl _) (.cells #[] 5)).grown hg1 (by simp) (fun q hq => by cases hq; exact Nat.le_refl _)
    have hl := ho1.1
    rcases ho1.2 with ⟨rfl, h0⟩ | ⟨g, cap, cur, rfl, hb, hh, hnc, hcm, hcs, hct⟩
    · have h0' : xs.length = 0 := by omega
      exact ⟨hB, none, 0, by rw [h0']; rfl, fun j hj => by omega⟩
    · refine ⟨hB, some ⟨g, 0, none⟩, cap, by rw [Nat.zero_add]; rfl, fun j hj => ⟨g, rfl, by omega, hb, (Array.getElem?_eq_some_iff.1 hh).1, ?_, by simp [World.frozen?, hh]⟩⟩
      have hu : ([] ++ xs.map (Value.int .u8))[j]? = some (.int .u8 (xs.getD j 0)) := by
        simp [List.getElem?_eq_getElem hj, List.getD_eq_getElem?_getD]
      rw [← hct, List.getElem?_take, if_pos (by omega)] at hu
      simpa [World.cell?, hh] using hu
/-- what Mask leaves -/
def MaskPost (rs : List Rul) (lam m : Int) (xs : List Int) (w : World) (e : Ending) (w' : World) : Prop :=
  Below w.heap.size w w' ∧ ∃ (u : Value) (f : Nat → Bool), e = .returned u ∧ RdB w' u (hide f m xs) ∧ ∀ i, i < xs.length → (f i = true ↔ cov rs lam xs i)
set_option maxRecDepth 100000 in
set_option maxHeartbeats 3200000 in
theorem mask_any (rs : List Rul) (hw : ∀ r ∈ rs, Wf r.1) (lam m : Int) (hlam : -9223372036854775808 ≤ lam ∧ lam ≤ 9223372036854775807) (hm : 0 ≤ m ∧ m ≤ 255) (w : World) (v wv : Value) (xs : List Int) (hr : RuAt w v rs) (hx : RdB w wv xs) (hn : ∀ c, wv = .slice none 0 c → c = 0) (hl : xs.length ≤ 900) (hrs : rs.length ≤ 1000) :
    Calls Try.prog 27 #[v, .int .i64 lam, .int .u8 m, wv] w (MaskPost rs lam m xs w) := by
  obtain ⟨A, wc, rfl⟩ := rdB_slice hx
  obtain ⟨B, vc, rfl⟩ := hr.slice
  have hlI : (xs.length : Int) ≤ 900 := by omega
  have HCL := Lib.hid (clone_any w A wc xs hx hn (by omega))
  have HCV := Lib.hid (fun (w1 : World) (hb : Below w.heap.size w w1) => cover_any rs hw lam hlam w1 (.slice B rs.length vc) (.slice A xs.length wc) xs (hr.below hb) (rdB_below hx hb) hl hrs)
  have HBD := Lib.hid (rdB_bd hx); have HM := Lib.hid hm
  clear hr hx hw hlam hn
  go_enter Try.func27, Try.ntmps27
  go_wp2_with fail
  refine (HCL.out).mono ?_
  rintro e9 w1 ⟨hb, ua, uc, rfl, hu⟩
  have HB1 := Lib.hid hb; have HU := Lib.hid hu
  clear hb hu HCL
  go_wp2_with fail
  refine (HCV.out _ HB1.out).mono ?_
  rintro e9 w2 ⟨hb, gc, f, rfl, hf, hge, hfi⟩
  have HB2 := Lib.hid (HB1.out.trans (hb.mono HB1.out.size)); have HFA := Lib.hid hf; have HFI := Lib.hid hfi
  have HGE := Lib.hid (show w.heap.size ≤ gc from Nat.le_trans HB1.out.size hge)
  have HUA : Hid (UAt w2 gc w.heap.size ua uc xs.length (fun j => xs.getD j 0)) := Lib.hid (by
    refine UAt.below (w := w1) (fun j hj => ?_) hb
    obtain ⟨g, h1, h2, h3, h4, h5, h6⟩ := HU.out j hj
    exact ⟨g, h1, h2, by omega, h3, h4, h5, h6⟩)
  clear hb hf hfi hge HU HB1
  go_wp2_with fail
  go_loopw [19] (fun i wr => ∃ k : Nat, k ≤ xs.length ∧ i = .int .i64 k ∧ Below w.heap.size w wr ∧ AtG wr gc 4 (barr f xs.length) ∧ ∃ q, UAt wr gc w.heap.size ua uc xs.length q ∧ ∀ j, j < xs.length → q j = if f j = true ∧ j < k then m else xs.getD j 0) (fun i _ => xs.length - (intOf i).toNat)
  case atStart => exact ⟨0, Nat.zero_le _, rfl, HB2.out, HFA.out, _, HUA.out, fun j hj => by rw [if_neg (by omega)]⟩
  case round =>
    obtain ⟨k, hk, rfl, hb, hf, q, hu, hq⟩ := hrel
    have HB := Lib.hid hb; have HF := Lib.hid hf; have HU := Lib.hid hu; have HQ := Lib.hid hq
    clear hb hf hu hq HB2 HFA HUA
    by_cases hlt : k < xs.length
    · have hltI : (k : Int) < xs.length := by omega
      obtain ⟨g, hua, huc, hgc, hgw, hgs, hcell, hfr⟩ := HU.out k hlt
      subst hua
      have hfk := HF.out.bool k hlt
      obtain ⟨fv, hfv⟩ : ∃ fv, fv = f k := ⟨_, rfl⟩
      rw [← hfv] at hfk
      have HFV := Lib.hid hfv
      clear hfv
      cases fv
      · go_wp2_with fail
        refine ⟨⟨k + 1, by omega, by go_num, HB.out, HF.out, q, HU.out, fun j hj => (HQ.out j hj).trans ?_⟩, by simp [intOf]; omega⟩
        by_cases hjk : j = k
        · subst hjk; rw [if_neg (by omega), if_neg (by rw [← HFV.out]; simp)]
        · by_cases hf' : f j = true ∧ j < k
          · rw [if_pos hf', if_pos ⟨hf'.1, by omega⟩]
          · rw [if_neg hf', if_neg (fun h => hf' ⟨h.1, by omega⟩)]
      · have HS := Lib.hid (HU.out.set k m hlt)
        have HF2 := Lib.hid (HF.out.far (p := ⟨g, k, none⟩) (fun e => hgc e.symm) (.int .u8 m))
        have HB2 := Lib.hid (HB.out.setCell (p := ⟨g, k, none⟩) (by simpa using hgw) (.int .u8 m))
        go_wp2_with fail
        refine ⟨⟨k + 1, by omega, by go_num, HB2.out, HF2.out, _, HS.out, fun j hj => ?_⟩, by simp [intOf]; omega⟩
        by_cases hjk : j = k
        · subst hjk; rw [if_pos rfl, if_pos ⟨by rw [← HFV.out], by omega⟩]
        · rw [if_neg hjk, HQ.out j hj]
          by_cases hf' : f j = true ∧ j < k
          · rw [if_pos hf', if_pos ⟨hf'.1, by omega⟩]
          · rw [if_neg hf', if_neg (fun h => hf' ⟨h.1, by omega⟩)]
    · obtain rfl : k = xs.length := by omega
      go_wp2_with fail
      go_returns
      refine ⟨HB.out, _, f, rfl, HU.out.rdB (hide_len f m xs) (by omega) (fun j hj => ?_) (hide_bd HM.out HBD.out), HFI.out⟩
      rw [HQ.out j hj, hide_get f m xs j hj]
      by_cases hf' : f j = true
      · rw [if_pos ⟨hf', hj⟩, if_pos hf']
      · rw [if_neg (fun h => hf' h.1), if_neg hf']
theorem hide_take (f : Nat → Bool) (m : Int) (xs : List Int) (k : Nat) (hk : k < xs.length) : (hide f m xs).take (k + 1) = (hide f m xs).take k ++ [if f k then m else xs.getD k 0] := by
  have hl := hide_len f m xs
  rw [List.take_succ_eq_append_getElem (by omega)]
  congr 1
  have := hide_get f m xs k hk
  rw [List.getD_eq_getElem?_getD, List.getElem?_eq_getElem (by omega)] at this
  simpa using this
set_option maxRecDepth 100000 in
set_option maxHeartbeats 3200000 in
theorem refMask_any (rs : List Rul) (hw : ∀ r ∈ rs, Wf r.1) (lam m : Int) (hlam : -9223372036854775808 ≤ lam ∧ lam ≤ 9223372036854775807) (hm : 0 ≤ m ∧ m ≤ 255) (w : World) (v wv : Value) (xs : List Int) (hr : RuAt w v rs) (hx : RdB w wv xs) (hl : xs.length ≤ 900) (hrs : rs.length ≤ 1000) :
    Calls Try.prog 28 #[v, .int .i64 lam, .int .u8 m, wv] w (MaskPost rs lam m xs w) := by
  obtain ⟨A, wc, rfl⟩ := rdB_slice hx
  obtain ⟨B, vc, rfl⟩ := hr.slice
  have hlI : (xs.length : Int) ≤ 900 := by omega
  have HCV := Lib.hid (refCover_any rs hw lam hlam w (.slice B rs.length vc) (.slice A xs.length wc) xs hr hx hl hrs)
  have HX := Lib.hid hx; have HM := Lib.hid hm
  clear hr hx hw hlam
  go_enter Try.func28, Try.ntmps28
  go_wp2_with fail
  refine (HCV.out).mono ?_
  rintro e9 w2 ⟨hb, gc, f, rfl, hf, hge, hfi⟩
  have HB2 := Lib.hid hb; have HFA := Lib.hid hf; have HFI := Lib.hid hfi
  have HZ := Lib.hid hf.lt
  clear hb hf hfi HCV
  go_wp2_with fail
  go_loopw [10, 11] (fun o i wr => ∃ k : Nat, k ≤ xs.length ∧ i = .int .i64 k ∧ Below w.heap.size w wr ∧ w2.heap.size ≤ wr.heap.size ∧ AtG wr gc 4 (barr f xs.length) ∧ wr.ownsRow w2.heap.size 5 1 o k (((hide f m xs).take k).map (Value.int .u8))) (fun _ i _ => xs.length - (intOf i).toNat)
  case atStart => exact ⟨0, Nat.zero_le _, rfl, HB2.out, Nat.le_refl _, HFA.out, own_nil _ _ _ _⟩
  case round =>
    obtain ⟨k, hk, rfl, hb, hws, hf, ho⟩ := hrel
    have HB := Lib.hid hb; have HF := Lib.hid hf; have HO := Lib.hid ho; have HW := Lib.hid hws
    clear hb hf ho HB2 HFA hws
    by_cases hlt : k < xs.length
    · have hltI : (k : Int) < xs.length := by omega
      have hfk := HF.out.bool k hlt
      obtain ⟨fv, hfv⟩ : ∃ fv, fv = f k := ⟨_, rfl⟩
      rw [← hfv] at hfk
      have HT := Lib.hid (hide_take f m xs k hlt)
      rw [← hfv] at HT
      clear hfv
      have HWS : Hid (w.heap.size ≤ w2.heap.size) := Lib.hid (by have := HZ.out; omega)
      cases fv
      · obtain ⟨xb, xo, hA, hxc, hcell, _, _⟩ := rdB_at (rdB_below HX.out HB.out) k hlt
        subst hA
        generalize xs.getD k 0 = xk at *
        go_wp2_with (at_builtin; go_must (refine app1 (w0 := w) w2.heap.size w.heap.size HWS.out rfl _ _ 22 5 (.int .u8 0) 1 rfl Try.underlying22 infoU8 rfl (by decide) _ k (((hide f m xs).take k).map (Value.int .u8)) (.int .u8 xk) HO.out rfl rfl rfl HB.out HW.out (by omega) ?_); intro v1 w3 hown2 hb2 hg2; have HF2 := Lib.hid (HF.out.grown hg2 (fun e => by have := own_base HO.out _ e; have := HZ.out; omega)); have HO2 := Lib.hid hown2; have HB2 := Lib.hid hb2; have HG2 := Lib.hid hg2.size; clear hown2 hb2 hg2)
        exact ⟨⟨k + 1, by omega, by go_num, HB2.out, Nat.le_trans HW.out HG2.out, HF2.out, by rw [HT.out]; simpa using HO2.out⟩, by simp [intOf]; omega⟩
      · go_wp2_with (at_builtin; go_must (refine app1 (w0 := w) w2.heap.size w.heap.size HWS.out rfl _ _ 22 5 (.int .u8 0) 1 rfl Try.underlying22 infoU8 rfl (by decide) _ k (((hide f m xs).take k).map (Value.int .u8)) (.int .u8 m) HO.out rfl rfl rfl HB.out HW.out (by omega) ?_); intro v1 w3 hown2 hb2 hg2; have HF2 := Lib.hid (HF.out.grown hg2 (fun e => by have := own_base HO.out _ e; have := HZ.out; omega)); have HO2 := Lib.hid hown2; have HB2 := Lib.hid hb2; have HG2 := Lib.hid hg2.size; clear hown2 hb2 hg2)
        exact ⟨⟨k + 1, by omega, by go_num, HB2.out, Nat.le_trans HW.out HG2.out, HF2.out, by rw [HT.out]; simpa using HO2.out⟩, by simp [intOf]; omega⟩
    · obtain rfl : k = xs.length := by omega
      have HE : Hid (((hide f m xs).take xs.length) = hide f m xs) := Lib.hid (List.take_of_length_le (by have := hide_len f m xs; omega))
      go_wp2_with fail
      go_returns
      have ho := HO.out
      rw [HE.out] at ho
      exact ⟨HB.out, _, f, rfl, rdB_own ho (by have := hide_len f m xs; omega) (hide_bd HM.out (rdB_bd HX.out)), HFI.out⟩
end Go.Proofs.Ytofgkildlhcpdaa
