/- The walks of the document's sets. -/
import Derived.Test.YtklpjlcphikfaaaSet2
namespace Go.Proofs.Ytklpjlcphikfaaa
open Go.RowKit Bt
set_option linter.unusedVariables false
set_option linter.unusedSimpArgs false
/-- what the document's sum makes of a byte's word -/
theorem add_put (f : Nat → Bool) (c : Int) (q : Nat) (h0 : 0 ≤ c) (h1 : c ≤ 255) (hq : c / 64 = q) (hf : f c.toNat = false) :
    (Value.int .u64 (IntKind.u64.wrap (((wd f q : Nat) : Int) + IntKind.u64.wrap (2 ^ (c % 64).toNat))) = .int .u64 ((wd f q + 2 ^ (c.toNat % 64) : Nat) : Int)) ∧
    cellsOf (fun y => f y || y == c.toNat) = (cellsOf f).set! q (.int .u64 ((wd f q + 2 ^ (c.toNat % 64) : Nat) : Int)) := by
  obtain ⟨n, rfl⟩ := Int.eq_ofNat_of_zero_le h0
  rw [Int.toNat_natCast] at hf
  have hn : n / 64 = q := by omega
  have hm : ((n : Int) % 64).toNat = n % 64 := by omega
  have ha := wd_add f n hf
  rw [hn] at ha
  have hp : 2 ^ (n % 64) < 18446744073709551616 := by
    calc 2 ^ (n % 64) ≤ 2 ^ 63 := Nat.pow_le_pow_right (by decide) (by omega)
      _ < 18446744073709551616 := by decide
  have hlt := wd_lt (fun y => f y || y == n) q
  rw [← ha] at hlt
  constructor
  · rw [hm, IntKind.wrap_u64, IntKind.wrap_u64]
    have e : ((2 : Int) ^ (n % 64)) = ((2 ^ (n % 64) : Nat) : Int) := by simp
    rw [e, Int.toNat_natCast]
    generalize 2 ^ (n % 64) = p at hp hlt ⊢
    generalize wd f q = a at hlt ⊢
    congr 1; omega
  · rw [Int.toNat_natCast, ha]
    have h2 := cells_put f n (by omega)
    rw [hn, wd_put_eq f n q hn] at h2
    exact h2
set_option maxHeartbeats 3200000 in
theorem refOf_any (v : Value) (xs : List Int) (w : World) (h : RdB w v xs) :
    Calls Try.prog 37 #[v] w fun e w' => e = .returned (setOf (memF xs)) ∧ Below w.heap.size w w' := by
  rcases h with ⟨rfl, a, c, rfl⟩ | ⟨b, off, cap, rfl, hcap, hmax, hc, hb⟩
  · go_enter Try.func37, Try.ntmps37
    go_wp2
    refine wp_loop_rounds 1 ?_; rw [rounds_succ]
    go_wp2
    go_returns
    exact ⟨by rw [memF_nil]; unfold setOf; simp [wd_none], by go_grown⟩
  · have HC := Lib.hid hc; have HB := Lib.hid hb; clear hc hb
    go_enter Try.func37, Try.ntmps37
    go_wp2
    go_loopw [4] (fun i wr => ∃ k : Nat, k ≤ xs.length ∧ i = .int .i64 k ∧ AtG wr (w.heap.size + 1) 33 (cellsOf (memF (xs.take k))) ∧ AtG wr w.heap.size 33 (setC 0 0 0 0) ∧ Below w.heap.size w wr) (fun i _ => xs.length - (intOf i).toNat)
    case atStart => exact ⟨0, Nat.zero_le _, rfl, by rw [List.take_zero, memF_nil, cells_none]; have := AtG.new (w.alloc (.cells (setC 0 0 0 0) 33)) 33 (setC 0 0 0 0); simpa using this, (AtG.new w _ _).alloc _, by go_grown⟩
    case round =>
      obtain ⟨k, hk, rfl, hat, hres, hbl⟩ := hrel
      have hl0 := hat.lt
      by_cases hlt : k < xs.length
      · have hck := HC.out k hlt
        obtain ⟨hb0, hb1⟩ := HB.out k
        have hlb : b < w.heap.size := World.block_lt_of_cell? w _ hck
        have hck' : wr.cell? ⟨b, off + k, none⟩ = some (.int .u8 (xs.getD k 0)) := (hbl.cell (p := ⟨b, off + k, none⟩) hlb).trans hck
        have hts := take_snoc xs k hlt
        have HBL := Lib.hid hbl; have HAT := Lib.hid hat; have HRES := Lib.hid hres; clear hbl hat hres
        have hsn := memF_snoc (xs.take k) (xs.getD k 0) hb0
        rw [← hts] at hsn
        have HSN := Lib.hid hsn; clear hsn
        have HCB : Hid (w.cell? ⟨b, off + k, none⟩ = some (.int .u8 (xs.getD k 0))) := Lib.hid hck
        clear hts hck
        generalize xs.getD k 0 = c at *
        generalize memF (xs.take k) = f at *
        have hne : b ≠ w.heap.size + 1 := by omega
        have c0 : wr.cell? ⟨w.heap.size + 1, 0, none⟩ = some (.int .u64 ((wd f 0 : Nat) : Int)) := HAT.out.cell 0 _ rfl
        have c1 : wr.cell? ⟨w.heap.size + 1, 1, none⟩ = some (.int .u64 ((wd f 1 : Nat) : Int)) := HAT.out.cell 1 _ rfl
        have c2 : wr.cell? ⟨w.heap.size + 1, 2, none⟩ = some (.int .u64 ((wd f 2 : Nat) : Int)) := HAT.out.cell 2 _ rfl
        have c3 : wr.cell? ⟨w.heap.size + 1, 3, none⟩ = some (.int .u64 ((wd f 3 : Nat) : Int)) := HAT.out.cell 3 _ rfl
        go_wp2
        go_cut [5] (fun s wx => s = .bool (f c.toNat) ∧ Below wr.heap.size wr wx)
        case first =>
          go_region_with ((go_at_call 45; refine (refHas_any f c _ hb0 hb1).mono ?_; rintro e w1 ⟨rfl, hb1⟩; have HB1 := Lib.hid hb1; clear hb1))
          all_goals (go_wp2_with fail; go_meet; exact ⟨rfl, (Below.refl _ _).drew.trans HB1.out⟩)
        case rest =>
          obtain ⟨rfl, hbx⟩ := hcut
          have HBX := Lib.hid (HBL.out.trans (hbx.mono HBL.out.size)); have HATX := Lib.hid (HAT.out.below hbx); have HRESX := Lib.hid (HRES.out.below hbx)
          have hcx : wc.cell? ⟨b, off + k, none⟩ = some (.int .u8 c) := (HBX.out.cell (p := ⟨b, off + k, none⟩) hlb).trans HCB.out
          clear hbx hck' c0 c1 c2 c3
          cases hf : f c.toNat
          · have hq4 : c / 64 = 0 ∨ c / 64 = 1 ∨ c / 64 = 2 ∨ c / 64 = 3 := by omega
            have HF := Lib.hid hf; clear hf
            rcases hq4 with hq | hq | hq | hq
            · as_aux_lemma =>
                have c0 : wc.cell? ⟨w.heap.size + 1, 0, none⟩ = some (.int .u64 ((wd f 0 : Nat) : Int)) := HATX.out.cell 0 _ rfl
                have f0 := HATX.out.frozen 0
                have HE := Lib.hid (add_put f c 0 hb0 hb1 hq HF.out)
                generalize ((wd f 0 : Nat) : Int) = A at c0 HE
                go_wp2
                go_region
                go_wp2
                exact ⟨⟨k + 1, by omega, by go_num, by rw [HSN.out, HE.out.2, ← HE.out.1]; exact HATX.out.set 0 _, HRESX.out.far (by simp) _, (HBX.out.drew).setCell (by simp) _⟩, by simp [intOf]; omega⟩
            · as_aux_lemma =>
                have c0 : wc.cell? ⟨w.heap.size + 1, 1, none⟩ = some (.int .u64 ((wd f 1 : Nat) : Int)) := HATX.out.cell 1 _ rfl
                have f0 := HATX.out.frozen 1
                have HE := Lib.hid (add_put f c 1 hb0 hb1 hq HF.out)
                generalize ((wd f 1 : Nat) : Int) = A at c0 HE
                go_wp2
                go_region
                go_wp2
                exact ⟨⟨k + 1, by omega, by go_num, by rw [HSN.out, HE.out.2, ← HE.out.1]; exact HATX.out.set 1 _, HRESX.out.far (by simp) _, (HBX.out.drew).setCell (by simp) _⟩, by simp [intOf]; omega⟩
            · as_aux_lemma =>
                have c0 : wc.cell? ⟨w.heap.size + 1, 2, none⟩ = some (.int .u64 ((wd f 2 : Nat) : Int)) := HATX.out.cell 2 _ rfl
                have f0 := HATX.out.frozen 2
                have HE := Lib.hid (add_put f c 2 hb0 hb1 hq HF.out)
                generalize ((wd f 2 : Nat) : Int) = A at c0 HE
                go_wp2
                go_region
                go_wp2
                exact ⟨⟨k + 1, by omega, by go_num, by rw [HSN.out, HE.out.2, ← HE.out.1]; exact HATX.out.set 2 _, HRESX.out.far (by simp) _, (HBX.out.drew).setCell (by simp) _⟩, by simp [intOf]; omega⟩
            · as_aux_lemma =>
                have c0 : wc.cell? ⟨w.heap.size + 1, 3, none⟩ = some (.int .u64 ((wd f 3 : Nat) : Int)) := HATX.out.cell 3 _ rfl
                have f0 := HATX.out.frozen 3
                have HE := Lib.hid (add_put f c 3 hb0 hb1 hq HF.out)
                generalize ((wd f 3 : Nat) : Int) = A at c0 HE
                go_wp2
                go_region
                go_wp2
                exact ⟨⟨k + 1, by omega, by go_num, by rw [HSN.out, HE.out.2, ← HE.out.1]; exact HATX.out.set 3 _, HRESX.out.far (by simp) _, (HBX.out.drew).setCell (by simp) _⟩, by simp [intOf]; omega⟩
          · have HF := Lib.hid hf; clear hf
            go_wp2
            exact ⟨⟨k + 1, by omega, by go_num, by rw [HSN.out, cellsOf_ext (g := f) (fun x _ => by rw [Bool.eq_iff_iff]; simp; intro e; rw [e]; exact HF.out)]; exact HATX.out, HRESX.out, HBX.out⟩, by simp [intOf]; omega⟩
      · obtain rfl : k = xs.length := by omega
        rw [List.take_length] at hat
        have c0 : wr.cell? ⟨w.heap.size + 1, 0, none⟩ = some (.int .u64 ((wd (memF xs) 0 : Nat) : Int)) := hat.cell 0 _ rfl
        have c1 : wr.cell? ⟨w.heap.size + 1, 1, none⟩ = some (.int .u64 ((wd (memF xs) 1 : Nat) : Int)) := hat.cell 1 _ rfl
        have c2 : wr.cell? ⟨w.heap.size + 1, 2, none⟩ = some (.int .u64 ((wd (memF xs) 2 : Nat) : Int)) := hat.cell 2 _ rfl
        have c3 : wr.cell? ⟨w.heap.size + 1, 3, none⟩ = some (.int .u64 ((wd (memF xs) 3 : Nat) : Int)) := hat.cell 3 _ rfl
        have d0 := hres.cell 0 _ rfl
        have f0 := hres.frozen 0
        have d1 := hres.cell 1 _ rfl
        have f1 := hres.frozen 1
        have d2 := hres.cell 2 _ rfl
        have f2 := hres.frozen 2
        have d3 := hres.cell 3 _ rfl
        have f3 := hres.frozen 3
        have HBL := Lib.hid hbl; clear hbl hat hres HC HB
        go_wp2
        refine bodyPost_ret (v := setOf (memF xs)) (by simp [results, Try.results37, go_sem, d0, d1, d2, d3]; rfl) rfl ⟨rfl, ?_⟩
        exact (((HBL.out.setCell (by simp) _).setCell (by simp) _).setCell (by simp) _).setCell (by simp) _
/-- a row of bytes of the call's own, as one that is read -/
theorem rdB_own {w : World} {base n : Nat} {e : TypeId} {v : Value} {xs : List Int} (h : w.ownsRow base e 1 v n (xs.map (Value.int .u8))) (hm : xs.length ≤ 140737488355328) (hb : ∀ x ∈ xs, 0 ≤ x ∧ x ≤ 255) : RdB w v xs := by
  rcases own_cells h with ⟨rfl, h0⟩ | ⟨g, cap, rfl, hc, hcm, _, _, hcell⟩
  · exact .inl ⟨by simpa using h0, _, _, rfl⟩
  · rw [List.length_map] at hc
    refine .inr ⟨g, 0, cap, by rw [List.length_map], hc, hm, fun j hj => ?_, fun j => ?_⟩
    · rw [Nat.zero_add]
      exact hcell j _ (by simp [List.getElem?_eq_getElem hj, List.getD_eq_getElem?_getD])
    · by_cases hj : j < xs.length
      · have := hb xs[j] (List.getElem_mem hj)
        simpa [List.getD_eq_getElem?_getD, List.getElem?_eq_getElem hj] using this
      · simp [List.getD_eq_getElem?_getD, List.getElem?_eq_none (Nat.not_lt.1 hj)]
theorem lst_bd255 (f : Nat → Bool) : ∀ x ∈ lst f 256, 0 ≤ x ∧ x ≤ 255 := fun x hx => by have := lst_bd f 256 x hx; omega
theorem memF_lst (f : Nat → Bool) (n y : Nat) (hy : y < n) : memF (lst f n) y = f y := by
  unfold memF; rw [Bool.eq_iff_iff]; simp only [List.contains_iff_mem]
  rw [lst_mem]; simp [hy]
set_option maxRecDepth 100000 in
set_option maxHeartbeats 1600000 in
theorem refBytes_any (f : Nat → Bool) (w : World) :
    Calls Try.prog 44 #[setOf f] w fun e w' => ∃ v, e = .returned v ∧ OwnB w w' v (lst f 256) := by
  unfold setOf
  go_enter Try.func44, Try.ntmps44
  go_wp2
  go_loopw [3, 4] (fun o i wr => ∃ k : Nat, k ≤ 256 ∧ i = .int .i64 k ∧ AtG wr w.heap.size 33 (cellsOf f) ∧ wr.ownsRow (w.heap.size + 1) 5 1 o (lst f k).length ((lst f k).map (Value.int .u8)) ∧ Below w.heap.size w wr) (fun _ i _ => 256 - (intOf i).toNat)
  case atStart => exact ⟨0, by omega, rfl, AtG.new w _ _, own_nil _ _ _ _, by go_grown⟩
  case round =>
    obtain ⟨k, hk, rfl, hat, hown, hbl⟩ := hrel
    have hsz := hbl.size
    by_cases hlt : k < 256
    · have c0 : wr.cell? ⟨w.heap.size, 0, none⟩ = some (.int .u64 ((wd f 0 : Nat) : Int)) := hat.cell 0 _ rfl
      have c1 : wr.cell? ⟨w.heap.size, 1, none⟩ = some (.int .u64 ((wd f 1 : Nat) : Int)) := hat.cell 1 _ rfl
      have c2 : wr.cell? ⟨w.heap.size, 2, none⟩ = some (.int .u64 ((wd f 2 : Nat) : Int)) := hat.cell 2 _ rfl
      have c3 : wr.cell? ⟨w.heap.size, 3, none⟩ = some (.int .u64 ((wd f 3 : Nat) : Int)) := hat.cell 3 _ rfl
      have hk1 : (k : Int) ≤ 255 := by omega
      have HAT := Lib.hid hat; have HOW := Lib.hid hown; have HBL := Lib.hid hbl
      have hcl := lst_len f k
      have hcn := cnt_le f k
      have HLL : Hid ((lst f k).length ≤ 256) := Lib.hid (by omega)
      clear hat hown hbl hcl hcn
      go_wp2_with fail
      refine (refHas_any f k _ (by omega) hk1).mono ?_; rintro e w1 ⟨rfl, hb1⟩
      rw [Int.toNat_natCast]
      have HAT1 := Lib.hid (HAT.out.below hb1); have HOW1 := Lib.hid (own_below HOW.out hb1); have HBL1 := Lib.hid (HBL.out.trans (hb1.mono HBL.out.size))
      have hs1 := HBL1.out.size
      have hl1 : w.heap.size + 1 ≤ w1.heap.size := HAT1.out.lt
      clear hb1 c0 c1 c2 c3
      cases hf : f k
      · have HS : Hid (lst f (k + 1) = lst f k) := Lib.hid (by rw [lst_succ, hf]; simp)
        clear hf
        go_wp2
        exact ⟨⟨k + 1, by omega, by go_num, HAT1.out, by rw [HS.out]; exact HOW1.out, HBL1.out⟩, by simp [intOf]; omega⟩
      · have HS : Hid (lst f (k + 1) = lst f k ++ [(k : Int)]) := Lib.hid (by rw [lst_succ, hf]; simp)
        clear hf
        go_wp2_with (at_builtin; go_must (refine app1 (w0 := w) (w.heap.size + 1) w.heap.size (by omega) rfl _ _ 36 5 (.int .u8 0) 1 rfl Try.underlying36 infoU8 rfl (by decide) _ _ ((lst f k).map (Value.int .u8)) (.int .u8 k) HOW1.out rfl rfl rfl HBL1.out hl1 (by have := HLL.out; omega) ?_); intro v1 w2 hown2 hb2 hg2; have HAT2 := Lib.hid (HAT1.out.grown hg2 (fun e => by have := own_base HOW1.out _ e; omega)); clear hg2)
        exact ⟨⟨k + 1, by omega, by go_num, HAT2.out, by rw [HS.out]; simpa using hown2, hb2⟩, by simp [intOf]; omega⟩
    · obtain rfl : k = 256 := by omega
      have HOW := Lib.hid hown; have HBL := Lib.hid hbl
      clear hat hown hbl
      go_wp2
      go_returns
      exact ⟨_, rfl, own_lower HOW.out (by omega), HBL.out⟩

end Go.Proofs.Ytklpjlcphikfaaa
