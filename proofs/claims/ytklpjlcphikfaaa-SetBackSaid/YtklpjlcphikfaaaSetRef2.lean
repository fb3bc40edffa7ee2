/- The walks of the document's Not and Range of sets. -/
import Derived.Test.YtklpjlcphikfaaaSetRef
namespace Go.Proofs.Ytklpjlcphikfaaa
open Go.RowKit Bt
set_option linter.unusedVariables false
set_option linter.unusedSimpArgs false
set_option maxRecDepth 100000 in
set_option maxHeartbeats 1600000 in
theorem refNot_any (f : Nat → Bool) (w : World) :
    Calls Try.prog 43 #[setOf f] w fun e w' => e = .returned (setOf (fun x => !f x)) ∧ Below w.heap.size w w' := by
  unfold setOf
  go_enter Try.func43, Try.ntmps43
  go_wp2
  go_loopw [3, 4] (fun o i wr => ∃ k : Nat, k ≤ 256 ∧ i = .int .i64 k ∧ AtG wr w.heap.size 33 (cellsOf f) ∧ AtG wr (w.heap.size + 1) 33 (setC 0 0 0 0) ∧ wr.ownsRow (w.heap.size + 2) 5 1 o (lst (fun x => !f x) k).length ((lst (fun x => !f x) k).map (Value.int .u8)) ∧ Below w.heap.size w wr) (fun _ i _ => 256 - (intOf i).toNat)
  case atStart => exact ⟨0, by omega, rfl, (AtG.new w _ _).alloc _, by have h' := AtG.new (w.alloc (.cells (cellsOf f) 33)) 33 (setC 0 0 0 0); rwa [show (w.alloc (.cells (cellsOf f) 33)).heap.size = w.heap.size + 1 from by simp] at h', own_nil _ _ _ _, by go_grown⟩
  case round =>
    obtain ⟨k, hk, rfl, hat, hres, hown, hbl⟩ := hrel
    have hsz := hbl.size
    by_cases hlt : k < 256
    · have c0 : wr.cell? ⟨w.heap.size, 0, none⟩ = some (.int .u64 ((wd f 0 : Nat) : Int)) := hat.cell 0 _ rfl
      have c1 : wr.cell? ⟨w.heap.size, 1, none⟩ = some (.int .u64 ((wd f 1 : Nat) : Int)) := hat.cell 1 _ rfl
      have c2 : wr.cell? ⟨w.heap.size, 2, none⟩ = some (.int .u64 ((wd f 2 : Nat) : Int)) := hat.cell 2 _ rfl
      have c3 : wr.cell? ⟨w.heap.size, 3, none⟩ = some (.int .u64 ((wd f 3 : Nat) : Int)) := hat.cell 3 _ rfl
      have hk1 : (k : Int) ≤ 255 := by omega
      have HAT := Lib.hid hat; have HRS := Lib.hid hres; have HOW := Lib.hid hown; have HBL := Lib.hid hbl
      have hcl := lst_len (fun x => !f x) k
      have hcn := cnt_le (fun x => !f x) k
      have HLL : Hid ((lst (fun x => !f x) k).length ≤ 256) := Lib.hid (by omega)
      clear hat hres hown hbl hcl hcn
      go_wp2_with fail
      refine (refHas_any f k _ (by omega) hk1).mono ?_; rintro e w1 ⟨rfl, hb1⟩
      rw [Int.toNat_natCast]
      have HAT1 := Lib.hid (HAT.out.below hb1); have HRS1 := Lib.hid (HRS.out.below hb1); have HOW1 := Lib.hid (own_below HOW.out hb1); have HBL1 := Lib.hid (HBL.out.trans (hb1.mono HBL.out.size))
      have hs1 := HBL1.out.size
      have hl1 : w.heap.size + 2 ≤ w1.heap.size := HRS1.out.lt
      clear hb1 c0 c1 c2 c3
      cases hf : f k
      rotate_left
      · have HS : Hid (lst (fun x => !f x) (k + 1) = lst (fun x => !f x) k) := Lib.hid (by rw [lst_succ]; simp [hf])
        clear hf
        go_wp2
        exact ⟨⟨k + 1, by omega, by go_num, HAT1.out, HRS1.out, by rw [HS.out]; exact HOW1.out, HBL1.out⟩, by simp [intOf]; omega⟩
      · have HS : Hid (lst (fun x => !f x) (k + 1) = lst (fun x => !f x) k ++ [(k : Int)]) := Lib.hid (by rw [lst_succ]; simp [hf])
        clear hf
        go_wp2_with (at_builtin; go_must (refine app1 (w0 := w) (w.heap.size + 2) w.heap.size (by omega) rfl _ _ 36 5 (.int .u8 0) 1 rfl Try.underlying36 infoU8 rfl (by decide) _ _ ((lst (fun x => !f x) k).map (Value.int .u8)) (.int .u8 k) HOW1.out rfl rfl rfl HBL1.out hl1 (by have := HLL.out; omega) ?_); intro v1 w2 hown2 hb2 hg2; have HAT2 := Lib.hid (HAT1.out.grown hg2 (fun e => by have := own_base HOW1.out _ e; omega)); have HRS2 := Lib.hid (HRS1.out.grown hg2 (fun e => by have := own_base HOW1.out _ e; omega)); clear hg2)
        exact ⟨⟨k + 1, by omega, by go_num, HAT2.out, HRS2.out, by rw [HS.out]; simpa using hown2, hb2⟩, by simp [intOf]; omega⟩
    · obtain rfl : k = 256 := by omega
      have HBL := Lib.hid hbl
      have hr := rdB_own hown (by rw [lst_len]; have := cnt_le (fun x => !f x) 256; omega) (lst_bd255 _)
      have HR := Lib.hid hr; have HRS := Lib.hid hres
      clear hat hown hbl hr hres
      go_wp2_with fail
      refine (refOf_any _ _ _ HR.out).mono ?_; rintro e w1 ⟨rfl, hb1⟩
      have hrs := HRS.out.below hb1
      have d0 := hrs.cell 0 _ rfl
      have d1 := hrs.cell 1 _ rfl
      have d2 := hrs.cell 2 _ rfl
      have d3 := hrs.cell 3 _ rfl
      have f0 := hrs.frozen 0
      have f1 := hrs.frozen 1
      have f2 := hrs.frozen 2
      have f3 := hrs.frozen 3
      have HB1 := Lib.hid (HBL.out.trans (hb1.mono HBL.out.size))
      rw [setOf_ext (g := fun x => !f x) (fun x hx => memF_lst _ 256 x hx)]
      clear hb1 hrs
      unfold setOf
      go_wp2
      refine bodyPost_ret (v := setOf (fun x => !f x)) (by simp [results, Try.results43, go_sem, d0, d1, d2, d3]; rfl) rfl ⟨rfl, ?_⟩
      exact (((HB1.out.setCell (by simp) _).setCell (by simp) _).setCell (by simp) _).setCell (by simp) _

/-- from lo on -/
def fromF (lo : Nat) (y : Nat) : Bool := decide (lo ≤ y)
theorem lst_from (lo : Nat) : lst (fromF lo) lo = [] := by
  unfold lst
  have : (List.range lo).filter (fromF lo) = [] := by
    rw [List.filter_eq_nil_iff]; intro x hx; unfold fromF; simp at hx; simp; omega
  rw [this]; rfl
set_option maxRecDepth 100000 in
set_option maxHeartbeats 1600000 in
theorem refRange_any (lo hi : Int) (w : World) (h0 : 0 ≤ lo) (h1 : lo ≤ 255) (h2 : 0 ≤ hi) (h3 : hi ≤ 255) :
    Calls Try.prog 39 #[.int .u8 lo, .int .u8 hi] w fun e w' => e = .returned (setOf (rngF lo.toNat (hi.toNat + 1))) ∧ Below w.heap.size w w' := by
  obtain ⟨l, rfl⟩ := Int.eq_ofNat_of_zero_le h0
  obtain ⟨h, rfl⟩ := Int.eq_ofNat_of_zero_le h2
  rw [Int.toNat_natCast, Int.toNat_natCast]
  go_enter Try.func39, Try.ntmps39
  go_wp2
  go_loopw [5, 6] (fun o i wr => ∃ k : Nat, l ≤ k ∧ (k ≤ l ∨ k ≤ h + 1) ∧ i = .int .i64 k ∧ AtG wr w.heap.size 33 (setC 0 0 0 0) ∧ wr.ownsRow (w.heap.size + 1) 5 1 o (lst (fromF l) k).length ((lst (fromF l) k).map (Value.int .u8)) ∧ Below w.heap.size w wr) (fun _ i _ => 300 - (intOf i).toNat)
  case atStart => exact ⟨l, Nat.le_refl _, .inl (Nat.le_refl _), rfl, AtG.new w _ _, by rw [lst_from]; exact own_nil _ _ _ _, by go_grown⟩
  case round =>
    obtain ⟨k, hk, hk2, rfl, hat, hown, hbl⟩ := hrel
    have hl0 := hat.lt
    have hcl := lst_len (fromF l) k
    have hcn := cnt_le (fromF l) k
    by_cases hlt : k ≤ h
    · have HLL : Hid ((lst (fromF l) k).length ≤ 256) := Lib.hid (by omega)
      have HAT := Lib.hid hat; have HOW := Lib.hid hown; have HBL := Lib.hid hbl
      have hf : fromF l k = true := by unfold fromF; simp [hk]
      have HS : Hid (lst (fromF l) (k + 1) = lst (fromF l) k ++ [(k : Int)]) := Lib.hid (by rw [lst_succ, hf]; simp)
      have hb1 : (k : Int) ≤ 255 := by omega
      have hl1 : w.heap.size + 1 ≤ wr.heap.size := hl0
      clear hat hown hbl hcl hcn hf hk2
      go_wp2_with (at_builtin; go_must (refine app1 (w0 := w) (w.heap.size + 1) w.heap.size (by omega) rfl _ _ 36 5 (.int .u8 0) 1 rfl Try.underlying36 infoU8 rfl (by decide) _ _ ((lst (fromF l) k).map (Value.int .u8)) (.int .u8 k) HOW.out rfl rfl rfl HBL.out hl1 (by have := HLL.out; omega) ?_); intro v1 w2 hown2 hb2 hg2; have HAT2 := Lib.hid (HAT.out.grown hg2 (fun e => by have := own_base HOW.out _ e; omega)); clear hg2)
      exact ⟨⟨k + 1, by omega, by omega, by go_num, HAT2.out, by rw [HS.out]; simpa using hown2, hb2⟩, by simp [intOf]; omega⟩
    · have HBL := Lib.hid hbl
      have hr := rdB_own hown (by omega) (fun x hx => by have := lst_bd _ _ x hx; omega)
      have HR := Lib.hid hr; have HRS := Lib.hid hat
      have HEX : Hid (setOf (memF (lst (fromF l) k)) = setOf (rngF l (h + 1))) := Lib.hid (setOf_ext fun x hx => by
        by_cases hxk : x < k
        · rw [memF_lst _ _ _ hxk]; unfold fromF rngF; rw [Bool.eq_iff_iff]; simp; omega
        · have : memF (lst (fromF l) k) x = false := by
            unfold memF; rw [Bool.eq_false_iff]; simp only [ne_eq, List.contains_iff_mem, lst_mem]; omega
          rw [this]; unfold rngF; symm; rw [Bool.eq_false_iff]; simp; omega)
      clear hat hown hbl hr hk2 hcl hcn
      go_wp2_with fail
      refine (refOf_any _ _ _ HR.out).mono ?_; rintro e w1 ⟨rfl, hb1⟩
      have hrs := HRS.out.below hb1
      have d0 := hrs.cell 0 _ rfl
      have d1 := hrs.cell 1 _ rfl
      have d2 := hrs.cell 2 _ rfl
      have d3 := hrs.cell 3 _ rfl
      have f0 := hrs.frozen 0
      have f1 := hrs.frozen 1
      have f2 := hrs.frozen 2
      have f3 := hrs.frozen 3
      have HB1 := Lib.hid (HBL.out.trans (hb1.mono HBL.out.size))
      rw [HEX.out]
      clear hb1 hrs
      unfold setOf
      go_wp2
      refine bodyPost_ret (v := setOf (rngF l (h + 1))) (by simp [results, Try.results39, go_sem, d0, d1, d2, d3]; rfl) rfl ⟨rfl, ?_⟩
      exact (((HB1.out.setCell (by simp) _).setCell (by simp) _).setCell (by simp) _).setCell (by simp) _
end Go.Proofs.Ytklpjlcphikfaaa
