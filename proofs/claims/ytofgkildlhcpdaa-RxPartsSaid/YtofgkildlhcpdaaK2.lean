/- The walks of the document's Not and Range of sets. -/
import Derived.Test.YtofgkildlhcpdaaK1
namespace Go.Proofs.Ytofgkildlhcpdaa
open Go.RowKit Bt
set_option linter.unusedVariables false
set_option linter.unusedSimpArgs false
set_option maxRecDepth 100000 in
set_option maxHeartbeats 1600000 in
theorem refNot_any (f : Nat → Bool) (w : World) :
    Calls Try.prog 80 #[setOf f] w fun e w' => e = .returned (setOf (fun x => !f x)) ∧ Below w.heap.size w w' := by
  unfold setOf
  go_enter Try.func80, Try.ntmps80
  go_wp2
  go_loopw [3, 4] (fun o i wr => ∃ k : Nat, k ≤ 256 ∧ i = .int .i64 k ∧ AtG wr w.heap.size 26 (cellsOf f) ∧ AtG wr (w.heap.size + 1) 26 (setC 0 0 0 0) ∧ wr.ownsRow (w.heap.size + 2) 5 1 o (lst (fun x => !f x) k).length ((lst (fun x => !f x) k).map (Value.int .u8)) ∧ Below w.heap.size w wr) (fun _ i _ => 256 - (intOf i).toNat)
  case atStart => exact ⟨0, by omega, rfl, (AtG.new w _ _).alloc _, by have h' := AtG.new (w.alloc (.cells (cellsOf f) 26)) 26 (setC 0 0 0 0); rwa [show (w.alloc (.cells (cellsOf f) 26)).heap.size = w.heap.size + 1 from by simp] at h', own_nil _ _ _ _, by go_grown⟩
  case round =>
    obtain ⟨k, hk, rfl, hat, hres, hown, hbl⟩ := hrel
    have hsz := hbl.size
    by_cases hlt : k < 256
    · have c0 : wr.cell? ⟨w.heap.size, 0, none⟩ = some (.int .u64 ((wd f 0 : Nat) : Int)) := hat.cell 0 _ rfl
      have c1 : wr.cell? ⟨w.heap.size, 1, none⟩ = some (.int .u64 ((wd f 1 : Nat) : Int)) := hat.cell 1 _ rfl
      have c2 : wr.cell? ⟨w.heap.size, 2, none⟩ = some (.int .u64 ((wd f 2 : Nat) : Int)) := hat.cell 2 _ rfl
      have c3 : wr.cell? ⟨w.heap.size, 3, none⟩ = some (.int .u64 ((wd f 3 : Nat) : Int)) := hat.cell 3 _ rfl
      have hk1 : (k : Int) ≤ 255 := by omega
      have HAT := Lib.hid hat; have HRS := Lib.hid hres; have HOW := Lib.hid hown; have HBL := Lib.hid hbl
      have hcl := lst_len (fun x => !f x) k
      have hcn := cnt_le (fun x => !f x) k
      have HLL : Hid ((lst (fun x => !f x) k).length ≤ 256) := Lib.hid (by omega)
      clear hat hres hown hbl hcl hcn
      go_wp2_with fail
      refine (refHas_any f k _ (by omega) hk1).mono ?_; rintro e w1 ⟨rfl, hb1⟩
      rw [Int.toNat_natCast]
      have HAT1 := Lib.hid (HAT.out.below hb1); have HRS1 := Lib.hid (HRS.out.below hb1); have HOW1 := Lib.hid (own_below HOW.out hb1); have HBL1 := Lib.hid (HBL.out.trans (hb1.mono HBL.out.size))
      have hs1 := HBL1.out.size
      have hl1 : w.heap.size + 2 ≤ w1.heap.size := HRS1.out.lt
      clear hb1 c0 c1 c2 c3
      cases hf : f k
      rotate_left
      · have HS : Hid (lst (fun x => !f x) (k + 1) = lst (fun x => !f x) k) := Lib.hid (by rw [lst_succ]; simp [hf])
        clear hf
        go_wp2
        exact ⟨⟨k + 1, by omega, by go_num, HAT1.out, HRS1.out, by rw [HS.out]; exact HOW1.out, HBL1.out⟩, by simp [intOf]; omega⟩
      · have HS : Hid (lst (fun x => !f x) (k + 1) = lst (fun x => !f x) k ++ [(k : Int)]) := Lib.hid (by rw [lst_succ]; simp [hf])
        clear hf
        go_wp2_with (at_builtin; go_must (refine app1 (w0 := w) (w.heap.size + 2) w.heap.size (by omega) rfl _ _ 22 5 (.int .u8 0) 1 rfl Try.underlying22 infoU8 rfl (by decide) _ _ ((lst (fun x => !f x) k).map (Value.int .u8)) (.int .u8 k) HOW1.out rfl rfl rfl HBL1.out hl1 (by have := HLL.out; omega) ?_); intro v1 w2 hown2 hb2 hg2; have HAT2 := Lib.hid (HAT1.out.grown hg2 (fun e => by have := own_base HOW1.out _ e; omega)); have HRS2 := Lib.hid (HRS1.out.grown hg2 (fun e => by have := own_base HOW1.out _ e; omega)); clear hg2)
        exact ⟨⟨k + 1, by omega, by go_num, HAT2.out, HRS2.out, by rw [HS.out]; simpa using hown2, hb2⟩, by simp [intOf]; omega⟩
    · obtain rfl : k = 256 := by omega
      have HBL := Lib.hid hbl
      have hr := rdB_own hown (by rw [lst_len]; have := cnt_le (fun x => !f x) 256; omega) (lst_bd255 _)
      have HR := Lib.hid hr; have HRS := Lib.hid hres
      clear hat hown hbl hr hres
      go_wp2_with fail
      refine (refOf_any _ _ _ HR.out).mono ?_; rintro e w1 ⟨rfl, hb1⟩
      have hrs := HRS.out.below hb1
      have d0 := hrs.cell 0 _ rfl
      have d1 := hrs.cell 1 _ rfl
      have d2 := hrs.cell 2 _ rfl
      have d3 := hrs.cell 3 _ rfl
      have f0 := hrs.frozen 0
      have f1 := hrs.frozen 1
      have f2 := hrs.frozen 2
      have f3 := hrs.frozen 3
      have HB1 := Lib.hid (HBL.out.trans (hb1.mono HBL.out.size))
      rw [setOf_ext (g := fun x => !f x) (fun x hx => memF_lst _ 256 x hx)]
      clear hb1 hrs
      unfold setOf
      go_wp2
      refine bodyPost_ret (v := setOf (fun x => !f x)) (by simp [results, Try.results80, go_sem, d0, d1, d2, d3]; rfl) rfl ⟨rfl, ?_⟩
      exact (((HB1.out.setCell (by simp) _).setCell (by simp) _).setCell (by simp) _).setCell (by simp) _

/-- from lo on -/
def fromF (lo : Nat) (y : Nat) : Bool := decide (lo ≤ y)
theorem lst_from (lo : Nat) : lst (fromF lo) lo = [] := by
  unfold lst
  have : (List.range lo).filter (fromF lo) = [] := by
    rw [List.filter_eq_nil_iff]; intro x hx; unfold fromF; simp at hx; simp; omega
  rw [this]; rfl
set_option maxRecDepth 100000 in
set_option maxHeartbeats 1600000 in
theorem refRange_any (lo hi : Int) (w : World) (h0 : 0 ≤ lo) (h1 : lo ≤ 255) (h2 : 0 ≤ hi) (h3 : hi ≤ 255) :
    Calls Try.prog 103 #[.int .u8 lo, .int .u8 hi] w fun e w' => e = .returned (setOf (rngF lo.toNat (hi.toNat + 1))) ∧ Below w.heap.size w w' := by
  obtain ⟨l, rfl⟩ := Int.eq_ofNat_of_zero_le h0
  obtain ⟨h, rfl⟩ := Int.eq_ofNat_of_zero_le h2
  rw [Int.toNat_natCast, Int.toNat_natCast]
  go_enter Try.func103, Try.ntmps103
  go_wp2
  go_loopw [5, 6] (fun o i wr => ∃ k : Nat, l ≤ k ∧ (k ≤ l ∨ k ≤ h + 1) ∧ i = .int .i64 k ∧ AtG wr w.heap.size 26 (setC 0 0 0 0) ∧ wr.ownsRow (w.heap.size + 1) 5 1 o (lst (fromF l) k).length ((lst (fromF l) k).map (Value.int .u8)) ∧ Below w.heap.size w wr) (fun _ i _ => 300 - (intOf i).toNat)
  case atStart => exact ⟨l, Nat.le_refl _, .inl (Nat.le_refl _), rfl, AtG.new w _ _, by rw [lst_from]; exact own_nil _ _ _ _, by go_grown⟩
  case round =>
    obtain ⟨k, hk, hk2, rfl, hat, hown, hbl⟩ := hrel
    have hl0 := hat.lt
    have hcl := lst_len (fromF l) k
    have hcn := cnt_le (fromF l) k
    by_cases hlt : k ≤ h
    · have HLL : Hid ((lst (fromF l) k).length ≤ 256) := Lib.hid (by omega)
      have HAT := Lib.hid hat; have HOW := Lib.hid hown; have HBL := Lib.hid hbl
      have hf : fromF l k = true := by unfold fromF; simp [hk]
      have HS : Hid (lst (fromF l) (k + 1) = lst (fromF l) k ++ [(k : Int)]) := Lib.hid (by rw [lst_succ, hf]; simp)
      have hb1 : (k : Int) ≤ 255 := by omega
      have hl1 : w.heap.size + 1 ≤ wr.heap.size := hl0
      clear hat hown hbl hcl hcn hf hk2
      go_wp2_with (at_builtin; go_must (refine app1 (w0 := w) (w.heap.size + 1) w.heap.size (by omega) rfl _ _ 22 5 (.int .u8 0) 1 rfl Try.underlying22 infoU8 rfl (by decide) _ _ ((lst (fromF l) k).map (Value.int .u8)) (.int .u8 k) HOW.out rfl rfl rfl HBL.out hl1 (by have := HLL.out; omega) ?_); intro v1 w2 hown2 hb2 hg2; have HAT2 := Lib.hid (HAT.out.grown hg2 (fun e => by have := own_base HOW.out _ e; omega)); clear hg2)
      exact ⟨⟨k + 1, by omega, by omega, by go_num, HAT2.out, by rw [HS.out]; simpa using hown2, hb2⟩, by simp [intOf]; omega⟩
    · have HBL := Lib.hid hbl
      have hr := rdB_own hown (by omega) (fun x hx => by have := lst_bd _ _ x hx; omega)
      have HR := Lib.hid hr; have HRS := Lib.hid hat
      have HEX : Hid (setOf (memF (lst (fromF l) k)) = setOf (rngF l (h + 1))) := Lib.hid (setOf_ext fun x hx => by
        by_cases hxk : x < k
        · rw [memF_lst _ _ _ hxk]; unfold fromF rngF; rw [Bool.eq_iff_iff]; simp; omega
        · have : memF (lst (fromF l) k) x = false := by
            unfold memF; rw [Bool.eq_false_iff]; simp only [ne_eq, List.contains_iff_mem, lst_mem]; omega
          rw [this]; unfold rngF; symm; rw [Bool.eq_false_iff]; simp; omega)
      clear hat hown hbl hr hk2 hcl hcn
      go_wp2_with fail
      refine (refOf_any _ _ _ HR.out).mono ?_; rintro e w1 ⟨rfl, hb1⟩
      have hrs := HRS.out.below hb1
      have d0 := hrs.cell 0 _ rfl
      have d1 := hrs.cell 1 _ rfl
      have d2 := hrs.cell 2 _ rfl
      have d3 := hrs.cell 3 _ rfl
      have f0 := hrs.frozen 0
      have f1 := hrs.frozen 1
      have f2 := hrs.frozen 2
      have f3 := hrs.frozen 3
      have HB1 := Lib.hid (HBL.out.trans (hb1.mono HBL.out.size))
      rw [HEX.out]
      clear hb1 hrs
      unfold setOf
      go_wp2
      refine bodyPost_ret (v := setOf (rngF l (h + 1))) (by simp [results, Try.results103, go_sem, d0, d1, d2, d3]; rfl) rfl ⟨rfl, ?_⟩
      exact (((HB1.out.setCell (by simp) _).setCell (by simp) _).setCell (by simp) _).setCell (by simp) _
end Go.Proofs.Ytofgkildlhcpdaa
/- The walk of the document's Or of sets. -/
namespace Go.Proofs.Ytofgkildlhcpdaa
open Go.RowKit Bt
set_option linter.unusedVariables false
set_option linter.unusedSimpArgs false
theorem memF_app (f g : Nat → Bool) (x : Nat) (hx : x < 256) : memF (lst f 256 ++ lst g 256) x = (f x || g x) := by
  have h1 := memF_lst f 256 x hx
  have h2 := memF_lst g 256 x hx
  unfold memF at *
  rw [List.contains_append, h1, h2]
theorem of_own (w : World) {base : Nat} (v : Value) (f g : Nat → Bool) (n : Nat) (h : w.ownsRow base 5 1 v n ((lst f 256).map (Value.int .u8) ++ (lst g 256).map (Value.int .u8))) :
    Calls Try.prog 53 #[v] w fun e w' => e = .returned (setOf (fun x => f x || g x)) ∧ Below w.heap.size w w' := by
  rw [← List.map_append] at h
  have hr := rdB_own h (by rw [List.length_append, lst_len, lst_len]; have := cnt_le f 256; have := cnt_le g 256; omega) (fun x hx => by
    rcases List.mem_append.1 hx with hx | hx
    · exact lst_bd255 f x hx
    · exact lst_bd255 g x hx)
  refine (refOf_any _ _ _ hr).mono fun e w' ⟨he, hb⟩ => ⟨?_, hb⟩
  rw [he, setOf_ext (g := fun x => f x || g x) (fun x hx => memF_app f g x hx)]
theorem keep8 {f g : Nat → Bool} {b : Nat} {W w1 : World} (h : W.cell? ⟨b, 0, none⟩ = some (.int .u64 ((wd f 0 : Nat) : Int)) ∧ W.cell? ⟨b, 1, none⟩ = some (.int .u64 ((wd f 1 : Nat) : Int)) ∧ W.cell? ⟨b, 2, none⟩ = some (.int .u64 ((wd f 2 : Nat) : Int)) ∧ W.cell? ⟨b, 3, none⟩ = some (.int .u64 ((wd f 3 : Nat) : Int)) ∧ W.cell? ⟨b + 1, 0, none⟩ = some (.int .u64 ((wd g 0 : Nat) : Int)) ∧ W.cell? ⟨b + 1, 1, none⟩ = some (.int .u64 ((wd g 1 : Nat) : Int)) ∧ W.cell? ⟨b + 1, 2, none⟩ = some (.int .u64 ((wd g 2 : Nat) : Int)) ∧ W.cell? ⟨b + 1, 3, none⟩ = some (.int .u64 ((wd g 3 : Nat) : Int))) (hb : Below W.heap.size W w1) : w1.cell? ⟨b, 0, none⟩ = some (.int .u64 ((wd f 0 : Nat) : Int)) ∧ w1.cell? ⟨b, 1, none⟩ = some (.int .u64 ((wd f 1 : Nat) : Int)) ∧ w1.cell? ⟨b, 2, none⟩ = some (.int .u64 ((wd f 2 : Nat) : Int)) ∧ w1.cell? ⟨b, 3, none⟩ = some (.int .u64 ((wd f 3 : Nat) : Int)) ∧ w1.cell? ⟨b + 1, 0, none⟩ = some (.int .u64 ((wd g 0 : Nat) : Int)) ∧ w1.cell? ⟨b + 1, 1, none⟩ = some (.int .u64 ((wd g 1 : Nat) : Int)) ∧ w1.cell? ⟨b + 1, 2, none⟩ = some (.int .u64 ((wd g 2 : Nat) : Int)) ∧ w1.cell? ⟨b + 1, 3, none⟩ = some (.int .u64 ((wd g 3 : Nat) : Int)) := by
  have k : ∀ (p : Addr) (v : Value), W.cell? p = some v → w1.cell? p = some v := fun p v hp => (hb.cell (World.block_lt_of_cell? W _ hp)).trans hp
  obtain ⟨h0, h1, h2, h3, h4, h5, h6, h7⟩ := h
  exact ⟨k _ _ h0, k _ _ h1, k _ _ h2, k _ _ h3, k _ _ h4, k _ _ h5, k _ _ h6, k _ _ h7⟩
theorem keep8g {f g : Nat → Bool} {b : Nat} {W w1 : World} {r : Option Nat} (h : W.cell? ⟨b, 0, none⟩ = some (.int .u64 ((wd f 0 : Nat) : Int)) ∧ W.cell? ⟨b, 1, none⟩ = some (.int .u64 ((wd f 1 : Nat) : Int)) ∧ W.cell? ⟨b, 2, none⟩ = some (.int .u64 ((wd f 2 : Nat) : Int)) ∧ W.cell? ⟨b, 3, none⟩ = some (.int .u64 ((wd f 3 : Nat) : Int)) ∧ W.cell? ⟨b + 1, 0, none⟩ = some (.int .u64 ((wd g 0 : Nat) : Int)) ∧ W.cell? ⟨b + 1, 1, none⟩ = some (.int .u64 ((wd g 1 : Nat) : Int)) ∧ W.cell? ⟨b + 1, 2, none⟩ = some (.int .u64 ((wd g 2 : Nat) : Int)) ∧ W.cell? ⟨b + 1, 3, none⟩ = some (.int .u64 ((wd g 3 : Nat) : Int))) (hg : W.grownBy w1 r) (hr : ∀ k, r = some k → b + 2 ≤ k) : w1.cell? ⟨b, 0, none⟩ = some (.int .u64 ((wd f 0 : Nat) : Int)) ∧ w1.cell? ⟨b, 1, none⟩ = some (.int .u64 ((wd f 1 : Nat) : Int)) ∧ w1.cell? ⟨b, 2, none⟩ = some (.int .u64 ((wd f 2 : Nat) : Int)) ∧ w1.cell? ⟨b, 3, none⟩ = some (.int .u64 ((wd f 3 : Nat) : Int)) ∧ w1.cell? ⟨b + 1, 0, none⟩ = some (.int .u64 ((wd g 0 : Nat) : Int)) ∧ w1.cell? ⟨b + 1, 1, none⟩ = some (.int .u64 ((wd g 1 : Nat) : Int)) ∧ w1.cell? ⟨b + 1, 2, none⟩ = some (.int .u64 ((wd g 2 : Nat) : Int)) ∧ w1.cell? ⟨b + 1, 3, none⟩ = some (.int .u64 ((wd g 3 : Nat) : Int)) := by
  have k : ∀ (p : Addr) (v : Value), p.block < b + 2 → W.cell? p = some v → w1.cell? p = some v := fun p v hl hp => (World.cell?_of_block (w := W) (hg.block p.block (World.block_lt_of_cell? W _ hp) (fun e => by have := hr _ e.symm; omega))).trans hp
  obtain ⟨h0, h1, h2, h3, h4, h5, h6, h7⟩ := h
  exact ⟨k _ _ (by simp) h0, k _ _ (by simp) h1, k _ _ (by simp) h2, k _ _ (by simp) h3, k _ _ (by simp) h4, k _ _ (by simp) h5, k _ _ (by simp) h6, k _ _ (by simp) h7⟩
set_option maxRecDepth 100000 in
set_option maxHeartbeats 4000000 in
theorem refOr_any (f g : Nat → Bool) (w : World) :
    Calls Try.prog 42 #[setOf f, setOf g] w fun e w' => e = .returned (setOf (fun x => f x || g x)) ∧ Below w.heap.size w w' := by
  have hsh : ∀ W0 : World, W0 = ((w.alloc (.cells (cellsOf f) 26)).alloc (.cells (cellsOf g) 26)).alloc (.cells (setC 0 0 0 0) 26) →
      AtG W0 w.heap.size 26 (cellsOf f) ∧ AtG W0 (w.heap.size + 1) 26 (cellsOf g) ∧ AtG W0 (w.heap.size + 1 + 1) 26 (setC 0 0 0 0) ∧ Below w.heap.size w W0 ∧ W0.heap.size = w.heap.size + 3 := by
    rintro W0 rfl
    have h1 := AtG.new (w.alloc (.cells (cellsOf f) 26)) 26 (cellsOf g)
    have h2 := AtG.new ((w.alloc (.cells (cellsOf f) 26)).alloc (.cells (cellsOf g) 26)) 26 (setC 0 0 0 0)
    rw [show (w.alloc (.cells (cellsOf f) 26)).heap.size = w.heap.size + 1 from by simp] at h1
    rw [show ((w.alloc (.cells (cellsOf f) 26)).alloc (.cells (cellsOf g) 26)).heap.size = w.heap.size + 1 + 1 from by simp] at h2
    exact ⟨((AtG.new w _ _).alloc _).alloc _, h1.alloc _, h2, by go_grown, by simp⟩
  unfold setOf
  go_enter Try.func42, Try.ntmps42
  go_wp2
  generalize hW : ((w.alloc (.cells #[.int .u64 ((wd f 0 : Nat) : Int), .int .u64 ((wd f 1 : Nat) : Int), .int .u64 ((wd f 2 : Nat) : Int), .int .u64 ((wd f 3 : Nat) : Int)] 26)).alloc (.cells #[.int .u64 ((wd g 0 : Nat) : Int), .int .u64 ((wd g 1 : Nat) : Int), .int .u64 ((wd g 2 : Nat) : Int), .int .u64 ((wd g 3 : Nat) : Int)] 26)).alloc (.cells #[.int .u64 0, .int .u64 0, .int .u64 0, .int .u64 0] 26) = W0
  obtain ⟨A0, A1, A2, hB0, hs0⟩ := hsh W0 hW.symm
  clear hW hsh
  have a0 : W0.cell? ⟨w.heap.size, 0, none⟩ = some (.int .u64 ((wd f 0 : Nat) : Int)) := A0.cell 0 _ rfl
  have a1 : W0.cell? ⟨w.heap.size, 1, none⟩ = some (.int .u64 ((wd f 1 : Nat) : Int)) := A0.cell 1 _ rfl
  have a2 : W0.cell? ⟨w.heap.size, 2, none⟩ = some (.int .u64 ((wd f 2 : Nat) : Int)) := A0.cell 2 _ rfl
  have a3 : W0.cell? ⟨w.heap.size, 3, none⟩ = some (.int .u64 ((wd f 3 : Nat) : Int)) := A0.cell 3 _ rfl
  have b0 : W0.cell? ⟨w.heap.size + 1, 0, none⟩ = some (.int .u64 ((wd g 0 : Nat) : Int)) := A1.cell 0 _ rfl
  have b1 : W0.cell? ⟨w.heap.size + 1, 1, none⟩ = some (.int .u64 ((wd g 1 : Nat) : Int)) := A1.cell 1 _ rfl
  have b2 : W0.cell? ⟨w.heap.size + 1, 2, none⟩ = some (.int .u64 ((wd g 2 : Nat) : Int)) := A1.cell 2 _ rfl
  have b3 : W0.cell? ⟨w.heap.size + 1, 3, none⟩ = some (.int .u64 ((wd g 3 : Nat) : Int)) := A1.cell 3 _ rfl
  have HA1 := Lib.hid A1; have HA2 := Lib.hid A2; have HB0 := Lib.hid hB0
  have hs0' : w.heap.size + 3 ≤ W0.heap.size := by omega
  clear A0 A1 A2 hB0 hs0
  have hne : ¬ (w.heap.size + 1 + 1 = w.heap.size) := by omega
  have hne' : ¬ (w.heap.size = w.heap.size + 1 + 1) := by omega
  go_region_held3 (fun w' => w'.cell? ⟨w.heap.size, 0, none⟩ = some (.int .u64 ((wd f 0 : Nat) : Int)) ∧ w'.cell? ⟨w.heap.size, 1, none⟩ = some (.int .u64 ((wd f 1 : Nat) : Int)) ∧ w'.cell? ⟨w.heap.size, 2, none⟩ = some (.int .u64 ((wd f 2 : Nat) : Int)) ∧ w'.cell? ⟨w.heap.size, 3, none⟩ = some (.int .u64 ((wd f 3 : Nat) : Int)) ∧ w'.cell? ⟨w.heap.size + 1, 0, none⟩ = some (.int .u64 ((wd g 0 : Nat) : Int)) ∧ w'.cell? ⟨w.heap.size + 1, 1, none⟩ = some (.int .u64 ((wd g 1 : Nat) : Int)) ∧ w'.cell? ⟨w.heap.size + 1, 2, none⟩ = some (.int .u64 ((wd g 2 : Nat) : Int)) ∧ w'.cell? ⟨w.heap.size + 1, 3, none⟩ = some (.int .u64 ((wd g 3 : Nat) : Int))) (go_keep) (first
    | (go_at_call_of 54 (Value.int .u64 ((wd f 0 : Nat) : Int)); refine (refBytes_any f _).mono ?_; rintro e w1 ⟨v1, rfl, hO1, hb1⟩; have HO1 := Lib.hid hO1; have hb1' : Below W0.heap.size W0 w1 := (Below.refl _ _).drew.trans hb1; have K := keep8 ⟨a0, a1, a2, a3, b0, b1, b2, b3⟩ hb1'; have HK1 := Lib.hid K; obtain ⟨p0, p1, p2, p3, p4, p5, p6, p7⟩ := K; have HB1 := Lib.hid hb1'; clear hb1' hO1)
    | (go_at_call_of 54 (Value.int .u64 ((wd g 0 : Nat) : Int)); refine (refBytes_any g _).mono ?_; rintro e w2 ⟨v2, rfl, hO2, hb2⟩; have HO2 := Lib.hid hO2; have HB2 := Lib.hid hb2; have K := keep8 HK1.out hb2; have HK2 := Lib.hid K; obtain ⟨q0, q1, q2, q3, q4, q5, q6, q7⟩ := K; clear hO2)
    | (go_at_call 53; refine (of_own _ _ f g _ HO3.out).mono ?_; rintro e w4 ⟨rfl, hb4⟩; have hA4 := ((HA2.out.below HB1.out).below HB2.out |>.grown HG3.out (fun e => by have := own_base HO1.out _ e; simp at this; omega)).below hb4; have r0 := hA4.cell 0 _ rfl; have r1 := hA4.cell 1 _ rfl; have r2 := hA4.cell 2 _ rfl; have r3 := hA4.cell 3 _ rfl; have f0 := hA4.frozen 0; have f1 := hA4.frozen 1; have f2 := hA4.frozen 2; have f3 := hA4.frozen 3; have HB4 := Lib.hid hb4; have K := keep8 HK3.out hb4; obtain ⟨t0, t1, t2, t3, t4, t5, t6, t7⟩ := K; clear hA4; unfold setOf)
    | (refine step_appRow rfl (.tmp 6) (.tmp 8) 22 rfl W0.heap.size 5 (.int .u8 0) 1 1 Try.underlying22 infoU8 rfl (by decide) v1 v2 _ _ _ _ (own_below HO1.out HB2.out) (src_own HO2.out) rfl rfl (by simp) (fun y hy => by simp only [List.mem_map] at hy; obtain ⟨x, _, rfl⟩ := hy; rfl) (by rw [lst_len, lst_len]; have := cnt_le f 256; have := cnt_le g 256; omega) (by decide) (Nat.le_trans HB1.out.size HB2.out.size) ?_; intro v3 w3 hO3 hg3; have HO3 := Lib.hid hO3; have HG3 := Lib.hid hg3; have K := keep8g HK2.out hg3 (fun k hk => by have := own_base HO1.out k hk; simp at this; omega); have HK3 := Lib.hid K; obtain ⟨s0, s1, s2, s3, s4, s5, s6, s7⟩ := K; clear hO3))
  go_wp2
  refine bodyPost_ret (v := setOf (fun x => f x || g x)) (by simp [results, Try.results42, go_sem, r0, r1, r2, r3]; rfl) rfl ⟨rfl, ?_⟩
  have B1 := HB0.out.trans (HB1.out.mono (by omega))
  have B2 := B1.trans (HB2.out.mono B1.size)
  have B3 := B2.grown HG3.out B2.size (fun k hk => by have := own_base HO1.out k hk; simp at this; omega)
  have B4 := B3.trans (HB4.out.mono B3.size)
  exact (((B4.setCell (by simp; omega) _).setCell (by simp; omega) _).setCell (by simp; omega) _).setCell (by simp; omega) _
end Go.Proofs.Ytofgkildlhcpdaa
/- A region that draws its order, each operation by itself; what an operation leaves, and what held at the start, may lapse when another one comes up (a store, an append in place, a call that writes). -/
set_option linter.unusedVariables false
namespace Go.Proofs.Ytofgkildlhcpdaa
open Go.RowKit
namespace RgX
open Rg (isDst dstsOk edgesOk waitsFar reach dst_lt isDst_of dst_ne edge_lt unl unl_set all_of_ready ready_of_unl closed_set waitsFar_spec reach_spec)
/-- a condition on a value, that lapses when number exp comes up (none: never) -/
structure Rl where
  R : Value → Value → World → Prop
  exp : Option Nat
  /-- the number whose value is R's second one -/
  see : Option Nat
def eq (X : Value) : Rl := ⟨fun v _ _ => v = X, none, none⟩
theorem mk {X u : Value} {w : World} : (eq X).R X u w := rfl
/-- a condition on the value alone -/
def rl (R : Value → World → Prop) (exp : Option Nat) : Rl := ⟨fun v _ w => R v w, exp, none⟩
def Sees (l : List Oper) (tm : Array Value) : Option Nat → Value → Prop
  | none, u => u = undef
  | some j, u => ∃ t, (l[j]?).bind (·.dst) = some t ∧ tm[t]? = some u
/-- a condition on the world, that lapses when number exp comes up -/
structure Fc where
  F : World → Prop
  exp : Option Nat
def alive (listed : Array Bool) : Option Nat → Prop
  | none => True
  | some x => listed.getD x false = false
/-- does it still hold when o, number i, comes up? -/
def holds (l : List Oper) (n i : Nat) : Option Nat → Bool
  | none => true
  | some x => x == i || reach l n x i
/-- number i never comes up while it holds -/
def Off (l : List Oper) (i : Nat) (x : Option Nat) : Prop := ∃ y m, x = some y ∧ reach l m i y = true
/-- number i has come up ahead of number k -/
def Past (l : List Oper) (k i : Nat) : Prop := ∃ m, reach l m k i = true
def look : List (Nat × Rl) → Nat → Option Rl
  | [], _ => none
  | (k, r) :: l, j => if k == j then some r else look l j
section
variable (P : Program) (ops : Array Oper) (Q : Exit → Act → World → Prop) (E : Nat → World → World → Prop) (Fs : List Fc) (b : Act)
structure Known (Rs : List (Nat × Rl)) (i : Nat) (o : Oper) (a : Act) (w : World) : Prop where
  fact : ∀ (k n : Nat) f, Fs[k]? = some f → holds ops.toList n i f.exp = true → f.F w
  base : ∀ t x, isDst ops.toList t = false → b.tmps.toList[t]? = some x → a.tmps[t]? = some x
  dep : ∀ n j t r, waitsFar ops.toList n o j = true → (ops.toList[j]?).bind (·.dst) = some t → look Rs j = some r → ∃ v, a.tmps[t]? = some v ∧ (∀ m u, holds ops.toList m i r.exp = true → Sees ops.toList a.tmps r.see u → r.R v u w)
  depN : ∀ n j p r, waitsFar ops.toList n o j = true → ops.toList[j]? = some p → p.dst = none → look Rs j = some r → ∀ m u, holds ops.toList m i r.exp = true → Sees ops.toList a.tmps r.see u → r.R undef u w
def One (Rs : List (Nat × Rl)) (i : Nat) (o : Oper) (r : Rl) : Prop :=
  ∀ a w, Known ops Fs b Rs i o a w →
    if Region.wanted o (yielded ops a.tmps) = true then ∀ K : Act → World → Prop, (∀ v w', (o.dst = none → v = undef) → (∀ u, Sees ops.toList a.tmps r.see u → r.R v u w') → E i w w' → K (a.put o.dst v) w') → o.wp P a w K Q else ∀ u, Sees ops.toList a.tmps r.see u → r.R undef u w
/-- what every operation leaves alone -/
def Keep (i : Nat) (F : World → Prop) : Prop := ∀ w w', F w → E i w w' → F w'
def Fin (D : List Deferred) : List Oper → List Rl → List Value → World → Prop
  | [], [], base, w => Q .normal ⟨base.toArray, D⟩ w
  | o :: os, r :: rs, base, w => match o.dst with
    | some d => ∀ v, (r.exp = none → ∀ u, Sees ops.toList base.toArray r.see u → r.R v u w) → Fin D os rs (base.set d v) w
    | none => (r.exp = none → ∀ u, Sees ops.toList base.toArray r.see u → r.R undef u w) → Fin D os rs base w
  | _, _, _, _ => False
def Build : Nat → List Oper → List (Nat × Rl) → Prop
  | _, [], Rs => ∀ w, (∀ f ∈ Fs, f.exp = none → f.F w) → Fin ops Q b.defers ops.toList (Rs.reverse.map (·.2)) b.tmps.toList w
  | n, o :: l, Rs => ∃ r : Rl, One P ops Q E Fs b Rs n o r ∧ (∀ i, i < ops.size → i ≠ n → r.exp ≠ some i → ¬ Off ops.toList i r.exp → ¬ Past ops.toList n i → ∀ v u, Keep E i (r.R v u)) ∧ (∀ j, r.see = some j → ∃ m, waitsFar ops.toList m o j = true) ∧ Build (n + 1) l ((n, r) :: Rs)
end
section
variable {P : Program} {ops : Array Oper} {Q : Exit → Act → World → Prop} {E : Nat → World → World → Prop} {Fs : List Fc} {b : Act}
structure Inv (ops : Array Oper) (Fs : List Fc) (b : Act) (Rs : List Rl) (listed : Array Bool) (a : Act) (w : World) : Prop where
  fact : ∀ f ∈ Fs, alive listed f.exp → f.F w
  defers : a.defers = b.defers
  size : a.tmps.size = b.tmps.size
  base : ∀ t, isDst ops.toList t = false → a.tmps[t]? = b.tmps[t]?
  closed : ∀ (i : Nat) (o : Oper) (e : Edge), ops.toList[i]? = some o → listed.getD i false = true → e ∈ o.after → Region.binds .any e = true → listed.getD e.on false = true
  dep : ∀ (i : Nat) (o : Oper) (t : Nat) (r : Rl), ops[i]? = some o → o.dst = some t → listed.getD i false = true → Rs[i]? = some r → ∃ v, a.tmps[t]? = some v ∧ (alive listed r.exp → ∀ u, Sees ops.toList a.tmps r.see u → r.R v u w)
  depN : ∀ (i : Nat) (o : Oper) (r : Rl), ops[i]? = some o → o.dst = none → listed.getD i false = true → Rs[i]? = some r → alive listed r.exp → ∀ u, Sees ops.toList a.tmps r.see u → r.R undef u w
theorem alive_of_set {listed : Array Bool} {i : Nat} {x : Option Nat} (hi : i < listed.size) (h : alive (listed.setIfInBounds i true) x) : alive listed x ∧ x ≠ some i := by
  cases x with
  | none => exact ⟨trivial, by simp⟩
  | some x =>
    simp only [alive] at h ⊢
    by_cases hx : i = x
    · subst hx; simp [Array.getElem?_setIfInBounds_self_of_lt hi] at h
    · have : (listed.setIfInBounds i true).getD x false = listed.getD x false := by simp [Array.getElem?_setIfInBounds_ne hx]
      rw [this] at h
      exact ⟨h, fun e => hx (Option.some.inj e).symm⟩
theorem getD_other {listed : Array Bool} {i k : Nat} (h : i ≠ k) : (listed.setIfInBounds i true).getD k false = listed.getD k false := by simp [Array.getElem?_setIfInBounds_ne h]
theorem Inv.put {Rs : List Rl} {listed : Array Bool} {a : Act} {w w' : World} {i : Nat} {o : Oper} {r : Rl} {v : Value} (hd : dstsOk b.tmps.size ops.toList = true)
    (stF : ∀ f ∈ Fs, ∀ i, i < ops.size → f.exp ≠ some i → ¬ Off ops.toList i f.exp → Keep E i f.F) (stR : ∀ (k : Nat) (q : Rl), Rs[k]? = some q → ∀ i, i < ops.size → i ≠ k → q.exp ≠ some i → ¬ Off ops.toList i q.exp → ¬ Past ops.toList k i → ∀ v u, Keep E i (q.R v u))
    (see : ∀ (k : Nat) (p : Oper) (q : Rl) (j : Nat), ops[k]? = some p → Rs[k]? = some q → q.see = some j → ∃ m, waitsFar ops.toList m p j = true) (hil' : listed.getD i false = false)
    (h : Inv ops Fs b Rs listed a w) (ho : ops[i]? = some o) (hr : Rs[i]? = some r) (hv : ∀ u, Sees ops.toList a.tmps r.see u → r.R v u w') (hvn : o.dst = none → v = undef) (hb : E i w w' ∨ w' = w) (hs : listed.size = ops.size) (hdep : ∀ e ∈ o.after, Region.binds .any e = true → listed.getD e.on false = true) :
    Inv ops Fs b Rs (listed.setIfInBounds i true) (a.put o.dst v) w' := by
  have ho' : ops.toList[i]? = some o := by simpa using ho
  have hio : i < ops.size := (Array.getElem?_eq_some_iff.1 ho).1
  have hil : i < listed.size := by omega
  have notPast : ∀ k, listed.getD k false = true → ¬ Past ops.toList k i := by
    rintro k hk ⟨m, hm⟩
    have := reach_spec h.closed m k i hm hk
    rw [hil'] at this; cases this
  have notOff : ∀ x : Option Nat, alive listed x → ¬ Off ops.toList i x := by
    rintro x ha ⟨y, m, rfl, hm⟩
    simp only [alive] at ha
    cases m with
    | zero => simp [reach] at hm
    | succ m =>
      unfold reach at hm
      rw [ho'] at hm
      have := waitsFar_spec h.closed (n := m) (o := o) (j := y) hm hdep
      rw [this] at ha; cases ha
  have move : ∀ F : World → Prop, (E i w w' → Keep E i F) → F w → F w' := fun F hk hF => by
    rcases hb with hb | rfl
    · exact hk hb _ _ hF hb
    · exact hF
  have back : ∀ (k : Nat) (p : Oper) (q : Rl) (u : Value), ops[k]? = some p → Rs[k]? = some q → (listed.getD k false = true ∨ k = i) → Sees ops.toList (a.put o.dst v).tmps q.see u → Sees ops.toList a.tmps q.see u := by
    intro k p q u hp hq hk hs
    cases hsee : q.see with
    | none => rw [hsee] at hs; exact hs
    | some j =>
      rw [hsee] at hs
      obtain ⟨m, hm⟩ := see k p q j hp hq hsee
      have hjl : listed.getD j false = true := by
        refine waitsFar_spec h.closed hm ?_
        rcases hk with hk | rfl
        · exact fun e he hb => h.closed k p e (by simpa using hp) hk he hb
        · obtain rfl : o = p := by rw [ho] at hp; exact Option.some.inj hp
          exact hdep
      have hji : j ≠ i := fun e => by subst e; rw [hil'] at hjl; cases hjl
      obtain ⟨t, ht, hu⟩ := hs
      refine ⟨t, ht, ?_⟩
      obtain ⟨pj, hpj, hpt⟩ := Option.bind_eq_some_iff.1 ht
      cases hod : o.dst with
      | none => simpa [Act.put, hod] using hu
      | some d =>
        have hne : d ≠ t := fun e => hji (by subst e; exact dst_ne hd j i pj o d hpj ho' hpt hod)
        simpa [Act.put, hod, Array.getElem?_setIfInBounds_ne hne] using hu
  refine ⟨fun f hf ha => ?_, ?_, ?_, ?_, closed_set h.closed ho' hdep, ?_, ?_⟩
  · obtain ⟨ha1, ha2⟩ := alive_of_set hil ha
    exact move _ (fun _ => stF f hf i hio ha2 (notOff _ ha1)) (h.fact f hf ha1)
  · cases hd : o.dst <;> simp [Act.put, h.defers]
  · cases hd : o.dst <;> simp [Act.put, h.size]
  · intro t ht
    cases hod : o.dst with
    | none => simpa [Act.put] using h.base t ht
    | some d =>
      have hne : d ≠ t := fun e => by subst e; rw [isDst_of ho' hod] at ht; cases ht
      simpa [Act.put, Array.getElem?_setIfInBounds_ne hne] using h.base t ht
  · intro k p t q hp hpd hl hs'
    by_cases hki : k = i
    · subst hki
      obtain rfl : o = p := by rw [ho] at hp; exact Option.some.inj hp
      obtain rfl : r = q := by rw [hr] at hs'; exact Option.some.inj hs'
      have hlt : t < a.tmps.size := by rw [h.size]; exact dst_lt hd k o t ho' hpd
      exact ⟨v, by simp [Act.put, hpd, Array.getElem?_setIfInBounds_self_of_lt hlt], fun _ u hs => hv u (back k o r u ho hr (.inr rfl) hs)⟩
    · rw [getD_other (Ne.symm hki)] at hl
      obtain ⟨u, hu, hru⟩ := h.dep k p t q hp hpd hl hs'
      refine ⟨u, ?_, fun ha u2 hs2 => ?_⟩
      · cases hod : o.dst with
        | none => simpa [Act.put] using hu
        | some d =>
          have hne : d ≠ t := fun e => hki (by subst e; exact (dst_ne hd i k o p d ho' (by simpa using hp) hod hpd).symm)
          simpa [Act.put, Array.getElem?_setIfInBounds_ne hne] using hu
      · obtain ⟨ha1, ha2⟩ := alive_of_set hil ha
        exact move _ (fun _ => stR k q hs' i hio (Ne.symm hki) ha2 (notOff _ ha1) (notPast k hl) u u2) (hru ha1 u2 (back k p q u2 hp hs' (.inl hl) hs2))
  · intro k p q hp hpd hl hs' ha u hsu
    obtain ⟨ha1, ha2⟩ := alive_of_set hil ha
    by_cases hki : k = i
    · subst hki
      obtain rfl : o = p := by rw [ho] at hp; exact Option.some.inj hp
      obtain rfl : r = q := by rw [hr] at hs'; exact Option.some.inj hs'
      have := hv u (back k o r u ho hr (.inr rfl) hsu)
      rw [hvn hpd] at this; exact this
    · rw [getD_other (Ne.symm hki)] at hl
      exact move _ (fun _ => stR k q hs' i hio (Ne.symm hki) ha2 (notOff _ ha1) (notPast k hl) undef u) (h.depN k p q hp hpd hl hs' ha1 u (back k p q u hp hs' (.inl hl) hsu))
theorem holds_alive {l : List Oper} {listed : Array Bool} (hc : ∀ (i : Nat) (o : Oper) (e : Edge), l[i]? = some o → listed.getD i false = true → e ∈ o.after → Region.binds .any e = true → listed.getD e.on false = true)
    {n i : Nat} (hi : listed.getD i false = false) {x : Option Nat} (h : holds l n i x = true) : alive listed x := by
  cases x with
  | none => trivial
  | some x =>
    simp only [holds, Bool.or_eq_true, beq_iff_eq] at h
    simp only [alive]
    cases hx : listed.getD x false with
    | false => rfl
    | true =>
      rcases h with rfl | h
      · rw [hi] at hx; cases hx
      · have := reach_spec hc n x i h hx
        rw [hi] at this; cases this
theorem run {Rs : List Rl} (hd : dstsOk b.tmps.size ops.toList = true) (he : edgesOk 0 ops.toList = true)
    (stF : ∀ f ∈ Fs, ∀ i, i < ops.size → f.exp ≠ some i → ¬ Off ops.toList i f.exp → Keep E i f.F) (stR : ∀ (k : Nat) (q : Rl), Rs[k]? = some q → ∀ i, i < ops.size → i ≠ k → q.exp ≠ some i → ¬ Off ops.toList i q.exp → ¬ Past ops.toList k i → ∀ v u, Keep E i (q.R v u)) (see : ∀ (k : Nat) (p : Oper) (q : Rl) (j : Nat), ops[k]? = some p → Rs[k]? = some q → q.see = some j → ∃ m, waitsFar ops.toList m p j = true) (hlen : Rs.length = ops.size)
    (one : ∀ (i : Nat) (o : Oper) (r : Rl), ops[i]? = some o → Rs[i]? = some r → ∃ Ls : List (Nat × Rl), (∀ j q, look Ls j = some q → Rs[j]? = some q) ∧ One P ops Q E Fs b Ls i o r)
    (fin : ∀ a w listed, Inv ops Fs b Rs listed a w → (∀ i, i < ops.size → listed.getD i false = true) → Q .normal a w) :
    ∀ fuel listed a w, listed.size = ops.size → unl ops.size listed = fuel → Inv ops Fs b Rs listed a w → wpAny P .any ops Q fuel listed a w
  | 0, listed, a, w, hs, hu, h => ⟨ready_of_unl hu, fin a w listed h (all_of_ready he (ready_of_unl hu) hs)⟩
  | fuel + 1, listed, a, w, hs, hu, h => by
    refine ⟨fun hr => fin a w listed h (all_of_ready he hr hs), fun i hi => ?_⟩
    obtain ⟨h1, o, ho, hdep⟩ := mem_ready.1 hi
    have hlt : i < ops.size := (Array.getElem?_eq_some_iff.1 ho).1
    obtain ⟨r, hr⟩ : ∃ r, Rs[i]? = some r := ⟨_, List.getElem?_eq_getElem (hlen ▸ hlt)⟩
    have hu' := unl_set (i := i) hs h1
    have h1f : listed.getD i false = false := by
      have hl : i < listed.size := hs ▸ hlt
      simp [hl] at h1 ⊢; exact h1
    obtain ⟨Ls, hLs, hone⟩ := one i o r ho hr
    have hk : Known ops Fs b Ls i o a w := by
      refine ⟨fun k n f hf hh => h.fact f (List.mem_of_getElem? hf) (holds_alive h.closed h1f hh), fun t x ht hx => by rw [h.base t ht]; simpa using hx, fun n j t q hj ht hrs => ?_, fun n j p q hj hp hpd hrs m u hm hsu => ?_⟩
      · obtain ⟨p, hp, hpt⟩ := Option.bind_eq_some_iff.1 ht
        obtain ⟨v, hv, hR⟩ := h.dep j p t q (by simpa using hp) hpt (waitsFar_spec h.closed hj hdep) (hLs _ _ hrs)
        exact ⟨v, hv, fun m u hm hs => hR (holds_alive h.closed h1f hm) u hs⟩
      · exact h.depN j p q (by simpa using hp) hpd (waitsFar_spec h.closed hj hdep) (hLs _ _ hrs) (holds_alive h.closed h1f hm) u hsu
    have hon := hone a w hk
    unfold wpOp
    simp only [ho]
    split
    · rename_i hw
      rw [if_pos hw] at hon
      exact .inl (hon _ fun v w' hvn hv hb => run hd he stF stR see hlen one fin fuel _ _ _ (by simpa using hs) (by omega) (h.put hd stF stR see h1f ho hr hv hvn (.inl hb) hs hdep))
    · rename_i hw
      rw [if_neg hw] at hon
      exact run hd he stF stR see hlen one fin fuel _ _ _ (by simpa using hs) (by omega) (h.put hd stF stR see h1f ho hr hon (fun _ => rfl) (.inr rfl) hs hdep)
theorem fin_of {D : List Deferred} {w : World} {a : Act} (hD : a.defers = D) : ∀ (os : List Oper) (rs : List Rl) (base : List Value),
    dstsOk base.length os = true → os.length = rs.length → a.tmps.size = base.length →
    (∀ t, isDst os t = false → a.tmps[t]? = base[t]?) →
    (∀ (i : Nat) (o : Oper) (t : Nat) (r : Rl), os[i]? = some o → o.dst = some t → rs[i]? = some r → ∃ v, a.tmps[t]? = some v ∧ (r.exp = none → ∀ u, Sees ops.toList a.tmps r.see u → r.R v u w)) →
    (∀ (i : Nat) (o : Oper) (r : Rl), os[i]? = some o → o.dst = none → rs[i]? = some r → r.exp = none → ∀ u, Sees ops.toList a.tmps r.see u → r.R undef u w) →
    (∀ (i : Nat) (r : Rl) (j t : Nat), rs[i]? = some r → r.see = some j → (ops.toList[j]?).bind (·.dst) = some t → isDst (os.drop i) t = false) →
    Fin ops Q D os rs base w → Q .normal a w
  | [], [], base, _, _, hs, hb, _, _, _, h => by
    have : a.tmps = base.toArray := by
      apply Array.ext_getElem?
      intro t; rw [hb t rfl]; simp
    obtain ⟨tm, df⟩ := a
    simp only at this hD
    subst this; subst hD
    exact h
  | o :: os, r :: rs, base, hd, hl, hs, hb, hr, hn, hse, h => by
    simp only [dstsOk, Bool.and_eq_true] at hd
    simp only [Fin] at h
    have fwd : ∀ u, Sees ops.toList base.toArray r.see u → Sees ops.toList a.tmps r.see u := by
      intro u hu
      cases hsee : r.see with
      | none => rw [hsee] at hu; exact hu
      | some j =>
        rw [hsee] at hu
        obtain ⟨t, ht, hv⟩ := hu
        refine ⟨t, ht, ?_⟩
        rw [hb t (by simpa using hse 0 r j t rfl hsee ht)]; simpa using hv
    have hse' : ∀ (i : Nat) (r : Rl) (j t : Nat), rs[i]? = some r → r.see = some j → (ops.toList[j]?).bind (·.dst) = some t → isDst (os.drop i) t = false := fun i q j t hq hj ht => by
      simpa using hse (i + 1) q j t (by simpa using hq) hj ht
    cases hod : o.dst with
    | none =>
      rw [hod] at h
      refine fin_of hD os rs base hd.2 (by simpa using hl) hs (fun t ht => hb t ?_) (fun i p t s hp hpd hs' => hr (i + 1) p t s (by simpa using hp) hpd (by simpa using hs')) (fun i p s hp hpd hs' => hn (i + 1) p s (by simpa using hp) hpd (by simpa using hs')) hse' (h fun hx u hu => hn 0 o r rfl hod rfl hx u (fwd u hu))
      unfold isDst at ht ⊢; rw [List.any_cons, ht]; simp [hod]
    | some d =>
      rw [hod] at h
      have hd1 := hd.1; rw [hod] at hd1; simp at hd1
      obtain ⟨v, hv, hrv⟩ := hr 0 o d r rfl hod rfl
      refine fin_of hD os rs (base.set d v) (by simpa using hd.2) (by simpa using hl) (by simpa using hs) (fun t ht => ?_) (fun i p t s hp hpd hs' => hr (i + 1) p t s (by simpa using hp) hpd (by simpa using hs')) (fun i p s hp hpd hs' => hn (i + 1) p s (by simpa using hp) hpd (by simpa using hs')) hse' (h v fun hx u hu => hrv hx u (fwd u hu))
      by_cases htd : d = t
      · subst htd; rw [hv, List.getElem?_set_self hd1.1]
      · rw [List.getElem?_set_ne htd]
        refine hb t ?_
        unfold isDst at ht ⊢; rw [List.any_cons, ht]; simp [hod, htd]
  | [], _ :: _, _, _, h, _, _, _, _, _, _ => by simp at h
  | _ :: _, [], _, _, h, _, _, _, _, _, _ => by simp at h
def Num : List (Nat × Rl) → Prop
  | [] => True
  | (k, _) :: l => k = l.length ∧ Num l
theorem look_spec : ∀ {l : List (Nat × Rl)}, Num l → ∀ j r, look l j = some r → (l.reverse.map (·.2))[j]? = some r
  | [], _, j, r, h => by simp [look] at h
  | (k, s) :: l, ⟨hk, hn⟩, j, r, h => by
    simp only [look] at h
    rw [List.reverse_cons, List.map_append]
    split at h
    · rename_i hkj
      have : k = j := by simpa using hkj
      subst this; cases h
      rw [List.getElem?_append_right (by simp [hk])]; simp [hk]
    · have := look_spec hn j r h
      rw [List.getElem?_append_left (List.getElem?_eq_some_iff.1 this).1]; exact this
theorem build_spec : ∀ (l : List Oper) (n : Nat) (Rs : List (Nat × Rl)), Num Rs → Rs.length = n →
    (∀ (k : Nat) (q : Rl), (Rs.reverse.map (·.2))[k]? = some q → ∀ i, i < ops.size → i ≠ k → q.exp ≠ some i → ¬ Off ops.toList i q.exp → ¬ Past ops.toList k i → ∀ v u, Keep E i (q.R v u)) → Build P ops Q E Fs b n l Rs →
    ∃ rs : List Rl, rs.length = l.length ∧ (∀ (k : Nat) (q : Rl), (Rs.reverse.map (·.2) ++ rs)[k]? = some q → ∀ i, i < ops.size → i ≠ k → q.exp ≠ some i → ¬ Off ops.toList i q.exp → ¬ Past ops.toList k i → ∀ v u, Keep E i (q.R v u)) ∧
      (∀ (i : Nat) (o : Oper) (r : Rl) (j : Nat), l[i]? = some o → rs[i]? = some r → r.see = some j → ∃ m, waitsFar ops.toList m o j = true) ∧
      (∀ (i : Nat) (o : Oper) (r : Rl), l[i]? = some o → rs[i]? = some r → ∃ Ls : List (Nat × Rl), (∀ j q, look Ls j = some q → (Rs.reverse.map (·.2) ++ rs)[j]? = some q) ∧ One P ops Q E Fs b Ls (n + i) o r) ∧
      (∀ w, (∀ f ∈ Fs, f.exp = none → f.F w) → Fin ops Q b.defers ops.toList (Rs.reverse.map (·.2) ++ rs) b.tmps.toList w)
  | [], n, Rs, _, _, hst, h => ⟨[], rfl, by simpa using hst, by simp, by simp, by simpa [Build] using h⟩
  | o :: l, n, Rs, hn, hl, hst, ⟨r, h1, hq, hsr, h2⟩ => by
    have hst' : ∀ (k : Nat) (q : Rl), (((n, r) :: Rs).reverse.map (·.2))[k]? = some q → ∀ i, i < ops.size → i ≠ k → q.exp ≠ some i → ¬ Off ops.toList i q.exp → ¬ Past ops.toList k i → ∀ v u, Keep E i (q.R v u) := by
      intro k q hk
      rw [List.reverse_cons, List.map_append] at hk
      by_cases hkl : k < Rs.length
      · rw [List.getElem?_append_left (by simpa using hkl)] at hk; exact hst k q hk
      · rw [List.getElem?_append_right (by simpa using hkl)] at hk
        have hk0 : k = n := by
          have := (List.getElem?_eq_some_iff.1 hk).1
          simp at this; omega
        subst hk0
        simp [hl] at hk
        subst hk
        exact hq
    obtain ⟨rs, hlen, hsts, hsee, ho, hf⟩ := build_spec l (n + 1) ((n, r) :: Rs) ⟨hl.symm, hn⟩ (by simp [hl]) hst' h2
    have e : ((n, r) :: Rs).reverse.map (·.2) ++ rs = Rs.reverse.map (·.2) ++ (r :: rs) := by simp
    rw [e] at ho hf hsts
    refine ⟨r :: rs, by simp [hlen], hsts, fun i p q j hp hs hj => ?_, ?_, hf⟩
    · cases i with
      | zero =>
        obtain rfl : o = p := by simpa using hp
        obtain rfl : r = q := by simpa using hs
        exact hsr j hj
      | succ i => exact hsee i p q j (by simpa using hp) (by simpa using hs) hj
    intro i p q hp hs
    cases i with
    | zero =>
      obtain rfl : o = p := by simpa using hp
      obtain rfl : r = q := by simpa using hs
      refine ⟨Rs, fun j q hj => ?_, h1⟩
      have := look_spec hn j q hj
      rw [List.getElem?_append_left (List.getElem?_eq_some_iff.1 this).1]; exact this
    | succ i =>
      have := ho i p q (by simpa using hp) (by simpa using hs)
      rw [show n + 1 + i = n + (i + 1) from by omega] at this
      exact this
theorem reach_lt {l : List Oper} (he : edgesOk 0 l = true) : ∀ n i j, reach l n i j = true → j < i
  | 0, i, j, h => by simp [reach] at h
  | n + 1, i, j, h => by
    unfold reach at h
    split at h
    · cases h
    · rename_i o ho
      rw [List.any_eq_true] at h
      obtain ⟨e, hem, hj⟩ := h
      simp only [Bool.and_eq_true, Bool.or_eq_true, beq_iff_eq] at hj
      have h1 := edge_lt he i o e ho (by simpa using hem) hj.1
      rcases hj.2 with rfl | h2
      · omega
      · have := reach_lt he n e.on j h2; omega
theorem waitsFar_lt {l : List Oper} (he : edgesOk 0 l = true) {n i j : Nat} {o : Oper} (ho : l[i]? = some o) (h : waitsFar l n o j = true) : j < i := by
  unfold waitsFar at h
  rw [List.any_eq_true] at h
  obtain ⟨e, hem, hj⟩ := h
  simp only [Bool.and_eq_true, Bool.or_eq_true, beq_iff_eq] at hj
  have h1 := edge_lt he i o e ho (by simpa using hem) hj.1
  rcases hj.2 with rfl | h2
  · omega
  · have := reach_lt he n e.on j h2; omega
/-- A REGION THAT DRAWS ITS ORDER: each operation by itself; E i is what number i may do to the world; each fact, and what each leaves, is kept by all numbers but the one at which it lapses. -/
theorem wp_region_each {id : Nat} {w : World} (hm : P.follows .mixedOrders = true) (E : Nat → World → World → Prop) (Fs : List Fc)
    (stF : ∀ f ∈ Fs, ∀ i, i < ops.size → f.exp ≠ some i → ¬ Off ops.toList i f.exp → Keep E i f.F)
    (hd : dstsOk b.tmps.toList.length ops.toList = true) (he : edgesOk 0 ops.toList = true) (hF : ∀ f ∈ Fs, f.F w.drew) (h : Build P ops Q E Fs b 0 ops.toList []) : (Code.region id ops true).wp P Q b w := by
  obtain ⟨rs, hl, hst, hsee, ho, hf⟩ := build_spec _ 0 [] trivial rfl (by simp) h
  simp only [List.reverse_nil, List.map_nil, List.nil_append, Nat.zero_add] at ho hf hst
  refine wp_region_any hm ?_
  have hd' : dstsOk b.tmps.size ops.toList = true := by simpa using hd
  have hl' : rs.length = ops.size := by simpa using hl
  refine run (Rs := rs) hd' he stF hst (fun k p q j hp hq hj => hsee k p q j (by simpa using hp) hq hj) hl' (fun i o r hio hr => ho i o r (by simpa using hio) hr) (fun a w' listed hi hall => ?_) ops.size _ b w.drew (by simp) ?_ ?_
  · have alv : ∀ x : Option Nat, x = none → alive listed x := fun x hx => by subst hx; trivial
    refine fin_of (D := b.defers) hi.defers ops.toList rs b.tmps.toList hd (by simpa using hl.symm) (by simpa using hi.size) (fun t ht => by rw [hi.base t ht]; simp) (fun i o t r hio hot hr => ?_) (fun i o r hio hot hr hx u hu => ?_) (fun i r j t hr hj ht => ?_) (hf w' fun f hf' hx => hi.fact f hf' (alv _ hx))
    · have hio' : ops[i]? = some o := by simpa using hio
      obtain ⟨v, hv, hR⟩ := hi.dep i o t r hio' hot (hall i (Array.getElem?_eq_some_iff.1 hio').1) hr
      exact ⟨v, hv, fun hx u hu => hR (alv _ hx) u hu⟩
    · have hio' : ops[i]? = some o := by simpa using hio
      exact hi.depN i o r hio' hot (hall i (Array.getElem?_eq_some_iff.1 hio').1) hr (alv _ hx) u hu
    · have hil : i < ops.toList.length := by rw [← hl]; exact (List.getElem?_eq_some_iff.1 hr).1
      obtain ⟨m, hm⟩ := hsee i ops.toList[i] r j (List.getElem?_eq_getElem hil) hr hj
      have hji : j < i := waitsFar_lt he (List.getElem?_eq_getElem hil) hm
      cases hd2 : isDst (ops.toList.drop i) t with
      | false => rfl
      | true =>
        exfalso
        unfold isDst at hd2; rw [List.any_eq_true] at hd2
        obtain ⟨p, hp, hpt⟩ := hd2
        obtain ⟨k, hk⟩ := List.getElem?_of_mem hp
        rw [List.getElem?_drop] at hk
        obtain ⟨q, hq, hqt⟩ := Option.bind_eq_some_iff.1 ht
        have := dst_ne hd' j (i + k) q p t hq hk hqt (by simpa using hpt)
        omega
  · unfold unl
    rw [List.countP_eq_length.2]
    · simp
    · intro i hi; rw [List.mem_range] at hi; simp [hi]
  · refine ⟨fun f hf _ => hF f hf, rfl, rfl, fun _ _ => rfl, fun i o e hio hl _ _ => ?_, fun i o t r hio _ hl _ => ?_, fun i o r hio _ hl _ _ => ?_⟩
    · have hlt : i < ops.size := by simpa using (List.getElem?_eq_some_iff.1 hio).1
      simp [hlt] at hl
    · have hlt : i < ops.size := (Array.getElem?_eq_some_iff.1 hio).1
      simp [hlt] at hl
    · have hlt : i < ops.size := (Array.getElem?_eq_some_iff.1 hio).1
      simp [hlt] at hl
/-- what the numbers do: those of a list what it says, all others make memory at most -/
def spE : List (Nat × (World → World → Prop)) → Nat → World → World → Prop
  | [], _ => fun w w' => Below w.heap.size w w'
  | (k, e) :: l, i => if k == i then e else spE l i
def PastO (os : List Oper) : Option Nat → Nat → Prop
  | none, _ => False
  | some n, i => Past os n i
def KeepL (os : List Oper) (n : Option Nat) (x : Option Nat) (F : World → Prop) : List (Nat × (World → World → Prop)) → Prop
  | [] => True
  | (k, e) :: l => (n ≠ some k → x ≠ some k → ¬ Off os k x → ¬ PastO os n k → ∀ w w', F w → e w w' → F w') ∧ KeepL os n x F l
theorem keep_sp {os : List Oper} {L : List (Nat × (World → World → Prop))} {n : Option Nat} {x : Option Nat} {F : World → Prop} (h0 : ∀ w w', F w → Below w.heap.size w w' → F w') (h : KeepL os n x F L) : ∀ i, n ≠ some i → x ≠ some i → ¬ Off os i x → ¬ PastO os n i → Keep (spE L) i F := by
  intro i hn hx hoff hp w w' hF hE
  induction L with
  | nil => exact h0 _ _ hF hE
  | cons p l ih =>
    obtain ⟨k, e⟩ := p
    simp only [spE] at hE
    split at hE
    · rename_i hk
      have : k = i := by simpa using hk
      subst this
      exact h.1 hn hx hoff hp _ _ hF hE
    · exact ih h.2 hE
theorem keep_eq {os : List Oper} {E : Nat → World → World → Prop} {X : Value} {m n : Nat} : ∀ i, i < m → i ≠ n → (eq X).exp ≠ some i → ¬ Off os i (eq X).exp → ¬ Past os n i → ∀ v u, Keep E i ((eq X).R v u) := fun _ _ _ _ _ _ _ _ _ _ h _ => h
theorem keep_r {os : List Oper} {L : List (Nat × (World → World → Prop))} {r : Rl} {m n : Nat} (h0 : ∀ v u w w', r.R v u w → Below w.heap.size w w' → r.R v u w') (h : ∀ v u, KeepL os (some n) r.exp (r.R v u) L) : ∀ i, i < m → i ≠ n → r.exp ≠ some i → ¬ Off os i r.exp → ¬ Past os n i → ∀ v u, Keep (spE L) i (r.R v u) :=
  fun i _ hn hx ho hp v u => keep_sp (h0 v u) (h v u) i (fun e => hn (Option.some.inj e).symm) hx ho hp
/-- each fact is kept -/
def KeepF (os : List Oper) (L : List (Nat × (World → World → Prop))) : List Fc → Prop
  | [] => True
  | f :: l => ((∀ w w', f.F w → Below w.heap.size w w' → f.F w') ∧ KeepL os none f.exp f.F L) ∧ KeepF os L l
theorem keep_f {os : List Oper} {L : List (Nat × (World → World → Prop))} {m : Nat} : ∀ {Fs : List Fc}, KeepF os L Fs → ∀ f ∈ Fs, ∀ i, i < m → f.exp ≠ some i → ¬ Off os i f.exp → Keep (spE L) i f.F
  | [], _, f, hf, _, _, _, _ => by cases hf
  | g :: l, h, f, hf, i, hi, hx, ho => by
    rcases List.mem_cons.1 hf with rfl | hf
    · exact keep_sp h.1.1 h.1.2 i (fun e => by cases e) hx ho (fun h => h)
    · exact keep_f h.2 f hf i hi hx ho
def AllF (w : World) : List Fc → Prop
  | [] => True
  | f :: l => f.F w ∧ AllF w l
theorem all_f {w : World} : ∀ {Fs : List Fc}, AllF w Fs → ∀ f ∈ Fs, f.F w
  | [], _, f, hf => by cases hf
  | g :: l, h, f, hf => by
    rcases List.mem_cons.1 hf with rfl | hf
    · exact h.1
    · exact all_f h.2 f hf
theorem start {id : Nat} {w : World} (hm : P.follows .mixedOrders = true) (L : List (Nat × (World → World → Prop))) (Fs : List Fc) (kf : KeepF ops.toList L Fs)
    (hd : dstsOk b.tmps.toList.length ops.toList = true) (he : edgesOk 0 ops.toList = true) (hF : AllF w.drew Fs) (h : Build P ops Q (spE L) Fs b 0 ops.toList []) : (Code.region id ops true).wp P Q b w :=
  wp_region_each hm (spE L) Fs (fun f hf i hi hx ho => keep_f kf f hf i hi hx ho) hd he (all_f hF) h
theorem build_cons {n m : Nat} {o : Oper} {l : List Oper} {Rs : List (Nat × Rl)} {r : Rl} (h : One P ops Q E Fs b Rs n o r) (h2 : Build P ops Q E Fs b m l ((n, r) :: Rs)) (hm : m = n + 1) (hq : ∀ i, i < ops.size → i ≠ n → r.exp ≠ some i → ¬ Off ops.toList i r.exp → ¬ Past ops.toList n i → ∀ v u, Keep E i (r.R v u)) (hs : ∀ j, r.see = some j → ∃ m, waitsFar ops.toList m o j = true) : Build P ops Q E Fs b n (o :: l) Rs := by subst hm; exact ⟨r, h, hq, hs, h2⟩
theorem build_end {n : Nat} {Rs : List (Nat × Rl)} (h : ∀ w, (∀ (k : Nat) f, Fs[k]? = some f → f.exp = none → f.F w) → Fin ops Q b.defers ops.toList (Rs.reverse.map (·.2)) b.tmps.toList w) : Build P ops Q E Fs b n [] Rs :=
  fun w hf => h w fun k f hk hx => hf f (List.mem_of_getElem? hk) hx
theorem fin_none {D : List Deferred} {o : Oper} {os : List Oper} {r : Rl} {rs : List Rl} {base : List Value} {w : World} (hd : o.dst = none) (h : (r.exp = none → ∀ u, Sees ops.toList base.toArray r.see u → r.R undef u w) → Fin ops Q D os rs base w) : Fin ops Q D (o :: os) (r :: rs) base w := by
  simp only [Fin, hd]; exact h
theorem fin_eq {D : List Deferred} {o : Oper} {os : List Oper} {X : Value} {rs : List Rl} {base : List Value} {w : World} {d : Nat} (hd : o.dst = some d) (h : Fin ops Q D os rs (base.set d X) w) : Fin ops Q D (o :: os) (eq X :: rs) base w := by
  simp only [Fin, hd]; intro v hv; obtain rfl : v = X := hv rfl undef rfl; exact h
theorem fin_any {D : List Deferred} {o : Oper} {os : List Oper} {r : Rl} {rs : List Rl} {base : List Value} {w : World} {d : Nat} (hd : o.dst = some d) (h : ∀ v, (r.exp = none → ∀ u, Sees ops.toList base.toArray r.see u → r.R v u w) → Fin ops Q D os rs (base.set d v) w) : Fin ops Q D (o :: os) (r :: rs) base w := by
  simp only [Fin, hd]; exact h
theorem fin_nil {D : List Deferred} {base : List Value} {w : World} (h : Q .normal ⟨base.toArray, D⟩ w) : Fin ops Q D [] [] base w := h
theorem one_plain {Rs : List (Nat × Rl)} {i : Nat} {o : Oper} {r : Rl} (hg : o.guard = none)
    (h : ∀ a w, Known ops Fs b Rs i o a w → ∀ K : Act → World → Prop, (∀ v w', (o.dst = none → v = undef) → (∀ u, Sees ops.toList a.tmps r.see u → r.R v u w') → E i w w' → K (a.put o.dst v) w') → o.wp P a w K Q) : One P ops Q E Fs b Rs i o r :=
  fun a w hk => by rw [if_pos (by simp [Region.wanted, hg])]; exact h a w hk
theorem yielded_of {Rs : List (Nat × Rl)} {i : Nat} {o : Oper} {a : Act} {w : World} (hk : Known ops Fs b Rs i o a w) {j t n : Nat} {g : Bool} (hw : waitsFar ops.toList n o j = true) (ht : (ops.toList[j]?).bind (·.dst) = some t) (hr : look Rs j = some (eq (.bool g))) : yielded ops a.tmps j = some g := by
  obtain ⟨v, hv, hR⟩ := hk.dep n j t _ hw ht hr
  obtain rfl : v = .bool g := hR 0 undef rfl rfl
  have ht' : (ops[j]?).bind (·.dst) = some t := by simpa using ht
  unfold yielded; rw [ht']; simp [hv]
theorem one_yes {Rs : List (Nat × Rl)} {i : Nat} {o : Oper} {r : Rl} (j t : Nat) (g : Bool) (hg : o.guard = some (j, g)) (hw : waitsFar ops.toList 0 o j = true) (ht : (ops.toList[j]?).bind (·.dst) = some t) (hr : look Rs j = some (eq (.bool g)))
    (h : ∀ a w, Known ops Fs b Rs i o a w → ∀ K : Act → World → Prop, (∀ v w', (o.dst = none → v = undef) → (∀ u, Sees ops.toList a.tmps r.see u → r.R v u w') → E i w w' → K (a.put o.dst v) w') → o.wp P a w K Q) : One P ops Q E Fs b Rs i o r :=
  fun a w hk => by rw [if_pos (by simp [Region.wanted, hg, yielded_of hk hw ht hr])]; exact h a w hk
theorem one_no {Rs : List (Nat × Rl)} {i : Nat} {o : Oper} (j t : Nat) (g : Bool) (hg : o.guard = some (j, g)) (hw : waitsFar ops.toList 0 o j = true) (ht : (ops.toList[j]?).bind (·.dst) = some t) (hr : look Rs j = some (eq (.bool !g))) : One P ops Q E Fs b Rs i o (eq undef) :=
  fun a w hk => by
    have := yielded_of hk hw ht hr
    rw [if_neg (by simp [Region.wanted, hg, this])]; exact fun _ _ => rfl
end
end RgX
end Go.Proofs.Ytofgkildlhcpdaa
/- The document's Reader: peek and next of any place; Digits, Words, wide. -/
set_option linter.unusedVariables false
set_option linter.unusedSimpArgs false
namespace Go.Proofs.Ytofgkildlhcpdaa
open Go.RowKit Bt
/-- what is read stands in the reader's cells -/
def StR {α : Type} (s : ByteArray) (g : Nat) (o x : Int) (r : Re α) (w : World) : Prop :=
  match r with | .ok _ q => AtG w g 89 (rdr s (q : Int) o 0 x) | .no c y => ∃ p, AtG w g 89 (rdr s p o c (y : Int))
theorem peek_any (g : Nat) (s : ByteArray) (p : Nat) (o x : Int) (w : World) (h : AtG w g 89 (rdr s p o 0 x)) :
    Calls Try.prog 62 #[.pointer (some ⟨g, 0, none⟩)] w fun e w' => e = .returned (.int .i64 (ch s p)) ∧ Below w.heap.size w w' := by
  rcases Nat.lt_or_ge p s.size with h1 | h1
  · rw [ch_in h1]; exact peek_in g s p o x w h h1
  · rw [ch_end h1]; exact peek_end g s p o x w h (by omega)
theorem next_ch (g : Nat) (s : ByteArray) (p : Nat) (o x : Int) (w : World) (h : AtG w g 89 (rdr s p o 0 x)) (hc : 0 ≤ ch s p) (hm : s.size ≤ 140737488355328) :
    Calls Try.prog 73 #[.pointer (some ⟨g, 0, none⟩)] w fun e w' => e = .returned (.int .i64 (ch s p)) ∧ AtG w' g 89 (rdr s ((p + 1 : Nat) : Int) o 0 x) ∧ Only (fun k => k = g) w w' := by
  have h1 := ch_ge hc
  rw [ch_in h1]
  have := next_in g s p o x w h h1 hm
  rw [show ((p : Int) + 1) = ((p + 1 : Nat) : Int) from by omega] at this
  exact this
theorem next_no (g : Nat) (s : ByteArray) (p : Nat) (o x : Int) (w : World) (h : AtG w g 89 (rdr s p o 0 x)) (hp : p ≤ s.size) (hc : ch s p < 0) :
    Calls Try.prog 73 #[.pointer (some ⟨g, 0, none⟩)] w fun e w' => e = .returned (.int .i64 (-1)) ∧ AtG w' g 89 (rdr s p o 2 (p : Int)) ∧ Only (fun k => k = g) w w' := by
  have h1 : s.size ≤ p := by
    rcases Nat.lt_or_ge p s.size with h1 | h1
    · have := ch_pos h1; omega
    · exact h1
  obtain rfl : p = s.size := by omega
  exact next_end g s s.size o x w h (by omega)
theorem below_set4 {B : Nat} {w w1 : World} (h : Below B w w1) (g : Nat) (hg : B ≤ g) (a b c d : Value) : Below B w ((((w1.setCell ⟨g, 0, none⟩ a).setCell ⟨g, 1, none⟩ b).setCell ⟨g, 2, none⟩ c).setCell ⟨g, 3, none⟩ d) :=
  (((h.setCell hg _).setCell hg _).setCell hg _).setCell hg _
theorem digits_any (w : World) : Calls Try.prog 96 #[] w fun e w' => e = .returned (setOf digF) ∧ Below w.heap.size w w' := by
  have hr := fun w => refRange_any 48 57 w (by omega) (by omega) (by omega) (by omega)
  have hd : setOf (rngF (48 : Int).toNat ((57 : Int).toNat + 1)) = setOf digF := rfl
  rw [hd] at hr
  have HR := Lib.hid hr; clear hr hd
  have HA := Lib.hid (AtG.new w 26 (setC 0 0 0 0))
  have HB := Lib.hid ((Below.refl w.heap.size w).alloc (Nat.le_refl _) (.cells (setC 0 0 0 0) 26))
  go_enter Try.func96, Try.ntmps96
  go_wp2_with fail
  refine (HR.out _).mono ?_
  rintro e9 w9 ⟨rfl, hw9⟩
  have HA9 := Lib.hid (HA.out.below hw9)
  have d0 := (HA9.out).cell 0 _ rfl; have d1 := (HA9.out).cell 1 _ rfl; have d2 := (HA9.out).cell 2 _ rfl; have d3 := (HA9.out).cell 3 _ rfl
  have f0 := (HA9.out).frozen 0; have f1 := (HA9.out).frozen 1; have f2 := (HA9.out).frozen 2; have f3 := (HA9.out).frozen 3
  have HB9 := Lib.hid (HB.out.trans (hw9.mono HB.out.size))
  clear hw9
  unfold setOf
  go_wp2_with fail
  refine bodyPost_ret (v := setOf digF) (by simp [results, Try.results96, go_sem, d0, d1, d2, d3]; try rfl) rfl ⟨rfl, ?_⟩
  exact below_set4 HB9.out _ (Nat.le_refl _) _ _ _ _
/-- a set stored over a whole block -/
def putS (w : World) (g : Nat) (f : Nat → Bool) : World := (((w.setCell ⟨g, 0, none⟩ (.int .u64 ((wd f 0 : Nat) : Int))).setCell ⟨g, 1, none⟩ (.int .u64 ((wd f 1 : Nat) : Int))).setCell ⟨g, 2, none⟩ (.int .u64 ((wd f 2 : Nat) : Int))).setCell ⟨g, 3, none⟩ (.int .u64 ((wd f 3 : Nat) : Int))
theorem putS_at {w : World} {g T : Nat} {a b c d : Value} (h : AtG w g T #[a, b, c, d]) (f : Nat → Bool) : AtG (putS w g f) g T (cellsOf f) := (((h.set 0 _).set 1 _).set 2 _).set 3 _
theorem putS_far {w : World} {g g' T : Nat} {cs : Array Value} (h : AtG w g' T cs) (hg : g' ≠ g) (f : Nat → Bool) : AtG (putS w g f) g' T cs := (((h.far hg _).far hg _).far hg _).far hg _
theorem putS_size (w : World) (g : Nat) (f : Nat → Bool) : (putS w g f).heap.size = w.heap.size := by simp [putS]
theorem putS_below {B : Nat} {w w1 : World} (h : Below B w w1) {g : Nat} (hg : B ≤ g) (f : Nat → Bool) : Below B w (putS w1 g f) := below_set4 h g hg _ _ _ _
theorem putS_only {S : Nat → Prop} (w : World) {g : Nat} (hg : S g) (f : Nat → Bool) : Only S w (putS w g f) :=
  have h : ∀ (w : World) i v, Only S w (w.setCell ⟨g, i, none⟩ v) := fun w i v => Only.set w g i v hg
  (((h _ _ _).trans (h _ _ _) (fun _ h => .inl h)).trans (h _ _ _) (fun _ h => .inl h)).trans (h _ _ _) (fun _ h => .inl h)
/-- a slice of one byte -/
theorem refOf_one (w : World) (g : Nat) (c : Nat) (hc : c < 256) (h : AtG w g 5 #[.int .u8 (c : Int)]) :
    Calls Try.prog 53 #[.slice (some ⟨g, 0, none⟩) 1 1] w fun e w' => e = .returned (setOf fun y => y == c) ∧ Below w.heap.size w w' := by
  have hr : RdB w (.slice (some ⟨g, 0, none⟩) 1 1) [(c : Int)] := rdB_cells [(c : Int)] h (Nat.le_refl _) (by simp) (by intro x hx; simp at hx; subst hx; omega)
  have := refOf_any _ _ w hr
  rw [show setOf (memF [(c : Int)]) = setOf (fun y => y == c) from setOf_ext fun x hx => by
    unfold memF; rw [Bool.eq_iff_iff]; simp; omega] at this
  exact this
set_option maxRecDepth 100000 in
theorem words_any (w : World) : Calls Try.prog 97 #[] w fun e w' => e = .returned (setOf wordF) ∧ Below w.heap.size w w' := by
  have HD := Lib.hid digits_any
  have HF1 := Lib.hid (fun w => refRange_any 97 122 w (by omega) (by omega) (by omega) (by omega))
  have HF2 := Lib.hid (fun w => refRange_any 65 90 w (by omega) (by omega) (by omega) (by omega))
  have HA := Lib.hid (AtG.new w 26 (setC 0 0 0 0))
  have HB := Lib.hid ((Below.refl w.heap.size w).alloc (Nat.le_refl _) (.cells (setC 0 0 0 0) 26))
  go_enter Try.func97, Try.ntmps97
  go_wp2_with fail
  refine (HD.out _).mono ?_
  rintro e9 w1 ⟨rfl, hw⟩
  have HA1 := Lib.hid (HA.out.below hw)
  have HB1 := Lib.hid (HB.out.trans (hw.mono HB.out.size))
  clear hw HA HB
  go_wp2_with fail
  refine (refOf_one _ w1.heap.size 95 (by decide) (AtG.new w1 _ _)).mono ?_
  rintro e9 w2 ⟨rfl, hw⟩
  have HA2 := Lib.hid ((HA1.out.alloc _).below hw)
  have HB2 := Lib.hid ((HB1.out.alloc HB1.out.size (.cells #[.int .u8 95] 5)).trans (hw.mono (by have := HB1.out.size; simp; omega)))
  clear hw HA1 HB1
  go_wp2_with fail
  refine (refOr_any _ _ _).mono ?_
  rintro e9 w3 ⟨rfl, hw⟩
  have HA3 := Lib.hid (HA2.out.below hw)
  have HB3 := Lib.hid (HB2.out.trans (hw.mono HB2.out.size))
  clear hw HA2 HB2
  unfold setOf
  go_upto_region 2 with (fail)
  have HA4 := Lib.hid (HA3.out.alloc (.cells (cellsOf fun x => digF x || x == 95) 26))
  have HG4 : Hid (AtG (w3.alloc (.cells (cellsOf fun x => digF x || x == 95) 26)) w3.heap.size 26 (cellsOf fun x => digF x || x == 95)) := Lib.hid (AtG.new w3 _ _)
  have HB4 := Lib.hid (HB3.out.alloc HB3.out.size (.cells (cellsOf fun x => digF x || x == 95) 26))
  have hne : w3.heap.size ≠ w.heap.size := by have := HA3.out.lt; omega
  refine RgX.start (by kernel_rfl) [(5, fun w5 w6 => ∃ f, w6 = putS w5 w.heap.size f)] [⟨fun w5 => AtG w5 w3.heap.size 26 (cellsOf fun x => digF x || x == 95) ∧ Below w.heap.size w w5, none⟩, ⟨fun w5 => AtG w5 w.heap.size 26 (setC 0 0 0 0), some 5⟩] ⟨⟨fun _ _ h hb => ⟨h.1.below hb, h.2.trans (hb.mono h.2.size)⟩, ⟨fun _ _ _ _ => (fun w5 w6 h he => by obtain ⟨f, rfl⟩ := he; exact ⟨putS_far h.1 hne _, putS_below h.2 (Nat.le_refl _) _⟩), trivial⟩⟩, ⟨fun _ _ h hb => h.below hb, ⟨fun _ h _ _ => absurd rfl h, trivial⟩⟩, trivial⟩ (by kernel_rfl) (by kernel_rfl) ⟨⟨HG4.out.drew, HB4.out.drew⟩, HA4.out.drew, trivial⟩ ?_
  show RgX.Build _ _ _ _ _ _ 0 [_, _, _, _, _, _] []
  refine RgX.build_cons (m := 1) (r := RgX.eq _) (RgX.one_plain (by rfl) (by (intro ax wx hk Kx hK; have k1 := hk.base 1 _ rfl rfl; have hg := hk.fact 0 0 _ rfl rfl; (try dsimp only at hg); have ha := hk.fact 1 1 _ rfl rfl; (try dsimp only at ha); clear hk; have z0 := hg.1.cell 0 _ rfl; have z1 := hg.1.cell 1 _ rfl; have z2 := hg.1.cell 2 _ rfl; have z3 := hg.1.cell 3 _ rfl; go_simp; refine hK _ _ (fun h => by cases h) (fun _ _ => ?_) (Below.refl _ _); apply RgX.mk))) ?_ rfl RgX.keep_eq (fun _ h => by cases h)
  refine RgX.build_cons (m := 2) (r := RgX.eq _) (RgX.one_plain (by rfl) (by (intro ax wx hk Kx hK; have hg := hk.fact 0 0 _ rfl rfl; (try dsimp only at hg); have ha := hk.fact 1 1 _ rfl rfl; (try dsimp only at ha); clear hk; go_simp; refine (HF1.out _).mono ?_; rintro e w' ⟨rfl, hb⟩; refine hK _ _ (fun h => by cases h) (fun _ _ => ?_) hb; apply RgX.mk))) ?_ rfl RgX.keep_eq (fun _ h => by cases h)
  refine RgX.build_cons (m := 3) (r := RgX.eq _) (RgX.one_plain (by rfl) (by (intro ax wx hk Kx hK; have hg := hk.fact 0 0 _ rfl rfl; (try dsimp only at hg); have ha := hk.fact 1 1 _ rfl rfl; (try dsimp only at ha); clear hk; go_simp; refine (HF2.out _).mono ?_; rintro e w' ⟨rfl, hb⟩; refine hK _ _ (fun h => by cases h) (fun _ _ => ?_) hb; apply RgX.mk))) ?_ rfl RgX.keep_eq (fun _ h => by cases h)
  refine RgX.build_cons (m := 4) (r := RgX.eq _) (RgX.one_plain (by rfl) (by (intro ax wx hk Kx hK; obtain ⟨v7, k7, h7⟩ := hk.dep 0 1 7 _ rfl rfl rfl; (first | (replace h7 := h7 9 undef rfl rfl; first | (cases (h7 : v7 = _)) | (obtain ⟨rfl, h7⟩ := h7) | skip) | skip); obtain ⟨v8, k8, h8⟩ := hk.dep 0 2 8 _ rfl rfl rfl; (first | (replace h8 := h8 9 undef rfl rfl; first | (cases (h8 : v8 = _)) | (obtain ⟨rfl, h8⟩ := h8) | skip) | skip); have hg := hk.fact 0 0 _ rfl rfl; (try dsimp only at hg); have ha := hk.fact 1 1 _ rfl rfl; (try dsimp only at ha); clear hk; go_simp; refine (refOr_any _ _ _).mono ?_; rintro e w' ⟨rfl, hb⟩; refine hK _ _ (fun h => by cases h) (fun _ _ => ?_) hb; apply RgX.mk))) ?_ rfl RgX.keep_eq (fun _ h => by cases h)
  refine RgX.build_cons (m := 5) (r := RgX.eq _) (RgX.one_plain (by rfl) (by (intro ax wx hk Kx hK; obtain ⟨v6, k6, h6⟩ := hk.dep 0 0 6 _ rfl rfl rfl; (first | (replace h6 := h6 9 undef rfl rfl; first | (cases (h6 : v6 = _)) | (obtain ⟨rfl, h6⟩ := h6) | skip) | skip); obtain ⟨v9, k9, h9⟩ := hk.dep 0 3 9 _ rfl rfl rfl; (first | (replace h9 := h9 9 undef rfl rfl; first | (cases (h9 : v9 = _)) | (obtain ⟨rfl, h9⟩ := h9) | skip) | skip); have hg := hk.fact 0 0 _ rfl rfl; (try dsimp only at hg); have ha := hk.fact 1 1 _ rfl rfl; (try dsimp only at ha); clear hk; go_simp; refine (refOr_any (fun x => digF x || x == 95) _ _).mono ?_; rintro e w' ⟨rfl, hb⟩; refine hK _ _ (fun h => by cases h) (fun _ _ => ?_) hb; apply RgX.mk))) ?_ rfl RgX.keep_eq (fun _ h => by cases h)
  refine RgX.build_cons (m := 6) (r := (⟨fun _ _ w5 => AtG w5 w.heap.size 26 (cellsOf wordF), none, none⟩ : RgX.Rl)) (RgX.one_plain (by rfl) (by (intro ax wx hk Kx hK; have k0 := hk.base 0 _ rfl rfl; obtain ⟨v10, k10, h10⟩ := hk.dep 0 4 10 _ rfl rfl rfl; (first | (replace h10 := h10 9 undef rfl rfl; first | (cases (h10 : v10 = _)) | (obtain ⟨rfl, h10⟩ := h10) | skip) | skip); have hg := hk.fact 0 0 _ rfl rfl; (try dsimp only at hg); have ha := hk.fact 1 0 _ rfl rfl; (try dsimp only at ha); clear hk; (have d0 := ha.cell 0 _ rfl; have d1 := ha.cell 1 _ rfl; have d2 := ha.cell 2 _ rfl; have d3 := ha.cell 3 _ rfl; have f0 := ha.frozen 0; have f1 := ha.frozen 1; have f2 := ha.frozen 2; have f3 := ha.frozen 3; unfold setOf at k10; go_simp; exact hK undef _ (fun _ => rfl) (fun u hu => putS_at ha wordF) ⟨wordF, rfl⟩)))) ?_ rfl (RgX.keep_r (fun _ _ _ _ h hb => h.below hb) (fun _ _ => ⟨fun h _ _ _ => absurd rfl h, trivial⟩)) (fun _ h => by cases h)
  refine RgX.build_end fun wx hj => ?_
  have hg := hj 0 _ rfl rfl
  clear hj
  refine RgX.fin_eq rfl ?_
  refine RgX.fin_eq rfl ?_
  refine RgX.fin_eq rfl ?_
  refine RgX.fin_eq rfl ?_
  refine RgX.fin_eq rfl ?_
  refine RgX.fin_none rfl fun s5 => ?_
  refine RgX.fin_nil ?_
  simp only [List.set_cons_zero, List.set_cons_succ]
  have hA := s5 rfl undef rfl
  have hB := hg.2
  have d0 := (hA).cell 0 _ rfl; have d1 := (hA).cell 1 _ rfl; have d2 := (hA).cell 2 _ rfl; have d3 := (hA).cell 3 _ rfl
  have f0 := (hA).frozen 0; have f1 := (hA).frozen 1; have f2 := (hA).frozen 2; have f3 := (hA).frozen 3
  clear s5 hg
  go_wp2_with fail
  refine bodyPost_ret (v := setOf wordF) (by simp [results, Try.results97, go_sem, d0, d1, d2, d3]; try rfl) rfl ⟨rfl, ?_⟩
  exact hB
end Go.Proofs.Ytofgkildlhcpdaa
/- The document's Reader: wide, escaped, member. -/
set_option linter.unusedVariables false
set_option linter.unusedSimpArgs false
namespace Go.Proofs.Ytofgkildlhcpdaa
open Go.RowKit Bt
theorem setOf_emp : setOf emp = setV 0 0 0 0 := by unfold setOf emp; simp [wd_none]
theorem inT_bl (c : Int) (s : ByteArray) : InT c s ↔ c ∈ bl s := by
  unfold InT bl
  simp only [List.mem_map]
  constructor
  · rintro ⟨j, h, rfl⟩
    exact ⟨s[j], by rw [Array.mem_toList_iff]; exact Array.getElem_mem (xs := s.data) h, rfl⟩
  · rintro ⟨b, hb, rfl⟩
    rw [Array.mem_toList_iff] at hb
    obtain ⟨j, hj, e⟩ := Array.getElem_of_mem hb
    exact ⟨j, hj, by rw [← e]; rfl⟩
/-- what may be a class by itself -/
def wideV (c : Int) : Value := match wideF c with | some f => .tuple #[setOf f, .bool true] | none => .tuple #[setOf emp, .bool false]
set_option maxRecDepth 100000 in
theorem wide_any (c : Int) (w : World) : Calls Try.prog 81 #[.int .i64 c] w fun e w' => e = .returned (wideV c) ∧ Below w.heap.size w w' := by
  have HD := Lib.hid digits_any
  have HW := Lib.hid words_any
  have HA := Lib.hid (AtG.new w 26 (setC 0 0 0 0))
  have HB := Lib.hid ((Below.refl w.heap.size w).alloc (Nat.le_refl _) (.cells (setC 0 0 0 0) 26))
  by_cases h1 : c = 100
  · subst h1
    go_enter Try.func81, Try.ntmps81
    go_wp2_with fail
    refine (HD.out _).mono ?_
    rintro e9 w1 ⟨rfl, hw⟩
    have HA1 := Lib.hid (HA.out.below hw)
    have HB1 := Lib.hid (HB.out.trans (hw.mono HB.out.size))
    clear hw
    have d0 := (HA1.out).cell 0 _ rfl; have d1 := (HA1.out).cell 1 _ rfl; have d2 := (HA1.out).cell 2 _ rfl; have d3 := (HA1.out).cell 3 _ rfl
    have f0 := (HA1.out).frozen 0; have f1 := (HA1.out).frozen 1; have f2 := (HA1.out).frozen 2; have f3 := (HA1.out).frozen 3
    unfold setOf
    go_wp2_with fail
    refine bodyPost_ret (v := wideV 100) (by simp [results, Try.results81, go_sem, d0, d1, d2, d3]; try rfl) rfl ⟨rfl, ?_⟩
    exact below_set4 HB1.out _ (Nat.le_refl _) _ _ _ _
  by_cases h2 : c = 119
  · subst h2
    go_enter Try.func81, Try.ntmps81
    go_wp2_with fail
    refine (HW.out _).mono ?_
    rintro e9 w1 ⟨rfl, hw⟩
    have HA1 := Lib.hid (HA.out.below hw)
    have HB1 := Lib.hid (HB.out.trans (hw.mono HB.out.size))
    clear hw
    have d0 := (HA1.out).cell 0 _ rfl; have d1 := (HA1.out).cell 1 _ rfl; have d2 := (HA1.out).cell 2 _ rfl; have d3 := (HA1.out).cell 3 _ rfl
    have f0 := (HA1.out).frozen 0; have f1 := (HA1.out).frozen 1; have f2 := (HA1.out).frozen 2; have f3 := (HA1.out).frozen 3
    unfold setOf
    go_wp2_with fail
    refine bodyPost_ret (v := wideV 119) (by simp [results, Try.results81, go_sem, d0, d1, d2, d3]; try rfl) rfl ⟨rfl, ?_⟩
    exact below_set4 HB1.out _ (Nat.le_refl _) _ _ _ _
  · have e1 : (c == 100) = false := by rw [beq_eq_false_iff_ne]; exact h1
    have e2 : (c == 119) = false := by rw [beq_eq_false_iff_ne]; exact h2
    have hv : wideV c = .tuple #[setV 0 0 0 0, .bool false] := by
      have : wideF c = none := by unfold wideF; rw [if_neg h1, if_neg h2]
      unfold wideV; rw [this]; simp only [setOf_emp]
    rw [hv]
    clear h1 h2 hv
    go_enter Try.func81, Try.ntmps81
    go_wp2_with fail
    go_returns
    exact ⟨rfl, by go_grown⟩
/-- what may stand behind a backslash, as the code has it -/
def spcS : ByteArray := ⟨#[92, 46, 91, 93, 40, 41, 123, 125, 124, 63, 42, 43, 94, 36, 45, 47]⟩
theorem spcS_bl : bl spcS = spc := by decide
def brkS : ByteArray := ⟨#[93, 41, 125, 123, 124, 63, 94, 36]⟩
theorem brkS_bl : bl brkS = brk := by decide
set_option maxRecDepth 100000 in
theorem escaped_any (g : Nat) (s : ByteArray) (p : Nat) (o x : Int) (w : World) (h : AtG w g 89 (rdr s p o 0 x)) (hp : p ≤ s.size) (hm : s.size ≤ 1000) :
    Calls Try.prog 82 #[.pointer (some ⟨g, 0, none⟩)] w fun e w' => Only (fun k => k = g) w w' ∧ StR s g o x (escF s p) w' ∧ ∃ v : Nat, v < 256 ∧ e = .returned (.int .u8 v) ∧ ∀ a q, escF s p = .ok a q → v = a := by
  by_cases hc : ch s p < 0
  · have HN := Lib.hid (next_no g s p o x w h hp hc)
    have he : escF s p = .no 2 p := by
      unfold escF
      rw [if_neg (by omega), if_neg (by omega), if_neg (by unfold spc; simp only [List.mem_cons, List.not_mem_nil, or_false]; omega)]
    rw [he]
    clear he h hc hp
    go_enter Try.func82, Try.ntmps82
    go_wp2_with fail
    refine (HN.out).mono ?_
    rintro e9 w1 ⟨rfl, hA, hO⟩
    have HA := Lib.hid hA; have HO := Lib.hid hO; clear hA hO
    have z1 : w1.cell? ⟨g, 1, none⟩ = some (.int .i64 (p : Int)) := HA.out.cell 1 _ rfl
    go_wp2_with fail
    refine (in_any (-1) spcS _ (by decide)).mono ?_
    rintro e9 w9 ⟨b, rfl, hb, rfl⟩
    obtain rfl : b = false := by
      rw [← Bool.not_eq_true, hb, inT_bl, spcS_bl]; decide
    clear hb
    go_wp2_with fail
    refine (fail_no g s _ o 2 _ _ 2 _ HA.out (by decide)).mono ?_
    rintro e9 w9 ⟨rfl, rfl⟩
    go_wp2_with fail
    go_returns
    exact ⟨HO.out, ⟨_, HA.out⟩, 0, by decide, rfl, fun a q h => by cases h⟩
  · have HN := Lib.hid (next_ch g s p o x w h (by omega) (by omega))
    have hp1 := ch_ge (s := s) (p := p) (by omega)
    have hl := ch_lt s p
    have he : ∀ c, ch s p = c → escF s p = if c = 110 then .ok 10 (p + 1) else if c = 116 then .ok 9 (p + 1) else if c ∈ spc then .ok c.toNat (p + 1) else .no 2 p := fun c hc => by unfold escF; rw [hc]
    generalize ch s p = c at *
    have he := he c rfl
    rw [he]
    obtain ⟨pi, hpi⟩ : ∃ pi : Int, pi = ((p + 1 : Nat) : Int) := ⟨_, rfl⟩
    rw [← hpi] at HN
    have hpi2 : pi - 1 = (p : Int) := by omega
    have hpi3 : 0 ≤ pi - 1 := by omega
    have hpi4 : pi < 10000 := by omega
    have hw8 : IntKind.u8.wrap c = c := by rw [IntKind.wrap_u8]; omega
    have hn8 : ((c.toNat : Nat) : Int) = c := by omega
    clear he h
    by_cases h1 : c = 110
    · subst h1
      rw [if_pos rfl]
      go_enter Try.func82, Try.ntmps82
      go_wp2_with fail
      refine (HN.out).mono ?_
      rintro e9 w1 ⟨rfl, hA, hO⟩
      have HA := Lib.hid hA; have HO := Lib.hid hO; clear hA hO
      go_wp2_with fail
      go_returns
      exact ⟨HO.out, by show AtG _ g _ (rdr s ((p + 1 : Nat) : Int) o 0 x); rw [← hpi]; exact HA.out, 10, by decide, rfl, fun a q h => by injection h⟩
    rw [if_neg h1]
    have e1 : (c == 110) = false := by rw [beq_eq_false_iff_ne]; exact h1
    clear h1
    by_cases h2 : c = 116
    · subst h2
      rw [if_pos rfl]
      go_enter Try.func82, Try.ntmps82
      go_wp2_with fail
      refine (HN.out).mono ?_
      rintro e9 w1 ⟨rfl, hA, hO⟩
      have HA := Lib.hid hA; have HO := Lib.hid hO; clear hA hO
      go_wp2_with fail
      go_returns
      exact ⟨HO.out, by show AtG _ g _ (rdr s ((p + 1 : Nat) : Int) o 0 x); rw [← hpi]; exact HA.out, 9, by decide, rfl, fun a q h => by injection h⟩
    rw [if_neg h2]
    have e2 : (c == 116) = false := by rw [beq_eq_false_iff_ne]; exact h2
    clear h2
    have HI := Lib.hid (fun w => in_any c spcS w (by decide))
    by_cases h3 : c ∈ spc
    · rw [if_pos h3]
      have HI : Hid (∀ w, Calls Try.prog 83 #[.int .i64 c, .string spcS] w fun e w' => e = .returned (.bool true) ∧ w' = w) := Lib.hid (fun w => (HI.out w).mono (by
        rintro e w' ⟨b, rfl, hb, rfl⟩
        obtain rfl : b = true := by rw [hb, inT_bl, spcS_bl]; exact h3
        exact ⟨rfl, rfl⟩))
      clear h3
      go_enter Try.func82, Try.ntmps82
      go_wp2_with fail
      refine (HN.out).mono ?_
      rintro e9 w1 ⟨rfl, hA, hO⟩
      have HA := Lib.hid hA; have HO := Lib.hid hO; clear hA hO
      go_wp2_with fail
      refine (HI.out _).mono ?_
      rintro e9 w9 ⟨rfl, hw9⟩; subst hw9
      go_wp2_with fail
      go_returns
      exact ⟨HO.out, by show AtG _ g _ (rdr s ((p + 1 : Nat) : Int) o 0 x); rw [← hpi]; exact HA.out, c.toNat, by omega, by simp [hw8, hn8], fun a q h => by injection h⟩
    · rw [if_neg h3]
      have HI : Hid (∀ w, Calls Try.prog 83 #[.int .i64 c, .string spcS] w fun e w' => e = .returned (.bool false) ∧ w' = w) := Lib.hid (fun w => (HI.out w).mono (by
        rintro e w' ⟨b, rfl, hb, rfl⟩
        obtain rfl : b = false := by rw [← Bool.not_eq_true, hb, inT_bl, spcS_bl]; exact h3
        exact ⟨rfl, rfl⟩))
      clear h3
      go_enter Try.func82, Try.ntmps82
      go_wp2_with fail
      refine (HN.out).mono ?_
      rintro e9 w1 ⟨rfl, hA, hO⟩
      have HA := Lib.hid hA; have HO := Lib.hid hO; clear hA hO
      have z1 : w1.cell? ⟨g, 1, none⟩ = some (.int .i64 pi) := HA.out.cell 1 _ rfl
      go_wp2_with fail
      refine (HI.out _).mono ?_
      rintro e9 w9 ⟨rfl, hw9⟩; subst hw9
      go_wp2_with fail
      refine (fail_yes g s _ o x _ 2 _ HA.out).mono ?_
      rintro e9 w2 ⟨rfl, hA2, hw⟩
      have HA2 := Lib.hid hA2
      have HO2 : Hid (Only (fun k => k = g) w w2) := Lib.hid (HO.out.trans (by rw [hw]; exact (Only.set (S := fun k => k = g) _ _ _ _ rfl).trans (Only.set (S := fun k => k = g) _ _ _ _ rfl) (fun k hk => .inl hk)) (fun k hk => .inl hk))
      clear hA2 hw
      go_wp2_with fail
      go_returns
      exact ⟨HO2.out, ⟨_, HA2.out⟩, 0, by decide, rfl, fun a q h => by cases h⟩
set_option maxRecDepth 100000 in
theorem member_any (g : Nat) (s : ByteArray) (p : Nat) (o x : Int) (w : World) (h : AtG w g 89 (rdr s p o 0 x)) (hp : p ≤ s.size) (hm : s.size ≤ 1000) :
    Calls Try.prog 102 #[.pointer (some ⟨g, 0, none⟩)] w fun e w' => Only (fun k => k = g) w w' ∧ StR s g o x (memberF s p) w' ∧ ∃ v : Nat, v < 256 ∧ e = .returned (.int .u8 v) ∧ ∀ a q, memberF s p = .ok a q → v = a := by
  by_cases hc : ch s p < 0
  · have HN := Lib.hid (next_no g s p o x w h hp hc)
    have he : memberF s p = .no 2 p := by unfold memberF; rw [if_pos hc]
    rw [he]
    clear he h hc hp
    go_enter Try.func102, Try.ntmps102
    go_wp2_with fail
    refine (HN.out).mono ?_
    rintro e9 w1 ⟨rfl, hA, hO⟩
    have HA := Lib.hid hA; have HO := Lib.hid hO; clear hA hO
    go_wp2_with fail
    go_returns
    exact ⟨HO.out, ⟨_, HA.out⟩, 0, by decide, rfl, fun a q h => by cases h⟩
  · have HN := Lib.hid (next_ch g s p o x w h (by omega) (by omega))
    have hp1 := ch_ge (s := s) (p := p) (by omega)
    have hl := ch_lt s p
    have he : ∀ c, ch s p = c → memberF s p = if c < 0 then .no 2 p else if c = 93 then .no 2 p else if c = 92 then escF s (p + 1) else .ok c.toNat (p + 1) := fun c hc => by unfold memberF; rw [hc]
    generalize ch s p = c at *
    have he := he c rfl
    rw [he, if_neg hc]
    have HE := fun w h => Lib.hid (escaped_any g s (p + 1) o x w h hp1 hm)
    obtain ⟨pi, hpi⟩ : ∃ pi : Int, pi = ((p + 1 : Nat) : Int) := ⟨_, rfl⟩
    rw [← hpi] at HN HE
    have hpi2 : pi - 1 = (p : Int) := by omega
    have hpi3 : 0 ≤ pi - 1 := by omega
    have hpi4 : pi < 10000 := by omega
    have hw8 : IntKind.u8.wrap c = c := by rw [IntKind.wrap_u8]; omega
    have hn8 : ((c.toNat : Nat) : Int) = c := by omega
    clear he h
    by_cases h1 : c = 93
    · subst h1
      rw [if_pos rfl]
      go_enter Try.func102, Try.ntmps102
      go_wp2_with fail
      refine (HN.out).mono ?_
      rintro e9 w1 ⟨rfl, hA, hO⟩
      have HA := Lib.hid hA; have HO := Lib.hid hO; clear hA hO
      have z1 : w1.cell? ⟨g, 1, none⟩ = some (.int .i64 pi) := HA.out.cell 1 _ rfl
      go_wp2_with fail
      refine (fail_yes g s _ o x _ 2 _ HA.out).mono ?_
      rintro e9 w2 ⟨rfl, hA2, hw⟩
      have HA2 := Lib.hid hA2
      have HO2 : Hid (Only (fun k => k = g) w w2) := Lib.hid (HO.out.trans (by rw [hw]; exact (Only.set (S := fun k => k = g) _ _ _ _ rfl).trans (Only.set (S := fun k => k = g) _ _ _ _ rfl) (fun k hk => .inl hk)) (fun k hk => .inl hk))
      clear hA2 hw
      go_wp2_with fail
      go_returns
      exact ⟨HO2.out, ⟨_, HA2.out⟩, 93, by decide, rfl, fun a q h => by cases h⟩
    rw [if_neg h1]
    have e1 : (c == 93) = false := by rw [beq_eq_false_iff_ne]; exact h1
    clear h1
    by_cases h2 : c = 92
    · subst h2
      rw [if_pos rfl]
      go_enter Try.func102, Try.ntmps102
      go_wp2_with fail
      refine (HN.out).mono ?_
      rintro e9 w1 ⟨rfl, hA, hO⟩
      have HA := Lib.hid hA; have HO := Lib.hid hO; clear hA hO
      go_wp2_with fail
      refine ((HE _ HA.out).out).mono ?_
      rintro e9 w2 ⟨hO2, hS, v, hv, rfl, hq⟩
      have HO2 := Lib.hid (HO.out.trans hO2 (fun k hk => .inl hk))
      have HS := Lib.hid hS; have HV := Lib.hid hv; have HQ := Lib.hid hq
      clear hO2 hS hv hq
      go_wp2_with fail
      go_returns
      exact ⟨HO2.out, HS.out, v, HV.out, rfl, HQ.out⟩
    · rw [if_neg h2]
      have e2 : (c == 92) = false := by rw [beq_eq_false_iff_ne]; exact h2
      have hmx : max c 0 = c := by omega
      clear h2
      go_enter Try.func102, Try.ntmps102
      go_wp2_with fail
      refine (HN.out).mono ?_
      rintro e9 w1 ⟨rfl, hA, hO⟩
      have HA := Lib.hid hA; have HO := Lib.hid hO; clear hA hO
      go_wp2_with fail
      go_returns
      exact ⟨HO.out, by show AtG _ g _ (rdr s ((p + 1 : Nat) : Int) o 0 x); rw [← hpi]; exact HA.out, c.toNat, by omega, by simp [hw8, hn8, hmx], fun a q h => by injection h⟩
end Go.Proofs.Ytofgkildlhcpdaa
/- The document's Reader: item. -/
set_option linter.unusedVariables false
set_option linter.unusedSimpArgs false
namespace Go.Proofs.Ytofgkildlhcpdaa
open Go.RowKit Bt
theorem Only.tr {S : Nat → Prop} {w w1 w2 : World} (h : Only S w w1) (h' : Only S w1 w2) : Only S w w2 := h.trans h' (fun k hk => .inl hk)
theorem Only.tb {S : Nat → Prop} {w w1 w2 : World} (h : Only S w w1) (h' : Below w1.heap.size w1 w2) : Only S w w2 := h.trans (Only.of_below (S := S) h') (fun k hk => .inl hk)
theorem Only.al {S : Nat → Prop} {w w1 : World} (h : Only S w w1) (o : Obj) : Only S w (w1.alloc o) := h.tb ((Below.refl _ _).alloc (Nat.le_refl _) o)
theorem Only.st {S : Nat → Prop} {w w1 : World} (h : Only S w w1) (g i : Nat) (v : Value) (hg : S g ∨ w.heap.size ≤ g) : Only S w (w1.setCell ⟨g, i, none⟩ v) :=
  h.trans (Only.set (S := fun k => k = g) w1 g i v rfl) (fun k hk => by subst hk; exact hg)
theorem Only.pS {S : Nat → Prop} {w w1 : World} (h : Only S w w1) (g : Nat) (f : Nat → Bool) (hg : S g ∨ w.heap.size ≤ g) : Only S w (putS w1 g f) :=
  (((h.st g 0 _ hg).st g 1 _ hg).st g 2 _ hg).st g 3 _ hg
theorem failO (g : Nat) (s : ByteArray) (p o x at' bad : Int) (w : World) (h : AtG w g 89 (rdr s p o 0 x)) :
    Calls Try.prog 75 #[.pointer (some ⟨g, 0, none⟩), .int .i64 at', .int .i64 bad] w fun e w' => e = .returned (.tuple #[]) ∧ AtG w' g 89 (rdr s p o bad at') ∧ Only (fun k => k = g) w w' :=
  (fail_yes g s p o x at' bad w h).mono (by
    rintro e w' ⟨h1, h2, h3⟩
    exact ⟨h1, h2, by rw [h3]; exact ((Only.refl (S := fun k => k = g) w).st g _ _ (.inl rfl)).st g _ _ (.inl rfl)⟩)
theorem rangeN (a b : Nat) (w : World) (ha : a < 256) (hb : b < 256) :
    Calls Try.prog 103 #[.int .u8 (a : Int), .int .u8 (b : Int)] w fun e w' => e = .returned (setOf (spanF a (b + 1))) ∧ Below w.heap.size w w' := by
  have := refRange_any (a : Int) (b : Int) w (by omega) (by omega) (by omega) (by omega)
  rw [Int.toNat_natCast, Int.toNat_natCast] at this
  exact this
set_option maxRecDepth 100000 in
set_option maxHeartbeats 1600000 in
theorem item_some (g : Nat) (s : ByteArray) (p : Nat) (o x : Int) (w : World) (h : AtG w g 89 (rdr s p o 0 x)) (hp : p ≤ s.size) (hm : s.size ≤ 1000) (h92 : ch s p = 92) (hn : p + 1 < s.size) (F : Nat → Bool) (hwd : wideF (ch s (p + 1)) = some F) :
    Calls Try.prog 95 #[.pointer (some ⟨g, 0, none⟩)] w fun e w' => ∃ F : Nat → Bool, e = .returned (setOf F) ∧ StR s g o x (itemF s p) w' ∧ Only (fun k => k = g) w w' ∧ ∀ f q, itemF s p = .ok f q → F = f := by
  have HP := Lib.hid hp; have HM := Lib.hid hm
  have HR0 := Lib.hid (AtG.new w 26 (setC 0 0 0 0))
  have HA0 := Lib.hid (h.alloc (.cells (setC 0 0 0 0) 26))
  have HO0 := Lib.hid ((Only.refl (S := fun k => k = g) w).al (.cells (setC 0 0 0 0) 26))
  have HG : Hid (w.heap.size ≠ g) := Lib.hid (by have := h.lt; omega)
  have HG2 : Hid (g ≠ w.heap.size) := Lib.hid (by have := h.lt; omega)
  have HZ : Hid (w.heap.size ≤ w.heap.size) := Lib.hid (Nat.le_refl _)
  have HPK := Lib.hid (fun w h => peek_any g s p o x w h)
  have hif : ∀ c, ch s p = c → itemF s p = if c = 92 ∧ p + 1 < s.size then (match wideF (ch s (p + 1)) with | some f => .ok f (p + 2) | none => itemE s (memberF s p)) else itemE s (memberF s p) := fun c hc => by unfold itemF; rw [hc]; rfl
  generalize ch s p = c at *
  rw [hif c rfl]
  clear hif h hp hm
  have hpI : (p : Int) < 1001 := by have := HP.out; have := HM.out; omega
  subst h92
  rw [if_pos ⟨rfl, hn⟩]
  have hnI : (p : Int) + 1 < (s.size : Int) := by omega
  have hwp : IntKind.i64.wrap ((p : Int) + 1) = (p : Int) + 1 := by rw [IntKind.wrap_i64]; omega
  have hcl := ch_lt s (p + 1)
  obtain ⟨c1, hc1⟩ : ∃ c1, c1 = ch s (p + 1) := ⟨_, rfl⟩
  have hch : ((s[p + 1].toNat : Nat) : Int) = c1 := by rw [hc1, ch_in hn]
  rw [← hc1] at hcl hwd
  rw [← hc1, hwd]
  clear hc1
  have hwr : IntKind.i64.wrap c1 = c1 := by rw [IntKind.wrap_i64]; omega
  have hV : wideV c1 = .tuple #[setOf F, .bool true] := by unfold wideV; rw [hwd]
  have HWD : Hid (∀ w, Calls Try.prog 81 #[.int .i64 c1] w fun e w' => e = .returned (.tuple #[setOf F, .bool true]) ∧ Below w.heap.size w w') := Lib.hid (fun w => by rw [← hV]; exact wide_any _ w)
  clear hwd hV
  dsimp only
  go_enter Try.func95, Try.ntmps95
  go_upto_region 1 with (fail)
  refine Rg.wp_region_each (by kernel_rfl) (fun w' => AtG w' g 89 (rdr s p o 0 x) ∧ AtG w' w.heap.size 26 (setC 0 0 0 0) ∧ Only (fun k => k = g) w w') (fun w1 w2 h hb => ⟨h.1.below hb, h.2.1.below hb, h.2.2.tb hb⟩) (by kernel_rfl) (by kernel_rfl) (⟨HA0.out, HR0.out, HO0.out⟩) ?_
  show Rg.Build _ _ _ _ _ 0 [_, _, _, _, _, _, _, _, _, _, _, _, _, _, _, _] []
  refine Rg.build_cons (m := 1) (r := Rg.eq _) (Rg.one_plain (by rfl) (by (intro ax wx hk Kx hK; have k0 := hk.base 0 _ rfl rfl; have hj := hk.j; clear hk; have z1 : wx.cell? ⟨g, 1, none⟩ = some (.int .i64 (p : Int)) := hj.1.cell 1 _ rfl; have z0 : wx.cell? ⟨g, 0, none⟩ = some (.string s) := hj.1.cell 0 _ rfl; go_simp; refine hK _ _ ?_ (Below.refl _ _); apply Rg.mk))) ?_ rfl
  refine Rg.build_cons (m := 2) (r := Rg.eq _) (Rg.one_plain (by rfl) (by (intro ax wx hk Kx hK; obtain ⟨v7, k7, h7⟩ := hk.dep 0 7 _ rfl rfl rfl; (first | (cases (h7 : v7 = _)) | (obtain ⟨rfl, h7⟩ := h7) | skip); have hj := hk.j; clear hk; have z1 : wx.cell? ⟨g, 1, none⟩ = some (.int .i64 (p : Int)) := hj.1.cell 1 _ rfl; have z0 : wx.cell? ⟨g, 0, none⟩ = some (.string s) := hj.1.cell 0 _ rfl; go_simp; refine (HPK.out _ hj.1).mono ?_; rintro e w' ⟨rfl, hb⟩; refine hK _ _ ?_ hb; apply Rg.mk))) ?_ rfl
  refine Rg.build_cons (m := 3) (r := Rg.eq (.bool true)) (Rg.one_plain (by rfl) (by (intro ax wx hk Kx hK; obtain ⟨v8, k8, h8⟩ := hk.dep 1 8 _ rfl rfl rfl; (first | (cases (h8 : v8 = _)) | (obtain ⟨rfl, h8⟩ := h8) | skip); have hj := hk.j; clear hk; have z1 : wx.cell? ⟨g, 1, none⟩ = some (.int .i64 (p : Int)) := hj.1.cell 1 _ rfl; have z0 : wx.cell? ⟨g, 0, none⟩ = some (.string s) := hj.1.cell 0 _ rfl; (go_simp; refine hK _ _ ?_ (Below.refl _ _); simp [Rg.eq])))) ?_ rfl
  refine Rg.build_cons (m := 4) (r := Rg.eq _) (Rg.one_plain (by rfl) (by (intro ax wx hk Kx hK; obtain ⟨v9, k9, h9⟩ := hk.dep 2 9 _ rfl rfl rfl; (first | (cases (h9 : v9 = _)) | (obtain ⟨rfl, h9⟩ := h9) | skip); have hj := hk.j; clear hk; have z1 : wx.cell? ⟨g, 1, none⟩ = some (.int .i64 (p : Int)) := hj.1.cell 1 _ rfl; have z0 : wx.cell? ⟨g, 0, none⟩ = some (.string s) := hj.1.cell 0 _ rfl; go_simp; refine hK _ _ ?_ (Below.refl _ _); apply Rg.mk))) ?_ rfl
  first
    | refine Rg.build_cons (m := 5) (Rg.one_no 3 10 true (by rfl) (by rfl) (by rfl) (by rfl)) ?_ rfl
    | refine Rg.build_cons (m := 5) (r := Rg.eq _) (Rg.one_yes 3 10 true (by rfl) (by rfl) (by rfl) (by rfl) (by (intro ax wx hk Kx hK; have k0 := hk.base 0 _ rfl rfl; have hj := hk.j; clear hk; have z1 : wx.cell? ⟨g, 1, none⟩ = some (.int .i64 (p : Int)) := hj.1.cell 1 _ rfl; have z0 : wx.cell? ⟨g, 0, none⟩ = some (.string s) := hj.1.cell 0 _ rfl; go_simp; refine hK _ _ ?_ (Below.refl _ _); apply Rg.mk))) ?_ rfl
  first
    | refine Rg.build_cons (m := 6) (Rg.one_no 3 10 true (by rfl) (by rfl) (by rfl) (by rfl)) ?_ rfl
    | refine Rg.build_cons (m := 6) (r := Rg.eq _) (Rg.one_yes 3 10 true (by rfl) (by rfl) (by rfl) (by rfl) (by (intro ax wx hk Kx hK; obtain ⟨v11, k11, h11⟩ := hk.dep 4 11 _ rfl rfl rfl; (first | (cases (h11 : v11 = _)) | (obtain ⟨rfl, h11⟩ := h11) | skip); have hj := hk.j; clear hk; have z1 : wx.cell? ⟨g, 1, none⟩ = some (.int .i64 (p : Int)) := hj.1.cell 1 _ rfl; have z0 : wx.cell? ⟨g, 0, none⟩ = some (.string s) := hj.1.cell 0 _ rfl; go_simp; refine hK _ _ ?_ (Below.refl _ _); apply Rg.mk))) ?_ rfl
  first
    | refine Rg.build_cons (m := 7) (Rg.one_no 3 10 true (by rfl) (by rfl) (by rfl) (by rfl)) ?_ rfl
    | refine Rg.build_cons (m := 7) (r := Rg.eq _) (Rg.one_yes 3 10 true (by rfl) (by rfl) (by rfl) (by rfl) (by (intro ax wx hk Kx hK; obtain ⟨v12, k12, h12⟩ := hk.dep 5 12 _ rfl rfl rfl; (first | (cases (h12 : v12 = _)) | (obtain ⟨rfl, h12⟩ := h12) | skip); have hj := hk.j; clear hk; have z1 : wx.cell? ⟨g, 1, none⟩ = some (.int .i64 (p : Int)) := hj.1.cell 1 _ rfl; have z0 : wx.cell? ⟨g, 0, none⟩ = some (.string s) := hj.1.cell 0 _ rfl; go_simp; refine hK _ _ ?_ (Below.refl _ _); apply Rg.mk))) ?_ rfl
  first
    | refine Rg.build_cons (m := 8) (Rg.one_no 3 10 true (by rfl) (by rfl) (by rfl) (by rfl)) ?_ rfl
    | refine Rg.build_cons (m := 8) (r := Rg.eq _) (Rg.one_yes 3 10 true (by rfl) (by rfl) (by rfl) (by rfl) (by (intro ax wx hk Kx hK; obtain ⟨v13, k13, h13⟩ := hk.dep 6 13 _ rfl rfl rfl; (first | (cases (h13 : v13 = _)) | (obtain ⟨rfl, h13⟩ := h13) | skip); have hj := hk.j; clear hk; have z1 : wx.cell? ⟨g, 1, none⟩ = some (.int .i64 (p : Int)) := hj.1.cell 1 _ rfl; have z0 : wx.cell? ⟨g, 0, none⟩ = some (.string s) := hj.1.cell 0 _ rfl; go_simp; refine hK _ _ ?_ (Below.refl _ _); apply Rg.mk))) ?_ rfl
  first
    | refine Rg.build_cons (m := 9) (Rg.one_no 3 10 true (by rfl) (by rfl) (by rfl) (by rfl)) ?_ rfl
    | refine Rg.build_cons (m := 9) (r := Rg.eq (.int .i64 ((p : Int) + 1))) (Rg.one_yes 3 10 true (by rfl) (by rfl) (by rfl) (by rfl) (by (intro ax wx hk Kx hK; obtain ⟨v14, k14, h14⟩ := hk.dep 7 14 _ rfl rfl rfl; (first | (cases (h14 : v14 = _)) | (obtain ⟨rfl, h14⟩ := h14) | skip); have hj := hk.j; clear hk; have z1 : wx.cell? ⟨g, 1, none⟩ = some (.int .i64 (p : Int)) := hj.1.cell 1 _ rfl; have z0 : wx.cell? ⟨g, 0, none⟩ = some (.string s) := hj.1.cell 0 _ rfl; (go_simp; refine hK _ _ ?_ (Below.refl _ _); simp [Rg.eq, hwp])))) ?_ rfl
  first
    | refine Rg.build_cons (m := 10) (Rg.one_no 3 10 true (by rfl) (by rfl) (by rfl) (by rfl)) ?_ rfl
    | refine Rg.build_cons (m := 10) (r := Rg.eq _) (Rg.one_yes 3 10 true (by rfl) (by rfl) (by rfl) (by rfl) (by (intro ax wx hk Kx hK; have k0 := hk.base 0 _ rfl rfl; have hj := hk.j; clear hk; have z1 : wx.cell? ⟨g, 1, none⟩ = some (.int .i64 (p : Int)) := hj.1.cell 1 _ rfl; have z0 : wx.cell? ⟨g, 0, none⟩ = some (.string s) := hj.1.cell 0 _ rfl; go_simp; refine hK _ _ ?_ (Below.refl _ _); apply Rg.mk))) ?_ rfl
  first
    | refine Rg.build_cons (m := 11) (Rg.one_no 3 10 true (by rfl) (by rfl) (by rfl) (by rfl)) ?_ rfl
    | refine Rg.build_cons (m := 11) (r := Rg.eq _) (Rg.one_yes 3 10 true (by rfl) (by rfl) (by rfl) (by rfl) (by (intro ax wx hk Kx hK; obtain ⟨v16, k16, h16⟩ := hk.dep 9 16 _ rfl rfl rfl; (first | (cases (h16 : v16 = _)) | (obtain ⟨rfl, h16⟩ := h16) | skip); have hj := hk.j; clear hk; have z1 : wx.cell? ⟨g, 1, none⟩ = some (.int .i64 (p : Int)) := hj.1.cell 1 _ rfl; have z0 : wx.cell? ⟨g, 0, none⟩ = some (.string s) := hj.1.cell 0 _ rfl; go_simp; refine hK _ _ ?_ (Below.refl _ _); apply Rg.mk))) ?_ rfl
  first
    | refine Rg.build_cons (m := 12) (Rg.one_no 3 10 true (by rfl) (by rfl) (by rfl) (by rfl)) ?_ rfl
    | refine Rg.build_cons (m := 12) (r := Rg.eq _) (Rg.one_yes 3 10 true (by rfl) (by rfl) (by rfl) (by rfl) (by (intro ax wx hk Kx hK; obtain ⟨v17, k17, h17⟩ := hk.dep 10 17 _ rfl rfl rfl; (first | (cases (h17 : v17 = _)) | (obtain ⟨rfl, h17⟩ := h17) | skip); have hj := hk.j; clear hk; have z1 : wx.cell? ⟨g, 1, none⟩ = some (.int .i64 (p : Int)) := hj.1.cell 1 _ rfl; have z0 : wx.cell? ⟨g, 0, none⟩ = some (.string s) := hj.1.cell 0 _ rfl; go_simp; refine hK _ _ ?_ (Below.refl _ _); apply Rg.mk))) ?_ rfl
  first
    | refine Rg.build_cons (m := 13) (Rg.one_no 3 10 true (by rfl) (by rfl) (by rfl) (by rfl)) ?_ rfl
    | refine Rg.build_cons (m := 13) (r := Rg.eq _) (Rg.one_yes 3 10 true (by rfl) (by rfl) (by rfl) (by rfl) (by (intro ax wx hk Kx hK; obtain ⟨v18, k18, h18⟩ := hk.dep 11 18 _ rfl rfl rfl; (first | (cases (h18 : v18 = _)) | (obtain ⟨rfl, h18⟩ := h18) | skip); have hj := hk.j; clear hk; have z1 : wx.cell? ⟨g, 1, none⟩ = some (.int .i64 (p : Int)) := hj.1.cell 1 _ rfl; have z0 : wx.cell? ⟨g, 0, none⟩ = some (.string s) := hj.1.cell 0 _ rfl; go_simp; refine hK _ _ ?_ (Below.refl _ _); apply Rg.mk))) ?_ rfl
  first
    | refine Rg.build_cons (m := 14) (Rg.one_no 3 10 true (by rfl) (by rfl) (by rfl) (by rfl)) ?_ rfl
    | refine Rg.build_cons (m := 14) (r := Rg.eq _) (Rg.one_yes 3 10 true (by rfl) (by rfl) (by rfl) (by rfl) (by (intro ax wx hk Kx hK; obtain ⟨v19, k19, h19⟩ := hk.dep 12 19 _ rfl rfl rfl; (first | (cases (h19 : v19 = _)) | (obtain ⟨rfl, h19⟩ := h19) | skip); have hj := hk.j; clear hk; have z1 : wx.cell? ⟨g, 1, none⟩ = some (.int .i64 (p : Int)) := hj.1.cell 1 _ rfl; have z0 : wx.cell? ⟨g, 0, none⟩ = some (.string s) := hj.1.cell 0 _ rfl; go_simp; refine hK _ _ ?_ (Below.refl _ _); apply Rg.mk))) ?_ rfl
  first
    | refine Rg.build_cons (m := 15) (Rg.one_no 3 10 true (by rfl) (by rfl) (by rfl) (by rfl)) ?_ rfl
    | refine Rg.build_cons (m := 15) (r := Rg.eq (.bool true)) (Rg.one_yes 3 10 true (by rfl) (by rfl) (by rfl) (by rfl) (by (intro ax wx hk Kx hK; obtain ⟨v15, k15, h15⟩ := hk.dep 8 15 _ rfl rfl rfl; (first | (cases (h15 : v15 = _)) | (obtain ⟨rfl, h15⟩ := h15) | skip); obtain ⟨v20, k20, h20⟩ := hk.dep 13 20 _ rfl rfl rfl; (first | (cases (h20 : v20 = _)) | (obtain ⟨rfl, h20⟩ := h20) | skip); have hj := hk.j; clear hk; have z1 : wx.cell? ⟨g, 1, none⟩ = some (.int .i64 (p : Int)) := hj.1.cell 1 _ rfl; have z0 : wx.cell? ⟨g, 0, none⟩ = some (.string s) := hj.1.cell 0 _ rfl; (go_simp; refine hK _ _ ?_ (Below.refl _ _); simp [Rg.eq, hnI])))) ?_ rfl
  refine Rg.build_cons (m := 16) (r := Rg.eq _) (Rg.one_plain (by rfl) (by (intro ax wx hk Kx hK; obtain ⟨v10, k10, h10⟩ := hk.dep 3 10 _ rfl rfl rfl; (first | (cases (h10 : v10 = _)) | (obtain ⟨rfl, h10⟩ := h10) | skip); obtain ⟨v21, k21, h21⟩ := hk.dep 14 21 _ rfl rfl rfl; (first | (cases (h21 : v21 = _)) | (obtain ⟨rfl, h21⟩ := h21) | skip); have hj := hk.j; clear hk; have z1 : wx.cell? ⟨g, 1, none⟩ = some (.int .i64 (p : Int)) := hj.1.cell 1 _ rfl; have z0 : wx.cell? ⟨g, 0, none⟩ = some (.string s) := hj.1.cell 0 _ rfl; go_simp; refine hK _ _ ?_ (Below.refl _ _); apply Rg.mk))) ?_ rfl
  refine Rg.build_end fun wx hj => ?_
  refine Rg.fin_eq rfl ?_
  refine Rg.fin_eq rfl ?_
  first | refine Rg.fin_eq rfl ?_ | refine Rg.fin_any rfl fun v9 h9 => ?_
  refine Rg.fin_eq rfl ?_
  refine Rg.fin_eq rfl ?_
  refine Rg.fin_eq rfl ?_
  refine Rg.fin_eq rfl ?_
  refine Rg.fin_eq rfl ?_
  first | refine Rg.fin_eq rfl ?_ | refine Rg.fin_any rfl fun v15 h15 => ?_
  refine Rg.fin_eq rfl ?_
  refine Rg.fin_eq rfl ?_
  refine Rg.fin_eq rfl ?_
  refine Rg.fin_eq rfl ?_
  refine Rg.fin_eq rfl ?_
  first | refine Rg.fin_eq rfl ?_ | refine Rg.fin_any rfl fun v21 h21 => ?_
  refine Rg.fin_eq rfl ?_
  refine Rg.fin_nil ?_
  simp only [List.set_cons_zero, List.set_cons_succ]
  have HJ := Lib.hid hj; clear hj
  go_upto_region 2 with (fail)
  obtain ⟨w1, rfl⟩ : ∃ w1 : World, w1 = wx := ⟨_, rfl⟩
  refine RgX.start (by kernel_rfl) [(16, fun w5 w6 => ∃ gg f, w.heap.size < gg ∧ gg ≠ g ∧ w6 = putS w5 gg f)] [⟨fun w' => AtG w' g 89 (rdr s p o 0 x) ∧ AtG w' w.heap.size 26 (setC 0 0 0 0) ∧ Only (fun k => k = g) w w', none⟩] ⟨⟨fun _ _ h hb => ⟨h.1.below hb, h.2.1.below hb, h.2.2.tb hb⟩, ⟨fun _ _ _ _ => (fun w5 w6 h he => by obtain ⟨gg, f, h1, h2, rfl⟩ := he; exact ⟨putS_far h.1 (fun e => h2 e.symm) _, putS_far h.2.1 (by omega) _, h.2.2.pS _ _ (.inr (by omega))⟩), trivial⟩⟩, trivial⟩ (by kernel_rfl) (by kernel_rfl) ⟨⟨HJ.out.1.drew, HJ.out.2.1.drew, HJ.out.2.2.drew⟩, trivial⟩ ?_
  show RgX.Build _ _ _ _ _ _ 0 [_, _, _, _, _, _, _, _, _, _, _, _, _, _, _, _, _, _] []
  refine RgX.build_cons (m := 1) (r := RgX.eq _) (RgX.one_plain (by rfl) (by (intro ax wx hk Kx hK; have k0 := hk.base 0 _ rfl rfl; have hL := hk.fact 0 0 _ rfl rfl; (try dsimp only at hL); clear hk; have z1 : wx.cell? ⟨g, 1, none⟩ = some (.int .i64 (p : Int)) := hL.1.cell 1 _ rfl; have z0 : wx.cell? ⟨g, 0, none⟩ = some (.string s) := hL.1.cell 0 _ rfl; go_simp; refine hK _ _ (fun h => by cases h) (fun _ _ => ?_) (Below.refl _ _); apply RgX.mk))) ?_ rfl RgX.keep_eq (fun _ h => by cases h)
  refine RgX.build_cons (m := 2) (r := RgX.eq _) (RgX.one_plain (by rfl) (by (intro ax wx hk Kx hK; obtain ⟨v24, k24, h24⟩ := hk.dep 0 0 24 _ rfl rfl rfl; (first | (replace h24 := h24 9 undef rfl rfl; first | (cases (h24 : v24 = _)) | (obtain ⟨rfl, h24⟩ := h24) | skip) | skip); have hL := hk.fact 0 0 _ rfl rfl; (try dsimp only at hL); clear hk; have z1 : wx.cell? ⟨g, 1, none⟩ = some (.int .i64 (p : Int)) := hL.1.cell 1 _ rfl; have z0 : wx.cell? ⟨g, 0, none⟩ = some (.string s) := hL.1.cell 0 _ rfl; go_simp; refine hK _ _ (fun h => by cases h) (fun _ _ => ?_) (Below.refl _ _); apply RgX.mk))) ?_ rfl RgX.keep_eq (fun _ h => by cases h)
  refine RgX.build_cons (m := 3) (r := RgX.eq _) (RgX.one_plain (by rfl) (by (intro ax wx hk Kx hK; obtain ⟨v25, k25, h25⟩ := hk.dep 0 1 25 _ rfl rfl rfl; (first | (replace h25 := h25 9 undef rfl rfl; first | (cases (h25 : v25 = _)) | (obtain ⟨rfl, h25⟩ := h25) | skip) | skip); have hL := hk.fact 0 0 _ rfl rfl; (try dsimp only at hL); clear hk; have z1 : wx.cell? ⟨g, 1, none⟩ = some (.int .i64 (p : Int)) := hL.1.cell 1 _ rfl; have z0 : wx.cell? ⟨g, 0, none⟩ = some (.string s) := hL.1.cell 0 _ rfl; go_simp; refine hK _ _ (fun h => by cases h) (fun _ _ => ?_) (Below.refl _ _); apply RgX.mk))) ?_ rfl RgX.keep_eq (fun _ h => by cases h)
  refine RgX.build_cons (m := 4) (r := RgX.eq _) (RgX.one_plain (by rfl) (by (intro ax wx hk Kx hK; obtain ⟨v26, k26, h26⟩ := hk.dep 0 2 26 _ rfl rfl rfl; (first | (replace h26 := h26 9 undef rfl rfl; first | (cases (h26 : v26 = _)) | (obtain ⟨rfl, h26⟩ := h26) | skip) | skip); have hL := hk.fact 0 0 _ rfl rfl; (try dsimp only at hL); clear hk; have z1 : wx.cell? ⟨g, 1, none⟩ = some (.int .i64 (p : Int)) := hL.1.cell 1 _ rfl; have z0 : wx.cell? ⟨g, 0, none⟩ = some (.string s) := hL.1.cell 0 _ rfl; go_simp; refine hK _ _ (fun h => by cases h) (fun _ _ => ?_) (Below.refl _ _); apply RgX.mk))) ?_ rfl RgX.keep_eq (fun _ h => by cases h)
  refine RgX.build_cons (m := 5) (r := RgX.eq _) (RgX.one_plain (by rfl) (by (intro ax wx hk Kx hK; have k0 := hk.base 0 _ rfl rfl; have hL := hk.fact 0 0 _ rfl rfl; (try dsimp only at hL); clear hk; have z1 : wx.cell? ⟨g, 1, none⟩ = some (.int .i64 (p : Int)) := hL.1.cell 1 _ rfl; have z0 : wx.cell? ⟨g, 0, none⟩ = some (.string s) := hL.1.cell 0 _ rfl; go_simp; refine hK _ _ (fun h => by cases h) (fun _ _ => ?_) (Below.refl _ _); apply RgX.mk))) ?_ rfl RgX.keep_eq (fun _ h => by cases h)
  refine RgX.build_cons (m := 6) (r := RgX.eq _) (RgX.one_plain (by rfl) (by (intro ax wx hk Kx hK; obtain ⟨v28, k28, h28⟩ := hk.dep 0 4 28 _ rfl rfl rfl; (first | (replace h28 := h28 9 undef rfl rfl; first | (cases (h28 : v28 = _)) | (obtain ⟨rfl, h28⟩ := h28) | skip) | skip); have hL := hk.fact 0 0 _ rfl rfl; (try dsimp only at hL); clear hk; have z1 : wx.cell? ⟨g, 1, none⟩ = some (.int .i64 (p : Int)) := hL.1.cell 1 _ rfl; have z0 : wx.cell? ⟨g, 0, none⟩ = some (.string s) := hL.1.cell 0 _ rfl; go_simp; refine hK _ _ (fun h => by cases h) (fun _ _ => ?_) (Below.refl _ _); apply RgX.mk))) ?_ rfl RgX.keep_eq (fun _ h => by cases h)
  refine RgX.build_cons (m := 7) (r := RgX.eq _) (RgX.one_plain (by rfl) (by (intro ax wx hk Kx hK; obtain ⟨v29, k29, h29⟩ := hk.dep 0 5 29 _ rfl rfl rfl; (first | (replace h29 := h29 9 undef rfl rfl; first | (cases (h29 : v29 = _)) | (obtain ⟨rfl, h29⟩ := h29) | skip) | skip); have hL := hk.fact 0 0 _ rfl rfl; (try dsimp only at hL); clear hk; have z1 : wx.cell? ⟨g, 1, none⟩ = some (.int .i64 (p : Int)) := hL.1.cell 1 _ rfl; have z0 : wx.cell? ⟨g, 0, none⟩ = some (.string s) := hL.1.cell 0 _ rfl; go_simp; refine hK _ _ (fun h => by cases h) (fun _ _ => ?_) (Below.refl _ _); apply RgX.mk))) ?_ rfl RgX.keep_eq (fun _ h => by cases h)
  refine RgX.build_cons (m := 8) (r := RgX.eq _) (RgX.one_plain (by rfl) (by (intro ax wx hk Kx hK; obtain ⟨v30, k30, h30⟩ := hk.dep 0 6 30 _ rfl rfl rfl; (first | (replace h30 := h30 9 undef rfl rfl; first | (cases (h30 : v30 = _)) | (obtain ⟨rfl, h30⟩ := h30) | skip) | skip); have hL := hk.fact 0 0 _ rfl rfl; (try dsimp only at hL); clear hk; have z1 : wx.cell? ⟨g, 1, none⟩ = some (.int .i64 (p : Int)) := hL.1.cell 1 _ rfl; have z0 : wx.cell? ⟨g, 0, none⟩ = some (.string s) := hL.1.cell 0 _ rfl; go_simp; refine hK _ _ (fun h => by cases h) (fun _ _ => ?_) (Below.refl _ _); apply RgX.mk))) ?_ rfl RgX.keep_eq (fun _ h => by cases h)
  refine RgX.build_cons (m := 9) (r := RgX.eq (.int .i64 ((p : Int) + 1))) (RgX.one_plain (by rfl) (by (intro ax wx hk Kx hK; obtain ⟨v31, k31, h31⟩ := hk.dep 0 7 31 _ rfl rfl rfl; (first | (replace h31 := h31 9 undef rfl rfl; first | (cases (h31 : v31 = _)) | (obtain ⟨rfl, h31⟩ := h31) | skip) | skip); have hL := hk.fact 0 0 _ rfl rfl; (try dsimp only at hL); clear hk; have z1 : wx.cell? ⟨g, 1, none⟩ = some (.int .i64 (p : Int)) := hL.1.cell 1 _ rfl; have z0 : wx.cell? ⟨g, 0, none⟩ = some (.string s) := hL.1.cell 0 _ rfl; (go_simp; refine hK _ _ (fun h => by cases h) (fun _ _ => ?_) (Below.refl _ _); simp [RgX.eq, hwp])))) ?_ rfl RgX.keep_eq (fun _ h => by cases h)
  refine RgX.build_cons (m := 10) (r := RgX.eq (.int .u8 (c1))) (RgX.one_plain (by rfl) (by (intro ax wx hk Kx hK; obtain ⟨v27, k27, h27⟩ := hk.dep 0 3 27 _ rfl rfl rfl; (first | (replace h27 := h27 9 undef rfl rfl; first | (cases (h27 : v27 = _)) | (obtain ⟨rfl, h27⟩ := h27) | skip) | skip); obtain ⟨v32, k32, h32⟩ := hk.dep 0 8 32 _ rfl rfl rfl; (first | (replace h32 := h32 9 undef rfl rfl; first | (cases (h32 : v32 = _)) | (obtain ⟨rfl, h32⟩ := h32) | skip) | skip); have hL := hk.fact 0 0 _ rfl rfl; (try dsimp only at hL); clear hk; have z1 : wx.cell? ⟨g, 1, none⟩ = some (.int .i64 (p : Int)) := hL.1.cell 1 _ rfl; have z0 : wx.cell? ⟨g, 0, none⟩ = some (.string s) := hL.1.cell 0 _ rfl; (go_simp; refine hK _ _ (fun h => by cases h) (fun _ _ => ?_) (Below.refl _ _); simp [RgX.eq, hch])))) ?_ rfl RgX.keep_eq (fun _ h => by cases h)
  refine RgX.build_cons (m := 11) (r := RgX.eq (.int .i64 (c1))) (RgX.one_plain (by rfl) (by (intro ax wx hk Kx hK; obtain ⟨v33, k33, h33⟩ := hk.dep 0 9 33 _ rfl rfl rfl; (first | (replace h33 := h33 9 undef rfl rfl; first | (cases (h33 : v33 = _)) | (obtain ⟨rfl, h33⟩ := h33) | skip) | skip); have hL := hk.fact 0 0 _ rfl rfl; (try dsimp only at hL); clear hk; have z1 : wx.cell? ⟨g, 1, none⟩ = some (.int .i64 (p : Int)) := hL.1.cell 1 _ rfl; have z0 : wx.cell? ⟨g, 0, none⟩ = some (.string s) := hL.1.cell 0 _ rfl; (go_simp; refine hK _ _ (fun h => by cases h) (fun _ _ => ?_) (Below.refl _ _); simp [RgX.eq, hwr])))) ?_ rfl RgX.keep_eq (fun _ h => by cases h)
  refine RgX.build_cons (m := 12) (r := RgX.eq _) (RgX.one_plain (by rfl) (by (intro ax wx hk Kx hK; obtain ⟨v34, k34, h34⟩ := hk.dep 0 10 34 _ rfl rfl rfl; (first | (replace h34 := h34 9 undef rfl rfl; first | (cases (h34 : v34 = _)) | (obtain ⟨rfl, h34⟩ := h34) | skip) | skip); have hL := hk.fact 0 0 _ rfl rfl; (try dsimp only at hL); clear hk; have z1 : wx.cell? ⟨g, 1, none⟩ = some (.int .i64 (p : Int)) := hL.1.cell 1 _ rfl; have z0 : wx.cell? ⟨g, 0, none⟩ = some (.string s) := hL.1.cell 0 _ rfl; go_simp; refine (HWD.out _).mono ?_; rintro e w' ⟨rfl, hb⟩; refine hK _ _ (fun h => by cases h) (fun _ _ => ?_) hb; apply RgX.mk))) ?_ rfl RgX.keep_eq (fun _ h => by cases h)
  refine RgX.build_cons (m := 13) (r := RgX.eq _) (RgX.one_plain (by rfl) (by (intro ax wx hk Kx hK; obtain ⟨v35, k35, h35⟩ := hk.dep 0 11 35 _ rfl rfl rfl; (first | (replace h35 := h35 9 undef rfl rfl; first | (cases (h35 : v35 = _)) | (obtain ⟨rfl, h35⟩ := h35) | skip) | skip); have hL := hk.fact 0 0 _ rfl rfl; (try dsimp only at hL); clear hk; have z1 : wx.cell? ⟨g, 1, none⟩ = some (.int .i64 (p : Int)) := hL.1.cell 1 _ rfl; have z0 : wx.cell? ⟨g, 0, none⟩ = some (.string s) := hL.1.cell 0 _ rfl; go_simp; refine hK _ _ (fun h => by cases h) (fun _ _ => ?_) (Below.refl _ _); apply RgX.mk))) ?_ rfl RgX.keep_eq (fun _ h => by cases h)
  refine RgX.build_cons (m := 14) (r := RgX.eq _) (RgX.one_plain (by rfl) (by (intro ax wx hk Kx hK; obtain ⟨v23, k23, h23⟩ := hk.dep 0 12 23 _ rfl rfl rfl; (first | (replace h23 := h23 9 undef rfl rfl; first | (cases (h23 : v23 = _)) | (obtain ⟨rfl, h23⟩ := h23) | skip) | skip); have hL := hk.fact 0 0 _ rfl rfl; (try dsimp only at hL); clear hk; have z1 : wx.cell? ⟨g, 1, none⟩ = some (.int .i64 (p : Int)) := hL.1.cell 1 _ rfl; have z0 : wx.cell? ⟨g, 0, none⟩ = some (.string s) := hL.1.cell 0 _ rfl; go_simp; refine hK _ _ (fun h => by cases h) (fun _ _ => ?_) (Below.refl _ _); apply RgX.mk))) ?_ rfl RgX.keep_eq (fun _ h => by cases h)
  refine RgX.build_cons (m := 15) (r := RgX.eq _) (RgX.one_plain (by rfl) (by (intro ax wx hk Kx hK; obtain ⟨v23, k23, h23⟩ := hk.dep 0 12 23 _ rfl rfl rfl; (first | (replace h23 := h23 9 undef rfl rfl; first | (cases (h23 : v23 = _)) | (obtain ⟨rfl, h23⟩ := h23) | skip) | skip); have hL := hk.fact 0 0 _ rfl rfl; (try dsimp only at hL); clear hk; have z1 : wx.cell? ⟨g, 1, none⟩ = some (.int .i64 (p : Int)) := hL.1.cell 1 _ rfl; have z0 : wx.cell? ⟨g, 0, none⟩ = some (.string s) := hL.1.cell 0 _ rfl; go_simp; refine hK _ _ (fun h => by cases h) (fun _ _ => ?_) (Below.refl _ _); apply RgX.mk))) ?_ rfl RgX.keep_eq (fun _ h => by cases h)
  refine RgX.build_cons (m := 16) (r := (⟨fun v _ w5 => ∃ gg, v = .pointer (some ⟨gg, 0, none⟩) ∧ w.heap.size < gg ∧ gg ≠ g ∧ AtG w5 gg 26 (setC 0 0 0 0), some 16, none⟩ : RgX.Rl)) (RgX.one_plain (by rfl) (by (intro ax wx hk Kx hK; have hL := hk.fact 0 0 _ rfl rfl; (try dsimp only at hL); clear hk; have z1 : wx.cell? ⟨g, 1, none⟩ = some (.int .i64 (p : Int)) := hL.1.cell 1 _ rfl; have z0 : wx.cell? ⟨g, 0, none⟩ = some (.string s) := hL.1.cell 0 _ rfl; (go_simp; exact hK _ _ (fun h => by cases h) (fun u _ => ⟨wx.heap.size, rfl, hL.2.1.lt, by have := hL.1.lt; omega, AtG.new _ _ _⟩) ((Below.refl _ _).alloc (Nat.le_refl _) _))))) ?_ rfl (RgX.keep_r (fun _ _ _ _ h hb => by obtain ⟨gg, h1, h2, h3, h4⟩ := h; exact ⟨gg, h1, h2, h3, h4.below hb⟩) (fun _ _ => ⟨fun _ h _ _ => absurd rfl h, trivial⟩)) (fun _ h => by cases h)
  refine RgX.build_cons (m := 17) (r := (⟨fun _ u w5 => ∃ gg, u = .pointer (some ⟨gg, 0, none⟩) ∧ w.heap.size < gg ∧ gg ≠ g ∧ AtG w5 gg 26 (cellsOf F), none, some 15⟩ : RgX.Rl)) (RgX.one_plain (by rfl) (by (intro ax wx hk Kx hK; obtain ⟨v3, k3, h3⟩ := hk.dep 0 15 3 _ rfl rfl rfl; (first | (replace h3 := h3 9 undef rfl rfl; first | (cases (h3 : v3 = _)) | (obtain ⟨rfl, h3⟩ := h3) | skip) | skip); obtain ⟨v36, k36, h36⟩ := hk.dep 0 13 36 _ rfl rfl rfl; (first | (replace h36 := h36 9 undef rfl rfl; first | (cases (h36 : v36 = _)) | (obtain ⟨rfl, h36⟩ := h36) | skip) | skip); have hL := hk.fact 0 0 _ rfl rfl; (try dsimp only at hL); clear hk; have z1 : wx.cell? ⟨g, 1, none⟩ = some (.int .i64 (p : Int)) := hL.1.cell 1 _ rfl; have z0 : wx.cell? ⟨g, 0, none⟩ = some (.string s) := hL.1.cell 0 _ rfl; (obtain ⟨gg, rfl, hg0, hg1, hg2⟩ := h3; have d0 := hg2.cell 0 _ rfl; have d1 := hg2.cell 1 _ rfl; have d2 := hg2.cell 2 _ rfl; have d3 := hg2.cell 3 _ rfl; have f0 := hg2.frozen 0; have f1 := hg2.frozen 1; have f2 := hg2.frozen 2; have f3 := hg2.frozen 3; unfold setOf at k36; go_simp; refine hK undef (putS wx gg F) (fun _ => rfl) (fun u hu => ?_) ⟨gg, F, hg0, hg1, rfl⟩; obtain ⟨t, ht, hu⟩ := hu; cases ht; rw [k3] at hu; cases hu; exact ⟨gg, rfl, hg0, hg1, putS_at hg2 F⟩)))) ?_ rfl (RgX.keep_r (fun _ _ _ _ h hb => by obtain ⟨gg, h1, h2, h3, h4⟩ := h; exact ⟨gg, h1, h2, h3, h4.below hb⟩) (fun _ _ => ⟨fun h _ _ _ => absurd rfl h, trivial⟩)) (fun j h => by cases h; exact ⟨0, rfl⟩)
  refine RgX.build_cons (m := 18) (r := RgX.eq _) (RgX.one_plain (by rfl) (by (intro ax wx hk Kx hK; obtain ⟨v37, k37, h37⟩ := hk.dep 0 14 37 _ rfl rfl rfl; (first | (replace h37 := h37 9 undef rfl rfl; first | (cases (h37 : v37 = _)) | (obtain ⟨rfl, h37⟩ := h37) | skip) | skip); have hL := hk.fact 0 0 _ rfl rfl; (try dsimp only at hL); clear hk; have z1 : wx.cell? ⟨g, 1, none⟩ = some (.int .i64 (p : Int)) := hL.1.cell 1 _ rfl; have z0 : wx.cell? ⟨g, 0, none⟩ = some (.string s) := hL.1.cell 0 _ rfl; go_simp; refine hK _ _ (fun h => by cases h) (fun _ _ => ?_) (Below.refl _ _); apply RgX.mk))) ?_ rfl RgX.keep_eq (fun _ h => by cases h)
  refine RgX.build_end fun wx hj => ?_
  have hL := hj 0 _ rfl rfl
  clear hj
  refine RgX.fin_eq rfl ?_
  refine RgX.fin_eq rfl ?_
  refine RgX.fin_eq rfl ?_
  refine RgX.fin_eq rfl ?_
  refine RgX.fin_eq rfl ?_
  refine RgX.fin_eq rfl ?_
  refine RgX.fin_eq rfl ?_
  refine RgX.fin_eq rfl ?_
  refine RgX.fin_eq rfl ?_
  refine RgX.fin_eq rfl ?_
  refine RgX.fin_eq rfl ?_
  refine RgX.fin_eq rfl ?_
  refine RgX.fin_eq rfl ?_
  refine RgX.fin_eq rfl ?_
  refine RgX.fin_eq rfl ?_
  first | refine RgX.fin_eq rfl ?_ | refine RgX.fin_any rfl fun v3 h3 => ?_
  refine RgX.fin_none rfl fun s16 => ?_
  refine RgX.fin_eq rfl ?_
  refine RgX.fin_nil ?_
  simp only [List.set_cons_zero, List.set_cons_succ]
  clear h3
  obtain ⟨gg, rfl, hg0, hg1, hg2⟩ := s16 rfl v3 ⟨3, by kernel_rfl, by kernel_rfl⟩
  have HA := Lib.hid hL.1; have HR := Lib.hid hL.2.1; have HO := Lib.hid hL.2.2
  clear hL s16 HJ
  have hwp2 : IntKind.i64.wrap ((p : Int) + 2) = (p : Int) + 2 := by rw [IntKind.wrap_i64]; omega
  have z1 : wx.cell? ⟨g, 1, none⟩ = some (.int .i64 (p : Int)) := HA.out.cell 1 _ rfl
  have y1 := HA.out.frozen 1
  have c0 : wx.cell? ⟨gg, 0, none⟩ = some (.int .u64 ((wd F 0 : Nat) : Int)) := hg2.cell 0 _ rfl; have c1 : wx.cell? ⟨gg, 1, none⟩ = some (.int .u64 ((wd F 1 : Nat) : Int)) := hg2.cell 1 _ rfl; have c2 : wx.cell? ⟨gg, 2, none⟩ = some (.int .u64 ((wd F 2 : Nat) : Int)) := hg2.cell 2 _ rfl; have c3 : wx.cell? ⟨gg, 3, none⟩ = some (.int .u64 ((wd F 3 : Nat) : Int)) := hg2.cell 3 _ rfl
  have d0 := (HR.out).cell 0 _ rfl; have d1 := (HR.out).cell 1 _ rfl; have d2 := (HR.out).cell 2 _ rfl; have d3 := (HR.out).cell 3 _ rfl
  have f0 := (HR.out).frozen 0; have f1 := (HR.out).frozen 1; have f2 := (HR.out).frozen 2; have f3 := (HR.out).frozen 3
  have hn1 := HG.out; have hn2 := HG2.out
  clear hg2
  go_wp2_with fail
  refine bodyPost_ret (v := setOf F) (by simp [results, Try.results95, go_sem, d0, d1, d2, d3, hn1, hn2]; try rfl) rfl ⟨F, rfl, ?_, ?_, fun a q h => by injection h⟩
  · have hx : AtG (wx.setCell ⟨g, 1, none⟩ (.int .i64 ((p : Int) + 2))) g 89 (rdr s ((p + 2 : Nat) : Int) o 0 x) := by
      rw [show ((p + 2 : Nat) : Int) = (p : Int) + 2 from by omega]; exact HA.out.set 1 _
    exact putS_far hx HG2.out F
  · exact (HO.out.st g 1 _ (.inl rfl)).pS _ F (.inr (Nat.le_refl _))
set_option maxRecDepth 100000 in
set_option maxHeartbeats 1600000 in
theorem item_none (g : Nat) (s : ByteArray) (p : Nat) (o x : Int) (w : World) (h : AtG w g 89 (rdr s p o 0 x)) (hp : p ≤ s.size) (hm : s.size ≤ 1000) (h92 : ch s p = 92) (hn : p + 1 < s.size) (hwd : wideF (ch s (p + 1)) = none) :
    Calls Try.prog 95 #[.pointer (some ⟨g, 0, none⟩)] w fun e w' => ∃ F : Nat → Bool, e = .returned (setOf F) ∧ StR s g o x (itemF s p) w' ∧ Only (fun k => k = g) w w' ∧ ∀ f q, itemF s p = .ok f q → F = f := by
  have HP := Lib.hid hp; have HM := Lib.hid hm
  have HR0 := Lib.hid (AtG.new w 26 (setC 0 0 0 0))
  have HA0 := Lib.hid (h.alloc (.cells (setC 0 0 0 0) 26))
  have HO0 := Lib.hid ((Only.refl (S := fun k => k = g) w).al (.cells (setC 0 0 0 0) 26))
  have HG : Hid (w.heap.size ≠ g) := Lib.hid (by have := h.lt; omega)
  have HG2 : Hid (g ≠ w.heap.size) := Lib.hid (by have := h.lt; omega)
  have HZ : Hid (w.heap.size ≤ w.heap.size) := Lib.hid (Nat.le_refl _)
  have HPK := Lib.hid (fun w h => peek_any g s p o x w h)
  have hif : ∀ c, ch s p = c → itemF s p = if c = 92 ∧ p + 1 < s.size then (match wideF (ch s (p + 1)) with | some f => .ok f (p + 2) | none => itemE s (memberF s p)) else itemE s (memberF s p) := fun c hc => by unfold itemF; rw [hc]; rfl
  generalize ch s p = c at *
  rw [hif c rfl]
  clear hif h hp hm
  have hpI : (p : Int) < 1001 := by have := HP.out; have := HM.out; omega
  subst h92
  rw [if_pos ⟨rfl, hn⟩]
  have hnI : (p : Int) + 1 < (s.size : Int) := by omega
  have hwp : IntKind.i64.wrap ((p : Int) + 1) = (p : Int) + 1 := by rw [IntKind.wrap_i64]; omega
  have hcl := ch_lt s (p + 1)
  obtain ⟨c1, hc1⟩ : ∃ c1, c1 = ch s (p + 1) := ⟨_, rfl⟩
  have hch : ((s[p + 1].toNat : Nat) : Int) = c1 := by rw [hc1, ch_in hn]
  rw [← hc1] at hcl hwd
  rw [← hc1, hwd]
  clear hc1
  have hwr : IntKind.i64.wrap c1 = c1 := by rw [IntKind.wrap_i64]; omega
  have hV : wideV c1 = .tuple #[setOf emp, .bool false] := by unfold wideV; rw [hwd]
  obtain ⟨F, hF⟩ : ∃ F, F = emp := ⟨_, rfl⟩
  rw [← hF] at hV
  have HWD : Hid (∀ w, Calls Try.prog 81 #[.int .i64 c1] w fun e w' => e = .returned (.tuple #[setOf F, .bool false]) ∧ Below w.heap.size w w') := Lib.hid (fun w => by rw [← hV]; exact wide_any _ w)
  clear hwd hV hF
  dsimp only
  obtain ⟨R, hR⟩ : ∃ R, R = itemE s (memberF s p) := ⟨_, rfl⟩
  rw [← hR]
  have HR0X := Lib.hid hR
  clear hR
  go_enter Try.func95, Try.ntmps95
  go_upto_region 1 with (fail)
  refine Rg.wp_region_each (by kernel_rfl) (fun w' => AtG w' g 89 (rdr s p o 0 x) ∧ AtG w' w.heap.size 26 (setC 0 0 0 0) ∧ Only (fun k => k = g) w w') (fun w1 w2 h hb => ⟨h.1.below hb, h.2.1.below hb, h.2.2.tb hb⟩) (by kernel_rfl) (by kernel_rfl) (⟨HA0.out, HR0.out, HO0.out⟩) ?_
  show Rg.Build _ _ _ _ _ 0 [_, _, _, _, _, _, _, _, _, _, _, _, _, _, _, _] []
  refine Rg.build_cons (m := 1) (r := Rg.eq _) (Rg.one_plain (by rfl) (by (intro ax wx hk Kx hK; have k0 := hk.base 0 _ rfl rfl; have hj := hk.j; clear hk; have z1 : wx.cell? ⟨g, 1, none⟩ = some (.int .i64 (p : Int)) := hj.1.cell 1 _ rfl; have z0 : wx.cell? ⟨g, 0, none⟩ = some (.string s) := hj.1.cell 0 _ rfl; go_simp; refine hK _ _ ?_ (Below.refl _ _); apply Rg.mk))) ?_ rfl
  refine Rg.build_cons (m := 2) (r := Rg.eq _) (Rg.one_plain (by rfl) (by (intro ax wx hk Kx hK; obtain ⟨v7, k7, h7⟩ := hk.dep 0 7 _ rfl rfl rfl; (first | (cases (h7 : v7 = _)) | (obtain ⟨rfl, h7⟩ := h7) | skip); have hj := hk.j; clear hk; have z1 : wx.cell? ⟨g, 1, none⟩ = some (.int .i64 (p : Int)) := hj.1.cell 1 _ rfl; have z0 : wx.cell? ⟨g, 0, none⟩ = some (.string s) := hj.1.cell 0 _ rfl; go_simp; refine (HPK.out _ hj.1).mono ?_; rintro e w' ⟨rfl, hb⟩; refine hK _ _ ?_ hb; apply Rg.mk))) ?_ rfl
  refine Rg.build_cons (m := 3) (r := Rg.eq (.bool true)) (Rg.one_plain (by rfl) (by (intro ax wx hk Kx hK; obtain ⟨v8, k8, h8⟩ := hk.dep 1 8 _ rfl rfl rfl; (first | (cases (h8 : v8 = _)) | (obtain ⟨rfl, h8⟩ := h8) | skip); have hj := hk.j; clear hk; have z1 : wx.cell? ⟨g, 1, none⟩ = some (.int .i64 (p : Int)) := hj.1.cell 1 _ rfl; have z0 : wx.cell? ⟨g, 0, none⟩ = some (.string s) := hj.1.cell 0 _ rfl; (go_simp; refine hK _ _ ?_ (Below.refl _ _); simp [Rg.eq])))) ?_ rfl
  refine Rg.build_cons (m := 4) (r := Rg.eq _) (Rg.one_plain (by rfl) (by (intro ax wx hk Kx hK; obtain ⟨v9, k9, h9⟩ := hk.dep 2 9 _ rfl rfl rfl; (first | (cases (h9 : v9 = _)) | (obtain ⟨rfl, h9⟩ := h9) | skip); have hj := hk.j; clear hk; have z1 : wx.cell? ⟨g, 1, none⟩ = some (.int .i64 (p : Int)) := hj.1.cell 1 _ rfl; have z0 : wx.cell? ⟨g, 0, none⟩ = some (.string s) := hj.1.cell 0 _ rfl; go_simp; refine hK _ _ ?_ (Below.refl _ _); apply Rg.mk))) ?_ rfl
  first
    | refine Rg.build_cons (m := 5) (Rg.one_no 3 10 true (by rfl) (by rfl) (by rfl) (by rfl)) ?_ rfl
    | refine Rg.build_cons (m := 5) (r := Rg.eq _) (Rg.one_yes 3 10 true (by rfl) (by rfl) (by rfl) (by rfl) (by (intro ax wx hk Kx hK; have k0 := hk.base 0 _ rfl rfl; have hj := hk.j; clear hk; have z1 : wx.cell? ⟨g, 1, none⟩ = some (.int .i64 (p : Int)) := hj.1.cell 1 _ rfl; have z0 : wx.cell? ⟨g, 0, none⟩ = some (.string s) := hj.1.cell 0 _ rfl; go_simp; refine hK _ _ ?_ (Below.refl _ _); apply Rg.mk))) ?_ rfl
  first
    | refine Rg.build_cons (m := 6) (Rg.one_no 3 10 true (by rfl) (by rfl) (by rfl) (by rfl)) ?_ rfl
    | refine Rg.build_cons (m := 6) (r := Rg.eq _) (Rg.one_yes 3 10 true (by rfl) (by rfl) (by rfl) (by rfl) (by (intro ax wx hk Kx hK; obtain ⟨v11, k11, h11⟩ := hk.dep 4 11 _ rfl rfl rfl; (first | (cases (h11 : v11 = _)) | (obtain ⟨rfl, h11⟩ := h11) | skip); have hj := hk.j; clear hk; have z1 : wx.cell? ⟨g, 1, none⟩ = some (.int .i64 (p : Int)) := hj.1.cell 1 _ rfl; have z0 : wx.cell? ⟨g, 0, none⟩ = some (.string s) := hj.1.cell 0 _ rfl; go_simp; refine hK _ _ ?_ (Below.refl _ _); apply Rg.mk))) ?_ rfl
  first
    | refine Rg.build_cons (m := 7) (Rg.one_no 3 10 true (by rfl) (by rfl) (by rfl) (by rfl)) ?_ rfl
    | refine Rg.build_cons (m := 7) (r := Rg.eq _) (Rg.one_yes 3 10 true (by rfl) (by rfl) (by rfl) (by rfl) (by (intro ax wx hk Kx hK; obtain ⟨v12, k12, h12⟩ := hk.dep 5 12 _ rfl rfl rfl; (first | (cases (h12 : v12 = _)) | (obtain ⟨rfl, h12⟩ := h12) | skip); have hj := hk.j; clear hk; have z1 : wx.cell? ⟨g, 1, none⟩ = some (.int .i64 (p : Int)) := hj.1.cell 1 _ rfl; have z0 : wx.cell? ⟨g, 0, none⟩ = some (.string s) := hj.1.cell 0 _ rfl; go_simp; refine hK _ _ ?_ (Below.refl _ _); apply Rg.mk))) ?_ rfl
  first
    | refine Rg.build_cons (m := 8) (Rg.one_no 3 10 true (by rfl) (by rfl) (by rfl) (by rfl)) ?_ rfl
    | refine Rg.build_cons (m := 8) (r := Rg.eq _) (Rg.one_yes 3 10 true (by rfl) (by rfl) (by rfl) (by rfl) (by (intro ax wx hk Kx hK; obtain ⟨v13, k13, h13⟩ := hk.dep 6 13 _ rfl rfl rfl; (first | (cases (h13 : v13 = _)) | (obtain ⟨rfl, h13⟩ := h13) | skip); have hj := hk.j; clear hk; have z1 : wx.cell? ⟨g, 1, none⟩ = some (.int .i64 (p : Int)) := hj.1.cell 1 _ rfl; have z0 : wx.cell? ⟨g, 0, none⟩ = some (.string s) := hj.1.cell 0 _ rfl; go_simp; refine hK _ _ ?_ (Below.refl _ _); apply Rg.mk))) ?_ rfl
  first
    | refine Rg.build_cons (m := 9) (Rg.one_no 3 10 true (by rfl) (by rfl) (by rfl) (by rfl)) ?_ rfl
    | refine Rg.build_cons (m := 9) (r := Rg.eq (.int .i64 ((p : Int) + 1))) (Rg.one_yes 3 10 true (by rfl) (by rfl) (by rfl) (by rfl) (by (intro ax wx hk Kx hK; obtain ⟨v14, k14, h14⟩ := hk.dep 7 14 _ rfl rfl rfl; (first | (cases (h14 : v14 = _)) | (obtain ⟨rfl, h14⟩ := h14) | skip); have hj := hk.j; clear hk; have z1 : wx.cell? ⟨g, 1, none⟩ = some (.int .i64 (p : Int)) := hj.1.cell 1 _ rfl; have z0 : wx.cell? ⟨g, 0, none⟩ = some (.string s) := hj.1.cell 0 _ rfl; (go_simp; refine hK _ _ ?_ (Below.refl _ _); simp [Rg.eq, hwp])))) ?_ rfl
  first
    | refine Rg.build_cons (m := 10) (Rg.one_no 3 10 true (by rfl) (by rfl) (by rfl) (by rfl)) ?_ rfl
    | refine Rg.build_cons (m := 10) (r := Rg.eq _) (Rg.one_yes 3 10 true (by rfl) (by rfl) (by rfl) (by rfl) (by (intro ax wx hk Kx hK; have k0 := hk.base 0 _ rfl rfl; have hj := hk.j; clear hk; have z1 : wx.cell? ⟨g, 1, none⟩ = some (.int .i64 (p : Int)) := hj.1.cell 1 _ rfl; have z0 : wx.cell? ⟨g, 0, none⟩ = some (.string s) := hj.1.cell 0 _ rfl; go_simp; refine hK _ _ ?_ (Below.refl _ _); apply Rg.mk))) ?_ rfl
  first
    | refine Rg.build_cons (m := 11) (Rg.one_no 3 10 true (by rfl) (by rfl) (by rfl) (by rfl)) ?_ rfl
    | refine Rg.build_cons (m := 11) (r := Rg.eq _) (Rg.one_yes 3 10 true (by rfl) (by rfl) (by rfl) (by rfl) (by (intro ax wx hk Kx hK; obtain ⟨v16, k16, h16⟩ := hk.dep 9 16 _ rfl rfl rfl; (first | (cases (h16 : v16 = _)) | (obtain ⟨rfl, h16⟩ := h16) | skip); have hj := hk.j; clear hk; have z1 : wx.cell? ⟨g, 1, none⟩ = some (.int .i64 (p : Int)) := hj.1.cell 1 _ rfl; have z0 : wx.cell? ⟨g, 0, none⟩ = some (.string s) := hj.1.cell 0 _ rfl; go_simp; refine hK _ _ ?_ (Below.refl _ _); apply Rg.mk))) ?_ rfl
  first
    | refine Rg.build_cons (m := 12) (Rg.one_no 3 10 true (by rfl) (by rfl) (by rfl) (by rfl)) ?_ rfl
    | refine Rg.build_cons (m := 12) (r := Rg.eq _) (Rg.one_yes 3 10 true (by rfl) (by rfl) (by rfl) (by rfl) (by (intro ax wx hk Kx hK; obtain ⟨v17, k17, h17⟩ := hk.dep 10 17 _ rfl rfl rfl; (first | (cases (h17 : v17 = _)) | (obtain ⟨rfl, h17⟩ := h17) | skip); have hj := hk.j; clear hk; have z1 : wx.cell? ⟨g, 1, none⟩ = some (.int .i64 (p : Int)) := hj.1.cell 1 _ rfl; have z0 : wx.cell? ⟨g, 0, none⟩ = some (.string s) := hj.1.cell 0 _ rfl; go_simp; refine hK _ _ ?_ (Below.refl _ _); apply Rg.mk))) ?_ rfl
  first
    | refine Rg.build_cons (m := 13) (Rg.one_no 3 10 true (by rfl) (by rfl) (by rfl) (by rfl)) ?_ rfl
    | refine Rg.build_cons (m := 13) (r := Rg.eq _) (Rg.one_yes 3 10 true (by rfl) (by rfl) (by rfl) (by rfl) (by (intro ax wx hk Kx hK; obtain ⟨v18, k18, h18⟩ := hk.dep 11 18 _ rfl rfl rfl; (first | (cases (h18 : v18 = _)) | (obtain ⟨rfl, h18⟩ := h18) | skip); have hj := hk.j; clear hk; have z1 : wx.cell? ⟨g, 1, none⟩ = some (.int .i64 (p : Int)) := hj.1.cell 1 _ rfl; have z0 : wx.cell? ⟨g, 0, none⟩ = some (.string s) := hj.1.cell 0 _ rfl; go_simp; refine hK _ _ ?_ (Below.refl _ _); apply Rg.mk))) ?_ rfl
  first
    | refine Rg.build_cons (m := 14) (Rg.one_no 3 10 true (by rfl) (by rfl) (by rfl) (by rfl)) ?_ rfl
    | refine Rg.build_cons (m := 14) (r := Rg.eq _) (Rg.one_yes 3 10 true (by rfl) (by rfl) (by rfl) (by rfl) (by (intro ax wx hk Kx hK; obtain ⟨v19, k19, h19⟩ := hk.dep 12 19 _ rfl rfl rfl; (first | (cases (h19 : v19 = _)) | (obtain ⟨rfl, h19⟩ := h19) | skip); have hj := hk.j; clear hk; have z1 : wx.cell? ⟨g, 1, none⟩ = some (.int .i64 (p : Int)) := hj.1.cell 1 _ rfl; have z0 : wx.cell? ⟨g, 0, none⟩ = some (.string s) := hj.1.cell 0 _ rfl; go_simp; refine hK _ _ ?_ (Below.refl _ _); apply Rg.mk))) ?_ rfl
  first
    | refine Rg.build_cons (m := 15) (Rg.one_no 3 10 true (by rfl) (by rfl) (by rfl) (by rfl)) ?_ rfl
    | refine Rg.build_cons (m := 15) (r := Rg.eq (.bool true)) (Rg.one_yes 3 10 true (by rfl) (by rfl) (by rfl) (by rfl) (by (intro ax wx hk Kx hK; obtain ⟨v15, k15, h15⟩ := hk.dep 8 15 _ rfl rfl rfl; (first | (cases (h15 : v15 = _)) | (obtain ⟨rfl, h15⟩ := h15) | skip); obtain ⟨v20, k20, h20⟩ := hk.dep 13 20 _ rfl rfl rfl; (first | (cases (h20 : v20 = _)) | (obtain ⟨rfl, h20⟩ := h20) | skip); have hj := hk.j; clear hk; have z1 : wx.cell? ⟨g, 1, none⟩ = some (.int .i64 (p : Int)) := hj.1.cell 1 _ rfl; have z0 : wx.cell? ⟨g, 0, none⟩ = some (.string s) := hj.1.cell 0 _ rfl; (go_simp; refine hK _ _ ?_ (Below.refl _ _); simp [Rg.eq, hnI])))) ?_ rfl
  refine Rg.build_cons (m := 16) (r := Rg.eq _) (Rg.one_plain (by rfl) (by (intro ax wx hk Kx hK; obtain ⟨v10, k10, h10⟩ := hk.dep 3 10 _ rfl rfl rfl; (first | (cases (h10 : v10 = _)) | (obtain ⟨rfl, h10⟩ := h10) | skip); obtain ⟨v21, k21, h21⟩ := hk.dep 14 21 _ rfl rfl rfl; (first | (cases (h21 : v21 = _)) | (obtain ⟨rfl, h21⟩ := h21) | skip); have hj := hk.j; clear hk; have z1 : wx.cell? ⟨g, 1, none⟩ = some (.int .i64 (p : Int)) := hj.1.cell 1 _ rfl; have z0 : wx.cell? ⟨g, 0, none⟩ = some (.string s) := hj.1.cell 0 _ rfl; go_simp; refine hK _ _ ?_ (Below.refl _ _); apply Rg.mk))) ?_ rfl
  refine Rg.build_end fun wx hj => ?_
  refine Rg.fin_eq rfl ?_
  refine Rg.fin_eq rfl ?_
  first | refine Rg.fin_eq rfl ?_ | refine Rg.fin_any rfl fun v9 h9 => ?_
  refine Rg.fin_eq rfl ?_
  refine Rg.fin_eq rfl ?_
  refine Rg.fin_eq rfl ?_
  refine Rg.fin_eq rfl ?_
  refine Rg.fin_eq rfl ?_
  first | refine Rg.fin_eq rfl ?_ | refine Rg.fin_any rfl fun v15 h15 => ?_
  refine Rg.fin_eq rfl ?_
  refine Rg.fin_eq rfl ?_
  refine Rg.fin_eq rfl ?_
  refine Rg.fin_eq rfl ?_
  refine Rg.fin_eq rfl ?_
  first | refine Rg.fin_eq rfl ?_ | refine Rg.fin_any rfl fun v21 h21 => ?_
  refine Rg.fin_eq rfl ?_
  refine Rg.fin_nil ?_
  simp only [List.set_cons_zero, List.set_cons_succ]
  have HJ := Lib.hid hj; clear hj
  go_upto_region 2 with (fail)
  obtain ⟨w1, rfl⟩ : ∃ w1 : World, w1 = wx := ⟨_, rfl⟩
  refine RgX.start (by kernel_rfl) [(16, fun w5 w6 => ∃ gg f, w.heap.size < gg ∧ gg ≠ g ∧ w6 = putS w5 gg f)] [⟨fun w' => AtG w' g 89 (rdr s p o 0 x) ∧ AtG w' w.heap.size 26 (setC 0 0 0 0) ∧ Only (fun k => k = g) w w', none⟩] ⟨⟨fun _ _ h hb => ⟨h.1.below hb, h.2.1.below hb, h.2.2.tb hb⟩, ⟨fun _ _ _ _ => (fun w5 w6 h he => by obtain ⟨gg, f, h1, h2, rfl⟩ := he; exact ⟨putS_far h.1 (fun e => h2 e.symm) _, putS_far h.2.1 (by omega) _, h.2.2.pS _ _ (.inr (by omega))⟩), trivial⟩⟩, trivial⟩ (by kernel_rfl) (by kernel_rfl) ⟨⟨HJ.out.1.drew, HJ.out.2.1.drew, HJ.out.2.2.drew⟩, trivial⟩ ?_
  show RgX.Build _ _ _ _ _ _ 0 [_, _, _, _, _, _, _, _, _, _, _, _, _, _, _, _, _, _] []
  refine RgX.build_cons (m := 1) (r := RgX.eq _) (RgX.one_plain (by rfl) (by (intro ax wx hk Kx hK; have k0 := hk.base 0 _ rfl rfl; have hL := hk.fact 0 0 _ rfl rfl; (try dsimp only at hL); clear hk; have z1 : wx.cell? ⟨g, 1, none⟩ = some (.int .i64 (p : Int)) := hL.1.cell 1 _ rfl; have z0 : wx.cell? ⟨g, 0, none⟩ = some (.string s) := hL.1.cell 0 _ rfl; go_simp; refine hK _ _ (fun h => by cases h) (fun _ _ => ?_) (Below.refl _ _); apply RgX.mk))) ?_ rfl RgX.keep_eq (fun _ h => by cases h)
  refine RgX.build_cons (m := 2) (r := RgX.eq _) (RgX.one_plain (by rfl) (by (intro ax wx hk Kx hK; obtain ⟨v24, k24, h24⟩ := hk.dep 0 0 24 _ rfl rfl rfl; (first | (replace h24 := h24 9 undef rfl rfl; first | (cases (h24 : v24 = _)) | (obtain ⟨rfl, h24⟩ := h24) | skip) | skip); have hL := hk.fact 0 0 _ rfl rfl; (try dsimp only at hL); clear hk; have z1 : wx.cell? ⟨g, 1, none⟩ = some (.int .i64 (p : Int)) := hL.1.cell 1 _ rfl; have z0 : wx.cell? ⟨g, 0, none⟩ = some (.string s) := hL.1.cell 0 _ rfl; go_simp; refine hK _ _ (fun h => by cases h) (fun _ _ => ?_) (Below.refl _ _); apply RgX.mk))) ?_ rfl RgX.keep_eq (fun _ h => by cases h)
  refine RgX.build_cons (m := 3) (r := RgX.eq _) (RgX.one_plain (by rfl) (by (intro ax wx hk Kx hK; obtain ⟨v25, k25, h25⟩ := hk.dep 0 1 25 _ rfl rfl rfl; (first | (replace h25 := h25 9 undef rfl rfl; first | (cases (h25 : v25 = _)) | (obtain ⟨rfl, h25⟩ := h25) | skip) | skip); have hL := hk.fact 0 0 _ rfl rfl; (try dsimp only at hL); clear hk; have z1 : wx.cell? ⟨g, 1, none⟩ = some (.int .i64 (p : Int)) := hL.1.cell 1 _ rfl; have z0 : wx.cell? ⟨g, 0, none⟩ = some (.string s) := hL.1.cell 0 _ rfl; go_simp; refine hK _ _ (fun h => by cases h) (fun _ _ => ?_) (Below.refl _ _); apply RgX.mk))) ?_ rfl RgX.keep_eq (fun _ h => by cases h)
  refine RgX.build_cons (m := 4) (r := RgX.eq _) (RgX.one_plain (by rfl) (by (intro ax wx hk Kx hK; obtain ⟨v26, k26, h26⟩ := hk.dep 0 2 26 _ rfl rfl rfl; (first | (replace h26 := h26 9 undef rfl rfl; first | (cases (h26 : v26 = _)) | (obtain ⟨rfl, h26⟩ := h26) | skip) | skip); have hL := hk.fact 0 0 _ rfl rfl; (try dsimp only at hL); clear hk; have z1 : wx.cell? ⟨g, 1, none⟩ = some (.int .i64 (p : Int)) := hL.1.cell 1 _ rfl; have z0 : wx.cell? ⟨g, 0, none⟩ = some (.string s) := hL.1.cell 0 _ rfl; go_simp; refine hK _ _ (fun h => by cases h) (fun _ _ => ?_) (Below.refl _ _); apply RgX.mk))) ?_ rfl RgX.keep_eq (fun _ h => by cases h)
  refine RgX.build_cons (m := 5) (r := RgX.eq _) (RgX.one_plain (by rfl) (by (intro ax wx hk Kx hK; have k0 := hk.base 0 _ rfl rfl; have hL := hk.fact 0 0 _ rfl rfl; (try dsimp only at hL); clear hk; have z1 : wx.cell? ⟨g, 1, none⟩ = some (.int .i64 (p : Int)) := hL.1.cell 1 _ rfl; have z0 : wx.cell? ⟨g, 0, none⟩ = some (.string s) := hL.1.cell 0 _ rfl; go_simp; refine hK _ _ (fun h => by cases h) (fun _ _ => ?_) (Below.refl _ _); apply RgX.mk))) ?_ rfl RgX.keep_eq (fun _ h => by cases h)
  refine RgX.build_cons (m := 6) (r := RgX.eq _) (RgX.one_plain (by rfl) (by (intro ax wx hk Kx hK; obtain ⟨v28, k28, h28⟩ := hk.dep 0 4 28 _ rfl rfl rfl; (first | (replace h28 := h28 9 undef rfl rfl; first | (cases (h28 : v28 = _)) | (obtain ⟨rfl, h28⟩ := h28) | skip) | skip); have hL := hk.fact 0 0 _ rfl rfl; (try dsimp only at hL); clear hk; have z1 : wx.cell? ⟨g, 1, none⟩ = some (.int .i64 (p : Int)) := hL.1.cell 1 _ rfl; have z0 : wx.cell? ⟨g, 0, none⟩ = some (.string s) := hL.1.cell 0 _ rfl; go_simp; refine hK _ _ (fun h => by cases h) (fun _ _ => ?_) (Below.refl _ _); apply RgX.mk))) ?_ rfl RgX.keep_eq (fun _ h => by cases h)
  refine RgX.build_cons (m := 7) (r := RgX.eq _) (RgX.one_plain (by rfl) (by (intro ax wx hk Kx hK; obtain ⟨v29, k29, h29⟩ := hk.dep 0 5 29 _ rfl rfl rfl; (first | (replace h29 := h29 9 undef rfl rfl; first | (cases (h29 : v29 = _)) | (obtain ⟨rfl, h29⟩ := h29) | skip) | skip); have hL := hk.fact 0 0 _ rfl rfl; (try dsimp only at hL); clear hk; have z1 : wx.cell? ⟨g, 1, none⟩ = some (.int .i64 (p : Int)) := hL.1.cell 1 _ rfl; have z0 : wx.cell? ⟨g, 0, none⟩ = some (.string s) := hL.1.cell 0 _ rfl; go_simp; refine hK _ _ (fun h => by cases h) (fun _ _ => ?_) (Below.refl _ _); apply RgX.mk))) ?_ rfl RgX.keep_eq (fun _ h => by cases h)
  refine RgX.build_cons (m := 8) (r := RgX.eq _) (RgX.one_plain (by rfl) (by (intro ax wx hk Kx hK; obtain ⟨v30, k30, h30⟩ := hk.dep 0 6 30 _ rfl rfl rfl; (first | (replace h30 := h30 9 undef rfl rfl; first | (cases (h30 : v30 = _)) | (obtain ⟨rfl, h30⟩ := h30) | skip) | skip); have hL := hk.fact 0 0 _ rfl rfl; (try dsimp only at hL); clear hk; have z1 : wx.cell? ⟨g, 1, none⟩ = some (.int .i64 (p : Int)) := hL.1.cell 1 _ rfl; have z0 : wx.cell? ⟨g, 0, none⟩ = some (.string s) := hL.1.cell 0 _ rfl; go_simp; refine hK _ _ (fun h => by cases h) (fun _ _ => ?_) (Below.refl _ _); apply RgX.mk))) ?_ rfl RgX.keep_eq (fun _ h => by cases h)
  refine RgX.build_cons (m := 9) (r := RgX.eq (.int .i64 ((p : Int) + 1))) (RgX.one_plain (by rfl) (by (intro ax wx hk Kx hK; obtain ⟨v31, k31, h31⟩ := hk.dep 0 7 31 _ rfl rfl rfl; (first | (replace h31 := h31 9 undef rfl rfl; first | (cases (h31 : v31 = _)) | (obtain ⟨rfl, h31⟩ := h31) | skip) | skip); have hL := hk.fact 0 0 _ rfl rfl; (try dsimp only at hL); clear hk; have z1 : wx.cell? ⟨g, 1, none⟩ = some (.int .i64 (p : Int)) := hL.1.cell 1 _ rfl; have z0 : wx.cell? ⟨g, 0, none⟩ = some (.string s) := hL.1.cell 0 _ rfl; (go_simp; refine hK _ _ (fun h => by cases h) (fun _ _ => ?_) (Below.refl _ _); simp [RgX.eq, hwp])))) ?_ rfl RgX.keep_eq (fun _ h => by cases h)
  refine RgX.build_cons (m := 10) (r := RgX.eq (.int .u8 (c1))) (RgX.one_plain (by rfl) (by (intro ax wx hk Kx hK; obtain ⟨v27, k27, h27⟩ := hk.dep 0 3 27 _ rfl rfl rfl; (first | (replace h27 := h27 9 undef rfl rfl; first | (cases (h27 : v27 = _)) | (obtain ⟨rfl, h27⟩ := h27) | skip) | skip); obtain ⟨v32, k32, h32⟩ := hk.dep 0 8 32 _ rfl rfl rfl; (first | (replace h32 := h32 9 undef rfl rfl; first | (cases (h32 : v32 = _)) | (obtain ⟨rfl, h32⟩ := h32) | skip) | skip); have hL := hk.fact 0 0 _ rfl rfl; (try dsimp only at hL); clear hk; have z1 : wx.cell? ⟨g, 1, none⟩ = some (.int .i64 (p : Int)) := hL.1.cell 1 _ rfl; have z0 : wx.cell? ⟨g, 0, none⟩ = some (.string s) := hL.1.cell 0 _ rfl; (go_simp; refine hK _ _ (fun h => by cases h) (fun _ _ => ?_) (Below.refl _ _); simp [RgX.eq, hch])))) ?_ rfl RgX.keep_eq (fun _ h => by cases h)
  refine RgX.build_cons (m := 11) (r := RgX.eq (.int .i64 (c1))) (RgX.one_plain (by rfl) (by (intro ax wx hk Kx hK; obtain ⟨v33, k33, h33⟩ := hk.dep 0 9 33 _ rfl rfl rfl; (first | (replace h33 := h33 9 undef rfl rfl; first | (cases (h33 : v33 = _)) | (obtain ⟨rfl, h33⟩ := h33) | skip) | skip); have hL := hk.fact 0 0 _ rfl rfl; (try dsimp only at hL); clear hk; have z1 : wx.cell? ⟨g, 1, none⟩ = some (.int .i64 (p : Int)) := hL.1.cell 1 _ rfl; have z0 : wx.cell? ⟨g, 0, none⟩ = some (.string s) := hL.1.cell 0 _ rfl; (go_simp; refine hK _ _ (fun h => by cases h) (fun _ _ => ?_) (Below.refl _ _); simp [RgX.eq, hwr])))) ?_ rfl RgX.keep_eq (fun _ h => by cases h)
  refine RgX.build_cons (m := 12) (r := RgX.eq _) (RgX.one_plain (by rfl) (by (intro ax wx hk Kx hK; obtain ⟨v34, k34, h34⟩ := hk.dep 0 10 34 _ rfl rfl rfl; (first | (replace h34 := h34 9 undef rfl rfl; first | (cases (h34 : v34 = _)) | (obtain ⟨rfl, h34⟩ := h34) | skip) | skip); have hL := hk.fact 0 0 _ rfl rfl; (try dsimp only at hL); clear hk; have z1 : wx.cell? ⟨g, 1, none⟩ = some (.int .i64 (p : Int)) := hL.1.cell 1 _ rfl; have z0 : wx.cell? ⟨g, 0, none⟩ = some (.string s) := hL.1.cell 0 _ rfl; go_simp; refine (HWD.out _).mono ?_; rintro e w' ⟨rfl, hb⟩; refine hK _ _ (fun h => by cases h) (fun _ _ => ?_) hb; apply RgX.mk))) ?_ rfl RgX.keep_eq (fun _ h => by cases h)
  refine RgX.build_cons (m := 13) (r := RgX.eq _) (RgX.one_plain (by rfl) (by (intro ax wx hk Kx hK; obtain ⟨v35, k35, h35⟩ := hk.dep 0 11 35 _ rfl rfl rfl; (first | (replace h35 := h35 9 undef rfl rfl; first | (cases (h35 : v35 = _)) | (obtain ⟨rfl, h35⟩ := h35) | skip) | skip); have hL := hk.fact 0 0 _ rfl rfl; (try dsimp only at hL); clear hk; have z1 : wx.cell? ⟨g, 1, none⟩ = some (.int .i64 (p : Int)) := hL.1.cell 1 _ rfl; have z0 : wx.cell? ⟨g, 0, none⟩ = some (.string s) := hL.1.cell 0 _ rfl; go_simp; refine hK _ _ (fun h => by cases h) (fun _ _ => ?_) (Below.refl _ _); apply RgX.mk))) ?_ rfl RgX.keep_eq (fun _ h => by cases h)
  refine RgX.build_cons (m := 14) (r := RgX.eq _) (RgX.one_plain (by rfl) (by (intro ax wx hk Kx hK; obtain ⟨v23, k23, h23⟩ := hk.dep 0 12 23 _ rfl rfl rfl; (first | (replace h23 := h23 9 undef rfl rfl; first | (cases (h23 : v23 = _)) | (obtain ⟨rfl, h23⟩ := h23) | skip) | skip); have hL := hk.fact 0 0 _ rfl rfl; (try dsimp only at hL); clear hk; have z1 : wx.cell? ⟨g, 1, none⟩ = some (.int .i64 (p : Int)) := hL.1.cell 1 _ rfl; have z0 : wx.cell? ⟨g, 0, none⟩ = some (.string s) := hL.1.cell 0 _ rfl; go_simp; refine hK _ _ (fun h => by cases h) (fun _ _ => ?_) (Below.refl _ _); apply RgX.mk))) ?_ rfl RgX.keep_eq (fun _ h => by cases h)
  refine RgX.build_cons (m := 15) (r := RgX.eq _) (RgX.one_plain (by rfl) (by (intro ax wx hk Kx hK; obtain ⟨v23, k23, h23⟩ := hk.dep 0 12 23 _ rfl rfl rfl; (first | (replace h23 := h23 9 undef rfl rfl; first | (cases (h23 : v23 = _)) | (obtain ⟨rfl, h23⟩ := h23) | skip) | skip); have hL := hk.fact 0 0 _ rfl rfl; (try dsimp only at hL); clear hk; have z1 : wx.cell? ⟨g, 1, none⟩ = some (.int .i64 (p : Int)) := hL.1.cell 1 _ rfl; have z0 : wx.cell? ⟨g, 0, none⟩ = some (.string s) := hL.1.cell 0 _ rfl; go_simp; refine hK _ _ (fun h => by cases h) (fun _ _ => ?_) (Below.refl _ _); apply RgX.mk))) ?_ rfl RgX.keep_eq (fun _ h => by cases h)
  refine RgX.build_cons (m := 16) (r := (⟨fun v _ w5 => ∃ gg, v = .pointer (some ⟨gg, 0, none⟩) ∧ w.heap.size < gg ∧ gg ≠ g ∧ AtG w5 gg 26 (setC 0 0 0 0), some 16, none⟩ : RgX.Rl)) (RgX.one_plain (by rfl) (by (intro ax wx hk Kx hK; have hL := hk.fact 0 0 _ rfl rfl; (try dsimp only at hL); clear hk; have z1 : wx.cell? ⟨g, 1, none⟩ = some (.int .i64 (p : Int)) := hL.1.cell 1 _ rfl; have z0 : wx.cell? ⟨g, 0, none⟩ = some (.string s) := hL.1.cell 0 _ rfl; (go_simp; exact hK _ _ (fun h => by cases h) (fun u _ => ⟨wx.heap.size, rfl, hL.2.1.lt, by have := hL.1.lt; omega, AtG.new _ _ _⟩) ((Below.refl _ _).alloc (Nat.le_refl _) _))))) ?_ rfl (RgX.keep_r (fun _ _ _ _ h hb => by obtain ⟨gg, h1, h2, h3, h4⟩ := h; exact ⟨gg, h1, h2, h3, h4.below hb⟩) (fun _ _ => ⟨fun _ h _ _ => absurd rfl h, trivial⟩)) (fun _ h => by cases h)
  refine RgX.build_cons (m := 17) (r := (⟨fun _ u w5 => ∃ gg, u = .pointer (some ⟨gg, 0, none⟩) ∧ w.heap.size < gg ∧ gg ≠ g ∧ AtG w5 gg 26 (cellsOf F), none, some 15⟩ : RgX.Rl)) (RgX.one_plain (by rfl) (by (intro ax wx hk Kx hK; obtain ⟨v3, k3, h3⟩ := hk.dep 0 15 3 _ rfl rfl rfl; (first | (replace h3 := h3 9 undef rfl rfl; first | (cases (h3 : v3 = _)) | (obtain ⟨rfl, h3⟩ := h3) | skip) | skip); obtain ⟨v36, k36, h36⟩ := hk.dep 0 13 36 _ rfl rfl rfl; (first | (replace h36 := h36 9 undef rfl rfl; first | (cases (h36 : v36 = _)) | (obtain ⟨rfl, h36⟩ := h36) | skip) | skip); have hL := hk.fact 0 0 _ rfl rfl; (try dsimp only at hL); clear hk; have z1 : wx.cell? ⟨g, 1, none⟩ = some (.int .i64 (p : Int)) := hL.1.cell 1 _ rfl; have z0 : wx.cell? ⟨g, 0, none⟩ = some (.string s) := hL.1.cell 0 _ rfl; (obtain ⟨gg, rfl, hg0, hg1, hg2⟩ := h3; have d0 := hg2.cell 0 _ rfl; have d1 := hg2.cell 1 _ rfl; have d2 := hg2.cell 2 _ rfl; have d3 := hg2.cell 3 _ rfl; have f0 := hg2.frozen 0; have f1 := hg2.frozen 1; have f2 := hg2.frozen 2; have f3 := hg2.frozen 3; unfold setOf at k36; go_simp; refine hK undef (putS wx gg F) (fun _ => rfl) (fun u hu => ?_) ⟨gg, F, hg0, hg1, rfl⟩; obtain ⟨t, ht, hu⟩ := hu; cases ht; rw [k3] at hu; cases hu; exact ⟨gg, rfl, hg0, hg1, putS_at hg2 F⟩)))) ?_ rfl (RgX.keep_r (fun _ _ _ _ h hb => by obtain ⟨gg, h1, h2, h3, h4⟩ := h; exact ⟨gg, h1, h2, h3, h4.below hb⟩) (fun _ _ => ⟨fun h _ _ _ => absurd rfl h, trivial⟩)) (fun j h => by cases h; exact ⟨0, rfl⟩)
  refine RgX.build_cons (m := 18) (r := RgX.eq _) (RgX.one_plain (by rfl) (by (intro ax wx hk Kx hK; obtain ⟨v37, k37, h37⟩ := hk.dep 0 14 37 _ rfl rfl rfl; (first | (replace h37 := h37 9 undef rfl rfl; first | (cases (h37 : v37 = _)) | (obtain ⟨rfl, h37⟩ := h37) | skip) | skip); have hL := hk.fact 0 0 _ rfl rfl; (try dsimp only at hL); clear hk; have z1 : wx.cell? ⟨g, 1, none⟩ = some (.int .i64 (p : Int)) := hL.1.cell 1 _ rfl; have z0 : wx.cell? ⟨g, 0, none⟩ = some (.string s) := hL.1.cell 0 _ rfl; go_simp; refine hK _ _ (fun h => by cases h) (fun _ _ => ?_) (Below.refl _ _); apply RgX.mk))) ?_ rfl RgX.keep_eq (fun _ h => by cases h)
  refine RgX.build_end fun wx hj => ?_
  have hL := hj 0 _ rfl rfl
  clear hj
  refine RgX.fin_eq rfl ?_
  refine RgX.fin_eq rfl ?_
  refine RgX.fin_eq rfl ?_
  refine RgX.fin_eq rfl ?_
  refine RgX.fin_eq rfl ?_
  refine RgX.fin_eq rfl ?_
  refine RgX.fin_eq rfl ?_
  refine RgX.fin_eq rfl ?_
  refine RgX.fin_eq rfl ?_
  refine RgX.fin_eq rfl ?_
  refine RgX.fin_eq rfl ?_
  refine RgX.fin_eq rfl ?_
  refine RgX.fin_eq rfl ?_
  refine RgX.fin_eq rfl ?_
  refine RgX.fin_eq rfl ?_
  first | refine RgX.fin_eq rfl ?_ | refine RgX.fin_any rfl fun v3 h3 => ?_
  refine RgX.fin_none rfl fun s16 => ?_
  refine RgX.fin_eq rfl ?_
  refine RgX.fin_nil ?_
  simp only [List.set_cons_zero, List.set_cons_succ]
  clear h3
  obtain ⟨gg, rfl, hg0, hg1, hg2⟩ := s16 rfl v3 ⟨3, by kernel_rfl, by kernel_rfl⟩
  have HA := Lib.hid hL.1; have HR := Lib.hid hL.2.1; have HO := Lib.hid hL.2.2
  clear hL s16 HJ
  clear hg0 hg1 hg2
  go_wp2_with fail
  refine (member_any g s p o x _ HA.out HP.out HM.out).mono ?_
  rintro e9 w2 ⟨hO2, hS, v, hv, rfl, hq⟩
  have HR2 := Lib.hid (HR.out.only hO2 HG.out)
  have HO2 := Lib.hid (HO.out.tr hO2)
  have HV := Lib.hid hv
  clear hO2 hv
  cases hmf : memberF s p with
  | no cc yy =>
    rw [hmf] at hS
    obtain ⟨pb, hS⟩ := hS
    have hcc : cc ≠ 0 := by have := (memberF_in s p HP.out).1; rw [hmf] at this; have := this.1; omega
    have HX : Hid (R = .no cc yy) := Lib.hid (by rw [HR0X.out, hmf]; rfl)
    have HS := Lib.hid hS; have HCC := Lib.hid hcc
    clear hS hq hcc hmf
    go_wp2_with fail
    refine (peek_bad g s pb o cc yy _ HS.out HCC.out).mono ?_
    rintro e9 w3 ⟨rfl, hb⟩
    have HS3 := Lib.hid (HS.out.below hb); have HR3 := Lib.hid (HR2.out.below hb); have HO3 := Lib.hid (HO2.out.tb hb)
    clear hb
    go_wp2_with fail
    refine (rangeN v v _ HV.out HV.out).mono ?_
    rintro e9 w4 ⟨rfl, hb⟩
    have HS4 := Lib.hid (HS3.out.below hb); have HR4 := Lib.hid (HR3.out.below hb); have HO4 := Lib.hid (HO3.out.tb hb)
    clear hb
    have d0 := (HR4.out).cell 0 _ rfl; have d1 := (HR4.out).cell 1 _ rfl; have d2 := (HR4.out).cell 2 _ rfl; have d3 := (HR4.out).cell 3 _ rfl
    have f0 := (HR4.out).frozen 0; have f1 := (HR4.out).frozen 1; have f2 := (HR4.out).frozen 2; have f3 := (HR4.out).frozen 3
    unfold setOf
    go_wp2_with fail
    refine bodyPost_ret (v := setOf (spanF v (v + 1))) (by simp [results, Try.results95, go_sem, d0, d1, d2, d3]; try rfl) rfl ⟨_, rfl, ?_, ?_, fun a q h => by rw [HX.out] at h; cases h⟩
    · rw [HX.out]; exact ⟨pb, putS_far HS4.out HG2.out _⟩
    · exact HO4.out.pS _ _ (.inr HZ.out)
  | ok lo q =>
    rw [hmf] at hS hq
    obtain rfl := hq lo q rfl
    have hq0 : q ≤ s.size := by have := (memberF_in s p HP.out).1; rw [hmf] at this; exact this.2
    have HS := Lib.hid hS; have HQ := Lib.hid hq0
    clear hS hq
    have HPK := Lib.hid (peek_any g s q o x _ HS.out)
    have HX9 : Hid (R = itemE s (.ok v q)) := Lib.hid (by rw [HR0X.out, hmf])
    clear hmf
    have hie : ∀ c, ch s q = c → itemE s (.ok v q) = if c = 45 then (match memberF s (q + 1) with | .no c x => .no c x | .ok hi r => if hi < v then .no 2 (r - 1) else .ok (spanF v (hi + 1)) r) else .ok (spanF v (v + 1)) q := fun c hc => by rw [itemE, hc]; rfl
    have hgeq : 0 ≤ ch s q → q < s.size := ch_ge
    generalize ch s q = c at *
    have hie := hie c rfl
    by_cases h45 : c = 45
    · subst h45
      have HX0 : Hid (R = (match memberF s (q + 1) with | .no c x => .no c x | .ok hi r => if hi < v then .no 2 (r - 1) else .ok (spanF v (hi + 1)) r)) := Lib.hid (by rw [HX9.out, hie, if_pos rfl])
      have hq1 : q + 1 ≤ s.size := hgeq (by decide)
      have HQ1 := Lib.hid hq1
      have hq1' : (q : Int) < 1000 := by have := HM.out; omega
      obtain ⟨qi, hqi⟩ : ∃ qi : Int, qi = (q : Int) := ⟨_, rfl⟩
      have HS := HS
      rw [← hqi] at hq1'
      have hS : AtG w2 g 89 (rdr s qi o 0 x) := by rw [hqi]; exact HS.out
      have hqi0 : 0 ≤ qi := by omega
      clear HS
      have HS := Lib.hid hS; have HQI := Lib.hid hqi; clear hS hq1 hie hgeq hqi
      go_wp2_with fail
      refine (HPK.out).mono ?_
      rintro e9 w3 ⟨rfl, hb⟩
      have HS3 := Lib.hid (HS.out.below hb); have HR3 := Lib.hid (HR2.out.below hb); have HO3 := Lib.hid (HO2.out.tb hb)
      clear hb
      have z1 : w3.cell? ⟨g, 1, none⟩ = some (.int .i64 qi) := HS3.out.cell 1 _ rfl
      have f1 := HS3.out.frozen 1
      go_wp2_with fail
      have hat : AtG (w3.setCell ⟨g, 1, none⟩ (.int .i64 (qi + 1))) g 89 (rdr s ((q + 1 : Nat) : Int) o 0 x) := by
        rw [show ((q + 1 : Nat) : Int) = qi + 1 from by have := HQI.out; omega]; exact HS3.out.set 1 _
      have HR4 := Lib.hid (HR3.out.far (p := ⟨g, 1, none⟩) HG.out (.int .i64 (qi + 1)))
      have HO4 := Lib.hid (HO3.out.st g 1 (.int .i64 (qi + 1)) (.inl rfl))
      refine (member_any g s (q + 1) o x _ hat HQ1.out HM.out).mono ?_
      rintro e9 w5 ⟨hO5, hS5, v5, hv5, rfl, hq5⟩
      have HR5 := Lib.hid (HR4.out.only hO5 HG.out)
      have HO5 := Lib.hid (HO4.out.tr hO5)
      have HV5 := Lib.hid hv5
      clear hat HR4 HO4 hO5 hv5 HR3 HO3 HS3 z1 f1
      have hvI : (v : Int) < 256 := by have := HV.out; omega
      have hv5I : (v5 : Int) < 256 := by have := HV5.out; omega
      cases hmf : memberF s (q + 1) with
      | no cc yy =>
        rw [hmf] at hS5
        obtain ⟨pb, hS5⟩ := hS5
        have hcc : cc ≠ 0 := by have := (memberF_in s (q + 1) HQ1.out).1; rw [hmf] at this; have := this.1; omega
        have HX : Hid (R = .no cc yy) := Lib.hid (by rw [HX0.out, hmf])
        have HS5 := Lib.hid hS5; have HCC := Lib.hid hcc
        have z1 : w5.cell? ⟨g, 1, none⟩ = some (.int .i64 pb) := HS5.out.cell 1 _ rfl
        clear hS5 hq5 hcc hmf
        by_cases hlt : (v5 : Int) < (v : Int)
        · go_wp2_with fail
          refine (fail_no g s pb o cc yy _ 2 _ HS5.out HCC.out).mono ?_
          rintro e9 w9 ⟨rfl, hw9⟩; subst hw9
          go_wp2_with fail
          refine (rangeN v v5 _ HV.out HV5.out).mono ?_
          rintro e9 w4 ⟨rfl, hb⟩
          have HS4 := Lib.hid (HS5.out.below hb); have HR4 := Lib.hid (HR5.out.below hb); have HO4 := Lib.hid (HO5.out.tb hb)
          clear hb z1
          have d0 := (HR4.out).cell 0 _ rfl; have d1 := (HR4.out).cell 1 _ rfl; have d2 := (HR4.out).cell 2 _ rfl; have d3 := (HR4.out).cell 3 _ rfl
          have f0 := (HR4.out).frozen 0; have f1 := (HR4.out).frozen 1; have f2 := (HR4.out).frozen 2; have f3 := (HR4.out).frozen 3
          unfold setOf
          go_wp2_with fail
          refine bodyPost_ret (v := setOf (spanF v (v5 + 1))) (by simp [results, Try.results95, go_sem, d0, d1, d2, d3]; try rfl) rfl ⟨_, rfl, ?_, ?_, fun a q h => by rw [HX.out] at h; cases h⟩
          · rw [HX.out]; exact ⟨pb, putS_far HS4.out HG2.out _⟩
          · exact HO4.out.pS _ _ (.inr HZ.out)
        · go_wp2_with fail
          refine (rangeN v v5 _ HV.out HV5.out).mono ?_
          rintro e9 w4 ⟨rfl, hb⟩
          have HS4 := Lib.hid (HS5.out.below hb); have HR4 := Lib.hid (HR5.out.below hb); have HO4 := Lib.hid (HO5.out.tb hb)
          clear hb z1
          have d0 := (HR4.out).cell 0 _ rfl; have d1 := (HR4.out).cell 1 _ rfl; have d2 := (HR4.out).cell 2 _ rfl; have d3 := (HR4.out).cell 3 _ rfl
          have f0 := (HR4.out).frozen 0; have f1 := (HR4.out).frozen 1; have f2 := (HR4.out).frozen 2; have f3 := (HR4.out).frozen 3
          unfold setOf
          go_wp2_with fail
          refine bodyPost_ret (v := setOf (spanF v (v5 + 1))) (by simp [results, Try.results95, go_sem, d0, d1, d2, d3]; try rfl) rfl ⟨_, rfl, ?_, ?_, fun a q h => by rw [HX.out] at h; cases h⟩
          · rw [HX.out]; exact ⟨pb, putS_far HS4.out HG2.out _⟩
          · exact HO4.out.pS _ _ (.inr HZ.out)
      | ok hi r =>
        rw [hmf] at hS5 hq5
        obtain rfl := hq5 hi r rfl
        have hr0 : q + 2 ≤ r ∧ r ≤ s.size := by have := (memberF_in s (q + 1) HQ1.out).1; rw [hmf] at this; exact this
        have HX1 : Hid (R = (if v5 < v then .no 2 (r - 1) else .ok (spanF v (v5 + 1)) r)) := Lib.hid (by rw [HX0.out, hmf])
        obtain ⟨ri, hri⟩ : ∃ ri : Int, ri = (r : Int) := ⟨_, rfl⟩
        have hS5 : AtG w5 g 89 (rdr s ri o 0 x) := by rw [hri]; exact hS5
        have HS5 := Lib.hid hS5
        have z1 : w5.cell? ⟨g, 1, none⟩ = some (.int .i64 ri) := HS5.out.cell 1 _ rfl
        have hr1 : ri - 1 = ((r - 1 : Nat) : Int) := by omega
        have HR1 := Lib.hid hr1
        have hr2 : 0 ≤ ri - 1 := by omega
        have hr3 : ri < 10000 := by have := HM.out; omega
        have HRI := Lib.hid hri
        clear hS5 hq5 hmf hri hr0
        by_cases hlt : (v5 : Int) < (v : Int)
        · have HX : Hid (R = .no 2 (r - 1)) := Lib.hid (by rw [HX1.out, if_pos (by omega)])
          go_wp2_with fail
          refine (failO g s ri o x _ 2 _ HS5.out).mono ?_
          rintro e9 w6 ⟨rfl, hA6, hO6⟩
          have HS6 := Lib.hid hA6; have HR6 := Lib.hid (HR5.out.only hO6 HG.out); have HO6 := Lib.hid (HO5.out.tr hO6)
          clear hA6 hO6 z1
          go_wp2_with fail
          refine (rangeN v v5 _ HV.out HV5.out).mono ?_
          rintro e9 w4 ⟨rfl, hb⟩
          have HS4 := Lib.hid (HS6.out.below hb); have HR4 := Lib.hid (HR6.out.below hb); have HO4 := Lib.hid (HO6.out.tb hb)
          clear hb
          have d0 := (HR4.out).cell 0 _ rfl; have d1 := (HR4.out).cell 1 _ rfl; have d2 := (HR4.out).cell 2 _ rfl; have d3 := (HR4.out).cell 3 _ rfl
          have f0 := (HR4.out).frozen 0; have f1 := (HR4.out).frozen 1; have f2 := (HR4.out).frozen 2; have f3 := (HR4.out).frozen 3
          unfold setOf
          go_wp2_with fail
          refine bodyPost_ret (v := setOf (spanF v (v5 + 1))) (by simp [results, Try.results95, go_sem, d0, d1, d2, d3]; try rfl) rfl ⟨_, rfl, ?_, ?_, fun a q h => by rw [HX.out] at h; cases h⟩
          · rw [HX.out]; exact ⟨ri, putS_far (by first | exact HS4.out | (rw [← HR1.out]; exact HS4.out)) HG2.out _⟩
          · exact HO4.out.pS _ _ (.inr HZ.out)
        · have HX : Hid (R = .ok (spanF v (v5 + 1)) r) := Lib.hid (by rw [HX1.out, if_neg (by omega)])
          go_wp2_with fail
          refine (rangeN v v5 _ HV.out HV5.out).mono ?_
          rintro e9 w4 ⟨rfl, hb⟩
          have HS4 := Lib.hid (HS5.out.below hb); have HR4 := Lib.hid (HR5.out.below hb); have HO4 := Lib.hid (HO5.out.tb hb)
          clear hb z1
          have d0 := (HR4.out).cell 0 _ rfl; have d1 := (HR4.out).cell 1 _ rfl; have d2 := (HR4.out).cell 2 _ rfl; have d3 := (HR4.out).cell 3 _ rfl
          have f0 := (HR4.out).frozen 0; have f1 := (HR4.out).frozen 1; have f2 := (HR4.out).frozen 2; have f3 := (HR4.out).frozen 3
          unfold setOf
          go_wp2_with fail
          refine bodyPost_ret (v := setOf (spanF v (v5 + 1))) (by simp [results, Try.results95, go_sem, d0, d1, d2, d3]; try rfl) rfl ⟨_, rfl, ?_, ?_, fun a q h => by rw [HX.out] at h; injection h⟩
          · rw [HX.out]; show AtG _ g _ (rdr s (r : Int) o 0 x); rw [← HRI.out]; exact putS_far HS4.out HG2.out _
          · exact HO4.out.pS _ _ (.inr HZ.out)
    · have HX : Hid (R = .ok (spanF v (v + 1)) q) := Lib.hid (by rw [HX9.out, hie, if_neg h45])
      have e45 : (c == 45) = false := by rw [beq_eq_false_iff_ne]; exact h45
      clear h45 hie hgeq
      go_wp2_with fail
      refine (HPK.out).mono ?_
      rintro e9 w3 ⟨rfl, hb⟩
      have HS3 := Lib.hid (HS.out.below hb); have HR3 := Lib.hid (HR2.out.below hb); have HO3 := Lib.hid (HO2.out.tb hb)
      clear hb
      go_wp2_with fail
      refine (rangeN v v _ HV.out HV.out).mono ?_
      rintro e9 w4 ⟨rfl, hb⟩
      have HS4 := Lib.hid (HS3.out.below hb); have HR4 := Lib.hid (HR3.out.below hb); have HO4 := Lib.hid (HO3.out.tb hb)
      clear hb
      have d0 := (HR4.out).cell 0 _ rfl; have d1 := (HR4.out).cell 1 _ rfl; have d2 := (HR4.out).cell 2 _ rfl; have d3 := (HR4.out).cell 3 _ rfl
      have f0 := (HR4.out).frozen 0; have f1 := (HR4.out).frozen 1; have f2 := (HR4.out).frozen 2; have f3 := (HR4.out).frozen 3
      unfold setOf
      go_wp2_with fail
      refine bodyPost_ret (v := setOf (spanF v (v + 1))) (by simp [results, Try.results95, go_sem, d0, d1, d2, d3]; try rfl) rfl ⟨_, rfl, ?_, ?_, fun a q h => by rw [HX.out] at h; injection h⟩
      · rw [HX.out]; exact putS_far HS4.out HG2.out _
      · exact HO4.out.pS _ _ (.inr HZ.out)
set_option maxRecDepth 100000 in
set_option maxHeartbeats 1600000 in
theorem item_last (g : Nat) (s : ByteArray) (p : Nat) (o x : Int) (w : World) (h : AtG w g 89 (rdr s p o 0 x)) (hp : p ≤ s.size) (hm : s.size ≤ 1000) (h92 : ch s p = 92) (hn : ¬ p + 1 < s.size) :
    Calls Try.prog 95 #[.pointer (some ⟨g, 0, none⟩)] w fun e w' => ∃ F : Nat → Bool, e = .returned (setOf F) ∧ StR s g o x (itemF s p) w' ∧ Only (fun k => k = g) w w' ∧ ∀ f q, itemF s p = .ok f q → F = f := by
  have HP := Lib.hid hp; have HM := Lib.hid hm
  have HR0 := Lib.hid (AtG.new w 26 (setC 0 0 0 0))
  have HA0 := Lib.hid (h.alloc (.cells (setC 0 0 0 0) 26))
  have HO0 := Lib.hid ((Only.refl (S := fun k => k = g) w).al (.cells (setC 0 0 0 0) 26))
  have HG : Hid (w.heap.size ≠ g) := Lib.hid (by have := h.lt; omega)
  have HG2 : Hid (g ≠ w.heap.size) := Lib.hid (by have := h.lt; omega)
  have HZ : Hid (w.heap.size ≤ w.heap.size) := Lib.hid (Nat.le_refl _)
  have HPK := Lib.hid (fun w h => peek_any g s p o x w h)
  have hif : ∀ c, ch s p = c → itemF s p = if c = 92 ∧ p + 1 < s.size then (match wideF (ch s (p + 1)) with | some f => .ok f (p + 2) | none => itemE s (memberF s p)) else itemE s (memberF s p) := fun c hc => by unfold itemF; rw [hc]; rfl
  generalize ch s p = c at *
  rw [hif c rfl]
  clear hif h hp hm
  have hpI : (p : Int) < 1001 := by have := HP.out; have := HM.out; omega
  subst h92
  rw [if_neg (fun h => hn h.2)]
  have hnI : ¬ (p : Int) + 1 < (s.size : Int) := by omega
  have hwp : IntKind.i64.wrap ((p : Int) + 1) = (p : Int) + 1 := by rw [IntKind.wrap_i64]; omega
  obtain ⟨R, hR⟩ : ∃ R, R = itemE s (memberF s p) := ⟨_, rfl⟩
  rw [← hR]
  have HR0X := Lib.hid hR
  clear hR hn
  go_enter Try.func95, Try.ntmps95
  go_upto_region 1 with (fail)
  refine Rg.wp_region_each (by kernel_rfl) (fun w' => AtG w' g 89 (rdr s p o 0 x) ∧ AtG w' w.heap.size 26 (setC 0 0 0 0) ∧ Only (fun k => k = g) w w') (fun w1 w2 h hb => ⟨h.1.below hb, h.2.1.below hb, h.2.2.tb hb⟩) (by kernel_rfl) (by kernel_rfl) (⟨HA0.out, HR0.out, HO0.out⟩) ?_
  show Rg.Build _ _ _ _ _ 0 [_, _, _, _, _, _, _, _, _, _, _, _, _, _, _, _] []
  refine Rg.build_cons (m := 1) (r := Rg.eq _) (Rg.one_plain (by rfl) (by (intro ax wx hk Kx hK; have k0 := hk.base 0 _ rfl rfl; have hj := hk.j; clear hk; have z1 : wx.cell? ⟨g, 1, none⟩ = some (.int .i64 (p : Int)) := hj.1.cell 1 _ rfl; have z0 : wx.cell? ⟨g, 0, none⟩ = some (.string s) := hj.1.cell 0 _ rfl; go_simp; refine hK _ _ ?_ (Below.refl _ _); apply Rg.mk))) ?_ rfl
  refine Rg.build_cons (m := 2) (r := Rg.eq _) (Rg.one_plain (by rfl) (by (intro ax wx hk Kx hK; obtain ⟨v7, k7, h7⟩ := hk.dep 0 7 _ rfl rfl rfl; (first | (cases (h7 : v7 = _)) | (obtain ⟨rfl, h7⟩ := h7) | skip); have hj := hk.j; clear hk; have z1 : wx.cell? ⟨g, 1, none⟩ = some (.int .i64 (p : Int)) := hj.1.cell 1 _ rfl; have z0 : wx.cell? ⟨g, 0, none⟩ = some (.string s) := hj.1.cell 0 _ rfl; go_simp; refine (HPK.out _ hj.1).mono ?_; rintro e w' ⟨rfl, hb⟩; refine hK _ _ ?_ hb; apply Rg.mk))) ?_ rfl
  refine Rg.build_cons (m := 3) (r := Rg.eq (.bool true)) (Rg.one_plain (by rfl) (by (intro ax wx hk Kx hK; obtain ⟨v8, k8, h8⟩ := hk.dep 1 8 _ rfl rfl rfl; (first | (cases (h8 : v8 = _)) | (obtain ⟨rfl, h8⟩ := h8) | skip); have hj := hk.j; clear hk; have z1 : wx.cell? ⟨g, 1, none⟩ = some (.int .i64 (p : Int)) := hj.1.cell 1 _ rfl; have z0 : wx.cell? ⟨g, 0, none⟩ = some (.string s) := hj.1.cell 0 _ rfl; (go_simp; refine hK _ _ ?_ (Below.refl _ _); simp [Rg.eq])))) ?_ rfl
  refine Rg.build_cons (m := 4) (r := Rg.eq _) (Rg.one_plain (by rfl) (by (intro ax wx hk Kx hK; obtain ⟨v9, k9, h9⟩ := hk.dep 2 9 _ rfl rfl rfl; (first | (cases (h9 : v9 = _)) | (obtain ⟨rfl, h9⟩ := h9) | skip); have hj := hk.j; clear hk; have z1 : wx.cell? ⟨g, 1, none⟩ = some (.int .i64 (p : Int)) := hj.1.cell 1 _ rfl; have z0 : wx.cell? ⟨g, 0, none⟩ = some (.string s) := hj.1.cell 0 _ rfl; go_simp; refine hK _ _ ?_ (Below.refl _ _); apply Rg.mk))) ?_ rfl
  first
    | refine Rg.build_cons (m := 5) (Rg.one_no 3 10 true (by rfl) (by rfl) (by rfl) (by rfl)) ?_ rfl
    | refine Rg.build_cons (m := 5) (r := Rg.eq _) (Rg.one_yes 3 10 true (by rfl) (by rfl) (by rfl) (by rfl) (by (intro ax wx hk Kx hK; have k0 := hk.base 0 _ rfl rfl; have hj := hk.j; clear hk; have z1 : wx.cell? ⟨g, 1, none⟩ = some (.int .i64 (p : Int)) := hj.1.cell 1 _ rfl; have z0 : wx.cell? ⟨g, 0, none⟩ = some (.string s) := hj.1.cell 0 _ rfl; go_simp; refine hK _ _ ?_ (Below.refl _ _); apply Rg.mk))) ?_ rfl
  first
    | refine Rg.build_cons (m := 6) (Rg.one_no 3 10 true (by rfl) (by rfl) (by rfl) (by rfl)) ?_ rfl
    | refine Rg.build_cons (m := 6) (r := Rg.eq _) (Rg.one_yes 3 10 true (by rfl) (by rfl) (by rfl) (by rfl) (by (intro ax wx hk Kx hK; obtain ⟨v11, k11, h11⟩ := hk.dep 4 11 _ rfl rfl rfl; (first | (cases (h11 : v11 = _)) | (obtain ⟨rfl, h11⟩ := h11) | skip); have hj := hk.j; clear hk; have z1 : wx.cell? ⟨g, 1, none⟩ = some (.int .i64 (p : Int)) := hj.1.cell 1 _ rfl; have z0 : wx.cell? ⟨g, 0, none⟩ = some (.string s) := hj.1.cell 0 _ rfl; go_simp; refine hK _ _ ?_ (Below.refl _ _); apply Rg.mk))) ?_ rfl
  first
    | refine Rg.build_cons (m := 7) (Rg.one_no 3 10 true (by rfl) (by rfl) (by rfl) (by rfl)) ?_ rfl
    | refine Rg.build_cons (m := 7) (r := Rg.eq _) (Rg.one_yes 3 10 true (by rfl) (by rfl) (by rfl) (by rfl) (by (intro ax wx hk Kx hK; obtain ⟨v12, k12, h12⟩ := hk.dep 5 12 _ rfl rfl rfl; (first | (cases (h12 : v12 = _)) | (obtain ⟨rfl, h12⟩ := h12) | skip); have hj := hk.j; clear hk; have z1 : wx.cell? ⟨g, 1, none⟩ = some (.int .i64 (p : Int)) := hj.1.cell 1 _ rfl; have z0 : wx.cell? ⟨g, 0, none⟩ = some (.string s) := hj.1.cell 0 _ rfl; go_simp; refine hK _ _ ?_ (Below.refl _ _); apply Rg.mk))) ?_ rfl
  first
    | refine Rg.build_cons (m := 8) (Rg.one_no 3 10 true (by rfl) (by rfl) (by rfl) (by rfl)) ?_ rfl
    | refine Rg.build_cons (m := 8) (r := Rg.eq _) (Rg.one_yes 3 10 true (by rfl) (by rfl) (by rfl) (by rfl) (by (intro ax wx hk Kx hK; obtain ⟨v13, k13, h13⟩ := hk.dep 6 13 _ rfl rfl rfl; (first | (cases (h13 : v13 = _)) | (obtain ⟨rfl, h13⟩ := h13) | skip); have hj := hk.j; clear hk; have z1 : wx.cell? ⟨g, 1, none⟩ = some (.int .i64 (p : Int)) := hj.1.cell 1 _ rfl; have z0 : wx.cell? ⟨g, 0, none⟩ = some (.string s) := hj.1.cell 0 _ rfl; go_simp; refine hK _ _ ?_ (Below.refl _ _); apply Rg.mk))) ?_ rfl
  first
    | refine Rg.build_cons (m := 9) (Rg.one_no 3 10 true (by rfl) (by rfl) (by rfl) (by rfl)) ?_ rfl
    | refine Rg.build_cons (m := 9) (r := Rg.eq (.int .i64 ((p : Int) + 1))) (Rg.one_yes 3 10 true (by rfl) (by rfl) (by rfl) (by rfl) (by (intro ax wx hk Kx hK; obtain ⟨v14, k14, h14⟩ := hk.dep 7 14 _ rfl rfl rfl; (first | (cases (h14 : v14 = _)) | (obtain ⟨rfl, h14⟩ := h14) | skip); have hj := hk.j; clear hk; have z1 : wx.cell? ⟨g, 1, none⟩ = some (.int .i64 (p : Int)) := hj.1.cell 1 _ rfl; have z0 : wx.cell? ⟨g, 0, none⟩ = some (.string s) := hj.1.cell 0 _ rfl; (go_simp; refine hK _ _ ?_ (Below.refl _ _); simp [Rg.eq, hwp])))) ?_ rfl
  first
    | refine Rg.build_cons (m := 10) (Rg.one_no 3 10 true (by rfl) (by rfl) (by rfl) (by rfl)) ?_ rfl
    | refine Rg.build_cons (m := 10) (r := Rg.eq _) (Rg.one_yes 3 10 true (by rfl) (by rfl) (by rfl) (by rfl) (by (intro ax wx hk Kx hK; have k0 := hk.base 0 _ rfl rfl; have hj := hk.j; clear hk; have z1 : wx.cell? ⟨g, 1, none⟩ = some (.int .i64 (p : Int)) := hj.1.cell 1 _ rfl; have z0 : wx.cell? ⟨g, 0, none⟩ = some (.string s) := hj.1.cell 0 _ rfl; go_simp; refine hK _ _ ?_ (Below.refl _ _); apply Rg.mk))) ?_ rfl
  first
    | refine Rg.build_cons (m := 11) (Rg.one_no 3 10 true (by rfl) (by rfl) (by rfl) (by rfl)) ?_ rfl
    | refine Rg.build_cons (m := 11) (r := Rg.eq _) (Rg.one_yes 3 10 true (by rfl) (by rfl) (by rfl) (by rfl) (by (intro ax wx hk Kx hK; obtain ⟨v16, k16, h16⟩ := hk.dep 9 16 _ rfl rfl rfl; (first | (cases (h16 : v16 = _)) | (obtain ⟨rfl, h16⟩ := h16) | skip); have hj := hk.j; clear hk; have z1 : wx.cell? ⟨g, 1, none⟩ = some (.int .i64 (p : Int)) := hj.1.cell 1 _ rfl; have z0 : wx.cell? ⟨g, 0, none⟩ = some (.string s) := hj.1.cell 0 _ rfl; go_simp; refine hK _ _ ?_ (Below.refl _ _); apply Rg.mk))) ?_ rfl
  first
    | refine Rg.build_cons (m := 12) (Rg.one_no 3 10 true (by rfl) (by rfl) (by rfl) (by rfl)) ?_ rfl
    | refine Rg.build_cons (m := 12) (r := Rg.eq _) (Rg.one_yes 3 10 true (by rfl) (by rfl) (by rfl) (by rfl) (by (intro ax wx hk Kx hK; obtain ⟨v17, k17, h17⟩ := hk.dep 10 17 _ rfl rfl rfl; (first | (cases (h17 : v17 = _)) | (obtain ⟨rfl, h17⟩ := h17) | skip); have hj := hk.j; clear hk; have z1 : wx.cell? ⟨g, 1, none⟩ = some (.int .i64 (p : Int)) := hj.1.cell 1 _ rfl; have z0 : wx.cell? ⟨g, 0, none⟩ = some (.string s) := hj.1.cell 0 _ rfl; go_simp; refine hK _ _ ?_ (Below.refl _ _); apply Rg.mk))) ?_ rfl
  first
    | refine Rg.build_cons (m := 13) (Rg.one_no 3 10 true (by rfl) (by rfl) (by rfl) (by rfl)) ?_ rfl
    | refine Rg.build_cons (m := 13) (r := Rg.eq _) (Rg.one_yes 3 10 true (by rfl) (by rfl) (by rfl) (by rfl) (by (intro ax wx hk Kx hK; obtain ⟨v18, k18, h18⟩ := hk.dep 11 18 _ rfl rfl rfl; (first | (cases (h18 : v18 = _)) | (obtain ⟨rfl, h18⟩ := h18) | skip); have hj := hk.j; clear hk; have z1 : wx.cell? ⟨g, 1, none⟩ = some (.int .i64 (p : Int)) := hj.1.cell 1 _ rfl; have z0 : wx.cell? ⟨g, 0, none⟩ = some (.string s) := hj.1.cell 0 _ rfl; go_simp; refine hK _ _ ?_ (Below.refl _ _); apply Rg.mk))) ?_ rfl
  first
    | refine Rg.build_cons (m := 14) (Rg.one_no 3 10 true (by rfl) (by rfl) (by rfl) (by rfl)) ?_ rfl
    | refine Rg.build_cons (m := 14) (r := Rg.eq _) (Rg.one_yes 3 10 true (by rfl) (by rfl) (by rfl) (by rfl) (by (intro ax wx hk Kx hK; obtain ⟨v19, k19, h19⟩ := hk.dep 12 19 _ rfl rfl rfl; (first | (cases (h19 : v19 = _)) | (obtain ⟨rfl, h19⟩ := h19) | skip); have hj := hk.j; clear hk; have z1 : wx.cell? ⟨g, 1, none⟩ = some (.int .i64 (p : Int)) := hj.1.cell 1 _ rfl; have z0 : wx.cell? ⟨g, 0, none⟩ = some (.string s) := hj.1.cell 0 _ rfl; go_simp; refine hK _ _ ?_ (Below.refl _ _); apply Rg.mk))) ?_ rfl
  first
    | refine Rg.build_cons (m := 15) (Rg.one_no 3 10 true (by rfl) (by rfl) (by rfl) (by rfl)) ?_ rfl
    | refine Rg.build_cons (m := 15) (r := Rg.eq (.bool false)) (Rg.one_yes 3 10 true (by rfl) (by rfl) (by rfl) (by rfl) (by (intro ax wx hk Kx hK; obtain ⟨v15, k15, h15⟩ := hk.dep 8 15 _ rfl rfl rfl; (first | (cases (h15 : v15 = _)) | (obtain ⟨rfl, h15⟩ := h15) | skip); obtain ⟨v20, k20, h20⟩ := hk.dep 13 20 _ rfl rfl rfl; (first | (cases (h20 : v20 = _)) | (obtain ⟨rfl, h20⟩ := h20) | skip); have hj := hk.j; clear hk; have z1 : wx.cell? ⟨g, 1, none⟩ = some (.int .i64 (p : Int)) := hj.1.cell 1 _ rfl; have z0 : wx.cell? ⟨g, 0, none⟩ = some (.string s) := hj.1.cell 0 _ rfl; (go_simp; refine hK _ _ ?_ (Below.refl _ _); simp [Rg.eq, hnI]; try omega)))) ?_ rfl
  refine Rg.build_cons (m := 16) (r := Rg.eq _) (Rg.one_plain (by rfl) (by (intro ax wx hk Kx hK; obtain ⟨v10, k10, h10⟩ := hk.dep 3 10 _ rfl rfl rfl; (first | (cases (h10 : v10 = _)) | (obtain ⟨rfl, h10⟩ := h10) | skip); obtain ⟨v21, k21, h21⟩ := hk.dep 14 21 _ rfl rfl rfl; (first | (cases (h21 : v21 = _)) | (obtain ⟨rfl, h21⟩ := h21) | skip); have hj := hk.j; clear hk; have z1 : wx.cell? ⟨g, 1, none⟩ = some (.int .i64 (p : Int)) := hj.1.cell 1 _ rfl; have z0 : wx.cell? ⟨g, 0, none⟩ = some (.string s) := hj.1.cell 0 _ rfl; go_simp; refine hK _ _ ?_ (Below.refl _ _); apply Rg.mk))) ?_ rfl
  refine Rg.build_end fun wx hj => ?_
  refine Rg.fin_eq rfl ?_
  refine Rg.fin_eq rfl ?_
  first | refine Rg.fin_eq rfl ?_ | refine Rg.fin_any rfl fun v9 h9 => ?_
  refine Rg.fin_eq rfl ?_
  refine Rg.fin_eq rfl ?_
  refine Rg.fin_eq rfl ?_
  refine Rg.fin_eq rfl ?_
  refine Rg.fin_eq rfl ?_
  first | refine Rg.fin_eq rfl ?_ | refine Rg.fin_any rfl fun v15 h15 => ?_
  refine Rg.fin_eq rfl ?_
  refine Rg.fin_eq rfl ?_
  refine Rg.fin_eq rfl ?_
  refine Rg.fin_eq rfl ?_
  refine Rg.fin_eq rfl ?_
  first | refine Rg.fin_eq rfl ?_ | refine Rg.fin_any rfl fun v21 h21 => ?_
  refine Rg.fin_eq rfl ?_
  refine Rg.fin_nil ?_
  simp only [List.set_cons_zero, List.set_cons_succ]
  have HA := Lib.hid hj.1; have HR := Lib.hid hj.2.1; have HO := Lib.hid hj.2.2
  clear hj
  go_wp2_with fail
  refine (member_any g s p o x _ HA.out HP.out HM.out).mono ?_
  rintro e9 w2 ⟨hO2, hS, v, hv, rfl, hq⟩
  have HR2 := Lib.hid (HR.out.only hO2 HG.out)
  have HO2 := Lib.hid (HO.out.tr hO2)
  have HV := Lib.hid hv
  clear hO2 hv
  cases hmf : memberF s p with
  | no cc yy =>
    rw [hmf] at hS
    obtain ⟨pb, hS⟩ := hS
    have hcc : cc ≠ 0 := by have := (memberF_in s p HP.out).1; rw [hmf] at this; have := this.1; omega
    have HX : Hid (R = .no cc yy) := Lib.hid (by rw [HR0X.out, hmf]; rfl)
    have HS := Lib.hid hS; have HCC := Lib.hid hcc
    clear hS hq hcc hmf
    go_wp2_with fail
    refine (peek_bad g s pb o cc yy _ HS.out HCC.out).mono ?_
    rintro e9 w3 ⟨rfl, hb⟩
    have HS3 := Lib.hid (HS.out.below hb); have HR3 := Lib.hid (HR2.out.below hb); have HO3 := Lib.hid (HO2.out.tb hb)
    clear hb
    go_wp2_with fail
    refine (rangeN v v _ HV.out HV.out).mono ?_
    rintro e9 w4 ⟨rfl, hb⟩
    have HS4 := Lib.hid (HS3.out.below hb); have HR4 := Lib.hid (HR3.out.below hb); have HO4 := Lib.hid (HO3.out.tb hb)
    clear hb
    have d0 := (HR4.out).cell 0 _ rfl; have d1 := (HR4.out).cell 1 _ rfl; have d2 := (HR4.out).cell 2 _ rfl; have d3 := (HR4.out).cell 3 _ rfl
    have f0 := (HR4.out).frozen 0; have f1 := (HR4.out).frozen 1; have f2 := (HR4.out).frozen 2; have f3 := (HR4.out).frozen 3
    unfold setOf
    go_wp2_with fail
    refine bodyPost_ret (v := setOf (spanF v (v + 1))) (by simp [results, Try.results95, go_sem, d0, d1, d2, d3]; try rfl) rfl ⟨_, rfl, ?_, ?_, fun a q h => by rw [HX.out] at h; cases h⟩
    · rw [HX.out]; exact ⟨pb, putS_far HS4.out HG2.out _⟩
    · exact HO4.out.pS _ _ (.inr HZ.out)
  | ok lo q =>
    rw [hmf] at hS hq
    obtain rfl := hq lo q rfl
    have hq0 : q ≤ s.size := by have := (memberF_in s p HP.out).1; rw [hmf] at this; exact this.2
    have HS := Lib.hid hS; have HQ := Lib.hid hq0
    clear hS hq
    have HPK := Lib.hid (peek_any g s q o x _ HS.out)
    have HX9 : Hid (R = itemE s (.ok v q)) := Lib.hid (by rw [HR0X.out, hmf])
    clear hmf
    have hie : ∀ c, ch s q = c → itemE s (.ok v q) = if c = 45 then (match memberF s (q + 1) with | .no c x => .no c x | .ok hi r => if hi < v then .no 2 (r - 1) else .ok (spanF v (hi + 1)) r) else .ok (spanF v (v + 1)) q := fun c hc => by rw [itemE, hc]; rfl
    have hgeq : 0 ≤ ch s q → q < s.size := ch_ge
    generalize ch s q = c at *
    have hie := hie c rfl
    by_cases h45 : c = 45
    · subst h45
      have HX0 : Hid (R = (match memberF s (q + 1) with | .no c x => .no c x | .ok hi r => if hi < v then .no 2 (r - 1) else .ok (spanF v (hi + 1)) r)) := Lib.hid (by rw [HX9.out, hie, if_pos rfl])
      have hq1 : q + 1 ≤ s.size := hgeq (by decide)
      have HQ1 := Lib.hid hq1
      have hq1' : (q : Int) < 1000 := by have := HM.out; omega
      obtain ⟨qi, hqi⟩ : ∃ qi : Int, qi = (q : Int) := ⟨_, rfl⟩
      have HS := HS
      rw [← hqi] at hq1'
      have hS : AtG w2 g 89 (rdr s qi o 0 x) := by rw [hqi]; exact HS.out
      have hqi0 : 0 ≤ qi := by omega
      clear HS
      have HS := Lib.hid hS; have HQI := Lib.hid hqi; clear hS hq1 hie hgeq hqi
      go_wp2_with fail
      refine (HPK.out).mono ?_
      rintro e9 w3 ⟨rfl, hb⟩
      have HS3 := Lib.hid (HS.out.below hb); have HR3 := Lib.hid (HR2.out.below hb); have HO3 := Lib.hid (HO2.out.tb hb)
      clear hb
      have z1 : w3.cell? ⟨g, 1, none⟩ = some (.int .i64 qi) := HS3.out.cell 1 _ rfl
      have f1 := HS3.out.frozen 1
      go_wp2_with fail
      have hat : AtG (w3.setCell ⟨g, 1, none⟩ (.int .i64 (qi + 1))) g 89 (rdr s ((q + 1 : Nat) : Int) o 0 x) := by
        rw [show ((q + 1 : Nat) : Int) = qi + 1 from by have := HQI.out; omega]; exact HS3.out.set 1 _
      have HR4 := Lib.hid (HR3.out.far (p := ⟨g, 1, none⟩) HG.out (.int .i64 (qi + 1)))
      have HO4 := Lib.hid (HO3.out.st g 1 (.int .i64 (qi + 1)) (.inl rfl))
      refine (member_any g s (q + 1) o x _ hat HQ1.out HM.out).mono ?_
      rintro e9 w5 ⟨hO5, hS5, v5, hv5, rfl, hq5⟩
      have HR5 := Lib.hid (HR4.out.only hO5 HG.out)
      have HO5 := Lib.hid (HO4.out.tr hO5)
      have HV5 := Lib.hid hv5
      clear hat HR4 HO4 hO5 hv5 HR3 HO3 HS3 z1 f1
      have hvI : (v : Int) < 256 := by have := HV.out; omega
      have hv5I : (v5 : Int) < 256 := by have := HV5.out; omega
      cases hmf : memberF s (q + 1) with
      | no cc yy =>
        rw [hmf] at hS5
        obtain ⟨pb, hS5⟩ := hS5
        have hcc : cc ≠ 0 := by have := (memberF_in s (q + 1) HQ1.out).1; rw [hmf] at this; have := this.1; omega
        have HX : Hid (R = .no cc yy) := Lib.hid (by rw [HX0.out, hmf])
        have HS5 := Lib.hid hS5; have HCC := Lib.hid hcc
        have z1 : w5.cell? ⟨g, 1, none⟩ = some (.int .i64 pb) := HS5.out.cell 1 _ rfl
        clear hS5 hq5 hcc hmf
        by_cases hlt : (v5 : Int) < (v : Int)
        · go_wp2_with fail
          refine (fail_no g s pb o cc yy _ 2 _ HS5.out HCC.out).mono ?_
          rintro e9 w9 ⟨rfl, hw9⟩; subst hw9
          go_wp2_with fail
          refine (rangeN v v5 _ HV.out HV5.out).mono ?_
          rintro e9 w4 ⟨rfl, hb⟩
          have HS4 := Lib.hid (HS5.out.below hb); have HR4 := Lib.hid (HR5.out.below hb); have HO4 := Lib.hid (HO5.out.tb hb)
          clear hb z1
          have d0 := (HR4.out).cell 0 _ rfl; have d1 := (HR4.out).cell 1 _ rfl; have d2 := (HR4.out).cell 2 _ rfl; have d3 := (HR4.out).cell 3 _ rfl
          have f0 := (HR4.out).frozen 0; have f1 := (HR4.out).frozen 1; have f2 := (HR4.out).frozen 2; have f3 := (HR4.out).frozen 3
          unfold setOf
          go_wp2_with fail
          refine bodyPost_ret (v := setOf (spanF v (v5 + 1))) (by simp [results, Try.results95, go_sem, d0, d1, d2, d3]; try rfl) rfl ⟨_, rfl, ?_, ?_, fun a q h => by rw [HX.out] at h; cases h⟩
          · rw [HX.out]; exact ⟨pb, putS_far HS4.out HG2.out _⟩
          · exact HO4.out.pS _ _ (.inr HZ.out)
        · go_wp2_with fail
          refine (rangeN v v5 _ HV.out HV5.out).mono ?_
          rintro e9 w4 ⟨rfl, hb⟩
          have HS4 := Lib.hid (HS5.out.below hb); have HR4 := Lib.hid (HR5.out.below hb); have HO4 := Lib.hid (HO5.out.tb hb)
          clear hb z1
          have d0 := (HR4.out).cell 0 _ rfl; have d1 := (HR4.out).cell 1 _ rfl; have d2 := (HR4.out).cell 2 _ rfl; have d3 := (HR4.out).cell 3 _ rfl
          have f0 := (HR4.out).frozen 0; have f1 := (HR4.out).frozen 1; have f2 := (HR4.out).frozen 2; have f3 := (HR4.out).frozen 3
          unfold setOf
          go_wp2_with fail
          refine bodyPost_ret (v := setOf (spanF v (v5 + 1))) (by simp [results, Try.results95, go_sem, d0, d1, d2, d3]; try rfl) rfl ⟨_, rfl, ?_, ?_, fun a q h => by rw [HX.out] at h; cases h⟩
          · rw [HX.out]; exact ⟨pb, putS_far HS4.out HG2.out _⟩
          · exact HO4.out.pS _ _ (.inr HZ.out)
      | ok hi r =>
        rw [hmf] at hS5 hq5
        obtain rfl := hq5 hi r rfl
        have hr0 : q + 2 ≤ r ∧ r ≤ s.size := by have := (memberF_in s (q + 1) HQ1.out).1; rw [hmf] at this; exact this
        have HX1 : Hid (R = (if v5 < v then .no 2 (r - 1) else .ok (spanF v (v5 + 1)) r)) := Lib.hid (by rw [HX0.out, hmf])
        obtain ⟨ri, hri⟩ : ∃ ri : Int, ri = (r : Int) := ⟨_, rfl⟩
        have hS5 : AtG w5 g 89 (rdr s ri o 0 x) := by rw [hri]; exact hS5
        have HS5 := Lib.hid hS5
        have z1 : w5.cell? ⟨g, 1, none⟩ = some (.int .i64 ri) := HS5.out.cell 1 _ rfl
        have hr1 : ri - 1 = ((r - 1 : Nat) : Int) := by omega
        have HR1 := Lib.hid hr1
        have hr2 : 0 ≤ ri - 1 := by omega
        have hr3 : ri < 10000 := by have := HM.out; omega
        have HRI := Lib.hid hri
        clear hS5 hq5 hmf hri hr0
        by_cases hlt : (v5 : Int) < (v : Int)
        · have HX : Hid (R = .no 2 (r - 1)) := Lib.hid (by rw [HX1.out, if_pos (by omega)])
          go_wp2_with fail
          refine (failO g s ri o x _ 2 _ HS5.out).mono ?_
          rintro e9 w6 ⟨rfl, hA6, hO6⟩
          have HS6 := Lib.hid hA6; have HR6 := Lib.hid (HR5.out.only hO6 HG.out); have HO6 := Lib.hid (HO5.out.tr hO6)
          clear hA6 hO6 z1
          go_wp2_with fail
          refine (rangeN v v5 _ HV.out HV5.out).mono ?_
          rintro e9 w4 ⟨rfl, hb⟩
          have HS4 := Lib.hid (HS6.out.below hb); have HR4 := Lib.hid (HR6.out.below hb); have HO4 := Lib.hid (HO6.out.tb hb)
          clear hb
          have d0 := (HR4.out).cell 0 _ rfl; have d1 := (HR4.out).cell 1 _ rfl; have d2 := (HR4.out).cell 2 _ rfl; have d3 := (HR4.out).cell 3 _ rfl
          have f0 := (HR4.out).frozen 0; have f1 := (HR4.out).frozen 1; have f2 := (HR4.out).frozen 2; have f3 := (HR4.out).frozen 3
          unfold setOf
          go_wp2_with fail
          refine bodyPost_ret (v := setOf (spanF v (v5 + 1))) (by simp [results, Try.results95, go_sem, d0, d1, d2, d3]; try rfl) rfl ⟨_, rfl, ?_, ?_, fun a q h => by rw [HX.out] at h; cases h⟩
          · rw [HX.out]; exact ⟨ri, putS_far (by first | exact HS4.out | (rw [← HR1.out]; exact HS4.out)) HG2.out _⟩
          · exact HO4.out.pS _ _ (.inr HZ.out)
        · have HX : Hid (R = .ok (spanF v (v5 + 1)) r) := Lib.hid (by rw [HX1.out, if_neg (by omega)])
          go_wp2_with fail
          refine (rangeN v v5 _ HV.out HV5.out).mono ?_
          rintro e9 w4 ⟨rfl, hb⟩
          have HS4 := Lib.hid (HS5.out.below hb); have HR4 := Lib.hid (HR5.out.below hb); have HO4 := Lib.hid (HO5.out.tb hb)
          clear hb z1
          have d0 := (HR4.out).cell 0 _ rfl; have d1 := (HR4.out).cell 1 _ rfl; have d2 := (HR4.out).cell 2 _ rfl; have d3 := (HR4.out).cell 3 _ rfl
          have f0 := (HR4.out).frozen 0; have f1 := (HR4.out).frozen 1; have f2 := (HR4.out).frozen 2; have f3 := (HR4.out).frozen 3
          unfold setOf
          go_wp2_with fail
          refine bodyPost_ret (v := setOf (spanF v (v5 + 1))) (by simp [results, Try.results95, go_sem, d0, d1, d2, d3]; try rfl) rfl ⟨_, rfl, ?_, ?_, fun a q h => by rw [HX.out] at h; injection h⟩
          · rw [HX.out]; show AtG _ g _ (rdr s (r : Int) o 0 x); rw [← HRI.out]; exact putS_far HS4.out HG2.out _
          · exact HO4.out.pS _ _ (.inr HZ.out)
    · have HX : Hid (R = .ok (spanF v (v + 1)) q) := Lib.hid (by rw [HX9.out, hie, if_neg h45])
      have e45 : (c == 45) = false := by rw [beq_eq_false_iff_ne]; exact h45
      clear h45 hie hgeq
      go_wp2_with fail
      refine (HPK.out).mono ?_
      rintro e9 w3 ⟨rfl, hb⟩
      have HS3 := Lib.hid (HS.out.below hb); have HR3 := Lib.hid (HR2.out.below hb); have HO3 := Lib.hid (HO2.out.tb hb)
      clear hb
      go_wp2_with fail
      refine (rangeN v v _ HV.out HV.out).mono ?_
      rintro e9 w4 ⟨rfl, hb⟩
      have HS4 := Lib.hid (HS3.out.below hb); have HR4 := Lib.hid (HR3.out.below hb); have HO4 := Lib.hid (HO3.out.tb hb)
      clear hb
      have d0 := (HR4.out).cell 0 _ rfl; have d1 := (HR4.out).cell 1 _ rfl; have d2 := (HR4.out).cell 2 _ rfl; have d3 := (HR4.out).cell 3 _ rfl
      have f0 := (HR4.out).frozen 0; have f1 := (HR4.out).frozen 1; have f2 := (HR4.out).frozen 2; have f3 := (HR4.out).frozen 3
      unfold setOf
      go_wp2_with fail
      refine bodyPost_ret (v := setOf (spanF v (v + 1))) (by simp [results, Try.results95, go_sem, d0, d1, d2, d3]; try rfl) rfl ⟨_, rfl, ?_, ?_, fun a q h => by rw [HX.out] at h; injection h⟩
      · rw [HX.out]; exact putS_far HS4.out HG2.out _
      · exact HO4.out.pS _ _ (.inr HZ.out)
set_option maxRecDepth 100000 in
set_option maxHeartbeats 1600000 in
theorem item_other (g : Nat) (s : ByteArray) (p : Nat) (o x : Int) (w : World) (h : AtG w g 89 (rdr s p o 0 x)) (hp : p ≤ s.size) (hm : s.size ≤ 1000) (h92 : ch s p ≠ 92) :
    Calls Try.prog 95 #[.pointer (some ⟨g, 0, none⟩)] w fun e w' => ∃ F : Nat → Bool, e = .returned (setOf F) ∧ StR s g o x (itemF s p) w' ∧ Only (fun k => k = g) w w' ∧ ∀ f q, itemF s p = .ok f q → F = f := by
  have HP := Lib.hid hp; have HM := Lib.hid hm
  have HR0 := Lib.hid (AtG.new w 26 (setC 0 0 0 0))
  have HA0 := Lib.hid (h.alloc (.cells (setC 0 0 0 0) 26))
  have HO0 := Lib.hid ((Only.refl (S := fun k => k = g) w).al (.cells (setC 0 0 0 0) 26))
  have HG : Hid (w.heap.size ≠ g) := Lib.hid (by have := h.lt; omega)
  have HG2 : Hid (g ≠ w.heap.size) := Lib.hid (by have := h.lt; omega)
  have HZ : Hid (w.heap.size ≤ w.heap.size) := Lib.hid (Nat.le_refl _)
  have HPK := Lib.hid (fun w h => peek_any g s p o x w h)
  have hif : ∀ c, ch s p = c → itemF s p = if c = 92 ∧ p + 1 < s.size then (match wideF (ch s (p + 1)) with | some f => .ok f (p + 2) | none => itemE s (memberF s p)) else itemE s (memberF s p) := fun c hc => by unfold itemF; rw [hc]; rfl
  generalize ch s p = c at *
  rw [hif c rfl]
  clear hif h hp hm
  have hpI : (p : Int) < 1001 := by have := HP.out; have := HM.out; omega
  rw [if_neg (fun h => h92 h.1)]
  have e92 : (c == 92) = false := by rw [beq_eq_false_iff_ne]; exact h92
  obtain ⟨R, hR⟩ : ∃ R, R = itemE s (memberF s p) := ⟨_, rfl⟩
  rw [← hR]
  have HR0X := Lib.hid hR
  clear hR
  go_enter Try.func95, Try.ntmps95
  go_upto_region 1 with (fail)
  refine Rg.wp_region_each (by kernel_rfl) (fun w' => AtG w' g 89 (rdr s p o 0 x) ∧ AtG w' w.heap.size 26 (setC 0 0 0 0) ∧ Only (fun k => k = g) w w') (fun w1 w2 h hb => ⟨h.1.below hb, h.2.1.below hb, h.2.2.tb hb⟩) (by kernel_rfl) (by kernel_rfl) (⟨HA0.out, HR0.out, HO0.out⟩) ?_
  show Rg.Build _ _ _ _ _ 0 [_, _, _, _, _, _, _, _, _, _, _, _, _, _, _, _] []
  refine Rg.build_cons (m := 1) (r := Rg.eq _) (Rg.one_plain (by rfl) (by (intro ax wx hk Kx hK; have k0 := hk.base 0 _ rfl rfl; have hj := hk.j; clear hk; have z1 : wx.cell? ⟨g, 1, none⟩ = some (.int .i64 (p : Int)) := hj.1.cell 1 _ rfl; have z0 : wx.cell? ⟨g, 0, none⟩ = some (.string s) := hj.1.cell 0 _ rfl; go_simp; refine hK _ _ ?_ (Below.refl _ _); apply Rg.mk))) ?_ rfl
  refine Rg.build_cons (m := 2) (r := Rg.eq _) (Rg.one_plain (by rfl) (by (intro ax wx hk Kx hK; obtain ⟨v7, k7, h7⟩ := hk.dep 0 7 _ rfl rfl rfl; (first | (cases (h7 : v7 = _)) | (obtain ⟨rfl, h7⟩ := h7) | skip); have hj := hk.j; clear hk; have z1 : wx.cell? ⟨g, 1, none⟩ = some (.int .i64 (p : Int)) := hj.1.cell 1 _ rfl; have z0 : wx.cell? ⟨g, 0, none⟩ = some (.string s) := hj.1.cell 0 _ rfl; go_simp; refine (HPK.out _ hj.1).mono ?_; rintro e w' ⟨rfl, hb⟩; refine hK _ _ ?_ hb; apply Rg.mk))) ?_ rfl
  refine Rg.build_cons (m := 3) (r := Rg.eq (.bool false)) (Rg.one_plain (by rfl) (by (intro ax wx hk Kx hK; obtain ⟨v8, k8, h8⟩ := hk.dep 1 8 _ rfl rfl rfl; (first | (cases (h8 : v8 = _)) | (obtain ⟨rfl, h8⟩ := h8) | skip); have hj := hk.j; clear hk; have z1 : wx.cell? ⟨g, 1, none⟩ = some (.int .i64 (p : Int)) := hj.1.cell 1 _ rfl; have z0 : wx.cell? ⟨g, 0, none⟩ = some (.string s) := hj.1.cell 0 _ rfl; (go_simp; refine hK _ _ ?_ (Below.refl _ _); simp [Rg.eq, e92]; try exact h92)))) ?_ rfl
  refine Rg.build_cons (m := 4) (r := Rg.eq _) (Rg.one_plain (by rfl) (by (intro ax wx hk Kx hK; obtain ⟨v9, k9, h9⟩ := hk.dep 2 9 _ rfl rfl rfl; (first | (cases (h9 : v9 = _)) | (obtain ⟨rfl, h9⟩ := h9) | skip); have hj := hk.j; clear hk; have z1 : wx.cell? ⟨g, 1, none⟩ = some (.int .i64 (p : Int)) := hj.1.cell 1 _ rfl; have z0 : wx.cell? ⟨g, 0, none⟩ = some (.string s) := hj.1.cell 0 _ rfl; go_simp; refine hK _ _ ?_ (Below.refl _ _); apply Rg.mk))) ?_ rfl
  first
    | refine Rg.build_cons (m := 5) (Rg.one_no 3 10 true (by rfl) (by rfl) (by rfl) (by rfl)) ?_ rfl
    | refine Rg.build_cons (m := 5) (r := Rg.eq _) (Rg.one_yes 3 10 true (by rfl) (by rfl) (by rfl) (by rfl) (by (intro ax wx hk Kx hK; have k0 := hk.base 0 _ rfl rfl; have hj := hk.j; clear hk; have z1 : wx.cell? ⟨g, 1, none⟩ = some (.int .i64 (p : Int)) := hj.1.cell 1 _ rfl; have z0 : wx.cell? ⟨g, 0, none⟩ = some (.string s) := hj.1.cell 0 _ rfl; go_simp; refine hK _ _ ?_ (Below.refl _ _); apply Rg.mk))) ?_ rfl
  first
    | refine Rg.build_cons (m := 6) (Rg.one_no 3 10 true (by rfl) (by rfl) (by rfl) (by rfl)) ?_ rfl
    | refine Rg.build_cons (m := 6) (r := Rg.eq _) (Rg.one_yes 3 10 true (by rfl) (by rfl) (by rfl) (by rfl) (by (intro ax wx hk Kx hK; obtain ⟨v11, k11, h11⟩ := hk.dep 4 11 _ rfl rfl rfl; (first | (cases (h11 : v11 = _)) | (obtain ⟨rfl, h11⟩ := h11) | skip); have hj := hk.j; clear hk; have z1 : wx.cell? ⟨g, 1, none⟩ = some (.int .i64 (p : Int)) := hj.1.cell 1 _ rfl; have z0 : wx.cell? ⟨g, 0, none⟩ = some (.string s) := hj.1.cell 0 _ rfl; go_simp; refine hK _ _ ?_ (Below.refl _ _); apply Rg.mk))) ?_ rfl
  first
    | refine Rg.build_cons (m := 7) (Rg.one_no 3 10 true (by rfl) (by rfl) (by rfl) (by rfl)) ?_ rfl
    | refine Rg.build_cons (m := 7) (r := Rg.eq _) (Rg.one_yes 3 10 true (by rfl) (by rfl) (by rfl) (by rfl) (by (intro ax wx hk Kx hK; obtain ⟨v12, k12, h12⟩ := hk.dep 5 12 _ rfl rfl rfl; (first | (cases (h12 : v12 = _)) | (obtain ⟨rfl, h12⟩ := h12) | skip); have hj := hk.j; clear hk; have z1 : wx.cell? ⟨g, 1, none⟩ = some (.int .i64 (p : Int)) := hj.1.cell 1 _ rfl; have z0 : wx.cell? ⟨g, 0, none⟩ = some (.string s) := hj.1.cell 0 _ rfl; go_simp; refine hK _ _ ?_ (Below.refl _ _); apply Rg.mk))) ?_ rfl
  first
    | refine Rg.build_cons (m := 8) (Rg.one_no 3 10 true (by rfl) (by rfl) (by rfl) (by rfl)) ?_ rfl
    | refine Rg.build_cons (m := 8) (r := Rg.eq _) (Rg.one_yes 3 10 true (by rfl) (by rfl) (by rfl) (by rfl) (by (intro ax wx hk Kx hK; obtain ⟨v13, k13, h13⟩ := hk.dep 6 13 _ rfl rfl rfl; (first | (cases (h13 : v13 = _)) | (obtain ⟨rfl, h13⟩ := h13) | skip); have hj := hk.j; clear hk; have z1 : wx.cell? ⟨g, 1, none⟩ = some (.int .i64 (p : Int)) := hj.1.cell 1 _ rfl; have z0 : wx.cell? ⟨g, 0, none⟩ = some (.string s) := hj.1.cell 0 _ rfl; go_simp; refine hK _ _ ?_ (Below.refl _ _); apply Rg.mk))) ?_ rfl
  first
    | refine Rg.build_cons (m := 9) (Rg.one_no 3 10 true (by rfl) (by rfl) (by rfl) (by rfl)) ?_ rfl
    | refine Rg.build_cons (m := 9) (r := Rg.eq _) (Rg.one_yes 3 10 true (by rfl) (by rfl) (by rfl) (by rfl) (by (intro ax wx hk Kx hK; obtain ⟨v14, k14, h14⟩ := hk.dep 7 14 _ rfl rfl rfl; (first | (cases (h14 : v14 = _)) | (obtain ⟨rfl, h14⟩ := h14) | skip); have hj := hk.j; clear hk; have z1 : wx.cell? ⟨g, 1, none⟩ = some (.int .i64 (p : Int)) := hj.1.cell 1 _ rfl; have z0 : wx.cell? ⟨g, 0, none⟩ = some (.string s) := hj.1.cell 0 _ rfl; go_simp; refine hK _ _ ?_ (Below.refl _ _); apply Rg.mk))) ?_ rfl
  first
    | refine Rg.build_cons (m := 10) (Rg.one_no 3 10 true (by rfl) (by rfl) (by rfl) (by rfl)) ?_ rfl
    | refine Rg.build_cons (m := 10) (r := Rg.eq _) (Rg.one_yes 3 10 true (by rfl) (by rfl) (by rfl) (by rfl) (by (intro ax wx hk Kx hK; have k0 := hk.base 0 _ rfl rfl; have hj := hk.j; clear hk; have z1 : wx.cell? ⟨g, 1, none⟩ = some (.int .i64 (p : Int)) := hj.1.cell 1 _ rfl; have z0 : wx.cell? ⟨g, 0, none⟩ = some (.string s) := hj.1.cell 0 _ rfl; go_simp; refine hK _ _ ?_ (Below.refl _ _); apply Rg.mk))) ?_ rfl
  first
    | refine Rg.build_cons (m := 11) (Rg.one_no 3 10 true (by rfl) (by rfl) (by rfl) (by rfl)) ?_ rfl
    | refine Rg.build_cons (m := 11) (r := Rg.eq _) (Rg.one_yes 3 10 true (by rfl) (by rfl) (by rfl) (by rfl) (by (intro ax wx hk Kx hK; obtain ⟨v16, k16, h16⟩ := hk.dep 9 16 _ rfl rfl rfl; (first | (cases (h16 : v16 = _)) | (obtain ⟨rfl, h16⟩ := h16) | skip); have hj := hk.j; clear hk; have z1 : wx.cell? ⟨g, 1, none⟩ = some (.int .i64 (p : Int)) := hj.1.cell 1 _ rfl; have z0 : wx.cell? ⟨g, 0, none⟩ = some (.string s) := hj.1.cell 0 _ rfl; go_simp; refine hK _ _ ?_ (Below.refl _ _); apply Rg.mk))) ?_ rfl
  first
    | refine Rg.build_cons (m := 12) (Rg.one_no 3 10 true (by rfl) (by rfl) (by rfl) (by rfl)) ?_ rfl
    | refine Rg.build_cons (m := 12) (r := Rg.eq _) (Rg.one_yes 3 10 true (by rfl) (by rfl) (by rfl) (by rfl) (by (intro ax wx hk Kx hK; obtain ⟨v17, k17, h17⟩ := hk.dep 10 17 _ rfl rfl rfl; (first | (cases (h17 : v17 = _)) | (obtain ⟨rfl, h17⟩ := h17) | skip); have hj := hk.j; clear hk; have z1 : wx.cell? ⟨g, 1, none⟩ = some (.int .i64 (p : Int)) := hj.1.cell 1 _ rfl; have z0 : wx.cell? ⟨g, 0, none⟩ = some (.string s) := hj.1.cell 0 _ rfl; go_simp; refine hK _ _ ?_ (Below.refl _ _); apply Rg.mk))) ?_ rfl
  first
    | refine Rg.build_cons (m := 13) (Rg.one_no 3 10 true (by rfl) (by rfl) (by rfl) (by rfl)) ?_ rfl
    | refine Rg.build_cons (m := 13) (r := Rg.eq _) (Rg.one_yes 3 10 true (by rfl) (by rfl) (by rfl) (by rfl) (by (intro ax wx hk Kx hK; obtain ⟨v18, k18, h18⟩ := hk.dep 11 18 _ rfl rfl rfl; (first | (cases (h18 : v18 = _)) | (obtain ⟨rfl, h18⟩ := h18) | skip); have hj := hk.j; clear hk; have z1 : wx.cell? ⟨g, 1, none⟩ = some (.int .i64 (p : Int)) := hj.1.cell 1 _ rfl; have z0 : wx.cell? ⟨g, 0, none⟩ = some (.string s) := hj.1.cell 0 _ rfl; go_simp; refine hK _ _ ?_ (Below.refl _ _); apply Rg.mk))) ?_ rfl
  first
    | refine Rg.build_cons (m := 14) (Rg.one_no 3 10 true (by rfl) (by rfl) (by rfl) (by rfl)) ?_ rfl
    | refine Rg.build_cons (m := 14) (r := Rg.eq _) (Rg.one_yes 3 10 true (by rfl) (by rfl) (by rfl) (by rfl) (by (intro ax wx hk Kx hK; obtain ⟨v19, k19, h19⟩ := hk.dep 12 19 _ rfl rfl rfl; (first | (cases (h19 : v19 = _)) | (obtain ⟨rfl, h19⟩ := h19) | skip); have hj := hk.j; clear hk; have z1 : wx.cell? ⟨g, 1, none⟩ = some (.int .i64 (p : Int)) := hj.1.cell 1 _ rfl; have z0 : wx.cell? ⟨g, 0, none⟩ = some (.string s) := hj.1.cell 0 _ rfl; go_simp; refine hK _ _ ?_ (Below.refl _ _); apply Rg.mk))) ?_ rfl
  first
    | refine Rg.build_cons (m := 15) (Rg.one_no 3 10 true (by rfl) (by rfl) (by rfl) (by rfl)) ?_ rfl
    | refine Rg.build_cons (m := 15) (r := Rg.eq _) (Rg.one_yes 3 10 true (by rfl) (by rfl) (by rfl) (by rfl) (by (intro ax wx hk Kx hK; obtain ⟨v15, k15, h15⟩ := hk.dep 8 15 _ rfl rfl rfl; (first | (cases (h15 : v15 = _)) | (obtain ⟨rfl, h15⟩ := h15) | skip); obtain ⟨v20, k20, h20⟩ := hk.dep 13 20 _ rfl rfl rfl; (first | (cases (h20 : v20 = _)) | (obtain ⟨rfl, h20⟩ := h20) | skip); have hj := hk.j; clear hk; have z1 : wx.cell? ⟨g, 1, none⟩ = some (.int .i64 (p : Int)) := hj.1.cell 1 _ rfl; have z0 : wx.cell? ⟨g, 0, none⟩ = some (.string s) := hj.1.cell 0 _ rfl; go_simp; refine hK _ _ ?_ (Below.refl _ _); apply Rg.mk))) ?_ rfl
  refine Rg.build_cons (m := 16) (r := Rg.eq _) (Rg.one_plain (by rfl) (by (intro ax wx hk Kx hK; obtain ⟨v10, k10, h10⟩ := hk.dep 3 10 _ rfl rfl rfl; (first | (cases (h10 : v10 = _)) | (obtain ⟨rfl, h10⟩ := h10) | skip); obtain ⟨v21, k21, h21⟩ := hk.dep 14 21 _ rfl rfl rfl; (first | (cases (h21 : v21 = _)) | (obtain ⟨rfl, h21⟩ := h21) | skip); have hj := hk.j; clear hk; have z1 : wx.cell? ⟨g, 1, none⟩ = some (.int .i64 (p : Int)) := hj.1.cell 1 _ rfl; have z0 : wx.cell? ⟨g, 0, none⟩ = some (.string s) := hj.1.cell 0 _ rfl; go_simp; refine hK _ _ ?_ (Below.refl _ _); apply Rg.mk))) ?_ rfl
  refine Rg.build_end fun wx hj => ?_
  refine Rg.fin_eq rfl ?_
  refine Rg.fin_eq rfl ?_
  first | refine Rg.fin_eq rfl ?_ | refine Rg.fin_any rfl fun v9 h9 => ?_
  refine Rg.fin_eq rfl ?_
  refine Rg.fin_eq rfl ?_
  refine Rg.fin_eq rfl ?_
  refine Rg.fin_eq rfl ?_
  refine Rg.fin_eq rfl ?_
  refine Rg.fin_eq rfl ?_
  refine Rg.fin_eq rfl ?_
  refine Rg.fin_eq rfl ?_
  refine Rg.fin_eq rfl ?_
  refine Rg.fin_eq rfl ?_
  refine Rg.fin_eq rfl ?_
  refine Rg.fin_eq rfl ?_
  refine Rg.fin_eq rfl ?_
  refine Rg.fin_nil ?_
  simp only [List.set_cons_zero, List.set_cons_succ]
  have HA := Lib.hid hj.1; have HR := Lib.hid hj.2.1; have HO := Lib.hid hj.2.2
  clear hj
  go_wp2_with fail
  refine (member_any g s p o x _ HA.out HP.out HM.out).mono ?_
  rintro e9 w2 ⟨hO2, hS, v, hv, rfl, hq⟩
  have HR2 := Lib.hid (HR.out.only hO2 HG.out)
  have HO2 := Lib.hid (HO.out.tr hO2)
  have HV := Lib.hid hv
  clear hO2 hv
  cases hmf : memberF s p with
  | no cc yy =>
    rw [hmf] at hS
    obtain ⟨pb, hS⟩ := hS
    have hcc : cc ≠ 0 := by have := (memberF_in s p HP.out).1; rw [hmf] at this; have := this.1; omega
    have HX : Hid (R = .no cc yy) := Lib.hid (by rw [HR0X.out, hmf]; rfl)
    have HS := Lib.hid hS; have HCC := Lib.hid hcc
    clear hS hq hcc hmf
    go_wp2_with fail
    refine (peek_bad g s pb o cc yy _ HS.out HCC.out).mono ?_
    rintro e9 w3 ⟨rfl, hb⟩
    have HS3 := Lib.hid (HS.out.below hb); have HR3 := Lib.hid (HR2.out.below hb); have HO3 := Lib.hid (HO2.out.tb hb)
    clear hb
    go_wp2_with fail
    refine (rangeN v v _ HV.out HV.out).mono ?_
    rintro e9 w4 ⟨rfl, hb⟩
    have HS4 := Lib.hid (HS3.out.below hb); have HR4 := Lib.hid (HR3.out.below hb); have HO4 := Lib.hid (HO3.out.tb hb)
    clear hb
    have d0 := (HR4.out).cell 0 _ rfl; have d1 := (HR4.out).cell 1 _ rfl; have d2 := (HR4.out).cell 2 _ rfl; have d3 := (HR4.out).cell 3 _ rfl
    have f0 := (HR4.out).frozen 0; have f1 := (HR4.out).frozen 1; have f2 := (HR4.out).frozen 2; have f3 := (HR4.out).frozen 3
    unfold setOf
    go_wp2_with fail
    refine bodyPost_ret (v := setOf (spanF v (v + 1))) (by simp [results, Try.results95, go_sem, d0, d1, d2, d3]; try rfl) rfl ⟨_, rfl, ?_, ?_, fun a q h => by rw [HX.out] at h; cases h⟩
    · rw [HX.out]; exact ⟨pb, putS_far HS4.out HG2.out _⟩
    · exact HO4.out.pS _ _ (.inr HZ.out)
  | ok lo q =>
    rw [hmf] at hS hq
    obtain rfl := hq lo q rfl
    have hq0 : q ≤ s.size := by have := (memberF_in s p HP.out).1; rw [hmf] at this; exact this.2
    have HS := Lib.hid hS; have HQ := Lib.hid hq0
    clear hS hq
    have HPK := Lib.hid (peek_any g s q o x _ HS.out)
    have HX9 : Hid (R = itemE s (.ok v q)) := Lib.hid (by rw [HR0X.out, hmf])
    clear hmf
    have hie : ∀ c, ch s q = c → itemE s (.ok v q) = if c = 45 then (match memberF s (q + 1) with | .no c x => .no c x | .ok hi r => if hi < v then .no 2 (r - 1) else .ok (spanF v (hi + 1)) r) else .ok (spanF v (v + 1)) q := fun c hc => by rw [itemE, hc]; rfl
    have hgeq : 0 ≤ ch s q → q < s.size := ch_ge
    generalize ch s q = c at *
    have hie := hie c rfl
    by_cases h45 : c = 45
    · subst h45
      have HX0 : Hid (R = (match memberF s (q + 1) with | .no c x => .no c x | .ok hi r => if hi < v then .no 2 (r - 1) else .ok (spanF v (hi + 1)) r)) := Lib.hid (by rw [HX9.out, hie, if_pos rfl])
      have hq1 : q + 1 ≤ s.size := hgeq (by decide)
      have HQ1 := Lib.hid hq1
      have hq1' : (q : Int) < 1000 := by have := HM.out; omega
      obtain ⟨qi, hqi⟩ : ∃ qi : Int, qi = (q : Int) := ⟨_, rfl⟩
      have HS := HS
      rw [← hqi] at hq1'
      have hS : AtG w2 g 89 (rdr s qi o 0 x) := by rw [hqi]; exact HS.out
      have hqi0 : 0 ≤ qi := by omega
      clear HS
      have HS := Lib.hid hS; have HQI := Lib.hid hqi; clear hS hq1 hie hgeq hqi
      go_wp2_with fail
      refine (HPK.out).mono ?_
      rintro e9 w3 ⟨rfl, hb⟩
      have HS3 := Lib.hid (HS.out.below hb); have HR3 := Lib.hid (HR2.out.below hb); have HO3 := Lib.hid (HO2.out.tb hb)
      clear hb
      have z1 : w3.cell? ⟨g, 1, none⟩ = some (.int .i64 qi) := HS3.out.cell 1 _ rfl
      have f1 := HS3.out.frozen 1
      go_wp2_with fail
      have hat : AtG (w3.setCell ⟨g, 1, none⟩ (.int .i64 (qi + 1))) g 89 (rdr s ((q + 1 : Nat) : Int) o 0 x) := by
        rw [show ((q + 1 : Nat) : Int) = qi + 1 from by have := HQI.out; omega]; exact HS3.out.set 1 _
      have HR4 := Lib.hid (HR3.out.far (p := ⟨g, 1, none⟩) HG.out (.int .i64 (qi + 1)))
      have HO4 := Lib.hid (HO3.out.st g 1 (.int .i64 (qi + 1)) (.inl rfl))
      refine (member_any g s (q + 1) o x _ hat HQ1.out HM.out).mono ?_
      rintro e9 w5 ⟨hO5, hS5, v5, hv5, rfl, hq5⟩
      have HR5 := Lib.hid (HR4.out.only hO5 HG.out)
      have HO5 := Lib.hid (HO4.out.tr hO5)
      have HV5 := Lib.hid hv5
      clear hat HR4 HO4 hO5 hv5 HR3 HO3 HS3 z1 f1
      have hvI : (v : Int) < 256 := by have := HV.out; omega
      have hv5I : (v5 : Int) < 256 := by have := HV5.out; omega
      cases hmf : memberF s (q + 1) with
      | no cc yy =>
        rw [hmf] at hS5
        obtain ⟨pb, hS5⟩ := hS5
        have hcc : cc ≠ 0 := by have := (memberF_in s (q + 1) HQ1.out).1; rw [hmf] at this; have := this.1; omega
        have HX : Hid (R = .no cc yy) := Lib.hid (by rw [HX0.out, hmf])
        have HS5 := Lib.hid hS5; have HCC := Lib.hid hcc
        have z1 : w5.cell? ⟨g, 1, none⟩ = some (.int .i64 pb) := HS5.out.cell 1 _ rfl
        clear hS5 hq5 hcc hmf
        by_cases hlt : (v5 : Int) < (v : Int)
        · go_wp2_with fail
          refine (fail_no g s pb o cc yy _ 2 _ HS5.out HCC.out).mono ?_
          rintro e9 w9 ⟨rfl, hw9⟩; subst hw9
          go_wp2_with fail
          refine (rangeN v v5 _ HV.out HV5.out).mono ?_
          rintro e9 w4 ⟨rfl, hb⟩
          have HS4 := Lib.hid (HS5.out.below hb); have HR4 := Lib.hid (HR5.out.below hb); have HO4 := Lib.hid (HO5.out.tb hb)
          clear hb z1
          have d0 := (HR4.out).cell 0 _ rfl; have d1 := (HR4.out).cell 1 _ rfl; have d2 := (HR4.out).cell 2 _ rfl; have d3 := (HR4.out).cell 3 _ rfl
          have f0 := (HR4.out).frozen 0; have f1 := (HR4.out).frozen 1; have f2 := (HR4.out).frozen 2; have f3 := (HR4.out).frozen 3
          unfold setOf
          go_wp2_with fail
          refine bodyPost_ret (v := setOf (spanF v (v5 + 1))) (by simp [results, Try.results95, go_sem, d0, d1, d2, d3]; try rfl) rfl ⟨_, rfl, ?_, ?_, fun a q h => by rw [HX.out] at h; cases h⟩
          · rw [HX.out]; exact ⟨pb, putS_far HS4.out HG2.out _⟩
          · exact HO4.out.pS _ _ (.inr HZ.out)
        · go_wp2_with fail
          refine (rangeN v v5 _ HV.out HV5.out).mono ?_
          rintro e9 w4 ⟨rfl, hb⟩
          have HS4 := Lib.hid (HS5.out.below hb); have HR4 := Lib.hid (HR5.out.below hb); have HO4 := Lib.hid (HO5.out.tb hb)
          clear hb z1
          have d0 := (HR4.out).cell 0 _ rfl; have d1 := (HR4.out).cell 1 _ rfl; have d2 := (HR4.out).cell 2 _ rfl; have d3 := (HR4.out).cell 3 _ rfl
          have f0 := (HR4.out).frozen 0; have f1 := (HR4.out).frozen 1; have f2 := (HR4.out).frozen 2; have f3 := (HR4.out).frozen 3
          unfold setOf
          go_wp2_with fail
          refine bodyPost_ret (v := setOf (spanF v (v5 + 1))) (by simp [results, Try.results95, go_sem, d0, d1, d2, d3]; try rfl) rfl ⟨_, rfl, ?_, ?_, fun a q h => by rw [HX.out] at h; cases h⟩
          · rw [HX.out]; exact ⟨pb, putS_far HS4.out HG2.out _⟩
          · exact HO4.out.pS _ _ (.inr HZ.out)
      | ok hi r =>
        rw [hmf] at hS5 hq5
        obtain rfl := hq5 hi r rfl
        have hr0 : q + 2 ≤ r ∧ r ≤ s.size := by have := (memberF_in s (q + 1) HQ1.out).1; rw [hmf] at this; exact this
        have HX1 : Hid (R = (if v5 < v then .no 2 (r - 1) else .ok (spanF v (v5 + 1)) r)) := Lib.hid (by rw [HX0.out, hmf])
        obtain ⟨ri, hri⟩ : ∃ ri : Int, ri = (r : Int) := ⟨_, rfl⟩
        have hS5 : AtG w5 g 89 (rdr s ri o 0 x) := by rw [hri]; exact hS5
        have HS5 := Lib.hid hS5
        have z1 : w5.cell? ⟨g, 1, none⟩ = some (.int .i64 ri) := HS5.out.cell 1 _ rfl
        have hr1 : ri - 1 = ((r - 1 : Nat) : Int) := by omega
        have HR1 := Lib.hid hr1
        have hr2 : 0 ≤ ri - 1 := by omega
        have hr3 : ri < 10000 := by have := HM.out; omega
        have HRI := Lib.hid hri
        clear hS5 hq5 hmf hri hr0
        by_cases hlt : (v5 : Int) < (v : Int)
        · have HX : Hid (R = .no 2 (r - 1)) := Lib.hid (by rw [HX1.out, if_pos (by omega)])
          go_wp2_with fail
          refine (failO g s ri o x _ 2 _ HS5.out).mono ?_
          rintro e9 w6 ⟨rfl, hA6, hO6⟩
          have HS6 := Lib.hid hA6; have HR6 := Lib.hid (HR5.out.only hO6 HG.out); have HO6 := Lib.hid (HO5.out.tr hO6)
          clear hA6 hO6 z1
          go_wp2_with fail
          refine (rangeN v v5 _ HV.out HV5.out).mono ?_
          rintro e9 w4 ⟨rfl, hb⟩
          have HS4 := Lib.hid (HS6.out.below hb); have HR4 := Lib.hid (HR6.out.below hb); have HO4 := Lib.hid (HO6.out.tb hb)
          clear hb
          have d0 := (HR4.out).cell 0 _ rfl; have d1 := (HR4.out).cell 1 _ rfl; have d2 := (HR4.out).cell 2 _ rfl; have d3 := (HR4.out).cell 3 _ rfl
          have f0 := (HR4.out).frozen 0; have f1 := (HR4.out).frozen 1; have f2 := (HR4.out).frozen 2; have f3 := (HR4.out).frozen 3
          unfold setOf
          go_wp2_with fail
          refine bodyPost_ret (v := setOf (spanF v (v5 + 1))) (by simp [results, Try.results95, go_sem, d0, d1, d2, d3]; try rfl) rfl ⟨_, rfl, ?_, ?_, fun a q h => by rw [HX.out] at h; cases h⟩
          · rw [HX.out]; exact ⟨ri, putS_far (by first | exact HS4.out | (rw [← HR1.out]; exact HS4.out)) HG2.out _⟩
          · exact HO4.out.pS _ _ (.inr HZ.out)
        · have HX : Hid (R = .ok (spanF v (v5 + 1)) r) := Lib.hid (by rw [HX1.out, if_neg (by omega)])
          go_wp2_with fail
          refine (rangeN v v5 _ HV.out HV5.out).mono ?_
          rintro e9 w4 ⟨rfl, hb⟩
          have HS4 := Lib.hid (HS5.out.below hb); have HR4 := Lib.hid (HR5.out.below hb); have HO4 := Lib.hid (HO5.out.tb hb)
          clear hb z1
          have d0 := (HR4.out).cell 0 _ rfl; have d1 := (HR4.out).cell 1 _ rfl; have d2 := (HR4.out).cell 2 _ rfl; have d3 := (HR4.out).cell 3 _ rfl
          have f0 := (HR4.out).frozen 0; have f1 := (HR4.out).frozen 1; have f2 := (HR4.out).frozen 2; have f3 := (HR4.out).frozen 3
          unfold setOf
          go_wp2_with fail
          refine bodyPost_ret (v := setOf (spanF v (v5 + 1))) (by simp [results, Try.results95, go_sem, d0, d1, d2, d3]; try rfl) rfl ⟨_, rfl, ?_, ?_, fun a q h => by rw [HX.out] at h; injection h⟩
          · rw [HX.out]; show AtG _ g _ (rdr s (r : Int) o 0 x); rw [← HRI.out]; exact putS_far HS4.out HG2.out _
          · exact HO4.out.pS _ _ (.inr HZ.out)
    · have HX : Hid (R = .ok (spanF v (v + 1)) q) := Lib.hid (by rw [HX9.out, hie, if_neg h45])
      have e45 : (c == 45) = false := by rw [beq_eq_false_iff_ne]; exact h45
      clear h45 hie hgeq
      go_wp2_with fail
      refine (HPK.out).mono ?_
      rintro e9 w3 ⟨rfl, hb⟩
      have HS3 := Lib.hid (HS.out.below hb); have HR3 := Lib.hid (HR2.out.below hb); have HO3 := Lib.hid (HO2.out.tb hb)
      clear hb
      go_wp2_with fail
      refine (rangeN v v _ HV.out HV.out).mono ?_
      rintro e9 w4 ⟨rfl, hb⟩
      have HS4 := Lib.hid (HS3.out.below hb); have HR4 := Lib.hid (HR3.out.below hb); have HO4 := Lib.hid (HO3.out.tb hb)
      clear hb
      have d0 := (HR4.out).cell 0 _ rfl; have d1 := (HR4.out).cell 1 _ rfl; have d2 := (HR4.out).cell 2 _ rfl; have d3 := (HR4.out).cell 3 _ rfl
      have f0 := (HR4.out).frozen 0; have f1 := (HR4.out).frozen 1; have f2 := (HR4.out).frozen 2; have f3 := (HR4.out).frozen 3
      unfold setOf
      go_wp2_with fail
      refine bodyPost_ret (v := setOf (spanF v (v + 1))) (by simp [results, Try.results95, go_sem, d0, d1, d2, d3]; try rfl) rfl ⟨_, rfl, ?_, ?_, fun a q h => by rw [HX.out] at h; injection h⟩
      · rw [HX.out]; exact putS_far HS4.out HG2.out _
      · exact HO4.out.pS _ _ (.inr HZ.out)
theorem item_any (g : Nat) (s : ByteArray) (p : Nat) (o x : Int) (w : World) (h : AtG w g 89 (rdr s p o 0 x)) (hp : p ≤ s.size) (hm : s.size ≤ 1000) :
    Calls Try.prog 95 #[.pointer (some ⟨g, 0, none⟩)] w fun e w' => ∃ F : Nat → Bool, e = .returned (setOf F) ∧ StR s g o x (itemF s p) w' ∧ Only (fun k => k = g) w w' ∧ ∀ f q, itemF s p = .ok f q → F = f := by
  by_cases h92 : ch s p = 92
  · by_cases hn : p + 1 < s.size
    · cases hwd : wideF (ch s (p + 1)) with
      | some F => exact item_some g s p o x w h hp hm h92 hn F hwd
      | none => exact item_none g s p o x w h hp hm h92 hn hwd
    · exact item_last g s p o x w h hp hm h92 hn
  · exact item_other g s p o x w h hp hm h92
end Go.Proofs.Ytofgkildlhcpdaa
