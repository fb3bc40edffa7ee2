/- The walks of set.Range, Or, Not, Bytes. -/
import Derived.Test.YtklpjlcphikfaaaSet
import Derived.Test.YtklpjlcphikfaaaApp
namespace Go.Proofs.Ytklpjlcphikfaaa
open Go.RowKit Bt
set_option linter.unusedVariables false
set_option linter.unusedSimpArgs false
/-- from lo on, below c -/
def rngF (lo c : Nat) (y : Nat) : Bool := decide (lo ≤ y) && decide (y < c)
theorem rngF_self (lo : Nat) : rngF lo lo = fun _ => false := by funext y; unfold rngF; rw [Bool.eq_iff_iff]; simp
theorem rngF_succ (lo c : Nat) (h : lo ≤ c) : rngF lo (c + 1) = fun y => rngF lo c y || y == c := by
  funext y; unfold rngF; rw [Bool.eq_iff_iff]; simp; omega
theorem or_putN (f : Nat → Bool) (k q : Nat) (h1 : k ≤ 255) (hq : (k : Int) / 64 = q) :
    (Value.int .u64 (bits BinOp.or IntKind.u64 ((wd f q : Nat) : Int) (IntKind.u64.wrap (2 ^ ((k : Int) % 64).toNat))) = .int .u64 ((wd f q ||| 2 ^ (k % 64) : Nat) : Int)) ∧
    (Value.int .u64 (bits BinOp.or IntKind.u64 ((wd f q : Nat) : Int) (IntKind.u64.wrap (2 ^ (k % 64)))) = .int .u64 ((wd f q ||| 2 ^ (k % 64) : Nat) : Int)) ∧
    cellsOf (fun y => f y || y == k) = (cellsOf f).set! q (.int .u64 ((wd f q ||| 2 ^ (k % 64) : Nat) : Int)) := by
  have h := or_put f (k : Int) q (by omega) (by omega) hq
  rw [Int.toNat_natCast] at h
  refine ⟨h.1, ?_, h.2⟩
  rw [← h.1, show ((k : Int) % 64).toNat = k % 64 from by omega]
set_option maxHeartbeats 1600000 in
theorem range_any (lo hi : Int) (w : World) (h0 : 0 ≤ lo) (h1 : lo ≤ 255) (h2 : 0 ≤ hi) (h3 : hi ≤ 255) :
    Calls Try.prog 38 #[.int .u8 lo, .int .u8 hi] w fun e w' => e = .returned (setOf (rngF lo.toNat (hi.toNat + 1))) ∧ Below w.heap.size w w' := by
  obtain ⟨l, rfl⟩ := Int.eq_ofNat_of_zero_le h0
  obtain ⟨h, rfl⟩ := Int.eq_ofNat_of_zero_le h2
  rw [Int.toNat_natCast, Int.toNat_natCast]
  go_enter Try.func38, Try.ntmps38
  go_wp2
  go_loopw [6] (fun i wr => ∃ k : Nat, l ≤ k ∧ (k ≤ l ∨ k ≤ h + 1) ∧ i = .int .i64 k ∧ AtG wr (w.heap.size + 1) 33 (cellsOf (rngF l k)) ∧ AtG wr w.heap.size 33 (setC 0 0 0 0) ∧ Below w.heap.size w wr) (fun i _ => 300 - (intOf i).toNat)
  case atStart => exact ⟨l, Nat.le_refl _, .inl (Nat.le_refl _), rfl, by rw [rngF_self, cells_none]; have := AtG.new (w.alloc (.cells (setC 0 0 0 0) 33)) 33 (setC 0 0 0 0); simpa using this, (AtG.new w _ _).alloc _, by go_grown⟩
  case round =>
    obtain ⟨k, hk, hk2, rfl, hat, hres, hbl⟩ := hrel
    have hl0 := hat.lt
    by_cases hlt : k ≤ h
    · have HBL := Lib.hid hbl; have HAT := Lib.hid hat; have HRES := Lib.hid hres; have HSN := Lib.hid (rngF_succ l k hk); clear hbl hat hres hk2
      have hb0 : (0 : Int) ≤ (k : Int) := by omega
      have hb1 : (k : Int) ≤ 255 := by omega
      have hq4 : (k : Int) / 64 = 0 ∨ (k : Int) / 64 = 1 ∨ (k : Int) / 64 = 2 ∨ (k : Int) / 64 = 3 := by omega
      rcases hq4 with hq | hq | hq | hq
      · as_aux_lemma =>
          have c0 : wr.cell? ⟨w.heap.size + 1, 0, none⟩ = some (.int .u64 ((wd (rngF l k) 0 : Nat) : Int)) := HAT.out.cell 0 _ rfl
          have f0 := HAT.out.frozen 0
          have HE := Lib.hid (or_putN (rngF l k) k 0 (by omega) hq)
          generalize ((wd (rngF l k) 0 : Nat) : Int) = A at c0 HE
          go_wp2
          go_region
          go_wp2
          exact ⟨⟨k + 1, by omega, by omega, by go_num, by rw [HSN.out, HE.out.2.2]; first | (rw [← HE.out.1]; exact HAT.out.drew.set 0 _; done) | (rw [← HE.out.2.1]; exact HAT.out.drew.set 0 _), HRES.out.drew.far (by simp) _, HBL.out.drew.setCell (by simp) _⟩, by simp [intOf]; omega⟩
      · as_aux_lemma =>
          have c0 : wr.cell? ⟨w.heap.size + 1, 1, none⟩ = some (.int .u64 ((wd (rngF l k) 1 : Nat) : Int)) := HAT.out.cell 1 _ rfl
          have f0 := HAT.out.frozen 1
          have HE := Lib.hid (or_putN (rngF l k) k 1 (by omega) hq)
          generalize ((wd (rngF l k) 1 : Nat) : Int) = A at c0 HE
          go_wp2
          go_region
          go_wp2
          exact ⟨⟨k + 1, by omega, by omega, by go_num, by rw [HSN.out, HE.out.2.2]; first | (rw [← HE.out.1]; exact HAT.out.drew.set 1 _; done) | (rw [← HE.out.2.1]; exact HAT.out.drew.set 1 _), HRES.out.drew.far (by simp) _, HBL.out.drew.setCell (by simp) _⟩, by simp [intOf]; omega⟩
      · as_aux_lemma =>
          have c0 : wr.cell? ⟨w.heap.size + 1, 2, none⟩ = some (.int .u64 ((wd (rngF l k) 2 : Nat) : Int)) := HAT.out.cell 2 _ rfl
          have f0 := HAT.out.frozen 2
          have HE := Lib.hid (or_putN (rngF l k) k 2 (by omega) hq)
          generalize ((wd (rngF l k) 2 : Nat) : Int) = A at c0 HE
          go_wp2
          go_region
          go_wp2
          exact ⟨⟨k + 1, by omega, by omega, by go_num, by rw [HSN.out, HE.out.2.2]; first | (rw [← HE.out.1]; exact HAT.out.drew.set 2 _; done) | (rw [← HE.out.2.1]; exact HAT.out.drew.set 2 _), HRES.out.drew.far (by simp) _, HBL.out.drew.setCell (by simp) _⟩, by simp [intOf]; omega⟩
      · as_aux_lemma =>
          have c0 : wr.cell? ⟨w.heap.size + 1, 3, none⟩ = some (.int .u64 ((wd (rngF l k) 3 : Nat) : Int)) := HAT.out.cell 3 _ rfl
          have f0 := HAT.out.frozen 3
          have HE := Lib.hid (or_putN (rngF l k) k 3 (by omega) hq)
          generalize ((wd (rngF l k) 3 : Nat) : Int) = A at c0 HE
          go_wp2
          go_region
          go_wp2
          exact ⟨⟨k + 1, by omega, by omega, by go_num, by rw [HSN.out, HE.out.2.2]; first | (rw [← HE.out.1]; exact HAT.out.drew.set 3 _; done) | (rw [← HE.out.2.1]; exact HAT.out.drew.set 3 _), HRES.out.drew.far (by simp) _, HBL.out.drew.setCell (by simp) _⟩, by simp [intOf]; omega⟩
    · have e : cellsOf (rngF l k) = cellsOf (rngF l (h + 1)) := cellsOf_ext fun x _ => by unfold rngF; rw [Bool.eq_iff_iff]; simp; omega
      rw [e] at hat
      have c0 : wr.cell? ⟨w.heap.size + 1, 0, none⟩ = some (.int .u64 ((wd (rngF l (h + 1)) 0 : Nat) : Int)) := hat.cell 0 _ rfl
      have c1 : wr.cell? ⟨w.heap.size + 1, 1, none⟩ = some (.int .u64 ((wd (rngF l (h + 1)) 1 : Nat) : Int)) := hat.cell 1 _ rfl
      have c2 : wr.cell? ⟨w.heap.size + 1, 2, none⟩ = some (.int .u64 ((wd (rngF l (h + 1)) 2 : Nat) : Int)) := hat.cell 2 _ rfl
      have c3 : wr.cell? ⟨w.heap.size + 1, 3, none⟩ = some (.int .u64 ((wd (rngF l (h + 1)) 3 : Nat) : Int)) := hat.cell 3 _ rfl
      have d0 := hres.cell 0 _ rfl
      have f0 := hres.frozen 0
      have d1 := hres.cell 1 _ rfl
      have f1 := hres.frozen 1
      have d2 := hres.cell 2 _ rfl
      have f2 := hres.frozen 2
      have d3 := hres.cell 3 _ rfl
      have f3 := hres.frozen 3
      have HBL := Lib.hid hbl; clear hbl hat hres e hk2
      go_wp2
      refine bodyPost_ret (v := setOf (rngF l (h + 1))) (by simp [results, Try.results38, go_sem, d0, d1, d2, d3]; rfl) rfl ⟨rfl, ?_⟩
      exact (((HBL.out.setCell (by simp) _).setCell (by simp) _).setCell (by simp) _).setCell (by simp) _

theorem or_words (f g : Nat → Bool) (i : Nat) : bits BinOp.or IntKind.u64 ((wd f i : Nat) : Int) ((wd g i : Nat) : Int) = ((wd (fun x => f x || g x) i : Nat) : Int) := by
  rw [u64_or_nat _ _ (wd_lt _ _) (wd_lt _ _), wd_or]
set_option maxHeartbeats 3200000 in
theorem or_core (a b c d a' b' c' d' : Int) (w : World) :
    Calls Try.prog 40 #[setV a b c d, setV a' b' c' d'] w fun e w' => e = .returned (setV (bits BinOp.or IntKind.u64 a a') (bits BinOp.or IntKind.u64 b b') (bits BinOp.or IntKind.u64 c c') (bits BinOp.or IntKind.u64 d d')) ∧ Below w.heap.size w w' := by
  go_enter Try.func40, Try.ntmps40
  go_wp2
  refine wp_loop_rounds 5 ?_
  rw [rounds_succ]
  go_wp2
  go_region
  go_wp2
  rw [rounds_succ]
  go_wp2
  go_region
  go_wp2
  rw [rounds_succ]
  go_wp2
  go_region
  go_wp2
  rw [rounds_succ]
  go_wp2
  go_region
  go_wp2
  rw [rounds_succ]
  go_wp2
  go_returns
  exact ⟨rfl, by go_grown⟩
theorem or_any (f g : Nat → Bool) (w : World) :
    Calls Try.prog 40 #[setOf f, setOf g] w fun e w' => e = .returned (setOf (fun x => f x || g x)) ∧ Below w.heap.size w w' :=
  (or_core _ _ _ _ _ _ _ _ w).mono fun e w' ⟨he, hb⟩ => ⟨by rw [he]; unfold setOf; rw [or_words, or_words, or_words, or_words], hb⟩
set_option maxHeartbeats 3200000 in
theorem not_core (a b c d : Int) (w : World) :
    Calls Try.prog 42 #[setV a b c d] w fun e w' => e = .returned (setV (bits BinOp.xor IntKind.u64 IntKind.u64.max a) (bits BinOp.xor IntKind.u64 IntKind.u64.max b) (bits BinOp.xor IntKind.u64 IntKind.u64.max c) (bits BinOp.xor IntKind.u64 IntKind.u64.max d)) ∧ Below w.heap.size w w' := by
  go_enter Try.func42, Try.ntmps42
  go_wp2
  refine wp_loop_rounds 5 ?_
  rw [rounds_succ]
  go_wp2
  rw [rounds_succ]
  go_wp2
  rw [rounds_succ]
  go_wp2
  rw [rounds_succ]
  go_wp2
  rw [rounds_succ]
  go_wp2
  go_returns
  exact ⟨rfl, by go_grown⟩
theorem not_words (f : Nat → Bool) (i : Nat) : bits BinOp.xor IntKind.u64 IntKind.u64.max ((wd f i : Nat) : Int) = ((wd (fun x => !f x) i : Nat) : Int) := by
  have e : IntKind.u64.max = ((18446744073709551615 : Nat) : Int) := by decide
  rw [e, u64_xor_nat _ _ (by decide) (wd_lt _ _)]
  congr 1
  have h : (18446744073709551615 : Nat) = 2 ^ 64 - 1 := by decide
  apply Nat.eq_of_testBit_eq
  intro j
  rw [Nat.testBit_xor, h, Nat.testBit_two_pow_sub_one]
  unfold wd
  rw [pk_test, pk_test]
  by_cases hj : j < 64 <;> simp [hj]
theorem not_any (f : Nat → Bool) (w : World) :
    Calls Try.prog 42 #[setOf f] w fun e w' => e = .returned (setOf (fun x => !f x)) ∧ Below w.heap.size w w' :=
  (not_core _ _ _ _ w).mono fun e w' ⟨he, hb⟩ => ⟨by rw [he]; unfold setOf; rw [not_words, not_words, not_words, not_words], hb⟩
theorem infoU8 : (Try.prog.info? 5).map (fun i => (i.zero, i.size, i.bytes)) = some (some (.int .u8 0), 1, 1) := by kernel_rfl
/-- a fresh row of bytes -/
def OwnB (w0 w : World) (v : Value) (xs : List Int) : Prop := w.ownsRow w0.heap.size 5 1 v xs.length (xs.map (Value.int .u8)) ∧ Below w0.heap.size w0 w
set_option maxRecDepth 100000 in
set_option maxHeartbeats 1600000 in
theorem bytes_any (f : Nat → Bool) (w : World) :
    Calls Try.prog 46 #[setOf f] w fun e w' => ∃ v, e = .returned v ∧ OwnB w w' v (lst f 256) := by
  unfold setOf
  go_enter Try.func46, Try.ntmps46
  go_wp2
  go_loopw [3, 5] (fun o i wr => ∃ k : Nat, k ≤ 256 ∧ i = .int .i64 k ∧ AtG wr w.heap.size 33 (cellsOf f) ∧ wr.ownsRow (w.heap.size + 1) 5 1 o (lst f k).length ((lst f k).map (Value.int .u8)) ∧ Below w.heap.size w wr) (fun _ i _ => 256 - (intOf i).toNat)
  case atStart => exact ⟨0, by omega, rfl, AtG.new w _ _, own_nil _ _ _ _, by go_grown⟩
  case round =>
    obtain ⟨k, hk, rfl, hat, hown, hbl⟩ := hrel
    have hsz := hbl.size
    by_cases hlt : k < 256
    · have c0 : wr.cell? ⟨w.heap.size, 0, none⟩ = some (.int .u64 ((wd f 0 : Nat) : Int)) := hat.cell 0 _ rfl
      have c1 : wr.cell? ⟨w.heap.size, 1, none⟩ = some (.int .u64 ((wd f 1 : Nat) : Int)) := hat.cell 1 _ rfl
      have c2 : wr.cell? ⟨w.heap.size, 2, none⟩ = some (.int .u64 ((wd f 2 : Nat) : Int)) := hat.cell 2 _ rfl
      have c3 : wr.cell? ⟨w.heap.size, 3, none⟩ = some (.int .u64 ((wd f 3 : Nat) : Int)) := hat.cell 3 _ rfl
      have hk1 : (k : Int) ≤ 255 := by omega
      have HAT := Lib.hid hat; have HOW := Lib.hid hown; have HBL := Lib.hid hbl
      have hcl := lst_len f k
      have hcn := cnt_le f k
      have HLL : Hid ((lst f k).length ≤ 256) := Lib.hid (by omega)
      clear hat hown hbl hcl hcn
      go_wp2_with fail
      refine (has_any f k _ (by omega) hk1).mono ?_; rintro e w1 ⟨rfl, hb1⟩
      rw [Int.toNat_natCast]
      have HAT1 := Lib.hid (HAT.out.below hb1); have HOW1 := Lib.hid (own_below HOW.out hb1); have HBL1 := Lib.hid (HBL.out.trans (hb1.mono HBL.out.size))
      have hs1 := HBL1.out.size
      have hl1 : w.heap.size + 1 ≤ w1.heap.size := HAT1.out.lt
      clear hb1 c0 c1 c2 c3
      cases hf : f k
      · have HS : Hid (lst f (k + 1) = lst f k) := Lib.hid (by rw [lst_succ, hf]; simp)
        clear hf
        go_wp2
        exact ⟨⟨k + 1, by omega, by go_num, HAT1.out, by rw [HS.out]; exact HOW1.out, HBL1.out⟩, by simp [intOf]; omega⟩
      · have HS : Hid (lst f (k + 1) = lst f k ++ [(k : Int)]) := Lib.hid (by rw [lst_succ, hf]; simp)
        clear hf
        go_wp2_with (at_builtin; go_must (refine app1 (w0 := w) (w.heap.size + 1) w.heap.size (by omega) rfl _ _ 36 5 (.int .u8 0) 1 rfl Try.underlying36 infoU8 rfl (by decide) _ _ ((lst f k).map (Value.int .u8)) (.int .u8 k) HOW1.out rfl rfl rfl HBL1.out hl1 (by have := HLL.out; omega) ?_); intro v1 w2 hown2 hb2 hg2; have HAT2 := Lib.hid (HAT1.out.grown hg2 (fun e => by have := own_base HOW1.out _ e; omega)); clear hg2)
        exact ⟨⟨k + 1, by omega, by go_num, HAT2.out, by rw [HS.out]; simpa using hown2, hb2⟩, by simp [intOf]; omega⟩
    · obtain rfl : k = 256 := by omega
      have HOW := Lib.hid hown; have HBL := Lib.hid hbl
      clear hat hown hbl
      go_wp2
      go_returns
      exact ⟨_, rfl, own_lower HOW.out (by omega), HBL.out⟩
end Go.Proofs.Ytklpjlcphikfaaa
