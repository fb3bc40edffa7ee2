/- The walks of package set and of the document's sets: each set of bytes as a predicate. -/
import Derived.Test.YtklpjlcphikfaaaWalk
import Derived.Test.YtklpjlcphikfaaaSetPlain
import Derived.Test.YtklpjlcphikfaaaLuhn
import Derived.Laws.BitsAllLaws
namespace Go.Proofs.Ytklpjlcphikfaaa
open Go.RowKit Bt
set_option linter.unusedVariables false
set_option linter.unusedSimpArgs false
abbrev setV (a b c d : Int) : Value := .agg #[.int .u64 a, .int .u64 b, .int .u64 c, .int .u64 d]
abbrev setC (a b c d : Int) : Array Value := #[.int .u64 a, .int .u64 b, .int .u64 c, .int .u64 d]
/-- the value of the set of all bytes that f has -/
def setOf (f : Nat → Bool) : Value := setV (wd f 0) (wd f 1) (wd f 2) (wd f 3)
/-- its cells -/
def cellsOf (f : Nat → Bool) : Array Value := setC (wd f 0) (wd f 1) (wd f 2) (wd f 3)
theorem setOf_ext {f g : Nat → Bool} (h : ∀ x, x < 256 → f x = g x) : setOf f = setOf g := by
  unfold setOf; rw [wd_ext h 0 (by decide), wd_ext h 1 (by decide), wd_ext h 2 (by decide), wd_ext h 3 (by decide)]
theorem cellsOf_ext {f g : Nat → Bool} (h : ∀ x, x < 256 → f x = g x) : cellsOf f = cellsOf g := by
  unfold cellsOf; rw [wd_ext h 0 (by decide), wd_ext h 1 (by decide), wd_ext h 2 (by decide), wd_ext h 3 (by decide)]
theorem setOf_all (a b c d : Int) (ha : (Lit.int .u64 a).wf = true) (hb : (Lit.int .u64 b).wf = true) (hc : (Lit.int .u64 c).wf = true) (hd : (Lit.int .u64 d).wf = true) : ∃ f, setV a b c d = setOf f := by
  have e : ∀ n : Int, (Lit.int .u64 n).wf = true → ∃ m : Nat, n = m ∧ m < 18446744073709551616 := fun n hn => by
    simp [Lit.wf, IntKind.min, IntKind.max, IntKind.signed, IntKind.bits] at hn
    exact ⟨n.toNat, by omega, by omega⟩
  obtain ⟨a, rfl, ia⟩ := e a ha
  obtain ⟨b, rfl, ib⟩ := e b hb
  obtain ⟨c, rfl, ic⟩ := e c hc
  obtain ⟨d, rfl, id'⟩ := e d hd
  obtain ⟨h0, h1, h2, h3⟩ := wd_ofW a b c d ia ib ic id'
  exact ⟨ofW a b c d, by unfold setOf; rw [h0, h1, h2, h3]⟩
theorem bit_and (n j : Nat) (hn : n < 18446744073709551616) : (bits BinOp.and IntKind.u64 ((n : Int) / 2 ^ j) 1 == 1) = n.testBit j := by
  have e : (n : Int) / 2 ^ j = ((n / 2 ^ j : Nat) : Int) := by simp
  have hl : n / 2 ^ j < 18446744073709551616 := Nat.lt_of_le_of_lt (Nat.div_le_self _ _) hn
  rw [e, show (1 : Int) = ((1 : Nat) : Int) from rfl, u64_and_nat _ _ hl (by decide), nat_mask1, Nat.testBit_eq_decide_div_mod_eq, Bool.eq_iff_iff]
  simp; omega
theorem bit_mod (n j : Nat) : (((n : Int) / 2 ^ j).tmod 2 == 1) = n.testBit j := by
  have e : (n : Int) / 2 ^ j = ((n / 2 ^ j : Nat) : Int) := by simp
  rw [e, Int.tmod_eq_emod_of_nonneg (Int.natCast_nonneg _), Nat.testBit_eq_decide_div_mod_eq, Bool.eq_iff_iff]
  simp; omega
set_option maxHeartbeats 800000 in
theorem has_q0 (a b c d x : Int) (w : World) (h0 : 0 ≤ x) (h1 : x ≤ 63) (hq : x / 64 = 0) (ha : 0 ≤ a) (hb : 0 ≤ b) (hc : 0 ≤ c) (hd : 0 ≤ d) :
    Calls Try.prog 19 #[setV a b c d, .int .u8 x] w fun e w' => e = .returned (.bool (bits BinOp.and IntKind.u64 (a / 2 ^ (x % 64).toNat) 1 == 1)) ∧ Below w.heap.size w w' := by
  go_enter Try.func19, Try.ntmps19
  go_wp2
  go_returns
  exact ⟨rfl, by go_grown⟩
set_option maxHeartbeats 800000 in
theorem has_q1 (a b c d x : Int) (w : World) (h0 : 64 ≤ x) (h1 : x ≤ 127) (hq : x / 64 = 1) (ha : 0 ≤ a) (hb : 0 ≤ b) (hc : 0 ≤ c) (hd : 0 ≤ d) :
    Calls Try.prog 19 #[setV a b c d, .int .u8 x] w fun e w' => e = .returned (.bool (bits BinOp.and IntKind.u64 (b / 2 ^ (x % 64).toNat) 1 == 1)) ∧ Below w.heap.size w w' := by
  go_enter Try.func19, Try.ntmps19
  go_wp2
  go_returns
  exact ⟨rfl, by go_grown⟩
set_option maxHeartbeats 800000 in
theorem has_q2 (a b c d x : Int) (w : World) (h0 : 128 ≤ x) (h1 : x ≤ 191) (hq : x / 64 = 2) (ha : 0 ≤ a) (hb : 0 ≤ b) (hc : 0 ≤ c) (hd : 0 ≤ d) :
    Calls Try.prog 19 #[setV a b c d, .int .u8 x] w fun e w' => e = .returned (.bool (bits BinOp.and IntKind.u64 (c / 2 ^ (x % 64).toNat) 1 == 1)) ∧ Below w.heap.size w w' := by
  go_enter Try.func19, Try.ntmps19
  go_wp2
  go_returns
  exact ⟨rfl, by go_grown⟩
set_option maxHeartbeats 800000 in
theorem has_q3 (a b c d x : Int) (w : World) (h0 : 192 ≤ x) (h1 : x ≤ 255) (hq : x / 64 = 3) (ha : 0 ≤ a) (hb : 0 ≤ b) (hc : 0 ≤ c) (hd : 0 ≤ d) :
    Calls Try.prog 19 #[setV a b c d, .int .u8 x] w fun e w' => e = .returned (.bool (bits BinOp.and IntKind.u64 (d / 2 ^ (x % 64).toNat) 1 == 1)) ∧ Below w.heap.size w w' := by
  go_enter Try.func19, Try.ntmps19
  go_wp2
  go_returns
  exact ⟨rfl, by go_grown⟩
theorem has_any (f : Nat → Bool) (x : Int) (w : World) (h0 : 0 ≤ x) (h1 : x ≤ 255) :
    Calls Try.prog 19 #[setOf f, .int .u8 x] w fun e w' => e = .returned (.bool (f x.toNat)) ∧ Below w.heap.size w w' := by
  obtain ⟨n, rfl⟩ := Int.eq_ofNat_of_zero_le h0
  have hm : ((n : Int) % 64).toNat = n % 64 := by omega
  have hw := wd_test f n
  rcases (by omega : n / 64 = 0 ∨ n / 64 = 1 ∨ n / 64 = 2 ∨ n / 64 = 3) with h | h | h | h
  · rw [h] at hw
    refine (has_q0 _ _ _ _ (n : Int) w (by omega) (by omega) (by omega) (by omega) (by omega) (by omega) (by omega)).mono fun e w' ⟨he, hb⟩ => ⟨?_, hb⟩
    rw [he, hm, bit_and _ _ (wd_lt _ _), hw]; rfl
  · rw [h] at hw
    refine (has_q1 _ _ _ _ (n : Int) w (by omega) (by omega) (by omega) (by omega) (by omega) (by omega) (by omega)).mono fun e w' ⟨he, hb⟩ => ⟨?_, hb⟩
    rw [he, hm, bit_and _ _ (wd_lt _ _), hw]; rfl
  · rw [h] at hw
    refine (has_q2 _ _ _ _ (n : Int) w (by omega) (by omega) (by omega) (by omega) (by omega) (by omega) (by omega)).mono fun e w' ⟨he, hb⟩ => ⟨?_, hb⟩
    rw [he, hm, bit_and _ _ (wd_lt _ _), hw]; rfl
  · rw [h] at hw
    refine (has_q3 _ _ _ _ (n : Int) w (by omega) (by omega) (by omega) (by omega) (by omega) (by omega) (by omega)).mono fun e w' ⟨he, hb⟩ => ⟨?_, hb⟩
    rw [he, hm, bit_and _ _ (wd_lt _ _), hw]; rfl
set_option maxHeartbeats 800000 in
theorem refHas_q0 (a b c d x : Int) (w : World) (h0 : 0 ≤ x) (h1 : x ≤ 63) (hq : x / 64 = 0) (ha : 0 ≤ a) (hb : 0 ≤ b) (hc : 0 ≤ c) (hd : 0 ≤ d) :
    Calls Try.prog 45 #[setV a b c d, .int .u8 x] w fun e w' => e = .returned (.bool ((a / 2 ^ (x % 64).toNat).tmod 2 == 1)) ∧ Below w.heap.size w w' := by
  go_enter Try.func45, Try.ntmps45
  go_wp2
  go_returns
  exact ⟨rfl, by go_grown⟩
set_option maxHeartbeats 800000 in
theorem refHas_q1 (a b c d x : Int) (w : World) (h0 : 64 ≤ x) (h1 : x ≤ 127) (hq : x / 64 = 1) (ha : 0 ≤ a) (hb : 0 ≤ b) (hc : 0 ≤ c) (hd : 0 ≤ d) :
    Calls Try.prog 45 #[setV a b c d, .int .u8 x] w fun e w' => e = .returned (.bool ((b / 2 ^ (x % 64).toNat).tmod 2 == 1)) ∧ Below w.heap.size w w' := by
  go_enter Try.func45, Try.ntmps45
  go_wp2
  go_returns
  exact ⟨rfl, by go_grown⟩
set_option maxHeartbeats 800000 in
theorem refHas_q2 (a b c d x : Int) (w : World) (h0 : 128 ≤ x) (h1 : x ≤ 191) (hq : x / 64 = 2) (ha : 0 ≤ a) (hb : 0 ≤ b) (hc : 0 ≤ c) (hd : 0 ≤ d) :
    Calls Try.prog 45 #[setV a b c d, .int .u8 x] w fun e w' => e = .returned (.bool ((c / 2 ^ (x % 64).toNat).tmod 2 == 1)) ∧ Below w.heap.size w w' := by
  go_enter Try.func45, Try.ntmps45
  go_wp2
  go_returns
  exact ⟨rfl, by go_grown⟩
set_option maxHeartbeats 800000 in
theorem refHas_q3 (a b c d x : Int) (w : World) (h0 : 192 ≤ x) (h1 : x ≤ 255) (hq : x / 64 = 3) (ha : 0 ≤ a) (hb : 0 ≤ b) (hc : 0 ≤ c) (hd : 0 ≤ d) :
    Calls Try.prog 45 #[setV a b c d, .int .u8 x] w fun e w' => e = .returned (.bool ((d / 2 ^ (x % 64).toNat).tmod 2 == 1)) ∧ Below w.heap.size w w' := by
  go_enter Try.func45, Try.ntmps45
  go_wp2
  go_returns
  exact ⟨rfl, by go_grown⟩
theorem refHas_any (f : Nat → Bool) (x : Int) (w : World) (h0 : 0 ≤ x) (h1 : x ≤ 255) :
    Calls Try.prog 45 #[setOf f, .int .u8 x] w fun e w' => e = .returned (.bool (f x.toNat)) ∧ Below w.heap.size w w' := by
  obtain ⟨n, rfl⟩ := Int.eq_ofNat_of_zero_le h0
  have hm : ((n : Int) % 64).toNat = n % 64 := by omega
  have hw := wd_test f n
  rcases (by omega : n / 64 = 0 ∨ n / 64 = 1 ∨ n / 64 = 2 ∨ n / 64 = 3) with h | h | h | h
  · rw [h] at hw
    refine (refHas_q0 _ _ _ _ (n : Int) w (by omega) (by omega) (by omega) (by omega) (by omega) (by omega) (by omega)).mono fun e w' ⟨he, hb⟩ => ⟨?_, hb⟩
    rw [he, hm, bit_mod _ _, hw]; rfl
  · rw [h] at hw
    refine (refHas_q1 _ _ _ _ (n : Int) w (by omega) (by omega) (by omega) (by omega) (by omega) (by omega) (by omega)).mono fun e w' ⟨he, hb⟩ => ⟨?_, hb⟩
    rw [he, hm, bit_mod _ _, hw]; rfl
  · rw [h] at hw
    refine (refHas_q2 _ _ _ _ (n : Int) w (by omega) (by omega) (by omega) (by omega) (by omega) (by omega) (by omega)).mono fun e w' ⟨he, hb⟩ => ⟨?_, hb⟩
    rw [he, hm, bit_mod _ _, hw]; rfl
  · rw [h] at hw
    refine (refHas_q3 _ _ _ _ (n : Int) w (by omega) (by omega) (by omega) (by omega) (by omega) (by omega) (by omega)).mono fun e w' ⟨he, hb⟩ => ⟨?_, hb⟩
    rw [he, hm, bit_mod _ _, hw]; rfl
/-- the set of all numbers of a list -/
def memF (xs : List Int) (y : Nat) : Bool := xs.contains (y : Int)
theorem memF_snoc (xs : List Int) (x : Int) (h : 0 ≤ x) : memF (xs ++ [x]) = fun y => memF xs y || y == x.toNat := by
  funext y; obtain ⟨n, rfl⟩ := Int.eq_ofNat_of_zero_le h
  simp only [memF, List.contains_append, List.contains_cons, List.contains_nil, Bool.or_false, Int.toNat_natCast]
  congr 1; rw [Bool.eq_iff_iff, beq_iff_eq, beq_iff_eq]; omega
theorem memF_nil : memF [] = fun _ => false := by funext y; simp [memF]
theorem cells_none : cellsOf (fun _ => false) = setC 0 0 0 0 := by unfold cellsOf; simp [wd_none]
theorem cells_put (f : Nat → Bool) (x : Nat) (hx : x < 256) : cellsOf (fun y => f y || y == x) = (cellsOf f).set! (x / 64) (.int .u64 ((wd f (x / 64) ||| 2 ^ (x % 64) : Nat) : Int)) := by
  rw [wd_put]
  unfold cellsOf
  have hk := fun i (h : i ≠ x / 64) => wd_keep f x i h
  rcases (by omega : x / 64 = 0 ∨ x / 64 = 1 ∨ x / 64 = 2 ∨ x / 64 = 3) with h | h | h | h
  · rw [hk 1 (by omega), hk 2 (by omega), hk 3 (by omega), h]; rfl
  · rw [hk 0 (by omega), hk 2 (by omega), hk 3 (by omega), h]; rfl
  · rw [hk 0 (by omega), hk 1 (by omega), hk 3 (by omega), h]; rfl
  · rw [hk 0 (by omega), hk 1 (by omega), hk 2 (by omega), h]; rfl
/-- what the store of a byte's bit makes of its word -/
theorem or_put (f : Nat → Bool) (c : Int) (q : Nat) (h0 : 0 ≤ c) (h1 : c ≤ 255) (hq : c / 64 = q) :
    (Value.int .u64 (bits BinOp.or IntKind.u64 ((wd f q : Nat) : Int) (IntKind.u64.wrap (2 ^ (c % 64).toNat))) = .int .u64 ((wd f q ||| 2 ^ (c.toNat % 64) : Nat) : Int)) ∧
    cellsOf (fun y => f y || y == c.toNat) = (cellsOf f).set! q (.int .u64 ((wd f q ||| 2 ^ (c.toNat % 64) : Nat) : Int)) := by
  obtain ⟨n, rfl⟩ := Int.eq_ofNat_of_zero_le h0
  have hn : n / 64 = q := by omega
  have hm : ((n : Int) % 64).toNat = n % 64 := by omega
  have hp : 2 ^ (n % 64) < 18446744073709551616 := by
    calc 2 ^ (n % 64) ≤ 2 ^ 63 := Nat.pow_le_pow_right (by decide) (by omega)
      _ < 18446744073709551616 := by decide
  constructor
  · rw [hm, IntKind.wrap_u64, show ((2 : Int) ^ (n % 64)) % 18446744073709551616 = ((2 ^ (n % 64) : Nat) : Int) from by
      have e : ((2 : Int) ^ (n % 64)) = ((2 ^ (n % 64) : Nat) : Int) := by simp
      rw [e]; generalize 2 ^ (n % 64) = p at hp ⊢; omega, u64_or_nat _ _ (wd_lt _ _) hp]
    rfl
  · have := cells_put f n (by omega)
    rw [hn] at this
    exact this
set_option maxHeartbeats 1600000 in
theorem of_any (v : Value) (xs : List Int) (w : World) (h : RdB w v xs) :
    Calls Try.prog 36 #[v] w fun e w' => e = .returned (setOf (memF xs)) ∧ Below w.heap.size w w' := by
  rcases h with ⟨rfl, a, c, rfl⟩ | ⟨b, off, cap, rfl, hcap, hmax, hc, hb⟩
  · go_enter Try.func36, Try.ntmps36
    go_wp2
    refine wp_loop_rounds 1 ?_; rw [rounds_succ]
    go_wp2
    go_returns
    exact ⟨by rw [memF_nil]; unfold setOf; simp [wd_none], by go_grown⟩
  · have HC := Lib.hid hc; have HB := Lib.hid hb; clear hc hb
    go_enter Try.func36, Try.ntmps36
    go_wp2
    go_loopw [8] (fun i wr => ∃ k : Nat, k ≤ xs.length ∧ i = .int .i64 k ∧ AtG wr (w.heap.size + 1) 33 (cellsOf (memF (xs.take k))) ∧ AtG wr w.heap.size 33 (setC 0 0 0 0) ∧ Below w.heap.size w wr) (fun i _ => xs.length - (intOf i).toNat)
    case atStart => exact ⟨0, Nat.zero_le _, rfl, by rw [List.take_zero, memF_nil, cells_none]; have := AtG.new (w.alloc (.cells (setC 0 0 0 0) 33)) 33 (setC 0 0 0 0); simpa using this, (AtG.new w _ _).alloc _, by go_grown⟩
    case round =>
      obtain ⟨k, hk, rfl, hat, hres, hbl⟩ := hrel
      have hl0 := hat.lt
      by_cases hlt : k < xs.length
      · have hck := HC.out k hlt
        obtain ⟨hb0, hb1⟩ := HB.out k
        have hlb : b < w.heap.size := World.block_lt_of_cell? w _ hck
        have hck' : wr.cell? ⟨b, off + k, none⟩ = some (.int .u8 (xs.getD k 0)) := (hbl.cell (p := ⟨b, off + k, none⟩) hlb).trans hck
        have hts := take_snoc xs k hlt
        clear hck
        have HT := Lib.hid hts; have HBL := Lib.hid hbl; have HAT := Lib.hid hat; have HRES := Lib.hid hres; clear hts hbl hat hres
        generalize xs.getD k 0 = c at *
        have hne : b ≠ w.heap.size + 1 := by omega
        have hsn := memF_snoc (xs.take k) c hb0
        rw [← HT.out] at hsn
        have HSN := Lib.hid hsn; clear hsn
        have hq4 : c / 64 = 0 ∨ c / 64 = 1 ∨ c / 64 = 2 ∨ c / 64 = 3 := by omega
        rcases hq4 with hq | hq | hq | hq
        · as_aux_lemma =>
            have c0 : wr.cell? ⟨w.heap.size + 1, 0, none⟩ = some (.int .u64 ((wd (memF (xs.take k)) 0 : Nat) : Int)) := HAT.out.cell 0 _ rfl
            have f0 := HAT.out.frozen 0
            have HE := Lib.hid (or_put (memF (xs.take k)) c 0 hb0 hb1 hq)
            generalize ((wd (memF (xs.take k)) 0 : Nat) : Int) = A at c0 HE
            go_wp2
            exact ⟨⟨k + 1, by omega, by go_num, by rw [HSN.out, HE.out.2, ← HE.out.1]; exact HAT.out.set 0 _, HRES.out.far (by simp) _, HBL.out.setCell (by simp) _⟩, by simp [intOf]; omega⟩
        · as_aux_lemma =>
            have c0 : wr.cell? ⟨w.heap.size + 1, 1, none⟩ = some (.int .u64 ((wd (memF (xs.take k)) 1 : Nat) : Int)) := HAT.out.cell 1 _ rfl
            have f0 := HAT.out.frozen 1
            have HE := Lib.hid (or_put (memF (xs.take k)) c 1 hb0 hb1 hq)
            generalize ((wd (memF (xs.take k)) 1 : Nat) : Int) = A at c0 HE
            go_wp2
            exact ⟨⟨k + 1, by omega, by go_num, by rw [HSN.out, HE.out.2, ← HE.out.1]; exact HAT.out.set 1 _, HRES.out.far (by simp) _, HBL.out.setCell (by simp) _⟩, by simp [intOf]; omega⟩
        · as_aux_lemma =>
            have c0 : wr.cell? ⟨w.heap.size + 1, 2, none⟩ = some (.int .u64 ((wd (memF (xs.take k)) 2 : Nat) : Int)) := HAT.out.cell 2 _ rfl
            have f0 := HAT.out.frozen 2
            have HE := Lib.hid (or_put (memF (xs.take k)) c 2 hb0 hb1 hq)
            generalize ((wd (memF (xs.take k)) 2 : Nat) : Int) = A at c0 HE
            go_wp2
            exact ⟨⟨k + 1, by omega, by go_num, by rw [HSN.out, HE.out.2, ← HE.out.1]; exact HAT.out.set 2 _, HRES.out.far (by simp) _, HBL.out.setCell (by simp) _⟩, by simp [intOf]; omega⟩
        · as_aux_lemma =>
            have c0 : wr.cell? ⟨w.heap.size + 1, 3, none⟩ = some (.int .u64 ((wd (memF (xs.take k)) 3 : Nat) : Int)) := HAT.out.cell 3 _ rfl
            have f0 := HAT.out.frozen 3
            have HE := Lib.hid (or_put (memF (xs.take k)) c 3 hb0 hb1 hq)
            generalize ((wd (memF (xs.take k)) 3 : Nat) : Int) = A at c0 HE
            go_wp2
            exact ⟨⟨k + 1, by omega, by go_num, by rw [HSN.out, HE.out.2, ← HE.out.1]; exact HAT.out.set 3 _, HRES.out.far (by simp) _, HBL.out.setCell (by simp) _⟩, by simp [intOf]; omega⟩
      · obtain rfl : k = xs.length := by omega
        rw [List.take_length] at hat
        have c0 : wr.cell? ⟨w.heap.size + 1, 0, none⟩ = some (.int .u64 ((wd (memF xs) 0 : Nat) : Int)) := hat.cell 0 _ rfl
        have c1 : wr.cell? ⟨w.heap.size + 1, 1, none⟩ = some (.int .u64 ((wd (memF xs) 1 : Nat) : Int)) := hat.cell 1 _ rfl
        have c2 : wr.cell? ⟨w.heap.size + 1, 2, none⟩ = some (.int .u64 ((wd (memF xs) 2 : Nat) : Int)) := hat.cell 2 _ rfl
        have c3 : wr.cell? ⟨w.heap.size + 1, 3, none⟩ = some (.int .u64 ((wd (memF xs) 3 : Nat) : Int)) := hat.cell 3 _ rfl
        have d0 := hres.cell 0 _ rfl
        have d1 := hres.cell 1 _ rfl
        have d2 := hres.cell 2 _ rfl
        have d3 := hres.cell 3 _ rfl
        have f0 := hres.frozen 0
        have f1 := hres.frozen 1
        have f2 := hres.frozen 2
        have f3 := hres.frozen 3
        have HBL := Lib.hid hbl; clear hbl hat hres HC HB
        go_wp2
        refine bodyPost_ret (v := setOf (memF xs)) (by simp [results, Try.results36, go_sem, d0, d1, d2, d3]; rfl) rfl ⟨rfl, ?_⟩
        exact (((HBL.out.setCell (by simp) _).setCell (by simp) _).setCell (by simp) _).setCell (by simp) _
end Go.Proofs.Ytklpjlcphikfaaa
