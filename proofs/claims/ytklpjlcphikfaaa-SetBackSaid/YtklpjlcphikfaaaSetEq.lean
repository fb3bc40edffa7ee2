/- The head of the statements of the sets; equality of sets; string(..) of a row of bytes. -/
import Derived.Test.YtklpjlcphikfaaaCount
import Derived.Test.YtklpjlcphikfaaaSetOr
import Derived.Test.YtklpjlcphikfaaaSetRef2
import Derived.Laws.StructEq
import Derived.Laws.BytesArg
import Derived.ChangeKeysEq
import Derived.Deep.RegionWith
set_option linter.unusedVariables false
set_option linter.unusedSimpArgs false
namespace Go.Proofs.Ytklpjlcphikfaaa
open Go.RowKit Bt
set_option maxRecDepth 100000 in
set_option maxHeartbeats 1600000 in
theorem up01_any (w : World) : Calls Try.prog 35 #[] w fun e w' => e = .returned (.bool true) ∧ Below w.heap.size w w' := by
  have hr : ∃ f, cnt f 256 = 3 ∧ ∀ w1 : World, Calls Try.prog 38 #[.int .u8 97, .int .u8 99] w1 fun e w' => e = .returned (setOf f) ∧ Below w1.heap.size w1 w' :=
    ⟨_, by decide +kernel, fun w1 => range_any 97 99 w1 (by decide) (by decide) (by decide) (by decide)⟩
  obtain ⟨f, hf, hr⟩ := hr
  have HF := Lib.hid hf; have HR := Lib.hid hr; clear hf hr
  go_enter Try.func35, Try.ntmps35
  go_wp2_with fail
  refine (HR.out _).mono ?_; rintro e w1 ⟨rfl, hb1⟩
  have HB1 := Lib.hid hb1; clear hb1
  go_wp2_with fail
  refine (count_any f _).mono ?_; rintro e w2 ⟨rfl, hb2⟩
  rw [HF.out]
  have HB2 := Lib.hid (HB1.out.trans (hb2.mono HB1.out.size)); clear hb2
  go_wp2_with fail
  refine (of_any _ [200] _ ?_).mono ?_
  · exact rdB_cells2 [200] rfl (heap_alloc_new _ _) (Nat.le_refl _) (by decide) (by decide)
  rintro e w3 ⟨rfl, hb3⟩
  have HB3 := Lib.hid (HB2.out.trans (((Below.refl _ _).alloc (Nat.le_refl _) _).trans (hb3.mono (by simp)) |>.mono HB2.out.size)); clear hb3
  go_wp2_with fail
  refine (has_any (memF [200]) 200 _ (by decide) (by decide)).mono ?_
  rw [show memF [200] (200 : Int).toNat = true from by decide]
  rintro e w4 ⟨rfl, hb4⟩
  have HB4 := Lib.hid (HB3.out.trans (hb4.mono HB3.out.size)); clear hb4
  go_wp2_with fail
  refine (of_any _ [200] _ ?_).mono ?_
  · exact rdB_cells2 [200] rfl (heap_alloc_new _ _) (Nat.le_refl _) (by decide) (by decide)
  rintro e w5 ⟨rfl, hb5⟩
  have HB5 := Lib.hid (HB4.out.trans (((Below.refl _ _).alloc (Nat.le_refl _) _).trans (hb5.mono (by simp)) |>.mono HB4.out.size)); clear hb5
  go_wp2_with fail
  refine (not_any _ _).mono ?_; rintro e w6 ⟨rfl, hb6⟩
  have HB6 := Lib.hid (HB5.out.trans (hb6.mono HB5.out.size)); clear hb6
  go_wp2_with fail
  refine (has_any (fun x => !memF [200] x) 200 _ (by decide) (by decide)).mono ?_
  simp only [show memF [200] (200 : Int).toNat = true from by decide, Bool.not_true]
  rintro e w7 ⟨rfl, hb7⟩
  have HB7 := Lib.hid (HB6.out.trans (hb7.mono HB6.out.size)); clear hb7
  go_wp2
  go_returns
  exact ⟨rfl, HB7.out⟩
theorem part4 (a b c d : Int) : (∀ w : World, (part 31 (setC a b c d) 0).run Try.prog w = .ok (.int .u64 a) w) ∧ (∀ w : World, (part 31 (setC a b c d) 1).run Try.prog w = .ok (.int .u64 b) w) ∧
    (∀ w : World, (part 31 (setC a b c d) 2).run Try.prog w = .ok (.int .u64 c) w) ∧ (∀ w : World, (part 31 (setC a b c d) 3).run Try.prog w = .ok (.int .u64 d) w) :=
  ⟨fun _ => by kernel_rfl, fun _ => by kernel_rfl, fun _ => by kernel_rfl, fun _ => by kernel_rfl⟩
theorem cells64 : Try.prog.cellsOf 31 = 1 := by kernel_rfl
theorem info64 : ∃ i, Try.prog.info? 31 = some i := by
  have h : (Try.prog.info? 31).isSome = true := by kernel_rfl
  exact Option.isSome_iff_exists.1 h
theorem eq_set (a b c d a' b' c' d' : Int) (w : World) :
    (Op.equal 33 (setV a b c d) (setV a' b' c' d')).run Try.prog w = .ok (a == a' && (b == b' && (c == c' && d == d'))) w := by
  obtain ⟨i, hi⟩ := info64
  obtain ⟨p0, p1, p2, p3⟩ := part4 a b c d
  obtain ⟨q0, q1, q2, q3⟩ := part4 a' b' c' d'
  have he := fun (x y : Int) => run_equalIn_int (P := Try.prog) w 9998 31 .u64 .u64 x y Try.underlying31
  simp only [Nat.reduceAdd] at he
  show (Op.equalIn (9999 + 1) 33 (.agg (setC a b c d)) (.agg (setC a' b' c' d'))).run Try.prog w = _
  rw [run_equalIn_array w 9999 _ _ Try.underlying33 hi, cells64]
  simp only [show List.range 4 = [0, 1, 2, 3] from rfl, Op.eqItems, Nat.mul_one, Sem.run_bind, p0, q0, Result.andThen_ok, he]
  have he0 := he a a'; have he1 := he b b'; have he2 := he c c'; have he3 := he d d'
  clear he
  generalize (a == a') = r0 at *
  generalize (b == b') = r1 at *
  generalize (c == c') = r2 at *
  generalize (d == d') = r3 at *
  cases r0 <;> cases r1 <;> cases r2 <;> cases r3 <;> simp [p1, p2, p3, q1, q2, q3, he1, he2, he3]
/-- a value that is compared with itself -/
theorem eq_self (a b c d : Int) (w : World) : (Op.equalIn 10000 33 (.agg #[.int .u64 a, .int .u64 b, .int .u64 c, .int .u64 d]) (.agg #[.int .u64 a, .int .u64 b, .int .u64 c, .int .u64 d])).run Try.prog w = .ok true w := by
  have := eq_set a b c d a b c d w; simpa [Op.equal, Op.maxDepth] using this
theorem own_slice {w : World} {base n : Nat} {e : TypeId} {v : Value} {xs : List Value} (h : w.ownsRow base e 1 v n xs) : ∃ p c, v = .slice p n c := by
  have hl := h.1
  rcases own_cells h with ⟨rfl, rfl⟩ | ⟨g, cap, rfl, _⟩
  · exact ⟨none, 0, by simp at hl; rw [← hl]⟩
  · exact ⟨_, cap, by rw [show xs.length = n from by omega]⟩
/-- string(v) of a slice of bytes -/
theorem rdB_conv {w : World} {v : Value} {xs : List Int} (h : RdB w v xs) : (convert 36 9 v).run Try.prog w = .ok (.string (strOfNums xs)) w := by
  rcases h with ⟨rfl, a, c, rfl⟩ | ⟨b, off, cap, rfl, hcap, hmax, hc, hb⟩
  · cases a with
    | none => exact run_convert_bytes_nil w 36 5 Try.underlying36 Try.underlying5 _ _ _ Try.underlying9
    | some a => 
      obtain ⟨b, off, sp⟩ := a
      rw [run_convert_bytes_string w 36 9 5 _ 0 c Try.underlying36 Try.underlying5 Try.underlying9, run_bytesToString w _ 0 c [] (by have := run_loadCells_list (P := Try.prog) w ⟨b, off, sp⟩ [] (fun j v hj => by simp at hj); simpa using this)]
      rfl
  · exact run_convert_bytes_arg w 36 5 Try.underlying36 Try.underlying5 b off _ cap xs rfl hc _ Try.underlying9
end Go.Proofs.Ytklpjlcphikfaaa
