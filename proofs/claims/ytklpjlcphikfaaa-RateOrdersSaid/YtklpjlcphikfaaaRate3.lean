/- The walk of rate.Of. -/
import Derived.Test.YtklpjlcphikfaaaRate2
set_option linter.unusedVariables false
set_option linter.unusedSimpArgs false
namespace Go.Proofs.Ytklpjlcphikfaaa
open Go.RowKit Fl
theorem archFloor_run (x : Nat) (h : x < 9218868437227405312) (w : World) : (callFunc 70 #[.float .f64 x]).run Try.prog w = .ok (.value (.float .f64 (wordN (flo x)))) w := by
  obtain ⟨m, p, e1, v1⟩ := read_small x (by omega)
  have e2 := integral_pos .down (Or.inl rfl) x 1074 rfl h
  rw [e1] at e2
  rw [archFloor_code, floor_case x _ _ _ e1, e2]
  rfl
theorem toInt_flo (x : Nat) (h : isRate x = true) : floatToIntVal .f64 (wordN (flo x)) .i64 = some ((flo x : Nat) : Int) := by
  have hb := flo_bd x h
  have hw := (wordN_V (flo x) (by omega)).2
  have e2 := integral_pos .zero (Or.inr rfl) (wordN (flo x)) 1074 rfl hw
  have e3 := flo_wordN (flo x) (by omega)
  have e4 : (Ieee.double.read (wordN (flo x))).integral .zero = .number false (flo x) 0 := e2.trans (congrArg (fun n => Ieee.Datum.number false n 0) e3)
  have e5 : (FloatKind.f64.decode (wordN (flo x))).toInt .zero = some ((flo x : Nat) : Int) := by
    show (match (Ieee.double.read (wordN (flo x))).integral .zero with | .number s m _ => some (Ieee.signed s m 0) | _ => none) = _
    rw [e4]
    show some (Ieee.signed false (flo x) 0) = _
    unfold Ieee.signed
    simp
  unfold floatToIntVal
  rw [e5]
  simp [IntKind.min, IntKind.max, IntKind.signed, IntKind.bits]
  omega
theorem isRate_bd (x : Nat) (h : isRate x = true) : x < 9218868437227405312 := by
  unfold isRate at h; rw [decide_eq_true_iff] at h; omega
theorem floor_any (x : Nat) (w : World) (h : x < 9218868437227405312) : Calls Try.prog 65 #[.float .f64 x] w fun e w' => e = .returned (.float .f64 (wordN (flo x))) ∧ w' = w := by
  have ha := archFloor_run x h
  go_enter Try.func65, Try.ntmps65
  go_wp2
  go_returns
  exact ⟨rfl, rfl⟩
/-- the four tests, by name -/
theorem tests_rate (a : Nat) (hx : a < 18446744073709551616) (h : isRate a = true) : (FloatKind.f64.format.order a a != some .eq) = false ∧ (FloatKind.f64.format.order (a % 9223372036854775808) 9218868437227405311 == some .gt) = false ∧ (FloatKind.f64.format.order a 4607182418800017408 == some .lt) = false ∧ (FloatKind.f64.format.order a 4652218415073722368 == some .gt) = false := by
  have ht := rate_test a hx
  rw [h] at ht
  simp only [Bool.not_true, Bool.or_eq_false_iff] at ht
  exact ⟨(ord_self a hx).trans ht.1.1.1, (ord_inf a).trans ht.1.1.2, ht.1.2, ht.2⟩
theorem tests_none (a : Nat) (hx : a < 18446744073709551616) (h : isRate a = false) : (FloatKind.f64.format.order a a != some .eq) = true ∨ (FloatKind.f64.format.order a a != some .eq) = false ∧ ((FloatKind.f64.format.order (a % 9223372036854775808) 9218868437227405311 == some .gt) = true ∨ (FloatKind.f64.format.order (a % 9223372036854775808) 9218868437227405311 == some .gt) = false ∧ ((FloatKind.f64.format.order a 4607182418800017408 == some .lt) = true ∨ (FloatKind.f64.format.order a 4607182418800017408 == some .lt) = false ∧ (FloatKind.f64.format.order a 4652218415073722368 == some .gt) = true)) := by
  have ht := rate_test a hx
  rw [h] at ht
  have e1 : (FloatKind.f64.format.order a a != some .eq) = !some' a := ord_self a hx
  have e2 : (FloatKind.f64.format.order (a % 9223372036854775808) 9218868437227405311 == some .gt) = isInf a := ord_inf a
  rw [e1, e2]
  generalize (!some' a) = p at ht ⊢
  generalize isInf a = q at ht ⊢
  change (p || q || (FloatKind.f64.format.order a 4607182418800017408 == some .lt) || (FloatKind.f64.format.order a 4652218415073722368 == some .gt)) = true at ht
  generalize (FloatKind.f64.format.order a 4607182418800017408 == some .lt) = r at ht ⊢
  generalize (FloatKind.f64.format.order a 4652218415073722368 == some .gt) = s at ht ⊢
  cases p <;> cases q <;> cases r <;> cases s <;> simp_all
theorem rateOf_any (a : Nat) (w : World) (hx : a < 18446744073709551616) :
    Calls Try.prog 49 #[.int .u64 a] w fun e w' => e = .returned (.tuple #[.int .i64 (if isRate a then flo a else 0), if isRate a then .nilIface else .iface 84 (.int .i64 1)]) ∧ w' = w := by
  have hf := frombits_run
  have ht := tobits_run
  have han := andNot_top a hx
  cases hR : isRate a
  · rcases tests_none a hx hR with h1 | ⟨h1, h2 | ⟨h2, h3 | ⟨h3, h4⟩⟩⟩
    all_goals
      go_enter Try.func49, Try.ntmps49
      go_wp2
      go_returns
      exact ⟨rfl, rfl⟩
  · obtain ⟨h1, h2, h3, h4⟩ := tests_rate a hx hR
    have ha := archFloor_run a (isRate_bd a hR)
    have hc := fun w => run_convert_float_int (P := Try.prog) w 89 3 .f64 .i64 _ _ (by rw [Try.underlying89]; rfl) Try.underlying3 (toInt_flo a hR)
    go_enter Try.func49, Try.ntmps49
    go_wp2
    go_returns
    exact ⟨rfl, rfl⟩
end Go.Proofs.Ytklpjlcphikfaaa
