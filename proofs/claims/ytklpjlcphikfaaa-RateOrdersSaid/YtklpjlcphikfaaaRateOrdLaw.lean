/- The walk of RateOrders. -/
import Derived.Test.YtklpjlcphikfaaaRateOrd
set_option linter.unusedVariables false
set_option linter.unusedSimpArgs false
namespace Go.Proofs.Ytklpjlcphikfaaa
open Go.RowKit Fl

set_option maxRecDepth 100000 in
set_option maxHeartbeats 8000000 in
theorem rateOrders_loy (n m : Int) (a b c : Nat) (w : World) (n0 : -9007199254740992 ≤ n) (n1 : n ≤ 9007199254740992) (m0 : -9007199254740992 ≤ m) (m1 : m ≤ 9007199254740992) (ha : a < 18446744073709551616) (hb : b < 18446744073709551616) (hc : c < 18446744073709551616) (g0 : n < 1) (hr : isRate a = true) :
    Calls Try.prog 13 #[.int .i64 n, .int .i64 m, .int .u64 a, .int .u64 b, .int .u64 c] w fun e w' => e = .returned (.bool true) ∧ w' = w := by
  have hup := up12_any
  have hbn := fun w => bits_is n w n0 n1
  have hbm := fun w => bits_is m w m0 m1
  have hlxy := fun w => less_is (ltF_bits n m n0 n1 m0 m1) w (bitsN_lt n n0 n1) (bitsN_lt m m0 m1)
  have hsxy := fun w => same_is (eqF_bits n m n0 n1 m0 m1) w (bitsN_lt n n0 n1) (bitsN_lt m m0 m1)
  have hox := fun w => of_no (bitsN n) w (bitsN_lt n n0 n1) (by rw [← Bool.not_eq_true, isRate_bits n n0 n1]; omega)
  have hfb := flo_bd a hr
  have hoa := fun w => of_yes a w ha hr
  have hbk := fun w => bits_is (flo a) w (by omega) (by omega)
  have hbk1 := fun w => bits_is ((flo a : Int) + 1) w (by omega) (by omega)
  have hlk := fun w => less_is (bits_flo a hr).1 w ha (bitsN_lt _ (by omega) (by omega))
  have hlk1 := fun w => less_is (bits_flo a hr).2 w ha (bitsN_lt _ (by omega) (by omega))
  have hway := way6_any a b c
  unfold way6 at hway
  rcases hway with ⟨hlab, hlba, hsab, hsaa, hsbb, hlbc⟩ | ⟨hlab, hlba, hsab, hsaa, hsbb, hlbc, hlac⟩ | ⟨hlab, hlba, hsab, hsaa, hsbb⟩ | ⟨hlab, hlba, hsab, hsaa, hsbb⟩ | ⟨hlab, hlba, hsab, hsaa⟩ | ⟨hlab, hlba, hsab, hsaa, hsbb⟩
  · skip
    replace hlab := fun w => less_is hlab w ha hb
    replace hlba := fun w => less_is hlba w hb ha
    replace hsab := fun w => same_is hsab w ha hb
    replace hsaa := fun w => same_is hsaa w ha ha
    replace hsbb := fun w => same_is hsbb w hb hb
    replace hlbc := fun w => less_is hlbc w hb hc
    clear hr ha hb hc
    obtain ⟨f0, f1⟩ := hfb
    replace f0 : (1 : Int) ≤ (flo a : Nat) := by omega
    replace f1 : ((flo a : Nat) : Int) ≤ 1024 := by omega
    generalize ((bitsN ((flo a : Nat) : Int) : Nat) : Int) = z at *
    generalize ((bitsN (((flo a : Nat) : Int) + 1) : Nat) : Int) = z1 at *
    generalize ((flo a : Nat) : Int) = k at *
    generalize ((bitsN n : Nat) : Int) = x at *
    generalize ((bitsN m : Nat) : Int) = y at *
    generalize (a : Int) = a at *
    generalize (b : Int) = b at *
    generalize (c : Int) = c at *
    have Hup := Lib.hid hup; clear hup
    have Hbn := Lib.hid hbn; clear hbn
    have Hbm := Lib.hid hbm; clear hbm
    have Hlxy := Lib.hid hlxy; clear hlxy
    have Hsxy := Lib.hid hsxy; clear hsxy
    have Hox := Lib.hid hox; clear hox
    have Hoa := Lib.hid hoa; clear hoa
    have Hbk := Lib.hid hbk; clear hbk
    have Hbk1 := Lib.hid hbk1; clear hbk1
    have Hlk := Lib.hid hlk; clear hlk
    have Hlk1 := Lib.hid hlk1; clear hlk1
    have Hlab := Lib.hid hlab; clear hlab
    have Hlba := Lib.hid hlba; clear hlba
    have Hsab := Lib.hid hsab; clear hsab
    have Hsaa := Lib.hid hsaa; clear hsaa
    have Hsbb := Lib.hid hsbb; clear hsbb
    have Hlbc := Lib.hid hlbc; clear hlbc
    go_enter Try.func13, Try.ntmps13
    go_wp2_with fail; refine ((Hup).out _).mono ?_; rintro e9 w9 ⟨rfl, hw9⟩; subst hw9; try dsimp only
    go_wp2_with fail; refine ((Hbn).out _).mono ?_; rintro e9 w9 ⟨rfl, hw9⟩; subst hw9; try dsimp only
    go_wp2_with fail; refine ((Hbm).out _).mono ?_; rintro e9 w9 ⟨rfl, hw9⟩; subst hw9; try dsimp only
    go_wp2_with fail; refine ((Hlxy).out _).mono ?_; rintro e9 w9 ⟨rfl, hw9⟩; subst hw9; try dsimp only
    go_wp2_with fail; refine ((Hsxy).out _).mono ?_; rintro e9 w9 ⟨rfl, hw9⟩; subst hw9; try dsimp only
    go_wp2_with fail; refine ((Hlab).out _).mono ?_; rintro e9 w9 ⟨rfl, hw9⟩; subst hw9; try dsimp only
    go_wp2_with fail; refine ((Hlba).out _).mono ?_; rintro e9 w9 ⟨rfl, hw9⟩; subst hw9; try dsimp only
    go_wp2_with fail; refine ((Hsab).out _).mono ?_; rintro e9 w9 ⟨rfl, hw9⟩; subst hw9; try dsimp only
    go_wp2_with fail; refine ((Hsaa).out _).mono ?_; rintro e9 w9 ⟨rfl, hw9⟩; subst hw9; try dsimp only
    go_wp2_with fail; refine ((Hsbb).out _).mono ?_; rintro e9 w9 ⟨rfl, hw9⟩; subst hw9; try dsimp only
    go_wp2_with fail; refine ((Hlab).out _).mono ?_; rintro e9 w9 ⟨rfl, hw9⟩; subst hw9; try dsimp only
    go_wp2_with fail; refine ((Hlbc).out _).mono ?_; rintro e9 w9 ⟨rfl, hw9⟩; subst hw9; try dsimp only
    go_wp2_with fail; refine ((Hox).out _).mono ?_; rintro e9 w9 ⟨rfl, hw9⟩; subst hw9; try dsimp only
    go_wp2_with fail; refine ((Hoa).out _).mono ?_; rintro e9 w9 ⟨rfl, hw9⟩; subst hw9; try dsimp only
    go_wp2_with fail; refine ((Hbk).out _).mono ?_; rintro e9 w9 ⟨rfl, hw9⟩; subst hw9; try dsimp only
    go_wp2_with fail; refine ((Hlk).out _).mono ?_; rintro e9 w9 ⟨rfl, hw9⟩; subst hw9; try dsimp only
    go_wp2_with fail; refine ((Hbk1).out _).mono ?_; rintro e9 w9 ⟨rfl, hw9⟩; subst hw9; try dsimp only
    go_wp2_with fail; refine ((Hlk1).out _).mono ?_; rintro e9 w9 ⟨rfl, hw9⟩; subst hw9; try dsimp only
    go_wp2_with fail
    go_returns
    exact ⟨rfl, rfl⟩
  · skip
    replace hlab := fun w => less_is hlab w ha hb
    replace hlba := fun w => less_is hlba w hb ha
    replace hsab := fun w => same_is hsab w ha hb
    replace hsaa := fun w => same_is hsaa w ha ha
    replace hsbb := fun w => same_is hsbb w hb hb
    replace hlbc := fun w => less_is hlbc w hb hc
    replace hlac := fun w => less_is hlac w ha hc
    clear hr ha hb hc
    obtain ⟨f0, f1⟩ := hfb
    replace f0 : (1 : Int) ≤ (flo a : Nat) := by omega
    replace f1 : ((flo a : Nat) : Int) ≤ 1024 := by omega
    generalize ((bitsN ((flo a : Nat) : Int) : Nat) : Int) = z at *
    generalize ((bitsN (((flo a : Nat) : Int) + 1) : Nat) : Int) = z1 at *
    generalize ((flo a : Nat) : Int) = k at *
    generalize ((bitsN n : Nat) : Int) = x at *
    generalize ((bitsN m : Nat) : Int) = y at *
    generalize (a : Int) = a at *
    generalize (b : Int) = b at *
    generalize (c : Int) = c at *
    have Hup := Lib.hid hup; clear hup
    have Hbn := Lib.hid hbn; clear hbn
    have Hbm := Lib.hid hbm; clear hbm
    have Hlxy := Lib.hid hlxy; clear hlxy
    have Hsxy := Lib.hid hsxy; clear hsxy
    have Hox := Lib.hid hox; clear hox
    have Hoa := Lib.hid hoa; clear hoa
    have Hbk := Lib.hid hbk; clear hbk
    have Hbk1 := Lib.hid hbk1; clear hbk1
    have Hlk := Lib.hid hlk; clear hlk
    have Hlk1 := Lib.hid hlk1; clear hlk1
    have Hlab := Lib.hid hlab; clear hlab
    have Hlba := Lib.hid hlba; clear hlba
    have Hsab := Lib.hid hsab; clear hsab
    have Hsaa := Lib.hid hsaa; clear hsaa
    have Hsbb := Lib.hid hsbb; clear hsbb
    have Hlbc := Lib.hid hlbc; clear hlbc
    have Hlac := Lib.hid hlac; clear hlac
    go_enter Try.func13, Try.ntmps13
    go_wp2_with fail; refine ((Hup).out _).mono ?_; rintro e9 w9 ⟨rfl, hw9⟩; subst hw9; try dsimp only
    go_wp2_with fail; refine ((Hbn).out _).mono ?_; rintro e9 w9 ⟨rfl, hw9⟩; subst hw9; try dsimp only
    go_wp2_with fail; refine ((Hbm).out _).mono ?_; rintro e9 w9 ⟨rfl, hw9⟩; subst hw9; try dsimp only
    go_wp2_with fail; refine ((Hlxy).out _).mono ?_; rintro e9 w9 ⟨rfl, hw9⟩; subst hw9; try dsimp only
    go_wp2_with fail; refine ((Hsxy).out _).mono ?_; rintro e9 w9 ⟨rfl, hw9⟩; subst hw9; try dsimp only
    go_wp2_with fail; refine ((Hlab).out _).mono ?_; rintro e9 w9 ⟨rfl, hw9⟩; subst hw9; try dsimp only
    go_wp2_with fail; refine ((Hlba).out _).mono ?_; rintro e9 w9 ⟨rfl, hw9⟩; subst hw9; try dsimp only
    go_wp2_with fail; refine ((Hsab).out _).mono ?_; rintro e9 w9 ⟨rfl, hw9⟩; subst hw9; try dsimp only
    go_wp2_with fail; refine ((Hsaa).out _).mono ?_; rintro e9 w9 ⟨rfl, hw9⟩; subst hw9; try dsimp only
    go_wp2_with fail; refine ((Hsbb).out _).mono ?_; rintro e9 w9 ⟨rfl, hw9⟩; subst hw9; try dsimp only
    go_wp2_with fail; refine ((Hlab).out _).mono ?_; rintro e9 w9 ⟨rfl, hw9⟩; subst hw9; try dsimp only
    go_wp2_with fail; refine ((Hlbc).out _).mono ?_; rintro e9 w9 ⟨rfl, hw9⟩; subst hw9; try dsimp only
    go_wp2_with fail; refine ((Hlac).out _).mono ?_; rintro e9 w9 ⟨rfl, hw9⟩; subst hw9; try dsimp only
    go_wp2_with fail; refine ((Hox).out _).mono ?_; rintro e9 w9 ⟨rfl, hw9⟩; subst hw9; try dsimp only
    go_wp2_with fail; refine ((Hoa).out _).mono ?_; rintro e9 w9 ⟨rfl, hw9⟩; subst hw9; try dsimp only
    go_wp2_with fail; refine ((Hbk).out _).mono ?_; rintro e9 w9 ⟨rfl, hw9⟩; subst hw9; try dsimp only
    go_wp2_with fail; refine ((Hlk).out _).mono ?_; rintro e9 w9 ⟨rfl, hw9⟩; subst hw9; try dsimp only
    go_wp2_with fail; refine ((Hbk1).out _).mono ?_; rintro e9 w9 ⟨rfl, hw9⟩; subst hw9; try dsimp only
    go_wp2_with fail; refine ((Hlk1).out _).mono ?_; rintro e9 w9 ⟨rfl, hw9⟩; subst hw9; try dsimp only
    go_wp2_with fail
    go_returns
    exact ⟨rfl, rfl⟩
  · skip
    replace hlab := fun w => less_is hlab w ha hb
    replace hlba := fun w => less_is hlba w hb ha
    replace hsab := fun w => same_is hsab w ha hb
    replace hsaa := fun w => same_is hsaa w ha ha
    replace hsbb := fun w => same_is hsbb w hb hb
    clear hr ha hb hc
    obtain ⟨f0, f1⟩ := hfb
    replace f0 : (1 : Int) ≤ (flo a : Nat) := by omega
    replace f1 : ((flo a : Nat) : Int) ≤ 1024 := by omega
    generalize ((bitsN ((flo a : Nat) : Int) : Nat) : Int) = z at *
    generalize ((bitsN (((flo a : Nat) : Int) + 1) : Nat) : Int) = z1 at *
    generalize ((flo a : Nat) : Int) = k at *
    generalize ((bitsN n : Nat) : Int) = x at *
    generalize ((bitsN m : Nat) : Int) = y at *
    generalize (a : Int) = a at *
    generalize (b : Int) = b at *
    generalize (c : Int) = c at *
    have Hup := Lib.hid hup; clear hup
    have Hbn := Lib.hid hbn; clear hbn
    have Hbm := Lib.hid hbm; clear hbm
    have Hlxy := Lib.hid hlxy; clear hlxy
    have Hsxy := Lib.hid hsxy; clear hsxy
    have Hox := Lib.hid hox; clear hox
    have Hoa := Lib.hid hoa; clear hoa
    have Hbk := Lib.hid hbk; clear hbk
    have Hbk1 := Lib.hid hbk1; clear hbk1
    have Hlk := Lib.hid hlk; clear hlk
    have Hlk1 := Lib.hid hlk1; clear hlk1
    have Hlab := Lib.hid hlab; clear hlab
    have Hlba := Lib.hid hlba; clear hlba
    have Hsab := Lib.hid hsab; clear hsab
    have Hsaa := Lib.hid hsaa; clear hsaa
    have Hsbb := Lib.hid hsbb; clear hsbb
    go_enter Try.func13, Try.ntmps13
    go_wp2_with fail; refine ((Hup).out _).mono ?_; rintro e9 w9 ⟨rfl, hw9⟩; subst hw9; try dsimp only
    go_wp2_with fail; refine ((Hbn).out _).mono ?_; rintro e9 w9 ⟨rfl, hw9⟩; subst hw9; try dsimp only
    go_wp2_with fail; refine ((Hbm).out _).mono ?_; rintro e9 w9 ⟨rfl, hw9⟩; subst hw9; try dsimp only
    go_wp2_with fail; refine ((Hlxy).out _).mono ?_; rintro e9 w9 ⟨rfl, hw9⟩; subst hw9; try dsimp only
    go_wp2_with fail; refine ((Hsxy).out _).mono ?_; rintro e9 w9 ⟨rfl, hw9⟩; subst hw9; try dsimp only
    go_wp2_with fail; refine ((Hlab).out _).mono ?_; rintro e9 w9 ⟨rfl, hw9⟩; subst hw9; try dsimp only
    go_wp2_with fail; refine ((Hlba).out _).mono ?_; rintro e9 w9 ⟨rfl, hw9⟩; subst hw9; try dsimp only
    go_wp2_with fail; refine ((Hsab).out _).mono ?_; rintro e9 w9 ⟨rfl, hw9⟩; subst hw9; try dsimp only
    go_wp2_with fail; refine ((Hsaa).out _).mono ?_; rintro e9 w9 ⟨rfl, hw9⟩; subst hw9; try dsimp only
    go_wp2_with fail; refine ((Hsbb).out _).mono ?_; rintro e9 w9 ⟨rfl, hw9⟩; subst hw9; try dsimp only
    go_wp2_with fail; refine ((Hlab).out _).mono ?_; rintro e9 w9 ⟨rfl, hw9⟩; subst hw9; try dsimp only
    go_wp2_with fail; refine ((Hox).out _).mono ?_; rintro e9 w9 ⟨rfl, hw9⟩; subst hw9; try dsimp only
    go_wp2_with fail; refine ((Hoa).out _).mono ?_; rintro e9 w9 ⟨rfl, hw9⟩; subst hw9; try dsimp only
    go_wp2_with fail; refine ((Hbk).out _).mono ?_; rintro e9 w9 ⟨rfl, hw9⟩; subst hw9; try dsimp only
    go_wp2_with fail; refine ((Hlk).out _).mono ?_; rintro e9 w9 ⟨rfl, hw9⟩; subst hw9; try dsimp only
    go_wp2_with fail; refine ((Hbk1).out _).mono ?_; rintro e9 w9 ⟨rfl, hw9⟩; subst hw9; try dsimp only
    go_wp2_with fail; refine ((Hlk1).out _).mono ?_; rintro e9 w9 ⟨rfl, hw9⟩; subst hw9; try dsimp only
    go_wp2_with fail
    go_returns
    exact ⟨rfl, rfl⟩
  · skip
    replace hlab := fun w => less_is hlab w ha hb
    replace hlba := fun w => less_is hlba w hb ha
    replace hsab := fun w => same_is hsab w ha hb
    replace hsaa := fun w => same_is hsaa w ha ha
    replace hsbb := fun w => same_is hsbb w hb hb
    clear hr ha hb hc
    obtain ⟨f0, f1⟩ := hfb
    replace f0 : (1 : Int) ≤ (flo a : Nat) := by omega
    replace f1 : ((flo a : Nat) : Int) ≤ 1024 := by omega
    generalize ((bitsN ((flo a : Nat) : Int) : Nat) : Int) = z at *
    generalize ((bitsN (((flo a : Nat) : Int) + 1) : Nat) : Int) = z1 at *
    generalize ((flo a : Nat) : Int) = k at *
    generalize ((bitsN n : Nat) : Int) = x at *
    generalize ((bitsN m : Nat) : Int) = y at *
    generalize (a : Int) = a at *
    generalize (b : Int) = b at *
    generalize (c : Int) = c at *
    have Hup := Lib.hid hup; clear hup
    have Hbn := Lib.hid hbn; clear hbn
    have Hbm := Lib.hid hbm; clear hbm
    have Hlxy := Lib.hid hlxy; clear hlxy
    have Hsxy := Lib.hid hsxy; clear hsxy
    have Hox := Lib.hid hox; clear hox
    have Hoa := Lib.hid hoa; clear hoa
    have Hbk := Lib.hid hbk; clear hbk
    have Hbk1 := Lib.hid hbk1; clear hbk1
    have Hlk := Lib.hid hlk; clear hlk
    have Hlk1 := Lib.hid hlk1; clear hlk1
    have Hlab := Lib.hid hlab; clear hlab
    have Hlba := Lib.hid hlba; clear hlba
    have Hsab := Lib.hid hsab; clear hsab
    have Hsaa := Lib.hid hsaa; clear hsaa
    have Hsbb := Lib.hid hsbb; clear hsbb
    go_enter Try.func13, Try.ntmps13
    go_wp2_with fail; refine ((Hup).out _).mono ?_; rintro e9 w9 ⟨rfl, hw9⟩; subst hw9; try dsimp only
    go_wp2_with fail; refine ((Hbn).out _).mono ?_; rintro e9 w9 ⟨rfl, hw9⟩; subst hw9; try dsimp only
    go_wp2_with fail; refine ((Hbm).out _).mono ?_; rintro e9 w9 ⟨rfl, hw9⟩; subst hw9; try dsimp only
    go_wp2_with fail; refine ((Hlxy).out _).mono ?_; rintro e9 w9 ⟨rfl, hw9⟩; subst hw9; try dsimp only
    go_wp2_with fail; refine ((Hsxy).out _).mono ?_; rintro e9 w9 ⟨rfl, hw9⟩; subst hw9; try dsimp only
    go_wp2_with fail; refine ((Hlab).out _).mono ?_; rintro e9 w9 ⟨rfl, hw9⟩; subst hw9; try dsimp only
    go_wp2_with fail; refine ((Hlba).out _).mono ?_; rintro e9 w9 ⟨rfl, hw9⟩; subst hw9; try dsimp only
    go_wp2_with fail; refine ((Hsab).out _).mono ?_; rintro e9 w9 ⟨rfl, hw9⟩; subst hw9; try dsimp only
    go_wp2_with fail; refine ((Hsaa).out _).mono ?_; rintro e9 w9 ⟨rfl, hw9⟩; subst hw9; try dsimp only
    go_wp2_with fail; refine ((Hsbb).out _).mono ?_; rintro e9 w9 ⟨rfl, hw9⟩; subst hw9; try dsimp only
    go_wp2_with fail; refine ((Hlab).out _).mono ?_; rintro e9 w9 ⟨rfl, hw9⟩; subst hw9; try dsimp only
    go_wp2_with fail; refine ((Hox).out _).mono ?_; rintro e9 w9 ⟨rfl, hw9⟩; subst hw9; try dsimp only
    go_wp2_with fail; refine ((Hoa).out _).mono ?_; rintro e9 w9 ⟨rfl, hw9⟩; subst hw9; try dsimp only
    go_wp2_with fail; refine ((Hbk).out _).mono ?_; rintro e9 w9 ⟨rfl, hw9⟩; subst hw9; try dsimp only
    go_wp2_with fail; refine ((Hlk).out _).mono ?_; rintro e9 w9 ⟨rfl, hw9⟩; subst hw9; try dsimp only
    go_wp2_with fail; refine ((Hbk1).out _).mono ?_; rintro e9 w9 ⟨rfl, hw9⟩; subst hw9; try dsimp only
    go_wp2_with fail; refine ((Hlk1).out _).mono ?_; rintro e9 w9 ⟨rfl, hw9⟩; subst hw9; try dsimp only
    go_wp2_with fail
    go_returns
    exact ⟨rfl, rfl⟩
  · skip
    replace hlab := fun w => less_is hlab w ha hb
    replace hlba := fun w => less_is hlba w hb ha
    replace hsab := fun w => same_is hsab w ha hb
    replace hsaa := fun w => same_is hsaa w ha ha
    clear hr ha hb hc
    obtain ⟨f0, f1⟩ := hfb
    replace f0 : (1 : Int) ≤ (flo a : Nat) := by omega
    replace f1 : ((flo a : Nat) : Int) ≤ 1024 := by omega
    generalize ((bitsN ((flo a : Nat) : Int) : Nat) : Int) = z at *
    generalize ((bitsN (((flo a : Nat) : Int) + 1) : Nat) : Int) = z1 at *
    generalize ((flo a : Nat) : Int) = k at *
    generalize ((bitsN n : Nat) : Int) = x at *
    generalize ((bitsN m : Nat) : Int) = y at *
    generalize (a : Int) = a at *
    generalize (b : Int) = b at *
    generalize (c : Int) = c at *
    have Hup := Lib.hid hup; clear hup
    have Hbn := Lib.hid hbn; clear hbn
    have Hbm := Lib.hid hbm; clear hbm
    have Hlxy := Lib.hid hlxy; clear hlxy
    have Hsxy := Lib.hid hsxy; clear hsxy
    have Hox := Lib.hid hox; clear hox
    have Hoa := Lib.hid hoa; clear hoa
    have Hbk := Lib.hid hbk; clear hbk
    have Hbk1 := Lib.hid hbk1; clear hbk1
    have Hlk := Lib.hid hlk; clear hlk
    have Hlk1 := Lib.hid hlk1; clear hlk1
    have Hlab := Lib.hid hlab; clear hlab
    have Hlba := Lib.hid hlba; clear hlba
    have Hsab := Lib.hid hsab; clear hsab
    have Hsaa := Lib.hid hsaa; clear hsaa
    go_enter Try.func13, Try.ntmps13
    go_wp2_with fail; refine ((Hup).out _).mono ?_; rintro e9 w9 ⟨rfl, hw9⟩; subst hw9; try dsimp only
    go_wp2_with fail; refine ((Hbn).out _).mono ?_; rintro e9 w9 ⟨rfl, hw9⟩; subst hw9; try dsimp only
    go_wp2_with fail; refine ((Hbm).out _).mono ?_; rintro e9 w9 ⟨rfl, hw9⟩; subst hw9; try dsimp only
    go_wp2_with fail; refine ((Hlxy).out _).mono ?_; rintro e9 w9 ⟨rfl, hw9⟩; subst hw9; try dsimp only
    go_wp2_with fail; refine ((Hsxy).out _).mono ?_; rintro e9 w9 ⟨rfl, hw9⟩; subst hw9; try dsimp only
    go_wp2_with fail; refine ((Hlab).out _).mono ?_; rintro e9 w9 ⟨rfl, hw9⟩; subst hw9; try dsimp only
    go_wp2_with fail; refine ((Hlba).out _).mono ?_; rintro e9 w9 ⟨rfl, hw9⟩; subst hw9; try dsimp only
    go_wp2_with fail; refine ((Hsab).out _).mono ?_; rintro e9 w9 ⟨rfl, hw9⟩; subst hw9; try dsimp only
    go_wp2_with fail; refine ((Hsaa).out _).mono ?_; rintro e9 w9 ⟨rfl, hw9⟩; subst hw9; try dsimp only
    go_wp2_with fail; refine ((Hlab).out _).mono ?_; rintro e9 w9 ⟨rfl, hw9⟩; subst hw9; try dsimp only
    go_wp2_with fail; refine ((Hox).out _).mono ?_; rintro e9 w9 ⟨rfl, hw9⟩; subst hw9; try dsimp only
    go_wp2_with fail; refine ((Hoa).out _).mono ?_; rintro e9 w9 ⟨rfl, hw9⟩; subst hw9; try dsimp only
    go_wp2_with fail; refine ((Hbk).out _).mono ?_; rintro e9 w9 ⟨rfl, hw9⟩; subst hw9; try dsimp only
    go_wp2_with fail; refine ((Hlk).out _).mono ?_; rintro e9 w9 ⟨rfl, hw9⟩; subst hw9; try dsimp only
    go_wp2_with fail; refine ((Hbk1).out _).mono ?_; rintro e9 w9 ⟨rfl, hw9⟩; subst hw9; try dsimp only
    go_wp2_with fail; refine ((Hlk1).out _).mono ?_; rintro e9 w9 ⟨rfl, hw9⟩; subst hw9; try dsimp only
    go_wp2_with fail
    go_returns
    exact ⟨rfl, rfl⟩
  · skip
    replace hlab := fun w => less_is hlab w ha hb
    replace hlba := fun w => less_is hlba w hb ha
    replace hsab := fun w => same_is hsab w ha hb
    replace hsaa := fun w => same_is hsaa w ha ha
    replace hsbb := fun w => same_is hsbb w hb hb
    clear hr ha hb hc
    obtain ⟨f0, f1⟩ := hfb
    replace f0 : (1 : Int) ≤ (flo a : Nat) := by omega
    replace f1 : ((flo a : Nat) : Int) ≤ 1024 := by omega
    generalize ((bitsN ((flo a : Nat) : Int) : Nat) : Int) = z at *
    generalize ((bitsN (((flo a : Nat) : Int) + 1) : Nat) : Int) = z1 at *
    generalize ((flo a : Nat) : Int) = k at *
    generalize ((bitsN n : Nat) : Int) = x at *
    generalize ((bitsN m : Nat) : Int) = y at *
    generalize (a : Int) = a at *
    generalize (b : Int) = b at *
    generalize (c : Int) = c at *
    have Hup := Lib.hid hup; clear hup
    have Hbn := Lib.hid hbn; clear hbn
    have Hbm := Lib.hid hbm; clear hbm
    have Hlxy := Lib.hid hlxy; clear hlxy
    have Hsxy := Lib.hid hsxy; clear hsxy
    have Hox := Lib.hid hox; clear hox
    have Hoa := Lib.hid hoa; clear hoa
    have Hbk := Lib.hid hbk; clear hbk
    have Hbk1 := Lib.hid hbk1; clear hbk1
    have Hlk := Lib.hid hlk; clear hlk
    have Hlk1 := Lib.hid hlk1; clear hlk1
    have Hlab := Lib.hid hlab; clear hlab
    have Hlba := Lib.hid hlba; clear hlba
    have Hsab := Lib.hid hsab; clear hsab
    have Hsaa := Lib.hid hsaa; clear hsaa
    have Hsbb := Lib.hid hsbb; clear hsbb
    go_enter Try.func13, Try.ntmps13
    go_wp2_with fail; refine ((Hup).out _).mono ?_; rintro e9 w9 ⟨rfl, hw9⟩; subst hw9; try dsimp only
    go_wp2_with fail; refine ((Hbn).out _).mono ?_; rintro e9 w9 ⟨rfl, hw9⟩; subst hw9; try dsimp only
    go_wp2_with fail; refine ((Hbm).out _).mono ?_; rintro e9 w9 ⟨rfl, hw9⟩; subst hw9; try dsimp only
    go_wp2_with fail; refine ((Hlxy).out _).mono ?_; rintro e9 w9 ⟨rfl, hw9⟩; subst hw9; try dsimp only
    go_wp2_with fail; refine ((Hsxy).out _).mono ?_; rintro e9 w9 ⟨rfl, hw9⟩; subst hw9; try dsimp only
    go_wp2_with fail; refine ((Hlab).out _).mono ?_; rintro e9 w9 ⟨rfl, hw9⟩; subst hw9; try dsimp only
    go_wp2_with fail; refine ((Hlba).out _).mono ?_; rintro e9 w9 ⟨rfl, hw9⟩; subst hw9; try dsimp only
    go_wp2_with fail; refine ((Hsab).out _).mono ?_; rintro e9 w9 ⟨rfl, hw9⟩; subst hw9; try dsimp only
    go_wp2_with fail; refine ((Hsaa).out _).mono ?_; rintro e9 w9 ⟨rfl, hw9⟩; subst hw9; try dsimp only
    go_wp2_with fail; refine ((Hsbb).out _).mono ?_; rintro e9 w9 ⟨rfl, hw9⟩; subst hw9; try dsimp only
    go_wp2_with fail; refine ((Hlab).out _).mono ?_; rintro e9 w9 ⟨rfl, hw9⟩; subst hw9; try dsimp only
    go_wp2_with fail; refine ((Hox).out _).mono ?_; rintro e9 w9 ⟨rfl, hw9⟩; subst hw9; try dsimp only
    go_wp2_with fail; refine ((Hoa).out _).mono ?_; rintro e9 w9 ⟨rfl, hw9⟩; subst hw9; try dsimp only
    go_wp2_with fail; refine ((Hbk).out _).mono ?_; rintro e9 w9 ⟨rfl, hw9⟩; subst hw9; try dsimp only
    go_wp2_with fail; refine ((Hlk).out _).mono ?_; rintro e9 w9 ⟨rfl, hw9⟩; subst hw9; try dsimp only
    go_wp2_with fail; refine ((Hbk1).out _).mono ?_; rintro e9 w9 ⟨rfl, hw9⟩; subst hw9; try dsimp only
    go_wp2_with fail; refine ((Hlk1).out _).mono ?_; rintro e9 w9 ⟨rfl, hw9⟩; subst hw9; try dsimp only
    go_wp2_with fail
    go_returns
    exact ⟨rfl, rfl⟩
set_option maxRecDepth 100000 in
set_option maxHeartbeats 8000000 in
theorem rateOrders_lon (n m : Int) (a b c : Nat) (w : World) (n0 : -9007199254740992 ≤ n) (n1 : n ≤ 9007199254740992) (m0 : -9007199254740992 ≤ m) (m1 : m ≤ 9007199254740992) (ha : a < 18446744073709551616) (hb : b < 18446744073709551616) (hc : c < 18446744073709551616) (g0 : n < 1) (hr : isRate a = false) :
    Calls Try.prog 13 #[.int .i64 n, .int .i64 m, .int .u64 a, .int .u64 b, .int .u64 c] w fun e w' => e = .returned (.bool true) ∧ w' = w := by
  have hup := up12_any
  have hbn := fun w => bits_is n w n0 n1
  have hbm := fun w => bits_is m w m0 m1
  have hlxy := fun w => less_is (ltF_bits n m n0 n1 m0 m1) w (bitsN_lt n n0 n1) (bitsN_lt m m0 m1)
  have hsxy := fun w => same_is (eqF_bits n m n0 n1 m0 m1) w (bitsN_lt n n0 n1) (bitsN_lt m m0 m1)
  have hox := fun w => of_no (bitsN n) w (bitsN_lt n n0 n1) (by rw [← Bool.not_eq_true, isRate_bits n n0 n1]; omega)
  have hoa := fun w => of_no a w ha hr
  have hway := way6_any a b c
  unfold way6 at hway
  rcases hway with ⟨hlab, hlba, hsab, hsaa, hsbb, hlbc⟩ | ⟨hlab, hlba, hsab, hsaa, hsbb, hlbc, hlac⟩ | ⟨hlab, hlba, hsab, hsaa, hsbb⟩ | ⟨hlab, hlba, hsab, hsaa, hsbb⟩ | ⟨hlab, hlba, hsab, hsaa⟩ | ⟨hlab, hlba, hsab, hsaa, hsbb⟩
  · skip
    replace hlab := fun w => less_is hlab w ha hb
    replace hlba := fun w => less_is hlba w hb ha
    replace hsab := fun w => same_is hsab w ha hb
    replace hsaa := fun w => same_is hsaa w ha ha
    replace hsbb := fun w => same_is hsbb w hb hb
    replace hlbc := fun w => less_is hlbc w hb hc
    clear hr ha hb hc
    generalize ((bitsN n : Nat) : Int) = x at *
    generalize ((bitsN m : Nat) : Int) = y at *
    generalize (a : Int) = a at *
    generalize (b : Int) = b at *
    generalize (c : Int) = c at *
    have Hup := Lib.hid hup; clear hup
    have Hbn := Lib.hid hbn; clear hbn
    have Hbm := Lib.hid hbm; clear hbm
    have Hlxy := Lib.hid hlxy; clear hlxy
    have Hsxy := Lib.hid hsxy; clear hsxy
    have Hox := Lib.hid hox; clear hox
    have Hoa := Lib.hid hoa; clear hoa
    have Hlab := Lib.hid hlab; clear hlab
    have Hlba := Lib.hid hlba; clear hlba
    have Hsab := Lib.hid hsab; clear hsab
    have Hsaa := Lib.hid hsaa; clear hsaa
    have Hsbb := Lib.hid hsbb; clear hsbb
    have Hlbc := Lib.hid hlbc; clear hlbc
    go_enter Try.func13, Try.ntmps13
    go_wp2_with fail; refine ((Hup).out _).mono ?_; rintro e9 w9 ⟨rfl, hw9⟩; subst hw9; try dsimp only
    go_wp2_with fail; refine ((Hbn).out _).mono ?_; rintro e9 w9 ⟨rfl, hw9⟩; subst hw9; try dsimp only
    go_wp2_with fail; refine ((Hbm).out _).mono ?_; rintro e9 w9 ⟨rfl, hw9⟩; subst hw9; try dsimp only
    go_wp2_with fail; refine ((Hlxy).out _).mono ?_; rintro e9 w9 ⟨rfl, hw9⟩; subst hw9; try dsimp only
    go_wp2_with fail; refine ((Hsxy).out _).mono ?_; rintro e9 w9 ⟨rfl, hw9⟩; subst hw9; try dsimp only
    go_wp2_with fail; refine ((Hlab).out _).mono ?_; rintro e9 w9 ⟨rfl, hw9⟩; subst hw9; try dsimp only
    go_wp2_with fail; refine ((Hlba).out _).mono ?_; rintro e9 w9 ⟨rfl, hw9⟩; subst hw9; try dsimp only
    go_wp2_with fail; refine ((Hsab).out _).mono ?_; rintro e9 w9 ⟨rfl, hw9⟩; subst hw9; try dsimp only
    go_wp2_with fail; refine ((Hsaa).out _).mono ?_; rintro e9 w9 ⟨rfl, hw9⟩; subst hw9; try dsimp only
    go_wp2_with fail; refine ((Hsbb).out _).mono ?_; rintro e9 w9 ⟨rfl, hw9⟩; subst hw9; try dsimp only
    go_wp2_with fail; refine ((Hlab).out _).mono ?_; rintro e9 w9 ⟨rfl, hw9⟩; subst hw9; try dsimp only
    go_wp2_with fail; refine ((Hlbc).out _).mono ?_; rintro e9 w9 ⟨rfl, hw9⟩; subst hw9; try dsimp only
    go_wp2_with fail; refine ((Hox).out _).mono ?_; rintro e9 w9 ⟨rfl, hw9⟩; subst hw9; try dsimp only
    go_wp2_with fail; refine ((Hoa).out _).mono ?_; rintro e9 w9 ⟨rfl, hw9⟩; subst hw9; try dsimp only
    go_wp2_with fail
    go_returns
    exact ⟨rfl, rfl⟩
  · skip
    replace hlab := fun w => less_is hlab w ha hb
    replace hlba := fun w => less_is hlba w hb ha
    replace hsab := fun w => same_is hsab w ha hb
    replace hsaa := fun w => same_is hsaa w ha ha
    replace hsbb := fun w => same_is hsbb w hb hb
    replace hlbc := fun w => less_is hlbc w hb hc
    replace hlac := fun w => less_is hlac w ha hc
    clear hr ha hb hc
    generalize ((bitsN n : Nat) : Int) = x at *
    generalize ((bitsN m : Nat) : Int) = y at *
    generalize (a : Int) = a at *
    generalize (b : Int) = b at *
    generalize (c : Int) = c at *
    have Hup := Lib.hid hup; clear hup
    have Hbn := Lib.hid hbn; clear hbn
    have Hbm := Lib.hid hbm; clear hbm
    have Hlxy := Lib.hid hlxy; clear hlxy
    have Hsxy := Lib.hid hsxy; clear hsxy
    have Hox := Lib.hid hox; clear hox
    have Hoa := Lib.hid hoa; clear hoa
    have Hlab := Lib.hid hlab; clear hlab
    have Hlba := Lib.hid hlba; clear hlba
    have Hsab := Lib.hid hsab; clear hsab
    have Hsaa := Lib.hid hsaa; clear hsaa
    have Hsbb := Lib.hid hsbb; clear hsbb
    have Hlbc := Lib.hid hlbc; clear hlbc
    have Hlac := Lib.hid hlac; clear hlac
    go_enter Try.func13, Try.ntmps13
    go_wp2_with fail; refine ((Hup).out _).mono ?_; rintro e9 w9 ⟨rfl, hw9⟩; subst hw9; try dsimp only
    go_wp2_with fail; refine ((Hbn).out _).mono ?_; rintro e9 w9 ⟨rfl, hw9⟩; subst hw9; try dsimp only
    go_wp2_with fail; refine ((Hbm).out _).mono ?_; rintro e9 w9 ⟨rfl, hw9⟩; subst hw9; try dsimp only
    go_wp2_with fail; refine ((Hlxy).out _).mono ?_; rintro e9 w9 ⟨rfl, hw9⟩; subst hw9; try dsimp only
    go_wp2_with fail; refine ((Hsxy).out _).mono ?_; rintro e9 w9 ⟨rfl, hw9⟩; subst hw9; try dsimp only
    go_wp2_with fail; refine ((Hlab).out _).mono ?_; rintro e9 w9 ⟨rfl, hw9⟩; subst hw9; try dsimp only
    go_wp2_with fail; refine ((Hlba).out _).mono ?_; rintro e9 w9 ⟨rfl, hw9⟩; subst hw9; try dsimp only
    go_wp2_with fail; refine ((Hsab).out _).mono ?_; rintro e9 w9 ⟨rfl, hw9⟩; subst hw9; try dsimp only
    go_wp2_with fail; refine ((Hsaa).out _).mono ?_; rintro e9 w9 ⟨rfl, hw9⟩; subst hw9; try dsimp only
    go_wp2_with fail; refine ((Hsbb).out _).mono ?_; rintro e9 w9 ⟨rfl, hw9⟩; subst hw9; try dsimp only
    go_wp2_with fail; refine ((Hlab).out _).mono ?_; rintro e9 w9 ⟨rfl, hw9⟩; subst hw9; try dsimp only
    go_wp2_with fail; refine ((Hlbc).out _).mono ?_; rintro e9 w9 ⟨rfl, hw9⟩; subst hw9; try dsimp only
    go_wp2_with fail; refine ((Hlac).out _).mono ?_; rintro e9 w9 ⟨rfl, hw9⟩; subst hw9; try dsimp only
    go_wp2_with fail; refine ((Hox).out _).mono ?_; rintro e9 w9 ⟨rfl, hw9⟩; subst hw9; try dsimp only
    go_wp2_with fail; refine ((Hoa).out _).mono ?_; rintro e9 w9 ⟨rfl, hw9⟩; subst hw9; try dsimp only
    go_wp2_with fail
    go_returns
    exact ⟨rfl, rfl⟩
  · skip
    replace hlab := fun w => less_is hlab w ha hb
    replace hlba := fun w => less_is hlba w hb ha
    replace hsab := fun w => same_is hsab w ha hb
    replace hsaa := fun w => same_is hsaa w ha ha
    replace hsbb := fun w => same_is hsbb w hb hb
    clear hr ha hb hc
    generalize ((bitsN n : Nat) : Int) = x at *
    generalize ((bitsN m : Nat) : Int) = y at *
    generalize (a : Int) = a at *
    generalize (b : Int) = b at *
    generalize (c : Int) = c at *
    have Hup := Lib.hid hup; clear hup
    have Hbn := Lib.hid hbn; clear hbn
    have Hbm := Lib.hid hbm; clear hbm
    have Hlxy := Lib.hid hlxy; clear hlxy
    have Hsxy := Lib.hid hsxy; clear hsxy
    have Hox := Lib.hid hox; clear hox
    have Hoa := Lib.hid hoa; clear hoa
    have Hlab := Lib.hid hlab; clear hlab
    have Hlba := Lib.hid hlba; clear hlba
    have Hsab := Lib.hid hsab; clear hsab
    have Hsaa := Lib.hid hsaa; clear hsaa
    have Hsbb := Lib.hid hsbb; clear hsbb
    go_enter Try.func13, Try.ntmps13
    go_wp2_with fail; refine ((Hup).out _).mono ?_; rintro e9 w9 ⟨rfl, hw9⟩; subst hw9; try dsimp only
    go_wp2_with fail; refine ((Hbn).out _).mono ?_; rintro e9 w9 ⟨rfl, hw9⟩; subst hw9; try dsimp only
    go_wp2_with fail; refine ((Hbm).out _).mono ?_; rintro e9 w9 ⟨rfl, hw9⟩; subst hw9; try dsimp only
    go_wp2_with fail; refine ((Hlxy).out _).mono ?_; rintro e9 w9 ⟨rfl, hw9⟩; subst hw9; try dsimp only
    go_wp2_with fail; refine ((Hsxy).out _).mono ?_; rintro e9 w9 ⟨rfl, hw9⟩; subst hw9; try dsimp only
    go_wp2_with fail; refine ((Hlab).out _).mono ?_; rintro e9 w9 ⟨rfl, hw9⟩; subst hw9; try dsimp only
    go_wp2_with fail; refine ((Hlba).out _).mono ?_; rintro e9 w9 ⟨rfl, hw9⟩; subst hw9; try dsimp only
    go_wp2_with fail; refine ((Hsab).out _).mono ?_; rintro e9 w9 ⟨rfl, hw9⟩; subst hw9; try dsimp only
    go_wp2_with fail; refine ((Hsaa).out _).mono ?_; rintro e9 w9 ⟨rfl, hw9⟩; subst hw9; try dsimp only
    go_wp2_with fail; refine ((Hsbb).out _).mono ?_; rintro e9 w9 ⟨rfl, hw9⟩; subst hw9; try dsimp only
    go_wp2_with fail; refine ((Hlab).out _).mono ?_; rintro e9 w9 ⟨rfl, hw9⟩; subst hw9; try dsimp only
    go_wp2_with fail; refine ((Hox).out _).mono ?_; rintro e9 w9 ⟨rfl, hw9⟩; subst hw9; try dsimp only
    go_wp2_with fail; refine ((Hoa).out _).mono ?_; rintro e9 w9 ⟨rfl, hw9⟩; subst hw9; try dsimp only
    go_wp2_with fail
    go_returns
    exact ⟨rfl, rfl⟩
  · skip
    replace hlab := fun w => less_is hlab w ha hb
    replace hlba := fun w => less_is hlba w hb ha
    replace hsab := fun w => same_is hsab w ha hb
    replace hsaa := fun w => same_is hsaa w ha ha
    replace hsbb := fun w => same_is hsbb w hb hb
    clear hr ha hb hc
    generalize ((bitsN n : Nat) : Int) = x at *
    generalize ((bitsN m : Nat) : Int) = y at *
    generalize (a : Int) = a at *
    generalize (b : Int) = b at *
    generalize (c : Int) = c at *
    have Hup := Lib.hid hup; clear hup
    have Hbn := Lib.hid hbn; clear hbn
    have Hbm := Lib.hid hbm; clear hbm
    have Hlxy := Lib.hid hlxy; clear hlxy
    have Hsxy := Lib.hid hsxy; clear hsxy
    have Hox := Lib.hid hox; clear hox
    have Hoa := Lib.hid hoa; clear hoa
    have Hlab := Lib.hid hlab; clear hlab
    have Hlba := Lib.hid hlba; clear hlba
    have Hsab := Lib.hid hsab; clear hsab
    have Hsaa := Lib.hid hsaa; clear hsaa
    have Hsbb := Lib.hid hsbb; clear hsbb
    go_enter Try.func13, Try.ntmps13
    go_wp2_with fail; refine ((Hup).out _).mono ?_; rintro e9 w9 ⟨rfl, hw9⟩; subst hw9; try dsimp only
    go_wp2_with fail; refine ((Hbn).out _).mono ?_; rintro e9 w9 ⟨rfl, hw9⟩; subst hw9; try dsimp only
    go_wp2_with fail; refine ((Hbm).out _).mono ?_; rintro e9 w9 ⟨rfl, hw9⟩; subst hw9; try dsimp only
    go_wp2_with fail; refine ((Hlxy).out _).mono ?_; rintro e9 w9 ⟨rfl, hw9⟩; subst hw9; try dsimp only
    go_wp2_with fail; refine ((Hsxy).out _).mono ?_; rintro e9 w9 ⟨rfl, hw9⟩; subst hw9; try dsimp only
    go_wp2_with fail; refine ((Hlab).out _).mono ?_; rintro e9 w9 ⟨rfl, hw9⟩; subst hw9; try dsimp only
    go_wp2_with fail; refine ((Hlba).out _).mono ?_; rintro e9 w9 ⟨rfl, hw9⟩; subst hw9; try dsimp only
    go_wp2_with fail; refine ((Hsab).out _).mono ?_; rintro e9 w9 ⟨rfl, hw9⟩; subst hw9; try dsimp only
    go_wp2_with fail; refine ((Hsaa).out _).mono ?_; rintro e9 w9 ⟨rfl, hw9⟩; subst hw9; try dsimp only
    go_wp2_with fail; refine ((Hsbb).out _).mono ?_; rintro e9 w9 ⟨rfl, hw9⟩; subst hw9; try dsimp only
    go_wp2_with fail; refine ((Hlab).out _).mono ?_; rintro e9 w9 ⟨rfl, hw9⟩; subst hw9; try dsimp only
    go_wp2_with fail; refine ((Hox).out _).mono ?_; rintro e9 w9 ⟨rfl, hw9⟩; subst hw9; try dsimp only
    go_wp2_with fail; refine ((Hoa).out _).mono ?_; rintro e9 w9 ⟨rfl, hw9⟩; subst hw9; try dsimp only
    go_wp2_with fail
    go_returns
    exact ⟨rfl, rfl⟩
  · skip
    replace hlab := fun w => less_is hlab w ha hb
    replace hlba := fun w => less_is hlba w hb ha
    replace hsab := fun w => same_is hsab w ha hb
    replace hsaa := fun w => same_is hsaa w ha ha
    clear hr ha hb hc
    generalize ((bitsN n : Nat) : Int) = x at *
    generalize ((bitsN m : Nat) : Int) = y at *
    generalize (a : Int) = a at *
    generalize (b : Int) = b at *
    generalize (c : Int) = c at *
    have Hup := Lib.hid hup; clear hup
    have Hbn := Lib.hid hbn; clear hbn
    have Hbm := Lib.hid hbm; clear hbm
    have Hlxy := Lib.hid hlxy; clear hlxy
    have Hsxy := Lib.hid hsxy; clear hsxy
    have Hox := Lib.hid hox; clear hox
    have Hoa := Lib.hid hoa; clear hoa
    have Hlab := Lib.hid hlab; clear hlab
    have Hlba := Lib.hid hlba; clear hlba
    have Hsab := Lib.hid hsab; clear hsab
    have Hsaa := Lib.hid hsaa; clear hsaa
    go_enter Try.func13, Try.ntmps13
    go_wp2_with fail; refine ((Hup).out _).mono ?_; rintro e9 w9 ⟨rfl, hw9⟩; subst hw9; try dsimp only
    go_wp2_with fail; refine ((Hbn).out _).mono ?_; rintro e9 w9 ⟨rfl, hw9⟩; subst hw9; try dsimp only
    go_wp2_with fail; refine ((Hbm).out _).mono ?_; rintro e9 w9 ⟨rfl, hw9⟩; subst hw9; try dsimp only
    go_wp2_with fail; refine ((Hlxy).out _).mono ?_; rintro e9 w9 ⟨rfl, hw9⟩; subst hw9; try dsimp only
    go_wp2_with fail; refine ((Hsxy).out _).mono ?_; rintro e9 w9 ⟨rfl, hw9⟩; subst hw9; try dsimp only
    go_wp2_with fail; refine ((Hlab).out _).mono ?_; rintro e9 w9 ⟨rfl, hw9⟩; subst hw9; try dsimp only
    go_wp2_with fail; refine ((Hlba).out _).mono ?_; rintro e9 w9 ⟨rfl, hw9⟩; subst hw9; try dsimp only
    go_wp2_with fail; refine ((Hsab).out _).mono ?_; rintro e9 w9 ⟨rfl, hw9⟩; subst hw9; try dsimp only
    go_wp2_with fail; refine ((Hsaa).out _).mono ?_; rintro e9 w9 ⟨rfl, hw9⟩; subst hw9; try dsimp only
    go_wp2_with fail; refine ((Hlab).out _).mono ?_; rintro e9 w9 ⟨rfl, hw9⟩; subst hw9; try dsimp only
    go_wp2_with fail; refine ((Hox).out _).mono ?_; rintro e9 w9 ⟨rfl, hw9⟩; subst hw9; try dsimp only
    go_wp2_with fail; refine ((Hoa).out _).mono ?_; rintro e9 w9 ⟨rfl, hw9⟩; subst hw9; try dsimp only
    go_wp2_with fail
    go_returns
    exact ⟨rfl, rfl⟩
  · skip
    replace hlab := fun w => less_is hlab w ha hb
    replace hlba := fun w => less_is hlba w hb ha
    replace hsab := fun w => same_is hsab w ha hb
    replace hsaa := fun w => same_is hsaa w ha ha
    replace hsbb := fun w => same_is hsbb w hb hb
    clear hr ha hb hc
    generalize ((bitsN n : Nat) : Int) = x at *
    generalize ((bitsN m : Nat) : Int) = y at *
    generalize (a : Int) = a at *
    generalize (b : Int) = b at *
    generalize (c : Int) = c at *
    have Hup := Lib.hid hup; clear hup
    have Hbn := Lib.hid hbn; clear hbn
    have Hbm := Lib.hid hbm; clear hbm
    have Hlxy := Lib.hid hlxy; clear hlxy
    have Hsxy := Lib.hid hsxy; clear hsxy
    have Hox := Lib.hid hox; clear hox
    have Hoa := Lib.hid hoa; clear hoa
    have Hlab := Lib.hid hlab; clear hlab
    have Hlba := Lib.hid hlba; clear hlba
    have Hsab := Lib.hid hsab; clear hsab
    have Hsaa := Lib.hid hsaa; clear hsaa
    have Hsbb := Lib.hid hsbb; clear hsbb
    go_enter Try.func13, Try.ntmps13
    go_wp2_with fail; refine ((Hup).out _).mono ?_; rintro e9 w9 ⟨rfl, hw9⟩; subst hw9; try dsimp only
    go_wp2_with fail; refine ((Hbn).out _).mono ?_; rintro e9 w9 ⟨rfl, hw9⟩; subst hw9; try dsimp only
    go_wp2_with fail; refine ((Hbm).out _).mono ?_; rintro e9 w9 ⟨rfl, hw9⟩; subst hw9; try dsimp only
    go_wp2_with fail; refine ((Hlxy).out _).mono ?_; rintro e9 w9 ⟨rfl, hw9⟩; subst hw9; try dsimp only
    go_wp2_with fail; refine ((Hsxy).out _).mono ?_; rintro e9 w9 ⟨rfl, hw9⟩; subst hw9; try dsimp only
    go_wp2_with fail; refine ((Hlab).out _).mono ?_; rintro e9 w9 ⟨rfl, hw9⟩; subst hw9; try dsimp only
    go_wp2_with fail; refine ((Hlba).out _).mono ?_; rintro e9 w9 ⟨rfl, hw9⟩; subst hw9; try dsimp only
    go_wp2_with fail; refine ((Hsab).out _).mono ?_; rintro e9 w9 ⟨rfl, hw9⟩; subst hw9; try dsimp only
    go_wp2_with fail; refine ((Hsaa).out _).mono ?_; rintro e9 w9 ⟨rfl, hw9⟩; subst hw9; try dsimp only
    go_wp2_with fail; refine ((Hsbb).out _).mono ?_; rintro e9 w9 ⟨rfl, hw9⟩; subst hw9; try dsimp only
    go_wp2_with fail; refine ((Hlab).out _).mono ?_; rintro e9 w9 ⟨rfl, hw9⟩; subst hw9; try dsimp only
    go_wp2_with fail; refine ((Hox).out _).mono ?_; rintro e9 w9 ⟨rfl, hw9⟩; subst hw9; try dsimp only
    go_wp2_with fail; refine ((Hoa).out _).mono ?_; rintro e9 w9 ⟨rfl, hw9⟩; subst hw9; try dsimp only
    go_wp2_with fail
    go_returns
    exact ⟨rfl, rfl⟩
set_option maxRecDepth 100000 in
set_option maxHeartbeats 8000000 in
theorem rateOrders_hiy (n m : Int) (a b c : Nat) (w : World) (n0 : -9007199254740992 ≤ n) (n1 : n ≤ 9007199254740992) (m0 : -9007199254740992 ≤ m) (m1 : m ≤ 9007199254740992) (ha : a < 18446744073709551616) (hb : b < 18446744073709551616) (hc : c < 18446744073709551616) (g0 : 1024 < n) (hr : isRate a = true) :
    Calls Try.prog 13 #[.int .i64 n, .int .i64 m, .int .u64 a, .int .u64 b, .int .u64 c] w fun e w' => e = .returned (.bool true) ∧ w' = w := by
  have hup := up12_any
  have hbn := fun w => bits_is n w n0 n1
  have hbm := fun w => bits_is m w m0 m1
  have hlxy := fun w => less_is (ltF_bits n m n0 n1 m0 m1) w (bitsN_lt n n0 n1) (bitsN_lt m m0 m1)
  have hsxy := fun w => same_is (eqF_bits n m n0 n1 m0 m1) w (bitsN_lt n n0 n1) (bitsN_lt m m0 m1)
  have hox := fun w => of_no (bitsN n) w (bitsN_lt n n0 n1) (by rw [← Bool.not_eq_true, isRate_bits n n0 n1]; omega)
  have hfb := flo_bd a hr
  have hoa := fun w => of_yes a w ha hr
  have hbk := fun w => bits_is (flo a) w (by omega) (by omega)
  have hbk1 := fun w => bits_is ((flo a : Int) + 1) w (by omega) (by omega)
  have hlk := fun w => less_is (bits_flo a hr).1 w ha (bitsN_lt _ (by omega) (by omega))
  have hlk1 := fun w => less_is (bits_flo a hr).2 w ha (bitsN_lt _ (by omega) (by omega))
  have hway := way6_any a b c
  unfold way6 at hway
  rcases hway with ⟨hlab, hlba, hsab, hsaa, hsbb, hlbc⟩ | ⟨hlab, hlba, hsab, hsaa, hsbb, hlbc, hlac⟩ | ⟨hlab, hlba, hsab, hsaa, hsbb⟩ | ⟨hlab, hlba, hsab, hsaa, hsbb⟩ | ⟨hlab, hlba, hsab, hsaa⟩ | ⟨hlab, hlba, hsab, hsaa, hsbb⟩
  · skip
    replace hlab := fun w => less_is hlab w ha hb
    replace hlba := fun w => less_is hlba w hb ha
    replace hsab := fun w => same_is hsab w ha hb
    replace hsaa := fun w => same_is hsaa w ha ha
    replace hsbb := fun w => same_is hsbb w hb hb
    replace hlbc := fun w => less_is hlbc w hb hc
    clear hr ha hb hc
    obtain ⟨f0, f1⟩ := hfb
    replace f0 : (1 : Int) ≤ (flo a : Nat) := by omega
    replace f1 : ((flo a : Nat) : Int) ≤ 1024 := by omega
    generalize ((bitsN ((flo a : Nat) : Int) : Nat) : Int) = z at *
    generalize ((bitsN (((flo a : Nat) : Int) + 1) : Nat) : Int) = z1 at *
    generalize ((flo a : Nat) : Int) = k at *
    generalize ((bitsN n : Nat) : Int) = x at *
    generalize ((bitsN m : Nat) : Int) = y at *
    generalize (a : Int) = a at *
    generalize (b : Int) = b at *
    generalize (c : Int) = c at *
    have Hup := Lib.hid hup; clear hup
    have Hbn := Lib.hid hbn; clear hbn
    have Hbm := Lib.hid hbm; clear hbm
    have Hlxy := Lib.hid hlxy; clear hlxy
    have Hsxy := Lib.hid hsxy; clear hsxy
    have Hox := Lib.hid hox; clear hox
    have Hoa := Lib.hid hoa; clear hoa
    have Hbk := Lib.hid hbk; clear hbk
    have Hbk1 := Lib.hid hbk1; clear hbk1
    have Hlk := Lib.hid hlk; clear hlk
    have Hlk1 := Lib.hid hlk1; clear hlk1
    have Hlab := Lib.hid hlab; clear hlab
    have Hlba := Lib.hid hlba; clear hlba
    have Hsab := Lib.hid hsab; clear hsab
    have Hsaa := Lib.hid hsaa; clear hsaa
    have Hsbb := Lib.hid hsbb; clear hsbb
    have Hlbc := Lib.hid hlbc; clear hlbc
    go_enter Try.func13, Try.ntmps13
    go_wp2_with fail; refine ((Hup).out _).mono ?_; rintro e9 w9 ⟨rfl, hw9⟩; subst hw9; try dsimp only
    go_wp2_with fail; refine ((Hbn).out _).mono ?_; rintro e9 w9 ⟨rfl, hw9⟩; subst hw9; try dsimp only
    go_wp2_with fail; refine ((Hbm).out _).mono ?_; rintro e9 w9 ⟨rfl, hw9⟩; subst hw9; try dsimp only
    go_wp2_with fail; refine ((Hlxy).out _).mono ?_; rintro e9 w9 ⟨rfl, hw9⟩; subst hw9; try dsimp only
    go_wp2_with fail; refine ((Hsxy).out _).mono ?_; rintro e9 w9 ⟨rfl, hw9⟩; subst hw9; try dsimp only
    go_wp2_with fail; refine ((Hlab).out _).mono ?_; rintro e9 w9 ⟨rfl, hw9⟩; subst hw9; try dsimp only
    go_wp2_with fail; refine ((Hlba).out _).mono ?_; rintro e9 w9 ⟨rfl, hw9⟩; subst hw9; try dsimp only
    go_wp2_with fail; refine ((Hsab).out _).mono ?_; rintro e9 w9 ⟨rfl, hw9⟩; subst hw9; try dsimp only
    go_wp2_with fail; refine ((Hsaa).out _).mono ?_; rintro e9 w9 ⟨rfl, hw9⟩; subst hw9; try dsimp only
    go_wp2_with fail; refine ((Hsbb).out _).mono ?_; rintro e9 w9 ⟨rfl, hw9⟩; subst hw9; try dsimp only
    go_wp2_with fail; refine ((Hlab).out _).mono ?_; rintro e9 w9 ⟨rfl, hw9⟩; subst hw9; try dsimp only
    go_wp2_with fail; refine ((Hlbc).out _).mono ?_; rintro e9 w9 ⟨rfl, hw9⟩; subst hw9; try dsimp only
    go_wp2_with fail; refine ((Hox).out _).mono ?_; rintro e9 w9 ⟨rfl, hw9⟩; subst hw9; try dsimp only
    go_wp2_with fail; refine ((Hoa).out _).mono ?_; rintro e9 w9 ⟨rfl, hw9⟩; subst hw9; try dsimp only
    go_wp2_with fail; refine ((Hbk).out _).mono ?_; rintro e9 w9 ⟨rfl, hw9⟩; subst hw9; try dsimp only
    go_wp2_with fail; refine ((Hlk).out _).mono ?_; rintro e9 w9 ⟨rfl, hw9⟩; subst hw9; try dsimp only
    go_wp2_with fail; refine ((Hbk1).out _).mono ?_; rintro e9 w9 ⟨rfl, hw9⟩; subst hw9; try dsimp only
    go_wp2_with fail; refine ((Hlk1).out _).mono ?_; rintro e9 w9 ⟨rfl, hw9⟩; subst hw9; try dsimp only
    go_wp2_with fail
    go_returns
    exact ⟨rfl, rfl⟩
  · skip
    replace hlab := fun w => less_is hlab w ha hb
    replace hlba := fun w => less_is hlba w hb ha
    replace hsab := fun w => same_is hsab w ha hb
    replace hsaa := fun w => same_is hsaa w ha ha
    replace hsbb := fun w => same_is hsbb w hb hb
    replace hlbc := fun w => less_is hlbc w hb hc
    replace hlac := fun w => less_is hlac w ha hc
    clear hr ha hb hc
    obtain ⟨f0, f1⟩ := hfb
    replace f0 : (1 : Int) ≤ (flo a : Nat) := by omega
    replace f1 : ((flo a : Nat) : Int) ≤ 1024 := by omega
    generalize ((bitsN ((flo a : Nat) : Int) : Nat) : Int) = z at *
    generalize ((bitsN (((flo a : Nat) : Int) + 1) : Nat) : Int) = z1 at *
    generalize ((flo a : Nat) : Int) = k at *
    generalize ((bitsN n : Nat) : Int) = x at *
    generalize ((bitsN m : Nat) : Int) = y at *
    generalize (a : Int) = a at *
    generalize (b : Int) = b at *
    generalize (c : Int) = c at *
    have Hup := Lib.hid hup; clear hup
    have Hbn := Lib.hid hbn; clear hbn
    have Hbm := Lib.hid hbm; clear hbm
    have Hlxy := Lib.hid hlxy; clear hlxy
    have Hsxy := Lib.hid hsxy; clear hsxy
    have Hox := Lib.hid hox; clear hox
    have Hoa := Lib.hid hoa; clear hoa
    have Hbk := Lib.hid hbk; clear hbk
    have Hbk1 := Lib.hid hbk1; clear hbk1
    have Hlk := Lib.hid hlk; clear hlk
    have Hlk1 := Lib.hid hlk1; clear hlk1
    have Hlab := Lib.hid hlab; clear hlab
    have Hlba := Lib.hid hlba; clear hlba
    have Hsab := Lib.hid hsab; clear hsab
    have Hsaa := Lib.hid hsaa; clear hsaa
    have Hsbb := Lib.hid hsbb; clear hsbb
    have Hlbc := Lib.hid hlbc; clear hlbc
    have Hlac := Lib.hid hlac; clear hlac
    go_enter Try.func13, Try.ntmps13
    go_wp2_with fail; refine ((Hup).out _).mono ?_; rintro e9 w9 ⟨rfl, hw9⟩; subst hw9; try dsimp only
    go_wp2_with fail; refine ((Hbn).out _).mono ?_; rintro e9 w9 ⟨rfl, hw9⟩; subst hw9; try dsimp only
    go_wp2_with fail; refine ((Hbm).out _).mono ?_; rintro e9 w9 ⟨rfl, hw9⟩; subst hw9; try dsimp only
    go_wp2_with fail; refine ((Hlxy).out _).mono ?_; rintro e9 w9 ⟨rfl, hw9⟩; subst hw9; try dsimp only
    go_wp2_with fail; refine ((Hsxy).out _).mono ?_; rintro e9 w9 ⟨rfl, hw9⟩; subst hw9; try dsimp only
    go_wp2_with fail; refine ((Hlab).out _).mono ?_; rintro e9 w9 ⟨rfl, hw9⟩; subst hw9; try dsimp only
    go_wp2_with fail; refine ((Hlba).out _).mono ?_; rintro e9 w9 ⟨rfl, hw9⟩; subst hw9; try dsimp only
    go_wp2_with fail; refine ((Hsab).out _).mono ?_; rintro e9 w9 ⟨rfl, hw9⟩; subst hw9; try dsimp only
    go_wp2_with fail; refine ((Hsaa).out _).mono ?_; rintro e9 w9 ⟨rfl, hw9⟩; subst hw9; try dsimp only
    go_wp2_with fail; refine ((Hsbb).out _).mono ?_; rintro e9 w9 ⟨rfl, hw9⟩; subst hw9; try dsimp only
    go_wp2_with fail; refine ((Hlab).out _).mono ?_; rintro e9 w9 ⟨rfl, hw9⟩; subst hw9; try dsimp only
    go_wp2_with fail; refine ((Hlbc).out _).mono ?_; rintro e9 w9 ⟨rfl, hw9⟩; subst hw9; try dsimp only
    go_wp2_with fail; refine ((Hlac).out _).mono ?_; rintro e9 w9 ⟨rfl, hw9⟩; subst hw9; try dsimp only
    go_wp2_with fail; refine ((Hox).out _).mono ?_; rintro e9 w9 ⟨rfl, hw9⟩; subst hw9; try dsimp only
    go_wp2_with fail; refine ((Hoa).out _).mono ?_; rintro e9 w9 ⟨rfl, hw9⟩; subst hw9; try dsimp only
    go_wp2_with fail; refine ((Hbk).out _).mono ?_; rintro e9 w9 ⟨rfl, hw9⟩; subst hw9; try dsimp only
    go_wp2_with fail; refine ((Hlk).out _).mono ?_; rintro e9 w9 ⟨rfl, hw9⟩; subst hw9; try dsimp only
    go_wp2_with fail; refine ((Hbk1).out _).mono ?_; rintro e9 w9 ⟨rfl, hw9⟩; subst hw9; try dsimp only
    go_wp2_with fail; refine ((Hlk1).out _).mono ?_; rintro e9 w9 ⟨rfl, hw9⟩; subst hw9; try dsimp only
    go_wp2_with fail
    go_returns
    exact ⟨rfl, rfl⟩
  · skip
    replace hlab := fun w => less_is hlab w ha hb
    replace hlba := fun w => less_is hlba w hb ha
    replace hsab := fun w => same_is hsab w ha hb
    replace hsaa := fun w => same_is hsaa w ha ha
    replace hsbb := fun w => same_is hsbb w hb hb
    clear hr ha hb hc
    obtain ⟨f0, f1⟩ := hfb
    replace f0 : (1 : Int) ≤ (flo a : Nat) := by omega
    replace f1 : ((flo a : Nat) : Int) ≤ 1024 := by omega
    generalize ((bitsN ((flo a : Nat) : Int) : Nat) : Int) = z at *
    generalize ((bitsN (((flo a : Nat) : Int) + 1) : Nat) : Int) = z1 at *
    generalize ((flo a : Nat) : Int) = k at *
    generalize ((bitsN n : Nat) : Int) = x at *
    generalize ((bitsN m : Nat) : Int) = y at *
    generalize (a : Int) = a at *
    generalize (b : Int) = b at *
    generalize (c : Int) = c at *
    have Hup := Lib.hid hup; clear hup
    have Hbn := Lib.hid hbn; clear hbn
    have Hbm := Lib.hid hbm; clear hbm
    have Hlxy := Lib.hid hlxy; clear hlxy
    have Hsxy := Lib.hid hsxy; clear hsxy
    have Hox := Lib.hid hox; clear hox
    have Hoa := Lib.hid hoa; clear hoa
    have Hbk := Lib.hid hbk; clear hbk
    have Hbk1 := Lib.hid hbk1; clear hbk1
    have Hlk := Lib.hid hlk; clear hlk
    have Hlk1 := Lib.hid hlk1; clear hlk1
    have Hlab := Lib.hid hlab; clear hlab
    have Hlba := Lib.hid hlba; clear hlba
    have Hsab := Lib.hid hsab; clear hsab
    have Hsaa := Lib.hid hsaa; clear hsaa
    have Hsbb := Lib.hid hsbb; clear hsbb
    go_enter Try.func13, Try.ntmps13
    go_wp2_with fail; refine ((Hup).out _).mono ?_; rintro e9 w9 ⟨rfl, hw9⟩; subst hw9; try dsimp only
    go_wp2_with fail; refine ((Hbn).out _).mono ?_; rintro e9 w9 ⟨rfl, hw9⟩; subst hw9; try dsimp only
    go_wp2_with fail; refine ((Hbm).out _).mono ?_; rintro e9 w9 ⟨rfl, hw9⟩; subst hw9; try dsimp only
    go_wp2_with fail; refine ((Hlxy).out _).mono ?_; rintro e9 w9 ⟨rfl, hw9⟩; subst hw9; try dsimp only
    go_wp2_with fail; refine ((Hsxy).out _).mono ?_; rintro e9 w9 ⟨rfl, hw9⟩; subst hw9; try dsimp only
    go_wp2_with fail; refine ((Hlab).out _).mono ?_; rintro e9 w9 ⟨rfl, hw9⟩; subst hw9; try dsimp only
    go_wp2_with fail; refine ((Hlba).out _).mono ?_; rintro e9 w9 ⟨rfl, hw9⟩; subst hw9; try dsimp only
    go_wp2_with fail; refine ((Hsab).out _).mono ?_; rintro e9 w9 ⟨rfl, hw9⟩; subst hw9; try dsimp only
    go_wp2_with fail; refine ((Hsaa).out _).mono ?_; rintro e9 w9 ⟨rfl, hw9⟩; subst hw9; try dsimp only
    go_wp2_with fail; refine ((Hsbb).out _).mono ?_; rintro e9 w9 ⟨rfl, hw9⟩; subst hw9; try dsimp only
    go_wp2_with fail; refine ((Hlab).out _).mono ?_; rintro e9 w9 ⟨rfl, hw9⟩; subst hw9; try dsimp only
    go_wp2_with fail; refine ((Hox).out _).mono ?_; rintro e9 w9 ⟨rfl, hw9⟩; subst hw9; try dsimp only
    go_wp2_with fail; refine ((Hoa).out _).mono ?_; rintro e9 w9 ⟨rfl, hw9⟩; subst hw9; try dsimp only
    go_wp2_with fail; refine ((Hbk).out _).mono ?_; rintro e9 w9 ⟨rfl, hw9⟩; subst hw9; try dsimp only
    go_wp2_with fail; refine ((Hlk).out _).mono ?_; rintro e9 w9 ⟨rfl, hw9⟩; subst hw9; try dsimp only
    go_wp2_with fail; refine ((Hbk1).out _).mono ?_; rintro e9 w9 ⟨rfl, hw9⟩; subst hw9; try dsimp only
    go_wp2_with fail; refine ((Hlk1).out _).mono ?_; rintro e9 w9 ⟨rfl, hw9⟩; subst hw9; try dsimp only
    go_wp2_with fail
    go_returns
    exact ⟨rfl, rfl⟩
  · skip
    replace hlab := fun w => less_is hlab w ha hb
    replace hlba := fun w => less_is hlba w hb ha
    replace hsab := fun w => same_is hsab w ha hb
    replace hsaa := fun w => same_is hsaa w ha ha
    replace hsbb := fun w => same_is hsbb w hb hb
    clear hr ha hb hc
    obtain ⟨f0, f1⟩ := hfb
    replace f0 : (1 : Int) ≤ (flo a : Nat) := by omega
    replace f1 : ((flo a : Nat) : Int) ≤ 1024 := by omega
    generalize ((bitsN ((flo a : Nat) : Int) : Nat) : Int) = z at *
    generalize ((bitsN (((flo a : Nat) : Int) + 1) : Nat) : Int) = z1 at *
    generalize ((flo a : Nat) : Int) = k at *
    generalize ((bitsN n : Nat) : Int) = x at *
    generalize ((bitsN m : Nat) : Int) = y at *
    generalize (a : Int) = a at *
    generalize (b : Int) = b at *
    generalize (c : Int) = c at *
    have Hup := Lib.hid hup; clear hup
    have Hbn := Lib.hid hbn; clear hbn
    have Hbm := Lib.hid hbm; clear hbm
    have Hlxy := Lib.hid hlxy; clear hlxy
    have Hsxy := Lib.hid hsxy; clear hsxy
    have Hox := Lib.hid hox; clear hox
    have Hoa := Lib.hid hoa; clear hoa
    have Hbk := Lib.hid hbk; clear hbk
    have Hbk1 := Lib.hid hbk1; clear hbk1
    have Hlk := Lib.hid hlk; clear hlk
    have Hlk1 := Lib.hid hlk1; clear hlk1
    have Hlab := Lib.hid hlab; clear hlab
    have Hlba := Lib.hid hlba; clear hlba
    have Hsab := Lib.hid hsab; clear hsab
    have Hsaa := Lib.hid hsaa; clear hsaa
    have Hsbb := Lib.hid hsbb; clear hsbb
    go_enter Try.func13, Try.ntmps13
    go_wp2_with fail; refine ((Hup).out _).mono ?_; rintro e9 w9 ⟨rfl, hw9⟩; subst hw9; try dsimp only
    go_wp2_with fail; refine ((Hbn).out _).mono ?_; rintro e9 w9 ⟨rfl, hw9⟩; subst hw9; try dsimp only
    go_wp2_with fail; refine ((Hbm).out _).mono ?_; rintro e9 w9 ⟨rfl, hw9⟩; subst hw9; try dsimp only
    go_wp2_with fail; refine ((Hlxy).out _).mono ?_; rintro e9 w9 ⟨rfl, hw9⟩; subst hw9; try dsimp only
    go_wp2_with fail; refine ((Hsxy).out _).mono ?_; rintro e9 w9 ⟨rfl, hw9⟩; subst hw9; try dsimp only
    go_wp2_with fail; refine ((Hlab).out _).mono ?_; rintro e9 w9 ⟨rfl, hw9⟩; subst hw9; try dsimp only
    go_wp2_with fail; refine ((Hlba).out _).mono ?_; rintro e9 w9 ⟨rfl, hw9⟩; subst hw9; try dsimp only
    go_wp2_with fail; refine ((Hsab).out _).mono ?_; rintro e9 w9 ⟨rfl, hw9⟩; subst hw9; try dsimp only
    go_wp2_with fail; refine ((Hsaa).out _).mono ?_; rintro e9 w9 ⟨rfl, hw9⟩; subst hw9; try dsimp only
    go_wp2_with fail; refine ((Hsbb).out _).mono ?_; rintro e9 w9 ⟨rfl, hw9⟩; subst hw9; try dsimp only
    go_wp2_with fail; refine ((Hlab).out _).mono ?_; rintro e9 w9 ⟨rfl, hw9⟩; subst hw9; try dsimp only
    go_wp2_with fail; refine ((Hox).out _).mono ?_; rintro e9 w9 ⟨rfl, hw9⟩; subst hw9; try dsimp only
    go_wp2_with fail; refine ((Hoa).out _).mono ?_; rintro e9 w9 ⟨rfl, hw9⟩; subst hw9; try dsimp only
    go_wp2_with fail; refine ((Hbk).out _).mono ?_; rintro e9 w9 ⟨rfl, hw9⟩; subst hw9; try dsimp only
    go_wp2_with fail; refine ((Hlk).out _).mono ?_; rintro e9 w9 ⟨rfl, hw9⟩; subst hw9; try dsimp only
    go_wp2_with fail; refine ((Hbk1).out _).mono ?_; rintro e9 w9 ⟨rfl, hw9⟩; subst hw9; try dsimp only
    go_wp2_with fail; refine ((Hlk1).out _).mono ?_; rintro e9 w9 ⟨rfl, hw9⟩; subst hw9; try dsimp only
    go_wp2_with fail
    go_returns
    exact ⟨rfl, rfl⟩
  · skip
    replace hlab := fun w => less_is hlab w ha hb
    replace hlba := fun w => less_is hlba w hb ha
    replace hsab := fun w => same_is hsab w ha hb
    replace hsaa := fun w => same_is hsaa w ha ha
    clear hr ha hb hc
    obtain ⟨f0, f1⟩ := hfb
    replace f0 : (1 : Int) ≤ (flo a : Nat) := by omega
    replace f1 : ((flo a : Nat) : Int) ≤ 1024 := by omega
    generalize ((bitsN ((flo a : Nat) : Int) : Nat) : Int) = z at *
    generalize ((bitsN (((flo a : Nat) : Int) + 1) : Nat) : Int) = z1 at *
    generalize ((flo a : Nat) : Int) = k at *
    generalize ((bitsN n : Nat) : Int) = x at *
    generalize ((bitsN m : Nat) : Int) = y at *
    generalize (a : Int) = a at *
    generalize (b : Int) = b at *
    generalize (c : Int) = c at *
    have Hup := Lib.hid hup; clear hup
    have Hbn := Lib.hid hbn; clear hbn
    have Hbm := Lib.hid hbm; clear hbm
    have Hlxy := Lib.hid hlxy; clear hlxy
    have Hsxy := Lib.hid hsxy; clear hsxy
    have Hox := Lib.hid hox; clear hox
    have Hoa := Lib.hid hoa; clear hoa
    have Hbk := Lib.hid hbk; clear hbk
    have Hbk1 := Lib.hid hbk1; clear hbk1
    have Hlk := Lib.hid hlk; clear hlk
    have Hlk1 := Lib.hid hlk1; clear hlk1
    have Hlab := Lib.hid hlab; clear hlab
    have Hlba := Lib.hid hlba; clear hlba
    have Hsab := Lib.hid hsab; clear hsab
    have Hsaa := Lib.hid hsaa; clear hsaa
    go_enter Try.func13, Try.ntmps13
    go_wp2_with fail; refine ((Hup).out _).mono ?_; rintro e9 w9 ⟨rfl, hw9⟩; subst hw9; try dsimp only
    go_wp2_with fail; refine ((Hbn).out _).mono ?_; rintro e9 w9 ⟨rfl, hw9⟩; subst hw9; try dsimp only
    go_wp2_with fail; refine ((Hbm).out _).mono ?_; rintro e9 w9 ⟨rfl, hw9⟩; subst hw9; try dsimp only
    go_wp2_with fail; refine ((Hlxy).out _).mono ?_; rintro e9 w9 ⟨rfl, hw9⟩; subst hw9; try dsimp only
    go_wp2_with fail; refine ((Hsxy).out _).mono ?_; rintro e9 w9 ⟨rfl, hw9⟩; subst hw9; try dsimp only
    go_wp2_with fail; refine ((Hlab).out _).mono ?_; rintro e9 w9 ⟨rfl, hw9⟩; subst hw9; try dsimp only
    go_wp2_with fail; refine ((Hlba).out _).mono ?_; rintro e9 w9 ⟨rfl, hw9⟩; subst hw9; try dsimp only
    go_wp2_with fail; refine ((Hsab).out _).mono ?_; rintro e9 w9 ⟨rfl, hw9⟩; subst hw9; try dsimp only
    go_wp2_with fail; refine ((Hsaa).out _).mono ?_; rintro e9 w9 ⟨rfl, hw9⟩; subst hw9; try dsimp only
    go_wp2_with fail; refine ((Hlab).out _).mono ?_; rintro e9 w9 ⟨rfl, hw9⟩; subst hw9; try dsimp only
    go_wp2_with fail; refine ((Hox).out _).mono ?_; rintro e9 w9 ⟨rfl, hw9⟩; subst hw9; try dsimp only
    go_wp2_with fail; refine ((Hoa).out _).mono ?_; rintro e9 w9 ⟨rfl, hw9⟩; subst hw9; try dsimp only
    go_wp2_with fail; refine ((Hbk).out _).mono ?_; rintro e9 w9 ⟨rfl, hw9⟩; subst hw9; try dsimp only
    go_wp2_with fail; refine ((Hlk).out _).mono ?_; rintro e9 w9 ⟨rfl, hw9⟩; subst hw9; try dsimp only
    go_wp2_with fail; refine ((Hbk1).out _).mono ?_; rintro e9 w9 ⟨rfl, hw9⟩; subst hw9; try dsimp only
    go_wp2_with fail; refine ((Hlk1).out _).mono ?_; rintro e9 w9 ⟨rfl, hw9⟩; subst hw9; try dsimp only
    go_wp2_with fail
    go_returns
    exact ⟨rfl, rfl⟩
  · skip
    replace hlab := fun w => less_is hlab w ha hb
    replace hlba := fun w => less_is hlba w hb ha
    replace hsab := fun w => same_is hsab w ha hb
    replace hsaa := fun w => same_is hsaa w ha ha
    replace hsbb := fun w => same_is hsbb w hb hb
    clear hr ha hb hc
    obtain ⟨f0, f1⟩ := hfb
    replace f0 : (1 : Int) ≤ (flo a : Nat) := by omega
    replace f1 : ((flo a : Nat) : Int) ≤ 1024 := by omega
    generalize ((bitsN ((flo a : Nat) : Int) : Nat) : Int) = z at *
    generalize ((bitsN (((flo a : Nat) : Int) + 1) : Nat) : Int) = z1 at *
    generalize ((flo a : Nat) : Int) = k at *
    generalize ((bitsN n : Nat) : Int) = x at *
    generalize ((bitsN m : Nat) : Int) = y at *
    generalize (a : Int) = a at *
    generalize (b : Int) = b at *
    generalize (c : Int) = c at *
    have Hup := Lib.hid hup; clear hup
    have Hbn := Lib.hid hbn; clear hbn
    have Hbm := Lib.hid hbm; clear hbm
    have Hlxy := Lib.hid hlxy; clear hlxy
    have Hsxy := Lib.hid hsxy; clear hsxy
    have Hox := Lib.hid hox; clear hox
    have Hoa := Lib.hid hoa; clear hoa
    have Hbk := Lib.hid hbk; clear hbk
    have Hbk1 := Lib.hid hbk1; clear hbk1
    have Hlk := Lib.hid hlk; clear hlk
    have Hlk1 := Lib.hid hlk1; clear hlk1
    have Hlab := Lib.hid hlab; clear hlab
    have Hlba := Lib.hid hlba; clear hlba
    have Hsab := Lib.hid hsab; clear hsab
    have Hsaa := Lib.hid hsaa; clear hsaa
    have Hsbb := Lib.hid hsbb; clear hsbb
    go_enter Try.func13, Try.ntmps13
    go_wp2_with fail; refine ((Hup).out _).mono ?_; rintro e9 w9 ⟨rfl, hw9⟩; subst hw9; try dsimp only
    go_wp2_with fail; refine ((Hbn).out _).mono ?_; rintro e9 w9 ⟨rfl, hw9⟩; subst hw9; try dsimp only
    go_wp2_with fail; refine ((Hbm).out _).mono ?_; rintro e9 w9 ⟨rfl, hw9⟩; subst hw9; try dsimp only
    go_wp2_with fail; refine ((Hlxy).out _).mono ?_; rintro e9 w9 ⟨rfl, hw9⟩; subst hw9; try dsimp only
    go_wp2_with fail; refine ((Hsxy).out _).mono ?_; rintro e9 w9 ⟨rfl, hw9⟩; subst hw9; try dsimp only
    go_wp2_with fail; refine ((Hlab).out _).mono ?_; rintro e9 w9 ⟨rfl, hw9⟩; subst hw9; try dsimp only
    go_wp2_with fail; refine ((Hlba).out _).mono ?_; rintro e9 w9 ⟨rfl, hw9⟩; subst hw9; try dsimp only
    go_wp2_with fail; refine ((Hsab).out _).mono ?_; rintro e9 w9 ⟨rfl, hw9⟩; subst hw9; try dsimp only
    go_wp2_with fail; refine ((Hsaa).out _).mono ?_; rintro e9 w9 ⟨rfl, hw9⟩; subst hw9; try dsimp only
    go_wp2_with fail; refine ((Hsbb).out _).mono ?_; rintro e9 w9 ⟨rfl, hw9⟩; subst hw9; try dsimp only
    go_wp2_with fail; refine ((Hlab).out _).mono ?_; rintro e9 w9 ⟨rfl, hw9⟩; subst hw9; try dsimp only
    go_wp2_with fail; refine ((Hox).out _).mono ?_; rintro e9 w9 ⟨rfl, hw9⟩; subst hw9; try dsimp only
    go_wp2_with fail; refine ((Hoa).out _).mono ?_; rintro e9 w9 ⟨rfl, hw9⟩; subst hw9; try dsimp only
    go_wp2_with fail; refine ((Hbk).out _).mono ?_; rintro e9 w9 ⟨rfl, hw9⟩; subst hw9; try dsimp only
    go_wp2_with fail; refine ((Hlk).out _).mono ?_; rintro e9 w9 ⟨rfl, hw9⟩; subst hw9; try dsimp only
    go_wp2_with fail; refine ((Hbk1).out _).mono ?_; rintro e9 w9 ⟨rfl, hw9⟩; subst hw9; try dsimp only
    go_wp2_with fail; refine ((Hlk1).out _).mono ?_; rintro e9 w9 ⟨rfl, hw9⟩; subst hw9; try dsimp only
    go_wp2_with fail
    go_returns
    exact ⟨rfl, rfl⟩
set_option maxRecDepth 100000 in
set_option maxHeartbeats 8000000 in
theorem rateOrders_hin (n m : Int) (a b c : Nat) (w : World) (n0 : -9007199254740992 ≤ n) (n1 : n ≤ 9007199254740992) (m0 : -9007199254740992 ≤ m) (m1 : m ≤ 9007199254740992) (ha : a < 18446744073709551616) (hb : b < 18446744073709551616) (hc : c < 18446744073709551616) (g0 : 1024 < n) (hr : isRate a = false) :
    Calls Try.prog 13 #[.int .i64 n, .int .i64 m, .int .u64 a, .int .u64 b, .int .u64 c] w fun e w' => e = .returned (.bool true) ∧ w' = w := by
  have hup := up12_any
  have hbn := fun w => bits_is n w n0 n1
  have hbm := fun w => bits_is m w m0 m1
  have hlxy := fun w => less_is (ltF_bits n m n0 n1 m0 m1) w (bitsN_lt n n0 n1) (bitsN_lt m m0 m1)
  have hsxy := fun w => same_is (eqF_bits n m n0 n1 m0 m1) w (bitsN_lt n n0 n1) (bitsN_lt m m0 m1)
  have hox := fun w => of_no (bitsN n) w (bitsN_lt n n0 n1) (by rw [← Bool.not_eq_true, isRate_bits n n0 n1]; omega)
  have hoa := fun w => of_no a w ha hr
  have hway := way6_any a b c
  unfold way6 at hway
  rcases hway with ⟨hlab, hlba, hsab, hsaa, hsbb, hlbc⟩ | ⟨hlab, hlba, hsab, hsaa, hsbb, hlbc, hlac⟩ | ⟨hlab, hlba, hsab, hsaa, hsbb⟩ | ⟨hlab, hlba, hsab, hsaa, hsbb⟩ | ⟨hlab, hlba, hsab, hsaa⟩ | ⟨hlab, hlba, hsab, hsaa, hsbb⟩
  · skip
    replace hlab := fun w => less_is hlab w ha hb
    replace hlba := fun w => less_is hlba w hb ha
    replace hsab := fun w => same_is hsab w ha hb
    replace hsaa := fun w => same_is hsaa w ha ha
    replace hsbb := fun w => same_is hsbb w hb hb
    replace hlbc := fun w => less_is hlbc w hb hc
    clear hr ha hb hc
    generalize ((bitsN n : Nat) : Int) = x at *
    generalize ((bitsN m : Nat) : Int) = y at *
    generalize (a : Int) = a at *
    generalize (b : Int) = b at *
    generalize (c : Int) = c at *
    have Hup := Lib.hid hup; clear hup
    have Hbn := Lib.hid hbn; clear hbn
    have Hbm := Lib.hid hbm; clear hbm
    have Hlxy := Lib.hid hlxy; clear hlxy
    have Hsxy := Lib.hid hsxy; clear hsxy
    have Hox := Lib.hid hox; clear hox
    have Hoa := Lib.hid hoa; clear hoa
    have Hlab := Lib.hid hlab; clear hlab
    have Hlba := Lib.hid hlba; clear hlba
    have Hsab := Lib.hid hsab; clear hsab
    have Hsaa := Lib.hid hsaa; clear hsaa
    have Hsbb := Lib.hid hsbb; clear hsbb
    have Hlbc := Lib.hid hlbc; clear hlbc
    go_enter Try.func13, Try.ntmps13
    go_wp2_with fail; refine ((Hup).out _).mono ?_; rintro e9 w9 ⟨rfl, hw9⟩; subst hw9; try dsimp only
    go_wp2_with fail; refine ((Hbn).out _).mono ?_; rintro e9 w9 ⟨rfl, hw9⟩; subst hw9; try dsimp only
    go_wp2_with fail; refine ((Hbm).out _).mono ?_; rintro e9 w9 ⟨rfl, hw9⟩; subst hw9; try dsimp only
    go_wp2_with fail; refine ((Hlxy).out _).mono ?_; rintro e9 w9 ⟨rfl, hw9⟩; subst hw9; try dsimp only
    go_wp2_with fail; refine ((Hsxy).out _).mono ?_; rintro e9 w9 ⟨rfl, hw9⟩; subst hw9; try dsimp only
    go_wp2_with fail; refine ((Hlab).out _).mono ?_; rintro e9 w9 ⟨rfl, hw9⟩; subst hw9; try dsimp only
    go_wp2_with fail; refine ((Hlba).out _).mono ?_; rintro e9 w9 ⟨rfl, hw9⟩; subst hw9; try dsimp only
    go_wp2_with fail; refine ((Hsab).out _).mono ?_; rintro e9 w9 ⟨rfl, hw9⟩; subst hw9; try dsimp only
    go_wp2_with fail; refine ((Hsaa).out _).mono ?_; rintro e9 w9 ⟨rfl, hw9⟩; subst hw9; try dsimp only
    go_wp2_with fail; refine ((Hsbb).out _).mono ?_; rintro e9 w9 ⟨rfl, hw9⟩; subst hw9; try dsimp only
    go_wp2_with fail; refine ((Hlab).out _).mono ?_; rintro e9 w9 ⟨rfl, hw9⟩; subst hw9; try dsimp only
    go_wp2_with fail; refine ((Hlbc).out _).mono ?_; rintro e9 w9 ⟨rfl, hw9⟩; subst hw9; try dsimp only
    go_wp2_with fail; refine ((Hox).out _).mono ?_; rintro e9 w9 ⟨rfl, hw9⟩; subst hw9; try dsimp only
    go_wp2_with fail; refine ((Hoa).out _).mono ?_; rintro e9 w9 ⟨rfl, hw9⟩; subst hw9; try dsimp only
    go_wp2_with fail
    go_returns
    exact ⟨rfl, rfl⟩
  · skip
    replace hlab := fun w => less_is hlab w ha hb
    replace hlba := fun w => less_is hlba w hb ha
    replace hsab := fun w => same_is hsab w ha hb
    replace hsaa := fun w => same_is hsaa w ha ha
    replace hsbb := fun w => same_is hsbb w hb hb
    replace hlbc := fun w => less_is hlbc w hb hc
    replace hlac := fun w => less_is hlac w ha hc
    clear hr ha hb hc
    generalize ((bitsN n : Nat) : Int) = x at *
    generalize ((bitsN m : Nat) : Int) = y at *
    generalize (a : Int) = a at *
    generalize (b : Int) = b at *
    generalize (c : Int) = c at *
    have Hup := Lib.hid hup; clear hup
    have Hbn := Lib.hid hbn; clear hbn
    have Hbm := Lib.hid hbm; clear hbm
    have Hlxy := Lib.hid hlxy; clear hlxy
    have Hsxy := Lib.hid hsxy; clear hsxy
    have Hox := Lib.hid hox; clear hox
    have Hoa := Lib.hid hoa; clear hoa
    have Hlab := Lib.hid hlab; clear hlab
    have Hlba := Lib.hid hlba; clear hlba
    have Hsab := Lib.hid hsab; clear hsab
    have Hsaa := Lib.hid hsaa; clear hsaa
    have Hsbb := Lib.hid hsbb; clear hsbb
    have Hlbc := Lib.hid hlbc; clear hlbc
    have Hlac := Lib.hid hlac; clear hlac
    go_enter Try.func13, Try.ntmps13
    go_wp2_with fail; refine ((Hup).out _).mono ?_; rintro e9 w9 ⟨rfl, hw9⟩; subst hw9; try dsimp only
    go_wp2_with fail; refine ((Hbn).out _).mono ?_; rintro e9 w9 ⟨rfl, hw9⟩; subst hw9; try dsimp only
    go_wp2_with fail; refine ((Hbm).out _).mono ?_; rintro e9 w9 ⟨rfl, hw9⟩; subst hw9; try dsimp only
    go_wp2_with fail; refine ((Hlxy).out _).mono ?_; rintro e9 w9 ⟨rfl, hw9⟩; subst hw9; try dsimp only
    go_wp2_with fail; refine ((Hsxy).out _).mono ?_; rintro e9 w9 ⟨rfl, hw9⟩; subst hw9; try dsimp only
    go_wp2_with fail; refine ((Hlab).out _).mono ?_; rintro e9 w9 ⟨rfl, hw9⟩; subst hw9; try dsimp only
    go_wp2_with fail; refine ((Hlba).out _).mono ?_; rintro e9 w9 ⟨rfl, hw9⟩; subst hw9; try dsimp only
    go_wp2_with fail; refine ((Hsab).out _).mono ?_; rintro e9 w9 ⟨rfl, hw9⟩; subst hw9; try dsimp only
    go_wp2_with fail; refine ((Hsaa).out _).mono ?_; rintro e9 w9 ⟨rfl, hw9⟩; subst hw9; try dsimp only
    go_wp2_with fail; refine ((Hsbb).out _).mono ?_; rintro e9 w9 ⟨rfl, hw9⟩; subst hw9; try dsimp only
    go_wp2_with fail; refine ((Hlab).out _).mono ?_; rintro e9 w9 ⟨rfl, hw9⟩; subst hw9; try dsimp only
    go_wp2_with fail; refine ((Hlbc).out _).mono ?_; rintro e9 w9 ⟨rfl, hw9⟩; subst hw9; try dsimp only
    go_wp2_with fail; refine ((Hlac).out _).mono ?_; rintro e9 w9 ⟨rfl, hw9⟩; subst hw9; try dsimp only
    go_wp2_with fail; refine ((Hox).out _).mono ?_; rintro e9 w9 ⟨rfl, hw9⟩; subst hw9; try dsimp only
    go_wp2_with fail; refine ((Hoa).out _).mono ?_; rintro e9 w9 ⟨rfl, hw9⟩; subst hw9; try dsimp only
    go_wp2_with fail
    go_returns
    exact ⟨rfl, rfl⟩
  · skip
    replace hlab := fun w => less_is hlab w ha hb
    replace hlba := fun w => less_is hlba w hb ha
    replace hsab := fun w => same_is hsab w ha hb
    replace hsaa := fun w => same_is hsaa w ha ha
    replace hsbb := fun w => same_is hsbb w hb hb
    clear hr ha hb hc
    generalize ((bitsN n : Nat) : Int) = x at *
    generalize ((bitsN m : Nat) : Int) = y at *
    generalize (a : Int) = a at *
    generalize (b : Int) = b at *
    generalize (c : Int) = c at *
    have Hup := Lib.hid hup; clear hup
    have Hbn := Lib.hid hbn; clear hbn
    have Hbm := Lib.hid hbm; clear hbm
    have Hlxy := Lib.hid hlxy; clear hlxy
    have Hsxy := Lib.hid hsxy; clear hsxy
    have Hox := Lib.hid hox; clear hox
    have Hoa := Lib.hid hoa; clear hoa
    have Hlab := Lib.hid hlab; clear hlab
    have Hlba := Lib.hid hlba; clear hlba
    have Hsab := Lib.hid hsab; clear hsab
    have Hsaa := Lib.hid hsaa; clear hsaa
    have Hsbb := Lib.hid hsbb; clear hsbb
    go_enter Try.func13, Try.ntmps13
    go_wp2_with fail; refine ((Hup).out _).mono ?_; rintro e9 w9 ⟨rfl, hw9⟩; subst hw9; try dsimp only
    go_wp2_with fail; refine ((Hbn).out _).mono ?_; rintro e9 w9 ⟨rfl, hw9⟩; subst hw9; try dsimp only
    go_wp2_with fail; refine ((Hbm).out _).mono ?_; rintro e9 w9 ⟨rfl, hw9⟩; subst hw9; try dsimp only
    go_wp2_with fail; refine ((Hlxy).out _).mono ?_; rintro e9 w9 ⟨rfl, hw9⟩; subst hw9; try dsimp only
    go_wp2_with fail; refine ((Hsxy).out _).mono ?_; rintro e9 w9 ⟨rfl, hw9⟩; subst hw9; try dsimp only
    go_wp2_with fail; refine ((Hlab).out _).mono ?_; rintro e9 w9 ⟨rfl, hw9⟩; subst hw9; try dsimp only
    go_wp2_with fail; refine ((Hlba).out _).mono ?_; rintro e9 w9 ⟨rfl, hw9⟩; subst hw9; try dsimp only
    go_wp2_with fail; refine ((Hsab).out _).mono ?_; rintro e9 w9 ⟨rfl, hw9⟩; subst hw9; try dsimp only
    go_wp2_with fail; refine ((Hsaa).out _).mono ?_; rintro e9 w9 ⟨rfl, hw9⟩; subst hw9; try dsimp only
    go_wp2_with fail; refine ((Hsbb).out _).mono ?_; rintro e9 w9 ⟨rfl, hw9⟩; subst hw9; try dsimp only
    go_wp2_with fail; refine ((Hlab).out _).mono ?_; rintro e9 w9 ⟨rfl, hw9⟩; subst hw9; try dsimp only
    go_wp2_with fail; refine ((Hox).out _).mono ?_; rintro e9 w9 ⟨rfl, hw9⟩; subst hw9; try dsimp only
    go_wp2_with fail; refine ((Hoa).out _).mono ?_; rintro e9 w9 ⟨rfl, hw9⟩; subst hw9; try dsimp only
    go_wp2_with fail
    go_returns
    exact ⟨rfl, rfl⟩
  · skip
    replace hlab := fun w => less_is hlab w ha hb
    replace hlba := fun w => less_is hlba w hb ha
    replace hsab := fun w => same_is hsab w ha hb
    replace hsaa := fun w => same_is hsaa w ha ha
    replace hsbb := fun w => same_is hsbb w hb hb
    clear hr ha hb hc
    generalize ((bitsN n : Nat) : Int) = x at *
    generalize ((bitsN m : Nat) : Int) = y at *
    generalize (a : Int) = a at *
    generalize (b : Int) = b at *
    generalize (c : Int) = c at *
    have Hup := Lib.hid hup; clear hup
    have Hbn := Lib.hid hbn; clear hbn
    have Hbm := Lib.hid hbm; clear hbm
    have Hlxy := Lib.hid hlxy; clear hlxy
    have Hsxy := Lib.hid hsxy; clear hsxy
    have Hox := Lib.hid hox; clear hox
    have Hoa := Lib.hid hoa; clear hoa
    have Hlab := Lib.hid hlab; clear hlab
    have Hlba := Lib.hid hlba; clear hlba
    have Hsab := Lib.hid hsab; clear hsab
    have Hsaa := Lib.hid hsaa; clear hsaa
    have Hsbb := Lib.hid hsbb; clear hsbb
    go_enter Try.func13, Try.ntmps13
    go_wp2_with fail; refine ((Hup).out _).mono ?_; rintro e9 w9 ⟨rfl, hw9⟩; subst hw9; try dsimp only
    go_wp2_with fail; refine ((Hbn).out _).mono ?_; rintro e9 w9 ⟨rfl, hw9⟩; subst hw9; try dsimp only
    go_wp2_with fail; refine ((Hbm).out _).mono ?_; rintro e9 w9 ⟨rfl, hw9⟩; subst hw9; try dsimp only
    go_wp2_with fail; refine ((Hlxy).out _).mono ?_; rintro e9 w9 ⟨rfl, hw9⟩; subst hw9; try dsimp only
    go_wp2_with fail; refine ((Hsxy).out _).mono ?_; rintro e9 w9 ⟨rfl, hw9⟩; subst hw9; try dsimp only
    go_wp2_with fail; refine ((Hlab).out _).mono ?_; rintro e9 w9 ⟨rfl, hw9⟩; subst hw9; try dsimp only
    go_wp2_with fail; refine ((Hlba).out _).mono ?_; rintro e9 w9 ⟨rfl, hw9⟩; subst hw9; try dsimp only
    go_wp2_with fail; refine ((Hsab).out _).mono ?_; rintro e9 w9 ⟨rfl, hw9⟩; subst hw9; try dsimp only
    go_wp2_with fail; refine ((Hsaa).out _).mono ?_; rintro e9 w9 ⟨rfl, hw9⟩; subst hw9; try dsimp only
    go_wp2_with fail; refine ((Hsbb).out _).mono ?_; rintro e9 w9 ⟨rfl, hw9⟩; subst hw9; try dsimp only
    go_wp2_with fail; refine ((Hlab).out _).mono ?_; rintro e9 w9 ⟨rfl, hw9⟩; subst hw9; try dsimp only
    go_wp2_with fail; refine ((Hox).out _).mono ?_; rintro e9 w9 ⟨rfl, hw9⟩; subst hw9; try dsimp only
    go_wp2_with fail; refine ((Hoa).out _).mono ?_; rintro e9 w9 ⟨rfl, hw9⟩; subst hw9; try dsimp only
    go_wp2_with fail
    go_returns
    exact ⟨rfl, rfl⟩
  · skip
    replace hlab := fun w => less_is hlab w ha hb
    replace hlba := fun w => less_is hlba w hb ha
    replace hsab := fun w => same_is hsab w ha hb
    replace hsaa := fun w => same_is hsaa w ha ha
    clear hr ha hb hc
    generalize ((bitsN n : Nat) : Int) = x at *
    generalize ((bitsN m : Nat) : Int) = y at *
    generalize (a : Int) = a at *
    generalize (b : Int) = b at *
    generalize (c : Int) = c at *
    have Hup := Lib.hid hup; clear hup
    have Hbn := Lib.hid hbn; clear hbn
    have Hbm := Lib.hid hbm; clear hbm
    have Hlxy := Lib.hid hlxy; clear hlxy
    have Hsxy := Lib.hid hsxy; clear hsxy
    have Hox := Lib.hid hox; clear hox
    have Hoa := Lib.hid hoa; clear hoa
    have Hlab := Lib.hid hlab; clear hlab
    have Hlba := Lib.hid hlba; clear hlba
    have Hsab := Lib.hid hsab; clear hsab
    have Hsaa := Lib.hid hsaa; clear hsaa
    go_enter Try.func13, Try.ntmps13
    go_wp2_with fail; refine ((Hup).out _).mono ?_; rintro e9 w9 ⟨rfl, hw9⟩; subst hw9; try dsimp only
    go_wp2_with fail; refine ((Hbn).out _).mono ?_; rintro e9 w9 ⟨rfl, hw9⟩; subst hw9; try dsimp only
    go_wp2_with fail; refine ((Hbm).out _).mono ?_; rintro e9 w9 ⟨rfl, hw9⟩; subst hw9; try dsimp only
    go_wp2_with fail; refine ((Hlxy).out _).mono ?_; rintro e9 w9 ⟨rfl, hw9⟩; subst hw9; try dsimp only
    go_wp2_with fail; refine ((Hsxy).out _).mono ?_; rintro e9 w9 ⟨rfl, hw9⟩; subst hw9; try dsimp only
    go_wp2_with fail; refine ((Hlab).out _).mono ?_; rintro e9 w9 ⟨rfl, hw9⟩; subst hw9; try dsimp only
    go_wp2_with fail; refine ((Hlba).out _).mono ?_; rintro e9 w9 ⟨rfl, hw9⟩; subst hw9; try dsimp only
    go_wp2_with fail; refine ((Hsab).out _).mono ?_; rintro e9 w9 ⟨rfl, hw9⟩; subst hw9; try dsimp only
    go_wp2_with fail; refine ((Hsaa).out _).mono ?_; rintro e9 w9 ⟨rfl, hw9⟩; subst hw9; try dsimp only
    go_wp2_with fail; refine ((Hlab).out _).mono ?_; rintro e9 w9 ⟨rfl, hw9⟩; subst hw9; try dsimp only
    go_wp2_with fail; refine ((Hox).out _).mono ?_; rintro e9 w9 ⟨rfl, hw9⟩; subst hw9; try dsimp only
    go_wp2_with fail; refine ((Hoa).out _).mono ?_; rintro e9 w9 ⟨rfl, hw9⟩; subst hw9; try dsimp only
    go_wp2_with fail
    go_returns
    exact ⟨rfl, rfl⟩
  · skip
    replace hlab := fun w => less_is hlab w ha hb
    replace hlba := fun w => less_is hlba w hb ha
    replace hsab := fun w => same_is hsab w ha hb
    replace hsaa := fun w => same_is hsaa w ha ha
    replace hsbb := fun w => same_is hsbb w hb hb
    clear hr ha hb hc
    generalize ((bitsN n : Nat) : Int) = x at *
    generalize ((bitsN m : Nat) : Int) = y at *
    generalize (a : Int) = a at *
    generalize (b : Int) = b at *
    generalize (c : Int) = c at *
    have Hup := Lib.hid hup; clear hup
    have Hbn := Lib.hid hbn; clear hbn
    have Hbm := Lib.hid hbm; clear hbm
    have Hlxy := Lib.hid hlxy; clear hlxy
    have Hsxy := Lib.hid hsxy; clear hsxy
    have Hox := Lib.hid hox; clear hox
    have Hoa := Lib.hid hoa; clear hoa
    have Hlab := Lib.hid hlab; clear hlab
    have Hlba := Lib.hid hlba; clear hlba
    have Hsab := Lib.hid hsab; clear hsab
    have Hsaa := Lib.hid hsaa; clear hsaa
    have Hsbb := Lib.hid hsbb; clear hsbb
    go_enter Try.func13, Try.ntmps13
    go_wp2_with fail; refine ((Hup).out _).mono ?_; rintro e9 w9 ⟨rfl, hw9⟩; subst hw9; try dsimp only
    go_wp2_with fail; refine ((Hbn).out _).mono ?_; rintro e9 w9 ⟨rfl, hw9⟩; subst hw9; try dsimp only
    go_wp2_with fail; refine ((Hbm).out _).mono ?_; rintro e9 w9 ⟨rfl, hw9⟩; subst hw9; try dsimp only
    go_wp2_with fail; refine ((Hlxy).out _).mono ?_; rintro e9 w9 ⟨rfl, hw9⟩; subst hw9; try dsimp only
    go_wp2_with fail; refine ((Hsxy).out _).mono ?_; rintro e9 w9 ⟨rfl, hw9⟩; subst hw9; try dsimp only
    go_wp2_with fail; refine ((Hlab).out _).mono ?_; rintro e9 w9 ⟨rfl, hw9⟩; subst hw9; try dsimp only
    go_wp2_with fail; refine ((Hlba).out _).mono ?_; rintro e9 w9 ⟨rfl, hw9⟩; subst hw9; try dsimp only
    go_wp2_with fail; refine ((Hsab).out _).mono ?_; rintro e9 w9 ⟨rfl, hw9⟩; subst hw9; try dsimp only
    go_wp2_with fail; refine ((Hsaa).out _).mono ?_; rintro e9 w9 ⟨rfl, hw9⟩; subst hw9; try dsimp only
    go_wp2_with fail; refine ((Hsbb).out _).mono ?_; rintro e9 w9 ⟨rfl, hw9⟩; subst hw9; try dsimp only
    go_wp2_with fail; refine ((Hlab).out _).mono ?_; rintro e9 w9 ⟨rfl, hw9⟩; subst hw9; try dsimp only
    go_wp2_with fail; refine ((Hox).out _).mono ?_; rintro e9 w9 ⟨rfl, hw9⟩; subst hw9; try dsimp only
    go_wp2_with fail; refine ((Hoa).out _).mono ?_; rintro e9 w9 ⟨rfl, hw9⟩; subst hw9; try dsimp only
    go_wp2_with fail
    go_returns
    exact ⟨rfl, rfl⟩
set_option maxRecDepth 100000 in
set_option maxHeartbeats 8000000 in
theorem rateOrders_iny (n m : Int) (a b c : Nat) (w : World) (n0 : -9007199254740992 ≤ n) (n1 : n ≤ 9007199254740992) (m0 : -9007199254740992 ≤ m) (m1 : m ≤ 9007199254740992) (ha : a < 18446744073709551616) (hb : b < 18446744073709551616) (hc : c < 18446744073709551616) (g0 : 1 ≤ n) (g1 : n ≤ 1024) (hr : isRate a = true) :
    Calls Try.prog 13 #[.int .i64 n, .int .i64 m, .int .u64 a, .int .u64 b, .int .u64 c] w fun e w' => e = .returned (.bool true) ∧ w' = w := by
  have hup := up12_any
  have hbn := fun w => bits_is n w n0 n1
  have hbm := fun w => bits_is m w m0 m1
  have hlxy := fun w => less_is (ltF_bits n m n0 n1 m0 m1) w (bitsN_lt n n0 n1) (bitsN_lt m m0 m1)
  have hsxy := fun w => same_is (eqF_bits n m n0 n1 m0 m1) w (bitsN_lt n n0 n1) (bitsN_lt m m0 m1)
  have hox := fun w => of_yes (bitsN n) w (bitsN_lt n n0 n1) ((isRate_bits n n0 n1).2 ⟨g0, g1⟩)
  simp only [flo_bits n g0 g1] at hox
  have hfb := flo_bd a hr
  have hoa := fun w => of_yes a w ha hr
  have hbk := fun w => bits_is (flo a) w (by omega) (by omega)
  have hbk1 := fun w => bits_is ((flo a : Int) + 1) w (by omega) (by omega)
  have hlk := fun w => less_is (bits_flo a hr).1 w ha (bitsN_lt _ (by omega) (by omega))
  have hlk1 := fun w => less_is (bits_flo a hr).2 w ha (bitsN_lt _ (by omega) (by omega))
  have hway := way6_any a b c
  unfold way6 at hway
  rcases hway with ⟨hlab, hlba, hsab, hsaa, hsbb, hlbc⟩ | ⟨hlab, hlba, hsab, hsaa, hsbb, hlbc, hlac⟩ | ⟨hlab, hlba, hsab, hsaa, hsbb⟩ | ⟨hlab, hlba, hsab, hsaa, hsbb⟩ | ⟨hlab, hlba, hsab, hsaa⟩ | ⟨hlab, hlba, hsab, hsaa, hsbb⟩
  · skip
    replace hlab := fun w => less_is hlab w ha hb
    replace hlba := fun w => less_is hlba w hb ha
    replace hsab := fun w => same_is hsab w ha hb
    replace hsaa := fun w => same_is hsaa w ha ha
    replace hsbb := fun w => same_is hsbb w hb hb
    replace hlbc := fun w => less_is hlbc w hb hc
    clear hr ha hb hc
    obtain ⟨f0, f1⟩ := hfb
    replace f0 : (1 : Int) ≤ (flo a : Nat) := by omega
    replace f1 : ((flo a : Nat) : Int) ≤ 1024 := by omega
    generalize ((bitsN ((flo a : Nat) : Int) : Nat) : Int) = z at *
    generalize ((bitsN (((flo a : Nat) : Int) + 1) : Nat) : Int) = z1 at *
    generalize ((flo a : Nat) : Int) = k at *
    generalize ((bitsN n : Nat) : Int) = x at *
    generalize ((bitsN m : Nat) : Int) = y at *
    generalize (a : Int) = a at *
    generalize (b : Int) = b at *
    generalize (c : Int) = c at *
    have Hup := Lib.hid hup; clear hup
    have Hbn := Lib.hid hbn; clear hbn
    have Hbm := Lib.hid hbm; clear hbm
    have Hlxy := Lib.hid hlxy; clear hlxy
    have Hsxy := Lib.hid hsxy; clear hsxy
    have Hox := Lib.hid hox; clear hox
    have Hoa := Lib.hid hoa; clear hoa
    have Hbk := Lib.hid hbk; clear hbk
    have Hbk1 := Lib.hid hbk1; clear hbk1
    have Hlk := Lib.hid hlk; clear hlk
    have Hlk1 := Lib.hid hlk1; clear hlk1
    have Hlab := Lib.hid hlab; clear hlab
    have Hlba := Lib.hid hlba; clear hlba
    have Hsab := Lib.hid hsab; clear hsab
    have Hsaa := Lib.hid hsaa; clear hsaa
    have Hsbb := Lib.hid hsbb; clear hsbb
    have Hlbc := Lib.hid hlbc; clear hlbc
    go_enter Try.func13, Try.ntmps13
    go_wp2_with fail; refine ((Hup).out _).mono ?_; rintro e9 w9 ⟨rfl, hw9⟩; subst hw9; try dsimp only
    go_wp2_with fail; refine ((Hbn).out _).mono ?_; rintro e9 w9 ⟨rfl, hw9⟩; subst hw9; try dsimp only
    go_wp2_with fail; refine ((Hbm).out _).mono ?_; rintro e9 w9 ⟨rfl, hw9⟩; subst hw9; try dsimp only
    go_wp2_with fail; refine ((Hlxy).out _).mono ?_; rintro e9 w9 ⟨rfl, hw9⟩; subst hw9; try dsimp only
    go_wp2_with fail; refine ((Hsxy).out _).mono ?_; rintro e9 w9 ⟨rfl, hw9⟩; subst hw9; try dsimp only
    go_wp2_with fail; refine ((Hlab).out _).mono ?_; rintro e9 w9 ⟨rfl, hw9⟩; subst hw9; try dsimp only
    go_wp2_with fail; refine ((Hlba).out _).mono ?_; rintro e9 w9 ⟨rfl, hw9⟩; subst hw9; try dsimp only
    go_wp2_with fail; refine ((Hsab).out _).mono ?_; rintro e9 w9 ⟨rfl, hw9⟩; subst hw9; try dsimp only
    go_wp2_with fail; refine ((Hsaa).out _).mono ?_; rintro e9 w9 ⟨rfl, hw9⟩; subst hw9; try dsimp only
    go_wp2_with fail; refine ((Hsbb).out _).mono ?_; rintro e9 w9 ⟨rfl, hw9⟩; subst hw9; try dsimp only
    go_wp2_with fail; refine ((Hlab).out _).mono ?_; rintro e9 w9 ⟨rfl, hw9⟩; subst hw9; try dsimp only
    go_wp2_with fail; refine ((Hlbc).out _).mono ?_; rintro e9 w9 ⟨rfl, hw9⟩; subst hw9; try dsimp only
    go_wp2_with fail; refine ((Hox).out _).mono ?_; rintro e9 w9 ⟨rfl, hw9⟩; subst hw9; try dsimp only
    go_wp2_with fail; refine ((Hoa).out _).mono ?_; rintro e9 w9 ⟨rfl, hw9⟩; subst hw9; try dsimp only
    go_wp2_with fail; refine ((Hbk).out _).mono ?_; rintro e9 w9 ⟨rfl, hw9⟩; subst hw9; try dsimp only
    go_wp2_with fail; refine ((Hlk).out _).mono ?_; rintro e9 w9 ⟨rfl, hw9⟩; subst hw9; try dsimp only
    go_wp2_with fail; refine ((Hbk1).out _).mono ?_; rintro e9 w9 ⟨rfl, hw9⟩; subst hw9; try dsimp only
    go_wp2_with fail; refine ((Hlk1).out _).mono ?_; rintro e9 w9 ⟨rfl, hw9⟩; subst hw9; try dsimp only
    go_wp2_with fail
    go_returns
    exact ⟨rfl, rfl⟩
  · skip
    replace hlab := fun w => less_is hlab w ha hb
    replace hlba := fun w => less_is hlba w hb ha
    replace hsab := fun w => same_is hsab w ha hb
    replace hsaa := fun w => same_is hsaa w ha ha
    replace hsbb := fun w => same_is hsbb w hb hb
    replace hlbc := fun w => less_is hlbc w hb hc
    replace hlac := fun w => less_is hlac w ha hc
    clear hr ha hb hc
    obtain ⟨f0, f1⟩ := hfb
    replace f0 : (1 : Int) ≤ (flo a : Nat) := by omega
    replace f1 : ((flo a : Nat) : Int) ≤ 1024 := by omega
    generalize ((bitsN ((flo a : Nat) : Int) : Nat) : Int) = z at *
    generalize ((bitsN (((flo a : Nat) : Int) + 1) : Nat) : Int) = z1 at *
    generalize ((flo a : Nat) : Int) = k at *
    generalize ((bitsN n : Nat) : Int) = x at *
    generalize ((bitsN m : Nat) : Int) = y at *
    generalize (a : Int) = a at *
    generalize (b : Int) = b at *
    generalize (c : Int) = c at *
    have Hup := Lib.hid hup; clear hup
    have Hbn := Lib.hid hbn; clear hbn
    have Hbm := Lib.hid hbm; clear hbm
    have Hlxy := Lib.hid hlxy; clear hlxy
    have Hsxy := Lib.hid hsxy; clear hsxy
    have Hox := Lib.hid hox; clear hox
    have Hoa := Lib.hid hoa; clear hoa
    have Hbk := Lib.hid hbk; clear hbk
    have Hbk1 := Lib.hid hbk1; clear hbk1
    have Hlk := Lib.hid hlk; clear hlk
    have Hlk1 := Lib.hid hlk1; clear hlk1
    have Hlab := Lib.hid hlab; clear hlab
    have Hlba := Lib.hid hlba; clear hlba
    have Hsab := Lib.hid hsab; clear hsab
    have Hsaa := Lib.hid hsaa; clear hsaa
    have Hsbb := Lib.hid hsbb; clear hsbb
    have Hlbc := Lib.hid hlbc; clear hlbc
    have Hlac := Lib.hid hlac; clear hlac
    go_enter Try.func13, Try.ntmps13
    go_wp2_with fail; refine ((Hup).out _).mono ?_; rintro e9 w9 ⟨rfl, hw9⟩; subst hw9; try dsimp only
    go_wp2_with fail; refine ((Hbn).out _).mono ?_; rintro e9 w9 ⟨rfl, hw9⟩; subst hw9; try dsimp only
    go_wp2_with fail; refine ((Hbm).out _).mono ?_; rintro e9 w9 ⟨rfl, hw9⟩; subst hw9; try dsimp only
    go_wp2_with fail; refine ((Hlxy).out _).mono ?_; rintro e9 w9 ⟨rfl, hw9⟩; subst hw9; try dsimp only
    go_wp2_with fail; refine ((Hsxy).out _).mono ?_; rintro e9 w9 ⟨rfl, hw9⟩; subst hw9; try dsimp only
    go_wp2_with fail; refine ((Hlab).out _).mono ?_; rintro e9 w9 ⟨rfl, hw9⟩; subst hw9; try dsimp only
    go_wp2_with fail; refine ((Hlba).out _).mono ?_; rintro e9 w9 ⟨rfl, hw9⟩; subst hw9; try dsimp only
    go_wp2_with fail; refine ((Hsab).out _).mono ?_; rintro e9 w9 ⟨rfl, hw9⟩; subst hw9; try dsimp only
    go_wp2_with fail; refine ((Hsaa).out _).mono ?_; rintro e9 w9 ⟨rfl, hw9⟩; subst hw9; try dsimp only
    go_wp2_with fail; refine ((Hsbb).out _).mono ?_; rintro e9 w9 ⟨rfl, hw9⟩; subst hw9; try dsimp only
    go_wp2_with fail; refine ((Hlab).out _).mono ?_; rintro e9 w9 ⟨rfl, hw9⟩; subst hw9; try dsimp only
    go_wp2_with fail; refine ((Hlbc).out _).mono ?_; rintro e9 w9 ⟨rfl, hw9⟩; subst hw9; try dsimp only
    go_wp2_with fail; refine ((Hlac).out _).mono ?_; rintro e9 w9 ⟨rfl, hw9⟩; subst hw9; try dsimp only
    go_wp2_with fail; refine ((Hox).out _).mono ?_; rintro e9 w9 ⟨rfl, hw9⟩; subst hw9; try dsimp only
    go_wp2_with fail; refine ((Hoa).out _).mono ?_; rintro e9 w9 ⟨rfl, hw9⟩; subst hw9; try dsimp only
    go_wp2_with fail; refine ((Hbk).out _).mono ?_; rintro e9 w9 ⟨rfl, hw9⟩; subst hw9; try dsimp only
    go_wp2_with fail; refine ((Hlk).out _).mono ?_; rintro e9 w9 ⟨rfl, hw9⟩; subst hw9; try dsimp only
    go_wp2_with fail; refine ((Hbk1).out _).mono ?_; rintro e9 w9 ⟨rfl, hw9⟩; subst hw9; try dsimp only
    go_wp2_with fail; refine ((Hlk1).out _).mono ?_; rintro e9 w9 ⟨rfl, hw9⟩; subst hw9; try dsimp only
    go_wp2_with fail
    go_returns
    exact ⟨rfl, rfl⟩
  · skip
    replace hlab := fun w => less_is hlab w ha hb
    replace hlba := fun w => less_is hlba w hb ha
    replace hsab := fun w => same_is hsab w ha hb
    replace hsaa := fun w => same_is hsaa w ha ha
    replace hsbb := fun w => same_is hsbb w hb hb
    clear hr ha hb hc
    obtain ⟨f0, f1⟩ := hfb
    replace f0 : (1 : Int) ≤ (flo a : Nat) := by omega
    replace f1 : ((flo a : Nat) : Int) ≤ 1024 := by omega
    generalize ((bitsN ((flo a : Nat) : Int) : Nat) : Int) = z at *
    generalize ((bitsN (((flo a : Nat) : Int) + 1) : Nat) : Int) = z1 at *
    generalize ((flo a : Nat) : Int) = k at *
    generalize ((bitsN n : Nat) : Int) = x at *
    generalize ((bitsN m : Nat) : Int) = y at *
    generalize (a : Int) = a at *
    generalize (b : Int) = b at *
    generalize (c : Int) = c at *
    have Hup := Lib.hid hup; clear hup
    have Hbn := Lib.hid hbn; clear hbn
    have Hbm := Lib.hid hbm; clear hbm
    have Hlxy := Lib.hid hlxy; clear hlxy
    have Hsxy := Lib.hid hsxy; clear hsxy
    have Hox := Lib.hid hox; clear hox
    have Hoa := Lib.hid hoa; clear hoa
    have Hbk := Lib.hid hbk; clear hbk
    have Hbk1 := Lib.hid hbk1; clear hbk1
    have Hlk := Lib.hid hlk; clear hlk
    have Hlk1 := Lib.hid hlk1; clear hlk1
    have Hlab := Lib.hid hlab; clear hlab
    have Hlba := Lib.hid hlba; clear hlba
    have Hsab := Lib.hid hsab; clear hsab
    have Hsaa := Lib.hid hsaa; clear hsaa
    have Hsbb := Lib.hid hsbb; clear hsbb
    go_enter Try.func13, Try.ntmps13
    go_wp2_with fail; refine ((Hup).out _).mono ?_; rintro e9 w9 ⟨rfl, hw9⟩; subst hw9; try dsimp only
    go_wp2_with fail; refine ((Hbn).out _).mono ?_; rintro e9 w9 ⟨rfl, hw9⟩; subst hw9; try dsimp only
    go_wp2_with fail; refine ((Hbm).out _).mono ?_; rintro e9 w9 ⟨rfl, hw9⟩; subst hw9; try dsimp only
    go_wp2_with fail; refine ((Hlxy).out _).mono ?_; rintro e9 w9 ⟨rfl, hw9⟩; subst hw9; try dsimp only
    go_wp2_with fail; refine ((Hsxy).out _).mono ?_; rintro e9 w9 ⟨rfl, hw9⟩; subst hw9; try dsimp only
    go_wp2_with fail; refine ((Hlab).out _).mono ?_; rintro e9 w9 ⟨rfl, hw9⟩; subst hw9; try dsimp only
    go_wp2_with fail; refine ((Hlba).out _).mono ?_; rintro e9 w9 ⟨rfl, hw9⟩; subst hw9; try dsimp only
    go_wp2_with fail; refine ((Hsab).out _).mono ?_; rintro e9 w9 ⟨rfl, hw9⟩; subst hw9; try dsimp only
    go_wp2_with fail; refine ((Hsaa).out _).mono ?_; rintro e9 w9 ⟨rfl, hw9⟩; subst hw9; try dsimp only
    go_wp2_with fail; refine ((Hsbb).out _).mono ?_; rintro e9 w9 ⟨rfl, hw9⟩; subst hw9; try dsimp only
    go_wp2_with fail; refine ((Hlab).out _).mono ?_; rintro e9 w9 ⟨rfl, hw9⟩; subst hw9; try dsimp only
    go_wp2_with fail; refine ((Hox).out _).mono ?_; rintro e9 w9 ⟨rfl, hw9⟩; subst hw9; try dsimp only
    go_wp2_with fail; refine ((Hoa).out _).mono ?_; rintro e9 w9 ⟨rfl, hw9⟩; subst hw9; try dsimp only
    go_wp2_with fail; refine ((Hbk).out _).mono ?_; rintro e9 w9 ⟨rfl, hw9⟩; subst hw9; try dsimp only
    go_wp2_with fail; refine ((Hlk).out _).mono ?_; rintro e9 w9 ⟨rfl, hw9⟩; subst hw9; try dsimp only
    go_wp2_with fail; refine ((Hbk1).out _).mono ?_; rintro e9 w9 ⟨rfl, hw9⟩; subst hw9; try dsimp only
    go_wp2_with fail; refine ((Hlk1).out _).mono ?_; rintro e9 w9 ⟨rfl, hw9⟩; subst hw9; try dsimp only
    go_wp2_with fail
    go_returns
    exact ⟨rfl, rfl⟩
  · skip
    replace hlab := fun w => less_is hlab w ha hb
    replace hlba := fun w => less_is hlba w hb ha
    replace hsab := fun w => same_is hsab w ha hb
    replace hsaa := fun w => same_is hsaa w ha ha
    replace hsbb := fun w => same_is hsbb w hb hb
    clear hr ha hb hc
    obtain ⟨f0, f1⟩ := hfb
    replace f0 : (1 : Int) ≤ (flo a : Nat) := by omega
    replace f1 : ((flo a : Nat) : Int) ≤ 1024 := by omega
    generalize ((bitsN ((flo a : Nat) : Int) : Nat) : Int) = z at *
    generalize ((bitsN (((flo a : Nat) : Int) + 1) : Nat) : Int) = z1 at *
    generalize ((flo a : Nat) : Int) = k at *
    generalize ((bitsN n : Nat) : Int) = x at *
    generalize ((bitsN m : Nat) : Int) = y at *
    generalize (a : Int) = a at *
    generalize (b : Int) = b at *
    generalize (c : Int) = c at *
    have Hup := Lib.hid hup; clear hup
    have Hbn := Lib.hid hbn; clear hbn
    have Hbm := Lib.hid hbm; clear hbm
    have Hlxy := Lib.hid hlxy; clear hlxy
    have Hsxy := Lib.hid hsxy; clear hsxy
    have Hox := Lib.hid hox; clear hox
    have Hoa := Lib.hid hoa; clear hoa
    have Hbk := Lib.hid hbk; clear hbk
    have Hbk1 := Lib.hid hbk1; clear hbk1
    have Hlk := Lib.hid hlk; clear hlk
    have Hlk1 := Lib.hid hlk1; clear hlk1
    have Hlab := Lib.hid hlab; clear hlab
    have Hlba := Lib.hid hlba; clear hlba
    have Hsab := Lib.hid hsab; clear hsab
    have Hsaa := Lib.hid hsaa; clear hsaa
    have Hsbb := Lib.hid hsbb; clear hsbb
    go_enter Try.func13, Try.ntmps13
    go_wp2_with fail; refine ((Hup).out _).mono ?_; rintro e9 w9 ⟨rfl, hw9⟩; subst hw9; try dsimp only
    go_wp2_with fail; refine ((Hbn).out _).mono ?_; rintro e9 w9 ⟨rfl, hw9⟩; subst hw9; try dsimp only
    go_wp2_with fail; refine ((Hbm).out _).mono ?_; rintro e9 w9 ⟨rfl, hw9⟩; subst hw9; try dsimp only
    go_wp2_with fail; refine ((Hlxy).out _).mono ?_; rintro e9 w9 ⟨rfl, hw9⟩; subst hw9; try dsimp only
    go_wp2_with fail; refine ((Hsxy).out _).mono ?_; rintro e9 w9 ⟨rfl, hw9⟩; subst hw9; try dsimp only
    go_wp2_with fail; refine ((Hlab).out _).mono ?_; rintro e9 w9 ⟨rfl, hw9⟩; subst hw9; try dsimp only
    go_wp2_with fail; refine ((Hlba).out _).mono ?_; rintro e9 w9 ⟨rfl, hw9⟩; subst hw9; try dsimp only
    go_wp2_with fail; refine ((Hsab).out _).mono ?_; rintro e9 w9 ⟨rfl, hw9⟩; subst hw9; try dsimp only
    go_wp2_with fail; refine ((Hsaa).out _).mono ?_; rintro e9 w9 ⟨rfl, hw9⟩; subst hw9; try dsimp only
    go_wp2_with fail; refine ((Hsbb).out _).mono ?_; rintro e9 w9 ⟨rfl, hw9⟩; subst hw9; try dsimp only
    go_wp2_with fail; refine ((Hlab).out _).mono ?_; rintro e9 w9 ⟨rfl, hw9⟩; subst hw9; try dsimp only
    go_wp2_with fail; refine ((Hox).out _).mono ?_; rintro e9 w9 ⟨rfl, hw9⟩; subst hw9; try dsimp only
    go_wp2_with fail; refine ((Hoa).out _).mono ?_; rintro e9 w9 ⟨rfl, hw9⟩; subst hw9; try dsimp only
    go_wp2_with fail; refine ((Hbk).out _).mono ?_; rintro e9 w9 ⟨rfl, hw9⟩; subst hw9; try dsimp only
    go_wp2_with fail; refine ((Hlk).out _).mono ?_; rintro e9 w9 ⟨rfl, hw9⟩; subst hw9; try dsimp only
    go_wp2_with fail; refine ((Hbk1).out _).mono ?_; rintro e9 w9 ⟨rfl, hw9⟩; subst hw9; try dsimp only
    go_wp2_with fail; refine ((Hlk1).out _).mono ?_; rintro e9 w9 ⟨rfl, hw9⟩; subst hw9; try dsimp only
    go_wp2_with fail
    go_returns
    exact ⟨rfl, rfl⟩
  · skip
    replace hlab := fun w => less_is hlab w ha hb
    replace hlba := fun w => less_is hlba w hb ha
    replace hsab := fun w => same_is hsab w ha hb
    replace hsaa := fun w => same_is hsaa w ha ha
    clear hr ha hb hc
    obtain ⟨f0, f1⟩ := hfb
    replace f0 : (1 : Int) ≤ (flo a : Nat) := by omega
    replace f1 : ((flo a : Nat) : Int) ≤ 1024 := by omega
    generalize ((bitsN ((flo a : Nat) : Int) : Nat) : Int) = z at *
    generalize ((bitsN (((flo a : Nat) : Int) + 1) : Nat) : Int) = z1 at *
    generalize ((flo a : Nat) : Int) = k at *
    generalize ((bitsN n : Nat) : Int) = x at *
    generalize ((bitsN m : Nat) : Int) = y at *
    generalize (a : Int) = a at *
    generalize (b : Int) = b at *
    generalize (c : Int) = c at *
    have Hup := Lib.hid hup; clear hup
    have Hbn := Lib.hid hbn; clear hbn
    have Hbm := Lib.hid hbm; clear hbm
    have Hlxy := Lib.hid hlxy; clear hlxy
    have Hsxy := Lib.hid hsxy; clear hsxy
    have Hox := Lib.hid hox; clear hox
    have Hoa := Lib.hid hoa; clear hoa
    have Hbk := Lib.hid hbk; clear hbk
    have Hbk1 := Lib.hid hbk1; clear hbk1
    have Hlk := Lib.hid hlk; clear hlk
    have Hlk1 := Lib.hid hlk1; clear hlk1
    have Hlab := Lib.hid hlab; clear hlab
    have Hlba := Lib.hid hlba; clear hlba
    have Hsab := Lib.hid hsab; clear hsab
    have Hsaa := Lib.hid hsaa; clear hsaa
    go_enter Try.func13, Try.ntmps13
    go_wp2_with fail; refine ((Hup).out _).mono ?_; rintro e9 w9 ⟨rfl, hw9⟩; subst hw9; try dsimp only
    go_wp2_with fail; refine ((Hbn).out _).mono ?_; rintro e9 w9 ⟨rfl, hw9⟩; subst hw9; try dsimp only
    go_wp2_with fail; refine ((Hbm).out _).mono ?_; rintro e9 w9 ⟨rfl, hw9⟩; subst hw9; try dsimp only
    go_wp2_with fail; refine ((Hlxy).out _).mono ?_; rintro e9 w9 ⟨rfl, hw9⟩; subst hw9; try dsimp only
    go_wp2_with fail; refine ((Hsxy).out _).mono ?_; rintro e9 w9 ⟨rfl, hw9⟩; subst hw9; try dsimp only
    go_wp2_with fail; refine ((Hlab).out _).mono ?_; rintro e9 w9 ⟨rfl, hw9⟩; subst hw9; try dsimp only
    go_wp2_with fail; refine ((Hlba).out _).mono ?_; rintro e9 w9 ⟨rfl, hw9⟩; subst hw9; try dsimp only
    go_wp2_with fail; refine ((Hsab).out _).mono ?_; rintro e9 w9 ⟨rfl, hw9⟩; subst hw9; try dsimp only
    go_wp2_with fail; refine ((Hsaa).out _).mono ?_; rintro e9 w9 ⟨rfl, hw9⟩; subst hw9; try dsimp only
    go_wp2_with fail; refine ((Hlab).out _).mono ?_; rintro e9 w9 ⟨rfl, hw9⟩; subst hw9; try dsimp only
    go_wp2_with fail; refine ((Hox).out _).mono ?_; rintro e9 w9 ⟨rfl, hw9⟩; subst hw9; try dsimp only
    go_wp2_with fail; refine ((Hoa).out _).mono ?_; rintro e9 w9 ⟨rfl, hw9⟩; subst hw9; try dsimp only
    go_wp2_with fail; refine ((Hbk).out _).mono ?_; rintro e9 w9 ⟨rfl, hw9⟩; subst hw9; try dsimp only
    go_wp2_with fail; refine ((Hlk).out _).mono ?_; rintro e9 w9 ⟨rfl, hw9⟩; subst hw9; try dsimp only
    go_wp2_with fail; refine ((Hbk1).out _).mono ?_; rintro e9 w9 ⟨rfl, hw9⟩; subst hw9; try dsimp only
    go_wp2_with fail; refine ((Hlk1).out _).mono ?_; rintro e9 w9 ⟨rfl, hw9⟩; subst hw9; try dsimp only
    go_wp2_with fail
    go_returns
    exact ⟨rfl, rfl⟩
  · skip
    replace hlab := fun w => less_is hlab w ha hb
    replace hlba := fun w => less_is hlba w hb ha
    replace hsab := fun w => same_is hsab w ha hb
    replace hsaa := fun w => same_is hsaa w ha ha
    replace hsbb := fun w => same_is hsbb w hb hb
    clear hr ha hb hc
    obtain ⟨f0, f1⟩ := hfb
    replace f0 : (1 : Int) ≤ (flo a : Nat) := by omega
    replace f1 : ((flo a : Nat) : Int) ≤ 1024 := by omega
    generalize ((bitsN ((flo a : Nat) : Int) : Nat) : Int) = z at *
    generalize ((bitsN (((flo a : Nat) : Int) + 1) : Nat) : Int) = z1 at *
    generalize ((flo a : Nat) : Int) = k at *
    generalize ((bitsN n : Nat) : Int) = x at *
    generalize ((bitsN m : Nat) : Int) = y at *
    generalize (a : Int) = a at *
    generalize (b : Int) = b at *
    generalize (c : Int) = c at *
    have Hup := Lib.hid hup; clear hup
    have Hbn := Lib.hid hbn; clear hbn
    have Hbm := Lib.hid hbm; clear hbm
    have Hlxy := Lib.hid hlxy; clear hlxy
    have Hsxy := Lib.hid hsxy; clear hsxy
    have Hox := Lib.hid hox; clear hox
    have Hoa := Lib.hid hoa; clear hoa
    have Hbk := Lib.hid hbk; clear hbk
    have Hbk1 := Lib.hid hbk1; clear hbk1
    have Hlk := Lib.hid hlk; clear hlk
    have Hlk1 := Lib.hid hlk1; clear hlk1
    have Hlab := Lib.hid hlab; clear hlab
    have Hlba := Lib.hid hlba; clear hlba
    have Hsab := Lib.hid hsab; clear hsab
    have Hsaa := Lib.hid hsaa; clear hsaa
    have Hsbb := Lib.hid hsbb; clear hsbb
    go_enter Try.func13, Try.ntmps13
    go_wp2_with fail; refine ((Hup).out _).mono ?_; rintro e9 w9 ⟨rfl, hw9⟩; subst hw9; try dsimp only
    go_wp2_with fail; refine ((Hbn).out _).mono ?_; rintro e9 w9 ⟨rfl, hw9⟩; subst hw9; try dsimp only
    go_wp2_with fail; refine ((Hbm).out _).mono ?_; rintro e9 w9 ⟨rfl, hw9⟩; subst hw9; try dsimp only
    go_wp2_with fail; refine ((Hlxy).out _).mono ?_; rintro e9 w9 ⟨rfl, hw9⟩; subst hw9; try dsimp only
    go_wp2_with fail; refine ((Hsxy).out _).mono ?_; rintro e9 w9 ⟨rfl, hw9⟩; subst hw9; try dsimp only
    go_wp2_with fail; refine ((Hlab).out _).mono ?_; rintro e9 w9 ⟨rfl, hw9⟩; subst hw9; try dsimp only
    go_wp2_with fail; refine ((Hlba).out _).mono ?_; rintro e9 w9 ⟨rfl, hw9⟩; subst hw9; try dsimp only
    go_wp2_with fail; refine ((Hsab).out _).mono ?_; rintro e9 w9 ⟨rfl, hw9⟩; subst hw9; try dsimp only
    go_wp2_with fail; refine ((Hsaa).out _).mono ?_; rintro e9 w9 ⟨rfl, hw9⟩; subst hw9; try dsimp only
    go_wp2_with fail; refine ((Hsbb).out _).mono ?_; rintro e9 w9 ⟨rfl, hw9⟩; subst hw9; try dsimp only
    go_wp2_with fail; refine ((Hlab).out _).mono ?_; rintro e9 w9 ⟨rfl, hw9⟩; subst hw9; try dsimp only
    go_wp2_with fail; refine ((Hox).out _).mono ?_; rintro e9 w9 ⟨rfl, hw9⟩; subst hw9; try dsimp only
    go_wp2_with fail; refine ((Hoa).out _).mono ?_; rintro e9 w9 ⟨rfl, hw9⟩; subst hw9; try dsimp only
    go_wp2_with fail; refine ((Hbk).out _).mono ?_; rintro e9 w9 ⟨rfl, hw9⟩; subst hw9; try dsimp only
    go_wp2_with fail; refine ((Hlk).out _).mono ?_; rintro e9 w9 ⟨rfl, hw9⟩; subst hw9; try dsimp only
    go_wp2_with fail; refine ((Hbk1).out _).mono ?_; rintro e9 w9 ⟨rfl, hw9⟩; subst hw9; try dsimp only
    go_wp2_with fail; refine ((Hlk1).out _).mono ?_; rintro e9 w9 ⟨rfl, hw9⟩; subst hw9; try dsimp only
    go_wp2_with fail
    go_returns
    exact ⟨rfl, rfl⟩
set_option maxRecDepth 100000 in
set_option maxHeartbeats 8000000 in
theorem rateOrders_inn (n m : Int) (a b c : Nat) (w : World) (n0 : -9007199254740992 ≤ n) (n1 : n ≤ 9007199254740992) (m0 : -9007199254740992 ≤ m) (m1 : m ≤ 9007199254740992) (ha : a < 18446744073709551616) (hb : b < 18446744073709551616) (hc : c < 18446744073709551616) (g0 : 1 ≤ n) (g1 : n ≤ 1024) (hr : isRate a = false) :
    Calls Try.prog 13 #[.int .i64 n, .int .i64 m, .int .u64 a, .int .u64 b, .int .u64 c] w fun e w' => e = .returned (.bool true) ∧ w' = w := by
  have hup := up12_any
  have hbn := fun w => bits_is n w n0 n1
  have hbm := fun w => bits_is m w m0 m1
  have hlxy := fun w => less_is (ltF_bits n m n0 n1 m0 m1) w (bitsN_lt n n0 n1) (bitsN_lt m m0 m1)
  have hsxy := fun w => same_is (eqF_bits n m n0 n1 m0 m1) w (bitsN_lt n n0 n1) (bitsN_lt m m0 m1)
  have hox := fun w => of_yes (bitsN n) w (bitsN_lt n n0 n1) ((isRate_bits n n0 n1).2 ⟨g0, g1⟩)
  simp only [flo_bits n g0 g1] at hox
  have hoa := fun w => of_no a w ha hr
  have hway := way6_any a b c
  unfold way6 at hway
  rcases hway with ⟨hlab, hlba, hsab, hsaa, hsbb, hlbc⟩ | ⟨hlab, hlba, hsab, hsaa, hsbb, hlbc, hlac⟩ | ⟨hlab, hlba, hsab, hsaa, hsbb⟩ | ⟨hlab, hlba, hsab, hsaa, hsbb⟩ | ⟨hlab, hlba, hsab, hsaa⟩ | ⟨hlab, hlba, hsab, hsaa, hsbb⟩
  · skip
    replace hlab := fun w => less_is hlab w ha hb
    replace hlba := fun w => less_is hlba w hb ha
    replace hsab := fun w => same_is hsab w ha hb
    replace hsaa := fun w => same_is hsaa w ha ha
    replace hsbb := fun w => same_is hsbb w hb hb
    replace hlbc := fun w => less_is hlbc w hb hc
    clear hr ha hb hc
    generalize ((bitsN n : Nat) : Int) = x at *
    generalize ((bitsN m : Nat) : Int) = y at *
    generalize (a : Int) = a at *
    generalize (b : Int) = b at *
    generalize (c : Int) = c at *
    have Hup := Lib.hid hup; clear hup
    have Hbn := Lib.hid hbn; clear hbn
    have Hbm := Lib.hid hbm; clear hbm
    have Hlxy := Lib.hid hlxy; clear hlxy
    have Hsxy := Lib.hid hsxy; clear hsxy
    have Hox := Lib.hid hox; clear hox
    have Hoa := Lib.hid hoa; clear hoa
    have Hlab := Lib.hid hlab; clear hlab
    have Hlba := Lib.hid hlba; clear hlba
    have Hsab := Lib.hid hsab; clear hsab
    have Hsaa := Lib.hid hsaa; clear hsaa
    have Hsbb := Lib.hid hsbb; clear hsbb
    have Hlbc := Lib.hid hlbc; clear hlbc
    go_enter Try.func13, Try.ntmps13
    go_wp2_with fail; refine ((Hup).out _).mono ?_; rintro e9 w9 ⟨rfl, hw9⟩; subst hw9; try dsimp only
    go_wp2_with fail; refine ((Hbn).out _).mono ?_; rintro e9 w9 ⟨rfl, hw9⟩; subst hw9; try dsimp only
    go_wp2_with fail; refine ((Hbm).out _).mono ?_; rintro e9 w9 ⟨rfl, hw9⟩; subst hw9; try dsimp only
    go_wp2_with fail; refine ((Hlxy).out _).mono ?_; rintro e9 w9 ⟨rfl, hw9⟩; subst hw9; try dsimp only
    go_wp2_with fail; refine ((Hsxy).out _).mono ?_; rintro e9 w9 ⟨rfl, hw9⟩; subst hw9; try dsimp only
    go_wp2_with fail; refine ((Hlab).out _).mono ?_; rintro e9 w9 ⟨rfl, hw9⟩; subst hw9; try dsimp only
    go_wp2_with fail; refine ((Hlba).out _).mono ?_; rintro e9 w9 ⟨rfl, hw9⟩; subst hw9; try dsimp only
    go_wp2_with fail; refine ((Hsab).out _).mono ?_; rintro e9 w9 ⟨rfl, hw9⟩; subst hw9; try dsimp only
    go_wp2_with fail; refine ((Hsaa).out _).mono ?_; rintro e9 w9 ⟨rfl, hw9⟩; subst hw9; try dsimp only
    go_wp2_with fail; refine ((Hsbb).out _).mono ?_; rintro e9 w9 ⟨rfl, hw9⟩; subst hw9; try dsimp only
    go_wp2_with fail; refine ((Hlab).out _).mono ?_; rintro e9 w9 ⟨rfl, hw9⟩; subst hw9; try dsimp only
    go_wp2_with fail; refine ((Hlbc).out _).mono ?_; rintro e9 w9 ⟨rfl, hw9⟩; subst hw9; try dsimp only
    go_wp2_with fail; refine ((Hox).out _).mono ?_; rintro e9 w9 ⟨rfl, hw9⟩; subst hw9; try dsimp only
    go_wp2_with fail; refine ((Hoa).out _).mono ?_; rintro e9 w9 ⟨rfl, hw9⟩; subst hw9; try dsimp only
    go_wp2_with fail
    go_returns
    exact ⟨rfl, rfl⟩
  · skip
    replace hlab := fun w => less_is hlab w ha hb
    replace hlba := fun w => less_is hlba w hb ha
    replace hsab := fun w => same_is hsab w ha hb
    replace hsaa := fun w => same_is hsaa w ha ha
    replace hsbb := fun w => same_is hsbb w hb hb
    replace hlbc := fun w => less_is hlbc w hb hc
    replace hlac := fun w => less_is hlac w ha hc
    clear hr ha hb hc
    generalize ((bitsN n : Nat) : Int) = x at *
    generalize ((bitsN m : Nat) : Int) = y at *
    generalize (a : Int) = a at *
    generalize (b : Int) = b at *
    generalize (c : Int) = c at *
    have Hup := Lib.hid hup; clear hup
    have Hbn := Lib.hid hbn; clear hbn
    have Hbm := Lib.hid hbm; clear hbm
    have Hlxy := Lib.hid hlxy; clear hlxy
    have Hsxy := Lib.hid hsxy; clear hsxy
    have Hox := Lib.hid hox; clear hox
    have Hoa := Lib.hid hoa; clear hoa
    have Hlab := Lib.hid hlab; clear hlab
    have Hlba := Lib.hid hlba; clear hlba
    have Hsab := Lib.hid hsab; clear hsab
    have Hsaa := Lib.hid hsaa; clear hsaa
    have Hsbb := Lib.hid hsbb; clear hsbb
    have Hlbc := Lib.hid hlbc; clear hlbc
    have Hlac := Lib.hid hlac; clear hlac
    go_enter Try.func13, Try.ntmps13
    go_wp2_with fail; refine ((Hup).out _).mono ?_; rintro e9 w9 ⟨rfl, hw9⟩; subst hw9; try dsimp only
    go_wp2_with fail; refine ((Hbn).out _).mono ?_; rintro e9 w9 ⟨rfl, hw9⟩; subst hw9; try dsimp only
    go_wp2_with fail; refine ((Hbm).out _).mono ?_; rintro e9 w9 ⟨rfl, hw9⟩; subst hw9; try dsimp only
    go_wp2_with fail; refine ((Hlxy).out _).mono ?_; rintro e9 w9 ⟨rfl, hw9⟩; subst hw9; try dsimp only
    go_wp2_with fail; refine ((Hsxy).out _).mono ?_; rintro e9 w9 ⟨rfl, hw9⟩; subst hw9; try dsimp only
    go_wp2_with fail; refine ((Hlab).out _).mono ?_; rintro e9 w9 ⟨rfl, hw9⟩; subst hw9; try dsimp only
    go_wp2_with fail; refine ((Hlba).out _).mono ?_; rintro e9 w9 ⟨rfl, hw9⟩; subst hw9; try dsimp only
    go_wp2_with fail; refine ((Hsab).out _).mono ?_; rintro e9 w9 ⟨rfl, hw9⟩; subst hw9; try dsimp only
    go_wp2_with fail; refine ((Hsaa).out _).mono ?_; rintro e9 w9 ⟨rfl, hw9⟩; subst hw9; try dsimp only
    go_wp2_with fail; refine ((Hsbb).out _).mono ?_; rintro e9 w9 ⟨rfl, hw9⟩; subst hw9; try dsimp only
    go_wp2_with fail; refine ((Hlab).out _).mono ?_; rintro e9 w9 ⟨rfl, hw9⟩; subst hw9; try dsimp only
    go_wp2_with fail; refine ((Hlbc).out _).mono ?_; rintro e9 w9 ⟨rfl, hw9⟩; subst hw9; try dsimp only
    go_wp2_with fail; refine ((Hlac).out _).mono ?_; rintro e9 w9 ⟨rfl, hw9⟩; subst hw9; try dsimp only
    go_wp2_with fail; refine ((Hox).out _).mono ?_; rintro e9 w9 ⟨rfl, hw9⟩; subst hw9; try dsimp only
    go_wp2_with fail; refine ((Hoa).out _).mono ?_; rintro e9 w9 ⟨rfl, hw9⟩; subst hw9; try dsimp only
    go_wp2_with fail
    go_returns
    exact ⟨rfl, rfl⟩
  · skip
    replace hlab := fun w => less_is hlab w ha hb
    replace hlba := fun w => less_is hlba w hb ha
    replace hsab := fun w => same_is hsab w ha hb
    replace hsaa := fun w => same_is hsaa w ha ha
    replace hsbb := fun w => same_is hsbb w hb hb
    clear hr ha hb hc
    generalize ((bitsN n : Nat) : Int) = x at *
    generalize ((bitsN m : Nat) : Int) = y at *
    generalize (a : Int) = a at *
    generalize (b : Int) = b at *
    generalize (c : Int) = c at *
    have Hup := Lib.hid hup; clear hup
    have Hbn := Lib.hid hbn; clear hbn
    have Hbm := Lib.hid hbm; clear hbm
    have Hlxy := Lib.hid hlxy; clear hlxy
    have Hsxy := Lib.hid hsxy; clear hsxy
    have Hox := Lib.hid hox; clear hox
    have Hoa := Lib.hid hoa; clear hoa
    have Hlab := Lib.hid hlab; clear hlab
    have Hlba := Lib.hid hlba; clear hlba
    have Hsab := Lib.hid hsab; clear hsab
    have Hsaa := Lib.hid hsaa; clear hsaa
    have Hsbb := Lib.hid hsbb; clear hsbb
    go_enter Try.func13, Try.ntmps13
    go_wp2_with fail; refine ((Hup).out _).mono ?_; rintro e9 w9 ⟨rfl, hw9⟩; subst hw9; try dsimp only
    go_wp2_with fail; refine ((Hbn).out _).mono ?_; rintro e9 w9 ⟨rfl, hw9⟩; subst hw9; try dsimp only
    go_wp2_with fail; refine ((Hbm).out _).mono ?_; rintro e9 w9 ⟨rfl, hw9⟩; subst hw9; try dsimp only
    go_wp2_with fail; refine ((Hlxy).out _).mono ?_; rintro e9 w9 ⟨rfl, hw9⟩; subst hw9; try dsimp only
    go_wp2_with fail; refine ((Hsxy).out _).mono ?_; rintro e9 w9 ⟨rfl, hw9⟩; subst hw9; try dsimp only
    go_wp2_with fail; refine ((Hlab).out _).mono ?_; rintro e9 w9 ⟨rfl, hw9⟩; subst hw9; try dsimp only
    go_wp2_with fail; refine ((Hlba).out _).mono ?_; rintro e9 w9 ⟨rfl, hw9⟩; subst hw9; try dsimp only
    go_wp2_with fail; refine ((Hsab).out _).mono ?_; rintro e9 w9 ⟨rfl, hw9⟩; subst hw9; try dsimp only
    go_wp2_with fail; refine ((Hsaa).out _).mono ?_; rintro e9 w9 ⟨rfl, hw9⟩; subst hw9; try dsimp only
    go_wp2_with fail; refine ((Hsbb).out _).mono ?_; rintro e9 w9 ⟨rfl, hw9⟩; subst hw9; try dsimp only
    go_wp2_with fail; refine ((Hlab).out _).mono ?_; rintro e9 w9 ⟨rfl, hw9⟩; subst hw9; try dsimp only
    go_wp2_with fail; refine ((Hox).out _).mono ?_; rintro e9 w9 ⟨rfl, hw9⟩; subst hw9; try dsimp only
    go_wp2_with fail; refine ((Hoa).out _).mono ?_; rintro e9 w9 ⟨rfl, hw9⟩; subst hw9; try dsimp only
    go_wp2_with fail
    go_returns
    exact ⟨rfl, rfl⟩
  · skip
    replace hlab := fun w => less_is hlab w ha hb
    replace hlba := fun w => less_is hlba w hb ha
    replace hsab := fun w => same_is hsab w ha hb
    replace hsaa := fun w => same_is hsaa w ha ha
    replace hsbb := fun w => same_is hsbb w hb hb
    clear hr ha hb hc
    generalize ((bitsN n : Nat) : Int) = x at *
    generalize ((bitsN m : Nat) : Int) = y at *
    generalize (a : Int) = a at *
    generalize (b : Int) = b at *
    generalize (c : Int) = c at *
    have Hup := Lib.hid hup; clear hup
    have Hbn := Lib.hid hbn; clear hbn
    have Hbm := Lib.hid hbm; clear hbm
    have Hlxy := Lib.hid hlxy; clear hlxy
    have Hsxy := Lib.hid hsxy; clear hsxy
    have Hox := Lib.hid hox; clear hox
    have Hoa := Lib.hid hoa; clear hoa
    have Hlab := Lib.hid hlab; clear hlab
    have Hlba := Lib.hid hlba; clear hlba
    have Hsab := Lib.hid hsab; clear hsab
    have Hsaa := Lib.hid hsaa; clear hsaa
    have Hsbb := Lib.hid hsbb; clear hsbb
    go_enter Try.func13, Try.ntmps13
    go_wp2_with fail; refine ((Hup).out _).mono ?_; rintro e9 w9 ⟨rfl, hw9⟩; subst hw9; try dsimp only
    go_wp2_with fail; refine ((Hbn).out _).mono ?_; rintro e9 w9 ⟨rfl, hw9⟩; subst hw9; try dsimp only
    go_wp2_with fail; refine ((Hbm).out _).mono ?_; rintro e9 w9 ⟨rfl, hw9⟩; subst hw9; try dsimp only
    go_wp2_with fail; refine ((Hlxy).out _).mono ?_; rintro e9 w9 ⟨rfl, hw9⟩; subst hw9; try dsimp only
    go_wp2_with fail; refine ((Hsxy).out _).mono ?_; rintro e9 w9 ⟨rfl, hw9⟩; subst hw9; try dsimp only
    go_wp2_with fail; refine ((Hlab).out _).mono ?_; rintro e9 w9 ⟨rfl, hw9⟩; subst hw9; try dsimp only
    go_wp2_with fail; refine ((Hlba).out _).mono ?_; rintro e9 w9 ⟨rfl, hw9⟩; subst hw9; try dsimp only
    go_wp2_with fail; refine ((Hsab).out _).mono ?_; rintro e9 w9 ⟨rfl, hw9⟩; subst hw9; try dsimp only
    go_wp2_with fail; refine ((Hsaa).out _).mono ?_; rintro e9 w9 ⟨rfl, hw9⟩; subst hw9; try dsimp only
    go_wp2_with fail; refine ((Hsbb).out _).mono ?_; rintro e9 w9 ⟨rfl, hw9⟩; subst hw9; try dsimp only
    go_wp2_with fail; refine ((Hlab).out _).mono ?_; rintro e9 w9 ⟨rfl, hw9⟩; subst hw9; try dsimp only
    go_wp2_with fail; refine ((Hox).out _).mono ?_; rintro e9 w9 ⟨rfl, hw9⟩; subst hw9; try dsimp only
    go_wp2_with fail; refine ((Hoa).out _).mono ?_; rintro e9 w9 ⟨rfl, hw9⟩; subst hw9; try dsimp only
    go_wp2_with fail
    go_returns
    exact ⟨rfl, rfl⟩
  · skip
    replace hlab := fun w => less_is hlab w ha hb
    replace hlba := fun w => less_is hlba w hb ha
    replace hsab := fun w => same_is hsab w ha hb
    replace hsaa := fun w => same_is hsaa w ha ha
    clear hr ha hb hc
    generalize ((bitsN n : Nat) : Int) = x at *
    generalize ((bitsN m : Nat) : Int) = y at *
    generalize (a : Int) = a at *
    generalize (b : Int) = b at *
    generalize (c : Int) = c at *
    have Hup := Lib.hid hup; clear hup
    have Hbn := Lib.hid hbn; clear hbn
    have Hbm := Lib.hid hbm; clear hbm
    have Hlxy := Lib.hid hlxy; clear hlxy
    have Hsxy := Lib.hid hsxy; clear hsxy
    have Hox := Lib.hid hox; clear hox
    have Hoa := Lib.hid hoa; clear hoa
    have Hlab := Lib.hid hlab; clear hlab
    have Hlba := Lib.hid hlba; clear hlba
    have Hsab := Lib.hid hsab; clear hsab
    have Hsaa := Lib.hid hsaa; clear hsaa
    go_enter Try.func13, Try.ntmps13
    go_wp2_with fail; refine ((Hup).out _).mono ?_; rintro e9 w9 ⟨rfl, hw9⟩; subst hw9; try dsimp only
    go_wp2_with fail; refine ((Hbn).out _).mono ?_; rintro e9 w9 ⟨rfl, hw9⟩; subst hw9; try dsimp only
    go_wp2_with fail; refine ((Hbm).out _).mono ?_; rintro e9 w9 ⟨rfl, hw9⟩; subst hw9; try dsimp only
    go_wp2_with fail; refine ((Hlxy).out _).mono ?_; rintro e9 w9 ⟨rfl, hw9⟩; subst hw9; try dsimp only
    go_wp2_with fail; refine ((Hsxy).out _).mono ?_; rintro e9 w9 ⟨rfl, hw9⟩; subst hw9; try dsimp only
    go_wp2_with fail; refine ((Hlab).out _).mono ?_; rintro e9 w9 ⟨rfl, hw9⟩; subst hw9; try dsimp only
    go_wp2_with fail; refine ((Hlba).out _).mono ?_; rintro e9 w9 ⟨rfl, hw9⟩; subst hw9; try dsimp only
    go_wp2_with fail; refine ((Hsab).out _).mono ?_; rintro e9 w9 ⟨rfl, hw9⟩; subst hw9; try dsimp only
    go_wp2_with fail; refine ((Hsaa).out _).mono ?_; rintro e9 w9 ⟨rfl, hw9⟩; subst hw9; try dsimp only
    go_wp2_with fail; refine ((Hlab).out _).mono ?_; rintro e9 w9 ⟨rfl, hw9⟩; subst hw9; try dsimp only
    go_wp2_with fail; refine ((Hox).out _).mono ?_; rintro e9 w9 ⟨rfl, hw9⟩; subst hw9; try dsimp only
    go_wp2_with fail; refine ((Hoa).out _).mono ?_; rintro e9 w9 ⟨rfl, hw9⟩; subst hw9; try dsimp only
    go_wp2_with fail
    go_returns
    exact ⟨rfl, rfl⟩
  · skip
    replace hlab := fun w => less_is hlab w ha hb
    replace hlba := fun w => less_is hlba w hb ha
    replace hsab := fun w => same_is hsab w ha hb
    replace hsaa := fun w => same_is hsaa w ha ha
    replace hsbb := fun w => same_is hsbb w hb hb
    clear hr ha hb hc
    generalize ((bitsN n : Nat) : Int) = x at *
    generalize ((bitsN m : Nat) : Int) = y at *
    generalize (a : Int) = a at *
    generalize (b : Int) = b at *
    generalize (c : Int) = c at *
    have Hup := Lib.hid hup; clear hup
    have Hbn := Lib.hid hbn; clear hbn
    have Hbm := Lib.hid hbm; clear hbm
    have Hlxy := Lib.hid hlxy; clear hlxy
    have Hsxy := Lib.hid hsxy; clear hsxy
    have Hox := Lib.hid hox; clear hox
    have Hoa := Lib.hid hoa; clear hoa
    have Hlab := Lib.hid hlab; clear hlab
    have Hlba := Lib.hid hlba; clear hlba
    have Hsab := Lib.hid hsab; clear hsab
    have Hsaa := Lib.hid hsaa; clear hsaa
    have Hsbb := Lib.hid hsbb; clear hsbb
    go_enter Try.func13, Try.ntmps13
    go_wp2_with fail; refine ((Hup).out _).mono ?_; rintro e9 w9 ⟨rfl, hw9⟩; subst hw9; try dsimp only
    go_wp2_with fail; refine ((Hbn).out _).mono ?_; rintro e9 w9 ⟨rfl, hw9⟩; subst hw9; try dsimp only
    go_wp2_with fail; refine ((Hbm).out _).mono ?_; rintro e9 w9 ⟨rfl, hw9⟩; subst hw9; try dsimp only
    go_wp2_with fail; refine ((Hlxy).out _).mono ?_; rintro e9 w9 ⟨rfl, hw9⟩; subst hw9; try dsimp only
    go_wp2_with fail; refine ((Hsxy).out _).mono ?_; rintro e9 w9 ⟨rfl, hw9⟩; subst hw9; try dsimp only
    go_wp2_with fail; refine ((Hlab).out _).mono ?_; rintro e9 w9 ⟨rfl, hw9⟩; subst hw9; try dsimp only
    go_wp2_with fail; refine ((Hlba).out _).mono ?_; rintro e9 w9 ⟨rfl, hw9⟩; subst hw9; try dsimp only
    go_wp2_with fail; refine ((Hsab).out _).mono ?_; rintro e9 w9 ⟨rfl, hw9⟩; subst hw9; try dsimp only
    go_wp2_with fail; refine ((Hsaa).out _).mono ?_; rintro e9 w9 ⟨rfl, hw9⟩; subst hw9; try dsimp only
    go_wp2_with fail; refine ((Hsbb).out _).mono ?_; rintro e9 w9 ⟨rfl, hw9⟩; subst hw9; try dsimp only
    go_wp2_with fail; refine ((Hlab).out _).mono ?_; rintro e9 w9 ⟨rfl, hw9⟩; subst hw9; try dsimp only
    go_wp2_with fail; refine ((Hox).out _).mono ?_; rintro e9 w9 ⟨rfl, hw9⟩; subst hw9; try dsimp only
    go_wp2_with fail; refine ((Hoa).out _).mono ?_; rintro e9 w9 ⟨rfl, hw9⟩; subst hw9; try dsimp only
    go_wp2_with fail
    go_returns
    exact ⟨rfl, rfl⟩
end Go.Proofs.Ytklpjlcphikfaaa
