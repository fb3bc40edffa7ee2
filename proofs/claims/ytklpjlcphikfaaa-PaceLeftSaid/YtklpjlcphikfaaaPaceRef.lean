/- The walks of the document's pace (pointer receivers), of Do and of the statements of layer 13. -/
import Derived.Test.YtklpjlcphikfaaaPace
import Derived.Test.YtklpjlcphikfaaaWalk
namespace Go.Proofs.Ytklpjlcphikfaaa
open Go.RowKit

/-- the code of a write of n where cap have room -/
def wrBad (n cap : Int) : Int := if n ≤ cap then 0 else 10
abbrev pcC (L K Q R W : Int) (C : Bool) : Array Value := #[.int .i64 L, .int .i64 K, .int .i64 Q, .int .i64 R, .int .i64 W, .bool C]

set_option maxHeartbeats 800000 in
theorem refTick_any (g : Nat) (L K Q R W : Int) (C : Bool) (w : World) (hg : AtG w g 49 (pcC L K Q R W C)) (h1 : 1 ≤ K) (h2 : K ≤ 1024) (h3 : 0 ≤ W) (h4 : W ≤ 100000) :
    Calls Try.prog 58 #[.pointer (some ⟨g, 0, none⟩)] w fun e w' => e = .returned (.int .i64 (min K W)) ∧ AtG w' g 49 (pcC L K Q R (W - min K W) C) ∧ w.grownBy w' (some g) := by
  have HG := Lib.hid hg; clear hg
  go_enter Try.func58, Try.ntmps58
  go_wp2
  go_loopw [3] (fun n wr => ∃ k : Nat, (k : Int) ≤ K ∧ (k : Int) ≤ W ∧ n = .int .i64 k ∧ AtG wr g 49 (pcC L K Q R (W - k) C) ∧ w.grownBy wr (some g)) (fun n _ => 2000 - (intOf n).toNat)
  case atStart => exact ⟨0, by omega, by omega, rfl, by simpa using HG.out, gb_refl _ _⟩
  case round =>
    obtain ⟨k, hk1, hk2, rfl, hat, hgr⟩ := hrel
    have c1 := hat.cell 1 _ rfl
    have c4 := hat.cell 4 _ rfl
    have f4 := hat.frozen 4
    have HA := Lib.hid hat; have HR := Lib.hid hgr; clear hat hgr
    go_wp2
    · have hk3 : (k : Int) < K := by assumption
      have hk4 : (k : Int) < W := by assumption
      exact ⟨⟨k + 1, by omega, by omega, by go_num, by rw [show W - ((k + 1 : Nat) : Int) = W - k - 1 from by omega]; exact HA.out.set 4 _, gb_set HR.out 4 _⟩, by simp [intOf]; omega⟩
    · have hk4 : W ≤ (k : Int) := by assumption
      go_returns
      exact ⟨ret_int (by show (k : Int) = _; omega), by rw [show W - min K W = W - k from by omega]; exact HA.out, HR.out⟩
    · have hk4 : K ≤ (k : Int) := by assumption
      go_returns
      exact ⟨ret_int (by show (k : Int) = _; omega), by rw [show W - min K W = W - k from by omega]; exact HA.out, HR.out⟩
set_option maxHeartbeats 800000 in
theorem refClose_open (g : Nat) (L K Q R W : Int) (w : World) (hg : AtG w g 49 (pcC L K Q R W false)) (h1 : 0 ≤ R) (h2 : R ≤ 1024) (h3 : 0 ≤ W) (h4 : W ≤ 100000) :
    Calls Try.prog 59 #[.pointer (some ⟨g, 0, none⟩)] w fun e w' => e = .returned (.int .i64 0) ∧ AtG w' g 49 (pcC L K Q 0 (W + R) true) ∧ w.grownBy w' (some g) := by
  have c3 := hg.cell 3 _ rfl
  have c4 := hg.cell 4 _ rfl
  have c5 := hg.cell 5 _ rfl
  have f3 := hg.frozen 3
  have f4 := hg.frozen 4
  have f5 := hg.frozen 5
  have HG := Lib.hid hg; clear hg
  go_enter Try.func59, Try.ntmps59
  go_wp2
  go_region
  go_wp2
  go_returns
  exact ⟨rfl, ((HG.out.set 4 _).set 3 _).set 5 _, gb_set (gb_set (gb_set (gb_drew (gb_refl _ _)) _ _) _ _) _ _⟩
set_option maxHeartbeats 400000 in
theorem refClose_shut (g : Nat) (L K Q R W : Int) (w : World) (hg : AtG w g 49 (pcC L K Q R W true)) :
    Calls Try.prog 59 #[.pointer (some ⟨g, 0, none⟩)] w fun e w' => e = .returned (.int .i64 9) ∧ AtG w' g 49 (pcC L K Q R W true) ∧ w.grownBy w' (some g) := by
  have c5 := hg.cell 5 _ rfl
  have HG := Lib.hid hg; clear hg
  go_enter Try.func59, Try.ntmps59
  go_wp2
  go_returns
  exact ⟨rfl, HG.out, gb_refl _ _⟩
set_option maxHeartbeats 400000 in
theorem refWrite_neg (g : Nat) (L K Q R W n : Int) (C : Bool) (w : World) (hg : AtG w g 49 (pcC L K Q R W C)) (hn : n < 0) :
    Calls Try.prog 60 #[.pointer (some ⟨g, 0, none⟩), .int .i64 n] w fun e w' => e = .returned (.tuple #[.int .i64 0, .int .i64 1]) ∧ AtG w' g 49 (pcC L K Q R W C) ∧ w.grownBy w' (some g) := by
  have HG := Lib.hid hg; clear hg
  go_enter Try.func60, Try.ntmps60
  go_wp2
  go_returns
  exact ⟨rfl, HG.out, gb_refl _ _⟩
set_option maxHeartbeats 400000 in
theorem refWrite_shut (g : Nat) (L K Q R W n : Int) (w : World) (hg : AtG w g 49 (pcC L K Q R W true)) (hn : 0 ≤ n) :
    Calls Try.prog 60 #[.pointer (some ⟨g, 0, none⟩), .int .i64 n] w fun e w' => e = .returned (.tuple #[.int .i64 0, .int .i64 9]) ∧ AtG w' g 49 (pcC L K Q R W true) ∧ w.grownBy w' (some g) := by
  have c5 := hg.cell 5 _ rfl
  have HG := Lib.hid hg; clear hg
  go_enter Try.func60, Try.ntmps60
  go_wp2
  go_returns
  exact ⟨rfl, HG.out, gb_refl _ _⟩
set_option maxHeartbeats 1600000 in
theorem refWrite_open (g : Nat) (L K Q R W n : Int) (w : World) (hg : AtG w g 49 (pcC L K Q R W false)) (h1 : 1 ≤ L) (h2 : L ≤ 32) (h3 : 0 ≤ R) (h4 : R ≤ L) (h5 : 0 ≤ W) (h6 : W ≤ Q) (h7 : Q ≤ 1024) (h8 : 0 ≤ n) :
    Calls Try.prog 60 #[.pointer (some ⟨g, 0, none⟩), .int .i64 n] w fun e w' =>
      e = .returned (.tuple #[.int .i64 (min n (L - R + (Q - W))), .int .i64 (wrBad n (L - R + (Q - W)))]) ∧ AtG w' g 49 (pcC L K Q (R + min n (L - R)) (W + min (n - min n (L - R)) (Q - W)) false) ∧ w.grownBy w' (some g) := by
  have c5 := hg.cell 5 _ rfl
  have HG := Lib.hid hg; clear hg
  go_enter Try.func60, Try.ntmps60
  go_wp2
  go_loopw [6] (fun i wr => ∃ (k : Nat) (r v : Int), (k : Int) ≤ n ∧ i = .int .i64 k ∧ AtG wr g 49 (pcC L K Q r v false) ∧ w.grownBy wr (some g) ∧ r + v = R + W + k ∧ (r = L ∨ v = W) ∧ R ≤ r ∧ r ≤ L ∧ W ≤ v ∧ v ≤ Q) (fun i _ => 2000 - (intOf i).toNat)
  case atStart => exact ⟨0, R, W, by omega, rfl, HG.out, gb_refl _ _, by omega, by omega, by omega, by omega, by omega, by omega⟩
  case round =>
    obtain ⟨k, r, v, hk, rfl, hat, hgr, hs, ho, hr1, hr2, hv1, hv2⟩ := hrel
    have c0 := hat.cell 0 _ rfl
    have c2 := hat.cell 2 _ rfl
    have c3 := hat.cell 3 _ rfl
    have c4 := hat.cell 4 _ rfl
    have f3 := hat.frozen 3
    have f4 := hat.frozen 4
    have hkb : (k : Int) ≤ 1100 := by omega
    have HA := Lib.hid hat; have HR := Lib.hid hgr; have HS := Lib.hid hs; have HO := Lib.hid ho; clear hat hgr hs ho c5
    by_cases hlt : (k : Int) < n
    · by_cases hr : r < L
      · as_aux_lemma =>
          go_wp2
          go_quiet (fail)
          go_wp2
          have hs := HS.out; have ho := HO.out
          exact ⟨⟨k + 1, r + 1, v, by omega, by go_num, (HA.out.drewN _).set 3 _, gb_set (gb_drewN HR.out _) 3 _, by omega, by omega, by omega, by omega, by omega, by omega⟩, by simp [intOf]; omega⟩
      · by_cases hv : v < Q
        · as_aux_lemma =>
            go_wp2
            go_quiet (fail)
            go_wp2
            go_quiet (fail)
            go_wp2
            have hs := HS.out; have ho := HO.out
            exact ⟨⟨k + 1, r, v + 1, by omega, by go_num, (HA.out.drewN _).set 4 _, gb_set (gb_drewN HR.out _) 4 _, by omega, by omega, by omega, by omega, by omega, by omega⟩, by simp [intOf]; omega⟩
        · as_aux_lemma =>
            go_wp2
            go_quiet (fail)
            go_wp2
            go_quiet (fail)
            go_wp2
            go_returns
            have hs := HS.out; have ho := HO.out
            refine ⟨?_, ?_, ?_⟩
            · rw [show min n (L - R + (Q - W)) = k from by omega, show wrBad n (L - R + (Q - W)) = 10 from if_neg (by omega)]; rfl
            · rw [show R + min n (L - R) = r from by omega, show W + min (n - min n (L - R)) (Q - W) = v from by omega]; exact (HA.out.drewN _).drewN _
            · exact gb_drewN (gb_drewN HR.out _) _
    · as_aux_lemma =>
        go_wp2
        have hs := HS.out; have ho := HO.out
        go_returns
        refine ⟨?_, ?_, HR.out⟩
        · rw [show min n (L - R + (Q - W)) = n from by omega, show wrBad n (L - R + (Q - W)) = 0 from if_pos (by omega)]; rfl
        · rw [show R + min n (L - R) = r from by omega, show W + min (n - min n (L - R)) (Q - W) = v from by omega]; exact HA.out

/-! ### the statements' own functions -/
set_option maxHeartbeats 1600000 in
theorem up13_any (w : World) : Calls Try.prog 25 #[] w fun e w' => e = .returned (.bool true) ∧ Below w.heap.size w w' := by
  have hW : ∀ w, Calls Try.prog 33 #[pcV 2 1 1 0 0 false, .int .i64 5] w fun e w' => e = .returned (.tuple #[pcV 2 1 1 2 1 false, .int .i64 3, .iface 84 (.int .i64 10)]) ∧ Below w.heap.size w w' := fun w => by
    exact (paceWrite_open 2 1 1 0 0 5 w (by omega) (by omega) (by omega) (by omega) (by omega) (by omega) (by omega) (by omega) (by omega)).mono fun e w' ⟨he, hb⟩ => ⟨he.trans rfl, hb⟩
  have HW := Lib.hid hW; clear hW
  go_enter Try.func25, Try.ntmps25
  go_wp2_with fail
  go_call paceNew_yes as e w1 ⟨rfl, hb1⟩
  go_wp2_with fail
  refine (HW.out _).mono ?_; rintro e w2 ⟨rfl, hb2⟩
  obtain ⟨hc2, hf2⟩ := bcell hb2
  go_wp2_with fail
  have hA := AtG.new w2 42 (pcC 2 1 1 2 1 false)
  have HA := Lib.hid hA; clear hA
  go_call paceNew_no as e w3 ⟨rfl, hb3⟩
  obtain ⟨hc3, hf3, hl3⟩ := (HA.out.below hb3).rules
  go_wp2_with fail
  refine (code_some 10 _).mono ?_; rintro e w4 ⟨rfl, rfl⟩
  go_wp2_with fail
  refine (code_some 1 _).mono ?_; rintro e w4 ⟨rfl, rfl⟩
  go_wp2_with fail
  go_returns
  exact ⟨rfl, by
    have s1 := hb1.size; have s2 := hb2.size; have s3 := hb3.size
    simp at s2 s3
    exact (((hb1.alloc (by omega) _).trans (hb2.mono (by simp; omega))).alloc (by omega) _).trans ((hb3.mono (by simp; omega))) |>.alloc (by omega) _⟩
end Go.Proofs.Ytklpjlcphikfaaa
