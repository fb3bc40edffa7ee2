/- Own texts, pruned and joined by a program (prune.py). -/
import Derived.Test.YtgjcibhhffkemaaGreatDoorVt5
import Derived.Laws.StructEq
import Derived.WideShapes
import Derived.Test.YtgjcibhhffkemaaGreatDoorRows
import Derived.Test.YtgjcibhhffkemaaGreatDoorCards
import Derived.Test.YtgjcibhhffkemaaGreatDoorTie
import Derived.LaidLaws
import Derived.LaidHandle
import Derived.WalkKit
import Derived.ProofKit
import Derived.OpenShut
import Derived.ShutString
import Derived.ChangeOld
import Derived.Below
import Derived.SizedLaws
import Derived.Lib.SmallJoins
import Derived.Lay
import Derived.LaidMore
import Derived.SevenTiedAt
import Derived.Stop.Joined
set_option linter.unusedVariables false
set_option linter.unusedSimpArgs false
namespace Go.Proofs.YtgjcibhhffkemaaGreatDoor
open Go.RowKit Fl
theorem refBits_nat (k : Nat) (n : Int) (hn : n = k) (w : World) (hk : k ≤ 9007199254740992) : Calls Tryz.prog 46 #[.int .i64 n] w fun e w' => e = .returned (.int .u64 (wordN k : Nat)) ∧ w' = w := by
 subst hn
 refine (refBits_any (k : Int) w (by omega) (by omega)).mono ?_
 rintro e w' ⟨h,h'⟩
 refine ⟨?_,h'⟩
 rw [h,if_neg (by omega)]
 unfold bitsN
 rw [if_neg (by omega),Int.natAbs_natCast]
theorem refRank_nat (a : Nat) (w : World) (hx : a < 9223372036854775808) : Calls Tryz.prog 45 #[.int .u64 a] w fun e w' => e = .returned (.int .i64 a) ∧ w' = w := by
 have h := refRank_any a w (by omega)
 rw [rk_lo a (by omega)] at h
 exact h
theorem isRate_rk (a : Nat) (h : some' a = true) : isRate a = decide (4607182418800017408 ≤ rk a ∧ rk a ≤ 4652218415073722368) := by
 unfold isRate rk
 rw [Bool.eq_iff_iff]
 simp only [decide_eq_true_eq]
 split <;> omega
set_option hygiene false in
theorem meas (k : Nat) (h : (k : Int) < 1024) : 1024 - ((k : Int) + 1).toNat < 1024 - (k : Int).toNat := by omega
set_option maxRecDepth 50000 in
set_option maxHeartbeats 4000000 in
theorem refRate_any (a : Nat) (w : World) (hx : a < 18446744073709551616) :
  Calls Tryz.prog 26 #[.int .u64 a] w fun e w' => e = .returned (.tuple #[.int .i64 (if isRate a then flo a else 0),.bool (isRate a)]) ∧ w' = w := by
 cases hs : some' a
 ·have h3 : isRate a = false := by unfold isRate;unfold some' at hs;rw [decide_eq_false_iff_not] at hs ⊢;omega
  rw [h3]
  have hS : ∀ w,Calls Tryz.prog 44 #[.int .u64 a] w fun e w' => e = .returned (.bool false) ∧ w' = w := fun w => hs ▸ refSome_any a w hx
  have HS := Lib.hid hS;clear hS
  clear hx hs h3
  go_enter Tryz.func26,Tryz.ntmps26
  go_wp2_with fail;refine ((HS).out _).mono ?_;rintro e9 w9 ⟨rfl,hw9⟩;subst hw9;try dsimp only
  go_wp2_with fail
  go_returns
  exact ⟨rfl,rfl⟩
 have hS : ∀ w,Calls Tryz.prog 44 #[.int .u64 a] w fun e w' => e = .returned (.bool true) ∧ w' = w := fun w => hs ▸ refSome_any a w hx
 have hR : ∀ w,Calls Tryz.prog 45 #[.int .u64 a] w fun e w' => e = .returned (.int .i64 (rk a)) ∧ w' = w := fun w => refRank_any a w hx
 have hB1 : ∀ w,Calls Tryz.prog 46 #[.int .i64 1] w fun e w' => e = .returned (.int .u64 4607182418800017408) ∧ w' = w := fun w => by
  have h := refBits_nat 1 1 rfl w (by omega)
  rw [one_word] at h;exact h
 have hB2 : ∀ w,Calls Tryz.prog 46 #[.int .i64 1024] w fun e w' => e = .returned (.int .u64 4652218415073722368) ∧ w' = w := fun w => by
  have h := refBits_nat 1024 1024 rfl w (by omega)
  rw [most_word] at h;exact h
 have hR1 : ∀ w,Calls Tryz.prog 45 #[.int .u64 4607182418800017408] w fun e w' => e = .returned (.int .i64 4607182418800017408) ∧ w' = w := fun w => refRank_nat 4607182418800017408 w (by omega)
 have hR2 : ∀ w,Calls Tryz.prog 45 #[.int .u64 4652218415073722368] w fun e w' => e = .returned (.int .i64 4652218415073722368) ∧ w' = w := fun w => refRank_nat 4652218415073722368 w (by omega)
 have hI := isRate_rk a hs
 have ha0 : rk a < 9223372036854775808 ∧ -9223372036854775808 ≤ rk a := by unfold rk;split <;> omega
 have hra : isRate a = true → rk a = a := fun h => rk_lo a (by have := isRate_bd a h;omega)
 obtain ⟨A,hA⟩ : ∃ A,rk a = A := ⟨_,rfl⟩
 rw [hA] at hI ha0 hra
 simp only [hA] at hR
 obtain ⟨x,hax⟩ : ∃ x : Int,(a : Int) = x := ⟨_,rfl⟩
 rw [hax];simp only [hax] at hS hR
 obtain ⟨ha0,ha1⟩ := ha0
 have HAX := Lib.hid hax;have HX := Lib.hid hx;have HRA := Lib.hid hra;clear hax hx hA hs hra
 have HS := Lib.hid hS;have HR := Lib.hid hR;have HB1 := Lib.hid hB1;have HB2 := Lib.hid hB2;have HR1 := Lib.hid hR1;have HR2 := Lib.hid hR2;clear hS hR hB1 hB2 hR1 hR2
 by_cases l1 : A < 4607182418800017408
 ·rw [hI,decide_eq_false (by omega)]
  clear hI
  go_enter Tryz.func26,Tryz.ntmps26
  go_wp2_with fail;refine ((HS).out _).mono ?_;rintro e9 w9 ⟨rfl,hw9⟩;subst hw9;try dsimp only
  go_wp2_with fail;refine ((HR).out _).mono ?_;rintro e9 w9 ⟨rfl,hw9⟩;subst hw9;try dsimp only
  go_wp2_with fail;refine ((HB1).out _).mono ?_;rintro e9 w9 ⟨rfl,hw9⟩;subst hw9;try dsimp only
  go_wp2_with fail;refine ((HR1).out _).mono ?_;rintro e9 w9 ⟨rfl,hw9⟩;subst hw9;try dsimp only
  go_wp2_with fail
  go_returns
  exact ⟨rfl,rfl⟩
 by_cases l2 : 4652218415073722368 < A
 ·rw [hI,decide_eq_false (by omega)]
  clear hI
  go_enter Tryz.func26,Tryz.ntmps26
  go_wp2_with fail;refine ((HS).out _).mono ?_;rintro e9 w9 ⟨rfl,hw9⟩;subst hw9;try dsimp only
  go_wp2_with fail;refine ((HR).out _).mono ?_;rintro e9 w9 ⟨rfl,hw9⟩;subst hw9;try dsimp only
  go_wp2_with fail;refine ((HB1).out _).mono ?_;rintro e9 w9 ⟨rfl,hw9⟩;subst hw9;try dsimp only
  go_wp2_with fail;refine ((HR1).out _).mono ?_;rintro e9 w9 ⟨rfl,hw9⟩;subst hw9;try dsimp only
  go_wp2_with fail;refine ((HR).out _).mono ?_;rintro e9 w9 ⟨rfl,hw9⟩;subst hw9;try dsimp only
  go_wp2_with fail;refine ((HB2).out _).mono ?_;rintro e9 w9 ⟨rfl,hw9⟩;subst hw9;try dsimp only
  go_wp2_with fail;refine ((HR2).out _).mono ?_;rintro e9 w9 ⟨rfl,hw9⟩;subst hw9;try dsimp only
  go_wp2_with fail
  go_returns
  exact ⟨rfl,rfl⟩
 have hT : isRate a = true := by rw [hI];exact decide_eq_true (by omega)
 rw [hT]
 have hfb := flo_bd a hT
 have HFB := Lib.hid hfb
 have HT := Lib.hid hT
 clear hI hT hfb
 go_enter Tryz.func26,Tryz.ntmps26
 go_wp2_with fail;refine ((HS).out _).mono ?_;rintro e9 w9 ⟨rfl,hw9⟩;subst hw9;try dsimp only
 go_wp2_with fail;refine ((HR).out _).mono ?_;rintro e9 w9 ⟨rfl,hw9⟩;subst hw9;try dsimp only
 go_wp2_with fail;refine ((HB1).out _).mono ?_;rintro e9 w9 ⟨rfl,hw9⟩;subst hw9;try dsimp only
 go_wp2_with fail;refine ((HR1).out _).mono ?_;rintro e9 w9 ⟨rfl,hw9⟩;subst hw9;try dsimp only
 go_wp2_with fail;refine ((HR).out _).mono ?_;rintro e9 w9 ⟨rfl,hw9⟩;subst hw9;try dsimp only
 go_wp2_with fail;refine ((HB2).out _).mono ?_;rintro e9 w9 ⟨rfl,hw9⟩;subst hw9;try dsimp only
 go_wp2_with fail;refine ((HR2).out _).mono ?_;rintro e9 w9 ⟨rfl,hw9⟩;subst hw9;try dsimp only
 go_wp2_with fail
 go_loop [5] (fun n => ∃ k : Nat,1 ≤ k ∧ k ≤ 1024 ∧ n = .int .i64 k ∧ k ≤ flo a) (fun n => 1024 - (intOf n).toNat)
 case atStart => exact ⟨1,by omega,by omega,rfl,HFB.out.1⟩
 case round =>
  obtain ⟨k,k0,k1,rfl,k2⟩ := hrel
  have K2 := Lib.hid k2;clear k2
  by_cases hk : k < 1024
  ·have hlt := (wordN_V (k + 1) (by omega)).2
   have hBk : ∀ w,Calls Tryz.prog 46 #[.int .i64 ((k : Int) + 1)] w fun e w' => e = .returned (.int .u64 (wordN (k + 1) : Nat)) ∧ w' = w := fun w => refBits_nat (k + 1) _ (by push_cast;rfl) w (by omega)
   have hRk : ∀ w,Calls Tryz.prog 45 #[.int .u64 (wordN (k + 1) : Nat)] w fun e w' => e = .returned (.int .i64 (wordN (k + 1) : Nat)) ∧ w' = w := fun w => refRank_nat (wordN (k + 1)) w (by omega)
   have hle := le_flo (k + 1) a (by omega)
   have e1 := HRA.out HT.out
   obtain ⟨W,hW⟩ : ∃ W : Int,((wordN (k + 1) : Nat) : Int) = W := ⟨_,rfl⟩
   simp only [hW] at hBk hRk
   have hle2 : k + 1 ≤ flo a ↔ W ≤ A := by rw [hle];omega
   have w0 : 0 ≤ W := by omega
   have w1 : W < 9218868437227405312 := by omega
   have HLE := Lib.hid hle2
   have HBk := Lib.hid hBk;have HRk := Lib.hid hRk;clear hBk hRk
   have kI : (k : Int) < 1024 := by omega
   have kI0 : 1 ≤ (k : Int) := by omega
   have HK := Lib.hid hk;have HK0 := Lib.hid k0;have HK1 := Lib.hid k1
   clear hle hle2 hlt e1 hW hk k0 k1
   by_cases hc : W ≤ A
   ·clear w0 w1
    go_wp2_with fail;refine ((HBk).out _).mono ?_;rintro e9 w9 ⟨rfl,hw9⟩;subst hw9;try dsimp only
    go_wp2_with fail;refine ((HRk).out _).mono ?_;rintro e9 w9 ⟨rfl,hw9⟩;subst hw9;try dsimp only
    go_wp2_with fail;refine ((HR).out _).mono ?_;rintro e9 w9 ⟨rfl,hw9⟩;subst hw9;try dsimp only
    go_wp2_with fail
    have hk := HK.out
    refine ⟨⟨k + 1,?_,?_,?_,?_⟩,?_⟩
    ·omega
    ·omega
    ·simp
    ·exact HLE.out.2 hc
    ·exact meas k kI
   ·skip
    go_wp2_with fail;refine ((HBk).out _).mono ?_;rintro e9 w9 ⟨rfl,hw9⟩;subst hw9;try dsimp only
    go_wp2_with fail;refine ((HRk).out _).mono ?_;rintro e9 w9 ⟨rfl,hw9⟩;subst hw9;try dsimp only
    go_wp2_with fail;refine ((HR).out _).mono ?_;rintro e9 w9 ⟨rfl,hw9⟩;subst hw9;try dsimp only
    go_wp2_with fail
    go_returns
    have hf : flo a = k := by have := K2.out;have := HLE.out;omega
    exact ⟨by first | (simp only [if_true,hf];done) | (simp only [if_true,hf];rfl),rfl⟩
  ·have hf : flo a = 1024 := by have := K2.out;have := HFB.out;omega
   have hk2 : k = 1024 := by omega
   subst hk2
   have HF := Lib.hid hf
   clear K2 hf hk k0 k1
   go_wp2_with fail
   go_returns
   exact ⟨by first | (simp only [if_true,HF.out];done) | (simp only [if_true,HF.out];rfl),rfl⟩
end Go.Proofs.YtgjcibhhffkemaaGreatDoor
namespace Go.Proofs.YtgjcibhhffkemaaGreatDoor.Ve
open Go.RowKit Bt Fl
theorem infoRB : (Tryz.prog.info? 44).map (fun i => (i.zero,i.size,i.bytes)) = some (some (.agg #[.int .i64 0,.int .u64 0,.int .u64 0,.int .u64 0,.int .u64 0,.int .i64 0,.int .i64 0,.slice none 0 0,.bool false]),9,88) := by kernel_rfl
theorem rx_no {s : ByteArray} {c : Int} {x : Nat} (h : RxRes s (.no c x)) : c = 2 ∨ c = 3 ∨ c = 4 := by
 rcases h with ⟨_,h⟩ | ⟨_,h⟩
 ·cases h;exact .inr (.inr rfl)
 ·exact (P.in h (Nat.zero_le _)).1
theorem rd_code {L : List ByteArray} {i : Nat} {out : List Ru.Rl} {R : Ru.Res} (h : Ru.Rd L i out R) : ∀ c x,R = .no c x → ¬ c = 0 := by
 induction h with
 | done => intro c x e;cases e
 | skip _ _ ih => exact ih
 | bad => intro c x e;cases e;decide
 | twice => intro c x e;cases e;decide
 | large => intro c x e;cases e;decide
 | next _ _ _ _ _ ih => exact ih
theorem ru_code {s : ByteArray} {c : Int} {x : Nat} (h : Ru.RuRes s (.no c x)) : ¬ c = 0 := by
 rcases h with ⟨_,h⟩ | ⟨_,L,_,h⟩
 ·cases h;decide
 ·exact rd_code h c x rfl
theorem refP (s : ByteArray) (w : World) : Calls Tryz.prog 28 #[.string s] w fun e w' => Below w.heap.size w w' ∧ ∃ R,RxRes s R ∧ match R with
  | .ok t _ => ∃ kv,e = .returned (.tuple #[nodeV t kv,.int .i64 0,.int .i64 0]) ∧ KAt (Iv w.heap.size w'.heap.size) w' t kv
  | .no c y => e = .returned (.tuple #[zeroN,.int .i64 c,.int .i64 (y : Int)]) := by
 by_cases hl : 200 < s.size
 ·exact (parse_long s w hl).mono (by
   rintro e w' ⟨rfl,hb⟩
   exact ⟨hb,.no 4 0,.inl ⟨hl,rfl⟩,rfl⟩)
 ·exact (parse_any s w (by omega)).mono (by
   rintro e w' ⟨hb,r,hP,hr⟩
   exact ⟨hb,r,.inr ⟨by omega,hP⟩,hr⟩)
def OutH (T : Nat) (w0 : World) (ps : List ((Pat × Bool) × Value)) (v : Value) (w' : World) : Prop := ∃ va vc,v = .slice va ps.length vc ∧ w'.ownsRow w0.heap.size T 9 v ps.length (flatV ps) ∧ Below w0.heap.size w0 w' ∧ ∀ x ∈ ps,KAt (fun b => v.ownBlock ≠ some b) w' x.1.1.tree x.2
theorem OutH.below {T : Nat} {w0 : World} {ps : List ((Pat × Bool) × Value)} {v : Value} {w w' : World} (h : OutH T w0 ps v w) (hb : Below w.heap.size w w') : OutH T w0 ps v w' := by
 obtain ⟨va,vc,rfl,h1,h2,h3⟩ := h
 exact ⟨va,vc,rfl,own_below h1 hb,h2.trans (hb.mono h2.size),fun x hx => (h3 x hx).belowD hb⟩
theorem OutH.app {T : Nat} {w0 w w' : World} {ps : List ((Pat × Bool) × Value)} {y : (Pat × Bool) × Value} {v v' : Value} (h : OutH T w0 ps v w) (hy : KAt (fun b => v.ownBlock ≠ some b) w y.1.1.tree y.2)
  (ho : w'.ownsRow w0.heap.size T 9 v' (ps.length + 1) (flatV ps ++ ruL y)) (hg : w.grownBy w' v.ownBlock) (hbk : v'.ownBlock = v.ownBlock ∨ v'.ownBlock = some w.heap.size) : OutH T w0 (ps ++ [y]) v' w' := by
 obtain ⟨va,vc,rfl,h1,h2,h3⟩ := h
 obtain ⟨va',vc',rfl⟩ := own_form ho
 rw [← flatV_snoc] at ho
 refine ⟨va',vc',by simp,by simpa using ho,h2.grown hg h2.size (fun k hk => own_base h1 k hk),fun x hx => ?_⟩
 have hx' : KAt (fun b => (Value.slice va ps.length vc).ownBlock ≠ some b) w x.1.1.tree x.2 := by
  rcases List.mem_append.1 hx with hx | hx
  ·exact h3 x hx
  ·rw [List.mem_singleton] at hx;subst hx;exact hy
 refine ((KAt.lt _ _ hx').only (Only.of_grown (S := fun k => (Value.slice va ps.length vc).ownBlock = some k) hg (fun k hk => hk)) (fun b hb => ⟨hb.2,hb.1⟩)).mono (fun b hb e => ?_)
 rcases hbk with h2 | h2
 ·rw [h2] at e;exact hb.1 e
 ·rw [h2] at e;cases e;have := hb.2;omega
def CkR (s : ByteArray) (L Q C : Int) (R : Nat) (M : Int) (w : World) (e : Ending) (w' : World) : Prop :=
 Below w.heap.size w w' ∧ ∃ V,CkRes s L Q C R M V ∧ match V with
  | .arg => e = .returned (.tuple #[.slice none 0 0,.int .i64 0,.int .i64 1,.int .i64 (-1)])
  | .no c x => e = .returned (.tuple #[.slice none 0 0,.int .i64 0,.int .i64 c,.int .i64 (x : Int)])
  | .ok out => ∃ v,e = .returned (.tuple #[v,.int .i64 (flo R),.int .i64 0,.int .i64 0]) ∧ OutAt w' v out
theorem out_ownH {T : Nat} {w0 w : World} {ps : List ((Pat × Bool) × Value)} {v : Value} (h : OutH T w0 ps v w) : OutAt w v (ps.map (·.1)) := by
 obtain ⟨va,vc,rfl,h1,h2,h3⟩ := h
 exact out_own h1 (fun x hx => NAt.of (h3 x hx))
set_option maxRecDepth 100000 in
set_option maxHeartbeats 8000000 in
theorem ckR (s : ByteArray) (L Q C : Int) (R : Nat) (M : Int) (hR : R < 18446744073709551616) (hM0 : 0 ≤ M) (hM1 : M ≤ 255) (hs : s.size ≤ 10000) (w : World) : Calls Tryz.prog 8 #[.string s,cfgV L Q C R M] w (CkR s L Q C R M w) := by
 have HSZ := Lib.hid hs
 have HR0 := Lib.hid (fun w => refRate_any R w hR)
 have HPR := Lib.hid (fun w => Ru.rulesR s w hs)
 have HM := Lib.hid (And.intro hM0 hM1)
 have HC : Hid (AtG (w.alloc (.cells (cfgC L Q C R M) 24)) w.heap.size 24 (cfgC L Q C R M)) := Lib.hid (AtG.new _ _ _)
 have HB : Hid (Below w.heap.size w (w.alloc (.cells (cfgC L Q C R M) 24))) := Lib.hid ((Below.refl _ _).alloc (Nat.le_refl _) _)
 clear hs hR hM0 hM1
 unfold cfgV
 have hF := flo_small R
 refine cfg_cases L Q C R _ ?_ ?_ ?_ ?_ ?_ ?_ ?_ ?_
 ·intro a1 hno
  have HNO := Lib.hid hno
  clear hno hF HR0
  unfold cfgC at HB HC
  go_enter Tryz.func8,Tryz.ntmps8
  go_wp2_with fail
  go_returns
  exact ⟨HB.out,.arg,HNO.out,rfl⟩
 ·intro a1 a2 hno
  have HNO := Lib.hid hno
  clear hno hF HR0
  unfold cfgC at HB HC
  go_enter Tryz.func8,Tryz.ntmps8
  go_wp2_with fail
  go_returns
  exact ⟨HB.out,.arg,HNO.out,rfl⟩
 ·intro a1 a2 a3 hno
  have HNO := Lib.hid hno
  have HR : Hid (∀ w,Calls Tryz.prog 26 #[.int .u64 R] w fun e w' => e = .returned (.tuple #[.int .i64 0,.bool false]) ∧ w' = w) := Lib.hid (fun w => by have := HR0.out w;rw [a3] at this;exact this)
  clear hno hF HR0 a3
  unfold cfgC at HB HC
  go_enter Tryz.func8,Tryz.ntmps8
  go_wp2_with fail
  refine (HR.out _).mono ?_
  rintro e9 w9 ⟨rfl,hw9⟩;subst hw9
  go_wp2_with fail
  go_returns
  exact ⟨HB.out,.arg,HNO.out,rfl⟩
 all_goals
  intro a1 a2 a3
  obtain ⟨f1,f2⟩ := hF a3
  have HR : Hid (∀ w,Calls Tryz.prog 26 #[.int .u64 R] w fun e w' => e = .returned (.tuple #[.int .i64 (flo R : Int),.bool true]) ∧ w' = w) := Lib.hid (fun w => by have := HR0.out w;rw [a3] at this;exact this)
  clear HR0 hF a3
  obtain ⟨k,hk⟩ : ∃ k : Int,k = (flo R : Int) := ⟨_,rfl⟩
  rw [← hk] at HR f1 f2 ⊢
  have HK := Lib.hid hk
  clear hk
 ·intro a4 hno
  have HNO := Lib.hid hno
  clear hno
  unfold cfgC at HB HC
  go_enter Tryz.func8,Tryz.ntmps8
  go_wp2_with fail
  refine (HR.out _).mono ?_
  rintro e9 w9 ⟨rfl,hw9⟩;subst hw9
  go_wp2_with fail
  go_returns
  exact ⟨HB.out,.arg,HNO.out,rfl⟩
 ·intro a4 a5 hno
  have HNO := Lib.hid hno
  clear hno
  unfold cfgC at HB HC
  go_enter Tryz.func8,Tryz.ntmps8
  go_wp2_with fail
  refine (HR.out _).mono ?_
  rintro e9 w9 ⟨rfl,hw9⟩;subst hw9
  go_wp2_with fail
  go_returns
  exact ⟨HB.out,.arg,HNO.out,rfl⟩
 ·intro a4 a5 a6 hno
  have HNO := Lib.hid hno
  clear hno
  unfold cfgC at HB HC
  go_enter Tryz.func8,Tryz.ntmps8
  go_wp2_with fail
  refine (HR.out _).mono ?_
  rintro e9 w9 ⟨rfl,hw9⟩;subst hw9
  go_wp2_with fail
  go_returns
  exact ⟨HB.out,.arg,HNO.out,rfl⟩
 ·intro a4 a5 a6 a7 hno
  have HNO := Lib.hid hno
  clear hno
  unfold cfgC at HB HC
  go_enter Tryz.func8,Tryz.ntmps8
  go_wp2_with fail
  refine (HR.out _).mono ?_
  rintro e9 w9 ⟨rfl,hw9⟩;subst hw9
  go_wp2_with fail
  go_returns
  exact ⟨HB.out,.arg,HNO.out,rfl⟩
 intro a4 a5 a6 a7 hok
 have HOK := Lib.hid hok
 clear hok
 go_enter Tryz.func8,Tryz.ntmps8
 go_upto_region 1 with (fail)
 refine (show ∀ W : World,Hid (AtG W w.heap.size 24 (cfgC L Q C R M)) → Hid (Below w.heap.size w W) → _ from fun W HC HB => ?_) (w.alloc (.cells (cfgC L Q C R M) 24)) HC HB
 have c0 : W.cell? ⟨w.heap.size,0,none⟩ = some (.int .i64 L) := HC.out.cell 0 _ rfl
 have c1 : W.cell? ⟨w.heap.size,1,none⟩ = some (.int .i64 Q) := HC.out.cell 1 _ rfl
 have c2 : W.cell? ⟨w.heap.size,2,none⟩ = some (.int .i64 C) := HC.out.cell 2 _ rfl
 have c3 : W.cell? ⟨w.heap.size,3,none⟩ = some (.int .u64 (R : Int)) := HC.out.cell 3 _ rfl
 have c4 : W.cell? ⟨w.heap.size,4,none⟩ = some (.int .u8 M) := HC.out.cell 4 _ rfl
 go_wp2_with fail
 refine (HR.out _).mono ?_
 rintro e9 w9 ⟨rfl,hw9⟩;subst hw9
 go_wp2_with fail
 refine (HPR.out _).mono ?_
 rintro e9 w4 ⟨hb4,RR,hRR,hr⟩
 have HC4 := Lib.hid (HC.out.below hb4);have HB4 := Lib.hid (HB.out.trans (hb4.mono HB.out.size));have HRR := Lib.hid hRR
 clear hb4 hRR HC HB HPR HR c0 c1 c2 c3 c4 a1 a2 a4 a5 a6 a7
 cases RR with
 | no c x =>
  dsimp only at hr
  subst hr
  have hc : ¬ c = 0 := ru_code HRR.out
  have hcb : (c == 0) = false := beq_eq_false_iff_ne.2 hc
  have hcn : (c != 0) = true := by rw [bne_iff_ne];exact hc
  go_wp2_with fail
  go_returns
  exact ⟨HB4.out,.no c x,⟨HOK.out,.inl HRR.out⟩,rfl⟩
 | ok l =>
  obtain ⟨v,rfl,hv⟩ := hr
  obtain ⟨va0,vc0,rfl⟩ := Ru.RulesAt.form hv
  have HV := Lib.hid hv
  have hl8 : (l.length : Int) ≤ 8 := by have := HRR.out.len;omega
  have HLN := Lib.hid HRR.out.len
  clear hv
  go_wp2_with fail
  go_loopw [13,14] (fun o i wr => ∃ (j : Nat) (ps : List ((Pat × Bool) × Value)),j ≤ l.length ∧ i = .int .i64 j ∧ Hid (OutH 44 w4 ps o wr) ∧ Hid (ps.length ≤ j ∧ ∀ V,Vd L M (l.drop j) j (ps.map (·.1)) V → Vd L M l 0 [] V)) (fun o i _ => l.length - (intOf i).toNat)
  case atStart => exact ⟨0,[],Nat.zero_le _,rfl,Lib.hid ⟨none,0,rfl,own_nil _ _ _ _,Below.refl _ _,fun x h => by cases h⟩,Lib.hid ⟨Nat.le_refl _,fun V h => h⟩⟩
  case round =>
   obtain ⟨j,ps,hj,rfl,HO,HD⟩ := hrel
   obtain ⟨va,vc,rfl,hown,hbel,hkk⟩ := HO.out
   have HY := Lib.hid hbel
   clear hown hbel hkk
   by_cases hlt : j < l.length
   ·have hltI : (j : Int) < l.length := by omega
    have HLT := Lib.hid hlt
    have hdr : l.drop j = l[j] :: l.drop (j + 1) := List.drop_eq_getElem_cons hlt
    obtain ⟨g,rfl,-,z0,z1,z2⟩ := Ru.RulesAt.get (HV.out.below HY.out) (List.getElem?_eq_getElem hlt)
    have HD1 : Hid (ps.length ≤ j ∧ ∀ V,Vd L M (l[j] :: l.drop (j + 1)) j (ps.map (·.1)) V → Vd L M l 0 [] V) := Lib.hid ⟨HD.out.1,fun V h => HD.out.2 V (by rw [hdr];exact h)⟩
    generalize l[j] = r at *
    obtain ⟨rn,rp,rl⟩ := r
    dsimp only at z0 z1 z2
    have HZ2 := Lib.hid z2
    clear hdr HD hj hlt
    go_wp2_with fail
    refine (refP rp _).mono ?_
    rintro e9 w6 ⟨hb6,RX,hRX,hr⟩
    have HO6 := Lib.hid (HO.out.below hb6);have HY6 := Lib.hid (HY.out.trans (hb6.mono HY.out.size));have HRX2 := Lib.hid hRX
    have HOB : Hid (∀ k,(Value.slice va ps.length vc).ownBlock = some k → k < wr.heap.size) := Lib.hid (by obtain ⟨_,_,e,h,_⟩ := HO.out;exact own_lt h)
    have HZ6 := Lib.hid ((hb6.cell (World.block_lt_of_cell? _ _ HZ2.out)).trans HZ2.out)
    have HC6 : Hid (AtG w6 w.heap.size 24 (cfgC L Q C R M)) := Lib.hid (HC4.out.below HY6.out)
    clear hb6 z0 z1 z2 HZ2
    cases RX with
    | no c x =>
     dsimp only at hr
     subst hr
     have HVD := Lib.hid (HD1.out.2 _ (.bad hRX))
     have hc : ¬ c = 0 := by have := rx_no hRX;omega
     have hcb : (c == 0) = false := beq_eq_false_iff_ne.2 hc
     have hcn : (c != 0) = true := by rw [bne_iff_ne];exact hc
     clear hRX HD1
     unfold zeroN
     go_wp2_with fail
     go_returns
     have hb9 := HB4.out.trans (HY6.out.mono HB4.out.size)
     exact ⟨hb9.alloc hb9.size _,.no c j,⟨HOK.out,.inr ⟨l,HRR.out,HVD.out⟩⟩,rfl⟩
    | ok t q =>
     obtain ⟨kv,rfl,hk⟩ := hr
     obtain ⟨p,hp,rfl⟩ : ∃ p,Wf p ∧ t = p.tree := by
      rcases hRX with ⟨_,h⟩ | ⟨h1,h2⟩
      ·cases h
      ·exact P.good (by omega) h2 (Nat.zero_le _) trivial t q rfl
     obtain ⟨ka,kn,kc,rfl⟩ := tree_kv (NAt.of hk)
     have HP := Lib.hid hp
     have HKN : Hid (KAt (fun b => (Value.slice va ps.length vc).ownBlock ≠ some b) w6 p.tree (.slice ka kn kc)) := Lib.hid (hk.mono (fun b hb e => by have := HOB.out b e;have := hb.1;omega))
     have hWD := fun w' (h : NAt w' p.tree (.slice ka kn kc)) => word_any p hp w' ka kn kc (.slice none 0 0) [] h (.inl ⟨rfl,none,0,rfl⟩) (by simp)
     have hMO := fun w' (h : NAt w' p.tree (.slice ka kn kc)) => lenM_any p hp w' ka kn kc h
     have hAN := fun w' (h : NAt w' p.tree (.slice ka kn kc)) => rAny_any p hp w' ka kn kc h
     have HSH := Lib.hid (fun w' => refHas_any (anyP p) M w' HM.out.1 HM.out.2)
     have HMT : Hid (∀ r : Bool,(r = true ↔ Mt (byt []) ([] : List Int).length p 0 ([] : List Int).length) → (r = true ∧ AmRes p L M 5) ∨ (r = false ∧ (L < mostP p → AmRes p L M 6) ∧ (¬ L < mostP p → anyP p M.toNat = true → AmRes p L M 7) ∧ (¬ L < mostP p → anyP p M.toNat = false → AmRes p L M 0))) := Lib.hid (fun r hr => by
      cases r
      ·have hno : ¬ Mt (byt []) 0 p 0 0 := fun h => by have := hr.2 h;cases this
       exact .inr ⟨rfl,fun h => .inr (.inl ⟨hno,h,rfl⟩),fun h h1 => .inr (.inr (.inl ⟨hno,h,h1,rfl⟩)),fun h h1 => .inr (.inr (.inr ⟨hno,h,h1,rfl⟩))⟩
      ·exact .inl ⟨rfl,.inl ⟨hr.1 rfl,rfl⟩⟩)
     have hrl : ruL ((p,rl),.slice ka kn kc) = nodeL p.tree (.slice ka kn kc) ++ [.bool rl] := rfl
     rcases hpt : p.tree with ⟨op,f,mn,mx,kids⟩
     rw [hpt] at hWD hMO hAN hrl
     have HKN' : Hid (NAt w6 (.node op f mn mx kids) (.slice ka kn kc)) := Lib.hid (by rw [← hpt];exact NAt.of HKN.out)
     unfold nodeV at hWD hMO hAN ⊢
     unfold nodeL at hrl
     dsimp only at hWD hMO hAN hrl ⊢
     have HWD := Lib.hid hWD;have HMO := Lib.hid hMO;have HAN := Lib.hid hAN;have HRL := Lib.hid hrl
     clear hk hRX hpt hrl hp hWD hMO hAN
     obtain ⟨any,hany⟩ : ∃ any,anyP p = any := ⟨_,rfl⟩
     obtain ⟨mo,hmo⟩ : ∃ mo,mostP p = mo := ⟨_,rfl⟩
     rw [hmo] at HMO HMT
     rw [hany] at HAN HSH HMT
     clear hany hmo
     go_upto_region 14 with (fail)
     refine (show ∀ w7 : World,w7 = w6.alloc (.cells (nodeC op f mn mx (.slice ka kn kc)) 41) → _ from fun w7 hw7 => ?_) _ rfl
     have HB7 : Hid (Below w6.heap.size w6 w7) := Lib.hid (by rw [hw7];go_grown)
     have HN7 : Hid (AtG w7 w6.heap.size 41 (nodeC op f mn mx (.slice ka kn kc))) := Lib.hid (by rw [hw7];exact AtG.new _ _ _)
     have HC7 := Lib.hid (HC6.out.below HB7.out);have HZ7 := Lib.hid ((HB7.out.cell (World.block_lt_of_cell? _ _ HZ6.out)).trans HZ6.out)
     have HO7 := Lib.hid (HO6.out.below HB7.out);have HY7 := Lib.hid (HY6.out.trans (HB7.out.mono HY6.out.size))
     have HKN7 := Lib.hid (HKN.out.belowD HB7.out);have HKM7 := Lib.hid (HKN'.out.below HB7.out)
     clear hw7 HC6 HZ6 HO6 HY6 HOB HB7 HKN HKN'
     have k0 : (w7).cell? ⟨w6.heap.size,0,none⟩ = some (.int .i64 op) := (HN7.out).cell 0 _ rfl
     have k1 : (w7).cell? ⟨w6.heap.size,1,none⟩ = some (.int .u64 ((wd f 0 : Nat) : Int)) := (HN7.out).cell 1 _ rfl
     have k2 : (w7).cell? ⟨w6.heap.size,2,none⟩ = some (.int .u64 ((wd f 1 : Nat) : Int)) := (HN7.out).cell 2 _ rfl
     have k3 : (w7).cell? ⟨w6.heap.size,3,none⟩ = some (.int .u64 ((wd f 2 : Nat) : Int)) := (HN7.out).cell 3 _ rfl
     have k4 : (w7).cell? ⟨w6.heap.size,4,none⟩ = some (.int .u64 ((wd f 3 : Nat) : Int)) := (HN7.out).cell 4 _ rfl
     have k5 : (w7).cell? ⟨w6.heap.size,5,none⟩ = some (.int .i64 mn) := (HN7.out).cell 5 _ rfl
     have k6 : (w7).cell? ⟨w6.heap.size,6,none⟩ = some (.int .i64 mx) := (HN7.out).cell 6 _ rfl
     have k7 : (w7).cell? ⟨w6.heap.size,7,none⟩ = some (.slice ka kn kc) := (HN7.out).cell 7 _ rfl
     go_wp2_with fail
     refine (HWD.out _ HKM7.out).mono ?_
     rintro e9 w8 ⟨hb8,r,rfl,hr⟩
     have HC8 := Lib.hid (HC7.out.below hb8);have HZ8 := Lib.hid ((hb8.cell (World.block_lt_of_cell? _ _ HZ7.out)).trans HZ7.out);have HN8 := Lib.hid (HN7.out.below hb8)
     have HO8 := Lib.hid (HO7.out.below hb8);have HY8 := Lib.hid (HY7.out.trans (hb8.mono HY7.out.size))
     have HKN8 := Lib.hid (HKN7.out.belowD hb8);have HKM8 := Lib.hid (HKM7.out.below hb8)
     clear hb8 HC7 HZ7 HN7 HO7 HY7 HKN7 HKM7 HWD k0 k1 k2 k3 k4 k5 k6 k7
     rcases HMT.out r hr with ⟨rfl,h5⟩ | ⟨rfl,h6,h7,h0⟩
     ·have HVD := Lib.hid (HD1.out.2 _ (.amiss HRX2.out HP.out h5 (by decide)))
      clear hr h5 HMT
      go_wp2_with fail
      go_returns
      exact ⟨HB4.out.trans (HY8.out.mono HB4.out.size),.no 5 j,⟨HOK.out,.inr ⟨l,HRR.out,HVD.out⟩⟩,rfl⟩
     have H6 := Lib.hid h6;have H7 := Lib.hid h7;have H0 := Lib.hid h0
     clear hr h6 h7 h0 HMT
     go_upto_region 19 with (fail)
     refine Rg.wp_region_each (by kernel_rfl) (fun w' => AtG w' w6.heap.size 41 (nodeC op f mn mx (.slice ka kn kc)) ∧ AtG w' w.heap.size 24 (cfgC L Q C R M) ∧ NAt w' (.node op f mn mx kids) (.slice ka kn kc) ∧ Below w8.heap.size w8 w') (fun w1 w2 h hb => ⟨h.1.below hb,h.2.1.below hb,h.2.2.1.below hb,h.2.2.2.trans (hb.mono h.2.2.2.size)⟩) (by kernel_rfl) (by kernel_rfl) (⟨HN8.out,HC8.out,HKM8.out,Below.refl _ _⟩) ?_
     show Rg.Build _ _ _ _ _ 0 [_,_,_,_,_] []
     refine Rg.cpe 1 rfl rfl (by intro ax wx hk Kx hK;have k15 := hk.base 15 _ rfl rfl;have hj := hk.j;clear hk;have q0 := hj.1.cell 0 _ rfl;have q1 := hj.1.cell 1 _ rfl;have q2 := hj.1.cell 2 _ rfl;have q3 := hj.1.cell 3 _ rfl;have q4 := hj.1.cell 4 _ rfl;have q5 := hj.1.cell 5 _ rfl;have q6 := hj.1.cell 6 _ rfl;have q7 := hj.1.cell 7 _ rfl;have p0 := hj.2.1.cell 0 _ rfl;go_simp;exact Rg.ok hK) ?_
     refine Rg.cpe 2 rfl rfl (by intro ax wx hk Kx hK;have k91 := hk.e 0 91 rfl rfl rfl;have hj := hk.j;clear hk;go_simp;refine (HMO.out _ hj.2.2.1).mono ?_;rintro e w' ⟨rfl,hb⟩;refine hK _ _ ?_ hb;apply Rg.mk) ?_
     refine Rg.cpe 3 rfl rfl (by intro ax wx hk Kx hK;have k3 := hk.base 3 _ rfl rfl;clear hk;go_simp;exact Rg.ok hK) ?_
     refine Rg.cpe 4 rfl rfl (by intro ax wx hk Kx hK;have k93 := hk.e 2 93 rfl rfl rfl;have hj := hk.j;clear hk;have q0 := hj.1.cell 0 _ rfl;have q1 := hj.1.cell 1 _ rfl;have q2 := hj.1.cell 2 _ rfl;have q3 := hj.1.cell 3 _ rfl;have q4 := hj.1.cell 4 _ rfl;have q5 := hj.1.cell 5 _ rfl;have q6 := hj.1.cell 6 _ rfl;have q7 := hj.1.cell 7 _ rfl;have p0 := hj.2.1.cell 0 _ rfl;go_simp;exact Rg.ok hK) ?_
     refine Rg.cpe 5 rfl rfl (by intro ax wx hk Kx hK;have k92 := hk.e 1 92 rfl rfl rfl;have k94 := hk.e 3 94 rfl rfl rfl;clear hk;go_simp;exact Rg.ok hK) ?_
     refine Rg.build_end fun wx hj => ?_
     iterate 5 refine Rg.fin_eq rfl ?_
     refine Rg.fin_nil ?_
     simp only [List.set_cons_zero,List.set_cons_succ]
     have HNA := Lib.hid hj.1;have HCA := Lib.hid hj.2.1;have HKA := Lib.hid hj.2.2.1;have HBA := Lib.hid hj.2.2.2
     clear hj HN8 HC8 HKM8 HMO
     by_cases hL : L < mo
     ·have HVD := Lib.hid (HD1.out.2 _ (.amiss HRX2.out HP.out (H6.out hL) (by decide)))
      go_wp2_with fail
      go_returns
      have hb9 := HB4.out.trans (HY8.out.mono HB4.out.size)
      exact ⟨hb9.trans (HBA.out.mono hb9.size),.no 6 j,⟨HOK.out,.inr ⟨l,HRR.out,HVD.out⟩⟩,rfl⟩
     have H71 := Lib.hid (H7.out (by omega));have H01 := Lib.hid (H0.out (by omega))
     clear H6 H7 H0
     go_upto_region 21 with (fail)
     obtain ⟨wy,hwy⟩ : ∃ wy : World,wy = wx := ⟨_,rfl⟩
     subst hwy
     refine Rg.wp_region_each (by kernel_rfl) (fun w' => AtG w' w6.heap.size 41 (nodeC op f mn mx (.slice ka kn kc)) ∧ AtG w' w.heap.size 24 (cfgC L Q C R M) ∧ NAt w' (.node op f mn mx kids) (.slice ka kn kc) ∧ Below w8.heap.size w8 w') (fun w1 w2 h hb => ⟨h.1.below hb,h.2.1.below hb,h.2.2.1.below hb,h.2.2.2.trans (hb.mono h.2.2.2.size)⟩) (by kernel_rfl) (by kernel_rfl) (⟨HNA.out,HCA.out,HKA.out,HBA.out⟩) ?_
     show Rg.Build _ _ _ _ _ 0 [_,_,_,_,_,_] []
     refine Rg.cpe 1 rfl rfl (by intro ax wx hk Kx hK;have k15 := hk.base 15 _ rfl rfl;have hj := hk.j;clear hk;have q0 := hj.1.cell 0 _ rfl;have q1 := hj.1.cell 1 _ rfl;have q2 := hj.1.cell 2 _ rfl;have q3 := hj.1.cell 3 _ rfl;have q4 := hj.1.cell 4 _ rfl;have q5 := hj.1.cell 5 _ rfl;have q6 := hj.1.cell 6 _ rfl;have q7 := hj.1.cell 7 _ rfl;have p0 := hj.2.1.cell 4 _ rfl;go_simp;exact Rg.ok hK) ?_
     refine Rg.cpe 2 rfl rfl (by intro ax wx hk Kx hK;have k97 := hk.e 0 97 rfl rfl rfl;have hj := hk.j;clear hk;go_simp;refine (HAN.out _ hj.2.2.1).mono ?_;rintro e w' ⟨rfl,hb⟩;refine hK _ _ ?_ hb;apply Rg.mk) ?_
     refine Rg.cpe 3 rfl rfl (by intro ax wx hk Kx hK;have k3 := hk.base 3 _ rfl rfl;clear hk;go_simp;exact Rg.ok hK) ?_
     refine Rg.cpe 4 rfl rfl (by intro ax wx hk Kx hK;have k99 := hk.e 2 99 rfl rfl rfl;have hj := hk.j;clear hk;have q0 := hj.1.cell 0 _ rfl;have q1 := hj.1.cell 1 _ rfl;have q2 := hj.1.cell 2 _ rfl;have q3 := hj.1.cell 3 _ rfl;have q4 := hj.1.cell 4 _ rfl;have q5 := hj.1.cell 5 _ rfl;have q6 := hj.1.cell 6 _ rfl;have q7 := hj.1.cell 7 _ rfl;have p0 := hj.2.1.cell 4 _ rfl;go_simp;exact Rg.ok hK) ?_
     refine Rg.cpe 5 rfl rfl (by intro ax wx hk Kx hK;have k98 := hk.e 1 98 rfl rfl rfl;have k100 := hk.e 3 100 rfl rfl rfl;have hj := hk.j;clear hk;go_simp;refine (HSH.out _).mono ?_;rintro e w' ⟨rfl,hb⟩;refine hK _ _ ?_ hb;apply Rg.mk) ?_
     refine Rg.cpe 6 rfl rfl (by intro ax wx hk Kx hK;have k101 := hk.e 4 101 rfl rfl rfl;have hj := hk.j;clear hk;go_simp;exact Rg.ok hK) ?_
     refine Rg.build_end fun wx hj => ?_
     iterate 6 refine Rg.fin_eq rfl ?_
     refine Rg.fin_nil ?_
     simp only [List.set_cons_zero,List.set_cons_succ]
     have HNB := Lib.hid hj.1;have HBB := Lib.hid hj.2.2.2
     clear hj HNA HCA HKA HBA HAN HSH
     generalize any M.toNat = bb at *
     cases bb
     rotate_left
     ·have HVD := Lib.hid (HD1.out.2 _ (.amiss HRX2.out HP.out (H71.out rfl) (by decide)))
      go_wp2_with fail
      go_returns
      have hb9 := HB4.out.trans (HY8.out.mono HB4.out.size)
      exact ⟨hb9.trans (HBB.out.mono hb9.size),.no 7 j,⟨HOK.out,.inr ⟨l,HRR.out,HVD.out⟩⟩,rfl⟩
     have hcd := H01.out rfl
     clear H01 H71
     have HD2 : Hid ((ps ++ [((p,rl),Value.slice ka kn kc)]).length ≤ j + 1 ∧ ∀ V,Vd L M (l.drop (j + 1)) (j + 1) ((ps ++ [((p,rl),Value.slice ka kn kc)]).map (·.1)) V → Vd L M l 0 [] V) := Lib.hid ⟨by have := HD1.out.1;simp;omega,fun V h => HD1.out.2 V (.next HRX2.out HP.out hcd (by simpa using h))⟩
     have hPL : ps.length ≤ 8 := by have := HD1.out.1;have := HLT.out;have := HLN.out;omega
     have HOC := Lib.hid (HO8.out.below HBB.out);have HKC := Lib.hid (HKN8.out.belowD HBB.out);have HZC := Lib.hid ((HBB.out.cell (World.block_lt_of_cell? _ _ HZ8.out)).trans HZ8.out)
     clear HD1 HBB HO8 HKN8 HZ8 HY8 hcd
     have hrl9 := HRL.out
     simp only [List.cons_append,List.nil_append] at hrl9
     have hone := ruL_one ((p,rl),Value.slice ka kn kc) ⟨_,_,_,rfl⟩
     rw [hrl9] at hone
     go_upto_region 24 with (fail)
     obtain ⟨wy2,hwy2⟩ : ∃ wy : World,wy = wx := ⟨_,rfl⟩
     subst hwy2
     refine RgX.start (by kernel_rfl) [(9,fun _ _ => True)] [⟨fun w' => AtG w' w6.heap.size 41 (nodeC op f mn mx (.slice ka kn kc)) ∧ w'.cell? ⟨g,j * 3 + 2,none⟩ = some (.bool rl) ∧ OutH 44 w4 ps (.slice va ps.length vc) w' ∧ KAt (fun b => (Value.slice va ps.length vc).ownBlock ≠ some b) w' p.tree (.slice ka kn kc),some 9⟩] ⟨⟨fun w1 w2 h hb => ⟨h.1.below hb,(hb.cell (World.block_lt_of_cell? _ _ h.2.1)).trans h.2.1,h.2.2.1.below hb,h.2.2.2.belowD hb⟩,⟨fun _ h _ _ => absurd rfl h,trivial⟩⟩,trivial⟩ (by kernel_rfl) (by kernel_rfl) ⟨⟨HNB.out,HZC.out,HOC.out.below (Below.refl _ _).drew,HKC.out.belowD (Below.refl _ _).drew⟩,trivial⟩ ?_
     show RgX.Build _ _ _ _ _ _ 0 [_,_,_,_,_,_,_,_,_,_,_] []
     refine RgX.cp 1 rfl rfl (by intro ax wx hk Kx hK;have k13 := hk.late 13 _ 12 rfl rfl;have hA := hk.fact 0 1 _ rfl rfl;(try dsimp only at hA);clear hk;go_simp;exact hK _ _ (fun h => by cases h) (fun _ _ => rfl) (Below.refl _ _)) ?_
     refine RgX.cp 2 rfl rfl (by intro ax wx hk Kx hK;have k15 := hk.base 15 _ rfl rfl;have hA := hk.fact 0 3 _ rfl rfl;(try dsimp only at hA);clear hk;have q0 := hA.1.cell 0 _ rfl;have q1 := hA.1.cell 1 _ rfl;have q2 := hA.1.cell 2 _ rfl;have q3 := hA.1.cell 3 _ rfl;have q4 := hA.1.cell 4 _ rfl;have q5 := hA.1.cell 5 _ rfl;have q6 := hA.1.cell 6 _ rfl;have q7 := hA.1.cell 7 _ rfl;go_simp;exact hK _ _ (fun h => by cases h) (fun _ _ => rfl) (Below.refl _ _)) ?_
     refine RgX.cp 3 rfl rfl (by intro ax wx hk Kx hK;have k10 := hk.base 10 _ rfl rfl;have hA := hk.fact 0 6 _ rfl rfl;(try dsimp only at hA);clear hk;go_simp;exact hK _ _ (fun h => by cases h) (fun _ _ => rfl) (Below.refl _ _)) ?_
     refine RgX.cp 4 rfl rfl (by intro ax wx hk Kx hK;have k14 := hk.base 14 _ rfl rfl;have hA := hk.fact 0 6 _ rfl rfl;(try dsimp only at hA);clear hk;go_simp;exact hK _ _ (fun h => by cases h) (fun _ _ => rfl) (Below.refl _ _)) ?_
     refine RgX.cp 5 rfl rfl (by intro ax wx hk Kx hK;have k106 := hk.e 0 2 106 rfl rfl rfl;have k107 := hk.e 0 3 107 rfl rfl rfl;clear hk;go_simp;exact hK _ _ (fun h => by cases h) (fun _ _ => rfl) (Below.refl _ _)) ?_
     refine RgX.cp 6 rfl rfl (by intro ax wx hk Kx hK;have k108 := hk.e 0 4 108 rfl rfl rfl;clear hk;go_simp;exact hK _ _ (fun h => by cases h) (fun _ _ => rfl) (Below.refl _ _)) ?_
     refine RgX.cp 7 rfl rfl (by intro ax wx hk Kx hK;have k109 := hk.e 0 5 109 rfl rfl rfl;have hA := hk.fact 0 3 _ rfl rfl;(try dsimp only at hA);clear hk;have q0 := hA.2.1;go_simp;exact hK _ _ (fun h => by cases h) (fun _ _ => rfl) (Below.refl _ _)) ?_
     refine RgX.cp 8 rfl rfl (by intro ax wx hk Kx hK;have k105 := hk.e 0 1 105 rfl rfl rfl;have k110 := hk.e 0 6 110 rfl rfl rfl;have hA := hk.fact 0 2 _ rfl rfl;(try dsimp only at hA);clear hk;go_simp;exact hK _ _ (fun h => by cases h) (fun _ _ => rfl) (Below.refl _ _)) ?_
     refine RgX.build_cons (m := 9) (r := (⟨fun v _ w4 => ∃ k,v = .slice (some ⟨k,0,none⟩) 1 1 ∧ AtG w4 k 44 #[.int .i64 op,.int .u64 ((wd f 0 : Nat) : Int),.int .u64 ((wd f 1 : Nat) : Int),.int .u64 ((wd f 2 : Nat) : Int),.int .u64 ((wd f 3 : Nat) : Int),.int .i64 mn,.int .i64 mx,.slice ka kn kc,.bool rl],some 9,none⟩ : RgX.Rl)) (RgX.one_plain rfl (by intro ax wx hk Kx hK;have k111 := hk.e 0 7 111 rfl rfl rfl;have hA := hk.fact 0 1 _ rfl rfl;(try dsimp only at hA);clear hk;(go_simp;exact hK _ _ (fun h => by cases h) (fun u _ => ⟨wx.heap.size,rfl,AtG.new _ _ _⟩) ((Below.refl _ _).alloc (Nat.le_refl _) _)))) ?_ rfl (RgX.keep_r (fun _ _ _ _ h hb => by obtain ⟨k,h1,h3⟩ := h;exact ⟨k,h1,h3.below hb⟩) (fun _ _ => ⟨fun _ h _ _ => absurd rfl h,trivial⟩)) (fun _ h => by cases h)
     refine RgX.build_cons (m := 10) (r := (⟨fun v _ w5 => OutH 44 w4 (ps ++ [((p,rl),Value.slice ka kn kc)]) v w5,none,none⟩ : RgX.Rl)) (RgX.one_plain rfl (by intro ax wx hk Kx hK;have k104 := hk.e 0 0 104 rfl rfl rfl;obtain ⟨v112,k112,h112⟩ := hk.dep 0 8 112 _ rfl rfl rfl;(first | (replace h112 := h112 9 undef rfl rfl;first | (cases (h112 : v112 = _)) | (obtain ⟨rfl,h112⟩ := h112) | skip) | skip);have hA := hk.fact 0 0 _ rfl rfl;(try dsimp only at hA);clear hk;(obtain ⟨k,rfl,hk1⟩ := h112;obtain ⟨_,_,e,hO,hY,_⟩ := hA.2.2.1;cases e;refine wp_appRowX (.tmp 104) (.tmp 112) 31 rfl w4.heap.size 44 _ 9 88 Tryz.underlying31 infoRB rfl (by decide) _ _ ps.length 1 _ _ hO (src_at hk1 1) (by simp [Act.eval,k104]) (by simp [Act.eval,k112]) rfl hone (by omega) (by decide) hY.size ?_;intro v' w' ho hg hbk;exact hK _ _ (fun h => by cases h) (fun u _ => OutH.app (y := ((p,rl),Value.slice ka kn kc)) hA.2.2.1 hA.2.2.2 (by rw [hrl9];exact ho) hg hbk) trivial))) ?_ rfl (RgX.keep_r (fun _ _ _ _ h hb => OutH.below h hb) (fun _ _ => ⟨fun h _ _ _ => absurd rfl h,trivial⟩)) (fun _ h => by cases h)
     refine RgX.build_cons (m := 11) (r := (⟨fun v _ w5 => OutH 44 w4 (ps ++ [((p,rl),Value.slice ka kn kc)]) v w5,none,none⟩ : RgX.Rl)) (RgX.one_plain rfl (by intro ax wx hk Kx hK;obtain ⟨v113,k113,h113⟩ := hk.dep 0 9 113 _ rfl rfl rfl;(first | (replace h113 := h113 9 undef rfl rfl;first | (cases (h113 : v113 = _)) | (obtain ⟨rfl,h113⟩ := h113) | skip) | skip);clear hk;(go_simp;exact hK _ _ (fun h => by cases h) (fun u _ => h113) (Below.refl _ _)))) ?_ rfl (RgX.keep_r (fun _ _ _ _ h hb => OutH.below h hb) (fun _ _ => ⟨fun _ _ _ h => absurd ⟨1,rfl⟩ h,trivial⟩)) (fun _ h => by cases h)
     refine RgX.build_end fun wx hj => ?_
     clear hj
     iterate 8 refine RgX.fin_eq rfl ?_
     first | refine RgX.fin_eq rfl ?_ | refine RgX.fin_any rfl fun v112 h112 => ?_
     first | refine RgX.fin_eq rfl ?_ | refine RgX.fin_any rfl fun v113 h113 => ?_
     first | refine RgX.fin_eq rfl ?_ | refine RgX.fin_any rfl fun v13 h13 => ?_
     refine RgX.fin_nil ?_
     simp only [List.set_cons_zero,List.set_cons_succ]
     have hZ := h13 rfl undef rfl
     have HZO := Lib.hid hZ
     clear hZ
     go_wp2_with fail
     exact ⟨⟨j + 1,ps ++ [((p,rl),Value.slice ka kn kc)],HLT.out,by go_num,HZO,HD2⟩,by have := HLT.out;simp [intOf];try omega⟩
   ·obtain rfl : j = l.length := by omega
    have HVD := Lib.hid (HD.out.2 (.inl (ps.map (·.1))) (by rw [List.drop_length];exact .done))
    clear hlt hj HD
    go_wp2
    go_returns
    refine ⟨HB4.out.trans (HY.out.mono HB4.out.size),.ok (ps.map (·.1)),⟨HOK.out,l,HRR.out,HVD.out⟩,_,by rw [HK.out],?_⟩
    exact out_ownH HO.out
end Go.Proofs.YtgjcibhhffkemaaGreatDoor.Ve
namespace Go.Proofs.YtgjcibhhffkemaaGreatDoor.Ve
open Go.RowKit Bt Fl
theorem vd_len {L M : Int} {l : List Ru.Rl} {i : Nat} {out : List (Pat × Bool)} {R} (h : Vd L M l i out R) : ∀ o,R = .inl o → o.length ≤ out.length + l.length := by
 induction h with
 | done => intro o e;cases e;simp
 | bad => intro o e;cases e
 | amiss => intro o e;cases e
 | next h h1 h2 h3 ih => intro o e;have := ih o e;simp at this ⊢;omega
theorem out_at {w : World} {A : Option Addr} {n c : Nat} {rs : List (Pat × Bool)} (h : OutAt w (.slice A n c) rs) {j : Nat} {p : Pat} {lu : Bool} (hj : rs[j]? = some (p,lu)) :
  ∃ b off,A = some ⟨b,off,none⟩ ∧ rs.length ≤ c ∧ ∃ op f mn mx kids ka kn kc,p.tree = .node op f mn mx kids ∧ Cell8 w b (off + j * 9) op f mn mx (.slice ka kn kc) ∧ w.cell? ⟨b,off + j * 9 + 8,none⟩ = some (.bool lu) ∧ NAt w p.tree (.slice ka kn kc) := by
 rcases h with ⟨rfl,_⟩ | ⟨b,off,cap,h1,h2,h3⟩
 ·cases hj
 ·injection h1 with h4 h5 h6
  subst h4;subst h6
  obtain ⟨kv,h7,h8,h9⟩ := h3 j _ hj
  obtain ⟨ka,kn,kc,rfl⟩ := tree_kv h9
  dsimp only at h7 h8 h9
  refine ⟨b,off,rfl,h2,?_⟩
  rcases hpt : p.tree with ⟨op,f,mn,mx,kids⟩
  rw [hpt] at h7 h9
  exact ⟨op,f,mn,mx,kids,ka,kn,kc,rfl,⟨h7 0 (by omega),h7 1 (by omega),h7 2 (by omega),h7 3 (by omega),h7 4 (by omega),h7 5 (by omega),h7 6 (by omega),h7 7 (by omega)⟩,h8,h9⟩
end Go.Proofs.YtgjcibhhffkemaaGreatDoor.Ve
namespace Go.Proofs.YtgjcibhhffkemaaGreatDoor
open Go.RowKit Bt
theorem part4 (a b c d : Int) : (∀ w : World,(part 22 (setC a b c d) 0).run Tryz.prog w = .ok (.int .u64 a) w) ∧ (∀ w : World,(part 22 (setC a b c d) 1).run Tryz.prog w = .ok (.int .u64 b) w) ∧
  (∀ w : World,(part 22 (setC a b c d) 2).run Tryz.prog w = .ok (.int .u64 c) w) ∧ (∀ w : World,(part 22 (setC a b c d) 3).run Tryz.prog w = .ok (.int .u64 d) w) :=
 ⟨fun _ => by kernel_rfl,fun _ => by kernel_rfl,fun _ => by kernel_rfl,fun _ => by kernel_rfl⟩
theorem cells64 : Tryz.prog.cellsOf 22 = 1 := by kernel_rfl
theorem info64 : ∃ i,Tryz.prog.info? 22 = some i := by
 have h : (Tryz.prog.info? 22).isSome = true := by kernel_rfl
 exact Option.isSome_iff_exists.1 h
theorem eq_set (a b c d a' b' c' d' : Int) (w : World) :
  (Op.equal 38 (setV a b c d) (setV a' b' c' d')).run Tryz.prog w = .ok (a == a' && (b == b' && (c == c' && d == d'))) w := by
 obtain ⟨i,hi⟩ := info64
 obtain ⟨p0,p1,p2,p3⟩ := part4 a b c d
 obtain ⟨q0,q1,q2,q3⟩ := part4 a' b' c' d'
 have he := fun (x y : Int) => run_equalIn_int (P := Tryz.prog) w 9998 22 .u64 .u64 x y Tryz.underlying22
 simp only [Nat.reduceAdd] at he
 show (Op.equalIn (9999 + 1) 38 (.agg (setC a b c d)) (.agg (setC a' b' c' d'))).run Tryz.prog w = _
 rw [run_equalIn_array w 9999 _ _ Tryz.underlying38 hi,cells64]
 simp only [show List.range 4 = [0,1,2,3] from rfl,Op.eqItems,Nat.mul_one,Sem.run_bind,p0,q0,Result.andThen_ok,he]
 have he0 := he a a';have he1 := he b b';have he2 := he c c';have he3 := he d d'
 clear he
 generalize (a == a') = r0 at *
 generalize (b == b') = r1 at *
 generalize (c == c') = r2 at *
 generalize (d == d') = r3 at *
 cases r0 <;> cases r1 <;> cases r2 <;> cases r3 <;> simp [p1,p2,p3,q1,q2,q3,he1,he2,he3]
theorem eq_self (a b c d : Int) (w : World) : (Op.equalIn 10000 38 (.agg #[.int .u64 a,.int .u64 b,.int .u64 c,.int .u64 d]) (.agg #[.int .u64 a,.int .u64 b,.int .u64 c,.int .u64 d])).run Tryz.prog w = .ok true w := by
 have := eq_set a b c d a b c d w;simpa [Op.equal,Op.maxDepth] using this
def SameC (t : Tree) : Prop := ∀ (w : World) (kv kv' : Value),NAt w t kv → NAt w t kv' → Calls Tryz.prog 10 #[nodeV t kv,nodeV t kv'] w fun e w' => e = .returned (.bool true) ∧ Below w.heap.size w w'
set_option maxRecDepth 100000 in
set_option maxHeartbeats 1600000 in
theorem same_node (op : Int) (f : Nat → Bool) (mn mx : Int) (kids : List Tree) (ih : ∀ t ∈ kids,SameC t) (hk : kids.length ≤ 1000) : SameC (.node op f mn mx kids) := by
 intro w kv kv' h1 h2
 obtain ⟨A,a,rfl⟩ := KAt.slice h1
 obtain ⟨B,b,rfl⟩ := KAt.slice h2
 have H1 := Lib.hid h1;have H2 := Lib.hid h2
 obtain ⟨n,hn⟩ : ∃ n,n = kids.length := ⟨_,rfl⟩
 rw [← hn] at H1 H2 hk ⊢
 have HN := Lib.hid hn
 have hnI : (n : Int) ≤ 1000 := by omega
 obtain ⟨W,hW⟩ : ∃ W : World,W = (w.alloc (.cells (nodeC op f mn mx (.slice A n a)) 41)).alloc (.cells (nodeC op f mn mx (.slice B n b)) 41) := ⟨_,rfl⟩
 have HC1 := Lib.hid (show AtG W w.heap.size 41 (nodeC op f mn mx (.slice A n a)) by rw [hW];exact (AtG.new _ _ _).alloc _)
 have HC2 := Lib.hid (show AtG W (w.heap.size + 1) 41 (nodeC op f mn mx (.slice B n b)) by
  rw [hW]
  have := AtG.new (w.alloc (.cells (nodeC op f mn mx (.slice A n a)) 41)) 41 (nodeC op f mn mx (.slice B n b))
  simpa using this)
 have HB := Lib.hid (show Below w.heap.size w W by rw [hW];go_grown)
 have hW' : (w.alloc (.cells #[.int .i64 op,.int .u64 ((wd f 0 : Nat) : Int),.int .u64 ((wd f 1 : Nat) : Int),.int .u64 ((wd f 2 : Nat) : Int),.int .u64 ((wd f 3 : Nat) : Int),.int .i64 mn,.int .i64 mx,.slice A n a] 41)).alloc (.cells #[.int .i64 op,.int .u64 ((wd f 0 : Nat) : Int),.int .u64 ((wd f 1 : Nat) : Int),.int .u64 ((wd f 2 : Nat) : Int),.int .u64 ((wd f 3 : Nat) : Int),.int .i64 mn,.int .i64 mx,.slice B n b] 41) = W := hW.symm
 have es := eq_self
 clear h1 h2 hn hW
 unfold nodeV
 dsimp only
 have k0 : (W).cell? ⟨w.heap.size,0,none⟩ = some (.int .i64 op) := (HC1.out).cell 0 _ rfl
 have k1 : (W).cell? ⟨w.heap.size,1,none⟩ = some (.int .u64 ((wd f 0 : Nat) : Int)) := (HC1.out).cell 1 _ rfl
 have k2 : (W).cell? ⟨w.heap.size,2,none⟩ = some (.int .u64 ((wd f 1 : Nat) : Int)) := (HC1.out).cell 2 _ rfl
 have k3 : (W).cell? ⟨w.heap.size,3,none⟩ = some (.int .u64 ((wd f 2 : Nat) : Int)) := (HC1.out).cell 3 _ rfl
 have k4 : (W).cell? ⟨w.heap.size,4,none⟩ = some (.int .u64 ((wd f 3 : Nat) : Int)) := (HC1.out).cell 4 _ rfl
 have k5 : (W).cell? ⟨w.heap.size,5,none⟩ = some (.int .i64 mn) := (HC1.out).cell 5 _ rfl
 have k6 : (W).cell? ⟨w.heap.size,6,none⟩ = some (.int .i64 mx) := (HC1.out).cell 6 _ rfl
 have k7 : (W).cell? ⟨w.heap.size,7,none⟩ = some (.slice A n a) := (HC1.out).cell 7 _ rfl
 have m0 : (W).cell? ⟨w.heap.size + 1,0,none⟩ = some (.int .i64 op) := (HC2.out).cell 0 _ rfl
 have m1 : (W).cell? ⟨w.heap.size + 1,1,none⟩ = some (.int .u64 ((wd f 0 : Nat) : Int)) := (HC2.out).cell 1 _ rfl
 have m2 : (W).cell? ⟨w.heap.size + 1,2,none⟩ = some (.int .u64 ((wd f 1 : Nat) : Int)) := (HC2.out).cell 2 _ rfl
 have m3 : (W).cell? ⟨w.heap.size + 1,3,none⟩ = some (.int .u64 ((wd f 2 : Nat) : Int)) := (HC2.out).cell 3 _ rfl
 have m4 : (W).cell? ⟨w.heap.size + 1,4,none⟩ = some (.int .u64 ((wd f 3 : Nat) : Int)) := (HC2.out).cell 4 _ rfl
 have m5 : (W).cell? ⟨w.heap.size + 1,5,none⟩ = some (.int .i64 mn) := (HC2.out).cell 5 _ rfl
 have m6 : (W).cell? ⟨w.heap.size + 1,6,none⟩ = some (.int .i64 mx) := (HC2.out).cell 6 _ rfl
 have m7 : (W).cell? ⟨w.heap.size + 1,7,none⟩ = some (.slice B n b) := (HC2.out).cell 7 _ rfl
 go_enter Tryz.func10,Tryz.ntmps10
 go_wp2_with fail
 clear hW' k0 k1 k2 k3 k4 k5 k6 k7 m0 m1 m2 m3 m4 m5 m6 m7 es
 go_loopw [5] (fun i wr => ∃ j : Nat,j ≤ n ∧ i = .int .i64 j ∧ Below W.heap.size W wr) (fun i _ => n - (intOf i).toNat)
 case atStart => exact ⟨0,Nat.zero_le _,rfl,Below.refl _ _⟩
 case round =>
  obtain ⟨j,hj,rfl,hb⟩ := hrel
  have HBr := Lib.hid hb
  clear hb
  by_cases hlt : j < n
  ·have hltI : (j : Int) < n := by omega
   have hlk : j < kids.length := by have := HN.out;omega
   obtain ⟨b1,o1,c1,he1,hc1,op',f',mn',mx',kids',ka,kc,ht,h8,hn1⟩ := kid_at H1.out (List.getElem?_eq_getElem hlk)
   obtain ⟨b2,o2,c2,he2,hc2,op2,f2,mn2,mx2,kids2,ka2,kc2,ht2,g8,hn2⟩ := kid_at H2.out (List.getElem?_eq_getElem hlk)
   injection he1 with e1 e2 e3
   injection he2 with e4 e5 e6
   subst e1;subst e3;subst e4;subst e6
   have hI := ih kids[j] (List.getElem_mem hlk)
   rw [ht] at ht2
   injection ht2 with i1 i2 i3 i4 i5
   subst i1;subst i2;subst i3;subst i4;subst i5
   rw [ht] at hI hn1 hn2
   have HI := Lib.hid (fun (w1 : World) (hb : Below w.heap.size w w1) => hI w1 _ _ (hn1.below hb) (hn2.below hb))
   unfold nodeV at HI
   dsimp only at HI
   have HPRE : Hid (∀ wx : World,Below W.heap.size W wx → Cell8 wx b1 (o1 + j * 8) op' f' mn' mx' (.slice ka kids'.length kc) ∧ Cell8 wx b2 (o2 + j * 8) op' f' mn' mx' (.slice ka2 kids'.length kc2) ∧ wx.cell? ⟨w.heap.size,7,none⟩ = some (.slice (some ⟨b1,o1,none⟩) n a) ∧ wx.cell? ⟨w.heap.size + 1,7,none⟩ = some (.slice (some ⟨b2,o2,none⟩) n b)) := Lib.hid (fun wx hb =>
    have hbw := HB.out.trans (hb.mono HB.out.size)
    ⟨h8.below hbw,g8.below hbw,(hb.cell (p := ⟨w.heap.size,7,none⟩) HC1.out.lt).trans (HC1.out.cell 7 _ rfl),(hb.cell (p := ⟨w.heap.size + 1,7,none⟩) HC2.out.lt).trans (HC2.out.cell 7 _ rfl)⟩)
   obtain ⟨kn,hkn⟩ : ∃ kn,kn = kids'.length := ⟨_,rfl⟩
   rw [← hkn] at HPRE HI
   have hc1' : n ≤ a := by have := HN.out;omega
   have hc2' : n ≤ b := by have := HN.out;omega
   clear hkn ht hI hn1 hn2 h8 g8 e2 e5 hc1 hc2
   have q7 := (HPRE.out wr HBr.out).2.2.1
   go_upto_region 6 with (fail)
   refine Rg.wp_region_each (by kernel_rfl) (fun w' => Below W.heap.size W w') (fun w1 w2 h hb => h.trans (hb.mono h.size)) (by kernel_rfl) (by kernel_rfl) (HBr.out) ?_
   show Rg.Build _ _ _ _ _ 0 [_,_,_,_,_,_,_,_,_,_,_,_] []
   refine Rg.cpe 1 rfl rfl (by intro ax wx hk Kx hK;have k2 := hk.base 2 _ rfl rfl;clear hk;go_simp;exact Rg.ok hK) ?_
   refine Rg.cpe 2 rfl rfl (by intro ax wx hk Kx hK;have k49 := hk.e 0 49 rfl rfl rfl;have hj := hk.j;clear hk;obtain ⟨⟨c0,c1,c2,c3,c4,c5,c6,c7⟩,⟨g0,g1,g2,g3,g4,g5,g6,g7⟩,r1,r2⟩ := HPRE.out wx hj;go_simp;exact Rg.ok hK) ?_
   refine Rg.cpe 3 rfl rfl (by intro ax wx hk Kx hK;have k5 := hk.base 5 _ rfl rfl;have hj := hk.j;clear hk;go_simp;exact Rg.ok hK) ?_
   refine Rg.cpe 4 rfl rfl (by intro ax wx hk Kx hK;have k50 := hk.e 1 50 rfl rfl rfl;have k51 := hk.e 2 51 rfl rfl rfl;clear hk;go_simp;exact Rg.ok hK) ?_
   refine Rg.cpe 5 rfl rfl (by intro ax wx hk Kx hK;have k52 := hk.e 3 52 rfl rfl rfl;have hj := hk.j;clear hk;obtain ⟨⟨c0,c1,c2,c3,c4,c5,c6,c7⟩,⟨g0,g1,g2,g3,g4,g5,g6,g7⟩,r1,r2⟩ := HPRE.out wx hj;go_simp;exact Rg.ok hK) ?_
   refine Rg.cpe 6 rfl rfl (by intro ax wx hk Kx hK;have k3 := hk.base 3 _ rfl rfl;clear hk;go_simp;exact Rg.ok hK) ?_
   refine Rg.cpe 7 rfl rfl (by intro ax wx hk Kx hK;have k54 := hk.e 5 54 rfl rfl rfl;have hj := hk.j;clear hk;obtain ⟨⟨c0,c1,c2,c3,c4,c5,c6,c7⟩,⟨g0,g1,g2,g3,g4,g5,g6,g7⟩,r1,r2⟩ := HPRE.out wx hj;go_simp;exact Rg.ok hK) ?_
   refine Rg.cpe 8 rfl rfl (by intro ax wx hk Kx hK;have k5 := hk.base 5 _ rfl rfl;have hj := hk.j;clear hk;go_simp;exact Rg.ok hK) ?_
   refine Rg.cpe 9 rfl rfl (by intro ax wx hk Kx hK;have k55 := hk.e 6 55 rfl rfl rfl;have k56 := hk.e 7 56 rfl rfl rfl;clear hk;go_simp;exact Rg.ok hK) ?_
   refine Rg.cpe 10 rfl rfl (by intro ax wx hk Kx hK;have k57 := hk.e 8 57 rfl rfl rfl;have hj := hk.j;clear hk;obtain ⟨⟨c0,c1,c2,c3,c4,c5,c6,c7⟩,⟨g0,g1,g2,g3,g4,g5,g6,g7⟩,r1,r2⟩ := HPRE.out wx hj;go_simp;exact Rg.ok hK) ?_
   refine Rg.cpe 11 rfl rfl (by intro ax wx hk Kx hK;have k53 := hk.e 4 53 rfl rfl rfl;have k58 := hk.e 9 58 rfl rfl rfl;have hj := hk.j;clear hk;go_simp;refine (HI.out _ (HB.out.trans (hj.mono HB.out.size))).mono ?_;rintro e w' ⟨rfl,hb⟩;refine hK _ _ ?_ hb;apply Rg.mk) ?_
   refine Rg.cpe 12 rfl rfl (by intro ax wx hk Kx hK;have k59 := hk.e 10 59 rfl rfl rfl;have hj := hk.j;clear hk;go_simp;exact Rg.ok hK) ?_
   refine Rg.build_end fun wx hj => ?_
   iterate 12 refine Rg.fin_eq rfl ?_
   refine Rg.fin_nil ?_
   simp only [List.set_cons_zero,List.set_cons_succ]
   have HJ := Lib.hid hj
   clear hj q7
   go_wp2_with fail
   exact ⟨⟨j + 1,by omega,by go_num,HJ.out⟩,by simp [intOf];omega⟩
  ·obtain rfl : j = n := by omega
   have q7 : wr.cell? ⟨w.heap.size,7,none⟩ = some (.slice A j a) := (HBr.out.cell (p := ⟨w.heap.size,7,none⟩) HC1.out.lt).trans (HC1.out.cell 7 _ rfl)
   go_wp2_with fail
   go_returns
   exact ⟨rfl,HB.out.trans (HBr.out.mono HB.out.size)⟩
theorem same_any (t : Tree) : ∀ {w : World} {kv : Value},NAt w t kv → SameC t := by
 refine Tree.rec (motive_1 := fun t => ∀ {w : World} {kv : Value},NAt w t kv → SameC t) (motive_2 := fun l => ∀ t ∈ l,∀ {w : World} {kv : Value},NAt w t kv → SameC t) ?_ ?_ ?_ t
 ·intro op f mn mx kids ih w kv h
  have hl : kids.length ≤ 1000 := by
   unfold NAt at h
   rw [KAt] at h
   rcases h with ⟨h,_⟩ | ⟨_,h,_⟩
   ·rw [h];simp
   ·exact h
  refine same_node op f mn mx kids (fun t ht => ?_) hl
  obtain ⟨j,hj,rfl⟩ := List.getElem_of_mem ht
  obtain ⟨_,_,_,_,_,_,_,_,_,_,_,_,_,_,hn⟩ := kid_at h (List.getElem?_eq_getElem hj)
  exact ih _ ht hn
 ·intro t ht;cases ht
 ·intro t l h1 h2 u hu w kv h
  rcases List.mem_cons.1 hu with rfl | hu
  ·exact h1 h
  ·exact h2 u hu h
end Go.Proofs.YtgjcibhhffkemaaGreatDoor
namespace Go.Proofs.YtgjcibhhffkemaaGreatDoor.Ve
open Go.RowKit Bt Fl
set_option maxRecDepth 100000 in
theorem spot_code (w : World) : Calls Tryz.prog 9 #[errCode 1] w fun e w' => e = .returned (.tuple #[.int .i64 1,.int .i64 (-1)]) ∧ w' = w := by
 unfold errCode
 have h1 : (binOp BinOp.eql 28 (.iface 71 (.int .i64 1)) .nilIface).run Tryz.prog w = .ok (.bool false) w := by rfl
 have h2 : (Instr.typeAssert (.iface 71 (.int .i64 1)) 28 68 true).run Tryz.prog w = .ok (.tuple #[.pointer none,.bool false]) w := by rfl
 have hC := fun w => code_some 1 w
 go_enter Tryz.func9,Tryz.ntmps9
 go_wp2_with fail
 refine (hC _).mono ?_
 rintro e9 w9 ⟨rfl,hw9⟩;subst hw9
 go_wp2_with fail
 go_returns
 exact ⟨rfl,rfl⟩
set_option maxRecDepth 100000 in
set_option maxHeartbeats 4000000 in
theorem verdictTells_walk (s : ByteArray) (L Q C : Int) (R : Nat) (M : Int) (w : World) (hR : R < 18446744073709551616) (hM0 : 0 ≤ M) (hM1 : M ≤ 255) (he : ErrAt w) :
  Calls Tryz.prog 3 #[.string s,cfgV L Q C R M] w fun e w' => e = .returned (.bool true) ∧ Below w.heap.size w w' := by
 have HE := Lib.hid he
 have HC : Hid (AtG (w.alloc (.cells (cfgC L Q C R M) 24)) w.heap.size 24 (cfgC L Q C R M)) := Lib.hid (AtG.new _ _ _)
 have HB : Hid (Below w.heap.size w (w.alloc (.cells (cfgC L Q C R M) 24))) := Lib.hid ((Below.refl _ _).alloc (Nat.le_refl _) _)
 have HUP := Lib.hid (fun w he => up15_any w he)
 have hCK := fun w (hs : s.size ≤ 10000) (he : ErrAt w) => ckX s L Q C R M hR hM0 hM1 hs w he
 have hCR := fun w (hs : s.size ≤ 10000) => ckR s L Q C R M hR hM0 hM1 hs w
 unfold cfgV at hCK hCR ⊢
 by_cases hbig : 5000 < s.size
 ·have hbigI : (5000 : Int) < s.size := by omega
  clear hM0 hM1 hR hCK hCR he hbig
  go_enter Tryz.func3,Tryz.ntmps3
  go_upto_region 1 with (fail)
  refine (show ∀ W : World,Hid (Below w.heap.size w W) → _ from fun W HB => ?_) (w.alloc (.cells (cfgC L Q C R M) 24)) HB
  go_wp2_with fail
  refine (HUP.out _ (HE.out.below HB.out)).mono ?_
  rintro e9 w1 ⟨rfl,hb1⟩
  have HB1 := Lib.hid (HB.out.trans (hb1.mono HB.out.size))
  clear hb1 HB
  go_wp2_with fail
  go_returns
  exact ⟨rfl,HB1.out⟩
 have hs1 : ¬ (5000 : Int) < s.size := by omega
 have HCK := Lib.hid (fun w (he : ErrAt w) => hCK w (by omega) he)
 have HCR := Lib.hid (fun w => hCR w (by omega))
 clear hM0 hM1 hCK hCR he hbig hR
 go_enter Tryz.func3,Tryz.ntmps3
 go_upto_region 1 with (fail)
 refine (show ∀ W : World,Hid (AtG W w.heap.size 24 (cfgC L Q C R M)) → Hid (Below w.heap.size w W) → _ from fun W HC HB => ?_) (w.alloc (.cells (cfgC L Q C R M) 24)) HC HB
 go_wp2_with fail
 refine (HUP.out _ (HE.out.below HB.out)).mono ?_
 rintro e9 w1 ⟨rfl,hb1⟩
 have HB1 := Lib.hid (HB.out.trans (hb1.mono HB.out.size));have HC1 := Lib.hid (HC.out.below hb1)
 clear hb1 HB HC HUP
 have c0 : w1.cell? ⟨w.heap.size,0,none⟩ = some (.int .i64 L) := HC1.out.cell 0 _ rfl
 have c1 : w1.cell? ⟨w.heap.size,1,none⟩ = some (.int .i64 Q) := HC1.out.cell 1 _ rfl
 have c2 : w1.cell? ⟨w.heap.size,2,none⟩ = some (.int .i64 C) := HC1.out.cell 2 _ rfl
 have c3 : w1.cell? ⟨w.heap.size,3,none⟩ = some (.int .u64 (R : Int)) := HC1.out.cell 3 _ rfl
 have c4 : w1.cell? ⟨w.heap.size,4,none⟩ = some (.int .u8 M) := HC1.out.cell 4 _ rfl
 go_wp2_with fail
 refine (HCK.out _ (HE.out.below HB1.out)).mono ?_
 rintro e9 w2 ⟨hb2,V,hV,hv⟩
 have HB2 := Lib.hid (HB1.out.trans (hb2.mono HB1.out.size));have HC2 := Lib.hid (HC1.out.below hb2);have HV := Lib.hid hV
 clear hb2 HB1 HC1 HCK c0 c1 c2 c3 c4 hV
 have c0 : w2.cell? ⟨w.heap.size,0,none⟩ = some (.int .i64 L) := HC2.out.cell 0 _ rfl
 have c1 : w2.cell? ⟨w.heap.size,1,none⟩ = some (.int .i64 Q) := HC2.out.cell 1 _ rfl
 have c2 : w2.cell? ⟨w.heap.size,2,none⟩ = some (.int .i64 C) := HC2.out.cell 2 _ rfl
 have c3 : w2.cell? ⟨w.heap.size,3,none⟩ = some (.int .u64 (R : Int)) := HC2.out.cell 3 _ rfl
 have c4 : w2.cell? ⟨w.heap.size,4,none⟩ = some (.int .u8 M) := HC2.out.cell 4 _ rfl
 cases V with
 | arg =>
  dsimp only at hv
  subst hv
  have HSC := Lib.hid (fun w => spot_code w)
  unfold errCode at HSC ⊢
  go_wp2_with fail
  refine (HCR.out _).mono ?_
  rintro e9 w3 ⟨hb3,V',hV',hv'⟩
  obtain rfl := HV.out.det hV'
  dsimp only at hv'
  subst hv'
  have HB3 := Lib.hid (HB2.out.trans (hb3.mono HB2.out.size))
  clear hb3 hV' HB2 HC2 HCR c0 c1 c2 c3 c4
  go_wp2_with fail
  refine (HSC.out _).mono ?_
  rintro e9 w4 ⟨rfl,hw4⟩;subst hw4
  go_wp2_with fail
  go_loopw [15] (fun j wr => j = .int .i64 0 ∧ wr = w4) (fun _ _ => 0)
  case atStart => exact ⟨rfl,rfl⟩
  case round =>
   obtain ⟨rfl,rfl⟩ := hrel
   go_wp2_with fail
   go_returns
   exact ⟨rfl,HB3.out⟩
 | no c x =>
  obtain ⟨b,rfl,hx⟩ := hv
  have HX := Lib.hid hx
  clear hx
  unfold spotV
  go_wp2_with fail
  refine (HCR.out _).mono ?_
  rintro e9 w3 ⟨hb3,V',hV',hv'⟩
  obtain rfl := HV.out.det hV'
  dsimp only at hv'
  subst hv'
  have HB3 := Lib.hid (HB2.out.trans (hb3.mono HB2.out.size))
  have HSC := Lib.hid (Ru.spot_some b x c w3 (HX.out.below hb3))
  unfold Ru.spotV at HSC
  have hcc : (c != c) = false := bne_self_eq_false c
  have hxx : ((x : Int) != (x : Int)) = false := bne_self_eq_false _
  clear hb3 hV' HB2 HC2 HCR HX c0 c1 c2 c3 c4
  go_wp2_with fail
  refine (HSC.out).mono ?_
  rintro e9 w4 ⟨rfl,hb4⟩
  have HB4 := Lib.hid (HB3.out.trans (hb4.mono HB3.out.size))
  clear hb4 HB3 HSC
  go_wp2_with fail
  go_loopw [15] (fun j wr => j = .int .i64 0 ∧ wr = w4) (fun _ _ => 0)
  case atStart => exact ⟨rfl,rfl⟩
  case round =>
   obtain ⟨rfl,rfl⟩ := hrel
   go_wp2_with fail
   go_returns
   exact ⟨rfl,HB4.out⟩
 | ok out =>
  obtain ⟨v,rfl,hv⟩ := hv
  obtain ⟨A,ac,rfl⟩ := hv.form
  have HO := Lib.hid hv
  have hl8 : (out.length : Int) ≤ 8 := by
   obtain ⟨hok,l,hrl,hvd⟩ := HV.out
   have := hrl.len;have := vd_len hvd out rfl;simp at this;omega
  clear hv
  go_wp2_with fail
  refine (HCR.out _).mono ?_
  rintro e9 w3 ⟨hb3,V',hV',hv'⟩
  obtain rfl := HV.out.det hV'
  obtain ⟨v',rfl,hv'⟩ := hv'
  obtain ⟨A',ac',rfl⟩ := hv'.form
  have HB3 := Lib.hid (HB2.out.trans (hb3.mono HB2.out.size))
  have HO3 := Lib.hid (HO.out.below hb3);have HP3 := Lib.hid hv'
  have HSN := Lib.hid (fun w => Ru.spot_nil w)
  have hff : ((flo R : Int) != (flo R : Int)) = false := bne_self_eq_false _
  have hll : ((out.length : Int) != (out.length : Int)) = false := bne_self_eq_false _
  clear hb3 hV' HB2 HC2 HCR HO hv' c0 c1 c2 c3 c4
  go_wp2_with fail
  refine (HSN.out _).mono ?_
  rintro e9 w4 ⟨rfl,hw4⟩;subst hw4
  go_wp2_with fail
  go_loopw [15] (fun j wr => ∃ k : Nat,k ≤ out.length ∧ j = .int .i64 k ∧ Below w4.heap.size w4 wr) (fun j _ => out.length - (intOf j).toNat)
  case atStart => exact ⟨0,Nat.zero_le _,rfl,Below.refl _ _⟩
  case round =>
   obtain ⟨k,hk,rfl,hb⟩ := hrel
   have HY := Lib.hid hb
   clear hb
   by_cases hlt : k < out.length
   ·have hltI : (k : Int) < out.length := by omega
    obtain ⟨⟨p,lu⟩,hpl⟩ : ∃ x,out[k]? = some x := ⟨_,List.getElem?_eq_getElem hlt⟩
    obtain ⟨b,off,rfl,hac,op,f,mn,mx,kids,ka,kn,kc,hpt,hc8,hz,hn⟩ := out_at (HO3.out.below HY.out) hpl
    obtain ⟨b',off',rfl,hac',op',f',mn',mx',kids',ka',kn',kc',hpt',hc8',hz',hn'⟩ := out_at (HP3.out.below HY.out) hpl
    rw [hpt] at hpt' hn hn'
    injection hpt' with e1 e2 e3 e4 e5
    subst e1;subst e2;subst e3;subst e4;subst e5
    have hSM := fun (w' : World) (h : NAt w' (.node op f mn mx kids) (.slice ka kn kc)) (h' : NAt w' (.node op f mn mx kids) (.slice ka' kn' kc')) => same_any _ h w' _ _ h h'
    unfold nodeV at hSM
    dsimp only at hSM
    have HSM := Lib.hid hSM
    have HC8 := Lib.hid hc8;have HN := Lib.hid hn;have HD8 := Lib.hid hc8';have HN' := Lib.hid hn';have HZ := Lib.hid hz;have HZ' := Lib.hid hz'
    clear hSM hc8 hc8' hn hn' hz hz' hpl hpt
    go_upto_region 12 with (fail)
    refine Rg.wp_region_each (by kernel_rfl) (fun w' => Cell8 w' b (off + k * 9) op f mn mx (.slice ka kn kc) ∧ Cell8 w' b' (off' + k * 9) op f mn mx (.slice ka' kn' kc') ∧ NAt w' (.node op f mn mx kids) (.slice ka kn kc) ∧ NAt w' (.node op f mn mx kids) (.slice ka' kn' kc') ∧ w'.cell? ⟨b,off + k * 9 + 8,none⟩ = some (.bool lu) ∧ w'.cell? ⟨b',off' + k * 9 + 8,none⟩ = some (.bool lu) ∧ Below w4.heap.size w4 w') (fun w1 w2 h hb => ⟨Cell8.below h.1 hb,Cell8.below h.2.1 hb,h.2.2.1.below hb,h.2.2.2.1.below hb,(hb.cell (World.block_lt_of_cell? _ _ h.2.2.2.2.1)).trans h.2.2.2.2.1,(hb.cell (World.block_lt_of_cell? _ _ h.2.2.2.2.2.1)).trans h.2.2.2.2.2.1,h.2.2.2.2.2.2.trans (hb.mono h.2.2.2.2.2.2.size)⟩) (by kernel_rfl) (by kernel_rfl) (⟨HC8.out,HD8.out,HN.out,HN'.out,HZ.out,HZ'.out,HY.out⟩) ?_
    show Rg.Build _ _ _ _ _ 0 [_,_,_,_,_,_,_,_,_,_,_,_] []
    refine Rg.cpe 1 rfl rfl (by intro ax wx hk Kx hK;have k6 := hk.base 6 _ rfl rfl;have hj := hk.j;clear hk;go_simp;exact Rg.ok hK) ?_
    refine Rg.cpe 2 rfl rfl (by intro ax wx hk Kx hK;have k15 := hk.base 15 _ rfl rfl;have hj := hk.j;clear hk;go_simp;exact Rg.ok hK) ?_
    refine Rg.cpe 3 rfl rfl (by intro ax wx hk Kx hK;have k68 := hk.e 0 68 rfl rfl rfl;have k69 := hk.e 1 69 rfl rfl rfl;clear hk;go_simp;exact Rg.ok hK) ?_
    refine Rg.cpe 4 rfl rfl (by intro ax wx hk Kx hK;have k70 := hk.e 2 70 rfl rfl rfl;clear hk;go_simp;exact Rg.ok hK) ?_
    refine Rg.cpe 5 rfl rfl (by intro ax wx hk Kx hK;have k71 := hk.e 3 71 rfl rfl rfl;have hj := hk.j;clear hk;obtain ⟨d0,d1,d2,d3,d4,d5,d6,d7⟩ := hj.1;obtain ⟨q0,q1,q2,q3,q4,q5,q6,q7⟩ := hj.2.1;go_simp;exact Rg.ok hK) ?_
    refine Rg.cpe 6 rfl rfl (by intro ax wx hk Kx hK;have k9 := hk.base 9 _ rfl rfl;have hj := hk.j;clear hk;go_simp;exact Rg.ok hK) ?_
    refine Rg.cpe 7 rfl rfl (by intro ax wx hk Kx hK;have k15 := hk.base 15 _ rfl rfl;have hj := hk.j;clear hk;go_simp;exact Rg.ok hK) ?_
    refine Rg.cpe 8 rfl rfl (by intro ax wx hk Kx hK;have k73 := hk.e 5 73 rfl rfl rfl;have k74 := hk.e 6 74 rfl rfl rfl;clear hk;go_simp;exact Rg.ok hK) ?_
    refine Rg.cpe 9 rfl rfl (by intro ax wx hk Kx hK;have k75 := hk.e 7 75 rfl rfl rfl;clear hk;go_simp;exact Rg.ok hK) ?_
    refine Rg.cpe 10 rfl rfl (by intro ax wx hk Kx hK;have k76 := hk.e 8 76 rfl rfl rfl;have hj := hk.j;clear hk;obtain ⟨d0,d1,d2,d3,d4,d5,d6,d7⟩ := hj.1;obtain ⟨q0,q1,q2,q3,q4,q5,q6,q7⟩ := hj.2.1;go_simp;exact Rg.ok hK) ?_
    refine Rg.cpe 11 rfl rfl (by intro ax wx hk Kx hK;have k72 := hk.e 4 72 rfl rfl rfl;have k77 := hk.e 9 77 rfl rfl rfl;have hj := hk.j;clear hk;go_simp;refine (HSM.out _ hj.2.2.1 hj.2.2.2.1).mono ?_;rintro e w' ⟨rfl,hb⟩;refine hK _ _ ?_ hb;apply Rg.mk) ?_
    refine Rg.cpe 12 rfl rfl (by intro ax wx hk Kx hK;have k78 := hk.e 10 78 rfl rfl rfl;have hj := hk.j;clear hk;go_simp;exact Rg.ok hK) ?_
    refine Rg.build_end fun wx hj => ?_
    iterate 12 refine Rg.fin_eq rfl ?_
    refine Rg.fin_nil ?_
    simp only [List.set_cons_zero,List.set_cons_succ]
    have HZ4 := Lib.hid hj.2.2.2.2.1;have HZ4' := Lib.hid hj.2.2.2.2.2.1;have HY4 := Lib.hid hj.2.2.2.2.2.2
    clear hj HSM HC8 HD8 HN HN' HZ HZ' HY
    go_upto_region 13 with (fail)
    obtain ⟨wy,hwy⟩ : ∃ wy : World,wy = wx := ⟨_,rfl⟩
    subst hwy
    refine Rg.wp_region_each (by kernel_rfl) (fun w' => w'.cell? ⟨b,off + k * 9 + 8,none⟩ = some (.bool lu) ∧ w'.cell? ⟨b',off' + k * 9 + 8,none⟩ = some (.bool lu) ∧ Below w4.heap.size w4 w') (fun w1 w2 h hb => ⟨(hb.cell (World.block_lt_of_cell? _ _ h.1)).trans h.1,(hb.cell (World.block_lt_of_cell? _ _ h.2.1)).trans h.2.1,h.2.2.trans (hb.mono h.2.2.size)⟩) (by kernel_rfl) (by kernel_rfl) (⟨HZ4.out,HZ4'.out,HY4.out⟩) ?_
    show Rg.Build _ _ _ _ _ 0 [_,_,_,_,_,_,_,_,_,_,_,_,_,_,_] []
    refine Rg.cpe 1 rfl rfl (by intro ax wx hk Kx hK;have k16 := hk.base 16 _ rfl rfl;have hj := hk.j;clear hk;go_simp;exact Rg.ok hK) ?_
    refine Rg.cpe 2 rfl rfl (by intro ax wx hk Kx hK;have k79 := hk.e 0 79 rfl rfl rfl;clear hk;go_simp;exact Rg.ok hK) ?_
    refine Rg.cpe 3 rfl rfl (by intro ax wx hk Kx hK;have k80 := hk.e 1 80 rfl rfl rfl;have hj := hk.j;clear hk;go_simp;exact Rg.ok hK) ?_
    first
     | refine Rg.cn 4 2 81 false rfl rfl rfl rfl rfl ?_
     | refine Rg.build_cons (m := 4) (Rg.one_und 2 81 false (by rfl) (by rfl) (by rfl) (by rfl)) ?_ rfl
     | refine Rg.cye 4 2 81 false rfl rfl rfl rfl rfl (by intro ax wx hk Kx hK;have k6 := hk.base 6 _ rfl rfl;have hj := hk.j;clear hk;go_simp;exact Rg.ok hK) ?_
    first
     | refine Rg.cn 5 2 81 false rfl rfl rfl rfl rfl ?_
     | refine Rg.build_cons (m := 5) (Rg.one_und 2 81 false (by rfl) (by rfl) (by rfl) (by rfl)) ?_ rfl
     | refine Rg.cye 5 2 81 false rfl rfl rfl rfl rfl (by intro ax wx hk Kx hK;have k15 := hk.base 15 _ rfl rfl;have hj := hk.j;clear hk;go_simp;exact Rg.ok hK) ?_
    first
     | refine Rg.cn 6 2 81 false rfl rfl rfl rfl rfl ?_
     | refine Rg.build_cons (m := 6) (Rg.one_und 2 81 false (by rfl) (by rfl) (by rfl) (by rfl)) ?_ rfl
     | refine Rg.cye 6 2 81 false rfl rfl rfl rfl rfl (by intro ax wx hk Kx hK;have k82 := hk.e 3 82 rfl rfl rfl;have k83 := hk.e 4 83 rfl rfl rfl;clear hk;go_simp;exact Rg.ok hK) ?_
    first
     | refine Rg.cn 7 2 81 false rfl rfl rfl rfl rfl ?_
     | refine Rg.build_cons (m := 7) (Rg.one_und 2 81 false (by rfl) (by rfl) (by rfl) (by rfl)) ?_ rfl
     | refine Rg.cye 7 2 81 false rfl rfl rfl rfl rfl (by intro ax wx hk Kx hK;have k84 := hk.e 5 84 rfl rfl rfl;clear hk;go_simp;exact Rg.ok hK) ?_
    first
     | refine Rg.cn 8 2 81 false rfl rfl rfl rfl rfl ?_
     | refine Rg.build_cons (m := 8) (Rg.one_und 2 81 false (by rfl) (by rfl) (by rfl) (by rfl)) ?_ rfl
     | refine Rg.cye 8 2 81 false rfl rfl rfl rfl rfl (by intro ax wx hk Kx hK;have k85 := hk.e 6 85 rfl rfl rfl;have hj := hk.j;clear hk;have d0 := hj.1;have d1 := hj.2.1;go_simp;exact Rg.ok hK) ?_
    first
     | refine Rg.cn 9 2 81 false rfl rfl rfl rfl rfl ?_
     | refine Rg.build_cons (m := 9) (Rg.one_und 2 81 false (by rfl) (by rfl) (by rfl) (by rfl)) ?_ rfl
     | refine Rg.cye 9 2 81 false rfl rfl rfl rfl rfl (by intro ax wx hk Kx hK;have k9 := hk.base 9 _ rfl rfl;have hj := hk.j;clear hk;go_simp;exact Rg.ok hK) ?_
    first
     | refine Rg.cn 10 2 81 false rfl rfl rfl rfl rfl ?_
     | refine Rg.build_cons (m := 10) (Rg.one_und 2 81 false (by rfl) (by rfl) (by rfl) (by rfl)) ?_ rfl
     | refine Rg.cye 10 2 81 false rfl rfl rfl rfl rfl (by intro ax wx hk Kx hK;have k15 := hk.base 15 _ rfl rfl;have hj := hk.j;clear hk;go_simp;exact Rg.ok hK) ?_
    first
     | refine Rg.cn 11 2 81 false rfl rfl rfl rfl rfl ?_
     | refine Rg.build_cons (m := 11) (Rg.one_und 2 81 false (by rfl) (by rfl) (by rfl) (by rfl)) ?_ rfl
     | refine Rg.cye 11 2 81 false rfl rfl rfl rfl rfl (by intro ax wx hk Kx hK;have k87 := hk.e 8 87 rfl rfl rfl;have k88 := hk.e 9 88 rfl rfl rfl;clear hk;go_simp;exact Rg.ok hK) ?_
    first
     | refine Rg.cn 12 2 81 false rfl rfl rfl rfl rfl ?_
     | refine Rg.build_cons (m := 12) (Rg.one_und 2 81 false (by rfl) (by rfl) (by rfl) (by rfl)) ?_ rfl
     | refine Rg.cye 12 2 81 false rfl rfl rfl rfl rfl (by intro ax wx hk Kx hK;have k89 := hk.e 10 89 rfl rfl rfl;clear hk;go_simp;exact Rg.ok hK) ?_
    first
     | refine Rg.cn 13 2 81 false rfl rfl rfl rfl rfl ?_
     | refine Rg.build_cons (m := 13) (Rg.one_und 2 81 false (by rfl) (by rfl) (by rfl) (by rfl)) ?_ rfl
     | refine Rg.cye 13 2 81 false rfl rfl rfl rfl rfl (by intro ax wx hk Kx hK;have k90 := hk.e 11 90 rfl rfl rfl;have hj := hk.j;clear hk;have d0 := hj.1;have d1 := hj.2.1;go_simp;exact Rg.ok hK) ?_
    first
     | refine Rg.cn 14 2 81 false rfl rfl rfl rfl rfl ?_
     | refine Rg.build_cons (m := 14) (Rg.one_und 2 81 false (by rfl) (by rfl) (by rfl) (by rfl)) ?_ rfl
     | refine Rg.cye 14 2 81 false rfl rfl rfl rfl rfl (by intro ax wx hk Kx hK;have k86 := hk.e 7 86 rfl rfl rfl;have k91 := hk.e 12 91 rfl rfl rfl;clear hk;go_simp;exact Rg.ok hK) ?_
    refine Rg.cpe 15 rfl rfl (by intro ax wx hk Kx hK;have k81 := hk.e 2 81 rfl rfl rfl;have k92 := hk.e 13 92 rfl rfl rfl;clear hk;go_simp;exact Rg.ok hK) ?_
    refine Rg.build_end fun wx hj => ?_
    iterate 15 refine Rg.fin_eq rfl ?_
    refine Rg.fin_nil ?_
    simp only [List.set_cons_zero,List.set_cons_succ]
    have HY5 := Lib.hid hj.2.2
    clear hj
    have hbb : (lu != lu) = false := by cases lu <;> rfl
    have hbc : ¬ (lu ≠ lu) := fun h => h rfl
    go_wp2_with fail
    exact ⟨⟨k + 1,by omega,by go_num,HY5.out⟩,by simp [intOf];omega⟩
   ·obtain rfl : k = out.length := by omega
    go_wp2
    go_returns
    exact ⟨rfl,HB3.out.trans (HY.out.mono HB3.out.size)⟩
end Go.Proofs.YtgjcibhhffkemaaGreatDoor.Ve
namespace Go.Proofs.YtgjcibhhffkemaaGreatDoor
open Go.RowKit
section
variable {P : Program} {W : World} {r : Reach} {base : Nat}
theorem open_cells {t : TypeId} {ts : List TypeId} {n : Nat} {v : Value} (ha : (P.underlying t).map (fun d => match d with | .struct _ => true | .array _ _ => true | _ => false) = some true) (hc : P.cellsOf t = n) (hts : P.cellTypes P.depth t = some ts) (hn : ts.length = n)
  (h : Value.okWide P W r base t v) : ∃ cs : Array Value,v = .agg cs ∧ cs.size = n ∧ ∀ (i : Nat) (u : TypeId) (x : Value),ts[i]? = some u → cs[i]? = some x → Cell.okWide P W r base u x := by
 have h' : ∃ cs,v = .agg cs ∧ cs.size = P.cellsOf t ∧ Row.okWide P W r base t cs := by
  unfold Value.okWide at h
  obtain ⟨d,hd,hx⟩ := Option.map_eq_some_iff.1 ha
  rw [hd] at h
  cases d <;> simp at hx <;> exact h
 obtain ⟨cs,rfl,hs,ts',hts',_,hall⟩ := h'
 obtain rfl : ts = ts' := by rw [hts] at hts';exact Option.some.inj hts'
 refine ⟨cs,rfl,hs.trans hc,fun i u x hu hx => ?_⟩
 obtain ⟨u',hu',hok⟩ := hall i x hx
 have hi : i < ts.length := (List.getElem?_eq_some_iff.1 hu).1
 rw [Nat.mod_eq_of_lt hi] at hu'
 rw [hu] at hu';cases hu';exact hok
theorem cell_int {u : TypeId} {k : IntKind} {x : Value} (hu : P.underlying u = some (.int k)) (h : Cell.okWide P W r base u x) : ∃ a,x = .int k a ∧ (Lit.int k a).wf = true := by
 unfold Cell.okWide at h;rw [hu] at h
 cases x <;> simp [Cell.ok,hu] at h
 obtain ⟨rfl,hw⟩ := h
 exact ⟨_,rfl,by simpa [Lit.wf,IntKind.has] using hw⟩
end
end Go.Proofs.YtgjcibhhffkemaaGreatDoor
namespace Go.Proofs.YtgjcibhhffkemaaGreatDoor
open Go.RowKit Go.ChangeShapes Go.WideShapes
theorem five_cells {cs : Array Value} (h : cs.size = 5) : ∃ a b c d e,cs = #[a,b,c,d,e] := by
 obtain ⟨l⟩ := cs
 match l,h with
 | [a,b,c,d,e],_ => exact ⟨a,b,c,d,e,rfl⟩
set_option maxRecDepth 100000 in
theorem open_config {W : World} {r : Reach} {base : Nat} {v : Value} (h : Value.okWide Tryz.prog W r base 24 v) : ∃ (L Q C : Int) (R : Nat) (M : Int),v = cfgV L Q C R M ∧ R < 18446744073709551616 ∧ 0 ≤ M ∧ M ≤ 255 := by
 obtain ⟨cs,rfl,hs,hc⟩ := open_cells (ts := [3,3,3,22,5]) (n := 5) (by kernel_rfl) (by kernel_rfl) (by kernel_rfl) rfl h
 obtain ⟨a,b,c,d,e,rfl⟩ := five_cells hs
 obtain ⟨a,rfl,_⟩ := cell_int Tryz.underlying3 (hc 0 _ _ rfl rfl)
 obtain ⟨b,rfl,_⟩ := cell_int Tryz.underlying3 (hc 1 _ _ rfl rfl)
 obtain ⟨c,rfl,_⟩ := cell_int Tryz.underlying3 (hc 2 _ _ rfl rfl)
 obtain ⟨d,rfl,h3⟩ := cell_int Tryz.underlying22 (hc 3 _ _ rfl rfl)
 obtain ⟨e,rfl,h4⟩ := cell_int Tryz.underlying5 (hc 4 _ _ rfl rfl)
 simp [Lit.wf,IntKind.min,IntKind.max,IntKind.signed,IntKind.bits] at h3 h4
 obtain ⟨n,rfl⟩ : ∃ n : Nat,d = (n : Int) := ⟨d.toNat,by omega⟩
 exact ⟨a,b,c,n,e,rfl,by omega,by omega,by omega⟩
end Go.Proofs.YtgjcibhhffkemaaGreatDoor
namespace Go.Proofs.YtgjcibhhffkemaaGreatDoor.verdictTells
open Go.ChangeShapes Go.WideShapes Go.ChangeAt Go.RowKit Go.Joins
open Go.ChangeMaps (open_string shut_string)
theorem own : ownKnob Tryz.prog.godebug = none := by kernel_rfl
theorem laidOut : laidOutB Tryz.prog = true := by kernel_rfl
def laid : List (String × DataW Unit) := [("unicode/utf8.acceptRanges", Rows.laid_unicode_utf8_acceptRanges), ("errors.errorType", Rows.laid_errors_errorType), ("unicode/utf8.first", Rows.laid_unicode_utf8_first)]
theorem et : Tryz.prog.globalNamed "errors.errorType" = some 0 := by kernel_rfl
theorem rt : (Tryz.prog.cutTypes.find? (·.1 == "internal/reflectlite.rtype")).map (·.2) = some 129 := by kernel_rfl
theorem oneRow : ((List.range 209).filter fun t => Tryz.prog.rowNamed t [101,114,114,111,114]) = [28] := by kernel_rfl
theorem tsize : Tryz.prog.types.size = 209 := by kernel_rfl
theorem handle_of_laid {W : World} (h : laidMetH Tryz.prog laid W) : W.cell? ⟨0,0,none⟩ = some (.iface 129 (.agg #[.pointer (some ⟨5,28,none⟩)])) := by
 have h' : laidMet Tryz.prog (laid.filter fun x => x.2.handleName?.isNone) W ∧ handlesMet Tryz.prog [("errors.errorType", Rows.laid_errors_errorType)] W := h
 obtain ⟨name,u,ty,e1,e2,e3,e4,e5⟩ := h'.2 _ (List.mem_singleton.2 rfl)
 have en : name = [101,114,114,111,114] := (Option.some.inj e1).symm
 subst en
 obtain rfl := Option.some.inj (rt.symm.trans e2)
 have hm : ty ∈ (List.range 209).filter fun t => Tryz.prog.rowNamed t [101,114,114,111,114] := List.mem_filter.2 ⟨List.mem_range.2 (by rw [← tsize];exact e3),e4⟩
 rw [oneRow] at hm
 obtain rfl := List.mem_singleton.1 hm
 have hh : typeHandle Tryz.prog 28 = .pointer (some ⟨5,28,none⟩) := by kernel_rfl
 rw [hh] at e5
 simpa using World.var?_cell et e5 0
noncomputable def laidW (os : Os) : World :=
 let w0 := World.laidAll Tryz.prog os (laid.filter fun x => x.2.handleName?.isNone)
 { w0 with heap := w0.heap.modify 0 fun
   | .cells _ t frozen => .cells #[.iface 129 (.agg #[.pointer (some ⟨5,28,none⟩)])] t frozen
   | o => o }
set_option maxRecDepth 100000 in
set_option maxHeartbeats 1000000 in
theorem lifted (os : Os) (started : os.Started) (H : Type) (enc : TypeId × Value → H) :
  ReturnsInHanded {} Tryz.checked os 3 .any (fun w args => (Rows.verdictTellsSpec.pre enc Tryz.prog Tryz.f3 [] false w args ∧ laidMetH Tryz.prog laid w) ∧ sizedMet enc Tryz.prog Tryz.f3 (OpenSpec.ofChange Rows.verdictTellsSpec) false w args) (Rows.verdictTellsSpec.post enc Tryz.prog Tryz.f3 false true false false) := by
 refine returnsInHanded_of_change_and (C := Tryz.checked) (X := fun w _ => laidMetH Tryz.prog laid w) (fun _ _ _ hh h => h.of_heap hh) own started (by kernel_rfl) Tryz.func3
  (ChangeSpec.witness_shaped (enc := enc) (C := Tryz.checked) (os := os) (X := fun w _ => laidMetH Tryz.prog laid w) false (laidW os) #[.string ByteArray.empty,.agg #[.int .i64 0,.int .i64 0,.int .i64 0,.int .u64 0,.int .u8 0]] 8 (World.laidAll_os _ _ _)
   (World.shaped_of_ZipB (by kernel_rfl) (by kernel_rfl)) (by kernel_rfl) (by kernel_rfl) (by kernel_rfl)
   (laidMetH_of_parts (laidMet_of_run' 40 (by kernel_rfl) (by kernel_rfl)) (by kernel_rfl))) ?_
 intro W base args ds gs before hval0 hW hcnd hsz0 hL _
 have hsz : (DataW.weightsEach Tryz.prog (Tryz.f3.params.toList ++ Rows.verdictTellsSpec.plain.varTypes Tryz.prog) (ds ++ gs)).all (· ≤ reachBytes) = true := hsz0
 have hval : ∀ (j : Nat) t v,Tryz.f3.params[j]? = some t → args[j]? = some v → Value.okWide Tryz.prog W .any base t v := hval0
 have hW' := hW
 obtain ⟨p,q,hA0,hV,rfl,hfz,hnd⟩ := hW
 have hA : DataW.TrodAll enc Tryz.prog W 0 (fun _ => true) true Tryz.f3.params.toList args.toList ds p := hA0
 rw [Tryz.params3] at hA hval hsz
 obtain ⟨v0,vs0,d0,ds0,p0,q0,hargs,rfl,rfl,h0,r0⟩ := trodAll_cons hA
 obtain ⟨v1,vs1,d1,ds1,p1,q1,rfl,rfl,rfl,h1,r1⟩ := trodAll_cons r0
 obtain ⟨rfl,rfl,rfl⟩ := trodAll_nil r1
 obtain rfl : args = #[v0,v1] := by cases args;simp_all
 obtain ⟨rfl,rfl⟩ := trodVars_none hV
 obtain ⟨a0,rfl,rfl,rfl,y0⟩ := open_string Tryz.underlying9 (hval 0 9 v0 rfl rfl) h0
 have w0 : a0.size ≤ 140737488351232 := by
  have z := sized_string hsz (j := 0) (t := 9) rfl rfl
  rw [Array.length_toList] at z
  exact z
 have k1 := h1
 have lt1 : ∀ x ∈ p1,x.block < W.heap.size := by obtain ⟨m,hm⟩ := k1;exact DataW.trod_lt m _ _ _ hm
 have o1 := hval 1 24 v1 rfl rfl
 have he := handle_of_laid hL
 obtain ⟨L,Q,C,R,M,rfl,hR,hM0,hM1⟩ := open_config o1
 clear hA0 hval0 hsz0 hsz
 refine (Ve.verdictTells_walk a0 L Q C R M W hR hM0 hM1 he).mono fun e W' ⟨he,bel⟩ => ?_
 subst he
 exact ⟨_,rfl,_,_,_,[],_,[],hW',trodAll_mk1 (shut_bool Tryz.underlying4 _),(trodAll_cons_mk (shut_string Tryz.underlying9 y0) (trodAll_cons_mk (Below.trod laidOut (by kernel_rfl) (of_decide_eq_true (by kernel_rfl)) k1 bel lt1) trodAll_mk0)),rfl,bel.frame _,fun h => by cases h⟩
theorem over : Rows.verdictTellsRow.holds Tryz.pinned (OpenSpec.ofChange Rows.verdictTellsSpec) :=
 OpenClaim.holds_of_wide 3 Tryz.f3 rfl rfl rfl rfl rfl rfl rfl ⟨rfl,rfl,rfl,rfl,rfl⟩ rfl rfl rfl rfl rfl (by kernel_rfl) Tryz.func3 (by kernel_rfl)
  (of_decide_eq_true (by kernel_rfl)) (by unfold Func.isWrapper;first | (rw [if_pos (by decide +kernel)];kernel_rfl) | (rw [if_neg (by decide +kernel)];exact ⟨rfl,rfl⟩))
  (fun os started H enc _ => lifted os started H enc)
set_option maxRecDepth 100000 in
theorem card_holds : Claim7.holds Tryz.pinned (.plain (OpenSpec.ofChange Rows.verdictTellsSpec)) Rows.verdictTellsCard :=
 Claim7.holds_tied_plain_at .later [] [.data, .handle, .pinned] true (true, "222d176d14b0ad36ababa9cc0c4aab037bc55a31280a875daa467cdae0875825") true over (fun _ h => by cases h) (by kernel_rfl) (fun _ h => by cases h) verdictTells_row_tie rfl ⟨rfl, rfl⟩ (by kernel_rfl) rfl
  (fun f fn hf hfn => by
   obtain rfl : f = 3 := Option.some.inj ((show Tryz.prog.funcNamed "snaffle/snafflelaw15.VerdictTells" = some 3 by kernel_rfl).symm.trans hf) |>.symm
   obtain rfl : fn = Tryz.f3 := (Option.some.inj (Tryz.func3.symm.trans hfn)).symm
   exact ⟨by kernel_rfl,fun j t ht => by
    rw [Tryz.params3] at ht
    have hm : t ∈ [9,24] := by simpa using Array.mem_of_getElem? ht
    have hall : ([9,24].all fun u => !Tryz.prog.wantsStandIn u) = true := by kernel_rfl
    exact (show Tryz.prog.wantsStandIn t = false by simpa using List.all_eq_true.1 hall t hm)⟩)
  (by kernel_rfl)
end Go.Proofs.YtgjcibhhffkemaaGreatDoor.verdictTells
namespace Go.Proofs.YtgjcibhhffkemaaGreatDoor
theorem verdictTells_holds : Rows.VerdictTellsCardSaid := verdictTells.card_holds
end Go.Proofs.YtgjcibhhffkemaaGreatDoor
