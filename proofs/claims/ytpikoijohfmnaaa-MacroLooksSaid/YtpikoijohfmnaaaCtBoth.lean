/- A machine and the document's machine, side by side. -/
import Derived.Test.YtpikoijohfmnaaaRefCt6
import Derived.Test.YtpikoijohfmnaaaRead
set_option linter.unusedVariables false
set_option linter.unusedSimpArgs false
namespace Go.Proofs.Ytpikoijohfmnaaa
open Go.RowKit
def Agree (k : Nat) (f : Nat → Int) (q : Int → Option Int) : Prop := ∀ c : Nat, c < k → f c = atQ q c
theorem ld_agree {k : Nat} {f : Nat → Int} {q : Int → Option Int} (h : Agree k f q) {c : Int} (hc : thereP k true c = true) : ldP f true c = atQ q c := by
  obtain ⟨h0, h1⟩ := thereP_in hc
  obtain ⟨c, rfl⟩ := Int.eq_ofNat_of_zero_le h0
  show f (c : Int).toNat = _
  rw [Int.toNat_natCast]
  exact h c (by omega)
theorem new_agree {k : Nat} {f : Nat → Int} {q : Int → Option Int} (h : Agree k f q) {x : Ins} (hm : mayP k x = true) : newV f x = newR q x := by
  obtain ⟨op, d, a, b, c, n⟩ := x
  obtain ⟨hop, hD, hA, hB, hC, hS⟩ := mayP_in hm
  unfold newV newR
  dsimp only
  rcases (by omega : op = 0 ∨ op = 1 ∨ op = 2 ∨ op = 3 ∨ op = 4 ∨ op = 5 ∨ op = 6 ∨ op = 7 ∨ op = 8 ∨ op = 9 ∨ op = 10 ∨ op = 11) with rfl | rfl | rfl | rfl | rfl | rfl | rfl | rfl | rfl | rfl | rfl | rfl
  · rfl
  · rw [show isA 1 = true from by decide] at *; rw [show isB 1 = true from by decide] at *; rw [show isC 1 = true from by decide] at *; rw [ld_agree h hA, ld_agree h hB, ld_agree h hC]
  · rw [show isA 2 = true from by decide] at *; rw [show isB 2 = true from by decide] at *; rw [ld_agree h hA, ld_agree h hB]; rfl
  · rw [show isA 3 = true from by decide] at *; rw [show isB 3 = true from by decide] at *; rw [ld_agree h hA, ld_agree h hB]; rfl
  · rw [show isA 4 = true from by decide] at *; rw [show isB 4 = true from by decide] at *; rw [ld_agree h hA, ld_agree h hB]; rfl
  · rw [show isA 5 = true from by decide] at *; rw [show isB 5 = true from by decide] at *; rw [ld_agree h hA, ld_agree h hB]; rfl
  · rw [show isA 6 = true from by decide] at *; rw [ld_agree h hA]; rfl
  · rw [show isA 7 = true from by decide] at *; rw [ld_agree h hA]; rfl
  · rw [show isA 8 = true from by decide] at *; rw [show isB 8 = true from by decide] at *; rw [ld_agree h hA, ld_agree h hB]; rfl
  · rw [show isA 9 = true from by decide] at *; rw [show isB 9 = true from by decide] at *; rw [ld_agree h hA, ld_agree h hB]; rfl
  · rfl
  · rfl
theorem out_agree {k : Nat} {f : Nat → Int} {q : Int → Option Int} (h : Agree k f q) {x : Ins} (hm : mayP k x = true) : outP f x = outR q x := by
  obtain ⟨op, d, a, b, c, n⟩ := x
  obtain ⟨hop, hD, hA, hB, hC, hS⟩ := mayP_in hm
  unfold outP outR
  dsimp only
  by_cases h11 : op = 11
  · subst h11
    rw [if_pos rfl, if_pos rfl]
    rw [show isA 11 = true from by decide] at hA
    exact ld_agree h hA
  · rw [if_neg h11, if_neg h11]
theorem next_agree {k : Nat} {f : Nat → Int} {q : Int → Option Int} (h : Agree k f q) {x : Ins} (hm : mayP k x = true) : Agree k (nextF f x) (nextR q x) := by
  have hn := new_agree h hm
  obtain ⟨op, d, a, b, c, n⟩ := x
  obtain ⟨hop, hD, hA, hB, hC, hS⟩ := mayP_in hm
  unfold nextF nextR
  dsimp only at *
  by_cases h11 : op = 11
  · rw [if_pos h11, if_pos h11]; exact h
  · rw [if_neg h11, if_neg h11, hn]
    have eD : isD op = true := by unfold isD; rw [decide_eq_true_iff]; omega
    rw [eD] at hD
    obtain ⟨d0, d1⟩ := thereP_in hD
    intro e he
    unfold upd atQ putQ
    by_cases hed : e = d.toNat
    · rw [if_pos hed, if_pos (by omega)]; rfl
    · rw [if_neg hed, if_neg (by omega)]; exact h e he
/-- both machines in memory -/
structure Both (w0 wr : World) (g gc g' mp N : Nat) (tv lv : Value) (f : Nat → Int) (q : Int → Option Int) (t1 t2 : List Ins) (s : Nat) : Prop where
  m : CtM wr g gc tv N f t1
  r : RfM wr g' mp lv N s q t2
  sep : ∀ k, ctS g gc tv k → ¬ rfS g' mp lv k
  lo : ∀ k, ctS g gc tv k → w0.heap.size ≤ k
  lo' : ∀ k, rfS g' mp lv k → w0.heap.size ≤ k
  bel : Below w0.heap.size w0 wr
  ag : Agree N f q
namespace Both
variable {w0 wr w1 : World} {g gc g' mp N : Nat} {tv lv : Value} {f : Nat → Int} {q : Int → Option Int} {t1 t2 : List Ins} {s : Nat}
theorem below (h : Both w0 wr g gc g' mp N tv lv f q t1 t2 s) (hb : Below wr.heap.size wr w1) : Both w0 w1 g gc g' mp N tv lv f q t1 t2 s :=
  ⟨h.m.below hb, h.r.below hb, h.sep, h.lo, h.lo', h.bel.trans (hb.mono h.bel.size), h.ag⟩
/-- behind the machine's Do alone -/
theorem didM (h : Both w0 wr g gc g' mp N tv lv f q t1 t2 s) {f' : Nat → Int} {t1' : List Ins} {tv' : Value} (hm : CtM w1 g gc tv' N f' t1') (ho : Only (ctS g gc tv) wr w1) (hb : tv'.ownBlock = tv.ownBlock ∨ ∃ b, tv'.ownBlock = some b ∧ wr.heap.size ≤ b) :
    RfM w1 g' mp lv N s q t2 ∧ (∀ k, ctS g gc tv' k → ¬ rfS g' mp lv k) ∧ (∀ k, ctS g gc tv' k → w0.heap.size ≤ k) ∧ Below w0.heap.size w0 w1 := by
  refine ⟨h.r.only ho (fun k hk hc => h.sep k hc hk), fun k hk hr => ?_, fun k hk => ?_, h.bel.trans (ho.below h.bel.size h.lo)⟩
  · rcases hk with rfl | rfl | hk
    · exact h.sep _ (.inl rfl) hr
    · exact h.sep _ (.inr (.inl rfl)) hr
    · rcases hb with hb | ⟨b, hb, hlt⟩
      · exact h.sep _ (.inr (.inr (hb.symm.trans hk))) hr
      · rw [hb] at hk; cases hk
        have := h.r.lt _ hr; omega
  · rcases hk with rfl | rfl | hk
    · exact h.lo _ (.inl rfl)
    · exact h.lo _ (.inr (.inl rfl))
    · rcases hb with hb | ⟨b, hb, hlt⟩
      · exact h.lo _ (.inr (.inr (hb.symm.trans hk)))
      · rw [hb] at hk; cases hk
        have := h.bel.size; omega
/-- behind both Do's -/
theorem did (h : Both w0 wr g gc g' mp N tv lv f q t1 t2 s) {x : Ins} (hx : mayP N x = true) {w2 : World} {tv' lv' : Value} {s' : Nat} (hm : CtM w1 g gc tv' N (nextF f x) (t1 ++ [x.seen])) (ho : Only (ctS g gc tv) wr w1) (hb : tv'.ownBlock = tv.ownBlock ∨ ∃ b, tv'.ownBlock = some b ∧ wr.heap.size ≤ b)
    (hr : RfM w2 g' mp lv' N s' (nextR q x) (t2 ++ [x.seen])) (ho2 : Only (rfS g' mp lv) w1 w2) (hb2 : lv'.ownBlock = lv.ownBlock ∨ ∃ b, lv'.ownBlock = some b ∧ w1.heap.size ≤ b) :
    Both w0 w2 g gc g' mp N tv' lv' (nextF f x) (nextR q x) (t1 ++ [x.seen]) (t2 ++ [x.seen]) s' := by
  obtain ⟨r1, s1, l1, b1⟩ := h.didM hm ho hb
  refine ⟨hm.only ho2 s1, hr, fun k hk hr' => ?_, l1, fun k hk => ?_, b1.trans (ho2.below b1.size h.lo'), next_agree h.ag hx⟩
  · rcases hr' with rfl | rfl | hr'
    · exact s1 _ hk (.inl rfl)
    · exact s1 _ hk (.inr (.inl rfl))
    · rcases hb2 with hb2 | ⟨b, hb2, hlt⟩
      · exact s1 _ hk (.inr (.inr (hb2.symm.trans hr')))
      · rw [hb2] at hr'; cases hr'
        have := hm.lt _ hk; omega
  · rcases hk with rfl | rfl | hk
    · exact h.lo' _ (.inl rfl)
    · exact h.lo' _ (.inr (.inl rfl))
    · rcases hb2 with hb2 | ⟨b, hb2, hlt⟩
      · exact h.lo' _ (.inr (.inr (hb2.symm.trans hk)))
      · rw [hb2] at hk; cases hk
        have := b1.size; omega
end Both
theorem pick_any (n by' : Int) (w : World) (hn : -9223372036854775808 ≤ n ∧ n ≤ 9223372036854775807) (h0 : 1 ≤ by') (h1 : by' ≤ 200000) : Calls Try.prog 15 #[.int .i64 n, .int .i64 by'] w fun e w' => e = .returned (.int .i64 (n % by')) ∧ w' = w := by
  have hne : (by' == 0) = false := by rw [beq_eq_false_iff_ne]; omega
  have hne2 : ¬ by' = 0 := by omega
  by_cases h : 0 ≤ n
  · have e : n.tmod by' = n % by' := Int.tmod_eq_emod_of_nonneg h
    have e2 : 0 ≤ n % by' := Int.emod_nonneg _ (by omega)
    have e3 : n % by' < by' := Int.emod_lt_of_pos _ (by omega)
    generalize n % by' = z at e e2 e3 ⊢
    have e4 : ¬ z < 0 := by omega
    go_enter Try.func15, Try.ntmps15
    go_wp2_with fail
    go_returns
    exact ⟨by first | rfl | (rw [e]; rfl), rfl⟩
  · have hneg : (-n).tmod by' = (-n) % by' := Int.tmod_eq_emod_of_nonneg (by omega)
    have e : n.tmod by' = -((-n) % by') := by rw [← hneg, Int.neg_tmod, Int.neg_neg]
    have e2 : 0 ≤ (-n) % by' := Int.emod_nonneg _ (by omega)
    have e3 : (-n) % by' < by' := Int.emod_lt_of_pos _ (by omega)
    have e5 : n % by' = if (-n) % by' = 0 then 0 else by' - (-n) % by' := by
      have h5 := Int.emod_emod_of_dvd n (Int.dvd_refl by')
      have h6 : n = -(-n) := by omega
      split
      · rename_i hz
        have : by' ∣ -n := Int.dvd_of_emod_eq_zero hz
        exact Int.emod_eq_zero_of_dvd ((Int.dvd_neg).1 this)
      · rename_i hz
        have h7 : n = by' * (-((-n) / by') - 1) + (by' - (-n) % by') := by
          have := Int.mul_ediv_add_emod (-n) by'
          rw [Int.mul_sub, Int.mul_neg]; omega
        have h8 : n % by' = (by' - (-n) % by') % by' := by
          conv => lhs; rw [h7]
          rw [Int.add_comm, Int.add_mul_emod_self_left]
        rw [h8, Int.emod_eq_of_lt (by omega) (by omega)]
    generalize (-n) % by' = z at e e2 e3 e5
    by_cases hz : z = 0
    · subst hz
      rw [if_pos rfl] at e5
      rw [e5]
      have e' : n.tmod by' = 0 := by rw [e]; rfl
      clear e e5 hneg
      go_enter Try.func15, Try.ntmps15
      go_wp2_with fail
      go_returns
      exact ⟨rfl, rfl⟩
    · rw [if_neg hz] at e5
      rw [e5]
      have e4 : -z < 0 := by omega
      have e6 : -z + by' = by' - z := by omega
      have e7 : 0 ≤ by' - z := by omega
      rw [← e6]
      clear e5 hneg e6
      go_enter Try.func15, Try.ntmps15
      go_wp2_with fail
      go_returns
      exact ⟨rfl, rfl⟩
end Go.Proofs.Ytpikoijohfmnaaa
