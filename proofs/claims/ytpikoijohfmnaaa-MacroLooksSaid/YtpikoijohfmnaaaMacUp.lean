/- The head of the statements on macro. -/
import Derived.Test.YtpikoijohfmnaaaMac4
set_option linter.unusedVariables false
set_option linter.unusedSimpArgs false
namespace Go.Proofs.Ytpikoijohfmnaaa
open Go.RowKit
theorem own_form {w : World} {base n e size : Nat} {v : Value} {xs : List Value} (h : w.ownsRow base e size v n xs) : ∃ a c, v = .slice a n c := by
  rcases h.2 with ⟨rfl, h0⟩ | ⟨g, cap, cur, rfl, _⟩
  · exact ⟨none, 0, by rw [h0]⟩
  · exact ⟨_, _, rfl⟩
theorem lookP_len (dst key base n step tmp : Int) : (lookP dst key base n step tmp).length ≤ 1000000 := by
  unfold lookP
  split
  · simp
  · rw [lookN_len]; omega
theorem look_rd (dst key base n step tmp : Int) (w : World) : Calls Try.prog 17 #[.int .i64 dst, .int .i64 key, .int .i64 base, .int .i64 n, .int .i64 step, .int .i64 tmp] w fun e w' => ∃ a c, e = .returned (.slice a (lookP dst key base n step tmp).length c) ∧ RdIns w' (.slice a (lookP dst key base n step tmp).length c) (lookP dst key base n step tmp) ∧ Below w.heap.size w w' := by
  by_cases h : n < 0 ∨ 200000 < n
  · have e : lookP dst key base n step tmp = [] := by unfold lookP; rw [if_pos h]
    rw [e]
    refine (look_no dst key base n step tmp w h).mono ?_
    rintro e9 w' ⟨rfl, rfl⟩
    exact ⟨_, _, rfl, .inl ⟨rfl, _, _, rfl⟩, Below.refl _ _⟩
  · obtain ⟨k, rfl⟩ := Int.eq_ofNat_of_zero_le (show 0 ≤ n by omega)
    have e : lookP dst key base k step tmp = lookN dst key base step tmp k := by unfold lookP; rw [if_neg h]; rfl
    rw [e]
    refine (look_yes dst key base step tmp k w (by omega)).mono ?_
    rintro e9 w' ⟨v, rfl, ho, hb⟩
    obtain ⟨a, c, rfl⟩ := own_form ho
    rw [← lookN_len dst key base step tmp k] at ho ⊢
    exact ⟨a, c, rfl, rdIns_own ho (by rw [lookN_len]; omega), hb⟩
theorem rlook_rd (dst key base n step tmp : Int) (w : World) : Calls Try.prog 20 #[.int .i64 dst, .int .i64 key, .int .i64 base, .int .i64 n, .int .i64 step, .int .i64 tmp] w fun e w' => ∃ a c, e = .returned (.slice a (lookP dst key base n step tmp).length c) ∧ RdIns w' (.slice a (lookP dst key base n step tmp).length c) (lookP dst key base n step tmp) ∧ Below w.heap.size w w' := by
  by_cases h : n < 0 ∨ 200000 < n
  · have e : lookP dst key base n step tmp = [] := by unfold lookP; rw [if_pos h]
    rw [e]
    refine (rlook_no dst key base n step tmp w h).mono ?_
    rintro e9 w' ⟨rfl, rfl⟩
    exact ⟨_, _, rfl, .inl ⟨rfl, _, _, rfl⟩, Below.refl _ _⟩
  · obtain ⟨k, rfl⟩ := Int.eq_ofNat_of_zero_le (show 0 ≤ n by omega)
    have e : lookP dst key base k step tmp = lookN dst key base step tmp k := by unfold lookP; rw [if_neg h]; rfl
    rw [e]
    refine (rlook_yes dst key base step tmp k w (by omega)).mono ?_
    rintro e9 w' ⟨v, rfl, ho, hb⟩
    obtain ⟨a, c, rfl⟩ := own_form ho
    rw [← lookN_len dst key base step tmp k] at ho ⊢
    exact ⟨a, c, rfl, rdIns_own ho (by rw [lookN_len]; omega), hb⟩
theorem copy_rd (dst src : Int) (w : World) : Calls Try.prog 18 #[.int .i64 dst, .int .i64 src] w fun e w' => ∃ a c, e = .returned (.slice a 1 c) ∧ RdIns w' (.slice a 1 c) [⟨1, dst, src, src, src, 0⟩] ∧ Below w.heap.size w w' := by
  refine (copy_any dst src w).mono ?_
  rintro e9 w' ⟨v, rfl, ho, hb⟩
  obtain ⟨a, c, rfl⟩ := own_form ho
  exact ⟨a, c, rfl, rdIns_own ho (by simp), hb⟩
theorem built1 (w : World) (x : Ins) : RdIns (w.alloc (.cells x.cells 35)) (.slice (some ⟨w.heap.size, 0, none⟩) 1 1) [x] :=
  rdIns_own (base := 0) ⟨rfl, .inr ⟨_, _, x.cells, rfl, Nat.zero_le _, heap_alloc_new w _, by omega, by decide, rfl, by unfold flat6 Ins.cells; rfl⟩⟩ (by simp)
set_option maxRecDepth 100000 in
set_option maxHeartbeats 4000000 in
theorem up11_any (w : World) : Calls Try.prog 16 #[] w fun e w' => e = .returned (.bool true) ∧ Below w.heap.size w w' := by
  go_enter Try.func16, Try.ntmps16
  go_wp2_with fail
  refine (look_yes 0 1 2 1 3 1 _ (by omega)).mono ?_
  rintro e9 w1 ⟨v, rfl, ho, hb1⟩
  obtain ⟨a, c, rfl⟩ := own_form ho
  have HB1 := Lib.hid hb1; clear hb1 ho
  go_wp2_with fail
  refine (copy_rd 0 1 _).mono ?_
  rintro e9 w2 ⟨a2, c2, rfl, hr2, hb2⟩
  have HB2 := Lib.hid (HB1.out.trans (hb2.mono HB1.out.size)); clear hb2 hr2
  go_wp2_with fail
  refine (look_no 0 1 2 (-1) 1 3 _ (by omega)).mono ?_
  rintro e9 w3 ⟨rfl, hw⟩; subst hw
  go_wp2_with fail
  go_returns
  exact ⟨rfl, HB2.out⟩
/-- where a run stops -/
theorem stop_some (N : Nat) (l : List Ins) : ∃ k, k ≤ l.length ∧ (∀ j, j < k → mayP N (insAt l j) = true) ∧ (k = l.length ∨ (k < l.length ∧ mayP N (insAt l k) = false)) := by
  have h : ∀ m, m ≤ l.length → (∀ j, j < m → mayP N (insAt l j) = true) ∨ ∃ k, k < l.length ∧ (∀ j, j < k → mayP N (insAt l j) = true) ∧ mayP N (insAt l k) = false := by
    intro m
    induction m with
    | zero => exact fun _ => .inl fun j hj => absurd hj (Nat.not_lt_zero _)
    | succ m ih =>
      intro hm
      rcases ih (by omega) with h | h
      · cases hk : mayP N (insAt l m)
        · exact .inr ⟨m, hm, h, hk⟩
        · refine .inl fun j hj => ?_
          rcases Nat.lt_succ_iff_lt_or_eq.1 hj with h1 | rfl
          · exact h j h1
          · exact hk
      · exact .inr h
  rcases h l.length (Nat.le_refl _) with h | ⟨k, h1, h2, h3⟩
  · exact ⟨_, Nat.le_refl _, h, .inl rfl⟩
  · exact ⟨k, Nat.le_of_lt h1, h2, .inr ⟨h1, h3⟩⟩
/-- it stops there -/
structure Stop (N : Nat) (l : List Ins) (k : Nat) : Prop where
  le : k ≤ l.length
  may : ∀ j, j < k → mayP N (insAt l j) = true
  or : k = l.length ∨ (k < l.length ∧ mayP N (insAt l k) = false)
theorem Stop.same {N k k' : Nat} {l : List Ins} (h : Stop N l k) (h' : Stop N l k') : k = k' := by
  rcases Nat.lt_trichotomy k k' with hl | he | hl
  · rcases h.or with h1 | ⟨h1, h2⟩
    · have := h'.le; omega
    · have h3 := h'.may k hl; rw [h2] at h3; cases h3
  · exact he
  · rcases h'.or with h1 | ⟨h1, h2⟩
    · have := h.le; omega
    · have h3 := h.may k' hl; rw [h2] at h3; cases h3
/-- the error, its code and the numbers told -/
def errP (l : List Ins) (k : Nat) : Value := if k = l.length then .nilIface else .iface 59 (.int .i64 1)
def codP (l : List Ins) (k : Nat) : Int := if k = l.length then 0 else 1
def outsP (l : List Ins) (f : Nat → Int) (k : Nat) : List Int := if k = l.length then toldK l f k else []
theorem code_errP (l : List Ins) (k : Nat) (w : World) : Calls Try.prog 12 #[errP l k] w fun e w' => e = .returned (.int .i64 (codP l k)) ∧ w' = w := by
  unfold errP codP
  by_cases h : k = l.length
  · rw [if_pos h, if_pos h]; exact code_nil w
  · rw [if_neg h, if_neg h]; exact code_some 1 w
theorem run_at (g gc N k : Nat) (vl tv : Value) (l tr : List Ins) (f : Nat → Int) (w : World) (hk : Stop N l k) (h : CtM w g gc tv N f tr) (hR : ∀ w', Only (ctS g gc tv) w w' → RdIns w' vl l) (hok : ∀ x ∈ l, x.ok) (hl : l.length ≤ 1000000) (htr : tr.length ≤ 1000000) (hN : N ≤ 200000) :
    Calls Try.prog 19 #[.pointer (some ⟨g, 0, none⟩), vl] w fun e w' => ∃ tv' a c, e = .returned (.tuple #[.slice a (outsP l f k).length c, errP l k]) ∧ w'.ownsRow w.heap.size 29 1 (.slice a (outsP l f k).length c) (outsP l f k).length (u64s (outsP l f k)) ∧
      CtM w' g gc tv' N (stF l f k) (trK l tr k) ∧ Only (ctS g gc tv) w w' ∧ (tv'.ownBlock = tv.ownBlock ∨ ∃ b, tv'.ownBlock = some b ∧ w.heap.size ≤ b) := by
  refine (run_any g gc N vl tv l tr f w h hR hok hl htr hN).mono ?_
  rintro e9 w' ⟨k', tv', h1, h2, h3, h4, h5, h6⟩
  have hs : Stop N l k' := ⟨h1, h2, h6.imp (fun h => h.1) (fun h => ⟨h.1, h.2.1⟩)⟩
  obtain rfl := hk.same hs
  rcases h6 with ⟨e1, v, rfl, ho⟩ | ⟨e1, _, rfl⟩
  · obtain ⟨a, c, rfl⟩ := own_form ho
    unfold outsP errP
    rw [if_pos e1, if_pos e1]
    exact ⟨tv', a, c, rfl, ho, h3, h4, h5⟩
  · have e2 : ¬ k = l.length := by omega
    unfold outsP errP
    rw [if_neg e2, if_neg e2]
    exact ⟨tv', none, 0, rfl, own_nil _ _ _ _, h3, h4, h5⟩
theorem rrun_at (g mp N s k : Nat) (vl lv : Value) (l tr : List Ins) (f : Nat → Int) (q : Int → Option Int) (w : World) (hag : Agree N f q) (hk : Stop N l k) (h : RfM w g mp lv N s q tr) (hR : ∀ w', Only (rfS g mp lv) w w' → RdIns w' vl l) (hok : ∀ x ∈ l, x.ok) (hl : l.length ≤ 1000000) (htr : tr.length ≤ 1000000) (hs : s ≤ 1000000) :
    Calls Try.prog 21 #[.pointer (some ⟨g, 0, none⟩), vl] w fun e w' => ∃ lv' s' a c, e = .returned (.tuple #[.slice a (outsP l f k).length c, .int .i64 (codP l k)]) ∧ w'.ownsRow w.heap.size 29 1 (.slice a (outsP l f k).length c) (outsP l f k).length (u64s (outsP l f k)) ∧
      RfM w' g mp lv' N s' (stQ l q k) (trK l tr k) ∧ Only (rfS g mp lv) w w' ∧ (lv'.ownBlock = lv.ownBlock ∨ ∃ b, lv'.ownBlock = some b ∧ w.heap.size ≤ b) := by
  refine (rrun_any g mp N s vl lv l tr q w h hR hok hl htr hs).mono ?_
  rintro e9 w' ⟨k', lv', s', h1, h2, h3, h4, h5, h6⟩
  have hs : Stop N l k' := ⟨h1, h2, h6.imp (fun h => h.1) (fun h => ⟨h.1, h.2.1⟩)⟩
  obtain rfl := hk.same hs
  rcases h6 with ⟨e1, v, rfl, ho⟩ | ⟨e1, _, rfl⟩
  · rw [told_agree hag k hk.may] at ho
    obtain ⟨a, c, rfl⟩ := own_form ho
    unfold outsP codP
    rw [if_pos e1, if_pos e1]
    exact ⟨lv', s', a, c, rfl, ho, h3, h4, h5⟩
  · have e2 : ¬ k = l.length := by omega
    unfold outsP codP
    rw [if_neg e2, if_neg e2]
    exact ⟨lv', s', none, 0, rfl, own_nil _ _ _ _, h3, h4, h5⟩
theorem outsP_len (l : List Ins) (f : Nat → Int) (k : Nat) (h : k ≤ l.length) : (outsP l f k).length ≤ l.length := by
  unfold outsP
  split
  · have := told_len l f k; omega
  · simp
/-- both machines behind a run -/
theorem Both.ran {w0 wr w1 w2 : World} {g gc g' mp N : Nat} {tv lv tv' lv' : Value} {f f' : Nat → Int} {q q' : Int → Option Int} {t1 t2 t1' t2' : List Ins} {s s' : Nat} (h : Both w0 wr g gc g' mp N tv lv f q t1 t2 s)
    (hm : CtM w1 g gc tv' N f' t1') (ho : Only (ctS g gc tv) wr w1) (hb : tv'.ownBlock = tv.ownBlock ∨ ∃ b, tv'.ownBlock = some b ∧ wr.heap.size ≤ b)
    (hr : RfM w2 g' mp lv' N s' q' t2') (ho2 : Only (rfS g' mp lv) w1 w2) (hb2 : lv'.ownBlock = lv.ownBlock ∨ ∃ b, lv'.ownBlock = some b ∧ w1.heap.size ≤ b) (hag : Agree N f' q') :
    Both w0 w2 g gc g' mp N tv' lv' f' q' t1' t2' s' := by
  obtain ⟨r1, s1, l1, b1⟩ := h.didM hm ho hb
  refine ⟨hm.only ho2 s1, hr, fun k hk hr' => ?_, l1, fun k hk => ?_, b1.trans (ho2.below b1.size h.lo'), hag⟩
  · rcases hr' with rfl | rfl | hr'
    · exact s1 _ hk (.inl rfl)
    · exact s1 _ hk (.inr (.inl rfl))
    · rcases hb2 with hb2 | ⟨b, hb2, hlt⟩
      · exact s1 _ hk (.inr (.inr (hb2.symm.trans hr')))
      · rw [hb2] at hr'; cases hr'
        have := hm.lt _ hk; omega
  · rcases hk with rfl | rfl | hk
    · exact h.lo' _ (.inl rfl)
    · exact h.lo' _ (.inr (.inl rfl))
    · rcases hb2 with hb2 | ⟨b, hb2, hlt⟩
      · exact h.lo' _ (.inr (.inr (hb2.symm.trans hk)))
      · rw [hb2] at hk; cases hk
        have := b1.size; omega
end Go.Proofs.Ytpikoijohfmnaaa
