/- What the built list of MacroLooks tells, in plain words. -/
import Derived.Test.YtpikoijohfmnaaaMacUp
set_option linter.unusedVariables false
set_option linter.unusedSimpArgs false
namespace Go.Proofs.Ytpikoijohfmnaaa
open Go.RowKit
theorem insAt_left (l m : List Ins) (j : Nat) (h : j < l.length) : insAt (l ++ m) j = insAt l j := by
  unfold insAt; rw [List.getD_eq_getElem?_getD, List.getD_eq_getElem?_getD, List.getElem?_append_left h]
theorem insAt_right (l m : List Ins) (j : Nat) : insAt (l ++ m) (l.length + j) = insAt m j := by
  unfold insAt; rw [List.getD_eq_getElem?_getD, List.getD_eq_getElem?_getD, List.getElem?_append_right (by omega), Nat.add_sub_cancel_left]
theorem stF_left (l m : List Ins) (f : Nat → Int) (k : Nat) (h : k ≤ l.length) : stF (l ++ m) f k = stF l f k := by
  induction k with
  | zero => rfl
  | succ k ih => rw [stF_succ, stF_succ, ih (by omega), insAt_left l m k (by omega)]
theorem stF_right (l m : List Ins) (f : Nat → Int) (k : Nat) : stF (l ++ m) f (l.length + k) = stF m (stF l f l.length) k := by
  induction k with
  | zero => exact stF_left l m f _ (Nat.le_refl _)
  | succ k ih => rw [← Nat.add_assoc, stF_succ, stF_succ, ih, insAt_right]
theorem told_step (l : List Ins) (f : Nat → Int) (k : Nat) : toldK l f (k + 1) = toldK l f k ++ (if (insAt l k).op = 11 then [outP (stF l f k) (insAt l k)] else []) := rfl
theorem told_left (l m : List Ins) (f : Nat → Int) (k : Nat) (h : k ≤ l.length) : toldK (l ++ m) f k = toldK l f k := by
  induction k with
  | zero => rfl
  | succ k ih => rw [told_step, told_step, ih (by omega), insAt_left l m k (by omega), stF_left l m f k (by omega)]
theorem told_right (l m : List Ins) (f : Nat → Int) (k : Nat) : toldK (l ++ m) f (l.length + k) = toldK l f l.length ++ toldK m (stF l f l.length) k := by
  induction k with
  | zero => rw [Nat.add_zero, told_left l m f _ (Nat.le_refl _)]; exact (List.append_nil _).symm
  | succ k ih => rw [← Nat.add_assoc, told_step, told_step, ih, insAt_right, stF_right, List.append_assoc]
def endF (l : List Ins) (f : Nat → Int) : Nat → Int := stF l f l.length
def endT (l : List Ins) (f : Nat → Int) : List Int := toldK l f l.length
theorem endF_app (l m : List Ins) (f : Nat → Int) : endF (l ++ m) f = endF m (endF l f) := by unfold endF; rw [List.length_append, stF_right]
theorem endT_app (l m : List Ins) (f : Nat → Int) : endT (l ++ m) f = endT l f ++ endT m (endF l f) := by unfold endT endF; rw [List.length_append, told_right]
theorem next_const (f : Nat → Int) (d a b c n : Int) : nextF f ⟨0, d, a, b, c, n⟩ = upd f d.toNat n := rfl
theorem next_in (f : Nat → Int) (d a b c n : Int) : nextF f ⟨10, d, a, b, c, n⟩ = upd f d.toNat n := rfl
theorem next_eq (f : Nat → Int) (d a b c n : Int) : nextF f ⟨2, d, a, b, c, n⟩ = upd f d.toNat (if f a.toNat = f b.toNat then 1 else 0) := rfl
theorem next_sel (f : Nat → Int) (d a b c n : Int) : nextF f ⟨1, d, a, b, c, n⟩ = upd f d.toNat (if f a.toNat = 0 then f c.toNat else f b.toNat) := rfl
theorem next_emit (f : Nat → Int) (d a b c n : Int) : nextF f ⟨11, d, a, b, c, n⟩ = f := rfl
/-- the last that the key looks up -/
def wantP (t : Nat → Int) (key step : Int) : Nat → Int
  | 0 => 0
  | k + 1 => if (k : Int) * step % 18446744073709551616 = key then t k else wantP t key step k
theorem want_succ (t : Nat → Int) (key step : Int) (k : Nat) : wantP t key step (k + 1) = if (k : Int) * step % 18446744073709551616 = key then t k else wantP t key step k := rfl
/-- the table's cells -/
def heads (t : Nat → Int) : Nat → List Ins
  | 0 => []
  | k + 1 => heads t k ++ [⟨0, 10 + k, 0, 0, 0, t k⟩]
theorem heads_succ (t : Nat → Int) (k : Nat) : heads t (k + 1) = heads t k ++ [⟨0, 10 + (k : Int), 0, 0, 0, t k⟩] := rfl
theorem heads_len (t : Nat → Int) (k : Nat) : (heads t k).length = k := by
  induction k with
  | zero => rfl
  | succ k ih => rw [heads_succ, List.length_append, ih]; rfl
theorem heads_end (t : Nat → Int) (f : Nat → Int) (k : Nat) : ∀ i, i < k → endF (heads t k) f (10 + i) = t i := by
  induction k with
  | zero => intro i hi; cases hi
  | succ k ih =>
    intro i hi
    rw [heads_succ, endF_app]
    show upd _ (10 + (k : Int)).toNat (t k) (10 + i) = t i
    rw [show (10 + (k : Int)).toNat = 10 + k from by omega]
    by_cases h : i = k
    · subst h; exact upd_same _ _ _
    · rw [upd_other _ _ (by omega)]; exact ih i (by omega)
theorem heads_told (t : Nat → Int) (f : Nat → Int) (k : Nat) : endT (heads t k) f = [] := by
  induction k with
  | zero => rfl
  | succ k ih => rw [heads_succ, endT_app, ih]; rfl
theorem look_end (step : Int) (f : Nat → Int) (k : Nat) (hk : k ≤ 100) : endF (lookN 2 1 10 step 3 k) f 2 = wantP (fun i => f (10 + i)) (f 1) step k ∧ ∀ j, j ≠ 2 → j ≠ 3 → endF (lookN 2 1 10 step 3 k) f j = f j := by
  induction k with
  | zero =>
    have e : endF (lookN 2 1 10 step 3 0) f = upd f 2 0 := rfl
    rw [e]
    exact ⟨upd_same f 2 0, fun j h2 h3 => upd_other _ _ h2⟩
  | succ k ih =>
    obtain ⟨i1, i2⟩ := ih (by omega)
    rw [lookN_succ, endF_app]
    generalize endF (lookN 2 1 10 step 3 k) f = g at i1 i2 ⊢
    have e : endF (rowP 2 1 10 step 3 k) g = nextF (nextF (nextF g ⟨0, 3, 0, 0, 0, (k : Int) * step % 18446744073709551616⟩) ⟨2, 3, 3, 1, 0, 0⟩) ⟨1, 2, 3, wrap64 (10 + k), 2, 0⟩ := rfl
    have hw : wrap64 (10 + (k : Int)) = 10 + k := by unfold wrap64; omega
    rw [e, hw, next_const, next_eq, next_sel]
    rw [show (10 + (k : Int)).toNat = 10 + k from by omega]
    generalize hv : (k : Int) * step % 18446744073709551616 = v
    show upd (upd (upd g 3 v) 3 (if upd g 3 v 3 = upd g 3 v 1 then 1 else 0)) 2 (if upd (upd g 3 v) 3 (if upd g 3 v 3 = upd g 3 v 1 then 1 else 0) 3 = 0 then upd (upd g 3 v) 3 (if upd g 3 v 3 = upd g 3 v 1 then 1 else 0) 2 else upd (upd g 3 v) 3 (if upd g 3 v 3 = upd g 3 v 1 then 1 else 0) (10 + k)) 2 = _ ∧ ∀ j, j ≠ 2 → j ≠ 3 → upd (upd (upd g 3 v) 3 (if upd g 3 v 3 = upd g 3 v 1 then 1 else 0)) 2 _ j = _
    rw [upd_same, upd_same, upd_same, upd_other g v (show (1 : Nat) ≠ 3 by omega), upd_other _ _ (show (2 : Nat) ≠ 3 by omega), upd_other g v (show (2 : Nat) ≠ 3 by omega), upd_other _ _ (show 10 + k ≠ 3 by omega), upd_other g v (show 10 + k ≠ 3 by omega), i1, i2 1 (by omega) (by omega), i2 (10 + k) (by omega) (by omega), want_succ, hv]
    refine ⟨?_, fun j h2 h3 => ?_⟩
    · by_cases h : v = f 1
      · rw [if_pos h, if_pos h, if_neg (by omega)]
      · rw [if_neg h, if_neg h, if_pos rfl]
    · rw [upd_other _ _ h2, upd_other _ _ h3, upd_other _ _ h3]; exact i2 j h2 h3
theorem look_told (step : Int) (f : Nat → Int) (k : Nat) : endT (lookN 2 1 10 step 3 k) f = [] := by
  induction k with
  | zero => rfl
  | succ k ih => rw [lookN_succ, endT_app, ih]; rfl
/-- the list that MacroLooks builds -/
def fullP (t : Nat → Int) (key step : Int) (n : Nat) : List Ins := heads t n ++ [⟨10, 1, 0, 0, 0, key⟩, ⟨0, 2, 0, 0, 0, 99⟩] ++ lookN 2 1 10 step 3 n ++ [⟨1, 4, 2, 2, 2, 0⟩] ++ [⟨11, 0, 2, 0, 0, 0⟩, ⟨11, 0, 4, 0, 0, 0⟩]
theorem full_len (t : Nat → Int) (key step : Int) (n : Nat) : (fullP t key step n).length = n + 2 + (1 + n * 3) + 1 + 2 := by
  unfold fullP; rw [List.length_append, List.length_append, List.length_append, List.length_append, heads_len, lookN_len]; rfl
theorem want_ext (t t' : Nat → Int) (key step : Int) (n : Nat) (h : ∀ i, i < n → t i = t' i) : wantP t key step n = wantP t' key step n := by
  induction n with
  | zero => rfl
  | succ n ih => rw [want_succ, want_succ, ih (fun i hi => h i (by omega)), h n (by omega)]
theorem full_told (t : Nat → Int) (key step : Int) (n : Nat) (hn : n ≤ 100) (f : Nat → Int) : endT (fullP t key step n) f = [wantP t key step n, wantP t key step n] := by
  have h0 := heads_told t f n
  have h1 := heads_end t f n
  unfold fullP
  simp only [endT_app, endF_app, h0, look_told]
  generalize endF (heads t n) f = f1 at h1 ⊢
  have e1 : endF [⟨10, 1, 0, 0, 0, key⟩, ⟨0, 2, 0, 0, 0, 99⟩] f1 = upd (upd f1 1 key) 2 99 := rfl
  rw [e1]
  obtain ⟨g1, g2⟩ := look_end step (upd (upd f1 1 key) 2 99) n hn
  have k1 : upd (upd f1 1 key) 2 99 1 = key := by rw [upd_other _ _ (by omega), upd_same]
  have k2 : wantP (fun i => upd (upd f1 1 key) 2 99 (10 + i)) key step n = wantP t key step n := want_ext _ _ _ _ _ fun i hi => by
    show upd (upd f1 1 key) 2 99 (10 + i) = t i
    rw [upd_other _ _ (by omega), upd_other _ _ (by omega)]; exact h1 i hi
  rw [k1, k2] at g1
  generalize endF (lookN 2 1 10 step 3 n) (upd (upd f1 1 key) 2 99) = g at g1
  have e2 : endF [⟨1, 4, 2, 2, 2, 0⟩] g = upd g 4 (if g 2 = 0 then g 2 else g 2) := rfl
  rw [e2]
  have e3 : (if g 2 = 0 then g 2 else g 2) = g 2 := by split <;> rfl
  rw [e3, g1]
  have e4 : endT [⟨10, 1, 0, 0, 0, key⟩, ⟨0, 2, 0, 0, 0, 99⟩] f1 = [] := rfl
  have e5 : endT [⟨1, 4, 2, 2, 2, 0⟩] g = [] := rfl
  have e6 : ∀ h : Nat → Int, endT [⟨11, 0, 2, 0, 0, 0⟩, ⟨11, 0, 4, 0, 0, 0⟩] h = [h 2, h 4] := fun _ => rfl
  rw [e4, e5, e6, upd_same, upd_other _ _ (show (2 : Nat) ≠ 4 by omega), g1]
  rfl
theorem heads_may (t : Nat → Int) (n k : Nat) (hk : k ≤ n) : ∀ x ∈ heads t k, mayP ((10 + n : Nat) : Int) x = true := by
  induction k with
  | zero => intro x hx; cases hx
  | succ k ih =>
    intro x hx
    rw [heads_succ] at hx
    rcases List.mem_append.1 hx with h | h
    · exact ih (by omega) x h
    · simp only [List.mem_singleton] at h
      subst h
      have h1 : 10 + (k : Int) < ((10 + n : Nat) : Int) := by omega
      have h2 : (0 : Int) ≤ 10 + k := by omega
      unfold mayP thereP
      simp only [isD, isA, isB, isC, isS, decide_eq_true h1, decide_eq_true h2]
      first | decide | (simp; done)
theorem row_may (step : Int) (n k : Nat) (hk : k < n) (hn : n ≤ 100) : ∀ x ∈ rowP 2 1 10 step 3 k, mayP ((10 + n : Nat) : Int) x = true := by
  intro x hx
  have hw : wrap64 (10 + (k : Int)) = 10 + k := by unfold wrap64; omega
  unfold rowP at hx
  rw [hw] at hx
  have h1 : 10 + (k : Int) < ((10 + n : Nat) : Int) := by omega
  have h2 : (0 : Int) ≤ 10 + k := by omega
  have h3 : (3 : Int) < ((10 + n : Nat) : Int) := by omega
  have h4 : (2 : Int) < ((10 + n : Nat) : Int) := by omega
  have h5 : (1 : Int) < ((10 + n : Nat) : Int) := by omega
  simp only [List.mem_cons, List.not_mem_nil, or_false] at hx
  rcases hx with rfl | rfl | rfl
  all_goals
    unfold mayP thereP
    simp only [isD, isA, isB, isC, isS, decide_eq_true h1, decide_eq_true h2, decide_eq_true h3, decide_eq_true h4, decide_eq_true h5]
    first | decide | (simp; done)
theorem look_may (step : Int) (n k : Nat) (hk : k ≤ n) (hn : n ≤ 100) : ∀ x ∈ lookN 2 1 10 step 3 k, mayP ((10 + n : Nat) : Int) x = true := by
  induction k with
  | zero =>
    intro x hx
    have h4 : (2 : Int) < ((10 + n : Nat) : Int) := by omega
    have h : x = ⟨0, 2, 0, 0, 0, 0⟩ := by simpa [lookN] using hx
    subst h
    unfold mayP thereP
    simp only [isD, isA, isB, isC, isS, decide_eq_true h4]
    first | decide | (simp; done)
  | succ k ih =>
    intro x hx
    rw [lookN_succ] at hx
    rcases List.mem_append.1 hx with h | h
    · exact ih (by omega) x h
    · exact row_may step n k (by omega) hn x h
theorem full_may (t : Nat → Int) (key step : Int) (n : Nat) (hn : n ≤ 100) : ∀ x ∈ fullP t key step n, mayP ((10 + n : Nat) : Int) x = true := by
  intro x hx
  have h1 : (1 : Int) < ((10 + n : Nat) : Int) := by omega
  have h2 : (2 : Int) < ((10 + n : Nat) : Int) := by omega
  have h4 : (4 : Int) < ((10 + n : Nat) : Int) := by omega
  unfold fullP at hx
  simp only [List.mem_append, List.mem_cons, List.not_mem_nil, or_false] at hx
  rcases hx with ((((h | rfl | rfl) | h) | rfl) | rfl | rfl)
  · exact heads_may t n n (Nat.le_refl _) x h
  rotate_left 2
  · exact look_may step n n (Nat.le_refl _) hn x h
  all_goals
    unfold mayP thereP
    simp only [isD, isA, isB, isC, isS, decide_eq_true h1, decide_eq_true h2, decide_eq_true h4]
    first | decide | (simp; done)
theorem full_stop (t : Nat → Int) (key step : Int) (n : Nat) (hn : n ≤ 100) : Stop (10 + n) (fullP t key step n) (fullP t key step n).length :=
  ⟨Nat.le_refl _, fun j hj => by rw [insAt_eq _ j hj]; exact full_may t key step n hn _ (List.getElem_mem hj), .inl rfl⟩
theorem full_outs (t : Nat → Int) (key step : Int) (n : Nat) (hn : n ≤ 100) (f : Nat → Int) : outsP (fullP t key step n) f (fullP t key step n).length = [wantP t key step n, wantP t key step n] := by
  unfold outsP; rw [if_pos rfl]; exact full_told t key step n hn f
theorem full_ok (t : Nat → Int) (key step : Int) (n : Nat) (hn : n ≤ 100) (ht : ∀ i, i < n → 0 ≤ t i ∧ t i ≤ 18446744073709551615) (hk : 0 ≤ key ∧ key ≤ 18446744073709551615) : ∀ x ∈ fullP t key step n, x.ok := by
  have hh : ∀ k, k ≤ n → ∀ x ∈ heads t k, x.ok := by
    intro k
    induction k with
    | zero => intro _ x hx; cases hx
    | succ k ih =>
      intro hkn x hx
      rw [heads_succ] at hx
      rcases List.mem_append.1 hx with h | h
      · exact ih (by omega) x h
      · simp only [List.mem_singleton] at h
        subst h
        have := ht k (by omega)
        refine ⟨?_, ?_, ?_, ?_, ?_, ?_⟩ <;> dsimp only <;> omega
  have hlk : ∀ k, k ≤ n → ∀ x ∈ lookN 2 1 10 step 3 k, x.ok := by
    intro k
    induction k with
    | zero =>
      intro _ x hx
      have h : x = ⟨0, 2, 0, 0, 0, 0⟩ := by simpa [lookN] using hx
      subst h
      refine ⟨?_, ?_, ?_, ?_, ?_, ?_⟩ <;> dsimp only <;> omega
    | succ k ih =>
      intro hkn x hx
      rw [lookN_succ] at hx
      rcases List.mem_append.1 hx with h | h
      · exact ih (by omega) x h
      · have hw : wrap64 (10 + (k : Int)) = 10 + k := by unfold wrap64; omega
        unfold rowP at h
        rw [hw] at h
        generalize hv : (k : Int) * step % 18446744073709551616 = v at h
        have : 0 ≤ v ∧ v < 18446744073709551616 := by omega
        simp only [List.mem_cons, List.not_mem_nil, or_false] at h
        rcases h with rfl | rfl | rfl <;> refine ⟨?_, ?_, ?_, ?_, ?_, ?_⟩ <;> dsimp only <;> omega
  intro x hx
  unfold fullP at hx
  simp only [List.mem_append, List.mem_cons, List.not_mem_nil, or_false] at hx
  rcases hx with ((((h | rfl | rfl) | h) | rfl) | rfl | rfl)
  · exact hh n (Nat.le_refl _) x h
  rotate_left 2
  · exact hlk n (Nat.le_refl _) x h
  all_goals refine ⟨?_, ?_, ?_, ?_, ?_, ?_⟩ <;> dsimp only <;> omega
end Go.Proofs.Ytpikoijohfmnaaa
