/- Run of the document. -/
import Derived.Test.YtpikoijohfmnaaaMac3
set_option linter.unusedVariables false
set_option linter.unusedSimpArgs false
namespace Go.Proofs.Ytpikoijohfmnaaa
open Go.RowKit
/-- the cells behind k of them -/
def stQ (l : List Ins) (q : Int → Option Int) : Nat → (Int → Option Int)
  | 0 => q
  | k + 1 => nextR (stQ l q k) (insAt l k)
theorem stQ_succ (l : List Ins) (q : Int → Option Int) (k : Nat) : stQ l q (k + 1) = nextR (stQ l q k) (insAt l k) := rfl
/-- what has been told behind k of them -/
def toldQ (l : List Ins) (q : Int → Option Int) : Nat → List Int
  | 0 => []
  | k + 1 => toldQ l q k ++ (if (insAt l k).op = 11 then [outR (stQ l q k) (insAt l k)] else [])
theorem toldQ_yes (l : List Ins) (q : Int → Option Int) (k : Nat) (h : (insAt l k).op = 11) : toldQ l q (k + 1) = toldQ l q k ++ [outR (stQ l q k) (insAt l k)] := by
  show _ ++ _ = _
  rw [if_pos h]
theorem toldQ_no (l : List Ins) (q : Int → Option Int) (k : Nat) (h : ¬ (insAt l k).op = 11) : toldQ l q (k + 1) = toldQ l q k := by
  show _ ++ _ = _
  rw [if_neg h, List.append_nil]
theorem toldQ_len (l : List Ins) (q : Int → Option Int) (k : Nat) : (toldQ l q k).length ≤ k := by
  induction k with
  | zero => exact Nat.le_refl _
  | succ k ih =>
    by_cases h : (insAt l k).op = 11
    · rw [toldQ_yes l q k h, List.length_append]; simp; omega
    · rw [toldQ_no l q k h]; omega
theorem st_agree {N : Nat} {l : List Ins} {f : Nat → Int} {q : Int → Option Int} (h : Agree N f q) (k : Nat) (hm : ∀ j, j < k → mayP N (insAt l j) = true) : Agree N (stF l f k) (stQ l q k) := by
  induction k with
  | zero => exact h
  | succ k ih => rw [stF_succ, stQ_succ]; exact next_agree (ih fun j hj => hm j (by omega)) (hm k (by omega))
theorem told_agree {N : Nat} {l : List Ins} {f : Nat → Int} {q : Int → Option Int} (h : Agree N f q) (k : Nat) (hm : ∀ j, j < k → mayP N (insAt l j) = true) : toldQ l q k = toldK l f k := by
  induction k with
  | zero => rfl
  | succ k ih =>
    have e := ih fun j hj => hm j (by omega)
    by_cases h11 : (insAt l k).op = 11
    · rw [toldQ_yes l q k h11, told_yes l f k h11, e, out_agree (st_agree h k fun j hj => hm j (by omega)) (hm k (by omega))]
    · rw [toldQ_no l q k h11, told_no l f k h11, e]
/-- what the document's Run comes to -/
def RRunPost (N g mp s : Nat) (lv : Value) (l : List Ins) (q : Int → Option Int) (tr : List Ins) (w : World) (e : Ending) (w' : World) : Prop :=
  ∃ (k : Nat) (lv' : Value) (s' : Nat), k ≤ l.length ∧ (∀ j, j < k → mayP N (insAt l j) = true) ∧ RfM w' g mp lv' N s' (stQ l q k) (trK l tr k) ∧ Only (rfS g mp lv) w w' ∧ (lv'.ownBlock = lv.ownBlock ∨ ∃ b, lv'.ownBlock = some b ∧ w.heap.size ≤ b) ∧
    ((k = l.length ∧ ∃ v, e = .returned (.tuple #[v, .int .i64 0]) ∧ w'.ownsRow w.heap.size 29 1 v (toldQ l q k).length (u64s (toldQ l q k))) ∨
     (k < l.length ∧ mayP N (insAt l k) = false ∧ e = .returned (.tuple #[.slice none 0 0, .int .i64 1])))
set_option maxRecDepth 100000 in
set_option maxHeartbeats 8000000 in
theorem rrun_any (g mp N s : Nat) (vl lv : Value) (l tr : List Ins) (q : Int → Option Int) (w : World) (h : RfM w g mp lv N s q tr) (hR : ∀ w', Only (rfS g mp lv) w w' → RdIns w' vl l) (hok : ∀ x ∈ l, x.ok) (hl : l.length ≤ 1000000) (htr : tr.length ≤ 1000000) (hs : s ≤ 1000000) :
    Calls Try.prog 21 #[.pointer (some ⟨g, 0, none⟩), vl] w (RRunPost N g mp s lv l q tr w) := by
  obtain ⟨a1, c1, rfl, _, hA⟩ := rdIns_form (hR w (Only.refl w))
  obtain ⟨n, hn⟩ : ∃ n, l.length = n := ⟨_, rfl⟩
  rw [hn] at hR hA hl ⊢
  have hlI : (n : Int) ≤ 1000000 := by omega
  have HH := Lib.hid hR; have HOK := Lib.hid hok; have HFA := Lib.hid hA; have HN := Lib.hid hn; have HL := Lib.hid hl; have HTR := Lib.hid htr; have HS := Lib.hid hs; have HM0 := Lib.hid h
  clear hR hok hA hn hl htr hs h
  go_enter Try.func21, Try.ntmps21
  go_wp2_with fail
  go_loopw [6, 7] (fun v i wr => ∃ (j : Nat) (lv' : Value) (s' : Nat), j ≤ n ∧ i = .int .i64 j ∧ s' ≤ s + j ∧ (∀ j', j' < j → mayP N (insAt l j') = true) ∧ RfM wr g mp lv' N s' (stQ l q j) (trK l tr j) ∧ Only (rfS g mp lv) w wr ∧ (lv'.ownBlock = lv.ownBlock ∨ ∃ b, lv'.ownBlock = some b ∧ w.heap.size ≤ b) ∧ wr.ownsRow w.heap.size 29 1 v (toldQ l q j).length (u64s (toldQ l q j))) (fun _ i _ => n - (intOf i).toNat)
  case atStart => exact ⟨0, lv, s, by omega, rfl, by omega, fun _ hj => absurd hj (Nat.not_lt_zero _), HM0.out, Only.refl w, .inl rfl, own_nil _ _ _ _⟩
  case round =>
    obtain ⟨j, lv', s', hj, rfl, hss, hmays, hM, hO, hT, ho⟩ := hrel
    obtain ⟨va, vn, vc, rfl⟩ := own_slice ho
    have HMS := Lib.hid hmays; have HM := Lib.hid hM; have HO := Lib.hid hO; have HT := Lib.hid hT; have HV := Lib.hid ho; have HSS := Lib.hid hss
    clear hmays hM hO hT ho hss
    by_cases hjn : j < n
    · have hjl : j < l.length := by rw [HN.out]; exact hjn
      rcases HFA.out with h0 | ⟨b1, o1, rfl⟩
      · exact absurd h0 (by omega)
      obtain ⟨⟨op, d, a, b, c, k⟩, hx⟩ : ∃ x, l[j] = x := ⟨_, rfl⟩
      have hxa : insAt l j = ⟨op, d, a, b, c, k⟩ := (insAt_eq l j hjl).trans hx
      have hxo : Ins.ok ⟨op, d, a, b, c, k⟩ := by rw [← hx]; exact HOK.out _ (List.getElem_mem hjl)
      have ca := rdIns_cells (HH.out wr HO.out) j hjl
      rw [hx] at ca
      dsimp only at ca
      have HXO := Lib.hid hxo; have HXA := Lib.hid hxa; have HX := Lib.hid hx
      clear hxo hxa hx
      have hnl := HL.out
      obtain ⟨z0, z1, z2, z3, z4, z5⟩ := ca
      cases hmay : mayP N ⟨op, d, a, b, c, k⟩
      · have HMAY := Lib.hid hmay; clear hmay
        go_wp2_with fail
        refine (refDo_no ⟨op, d, a, b, c, k⟩ g mp N s' lv' (stQ l q j) (trK l tr j) _ HM.out HMAY.out).mono ?_
        rintro e9 w4 ⟨rfl, hb4⟩
        clear z0 z1 z2 z3 z4 z5
        have HB4 := Lib.hid hb4; clear hb4
        go_wp2_with fail
        go_returns
        exact ⟨j, lv', s', by rw [HN.out]; omega, HMS.out, HM.out.below HB4.out, HO.out.trans (Only.of_below (S := fun _ => False) HB4.out) (fun _ => False.elim), HT.out, .inr ⟨hjl, by rw [HXA.out]; exact HMAY.out, rfl⟩⟩
      · have HMAY := Lib.hid hmay; clear hmay
        go_wp2_with fail
        refine (refDo_yes ⟨op, d, a, b, c, k⟩ g mp N s' lv' (stQ l q j) (trK l tr j) _ HM.out HMAY.out (by rw [trK_len]; have := HTR.out; omega) (by have := HS.out; have := HSS.out; omega) HXO.out).mono ?_
        rintro e9 w4 ⟨lv4, s4, rfl, hM4, hO4, hB4, hs4⟩
        clear z0 z1 z2 z3 z4 z5
        have hlt := HM.out.lt
        have ho4 : w4.ownsRow w.heap.size 29 1 (.slice va vn vc) (toldQ l q j).length (u64s (toldQ l q j)) :=
          own_only HV.out hO4 (fun q hq => by
            rintro (rfl | rfl | hk)
            · have := own_base HV.out _ hq; have := HM0.out.lt _ (.inl rfl); omega
            · have := own_base HV.out _ hq; have := HM0.out.lt _ (.inr (.inl rfl)); omega
            · exact own_own_ne HV.out HM.out.t (by decide) q hq hk)
        have hO4' : Only (rfS g mp lv) w w4 := by
          refine HO.out.trans hO4 (fun q hq => ?_)
          rcases hq with h | h | hk
          · exact .inl (.inl h)
          · exact .inl (.inr (.inl h))
          · rcases HT.out with h2 | ⟨b2, h2, h3⟩
            · exact .inl (.inr (.inr (h2.symm.trans hk)))
            · rw [h2] at hk; cases hk; exact .inr h3
        have hT4 : lv4.ownBlock = lv.ownBlock ∨ ∃ b, lv4.ownBlock = some b ∧ w.heap.size ≤ b := by
          rcases hB4 with h2 | ⟨b2, h2, h3⟩
          · rcases HT.out with h4 | ⟨b4, h4, h5⟩
            · exact .inl (h2.trans h4)
            · exact .inr ⟨b4, h2.trans h4, h5⟩
          · exact .inr ⟨b2, h2, by have := HO.out.size; omega⟩
        have hM4' : RfM w4 g mp lv4 N s4 (stQ l q (j + 1)) (trK l tr (j + 1)) := by rw [stQ_succ, trK_succ, HXA.out]; exact hM4
        have hmays : ∀ j', j' < j + 1 → mayP N (insAt l j') = true := fun j' hj' => by
          rcases Nat.lt_succ_iff_lt_or_eq.1 hj' with h | rfl
          · exact HMS.out j' h
          · rw [HXA.out]; exact HMAY.out
        have ca := rdIns_cells (HH.out w4 hO4') j hjl
        rw [HX.out] at ca
        dsimp only at ca
        have z0 := ca.1
        have hs5 : s4 ≤ s + (j + 1) := by have := HSS.out; omega
        have HM4 := Lib.hid hM4'; have HO4 := Lib.hid hO4'; have HT4 := Lib.hid hT4; have HV4 := Lib.hid ho4; have HMS4 := Lib.hid hmays; have HS5 := Lib.hid hs5
        clear hlt hM4 hO4 hB4 hO4' hM4' hT4 ho4 hmays ca hs4 hs5
        generalize hy : outR (stQ l q j) ⟨op, d, a, b, c, k⟩ = y
        have HY := Lib.hid hy; clear hy
        by_cases h11 : op = 11
        · have hto := toldQ_yes l q j (by rw [HXA.out]; exact h11)
          rw [HXA.out, HY.out] at hto
          have HTO := Lib.hid hto; clear hto
          subst h11
          go_wp2_with (at_builtin; go_must (refine wpList_appRow rfl (.tmp 34) (.tmp 36) 46 rfl w.heap.size 29 _ 1 8 Try.underlying46 infoU64 rfl (by decide) _ _ (toldQ l q j).length 1 _ _ (own_below HV4.out ((Below.refl _ _).alloc (Nat.le_refl _) _)) (src_at (AtG.new _ 29 _) 1) rfl rfl rfl (fun y hy => by simp at hy; subst hy; rfl) (by have := toldQ_len l q j; omega) (by decide) (by have := HO4.out.size; simp; omega) ?_); intro v5 w5 ho5 hg5; have HV5 := Lib.hid ho5; have HG5 := Lib.hid (World.grownBy.trans (World.grownBy_alloc w4 _ _) hg5); clear ho5 hg5)
          refine ⟨⟨j + 1, lv4, s4, by omega, by go_num, HS5.out, HMS4.out, ?_, ?_, HT4.out, ?_⟩, by simp [intOf]; omega⟩
          · refine HM4.out.only (Only.of_grown (S := fun q => (Value.slice va vn vc).ownBlock = some q) HG5.out (fun q hq => hq)) (fun q hq hk => ?_)
            rcases hq with rfl | rfl | hq
            · have := own_base HV4.out _ hk; have := HM0.out.lt _ (.inl rfl); omega
            · have := own_base HV4.out _ hk; have := HM0.out.lt _ (.inr (.inl rfl)); omega
            · exact own_own_ne HV4.out HM4.out.t (by decide) q hk hq
          · exact HO4.out.trans (Only.of_grown (S := fun q => (Value.slice va vn vc).ownBlock = some q) HG5.out (fun q hq => hq)) (fun q hq => .inr (own_base HV4.out q hq))
          · rw [HTO.out, List.length_append, u64s_snoc]; exact HV5.out
        · have hto := toldQ_no l q j (by rw [HXA.out]; exact h11)
          have HTO := Lib.hid hto; clear hto
          have e11 : (op == 11) = false := by rw [beq_eq_false_iff_ne]; exact h11
          go_wp2_with fail
          refine ⟨⟨j + 1, lv4, s4, by omega, by go_num, HS5.out, HMS4.out, HM4.out, HO4.out, HT4.out, ?_⟩, by simp [intOf]; omega⟩
          rw [HTO.out]; exact HV4.out
    · obtain rfl : j = n := by omega
      go_wp2_with fail
      go_returns
      exact ⟨j, lv', s', by rw [HN.out]; omega, HMS.out, HM.out, HO.out, HT.out, .inl ⟨HN.out.symm, _, rfl, HV.out⟩⟩
end Go.Proofs.Ytpikoijohfmnaaa
