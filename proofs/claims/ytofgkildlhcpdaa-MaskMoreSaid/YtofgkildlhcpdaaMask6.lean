/- Two rows of rules that are being built; what the help's Bools tells. -/
import Derived.Test.YtofgkildlhcpdaaMask5
import Derived.Test.YtofgkildlhcpdaaPatternK
set_option linter.unusedVariables false
set_option linter.unusedSimpArgs false
namespace Go.Proofs.Ytofgkildlhcpdaa
open Go.RowKit Bt Luhn Go.ChangeShapes Go.WideShapes
abbrev RuN := Tree × Value × Bool
def ruL (r : RuN) : List Value := nodeL r.1 r.2.1 ++ [.bool r.2.2]
theorem ruL_len (r : RuN) : (ruL r).length = 9 := by unfold ruL; rw [List.length_append, nodeL_len]; rfl
def flatR (ps : List RuN) : List Value := ps.flatMap ruL
theorem flatR_snoc (ps : List RuN) (r : RuN) : flatR (ps ++ [r]) = flatR ps ++ ruL r := by unfold flatR; rw [List.flatMap_append]; simp
theorem flatR_len (ps : List RuN) : (flatR ps).length = ps.length * 9 := by
  induction ps with
  | nil => rfl
  | cons p l ih => show (ruL p ++ flatR l).length = _; rw [List.length_append, ih, ruL_len, List.length_cons]; omega
theorem flatR_get : ∀ (ps : List RuN) (j : Nat) (p : RuN), ps[j]? = some p → ∀ i, i < 9 → (flatR ps)[j * 9 + i]? = (ruL p)[i]?
  | [], j, p, h, i, hi => by simp at h
  | q :: l, 0, p, h, i, hi => by
    simp at h; subst h
    show (ruL q ++ flatR l)[0 * 9 + i]? = _
    rw [List.getElem?_append_left (by rw [ruL_len]; omega)]; simp
  | q :: l, j + 1, p, h, i, hi => by
    show (ruL q ++ flatR l)[(j + 1) * 9 + i]? = _
    rw [List.getElem?_append_right (by rw [ruL_len]; omega), ruL_len, show (j + 1) * 9 + i - 9 = j * 9 + i from by omega]
    exact flatR_get l j p (by simpa using h) i hi
theorem ruL_one (r : RuN) : ∀ y ∈ ruL r, y.oneCell' = true ∨ y = r.2.1 := fun y hy => by
  obtain ⟨t, kv, b⟩ := r
  obtain ⟨op, f, mn, mx, kids⟩ := t
  unfold ruL nodeL at hy
  simp at hy
  rcases hy with rfl | rfl | rfl | rfl | rfl | rfl | rfl | rfl | rfl <;> first | exact .inl rfl | exact .inr rfl
structure RHold (w : World) (base Ta Tb : Nat) (va vb : Value) (la lb pk : List RuN) : Prop where
  a : w.ownsRow base Ta 9 va la.length (flatR la)
  b : w.ownsRow base Tb 9 vb lb.length (flatR lb)
  k : ∀ p ∈ pk, KAt (fun x => x < w.heap.size ∧ va.ownBlock ≠ some x ∧ vb.ownBlock ≠ some x) w p.1 p.2.1
  ne : ∀ x, va.ownBlock = some x → vb.ownBlock ≠ some x
section
variable {w w' : World} {base Ta Tb : Nat} {va vb v' : Value} {la lb pk : List RuN} {r : RuN}
theorem RHold.nil (w : World) (base Ta Tb : Nat) : RHold w base Ta Tb (.slice none 0 0) (.slice none 0 0) [] [] [] :=
  ⟨own_nil _ _ _ _, own_nil _ _ _ _, (fun p hp => by cases hp), (fun x h => by cases h)⟩
theorem RHold.below (h : RHold w base Ta Tb va vb la lb pk) (hb : Below w.heap.size w w') : RHold w' base Ta Tb va vb la lb pk :=
  ⟨own_below h.a hb, own_below h.b hb, fun p hp => KAt.keep (fun b hb' => hb.block b hb'.1) (fun b hb' => ⟨Nat.lt_of_lt_of_le hb'.1 hb.size, hb'.2⟩) _ _ (h.k p hp), h.ne⟩
theorem RHold.more (h : RHold w base Ta Tb va vb la lb pk) (hb : Below w.heap.size w w') (hk : KAt (fun x => w.heap.size ≤ x) w' r.1 r.2.1) : RHold w' base Ta Tb va vb la lb (pk ++ [r]) := by
  have h' := h.below hb
  refine ⟨h'.a, h'.b, fun p hp => ?_, h'.ne⟩
  rcases List.mem_append.1 hp with hp | hp
  · exact h'.k p hp
  · rw [List.mem_singleton] at hp; subst hp
    exact (KAt.lt _ _ hk).mono fun x hx => ⟨hx.2, fun e => by have := own_lt h.a x e; have := hx.1; omega, fun e => by have := own_lt h.b x e; have := hx.1; omega⟩
theorem RHold.appA (h : RHold w base Ta Tb va vb la lb pk) (ho : w'.ownsRow base Ta 9 v' (la.length + 1) (flatR la ++ ruL r)) (hg : w.grownBy w' va.ownBlock) (hk : v'.ownBlock = va.ownBlock ∨ v'.ownBlock = some w.heap.size) : RHold w' base Ta Tb v' vb (la ++ [r]) lb pk := by
  constructor
  · rw [flatR_snoc, List.length_append]; exact ho
  · exact own_grown h.b hg (fun x hx e => h.ne x e.symm hx)
  · intro p hp
    refine KAt.keep (D := fun x => x < w.heap.size ∧ va.ownBlock ≠ some x ∧ vb.ownBlock ≠ some x) (fun b hb' => hg.block b hb'.1 (fun e => hb'.2.1 e.symm)) ?_ _ _ (h.k p hp)
    intro b hb'
    refine ⟨Nat.lt_of_lt_of_le hb'.1 hg.size, ?_, hb'.2.2⟩
    intro e
    rcases hk with hk | hk
    · exact hb'.2.1 (by rw [← hk]; exact e)
    · rw [hk] at e; injection e with e; have := hb'.1; omega
  · intro x hx hx'
    rcases hk with hk | hk
    · exact h.ne x (by rw [← hk]; exact hx) hx'
    · rw [hk] at hx; injection hx with hx; have := own_lt h.b x hx'; omega
theorem RHold.appB (h : RHold w base Ta Tb va vb la lb pk) (ho : w'.ownsRow base Tb 9 v' (lb.length + 1) (flatR lb ++ ruL r)) (hg : w.grownBy w' vb.ownBlock) (hk : v'.ownBlock = vb.ownBlock ∨ v'.ownBlock = some w.heap.size) : RHold w' base Ta Tb va v' la (lb ++ [r]) pk := by
  constructor
  · exact own_grown h.a hg (fun x hx e => h.ne x hx e.symm)
  · rw [flatR_snoc, List.length_append]; exact ho
  · intro p hp
    refine KAt.keep (D := fun x => x < w.heap.size ∧ va.ownBlock ≠ some x ∧ vb.ownBlock ≠ some x) (fun b hb' => hg.block b hb'.1 (fun e => hb'.2.2 e.symm)) ?_ _ _ (h.k p hp)
    intro b hb'
    refine ⟨Nat.lt_of_lt_of_le hb'.1 hg.size, hb'.2.1, ?_⟩
    intro e
    rcases hk with hk | hk
    · exact hb'.2.2 (by rw [← hk]; exact e)
    · rw [hk] at e; injection e with e; have := hb'.1; omega
  · intro x hx hx'
    rcases hk with hk | hk
    · exact h.ne x hx (by rw [← hk]; exact hx')
    · rw [hk] at hx'; injection hx' with hx'; have := own_lt h.a x hx; omega
end
/-- such a row is read -/
theorem ruAt_own {w : World} {base T n : Nat} {v : Value} {ps : List RuN} {rs : List Rul} (h : w.ownsRow base T 9 v n (flatR ps)) (hk : ∀ p ∈ ps, NAt w p.1 p.2.1) (hl : ps.length = rs.length) (he : ∀ j (hj : j < rs.length) (hj' : j < ps.length), rs[j].1.tree = ps[j].1 ∧ rs[j].2 = ps[j].2.2) : RuAt w v rs := by
  have hlen := h.1
  rw [flatR_len] at hlen
  have hn : ps.length = n := by omega
  rcases h.2 with ⟨rfl, h0⟩ | ⟨g, cap, cur, rfl, hb, hh, hnc, hcm, hcs, hct⟩
  · refine .inl ⟨List.eq_nil_of_length_eq_zero (by omega), none, 0, rfl⟩
  · refine .inr ⟨g, 0, cap, by rw [← hl, hn], by omega, fun j hj => ?_⟩
    have hj' : j < ps.length := by omega
    obtain ⟨e1, e2⟩ := he j hj hj'
    have hc : ∀ i, i < 9 → w.cell? ⟨g, j * 9 + i, none⟩ = (ruL ps[j])[i]? := fun i hi => by
      rw [← flatR_get ps j ps[j] (List.getElem?_eq_getElem hj') i hi, ← hct, List.getElem?_take, if_pos (by omega)]
      simp [World.cell?, hh]
    have hkk := hk ps[j] (List.getElem_mem hj')
    generalize ps[j] = p at *
    generalize rs[j] = q at *
    obtain ⟨t, kv, b⟩ := p
    obtain ⟨qp, qb⟩ := q
    dsimp only at e1 e2 hkk ⊢
    subst e2
    rw [e1]
    obtain ⟨op, f, mn, mx, kids⟩ := t
    obtain ⟨ka, kc, rfl⟩ := KAt.slice hkk
    have hcc : ∀ i u, i < 9 → (ruL (Tree.node op f mn mx kids, Value.slice ka kids.length kc, qb))[i]? = some u → w.cell? ⟨g, 0 + j * 9 + i, none⟩ = some u := fun i u hi hu => by rw [Nat.zero_add, hc i hi, hu]
    refine ⟨op, f, mn, mx, kids, ka, _, kc, rfl, ⟨hcc 0 _ (by omega) rfl, hcc 1 _ (by omega) rfl, hcc 2 _ (by omega) rfl, hcc 3 _ (by omega) rfl, hcc 4 _ (by omega) rfl, hcc 5 _ (by omega) rfl, hcc 6 _ (by omega) rfl, hcc 7 _ (by omega) rfl⟩, hcc 8 _ (by omega) rfl, hkk⟩
/-- strings that came in -/
def RdS (w : World) (v : Value) (ss : List ByteArray) : Prop := ∃ A c, v = .slice A ss.length c ∧ ss.length ≤ 140737488355328 ∧ ∀ j (h : j < ss.length), ∃ b off, A = some ⟨b, off, none⟩ ∧ ss.length ≤ c ∧ w.cell? ⟨b, off + j, none⟩ = some (.string ss[j])
def RdT (w : World) (v : Value) (ss : List Bool) : Prop := ∃ A c, v = .slice A ss.length c ∧ ss.length ≤ 140737488355328 ∧ ∀ j (h : j < ss.length), ∃ b off, A = some ⟨b, off, none⟩ ∧ ss.length ≤ c ∧ w.cell? ⟨b, off + j, none⟩ = some (.bool ss[j])
theorem RdS.below {w w' : World} {v : Value} {ss : List ByteArray} (h : RdS w v ss) (hb : Below w.heap.size w w') : RdS w' v ss := by
  obtain ⟨A, c, rfl, hm, h⟩ := h
  refine ⟨A, c, rfl, hm, fun j hj => ?_⟩
  obtain ⟨b, off, h1, h2, h3⟩ := h j hj
  exact ⟨b, off, h1, h2, (hb.cell (World.block_lt_of_cell? w _ h3)).trans h3⟩
theorem RdT.below {w w' : World} {v : Value} {ss : List Bool} (h : RdT w v ss) (hb : Below w.heap.size w w') : RdT w' v ss := by
  obtain ⟨A, c, rfl, hm, h⟩ := h
  refine ⟨A, c, rfl, hm, fun j hj => ?_⟩
  obtain ⟨b, off, h1, h2, h3⟩ := h j hj
  exact ⟨b, off, h1, h2, (hb.cell (World.block_lt_of_cell? w _ h3)).trans h3⟩
section
variable {H : Type} {enc : TypeId × Value → H} {W : World} {base : Nat} {spare : Nat → Bool} {held : Bool}
theorem rows_strings : ∀ (rows : List (List Value)), (∀ r ∈ rows, r.length = 1) → (∀ r ∈ rows, ∃ m y, DataW.trod enc Try.prog W base spare held m 9 r = some y) → ∃ ss : List ByteArray, rows = ss.map fun s => [.string s]
  | [], _, _ => ⟨[], rfl⟩
  | r :: l, h1, h2 => by
    obtain ⟨ss, rfl⟩ := rows_strings l (fun r hr => h1 r (List.mem_cons_of_mem _ hr)) (fun r hr => h2 r (List.mem_cons_of_mem _ hr))
    have hl := h1 r (List.mem_cons_self ..)
    obtain ⟨m, y, hy⟩ := h2 r (List.mem_cons_self ..)
    match r, hl with
    | [x], _ =>
      obtain ⟨s, rfl, _⟩ := trod_string1 Try.underlying9 hy
      exact ⟨s :: ss, rfl⟩
theorem rows_bools : ∀ (rows : List (List Value)), (∀ r ∈ rows, r.length = 1) → (∀ r ∈ rows, ∃ m y, DataW.trod enc Try.prog W base spare held m 4 r = some y) → ∃ ss : List Bool, rows = ss.map fun s => [.bool s]
  | [], _, _ => ⟨[], rfl⟩
  | r :: l, h1, h2 => by
    obtain ⟨ss, rfl⟩ := rows_bools l (fun r hr => h1 r (List.mem_cons_of_mem _ hr)) (fun r hr => h2 r (List.mem_cons_of_mem _ hr))
    have hl := h1 r (List.mem_cons_self ..)
    obtain ⟨m, y, hy⟩ := h2 r (List.mem_cons_self ..)
    match r, hl with
    | [x], _ =>
      obtain ⟨s, rfl⟩ := trod_bool1 Try.underlying4 hy
      exact ⟨s :: ss, rfl⟩
theorem rdS_of {v : Value} {rows : List (List Value)} (h : RdRows W v 1 rows) (h2 : ∀ r ∈ rows, ∃ m y, DataW.trod enc Try.prog W base spare held m 9 r = some y) : ∃ ss, RdS W v ss := by
  rcases h with ⟨rfl, a, c, rfl⟩ | ⟨b, off, cap, rfl, hcap, hmax, hc, hl⟩
  · exact ⟨[], a, c, rfl, by simp, fun j h => by simp at h⟩
  · obtain ⟨ss, rfl⟩ := rows_strings rows hl h2
    refine ⟨ss, _, cap, by rw [List.length_map], by simp at hmax; omega, fun j hj => ⟨b, off, rfl, by simpa using hcap, ?_⟩⟩
    have := hc j [.string ss[j]] (by simp [List.getElem?_eq_getElem hj]) 0 (by omega)
    simpa using this
theorem rdT_of {v : Value} {rows : List (List Value)} (h : RdRows W v 1 rows) (h2 : ∀ r ∈ rows, ∃ m y, DataW.trod enc Try.prog W base spare held m 4 r = some y) : ∃ ss, RdT W v ss := by
  rcases h with ⟨rfl, a, c, rfl⟩ | ⟨b, off, cap, rfl, hcap, hmax, hc, hl⟩
  · exact ⟨[], a, c, rfl, by simp, fun j h => by simp at h⟩
  · obtain ⟨ss, rfl⟩ := rows_bools rows hl h2
    refine ⟨ss, _, cap, by rw [List.length_map], by simp at hmax; omega, fun j hj => ⟨b, off, rfl, by simpa using hcap, ?_⟩⟩
    have := hc j [.bool ss[j]] (by simp [List.getElem?_eq_getElem hj]) 0 (by omega)
    simpa using this
end
/-- string(v) of a slice of bytes -/
theorem rdB_conv {w : World} {v : Value} {xs : List Int} (h : RdB w v xs) : (convert 22 9 v).run Try.prog w = .ok (.string (strOfNums xs)) w := by
  rcases h with ⟨rfl, a, c, rfl⟩ | ⟨b, off, cap, rfl, hcap, hmax, hc, hb⟩
  · cases a with
    | none => exact run_convert_bytes_nil w 22 5 Try.underlying22 Try.underlying5 _ _ _ Try.underlying9
    | some a =>
      obtain ⟨b, off, sp⟩ := a
      rw [run_convert_bytes_string w 22 9 5 _ 0 c Try.underlying22 Try.underlying5 Try.underlying9, run_bytesToString w _ 0 c [] (by have := run_loadCells_list (P := Try.prog) w ⟨b, off, sp⟩ [] (fun j v hj => by simp at hj); simpa using this)]
      rfl
  · exact run_convert_bytes_arg w 22 5 Try.underlying22 Try.underlying5 b off _ cap xs rfl hc _ Try.underlying9
set_option maxRecDepth 100000 in
set_option maxHeartbeats 1600000 in
theorem bools_any (w : World) (ga gb n : Nat) (f g : Nat → Bool) (hf : AtG w ga 4 (barr f n)) (hg : AtG w gb 4 (barr g n)) (hn : n ≤ 1000) (he : ∀ i, i < n → f i = g i) :
    Calls Try.prog 24 #[.slice (some ⟨ga, 0, none⟩) n n, .slice (some ⟨gb, 0, none⟩) n n] w fun e w' => e = .returned (.int .i64 1) ∧ Below w.heap.size w w' := by
  have HF := Lib.hid hf; have HG := Lib.hid hg; have HE := Lib.hid he
  have hnI : (n : Int) ≤ 1000 := by omega
  clear hf hg he
  go_enter Try.func24, Try.ntmps24
  go_wp2_with fail
  go_loopw [5] (fun i wr => ∃ k : Nat, k ≤ n ∧ i = .int .i64 k ∧ Below w.heap.size w wr) (fun i _ => n - (intOf i).toNat)
  case atStart => exact ⟨0, Nat.zero_le _, rfl, Below.refl _ _⟩
  case round =>
    obtain ⟨k, hk, rfl, hb⟩ := hrel
    have HB := Lib.hid hb
    clear hb
    by_cases hlt : k < n
    · have hltI : (k : Int) < n := by omega
      have hfk := HF.out.bool k hlt
      have hgk := HG.out.bool k hlt
      rw [HE.out k hlt] at hfk
      have hl1 := HF.out.lt; have hl2 := HG.out.lt
      generalize g k = gv at *
      have HFK := Lib.hid hfk; have HGK := Lib.hid hgk; have HL1 := Lib.hid hl1; have HL2 := Lib.hid hl2
      clear hfk hgk hl1 hl2
      go_upto_region 6 with (fail)
      refine Rg.wp_region_each (by kernel_rfl) (fun w' => Below w.heap.size w w') (fun w1 w2 h hb => h.trans (hb.mono h.size)) (by kernel_rfl) (by kernel_rfl) (HB.out) ?_
      show Rg.Build _ _ _ _ _ 0 [_, _, _, _, _, _, _, _, _] []
      refine Rg.build_cons (m := 1) (r := Rg.eq _) (Rg.one_plain (by rfl) (by (intro ax wx hk Kx hK; have k0 := hk.base 0 _ rfl rfl; have hj := hk.j; clear hk; have q0 : wx.cell? ⟨ga, k, none⟩ = some (.bool gv) := (hj.cell (p := ⟨ga, k, none⟩) HL1.out).trans HFK.out; have q1 : wx.cell? ⟨gb, k, none⟩ = some (.bool gv) := (hj.cell (p := ⟨gb, k, none⟩) HL2.out).trans HGK.out; go_simp; refine hK _ _ ?_ (Below.refl _ _); apply Rg.mk))) ?_ rfl
      refine Rg.build_cons (m := 2) (r := Rg.eq _) (Rg.one_plain (by rfl) (by (intro ax wx hk Kx hK; have k5 := hk.base 5 _ rfl rfl; have hj := hk.j; clear hk; have q0 : wx.cell? ⟨ga, k, none⟩ = some (.bool gv) := (hj.cell (p := ⟨ga, k, none⟩) HL1.out).trans HFK.out; have q1 : wx.cell? ⟨gb, k, none⟩ = some (.bool gv) := (hj.cell (p := ⟨gb, k, none⟩) HL2.out).trans HGK.out; go_simp; refine hK _ _ ?_ (Below.refl _ _); apply Rg.mk))) ?_ rfl
      refine Rg.build_cons (m := 3) (r := Rg.eq _) (Rg.one_plain (by rfl) (by (intro ax wx hk Kx hK; obtain ⟨v17, k17, h17⟩ := hk.dep 0 17 _ rfl rfl rfl; (first | (cases (h17 : v17 = _)) | (obtain ⟨rfl, h17⟩ := h17) | skip); obtain ⟨v18, k18, h18⟩ := hk.dep 1 18 _ rfl rfl rfl; (first | (cases (h18 : v18 = _)) | (obtain ⟨rfl, h18⟩ := h18) | skip); have hj := hk.j; clear hk; have q0 : wx.cell? ⟨ga, k, none⟩ = some (.bool gv) := (hj.cell (p := ⟨ga, k, none⟩) HL1.out).trans HFK.out; have q1 : wx.cell? ⟨gb, k, none⟩ = some (.bool gv) := (hj.cell (p := ⟨gb, k, none⟩) HL2.out).trans HGK.out; go_simp; refine hK _ _ ?_ (Below.refl _ _); apply Rg.mk))) ?_ rfl
      refine Rg.build_cons (m := 4) (r := Rg.eq _) (Rg.one_plain (by rfl) (by (intro ax wx hk Kx hK; obtain ⟨v19, k19, h19⟩ := hk.dep 2 19 _ rfl rfl rfl; (first | (cases (h19 : v19 = _)) | (obtain ⟨rfl, h19⟩ := h19) | skip); have hj := hk.j; clear hk; have q0 : wx.cell? ⟨ga, k, none⟩ = some (.bool gv) := (hj.cell (p := ⟨ga, k, none⟩) HL1.out).trans HFK.out; have q1 : wx.cell? ⟨gb, k, none⟩ = some (.bool gv) := (hj.cell (p := ⟨gb, k, none⟩) HL2.out).trans HGK.out; go_simp; refine hK _ _ ?_ (Below.refl _ _); apply Rg.mk))) ?_ rfl
      refine Rg.build_cons (m := 5) (r := Rg.eq _) (Rg.one_plain (by rfl) (by (intro ax wx hk Kx hK; have k1 := hk.base 1 _ rfl rfl; have hj := hk.j; clear hk; have q0 : wx.cell? ⟨ga, k, none⟩ = some (.bool gv) := (hj.cell (p := ⟨ga, k, none⟩) HL1.out).trans HFK.out; have q1 : wx.cell? ⟨gb, k, none⟩ = some (.bool gv) := (hj.cell (p := ⟨gb, k, none⟩) HL2.out).trans HGK.out; go_simp; refine hK _ _ ?_ (Below.refl _ _); apply Rg.mk))) ?_ rfl
      refine Rg.build_cons (m := 6) (r := Rg.eq _) (Rg.one_plain (by rfl) (by (intro ax wx hk Kx hK; have k5 := hk.base 5 _ rfl rfl; have hj := hk.j; clear hk; have q0 : wx.cell? ⟨ga, k, none⟩ = some (.bool gv) := (hj.cell (p := ⟨ga, k, none⟩) HL1.out).trans HFK.out; have q1 : wx.cell? ⟨gb, k, none⟩ = some (.bool gv) := (hj.cell (p := ⟨gb, k, none⟩) HL2.out).trans HGK.out; go_simp; refine hK _ _ ?_ (Below.refl _ _); apply Rg.mk))) ?_ rfl
      refine Rg.build_cons (m := 7) (r := Rg.eq _) (Rg.one_plain (by rfl) (by (intro ax wx hk Kx hK; obtain ⟨v21, k21, h21⟩ := hk.dep 4 21 _ rfl rfl rfl; (first | (cases (h21 : v21 = _)) | (obtain ⟨rfl, h21⟩ := h21) | skip); obtain ⟨v22, k22, h22⟩ := hk.dep 5 22 _ rfl rfl rfl; (first | (cases (h22 : v22 = _)) | (obtain ⟨rfl, h22⟩ := h22) | skip); have hj := hk.j; clear hk; have q0 : wx.cell? ⟨ga, k, none⟩ = some (.bool gv) := (hj.cell (p := ⟨ga, k, none⟩) HL1.out).trans HFK.out; have q1 : wx.cell? ⟨gb, k, none⟩ = some (.bool gv) := (hj.cell (p := ⟨gb, k, none⟩) HL2.out).trans HGK.out; go_simp; refine hK _ _ ?_ (Below.refl _ _); apply Rg.mk))) ?_ rfl
      refine Rg.build_cons (m := 8) (r := Rg.eq _) (Rg.one_plain (by rfl) (by (intro ax wx hk Kx hK; obtain ⟨v23, k23, h23⟩ := hk.dep 6 23 _ rfl rfl rfl; (first | (cases (h23 : v23 = _)) | (obtain ⟨rfl, h23⟩ := h23) | skip); have hj := hk.j; clear hk; have q0 : wx.cell? ⟨ga, k, none⟩ = some (.bool gv) := (hj.cell (p := ⟨ga, k, none⟩) HL1.out).trans HFK.out; have q1 : wx.cell? ⟨gb, k, none⟩ = some (.bool gv) := (hj.cell (p := ⟨gb, k, none⟩) HL2.out).trans HGK.out; go_simp; refine hK _ _ ?_ (Below.refl _ _); apply Rg.mk))) ?_ rfl
      refine Rg.build_cons (m := 9) (r := Rg.eq (.bool false)) (Rg.one_plain (by rfl) (by (intro ax wx hk Kx hK; obtain ⟨v20, k20, h20⟩ := hk.dep 3 20 _ rfl rfl rfl; (first | (cases (h20 : v20 = _)) | (obtain ⟨rfl, h20⟩ := h20) | skip); obtain ⟨v24, k24, h24⟩ := hk.dep 7 24 _ rfl rfl rfl; (first | (cases (h24 : v24 = _)) | (obtain ⟨rfl, h24⟩ := h24) | skip); have hj := hk.j; clear hk; have q0 : wx.cell? ⟨ga, k, none⟩ = some (.bool gv) := (hj.cell (p := ⟨ga, k, none⟩) HL1.out).trans HFK.out; have q1 : wx.cell? ⟨gb, k, none⟩ = some (.bool gv) := (hj.cell (p := ⟨gb, k, none⟩) HL2.out).trans HGK.out; (go_simp; refine hK _ _ ?_ (Below.refl _ _); simp [Rg.eq])))) ?_ rfl
      refine Rg.build_end fun wx hj => ?_
      refine Rg.fin_eq rfl ?_
      refine Rg.fin_eq rfl ?_
      refine Rg.fin_eq rfl ?_
      refine Rg.fin_eq rfl ?_
      refine Rg.fin_eq rfl ?_
      refine Rg.fin_eq rfl ?_
      refine Rg.fin_eq rfl ?_
      refine Rg.fin_eq rfl ?_
      first | refine Rg.fin_eq rfl ?_ | refine Rg.fin_any rfl fun v25 h25 => ?_
      refine Rg.fin_nil ?_
      simp only [List.set_cons_zero, List.set_cons_succ]
      have HJ := Lib.hid hj
      clear hj
      go_wp2_with fail
      exact ⟨⟨k + 1, by omega, by go_num, HJ.out⟩, by simp [intOf]; omega⟩
    · obtain rfl : k = n := by omega
      go_wp2_with fail
      go_returns
      exact ⟨rfl, HB.out⟩
end Go.Proofs.Ytofgkildlhcpdaa
