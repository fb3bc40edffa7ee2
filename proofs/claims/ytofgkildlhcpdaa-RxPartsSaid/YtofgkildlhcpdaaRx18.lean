/- A pattern's parts in memory; what the program makes of texts that are put together. -/
import Derived.Test.YtofgkildlhcpdaaRx17
set_option linter.unusedVariables false
set_option linter.unusedSimpArgs false
namespace Go.Proofs.Ytofgkildlhcpdaa
open Go.RowKit Bt
theorem krow_ps {D : Nat → Prop} {w : World} : ∀ (l : List Tree) (b off : Nat), KRow D w l b off → ∃ ps : List (Tree × Value), ps.map (·.1) = l ∧ (∀ x ∈ ps, KAt D w x.1 x.2) ∧ ∀ j y, (flatN ps)[j]? = some y → w.cell? ⟨b, off + j, none⟩ = some y
  | [], b, off, h => ⟨([] : List (Tree × Value)), rfl, (fun x hx => by cases hx), (fun j y hy => by simp [flatN] at hy)⟩
  | t :: l, b, off, h => by
    rw [KRow] at h
    obtain ⟨⟨kv, h1, h2⟩, h3⟩ := h
    obtain ⟨ps, e1, e2, e3⟩ := krow_ps l b (off + 8) h3
    refine ⟨(t, kv) :: ps, by rw [List.map_cons, e1], fun x hx => ?_, fun j y hy => ?_⟩
    · rcases List.mem_cons.1 hx with rfl | hx
      · exact h2
      · exact e2 x hx
    · have e : flatN ((t, kv) :: ps) = nodeL t kv ++ flatN ps := by unfold flatN; rw [List.flatMap_cons]
      rw [e] at hy
      rcases Nat.lt_or_ge j 8 with hj | hj
      · rw [List.getElem?_append_left (by rw [nodeL_len]; omega)] at hy
        rw [h1 j hj]; exact hy
      · rw [List.getElem?_append_right (by rw [nodeL_len]; omega), nodeL_len] at hy
        have := e3 _ _ hy
        rw [show off + 8 + (j - 8) = off + j from by omega] at this
        exact this
theorem kat_lt {w : World} {t : Tree} {kv : Value} (h : NAt w t kv) : KAt (fun b => b < w.heap.size) w t kv := (KAt.lt t kv h).mono fun b hb => hb.2
set_option maxRecDepth 100000 in
theorem alts_alt (a : Addr) (n c : Nat) (f : Nat → Bool) (mn mx : Int) (kids : List Tree) (w : World) : Calls Try.prog 36 #[nodeV (.node 3 f mn mx kids) (.slice (some a) n c)] w fun e w' => e = .returned (.slice (some a) n c) ∧ Below w.heap.size w w' := by
  unfold nodeV
  dsimp only
  go_enter Try.func36, Try.ntmps36
  go_wp2
  go_returns
  exact ⟨rfl, by go_grown⟩
set_option maxRecDepth 100000 in
theorem alts_one (op : Int) (hop : op ≠ 3) (a : Option Addr) (n c : Nat) (f : Nat → Bool) (mn mx : Int) (kids : List Tree) (w : World) : Calls Try.prog 36 #[nodeV (.node op f mn mx kids) (.slice a n c)] w fun e w' =>
    Below w.heap.size w w' ∧ ∃ g, e = .returned (.slice (some ⟨g, 0, none⟩) 1 1) ∧ AtG w' g 29 (nodeC op f mn mx (.slice a n c)) := by
  have h1 : (op == 3) = false := by rw [beq_eq_false_iff_ne]; exact hop
  clear hop
  unfold nodeV
  dsimp only
  go_enter Try.func36, Try.ntmps36
  go_wp2
  go_returns
  exact ⟨by go_grown, w.heap.size + 1, by simp, by
    have := AtG.new (w.alloc (.cells (nodeC op f mn mx (.slice a n c)) 29)) 29 (nodeC op f mn mx (.slice a n c))
    simpa using this⟩
theorem alts_src (t : Tree) (a : Option Addr) (n c : Nat) (w : World) (h : NAt w t (.slice a n c)) (h3 : t.op = 3 → t.kids ≠ []) : ∃ ps : List (Tree × Value), ps.map (·.1) = altsF t ∧ (∀ x ∈ ps, KAt (fun b => b < w.heap.size) w x.1 x.2) ∧
    ∀ w', Below w.heap.size w w' → Calls Try.prog 36 #[nodeV t (.slice a n c)] w' fun e w'' => Below w'.heap.size w' w'' ∧ ∃ v, e = .returned v ∧ SrcRow w'' v ps.length (flatN ps) := by
  obtain ⟨op, f, mn, mx, kids⟩ := t
  by_cases hop : op = 3
  · subst hop
    have hne := h3 rfl
    have h' := kat_lt h
    rw [KAt] at h'
    rcases h' with ⟨e, _⟩ | ⟨_, hl, b, off, cap, hv, hc, hb, hr⟩
    · exact absurd e hne
    obtain ⟨ps, e1, e2, e3⟩ := krow_ps kids b off hr
    have hps : ps.length = kids.length := by rw [← e1, List.length_map]
    refine ⟨ps, by rw [e1]; rfl, e2, fun w' hb' => ?_⟩
    rw [hv]
    refine (alts_alt ⟨b, off, none⟩ _ cap f mn mx kids w').mono ?_
    rintro e w'' ⟨rfl, hb2⟩
    refine ⟨hb2, _, rfl, .inr ⟨⟨b, off, none⟩, cap, by rw [hps], fun j y hy => ?_⟩⟩
    have e4 : (⟨b, off, none⟩ : Addr).add j = ⟨b, off + j, none⟩ := by unfold Addr.add; split <;> simp_all
    rw [e4]
    have hbw : Below w.heap.size w w'' := hb'.trans (hb2.mono hb'.size)
    rw [hbw.cell (p := ⟨b, off + j, none⟩) hb]
    exact e3 j y hy
  · refine ⟨[(.node op f mn mx kids, .slice a n c)], by unfold altsF; rw [if_neg (show ¬ (Tree.node op f mn mx kids).op = 3 from hop)]; rfl, fun x hx => ?_, fun w' hb' => ?_⟩
    · rw [List.mem_singleton] at hx; subst hx; exact kat_lt h
    · refine (alts_one op hop a n c f mn mx kids w').mono ?_
      rintro e w'' ⟨hb2, g, rfl, hg⟩
      refine ⟨hb2, _, rfl, ?_⟩
      rw [flatN_one]
      exact src_at hg 1
theorem src_gb {w w' : World} {u : Value} {m k T : Nat} {ys : List Value} (h : SrcRow w u m ys) (hg : w.grownBy w' (some k)) (hk : AtG w k T #[]) : SrcRow w' u m ys := by
  rcases h with h | ⟨ad, c, rfl, hc⟩
  · exact .inl h
  · refine .inr ⟨ad, c, rfl, fun j y hy => ?_⟩
    have h1 := hc j y hy
    have hlt := World.block_lt_of_cell? _ _ h1
    have hne : (ad.add j).block ≠ k := fun e => by
      unfold AtG at hk
      unfold World.cell? at h1
      rw [e, hk] at h1
      simp at h1
    have := hg.block (ad.add j).block hlt (fun e => hne (by injection e))
    rw [← h1]
    unfold World.cell?
    rw [this]
/-- what a good text gives -/
theorem parse_ok {u : ByteArray} {T : Tree} {q : Nat} (hs : u.size ≤ 200) (h : P u .pat 0 0 (.ok T q)) (w : World) : Calls Try.prog 31 #[.string u] w fun e w' => Below w.heap.size w w' ∧ ∃ a n c, e = .returned (.tuple #[nodeV T (.slice a n c), .nilIface]) ∧ NAt w' T (.slice a n c) :=
  (parseX u w).mono (by
    rintro e w' ⟨hb, R, hR, h'⟩
    obtain rfl := hR.det (.inr ⟨hs, h⟩)
    obtain ⟨kv, rfl, hk⟩ := h'
    obtain ⟨a, n, c, rfl⟩ := nat_sl (NAt.of hk)
    exact ⟨hb, a, n, c, rfl, NAt.of hk⟩)
theorem parse_no {u : ByteArray} {c : Int} {x : Nat} (hs : u.size ≤ 200) (h : P u .pat 0 0 (.no c x)) (w : World) : Calls Try.prog 31 #[.string u] w fun e w' => Below w.heap.size w w' ∧ ∃ b, e = .returned (.tuple #[nodeV zT (.slice none 0 0), spotV b]) ∧ AtG w' b 82 #[.int .i64 (x : Int), .int .i64 c] :=
  (parseX u w).mono (by
    rintro e w' ⟨hb, R, hR, h'⟩
    obtain rfl := hR.det (.inr ⟨hs, h⟩)
    obtain ⟨b, rfl, hx⟩ := h'
    exact ⟨hb, b, by rw [zeroN_eq], hx⟩)
/-- a node of two kids, of one kid -/
theorem nodeV_emp3 (op mn mx : Int) (l : List Tree) (kv : Value) : nodeV (.node op emp mn mx l) kv = .agg #[.int .i64 op, .int .u64 0, .int .u64 0, .int .u64 0, .int .u64 0, .int .i64 mn, .int .i64 mx, kv] := by
  unfold nodeV; dsimp only; rw [wd_emp, wd_emp, wd_emp, wd_emp]
theorem good_op {s : ByteArray} {a : Tree} {q : Nat} (hs : s.size ≤ 1000) (h : P s .pat 0 0 (.ok a q)) : a.op ≠ 0 ∧ (a.op = 3 → a.kids ≠ []) := by
  obtain ⟨p, hw, rfl⟩ := P.good hs h (Nat.zero_le _) (by trivial) a q rfl
  cases hw with
  | one f => exact ⟨by show (1 : Int) ≠ 0; decide, fun h => by cases (show (1 : Int) = 3 from h)⟩
  | cat l h1 h2 h3 => exact ⟨by show (2 : Int) ≠ 0; decide, fun h => by cases (show (2 : Int) = 3 from h)⟩
  | alt l h1 h2 h3 => exact ⟨by show (3 : Int) ≠ 0; decide, fun _ e => by
      have e' : Pat.trees l = [] := e
      rw [Pat.trees_map, List.map_eq_nil_iff] at e'
      subst e'; simp at h2⟩
  | rep => exact ⟨by show (4 : Int) ≠ 0; decide, fun h => by cases (show (4 : Int) = 3 from h)⟩
end Go.Proofs.Ytofgkildlhcpdaa
