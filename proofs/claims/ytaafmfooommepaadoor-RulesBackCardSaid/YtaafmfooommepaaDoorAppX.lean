/- append of a row, with word of where it lies (out of XCtMem, for other seats). -/
import Derived.Test.YtaafmfooommepaaDoorOnly
set_option linter.unusedVariables false
set_option linter.unusedSimpArgs false
namespace Go.Proofs.YtaafmfooommepaaDoor
open Go.RowKit
section
variable {P : Program} {ops : Array Oper} {rest : List Oper} {o : Oper} {a : Act} {Q : Exit → Act → World → Prop}
/-- append(v, ys...) at the operation: the row stays where it was, or lies in a new block. -/
theorem wp_appRowX {w : World} {K : Act → World → Prop} (s x : Operand) (t : TypeId)
    (ho : o.op = .call { callee := .builtin .append, args := #[s, x], argTypes := #[t, t] })
    (base : Nat) (e : TypeId) (z : Value) (size bytes : Nat) (ht : P.underlying t = some (.slice e)) (hinfo : (P.info? e).map (fun i => (i.zero, i.size, i.bytes)) = some (some z, size, bytes)) (hzs : z.cells.size = size) (hsz : 0 < size)
    (v u : Value) (n m : Nat) (xs ys : List Value) (HO : w.ownsRow base e size v n xs) (HS : SrcRow w u m ys) (hs : a.eval s = v) (hx : a.eval x = u) (hl : ys.length = m * size) (h1 : ∀ y ∈ ys, y.oneCell' = true)
    (hbytes : (n + m) * bytes ≤ 140737488355328) (hb0 : 0 < bytes) (hbase : base ≤ w.heap.size)
    (h : ∀ v' w', w'.ownsRow base e size v' (n + m) (xs ++ ys) → w.grownBy w' v.ownBlock → (v'.ownBlock = v.ownBlock ∨ v'.ownBlock = some w.heap.size) → K (a.put o.dst v') w') : o.wp P a w K Q := by
  obtain ⟨i0, hi, hz0, hz1, hz2⟩ := info_parts hinfo
  have h63 : n + m ≤ maxLen := by
    have : n + m ≤ (n + m) * bytes := Nat.le_mul_of_pos_right _ hb0
    unfold maxLen; omega
  rcases HS with ⟨rfl, rfl, rfl⟩ | ⟨ad, c, rfl, hc⟩
  · have hrun := run_append_owned_none (P := P) (w := w) base t o.type e i0 size ht hi v n xs HO
    unfold Oper.wp
    simp [execOp, ho, resolve, invoke, builtin, hs, hx, hrun, Result.andThen]
    exact h v w (by simpa using HO) (gb_refl _ _) (.inl rfl)
  · obtain ⟨v', w', hr, h2, h3, _, h5⟩ := run_append_own_at (P := P) w base t o.type e i0 z size bytes ht hi hz0 hz1 hz2 hzs hsz v n xs HO ad m c ys hl hc h1 h63 hbytes hbase
    unfold Oper.wp execOp
    simp only [ho, resolve, invoke, builtin, Sem.run_bind, Sem.run_pure, Result.andThen_ok, List.map_toArray, List.map_cons, List.map_nil, hs, hx, hr]
    exact h v' w' h2 h3 h5
theorem wpList_appRowX {w : World} (hgd : o.guard = none) (s x : Operand) (t : TypeId)
    (ho : o.op = .call { callee := .builtin .append, args := #[s, x], argTypes := #[t, t] })
    (base : Nat) (e : TypeId) (z : Value) (size bytes : Nat) (ht : P.underlying t = some (.slice e)) (hinfo : (P.info? e).map (fun i => (i.zero, i.size, i.bytes)) = some (some z, size, bytes)) (hzs : z.cells.size = size) (hsz : 0 < size)
    (v u : Value) (n m : Nat) (xs ys : List Value) (HO : w.ownsRow base e size v n xs) (HS : SrcRow w u m ys) (hs : a.eval s = v) (hx : a.eval x = u) (hl : ys.length = m * size) (h1 : ∀ y ∈ ys, y.oneCell' = true)
    (hbytes : (n + m) * bytes ≤ 140737488355328) (hb0 : 0 < bytes) (hbase : base ≤ w.heap.size)
    (h : ∀ v' w', w'.ownsRow base e size v' (n + m) (xs ++ ys) → w.grownBy w' v.ownBlock → (v'.ownBlock = v.ownBlock ∨ v'.ownBlock = some w.heap.size) → wpList P ops Q rest (a.put o.dst v') w') : wpList P ops Q (o :: rest) a w :=
  wpList_plain hgd fun _ hK => wp_appRowX s x t ho base e z size bytes ht hinfo hzs hsz v u n m xs ys HO HS hs hx hl h1 hbytes hb0 hbase fun v' w' h2 h3 h4 => hK _ _ (h v' w' h2 h3 h4)
end
/-- a row of cells as a source -/
theorem src_at {w : World} {k T n : Nat} {cs : Array Value} (h : AtG w k T cs) (c : Nat) : SrcRow w (.slice (some ⟨k, 0, none⟩) n c) n cs.toList :=
  .inr ⟨⟨k, 0, none⟩, c, rfl, fun j y hy => by
    have e1 : (⟨k, 0, none⟩ : Addr).add j = ⟨k, j, none⟩ := by unfold Addr.add; split <;> simp_all
    rw [e1]; exact h.cell j y (by simpa using hy)⟩
theorem src_ownN {w : World} {base n size : Nat} {e : TypeId} {v : Value} {xs : List Value} (h : w.ownsRow base e size v n xs) : SrcRow w v n xs := by
  obtain ⟨hl, h⟩ := h
  rcases h with ⟨rfl, h0⟩ | ⟨g, cap, cur, rfl, hb, hh, hnc, hcm, hcs, hct⟩
  · exact .inl ⟨rfl, List.eq_nil_of_length_eq_zero (by rw [hl, h0, Nat.zero_mul]), h0⟩
  · refine .inr ⟨⟨g, 0, none⟩, cap, rfl, fun j y hy => ?_⟩
    have e1 : (⟨g, 0, none⟩ : Addr).add j = ⟨g, j, none⟩ := by unfold Addr.add; split <;> simp_all
    rw [e1]
    rw [← hct] at hy
    have : cur[j]? = some y := by
      rw [List.getElem?_take] at hy
      split at hy
      · simpa using hy
      · cases hy
    simp [World.cell?, hh, this]
theorem own_form {w : World} {base n e size : Nat} {v : Value} {xs : List Value} (h : w.ownsRow base e size v n xs) : ∃ a c, v = .slice a n c := by
  rcases h.2 with ⟨rfl, h0⟩ | ⟨g, cap, cur, rfl, _⟩
  · exact ⟨none, 0, by rw [h0]⟩
  · exact ⟨_, _, rfl⟩
end Go.Proofs.YtaafmfooommepaaDoor
