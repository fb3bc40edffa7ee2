/- append of one element to a row of the call's own. -/
import Derived.Test.YtaafmfooommepaaDoorWalk
import Derived.Laws.AppendOwn
import Derived.Laws.AppendOwnNone
import Derived.Maps.AppendAt
import Derived.Deep.RegionLaw
namespace Go.Proofs.YtaafmfooommepaaDoor
open Go.RowKit
section
variable {w w1 : World} {base : Nat} {e : TypeId} {size n : Nat} {v : Value} {xs : List Value}
theorem own_base (h : w.ownsRow base e size v n xs) (k : Nat) (hk : v.ownBlock = some k) : base ≤ k := by
  rcases h.2 with ⟨rfl, _⟩ | ⟨g, cap, cur, rfl, hb, _⟩
  · simp [Value.ownBlock] at hk
  · have : g = k := Option.some.inj hk
    omega
theorem own_nil (w : World) (base : Nat) (e : TypeId) (size : Nat) : w.ownsRow base e size (.slice none 0 0) 0 [] := ⟨by simp, .inl ⟨rfl, rfl⟩⟩
theorem own_below (h : w.ownsRow base e size v n xs) (hb : Below w.heap.size w w1) : w1.ownsRow base e size v n xs := by
  refine ⟨h.1, ?_⟩
  rcases h.2 with h | ⟨g, cap, cur, rfl, hg, hh, hr⟩
  · exact .inl h
  · exact .inr ⟨g, cap, cur, rfl, hg, (hb.block g (Array.getElem?_eq_some_iff.1 hh).1).trans hh, hr⟩
theorem own_grown (h : w.ownsRow base e size v n xs) {row : Option Nat} (hg : w.grownBy w1 row) (hr : ∀ k, v.ownBlock = some k → some k ≠ row) : w1.ownsRow base e size v n xs := by
  refine ⟨h.1, ?_⟩
  rcases h.2 with h | ⟨g, cap, cur, rfl, hb, hh, hx⟩
  · exact .inl h
  · exact .inr ⟨g, cap, cur, rfl, hb, (hg.block g (Array.getElem?_eq_some_iff.1 hh).1 (hr g rfl)).trans hh, hx⟩
theorem own_lt (h : w.ownsRow base e size v n xs) (k : Nat) (hk : v.ownBlock = some k) : k < w.heap.size := by
  rcases h.2 with ⟨rfl, _⟩ | ⟨g, cap, cur, rfl, hb, hh, _⟩
  · simp [Value.ownBlock] at hk
  · have : g = k := Option.some.inj hk
    subst this
    exact (Array.getElem?_eq_some_iff.1 hh).1
theorem own_lower {b' : Nat} (h : w.ownsRow base e size v n xs) (hb : b' ≤ base) : w.ownsRow b' e size v n xs := by
  refine ⟨h.1, ?_⟩
  rcases h.2 with h | ⟨g, cap, cur, rfl, hg, hr⟩
  · exact .inl h
  · exact .inr ⟨g, cap, cur, rfl, Nat.le_trans hb hg, hr⟩
/-- the cells of an owned row of one-cell elements -/
theorem own_cells (h : w.ownsRow base e 1 v n xs) : (v = .slice none 0 0 ∧ xs = []) ∨ ∃ g cap, v = .slice (some ⟨g, 0, none⟩) xs.length cap ∧ xs.length ≤ cap ∧ cap ≤ maxLen ∧ base ≤ g ∧ g < w.heap.size ∧ ∀ j u, xs[j]? = some u → w.cell? ⟨g, j, none⟩ = some u := by
  have hl := h.1
  rcases h.2 with ⟨rfl, h0⟩ | ⟨g, cap, cur, rfl, hb, hh, hnc, hcm, hcs, hct⟩
  · refine .inl ⟨rfl, List.eq_nil_of_length_eq_zero (by omega)⟩
  · refine .inr ⟨g, cap, by rw [hl, Nat.mul_one], by omega, hcm, hb, (Array.getElem?_eq_some_iff.1 hh).1, fun j u hu => ?_⟩
    rw [← hct] at hu
    have : cur[j]? = some u := by
      rw [List.getElem?_take] at hu
      split at hu
      · simpa using hu
      · cases hu
    simp [World.cell?, hh, this]
end
section
variable {P : Program} {ops : Array Oper} {rest : List Oper} {o : Oper} {a : Act} {Q : Exit → Act → World → Prop}
/-- append(v, y), behind 'at_builtin': the goal's world is that of the box of y. -/
theorem app1 {w0 W : World} (base B : Nat) (hBb : B ≤ base) (hgd : o.guard = none) (s x : Operand) (t e : TypeId) (z : Value) (bytes : Nat)
    (ho : o.op = .call { callee := .builtin .append, args := #[s, x], argTypes := #[t, t] })
    (ht : P.underlying t = some (.slice e)) (hinfo : (P.info? e).map (fun i => (i.zero, i.size, i.bytes)) = some (some z, 1, bytes)) (hz : z.cells.size = 1) (hb0 : 0 < bytes)
    (v : Value) (n : Nat) (xs : List Value) (y : Value) (HO : W.ownsRow base e 1 v n xs) (hs : a.eval s = v) (hx : a.eval x = .slice (some ⟨W.heap.size, 0, none⟩) 1 1) (h1 : y.oneCell' = true)
    (HB : Below B w0 W) (hbase : base ≤ W.heap.size) (hl : (n + 1) * bytes ≤ 140737488355328)
    (h : ∀ v1 w1, w1.ownsRow base e 1 v1 (n + 1) (xs ++ [y]) → Below B w0 w1 → W.grownBy w1 v.ownBlock → wpList P ops Q rest (a.put o.dst v1) w1) :
    wpList P ops Q (o :: rest) a (W.alloc (.cells #[y] e)) := by
  obtain ⟨i0, hi, hz0, hz1, hz2⟩ := info_parts hinfo
  have hlen : n + 1 ≤ 140737488355328 := Nat.le_trans (Nat.le_mul_of_pos_right _ hb0) hl
  refine wpList_append_own (W.alloc (.cells #[y] e)) hgd s x t ho base e i0 z 1 bytes ht hi hz0 hz1 hz2 hz (by omega) v n xs hs (own_below HO (Below.alloc (Below.refl _ _) (Nat.le_refl _) _)) ⟨W.heap.size, 0, none⟩ 1 1 [y] hx rfl
    (fun j u hu => by
      obtain rfl : j = 0 := by have := (List.getElem?_eq_some_iff.1 hu).1; simp at this; exact this
      obtain rfl : y = u := by simpa using hu
      have e1 : (⟨W.heap.size, 0, none⟩ : Addr).add 0 = ⟨W.heap.size, 0, none⟩ := by unfold Addr.add; simp
      rw [e1]; exact (AtG.new W e #[y]).cell 0 y rfl) (by simpa using h1) (by simp only [maxLen]; omega) hl (by simp; omega) ?_
  intro v1 w1 hown hg _
  exact h v1 w1 hown ((HB.alloc (by omega) _).grown hg (by simp; omega) (fun k hk => Nat.le_trans hBb (own_base HO k hk))) (World.grownBy.trans (World.grownBy_alloc W _ _) hg)
/-- A row that is read: nil, or cells at an address. -/
def SrcRow (w : World) (u : Value) (m : Nat) (ys : List Value) : Prop :=
  (u = .slice none 0 0 ∧ ys = [] ∧ m = 0) ∨ ∃ ad c, u = .slice (some ad) m c ∧ ∀ j y, ys[j]? = some y → w.cell? (ad.add j) = some y
/-- append(v, ys...) at the operation. -/
theorem wp_appRow {w : World} {K : Act → World → Prop} (s x : Operand) (t : TypeId)
    (ho : o.op = .call { callee := .builtin .append, args := #[s, x], argTypes := #[t, t] })
    (base : Nat) (e : TypeId) (z : Value) (size bytes : Nat) (ht : P.underlying t = some (.slice e)) (hinfo : (P.info? e).map (fun i => (i.zero, i.size, i.bytes)) = some (some z, size, bytes)) (hzs : z.cells.size = size) (hsz : 0 < size)
    (v u : Value) (n m : Nat) (xs ys : List Value) (HO : w.ownsRow base e size v n xs) (HS : SrcRow w u m ys) (hs : a.eval s = v) (hx : a.eval x = u) (hl : ys.length = m * size) (h1 : ∀ y ∈ ys, y.oneCell' = true)
    (hbytes : (n + m) * bytes ≤ 140737488355328) (hb0 : 0 < bytes) (hbase : base ≤ w.heap.size)
    (h : ∀ v' w', w'.ownsRow base e size v' (n + m) (xs ++ ys) → w.grownBy w' v.ownBlock → K (a.put o.dst v') w') : o.wp P a w K Q := by
  obtain ⟨i0, hi, hz0, hz1, hz2⟩ := info_parts hinfo
  have h63 : n + m ≤ maxLen := by
    have : n + m ≤ (n + m) * bytes := Nat.le_mul_of_pos_right _ hb0
    unfold maxLen; omega
  rcases HS with ⟨rfl, rfl, rfl⟩ | ⟨ad, c, rfl, hc⟩
  · have hrun := run_append_owned_none (P := P) (w := w) base t o.type e i0 size ht hi v n xs HO
    unfold Oper.wp
    simp [execOp, ho, resolve, invoke, builtin, hs, hx, hrun, Result.andThen]
    exact h v w (by simpa using HO) (gb_refl _ _)
  · obtain ⟨v', w', hr, h2, h3, _, _⟩ := run_append_own_at (P := P) w base t o.type e i0 z size bytes ht hi hz0 hz1 hz2 hzs hsz v n xs HO ad m c ys hl hc h1 h63 hbytes hbase
    unfold Oper.wp execOp
    simp only [ho, resolve, invoke, builtin, Sem.run_bind, Sem.run_pure, Result.andThen_ok, List.map_toArray, List.map_cons, List.map_nil, hs, hx, hr]
    exact h v' w' h2 h3
theorem wpList_appRow {w : World} (hgd : o.guard = none) (s x : Operand) (t : TypeId)
    (ho : o.op = .call { callee := .builtin .append, args := #[s, x], argTypes := #[t, t] })
    (base : Nat) (e : TypeId) (z : Value) (size bytes : Nat) (ht : P.underlying t = some (.slice e)) (hinfo : (P.info? e).map (fun i => (i.zero, i.size, i.bytes)) = some (some z, size, bytes)) (hzs : z.cells.size = size) (hsz : 0 < size)
    (v u : Value) (n m : Nat) (xs ys : List Value) (HO : w.ownsRow base e size v n xs) (HS : SrcRow w u m ys) (hs : a.eval s = v) (hx : a.eval x = u) (hl : ys.length = m * size) (h1 : ∀ y ∈ ys, y.oneCell' = true)
    (hbytes : (n + m) * bytes ≤ 140737488355328) (hb0 : 0 < bytes) (hbase : base ≤ w.heap.size)
    (h : ∀ v' w', w'.ownsRow base e size v' (n + m) (xs ++ ys) → w.grownBy w' v.ownBlock → wpList P ops Q rest (a.put o.dst v') w') : wpList P ops Q (o :: rest) a w :=
  wpList_plain hgd fun _ hK => wp_appRow s x t ho base e z size bytes ht hinfo hzs hsz v u n m xs ys HO HS hs hx hl h1 hbytes hb0 hbase fun v' w' h2 h3 => hK _ _ (h v' w' h2 h3)
/-- at a step of a region that draws -/
theorem step_appRow {w : World} {K : Act → World → Prop} {E : Prop} (hgd : o.guard = none) (s x : Operand) (t : TypeId)
    (ho : o.op = .call { callee := .builtin .append, args := #[s, x], argTypes := #[t, t] })
    (base : Nat) (e : TypeId) (z : Value) (size bytes : Nat) (ht : P.underlying t = some (.slice e)) (hinfo : (P.info? e).map (fun i => (i.zero, i.size, i.bytes)) = some (some z, size, bytes)) (hzs : z.cells.size = size) (hsz : 0 < size)
    (v u : Value) (n m : Nat) (xs ys : List Value) (HO : w.ownsRow base e size v n xs) (HS : SrcRow w u m ys) (hs : a.eval s = v) (hx : a.eval x = u) (hl : ys.length = m * size) (h1 : ∀ y ∈ ys, y.oneCell' = true)
    (hbytes : (n + m) * bytes ≤ 140737488355328) (hb0 : 0 < bytes) (hbase : base ≤ w.heap.size)
    (h : ∀ v' w', w'.ownsRow base e size v' (n + m) (xs ++ ys) → w.grownBy w' v.ownBlock → K (a.put o.dst v') w') :
    if Region.wanted o (yielded ops a.tmps) = true then Oper.wp P o a w K Q else E := by
  have hw : Region.wanted o (yielded ops a.tmps) = true := by simp [Region.wanted, hgd]
  rw [if_pos hw]
  exact wp_appRow s x t ho base e z size bytes ht hinfo hzs hsz v u n m xs ys HO HS hs hx hl h1 hbytes hb0 hbase h
/-- an owned row of one-cell elements as a source -/
theorem src_own {w : World} {base n : Nat} {e : TypeId} {v : Value} {xs : List Value} (h : w.ownsRow base e 1 v n xs) : SrcRow w v n xs := by
  have hl := h.1
  rcases own_cells h with ⟨rfl, rfl⟩ | ⟨g, cap, rfl, _, _, _, _, hc⟩
  · exact .inl ⟨rfl, rfl, by simpa using hl.symm⟩
  · refine .inr ⟨⟨g, 0, none⟩, cap, by rw [show xs.length = n from by omega], fun j y hy => ?_⟩
    have e1 : (⟨g, 0, none⟩ : Addr).add j = ⟨g, j, none⟩ := by unfold Addr.add; split <;> simp_all
    rw [e1]; exact hc j y hy
theorem src_below {w w1 : World} {u : Value} {m : Nat} {ys : List Value} (h : SrcRow w u m ys) (hb : Below w.heap.size w w1) : SrcRow w1 u m ys := by
  rcases h with h | ⟨ad, c, rfl, hc⟩
  · exact .inl h
  · exact .inr ⟨ad, c, rfl, fun j y hy => (hb.cell (World.block_lt_of_cell? w _ (hc j y hy))).trans (hc j y hy)⟩
end
end Go.Proofs.YtaafmfooommepaaDoor
