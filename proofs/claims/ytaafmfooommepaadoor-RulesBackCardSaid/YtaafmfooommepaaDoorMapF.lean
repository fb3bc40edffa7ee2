/- Maps of whole numbers that a call makes, as functions of their keys. -/
import Derived.Maps.OwnSet
import Derived.Maps.OwnOps
import Derived.Maps.Views
import Derived.Maps.Keyed
import Derived.Below
set_option linter.unusedVariables false
namespace Go.Proofs.YtaafmfooommepaaDoor
open Go.RowKit Go.Maps
/-- Block b of w is a map whose keys f tells, and their numbers; it has s of them. -/
def OwnF (w : World) (P : Program) (K E : TypeId) (q : IntKind) (b s : Nat) (f : Lit → Option Int) : Prop :=
  ∃ D : DataW Unit, w.ownsMap P K (plainElem P E) b s D ∧ Maps.size D = s ∧ Maps.Tidy D ∧
    ∀ k, WideAt.IsKeyLit k → Maps.has D k = (f k).isSome ∧ D.atKey k (.lit (.int q 0)) = .lit (.int q ((f k).getD 0))
/-- f, but c at kl -/
def putF (f : Lit → Option Int) (kl : Lit) (c : Int) : Lit → Option Int := fun k => if k.sameKey kl then some c else f k
theorem putF_same {f : Lit → Option Int} {kl : Lit} {c : Int} (hl : WideAt.IsKeyLit kl) : putF f kl c kl = some c := by unfold putF; rw [WideAt.sameKey_self hl]; rfl
theorem putF_other {f : Lit → Option Int} {kl k : Lit} {c : Int} (h : k ≠ kl) : putF f kl c k = f k := by unfold putF; rw [Maps.sameKey_ne h]; rfl
namespace OwnF
variable {P : Program} {K E T : TypeId} {q : IntKind} {b s : Nat} {f : Lit → Option Int} {w w' : World}
theorem made (w : World) (P : Program) (K E : TypeId) (q : IntKind) : OwnF (w.alloc (.map #[] 0)) P K E q w.heap.size 0 (fun _ => none) :=
  ⟨.map [], World.ownsMap_made _ _ _ _, rfl, Maps.tidy_empty, fun k _ => ⟨rfl, rfl⟩⟩
theorem lt (h : OwnF w P K E q b s f) : b < w.heap.size := by obtain ⟨D, h, _⟩ := h; exact h.lt
theorem kept {row : Option Nat} (h : OwnF w P K E q b s f) (hg : w.grownBy w' row) (hne : some b ≠ row) : OwnF w' P K E q b s f := by
  obtain ⟨D, h1, h2⟩ := h; exact ⟨D, h1.kept hg hne, h2⟩
theorem below (h : OwnF w P K E q b s f) (hb : Below w.heap.size w w') : OwnF w' P K E q b s f :=
  h.kept (row := none) ⟨hb.os, hb.tape, hb.output, hb.size, fun k hk _ => hb.block k hk⟩ (by simp)
theorem alloc (h : OwnF w P K E q b s f) (o : Obj) : OwnF (w.alloc o) P K E q b s f := by
  obtain ⟨D, h1, h2⟩ := h; exact ⟨D, h1.alloc o, h2⟩
theorem far (h : OwnF w P K E q b s f) {p : Addr} (hp : b ≠ p.block) (v : Value) : OwnF (w.setCell p v) P K E q b s f := by
  obtain ⟨D, h1, h2⟩ := h; exact ⟨D, h1.setCell hp v, h2⟩
theorem drew (h : OwnF w P K E q b s f) : OwnF w.drew P K E q b s f := by
  obtain ⟨D, h1, h2⟩ := h; exact ⟨D, h1.drew, h2⟩
theorem ext {g : Lit → Option Int} (h : OwnF w P K E q b s f) (hfg : ∀ k, WideAt.IsKeyLit k → f k = g k) : OwnF w P K E q b s g := by
  obtain ⟨D, h1, h2, h3, h4⟩ := h; exact ⟨D, h1, h2, h3, fun k hk => by rw [← hfg k hk]; exact h4 k hk⟩
theorem put_eq {D : DataW Unit} {kl : Lit} {d : DataW Unit} (h1 : w.ownsMap P K (plainElem P E) b (s + 1) (D.put kl d)) (hs : Maps.size (D.put kl d) ≤ s + 1) : w.ownsMap P K (plainElem P E) b (Maps.size (D.put kl d)) (D.put kl d) := by
  obtain ⟨es, clock, hb, F, hs', hD⟩ := h1
  refine ⟨es, clock, hb, F, ?_, hD⟩
  rw [hD]; simp [Maps.size, length_sorted]
end OwnF
section
variable {P : Program} (w : World) {ops : Array Oper} {rest : List Oper} {o : Oper} {a : Act} {Q : Exit → Act → World → Prop}
/-- 'n, ok := m[k]' -/
theorem wpList_lookupF_ok (hg : o.guard = none) (m x : Operand) (t : TypeId) (hop : o.op = Op.lookup t m x true)
    (k e : TypeId) (q : IntKind) (K : Keyed P k) (ht : P.underlying t = some (.map k e)) (he : P.underlying e = some (.int q)) (hz : (zeroValue e).run P w = .ok (.int q 0) w) (b s : Nat) (f : Lit → Option Int)
    (hm : a.eval m = .map (some b)) (hown : OwnF w P k e q b s f) (key : Value) (kl : Lit) (hx : a.eval x = key) (hkey : keyOf P k key = some kl) (hl : WideAt.IsKeyLit kl) (r : Option Int) (hr : f kl = r)
    (hK : wpList P ops Q rest (a.put o.dst (.tuple #[.int q (r.getD 0), .bool r.isSome])) w) :
    wpList P ops Q (o :: rest) a w := by
  subst hr
  obtain ⟨D, h1, h2, h3, h4⟩ := hown
  refine wpList_lookup_own_ok_int w hg m x t hop k e q K ht he hz b s D hm h1 key kl hx hkey ?_
  intro c hat hwc
  obtain ⟨g1, g2⟩ := h4 kl hl
  rw [hat] at g2
  injection g2 with g2
  injection g2 with _ g2
  rw [g1, g2]
  exact hK
/-- 'm[k]' -/
theorem wpList_lookupF (hg : o.guard = none) (m x : Operand) (t : TypeId) (hop : o.op = Op.lookup t m x false)
    (k e : TypeId) (q : IntKind) (K : Keyed P k) (ht : P.underlying t = some (.map k e)) (he : P.underlying e = some (.int q)) (hz : (zeroValue e).run P w = .ok (.int q 0) w) (b s : Nat) (f : Lit → Option Int)
    (hm : a.eval m = .map (some b)) (hown : OwnF w P k e q b s f) (key : Value) (kl : Lit) (hx : a.eval x = key) (hkey : keyOf P k key = some kl) (hl : WideAt.IsKeyLit kl) (r : Option Int) (hr : f kl = r)
    (hK : wpList P ops Q rest (a.put o.dst (.int q (r.getD 0))) w) :
    wpList P ops Q (o :: rest) a w := by
  subst hr
  obtain ⟨D, h1, h2, h3, h4⟩ := hown
  refine wpList_lookup_own_int w hg m x t hop k e q K ht he hz b s D hm h1 key kl hx hkey ?_
  intro c hat hwc
  obtain ⟨g1, g2⟩ := h4 kl hl
  rw [hat] at g2
  injection g2 with g2
  injection g2 with _ g2
  rw [g2]
  exact hK
/-- 'len(m)' -/
theorem wpList_lenF (hg : o.guard = none) (m : Operand) (t : TypeId) (hop : o.op = Op.call { callee := Callee.builtin Builtin.len, args := #[m], argTypes := #[t] })
    (k e : TypeId) (q : IntKind) (ht : P.underlying t = some (.map k e)) (b s : Nat) (f : Lit → Option Int) (hm : a.eval m = .map (some b)) (hown : OwnF w P k e q b s f)
    (hK : wpList P ops Q rest (a.put o.dst (.int .i64 (s : Int))) w) :
    wpList P ops Q (o :: rest) a w := by
  obtain ⟨D, h1, h2, h3, h4⟩ := hown
  refine wpList_len_own w hg m t hop k e ht _ b s D hm h1 ?_
  rw [h2]
  exact hK
/-- 'm[k] = v' -/
theorem wpList_updateF (hg : o.guard = none) (m x v : Operand) (t : TypeId) (hop : o.op = Op.mapUpdate t m x v)
    (k e : TypeId) (q : IntKind) (K : Keyed P k) (ht : P.underlying t = some (.map k e)) (he : P.underlying e = some (.int q)) (b s : Nat) (f : Lit → Option Int)
    (hm : a.eval m = .map (some b)) (hown : OwnF w P k e q b s f) (hs : s < maxLen) (key : Value) (c : Int) (kl : Lit) (hx : a.eval x = key) (hv : a.eval v = .int q c) (hc : (Lit.int q c).wf = true) (hkey : keyOf P k key = some kl) (hl : WideAt.IsKeyLit kl) (s' : Nat) (hs' : s' = if (f kl).isSome then s else s + 1)
    (hK : ∀ w', OwnF w' P k e q b s' (putF f kl c) → w.grownBy w' (some b) → wpList P ops Q rest (a.put o.dst undef) w') :
    wpList P ops Q (o :: rest) a w := by
  subst hs'
  obtain ⟨D, h1, h2, h3, h4⟩ := hown
  refine wpList_mapUpdate_own w hg m x v t hop k e K ht _ b s D hm h1 hs key _ kl hx hv hkey (.lit (.int q c)) [] (plainElem_int he hc) ?_
  intro w' g1 g2
  have hsz := Maps.size_put (k := kl) h3 (.lit (.int q c))
  rw [(h4 kl hl).1, h2] at hsz
  refine hK w' ⟨D.put kl (.lit (.int q c)), ?_, hsz, h3.put hl _, ?_⟩ g2
  · rw [← hsz]
    exact OwnF.put_eq g1 (by rw [hsz]; split <;> omega)
  · intro k' hk'
    by_cases hkk : k' = kl
    · subst hkk
      refine ⟨?_, ?_⟩
      · rw [Maps.has_put_same h3.isMap hl, putF_same hl]; rfl
      · rw [Maps.atKey_put_same h3.isMap hl, putF_same hl]; rfl
    · refine ⟨?_, ?_⟩
      · rw [Maps.has_put_other hkk, putF_other hkk]; exact (h4 k' hk').1
      · rw [Maps.atKey_put_other hkk, putF_other hkk]; exact (h4 k' hk').2
end
end Go.Proofs.YtaafmfooommepaaDoor
