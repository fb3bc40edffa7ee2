/- Machines in memory: their cells, their trace; what a call leaves as it was. -/
import Derived.Test.YtpikoijohfmnaaaCtPlain
import Derived.Test.YtpikoijohfmnaaaMake
import Derived.Test.YtpikoijohfmnaaaMapF
import Derived.Test.YtpikoijohfmnaaaRowsIn
import Derived.Maps.AppendAt
set_option linter.unusedVariables false
set_option linter.unusedSimpArgs false
namespace Go.Proofs.Ytpikoijohfmnaaa
open Go.RowKit
/-- numbers in a row -/
def uarr (f : Nat → Int) (n : Nat) : Array Value := ((List.range n).map fun i => Value.int .u64 (f i)).toArray
theorem uarr_size (f : Nat → Int) (n : Nat) : (uarr f n).size = n := by unfold uarr; simp
theorem uarr_get (f : Nat → Int) (n i : Nat) (h : i < n) : (uarr f n)[i]? = some (.int .u64 (f i)) := by unfold uarr; simp [h]
/-- f, but v at i -/
def upd (f : Nat → Int) (i : Nat) (v : Int) : Nat → Int := fun j => if j = i then v else f j
theorem upd_same (f : Nat → Int) (i : Nat) (v : Int) : upd f i v i = v := by unfold upd; rw [if_pos rfl]
theorem upd_other (f : Nat → Int) {i j : Nat} (v : Int) (h : j ≠ i) : upd f i v j = f j := by unfold upd; rw [if_neg h]
theorem uarr_set (f : Nat → Int) (n i : Nat) (v : Int) : (uarr f n).setIfInBounds i (.int .u64 v) = uarr (upd f i v) n := by
  refine Array.ext (by simp [uarr_size]) fun j h1 h2 => ?_
  have hj : j < n := by rw [uarr_size] at h2; exact h2
  have e2 := uarr_get (upd f i v) n j hj
  rw [Array.getElem?_eq_getElem h2] at e2
  injection e2 with e2
  have e3 := uarr_get f n j hj
  rw [Array.getElem?_eq_getElem (by rw [uarr_size]; exact hj)] at e3
  injection e3 with e3
  rw [e2, Array.getElem_setIfInBounds (by rw [uarr_size]; exact hj)]
  by_cases hji : j = i
  · subst hji; rw [if_pos rfl, upd_same]
  · rw [if_neg (fun e => hji e.symm), e3, upd_other f v hji]
theorem uarr_zero (n : Nat) : Array.replicate n (Value.int .u64 0) = uarr (fun _ => 0) n := by
  refine Array.ext (by simp [uarr_size]) fun j h1 h2 => ?_
  have hj : j < n := by rw [uarr_size] at h2; exact h2
  have e2 := uarr_get (fun _ => 0) n j hj
  rw [Array.getElem?_eq_getElem h2] at e2
  injection e2 with e2
  rw [e2]; simp
/-- the cells of instructions, one behind the other -/
def flat6 (l : List Ins) : List Value := l.flatMap fun x => x.cells.toList
theorem ins_len (x : Ins) : x.cells.toList.length = 6 := rfl
theorem flat6_cons (x : Ins) (l : List Ins) : flat6 (x :: l) = x.cells.toList ++ flat6 l := rfl
theorem flat6_len (l : List Ins) : (flat6 l).length = l.length * 6 := by
  induction l with
  | nil => rfl
  | cons x l ih => rw [flat6_cons, List.length_append, ih, ins_len, List.length_cons]; omega
theorem flat6_snoc (l : List Ins) (x : Ins) : flat6 (l ++ [x]) = flat6 l ++ x.cells.toList := by
  unfold flat6; rw [List.flatMap_append]; simp
theorem flat6_append (l m : List Ins) : flat6 (l ++ m) = flat6 l ++ flat6 m := by
  unfold flat6; rw [List.flatMap_append]
theorem flat6_get (l : List Ins) : ∀ (j : Nat) (hj : j < l.length) (i : Nat), i < 6 → (flat6 l)[j * 6 + i]? = l[j].cells.toList[i]? := by
  induction l with
  | nil => intro j hj; cases hj
  | cons f l ih =>
    intro j hj i hi
    rw [flat6_cons]
    cases j with
    | zero => rw [List.getElem?_append_left (by rw [ins_len]; omega)]; simp
    | succ j =>
      rw [List.getElem?_append_right (by rw [ins_len]; omega), ins_len, show (j + 1) * 6 + i - 6 = j * 6 + i from by omega]
      simpa using ih j (by simpa using hj) i hi
theorem flat6_one (l : List Ins) : ∀ y ∈ flat6 l, y.oneCell' = true := by
  intro y hy
  unfold flat6 at hy
  obtain ⟨x, _, hx⟩ := List.mem_flatMap.1 hy
  unfold Ins.cells at hx
  simp at hx
  rcases hx with rfl | rfl | rfl | rfl | rfl | rfl <;> rfl
theorem ins_one (x : Ins) : ∀ y ∈ x.cells.toList, y.oneCell' = true := fun y hy => flat6_one [x] y (by unfold flat6; simpa using hy)
/-- what was there stays as it was, but for some blocks -/
structure Only (S : Nat → Prop) (w w' : World) : Prop where
  os : w'.os = w.os
  tape : w'.tape = w.tape
  output : w'.output = w.output
  size : w.heap.size ≤ w'.heap.size
  block : ∀ k, k < w.heap.size → ¬ S k → w'.heap[k]? = w.heap[k]?
namespace Only
variable {S T : Nat → Prop} {w w1 w2 : World}
theorem refl (w : World) : Only S w w := ⟨rfl, rfl, rfl, Nat.le_refl _, fun _ _ _ => rfl⟩
theorem of_below (h : Below w.heap.size w w1) : Only S w w1 := ⟨h.os, h.tape, h.output, h.size, fun k hk _ => h.block k hk⟩
theorem trans (h : Only S w w1) (h' : Only T w1 w2) (hT : ∀ k, T k → S k ∨ w.heap.size ≤ k) : Only S w w2 :=
  ⟨h'.os.trans h.os, h'.tape.trans h.tape, h'.output.trans h.output, Nat.le_trans h.size h'.size, fun k hk hS =>
    (h'.block k (Nat.lt_of_lt_of_le hk h.size) (fun ht => (hT k ht).elim hS (fun g => by omega))).trans (h.block k hk hS)⟩
theorem mono (h : Only T w w1) (hT : ∀ k, T k → S k ∨ w.heap.size ≤ k) : Only S w w1 := (refl w).trans h hT
theorem below {B : Nat} (h : Only S w w1) (hB : B ≤ w.heap.size) (hS : ∀ k, S k → B ≤ k) : Below B w w1 :=
  ⟨h.os, h.tape, h.output, h.size, fun k hk => h.block k (by omega) (fun hs => by have := hS k hs; omega)⟩
theorem of_grown {r : Option Nat} (h : w.grownBy w1 r) (hr : ∀ k, r = some k → S k) : Only S w w1 :=
  ⟨h.os, h.tape, h.output, h.size, fun k hk hS => h.block k hk (fun e => hS (hr k e.symm))⟩
theorem set (w : World) (g i : Nat) (v : Value) (hg : S g) : Only S w (w.setCell ⟨g, i, none⟩ v) :=
  ⟨rfl, rfl, rfl, by simp, fun k _ hS => Below.heap_setCell w _ v k (fun e => hS (by rw [e]; exact hg))⟩
theorem drew (h : Only S w w1) : Only S w w1.drew := ⟨h.os, h.tape, h.output, h.size, h.block⟩
end Only
theorem AtG.only {S : Nat → Prop} {w w1 : World} {g T : Nat} {cs : Array Value} (h : AtG w g T cs) (ho : Only S w w1) (hS : ¬ S g) : AtG w1 g T cs := (ho.block g h.lt hS).trans h
theorem own_only {S : Nat → Prop} {w w1 : World} {base n e size : Nat} {v : Value} {xs : List Value} (h : w.ownsRow base e size v n xs) (ho : Only S w w1) (hS : ∀ k, v.ownBlock = some k → ¬ S k) : w1.ownsRow base e size v n xs := by
  refine ⟨h.1, ?_⟩
  rcases h.2 with h2 | ⟨g, cap, cur, rfl, hb, hh, rest⟩
  · exact .inl h2
  · exact .inr ⟨g, cap, cur, rfl, hb, (ho.block g (Array.getElem?_eq_some_iff.1 hh).1 (hS g rfl)).trans hh, rest⟩
theorem OwnF.only {S : Nat → Prop} {w w1 : World} {P : Program} {K E : TypeId} {q : IntKind} {b s : Nat} {f : Lit → Option Int} (h : OwnF w P K E q b s f) (ho : Only S w w1) (hS : ¬ S b) : OwnF w1 P K E q b s f := by
  have hlt := h.lt
  obtain ⟨D, ⟨es, clock, hb, F, hs, hD⟩, h2⟩ := h
  exact ⟨D, ⟨es, clock, (ho.block b hlt hS).trans hb, F, hs, hD⟩, h2⟩
/-- an owned row's block is of its type -/
theorem own_type {w : World} {base n e size : Nat} {v : Value} {xs : List Value} (h : w.ownsRow base e size v n xs) {k : Nat} (hk : v.ownBlock = some k) : ∃ cur, w.heap[k]? = some (.cells cur e (0, 0)) := by
  rcases h.2 with ⟨rfl, _⟩ | ⟨g, cap, cur, rfl, hb, hh, _⟩
  · cases hk
  · cases hk; exact ⟨cur, hh⟩
theorem own_ne {w : World} {base n e size g T : Nat} {v : Value} {xs : List Value} {cs : Array Value} (h : w.ownsRow base e size v n xs) (ha : AtG w g T cs) (hT : T ≠ e) : v.ownBlock ≠ some g := by
  intro e1
  obtain ⟨cur, hc⟩ := own_type h e1
  unfold AtG at ha
  rw [ha] at hc
  injection hc with hc
  injection hc with _ e2 _
  exact hT e2
theorem AtG.ne {w : World} {g g' T T' : Nat} {cs cs' : Array Value} (h : AtG w g T cs) (h' : AtG w g' T' cs') (hT : T ≠ T') : g ≠ g' := by
  rintro rfl
  unfold AtG at h h'
  rw [h] at h'
  injection h' with h'
  injection h' with _ e _
  exact hT e
theorem OwnF.ne {w : World} {P : Program} {K E : TypeId} {q : IntKind} {b s : Nat} {f : Lit → Option Int} (h : OwnF w P K E q b s f) {g T : Nat} {cs : Array Value} (h' : AtG w g T cs) : b ≠ g := by
  rintro rfl
  obtain ⟨D, ⟨es, clock, hb, _⟩, _⟩ := h
  unfold AtG at h'
  rw [h'] at hb
  cases hb
theorem OwnF.ne_own {w : World} {P : Program} {K E : TypeId} {q : IntKind} {b s : Nat} {f : Lit → Option Int} (h : OwnF w P K E q b s f) {base n e size : Nat} {v : Value} {xs : List Value} (h' : w.ownsRow base e size v n xs) : v.ownBlock ≠ some b := by
  intro e1
  obtain ⟨cur, hc⟩ := own_type h' e1
  obtain ⟨D, ⟨es, clock, hb, _⟩, _⟩ := h
  rw [hb] at hc
  cases hc
/-- a row that stayed where it was, or is new, stands while another block is written -/
theorem own_setFar {w : World} {base n e size g N : Nat} {v : Value} {xs : List Value} {r : Option Nat} (h : w.ownsRow base e size v n xs) (hv : v.ownBlock = r ∨ ∃ b, v.ownBlock = some b ∧ N ≤ b) (hr : r ≠ some g) (hg : g < N) (i : Nat) (u : Value) : (w.setCell ⟨g, i, none⟩ u).ownsRow base e size v n xs :=
  own_only h (Only.set (S := fun q => q = g) _ _ _ _ rfl) (fun q hq e => by
    subst e
    rcases hv with h2 | ⟨b, h2, h3⟩
    · exact hr (h2.symm.trans hq)
    · rw [h2] at hq; cases hq; omega)
section
variable {P : Program} {ops : Array Oper} {rest : List Oper} {o : Oper} {a : Act} {Q : Exit → Act → World → Prop}
/-- append(v, ys...) at the operation: the row stays where it was, or lies in a new block. -/
theorem wp_appRowX {w : World} {K : Act → World → Prop} (s x : Operand) (t : TypeId)
    (ho : o.op = .call { callee := .builtin .append, args := #[s, x], argTypes := #[t, t] })
    (base : Nat) (e : TypeId) (z : Value) (size bytes : Nat) (ht : P.underlying t = some (.slice e)) (hinfo : (P.info? e).map (fun i => (i.zero, i.size, i.bytes)) = some (some z, size, bytes)) (hzs : z.cells.size = size) (hsz : 0 < size)
    (v u : Value) (n m : Nat) (xs ys : List Value) (HO : w.ownsRow base e size v n xs) (HS : SrcRow w u m ys) (hs : a.eval s = v) (hx : a.eval x = u) (hl : ys.length = m * size) (h1 : ∀ y ∈ ys, y.oneCell' = true)
    (hbytes : (n + m) * bytes ≤ 140737488355328) (hb0 : 0 < bytes) (hbase : base ≤ w.heap.size)
    (h : ∀ v' w', w'.ownsRow base e size v' (n + m) (xs ++ ys) → w.grownBy w' v.ownBlock → (v'.ownBlock = v.ownBlock ∨ v'.ownBlock = some w.heap.size) → K (a.put o.dst v') w') : o.wp P a w K Q := by
  obtain ⟨i0, hi, hz0, hz1, hz2⟩ := info_parts hinfo
  have h63 : n + m ≤ maxLen := by
    have : n + m ≤ (n + m) * bytes := Nat.le_mul_of_pos_right _ hb0
    unfold maxLen; omega
  rcases HS with ⟨rfl, rfl, rfl⟩ | ⟨ad, c, rfl, hc⟩
  · have hrun := run_append_owned_none (P := P) (w := w) base t o.type e i0 size ht hi v n xs HO
    unfold Oper.wp
    simp [execOp, ho, resolve, invoke, builtin, hs, hx, hrun, Result.andThen]
    exact h v w (by simpa using HO) (gb_refl _ _) (.inl rfl)
  · obtain ⟨v', w', hr, h2, h3, _, h5⟩ := run_append_own_at (P := P) w base t o.type e i0 z size bytes ht hi hz0 hz1 hz2 hzs hsz v n xs HO ad m c ys hl hc h1 h63 hbytes hbase
    unfold Oper.wp execOp
    simp only [ho, resolve, invoke, builtin, Sem.run_bind, Sem.run_pure, Result.andThen_ok, List.map_toArray, List.map_cons, List.map_nil, hs, hx, hr]
    exact h v' w' h2 h3 h5
theorem wpList_appRowX {w : World} (hgd : o.guard = none) (s x : Operand) (t : TypeId)
    (ho : o.op = .call { callee := .builtin .append, args := #[s, x], argTypes := #[t, t] })
    (base : Nat) (e : TypeId) (z : Value) (size bytes : Nat) (ht : P.underlying t = some (.slice e)) (hinfo : (P.info? e).map (fun i => (i.zero, i.size, i.bytes)) = some (some z, size, bytes)) (hzs : z.cells.size = size) (hsz : 0 < size)
    (v u : Value) (n m : Nat) (xs ys : List Value) (HO : w.ownsRow base e size v n xs) (HS : SrcRow w u m ys) (hs : a.eval s = v) (hx : a.eval x = u) (hl : ys.length = m * size) (h1 : ∀ y ∈ ys, y.oneCell' = true)
    (hbytes : (n + m) * bytes ≤ 140737488355328) (hb0 : 0 < bytes) (hbase : base ≤ w.heap.size)
    (h : ∀ v' w', w'.ownsRow base e size v' (n + m) (xs ++ ys) → w.grownBy w' v.ownBlock → (v'.ownBlock = v.ownBlock ∨ v'.ownBlock = some w.heap.size) → wpList P ops Q rest (a.put o.dst v') w') : wpList P ops Q (o :: rest) a w :=
  wpList_plain hgd fun _ hK => wp_appRowX s x t ho base e z size bytes ht hinfo hzs hsz v u n m xs ys HO HS hs hx hl h1 hbytes hb0 hbase fun v' w' h2 h3 h4 => hK _ _ (h v' w' h2 h3 h4)
end
/-- a row of cells as a source -/
theorem src_at {w : World} {k T n : Nat} {cs : Array Value} (h : AtG w k T cs) (c : Nat) : SrcRow w (.slice (some ⟨k, 0, none⟩) n c) n cs.toList :=
  .inr ⟨⟨k, 0, none⟩, c, rfl, fun j y hy => by
    have e1 : (⟨k, 0, none⟩ : Addr).add j = ⟨k, j, none⟩ := by unfold Addr.add; split <;> simp_all
    rw [e1]; exact h.cell j y (by simpa using hy)⟩
/-- a machine: its two cells' block g, its cells' block gc, its trace tv -/
structure CtM (w : World) (g gc : Nat) (tv : Value) (n : Nat) (f : Nat → Int) (tr : List Ins) : Prop where
  m : AtG w g 57 #[.slice (some ⟨gc, 0, none⟩) n n, tv]
  c : AtG w gc 29 (uarr f n)
  t : w.ownsRow 0 35 6 tv tr.length (flat6 tr)
  v : ∀ i, i < n → 0 ≤ f i ∧ f i < 18446744073709551616
/-- its blocks -/
def ctS (g gc : Nat) (tv : Value) (k : Nat) : Prop := k = g ∨ k = gc ∨ tv.ownBlock = some k
namespace CtM
variable {w w1 : World} {g gc n : Nat} {tv : Value} {f : Nat → Int} {tr : List Ins}
theorem only {S : Nat → Prop} (h : CtM w g gc tv n f tr) (ho : Only S w w1) (hS : ∀ k, ctS g gc tv k → ¬ S k) : CtM w1 g gc tv n f tr :=
  ⟨h.m.only ho (hS g (.inl rfl)), h.c.only ho (hS gc (.inr (.inl rfl))), own_only h.t ho (fun k hk => hS k (.inr (.inr hk))), h.v⟩
theorem lt (h : CtM w g gc tv n f tr) : ∀ k, ctS g gc tv k → k < w.heap.size := by
  rintro k (rfl | rfl | hk)
  · exact h.m.lt
  · exact h.c.lt
  · obtain ⟨cur, hc⟩ := own_type h.t hk; exact (Array.getElem?_eq_some_iff.1 hc).1
theorem below (h : CtM w g gc tv n f tr) (hb : Below w.heap.size w w1) : CtM w1 g gc tv n f tr :=
  h.only (S := fun _ => False) (Only.of_below hb) (fun _ _ => id)
end CtM
/-- what a cell holds, if it is named -/
def ldP (f : Nat → Int) (is : Bool) (c : Int) : Int := if is then f c.toNat else 0
def newV (f : Nat → Int) (x : Ins) : Int := valP x.op (ldP f (isA x.op) x.a) (ldP f (isB x.op) x.b) (ldP f (isC x.op) x.c) x.n
/-- what is told -/
def outP (f : Nat → Int) (x : Ins) : Int := if x.op = 11 then f x.a.toNat else 0
/-- the cells behind it -/
def nextF (f : Nat → Int) (x : Ins) : Nat → Int := if x.op = 11 then f else upd f x.d.toNat (newV f x)
/-- what Do comes to, of an instruction that may be -/
def DoPost (g gc k : Nat) (tv : Value) (f : Nat → Int) (tr : List Ins) (x : Ins) (w : World) (e : Ending) (w' : World) : Prop :=
  ∃ tv', e = .returned (.tuple #[.int .u64 (outP f x), .nilIface]) ∧ CtM w' g gc tv' k (nextF f x) (tr ++ [x.seen]) ∧ Only (ctS g gc tv) w w' ∧ (tv'.ownBlock = tv.ownBlock ∨ ∃ b, tv'.ownBlock = some b ∧ w.heap.size ≤ b)
end Go.Proofs.Ytpikoijohfmnaaa
