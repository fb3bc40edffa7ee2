/- A region that draws its order, walked one operation at a time, each by itself: what each leaves is a condition that stays when memory only grows. -/
import Derived.Test.YtaafmfooommepaaDoorBase
import Derived.Orders
set_option linter.unusedVariables false
namespace Go.Proofs.YtaafmfooommepaaDoor
open Go.RowKit
namespace Rg
/-- a condition on a value that stays when memory only grows -/
structure Rl where
  R : Value → World → Prop
  st : ∀ v w w', R v w → Below w.heap.size w w' → R v w'
def eq (X : Value) : Rl := ⟨fun v _ => v = X, fun _ _ _ h _ => h⟩
theorem mk {X : Value} {w : World} : (eq X).R X w := rfl
def any : Rl := ⟨fun _ _ => True, fun _ _ _ _ _ => trivial⟩
/-- does o wait for number j? -/
def waits (o : Oper) (j : Nat) : Bool := o.after.toList.any fun e => Region.binds .any e && e.on == j
/-- is number j behind i by so many steps at most? -/
def reach (l : List Oper) : Nat → Nat → Nat → Bool
  | 0, _, _ => false
  | n + 1, i, j => match l[i]? with
    | none => false
    | some o => o.after.toList.any fun e => Region.binds .any e && (e.on == j || reach l n e.on j)
def waitsFar (l : List Oper) (n : Nat) (o : Oper) (j : Nat) : Bool := o.after.toList.any fun e => Region.binds .any e && (e.on == j || reach l n e.on j)
def isDst (l : List Oper) (t : Nat) : Bool := l.any fun o => o.dst == some t
def dstsOk (n : Nat) : List Oper → Bool
  | [] => true
  | o :: l => (match o.dst with | none => true | some d => decide (d < n) && !isDst l d) && dstsOk n l
def edgesOk : Nat → List Oper → Bool
  | _, [] => true
  | i, o :: l => (o.after.toList.all fun e => !Region.binds .any e || decide (e.on < i)) && edgesOk (i + 1) l
section
variable (P : Program) (ops : Array Oper) (Q : Exit → Act → World → Prop) (J : World → Prop) (b : Act)
/-- what is known of number j, the newest first -/
def look : List (Nat × Rl) → Nat → Option Rl
  | [], _ => none
  | (k, r) :: l, j => if k == j then some r else look l j
/-- what is known when o comes up -/
structure Known (Rs : List (Nat × Rl)) (o : Oper) (a : Act) (w : World) : Prop where
  j : J w
  base : ∀ t x, isDst ops.toList t = false → b.tmps.toList[t]? = some x → a.tmps[t]? = some x
  dep : ∀ i t r, waits o i = true → (ops.toList[i]?).bind (·.dst) = some t → look Rs i = some r → ∃ v, a.tmps[t]? = some v ∧ r.R v w
  far : ∀ n i t r, waitsFar ops.toList n o i = true → (ops.toList[i]?).bind (·.dst) = some t → look Rs i = some r → ∃ v, a.tmps[t]? = some v ∧ r.R v w
/-- o, by itself -/
def One (Rs : List (Nat × Rl)) (o : Oper) (r : Rl) : Prop :=
  ∀ a w, Known ops J b Rs o a w →
    if Region.wanted o (yielded ops a.tmps) = true then ∀ K : Act → World → Prop, (∀ v w', r.R v w' → Below w.heap.size w w' → K (a.put o.dst v) w') → o.wp P a w K Q else r.R undef w
/-- the end: the state written out -/
def Fin (D : List Deferred) : List Oper → List Rl → List Value → World → Prop
  | [], [], base, w => Q .normal ⟨base.toArray, D⟩ w
  | o :: os, r :: rs, base, w => match o.dst with
    | some d => ∀ v, r.R v w → Fin D os rs (base.set d v) w
    | none => Fin D os rs base w
  | _, _, _, _ => False
/-- one operation behind the other -/
def Build : Nat → List Oper → List (Nat × Rl) → Prop
  | _, [], Rs => ∀ w, J w → Fin Q b.defers ops.toList (Rs.reverse.map (·.2)) b.tmps.toList w
  | n, o :: l, Rs => ∃ r : Rl, One P ops Q J b Rs o r ∧ Build (n + 1) l ((n, r) :: Rs)
end
section
variable {P : Program} {ops : Array Oper} {Q : Exit → Act → World → Prop} {J : World → Prop} {b : Act}
theorem dst_lt {n : Nat} : ∀ {l : List Oper}, dstsOk n l = true → ∀ (i : Nat) (o : Oper) (t : Nat), l[i]? = some o → o.dst = some t → t < n
  | [], _, i, o, t, h, _ => by simp at h
  | p :: l, h, 0, o, t, ho, hd => by
    simp only [dstsOk, Bool.and_eq_true] at h
    obtain rfl : p = o := by simpa using ho
    have := h.1; rw [hd] at this; simp at this; exact this.1
  | p :: l, h, i + 1, o, t, ho, hd => by
    simp only [dstsOk, Bool.and_eq_true] at h
    exact dst_lt h.2 i o t (by simpa using ho) hd
theorem isDst_of {l : List Oper} {i : Nat} {o : Oper} {t : Nat} (h : l[i]? = some o) (hd : o.dst = some t) : isDst l t = true := by
  unfold isDst; rw [List.any_eq_true]; exact ⟨o, List.mem_of_getElem? h, by simp [hd]⟩
theorem dst_ne {n : Nat} : ∀ {l : List Oper}, dstsOk n l = true → ∀ (i j : Nat) (o p : Oper) (t : Nat), l[i]? = some o → l[j]? = some p → o.dst = some t → p.dst = some t → i = j
  | [], _, i, j, o, p, t, h, _, _, _ => by simp at h
  | q :: l, h, i, j, o, p, t, ho, hp, hod, hpd => by
    simp only [dstsOk, Bool.and_eq_true] at h
    cases i with
    | zero => cases j with
      | zero => rfl
      | succ j =>
        exfalso
        obtain rfl : q = o := by simpa using ho
        have h1 := h.1; rw [hod] at h1; simp at h1
        have := isDst_of (l := l) (i := j) (by simpa using hp) hpd
        rw [h1.2] at this; cases this
    | succ i => cases j with
      | zero =>
        exfalso
        obtain rfl : q = p := by simpa using hp
        have h1 := h.1; rw [hpd] at h1; simp at h1
        have := isDst_of (l := l) (i := i) (by simpa using ho) hod
        rw [h1.2] at this; cases this
      | succ j => rw [dst_ne h.2 i j o p t (by simpa using ho) (by simpa using hp) hod hpd]
theorem edge_lt : ∀ {l : List Oper} {m : Nat}, edgesOk m l = true → ∀ (i : Nat) (o : Oper) (e : Edge), l[i]? = some o → e ∈ o.after → Region.binds .any e = true → e.on < m + i
  | [], _, _, i, o, e, h, _, _ => by simp at h
  | p :: l, m, h, 0, o, e, ho, he, hb => by
    simp only [edgesOk, Bool.and_eq_true, List.all_eq_true] at h
    obtain rfl : p = o := by simpa using ho
    have := h.1 e (by simpa using he); rw [hb] at this; simpa using this
  | p :: l, m, h, i + 1, o, e, ho, he, hb => by
    simp only [edgesOk, Bool.and_eq_true] at h
    have := edge_lt h.2 i o e (by simpa using ho) he hb
    omega
def unl (n : Nat) (listed : Array Bool) : Nat := (List.range n).countP fun i => !listed.getD i true
theorem countP_upd {p q : Nat → Bool} {i : Nat} : ∀ {l : List Nat}, l.Nodup → i ∈ l → p i = true → q i = false → (∀ j, j ≠ i → q j = p j) → l.countP q + 1 = l.countP p
  | [], _, h, _, _, _ => by simp at h
  | x :: l, hn, hi, hp, hq, hj => by
    rw [List.nodup_cons] at hn
    by_cases hx : x = i
    · subst hx
      have : l.countP q = l.countP p := List.countP_congr fun y hy => by rw [hj y (fun e => hn.1 (e ▸ hy))]
      rw [List.countP_cons_of_neg (by simp [hq]), List.countP_cons_of_pos (by simp [hp]), this]
    · have := countP_upd hn.2 (by rcases List.mem_cons.1 hi with h | h; exact absurd h.symm hx; exact h) hp hq hj
      rw [List.countP_cons, List.countP_cons, hj x hx]; omega
theorem unl_set {n i : Nat} {listed : Array Bool} (hs : listed.size = n) (hi : listed.getD i true = false) : unl n (listed.setIfInBounds i true) + 1 = unl n listed := by
  have hlt : i < listed.size := by
    rcases Nat.lt_or_ge i listed.size with h | h
    · exact h
    · simp [Array.getElem?_eq_none h] at hi
  unfold unl
  refine countP_upd List.nodup_range (List.mem_range.2 (hs ▸ hlt)) (by simp only [hi]; rfl) ?_ ?_
  · simp [Array.getElem?_setIfInBounds_self_of_lt hlt]
  · intro j hj; simp [Array.getElem?_setIfInBounds_ne (Ne.symm hj)]
theorem all_of_ready {listed : Array Bool} (he : edgesOk 0 ops.toList = true) (hr : Region.ready .any ops listed = []) (hs : listed.size = ops.size) : ∀ i, i < ops.size → listed.getD i false = true := by
  intro i
  induction i using Nat.strongRecOn with
  | _ i ih =>
    intro hi
    cases h : listed.getD i true with
    | true => have hl : i < listed.size := by omega
              simp [hl] at h ⊢; exact h
    | false =>
      exfalso
      have : i ∈ Region.ready .any ops listed := by
        rw [mem_ready]
        refine ⟨h, ops[i], by simp [hi], fun e hm hb => ?_⟩
        have hl := edge_lt he i ops[i] e (by simp [hi]) hm hb
        exact ih e.on (by omega) (by omega)
      rw [hr] at this; cases this
theorem reach_spec {l : List Oper} {listed : Array Bool} (hc : ∀ (i : Nat) (o : Oper) (e : Edge), l[i]? = some o → listed.getD i false = true → e ∈ o.after → Region.binds .any e = true → listed.getD e.on false = true) :
    ∀ n i j, reach l n i j = true → listed.getD i false = true → listed.getD j false = true
  | 0, i, j, h, _ => by simp [reach] at h
  | n + 1, i, j, h, hi => by
    unfold reach at h
    split at h
    · cases h
    · rename_i o ho
      rw [List.any_eq_true] at h
      obtain ⟨e, he, hj⟩ := h
      simp only [Bool.and_eq_true, Bool.or_eq_true, beq_iff_eq] at hj
      have hl := hc i o e ho hi (by simpa using he) hj.1
      rcases hj.2 with rfl | h2
      · exact hl
      · exact reach_spec hc n e.on j h2 hl
theorem waitsFar_spec {l : List Oper} {listed : Array Bool} (hc : ∀ (i : Nat) (o : Oper) (e : Edge), l[i]? = some o → listed.getD i false = true → e ∈ o.after → Region.binds .any e = true → listed.getD e.on false = true)
    {n j : Nat} {o : Oper} (h : waitsFar l n o j = true) (ho : ∀ e ∈ o.after, Region.binds .any e = true → listed.getD e.on false = true) : listed.getD j false = true := by
  unfold waitsFar at h
  rw [List.any_eq_true] at h
  obtain ⟨e, he, hj⟩ := h
  simp only [Bool.and_eq_true, Bool.or_eq_true, beq_iff_eq] at hj
  have hl := ho e (by simpa using he) hj.1
  rcases hj.2 with rfl | h2
  · exact hl
  · exact reach_spec hc n e.on j h2 hl
theorem closed_set {l : List Oper} {listed : Array Bool} {i : Nat} {o : Oper} (hc : ∀ (i : Nat) (o : Oper) (e : Edge), l[i]? = some o → listed.getD i false = true → e ∈ o.after → Region.binds .any e = true → listed.getD e.on false = true)
    (hi : l[i]? = some o) (ho : ∀ e ∈ o.after, Region.binds .any e = true → listed.getD e.on false = true) :
    ∀ (k : Nat) (p : Oper) (e : Edge), l[k]? = some p → (listed.setIfInBounds i true).getD k false = true → e ∈ p.after → Region.binds .any e = true → (listed.setIfInBounds i true).getD e.on false = true := by
  intro k p e hp hk he hb
  have up : ∀ m, listed.getD m false = true → (listed.setIfInBounds i true).getD m false = true := fun m hm => by
    by_cases hmi : i = m
    · subst hmi
      rcases Nat.lt_or_ge i listed.size with h | h
      · simp [Array.getElem?_setIfInBounds_self_of_lt h]
      · simp [Array.getElem?_eq_none h] at hm
    · have : (listed.setIfInBounds i true).getD m false = listed.getD m false := by simp [Array.getElem?_setIfInBounds_ne hmi]
      rw [this]; exact hm
  by_cases hki : k = i
  · subst hki
    obtain rfl : o = p := by rw [hi] at hp; exact Option.some.inj hp
    exact up _ (ho e he hb)
  · have : (listed.setIfInBounds i true).getD k false = listed.getD k false := by simp [Array.getElem?_setIfInBounds_ne (Ne.symm hki)]
    rw [this] at hk
    exact up _ (hc k p e hp hk he hb)
theorem ready_of_unl {listed : Array Bool} (h : unl ops.size listed = 0) : Region.ready .any ops listed = [] := by
  rw [List.eq_nil_iff_forall_not_mem]
  intro i hi
  obtain ⟨h1, o, ho, _⟩ := mem_ready.1 hi
  have hlt : i < ops.size := (Array.getElem?_eq_some_iff.1 ho).1
  unfold unl at h
  rw [List.countP_eq_zero] at h
  have := h i (List.mem_range.2 hlt)
  rw [h1] at this; exact this rfl
/-- what holds between two operations -/
structure Inv (ops : Array Oper) (J : World → Prop) (b : Act) (Rs : List Rl) (listed : Array Bool) (a : Act) (w : World) : Prop where
  j : J w
  defers : a.defers = b.defers
  size : a.tmps.size = b.tmps.size
  base : ∀ t, isDst ops.toList t = false → a.tmps[t]? = b.tmps[t]?
  closed : ∀ (i : Nat) (o : Oper) (e : Edge), ops.toList[i]? = some o → listed.getD i false = true → e ∈ o.after → Region.binds .any e = true → listed.getD e.on false = true
  dep : ∀ (i : Nat) (o : Oper) (t : Nat) (r : Rl), ops[i]? = some o → o.dst = some t → listed.getD i false = true → Rs[i]? = some r → ∃ v, a.tmps[t]? = some v ∧ r.R v w
theorem Inv.put {Rs : List Rl} {listed : Array Bool} {a : Act} {w w' : World} {i : Nat} {o : Oper} {r : Rl} {v : Value} (hd : dstsOk b.tmps.size ops.toList = true) (stJ : ∀ w w', J w → Below w.heap.size w w' → J w')
    (h : Inv ops J b Rs listed a w) (ho : ops[i]? = some o) (hr : Rs[i]? = some r) (hv : r.R v w') (hb : Below w.heap.size w w') (hs : listed.size = ops.size) (hdep : ∀ e ∈ o.after, Region.binds .any e = true → listed.getD e.on false = true) : Inv ops J b Rs (listed.setIfInBounds i true) (a.put o.dst v) w' := by
  have ho' : ops.toList[i]? = some o := by simpa using ho
  refine ⟨stJ _ _ h.j hb, ?_, ?_, ?_, closed_set h.closed ho' hdep, ?_⟩
  · cases hd : o.dst <;> simp [Act.put, h.defers]
  · cases hd : o.dst <;> simp [Act.put, h.size]
  · intro t ht
    cases hod : o.dst with
    | none => simpa [Act.put] using h.base t ht
    | some d =>
      have hne : d ≠ t := fun e => by subst e; rw [isDst_of ho' hod] at ht; cases ht
      simpa [Act.put, Array.getElem?_setIfInBounds_ne hne] using h.base t ht
  · intro k p t s hp hpd hl hs'
    by_cases hki : k = i
    · subst hki
      obtain rfl : o = p := by rw [ho] at hp; exact Option.some.inj hp
      obtain rfl : r = s := by rw [hr] at hs'; exact Option.some.inj hs'
      have hlt : t < a.tmps.size := by rw [h.size]; exact dst_lt hd k o t ho' hpd
      refine ⟨v, ?_, hv⟩
      simp [Act.put, hpd, Array.getElem?_setIfInBounds_self_of_lt hlt]
    · have hl' : listed.getD k false = true := by
        have : (listed.setIfInBounds i true).getD k false = listed.getD k false := by simp [Array.getElem?_setIfInBounds_ne (Ne.symm hki)]
        rw [this] at hl; exact hl
      obtain ⟨u, hu, hru⟩ := h.dep k p t s hp hpd hl' hs'
      refine ⟨u, ?_, s.st _ _ _ hru hb⟩
      cases hod : o.dst with
      | none => simpa [Act.put] using hu
      | some d =>
        have hne : d ≠ t := fun e => hki (by subst e; exact (dst_ne hd i k o p d ho' (by simpa using hp) hod hpd).symm)
        simpa [Act.put, Array.getElem?_setIfInBounds_ne hne] using hu
theorem run {Rs : List Rl} (hd : dstsOk b.tmps.size ops.toList = true) (he : edgesOk 0 ops.toList = true) (stJ : ∀ w w', J w → Below w.heap.size w w' → J w') (hlen : Rs.length = ops.size)
    (one : ∀ (i : Nat) (o : Oper) (r : Rl), ops[i]? = some o → Rs[i]? = some r → ∃ Ls : List (Nat × Rl), (∀ j s, look Ls j = some s → Rs[j]? = some s) ∧ One P ops Q J b Ls o r)
    (fin : ∀ a w listed, Inv ops J b Rs listed a w → (∀ i, i < ops.size → listed.getD i false = true) → Q .normal a w) :
    ∀ fuel listed a w, listed.size = ops.size → unl ops.size listed = fuel → Inv ops J b Rs listed a w → wpAny P .any ops Q fuel listed a w
  | 0, listed, a, w, hs, hu, h => ⟨ready_of_unl hu, fin a w listed h (all_of_ready he (ready_of_unl hu) hs)⟩
  | fuel + 1, listed, a, w, hs, hu, h => by
    refine ⟨fun hr => fin a w listed h (all_of_ready he hr hs), fun i hi => ?_⟩
    obtain ⟨h1, o, ho, hdep⟩ := mem_ready.1 hi
    have hlt : i < ops.size := (Array.getElem?_eq_some_iff.1 ho).1
    obtain ⟨r, hr⟩ : ∃ r, Rs[i]? = some r := ⟨_, List.getElem?_eq_getElem (hlen ▸ hlt)⟩
    have hu' := unl_set (i := i) hs h1
    obtain ⟨Ls, hLs, hone⟩ := one i o r ho hr
    have hk : Known ops J b Ls o a w := by
      refine ⟨h.j, fun t x ht hx => by rw [h.base t ht]; simpa using hx, fun j t s hj ht hrs => ?_, fun n j t q hj ht hrs => ?_⟩
      rotate_left
      · obtain ⟨p, hp, hpt⟩ := Option.bind_eq_some_iff.1 ht
        exact h.dep j p t q (by simpa using hp) hpt (waitsFar_spec h.closed hj hdep) (hLs _ _ hrs)
      obtain ⟨p, hp, hpt⟩ := Option.bind_eq_some_iff.1 ht
      unfold waits at hj; rw [List.any_eq_true] at hj
      obtain ⟨e, hem, hej⟩ := hj
      simp only [Bool.and_eq_true, beq_iff_eq] at hej
      obtain ⟨hbind, rfl⟩ := hej
      exact h.dep e.on p t s (by simpa using hp) hpt (hdep e (by simpa using hem) hbind) (hLs _ _ hrs)
    have hone := hone a w hk
    unfold wpOp
    simp only [ho]
    split
    · rename_i hw
      rw [if_pos hw] at hone
      exact .inl (hone _ fun v w' hv hb => run hd he stJ hlen one fin fuel _ _ _ (by simpa using hs) (by omega) (h.put hd stJ ho hr hv hb hs hdep))
    · rename_i hw
      rw [if_neg hw] at hone
      exact run hd he stJ hlen one fin fuel _ _ _ (by simpa using hs) (by omega) (h.put hd stJ ho hr hone (Below.refl _ _) hs hdep)
/-- the written-out end -/
theorem fin_of {D : List Deferred} {w : World} {a : Act} (hD : a.defers = D) : ∀ (os : List Oper) (rs : List Rl) (base : List Value),
    dstsOk base.length os = true → os.length = rs.length → a.tmps.size = base.length →
    (∀ t, isDst os t = false → a.tmps[t]? = base[t]?) →
    (∀ (i : Nat) (o : Oper) (t : Nat) (r : Rl), os[i]? = some o → o.dst = some t → rs[i]? = some r → ∃ v, a.tmps[t]? = some v ∧ r.R v w) →
    Fin Q D os rs base w → Q .normal a w
  | [], [], base, _, _, hs, hb, _, h => by
    have : a.tmps = base.toArray := by
      apply Array.ext_getElem?
      intro t; rw [hb t rfl]; simp
    obtain ⟨tm, df⟩ := a
    simp only at this hD
    subst this; subst hD
    exact h
  | o :: os, r :: rs, base, hd, hl, hs, hb, hr, h => by
    simp only [dstsOk, Bool.and_eq_true] at hd
    simp only [Fin] at h
    cases hod : o.dst with
    | none =>
      rw [hod] at h
      refine fin_of hD os rs base hd.2 (by simpa using hl) hs (fun t ht => hb t ?_) (fun i p t s hp hpd hs' => hr (i + 1) p t s (by simpa using hp) hpd (by simpa using hs')) h
      unfold isDst at ht ⊢; rw [List.any_cons, ht]; simp [hod]
    | some d =>
      rw [hod] at h
      have hd1 := hd.1; rw [hod] at hd1; simp at hd1
      obtain ⟨v, hv, hrv⟩ := hr 0 o d r rfl hod rfl
      refine fin_of hD os rs (base.set d v) (by simpa using hd.2) (by simpa using hl) (by simpa using hs) (fun t ht => ?_) (fun i p t s hp hpd hs' => hr (i + 1) p t s (by simpa using hp) hpd (by simpa using hs')) (h v hrv)
      by_cases htd : d = t
      · subst htd; rw [hv, List.getElem?_set_self hd1.1]
      · rw [List.getElem?_set_ne htd]
        refine hb t ?_
        unfold isDst at ht ⊢; rw [List.any_cons, ht]; simp [hod, htd]
  | [], _ :: _, _, _, h, _, _, _, _ => by simp at h
  | _ :: _, [], _, _, h, _, _, _, _ => by simp at h
/-- the list is numbered from behind -/
def Num : List (Nat × Rl) → Prop
  | [] => True
  | (k, _) :: l => k = l.length ∧ Num l
theorem look_spec : ∀ {l : List (Nat × Rl)}, Num l → ∀ j r, look l j = some r → (l.reverse.map (·.2))[j]? = some r
  | [], _, j, r, h => by simp [look] at h
  | (k, s) :: l, ⟨hk, hn⟩, j, r, h => by
    simp only [look] at h
    rw [List.reverse_cons, List.map_append]
    split at h
    · rename_i hkj
      have : k = j := by simpa using hkj
      subst this; cases h
      rw [List.getElem?_append_right (by simp [hk])]; simp [hk]
    · have := look_spec hn j r h
      rw [List.getElem?_append_left (List.getElem?_eq_some_iff.1 this).1]; exact this
theorem build_spec : ∀ (l : List Oper) (n : Nat) (Rs : List (Nat × Rl)), Num Rs → Rs.length = n → Build P ops Q J b n l Rs →
    ∃ rs : List Rl, rs.length = l.length ∧ (∀ (i : Nat) (o : Oper) (r : Rl), l[i]? = some o → rs[i]? = some r → ∃ Ls : List (Nat × Rl), (∀ j s, look Ls j = some s → (Rs.reverse.map (·.2) ++ rs)[j]? = some s) ∧ One P ops Q J b Ls o r) ∧ (∀ w, J w → Fin Q b.defers ops.toList (Rs.reverse.map (·.2) ++ rs) b.tmps.toList w)
  | [], n, Rs, _, _, h => ⟨[], rfl, by simp, by simpa [Build] using h⟩
  | o :: l, n, Rs, hn, hl, ⟨r, h1, h2⟩ => by
    obtain ⟨rs, hlen, ho, hf⟩ := build_spec l (n + 1) ((n, r) :: Rs) ⟨hl.symm, hn⟩ (by simp [hl]) h2
    have e : ((n, r) :: Rs).reverse.map (·.2) ++ rs = Rs.reverse.map (·.2) ++ (r :: rs) := by simp
    rw [e] at ho hf
    refine ⟨r :: rs, by simp [hlen], ?_, hf⟩
    intro i p s hp hs
    cases i with
    | zero =>
      obtain rfl : o = p := by simpa using hp
      obtain rfl : r = s := by simpa using hs
      refine ⟨Rs, fun j s hj => ?_, h1⟩
      have := look_spec hn j s hj
      rw [List.getElem?_append_left (List.getElem?_eq_some_iff.1 this).1]; exact this
    | succ i => exact ho i p s (by simpa using hp) (by simpa using hs)
/-- A REGION THAT DRAWS ITS ORDER: each operation by itself. -/
theorem wp_region_each {id : Nat} {w : World} (hm : P.follows .mixedOrders = true) (J : World → Prop) (stJ : ∀ w w', J w → Below w.heap.size w w' → J w')
    (hd : dstsOk b.tmps.toList.length ops.toList = true) (he : edgesOk 0 ops.toList = true) (hJ : J w) (h : Build P ops Q J b 0 ops.toList []) : (Code.region id ops true).wp P Q b w := by
  obtain ⟨rs, hl, ho, hf⟩ := build_spec _ 0 [] trivial rfl h
  simp only [List.reverse_nil, List.map_nil, List.nil_append] at ho hf
  refine wp_region_any hm ?_
  have hd' : dstsOk b.tmps.size ops.toList = true := by simpa using hd
  have hl' : rs.length = ops.size := by simpa using hl
  refine run (Rs := rs) hd' he stJ hl' (fun i o r hio hr => ho i o r (by simpa using hio) hr) (fun a w' listed hi hall => ?_) ops.size _ b w.drew (by simp) ?_ ?_
  · refine fin_of (D := b.defers) hi.defers ops.toList rs b.tmps.toList hd (by simpa using hl.symm) (by simpa using hi.size) (fun t ht => by rw [hi.base t ht]; simp) (fun i o t r hio hot hr => ?_) (hf w' hi.j)
    have hio' : ops[i]? = some o := by simpa using hio
    exact hi.dep i o t r hio' hot (hall i (Array.getElem?_eq_some_iff.1 hio').1) hr
  · unfold unl
    rw [List.countP_eq_length.2]
    · simp
    · intro i hi; rw [List.mem_range] at hi; simp [hi]
  · refine ⟨stJ _ _ hJ (Below.refl _ _).drew, rfl, rfl, fun _ _ => rfl, fun i o e hio hl _ _ => ?_, fun i o t r hio _ hl _ => ?_⟩
    · have hlt : i < ops.size := by simpa using (List.getElem?_eq_some_iff.1 hio).1
      simp [hlt] at hl
    have hlt : i < ops.size := (Array.getElem?_eq_some_iff.1 hio).1
    simp [hlt] at hl
theorem build_cons {n m : Nat} {o : Oper} {l : List Oper} {Rs : List (Nat × Rl)} {r : Rl} (h : One P ops Q J b Rs o r) (h2 : Build P ops Q J b m l ((n, r) :: Rs)) (hm : m = n + 1) : Build P ops Q J b n (o :: l) Rs := by subst hm; exact ⟨r, h, h2⟩
theorem build_end {n : Nat} {Rs : List (Nat × Rl)} (h : ∀ w, J w → Fin Q b.defers ops.toList (Rs.reverse.map (·.2)) b.tmps.toList w) : Build P ops Q J b n [] Rs := h
theorem fin_none {D : List Deferred} {o : Oper} {os : List Oper} {r : Rl} {rs : List Rl} {base : List Value} {w : World} (hd : o.dst = none) (h : Fin Q D os rs base w) : Fin Q D (o :: os) (r :: rs) base w := by
  simp only [Fin, hd]; exact h
theorem fin_eq {D : List Deferred} {o : Oper} {os : List Oper} {X : Value} {rs : List Rl} {base : List Value} {w : World} {d : Nat} (hd : o.dst = some d) (h : Fin Q D os rs (base.set d X) w) : Fin Q D (o :: os) (eq X :: rs) base w := by
  simp only [Fin, hd]; rintro _ rfl; exact h
theorem fin_any {D : List Deferred} {o : Oper} {os : List Oper} {r : Rl} {rs : List Rl} {base : List Value} {w : World} {d : Nat} (hd : o.dst = some d) (h : ∀ v, r.R v w → Fin Q D os rs (base.set d v) w) : Fin Q D (o :: os) (r :: rs) base w := by
  simp only [Fin, hd]; exact h
theorem fin_nil {D : List Deferred} {base : List Value} {w : World} (h : Q .normal ⟨base.toArray, D⟩ w) : Fin Q D [] [] base w := h
/-- an operation without a guard -/
theorem one_plain {Rs : List (Nat × Rl)} {o : Oper} {r : Rl} (hg : o.guard = none)
    (h : ∀ a w, Known ops J b Rs o a w → ∀ K : Act → World → Prop, (∀ v w', r.R v w' → Below w.heap.size w w' → K (a.put o.dst v) w') → o.wp P a w K Q) : One P ops Q J b Rs o r :=
  fun a w hk => by rw [if_pos (by simp [Region.wanted, hg])]; exact h a w hk
theorem yielded_of {Rs : List (Nat × Rl)} {o : Oper} {a : Act} {w : World} (hk : Known ops J b Rs o a w) {j t : Nat} {g : Bool} (hw : waits o j = true) (ht : (ops.toList[j]?).bind (·.dst) = some t) (hr : look Rs j = some (eq (.bool g))) : yielded ops a.tmps j = some g := by
  obtain ⟨v, hv, rfl⟩ := hk.dep j t _ hw ht hr
  have ht' : (ops[j]?).bind (·.dst) = some t := by simpa using ht
  unfold yielded; rw [ht']; simp [hv]
/-- a guarded operation that is wanted -/
theorem one_yes {Rs : List (Nat × Rl)} {o : Oper} {r : Rl} (j t : Nat) (g : Bool) (hg : o.guard = some (j, g)) (hw : waits o j = true) (ht : (ops.toList[j]?).bind (·.dst) = some t) (hr : look Rs j = some (eq (.bool g)))
    (h : ∀ a w, Known ops J b Rs o a w → ∀ K : Act → World → Prop, (∀ v w', r.R v w' → Below w.heap.size w w' → K (a.put o.dst v) w') → o.wp P a w K Q) : One P ops Q J b Rs o r :=
  fun a w hk => by rw [if_pos (by simp [Region.wanted, hg, yielded_of hk hw ht hr])]; exact h a w hk
/-- one that is not -/
theorem one_no {Rs : List (Nat × Rl)} {o : Oper} (j t : Nat) (g : Bool) (hg : o.guard = some (j, g)) (hw : waits o j = true) (ht : (ops.toList[j]?).bind (·.dst) = some t) (hr : look Rs j = some (eq (.bool !g))) : One P ops Q J b Rs o (eq undef) :=
  fun a w hk => by
    have := yielded_of hk hw ht hr
    rw [if_neg (by simp [Region.wanted, hg, this])]; rfl
/-- under a condition that is not decided here: the value, if it holds -/
def if_ (c : Prop) (X : Value) : Rl := ⟨fun v _ => c → v = X, fun _ _ _ h _ => h⟩
/-- a guarded operation whose guard is a letter -/
theorem one_sym {Rs : List (Nat × Rl)} {o : Oper} {X : Value} (j t : Nat) (g c : Bool) (hg : o.guard = some (j, g)) (hw : waits o j = true) (ht : (ops.toList[j]?).bind (·.dst) = some t) (hr : look Rs j = some (eq (.bool c)))
    (h : c = g → ∀ a w, Known ops J b Rs o a w → ∀ K : Act → World → Prop, (∀ v w', (if_ (c = g) X).R v w' → Below w.heap.size w w' → K (a.put o.dst v) w') → o.wp P a w K Q) : One P ops Q J b Rs o (if_ (c = g) X) :=
  fun a w hk => by
    have := yielded_of hk hw ht hr
    by_cases hc : c = g
    · rw [if_pos (by simp [Region.wanted, hg, this, hc])]; exact h hc a w hk
    · rw [if_neg (by simp [Region.wanted, hg, this, hc])]; exact fun e => absurd e hc
end
end Rg
end Go.Proofs.YtaafmfooommepaaDoor
