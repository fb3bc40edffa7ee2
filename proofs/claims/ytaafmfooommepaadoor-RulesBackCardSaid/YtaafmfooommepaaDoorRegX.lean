/- A region that draws its order, each operation by itself; what an operation leaves, and what held at the start, may lapse when another one comes up (a store, an append in place, a call that writes). -/
import Derived.Test.YtaafmfooommepaaDoorReg
set_option linter.unusedVariables false
namespace Go.Proofs.YtaafmfooommepaaDoor
open Go.RowKit
namespace RgX
open Rg (isDst dstsOk edgesOk waitsFar reach dst_lt isDst_of dst_ne edge_lt unl unl_set all_of_ready ready_of_unl closed_set waitsFar_spec reach_spec)
/-- a condition on a value, that lapses when number exp comes up (none: never) -/
structure Rl where
  R : Value → Value → World → Prop
  exp : Option Nat
  /-- the number whose value is R's second one -/
  see : Option Nat
def eq (X : Value) : Rl := ⟨fun v _ _ => v = X, none, none⟩
theorem mk {X u : Value} {w : World} : (eq X).R X u w := rfl
/-- a condition on the value alone -/
def rl (R : Value → World → Prop) (exp : Option Nat) : Rl := ⟨fun v _ w => R v w, exp, none⟩
def Sees (l : List Oper) (tm : Array Value) : Option Nat → Value → Prop
  | none, u => u = undef
  | some j, u => ∃ t, (l[j]?).bind (·.dst) = some t ∧ tm[t]? = some u
/-- a condition on the world, that lapses when number exp comes up -/
structure Fc where
  F : World → Prop
  exp : Option Nat
def alive (listed : Array Bool) : Option Nat → Prop
  | none => True
  | some x => listed.getD x false = false
/-- does it still hold when o, number i, comes up? -/
def holds (l : List Oper) (n i : Nat) : Option Nat → Bool
  | none => true
  | some x => x == i || reach l n x i
/-- number i never comes up while it holds -/
def Off (l : List Oper) (i : Nat) (x : Option Nat) : Prop := ∃ y m, x = some y ∧ reach l m i y = true
/-- number i has come up ahead of number k -/
def Past (l : List Oper) (k i : Nat) : Prop := ∃ m, reach l m k i = true
def look : List (Nat × Rl) → Nat → Option Rl
  | [], _ => none
  | (k, r) :: l, j => if k == j then some r else look l j
section
variable (P : Program) (ops : Array Oper) (Q : Exit → Act → World → Prop) (E : Nat → World → World → Prop) (Fs : List Fc) (b : Act)
structure Known (Rs : List (Nat × Rl)) (i : Nat) (o : Oper) (a : Act) (w : World) : Prop where
  fact : ∀ (k n : Nat) f, Fs[k]? = some f → holds ops.toList n i f.exp = true → f.F w
  base : ∀ t x, isDst ops.toList t = false → b.tmps.toList[t]? = some x → a.tmps[t]? = some x
  dep : ∀ n j t r, waitsFar ops.toList n o j = true → (ops.toList[j]?).bind (·.dst) = some t → look Rs j = some r → ∃ v, a.tmps[t]? = some v ∧ (∀ m u, holds ops.toList m i r.exp = true → Sees ops.toList a.tmps r.see u → r.R v u w)
  depN : ∀ n j p r, waitsFar ops.toList n o j = true → ops.toList[j]? = some p → p.dst = none → look Rs j = some r → ∀ m u, holds ops.toList m i r.exp = true → Sees ops.toList a.tmps r.see u → r.R undef u w
def One (Rs : List (Nat × Rl)) (i : Nat) (o : Oper) (r : Rl) : Prop :=
  ∀ a w, Known ops Fs b Rs i o a w →
    if Region.wanted o (yielded ops a.tmps) = true then ∀ K : Act → World → Prop, (∀ v w', (o.dst = none → v = undef) → (∀ u, Sees ops.toList a.tmps r.see u → r.R v u w') → E i w w' → K (a.put o.dst v) w') → o.wp P a w K Q else ∀ u, Sees ops.toList a.tmps r.see u → r.R undef u w
/-- what every operation leaves alone -/
def Keep (i : Nat) (F : World → Prop) : Prop := ∀ w w', F w → E i w w' → F w'
def Fin (D : List Deferred) : List Oper → List Rl → List Value → World → Prop
  | [], [], base, w => Q .normal ⟨base.toArray, D⟩ w
  | o :: os, r :: rs, base, w => match o.dst with
    | some d => ∀ v, (r.exp = none → ∀ u, Sees ops.toList base.toArray r.see u → r.R v u w) → Fin D os rs (base.set d v) w
    | none => (r.exp = none → ∀ u, Sees ops.toList base.toArray r.see u → r.R undef u w) → Fin D os rs base w
  | _, _, _, _ => False
def Build : Nat → List Oper → List (Nat × Rl) → Prop
  | _, [], Rs => ∀ w, (∀ f ∈ Fs, f.exp = none → f.F w) → Fin ops Q b.defers ops.toList (Rs.reverse.map (·.2)) b.tmps.toList w
  | n, o :: l, Rs => ∃ r : Rl, One P ops Q E Fs b Rs n o r ∧ (∀ i, i < ops.size → i ≠ n → r.exp ≠ some i → ¬ Off ops.toList i r.exp → ¬ Past ops.toList n i → ∀ v u, Keep E i (r.R v u)) ∧ (∀ j, r.see = some j → ∃ m, waitsFar ops.toList m o j = true) ∧ Build (n + 1) l ((n, r) :: Rs)
end
section
variable {P : Program} {ops : Array Oper} {Q : Exit → Act → World → Prop} {E : Nat → World → World → Prop} {Fs : List Fc} {b : Act}
structure Inv (ops : Array Oper) (Fs : List Fc) (b : Act) (Rs : List Rl) (listed : Array Bool) (a : Act) (w : World) : Prop where
  fact : ∀ f ∈ Fs, alive listed f.exp → f.F w
  defers : a.defers = b.defers
  size : a.tmps.size = b.tmps.size
  base : ∀ t, isDst ops.toList t = false → a.tmps[t]? = b.tmps[t]?
  closed : ∀ (i : Nat) (o : Oper) (e : Edge), ops.toList[i]? = some o → listed.getD i false = true → e ∈ o.after → Region.binds .any e = true → listed.getD e.on false = true
  dep : ∀ (i : Nat) (o : Oper) (t : Nat) (r : Rl), ops[i]? = some o → o.dst = some t → listed.getD i false = true → Rs[i]? = some r → ∃ v, a.tmps[t]? = some v ∧ (alive listed r.exp → ∀ u, Sees ops.toList a.tmps r.see u → r.R v u w)
  depN : ∀ (i : Nat) (o : Oper) (r : Rl), ops[i]? = some o → o.dst = none → listed.getD i false = true → Rs[i]? = some r → alive listed r.exp → ∀ u, Sees ops.toList a.tmps r.see u → r.R undef u w
theorem alive_of_set {listed : Array Bool} {i : Nat} {x : Option Nat} (hi : i < listed.size) (h : alive (listed.setIfInBounds i true) x) : alive listed x ∧ x ≠ some i := by
  cases x with
  | none => exact ⟨trivial, by simp⟩
  | some x =>
    simp only [alive] at h ⊢
    by_cases hx : i = x
    · subst hx; simp [Array.getElem?_setIfInBounds_self_of_lt hi] at h
    · have : (listed.setIfInBounds i true).getD x false = listed.getD x false := by simp [Array.getElem?_setIfInBounds_ne hx]
      rw [this] at h
      exact ⟨h, fun e => hx (Option.some.inj e).symm⟩
theorem getD_other {listed : Array Bool} {i k : Nat} (h : i ≠ k) : (listed.setIfInBounds i true).getD k false = listed.getD k false := by simp [Array.getElem?_setIfInBounds_ne h]
theorem Inv.put {Rs : List Rl} {listed : Array Bool} {a : Act} {w w' : World} {i : Nat} {o : Oper} {r : Rl} {v : Value} (hd : dstsOk b.tmps.size ops.toList = true)
    (stF : ∀ f ∈ Fs, ∀ i, i < ops.size → f.exp ≠ some i → ¬ Off ops.toList i f.exp → Keep E i f.F) (stR : ∀ (k : Nat) (q : Rl), Rs[k]? = some q → ∀ i, i < ops.size → i ≠ k → q.exp ≠ some i → ¬ Off ops.toList i q.exp → ¬ Past ops.toList k i → ∀ v u, Keep E i (q.R v u))
    (see : ∀ (k : Nat) (p : Oper) (q : Rl) (j : Nat), ops[k]? = some p → Rs[k]? = some q → q.see = some j → ∃ m, waitsFar ops.toList m p j = true) (hil' : listed.getD i false = false)
    (h : Inv ops Fs b Rs listed a w) (ho : ops[i]? = some o) (hr : Rs[i]? = some r) (hv : ∀ u, Sees ops.toList a.tmps r.see u → r.R v u w') (hvn : o.dst = none → v = undef) (hb : E i w w' ∨ w' = w) (hs : listed.size = ops.size) (hdep : ∀ e ∈ o.after, Region.binds .any e = true → listed.getD e.on false = true) :
    Inv ops Fs b Rs (listed.setIfInBounds i true) (a.put o.dst v) w' := by
  have ho' : ops.toList[i]? = some o := by simpa using ho
  have hio : i < ops.size := (Array.getElem?_eq_some_iff.1 ho).1
  have hil : i < listed.size := by omega
  have notPast : ∀ k, listed.getD k false = true → ¬ Past ops.toList k i := by
    rintro k hk ⟨m, hm⟩
    have := reach_spec h.closed m k i hm hk
    rw [hil'] at this; cases this
  have notOff : ∀ x : Option Nat, alive listed x → ¬ Off ops.toList i x := by
    rintro x ha ⟨y, m, rfl, hm⟩
    simp only [alive] at ha
    cases m with
    | zero => simp [reach] at hm
    | succ m =>
      unfold reach at hm
      rw [ho'] at hm
      have := waitsFar_spec h.closed (n := m) (o := o) (j := y) hm hdep
      rw [this] at ha; cases ha
  have move : ∀ F : World → Prop, (E i w w' → Keep E i F) → F w → F w' := fun F hk hF => by
    rcases hb with hb | rfl
    · exact hk hb _ _ hF hb
    · exact hF
  have back : ∀ (k : Nat) (p : Oper) (q : Rl) (u : Value), ops[k]? = some p → Rs[k]? = some q → (listed.getD k false = true ∨ k = i) → Sees ops.toList (a.put o.dst v).tmps q.see u → Sees ops.toList a.tmps q.see u := by
    intro k p q u hp hq hk hs
    cases hsee : q.see with
    | none => rw [hsee] at hs; exact hs
    | some j =>
      rw [hsee] at hs
      obtain ⟨m, hm⟩ := see k p q j hp hq hsee
      have hjl : listed.getD j false = true := by
        refine waitsFar_spec h.closed hm ?_
        rcases hk with hk | rfl
        · exact fun e he hb => h.closed k p e (by simpa using hp) hk he hb
        · obtain rfl : o = p := by rw [ho] at hp; exact Option.some.inj hp
          exact hdep
      have hji : j ≠ i := fun e => by subst e; rw [hil'] at hjl; cases hjl
      obtain ⟨t, ht, hu⟩ := hs
      refine ⟨t, ht, ?_⟩
      obtain ⟨pj, hpj, hpt⟩ := Option.bind_eq_some_iff.1 ht
      cases hod : o.dst with
      | none => simpa [Act.put, hod] using hu
      | some d =>
        have hne : d ≠ t := fun e => hji (by subst e; exact dst_ne hd j i pj o d hpj ho' hpt hod)
        simpa [Act.put, hod, Array.getElem?_setIfInBounds_ne hne] using hu
  refine ⟨fun f hf ha => ?_, ?_, ?_, ?_, closed_set h.closed ho' hdep, ?_, ?_⟩
  · obtain ⟨ha1, ha2⟩ := alive_of_set hil ha
    exact move _ (fun _ => stF f hf i hio ha2 (notOff _ ha1)) (h.fact f hf ha1)
  · cases hd : o.dst <;> simp [Act.put, h.defers]
  · cases hd : o.dst <;> simp [Act.put, h.size]
  · intro t ht
    cases hod : o.dst with
    | none => simpa [Act.put] using h.base t ht
    | some d =>
      have hne : d ≠ t := fun e => by subst e; rw [isDst_of ho' hod] at ht; cases ht
      simpa [Act.put, Array.getElem?_setIfInBounds_ne hne] using h.base t ht
  · intro k p t q hp hpd hl hs'
    by_cases hki : k = i
    · subst hki
      obtain rfl : o = p := by rw [ho] at hp; exact Option.some.inj hp
      obtain rfl : r = q := by rw [hr] at hs'; exact Option.some.inj hs'
      have hlt : t < a.tmps.size := by rw [h.size]; exact dst_lt hd k o t ho' hpd
      exact ⟨v, by simp [Act.put, hpd, Array.getElem?_setIfInBounds_self_of_lt hlt], fun _ u hs => hv u (back k o r u ho hr (.inr rfl) hs)⟩
    · rw [getD_other (Ne.symm hki)] at hl
      obtain ⟨u, hu, hru⟩ := h.dep k p t q hp hpd hl hs'
      refine ⟨u, ?_, fun ha u2 hs2 => ?_⟩
      · cases hod : o.dst with
        | none => simpa [Act.put] using hu
        | some d =>
          have hne : d ≠ t := fun e => hki (by subst e; exact (dst_ne hd i k o p d ho' (by simpa using hp) hod hpd).symm)
          simpa [Act.put, Array.getElem?_setIfInBounds_ne hne] using hu
      · obtain ⟨ha1, ha2⟩ := alive_of_set hil ha
        exact move _ (fun _ => stR k q hs' i hio (Ne.symm hki) ha2 (notOff _ ha1) (notPast k hl) u u2) (hru ha1 u2 (back k p q u2 hp hs' (.inl hl) hs2))
  · intro k p q hp hpd hl hs' ha u hsu
    obtain ⟨ha1, ha2⟩ := alive_of_set hil ha
    by_cases hki : k = i
    · subst hki
      obtain rfl : o = p := by rw [ho] at hp; exact Option.some.inj hp
      obtain rfl : r = q := by rw [hr] at hs'; exact Option.some.inj hs'
      have := hv u (back k o r u ho hr (.inr rfl) hsu)
      rw [hvn hpd] at this; exact this
    · rw [getD_other (Ne.symm hki)] at hl
      exact move _ (fun _ => stR k q hs' i hio (Ne.symm hki) ha2 (notOff _ ha1) (notPast k hl) undef u) (h.depN k p q hp hpd hl hs' ha1 u (back k p q u hp hs' (.inl hl) hsu))
theorem holds_alive {l : List Oper} {listed : Array Bool} (hc : ∀ (i : Nat) (o : Oper) (e : Edge), l[i]? = some o → listed.getD i false = true → e ∈ o.after → Region.binds .any e = true → listed.getD e.on false = true)
    {n i : Nat} (hi : listed.getD i false = false) {x : Option Nat} (h : holds l n i x = true) : alive listed x := by
  cases x with
  | none => trivial
  | some x =>
    simp only [holds, Bool.or_eq_true, beq_iff_eq] at h
    simp only [alive]
    cases hx : listed.getD x false with
    | false => rfl
    | true =>
      rcases h with rfl | h
      · rw [hi] at hx; cases hx
      · have := reach_spec hc n x i h hx
        rw [hi] at this; cases this
theorem run {Rs : List Rl} (hd : dstsOk b.tmps.size ops.toList = true) (he : edgesOk 0 ops.toList = true)
    (stF : ∀ f ∈ Fs, ∀ i, i < ops.size → f.exp ≠ some i → ¬ Off ops.toList i f.exp → Keep E i f.F) (stR : ∀ (k : Nat) (q : Rl), Rs[k]? = some q → ∀ i, i < ops.size → i ≠ k → q.exp ≠ some i → ¬ Off ops.toList i q.exp → ¬ Past ops.toList k i → ∀ v u, Keep E i (q.R v u)) (see : ∀ (k : Nat) (p : Oper) (q : Rl) (j : Nat), ops[k]? = some p → Rs[k]? = some q → q.see = some j → ∃ m, waitsFar ops.toList m p j = true) (hlen : Rs.length = ops.size)
    (one : ∀ (i : Nat) (o : Oper) (r : Rl), ops[i]? = some o → Rs[i]? = some r → ∃ Ls : List (Nat × Rl), (∀ j q, look Ls j = some q → Rs[j]? = some q) ∧ One P ops Q E Fs b Ls i o r)
    (fin : ∀ a w listed, Inv ops Fs b Rs listed a w → (∀ i, i < ops.size → listed.getD i false = true) → Q .normal a w) :
    ∀ fuel listed a w, listed.size = ops.size → unl ops.size listed = fuel → Inv ops Fs b Rs listed a w → wpAny P .any ops Q fuel listed a w
  | 0, listed, a, w, hs, hu, h => ⟨ready_of_unl hu, fin a w listed h (all_of_ready he (ready_of_unl hu) hs)⟩
  | fuel + 1, listed, a, w, hs, hu, h => by
    refine ⟨fun hr => fin a w listed h (all_of_ready he hr hs), fun i hi => ?_⟩
    obtain ⟨h1, o, ho, hdep⟩ := mem_ready.1 hi
    have hlt : i < ops.size := (Array.getElem?_eq_some_iff.1 ho).1
    obtain ⟨r, hr⟩ : ∃ r, Rs[i]? = some r := ⟨_, List.getElem?_eq_getElem (hlen ▸ hlt)⟩
    have hu' := unl_set (i := i) hs h1
    have h1f : listed.getD i false = false := by
      have hl : i < listed.size := hs ▸ hlt
      simp [hl] at h1 ⊢; exact h1
    obtain ⟨Ls, hLs, hone⟩ := one i o r ho hr
    have hk : Known ops Fs b Ls i o a w := by
      refine ⟨fun k n f hf hh => h.fact f (List.mem_of_getElem? hf) (holds_alive h.closed h1f hh), fun t x ht hx => by rw [h.base t ht]; simpa using hx, fun n j t q hj ht hrs => ?_, fun n j p q hj hp hpd hrs m u hm hsu => ?_⟩
      · obtain ⟨p, hp, hpt⟩ := Option.bind_eq_some_iff.1 ht
        obtain ⟨v, hv, hR⟩ := h.dep j p t q (by simpa using hp) hpt (waitsFar_spec h.closed hj hdep) (hLs _ _ hrs)
        exact ⟨v, hv, fun m u hm hs => hR (holds_alive h.closed h1f hm) u hs⟩
      · exact h.depN j p q (by simpa using hp) hpd (waitsFar_spec h.closed hj hdep) (hLs _ _ hrs) (holds_alive h.closed h1f hm) u hsu
    have hon := hone a w hk
    unfold wpOp
    simp only [ho]
    split
    · rename_i hw
      rw [if_pos hw] at hon
      exact .inl (hon _ fun v w' hvn hv hb => run hd he stF stR see hlen one fin fuel _ _ _ (by simpa using hs) (by omega) (h.put hd stF stR see h1f ho hr hv hvn (.inl hb) hs hdep))
    · rename_i hw
      rw [if_neg hw] at hon
      exact run hd he stF stR see hlen one fin fuel _ _ _ (by simpa using hs) (by omega) (h.put hd stF stR see h1f ho hr hon (fun _ => rfl) (.inr rfl) hs hdep)
theorem fin_of {D : List Deferred} {w : World} {a : Act} (hD : a.defers = D) : ∀ (os : List Oper) (rs : List Rl) (base : List Value),
    dstsOk base.length os = true → os.length = rs.length → a.tmps.size = base.length →
    (∀ t, isDst os t = false → a.tmps[t]? = base[t]?) →
    (∀ (i : Nat) (o : Oper) (t : Nat) (r : Rl), os[i]? = some o → o.dst = some t → rs[i]? = some r → ∃ v, a.tmps[t]? = some v ∧ (r.exp = none → ∀ u, Sees ops.toList a.tmps r.see u → r.R v u w)) →
    (∀ (i : Nat) (o : Oper) (r : Rl), os[i]? = some o → o.dst = none → rs[i]? = some r → r.exp = none → ∀ u, Sees ops.toList a.tmps r.see u → r.R undef u w) →
    (∀ (i : Nat) (r : Rl) (j t : Nat), rs[i]? = some r → r.see = some j → (ops.toList[j]?).bind (·.dst) = some t → isDst (os.drop i) t = false) →
    Fin ops Q D os rs base w → Q .normal a w
  | [], [], base, _, _, hs, hb, _, _, _, h => by
    have : a.tmps = base.toArray := by
      apply Array.ext_getElem?
      intro t; rw [hb t rfl]; simp
    obtain ⟨tm, df⟩ := a
    simp only at this hD
    subst this; subst hD
    exact h
  | o :: os, r :: rs, base, hd, hl, hs, hb, hr, hn, hse, h => by
    simp only [dstsOk, Bool.and_eq_true] at hd
    simp only [Fin] at h
    have fwd : ∀ u, Sees ops.toList base.toArray r.see u → Sees ops.toList a.tmps r.see u := by
      intro u hu
      cases hsee : r.see with
      | none => rw [hsee] at hu; exact hu
      | some j =>
        rw [hsee] at hu
        obtain ⟨t, ht, hv⟩ := hu
        refine ⟨t, ht, ?_⟩
        rw [hb t (by simpa using hse 0 r j t rfl hsee ht)]; simpa using hv
    have hse' : ∀ (i : Nat) (r : Rl) (j t : Nat), rs[i]? = some r → r.see = some j → (ops.toList[j]?).bind (·.dst) = some t → isDst (os.drop i) t = false := fun i q j t hq hj ht => by
      simpa using hse (i + 1) q j t (by simpa using hq) hj ht
    cases hod : o.dst with
    | none =>
      rw [hod] at h
      refine fin_of hD os rs base hd.2 (by simpa using hl) hs (fun t ht => hb t ?_) (fun i p t s hp hpd hs' => hr (i + 1) p t s (by simpa using hp) hpd (by simpa using hs')) (fun i p s hp hpd hs' => hn (i + 1) p s (by simpa using hp) hpd (by simpa using hs')) hse' (h fun hx u hu => hn 0 o r rfl hod rfl hx u (fwd u hu))
      unfold isDst at ht ⊢; rw [List.any_cons, ht]; simp [hod]
    | some d =>
      rw [hod] at h
      have hd1 := hd.1; rw [hod] at hd1; simp at hd1
      obtain ⟨v, hv, hrv⟩ := hr 0 o d r rfl hod rfl
      refine fin_of hD os rs (base.set d v) (by simpa using hd.2) (by simpa using hl) (by simpa using hs) (fun t ht => ?_) (fun i p t s hp hpd hs' => hr (i + 1) p t s (by simpa using hp) hpd (by simpa using hs')) (fun i p s hp hpd hs' => hn (i + 1) p s (by simpa using hp) hpd (by simpa using hs')) hse' (h v fun hx u hu => hrv hx u (fwd u hu))
      by_cases htd : d = t
      · subst htd; rw [hv, List.getElem?_set_self hd1.1]
      · rw [List.getElem?_set_ne htd]
        refine hb t ?_
        unfold isDst at ht ⊢; rw [List.any_cons, ht]; simp [hod, htd]
  | [], _ :: _, _, _, h, _, _, _, _, _, _ => by simp at h
  | _ :: _, [], _, _, h, _, _, _, _, _, _ => by simp at h
def Num : List (Nat × Rl) → Prop
  | [] => True
  | (k, _) :: l => k = l.length ∧ Num l
theorem look_spec : ∀ {l : List (Nat × Rl)}, Num l → ∀ j r, look l j = some r → (l.reverse.map (·.2))[j]? = some r
  | [], _, j, r, h => by simp [look] at h
  | (k, s) :: l, ⟨hk, hn⟩, j, r, h => by
    simp only [look] at h
    rw [List.reverse_cons, List.map_append]
    split at h
    · rename_i hkj
      have : k = j := by simpa using hkj
      subst this; cases h
      rw [List.getElem?_append_right (by simp [hk])]; simp [hk]
    · have := look_spec hn j r h
      rw [List.getElem?_append_left (List.getElem?_eq_some_iff.1 this).1]; exact this
theorem build_spec : ∀ (l : List Oper) (n : Nat) (Rs : List (Nat × Rl)), Num Rs → Rs.length = n →
    (∀ (k : Nat) (q : Rl), (Rs.reverse.map (·.2))[k]? = some q → ∀ i, i < ops.size → i ≠ k → q.exp ≠ some i → ¬ Off ops.toList i q.exp → ¬ Past ops.toList k i → ∀ v u, Keep E i (q.R v u)) → Build P ops Q E Fs b n l Rs →
    ∃ rs : List Rl, rs.length = l.length ∧ (∀ (k : Nat) (q : Rl), (Rs.reverse.map (·.2) ++ rs)[k]? = some q → ∀ i, i < ops.size → i ≠ k → q.exp ≠ some i → ¬ Off ops.toList i q.exp → ¬ Past ops.toList k i → ∀ v u, Keep E i (q.R v u)) ∧
      (∀ (i : Nat) (o : Oper) (r : Rl) (j : Nat), l[i]? = some o → rs[i]? = some r → r.see = some j → ∃ m, waitsFar ops.toList m o j = true) ∧
      (∀ (i : Nat) (o : Oper) (r : Rl), l[i]? = some o → rs[i]? = some r → ∃ Ls : List (Nat × Rl), (∀ j q, look Ls j = some q → (Rs.reverse.map (·.2) ++ rs)[j]? = some q) ∧ One P ops Q E Fs b Ls (n + i) o r) ∧
      (∀ w, (∀ f ∈ Fs, f.exp = none → f.F w) → Fin ops Q b.defers ops.toList (Rs.reverse.map (·.2) ++ rs) b.tmps.toList w)
  | [], n, Rs, _, _, hst, h => ⟨[], rfl, by simpa using hst, by simp, by simp, by simpa [Build] using h⟩
  | o :: l, n, Rs, hn, hl, hst, ⟨r, h1, hq, hsr, h2⟩ => by
    have hst' : ∀ (k : Nat) (q : Rl), (((n, r) :: Rs).reverse.map (·.2))[k]? = some q → ∀ i, i < ops.size → i ≠ k → q.exp ≠ some i → ¬ Off ops.toList i q.exp → ¬ Past ops.toList k i → ∀ v u, Keep E i (q.R v u) := by
      intro k q hk
      rw [List.reverse_cons, List.map_append] at hk
      by_cases hkl : k < Rs.length
      · rw [List.getElem?_append_left (by simpa using hkl)] at hk; exact hst k q hk
      · rw [List.getElem?_append_right (by simpa using hkl)] at hk
        have hk0 : k = n := by
          have := (List.getElem?_eq_some_iff.1 hk).1
          simp at this; omega
        subst hk0
        simp [hl] at hk
        subst hk
        exact hq
    obtain ⟨rs, hlen, hsts, hsee, ho, hf⟩ := build_spec l (n + 1) ((n, r) :: Rs) ⟨hl.symm, hn⟩ (by simp [hl]) hst' h2
    have e : ((n, r) :: Rs).reverse.map (·.2) ++ rs = Rs.reverse.map (·.2) ++ (r :: rs) := by simp
    rw [e] at ho hf hsts
    refine ⟨r :: rs, by simp [hlen], hsts, fun i p q j hp hs hj => ?_, ?_, hf⟩
    · cases i with
      | zero =>
        obtain rfl : o = p := by simpa using hp
        obtain rfl : r = q := by simpa using hs
        exact hsr j hj
      | succ i => exact hsee i p q j (by simpa using hp) (by simpa using hs) hj
    intro i p q hp hs
    cases i with
    | zero =>
      obtain rfl : o = p := by simpa using hp
      obtain rfl : r = q := by simpa using hs
      refine ⟨Rs, fun j q hj => ?_, h1⟩
      have := look_spec hn j q hj
      rw [List.getElem?_append_left (List.getElem?_eq_some_iff.1 this).1]; exact this
    | succ i =>
      have := ho i p q (by simpa using hp) (by simpa using hs)
      rw [show n + 1 + i = n + (i + 1) from by omega] at this
      exact this
theorem reach_lt {l : List Oper} (he : edgesOk 0 l = true) : ∀ n i j, reach l n i j = true → j < i
  | 0, i, j, h => by simp [reach] at h
  | n + 1, i, j, h => by
    unfold reach at h
    split at h
    · cases h
    · rename_i o ho
      rw [List.any_eq_true] at h
      obtain ⟨e, hem, hj⟩ := h
      simp only [Bool.and_eq_true, Bool.or_eq_true, beq_iff_eq] at hj
      have h1 := edge_lt he i o e ho (by simpa using hem) hj.1
      rcases hj.2 with rfl | h2
      · omega
      · have := reach_lt he n e.on j h2; omega
theorem waitsFar_lt {l : List Oper} (he : edgesOk 0 l = true) {n i j : Nat} {o : Oper} (ho : l[i]? = some o) (h : waitsFar l n o j = true) : j < i := by
  unfold waitsFar at h
  rw [List.any_eq_true] at h
  obtain ⟨e, hem, hj⟩ := h
  simp only [Bool.and_eq_true, Bool.or_eq_true, beq_iff_eq] at hj
  have h1 := edge_lt he i o e ho (by simpa using hem) hj.1
  rcases hj.2 with rfl | h2
  · omega
  · have := reach_lt he n e.on j h2; omega
/-- A REGION THAT DRAWS ITS ORDER: each operation by itself; E i is what number i may do to the world; each fact, and what each leaves, is kept by all numbers but the one at which it lapses. -/
theorem wp_region_each {id : Nat} {w : World} (hm : P.follows .mixedOrders = true) (E : Nat → World → World → Prop) (Fs : List Fc)
    (stF : ∀ f ∈ Fs, ∀ i, i < ops.size → f.exp ≠ some i → ¬ Off ops.toList i f.exp → Keep E i f.F)
    (hd : dstsOk b.tmps.toList.length ops.toList = true) (he : edgesOk 0 ops.toList = true) (hF : ∀ f ∈ Fs, f.F w.drew) (h : Build P ops Q E Fs b 0 ops.toList []) : (Code.region id ops true).wp P Q b w := by
  obtain ⟨rs, hl, hst, hsee, ho, hf⟩ := build_spec _ 0 [] trivial rfl (by simp) h
  simp only [List.reverse_nil, List.map_nil, List.nil_append, Nat.zero_add] at ho hf hst
  refine wp_region_any hm ?_
  have hd' : dstsOk b.tmps.size ops.toList = true := by simpa using hd
  have hl' : rs.length = ops.size := by simpa using hl
  refine run (Rs := rs) hd' he stF hst (fun k p q j hp hq hj => hsee k p q j (by simpa using hp) hq hj) hl' (fun i o r hio hr => ho i o r (by simpa using hio) hr) (fun a w' listed hi hall => ?_) ops.size _ b w.drew (by simp) ?_ ?_
  · have alv : ∀ x : Option Nat, x = none → alive listed x := fun x hx => by subst hx; trivial
    refine fin_of (D := b.defers) hi.defers ops.toList rs b.tmps.toList hd (by simpa using hl.symm) (by simpa using hi.size) (fun t ht => by rw [hi.base t ht]; simp) (fun i o t r hio hot hr => ?_) (fun i o r hio hot hr hx u hu => ?_) (fun i r j t hr hj ht => ?_) (hf w' fun f hf' hx => hi.fact f hf' (alv _ hx))
    · have hio' : ops[i]? = some o := by simpa using hio
      obtain ⟨v, hv, hR⟩ := hi.dep i o t r hio' hot (hall i (Array.getElem?_eq_some_iff.1 hio').1) hr
      exact ⟨v, hv, fun hx u hu => hR (alv _ hx) u hu⟩
    · have hio' : ops[i]? = some o := by simpa using hio
      exact hi.depN i o r hio' hot (hall i (Array.getElem?_eq_some_iff.1 hio').1) hr (alv _ hx) u hu
    · have hil : i < ops.toList.length := by rw [← hl]; exact (List.getElem?_eq_some_iff.1 hr).1
      obtain ⟨m, hm⟩ := hsee i ops.toList[i] r j (List.getElem?_eq_getElem hil) hr hj
      have hji : j < i := waitsFar_lt he (List.getElem?_eq_getElem hil) hm
      cases hd2 : isDst (ops.toList.drop i) t with
      | false => rfl
      | true =>
        exfalso
        unfold isDst at hd2; rw [List.any_eq_true] at hd2
        obtain ⟨p, hp, hpt⟩ := hd2
        obtain ⟨k, hk⟩ := List.getElem?_of_mem hp
        rw [List.getElem?_drop] at hk
        obtain ⟨q, hq, hqt⟩ := Option.bind_eq_some_iff.1 ht
        have := dst_ne hd' j (i + k) q p t hq hk hqt (by simpa using hpt)
        omega
  · unfold unl
    rw [List.countP_eq_length.2]
    · simp
    · intro i hi; rw [List.mem_range] at hi; simp [hi]
  · refine ⟨fun f hf _ => hF f hf, rfl, rfl, fun _ _ => rfl, fun i o e hio hl _ _ => ?_, fun i o t r hio _ hl _ => ?_, fun i o r hio _ hl _ _ => ?_⟩
    · have hlt : i < ops.size := by simpa using (List.getElem?_eq_some_iff.1 hio).1
      simp [hlt] at hl
    · have hlt : i < ops.size := (Array.getElem?_eq_some_iff.1 hio).1
      simp [hlt] at hl
    · have hlt : i < ops.size := (Array.getElem?_eq_some_iff.1 hio).1
      simp [hlt] at hl
/-- what the numbers do: those of a list what it says, all others make memory at most -/
def spE : List (Nat × (World → World → Prop)) → Nat → World → World → Prop
  | [], _ => fun w w' => Below w.heap.size w w'
  | (k, e) :: l, i => if k == i then e else spE l i
def PastO (os : List Oper) : Option Nat → Nat → Prop
  | none, _ => False
  | some n, i => Past os n i
def KeepL (os : List Oper) (n : Option Nat) (x : Option Nat) (F : World → Prop) : List (Nat × (World → World → Prop)) → Prop
  | [] => True
  | (k, e) :: l => (n ≠ some k → x ≠ some k → ¬ Off os k x → ¬ PastO os n k → ∀ w w', F w → e w w' → F w') ∧ KeepL os n x F l
theorem keep_sp {os : List Oper} {L : List (Nat × (World → World → Prop))} {n : Option Nat} {x : Option Nat} {F : World → Prop} (h0 : ∀ w w', F w → Below w.heap.size w w' → F w') (h : KeepL os n x F L) : ∀ i, n ≠ some i → x ≠ some i → ¬ Off os i x → ¬ PastO os n i → Keep (spE L) i F := by
  intro i hn hx hoff hp w w' hF hE
  induction L with
  | nil => exact h0 _ _ hF hE
  | cons p l ih =>
    obtain ⟨k, e⟩ := p
    simp only [spE] at hE
    split at hE
    · rename_i hk
      have : k = i := by simpa using hk
      subst this
      exact h.1 hn hx hoff hp _ _ hF hE
    · exact ih h.2 hE
theorem keep_eq {os : List Oper} {E : Nat → World → World → Prop} {X : Value} {m n : Nat} : ∀ i, i < m → i ≠ n → (eq X).exp ≠ some i → ¬ Off os i (eq X).exp → ¬ Past os n i → ∀ v u, Keep E i ((eq X).R v u) := fun _ _ _ _ _ _ _ _ _ _ h _ => h
theorem keep_r {os : List Oper} {L : List (Nat × (World → World → Prop))} {r : Rl} {m n : Nat} (h0 : ∀ v u w w', r.R v u w → Below w.heap.size w w' → r.R v u w') (h : ∀ v u, KeepL os (some n) r.exp (r.R v u) L) : ∀ i, i < m → i ≠ n → r.exp ≠ some i → ¬ Off os i r.exp → ¬ Past os n i → ∀ v u, Keep (spE L) i (r.R v u) :=
  fun i _ hn hx ho hp v u => keep_sp (h0 v u) (h v u) i (fun e => hn (Option.some.inj e).symm) hx ho hp
/-- each fact is kept -/
def KeepF (os : List Oper) (L : List (Nat × (World → World → Prop))) : List Fc → Prop
  | [] => True
  | f :: l => ((∀ w w', f.F w → Below w.heap.size w w' → f.F w') ∧ KeepL os none f.exp f.F L) ∧ KeepF os L l
theorem keep_f {os : List Oper} {L : List (Nat × (World → World → Prop))} {m : Nat} : ∀ {Fs : List Fc}, KeepF os L Fs → ∀ f ∈ Fs, ∀ i, i < m → f.exp ≠ some i → ¬ Off os i f.exp → Keep (spE L) i f.F
  | [], _, f, hf, _, _, _, _ => by cases hf
  | g :: l, h, f, hf, i, hi, hx, ho => by
    rcases List.mem_cons.1 hf with rfl | hf
    · exact keep_sp h.1.1 h.1.2 i (fun e => by cases e) hx ho (fun h => h)
    · exact keep_f h.2 f hf i hi hx ho
def AllF (w : World) : List Fc → Prop
  | [] => True
  | f :: l => f.F w ∧ AllF w l
theorem all_f {w : World} : ∀ {Fs : List Fc}, AllF w Fs → ∀ f ∈ Fs, f.F w
  | [], _, f, hf => by cases hf
  | g :: l, h, f, hf => by
    rcases List.mem_cons.1 hf with rfl | hf
    · exact h.1
    · exact all_f h.2 f hf
theorem start {id : Nat} {w : World} (hm : P.follows .mixedOrders = true) (L : List (Nat × (World → World → Prop))) (Fs : List Fc) (kf : KeepF ops.toList L Fs)
    (hd : dstsOk b.tmps.toList.length ops.toList = true) (he : edgesOk 0 ops.toList = true) (hF : AllF w.drew Fs) (h : Build P ops Q (spE L) Fs b 0 ops.toList []) : (Code.region id ops true).wp P Q b w :=
  wp_region_each hm (spE L) Fs (fun f hf i hi hx ho => keep_f kf f hf i hi hx ho) hd he (all_f hF) h
theorem build_cons {n m : Nat} {o : Oper} {l : List Oper} {Rs : List (Nat × Rl)} {r : Rl} (h : One P ops Q E Fs b Rs n o r) (h2 : Build P ops Q E Fs b m l ((n, r) :: Rs)) (hm : m = n + 1) (hq : ∀ i, i < ops.size → i ≠ n → r.exp ≠ some i → ¬ Off ops.toList i r.exp → ¬ Past ops.toList n i → ∀ v u, Keep E i (r.R v u)) (hs : ∀ j, r.see = some j → ∃ m, waitsFar ops.toList m o j = true) : Build P ops Q E Fs b n (o :: l) Rs := by subst hm; exact ⟨r, h, hq, hs, h2⟩
theorem build_end {n : Nat} {Rs : List (Nat × Rl)} (h : ∀ w, (∀ (k : Nat) f, Fs[k]? = some f → f.exp = none → f.F w) → Fin ops Q b.defers ops.toList (Rs.reverse.map (·.2)) b.tmps.toList w) : Build P ops Q E Fs b n [] Rs :=
  fun w hf => h w fun k f hk hx => hf f (List.mem_of_getElem? hk) hx
theorem fin_none {D : List Deferred} {o : Oper} {os : List Oper} {r : Rl} {rs : List Rl} {base : List Value} {w : World} (hd : o.dst = none) (h : (r.exp = none → ∀ u, Sees ops.toList base.toArray r.see u → r.R undef u w) → Fin ops Q D os rs base w) : Fin ops Q D (o :: os) (r :: rs) base w := by
  simp only [Fin, hd]; exact h
theorem fin_eq {D : List Deferred} {o : Oper} {os : List Oper} {X : Value} {rs : List Rl} {base : List Value} {w : World} {d : Nat} (hd : o.dst = some d) (h : Fin ops Q D os rs (base.set d X) w) : Fin ops Q D (o :: os) (eq X :: rs) base w := by
  simp only [Fin, hd]; intro v hv; obtain rfl : v = X := hv rfl undef rfl; exact h
theorem fin_any {D : List Deferred} {o : Oper} {os : List Oper} {r : Rl} {rs : List Rl} {base : List Value} {w : World} {d : Nat} (hd : o.dst = some d) (h : ∀ v, (r.exp = none → ∀ u, Sees ops.toList base.toArray r.see u → r.R v u w) → Fin ops Q D os rs (base.set d v) w) : Fin ops Q D (o :: os) (r :: rs) base w := by
  simp only [Fin, hd]; exact h
theorem fin_nil {D : List Deferred} {base : List Value} {w : World} (h : Q .normal ⟨base.toArray, D⟩ w) : Fin ops Q D [] [] base w := h
theorem one_plain {Rs : List (Nat × Rl)} {i : Nat} {o : Oper} {r : Rl} (hg : o.guard = none)
    (h : ∀ a w, Known ops Fs b Rs i o a w → ∀ K : Act → World → Prop, (∀ v w', (o.dst = none → v = undef) → (∀ u, Sees ops.toList a.tmps r.see u → r.R v u w') → E i w w' → K (a.put o.dst v) w') → o.wp P a w K Q) : One P ops Q E Fs b Rs i o r :=
  fun a w hk => by rw [if_pos (by simp [Region.wanted, hg])]; exact h a w hk
theorem yielded_of {Rs : List (Nat × Rl)} {i : Nat} {o : Oper} {a : Act} {w : World} (hk : Known ops Fs b Rs i o a w) {j t n : Nat} {g : Bool} (hw : waitsFar ops.toList n o j = true) (ht : (ops.toList[j]?).bind (·.dst) = some t) (hr : look Rs j = some (eq (.bool g))) : yielded ops a.tmps j = some g := by
  obtain ⟨v, hv, hR⟩ := hk.dep n j t _ hw ht hr
  obtain rfl : v = .bool g := hR 0 undef rfl rfl
  have ht' : (ops[j]?).bind (·.dst) = some t := by simpa using ht
  unfold yielded; rw [ht']; simp [hv]
theorem one_yes {Rs : List (Nat × Rl)} {i : Nat} {o : Oper} {r : Rl} (j t : Nat) (g : Bool) (hg : o.guard = some (j, g)) (hw : waitsFar ops.toList 0 o j = true) (ht : (ops.toList[j]?).bind (·.dst) = some t) (hr : look Rs j = some (eq (.bool g)))
    (h : ∀ a w, Known ops Fs b Rs i o a w → ∀ K : Act → World → Prop, (∀ v w', (o.dst = none → v = undef) → (∀ u, Sees ops.toList a.tmps r.see u → r.R v u w') → E i w w' → K (a.put o.dst v) w') → o.wp P a w K Q) : One P ops Q E Fs b Rs i o r :=
  fun a w hk => by rw [if_pos (by simp [Region.wanted, hg, yielded_of hk hw ht hr])]; exact h a w hk
theorem one_no {Rs : List (Nat × Rl)} {i : Nat} {o : Oper} (j t : Nat) (g : Bool) (hg : o.guard = some (j, g)) (hw : waitsFar ops.toList 0 o j = true) (ht : (ops.toList[j]?).bind (·.dst) = some t) (hr : look Rs j = some (eq (.bool !g))) : One P ops Q E Fs b Rs i o (eq undef) :=
  fun a w hk => by
    have := yielded_of hk hw ht hr
    rw [if_neg (by simp [Region.wanted, hg, this])]; exact fun _ _ => rfl
end
end RgX
end Go.Proofs.YtaafmfooommepaaDoor
