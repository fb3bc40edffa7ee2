/- As XReg, with one operation among them (number s) that writes to memory that was there (Es): before it Jp holds, and what the others leave stays behind it. -/
import Derived.Test.YtklpjlcphikfaaaReg
set_option linter.unusedVariables false
namespace Go.Proofs.Ytklpjlcphikfaaa
open Go.RowKit
namespace RgS
open Rg (Rl eq any waits isDst dstsOk edgesOk Fin dst_lt isDst_of dst_ne edge_lt unl countP_upd unl_set all_of_ready ready_of_unl fin_of Num look_spec if_)
section
variable (P : Program) (ops : Array Oper) (Q : Exit → Act → World → Prop) (J Jp : World → Prop) (Es : World → World → Prop) (s : Nat) (b : Act)
/-- what is known when o comes up -/
structure Known (Rs : List (Nat × Rl)) (o : Oper) (a : Act) (w : World) : Prop where
  j : J w
  base : ∀ t x, isDst ops.toList t = false → b.tmps.toList[t]? = some x → a.tmps[t]? = some x
  dep : ∀ i t r, waits o i = true → (ops.toList[i]?).bind (·.dst) = some t → Rg.look Rs i = some r → ∃ v, a.tmps[t]? = some v ∧ r.R v w
  far : ∀ n i t r, Rg.waitsFar ops.toList n o i = true → (ops.toList[i]?).bind (·.dst) = some t → Rg.look Rs i = some r → ∃ v, a.tmps[t]? = some v ∧ r.R v w
/-- o, by itself -/
def One (sp : Bool) (Rs : List (Nat × Rl)) (o : Oper) (r : Rl) : Prop :=
  ∀ a w, Known ops J b Rs o a w → (sp = true → Jp w) →
    if Region.wanted o (yielded ops a.tmps) = true then ∀ K : Act → World → Prop, (∀ v w', r.R v w' → (sp = false → Below w.heap.size w w') → (sp = true → Es w w') → K (a.put o.dst v) w') → o.wp P a w K Q else r.R undef w
/-- one operation behind the other -/
def Build : Nat → List Oper → List (Nat × Rl) → Prop
  | _, [], Rs => ∀ w, J w → Fin Q b.defers ops.toList (Rs.reverse.map (·.2)) b.tmps.toList w
  | n, o :: l, Rs => ∃ r : Rl, One P ops Q J Jp Es b (n == s) Rs o r ∧ ((n == s) = false → ∀ v w w', r.R v w → Es w w' → r.R v w') ∧ Build (n + 1) l ((n, r) :: Rs)
end
section
variable {P : Program} {ops : Array Oper} {Q : Exit → Act → World → Prop} {J Jp : World → Prop} {Es : World → World → Prop} {s : Nat} {b : Act}
/-- what holds between two operations -/
structure Inv (ops : Array Oper) (J Jp : World → Prop) (s : Nat) (b : Act) (Rs : List Rl) (listed : Array Bool) (a : Act) (w : World) : Prop where
  j : J w
  pre : listed.getD s false = false → Jp w
  defers : a.defers = b.defers
  size : a.tmps.size = b.tmps.size
  base : ∀ t, isDst ops.toList t = false → a.tmps[t]? = b.tmps[t]?
  closed : ∀ (i : Nat) (o : Oper) (e : Edge), ops.toList[i]? = some o → listed.getD i false = true → e ∈ o.after → Region.binds .any e = true → listed.getD e.on false = true
  dep : ∀ (i : Nat) (o : Oper) (t : Nat) (r : Rl), ops[i]? = some o → o.dst = some t → listed.getD i false = true → Rs[i]? = some r → ∃ v, a.tmps[t]? = some v ∧ r.R v w
theorem Inv.put {Rs : List Rl} {listed : Array Bool} {a : Act} {w w' : World} {i : Nat} {o : Oper} {r : Rl} {v : Value} (hd : dstsOk b.tmps.size ops.toList = true) (stJ : ∀ w w', J w → Below w.heap.size w w' → J w') (stJs : ∀ w w', J w → Es w w' → J w') (stP : ∀ w w', Jp w → Below w.heap.size w w' → Jp w')
    (stR : ∀ (k : Nat) (q : Rl), Rs[k]? = some q → (k == s) = false → ∀ v w w', q.R v w → Es w w' → q.R v w')
    (h : Inv ops J Jp s b Rs listed a w) (ho : ops[i]? = some o) (hr : Rs[i]? = some r) (hv : r.R v w') (hb : (i == s) = false → Below w.heap.size w w') (hbs : (i == s) = true → Es w w') (hs : listed.size = ops.size) (hdep : ∀ e ∈ o.after, Region.binds .any e = true → listed.getD e.on false = true) : Inv ops J Jp s b Rs (listed.setIfInBounds i true) (a.put o.dst v) w' := by
  have ho' : ops.toList[i]? = some o := by simpa using ho
  refine ⟨?_, ?_, ?_, ?_, ?_, Rg.closed_set h.closed ho' hdep, ?_⟩
  · cases hi : (i == s) with
    | true => exact stJs _ _ h.j (hbs hi)
    | false => exact stJ _ _ h.j (hb hi)
  · intro hl
    cases hi : (i == s) with
    | true =>
      have : i = s := by simpa using hi
      subst this
      have hlt : i < listed.size := by rw [hs]; exact (Array.getElem?_eq_some_iff.1 ho).1
      simp [Array.getElem?_setIfInBounds_self_of_lt hlt] at hl
    | false =>
      have hne : i ≠ s := by simpa using hi
      have : (listed.setIfInBounds i true).getD s false = listed.getD s false := by simp [Array.getElem?_setIfInBounds_ne hne]
      rw [this] at hl
      exact stP _ _ (h.pre hl) (hb hi)
  · cases hd : o.dst <;> simp [Act.put, h.defers]
  · cases hd : o.dst <;> simp [Act.put, h.size]
  · intro t ht
    cases hod : o.dst with
    | none => simpa [Act.put] using h.base t ht
    | some d =>
      have hne : d ≠ t := fun e => by subst e; rw [isDst_of ho' hod] at ht; cases ht
      simpa [Act.put, Array.getElem?_setIfInBounds_ne hne] using h.base t ht
  · intro k p t q hp hpd hl hs'
    by_cases hki : k = i
    · subst hki
      obtain rfl : o = p := by rw [ho] at hp; exact Option.some.inj hp
      obtain rfl : r = q := by rw [hr] at hs'; exact Option.some.inj hs'
      have hlt : t < a.tmps.size := by rw [h.size]; exact dst_lt hd k o t ho' hpd
      refine ⟨v, ?_, hv⟩
      simp [Act.put, hpd, Array.getElem?_setIfInBounds_self_of_lt hlt]
    · have hl' : listed.getD k false = true := by
        have : (listed.setIfInBounds i true).getD k false = listed.getD k false := by simp [Array.getElem?_setIfInBounds_ne (Ne.symm hki)]
        rw [this] at hl; exact hl
      obtain ⟨u, hu, hru⟩ := h.dep k p t q hp hpd hl' hs'
      refine ⟨u, ?_, ?_⟩
      · cases hod : o.dst with
        | none => simpa [Act.put] using hu
        | some d =>
          have hne : d ≠ t := fun e => hki (by subst e; exact (dst_ne hd i k o p d ho' (by simpa using hp) hod hpd).symm)
          simpa [Act.put, Array.getElem?_setIfInBounds_ne hne] using hu
      · cases hi : (i == s) with
        | true =>
          have his : i = s := by simpa using hi
          refine stR k q hs' ?_ _ _ _ hru (hbs hi)
          rw [beq_eq_false_iff_ne]; exact fun e => hki (e.trans his.symm)
        | false => exact q.st _ _ _ hru (hb hi)
theorem run {Rs : List Rl} (hd : dstsOk b.tmps.size ops.toList = true) (he : edgesOk 0 ops.toList = true) (stJ : ∀ w w', J w → Below w.heap.size w w' → J w') (stJs : ∀ w w', J w → Es w w' → J w') (stP : ∀ w w', Jp w → Below w.heap.size w w' → Jp w')
    (stR : ∀ (k : Nat) (q : Rl), Rs[k]? = some q → (k == s) = false → ∀ v w w', q.R v w → Es w w' → q.R v w') (hlen : Rs.length = ops.size)
    (one : ∀ (i : Nat) (o : Oper) (r : Rl), ops[i]? = some o → Rs[i]? = some r → ∃ Ls : List (Nat × Rl), (∀ j q, Rg.look Ls j = some q → Rs[j]? = some q) ∧ One P ops Q J Jp Es b (i == s) Ls o r)
    (fin : ∀ a w listed, Inv ops J Jp s b Rs listed a w → (∀ i, i < ops.size → listed.getD i false = true) → Q .normal a w) :
    ∀ fuel listed a w, listed.size = ops.size → unl ops.size listed = fuel → Inv ops J Jp s b Rs listed a w → wpAny P .any ops Q fuel listed a w
  | 0, listed, a, w, hs, hu, h => ⟨ready_of_unl hu, fin a w listed h (all_of_ready he (ready_of_unl hu) hs)⟩
  | fuel + 1, listed, a, w, hs, hu, h => by
    refine ⟨fun hr => fin a w listed h (all_of_ready he hr hs), fun i hi => ?_⟩
    obtain ⟨h1, o, ho, hdep⟩ := mem_ready.1 hi
    have hlt : i < ops.size := (Array.getElem?_eq_some_iff.1 ho).1
    obtain ⟨r, hr⟩ : ∃ r, Rs[i]? = some r := ⟨_, List.getElem?_eq_getElem (hlen ▸ hlt)⟩
    have hu' := unl_set (i := i) hs h1
    obtain ⟨Ls, hLs, hone⟩ := one i o r ho hr
    have hk : Known ops J b Ls o a w := by
      refine ⟨h.j, fun t x ht hx => by rw [h.base t ht]; simpa using hx, fun j t q hj ht hrs => ?_, fun n j t q hj ht hrs => ?_⟩
      rotate_left
      · obtain ⟨p, hp, hpt⟩ := Option.bind_eq_some_iff.1 ht
        exact h.dep j p t q (by simpa using hp) hpt (Rg.waitsFar_spec h.closed hj hdep) (hLs _ _ hrs)
      obtain ⟨p, hp, hpt⟩ := Option.bind_eq_some_iff.1 ht
      unfold waits at hj; rw [List.any_eq_true] at hj
      obtain ⟨e, hem, hej⟩ := hj
      simp only [Bool.and_eq_true, beq_iff_eq] at hej
      obtain ⟨hbind, rfl⟩ := hej
      exact h.dep e.on p t q (by simpa using hp) hpt (hdep e (by simpa using hem) hbind) (hLs _ _ hrs)
    have hpre : (i == s) = true → Jp w := fun hi' => by
      have his : i = s := by simpa using hi'
      subst his
      refine h.pre ?_
      have hl : i < listed.size := hs ▸ hlt
      simp [hl] at h1 ⊢; exact h1
    have hon := hone a w hk hpre
    unfold wpOp
    simp only [ho]
    split
    · rename_i hw
      rw [if_pos hw] at hon
      exact .inl (hon _ fun v w' hv hb hbs => run hd he stJ stJs stP stR hlen one fin fuel _ _ _ (by simpa using hs) (by omega) (h.put hd stJ stJs stP stR ho hr hv hb hbs hs hdep))
    · rename_i hw
      rw [if_neg hw] at hon
      refine run hd he stJ stJs stP stR hlen one fin fuel _ _ _ (by simpa using hs) (by omega) ?_
      -- nothing was done: as an operation that writes nothing
      refine ⟨h.j, fun hl => h.pre ?_, ?_, ?_, ?_, Rg.closed_set h.closed (by simpa using ho) hdep, ?_⟩
      · by_cases his : i = s
        · subst his
          have hl2 : i < listed.size := hs ▸ hlt
          simp [Array.getElem?_setIfInBounds_self_of_lt hl2] at hl
        · have : (listed.setIfInBounds i true).getD s false = listed.getD s false := by simp [Array.getElem?_setIfInBounds_ne his]
          rw [this] at hl; exact hl
      · cases hd : o.dst <;> simp [Act.put, h.defers]
      · cases hd : o.dst <;> simp [Act.put, h.size]
      · intro t ht
        have ho' : ops.toList[i]? = some o := by simpa using ho
        cases hod : o.dst with
        | none => simpa [Act.put] using h.base t ht
        | some d =>
          have hne : d ≠ t := fun e => by subst e; rw [isDst_of ho' hod] at ht; cases ht
          simpa [Act.put, Array.getElem?_setIfInBounds_ne hne] using h.base t ht
      · intro k p t q hp hpd hl hs'
        have ho' : ops.toList[i]? = some o := by simpa using ho
        by_cases hki : k = i
        · subst hki
          obtain rfl : o = p := by rw [ho] at hp; exact Option.some.inj hp
          obtain rfl : r = q := by rw [hr] at hs'; exact Option.some.inj hs'
          have hlt : t < a.tmps.size := by rw [h.size]; exact dst_lt hd k o t ho' hpd
          exact ⟨undef, by simp [Act.put, hpd, Array.getElem?_setIfInBounds_self_of_lt hlt], hon⟩
        · have hl' : listed.getD k false = true := by
            have : (listed.setIfInBounds i true).getD k false = listed.getD k false := by simp [Array.getElem?_setIfInBounds_ne (Ne.symm hki)]
            rw [this] at hl; exact hl
          obtain ⟨u, hu, hru⟩ := h.dep k p t q hp hpd hl' hs'
          refine ⟨u, ?_, hru⟩
          cases hod : o.dst with
          | none => simpa [Act.put] using hu
          | some d =>
            have hne : d ≠ t := fun e => hki (by subst e; exact (dst_ne hd i k o p d ho' (by simpa using hp) hod hpd).symm)
            simpa [Act.put, Array.getElem?_setIfInBounds_ne hne] using hu
theorem build_spec : ∀ (l : List Oper) (n : Nat) (Rs : List (Nat × Rl)), Num Rs → Rs.length = n → (∀ (k : Nat) (q : Rl), (Rs.reverse.map (·.2))[k]? = some q → (k == s) = false → ∀ v w w', q.R v w → Es w w' → q.R v w') → Build P ops Q J Jp Es s b n l Rs →
    ∃ rs : List Rl, rs.length = l.length ∧ (∀ (k : Nat) (q : Rl), (Rs.reverse.map (·.2) ++ rs)[k]? = some q → (k == s) = false → ∀ v w w', q.R v w → Es w w' → q.R v w') ∧
      (∀ (i : Nat) (o : Oper) (r : Rl), l[i]? = some o → rs[i]? = some r → ∃ Ls : List (Nat × Rl), (∀ j q, Rg.look Ls j = some q → (Rs.reverse.map (·.2) ++ rs)[j]? = some q) ∧ One P ops Q J Jp Es b (n + i == s) Ls o r) ∧ (∀ w, J w → Fin Q b.defers ops.toList (Rs.reverse.map (·.2) ++ rs) b.tmps.toList w)
  | [], n, Rs, _, _, hst, h => ⟨[], rfl, by simpa using hst, by simp, by simpa [Build] using h⟩
  | o :: l, n, Rs, hn, hl, hst, ⟨r, h1, hq, h2⟩ => by
    have hst' : ∀ (k : Nat) (q : Rl), (((n, r) :: Rs).reverse.map (·.2))[k]? = some q → (k == s) = false → ∀ v w w', q.R v w → Es w w' → q.R v w' := by
      intro k q hk hks
      rw [List.reverse_cons, List.map_append] at hk
      by_cases hkl : k < Rs.length
      · rw [List.getElem?_append_left (by simpa using hkl)] at hk; exact hst k q hk hks
      · rw [List.getElem?_append_right (by simpa using hkl)] at hk
        have hk0 : k = n := by
          have := (List.getElem?_eq_some_iff.1 hk).1
          simp at this; omega
        subst hk0
        simp [hl] at hk
        subst hk
        exact hq hks
    obtain ⟨rs, hlen, hsts, ho, hf⟩ := build_spec l (n + 1) ((n, r) :: Rs) ⟨hl.symm, hn⟩ (by simp [hl]) hst' h2
    have e : ((n, r) :: Rs).reverse.map (·.2) ++ rs = Rs.reverse.map (·.2) ++ (r :: rs) := by simp
    rw [e] at ho hf hsts
    refine ⟨r :: rs, by simp [hlen], hsts, ?_, hf⟩
    intro i p q hp hs
    cases i with
    | zero =>
      obtain rfl : o = p := by simpa using hp
      obtain rfl : r = q := by simpa using hs
      refine ⟨Rs, fun j q hj => ?_, h1⟩
      have := look_spec hn j q hj
      rw [List.getElem?_append_left (List.getElem?_eq_some_iff.1 this).1]; exact this
    | succ i =>
      have := ho i p q (by simpa using hp) (by simpa using hs)
      rw [show n + 1 + i = n + (i + 1) from by omega] at this
      exact this
/-- A REGION THAT DRAWS ITS ORDER, one operation of it writing to what was there. -/
theorem wp_region_each {id : Nat} {w : World} (hm : P.follows .mixedOrders = true) (s : Nat) (J Jp : World → Prop) (Es : World → World → Prop) (stJ : ∀ w w', J w → Below w.heap.size w w' → J w') (stJs : ∀ w w', J w → Es w w' → J w') (stP : ∀ w w', Jp w → Below w.heap.size w w' → Jp w')
    (hd : dstsOk b.tmps.toList.length ops.toList = true) (he : edgesOk 0 ops.toList = true) (hJ : J w) (hP : Jp w) (h : Build P ops Q J Jp Es s b 0 ops.toList []) : (Code.region id ops true).wp P Q b w := by
  obtain ⟨rs, hl, hst, ho, hf⟩ := build_spec _ 0 [] trivial rfl (by simp) h
  simp only [List.reverse_nil, List.map_nil, List.nil_append, Nat.zero_add] at ho hf hst
  refine wp_region_any hm ?_
  have hd' : dstsOk b.tmps.size ops.toList = true := by simpa using hd
  have hl' : rs.length = ops.size := by simpa using hl
  refine run (Rs := rs) hd' he stJ stJs stP hst hl' (fun i o r hio hr => ho i o r (by simpa using hio) hr) (fun a w' listed hi hall => ?_) ops.size _ b w.drew (by simp) ?_ ?_
  · refine fin_of (D := b.defers) hi.defers ops.toList rs b.tmps.toList hd (by simpa using hl.symm) (by simpa using hi.size) (fun t ht => by rw [hi.base t ht]; simp) (fun i o t r hio hot hr => ?_) (hf w' hi.j)
    have hio' : ops[i]? = some o := by simpa using hio
    exact hi.dep i o t r hio' hot (hall i (Array.getElem?_eq_some_iff.1 hio').1) hr
  · unfold unl
    rw [List.countP_eq_length.2]
    · simp
    · intro i hi; rw [List.mem_range] at hi; simp [hi]
  · refine ⟨stJ _ _ hJ (Below.refl _ _).drew, fun _ => stP _ _ hP (Below.refl _ _).drew, rfl, rfl, fun _ _ => rfl, fun i o e hio hl _ _ => ?_, fun i o t r hio _ hl _ => ?_⟩
    · have hlt : i < ops.size := by simpa using (List.getElem?_eq_some_iff.1 hio).1
      simp [hlt] at hl
    have hlt : i < ops.size := (Array.getElem?_eq_some_iff.1 hio).1
    simp [hlt] at hl
theorem build_cons {n m : Nat} {o : Oper} {l : List Oper} {Rs : List (Nat × Rl)} {r : Rl} (h : One P ops Q J Jp Es b (n == s) Rs o r) (h2 : Build P ops Q J Jp Es s b m l ((n, r) :: Rs)) (hm : m = n + 1) (hq : (n == s) = false → ∀ v w w', r.R v w → Es w w' → r.R v w') : Build P ops Q J Jp Es s b n (o :: l) Rs := by subst hm; exact ⟨r, h, hq, h2⟩
theorem build_end {n : Nat} {Rs : List (Nat × Rl)} (h : ∀ w, J w → Fin Q b.defers ops.toList (Rs.reverse.map (·.2)) b.tmps.toList w) : Build P ops Q J Jp Es s b n [] Rs := h
/-- an operation without a guard -/
theorem one_plain {sp : Bool} {Rs : List (Nat × Rl)} {o : Oper} {r : Rl} (hs : sp = false) (hg : o.guard = none)
    (h : ∀ a w, Known ops J b Rs o a w → ∀ K : Act → World → Prop, (∀ v w', r.R v w' → Below w.heap.size w w' → K (a.put o.dst v) w') → o.wp P a w K Q) : One P ops Q J Jp Es b sp Rs o r :=
  fun a w hk _ => by rw [if_pos (by simp [Region.wanted, hg])]; exact fun K hK => h a w hk K fun v w' hr hb => hK v w' hr (fun _ => hb) (fun e => by rw [hs] at e; cases e)
/-- the one that writes -/
theorem one_spec {sp : Bool} {Rs : List (Nat × Rl)} {o : Oper} {r : Rl} (hs : sp = true) (hg : o.guard = none)
    (h : ∀ a w, Known ops J b Rs o a w → Jp w → ∀ K : Act → World → Prop, (∀ v w', r.R v w' → Es w w' → K (a.put o.dst v) w') → o.wp P a w K Q) : One P ops Q J Jp Es b sp Rs o r :=
  fun a w hk hp => by rw [if_pos (by simp [Region.wanted, hg])]; exact fun K hK => h a w hk (hp hs) K fun v w' hr hb => hK v w' hr (fun e => by rw [hs] at e; cases e) (fun _ => hb)
theorem yielded_of {Rs : List (Nat × Rl)} {o : Oper} {a : Act} {w : World} (hk : Known ops J b Rs o a w) {j t : Nat} {g : Bool} (hw : waits o j = true) (ht : (ops.toList[j]?).bind (·.dst) = some t) (hr : Rg.look Rs j = some (eq (.bool g))) : yielded ops a.tmps j = some g := by
  obtain ⟨v, hv, rfl⟩ := hk.dep j t _ hw ht hr
  have ht' : (ops[j]?).bind (·.dst) = some t := by simpa using ht
  unfold yielded; rw [ht']; simp [hv]
/-- a guarded operation that is wanted -/
theorem one_yes {sp : Bool} {Rs : List (Nat × Rl)} {o : Oper} {r : Rl} (j t : Nat) (g : Bool) (hs : sp = false) (hg : o.guard = some (j, g)) (hw : waits o j = true) (ht : (ops.toList[j]?).bind (·.dst) = some t) (hr : Rg.look Rs j = some (eq (.bool g)))
    (h : ∀ a w, Known ops J b Rs o a w → ∀ K : Act → World → Prop, (∀ v w', r.R v w' → Below w.heap.size w w' → K (a.put o.dst v) w') → o.wp P a w K Q) : One P ops Q J Jp Es b sp Rs o r :=
  fun a w hk _ => by rw [if_pos (by simp [Region.wanted, hg, yielded_of hk hw ht hr])]; exact fun K hK => h a w hk K fun v w' hr hb => hK v w' hr (fun _ => hb) (fun e => by rw [hs] at e; cases e)
theorem one_spec_yes {sp : Bool} {Rs : List (Nat × Rl)} {o : Oper} {r : Rl} (j t : Nat) (g : Bool) (hs : sp = true) (hg : o.guard = some (j, g)) (hw : waits o j = true) (ht : (ops.toList[j]?).bind (·.dst) = some t) (hr : Rg.look Rs j = some (eq (.bool g)))
    (h : ∀ a w, Known ops J b Rs o a w → Jp w → ∀ K : Act → World → Prop, (∀ v w', r.R v w' → Es w w' → K (a.put o.dst v) w') → o.wp P a w K Q) : One P ops Q J Jp Es b sp Rs o r :=
  fun a w hk hp => by rw [if_pos (by simp [Region.wanted, hg, yielded_of hk hw ht hr])]; exact fun K hK => h a w hk (hp hs) K fun v w' hr hb => hK v w' hr (fun e => by rw [hs] at e; cases e) (fun _ => hb)
/-- one that is not -/
theorem one_no {sp : Bool} {Rs : List (Nat × Rl)} {o : Oper} (j t : Nat) (g : Bool) (hg : o.guard = some (j, g)) (hw : waits o j = true) (ht : (ops.toList[j]?).bind (·.dst) = some t) (hr : Rg.look Rs j = some (eq (.bool !g))) : One P ops Q J Jp Es b sp Rs o (eq undef) :=
  fun a w hk _ => by
    have := yielded_of hk hw ht hr
    rw [if_neg (by simp [Region.wanted, hg, this])]; rfl
/-- a guarded operation whose guard is a letter -/
theorem one_sym {sp : Bool} {Rs : List (Nat × Rl)} {o : Oper} {X : Value} (j t : Nat) (g c : Bool) (hs : sp = false) (hg : o.guard = some (j, g)) (hw : waits o j = true) (ht : (ops.toList[j]?).bind (·.dst) = some t) (hr : Rg.look Rs j = some (eq (.bool c)))
    (h : c = g → ∀ a w, Known ops J b Rs o a w → ∀ K : Act → World → Prop, (∀ v w', (if_ (c = g) X).R v w' → Below w.heap.size w w' → K (a.put o.dst v) w') → o.wp P a w K Q) : One P ops Q J Jp Es b sp Rs o (if_ (c = g) X) :=
  fun a w hk _ => by
    have := yielded_of hk hw ht hr
    by_cases hc : c = g
    · rw [if_pos (by simp [Region.wanted, hg, this, hc])]; exact fun K hK => h hc a w hk K fun v w' hr hb => hK v w' hr (fun _ => hb) (fun e => by rw [hs] at e; cases e)
    · rw [if_neg (by simp [Region.wanted, hg, this, hc])]; exact fun e => absurd e hc
end
end RgS
end Go.Proofs.Ytklpjlcphikfaaa
