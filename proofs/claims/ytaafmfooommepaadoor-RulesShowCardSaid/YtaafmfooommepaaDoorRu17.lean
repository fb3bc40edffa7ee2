/- Rules that come in. -/
import Derived.Test.YtaafmfooommepaaDoorRu14
import Derived.Test.YtaafmfooommepaaDoorSized
import Derived.OpenShut
set_option linter.unusedVariables false
namespace Go.Proofs.YtaafmfooommepaaDoor
open Go.RowKit Go.ChangeShapes Go.WideShapes
theorem weights_mem_all {H : Type} {P : Program} {e : TypeId} : ∀ {l : List (DataW H)} {d : DataW H}, d ∈ l → ∀ n ∈ d.weights P e, n ∈ DataW.weightsAll P e l
  | d0 :: l, d, hd, n, hn => by
    simp only [DataW.weightsAll, List.mem_append]
    rcases List.mem_cons.1 hd with rfl | h
    · exact .inl hn
    · exact .inr (weights_mem_all h n hn)
theorem pick {α : Type} (n : Nat) (G : Nat → α → Prop) (h : ∀ i, i < n → ∃ r, G i r) : ∃ l : List α, l.length = n ∧ ∀ i r, l[i]? = some r → G i r := by
  induction n with
  | zero => exact ⟨[], rfl, fun i r h => by simp at h⟩
  | succ n ih =>
    obtain ⟨l, hl, hg⟩ := ih (fun i hi => h i (by omega))
    obtain ⟨r, hr⟩ := h n (by omega)
    refine ⟨l ++ [r], by simp [hl], fun i q hq => ?_⟩
    rcases Nat.lt_or_ge i l.length with h1 | h1
    · rw [List.getElem?_append_left h1] at hq; exact hg i q hq
    · have h2 := (List.getElem?_eq_some_iff.1 hq).1
      have h3 : i = l.length := by simp at h2; omega
      subst h3
      rw [List.getElem?_append_right (Nat.le_refl _)] at hq
      simp at hq
      subst hq
      rw [hl]; exact hr
theorem add_plain (b o k : Nat) : (⟨b, o, none⟩ : Addr).add k = ⟨b, o + k, none⟩ := by unfold Addr.add; split <;> simp_all
theorem fields_rule3 : ∃ f0 f1 f2 : Field, Tryd.prog.underlying 35 = some (.struct #[f0, f1, f2]) ∧ (f0.type = 9 ∧ f0.offset = 0) ∧ (f1.type = 9 ∧ f1.offset = 1) ∧ (f2.type = 4 ∧ f2.offset = 2) :=
  ⟨_, _, _, Tryd.underlying35, ⟨rfl, rfl⟩, ⟨rfl, rfl⟩, ⟨rfl, rfl⟩⟩
theorem cells_str : Tryd.prog.cellsOf 9 = 1 := by kernel_rfl
theorem cells_bool : Tryd.prog.cellsOf 4 = 1 := by kernel_rfl
theorem cells_rule : Tryd.prog.cellsOf 35 = 3 := by kernel_rfl
section
variable {H : Type} {enc : TypeId × Value → H} {W : World} {base : Nat} {spare : Nat → Bool} {held : Bool}
/-- a rule's cells, read -/
theorem open_rule {n : Nat} {cs : List Value} {x : DataW H × List MemPlace} (h : DataW.trod enc Tryd.prog W base spare held n 35 cs = some x) (hw : ∀ k ∈ x.1.weights Tryd.prog 35, k ≤ reachBytes) :
    ∃ r : Rl, cs = [.string r.name, .string r.pat, .bool r.luhn] ∧ r.name.size ≤ 140737488355328 ∧ r.pat.size ≤ 140737488355328 := by
  obtain ⟨f0, f1, f2, hu, ⟨t0, o0⟩, ⟨t1, o1⟩, ⟨t2, o2⟩⟩ := fields_rule3
  obtain ⟨xs, m, rfl, rfl, hlen, hxs, hf⟩ := DataW.trod_struct hu h
  rw [cells_rule] at hlen
  have hx3 : xs.length = 3 := hxs
  obtain ⟨c0, c1, c2, rfl⟩ : ∃ a b c, cs = [a, b, c] := by
    match cs, hlen with
    | [a, b, c], _ => exact ⟨a, b, c, rfl⟩
  obtain ⟨x0, x1, x2, rfl⟩ : ∃ a b c, xs = [a, b, c] := by
    match xs, hx3 with
    | [a, b, c], _ => exact ⟨a, b, c, rfl⟩
  have g0 := hf 0 f0 rfl
  have g1 := hf 1 f1 rfl
  have g2 := hf 2 f2 rfl
  rw [t0, o0, cells_str] at g0
  rw [t1, o1, cells_str] at g1
  rw [t2, o2, cells_bool] at g2
  obtain ⟨s0, e0, y0, -⟩ := DataW.trod_string Tryd.underlying9 g0
  obtain ⟨s1, e1, y1, -⟩ := DataW.trod_string Tryd.underlying9 g1
  obtain ⟨b2, e2, y2⟩ := DataW.trod_bool Tryd.underlying4 g2
  simp at e0 e1 e2
  subst e0 e1 e2
  have hwe : ∀ k ∈ DataW.weightsEach Tryd.prog [9, 9, 4] [x0.1, x1.1, x2.1], k ≤ reachBytes := by
    intro k hk
    apply hw
    simp only [DataW.weights, hu, List.map_cons, List.map_nil, t0, t1, t2]
    exact hk
  have hreach := reachBytes_lt
  have n0 := hwe s0.data.toList.length (DataW.weights_mem_each (j := 0) rfl rfl _ (by simp [y0, DataW.weights]))
  have n1 := hwe s1.data.toList.length (DataW.weights_mem_each (j := 1) rfl rfl _ (by simp [y1, DataW.weights]))
  have m0 : s0.data.toList.length = s0.size := by simp
  have m1 : s1.data.toList.length = s1.size := by simp
  exact ⟨⟨s0, s1, b2⟩, rfl, by show s0.size ≤ _; omega, by show s1.size ≤ _; omega⟩
theorem open_rules {t : TypeId} {a : Option Addr} {len cap : Nat} {d : DataW H} {ps : List MemPlace} {ts : List TypeId} {ds : List (DataW H)} {j : Nat}
    (hsz : (DataW.weightsEach Tryd.prog ts ds).all (· ≤ reachBytes) = true) (ht : ts[j]? = some t) (hd : ds[j]? = some d) (hu : Tryd.prog.underlying t = some (.slice 35))
    (h : DataW.Trod enc Tryd.prog W base spare held t (.slice a len cap) d ps) :
    ∃ l : List Rl, RdRl W (.slice a len cap) l ∧ (∀ r ∈ l, r.name.size ≤ 140737488355328 ∧ r.pat.size ≤ 140737488355328) ∧ l.length ≤ 140737488355328 := by
  obtain ⟨fuel, hf⟩ := h
  rcases DataW.trod_slice hu hf with ⟨hcs, _⟩ | ⟨x, l, c, elems, rest, n, _, hcs, hx, _, hl, hm, hlen, hel, _, _⟩
  · simp [Value.cells] at hcs
    obtain ⟨rfl, rfl, rfl⟩ := hcs
    exact ⟨[], .inl ⟨rfl, _, _, rfl⟩, by simp, by simp⟩
  · simp [Value.cells] at hcs
    obtain ⟨rfl, rfl, rfl⟩ := hcs
    obtain ⟨hx, _⟩ := Prod.mk.inj hx
    subst hx
    rw [cells_rule] at hel
    have z := sized_slice hsz ht hd hu
    have hbytes : Tryd.prog.bytesOf 35 = 40 := by kernel_rfl
    rw [hbytes] at z
    simp only [List.length_map] at z
    have hreach := reachBytes_lt
    have hle : len ≤ 140737488355328 := by omega
    have hG : ∀ i, i < len → ∃ r : Rl, (∃ cs, W.cells? base (x.add (i * 3)) 3 = some cs ∧ cs = [.string r.name, .string r.pat, .bool r.luhn]) ∧ r.name.size ≤ 140737488355328 ∧ r.pat.size ≤ 140737488355328 := by
      intro i hi
      have h1 := hel i hi
      have h2 : elems[i]? = some (elems[i]'(by omega)) := List.getElem?_eq_getElem _
      rw [h2] at h1
      obtain ⟨cs, hcs, hy⟩ := Option.bind_eq_some_iff.1 h1
      obtain ⟨r, e, hr⟩ := open_rule hy (fun k hk => by
        have hmem : (elems[i]'(by omega)).1 ∈ elems.map (·.1) := List.mem_map.2 ⟨_, List.getElem_mem _, rfl⟩
        have h3 := weights_mem_all (P := Tryd.prog) hmem k hk
        have h4 : k ∈ (DataW.slice (elems.map (·.1)) (rest.map (·.1))).weights Tryd.prog t := by
          simp only [DataW.weights, hu, List.mem_cons, List.mem_append]
          exact .inr (.inl h3)
        have := List.all_eq_true.1 hsz _ (DataW.weights_mem_each ht hd k h4)
        simpa using this)
      exact ⟨r, ⟨cs, hcs, e⟩, hr⟩
    obtain ⟨L, hL, hLG⟩ := pick len _ hG
    refine ⟨L, ?_, fun r hr => ?_, by omega⟩
    · rcases Nat.eq_zero_or_pos len with h0 | h0
      · subst h0
        exact .inl ⟨List.eq_nil_of_length_eq_zero hL, _, _, rfl⟩
      have hxb : ∃ b off, x = ⟨b, off, none⟩ := by
        obtain ⟨r, ⟨cs, hcs, e⟩, _⟩ := hG 0 h0
        obtain ⟨_, hcl, hc⟩ := World.cells?_some hcs
        have h1 := hc 0 (by omega)
        rw [e] at h1
        obtain ⟨b, off, sp⟩ := x
        cases sp with
        | none => exact ⟨b, off, rfl⟩
        | some s =>
          exfalso
          have e1 : ((⟨b, off, some s⟩ : Addr).add (0 * 3)).add 0 = ⟨b, off, some s⟩ := by unfold Addr.add; simp
          rw [e1] at h1
          unfold World.cell? at h1
          split at h1
          · simp at h1
          · cases h1
      obtain ⟨b, off, rfl⟩ := hxb
      refine .inr ⟨b, off, cap, by rw [hL], by omega, fun i r hi => ?_⟩
      obtain ⟨⟨cs, hcs, rfl⟩, _⟩ := hLG i r hi
      obtain ⟨_, hcl, hc⟩ := World.cells?_some hcs
      have c0 := hc 0 (by omega)
      have c1 := hc 1 (by omega)
      have c2 := hc 2 (by omega)
      rw [add_plain, add_plain] at c0 c1 c2
      exact ⟨c0, c1, c2⟩
    · obtain ⟨i, hi⟩ := List.mem_iff_getElem?.1 hr
      exact (hLG i r hi).2
end
end Go.Proofs.YtaafmfooommepaaDoor
