/- Rules in memory; the names that came up. -/
import Derived.Test.YtaafmfooommepaaDoorRu4
import Derived.Test.YtaafmfooommepaaDoorRu6
import Derived.Test.YtaafmfooommepaaDoorMapF
set_option linter.unusedVariables false
set_option linter.unusedSimpArgs false
namespace Go.Proofs.YtaafmfooommepaaDoor
open Go.RowKit
def rlL (r : Rl) : List Value := [.string r.name, .string r.pat, .bool r.luhn]
def flatR (l : List Rl) : List Value := l.flatMap rlL
theorem rlL_len (r : Rl) : (rlL r).length = 3 := rfl
theorem flatR_cons (r : Rl) (l : List Rl) : flatR (r :: l) = rlL r ++ flatR l := rfl
theorem flatR_len (l : List Rl) : (flatR l).length = l.length * 3 := by
  induction l with
  | nil => rfl
  | cons x l ih => rw [flatR_cons, List.length_append, ih, rlL_len, List.length_cons]; omega
theorem flatR_snoc (l : List Rl) (x : Rl) : flatR (l ++ [x]) = flatR l ++ rlL x := by
  unfold flatR; rw [List.flatMap_append]; simp
theorem flatR_get (l : List Rl) : ∀ (j : Nat) (r : Rl), l[j]? = some r → ∀ i, i < 3 → (flatR l)[j * 3 + i]? = (rlL r)[i]? := by
  induction l with
  | nil => intro j r hj; simp at hj
  | cons f l ih =>
    intro j r hj i hi
    rw [flatR_cons]
    cases j with
    | zero =>
      simp at hj
      subst hj
      rw [List.getElem?_append_left (by rw [rlL_len]; omega)]; simp
    | succ j =>
      rw [List.getElem?_append_right (by rw [rlL_len]; omega), rlL_len, show (j + 1) * 3 + i - 3 = j * 3 + i from by omega]
      exact ih j r (by simpa using hj) i hi
theorem rl_one (x : Rl) : ∀ y ∈ rlL x, y.oneCell' = true := by
  intro y hy
  unfold rlL at hy
  simp at hy
  rcases hy with rfl | rfl | rfl <;> rfl
theorem infoRule : (Tryd.prog.info? 35).map (fun i => (i.zero, i.size, i.bytes)) = some (some (.agg #[.string ByteArray.empty, .string ByteArray.empty, .bool false]), 3, 40) := by kernel_rfl
/-- rules read in memory, in a block from B on -/
def RulesAt (B : Nat) (w : World) (v : Value) (l : List Rl) : Prop := (l = [] ∧ v = .slice none 0 0) ∨ ∃ g c, B ≤ g ∧ v = .slice (some ⟨g, 0, none⟩) l.length c ∧ l.length ≤ c ∧
  ∀ (j : Nat) (r : Rl), l[j]? = some r → w.cell? ⟨g, j * 3, none⟩ = some (.string r.name) ∧ w.cell? ⟨g, j * 3 + 1, none⟩ = some (.string r.pat) ∧ w.cell? ⟨g, j * 3 + 2, none⟩ = some (.bool r.luhn)
theorem rulesAt_own {w : World} {base : Nat} {v : Value} {l : List Rl} (h : w.ownsRow base 35 3 v l.length (flatR l)) : RulesAt base w v l := by
  obtain ⟨hl, h⟩ := h
  rcases h with ⟨rfl, h0⟩ | ⟨g, cap, cur, rfl, hb, hh, hnc, hcm, hcs, hct⟩
  · exact .inl ⟨List.eq_nil_of_length_eq_zero h0, rfl⟩
  · refine .inr ⟨g, cap, hb, rfl, by omega, fun j r hj => ?_⟩
    have hc : ∀ i, i < 3 → w.cell? ⟨g, j * 3 + i, none⟩ = (rlL r)[i]? := fun i hi => by
      have h1 := flatR_get l j r hj i hi
      rw [← hct, List.getElem?_take] at h1
      have hlen := rlL_len r
      split at h1
      · rw [← h1]; simp [World.cell?, hh]
      · rw [List.getElem?_eq_getElem (by omega)] at h1; cases h1
    exact ⟨hc 0 (by omega), hc 1 (by omega), hc 2 (by omega)⟩
theorem RulesAt.below {B : Nat} {w w' : World} {v : Value} {l : List Rl} (h : RulesAt B w v l) (hb : Below w.heap.size w w') : RulesAt B w' v l := by
  rcases h with h | ⟨g, c, h0, h1, h2, h3⟩
  · exact .inl h
  · have hk : ∀ (i : Nat) (u : Value), w.cell? ⟨g, i, none⟩ = some u → w'.cell? ⟨g, i, none⟩ = some u := fun i u hu => (hb.cell (World.block_lt_of_cell? _ _ hu)).trans hu
    exact .inr ⟨g, c, h0, h1, h2, fun j r hj => by obtain ⟨a1, a2, a3⟩ := h3 j r hj; exact ⟨hk _ _ a1, hk _ _ a2, hk _ _ a3⟩⟩
theorem RulesAt.lower {B B' : Nat} {w : World} {v : Value} {l : List Rl} (h : RulesAt B w v l) (hB : B' ≤ B) : RulesAt B' w v l := by
  rcases h with h | ⟨g, c, h0, h1, h2, h3⟩
  · exact .inl h
  · exact .inr ⟨g, c, by omega, h1, h2, h3⟩
/-! ### the names that came up, as a map -/
def seenF (out : List Rl) : Lit → Option Int
  | .string k => if k ∈ out.map (fun x => x.name.data.toList) then some 1 else none
  | _ => none
theorem seenF_yes {out : List Rl} {n : ByteArray} (h : ∃ x ∈ out, x.name = n) : seenF out (.string n.data.toList) = some 1 := by
  obtain ⟨x, hx, rfl⟩ := h
  exact if_pos (List.mem_map.2 ⟨x, hx, rfl⟩)
theorem seenF_no {out : List Rl} {n : ByteArray} (h : ∀ x ∈ out, x.name ≠ n) : seenF out (.string n.data.toList) = none := by
  refine if_neg fun hm => ?_
  obtain ⟨x, hx, e⟩ := List.mem_map.1 hm
  exact h x hx (WideShapes.bytes_inj e)
theorem seenF_put (out : List Rl) (r : Rl) : ∀ k, WideAt.IsKeyLit k → putF (seenF out) (.string r.name.data.toList) 1 k = seenF (out ++ [r]) k := by
  intro k hk
  by_cases e : k = .string r.name.data.toList
  · subst e
    rw [putF_same hk, seenF_yes ⟨r, by simp, rfl⟩]
  · rw [putF_other e]
    cases k with
    | string b =>
      have hb : b ≠ r.name.data.toList := fun h => e (by rw [h])
      unfold seenF
      simp [hb]
    | _ => rfl
theorem seenF_nil : seenF [] = fun _ => none := by
  funext k
  cases k <;> rfl
theorem zeroInt (w : World) : (zeroValue 3).run Tryd.prog w = .ok (.int .i64 0) w := by kernel_rfl
theorem keyedS : Maps.Keyed Tryd.prog 9 := Maps.string_keyed Tryd.underlying9
theorem keyS (s : ByteArray) (h : s.size ≤ 1000) : keyOf Tryd.prog 9 (.string s) = some (.string s.data.toList) :=
  WideMaps.keyOf_string_mk (P := Tryd.prog) (k := 9) (s := s) Tryd.underlying9 (by unfold maxLen; omega)
theorem wf_small (s : Nat) (h : s ≤ 256) : (Lit.int .i64 (s : Int)).wf = true := by
  simp [Lit.wf, IntKind.min, IntKind.max, IntKind.signed, IntKind.bits]; omega
/-- an error with a place -/
def spotV (b : Nat) : Value := .iface 40 (.pointer (some ⟨b, 0, none⟩))
/-- what the program's Parse leaves -/
def ParseX (s : ByteArray) (w : World) (e : Ending) (w' : World) : Prop :=
  Below w.heap.size w w' ∧ ∃ R, RuRes s R ∧ match R with
    | .ok out => ∃ v, e = .returned (.tuple #[v, .nilIface]) ∧ RulesAt w.heap.size w' v out
    | .no c x => ∃ b, e = .returned (.tuple #[.slice none 0 0, spotV b]) ∧ AtG w' b 43 #[.int .i64 (x : Int), .int .i64 c]
/-- what the reference's Rules leaves -/
def RulesR (s : ByteArray) (w : World) (e : Ending) (w' : World) : Prop :=
  Below w.heap.size w w' ∧ ∃ R, RuRes s R ∧ match R with
    | .ok out => ∃ v, e = .returned (.tuple #[v, .int .i64 0, .int .i64 0]) ∧ RulesAt w.heap.size w' v out
    | .no c x => e = .returned (.tuple #[.slice none 0 0, .int .i64 c, .int .i64 (x : Int)])
end Go.Proofs.YtaafmfooommepaaDoor
