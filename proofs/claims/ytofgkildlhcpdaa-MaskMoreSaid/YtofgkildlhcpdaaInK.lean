/- What comes in: structs, slices, rows (joined). -/
import Derived.Test.YtofgkildlhcpdaaK7
import Derived.WideShapes
import Derived.SizedLaws
import Derived.ChangeSlices
import Derived.ChangeArms
import Derived.ChangeShapes
import Derived.DataReads
import Derived.OpenShut
/- Structs and arrays that come in by value: their cells. -/
set_option linter.unusedVariables false
namespace Go.Proofs.Ytofgkildlhcpdaa
open Go.RowKit
section
variable {P : Program} {W : World} {r : Reach} {base : Nat}
theorem open_cells {t : TypeId} {ts : List TypeId} {n : Nat} {v : Value} (ha : (P.underlying t).map (fun d => match d with | .struct _ => true | .array _ _ => true | _ => false) = some true) (hc : P.cellsOf t = n) (hts : P.cellTypes P.depth t = some ts) (hn : ts.length = n)
    (h : Value.okWide P W r base t v) : ∃ cs : Array Value, v = .agg cs ∧ cs.size = n ∧ ∀ (i : Nat) (u : TypeId) (x : Value), ts[i]? = some u → cs[i]? = some x → Cell.okWide P W r base u x := by
  have h' : ∃ cs, v = .agg cs ∧ cs.size = P.cellsOf t ∧ Row.okWide P W r base t cs := by
    unfold Value.okWide at h
    obtain ⟨d, hd, hx⟩ := Option.map_eq_some_iff.1 ha
    rw [hd] at h
    cases d <;> simp at hx <;> exact h
  obtain ⟨cs, rfl, hs, ts', hts', _, hall⟩ := h'
  obtain rfl : ts = ts' := by rw [hts] at hts'; exact Option.some.inj hts'
  refine ⟨cs, rfl, hs.trans hc, fun i u x hu hx => ?_⟩
  obtain ⟨u', hu', hok⟩ := hall i x hx
  have hi : i < ts.length := (List.getElem?_eq_some_iff.1 hu).1
  rw [Nat.mod_eq_of_lt hi] at hu'
  rw [hu] at hu'; cases hu'; exact hok
theorem cell_int {u : TypeId} {k : IntKind} {x : Value} (hu : P.underlying u = some (.int k)) (h : Cell.okWide P W r base u x) : ∃ a, x = .int k a ∧ (Lit.int k a).wf = true := by
  unfold Cell.okWide at h; rw [hu] at h
  cases x <;> simp [Cell.ok, hu] at h
  obtain ⟨rfl, hw⟩ := h
  exact ⟨_, rfl, by simpa [Lit.wf, IntKind.has] using hw⟩
theorem cell_bool {u : TypeId} {x : Value} (hu : P.underlying u = some .bool) (h : Cell.okWide P W r base u x) : ∃ a, x = .bool a := by
  unfold Cell.okWide at h; rw [hu] at h
  cases x <;> simp [Cell.ok, hu] at h
  exact ⟨_, rfl⟩
theorem cell_string {u : TypeId} {x : Value} (hu : P.underlying u = some .string) (h : Cell.okWide P W r base u x) : ∃ a, x = .string a := by
  unfold Cell.okWide at h; rw [hu] at h
  cases x <;> simp [Cell.ok, hu] at h
  exact ⟨_, rfl⟩
theorem cell_slice {u e : TypeId} {x : Value} (hu : P.underlying u = some (.slice e)) (h : Cell.okWide P W r base u x) : ∃ a l c, x = .slice a l c := by
  unfold Cell.okWide at h; rw [hu] at h
  cases x <;> simp [Cell.ok, hu] at h
  exact ⟨_, _, _, rfl⟩
end
/-- four cells -/
theorem cells4 {cs : Array Value} (h : cs.size = 4) : ∃ a b c d, cs = #[a, b, c, d] ∧ cs[0]? = some a ∧ cs[1]? = some b ∧ cs[2]? = some c ∧ cs[3]? = some d := by
  obtain ⟨l⟩ := cs
  match l, h with
  | [a, b, c, d], _ => exact ⟨a, b, c, d, rfl, rfl, rfl, rfl, rfl⟩
theorem cells6 {cs : Array Value} (h : cs.size = 6) : ∃ a b c d e f, cs = #[a, b, c, d, e, f] ∧ cs[0]? = some a ∧ cs[1]? = some b ∧ cs[2]? = some c ∧ cs[3]? = some d ∧ cs[4]? = some e ∧ cs[5]? = some f := by
  obtain ⟨l⟩ := cs
  match l, h with
  | [a, b, c, d, e, f], _ => exact ⟨a, b, c, d, e, f, rfl, rfl, rfl, rfl, rfl, rfl, rfl⟩
end Go.Proofs.Ytofgkildlhcpdaa
/- Slices that come in: how long they may be; their elements' cells. -/
namespace Go.Proofs.Ytofgkildlhcpdaa
open Go.RowKit Go.ChangeShapes Go.WideShapes
section
variable {H : Type} {enc : TypeId × Value → H} {P : Program} {W : World} {base : Nat} {spare : Nat → Bool} {held : Bool} {t e : TypeId}
/-- what is read of a slice: nil, or so many elements, each of so many cells, each of which can be read -/
theorem open_slice {a : Option Addr} {len cap : Nat} {d : DataW H} {ps : List MemPlace} {ts : List TypeId} {ds : List (DataW H)} {j : Nat}
    (hsz : (DataW.weightsEach P ts ds).all (· ≤ reachBytes) = true) (ht : ts[j]? = some t) (hd : ds[j]? = some d) (hu : P.underlying t = some (.slice e)) {B : Nat} (hB : P.bytesOf e = B)
    (h : DataW.Trod enc P W base spare held t (.slice a len cap) d ps) :
    (a = none ∧ len = 0 ∧ cap = 0) ∨ ∃ (x : Addr) (el : List (DataW H × List MemPlace)) (n : Nat), a = some x ∧ len ≤ cap ∧ cap ≤ maxLen ∧ len * B ≤ 140737488351232 ∧ el.length = len ∧
      ∀ i, i < len → (W.cells? base (x.add (i * P.cellsOf e)) (P.cellsOf e)).bind (DataW.trod enc P W base spare held n e) = el[i]? := by
  obtain ⟨fuel, hf⟩ := h
  rcases DataW.trod_slice hu hf with ⟨hcs, _⟩ | ⟨x, l, c, elems, rest, n, _, hcs, hx, _, hl, hm, hlen, hel, _, _⟩
  · simp [Value.cells] at hcs
    exact .inl hcs
  · simp [Value.cells] at hcs
    obtain ⟨rfl, rfl, rfl⟩ := hcs
    obtain ⟨hx, _⟩ := Prod.mk.inj hx
    subst hx
    have z := sized_slice hsz ht hd hu
    rw [hB] at z
    simp only [List.length_map] at z
    refine .inr ⟨x, elems, n, rfl, hl, hm, ?_, hlen, hel⟩
    exact Nat.le_trans (Nat.mul_le_mul_right _ (by omega)) z
end
end Go.Proofs.Ytofgkildlhcpdaa
/- Slices whose elements are structs, or arrays, of one-cell fields: their rows. -/
set_option linter.unusedVariables false
namespace Go.Proofs.Ytofgkildlhcpdaa
open Go.RowKit Go.ChangeShapes Go.WideShapes
/-- a slice of rows of n cells each, that is read -/
def RdRows (w : World) (v : Value) (n : Nat) (rows : List (List Value)) : Prop :=
  (rows = [] ∧ ∃ a c, v = .slice a 0 c) ∨ ∃ b off cap, v = .slice (some ⟨b, off, none⟩) rows.length cap ∧ rows.length ≤ cap ∧ rows.length * n ≤ 140737488355328 ∧
    (∀ j r, rows[j]? = some r → ∀ i, i < n → w.cell? ⟨b, off + j * n + i, none⟩ = r[i]?) ∧ (∀ r ∈ rows, r.length = n)
section
variable {H : Type} {enc : TypeId × Value → H} {P : Program} {W : World} {base : Nat} {spare : Nat → Bool} {held : Bool} {t e : TypeId}
theorem open_rows {a : Option Addr} {len cap n : Nat} {d : DataW H} {ps : List MemPlace} {ts : List TypeId} {ds : List (DataW H)} {j : Nat}
    (hsz : (DataW.weightsEach P ts ds).all (· ≤ reachBytes) = true) (ht : ts[j]? = some t) (hd : ds[j]? = some d) (hu : P.underlying t = some (.slice e)) {B : Nat} (hB : P.bytesOf e = B) (hn : P.cellsOf e = n) (hn0 : 0 < n) (hBn : n ≤ B)
    (h : DataW.Trod enc P W base spare held t (.slice a len cap) d ps) :
    ∃ rows : List (List Value), rows.length = len ∧ RdRows W (.slice a len cap) n rows ∧ ∀ r ∈ rows, ∃ m y, DataW.trod enc P W base spare held m e r = some y := by
  rcases open_slice hsz ht hd hu hB h with ⟨rfl, rfl, rfl⟩ | ⟨x, el, m, rfl, hl, hm, hb, hlen, hel⟩
  · exact ⟨[], rfl, .inl ⟨rfl, _, _, rfl⟩, by simp⟩
  rw [hn] at hel
  have hcell : ∀ i, i < len → ∃ cs y, W.cells? base (x.add (i * n)) n = some cs ∧ DataW.trod enc P W base spare held m e cs = some y := by
    intro i hi
    have h1 := hel i hi
    have h2 : el[i]? = some (el[i]'(by omega)) := List.getElem?_eq_getElem _
    rw [h2] at h1
    obtain ⟨cs, hcs, hy⟩ := Option.bind_eq_some_iff.1 h1
    exact ⟨cs, _, hcs, hy⟩
  refine ⟨(List.range len).map (fun i => (W.cells? base (x.add (i * n)) n).getD []), by simp, ?_, ?_⟩
  · rcases Nat.eq_zero_or_pos len with h0 | h0
    · subst h0; exact .inl ⟨rfl, _, _, rfl⟩
    have hx : ∃ b off, x = ⟨b, off, none⟩ := by
      obtain ⟨cs, y, hcs, _⟩ := hcell 0 h0
      obtain ⟨_, hcl, hc⟩ := World.cells?_some hcs
      have h1 := hc 0 hn0
      rw [List.getElem?_eq_getElem (by omega)] at h1
      obtain ⟨b, off, sp⟩ := x
      cases sp with
      | none => exact ⟨b, off, rfl⟩
      | some s =>
        exfalso
        have e1 : ((⟨b, off, some s⟩ : Addr).add (0 * n)).add 0 = ⟨b, off, some s⟩ := by unfold Addr.add; simp
        rw [e1] at h1
        unfold World.cell? at h1
        split at h1
        · simp at h1
        · cases h1
    obtain ⟨b, off, rfl⟩ := hx
    refine .inr ⟨b, off, cap, by simp, by simpa using hl, ?_, ?_, ?_⟩
    · have : len * n ≤ len * B := Nat.mul_le_mul_left _ hBn
      simp; omega
    · intro j r hr i hi
      have hj : j < len := by have := (List.getElem?_eq_some_iff.1 hr).1; simpa using this
      obtain ⟨cs, y, hcs, _⟩ := hcell j hj
      obtain ⟨_, _, hc⟩ := World.cells?_some hcs
      have h1 := hc i hi
      have e1 : ((⟨b, off, none⟩ : Addr).add (j * n)).add i = ⟨b, off + j * n + i, none⟩ := by
        have hadd : ∀ (o k : Nat), (⟨b, o, none⟩ : Addr).add k = ⟨b, o + k, none⟩ := fun o k => by unfold Addr.add; split <;> simp_all
        rw [hadd, hadd]
      rw [e1] at h1
      rw [h1]
      simp [hj, hcs] at hr
      rw [hr]
    · intro r hr
      simp only [List.mem_map, List.mem_range] at hr
      obtain ⟨j, hj, rfl⟩ := hr
      obtain ⟨cs, y, hcs, _⟩ := hcell j hj
      rw [hcs]; exact (World.cells?_some hcs).2.1
  · intro r hr
    simp only [List.mem_map, List.mem_range] at hr
    obtain ⟨j, hj, rfl⟩ := hr
    obtain ⟨cs, y, hcs, hy⟩ := hcell j hj
    exact ⟨m, y, by rw [hcs]; exact hy⟩
/-- a field of one cell of a struct's row -/
theorem field_of {fs : Array Field} {m i : Nat} {f : Field} {r : List Value} {y : DataW H × List MemPlace} (hu : P.underlying e = some (.struct fs)) (hi : fs[i]? = some f) (ho : f.offset = i) (hc : P.cellsOf f.type = 1) (hr : i < r.length)
    (h : DataW.trod enc P W base spare held m e r = some y) : ∃ v m' z, r[i]? = some v ∧ DataW.trod enc P W base spare held m' f.type [v] = some z := by
  obtain ⟨xs, n, _, _, _, hlen, hall⟩ := DataW.trod_struct hu h
  have h1 := hall i f hi
  rw [ho, hc] at h1
  have hix : i < xs.length := by rw [hlen]; exact (Array.getElem?_eq_some_iff.1 hi).1
  rw [List.getElem?_eq_getElem hix, List.drop_eq_getElem_cons hr] at h1
  exact ⟨r[i], n, _, List.getElem?_eq_getElem hr, h1⟩
/-- an element of one cell of an array's row -/
theorem item_of {k n m i : Nat} {u : TypeId} {r : List Value} {y : DataW H × List MemPlace} (hu : P.underlying e = some (.array n u)) (hi : i < n) (hc : P.cellsOf u = 1) (hr : i < r.length)
    (h : DataW.trod enc P W base spare held m e r = some y) : ∃ v m' z, r[i]? = some v ∧ DataW.trod enc P W base spare held m' u [v] = some z := by
  obtain ⟨xs, n', _, _, _, hlen, hall⟩ := DataW.trod_array hu h
  have h1 := hall i hi
  rw [hc] at h1
  have hix : i < xs.length := by omega
  rw [List.getElem?_eq_getElem hix, Nat.mul_one, List.drop_eq_getElem_cons hr] at h1
  exact ⟨r[i], n', _, List.getElem?_eq_getElem hr, h1⟩
theorem trod_int1 {u : TypeId} {k : IntKind} {m : Nat} {v : Value} {z : DataW H × List MemPlace} (hu : P.underlying u = some (.int k)) (h : DataW.trod enc P W base spare held m u [v] = some z) : ∃ n, v = .int k n ∧ (Lit.int k n).wf = true := by
  obtain ⟨n, hv, _, hw⟩ := DataW.trod_int hu h
  exact ⟨n, by simpa using hv, hw⟩
theorem trod_bool1 {u : TypeId} {m : Nat} {v : Value} {z : DataW H × List MemPlace} (hu : P.underlying u = some .bool) (h : DataW.trod enc P W base spare held m u [v] = some z) : ∃ n, v = .bool n := by
  obtain ⟨n, hv, _⟩ := DataW.trod_bool hu h
  exact ⟨n, by simpa using hv⟩
theorem trod_string1 {u : TypeId} {m : Nat} {v : Value} {z : DataW H × List MemPlace} (hu : P.underlying u = some .string) (h : DataW.trod enc P W base spare held m u [v] = some z) : ∃ s : ByteArray, v = .string s ∧ s.size ≤ maxLen := by
  obtain ⟨n, hv, _, hm⟩ := DataW.trod_string hu h
  exact ⟨n, by simpa using hv, hm⟩
end
theorem RdRows.below {W W1 : World} {v : Value} {n : Nat} {rows : List (List Value)} (h : RdRows W v n rows) (hb : Below W.heap.size W W1) : RdRows W1 v n rows := by
  rcases h with h | ⟨b, off, cap, rfl, hcap, hmax, hc, hl⟩
  · exact .inl h
  · refine .inr ⟨b, off, cap, rfl, hcap, hmax, fun j r hr i hi => ?_, hl⟩
    have h1 := hc j r hr i hi
    have hrl := hl r (List.mem_of_getElem? hr)
    rw [List.getElem?_eq_getElem (by omega)] at h1
    rw [hb.cell (World.block_lt_of_cell? W _ h1), h1, List.getElem?_eq_getElem (by omega)]
theorem rdRows_slice {w : World} {v : Value} {n : Nat} {rows : List (List Value)} (hn : 0 < n) (h : RdRows w v n rows) : ∃ A c, v = .slice A rows.length c ∧ rows.length ≤ 140737488355328 := by
  rcases h with ⟨rfl, a, c, rfl⟩ | ⟨b, off, cap, rfl, _, hm, _⟩
  · exact ⟨a, c, rfl, by simp⟩
  · refine ⟨_, cap, rfl, ?_⟩
    have : rows.length ≤ rows.length * n := Nat.le_mul_of_pos_right _ hn
    omega
end Go.Proofs.Ytofgkildlhcpdaa
