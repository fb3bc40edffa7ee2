/- Patterns that are built out of two, in memory; bytes that came in as a source of an append. -/
import Derived.Test.YtofgkildlhcpdaaLangMore
import Derived.Test.YtofgkildlhcpdaaInK
set_option linter.unusedVariables false
set_option linter.unusedSimpArgs false
namespace Go.Proofs.Ytofgkildlhcpdaa
open Go.RowKit Bt Go.ChangeShapes Go.WideShapes
theorem nat_two {w : World} {b : Nat} {t1 t2 : Tree} {k1 k2 : Value} (h1 : NAt w t1 k1) (h2 : NAt w t2 k2) (op : Int) (f : Nat → Bool) (mn mx : Int)
    (hb : AtG w b 29 (nodeL t1 k1 ++ nodeL t2 k2).toArray) : NAt w (.node op f mn mx [t1, t2]) (.slice (some ⟨b, 0, none⟩) 2 2) := by
  unfold NAt
  rw [KAt]
  refine .inr ⟨by simp, by simp, b, 0, 2, rfl, by simp, trivial, KRow.mk _ _ _ fun j t hj => ?_⟩
  have e1 := nodeL_len t1 k1
  have e2 := nodeL_len t2 k2
  have hc : ∀ i u, (nodeL t1 k1 ++ nodeL t2 k2)[i]? = some u → w.cell? ⟨b, i, none⟩ = some u := fun i u h => hb.cell i u (by simpa using h)
  match j, hj with
  | 0, hj =>
    simp at hj; subst hj
    refine ⟨k1, fun i hi => ?_, h1⟩
    rw [show 0 + 8 * 0 + i = i from by omega, List.getElem?_eq_getElem (by omega)]
    refine hc i _ ?_
    rw [List.getElem?_append_left (by omega), List.getElem?_eq_getElem (by omega)]
  | 1, hj =>
    simp at hj; subst hj
    refine ⟨k2, fun i hi => ?_, h2⟩
    rw [show 0 + 8 * 1 + i = 8 + i from by omega, List.getElem?_eq_getElem (by omega)]
    refine hc (8 + i) _ ?_
    rw [List.getElem?_append_right (by omega), e1, show 8 + i - 8 = i from by omega, List.getElem?_eq_getElem (by omega)]
  | j + 2, hj => simp at hj
theorem nat_one {w : World} {b : Nat} {t1 : Tree} {k1 : Value} (h1 : NAt w t1 k1) (op : Int) (f : Nat → Bool) (mn mx : Int)
    (hb : AtG w b 29 (nodeL t1 k1).toArray) : NAt w (.node op f mn mx [t1]) (.slice (some ⟨b, 0, none⟩) 1 1) := by
  unfold NAt
  rw [KAt]
  refine .inr ⟨by simp, by simp, b, 0, 1, rfl, by simp, trivial, KRow.mk _ _ _ fun j t hj => ?_⟩
  have e1 := nodeL_len t1 k1
  match j, hj with
  | 0, hj =>
    simp at hj; subst hj
    refine ⟨k1, fun i hi => ?_, h1⟩
    rw [show 0 + 8 * 0 + i = i from by omega, List.getElem?_eq_getElem (by omega)]
    exact hb.cell i _ (by simp [List.getElem?_eq_getElem (show i < (nodeL t1 k1).length by omega)])
  | j + 1, hj => simp at hj
theorem own_empty {w : World} {base g T : Nat} (h : AtG w g T #[]) (hb : base ≤ g) : w.ownsRow base T 1 (.slice (some ⟨g, 0, none⟩) 0 0) 0 [] :=
  ⟨rfl, .inr ⟨g, 0, #[], rfl, hb, h, Nat.le_refl _, by decide, rfl, rfl⟩⟩
theorem u8_one (xs : List Int) : ∀ y ∈ xs.map (Value.int .u8), y.oneCell' = true := fun y hy => by
  simp only [List.mem_map] at hy; obtain ⟨x, _, rfl⟩ := hy; rfl
/-- a slice of bytes that came in, nil having no room -/
theorem src_rdB {w : World} {v : Value} {xs : List Int} (h : RdB w v xs) (hn : ∀ c, v = .slice none 0 c → c = 0) : SrcRow w v xs.length (xs.map (Value.int .u8)) := by
  rcases h with ⟨rfl, a, c, rfl⟩ | ⟨b, off, cap, rfl, _, _, hc, _⟩
  · cases a with
    | none => obtain rfl := hn c rfl; exact .inl ⟨rfl, rfl, rfl⟩
    | some a => exact .inr ⟨a, c, rfl, fun j y hy => by simp at hy⟩
  · refine .inr ⟨⟨b, off, none⟩, cap, rfl, fun j y hy => ?_⟩
    have hj : j < xs.length := by have := (List.getElem?_eq_some_iff.1 hy).1; simpa using this
    have e1 : (⟨b, off, none⟩ : Addr).add j = ⟨b, off + j, none⟩ := by unfold Addr.add; split <;> simp_all
    rw [e1, hc j hj, ← hy]
    simp [List.getD_eq_getElem?_getD, List.getElem?_eq_getElem hj]
theorem rdB_bd {w : World} {v : Value} {xs : List Int} (h : RdB w v xs) : ∀ x ∈ xs, 0 ≤ x ∧ x ≤ 255 := fun x hx => by
  rcases h with ⟨rfl, _⟩ | ⟨b, off, cap, _, _, _, _, hb⟩
  · cases hx
  · obtain ⟨i, hi, rfl⟩ := List.getElem_of_mem hx
    have := hb i
    simpa [List.getD_eq_getElem?_getD, List.getElem?_eq_getElem hi] using this
theorem byt_app1 (xs ys : List Int) (c : Nat) (h : c < xs.length) : byt (xs ++ ys) c = byt xs c := by
  unfold byt; rw [List.getD_eq_getElem?_getD, List.getD_eq_getElem?_getD, List.getElem?_append_left h]
theorem byt_app2 (xs ys : List Int) (c : Nat) : byt (xs ++ ys) (xs.length + c) = byt ys c := by
  unfold byt; rw [List.getD_eq_getElem?_getD, List.getD_eq_getElem?_getD, List.getElem?_append_right (by omega), show xs.length + c - xs.length = c from by omega]
/-- lang.Has of patterns that are built out of others -/
theorem has_true {p : Pat} {kv bv : Value} {w : World} {xs : List Int} (hp : Wf p) (hk : ∃ a n c, kv = .slice a n c) (hn : NAt w p.tree kv) (hx : RdB w bv xs) (hl : xs.length ≤ 1000) (hm : Mt (byt xs) xs.length p 0 xs.length) :
    Calls Try.prog 11 #[nodeV p.tree kv, bv] w fun e w' => e = .returned (.bool true) ∧ Below w.heap.size w w' := by
  obtain ⟨a, n, c, rfl⟩ := hk
  refine (hasP_any p hp w a n c bv xs hn hx hl).mono ?_
  rintro e w' ⟨hb, r, rfl, hr⟩
  rw [hr.2 hm]; exact ⟨rfl, hb⟩
theorem nodeV_emp (op mn mx : Int) (l : List Tree) (kv : Value) : nodeV (.node op emp mn mx l) kv = .agg #[.int .i64 op, .int .u64 0, .int .u64 0, .int .u64 0, .int .u64 0, .int .i64 mn, .int .i64 mx, kv] := by
  unfold nodeV; dsimp only; rw [wd_emp, wd_emp, wd_emp, wd_emp]
theorem wf_two {p1 p2 : Pat} (h1 : Wf p1) (h2 : Wf p2) : ∀ p ∈ [p1, p2], Wf p := fun p hp => by
  simp at hp; rcases hp with rfl | rfl
  · exact h1
  · exact h2
section
variable {p1 p2 : Pat} {w : World} {b : Nat} {k1 k2 bv : Value} {xs ys : List Int}
theorem has_cat (hp1 : Wf p1) (hp2 : Wf p2) (m1 : Mt (byt xs) xs.length p1 0 xs.length) (m2 : Mt (byt ys) ys.length p2 0 ys.length) (h1 : NAt w p1.tree k1) (h2 : NAt w p2.tree k2) (hb : AtG w b 29 (nodeL p1.tree k1 ++ nodeL p2.tree k2).toArray)
    (hx : RdB w bv (xs ++ ys)) (hl : (xs ++ ys).length ≤ 1000) :
    Calls Try.prog 11 #[.agg #[.int .i64 2, .int .u64 0, .int .u64 0, .int .u64 0, .int .u64 0, .int .i64 0, .int .i64 0, .slice (some ⟨b, 0, none⟩) 2 2], bv] w fun e w' => e = .returned (.bool true) ∧ Below w.heap.size w w' := by
  have := has_true (p := .cat [p1, p2]) (kv := .slice (some ⟨b, 0, none⟩) 2 2) (bv := bv) (w := w) (xs := xs ++ ys) (.cat _ (wf_two hp1 hp2) (by simp) (by simp)) ⟨_, _, _, rfl⟩ (nat_two h1 h2 _ _ _ _ hb) hx hl (by
    rw [List.length_append]
    exact mt_cat2 m1 m2 (fun c h => byt_app1 xs ys c h) (fun c _ => byt_app2 xs ys c))
  rw [Pat.tree, catT, nodeV_emp] at this
  exact this
theorem has_alt (hp1 : Wf p1) (hp2 : Wf p2) (m : Mt (byt xs) xs.length p1 0 xs.length ∨ Mt (byt xs) xs.length p2 0 xs.length) (h1 : NAt w p1.tree k1) (h2 : NAt w p2.tree k2) (hb : AtG w b 29 (nodeL p1.tree k1 ++ nodeL p2.tree k2).toArray)
    (hx : RdB w bv xs) (hl : xs.length ≤ 1000) :
    Calls Try.prog 11 #[.agg #[.int .i64 3, .int .u64 0, .int .u64 0, .int .u64 0, .int .u64 0, .int .i64 0, .int .i64 0, .slice (some ⟨b, 0, none⟩) 2 2], bv] w fun e w' => e = .returned (.bool true) ∧ Below w.heap.size w w' := by
  have := has_true (p := .alt [p1, p2]) (kv := .slice (some ⟨b, 0, none⟩) 2 2) (bv := bv) (w := w) (xs := xs) (.alt _ (wf_two hp1 hp2) (by simp) (by simp)) ⟨_, _, _, rfl⟩ (nat_two h1 h2 _ _ _ _ hb) hx hl (m.elim mt_alt1 mt_alt2)
  rw [Pat.tree, altT, nodeV_emp] at this
  exact this
theorem has_rep (hp1 : Wf p1) (m : Mt (byt xs) xs.length (.rep 1 2 p1) 0 xs.length) (h1 : NAt w p1.tree k1) (hb : AtG w b 29 (nodeL p1.tree k1).toArray)
    (hx : RdB w bv xs) (hl : xs.length ≤ 1000) :
    Calls Try.prog 11 #[.agg #[.int .i64 4, .int .u64 0, .int .u64 0, .int .u64 0, .int .u64 0, .int .i64 1, .int .i64 2, .slice (some ⟨b, 0, none⟩) 1 1], bv] w fun e w' => e = .returned (.bool true) ∧ Below w.heap.size w w' := by
  have := has_true (p := .rep 1 2 p1) (kv := .slice (some ⟨b, 0, none⟩) 1 1) (bv := bv) (w := w) (xs := xs) (.rep _ _ _ hp1 (by omega) (by omega) (by omega)) ⟨_, _, _, rfl⟩ (nat_one h1 _ _ _ _ hb) hx hl m
  rw [Pat.tree, repT, nodeV_emp] at this
  exact this
theorem mt_twiceX (m1 : Mt (byt xs) xs.length p1 0 xs.length) : Mt (byt (xs ++ xs)) (xs ++ xs).length (.rep 1 2 p1) 0 (xs ++ xs).length := by
  rw [List.length_append]
  exact mt_twice m1 (fun c h => byt_app1 xs xs c h) (fun c _ => byt_app2 xs xs c)
end
section
variable {H : Type} {enc : TypeId × Value → H} {P : Program} {W : World} {base : Nat} {spare : Nat → Bool} {held : Bool} {t e : TypeId}
theorem nil_cap {len cap : Nat} {a : Option Addr} {d : DataW H} {ps : List MemPlace} {ts : List TypeId} {ds : List (DataW H)} {j : Nat}
    (hsz : (DataW.weightsEach P ts ds).all (· ≤ reachBytes) = true) (ht : ts[j]? = some t) (hd : ds[j]? = some d) (hu : P.underlying t = some (.slice e)) {B : Nat} (hB : P.bytesOf e = B)
    (h : DataW.Trod enc P W base spare held t (.slice a len cap) d ps) : ∀ c, Value.slice a len cap = .slice none 0 c → c = 0 := by
  intro c hc
  injection hc with e1 e2 e3
  subst e1; subst e2; subst e3
  rcases open_slice hsz ht hd hu hB h with ⟨_, _, h3⟩ | ⟨x, _, _, h1, _⟩
  · exact h3
  · cases h1
end
end Go.Proofs.Ytofgkildlhcpdaa
