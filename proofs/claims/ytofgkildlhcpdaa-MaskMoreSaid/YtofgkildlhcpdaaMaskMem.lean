/- Rules in memory; whether a rule fits bytes: the program's and the document's. -/
import Derived.Test.YtofgkildlhcpdaaMaskPlain
set_option linter.unusedVariables false
set_option linter.unusedSimpArgs false
namespace Go.Proofs.Ytofgkildlhcpdaa
open Go.RowKit Bt Luhn
/-- a rule's value -/
def ruV (t : Tree) (kv : Value) (b : Bool) : Value := match t with | .node op f mn mx _ => .agg #[.int .i64 op, .int .u64 ((wd f 0 : Nat) : Int), .int .u64 ((wd f 1 : Nat) : Int), .int .u64 ((wd f 2 : Nat) : Int), .int .u64 ((wd f 3 : Nat) : Int), .int .i64 mn, .int .i64 mx, kv, .bool b]
/-- its cells -/
def ruC (op : Int) (f : Nat → Bool) (mn mx : Int) (kv : Value) (b : Bool) : Array Value := #[.int .i64 op, .int .u64 ((wd f 0 : Nat) : Int), .int .u64 ((wd f 1 : Nat) : Int), .int .u64 ((wd f 2 : Nat) : Int), .int .u64 ((wd f 3 : Nat) : Int), .int .i64 mn, .int .i64 mx, kv, .bool b]
/-- a row of rules -/
def RuAt (w : World) (v : Value) (rs : List Rul) : Prop :=
  (rs = [] ∧ ∃ a c, v = .slice a 0 c) ∨ ∃ b off cap, v = .slice (some ⟨b, off, none⟩) rs.length cap ∧ rs.length ≤ cap ∧
    ∀ j (h : j < rs.length), ∃ op f mn mx kids ka kn kc, rs[j].1.tree = .node op f mn mx kids ∧ Cell8 w b (off + j * 9) op f mn mx (.slice ka kn kc) ∧ w.cell? ⟨b, off + j * 9 + 8, none⟩ = some (.bool rs[j].2) ∧ NAt w rs[j].1.tree (.slice ka kn kc)
theorem RuAt.below {w w' : World} {v : Value} {rs : List Rul} (h : RuAt w v rs) (hb : Below w.heap.size w w') : RuAt w' v rs := by
  rcases h with h | ⟨b, off, cap, rfl, h1, h2⟩
  · exact .inl h
  · refine .inr ⟨b, off, cap, rfl, h1, fun j hj => ?_⟩
    obtain ⟨op, f, mn, mx, kids, ka, kn, kc, h3, h4, h5, h6⟩ := h2 j hj
    exact ⟨op, f, mn, mx, kids, ka, kn, kc, h3, h4.below hb, (hb.cell (World.block_lt_of_cell? w _ h5)).trans h5, h6.below hb⟩
theorem RuAt.slice {w : World} {v : Value} {rs : List Rul} (h : RuAt w v rs) : ∃ a c, v = .slice a rs.length c := by
  rcases h with ⟨rfl, a, c, rfl⟩ | ⟨b, off, cap, rfl, _⟩
  · exact ⟨a, c, rfl⟩
  · exact ⟨_, cap, rfl⟩
theorem RuAt.at {w : World} {A : Option Addr} {n c : Nat} {rs : List Rul} (h : RuAt w (.slice A n c) rs) (j : Nat) (hj : j < rs.length) :
    ∃ b off, A = some ⟨b, off, none⟩ ∧ rs.length ≤ c ∧ b < w.heap.size ∧ ∃ op f mn mx kids ka kn kc, rs[j].1.tree = .node op f mn mx kids ∧ Cell8 w b (off + j * 9) op f mn mx (.slice ka kn kc) ∧ w.cell? ⟨b, off + j * 9 + 8, none⟩ = some (.bool rs[j].2) ∧ NAt w rs[j].1.tree (.slice ka kn kc) := by
  rcases h with ⟨rfl, _⟩ | ⟨b, off, cap, h1, h2, h3⟩
  · cases hj
  · injection h1 with e1 e2 e3
    subst e1; subst e3
    obtain ⟨op, f, mn, mx, kids, ka, kn, kc, h4⟩ := h3 j hj
    exact ⟨b, off, rfl, h2, World.block_lt_of_cell? w _ h4.2.2.1, op, f, mn, mx, kids, ka, kn, kc, h4⟩
/-- a part of a row of rules, from the beginning on -/
theorem RuAt.take {w : World} {A : Option Addr} {n c k : Nat} {rs : List Rul} (h : RuAt w (.slice A n c) rs) (hk : k ≤ rs.length) : RuAt w (.slice A k c) (rs.take k) := by
  have hl : (rs.take k).length = k := by rw [List.length_take]; omega
  rcases h with ⟨rfl, a, c', h1⟩ | ⟨b, off, cap, h1, h2, h3⟩
  · simp at hk; subst hk
    exact .inl ⟨rfl, A, c, rfl⟩
  · injection h1 with e1 e2 e3
    subst e1; subst e3
    refine .inr ⟨b, off, c, by rw [hl], by omega, fun j hj => ?_⟩
    rw [List.getElem_take]
    exact h3 j (by omega)
set_option maxRecDepth 100000 in
set_option maxHeartbeats 1600000 in
theorem fitsO_any (p : Pat) (hp : Wf p) (chk : Bool) (w : World) (a : Option Addr) (m c : Nat) (wv : Value) (xs : List Int) (hn : NAt w p.tree (.slice a m c)) (hx : RdB w wv xs) (hl : xs.length ≤ 1000) :
    Calls Try.prog 22 #[ruV p.tree (.slice a m c) chk, wv] w fun e w' => Below w.heap.size w w' ∧ ∃ r : Bool, e = .returned (.bool r) ∧ (r = true ↔ fitR xs (p, chk)) := by
  obtain ⟨A, wc, rfl⟩ := rdB_slice hx
  have HH := Lib.hid (fun w hn hx => hasP_any p hp w a m c (.slice A xs.length wc) xs hn hx hl)
  have HF := Lib.hid (show ∀ b, (Mt (byt xs) xs.length p 0 xs.length ∧ (b = true → okB xs = true)) = fitR xs (p, b) from fun b => rfl)
  rcases hpt : p.tree with ⟨op, f, mn, mx, kids⟩
  rw [hpt] at HH hn
  unfold ruV; unfold nodeV at HH
  dsimp only at HH ⊢
  have HX := Lib.hid hx
  have HN := Lib.hid hn
  clear hpt hn hx
  obtain ⟨W, hW⟩ : ∃ W : World, W = w.alloc (.cells (ruC op f mn mx (.slice a m c) chk) 47) := ⟨_, rfl⟩
  have HC : Hid (AtG W w.heap.size 47 (ruC op f mn mx (.slice a m c) chk)) := Lib.hid (by rw [hW]; exact AtG.new _ _ _)
  have HB : Hid (Below w.heap.size w W) := Lib.hid (by rw [hW]; exact (Below.refl _ _).alloc (Nat.le_refl _) _)
  have hW' : w.alloc (.cells #[.int .i64 op, .int .u64 ((wd f 0 : Nat) : Int), .int .u64 ((wd f 1 : Nat) : Int), .int .u64 ((wd f 2 : Nat) : Int), .int .u64 ((wd f 3 : Nat) : Int), .int .i64 mn, .int .i64 mx, .slice a m c, .bool chk] 47) = W := hW.symm
  clear hW
  have k0 : (W).cell? ⟨w.heap.size, 0, none⟩ = some (.int .i64 op) := (HC.out).cell 0 _ rfl
  have k1 : (W).cell? ⟨w.heap.size, 1, none⟩ = some (.int .u64 ((wd f 0 : Nat) : Int)) := (HC.out).cell 1 _ rfl
  have k2 : (W).cell? ⟨w.heap.size, 2, none⟩ = some (.int .u64 ((wd f 1 : Nat) : Int)) := (HC.out).cell 2 _ rfl
  have k3 : (W).cell? ⟨w.heap.size, 3, none⟩ = some (.int .u64 ((wd f 2 : Nat) : Int)) := (HC.out).cell 3 _ rfl
  have k4 : (W).cell? ⟨w.heap.size, 4, none⟩ = some (.int .u64 ((wd f 3 : Nat) : Int)) := (HC.out).cell 4 _ rfl
  have k5 : (W).cell? ⟨w.heap.size, 5, none⟩ = some (.int .i64 mn) := (HC.out).cell 5 _ rfl
  have k6 : (W).cell? ⟨w.heap.size, 6, none⟩ = some (.int .i64 mx) := (HC.out).cell 6 _ rfl
  have k7 : (W).cell? ⟨w.heap.size, 7, none⟩ = some (.slice a m c) := (HC.out).cell 7 _ rfl
  have k8 : (W).cell? ⟨w.heap.size, 8, none⟩ = some (.bool chk) := (HC.out).cell 8 _ rfl
  go_enter Try.func22, Try.ntmps22
  go_wp2_with fail
  refine (HH.out _ (HN.out.below HB.out) (rdB_below HX.out HB.out)).mono ?_
  rintro e9 w1 ⟨hb, r, rfl, hr⟩
  have HR := Lib.hid hr
  have HB1 := Lib.hid (HB.out.trans (hb.mono HB.out.size)); have HC1 := Lib.hid (HC.out.below hb)
  clear k0 k1 k2 k3 k4 k5 k6 k7 k8 hb hr hW'
  cases r
  · go_wp2_with fail
    go_returns
    exact ⟨HB1.out, false, rfl, ⟨(fun h => by cases h), fun h => absurd (HR.out.2 h.1) (by decide)⟩⟩
  · have HM := Lib.hid (HR.out.1 rfl)
    clear HR
    cases chk
    · skip
      have k0 : (w1).cell? ⟨w.heap.size, 0, none⟩ = some (.int .i64 op) := (HC1.out).cell 0 _ rfl
      have k1 : (w1).cell? ⟨w.heap.size, 1, none⟩ = some (.int .u64 ((wd f 0 : Nat) : Int)) := (HC1.out).cell 1 _ rfl
      have k2 : (w1).cell? ⟨w.heap.size, 2, none⟩ = some (.int .u64 ((wd f 1 : Nat) : Int)) := (HC1.out).cell 2 _ rfl
      have k3 : (w1).cell? ⟨w.heap.size, 3, none⟩ = some (.int .u64 ((wd f 2 : Nat) : Int)) := (HC1.out).cell 3 _ rfl
      have k4 : (w1).cell? ⟨w.heap.size, 4, none⟩ = some (.int .u64 ((wd f 3 : Nat) : Int)) := (HC1.out).cell 4 _ rfl
      have k5 : (w1).cell? ⟨w.heap.size, 5, none⟩ = some (.int .i64 mn) := (HC1.out).cell 5 _ rfl
      have k6 : (w1).cell? ⟨w.heap.size, 6, none⟩ = some (.int .i64 mx) := (HC1.out).cell 6 _ rfl
      have k7 : (w1).cell? ⟨w.heap.size, 7, none⟩ = some (.slice a m c) := (HC1.out).cell 7 _ rfl
      have k8 : (w1).cell? ⟨w.heap.size, 8, none⟩ = some (.bool false) := (HC1.out).cell 8 _ rfl
      go_wp2_with fail
      go_returns
      exact ⟨HB1.out, true, rfl, ⟨fun _ => ⟨HM.out, (fun h => by cases h)⟩, fun _ => rfl⟩⟩
    · skip
      have k0 : (w1).cell? ⟨w.heap.size, 0, none⟩ = some (.int .i64 op) := (HC1.out).cell 0 _ rfl
      have k1 : (w1).cell? ⟨w.heap.size, 1, none⟩ = some (.int .u64 ((wd f 0 : Nat) : Int)) := (HC1.out).cell 1 _ rfl
      have k2 : (w1).cell? ⟨w.heap.size, 2, none⟩ = some (.int .u64 ((wd f 1 : Nat) : Int)) := (HC1.out).cell 2 _ rfl
      have k3 : (w1).cell? ⟨w.heap.size, 3, none⟩ = some (.int .u64 ((wd f 2 : Nat) : Int)) := (HC1.out).cell 3 _ rfl
      have k4 : (w1).cell? ⟨w.heap.size, 4, none⟩ = some (.int .u64 ((wd f 3 : Nat) : Int)) := (HC1.out).cell 4 _ rfl
      have k5 : (w1).cell? ⟨w.heap.size, 5, none⟩ = some (.int .i64 mn) := (HC1.out).cell 5 _ rfl
      have k6 : (w1).cell? ⟨w.heap.size, 6, none⟩ = some (.int .i64 mx) := (HC1.out).cell 6 _ rfl
      have k7 : (w1).cell? ⟨w.heap.size, 7, none⟩ = some (.slice a m c) := (HC1.out).cell 7 _ rfl
      have k8 : (w1).cell? ⟨w.heap.size, 8, none⟩ = some (.bool true) := (HC1.out).cell 8 _ rfl
      have HK := Lib.hid (ok_any (.slice A xs.length wc) xs w1 (rdB_below HX.out HB1.out))
      obtain ⟨ok, hok⟩ : ∃ ok, ok = okB xs := ⟨_, rfl⟩
      rw [← hok] at HK
      have HOK := Lib.hid hok
      clear hok
      go_wp2_with fail
      refine (HK.out).mono ?_
      rintro e9 w2 ⟨rfl, hw2⟩; subst hw2
      go_wp2_with fail
      go_returns
      refine ⟨HB1.out, ok, rfl, ?_⟩
      rw [HOK.out]
      exact ⟨fun h => ⟨HM.out, fun _ => h⟩, fun h => h.2 rfl⟩
set_option maxRecDepth 100000 in
set_option maxHeartbeats 1600000 in
theorem fitsR_any (p : Pat) (hp : Wf p) (chk : Bool) (w : World) (a : Option Addr) (m c : Nat) (wv : Value) (xs : List Int) (hn : NAt w p.tree (.slice a m c)) (hx : RdB w wv xs) (hl : xs.length ≤ 1000) :
    Calls Try.prog 23 #[ruV p.tree (.slice a m c) chk, wv] w fun e w' => Below w.heap.size w w' ∧ ∃ r : Bool, e = .returned (.bool r) ∧ (r = true ↔ fitR xs (p, chk)) := by
  obtain ⟨A, wc, rfl⟩ := rdB_slice hx
  have HH := Lib.hid (fun w hn hx => word_any p hp w a m c (.slice A xs.length wc) xs hn hx hl)
  rcases hpt : p.tree with ⟨op, f, mn, mx, kids⟩
  rw [hpt] at HH hn
  unfold ruV; unfold nodeV at HH
  dsimp only at HH ⊢
  have HX := Lib.hid hx
  have HN := Lib.hid hn
  clear hpt hn hx
  obtain ⟨W, hW⟩ : ∃ W : World, W = w.alloc (.cells (ruC op f mn mx (.slice a m c) chk) 49) := ⟨_, rfl⟩
  have HC : Hid (AtG W w.heap.size 49 (ruC op f mn mx (.slice a m c) chk)) := Lib.hid (by rw [hW]; exact AtG.new _ _ _)
  have HB : Hid (Below w.heap.size w W) := Lib.hid (by rw [hW]; exact (Below.refl _ _).alloc (Nat.le_refl _) _)
  have hW' : w.alloc (.cells #[.int .i64 op, .int .u64 ((wd f 0 : Nat) : Int), .int .u64 ((wd f 1 : Nat) : Int), .int .u64 ((wd f 2 : Nat) : Int), .int .u64 ((wd f 3 : Nat) : Int), .int .i64 mn, .int .i64 mx, .slice a m c, .bool chk] 49) = W := hW.symm
  clear hW
  have k0 : (W).cell? ⟨w.heap.size, 0, none⟩ = some (.int .i64 op) := (HC.out).cell 0 _ rfl
  have k1 : (W).cell? ⟨w.heap.size, 1, none⟩ = some (.int .u64 ((wd f 0 : Nat) : Int)) := (HC.out).cell 1 _ rfl
  have k2 : (W).cell? ⟨w.heap.size, 2, none⟩ = some (.int .u64 ((wd f 1 : Nat) : Int)) := (HC.out).cell 2 _ rfl
  have k3 : (W).cell? ⟨w.heap.size, 3, none⟩ = some (.int .u64 ((wd f 2 : Nat) : Int)) := (HC.out).cell 3 _ rfl
  have k4 : (W).cell? ⟨w.heap.size, 4, none⟩ = some (.int .u64 ((wd f 3 : Nat) : Int)) := (HC.out).cell 4 _ rfl
  have k5 : (W).cell? ⟨w.heap.size, 5, none⟩ = some (.int .i64 mn) := (HC.out).cell 5 _ rfl
  have k6 : (W).cell? ⟨w.heap.size, 6, none⟩ = some (.int .i64 mx) := (HC.out).cell 6 _ rfl
  have k7 : (W).cell? ⟨w.heap.size, 7, none⟩ = some (.slice a m c) := (HC.out).cell 7 _ rfl
  have k8 : (W).cell? ⟨w.heap.size, 8, none⟩ = some (.bool chk) := (HC.out).cell 8 _ rfl
  go_enter Try.func23, Try.ntmps23
  go_wp2_with fail
  refine (HH.out _ (HN.out.below HB.out) (rdB_below HX.out HB.out)).mono ?_
  rintro e9 w1 ⟨hb, r, rfl, hr⟩
  have HR := Lib.hid hr
  have HB1 := Lib.hid (HB.out.trans (hb.mono HB.out.size)); have HC1 := Lib.hid (HC.out.below hb)
  clear k0 k1 k2 k3 k4 k5 k6 k7 k8 hb hr hW'
  have HK := Lib.hid (refOk_any (.slice A xs.length wc) xs w1 (rdB_below HX.out HB1.out) hl)
  obtain ⟨ok, hok⟩ : ∃ ok, ok = okB xs := ⟨_, rfl⟩
  rw [← hok] at HK
  have HOK := Lib.hid hok
  clear hok
  go_wp2_with fail
  refine (HK.out).mono ?_
  rintro e9 w2 ⟨rfl, hb⟩
  have HB2 := Lib.hid (HB1.out.trans (hb.mono HB1.out.size)); have HC2 := Lib.hid (HC1.out.below hb)
  clear hb HK
  have k0 : (w2).cell? ⟨w.heap.size, 0, none⟩ = some (.int .i64 op) := (HC2.out).cell 0 _ rfl
  have k1 : (w2).cell? ⟨w.heap.size, 1, none⟩ = some (.int .u64 ((wd f 0 : Nat) : Int)) := (HC2.out).cell 1 _ rfl
  have k2 : (w2).cell? ⟨w.heap.size, 2, none⟩ = some (.int .u64 ((wd f 1 : Nat) : Int)) := (HC2.out).cell 2 _ rfl
  have k3 : (w2).cell? ⟨w.heap.size, 3, none⟩ = some (.int .u64 ((wd f 2 : Nat) : Int)) := (HC2.out).cell 3 _ rfl
  have k4 : (w2).cell? ⟨w.heap.size, 4, none⟩ = some (.int .u64 ((wd f 3 : Nat) : Int)) := (HC2.out).cell 4 _ rfl
  have k5 : (w2).cell? ⟨w.heap.size, 5, none⟩ = some (.int .i64 mn) := (HC2.out).cell 5 _ rfl
  have k6 : (w2).cell? ⟨w.heap.size, 6, none⟩ = some (.int .i64 mx) := (HC2.out).cell 6 _ rfl
  have k7 : (w2).cell? ⟨w.heap.size, 7, none⟩ = some (.slice a m c) := (HC2.out).cell 7 _ rfl
  have k8 : (w2).cell? ⟨w.heap.size, 8, none⟩ = some (.bool chk) := (HC2.out).cell 8 _ rfl
  cases r
  · go_wp2_with fail
    go_returns
    exact ⟨HB2.out, false, rfl, ⟨(fun h => by cases h), fun h => absurd (HR.out.2 h.1) (by decide)⟩⟩
  · have HM := Lib.hid (HR.out.1 rfl)
    clear HR
    cases chk
    · go_wp2_with fail
      go_returns
      exact ⟨HB2.out, true, rfl, ⟨fun _ => ⟨HM.out, (fun h => by cases h)⟩, fun _ => rfl⟩⟩
    · go_wp2_with fail
      go_returns
      refine ⟨HB2.out, ok, rfl, ?_⟩
      rw [HOK.out]
      exact ⟨fun h => ⟨HM.out, fun _ => h⟩, fun h => h.2 rfl⟩
end Go.Proofs.Ytofgkildlhcpdaa
