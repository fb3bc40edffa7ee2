/- The program's Show. -/
import Derived.Test.YtaafmfooommepaaDoorRu13
set_option linter.unusedVariables false
set_option linter.unusedSimpArgs false
namespace Go.Proofs.YtaafmfooommepaaDoor
open Go.RowKit
def spS : ByteArray := { data := #[32] }
/-- a rule's line -/
def lineS (r : Rl) : ByteArray := r.name ++ spS ++ r.pat ++ spS ++ (if r.luhn then luhnS else plainS) ++ nlS
def showS (l : List Rl) : ByteArray := l.foldl (fun a r => a ++ lineS r) ByteArray.empty
theorem showS_snoc (l : List Rl) (r : Rl) : showS (l ++ [r]) = showS l ++ lineS r := by unfold showS; rw [List.foldl_append]; rfl
theorem showS_take (l : List Rl) (j : Nat) (r : Rl) (h : l[j]? = some r) : showS (l.take (j + 1)) = showS (l.take j) ++ lineS r := by
  obtain ⟨hj, rfl⟩ := List.getElem?_eq_some_iff.1 h
  rw [List.take_succ_eq_append_getElem hj, showS_snoc]
theorem lineS_size (r : Rl) : (lineS r).size = r.name.size + r.pat.size + (if r.luhn then 7 else 8) := by
  unfold lineS
  simp only [ByteArray.size_append]
  have e1 : spS.size = 1 := rfl
  have e2 : nlS.size = 1 := rfl
  have e3 : luhnS.size = 4 := rfl
  have e4 : plainS.size = 5 := rfl
  cases r.luhn <;> simp [e1, e2, e3, e4] <;> omega
theorem lineS_pos (r : Rl) : 0 < (lineS r).size := by rw [lineS_size]; split <;> omega
/-- rules that are read -/
def RdRl (w : World) (v : Value) (l : List Rl) : Prop := (l = [] ∧ ∃ a c, v = .slice a 0 c) ∨ ∃ b off cap, v = .slice (some ⟨b, off, none⟩) l.length cap ∧ l.length ≤ cap ∧
  ∀ (j : Nat) (r : Rl), l[j]? = some r → w.cell? ⟨b, off + j * 3, none⟩ = some (.string r.name) ∧ w.cell? ⟨b, off + j * 3 + 1, none⟩ = some (.string r.pat) ∧ w.cell? ⟨b, off + j * 3 + 2, none⟩ = some (.bool r.luhn)
theorem RdRl.form {w : World} {v : Value} {l : List Rl} (h : RdRl w v l) : ∃ a c, v = .slice a l.length c := by
  rcases h with ⟨rfl, a, c, rfl⟩ | ⟨b, off, c, rfl, _⟩
  · exact ⟨_, _, rfl⟩
  · exact ⟨_, _, rfl⟩
theorem RdRl.get {w : World} {a : Option Addr} {c k : Nat} {l : List Rl} {q : Rl} (h : RdRl w (.slice a l.length c) l) (hk : l[k]? = some q) : ∃ b off, a = some ⟨b, off, none⟩ ∧ l.length ≤ c ∧ w.cell? ⟨b, off + k * 3, none⟩ = some (.string q.name) ∧ w.cell? ⟨b, off + k * 3 + 1, none⟩ = some (.string q.pat) ∧ w.cell? ⟨b, off + k * 3 + 2, none⟩ = some (.bool q.luhn) := by
  rcases h with ⟨rfl, _⟩ | ⟨b, off, c', h1, h2, h3⟩
  · simp at hk
  · cases h1
    exact ⟨b, off, rfl, h2, h3 k q hk⟩
theorem RdRl.below {w w' : World} {v : Value} {l : List Rl} (h : RdRl w v l) (hb : Below w.heap.size w w') : RdRl w' v l := by
  rcases h with h | ⟨b, off, c, h1, h2, h3⟩
  · exact .inl h
  · have hk : ∀ (i : Nat) (u : Value), w.cell? ⟨b, i, none⟩ = some u → w'.cell? ⟨b, i, none⟩ = some u := fun i u hu => (hb.cell (World.block_lt_of_cell? _ _ hu)).trans hu
    exact .inr ⟨b, off, c, h1, h2, fun j r hj => by obtain ⟨a1, a2, a3⟩ := h3 j r hj; exact ⟨hk _ _ a1, hk _ _ a2, hk _ _ a3⟩⟩
theorem rdRl_at {B : Nat} {w : World} {v : Value} {l : List Rl} (h : RulesAt B w v l) : RdRl w v l := by
  rcases h with ⟨rfl, rfl⟩ | ⟨g, c, _, rfl, h2, h3⟩
  · exact .inl ⟨rfl, _, _, rfl⟩
  · exact .inr ⟨g, 0, c, rfl, h2, fun j r hj => by simpa using h3 j r hj⟩
/-- where the builder stands behind j rules -/
def BS (B b : Nat) (l : List Rl) (j : Nat) (w : World) : Prop := (j = 0 ∧ B ≤ b ∧ w.heap[b]? = some (.cells #[.pointer none, .slice none 0 0] 55 (0, 0))) ∨ (0 < j ∧ BldAt B b (.pointer (some ⟨b, 0, none⟩)) (Lib.strCells (showS (l.take j))) w)
theorem BS.is {B b j : Nat} {l : List Rl} {w : World} (h : BS B b l j w) : IsBld B b (Lib.strCells (showS (l.take j))) w := by
  rcases h with ⟨rfl, h0, h⟩ | ⟨_, h⟩
  · exact .inl ⟨h0, .slice none 0 0, h, own_nil _ _ _ _, by simp [Value.ownBlock]⟩
  · exact .inr h
theorem BS.below {B b j : Nat} {l : List Rl} {w w' : World} (h : BS B b l j w) (hb : Below w.heap.size w w') : BS B b l j w' := by
  rcases h with ⟨rfl, h0, h⟩ | ⟨h0, h⟩
  · exact .inl ⟨rfl, h0, (hb.block b (AtG.lt (T := 55) h)).trans h⟩
  · exact .inr ⟨h0, bld_below h hb⟩
theorem showS_size (l : List Rl) (M : Nat) (h : ∀ r ∈ l, r.name.size + r.pat.size ≤ M) : ∀ j, (showS (l.take j)).size ≤ j * (M + 8) := by
  intro j
  induction j with
  | zero => simp [showS]
  | succ j ih =>
    cases hj : l[j]? with
    | none =>
      have : l.take (j + 1) = l.take j := by rw [List.take_of_length_le (by have := List.getElem?_eq_none_iff.1 hj; omega), List.take_of_length_le (List.getElem?_eq_none_iff.1 hj)]
      rw [this, Nat.succ_mul]; omega
    | some r =>
      rw [showS_take l j r hj, ByteArray.size_append, lineS_size, Nat.succ_mul]
      have := h r (List.mem_of_getElem? hj)
      split <;> omega
theorem strCells_app (a b : ByteArray) : Lib.strCells a ++ Lib.strCells b = Lib.strCells (a ++ b) := by
  unfold Lib.strCells
  rw [← List.map_append]
  simp
theorem str_bytes (s : ByteArray) : Lib.strCells s = Lib.byteCells s.data.toList ∧ (⟨s.data.toList.toArray⟩ : ByteArray) = s := ⟨rfl, by simp⟩
set_option maxRecDepth 100000 in
set_option maxHeartbeats 1600000 in
theorem showX (l : List Rl) (v : Value) (w : World) (h : RdRl w v l) (hn : l.length ≤ 20) (hr : ∀ r ∈ l, r.name.size + r.pat.size ≤ 5000) : Calls Tryd.prog 11 #[v] w fun e w' => e = .returned (.string (showS l)) ∧ Below w.heap.size w w' := by
  obtain ⟨a, c, rfl⟩ := h.form
  have H := Lib.hid h; have HN := Lib.hid hn; have HR := Lib.hid hr
  have hnI : (l.length : Int) ≤ 20 := by omega
  have HZ := Lib.hid (fun j => showS_size l 5000 hr j)
  clear h hn hr
  go_enter Tryd.func11, Tryd.ntmps11
  go_wp2
  go_loopw [9] (fun i wr => ∃ j : Nat, j ≤ l.length ∧ i = .int .i64 j ∧ Hid (BS w.heap.size w.heap.size l j wr) ∧ Hid (Below w.heap.size w wr)) (fun i _ => l.length - (intOf i).toNat)
  case atStart => exact ⟨0, Nat.zero_le _, rfl, Lib.hid (.inl ⟨rfl, Nat.le_refl _, AtG.new _ _ _⟩), Lib.hid ((Below.refl _ _).alloc (Nat.le_refl _) _)⟩
  case round =>
    obtain ⟨j, hj, rfl, HS, HB⟩ := hrel
    by_cases hlt : j < l.length
    · have hltI : (j : Int) < l.length := by omega
      have HLT := Lib.hid hlt
      obtain ⟨q, hq⟩ : ∃ q, l[j]? = some q := ⟨_, List.getElem?_eq_getElem hlt⟩
      obtain ⟨b, off, rfl, -, z0, z1, z2⟩ := (H.out.below HB.out).get hq
      have HSZ : Hid (q.name.size + q.pat.size ≤ 5000) := Lib.hid (HR.out q (List.mem_of_getElem? hq))
      have HT := Lib.hid (showS_take l j q hq)
      have HZ1 : Hid ((showS (l.take j)).size ≤ 110000) := Lib.hid (by have h1 := HZ.out j; have h2 : j * 5008 ≤ 20 * 5008 := Nat.mul_le_mul_right _ (by have := HN.out; omega); omega)
      have hs1 : q.name.size ≤ 5000 := by have := HSZ.out; omega
      have hs2 : q.pat.size ≤ 5000 := by have := HSZ.out; omega
      clear hj hlt hq
      obtain ⟨nm, pt, lu⟩ := q
      dsimp only at z0 z1 z2 hs1 hs2
      cases lu
      · skip
        have HLN : Hid (lineS ⟨nm, pt, false⟩ = nm ++ { data := #[32] } ++ pt ++ { data := #[32] } ++ { data := #[112, 108, 97, 105, 110] } ++ { data := #[10] }) := Lib.hid rfl
        have HLZ := Lib.hid (lineS_size ⟨nm, pt, false⟩)
        go_wp2_with fail
        refine (writeS w.heap.size w.heap.size (Lib.strCells (showS (l.take j))) _ _ ((HS.out.below ((Below.refl _ _).alloc (Nat.le_refl _) _)).is) ?_ ?_).mono ?_
        · rw [Lib.strCells_length, ← HLN.out, HLZ.out]
          have := HSZ.out; have := HZ1.out
          try dsimp only at *
          simp only [Bool.false_eq_true, if_false, if_true]
          omega
        · have := HB.out.size
          simp; omega
        rintro e1 w2 ⟨rfl, hw2, hb2⟩
        rw [← HLN.out, strCells_app, ← HT.out] at hw2
        have HW2 := Lib.hid hw2
        have HB2 : Hid (Below w.heap.size w w2) := Lib.hid ((HB.out.alloc HB.out.size _).trans hb2)
        clear hw2 hb2 HLN HLZ z0 z1 z2
        go_wp2_with fail
        exact ⟨⟨j + 1, HLT.out, by go_num, Lib.hid (.inr ⟨Nat.succ_pos j, HW2.out⟩), HB2⟩, by have := HLT.out; simp [intOf]; try omega⟩
      · skip
        have HLN : Hid (lineS ⟨nm, pt, true⟩ = nm ++ { data := #[32] } ++ pt ++ { data := #[32] } ++ { data := #[108, 117, 104, 110] } ++ { data := #[10] }) := Lib.hid rfl
        have HLZ := Lib.hid (lineS_size ⟨nm, pt, true⟩)
        go_wp2_with fail
        refine (writeS w.heap.size w.heap.size (Lib.strCells (showS (l.take j))) _ _ ((HS.out.below ((Below.refl _ _).alloc (Nat.le_refl _) _)).is) ?_ ?_).mono ?_
        · rw [Lib.strCells_length, ← HLN.out, HLZ.out]
          have := HSZ.out; have := HZ1.out
          try dsimp only at *
          simp only [Bool.false_eq_true, if_false, if_true]
          omega
        · have := HB.out.size
          simp; omega
        rintro e1 w2 ⟨rfl, hw2, hb2⟩
        rw [← HLN.out, strCells_app, ← HT.out] at hw2
        have HW2 := Lib.hid hw2
        have HB2 : Hid (Below w.heap.size w w2) := Lib.hid ((HB.out.alloc HB.out.size _).trans hb2)
        clear hw2 hb2 HLN HLZ z0 z1 z2
        go_wp2_with fail
        exact ⟨⟨j + 1, HLT.out, by go_num, Lib.hid (.inr ⟨Nat.succ_pos j, HW2.out⟩), HB2⟩, by have := HLT.out; simp [intOf]; try omega⟩
    · obtain rfl : j = l.length := by omega
      have HB' := HB
      clear hj hlt
      rcases HS.out with ⟨h0, -, hbk⟩ | ⟨h0, hbl⟩
      · have hl : l = [] := List.eq_nil_of_length_eq_zero h0
        have HSTR := Lib.hid (stringN w.heap.size w.heap.size _ wr hbk)
        have HE : Hid (showS l = ByteArray.empty) := Lib.hid (by rw [hl]; rfl)
        clear h0 hbk hl HS
        go_wp2_with fail
        refine (HSTR.out).mono ?_
        rintro e1 w2 ⟨rfl, hb2⟩
        have HB2 := Lib.hid (HB.out.trans hb2)
        clear hb2 HSTR
        go_wp2_with fail
        go_returns
        exact ⟨by rw [HE.out]; rfl, HB2.out⟩
      · rw [List.take_length] at hbl
        have hpos : (showS l).data.toList ≠ [] := by
          obtain ⟨m, hm⟩ : ∃ m, l.length = m + 1 := ⟨l.length - 1, by omega⟩
          have hq : l[m]? = some (l[m]'(by omega)) := List.getElem?_eq_getElem _
          have e := showS_take l m _ hq
          rw [← hm, List.take_length] at e
          intro h
          have h2 := congrArg List.length h
          rw [e] at h2
          have := lineS_pos (l[m]'(by omega))
          simp at h2
          have h3 : (showS (l.take m) ++ lineS (l[m]'(by omega))).size = 0 := by simpa using h2
          rw [ByteArray.size_append] at h3
          omega
        have hsz : (showS l).data.toList.length ≤ 1000000 := by
          have h1 := HZ.out l.length
          rw [List.take_length] at h1
          have h2 : l.length * 5008 ≤ 20 * 5008 := Nat.mul_le_mul_right _ HN.out
          have h3 : (showS l).data.toList.length = (showS l).size := by simp
          omega
        have HSTR := Lib.hid (stringS w.heap.size w.heap.size _ (showS l).data.toList wr hbl hpos hsz)
        rw [(str_bytes (showS l)).2] at HSTR
        clear h0 hbl hpos hsz HS
        go_wp2_with fail
        refine (HSTR.out).mono ?_
        rintro e1 w2 ⟨rfl, hb2⟩
        have HB2 := Lib.hid (HB.out.trans hb2)
        clear hb2 HSTR
        go_wp2_with fail
        go_returns
        exact ⟨rfl, HB2.out⟩
end Go.Proofs.YtaafmfooommepaaDoor
