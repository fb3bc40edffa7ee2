/- The reference's Show. -/
import Derived.Test.YtaafmfooommepaaDoorRu14
set_option linter.unusedVariables false
set_option linter.unusedSimpArgs false
namespace Go.Proofs.YtaafmfooommepaaDoor
open Go.RowKit
theorem line_no (x nm pt : ByteArray) : x ++ nm ++ { data := #[32] } ++ pt ++ { data := #[32, 112, 108, 97, 105, 110, 10] } = x ++ lineS ⟨nm, pt, false⟩ := by
  have e : ({ data := #[32, 112, 108, 97, 105, 110, 10] } : ByteArray) = spS ++ plainS ++ nlS := by decide
  rw [e]
  unfold lineS
  simp only [Bool.false_eq_true, if_false, ByteArray.append_assoc]
  rfl
theorem line_yes (x nm pt : ByteArray) : x ++ nm ++ { data := #[32] } ++ pt ++ { data := #[32, 108, 117, 104, 110, 10] } = x ++ lineS ⟨nm, pt, true⟩ := by
  have e : ({ data := #[32, 108, 117, 104, 110, 10] } : ByteArray) = spS ++ luhnS ++ nlS := by decide
  rw [e]
  unfold lineS
  simp only [if_true, ByteArray.append_assoc]
  rfl
set_option maxRecDepth 100000 in
set_option maxHeartbeats 1600000 in
theorem showR (l : List Rl) (v : Value) (w : World) (h : RdRl w v l) (hn : l.length ≤ 20) (hr : ∀ r ∈ l, r.name.size + r.pat.size ≤ 5000) : Calls Tryd.prog 12 #[v] w fun e w' => e = .returned (.string (showS l)) ∧ Below w.heap.size w w' := by
  obtain ⟨a, c, rfl⟩ := h.form
  have H := Lib.hid h; have HN := Lib.hid hn; have HR := Lib.hid hr
  have hnI : (l.length : Int) ≤ 20 := by omega
  have HZ := Lib.hid (fun j => showS_size l 5000 hr j)
  have HK : Hid (∀ wx : World, Below w.heap.size w wx → ∀ (k i : Nat) (u : Value), w.cell? ⟨k, i, none⟩ = some u → wx.cell? ⟨k, i, none⟩ = some u) := Lib.hid (fun wx hb k i u hu => (hb.cell (World.block_lt_of_cell? _ _ hu)).trans hu)
  clear h hn hr
  go_enter Tryd.func12, Tryd.ntmps12
  go_wp2
  go_loopw [3, 4] (fun o i wr => ∃ j : Nat, j ≤ l.length ∧ o = .string (showS (l.take j)) ∧ i = .int .i64 j ∧ Hid (Below w.heap.size w wr)) (fun o i _ => l.length - (intOf i).toNat)
  case atStart => exact ⟨0, Nat.zero_le _, rfl, rfl, Lib.hid (Below.refl _ _)⟩
  case round =>
    obtain ⟨j, hj, rfl, rfl, HB⟩ := hrel
    by_cases hlt : j < l.length
    · have hltI : (j : Int) < l.length := by omega
      have HLT := Lib.hid hlt
      obtain ⟨q, hq⟩ : ∃ q, l[j]? = some q := ⟨_, List.getElem?_eq_getElem hlt⟩
      obtain ⟨b, off, rfl, -, z0, z1, z2⟩ := H.out.get hq
      have y2 := HK.out _ HB.out _ _ _ z2
      have HSZ : Hid (q.name.size + q.pat.size ≤ 5000) := Lib.hid (HR.out q (List.mem_of_getElem? hq))
      have HT := Lib.hid (showS_take l j q hq)
      have hz1 : (showS (l.take j)).size ≤ 110000 := by have h1 := HZ.out j; have h2 : j * 5008 ≤ 20 * 5008 := Nat.mul_le_mul_right _ (by have := HN.out; omega); omega
      have hs1 : q.name.size ≤ 5000 := by have := HSZ.out; omega
      have hs2 : q.pat.size ≤ 5000 := by have := HSZ.out; omega
      clear hj hlt hq
      obtain ⟨nm, pt, lu⟩ := q
      have HQ : Hid (w.cell? ⟨b, off + j * 3, none⟩ = some (.string nm) ∧ w.cell? ⟨b, off + j * 3 + 1, none⟩ = some (.string pt)) := Lib.hid ⟨z0, z1⟩
      obtain ⟨x, hx⟩ : ∃ x, showS (l.take j) = x := ⟨_, rfl⟩
      have HX := Lib.hid hx
      rw [hx] at hz1 ⊢
      dsimp only at y2 hs1 hs2
      clear z0 z1 z2 hx
      cases lu
      · go_upto_region 8 with (fail)
        have HE := Lib.hid (line_no x nm pt)
        obtain ⟨z0, z1⟩ := HQ.out
        have y0 := HK.out _ HB.out _ _ _ z0
        have y1 := HK.out _ HB.out _ _ _ z1
        have x0 := HK.out _ HB.out.drew _ _ _ z0
        have x1 := HK.out _ HB.out.drew _ _ _ z1
        clear z0 z1
        go_region
        all_goals (go_wp2; exact ⟨⟨j + 1, HLT.out, by rw [HT.out, HX.out, HE.out], by go_num, Lib.hid HB.out.drew⟩, by have := HLT.out; simp [intOf]; try omega⟩)
      · go_upto_region 8 with (fail)
        have HE := Lib.hid (line_yes x nm pt)
        obtain ⟨z0, z1⟩ := HQ.out
        have y0 := HK.out _ HB.out _ _ _ z0
        have y1 := HK.out _ HB.out _ _ _ z1
        have x0 := HK.out _ HB.out.drew _ _ _ z0
        have x1 := HK.out _ HB.out.drew _ _ _ z1
        clear z0 z1
        go_region
        all_goals (go_wp2; exact ⟨⟨j + 1, HLT.out, by rw [HT.out, HX.out, HE.out], by go_num, Lib.hid HB.out.drew⟩, by have := HLT.out; simp [intOf]; try omega⟩)
    · obtain rfl : j = l.length := by omega
      clear hlt hj
      rw [List.take_length]
      go_wp2
      go_returns
      exact ⟨rfl, HB.out⟩
end Go.Proofs.YtaafmfooommepaaDoor
