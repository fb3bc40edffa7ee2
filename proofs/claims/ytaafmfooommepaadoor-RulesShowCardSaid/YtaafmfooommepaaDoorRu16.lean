/- The walk of RulesShow. -/
import Derived.Test.YtaafmfooommepaaDoorRu15
set_option linter.unusedVariables false
set_option linter.unusedSimpArgs false
namespace Go.Proofs.YtaafmfooommepaaDoor
open Go.RowKit
set_option maxRecDepth 100000 in
set_option maxHeartbeats 1600000 in
theorem rulesShow_walk (l : List Rl) (v : Value) (w : World) (h : RdRl w v l) (hsz : ∀ r ∈ l, r.name.size ≤ 140737488355328 ∧ r.pat.size ≤ 140737488355328) (hlen : l.length ≤ 140737488355328) : Calls Tryd.prog 4 #[v] w fun e w' => e = .returned (.bool true) ∧ Below w.heap.size w w' := by
  obtain ⟨a, c, rfl⟩ := h.form
  have H := Lib.hid h; have HS := Lib.hid hsz
  have hlI : (l.length : Int) ≤ 140737488355328 := by omega
  clear h hsz hlen
  by_cases h20 : 20 < (l.length : Int)
  · go_enter Tryd.func4, Tryd.ntmps4
    go_wp2_with fail
    refine (up_any _).mono ?_
    rintro e9 w1 ⟨rfl, hb1⟩
    have HB1 := Lib.hid hb1
    clear hb1
    go_wp2_with fail
    go_returns
    exact ⟨rfl, HB1.out⟩
  have HN : Hid (l.length ≤ 20) := Lib.hid (by omega)
  have HK : Hid (∀ wx : World, Below w.heap.size w wx → ∀ (k i : Nat) (u : Value), w.cell? ⟨k, i, none⟩ = some u → wx.cell? ⟨k, i, none⟩ = some u) := Lib.hid (fun wx hb k i u hu => (hb.cell (World.block_lt_of_cell? _ _ hu)).trans hu)
  go_enter Tryd.func4, Tryd.ntmps4
  go_wp2_with fail
  refine (up_any _).mono ?_
  rintro e9 w1 ⟨rfl, hb1⟩
  have HB1 := Lib.hid hb1
  clear hb1
  go_wp2_with fail
  go_loopw [4] (fun i wr => ∃ j : Nat, j ≤ l.length ∧ i = .int .i64 j ∧ Hid (Below w.heap.size w wr) ∧ Hid (∀ x, x < j → ∀ q, l[x]? = some q → q.name.size + q.pat.size ≤ 1000)) (fun i _ => l.length - (intOf i).toNat)
  case atStart => exact ⟨0, Nat.zero_le _, rfl, HB1, Lib.hid (fun x h => by omega)⟩
  case round =>
    obtain ⟨j, hj, rfl, HB, HD⟩ := hrel
    by_cases hlt : j < l.length
    · have hltI : (j : Int) < l.length := by omega
      have HLT := Lib.hid hlt
      obtain ⟨q, hq⟩ : ∃ q, l[j]? = some q := ⟨_, List.getElem?_eq_getElem hlt⟩
      obtain ⟨b, off, rfl, -, z0, z1, z2⟩ := H.out.get hq
      have HQ := Lib.hid hq
      obtain ⟨hs1, hs2⟩ := HS.out q (List.mem_of_getElem? hq)
      have hs1I : (q.name.size : Int) ≤ 140737488355328 := by omega
      have hs2I : (q.pat.size : Int) ≤ 140737488355328 := by omega
      have y0 := HK.out _ HB.out _ _ _ z0
      have y1 := HK.out _ HB.out _ _ _ z1
      have x0 := HK.out _ HB.out.drew _ _ _ z0
      have x1 := HK.out _ HB.out.drew _ _ _ z1
      clear z0 z1 z2 hj hlt hq hs1 hs2
      by_cases hbig : 1000 < (q.name.size : Int) + q.pat.size
      · clear HD
        go_upto_region 7 with (fail)
        go_region
        all_goals (go_wp2; go_returns; exact ⟨rfl, HB.out.drew⟩)
      · have HD2 : Hid (∀ x, x < j + 1 → ∀ q, l[x]? = some q → q.name.size + q.pat.size ≤ 1000) := Lib.hid (fun x hx p hp => by
          rcases Nat.lt_succ_iff_lt_or_eq.1 hx with h | rfl
          · exact HD.out x h p hp
          · rw [HQ.out] at hp; cases hp; omega)
        clear HD
        go_upto_region 7 with (fail)
        go_region
        all_goals (go_wp2; exact ⟨⟨j + 1, HLT.out, by go_num, Lib.hid HB.out.drew, HD2⟩, by have := HLT.out; simp [intOf]; try omega⟩)
    · obtain rfl : j = l.length := by omega
      have HR : Hid (∀ r ∈ l, r.name.size + r.pat.size ≤ 5000) := Lib.hid (fun r hr => by
        obtain ⟨i, hi⟩ := List.mem_iff_getElem?.1 hr
        have := HD.out i (List.getElem?_eq_some_iff.1 hi).1 r hi
        omega)
      have HX := Lib.hid (fun w' (hb : Below w.heap.size w w') => showX l _ w' (H.out.below hb) HN.out HR.out)
      have HY := Lib.hid (fun w' (hb : Below w.heap.size w w') => showR l _ w' (H.out.below hb) HN.out HR.out)
      clear hlt hj HD
      go_wp2_with fail
      refine (HX.out _ HB.out).mono ?_
      rintro e1 w2 ⟨rfl, hb2⟩
      have HB2 := Lib.hid (HB.out.trans (hb2.mono HB.out.size))
      clear hb2 HX
      go_wp2_with fail
      refine (HY.out _ HB2.out).mono ?_
      rintro e1 w3 ⟨rfl, hb3⟩
      have HB3 := Lib.hid (HB2.out.trans (hb3.mono HB2.out.size))
      clear hb3 HY HB2 HB
      generalize showS l = t
      go_wp2_with fail
      go_returns
      exact ⟨rfl, HB3.out⟩
end Go.Proofs.YtaafmfooommepaaDoor
