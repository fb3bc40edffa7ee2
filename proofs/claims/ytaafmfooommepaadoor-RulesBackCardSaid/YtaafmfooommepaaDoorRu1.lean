/- A rule's name; both. -/
import Derived.Test.YtaafmfooommepaaDoorRuPlain
import Derived.Test.YtaafmfooommepaaDoorWalk
import Derived.Lib.ConvBytes
set_option linter.unusedVariables false
set_option linter.unusedSimpArgs false
namespace Go.Proofs.YtaafmfooommepaaDoor
open Go.RowKit
def NmPost (s : ByteArray) (w : World) (e : Ending) (w' : World) : Prop := (e = .returned (.bool true) ∧ w = w' ∧ Nm s) ∨ (e = .returned (.bool false) ∧ w = w' ∧ ¬ Nm s)
theorem conv_str (w : World) (s : ByteArray) : ∃ g c w1, (convert 9 53 (.string s)).run Tryd.prog w = .ok (.slice (some ⟨g, 0, none⟩) s.size c) w1 ∧ Below w.heap.size w w1 ∧
    ∀ j, j < s.size → w1.cell? ⟨g, j, none⟩ = some (.int .u8 (ch s j)) := by
  refine ⟨_, _, _, Lib.run_convert_string_bytes (P := Tryd.prog) w 9 53 5 s Tryd.underlying9 Tryd.underlying53 Tryd.underlying5, ⟨rfl, rfl, rfl, by rw [Lib.bytesWorld_size]; omega, fun k hk => Lib.bytesWorld_at_old w _ s k hk⟩, fun j hj => ?_⟩
  rw [Lib.bytesWorld_cell w _ s j hj, ch_in hj]
  have h2 : j < s.data.toList.length := by simpa using hj
  have e : s.data.toList.getD j 0 = s[j] := by rw [List.getD_eq_getElem?_getD, List.getElem?_eq_getElem h2]; rfl
  rw [e]
def NmPostX (s : ByteArray) (w : World) (e : Ending) (w' : World) : Prop := ∃ r : Bool, e = .returned (.bool r) ∧ Below w.heap.size w w' ∧ ((r = true ∧ Nm s) ∨ (r = false ∧ ¬ Nm s))
/-- the kinds of a byte, in the words of the tests -/
theorem okc_cases (c : Int) (K : Prop) (h1 : 97 ≤ c → c ≤ 122 → K) (h2 : ¬ 97 ≤ c → 48 ≤ c → c ≤ 57 → K) (h3 : c = 45 → K) (h4 : c = 95 → K) (h : okc c) : K := by
  rcases h with h | h | h | h
  · exact h1 h.1 h.2
  · exact h2 (by omega) h.1 h.2
  · exact h3 h
  · exact h4 h
theorem noc_cases (c : Int) (K : Prop) (h1 : 97 ≤ c → ¬ c ≤ 122 → 48 ≤ c → ¬ c ≤ 57 → (c == 45) = false → (c == 95) = false → K) (h2 : ¬ 97 ≤ c → 48 ≤ c → ¬ c ≤ 57 → (c == 45) = false → (c == 95) = false → K) (h3 : ¬ 97 ≤ c → ¬ 48 ≤ c → (c == 45) = false → (c == 95) = false → K) (h : ¬ okc c) : K := by
  unfold okc at h
  have n45 : (c == 45) = false := beq_eq_false_iff_ne.2 (by omega)
  have n95 : (c == 95) = false := beq_eq_false_iff_ne.2 (by omega)
  by_cases c1 : 97 ≤ c
  · exact h1 c1 (by omega) (by omega) (by omega) n45 n95
  · by_cases c2 : 48 ≤ c
    · exact h2 c1 c2 (by omega) n45 n95
    · exact h3 c1 c2 n45 n95

set_option maxRecDepth 100000 in
set_option maxHeartbeats 1600000 in
theorem namedR (s : ByteArray) (w : World) (hs : s.size ≤ 10000) : Calls Tryd.prog 25 #[.string s] w (NmPost s w) := by
  have HSZ := Lib.hid hs
  have hsI : (s.size : Int) ≤ 10000 := by omega
  clear hs
  by_cases h1I : (s.size : Int) < 1
  · have HN : Hid (¬ Nm s) := Lib.hid (fun h => by have := h.1; omega)
    go_enter Tryd.func25, Tryd.ntmps25
    go_wp2
    go_returns
    exact .inr ⟨rfl, rfl, HN.out⟩
  by_cases h2I : 16 < (s.size : Int)
  · have HN : Hid (¬ Nm s) := Lib.hid (fun h => by have := h.2.1; omega)
    go_enter Tryd.func25, Tryd.ntmps25
    go_wp2
    go_returns
    exact .inr ⟨rfl, rfl, HN.out⟩
  have HB : Hid (1 ≤ s.size ∧ s.size ≤ 16) := Lib.hid (by omega)
  go_enter Tryd.func25, Tryd.ntmps25
  go_wp2
  clear h1I h2I
  go_loopw [3] (fun i wr => ∃ j : Nat, j ≤ s.size ∧ i = .int .i64 j ∧ w = wr ∧ Hid (∀ p, p < j → okc (ch s p))) (fun i _ => s.size - (intOf i).toNat)
  case atStart => exact ⟨0, Nat.zero_le _, rfl, rfl, Lib.hid (fun p h => by omega)⟩
  case round =>
    obtain ⟨j, hj, rfl, rfl, hr⟩ := hrel
    by_cases hlt : j < s.size
    · have hltI : (j : Int) < s.size := by omega
      have hb1 : (s[j].toNat : Int) < 256 := by have := s[j].toNat_lt; omega
      have HC := Lib.hid (ch_in hlt)
      have HLT := Lib.hid hlt
      clear hj
      go_upto_region 7 with (fail)
      have hb0 : 0 ≤ (s[j].toNat : Int) := by omega
      generalize (s[j].toNat : Int) = c at *
      clear hlt
      by_cases hok : okc c
      · have HR : Hid (∀ p, p < j + 1 → okc (ch s p)) := Lib.hid (fun p hp => by
          rcases Nat.lt_or_ge p j with h | h
          · exact hr.out p h
          · obtain rfl : p = j := by omega
            rw [HC.out]; exact hok)
        clear hr HC
        refine okc_cases c _ ?_ ?_ ?_ ?_ hok <;> clear hok
        · intro c1 c2
          go_wp2
          exact ⟨⟨j + 1, HLT.out, by go_num, by first | trivial | rfl, HR⟩, by have := HLT.out; simp [intOf]; omega⟩
        · intro c0 c1 c2
          go_wp2
          exact ⟨⟨j + 1, HLT.out, by go_num, by first | trivial | rfl, HR⟩, by have := HLT.out; simp [intOf]; omega⟩
        · rintro rfl
          go_wp2
          exact ⟨⟨j + 1, HLT.out, by go_num, by first | trivial | rfl, HR⟩, by have := HLT.out; simp [intOf]; omega⟩
        · rintro rfl
          go_wp2
          exact ⟨⟨j + 1, HLT.out, by go_num, by first | trivial | rfl, HR⟩, by have := HLT.out; simp [intOf]; omega⟩
      · have HNO : Hid (¬ Nm s) := Lib.hid (fun h => hok (by have := h.2.2 j HLT.out; rw [HC.out] at this; exact this))
        clear hr HC
        refine noc_cases c _ ?_ ?_ ?_ hok <;> clear hok
        · intro c1 c2 c3 c4 c5 c6
          go_wp2
          go_returns
          exact .inr ⟨rfl, rfl, HNO.out⟩
        · intro c1 c2 c3 c4 c5
          go_wp2
          go_returns
          exact .inr ⟨rfl, rfl, HNO.out⟩
        · intro c1 c2 c3 c4
          go_wp2
          go_returns
          exact .inr ⟨rfl, rfl, HNO.out⟩
    · obtain rfl : j = s.size := by omega
      have HN : Hid (Nm s) := Lib.hid ⟨HB.out.1, HB.out.2, hr.out⟩
      clear hr hlt hj HB
      go_wp2
      go_returns
      exact .inl ⟨rfl, rfl, HN.out⟩
set_option maxRecDepth 100000 in
set_option maxHeartbeats 1600000 in
theorem namedX (s : ByteArray) (w : World) (hs : s.size ≤ 10000) : Calls Tryd.prog 24 #[.string s] w (NmPostX s w) := by
  have HSZ := Lib.hid hs
  have hsI : (s.size : Int) ≤ 10000 := by omega
  clear hs
  by_cases h1I : (s.size : Int) < 1
  · have HN : Hid (¬ Nm s) := Lib.hid (fun h => by have := h.1; omega)
    go_enter Tryd.func24, Tryd.ntmps24
    go_wp2
    go_returns
    exact ⟨_, rfl, Below.refl _ _, .inr ⟨rfl, HN.out⟩⟩
  by_cases h2I : 16 < (s.size : Int)
  · have HN : Hid (¬ Nm s) := Lib.hid (fun h => by have := h.2.1; omega)
    go_enter Tryd.func24, Tryd.ntmps24
    go_wp2
    go_returns
    exact ⟨_, rfl, Below.refl _ _, .inr ⟨rfl, HN.out⟩⟩
  have HB : Hid (1 ≤ s.size ∧ s.size ≤ 16) := Lib.hid (by omega)
  obtain ⟨g, cp, w1, hconv, hb1, hcell⟩ := conv_str w s
  have HB1 := Lib.hid hb1; have HCELL := Lib.hid hcell
  clear hb1 hcell
  go_enter Tryd.func24, Tryd.ntmps24
  go_wp2
  clear h1I h2I hconv
  go_loopw [16] (fun i wr => ∃ j : Nat, j ≤ s.size ∧ i = .int .i64 j ∧ w1 = wr ∧ Hid (∀ p, p < j → okc (ch s p))) (fun i _ => s.size - (intOf i).toNat)
  case atStart => exact ⟨0, Nat.zero_le _, rfl, rfl, Lib.hid (fun p h => by omega)⟩
  case round =>
    obtain ⟨j, hj, rfl, rfl, hr⟩ := hrel
    by_cases hlt : j < s.size
    · have hltI : (j : Int) < s.size := by omega
      have hld := HCELL.out j hlt
      have HLT := Lib.hid hlt
      clear hj hlt
      go_upto_region 6 with (fail)
      have hb0 := ch_pos HLT.out
      have hb1 := (ch_lt s j).2
      have HC : Hid (ch s j = ch s j) := rfl
      generalize hcc : ch s j = c at *
      have HC : Hid (ch s j = c) := hcc
      clear hcc hld
      by_cases hok : okc c
      · have HR : Hid (∀ p, p < j + 1 → okc (ch s p)) := Lib.hid (fun p hp => by
          rcases Nat.lt_or_ge p j with h | h
          · exact hr.out p h
          · obtain rfl : p = j := by omega
            rw [HC.out]; exact hok)
        clear hr HC
        refine okc_cases c _ ?_ ?_ ?_ ?_ hok <;> clear hok
        · intro c1 c2
          go_wp2
          exact ⟨⟨j + 1, HLT.out, by go_num, by first | trivial | rfl, HR⟩, by have := HLT.out; simp [intOf]; omega⟩
        · intro c0 c1 c2
          go_wp2
          exact ⟨⟨j + 1, HLT.out, by go_num, by first | trivial | rfl, HR⟩, by have := HLT.out; simp [intOf]; omega⟩
        · rintro rfl
          go_wp2
          exact ⟨⟨j + 1, HLT.out, by go_num, by first | trivial | rfl, HR⟩, by have := HLT.out; simp [intOf]; omega⟩
        · rintro rfl
          go_wp2
          exact ⟨⟨j + 1, HLT.out, by go_num, by first | trivial | rfl, HR⟩, by have := HLT.out; simp [intOf]; omega⟩
      · have HNO : Hid (¬ Nm s) := Lib.hid (fun h => hok (by have := h.2.2 j HLT.out; rw [HC.out] at this; exact this))
        clear hr HC
        have n45 : (c != 45) = true := by rw [bne_iff_ne]; intro e; exact hok (.inr (.inr (.inl e)))
        have n95 : (c != 95) = true := by rw [bne_iff_ne]; intro e; exact hok (.inr (.inr (.inr e)))
        refine noc_cases c _ ?_ ?_ ?_ hok <;> clear hok
        · intro c1 c2 c3 c4 _ _
          go_wp2
          go_returns
          exact ⟨_, rfl, HB1.out, .inr ⟨rfl, HNO.out⟩⟩
        · intro c1 c2 c3 _ _
          go_wp2
          go_returns
          exact ⟨_, rfl, HB1.out, .inr ⟨rfl, HNO.out⟩⟩
        · intro c1 c2 _ _
          go_wp2
          go_returns
          exact ⟨_, rfl, HB1.out, .inr ⟨rfl, HNO.out⟩⟩
    · obtain rfl : j = s.size := by omega
      have HN : Hid (Nm s) := Lib.hid ⟨HB.out.1, HB.out.2, hr.out⟩
      clear hr hlt hj HB
      go_wp2
      go_returns
      exact ⟨_, rfl, HB1.out, .inl ⟨rfl, HN.out⟩⟩
end Go.Proofs.YtaafmfooommepaaDoor
