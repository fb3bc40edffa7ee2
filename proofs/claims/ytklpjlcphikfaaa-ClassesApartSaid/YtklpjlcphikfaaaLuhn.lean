/- The walks of package luhn and of the document's sum. -/
import Derived.Test.YtklpjlcphikfaaaBase
import Derived.Test.YtklpjlcphikfaaaLuhnPlain
import Derived.Test.YtklpjlcphikfaaaRead
import Derived.Lib.SlBytesConst
import Derived.Laws.AppendOwn
import Derived.Laws.AppendOwnNone
import Derived.OpenShut
set_option linter.unusedVariables false
set_option linter.unusedSimpArgs false
namespace Go.Proofs.Ytklpjlcphikfaaa
open Go.RowKit Luhn

/-- A slice of bytes that is read: nil, or a row of cells. -/
def RdB (w : World) (v : Value) (xs : List Int) : Prop :=
  (xs = [] ∧ ∃ a c, v = .slice a 0 c) ∨ ∃ b off cap, v = .slice (some ⟨b, off, none⟩) xs.length cap ∧ xs.length ≤ cap ∧ xs.length ≤ 140737488355328 ∧
    (∀ j, j < xs.length → w.cell? ⟨b, off + j, none⟩ = some (.int .u8 (xs.getD j 0))) ∧ (∀ j, 0 ≤ xs.getD j 0 ∧ xs.getD j 0 ≤ 255)

set_option maxHeartbeats 800000 in
theorem sum_any (v : Value) (xs : List Int) (w : World) (h : RdB w v xs) :
    Calls Try.prog 21 #[v] w fun e w' => e = .returned (.tuple #[.int .i64 (luhn xs).1, .int .i64 (luhn xs).2]) ∧ w' = w := by
  rcases h with ⟨rfl, a, c, rfl⟩ | ⟨b, off, cap, rfl, hcap, hmax, hc, hb⟩
  · go_enter Try.func21, Try.ntmps21
    go_wp2
    refine wp_loop_rounds 1 ?_; rw [rounds_succ]
    go_wp2
    go_returns
    exact ⟨rfl, rfl⟩
  · have HC := Lib.hid hc; have HB := Lib.hid hb; clear hc hb
    go_enter Try.func21, Try.ntmps21
    go_wp2
    go_loop [4, 5, 6] (fun n s i => ∃ k : Nat, k ≤ xs.length ∧ i = .int .i64 ((k : Int) - 1) ∧ n = .int .i64 (luhn (xs.drop k)).1 ∧ s = .int .i64 (luhn (xs.drop k)).2) (fun _ _ i => (intOf i + 1).toNat)
    case atStart => exact ⟨xs.length, Nat.le_refl _, rfl, by simp [luhn_nil], by simp [luhn_nil]⟩
    case round =>
      obtain ⟨k, hk, rfl, hn, hs⟩ := hrel
      cases k with
      | zero =>
        subst hn; subst hs
        go_wp2
        go_returns
        exact ⟨by simp, rfl⟩
      | succ m =>
        have hm : m < xs.length := by omega
        have hcm := HC.out m hm
        obtain ⟨hb0, hb1⟩ := HB.out m
        have hd := luhn_drop xs m hm
        have hx : xs[m] = xs.getD m 0 := by rw [List.getD_eq_getElem?_getD, List.getElem?_eq_getElem hm]; rfl
        rw [hx] at hd
        have hbd := luhn_bd (xs.drop (m + 1))
        simp only [List.length_drop] at hbd
        generalize luhn (xs.drop (m + 1)) = st at *
        generalize xs.getD m 0 = c at *
        obtain ⟨n, s⟩ := st
        subst hn; subst hs
        simp only at hbd
        obtain ⟨hn0, hn1, hs0, hs1⟩ := hbd
        have hn2 : n ≤ 140737488355328 := by omega
        have HD := Lib.hid hd; clear hd hx
        by_cases h1 : c < 48
        · go_wp2
          exact ⟨⟨m, by omega, by simp, by rw [HD.out, lstep, if_pos (by omega)], by rw [HD.out, lstep, if_pos (by omega)]⟩, by simp [intOf]⟩
        · by_cases h2 : 57 < c
          · go_wp2
            exact ⟨⟨m, by omega, by simp, by rw [HD.out, lstep, if_pos (by omega)], by rw [HD.out, lstep, if_pos (by omega)]⟩, by simp [intOf]⟩
          · by_cases h3 : n % 2 = 1
            · have h3b : (n % 2 == 1) = true := by simp [h3]
              have H3 := Lib.hid h3; clear h3
              by_cases h4 : 9 < (c - 48) * 2
              · have E := Lib.hid (show lstep c (n, s) = (n + 1, (s + ((c - 48) * 2 - 9)) % 10) from by unfold lstep ldig; rw [if_neg (by omega), if_pos H3.out, if_pos h4])
                go_wp2
                exact ⟨⟨m, by omega, by simp, by rw [HD.out, E.out], by rw [HD.out, E.out]⟩, by simp [intOf]⟩
              · have E := Lib.hid (show lstep c (n, s) = (n + 1, (s + (c - 48) * 2) % 10) from by unfold lstep ldig; rw [if_neg (by omega), if_pos H3.out, if_neg h4])
                go_wp2
                exact ⟨⟨m, by omega, by simp, by rw [HD.out, E.out], by rw [HD.out, E.out]⟩, by simp [intOf]⟩
            · have h3b : (n % 2 == 1) = false := by simp [h3]
              have H3 := Lib.hid h3; clear h3
              have E := Lib.hid (show lstep c (n, s) = (n + 1, (s + (c - 48)) % 10) from by unfold lstep ldig; rw [if_neg (by omega), if_neg H3.out])
              go_wp2
              exact ⟨⟨m, by omega, by simp, by rw [HD.out, E.out], by rw [HD.out, E.out]⟩, by simp [intOf]⟩

theorem ok_any (v : Value) (xs : List Int) (w : World) (h : RdB w v xs) :
    Calls Try.prog 23 #[v] w fun e w' => e = .returned (.bool (okB xs)) ∧ w' = w := by
  have hs := fun w' (hw : w' = w) => sum_any v xs w' (by rw [hw]; exact h)
  have hbd := luhn_bd xs
  have HB := Lib.hid (show okB xs = (decide (2 ≤ (luhn xs).1) && decide ((luhn xs).2 = 0)) from rfl)
  generalize okB xs = r at *
  generalize luhn xs = st at *
  obtain ⟨n, s⟩ := st
  simp only at hbd hs HB
  obtain ⟨hn0, hn1, hs0, hs1⟩ := hbd
  have HS := Lib.hid hs; clear hs h
  by_cases h1 : 2 ≤ n
  · by_cases h2 : s = 0
    · subst h2
      go_enter Try.func23, Try.ntmps23
      go_wp2_with fail
      refine (HS.out _ rfl).mono ?_; rintro e w' ⟨rfl, rfl⟩
      go_wp2
      go_returns
      exact ⟨ret_bool (by rw [HB.out]; simp [h1]), rfl⟩
    · have h2b : (s == 0) = false := by simp [h2]
      go_enter Try.func23, Try.ntmps23
      go_wp2_with fail
      refine (HS.out _ rfl).mono ?_; rintro e w' ⟨rfl, rfl⟩
      go_wp2
      go_returns
      exact ⟨ret_bool (by rw [HB.out]; simp [h2]), rfl⟩
  · go_enter Try.func23, Try.ntmps23
    go_wp2_with fail
    refine (HS.out _ rfl).mono ?_; rintro e w' ⟨rfl, rfl⟩
    go_wp2
    go_returns
    exact ⟨ret_bool (by rw [HB.out, decide_eq_false (by omega)]; rfl), rfl⟩

theorem rdB_cells {W : World} {g T c : Nat} {fr : Nat × Nat} (cs : List Int) (h : W.heap[g]? = some (.cells (cs.map (Value.int .u8)).toArray T fr)) (hc : cs.length ≤ c) (hm : cs.length ≤ 140737488355328) (hb : ∀ x ∈ cs, 0 ≤ x ∧ x ≤ 255) :
    RdB W (.slice (some ⟨g, 0, none⟩) cs.length c) cs := by
  refine .inr ⟨g, 0, c, rfl, hc, hm, fun j hj => ?_, fun j => ?_⟩
  · simp [World.cell?, h, List.getElem?_eq_getElem hj, List.getD_eq_getElem?_getD]
  · by_cases hj : j < cs.length
    · have := hb cs[j] (List.getElem_mem hj)
      simpa [List.getD_eq_getElem?_getD, List.getElem?_eq_getElem hj] using this
    · simp [List.getD_eq_getElem?_getD, List.getElem?_eq_none (Nat.not_lt.1 hj)]
theorem rdB_cells2 {W : World} {g g' T c : Nat} {fr : Nat × Nat} (cs : List Int) (hg : g' = g) (h : W.heap[g]? = some (.cells (cs.map (Value.int .u8)).toArray T fr)) (hc : cs.length ≤ c) (hm : cs.length ≤ 140737488355328) (hb : ∀ x ∈ cs, 0 ≤ x ∧ x ≤ 255) :
    RdB W (.slice (some ⟨g', 0, none⟩) cs.length c) cs := by subst hg; exact rdB_cells cs h hc hm hb
theorem rdB_below {W W1 : World} {v : Value} {xs : List Int} (h : RdB W v xs) (hb : Below W.heap.size W W1) : RdB W1 v xs := by
  rcases h with h | ⟨b, off, cap, rfl, hcap, hmax, hc, hbd⟩
  · exact .inl h
  · exact .inr ⟨b, off, cap, rfl, hcap, hmax, fun j hj => (hb.cell (World.block_lt_of_cell? W _ (hc j hj))).trans (hc j hj), hbd⟩
theorem conv_const {P : Program} (w : World) (t e : TypeId) (C : Array Value) (n c g : Nat) (hg : g = w.heap.size) (ht : P.underlying t = some (.slice e)) (he : P.underlying e = some (.int .u8)) :
    (convert t t (.slice (some ⟨g, 0, none⟩) n c)).run P (w.alloc (.cells C e)) = .ok (.slice (some ⟨g, 0, none⟩) n c) (w.alloc (.cells C e (C.size, C.size + 1))) := by
  subst hg; exact Lib.run_convert_bytes_const w t e C n c ht he
set_option maxRecDepth 100000 in
set_option maxHeartbeats 1600000 in
theorem up08_any (w : World) : Calls Try.prog 20 #[] w fun e w' => e = .returned (.bool true) ∧ Below w.heap.size w w' := by
  have k1 := fun (C : Array Value) (n c : Nat) => conv_const (P := Try.prog) w 36 5 C n c w.heap.size rfl Try.underlying36 Try.underlying5
  have k2 := fun (o : Obj) (C : Array Value) (n c : Nat) => conv_const (P := Try.prog) (w.alloc o) 36 5 C n c (w.heap.size + 1) (by simp) Try.underlying36 Try.underlying5
  have k3 := fun (o o' : Obj) (C : Array Value) (n c : Nat) => conv_const (P := Try.prog) ((w.alloc o).alloc o') 36 5 C n c (w.heap.size + 1 + 1) (by simp) Try.underlying36 Try.underlying5
  have o1 : Hid (okB [52, 49, 49, 49, 49, 49, 49, 49, 49, 49, 49, 49, 49, 49, 49, 49] = true) := Lib.hid (by decide +kernel)
  have o2 : Hid (okB [52, 49, 49, 49, 49, 49, 49, 49, 49, 49, 49, 49, 49, 49, 49, 50] = false) := Lib.hid (by decide +kernel)
  have o3 : Hid (okB [48] = false) := Lib.hid (by decide +kernel)
  go_enter Try.func20, Try.ntmps20
  go_wp2_with fail
  refine (ok_any _ [52, 49, 49, 49, 49, 49, 49, 49, 49, 49, 49, 49, 49, 49, 49, 49] _ ?_).mono ?_
  · exact rdB_cells2 [52, 49, 49, 49, 49, 49, 49, 49, 49, 49, 49, 49, 49, 49, 49, 49] (by simp) (heap_alloc_new _ _) (Nat.le_refl _) (by decide) (by decide)
  rintro e w' ⟨rfl, rfl⟩
  rw [o1.out]
  go_wp2_with fail
  refine (ok_any _ [52, 49, 49, 49, 49, 49, 49, 49, 49, 49, 49, 49, 49, 49, 49, 50] _ ?_).mono ?_
  · exact rdB_cells2 [52, 49, 49, 49, 49, 49, 49, 49, 49, 49, 49, 49, 49, 49, 49, 50] (by simp) (heap_alloc_new _ _) (Nat.le_refl _) (by decide) (by decide)
  rintro e w' ⟨rfl, rfl⟩
  rw [o2.out]
  go_wp2_with fail
  refine (ok_any _ [48] _ ?_).mono ?_
  · exact rdB_cells2 [48] (by simp) (heap_alloc_new _ _) (Nat.le_refl _) (by decide) (by decide)
  rintro e w' ⟨rfl, rfl⟩
  rw [o3.out]
  go_wp2
  go_returns
  exact ⟨rfl, by go_grown⟩

/-! ### the document's sum -/
theorem Try.info3i : (Try.prog.info? 3).map (fun i => (i.zero, i.size, i.bytes)) = some (some (.int .i64 0), 1, 8) := by kernel_rfl
theorem addr_zero (g j : Nat) : (⟨g, 0, none⟩ : Addr).add j = ⟨g, j, none⟩ := by unfold Addr.add; split <;> simp_all
theorem take_snoc (xs : List Int) (k : Nat) (h : k < xs.length) : xs.take (k + 1) = xs.take k ++ [xs.getD k 0] := by
  rw [List.take_succ_eq_append_getElem h]; simp [List.getD_eq_getElem?_getD, List.getElem?_eq_getElem h]
/-- the loop over the digits: what it has summed -/
theorem dsum_take (l : List Int) (k : Nat) (h : k < l.length) : dsum 0 (l.take (k + 1)) = dsum 0 (l.take k) + dd k (l.getD k 0) := by
  rw [take_snoc l k h, dsum_append]; simp [dsum, Nat.min_eq_left (Nat.le_of_lt h)]
set_option maxHeartbeats 1600000 in
theorem refSum_any (v : Value) (xs : List Int) (w : World) (h : RdB w v xs) (hl : xs.length ≤ 1000) :
    Calls Try.prog 22 #[v] w fun e w' => e = .returned (.tuple #[.int .i64 (luhn xs).1, .int .i64 (luhn xs).2]) ∧ Below w.heap.size w w' := by
  rw [luhn_eq]
  obtain ⟨i0, hi, hz0, hz1, hz2⟩ := info_parts Try.info3i
  rcases h with ⟨rfl, a, c, rfl⟩ | ⟨b, off, cap, rfl, hcap, hmax, hc, hb⟩
  · go_enter Try.func22, Try.ntmps22
    go_wp2
    refine wp_loop_rounds 1 ?_; rw [rounds_succ]
    go_wp2
    refine wp_loop_rounds 1 ?_; rw [rounds_succ]
    go_wp2
    go_returns
    exact ⟨rfl, by go_grown⟩
  · have HC := Lib.hid hc; have HB := Lib.hid hb; have HI := Lib.hid hi; have HZ0 := Lib.hid hz0; have HZ1 := Lib.hid hz1; have HZ2 := Lib.hid hz2; clear hc hb hi hz0 hz1 hz2
    go_enter Try.func22, Try.ntmps22
    go_wp2
    go_loopw [4, 5] (fun dv i wr => ∃ k : Nat, k ≤ xs.length ∧ i = .int .i64 k ∧ Below w.heap.size w wr ∧ wr.ownsRow w.heap.size 3 1 dv (digs (xs.take k)).length ((digs (xs.take k)).map (Value.int .i64))) (fun _ i _ => xs.length - (intOf i).toNat)
    case atStart => exact ⟨0, Nat.zero_le _, rfl, Below.refl _ _, by simp [digs_nil], .inl ⟨rfl, by simp [digs_nil]⟩⟩
    case round =>
      obtain ⟨k, hk, rfl, hbl, hown⟩ := hrel
      by_cases hlt : k < xs.length
      · have hck := HC.out k hlt
        obtain ⟨hb0, hb1⟩ := HB.out k
        have hts := take_snoc xs k hlt
        have hlb : b < w.heap.size := World.block_lt_of_cell? w _ hck
        have hck' : wr.cell? ⟨b, off + k, none⟩ = some (.int .u8 (xs.getD k 0)) := (hbl.cell (p := ⟨b, off + k, none⟩) hlb).trans hck
        have hdl := digs_len (xs.take k)
        have htl : (xs.take k).length = k := by simp; omega
        have hsz := hbl.size
        have hdk : (digs (xs.take k)).length ≤ 1000 := by omega
        clear hck
        generalize xs.getD k 0 = c at *
        by_cases h1 : 48 ≤ c
        · by_cases h2 : c ≤ 57
          · have hds := digs_snoc_yes (xs.take k) c h1 h2
            rw [← hts] at hds
            have HDS := Lib.hid hds; have HT := Lib.hid hts; have HBL := Lib.hid hbl; have HO := Lib.hid hown; clear hts hbl hown htl hds
            generalize digs (xs.take k) = l at *
            rcases HO.out.2 with ⟨rfl, hn0⟩ | ⟨g, cp, cur, rfl, hg, hh, hnc, hcm, hcs, hct⟩
            · obtain rfl : l = [] := List.eq_nil_of_length_eq_zero hn0
              clear hn0
              go_wp2_with (at_builtin; refine wpList_append_own_none rfl _ _ 83 rfl w.heap.size 3 i0 1 Try.underlying83 HI.out _ 1 [.int .i64 (c - 48)] rfl ?c0 rfl ?_)
              case c0 => exact ⟨rfl, .inr ⟨wr.heap.size, 1, _, rfl, by omega, heap_alloc_new _ _, by omega, by decide, rfl, rfl⟩⟩
              case roundEnd => exact ⟨⟨k + 1, by omega, by go_num, HBL.out.alloc hsz _, by rw [HDS.out]; exact ⟨rfl, .inr ⟨wr.heap.size, 1, _, rfl, by omega, heap_alloc_new _ _, by simp, by decide, rfl, rfl⟩⟩⟩, by simp [intOf]; omega⟩
            · have hcells : ∀ j u, (l.map (Value.int .i64))[j]? = some u → wr.cell? ((⟨g, 0, none⟩ : Addr).add j) = some u := fun j u hu => by
                have hj := (List.getElem?_eq_some_iff.1 hu).1
                rw [addr_zero]
                rw [← hct] at hu
                have : cur[j]? = some u := by
                  rw [List.getElem?_take] at hu
                  split at hu
                  · simpa using hu
                  · cases hu
                simp [World.cell?, hh, this]
              have HCE := Lib.hid hcells; have HH := Lib.hid hh; clear hcells hh hct hcs
              go_wp2_with (at_builtin; go_must (refine wpList_append_own _ rfl _ _ 83 rfl w.heap.size 3 i0 (.int .i64 0) 1 8 Try.underlying83 HI.out HZ0.out HZ1.out HZ2.out rfl (by decide) _ 1 [.int .i64 (c - 48)] rfl ?c0 ⟨g, 0, none⟩ l.length cp (l.map (Value.int .i64)) rfl ?c1 ?c2 ?c3 ?c4 ?c5 ?c6 ?_); go_must (rotate_right; intro v' w' hown' hgr' hnil'; clear hnil'))
              case c0 => exact ⟨rfl, .inr ⟨wr.heap.size, 1, _, rfl, by omega, heap_alloc_new _ _, by omega, by decide, rfl, rfl⟩⟩
              case c1 => simp
              case c2 => exact fun j u hu => Lib.cell?_alloc_marked _ (HCE.out j u hu)
              case c3 => intro u hu; simp only [List.mem_map] at hu; obtain ⟨x, _, rfl⟩ := hu; rfl
              case c4 => unfold maxLen; omega
              case c5 => omega
              case c6 => simp; omega
              case roundEnd => exact ⟨⟨k + 1, by omega, by go_num, (HBL.out.alloc hsz _).grown hgr' (by simp; omega) (fun q hq => by have h' : wr.heap.size = q := Option.some.inj hq; omega), by rw [HDS.out]; simpa [Nat.add_comm] using hown'⟩, by simp [intOf]; omega⟩
          · have hds := digs_snoc_no (xs.take k) c (.inr (by omega))
            rw [← hts] at hds
            have HDS := Lib.hid hds; have HBL := Lib.hid hbl; have HO := Lib.hid hown; clear hts hbl hown htl hds
            go_wp2
            exact ⟨⟨k + 1, by omega, by go_num, HBL.out, by rw [HDS.out]; exact HO.out⟩, by simp [intOf]; omega⟩
        · have hds := digs_snoc_no (xs.take k) c (.inl (by omega))
          rw [← hts] at hds
          have HDS := Lib.hid hds; have HBL := Lib.hid hbl; have HO := Lib.hid hown; clear hts hbl hown htl hds
          go_wp2
          exact ⟨⟨k + 1, by omega, by go_num, HBL.out, by rw [HDS.out]; exact HO.out⟩, by simp [intOf]; omega⟩
      · obtain rfl : k = xs.length := by omega
        rw [List.take_length] at hown
        have hdm := digs_mem xs
        have hdl := digs_len xs
        generalize hL : digs xs = l at hown hdm hdl
        have HL := Lib.hid hL; clear hL
        have HBL := Lib.hid hbl; have HDM := Lib.hid hdm; clear hbl hdm hlt HC HB
        rcases hown.2 with ⟨rfl, hn0⟩ | ⟨g, cp, cur, rfl, hg, hh, hnc, hcm, hcs, hct⟩
        · obtain rfl : l = [] := List.eq_nil_of_length_eq_zero hn0
          clear hn0 hown
          go_wp2
          refine wp_loop_rounds 1 ?_; rw [rounds_succ]
          go_wp2
          go_returns
          exact ⟨by rw [HL.out]; rfl, HBL.out⟩
        · have hcells : ∀ j, j < l.length → wr.cell? ⟨g, j, none⟩ = some (.int .i64 (l.getD j 0)) := fun j hj => by
            have hu : (cur.toList.take (l.length * 1))[j]? = some (Value.int .i64 (l.getD j 0)) := by
              rw [hct]; simp [List.getElem?_eq_getElem hj, List.getD_eq_getElem?_getD]
            have : cur[j]? = some (Value.int .i64 (l.getD j 0)) := by
              rw [List.getElem?_take] at hu
              split at hu
              · simpa using hu
              · cases hu
            simp [World.cell?, hh, this]
          have HCE := Lib.hid hcells
          clear hcells hh hct hcs hown
          go_wp2
          go_loop [6, 7] (fun s i => ∃ k : Nat, k ≤ l.length ∧ i = .int .i64 k ∧ s = .int .i64 (dsum 0 (l.take k))) (fun _ i => l.length - (intOf i).toNat)
          case atStart => exact ⟨0, Nat.zero_le _, rfl, rfl⟩
          case round =>
            obtain ⟨k, hk, rfl, hs⟩ := hrel
            have hbd := dsum_bd (l.take k) (fun d hd => HDM.out d (List.mem_of_mem_take hd)) 0
            have hlk : (l.take k).length ≤ 1000 := by simp; omega
            by_cases hlt : k < l.length
            · have hck := HCE.out k hlt
              have hdk : 0 ≤ l.getD k 0 ∧ l.getD k 0 ≤ 9 := by
                have := HDM.out l[k] (List.getElem_mem hlt)
                simpa [List.getD_eq_getElem?_getD, List.getElem?_eq_getElem hlt] using this
              have HDT := Lib.hid (dsum_take l k hlt)
              generalize dsum 0 (l.take k) = s0 at *
              generalize l.getD k 0 = d at *
              obtain ⟨hd0, hd9⟩ := hdk
              obtain ⟨hs0, hs1⟩ := hbd
              have hs2 : s0 ≤ 9000 := by omega
              subst hs
              by_cases h3 : (k : Int) % 2 = 1
              · have h3b : ((k : Int) % 2 == 1) = true := by simp [h3]
                have h3n : k % 2 = 1 := by omega
                have H3 := Lib.hid h3n; clear h3 h3n
                by_cases h4 : 9 < 2 * d
                · go_wp2
                  exact ⟨⟨k + 1, by omega, by go_num, by rw [HDT.out, dd, if_pos H3.out, if_pos h4]⟩, by simp [intOf]; omega⟩
                · go_wp2
                  exact ⟨⟨k + 1, by omega, by go_num, by rw [HDT.out, dd, if_pos H3.out, if_neg h4]⟩, by simp [intOf]; omega⟩
              · have h3b : ((k : Int) % 2 == 1) = false := by simp [h3]
                have h3n : ¬ k % 2 = 1 := by omega
                have H3 := Lib.hid h3n; clear h3 h3n
                go_wp2
                exact ⟨⟨k + 1, by omega, by go_num, by rw [HDT.out, dd, if_neg H3.out]⟩, by simp [intOf]; omega⟩
            · obtain rfl : k = l.length := by omega
              rw [List.take_length] at hs hbd
              generalize hS : dsum 0 l = s0 at hs hbd
              obtain ⟨hs0, hs1⟩ := hbd
              subst hs
              have HS := Lib.hid hS; clear hS
              go_wp2
              go_returns
              exact ⟨by rw [HL.out, HS.out]; simp, HBL.out⟩
theorem refOk_any (v : Value) (xs : List Int) (w : World) (h : RdB w v xs) (hl : xs.length ≤ 1000) :
    Calls Try.prog 24 #[v] w fun e w' => e = .returned (.bool (okB xs)) ∧ Below w.heap.size w w' := by
  have hs := fun w' (hw : w' = w) => refSum_any v xs w' (by rw [hw]; exact h) hl
  have hbd := luhn_bd xs
  have HB := Lib.hid (show okB xs = (decide (2 ≤ (luhn xs).1) && decide ((luhn xs).2 = 0)) from rfl)
  generalize okB xs = r at *
  generalize luhn xs = st at *
  obtain ⟨n, s⟩ := st
  simp only at hbd hs HB
  obtain ⟨hn0, hn1, hs0, hs1⟩ := hbd
  have HS := Lib.hid hs; clear hs h
  by_cases h1 : 2 ≤ n
  · by_cases h2 : s = 0
    · subst h2
      go_enter Try.func24, Try.ntmps24
      go_wp2_with fail
      refine (HS.out _ rfl).mono ?_; rintro e w' ⟨rfl, hb⟩
      go_wp2
      go_returns
      exact ⟨ret_bool (by rw [HB.out]; simp [h1]), hb⟩
    · have h2b : (s == 0) = false := by simp [h2]
      go_enter Try.func24, Try.ntmps24
      go_wp2_with fail
      refine (HS.out _ rfl).mono ?_; rintro e w' ⟨rfl, hb⟩
      go_wp2
      go_returns
      exact ⟨ret_bool (by rw [HB.out]; simp [h2]), hb⟩
  · go_enter Try.func24, Try.ntmps24
    go_wp2_with fail
    refine (HS.out _ rfl).mono ?_; rintro e w' ⟨rfl, hb⟩
    go_wp2
    go_returns
    exact ⟨ret_bool (by rw [HB.out, decide_eq_false (by omega)]; rfl), hb⟩

theorem rdB_of {W : World} {v : Value} {xs : List Int} (h : RdK .u8 W v xs) : RdB W v xs := by
  rcases h with h | ⟨b, off, cap, rfl, hcap, hm, hc, hw⟩
  · exact .inl h
  · refine .inr ⟨b, off, cap, rfl, hcap, hm, hc, fun j => ?_⟩
    by_cases hj : j < xs.length
    · have := hw xs[j] (List.getElem_mem hj)
      have h8 := bounds_u8 this
      simp [List.getD_eq_getElem?_getD, List.getElem?_eq_getElem hj]
      omega
    · simp [List.getD_eq_getElem?_getD, List.getElem?_eq_none (Nat.not_lt.1 hj)]
set_option maxHeartbeats 800000 in
theorem luhnTells_walk (v : Value) (xs : List Int) (w : World) (h : RdB w v xs) :
    Calls Try.prog 6 #[v] w fun e w' => e = .returned (.bool true) ∧ Below w.heap.size w w' := by
  have hv : ∃ A c, v = .slice A xs.length c ∧ xs.length ≤ 140737488355328 := by
    rcases h with ⟨rfl, a, c, rfl⟩ | ⟨b, off, cap, rfl, _, hm, _⟩
    · exact ⟨a, c, rfl, by simp⟩
    · exact ⟨_, cap, rfl, hm⟩
  obtain ⟨A, c, rfl, hm⟩ := hv
  have H := Lib.hid h; clear h
  by_cases hl : 1000 < xs.length
  · go_enter Try.func6, Try.ntmps6
    go_wp2_with fail
    refine (up08_any _).mono ?_; rintro e w1 ⟨rfl, hb1⟩
    go_wp2_with fail
    go_returns
    exact ⟨rfl, hb1⟩
  · have hbd := luhn_bd xs
    generalize hst : luhn xs = st at hbd
    obtain ⟨n, s⟩ := st
    have HST := Lib.hid hst; clear hst
    obtain ⟨hn0, hn1, hs0, hs1⟩ := hbd
    simp only at hn0 hn1 hs0 hs1
    generalize hok : okB xs = ok
    have HOK := Lib.hid hok; clear hok
    go_enter Try.func6, Try.ntmps6
    go_wp2_with fail
    refine (up08_any _).mono ?_; rintro e w1 ⟨rfl, hb1⟩
    have H1 := Lib.hid (rdB_below H.out hb1)
    go_wp2_with fail
    refine (sum_any _ xs _ H1.out).mono ?_; rintro e w2 ⟨rfl, rfl⟩
    rw [HST.out]
    go_wp2_with fail
    refine (refSum_any _ xs _ H1.out (by omega)).mono ?_; rintro e w2 ⟨rfl, hb2⟩
    rw [HST.out]
    have H2 := Lib.hid (rdB_below H1.out hb2)
    have HB12 := Lib.hid (hb1.trans (hb2.mono hb1.size)); clear hb1 hb2
    go_wp2_with fail
    refine (ok_any _ xs _ H2.out).mono ?_; rintro e w3 ⟨rfl, rfl⟩
    rw [HOK.out]
    go_wp2_with fail
    refine (refOk_any _ xs _ H2.out (by omega)).mono ?_; rintro e w4 ⟨rfl, hb4⟩
    rw [HOK.out]
    cases ok
    · go_wp2_with fail
      go_returns
      exact ⟨rfl, HB12.out.trans (hb4.mono HB12.out.size)⟩
    · go_wp2_with fail
      go_returns
      exact ⟨rfl, HB12.out.trans (hb4.mono HB12.out.size)⟩
end Go.Proofs.Ytklpjlcphikfaaa
