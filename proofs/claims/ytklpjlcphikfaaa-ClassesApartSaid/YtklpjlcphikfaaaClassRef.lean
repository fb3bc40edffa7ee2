/- The walk of the document's classes. -/
import Derived.Test.YtklpjlcphikfaaaClass
set_option linter.unusedVariables false
set_option linter.unusedSimpArgs false
namespace Go.Proofs.Ytklpjlcphikfaaa
open Go.RowKit Bt
/-- do the first j sets have both bytes or neither? -/
def sameTo (l : List (Nat → Bool)) (x y : Nat) : Nat → Bool
  | 0 => true
  | j + 1 => sameTo l x y j && ((l.getD j (fun _ => false)) x == (l.getD j (fun _ => false)) y)
theorem sameTo_iff (l : List (Nat → Bool)) (x y : Nat) (j : Nat) (hj : j ≤ l.length) : sameTo l x y j = true ↔ ∀ i (h : i < l.length), i < j → l[i] x = l[i] y := by
  induction j with
  | zero => simp [sameTo]
  | succ j ih =>
    have ih := ih (by omega)
    have hjl : j < l.length := by omega
    simp only [sameTo, Bool.and_eq_true, ih, beq_iff_eq, List.getD_eq_getElem?_getD, List.getElem?_eq_getElem hjl, Option.getD_some]
    constructor
    · rintro ⟨h1, h2⟩ i h hi
      rcases Nat.lt_or_eq_of_le (Nat.lt_succ_iff.1 hi) with h3 | h3
      · exact h1 i h h3
      · subst h3; exact h2
    · intro h
      exact ⟨fun i h1 h2 => h i h1 (by omega), h j hjl (by omega)⟩
theorem keyB_iff (l : List (Nat → Bool)) (x y : Nat) : keyB l x = keyB l y ↔ ∀ i (h : i < l.length), l[i] x = l[i] y := by
  unfold keyB
  rw [List.map_inj_left]
  constructor
  · intro h i hi
    have := h l[i] (List.getElem_mem hi)
    cases h1 : l[i] x <;> cases h2 : l[i] y <;> simp [h1, h2] at this <;> rfl
  · intro h f hf
    obtain ⟨i, hi, rfl⟩ := List.getElem_of_mem hf
    rw [h i hi]
theorem sameTo_all (l : List (Nat → Bool)) (x y : Nat) : sameTo l x y l.length = true ↔ keyB l y = keyB l x := by
  rw [sameTo_iff l x y _ (Nat.le_refl _), keyB_iff]
  exact ⟨fun h i hi => (h i hi hi).symm, fun h i hi _ => (h i hi).symm⟩
set_option maxRecDepth 100000 in
set_option maxHeartbeats 2000000 in
theorem refClasses_nil (l : List (Nat → Bool)) (w : World) (ad : Option Addr) (cap : Nat) (h0 : l = []) :
    Calls Try.prog 18 #[.slice ad 0 cap] w fun e w' => e = .returned (.tuple #[.agg (arr fun b => (Cls.num (keyB l) b : Nat)), .int .i64 ((Cls.seen (keyB l) 256).length : Nat)]) ∧ Below w.heap.size w w' := by
  obtain ⟨n, hn0⟩ : ∃ n : Nat, n = 0 := ⟨_, rfl⟩
  have hn : l.length = n := by rw [h0, hn0]; rfl
  have hv : Value.slice ad 0 cap = .slice ad n cap := by rw [hn0]
  rw [hv]
  have hl : n ≤ 1000 := by omega
  have HN0 := Lib.hid hn0
  have HN := Lib.hid hn; clear hn h0 hn0 hv
  have hlI : (n : Int) ≤ 1000 := by omega
  have HL := Lib.hid hl; clear hl
  go_enter Try.func18, Try.ntmps18
  go_wp2_with fail
  go_loopw [5, 6] (fun nv i wr => ∃ k : Nat, k ≤ 256 ∧ i = .int .i64 k ∧ nv = .int .i64 ((Cls.seen (keyB l) k).length : Nat) ∧ AtG wr w.heap.size 27 (arr fun _ => 0) ∧ AtG wr (w.heap.size + 1) 27 (arr fun j => if j < k then (Cls.num (keyB l) j : Nat) else 0) ∧ Below w.heap.size w wr) (fun _ i _ => 256 - (intOf i).toNat)
  case atStart =>
    have hz : (Try.zeroCells27 : Array Value) = arr fun _ => 0 := arr_zero
    rw [hz]
    refine ⟨0, by omega, rfl, rfl, (AtG.new w _ _).alloc _, ?_, by go_grown⟩
    have e : (arr fun j => if j < 0 then ((Cls.num (keyB l) j : Nat) : Int) else 0) = arr fun _ => 0 := arr_ext fun i _ => by simp
    rw [e]
    have := (AtG.new (w.alloc (.cells (arr fun _ => 0) 27)) 27 (arr fun _ => 0))
    simpa using this
  case round =>
    obtain ⟨k, hk, rfl, rfl, hr0, hr1, hbl⟩ := hrel
    by_cases hlt : k < 256
    · have hkI : (k : Int) < 256 := by omega
      have hsl := Cls.seen_len_le (keyB l) k
      have hslI : ((Cls.seen (keyB l) k).length : Int) ≤ 256 := by omega
      have HK := Lib.hid hk; have HLT := Lib.hid hlt; clear hk hlt hsl
      have HR0 := Lib.hid hr0; have HR1 := Lib.hid hr1; have HBL := Lib.hid hbl
      clear hr0 hr1 hbl
      go_wp2_with fail
      obtain ⟨wo, rfl⟩ : ∃ wo : World, wo = wr := ⟨_, rfl⟩
      go_loopw [7, 8] (fun fv i wx => ∃ c : Nat, c ≤ k ∧ i = .int .i64 c ∧ Below wo.heap.size wo wx ∧ ((fv = .int .i64 (-1) ∧ ∀ d, d < c → keyB l d ≠ keyB l k) ∨ (fv = .int .i64 (Cls.num (keyB l) k : Nat) ∧ keyB l k ∈ Cls.seen (keyB l) k))) (fun _ i _ => 256 - (intOf i).toNat)
      case atStart => exact ⟨0, by omega, rfl, Below.refl _ _, .inl ⟨rfl, fun d hd => by omega⟩⟩
      case round =>
        obtain ⟨c, hc, rfl, hbo, hfv⟩ := hrel
        have HBO := Lib.hid hbo; clear hbo
        have hsz := HBL.out.size
        rcases hfv with ⟨rfl, hno⟩ | ⟨rfl, hin⟩
        · by_cases hck : c < k
          · have HNO := Lib.hid hno; clear hno
            go_wp2_with fail
            obtain ⟨wp, rfl⟩ : ∃ wp : World, wp = wr := ⟨_, rfl⟩
            go_loopw [9, 10] (fun sv i wx => ∃ j : Nat, j ≤ n ∧ i = .int .i64 j ∧ sv = .bool (sameTo l k c j) ∧ Below wo.heap.size wo wx) (fun _ i _ => n - (intOf i).toNat)
            case atStart => exact ⟨0, by omega, rfl, rfl, HBO.out⟩
            case round =>
              obtain ⟨j, hj, rfl, rfl, hbp⟩ := hrel
              have HBP := Lib.hid hbp; clear hbp
              by_cases hjn : j < n
              · exact absurd hjn (by have := HN0.out; omega)
              · obtain rfl : j = n := by omega
                have hall := sameTo_all l k c
                rw [HN.out] at hall
                have hd0 := (HR1.out.below HBP.out).cell c _ (arr_get _ c (by have := HLT.out; omega))
                simp only [hck, if_true] at hd0
                cases hs : sameTo l k c j
                · have HNE : Hid (keyB l c ≠ keyB l k) := Lib.hid (fun e => by rw [hall.2 e] at hs; cases hs)
                  clear hall hs
                  go_wp2_with fail
                  exact ⟨⟨c + 1, by omega, by go_num, HBP.out, .inl ⟨rfl, fun d hd => by
                    rcases Nat.lt_or_eq_of_le (Nat.lt_succ_iff.1 hd) with h | h
                    · exact HNO.out d h
                    · rw [h]; exact HNE.out⟩⟩, by simp [intOf]; omega⟩
                · have HEQ : Hid (keyB l c = keyB l k) := Lib.hid (hall.1 hs)
                  have hnm := Cls.num_same HEQ.out
                  rw [hnm] at hd0
                  have HIN := Lib.hid ((Cls.seen_mem (keyB l) k _).2 ⟨c, hck, HEQ.out⟩)
                  clear hall hs hnm
                  go_wp2_with fail
                  exact ⟨⟨c + 1, by omega, by go_num, HBP.out, .inr ⟨rfl, HIN.out⟩⟩, by simp [intOf]; omega⟩
          · obtain rfl : c = k := by omega
            have hnm := Cls.num_new (key := keyB l) (b := c) (fun h => by obtain ⟨d, hd, e⟩ := (Cls.seen_mem _ _ _).1 h; exact hno d hd e)
            have hsn := Cls.seen_new (key := keyB l) (b := c) (fun h => by obtain ⟨d, hd, e⟩ := (Cls.seen_mem _ _ _).1 h; exact hno d hd e)
            have HNM := Lib.hid hnm; have HSN := Lib.hid hsn
            have hd0 := (HR1.out.below HBO.out).cell c _ (arr_get _ c (by have := HLT.out; omega))
            have hd1 := (HR1.out.below HBO.out).frozen c
            simp only [Nat.lt_irrefl, if_false] at hd0
            clear hnm hsn hno hck
            go_wp2_with fail
            exact ⟨⟨c + 1, HLT.out, by go_num, by rw [HSN.out, List.length_append]; go_num, (HR0.out.below HBO.out).far (by simp) _, by rw [← arr_step HNM.out]; exact (HR1.out.below HBO.out).set c _, (HBL.out.trans (HBO.out.mono hsz)).setCell (by simp) _⟩, by have := HLT.out; simp [intOf]; omega⟩
        · have hnm := Cls.num_old hin
          have hsn := Cls.seen_old hin
          have HIN := Lib.hid hin; clear hin
          obtain ⟨m, hm⟩ : ∃ m, Cls.num (keyB l) k = m := ⟨_, rfl⟩
          have hm0 : (0 : Int) ≤ (m : Int) := by omega
          have hd0 := (HR1.out.below HBO.out).cell k _ (arr_get _ k HLT.out)
          have hd1 := (HR1.out.below HBO.out).frozen k
          simp only [Nat.lt_irrefl, if_false] at hd0
          have HSN := Lib.hid hsn; have HM := Lib.hid hm
          clear hnm hsn
          rw [hm]
          clear hm
          by_cases hck : c < k
          · go_wp2_with fail
            exact ⟨⟨k + 1, HLT.out, by go_num, by rw [HSN.out], (HR0.out.below HBO.out).far (by simp) _, by rw [← arr_step HM.out]; exact (HR1.out.below HBO.out).set k _, (HBL.out.trans (HBO.out.mono hsz)).setCell (by simp) _⟩, by have := HLT.out; simp [intOf]; omega⟩
          · go_wp2_with fail
            exact ⟨⟨k + 1, HLT.out, by go_num, by rw [HSN.out], (HR0.out.below HBO.out).far (by simp) _, by rw [← arr_step HM.out]; exact (HR1.out.below HBO.out).set k _, (HBL.out.trans (HBO.out.mono hsz)).setCell (by simp) _⟩, by have := HLT.out; simp [intOf]; omega⟩
    · obtain rfl : k = 256 := by omega
      have e : (arr fun j => if j < 256 then ((Cls.num (keyB l) j : Nat) : Int) else 0) = arr fun j => (Cls.num (keyB l) j : Nat) := arr_ext fun i hi => by rw [if_pos hi]
      rw [e] at hr1
      have HR0 := Lib.hid hr0; have HR1 := Lib.hid hr1; have HBL := Lib.hid hbl
      clear hr0 hr1 hbl e
      go_wp2_with (first | (refine wpList_load_row (o := ⟨some 64, _, _, _, _, _⟩) rfl _ _ rfl (w.heap.size + 1) rfl 27 _ (0, 0) _ HR1.out Try.underlying27 rfl (sizeA _) ?_) | (refine wpList_store_row (o := ⟨none, _, _, _, _, _⟩) rfl _ _ _ rfl w.heap.size _ rfl rfl 27 _ HR0.out (sizeA _) (by rw [arr_size, arr_size]) (arr_one _) ?_))
      have hfin : AtG (wr.setRow w.heap.size (arr fun j => (Cls.num (keyB l) j : Nat))) w.heap.size 27 (arr fun j => (Cls.num (keyB l) j : Nat)) := setRow_heap _ _ _ _ _ _ HR0.out
      exact bodyPost_ret (results_arr rfl _ _ w.heap.size _ _ rfl rfl hfin) rfl ⟨rfl, below_setRow HBL.out (Nat.le_refl _) _⟩
set_option maxRecDepth 100000 in
set_option maxHeartbeats 2000000 in
theorem refClasses_any (v : Value) (l : List (Nat → Bool)) (w : World) (h : RdSets w v l) (hl : l.length ≤ 1000) :
    Calls Try.prog 18 #[v] w fun e w' => e = .returned (.tuple #[.agg (arr fun b => (Cls.num (keyB l) b : Nat)), .int .i64 ((Cls.seen (keyB l) 256).length : Nat)]) ∧ Below w.heap.size w w' := by
  rcases h with ⟨h0, a, c, rfl⟩ | ⟨b, off, cap, rfl, h1, h2, h3, h4⟩
  · exact refClasses_nil l w a c (by cases l with | nil => rfl | cons x r => cases h0)
  obtain ⟨n, hn⟩ : ∃ n, l.length = n := ⟨_, rfl⟩
  simp only [List.length_map, hn] at h1 h2 ⊢
  have H3 := Lib.hid h3; clear h3 h4
  have HN := Lib.hid hn; clear hn
  rw [HN.out] at hl
  have hlI : (n : Int) ≤ 1000 := by omega
  have HL := Lib.hid hl; clear hl
  go_enter Try.func18, Try.ntmps18
  go_wp2_with fail
  go_loopw [5, 6] (fun nv i wr => ∃ k : Nat, k ≤ 256 ∧ i = .int .i64 k ∧ nv = .int .i64 ((Cls.seen (keyB l) k).length : Nat) ∧ AtG wr w.heap.size 27 (arr fun _ => 0) ∧ AtG wr (w.heap.size + 1) 27 (arr fun j => if j < k then (Cls.num (keyB l) j : Nat) else 0) ∧ Below w.heap.size w wr) (fun _ i _ => 256 - (intOf i).toNat)
  case atStart =>
    have hz : (Try.zeroCells27 : Array Value) = arr fun _ => 0 := arr_zero
    rw [hz]
    refine ⟨0, by omega, rfl, rfl, (AtG.new w _ _).alloc _, ?_, by go_grown⟩
    have e : (arr fun j => if j < 0 then ((Cls.num (keyB l) j : Nat) : Int) else 0) = arr fun _ => 0 := arr_ext fun i _ => by simp
    rw [e]
    have := (AtG.new (w.alloc (.cells (arr fun _ => 0) 27)) 27 (arr fun _ => 0))
    simpa using this
  case round =>
    obtain ⟨k, hk, rfl, rfl, hr0, hr1, hbl⟩ := hrel
    by_cases hlt : k < 256
    · have hkI : (k : Int) < 256 := by omega
      have hsl := Cls.seen_len_le (keyB l) k
      have hslI : ((Cls.seen (keyB l) k).length : Int) ≤ 256 := by omega
      have HK := Lib.hid hk; have HLT := Lib.hid hlt; clear hk hlt hsl
      have HR0 := Lib.hid hr0; have HR1 := Lib.hid hr1; have HBL := Lib.hid hbl
      clear hr0 hr1 hbl
      go_wp2_with fail
      obtain ⟨wo, rfl⟩ : ∃ wo : World, wo = wr := ⟨_, rfl⟩
      go_loopw [7, 8] (fun fv i wx => ∃ c : Nat, c ≤ k ∧ i = .int .i64 c ∧ Below wo.heap.size wo wx ∧ ((fv = .int .i64 (-1) ∧ ∀ d, d < c → keyB l d ≠ keyB l k) ∨ (fv = .int .i64 (Cls.num (keyB l) k : Nat) ∧ keyB l k ∈ Cls.seen (keyB l) k))) (fun _ i _ => 256 - (intOf i).toNat)
      case atStart => exact ⟨0, by omega, rfl, Below.refl _ _, .inl ⟨rfl, fun d hd => by omega⟩⟩
      case round =>
        obtain ⟨c, hc, rfl, hbo, hfv⟩ := hrel
        have HBO := Lib.hid hbo; clear hbo
        have hsz := HBL.out.size
        rcases hfv with ⟨rfl, hno⟩ | ⟨rfl, hin⟩
        · by_cases hck : c < k
          · have HNO := Lib.hid hno; clear hno
            go_wp2_with fail
            obtain ⟨wp, rfl⟩ : ∃ wp : World, wp = wr := ⟨_, rfl⟩
            go_loopw [9, 10] (fun sv i wx => ∃ j : Nat, j ≤ n ∧ i = .int .i64 j ∧ sv = .bool (sameTo l k c j) ∧ Below wo.heap.size wo wx) (fun _ i _ => n - (intOf i).toNat)
            case atStart => exact ⟨0, by omega, rfl, rfl, HBO.out⟩
            case round =>
              obtain ⟨j, hj, rfl, rfl, hbp⟩ := hrel
              have HBP := Lib.hid hbp; clear hbp
              by_cases hjn : j < n
              · have hjl : j < l.length := by rw [HN.out]; exact hjn
                obtain ⟨f, hf⟩ : ∃ f, l[j] = f := ⟨_, rfl⟩
                have hrow := H3.out j (cellsOf f).toList (by simp [hjl, hf])
                have hbw : b < w.heap.size := block_lt_of_cell (a := ⟨b, off + j * 4 + 0, none⟩) (hrow 0 (by omega))
                have hcx : ∀ o, wr.cell? ⟨b, o, none⟩ = w.cell? ⟨b, o, none⟩ := fun o => (HBP.out.cell (p := ⟨b, o, none⟩) (show b < wo.heap.size by omega)).trans (HBL.out.cell (p := ⟨b, o, none⟩) hbw)
                have c0 : wr.cell? ⟨b, off + j * 4, none⟩ = some (.int .u64 ((wd f 0 : Nat) : Int)) := (hcx _).trans (hrow 0 (by omega))
                have c1 : wr.cell? ⟨b, off + j * 4 + 1, none⟩ = some (.int .u64 ((wd f 1 : Nat) : Int)) := (hcx _).trans (hrow 1 (by omega))
                have c2 : wr.cell? ⟨b, off + j * 4 + 2, none⟩ = some (.int .u64 ((wd f 2 : Nat) : Int)) := (hcx _).trans (hrow 2 (by omega))
                have c3 : wr.cell? ⟨b, off + j * 4 + 3, none⟩ = some (.int .u64 ((wd f 3 : Nat) : Int)) := (hcx _).trans (hrow 3 (by omega))
                have hsucc : sameTo l k c (j + 1) = (sameTo l k c j && (f k == f c)) := by simp [sameTo, List.getD_eq_getElem?_getD, hjl, hf]
                have HF := Lib.hid hf; have HSC := Lib.hid hsucc
                clear hrow hcx hf hsucc
                have hbr : b < wr.heap.size := by have := HBP.out.size; omega
                go_wp2_with fail
                refine (refHas_any f k _ (by omega) (by omega)).mono ?_; rintro e9 w1 ⟨rfl, hb1⟩
                have d0 := (hb1.cell (p := ⟨b, off + j * 4, none⟩) hbr).trans c0
                have d1 := (hb1.cell (p := ⟨b, off + j * 4 + 1, none⟩) hbr).trans c1
                have d2 := (hb1.cell (p := ⟨b, off + j * 4 + 2, none⟩) hbr).trans c2
                have d3 := (hb1.cell (p := ⟨b, off + j * 4 + 3, none⟩) hbr).trans c3
                have hb2 : Below wo.heap.size wo w1 := HBP.out.trans (hb1.mono HBP.out.size)
                have HB2 := Lib.hid hb2
                clear c0 c1 c2 c3 hb1 hb2
                rw [Int.toNat_natCast]
                go_wp2_with fail
                refine (refHas_any f c _ (by omega) (by omega)).mono ?_; rintro e9 w2 ⟨rfl, hb3⟩
                have HB3 := Lib.hid (HB2.out.trans (hb3.mono HB2.out.size))
                clear d0 d1 d2 d3 hb3
                rw [Int.toNat_natCast]
                generalize f k = p at *
                generalize f c = q at *
                generalize hsm : sameTo l k c j = s at *
                have HSM := Lib.hid hsm; clear hsm
                cases s
                · go_wp2_with fail
                  exact ⟨⟨j + 1, by omega, by go_num, by rw [HSC.out]; rfl, HB3.out⟩, by simp [intOf]; omega⟩
                · go_wp2_with fail
                  exact ⟨⟨j + 1, by omega, by go_num, by rw [HSC.out]; rfl, HB3.out⟩, by simp [intOf]; omega⟩
              · obtain rfl : j = n := by omega
                have hall := sameTo_all l k c
                rw [HN.out] at hall
                have hd0 := (HR1.out.below HBP.out).cell c _ (arr_get _ c (by have := HLT.out; omega))
                simp only [hck, if_true] at hd0
                cases hs : sameTo l k c j
                · have HNE : Hid (keyB l c ≠ keyB l k) := Lib.hid (fun e => by rw [hall.2 e] at hs; cases hs)
                  clear hall hs
                  go_wp2_with fail
                  exact ⟨⟨c + 1, by omega, by go_num, HBP.out, .inl ⟨rfl, fun d hd => by
                    rcases Nat.lt_or_eq_of_le (Nat.lt_succ_iff.1 hd) with h | h
                    · exact HNO.out d h
                    · rw [h]; exact HNE.out⟩⟩, by simp [intOf]; omega⟩
                · have HEQ : Hid (keyB l c = keyB l k) := Lib.hid (hall.1 hs)
                  have hnm := Cls.num_same HEQ.out
                  rw [hnm] at hd0
                  have HIN := Lib.hid ((Cls.seen_mem (keyB l) k _).2 ⟨c, hck, HEQ.out⟩)
                  clear hall hs hnm
                  go_wp2_with fail
                  exact ⟨⟨c + 1, by omega, by go_num, HBP.out, .inr ⟨rfl, HIN.out⟩⟩, by simp [intOf]; omega⟩
          · obtain rfl : c = k := by omega
            have hnm := Cls.num_new (key := keyB l) (b := c) (fun h => by obtain ⟨d, hd, e⟩ := (Cls.seen_mem _ _ _).1 h; exact hno d hd e)
            have hsn := Cls.seen_new (key := keyB l) (b := c) (fun h => by obtain ⟨d, hd, e⟩ := (Cls.seen_mem _ _ _).1 h; exact hno d hd e)
            have HNM := Lib.hid hnm; have HSN := Lib.hid hsn
            have hd0 := (HR1.out.below HBO.out).cell c _ (arr_get _ c (by have := HLT.out; omega))
            have hd1 := (HR1.out.below HBO.out).frozen c
            simp only [Nat.lt_irrefl, if_false] at hd0
            clear hnm hsn hno hck
            go_wp2_with fail
            exact ⟨⟨c + 1, HLT.out, by go_num, by rw [HSN.out, List.length_append]; go_num, (HR0.out.below HBO.out).far (by simp) _, by rw [← arr_step HNM.out]; exact (HR1.out.below HBO.out).set c _, (HBL.out.trans (HBO.out.mono hsz)).setCell (by simp) _⟩, by have := HLT.out; simp [intOf]; omega⟩
        · have hnm := Cls.num_old hin
          have hsn := Cls.seen_old hin
          have HIN := Lib.hid hin; clear hin
          obtain ⟨m, hm⟩ : ∃ m, Cls.num (keyB l) k = m := ⟨_, rfl⟩
          have hm0 : (0 : Int) ≤ (m : Int) := by omega
          have hd0 := (HR1.out.below HBO.out).cell k _ (arr_get _ k HLT.out)
          have hd1 := (HR1.out.below HBO.out).frozen k
          simp only [Nat.lt_irrefl, if_false] at hd0
          have HSN := Lib.hid hsn; have HM := Lib.hid hm
          clear hnm hsn
          rw [hm]
          clear hm
          by_cases hck : c < k
          · go_wp2_with fail
            exact ⟨⟨k + 1, HLT.out, by go_num, by rw [HSN.out], (HR0.out.below HBO.out).far (by simp) _, by rw [← arr_step HM.out]; exact (HR1.out.below HBO.out).set k _, (HBL.out.trans (HBO.out.mono hsz)).setCell (by simp) _⟩, by have := HLT.out; simp [intOf]; omega⟩
          · go_wp2_with fail
            exact ⟨⟨k + 1, HLT.out, by go_num, by rw [HSN.out], (HR0.out.below HBO.out).far (by simp) _, by rw [← arr_step HM.out]; exact (HR1.out.below HBO.out).set k _, (HBL.out.trans (HBO.out.mono hsz)).setCell (by simp) _⟩, by have := HLT.out; simp [intOf]; omega⟩
    · obtain rfl : k = 256 := by omega
      have e : (arr fun j => if j < 256 then ((Cls.num (keyB l) j : Nat) : Int) else 0) = arr fun j => (Cls.num (keyB l) j : Nat) := arr_ext fun i hi => by rw [if_pos hi]
      rw [e] at hr1
      have HR0 := Lib.hid hr0; have HR1 := Lib.hid hr1; have HBL := Lib.hid hbl
      clear hr0 hr1 hbl e
      go_wp2_with (first | (refine wpList_load_row (o := ⟨some 64, _, _, _, _, _⟩) rfl _ _ rfl (w.heap.size + 1) rfl 27 _ (0, 0) _ HR1.out Try.underlying27 rfl (sizeA _) ?_) | (refine wpList_store_row (o := ⟨none, _, _, _, _, _⟩) rfl _ _ _ rfl w.heap.size _ rfl rfl 27 _ HR0.out (sizeA _) (by rw [arr_size, arr_size]) (arr_one _) ?_))
      have hfin : AtG (wr.setRow w.heap.size (arr fun j => (Cls.num (keyB l) j : Nat))) w.heap.size 27 (arr fun j => (Cls.num (keyB l) j : Nat)) := setRow_heap _ _ _ _ _ _ HR0.out
      exact bodyPost_ret (results_arr rfl _ _ w.heap.size _ _ rfl rfl hfin) rfl ⟨rfl, below_setRow HBL.out (Nat.le_refl _) _⟩
end Go.Proofs.Ytklpjlcphikfaaa
