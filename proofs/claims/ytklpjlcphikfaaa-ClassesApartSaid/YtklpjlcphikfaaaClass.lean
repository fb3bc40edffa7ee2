/- The walks of package classes. -/
import Derived.Test.YtklpjlcphikfaaaSet
import Derived.Test.YtklpjlcphikfaaaClassPlain
import Derived.Test.YtklpjlcphikfaaaMapF
import Derived.Test.YtklpjlcphikfaaaRowsIn
import Derived.Test.YtklpjlcphikfaaaMake
import Derived.Laws.CopyOwn
import Derived.Laws.Rows
import Derived.Lib.SlBytesConst
set_option linter.unusedVariables false
set_option linter.unusedSimpArgs false
namespace Go.Proofs.Ytklpjlcphikfaaa
open Go.RowKit Bt
/-- a row of 256 numbers -/
def arr (f : Nat → Int) : Array Value := ((List.range 256).map fun i => Value.int .i64 (f i)).toArray
theorem arr_size (f : Nat → Int) : (arr f).size = 256 := by unfold arr; simp
theorem arr_get (f : Nat → Int) (i : Nat) (h : i < 256) : (arr f)[i]? = some (.int .i64 (f i)) := by unfold arr; simp [h]
theorem arr_set (f : Nat → Int) (i : Nat) (v : Int) : (arr f).setIfInBounds i (.int .i64 v) = arr (fun j => if j = i then v else f j) := by
  refine Array.ext (by simp [arr_size]) fun j h1 h2 => ?_
  have hj : j < 256 := by rw [arr_size] at h2; exact h2
  have e2 := arr_get (fun j => if j = i then v else f j) j hj
  rw [Array.getElem?_eq_getElem h2] at e2
  injection e2 with e2
  rw [e2, Array.getElem_setIfInBounds (by rw [arr_size]; exact hj)]
  have e3 := arr_get f j hj
  rw [Array.getElem?_eq_getElem (by rw [arr_size]; exact hj)] at e3
  injection e3 with e3
  by_cases hji : j = i
  · subst hji; simp
  · rw [if_neg (fun e => hji e.symm), e3]; simp [hji]
theorem arr_ext {f g : Nat → Int} (h : ∀ i, i < 256 → f i = g i) : arr f = arr g := by
  unfold arr; congr 1; exact List.map_congr_left fun i hi => by rw [h i (List.mem_range.1 hi)]
theorem arr_zero : (Try.zeroCells27 : Array Value) = arr fun _ => 0 := by kernel_rfl
/-- sets that came in: a slice of them -/
def RdSets (w : World) (v : Value) (l : List (Nat → Bool)) : Prop := RdRows w v 4 (l.map fun f => (cellsOf f).toList)
/-- what a byte's key is -/
def keyB (l : List (Nat → Bool)) (x : Nat) : List UInt8 := l.map fun f => if f x then 1 else 0
/-- a map from keys to their places in a list -/
def atF (s : List (List UInt8)) : Lit → Option Int
  | .string k => if k ∈ s then some ((Cls.pos s k : Nat) : Int) else none
  | _ => none
/-- the cells of a key that is half made -/
def keyC (l : List (Nat → Bool)) (x j : Nat) : Array Value := ((List.range l.length).map fun i => Value.int .u8 (if i < j ∧ (l.getD i (fun _ => false)) x then 1 else 0)).toArray
theorem keyC_size (l : List (Nat → Bool)) (x j : Nat) : (keyC l x j).size = l.length := by unfold keyC; simp
theorem keyC_get (l : List (Nat → Bool)) (x j i : Nat) (h : i < l.length) : (keyC l x j)[i]? = some (.int .u8 (if i < j ∧ (l.getD i (fun _ => false)) x then 1 else 0)) := by unfold keyC; simp [h]
theorem keyC_zero (l : List (Nat → Bool)) (x : Nat) : keyC l x 0 = Array.replicate l.length (.int .u8 0) := by
  unfold keyC
  refine Array.ext (by simp) fun j h1 h2 => by simp
theorem keyC_set (l : List (Nat → Bool)) (x j : Nat) (hj : j < l.length) (h : l[j] x = true) : (keyC l x j).setIfInBounds j (.int .u8 1) = keyC l x (j + 1) := by
  refine Array.ext (by simp [keyC_size]) fun i h1 h2 => ?_
  have hi : i < l.length := by rw [keyC_size] at h2; exact h2
  have e2 := keyC_get l x (j + 1) i hi
  rw [Array.getElem?_eq_getElem h2] at e2
  injection e2 with e2
  have e3 := keyC_get l x j i hi
  rw [Array.getElem?_eq_getElem (by rw [keyC_size]; exact hi)] at e3
  injection e3 with e3
  rw [e2, Array.getElem_setIfInBounds (by rw [keyC_size]; exact hi)]
  by_cases hji : j = i
  · subst hji
    rw [if_pos rfl, if_pos ⟨by omega, by simpa [List.getD_eq_getElem?_getD, hj] using h⟩]
  · rw [if_neg hji, e3]
    congr 2
    by_cases hc : i < j
    · simp [hc, show i < j + 1 from by omega]
    · simp [hc, show ¬ i < j + 1 from by omega]
theorem keyC_skip (l : List (Nat → Bool)) (x j : Nat) (hj : j < l.length) (h : l[j] x = false) : keyC l x j = keyC l x (j + 1) := by
  unfold keyC
  congr 1
  refine List.map_congr_left fun i hi => ?_
  have hi := List.mem_range.1 hi
  congr 2
  by_cases hc : i < j
  · simp [hc, show i < j + 1 from by omega]
  · by_cases hji : i = j
    · subst hji; simp [h, List.getD_eq_getElem?_getD, hj]
    · simp [hc, show ¬ i < j + 1 from by omega]
theorem zeroInt (w : World) : (zeroValue 3).run Try.prog w = .ok (.int .i64 0) w := by kernel_rfl
theorem keyedS : Maps.Keyed Try.prog 9 := Maps.string_keyed Try.underlying9
theorem keyS (l : List UInt8) (h : l.length ≤ 1000) : keyOf Try.prog 9 (.string ⟨l.toArray⟩) = some (.string l) := by
  have := WideMaps.keyOf_string_mk (P := Try.prog) (k := 9) (s := ⟨l.toArray⟩) Try.underlying9 (by unfold maxLen; show l.toArray.size ≤ _; simp; omega)
  simpa using this
theorem keyB_len (l : List (Nat → Bool)) (x : Nat) : (keyB l x).length = l.length := by unfold keyB; simp
theorem keyC_full (l : List (Nat → Bool)) (x i : Nat) (h : i < (keyB l x).length) : (keyC l x l.length)[i]? = some (.int .u8 ((keyB l x)[i].toNat : Int)) := by
  have hi : i < l.length := by rw [keyB_len] at h; exact h
  rw [keyC_get l x _ i hi]
  have e : (keyB l x)[i] = if l[i] x then 1 else 0 := by unfold keyB; exact List.getElem_map _
  rw [e]
  by_cases hx : l[i] x = true
  · simp [hi, hx, List.getD_eq_getElem?_getD]
  · simp [hi, hx, List.getD_eq_getElem?_getD]
theorem atF_at (s : List (List UInt8)) (k : List UInt8) : atF s (.string k) = if k ∈ s then some ((Cls.pos s k : Nat) : Int) else none := rfl
theorem atF_put (s : List (List UInt8)) (k : List UInt8) (h : ¬ k ∈ s) : ∀ x, WideAt.IsKeyLit x → putF (atF s) (.string k) s.length x = atF (s ++ [k]) x := by
  intro x hx
  by_cases hxk : x = .string k
  · subst hxk
    rw [putF_same hx, atF_at, if_pos (by simp), Cls.pos_new h]
  · rw [putF_other hxk]
    cases x with
    | string z =>
      rw [atF_at, atF_at]
      have hz : z ≠ k := fun e => hxk (by rw [e])
      by_cases hzs : z ∈ s
      · rw [if_pos hzs, if_pos (List.mem_append_left _ hzs), Cls.pos_old _ hzs]
      · rw [if_neg hzs, if_neg (by simp [hzs, hz])]
    | _ => rfl
theorem wf_small (s : Nat) (h : s ≤ 256) : (Lit.int .i64 (s : Int)).wf = true := by
  simp [Lit.wf, IntKind.min, IntKind.max, IntKind.signed, IntKind.bits]; omega
theorem arr_step {key : Nat → List UInt8} {k s : Nat} (h : Cls.num key k = s) : (arr fun j => if j < k then ((Cls.num key j : Nat) : Int) else 0).setIfInBounds k (.int .i64 (s : Nat)) = arr fun j => if j < k + 1 then ((Cls.num key j : Nat) : Int) else 0 := by
  rw [arr_set]
  refine arr_ext fun i _ => ?_
  by_cases h1 : i = k
  · subst h1; simp [h]
  · by_cases h2 : i < k
    · simp [h1, h2, show i < k + 1 from by omega]
    · simp [h1, h2, show ¬ i < k + 1 from by omega]
theorem sizeA (f : Nat → Int) : (Try.prog.info? 27).map (·.size) = some (arr f).size := by rw [arr_size]; kernel_rfl
theorem arr_one (f : Nat → Int) : (arr f).all (·.oneCell') = true := by
  rw [Array.all_eq_true_iff_forall_mem]
  intro x hx
  unfold arr at hx
  simp only [List.mem_toArray, List.mem_map] at hx
  obtain ⟨i, _, rfl⟩ := hx
  rfl
/-- results: a row of 256 numbers that lies in a block, and one slot more -/
theorem results_arr {fn : Func} {p q : Tmp} (h : fn.results = #[.cell p 27, .tmp q]) (tmps : Array Value) (w : World) (g : Nat) (f : Nat → Int) (v : Value)
    (hp : tmps.getD p undef = .pointer (some ⟨g, 0, none⟩)) (hq : tmps.getD q undef = v) (hg : AtG w g 27 (arr f)) :
    (results fn tmps).run Try.prog w = .ok (.tuple #[.agg (arr f), v]) w := by
  have hl := run_loadVar_row (P := Try.prog) w g 27 27 (arr f) (0, 0) _ hg Try.underlying27 rfl (sizeA f)
  have hp' : tmps[p]?.getD undef = .pointer (some ⟨g, 0, none⟩) := by simpa using hp
  have hq' : tmps[q]?.getD undef = v := by simpa using hq
  simp [results, h, hp', hq', asAddr, hl]
theorem infoB : (Try.prog.info? 5).map (fun i => (i.zero, i.size, i.bytes)) = some (some (.int .u8 0), 1, 1) := by kernel_rfl
set_option maxRecDepth 100000 in
set_option maxHeartbeats 1000000 in
theorem classes_nil (l : List (Nat → Bool)) (w : World) (ad : Option Addr) (cap : Nat) (h0 : l = []) :
    Calls Try.prog 17 #[.slice ad 0 cap] w fun e w' => e = .returned (.tuple #[.agg (arr fun b => (Cls.num (keyB l) b : Nat)), .int .i64 ((Cls.seen (keyB l) 256).length : Nat)]) ∧ Below w.heap.size w w' := by
  have hmm := @run_makeMap Try.prog
  obtain ⟨n, hn0⟩ : ∃ n : Nat, n = 0 := ⟨_, rfl⟩
  have hn : l.length = n := by rw [h0, hn0]; rfl
  have hv : Value.slice ad 0 cap = .slice ad n cap := by rw [hn0]
  rw [hv]
  have hl : n ≤ 1000 := by omega
  have HN0 := Lib.hid hn0
  have HN := Lib.hid hn; clear hn h0 hn0 hv
  have hlI : (n : Int) ≤ 1000 := by omega
  have HL := Lib.hid hl; clear hl
  go_enter Try.func17, Try.ntmps17
  go_wp2_with fail
  clear hmm
  have hmk := make_one (P := Try.prog) 36 5 (.int .u8 0) 1 Try.underlying36 infoB rfl .i64 .i64 n (by omega) (by omega)
  have HMK := Lib.hid hmk; clear hmk
  go_loopw [13] (fun i wr => ∃ k : Nat, k ≤ 256 ∧ i = .int .i64 k ∧ AtG wr w.heap.size 27 (arr fun _ => 0) ∧ AtG wr (w.heap.size + 1) 27 (arr fun j => if j < k then (Cls.num (keyB l) j : Nat) else 0) ∧ OwnF wr Try.prog 9 3 .i64 (w.heap.size + 1 + 1) (Cls.seen (keyB l) k).length (atF (Cls.seen (keyB l) k)) ∧ Below w.heap.size w wr) (fun i _ => 256 - (intOf i).toNat)
  case atStart =>
    have hz : (Try.zeroCells27 : Array Value) = arr fun _ => 0 := arr_zero
    rw [hz]
    refine ⟨0, by omega, rfl, ((AtG.new w _ _).alloc _).alloc _, ?_, ?_, by go_grown⟩
    · have e : (arr fun j => if j < 0 then ((Cls.num (keyB l) j : Nat) : Int) else 0) = arr fun _ => 0 := arr_ext fun i _ => by simp
      rw [e]
      have := (AtG.new (w.alloc (.cells (arr fun _ => 0) 27)) 27 (arr fun _ => 0)).alloc (.map #[] 0)
      simpa using this
    · have := (OwnF.made ((w.alloc (.cells (arr fun _ => 0) 27)).alloc (.cells (arr fun _ => 0) 27)) Try.prog 9 3 .i64).ext (g := atF []) (fun k hk => by cases k <;> rfl)
      simpa [Cls.seen] using this
  case round =>
    obtain ⟨k, hk, rfl, hr0, hr1, hmp, hbl⟩ := hrel
    by_cases hlt : k < 256
    · have hkI : (k : Int) < 256 := by omega
      have HK := Lib.hid hk; have HLT := Lib.hid hlt; clear hk hlt
      have HR0 := Lib.hid hr0; have HR1 := Lib.hid hr1; have HMP := Lib.hid hmp; have HBL := Lib.hid hbl
      clear hr0 hr1 hmp hbl
      have hmk := HMK.out
      go_wp2_with fail
      clear hmk
      obtain ⟨wo, rfl⟩ : ∃ wo : World, wo = wr := ⟨_, rfl⟩
      go_loopw [21] (fun i wx => ∃ j : Nat, j ≤ n ∧ i = .int .i64 j ∧ AtG wx wo.heap.size 5 (keyC l k j) ∧ Below wo.heap.size wo wx) (fun i _ => n - (intOf i).toNat)
      case atStart => exact ⟨0, by omega, rfl, by rw [keyC_zero, HN.out]; exact AtG.new wo _ _, by go_grown⟩
      case round =>
        obtain ⟨j, hj, rfl, hkc, hbo⟩ := hrel
        have HKC := Lib.hid hkc; have HBO := Lib.hid hbo; clear hkc hbo
        by_cases hjn : j < n
        · exact absurd hjn (by have := HN0.out; omega)
        · obtain rfl : j = n := by omega
          have hbw' := HBL.out.size
          have hBA : Below w.heap.size w wr := HBL.out.trans (HBO.out.mono HBL.out.size)
          have hkl := keyB_len l k
          have hm := HMP.out.below (w' := wr) HBO.out
          have hr0' := HR0.out.below HBO.out
          have hr1' := HR1.out.below HBO.out
          have hconv := run_convert_bytes_back (P := Try.prog) wr 36 9 5 ⟨wo.heap.size, 0, none⟩ j (keyB l k) Try.underlying36 Try.underlying5 Try.underlying9 (fun i hi => by
            have e1 : (⟨wo.heap.size, 0, none⟩ : Addr).add i = ⟨wo.heap.size, i, none⟩ := by unfold Addr.add; split <;> simp_all
            rw [e1]; exact HKC.out.cell i _ (by rw [← HN.out]; exact keyC_full l k i hi))
          rw [hkl, HN.out] at hconv
          have HM := Lib.hid hm; have HR0' := Lib.hid hr0'; have HR1' := Lib.hid hr1'; have HBA := Lib.hid hBA
          have HKL : Hid ((keyB l k).length ≤ 1000) := Lib.hid (by rw [hkl, HN.out]; exact HL.out)
          clear hm hr0' hr1' hBA hkl hbw'
          have d0 := HR1'.out.cell k _ (arr_get _ k HLT.out)
          have d1 := HR1'.out.frozen k
          simp only [Nat.lt_irrefl, if_false] at d0
          have haf := atF_at (Cls.seen (keyB l) k) (keyB l k)
          by_cases hmem : keyB l k ∈ Cls.seen (keyB l) k
          · rw [if_pos hmem] at haf
            have HAF := Lib.hid haf
            have HNUM := Lib.hid (Cls.num_old hmem)
            have HSN := Lib.hid (Cls.seen_old hmem)
            clear haf hmem
            go_wp2_with ((at_lookup; refine wpList_lookupF_ok _ rfl _ _ 82 rfl 9 3 .i64 keyedS Try.underlying82 Try.underlying3 (zeroInt _) _ _ _ rfl HM.out _ (.string (keyB l k)) rfl (keyS _ HKL.out) trivial _ HAF.out ?_))
            exact ⟨⟨k + 1, HLT.out, by go_num, HR0'.out.far (by simp) _, by rw [← arr_step HNUM.out]; exact HR1'.out.set k _, by rw [HSN.out]; exact HM.out.far (by simp) _, HBA.out.setCell (by simp) _⟩, by have := HLT.out; simp [intOf]; omega⟩
          · rw [if_neg hmem] at haf
            have HAF := Lib.hid haf
            have HNUM := Lib.hid (Cls.num_new hmem)
            have HSN := Lib.hid (Cls.seen_new hmem)
            have HMEM := Lib.hid hmem
            have hsl := Cls.seen_len_le (keyB l) k
            have HSL : Hid ((Cls.seen (keyB l) k).length ≤ 256) := Lib.hid (by have := HLT.out; omega)
            clear haf hmem hsl
            go_wp2_with (first | (at_lookup; refine wpList_lookupF_ok _ rfl _ _ 82 rfl 9 3 .i64 keyedS Try.underlying82 Try.underlying3 (zeroInt _) _ _ _ rfl HM.out _ (.string (keyB l k)) rfl (keyS _ HKL.out) trivial _ HAF.out ?_) | (at_len; refine wpList_lenF _ rfl _ 82 rfl 9 3 .i64 Try.underlying82 _ _ _ rfl HM.out ?_) | (at_mapUpdate; refine wpList_updateF _ rfl _ _ _ 82 rfl 9 3 .i64 keyedS Try.underlying82 Try.underlying3 _ _ _ rfl HM.out (by have := HSL.out; unfold maxLen; omega) _ _ (.string (keyB l k)) rfl rfl (wf_small _ HSL.out) (keyS _ HKL.out) trivial _ rfl ?_; intro w2 hm2 hg2; have HM2 := Lib.hid hm2; have HG2 := Lib.hid hg2; have d2 := (HR1'.out.gb hg2 (by omega)).cell k _ (arr_get _ k HLT.out); have d3 := (HR1'.out.gb hg2 (by omega)).frozen k; clear hm2 hg2; simp only [Nat.lt_irrefl, if_false] at d2))
            have hs1 : (if (atF (Cls.seen (keyB l) k) (.string (keyB l k))).isSome then (Cls.seen (keyB l) k).length else (Cls.seen (keyB l) k).length + 1) = (Cls.seen (keyB l) (k + 1)).length := by rw [HAF.out, HSN.out]; simp
            have hm3 := (HM2.out.far (p := ⟨w.heap.size + 1, k, none⟩) (by simp) (.int .i64 ((Cls.seen (keyB l) k).length : Nat))).ext (atF_put _ _ HMEM.out)
            rw [hs1, ← HSN.out] at hm3
            exact ⟨⟨k + 1, HLT.out, by go_num, (HR0'.out.gb HG2.out (by omega)).far (by simp) _, by rw [← arr_step HNUM.out]; exact (HR1'.out.gb HG2.out (by omega)).set k _, hm3, (below_of_gb HBA.out HG2.out HBA.out.size (fun k hk => by cases hk; omega)).setCell (by simp) _⟩, by have := HLT.out; simp [intOf]; omega⟩
    · obtain rfl : k = 256 := by omega
      have e : (arr fun j => if j < 256 then ((Cls.num (keyB l) j : Nat) : Int) else 0) = arr fun j => (Cls.num (keyB l) j : Nat) := arr_ext fun i hi => by rw [if_pos hi]
      rw [e] at hr1
      have HR0 := Lib.hid hr0; have HR1 := Lib.hid hr1; have HMP := Lib.hid hmp; have HBL := Lib.hid hbl
      clear hr0 hr1 hmp hbl e
      go_wp2_with (first | (at_len; refine wpList_lenF _ rfl _ 82 rfl 9 3 .i64 Try.underlying82 _ _ _ rfl HMP.out ?_) | (refine wpList_load_row (o := ⟨some 53, _, _, _, _, _⟩) rfl _ _ rfl (w.heap.size + 1) rfl 27 _ (0, 0) _ HR1.out Try.underlying27 rfl (sizeA _) ?_) | (refine wpList_store_row (o := ⟨none, _, _, _, _, _⟩) rfl _ _ _ rfl w.heap.size _ rfl rfl 27 _ HR0.out (sizeA _) (by rw [arr_size, arr_size]) (arr_one _) ?_))
      have hfin : AtG (wr.setRow w.heap.size (arr fun j => (Cls.num (keyB l) j : Nat))) w.heap.size 27 (arr fun j => (Cls.num (keyB l) j : Nat)) := setRow_heap _ _ _ _ _ _ HR0.out
      exact bodyPost_ret (results_arr rfl _ _ w.heap.size _ _ rfl rfl hfin) rfl ⟨rfl, below_setRow HBL.out (Nat.le_refl _) _⟩
set_option maxRecDepth 100000 in
set_option maxHeartbeats 1000000 in
theorem classes_any (v : Value) (l : List (Nat → Bool)) (w : World) (h : RdSets w v l) (hl : l.length ≤ 1000) :
    Calls Try.prog 17 #[v] w fun e w' => e = .returned (.tuple #[.agg (arr fun b => (Cls.num (keyB l) b : Nat)), .int .i64 ((Cls.seen (keyB l) 256).length : Nat)]) ∧ Below w.heap.size w w' := by
  have hmm := @run_makeMap Try.prog
  rcases h with ⟨h0, a, c, rfl⟩ | ⟨b, off, cap, rfl, h1, h2, h3, h4⟩
  · exact classes_nil l w a c (by cases l with | nil => rfl | cons x r => cases h0)
  obtain ⟨n, hn⟩ : ∃ n, l.length = n := ⟨_, rfl⟩
  simp only [List.length_map, hn] at h1 h2 ⊢
  have H3 := Lib.hid h3; clear h3 h4
  have HN := Lib.hid hn; clear hn
  rw [HN.out] at hl
  have hlI : (n : Int) ≤ 1000 := by omega
  have HL := Lib.hid hl; clear hl
  go_enter Try.func17, Try.ntmps17
  go_wp2_with fail
  clear hmm
  have hmk := make_one (P := Try.prog) 36 5 (.int .u8 0) 1 Try.underlying36 infoB rfl .i64 .i64 n (by omega) (by omega)
  have HMK := Lib.hid hmk; clear hmk
  go_loopw [13] (fun i wr => ∃ k : Nat, k ≤ 256 ∧ i = .int .i64 k ∧ AtG wr w.heap.size 27 (arr fun _ => 0) ∧ AtG wr (w.heap.size + 1) 27 (arr fun j => if j < k then (Cls.num (keyB l) j : Nat) else 0) ∧ OwnF wr Try.prog 9 3 .i64 (w.heap.size + 1 + 1) (Cls.seen (keyB l) k).length (atF (Cls.seen (keyB l) k)) ∧ Below w.heap.size w wr) (fun i _ => 256 - (intOf i).toNat)
  case atStart =>
    have hz : (Try.zeroCells27 : Array Value) = arr fun _ => 0 := arr_zero
    rw [hz]
    refine ⟨0, by omega, rfl, ((AtG.new w _ _).alloc _).alloc _, ?_, ?_, by go_grown⟩
    · have e : (arr fun j => if j < 0 then ((Cls.num (keyB l) j : Nat) : Int) else 0) = arr fun _ => 0 := arr_ext fun i _ => by simp
      rw [e]
      have := (AtG.new (w.alloc (.cells (arr fun _ => 0) 27)) 27 (arr fun _ => 0)).alloc (.map #[] 0)
      simpa using this
    · have := (OwnF.made ((w.alloc (.cells (arr fun _ => 0) 27)).alloc (.cells (arr fun _ => 0) 27)) Try.prog 9 3 .i64).ext (g := atF []) (fun k hk => by cases k <;> rfl)
      simpa [Cls.seen] using this
  case round =>
    obtain ⟨k, hk, rfl, hr0, hr1, hmp, hbl⟩ := hrel
    by_cases hlt : k < 256
    · have hkI : (k : Int) < 256 := by omega
      have HK := Lib.hid hk; have HLT := Lib.hid hlt; clear hk hlt
      have HR0 := Lib.hid hr0; have HR1 := Lib.hid hr1; have HMP := Lib.hid hmp; have HBL := Lib.hid hbl
      clear hr0 hr1 hmp hbl
      have hmk := HMK.out
      go_wp2_with fail
      clear hmk
      obtain ⟨wo, rfl⟩ : ∃ wo : World, wo = wr := ⟨_, rfl⟩
      go_loopw [21] (fun i wx => ∃ j : Nat, j ≤ n ∧ i = .int .i64 j ∧ AtG wx wo.heap.size 5 (keyC l k j) ∧ Below wo.heap.size wo wx) (fun i _ => n - (intOf i).toNat)
      case atStart => exact ⟨0, by omega, rfl, by rw [keyC_zero, HN.out]; exact AtG.new wo _ _, by go_grown⟩
      case round =>
        obtain ⟨j, hj, rfl, hkc, hbo⟩ := hrel
        have HKC := Lib.hid hkc; have HBO := Lib.hid hbo; clear hkc hbo
        by_cases hjn : j < n
        · have hjl : j < l.length := by rw [HN.out]; exact hjn
          obtain ⟨f, hf⟩ : ∃ f, l[j] = f := ⟨_, rfl⟩
          have hrow := H3.out j (cellsOf f).toList (by simp [hjl, hf])
          have hbw : b < w.heap.size := block_lt_of_cell (a := ⟨b, off + j * 4 + 0, none⟩) (hrow 0 (by omega))
          have hwo := HBL.out.size
          have hcx : ∀ o, wr.cell? ⟨b, o, none⟩ = w.cell? ⟨b, o, none⟩ := fun o => (HBO.out.cell (p := ⟨b, o, none⟩) (show b < wo.heap.size by omega)).trans (HBL.out.cell (p := ⟨b, o, none⟩) hbw)
          have c0 : wr.cell? ⟨b, off + j * 4, none⟩ = some (.int .u64 ((wd f 0 : Nat) : Int)) := (hcx _).trans (hrow 0 (by omega))
          have c1 : wr.cell? ⟨b, off + j * 4 + 1, none⟩ = some (.int .u64 ((wd f 1 : Nat) : Int)) := (hcx _).trans (hrow 1 (by omega))
          have c2 : wr.cell? ⟨b, off + j * 4 + 2, none⟩ = some (.int .u64 ((wd f 2 : Nat) : Int)) := (hcx _).trans (hrow 2 (by omega))
          have c3 : wr.cell? ⟨b, off + j * 4 + 3, none⟩ = some (.int .u64 ((wd f 3 : Nat) : Int)) := (hcx _).trans (hrow 3 (by omega))
          have HF := Lib.hid hf
          clear hrow hcx hf hwo
          go_wp2_with fail
          refine (has_any f k _ (by omega) (by omega)).mono ?_; rintro e9 w1 ⟨rfl, hb1⟩
          have hb2 : Below wr.heap.size wr w1 := (Below.alloc (Below.refl _ _) (Nat.le_refl _) _).trans (hb1.mono (by simp))
          have hkc1 := HKC.out.below hb2
          have hbo1 : Below wo.heap.size wo w1 := HBO.out.trans (hb2.mono HBO.out.size)
          have d0 := hkc1.cell j _ (keyC_get l k j j hjl)
          have d1 := hkc1.frozen j
          have HKC1 := Lib.hid hkc1; have HBO1 := Lib.hid hbo1
          clear hb1 hb2 hkc1 hbo1 c0 c1 c2 c3
          rw [Int.toNat_natCast]
          cases hfk : f k
          · have HS : Hid (keyC l k j = keyC l k (j + 1)) := Lib.hid (keyC_skip l k j hjl (by rw [HF.out]; exact hfk))
            clear hfk
            go_wp2_with fail
            exact ⟨⟨j + 1, by omega, by go_num, by rw [← HS.out]; exact HKC1.out, HBO1.out⟩, by simp [intOf]; omega⟩
          · have HS : Hid ((keyC l k j).setIfInBounds j (.int .u8 1) = keyC l k (j + 1)) := Lib.hid (keyC_set l k j hjl (by rw [HF.out]; exact hfk))
            clear hfk
            go_wp2_with fail
            exact ⟨⟨j + 1, by omega, by go_num, by rw [← HS.out]; exact HKC1.out.set _ _, HBO1.out.setCell (Nat.le_refl _) _⟩, by simp [intOf]; omega⟩
        · obtain rfl : j = n := by omega
          have hbw' := HBL.out.size
          have hBA : Below w.heap.size w wr := HBL.out.trans (HBO.out.mono HBL.out.size)
          have hkl := keyB_len l k
          have hm := HMP.out.below (w' := wr) HBO.out
          have hr0' := HR0.out.below HBO.out
          have hr1' := HR1.out.below HBO.out
          have hconv := run_convert_bytes_back (P := Try.prog) wr 36 9 5 ⟨wo.heap.size, 0, none⟩ j (keyB l k) Try.underlying36 Try.underlying5 Try.underlying9 (fun i hi => by
            have e1 : (⟨wo.heap.size, 0, none⟩ : Addr).add i = ⟨wo.heap.size, i, none⟩ := by unfold Addr.add; split <;> simp_all
            rw [e1]; exact HKC.out.cell i _ (by rw [← HN.out]; exact keyC_full l k i hi))
          rw [hkl, HN.out] at hconv
          have HM := Lib.hid hm; have HR0' := Lib.hid hr0'; have HR1' := Lib.hid hr1'; have HBA := Lib.hid hBA
          have HKL : Hid ((keyB l k).length ≤ 1000) := Lib.hid (by rw [hkl, HN.out]; exact HL.out)
          clear hm hr0' hr1' hBA hkl hbw'
          have d0 := HR1'.out.cell k _ (arr_get _ k HLT.out)
          have d1 := HR1'.out.frozen k
          simp only [Nat.lt_irrefl, if_false] at d0
          have haf := atF_at (Cls.seen (keyB l) k) (keyB l k)
          by_cases hmem : keyB l k ∈ Cls.seen (keyB l) k
          · rw [if_pos hmem] at haf
            have HAF := Lib.hid haf
            have HNUM := Lib.hid (Cls.num_old hmem)
            have HSN := Lib.hid (Cls.seen_old hmem)
            clear haf hmem
            go_wp2_with ((at_lookup; refine wpList_lookupF_ok _ rfl _ _ 82 rfl 9 3 .i64 keyedS Try.underlying82 Try.underlying3 (zeroInt _) _ _ _ rfl HM.out _ (.string (keyB l k)) rfl (keyS _ HKL.out) trivial _ HAF.out ?_))
            exact ⟨⟨k + 1, HLT.out, by go_num, HR0'.out.far (by simp) _, by rw [← arr_step HNUM.out]; exact HR1'.out.set k _, by rw [HSN.out]; exact HM.out.far (by simp) _, HBA.out.setCell (by simp) _⟩, by have := HLT.out; simp [intOf]; omega⟩
          · rw [if_neg hmem] at haf
            have HAF := Lib.hid haf
            have HNUM := Lib.hid (Cls.num_new hmem)
            have HSN := Lib.hid (Cls.seen_new hmem)
            have HMEM := Lib.hid hmem
            have hsl := Cls.seen_len_le (keyB l) k
            have HSL : Hid ((Cls.seen (keyB l) k).length ≤ 256) := Lib.hid (by have := HLT.out; omega)
            clear haf hmem hsl
            go_wp2_with (first | (at_lookup; refine wpList_lookupF_ok _ rfl _ _ 82 rfl 9 3 .i64 keyedS Try.underlying82 Try.underlying3 (zeroInt _) _ _ _ rfl HM.out _ (.string (keyB l k)) rfl (keyS _ HKL.out) trivial _ HAF.out ?_) | (at_len; refine wpList_lenF _ rfl _ 82 rfl 9 3 .i64 Try.underlying82 _ _ _ rfl HM.out ?_) | (at_mapUpdate; refine wpList_updateF _ rfl _ _ _ 82 rfl 9 3 .i64 keyedS Try.underlying82 Try.underlying3 _ _ _ rfl HM.out (by have := HSL.out; unfold maxLen; omega) _ _ (.string (keyB l k)) rfl rfl (wf_small _ HSL.out) (keyS _ HKL.out) trivial _ rfl ?_; intro w2 hm2 hg2; have HM2 := Lib.hid hm2; have HG2 := Lib.hid hg2; have d2 := (HR1'.out.gb hg2 (by omega)).cell k _ (arr_get _ k HLT.out); have d3 := (HR1'.out.gb hg2 (by omega)).frozen k; clear hm2 hg2; simp only [Nat.lt_irrefl, if_false] at d2))
            have hs1 : (if (atF (Cls.seen (keyB l) k) (.string (keyB l k))).isSome then (Cls.seen (keyB l) k).length else (Cls.seen (keyB l) k).length + 1) = (Cls.seen (keyB l) (k + 1)).length := by rw [HAF.out, HSN.out]; simp
            have hm3 := (HM2.out.far (p := ⟨w.heap.size + 1, k, none⟩) (by simp) (.int .i64 ((Cls.seen (keyB l) k).length : Nat))).ext (atF_put _ _ HMEM.out)
            rw [hs1, ← HSN.out] at hm3
            exact ⟨⟨k + 1, HLT.out, by go_num, (HR0'.out.gb HG2.out (by omega)).far (by simp) _, by rw [← arr_step HNUM.out]; exact (HR1'.out.gb HG2.out (by omega)).set k _, hm3, (below_of_gb HBA.out HG2.out HBA.out.size (fun k hk => by cases hk; omega)).setCell (by simp) _⟩, by have := HLT.out; simp [intOf]; omega⟩
    · obtain rfl : k = 256 := by omega
      have e : (arr fun j => if j < 256 then ((Cls.num (keyB l) j : Nat) : Int) else 0) = arr fun j => (Cls.num (keyB l) j : Nat) := arr_ext fun i hi => by rw [if_pos hi]
      rw [e] at hr1
      have HR0 := Lib.hid hr0; have HR1 := Lib.hid hr1; have HMP := Lib.hid hmp; have HBL := Lib.hid hbl
      clear hr0 hr1 hmp hbl e
      go_wp2_with (first | (at_len; refine wpList_lenF _ rfl _ 82 rfl 9 3 .i64 Try.underlying82 _ _ _ rfl HMP.out ?_) | (refine wpList_load_row (o := ⟨some 53, _, _, _, _, _⟩) rfl _ _ rfl (w.heap.size + 1) rfl 27 _ (0, 0) _ HR1.out Try.underlying27 rfl (sizeA _) ?_) | (refine wpList_store_row (o := ⟨none, _, _, _, _, _⟩) rfl _ _ _ rfl w.heap.size _ rfl rfl 27 _ HR0.out (sizeA _) (by rw [arr_size, arr_size]) (arr_one _) ?_))
      have hfin : AtG (wr.setRow w.heap.size (arr fun j => (Cls.num (keyB l) j : Nat))) w.heap.size 27 (arr fun j => (Cls.num (keyB l) j : Nat)) := setRow_heap _ _ _ _ _ _ HR0.out
      exact bodyPost_ret (results_arr rfl _ _ w.heap.size _ _ rfl rfl hfin) rfl ⟨rfl, below_setRow HBL.out (Nat.le_refl _) _⟩
end Go.Proofs.Ytklpjlcphikfaaa
