/- The walk of ClassesApart. -/
import Derived.Test.YtklpjlcphikfaaaClassLaw
import Derived.Test.YtklpjlcphikfaaaRegX
import Derived.Test.YtklpjlcphikfaaaApp
import Derived.IntWalk
set_option linter.unusedVariables false
set_option linter.unusedSimpArgs false
namespace Go.Proofs.Ytklpjlcphikfaaa
open Go.RowKit Bt
/-- the cells of sets, one behind the other -/
def flat (l : List (Nat → Bool)) : List Value := l.flatMap fun f => (cellsOf f).toList
theorem cellsOf_len (f : Nat → Bool) : (cellsOf f).toList.length = 4 := rfl
theorem flat_cons (f : Nat → Bool) (l : List (Nat → Bool)) : flat (f :: l) = (cellsOf f).toList ++ flat l := rfl
theorem flat_len (l : List (Nat → Bool)) : (flat l).length = l.length * 4 := by
  induction l with
  | nil => rfl
  | cons f l ih => rw [flat_cons, List.length_append, ih, cellsOf_len, List.length_cons]; omega
theorem flat_snoc (l : List (Nat → Bool)) (g : Nat → Bool) : flat (l ++ [g]) = flat l ++ (cellsOf g).toList := by
  unfold flat; rw [List.flatMap_append]; simp
theorem flat_get (l : List (Nat → Bool)) : ∀ (j : Nat) (hj : j < l.length) (i : Nat), i < 4 → (flat l)[j * 4 + i]? = (cellsOf l[j]).toList[i]? := by
  induction l with
  | nil => intro j hj; cases hj
  | cons f l ih =>
    intro j hj i hi
    rw [flat_cons]
    cases j with
    | zero => rw [List.getElem?_append_left (by rw [cellsOf_len]; omega)]; simp
    | succ j =>
      rw [List.getElem?_append_right (by rw [cellsOf_len]; omega), cellsOf_len, show (j + 1) * 4 + i - 4 = j * 4 + i from by omega]
      simpa using ih j (by simpa using hj) i hi
theorem flat_one (l : List (Nat → Bool)) : ∀ y ∈ flat l, y.oneCell' = true := by
  intro y hy
  unfold flat at hy
  obtain ⟨f, _, hf⟩ := List.mem_flatMap.1 hy
  unfold cellsOf at hf
  simp at hf
  rcases hf with rfl | rfl | rfl | rfl <;> rfl
theorem cells_one (g : Nat → Bool) : ∀ y ∈ (cellsOf g).toList, y.oneCell' = true := fun y hy => flat_one [g] y (by unfold flat; simpa using hy)
theorem rdSets_own {w : World} {base n : Nat} {v : Value} {l : List (Nat → Bool)} (h : w.ownsRow base 33 4 v n (flat l)) (hl : l.length ≤ 1000) : RdSets w v l := by
  obtain ⟨hn, h⟩ := h
  rw [flat_len] at hn
  have hn : l.length = n := by omega
  rcases h with ⟨rfl, h0⟩ | ⟨g, cap, cur, rfl, hb, hh, hnc, hcm, hcs, hct⟩
  · have : l = [] := List.eq_nil_of_length_eq_zero (by omega)
    subst this
    exact .inl ⟨rfl, _, _, rfl⟩
  · refine .inr ⟨g, 0, cap, by rw [List.length_map, hn], by rw [List.length_map]; omega, by rw [List.length_map]; omega, fun j r hr i hi => ?_, fun r hr => ?_⟩
    · have hj : j < l.length := by have := (List.getElem?_eq_some_iff.1 hr).1; simpa using this
      have hr' : r = (cellsOf l[j]).toList := by
        rw [List.getElem?_map, List.getElem?_eq_getElem hj] at hr
        simpa using hr.symm
      subst hr'
      rw [← flat_get l j hj i hi, ← hct, List.getElem?_take, if_pos (by omega)]
      simp [World.cell?, hh]
    · simp only [List.mem_map] at hr
      obtain ⟨f, _, rfl⟩ := hr
      rfl
theorem src_sets {w : World} {v : Value} {l : List (Nat → Bool)} (h : RdSets w v l) (hnil : ∀ c, v = .slice none 0 c → c = 0) : SrcRow w v l.length (flat l) := by
  rcases h with ⟨h0, a, c, rfl⟩ | ⟨b, off, cap, rfl, h1, h2, h3, h4⟩
  · have : l = [] := by cases l with | nil => rfl | cons x r => cases h0
    subst this
    cases a with
    | none => exact .inl ⟨by rw [hnil c rfl], rfl, rfl⟩
    | some ad => exact .inr ⟨ad, c, rfl, fun j y hy => by simp [flat] at hy⟩
  · refine .inr ⟨⟨b, off, none⟩, cap, by rw [List.length_map], fun j y hy => ?_⟩
    have hj : j < l.length * 4 := by have := (List.getElem?_eq_some_iff.1 hy).1; rwa [flat_len] at this
    have e1 : (⟨b, off, none⟩ : Addr).add j = ⟨b, off + j / 4 * 4 + j % 4, none⟩ := by
      have : off + j / 4 * 4 + j % 4 = off + j := by omega
      rw [this]; unfold Addr.add; split <;> simp_all
    have hjl : j / 4 < l.length := by omega
    rw [e1, h3 (j / 4) (cellsOf l[j / 4]).toList (by rw [List.getElem?_map, List.getElem?_eq_getElem hjl]; rfl) (j % 4) (by omega), ← flat_get l (j / 4) hjl (j % 4) (by omega), show j / 4 * 4 + j % 4 = j from by omega]
    exact hy
theorem own_empty4 {w : World} {base g : Nat} (h : AtG w g 33 #[]) (hb : base ≤ g) : w.ownsRow base 33 4 (.slice (some ⟨g, 0, none⟩) 0 0) 0 [] :=
  ⟨rfl, .inr ⟨g, 0, #[], rfl, hb, h, Nat.le_refl _, by decide, rfl, rfl⟩⟩
theorem src_set1 {w : World} {k : Nat} {g : Nat → Bool} (h : AtG w k 33 (cellsOf g)) : SrcRow w (.slice (some ⟨k, 0, none⟩) 1 1) 1 (cellsOf g).toList :=
  .inr ⟨⟨k, 0, none⟩, 1, rfl, fun j y hy => by
    have e1 : (⟨k, 0, none⟩ : Addr).add j = ⟨k, j, none⟩ := by unfold Addr.add; split <;> simp_all
    rw [e1]; exact h.cell j y (by simpa using hy)⟩
theorem infoSet : (Try.prog.info? 33).map (fun i => (i.zero, i.size, i.bytes)) = some (some (setOf fun _ => false), 4, 32) := by
  have e : setOf (fun _ => false) = setV 0 0 0 0 := by unfold setOf; simp [wd_none]
  have h : (Try.prog.info? 33).map (fun i => (i.zero, i.size, i.bytes)) = some (some (.agg #[.int .u64 0, .int .u64 0, .int .u64 0, .int .u64 0]), 4, 32) := by kernel_rfl
  rw [h, e]
/-- a write into a row of another type -/
def GrownT (w w' : World) (T : Nat) : Prop := (∃ k cur, w.heap[k]? = some (.cells cur T (0, 0)) ∧ w.grownBy w' (some k)) ∨ w.grownBy w' none
theorem own_grownT {w w' : World} {base n e size : Nat} {v : Value} {xs : List Value} (h : w.ownsRow base e size v n xs) (hg : w.grownBy w' v.ownBlock) : GrownT w w' e := by
  obtain ⟨_, h⟩ := h
  rcases h with ⟨rfl, h0⟩ | ⟨g, cap, cur, rfl, hb, hh, _⟩
  · exact .inr hg
  · exact .inl ⟨g, cur, hh, hg⟩
theorem AtG.grownT {w w' : World} {g T T' : Nat} {cs : Array Value} (h : AtG w g T cs) (hT : T ≠ T') (hg : GrownT w w' T') : AtG w' g T cs := by
  rcases hg with ⟨k, cur, hk, hg⟩ | hg
  · refine h.grown hg (fun e => ?_)
    cases e
    unfold AtG at h
    rw [h] at hk
    injection hk with hk
    injection hk with _ e _
    exact hT e
  · exact h.grown hg (by simp)
theorem rdSets_row {w : World} {b off n cap : Nat} {l : List (Nat → Bool)} (h : RdSets w (.slice (some ⟨b, off, none⟩) n cap) l) (j : Nat) (hj : j < l.length) : ∀ i, i < 4 → w.cell? ⟨b, off + j * 4 + i, none⟩ = (cellsOf l[j]).toList[i]? := by
  rcases h with ⟨h0, _⟩ | ⟨b', off', cap', heq, _, _, h3, _⟩
  · have := congrArg List.length h0; rw [List.length_map] at this; simp at this; subst this; cases hj
  · injection heq with e1 e2 e3
    injection e1 with e1
    injection e1 with e1 e4
    subst e1; subst e4
    exact fun i hi => h3 j _ (by rw [List.getElem?_map, List.getElem?_eq_getElem hj]; rfl) i hi
/-- with one set more there are no fewer -/
theorem seen_more (l : List (Nat → Bool)) (g : Nat → Bool) (b : Nat) : (Cls.seen (keyB l) b).length ≤ (Cls.seen (keyB (l ++ [g])) b).length := by
  have h := Cls.seen_map (fun k : List UInt8 => k.take l.length) (keyB (l ++ [g])) b
  have e : (fun c => (keyB (l ++ [g]) c).take l.length) = keyB l := by
    funext c; unfold keyB; rw [List.map_append, List.take_left' (by simp)]
  rw [e] at h
  exact h
theorem apart_facts (l : List (Nat → Bool)) (g : Nat → Bool) (N m : Nat) (s tp : Int) (hs : s = ((Cls.seen (keyB l) N).length : Nat)) (hm : (Cls.seen (keyB (l ++ [g])) N).length = m) (htp : Cls.top (keyB l) N = tp) :
    s = tp + 1 ∧ s ≤ (m : Int) ∧ -1 ≤ tp ∧ tp < (N : Int) := by
  have h1 := seen_more l g N
  have h2 := Cls.seen_len_le (keyB l) N
  unfold Cls.top at htp
  omega
set_option maxRecDepth 100000 in
set_option maxHeartbeats 4000000 in
theorem classesApart_in (a : Option Addr) (cap n : Nat) (l : List (Nat → Bool)) (g : Nat → Bool) (x y : Nat) (w : World) (hnl : l.length = n) (h : RdSets w (.slice a n cap) l) (hnil : ∀ c, Value.slice a n cap = .slice none 0 c → c = 0) (x1 : x ≤ 255) (y1 : y ≤ 255) (hl : n ≤ 40) (hab : n = 0 ∨ ∃ b off, a = some ⟨b, off, none⟩) :
    Calls Try.prog 5 #[.slice a n cap, setOf g, .int .u8 x, .int .u8 y] w fun e w' => e = .returned (.bool true) ∧ Below w.heap.size w w' := by
  have HAB := Lib.hid hab; clear hab
  have HNL := Lib.hid hnl; have HH := Lib.hid h; have HNIL := Lib.hid hnil
  have HL : Hid (l.length ≤ 1000) := Lib.hid (by omega)
  have HL40 := Lib.hid hl
  have hlI : (n : Int) ≤ 40 := by omega
  have x1I : (x : Int) ≤ 255 := by omega
  have y1I : (y : Int) ≤ 255 := by omega
  have HX := Lib.hid x1; have HY := Lib.hid y1
  clear hnl h hnil hl x1 y1
  unfold setOf
  go_enter Try.func5, Try.ntmps5
  go_wp2_with fail
  refine (up05_any _).mono ?_; rintro e9 w1 ⟨rfl, hb1⟩
  have hg1 : AtG w1 w.heap.size 33 (cellsOf g) := (AtG.new w 33 (cellsOf g)).below hb1
  have hbw : Below w.heap.size w w1 := ((Below.refl _ _).alloc (Nat.le_refl _) _).trans (hb1.mono (by simp))
  have HG1 := Lib.hid hg1; have HB1 := Lib.hid hbw
  clear hb1 hg1 hbw
  go_wp2_with fail
  refine (classes_any _ l _ (rdSets_below HH.out HB1.out) HL.out).mono ?_; rintro e9 w2 ⟨rfl, hb2⟩
  have HB2 := Lib.hid hb2; clear hb2
  obtain ⟨f, hf⟩ : ∃ f, f = fun b => ((Cls.num (keyB l) b : Nat) : Int) := ⟨_, rfl⟩
  obtain ⟨s, hs⟩ : ∃ s : Int, s = ((Cls.seen (keyB l) 256).length : Nat) := ⟨_, rfl⟩
  rw [← hf, ← hs]
  have HF := Lib.hid hf; have HS := Lib.hid hs; clear hf hs
  go_upto_region 5 with ((refine wpList_store_row (o := ⟨none, _, _, _, _, _⟩) rfl _ _ _ rfl w2.heap.size _ rfl rfl 27 _ (heap_alloc_new _ _) (sizeA _) (by first | (rw [arr_size, arr_zero, arr_size]) | (rw [arr_zero, arr_size])) (arr_one _) ?_; rw [World.setRow_alloc_new]))
  have h4 : Below w.heap.size w (w2.alloc (.cells (arr f) 27)) := (HB1.out.trans (HB2.out.mono HB1.out.size)).alloc (Nat.le_trans HB1.out.size HB2.out.size) _
  have ha4 : AtG (w2.alloc (.cells (arr f) 27)) w2.heap.size 27 (arr f) := AtG.new _ _ _
  have hg4 : AtG (w2.alloc (.cells (arr f) 27)) w.heap.size 33 (cellsOf g) := (HG1.out.below HB2.out).alloc _
  generalize w2.alloc (.cells (arr f) 27) = w4 at h4 ha4 hg4 ⊢
  have H4 := Lib.hid h4; have HA4 := Lib.hid ha4; have HG4 := Lib.hid hg4
  have HSRC : Hid (SrcRow w4 (.slice a n cap) n (flat l)) := Lib.hid (by have := src_sets (rdSets_below HH.out h4) HNIL.out; rwa [HNL.out] at this)
  have HFL : Hid ((flat l).length = n * 4) := Lib.hid (by rw [flat_len, HNL.out])
  clear h4 ha4 hg4 HB1 HB2 HG1
  refine RgX.start (by kernel_rfl) [(2, fun w5 w6 => ∃ k, w4.heap.size ≤ k ∧ AtG w5 k 33 #[] ∧ w5.grownBy w6 (some k)), (5, fun w5 w6 => Below w4.heap.size w5 w6 ∧ GrownT w5 w6 33), (11, fun w5 w6 => Below w4.heap.size w5 w6)] [⟨fun w5 => Below w4.heap.size w4 w5, none⟩] ⟨⟨fun _ _ h hb => h.trans (hb.mono h.size), ⟨fun _ _ _ _ => (fun w5 w6 h he => by obtain ⟨k, hk, -, hg⟩ := he; exact Below.grown h hg h.size (fun q hq => by cases hq; exact hk)), fun _ _ _ _ => (fun w5 w6 h he => h.trans he.1), fun _ _ _ _ => (fun w5 w6 h he => h.trans he), trivial⟩⟩, trivial⟩ (by kernel_rfl) (by kernel_rfl) ⟨(Below.refl _ _).drew, trivial⟩ ?_
  show RgX.Build _ _ _ _ _ _ 0 [_, _, _, _, _, _, _, _, _, _, _, _, _] []
  refine RgX.build_cons (m := 1) (r := (⟨fun v _ w5 => ∃ k, v = .slice (some ⟨k, 0, none⟩) 0 0 ∧ w4.heap.size ≤ k ∧ AtG w5 k 33 #[], some 2, none⟩ : RgX.Rl)) (RgX.one_plain (by rfl) (by (intro ax wx hk Kx hK; have hB := hk.fact 0 0 _ rfl rfl; (try dsimp only at hB); clear hk; (go_simp; exact hK _ _ (fun h => by cases h) (fun u _ => ⟨wx.heap.size, rfl, hB.size, AtG.new _ _ _⟩) ((Below.refl _ _).alloc (Nat.le_refl _) _))))) ?_ rfl (RgX.keep_r (fun _ _ _ _ h hb => by obtain ⟨k, h1, h2, h3⟩ := h; exact ⟨k, h1, h2, h3.below hb⟩) (fun _ _ => ⟨fun _ h _ _ => absurd rfl h, fun _ _ h _ => absurd ⟨2, 1, rfl, rfl⟩ h, fun _ _ h _ => absurd ⟨2, 1, rfl, rfl⟩ h, trivial⟩)) (fun _ h => by cases h)
  refine RgX.build_cons (m := 2) (r := RgX.eq _) (RgX.one_plain (by rfl) (by (intro ax wx hk Kx hK; have k0 := hk.base 0 _ rfl rfl; have hB := hk.fact 0 0 _ rfl rfl; (try dsimp only at hB); clear hk; go_simp; refine hK _ _ (fun h => by cases h) (fun _ _ => ?_) (Below.refl _ _); apply RgX.mk))) ?_ rfl RgX.keep_eq (fun _ h => by cases h)
  refine RgX.build_cons (m := 3) (r := (⟨fun v _ w5 => w5.ownsRow w4.heap.size 33 4 v (0 + n) ([] ++ flat l), some 5, none⟩ : RgX.Rl)) (RgX.one_plain (by rfl) (by (intro ax wx hk Kx hK; obtain ⟨v31, k31, h31⟩ := hk.dep 0 0 31 _ rfl rfl rfl; (first | (replace h31 := h31 9 undef rfl rfl; first | (cases (h31 : v31 = _)) | (obtain ⟨rfl, h31⟩ := h31) | skip) | skip); obtain ⟨v32, k32, h32⟩ := hk.dep 0 1 32 _ rfl rfl rfl; (first | (replace h32 := h32 9 undef rfl rfl; first | (cases (h32 : v32 = _)) | (obtain ⟨rfl, h32⟩ := h32) | skip) | skip); have hB := hk.fact 0 0 _ rfl rfl; (try dsimp only at hB); clear hk; (obtain ⟨k, rfl, hk0, hk1⟩ := h31; refine wp_appRow (.tmp 31) (.tmp 32) 26 rfl w4.heap.size 33 (setOf fun _ => false) 4 32 Try.underlying26 infoSet rfl (by decide) _ _ 0 n [] (flat l) (own_empty4 hk1 hk0) (src_below HSRC.out hB) (by simp [Act.eval, k31]) (by simp [Act.eval, k32]) HFL.out (flat_one l) (by have := HL40.out; omega) (by decide) hB.size ?_; intro v' w' ho hg; exact hK _ _ (fun h => by cases h) (fun u _ => ho) ⟨k, hk0, hk1, hg⟩)))) ?_ rfl (RgX.keep_r (fun _ _ _ _ h hb => own_below h hb) (fun _ _ => ⟨fun h _ _ _ => absurd rfl h, fun _ h _ _ => absurd rfl h, fun _ _ h _ => absurd ⟨5, 1, rfl, rfl⟩ h, trivial⟩)) (fun _ h => by cases h)
  refine RgX.build_cons (m := 4) (r := RgX.eq (setOf g)) (RgX.one_plain (by rfl) (by (intro ax wx hk Kx hK; have k5 := hk.base 5 _ rfl rfl; have hB := hk.fact 0 0 _ rfl rfl; (try dsimp only at hB); clear hk; (have gm := HG4.out.below hB; have c0 := gm.cell 0 _ rfl; have c1 := gm.cell 1 _ rfl; have c2 := gm.cell 2 _ rfl; have c3 := gm.cell 3 _ rfl; clear gm; go_simp; exact hK _ _ (fun h => by cases h) (fun _ _ => rfl) (Below.refl _ _))))) ?_ rfl RgX.keep_eq (fun _ h => by cases h)
  refine RgX.build_cons (m := 5) (r := (⟨fun v _ w5 => ∃ k, v = .slice (some ⟨k, 0, none⟩) 1 1 ∧ w4.heap.size ≤ k ∧ AtG w5 k 33 (cellsOf g), some 5, none⟩ : RgX.Rl)) (RgX.one_plain (by rfl) (by (intro ax wx hk Kx hK; obtain ⟨v34, k34, h34⟩ := hk.dep 0 3 34 _ rfl rfl rfl; (first | (replace h34 := h34 9 undef rfl rfl; first | (cases (h34 : v34 = _)) | (obtain ⟨rfl, h34⟩ := h34) | skip) | skip); have hB := hk.fact 0 0 _ rfl rfl; (try dsimp only at hB); clear hk; (unfold setOf at k34; go_simp; exact hK _ _ (fun h => by cases h) (fun u _ => ⟨wx.heap.size, rfl, hB.size, AtG.new _ _ _⟩) ((Below.refl _ _).alloc (Nat.le_refl _) _))))) ?_ rfl (RgX.keep_r (fun _ _ _ _ h hb => by obtain ⟨k, h1, h2, h3⟩ := h; exact ⟨k, h1, h2, h3.below hb⟩) (fun _ _ => ⟨fun _ _ _ _ => (fun w5 w6 h he => by obtain ⟨k, h1, h2, h3⟩ := h; obtain ⟨k', hk, hk1, hg⟩ := he; refine ⟨k, h1, h2, h3.gb hg (fun e => ?_)⟩; subst e; unfold AtG at h3 hk1; rw [h3] at hk1; simp [cellsOf] at hk1), fun _ h _ _ => absurd rfl h, fun _ _ h _ => absurd ⟨5, 1, rfl, rfl⟩ h, trivial⟩)) (fun _ h => by cases h)
  refine RgX.build_cons (m := 6) (r := (⟨fun v _ w5 => w5.ownsRow w4.heap.size 33 4 v (0 + n + 1) ([] ++ flat l ++ (cellsOf g).toList), some 11, none⟩ : RgX.Rl)) (RgX.one_plain (by rfl) (by (intro ax wx hk Kx hK; obtain ⟨v33, k33, h33⟩ := hk.dep 0 2 33 _ rfl rfl rfl; (first | (replace h33 := h33 9 undef rfl rfl; first | (cases (h33 : v33 = _)) | (obtain ⟨rfl, h33⟩ := h33) | skip) | skip); obtain ⟨v35, k35, h35⟩ := hk.dep 0 4 35 _ rfl rfl rfl; (first | (replace h35 := h35 9 undef rfl rfl; first | (cases (h35 : v35 = _)) | (obtain ⟨rfl, h35⟩ := h35) | skip) | skip); have hB := hk.fact 0 0 _ rfl rfl; (try dsimp only at hB); clear hk; (obtain ⟨k, rfl, hk0, hk1⟩ := h35; refine wp_appRow (.tmp 33) (.tmp 35) 26 rfl w4.heap.size 33 (setOf fun _ => false) 4 32 Try.underlying26 infoSet rfl (by decide) _ _ (0 + n) 1 ([] ++ flat l) (cellsOf g).toList h33 (src_set1 hk1) (by simp [Act.eval, k33]) (by simp [Act.eval, k35]) rfl (cells_one g) (by have := HL40.out; omega) (by decide) hB.size ?_; intro v' w' ho hg; exact hK _ _ (fun h => by cases h) (fun u _ => ho) ⟨(Below.refl _ _).grown hg hB.size (fun q hq => own_base h33 q hq), own_grownT h33 hg⟩)))) ?_ rfl (RgX.keep_r (fun _ _ _ _ h hb => own_below h hb) (fun _ _ => ⟨fun _ _ _ h => absurd ⟨1, rfl⟩ h, fun h _ _ _ => absurd rfl h, fun _ h _ _ => absurd rfl h, trivial⟩)) (fun _ h => by cases h)
  refine RgX.build_cons (m := 7) (r := RgX.eq _) (RgX.one_plain (by rfl) (by (intro ax wx hk Kx hK; obtain ⟨v36, k36, h36⟩ := hk.dep 0 5 36 _ rfl rfl rfl; (first | (replace h36 := h36 9 undef rfl rfl; first | (cases (h36 : v36 = _)) | (obtain ⟨rfl, h36⟩ := h36) | skip) | skip); have hB := hk.fact 0 0 _ rfl rfl; (try dsimp only at hB); clear hk; go_simp; refine (classes_any _ (l ++ [g]) _ (rdSets_own (by rw [flat_snoc]; simpa using h36) (by rw [List.length_append, HNL.out]; have := HL40.out; simp; omega)) (by rw [List.length_append, HNL.out]; have := HL40.out; simp; omega)).mono ?_; rintro e w' ⟨rfl, hb⟩; refine hK _ _ (fun h => by cases h) (fun _ _ => ?_) hb; apply RgX.mk))) ?_ rfl RgX.keep_eq (fun _ h => by cases h)
  refine RgX.build_cons (m := 8) (r := RgX.eq _) (RgX.one_plain (by rfl) (by (intro ax wx hk Kx hK; obtain ⟨v37, k37, h37⟩ := hk.dep 0 6 37 _ rfl rfl rfl; (first | (replace h37 := h37 9 undef rfl rfl; first | (cases (h37 : v37 = _)) | (obtain ⟨rfl, h37⟩ := h37) | skip) | skip); have hB := hk.fact 0 0 _ rfl rfl; (try dsimp only at hB); clear hk; go_simp; refine hK _ _ (fun h => by cases h) (fun _ _ => ?_) (Below.refl _ _); apply RgX.mk))) ?_ rfl RgX.keep_eq (fun _ h => by cases h)
  refine RgX.build_cons (m := 9) (r := RgX.eq _) (RgX.one_plain (by rfl) (by (intro ax wx hk Kx hK; obtain ⟨v30, k30, h30⟩ := hk.dep 0 7 30 _ rfl rfl rfl; (first | (replace h30 := h30 9 undef rfl rfl; first | (cases (h30 : v30 = _)) | (obtain ⟨rfl, h30⟩ := h30) | skip) | skip); have hB := hk.fact 0 0 _ rfl rfl; (try dsimp only at hB); clear hk; go_simp; refine hK _ _ (fun h => by cases h) (fun _ _ => ?_) (Below.refl _ _); apply RgX.mk))) ?_ rfl RgX.keep_eq (fun _ h => by cases h)
  refine RgX.build_cons (m := 10) (r := RgX.eq _) (RgX.one_plain (by rfl) (by (intro ax wx hk Kx hK; obtain ⟨v30, k30, h30⟩ := hk.dep 0 7 30 _ rfl rfl rfl; (first | (replace h30 := h30 9 undef rfl rfl; first | (cases (h30 : v30 = _)) | (obtain ⟨rfl, h30⟩ := h30) | skip) | skip); have hB := hk.fact 0 0 _ rfl rfl; (try dsimp only at hB); clear hk; go_simp; refine hK _ _ (fun h => by cases h) (fun _ _ => ?_) (Below.refl _ _); apply RgX.mk))) ?_ rfl RgX.keep_eq (fun _ h => by cases h)
  refine RgX.build_cons (m := 11) (r := (⟨fun v _ w5 => ∃ k, v = .pointer (some ⟨k, 0, none⟩) ∧ w4.heap.size ≤ k ∧ AtG w5 k 27 (arr fun _ => 0), some 11, none⟩ : RgX.Rl)) (RgX.one_plain (by rfl) (by (intro ax wx hk Kx hK; have hB := hk.fact 0 0 _ rfl rfl; (try dsimp only at hB); clear hk; (go_simp; exact hK _ _ (fun h => by cases h) (fun u _ => ⟨wx.heap.size, rfl, hB.size, by rw [← arr_zero]; exact AtG.new _ _ _⟩) ((Below.refl _ _).alloc (Nat.le_refl _) _))))) ?_ rfl (RgX.keep_r (fun _ _ _ _ h hb => by obtain ⟨k, h1, h2, h3⟩ := h; exact ⟨k, h1, h2, h3.below hb⟩) (fun _ _ => ⟨fun _ _ _ _ => (fun w5 w6 h he => by obtain ⟨k, h1, h2, h3⟩ := h; obtain ⟨k', hk, hk1, hg⟩ := he; exact ⟨k, h1, h2, h3.grownT (by decide) (.inl ⟨k', _, hk1, hg⟩)⟩), fun _ _ _ _ => (fun w5 w6 h he => by obtain ⟨k, h1, h2, h3⟩ := h; exact ⟨k, h1, h2, h3.grownT (by decide) he.2⟩), fun _ h _ _ => absurd rfl h, trivial⟩)) (fun _ h => by cases h)
  refine RgX.build_cons (m := 12) (r := (⟨fun _ _ _ => True, none, none⟩ : RgX.Rl)) (RgX.one_plain (by rfl) (by (intro ax wx hk Kx hK; obtain ⟨v12, k12, h12⟩ := hk.dep 0 10 12 _ rfl rfl rfl; (first | (replace h12 := h12 9 undef rfl rfl; first | (cases (h12 : v12 = _)) | (obtain ⟨rfl, h12⟩ := h12) | skip) | skip); obtain ⟨v38, k38, h38⟩ := hk.dep 0 8 38 _ rfl rfl rfl; (first | (replace h38 := h38 9 undef rfl rfl; first | (cases (h38 : v38 = _)) | (obtain ⟨rfl, h38⟩ := h38) | skip) | skip); have hB := hk.fact 0 0 _ rfl rfl; (try dsimp only at hB); clear hk; (obtain ⟨k, rfl, hk0, hk1⟩ := h12; refine wp_store_row _ (.tmp 12) (.tmp 38) rfl k _ (by simp [Act.eval, k12]) (by simp [Act.eval, k38]; rfl) 27 _ hk1 (sizeA _) (by rw [arr_size, arr_size]) (arr_one _) ?_; exact hK undef _ (fun _ => rfl) (fun _ _ => trivial) (below_setRow (Below.refl _ _) hk0 _))))) ?_ rfl (RgX.keep_r (fun _ _ _ _ h _ => h) (fun _ _ => ⟨fun _ _ _ h => absurd ⟨1, rfl⟩ h, fun _ _ _ h => absurd ⟨1, rfl⟩ h, fun h _ _ _ => absurd rfl h, trivial⟩)) (fun _ h => by cases h)
  refine RgX.build_cons (m := 13) (r := RgX.eq _) (RgX.one_plain (by rfl) (by (intro ax wx hk Kx hK; obtain ⟨v39, k39, h39⟩ := hk.dep 0 9 39 _ rfl rfl rfl; (first | (replace h39 := h39 9 undef rfl rfl; first | (cases (h39 : v39 = _)) | (obtain ⟨rfl, h39⟩ := h39) | skip) | skip); have hB := hk.fact 0 0 _ rfl rfl; (try dsimp only at hB); clear hk; go_simp; refine hK _ _ (fun h => by cases h) (fun _ _ => ?_) (Below.refl _ _); apply RgX.mk))) ?_ rfl RgX.keep_eq (fun _ h => by cases h)
  refine RgX.build_end fun wx hj => ?_
  have hB := hj 0 _ rfl rfl
  clear hj
  first | refine RgX.fin_eq rfl ?_ | refine RgX.fin_any rfl fun v31 h31 => ?_
  refine RgX.fin_eq rfl ?_
  first | refine RgX.fin_eq rfl ?_ | refine RgX.fin_any rfl fun v33 h33 => ?_
  refine RgX.fin_eq rfl ?_
  first | refine RgX.fin_eq rfl ?_ | refine RgX.fin_any rfl fun v35 h35 => ?_
  first | refine RgX.fin_eq rfl ?_ | refine RgX.fin_any rfl fun v36 h36 => ?_
  refine RgX.fin_eq rfl ?_
  refine RgX.fin_eq rfl ?_
  refine RgX.fin_eq rfl ?_
  refine RgX.fin_eq rfl ?_
  first | refine RgX.fin_eq rfl ?_ | refine RgX.fin_any rfl fun v12 h12 => ?_
  refine RgX.fin_none rfl fun s11 => ?_
  refine RgX.fin_eq rfl ?_
  refine RgX.fin_nil ?_
  simp only [List.set_cons_zero, List.set_cons_succ]
  have HB := Lib.hid hB
  have HAX := Lib.hid (HA4.out.below hB)
  clear hB h12 h31 h33 h35 h36 s11
  generalize hm : (Cls.seen (keyB (l ++ [g])) 256).length = m
  have HM := Lib.hid hm; clear hm
  have hbx : Below w.heap.size w wx := H4.out.trans (HB.out.mono H4.out.size)
  have HBX := Lib.hid hbx; clear hbx
  go_wp2_with fail
  go_loopw [14, 15] (fun sv i wr => ∃ j : Nat, j ≤ n ∧ i = .int .i64 j ∧ sv = .bool (sameTo l x y j) ∧ Below wx.heap.size wx wr) (fun _ i _ => n - (intOf i).toNat)
  case atStart => exact ⟨0, by omega, rfl, rfl, (Below.refl _ _)⟩
  case round =>
    obtain ⟨j, hj, rfl, rfl, hbp⟩ := hrel
    have HBP := Lib.hid hbp; clear hbp
    by_cases hjn : j < n
    · have hjl : j < l.length := by rw [HNL.out]; exact hjn
      rcases HAB.out with h0 | ⟨b, off, rfl⟩
      · exact absurd h0 (by omega)
      obtain ⟨f1, hf1⟩ : ∃ f, l[j] = f := ⟨_, rfl⟩
      have hrow := rdSets_row HH.out j hjl
      rw [hf1] at hrow
      have hbw : b < w.heap.size := block_lt_of_cell (a := ⟨b, off + j * 4 + 0, none⟩) (hrow 0 (by omega))
      have hsx := HBX.out.size
      have hcx : ∀ o, wr.cell? ⟨b, o, none⟩ = w.cell? ⟨b, o, none⟩ := fun o => (HBP.out.cell (p := ⟨b, o, none⟩) (show b < wx.heap.size by omega)).trans (HBX.out.cell (p := ⟨b, o, none⟩) hbw)
      have c0 : wr.cell? ⟨b, off + j * 4, none⟩ = some (.int .u64 ((wd f1 0 : Nat) : Int)) := (hcx _).trans (hrow 0 (by omega))
      have c1 : wr.cell? ⟨b, off + j * 4 + 1, none⟩ = some (.int .u64 ((wd f1 1 : Nat) : Int)) := (hcx _).trans (hrow 1 (by omega))
      have c2 : wr.cell? ⟨b, off + j * 4 + 2, none⟩ = some (.int .u64 ((wd f1 2 : Nat) : Int)) := (hcx _).trans (hrow 2 (by omega))
      have c3 : wr.cell? ⟨b, off + j * 4 + 3, none⟩ = some (.int .u64 ((wd f1 3 : Nat) : Int)) := (hcx _).trans (hrow 3 (by omega))
      have hsucc : sameTo l x y (j + 1) = (sameTo l x y j && (f1 x == f1 y)) := by simp [sameTo, List.getD_eq_getElem?_getD, hjl, hf1]
      have HF1 := Lib.hid hf1; have HSC := Lib.hid hsucc
      have hbr : b < wr.heap.size := by have := HBP.out.size; omega
      clear hrow hcx hf1 hsucc
      go_wp2_with fail
      refine (has_any f1 x _ (by omega) (by omega)).mono ?_; rintro e9 w5 ⟨rfl, hb1⟩
      have d0 := (hb1.cell (p := ⟨b, off + j * 4, none⟩) hbr).trans c0
      have d1 := (hb1.cell (p := ⟨b, off + j * 4 + 1, none⟩) hbr).trans c1
      have d2 := (hb1.cell (p := ⟨b, off + j * 4 + 2, none⟩) hbr).trans c2
      have d3 := (hb1.cell (p := ⟨b, off + j * 4 + 3, none⟩) hbr).trans c3
      have HB5 := Lib.hid (HBP.out.trans (hb1.mono HBP.out.size))
      clear c0 c1 c2 c3 hb1
      rw [Int.toNat_natCast]
      go_wp2_with fail
      refine (has_any f1 y _ (by omega) (by omega)).mono ?_; rintro e9 w6 ⟨rfl, hb3⟩
      have HB6 := Lib.hid (HB5.out.trans (hb3.mono HB5.out.size))
      clear d0 d1 d2 d3 hb3
      rw [Int.toNat_natCast]
      generalize f1 x = p at *
      generalize f1 y = q at *
      generalize hsm : sameTo l x y j = sb at *
      have HSM := Lib.hid hsm; clear hsm
      cases sb
      · go_wp2_with fail
        exact ⟨⟨j + 1, by omega, by go_num, by rw [HSC.out]; rfl, HB6.out⟩, by simp [intOf]; omega⟩
      · go_wp2_with fail
        exact ⟨⟨j + 1, by omega, by go_num, by rw [HSC.out]; rfl, HB6.out⟩, by simp [intOf]; omega⟩
    · obtain rfl : j = n := by omega
      have hall := sameTo_all l x y
      rw [HNL.out] at hall
      have har := HAX.out.below HBP.out
      have HAR := Lib.hid har
      have HBR := Lib.hid (HBX.out.trans (HBP.out.mono HBX.out.size))
      obtain ⟨sm, hsm⟩ : ∃ sm, sameTo l x y j = sm := ⟨_, rfl⟩
      rw [hsm] at hall ⊢
      have HALL := Lib.hid hall
      clear hall har hsm
      go_wp2_with fail
      clear HBP
      obtain ⟨wy, rfl⟩ : ∃ wy : World, wy = wr := ⟨_, rfl⟩
      go_loopw [18, 19] (fun tv i wz => ∃ k : Nat, k ≤ 256 ∧ i = .int .i64 k ∧ tv = .int .i64 (Cls.top (keyB l) k) ∧ AtG wz w2.heap.size 27 (arr f) ∧ Below w.heap.size w wz) (fun _ i _ => 256 - (intOf i).toNat)
      case atStart => exact ⟨0, by omega, rfl, rfl, HAR.out, HBR.out⟩
      case round =>
        obtain ⟨k, hk, rfl, rfl, har, hbr⟩ := hrel
        clear HAR HBR
        have HAR := Lib.hid har; have HBR := Lib.hid hbr; clear har hbr
        by_cases hlt : k < 256
        · have hc := HAR.out.cell k _ (arr_get f k hlt)
          have ht := Cls.top_succ (keyB l) k
          have hfk : f k = ((Cls.num (keyB l) k : Nat) : Int) := by rw [HF.out]
          have hsl := Cls.seen_len_le (keyB l) k
          have htl : Cls.top (keyB l) k = ((Cls.seen (keyB l) k).length : Int) - 1 := rfl
          obtain ⟨z, hz⟩ : ∃ z, f k = z := ⟨_, rfl⟩
          obtain ⟨tp, htp⟩ : ∃ tp, Cls.top (keyB l) k = tp := ⟨_, rfl⟩
          rw [hz] at hfk hc
          rw [htp] at ht htl ⊢
          have z0 : 0 ≤ z := by omega
          have z1 : z ≤ tp + 1 := by omega
          have t0 : -1 ≤ tp := by omega
          have t1 : tp ≤ 255 := by omega
          have HT : Hid (Cls.top (keyB l) (k + 1) = max tp z) := Lib.hid (by rw [ht.1, hfk])
          have hkI : (k : Int) < 256 := by omega
          have HLT := Lib.hid hlt
          clear ht hfk hsl htl hz htp hlt hk
          have n1 : ¬ z < 0 := by omega
          have n2 : ¬ tp + 1 < z := by omega
          have n3 : decide (tp + 1 < z) = false := by simpa using z1
          by_cases hzt : tp < z
          · have HMX : Hid (Cls.top (keyB l) (k + 1) = z) := Lib.hid (by rw [HT.out]; omega)
            go_wp2_with fail
            have hlt := HLT.out
            refine ⟨⟨k + 1, by omega, by go_num, ?_, HAR.out, HBR.out⟩, by simp [intOf]; omega⟩
            rw [HMX.out]
          · have HMX : Hid (Cls.top (keyB l) (k + 1) = tp) := Lib.hid (by rw [HT.out]; omega)
            go_wp2_with fail
            have hlt := HLT.out
            refine ⟨⟨k + 1, by omega, by go_num, ?_, HAR.out, HBR.out⟩, by simp [intOf]; omega⟩
            rw [HMX.out]
        · obtain rfl : k = 256 := by omega
          have hcx := HAR.out.cell x _ (arr_get f x (by have := HX.out; omega))
          have hcy := HAR.out.cell y _ (arr_get f y (by have := HY.out; omega))
          have heq : ((f x == f y) == sm) = true := by
            rw [HF.out, beq_iff_eq, Bool.eq_iff_iff, HALL.out]
            simp only [beq_iff_eq]
            rw [Int.ofNat_inj, Cls.num_iff]
            exact eq_comm
          obtain ⟨tp, htp⟩ : ∃ tp, Cls.top (keyB l) 256 = tp := ⟨_, rfl⟩
          obtain ⟨hs1, hmge, t0, t1⟩ := apart_facts l g 256 m s tp HS.out HM.out htp
          rw [htp]
          have e1 : (s == tp + 1) = true := by rw [beq_iff_eq]; exact hs1
          have e2 : decide (s ≤ (m : Int)) = true := by simpa using hmge
          clear hs1 hmge htp hlt hk
          generalize f x = p at *
          generalize f y = q at *
          have HEQ := Lib.hid heq; have HE1 := Lib.hid e1; have HE2 := Lib.hid e2
          clear heq e1 e2
          have HCX := Lib.hid hcx; have HCY := Lib.hid hcy; clear hcx hcy
          go_upto_region 20 with (fail)
          have heq := HEQ.out; have e1 := HE1.out; have e2 := HE2.out; have hcx := HCX.out; have hcy := HCY.out
          have ex : IntKind.i64.wrap (x : Int) = x := IntWalk.i64_in _ (by omega)
          have ey : IntKind.i64.wrap (y : Int) = y := IntWalk.i64_in _ (by omega)
          have etp : IntKind.i64.wrap (tp + 1) = tp + 1 := IntWalk.i64_in _ (by omega)
          have x2 : (x : Int) < 256 := by omega
          have y2 : (y : Int) < 256 := by omega
          refine Rg.wp_region_each (by kernel_rfl) (fun w' => w'.cell? ⟨w2.heap.size, x, none⟩ = some (.int .i64 p) ∧ w'.cell? ⟨w2.heap.size, y, none⟩ = some (.int .i64 q) ∧ Below wr.heap.size wr w' ∧ w2.heap.size < w'.heap.size) (fun w1 w2' h hb => ⟨(hb.cell (p := ⟨w2.heap.size, x, none⟩) h.2.2.2).trans h.1, (hb.cell (p := ⟨w2.heap.size, y, none⟩) h.2.2.2).trans h.2.1, h.2.2.1.trans (hb.mono h.2.2.1.size), Nat.lt_of_lt_of_le h.2.2.2 hb.size⟩) (by kernel_rfl) (by kernel_rfl) (⟨hcx, hcy, Below.refl _ _, HAR.out.lt⟩) ?_
          show Rg.Build _ _ _ _ _ 0 [_, _, _, _, _, _, _, _, _, _, _, _, _, _, _, _, _, _, _, _, _, _, _, _, _, _] []
          refine Rg.build_cons (m := 1) (r := Rg.eq _) (Rg.one_plain (by rfl) (by (intro ax wx hk Kx hK; have k9 := hk.base 9 _ rfl rfl; have hj := hk.j; clear hk; obtain ⟨hcx, hcy, -, -⟩ := hj; go_simp; refine hK _ _ ?_ (Below.refl _ _); apply Rg.mk))) ?_ rfl
          refine Rg.build_cons (m := 2) (r := Rg.eq _) (Rg.one_plain (by rfl) (by (intro ax wx hk Kx hK; obtain ⟨v85, k85, h85⟩ := hk.dep 0 85 _ rfl rfl rfl; (first | (cases (h85 : v85 = _)) | (obtain ⟨rfl, h85⟩ := h85) | skip); have hj := hk.j; clear hk; obtain ⟨hcx, hcy, -, -⟩ := hj; go_simp; refine hK _ _ ?_ (Below.refl _ _); apply Rg.mk))) ?_ rfl
          first
            | refine Rg.build_cons (m := 3) (Rg.one_no 1 86 true (by rfl) (by rfl) (by rfl) (by rfl)) ?_ rfl
            | refine Rg.build_cons (m := 3) (r := Rg.eq _) (Rg.one_yes 1 86 true (by rfl) (by rfl) (by rfl) (by rfl) (by (intro ax wx hk Kx hK; have k2 := hk.base 2 _ rfl rfl; have hj := hk.j; clear hk; obtain ⟨hcx, hcy, -, -⟩ := hj; go_simp; refine hK _ _ ?_ (Below.refl _ _); apply Rg.mk))) ?_ rfl
          first
            | refine Rg.build_cons (m := 4) (Rg.one_no 1 86 true (by rfl) (by rfl) (by rfl) (by rfl)) ?_ rfl
            | refine Rg.build_cons (m := 4) (r := Rg.eq _) (Rg.one_yes 1 86 true (by rfl) (by rfl) (by rfl) (by rfl) (by (intro ax wx hk Kx hK; obtain ⟨v87, k87, h87⟩ := hk.dep 2 87 _ rfl rfl rfl; (first | (cases (h87 : v87 = _)) | (obtain ⟨rfl, h87⟩ := h87) | skip); have hj := hk.j; clear hk; obtain ⟨hcx, hcy, -, -⟩ := hj; go_simp; refine hK _ _ ?_ (Below.refl _ _); apply Rg.mk))) ?_ rfl
          first
            | refine Rg.build_cons (m := 5) (Rg.one_no 1 86 true (by rfl) (by rfl) (by rfl) (by rfl)) ?_ rfl
            | refine Rg.build_cons (m := 5) (r := Rg.eq _) (Rg.one_yes 1 86 true (by rfl) (by rfl) (by rfl) (by rfl) (by (intro ax wx hk Kx hK; have k10 := hk.base 10 _ rfl rfl; obtain ⟨v88, k88, h88⟩ := hk.dep 3 88 _ rfl rfl rfl; (first | (cases (h88 : v88 = _)) | (obtain ⟨rfl, h88⟩ := h88) | skip); have hj := hk.j; clear hk; obtain ⟨hcx, hcy, -, -⟩ := hj; go_simp; refine hK _ _ ?_ (Below.refl _ _); apply Rg.mk))) ?_ rfl
          first
            | refine Rg.build_cons (m := 6) (Rg.one_no 1 86 true (by rfl) (by rfl) (by rfl) (by rfl)) ?_ rfl
            | refine Rg.build_cons (m := 6) (r := Rg.eq _) (Rg.one_yes 1 86 true (by rfl) (by rfl) (by rfl) (by rfl) (by (intro ax wx hk Kx hK; obtain ⟨v89, k89, h89⟩ := hk.dep 4 89 _ rfl rfl rfl; (first | (cases (h89 : v89 = _)) | (obtain ⟨rfl, h89⟩ := h89) | skip); have hj := hk.j; clear hk; obtain ⟨hcx, hcy, -, -⟩ := hj; go_simp; refine hK _ _ ?_ (Below.refl _ _); apply Rg.mk))) ?_ rfl
          first
            | refine Rg.build_cons (m := 7) (Rg.one_no 1 86 true (by rfl) (by rfl) (by rfl) (by rfl)) ?_ rfl
            | refine Rg.build_cons (m := 7) (r := Rg.eq _) (Rg.one_yes 1 86 true (by rfl) (by rfl) (by rfl) (by rfl) (by (intro ax wx hk Kx hK; have k3 := hk.base 3 _ rfl rfl; have hj := hk.j; clear hk; obtain ⟨hcx, hcy, -, -⟩ := hj; go_simp; refine hK _ _ ?_ (Below.refl _ _); apply Rg.mk))) ?_ rfl
          first
            | refine Rg.build_cons (m := 8) (Rg.one_no 1 86 true (by rfl) (by rfl) (by rfl) (by rfl)) ?_ rfl
            | refine Rg.build_cons (m := 8) (r := Rg.eq _) (Rg.one_yes 1 86 true (by rfl) (by rfl) (by rfl) (by rfl) (by (intro ax wx hk Kx hK; obtain ⟨v91, k91, h91⟩ := hk.dep 6 91 _ rfl rfl rfl; (first | (cases (h91 : v91 = _)) | (obtain ⟨rfl, h91⟩ := h91) | skip); have hj := hk.j; clear hk; obtain ⟨hcx, hcy, -, -⟩ := hj; go_simp; refine hK _ _ ?_ (Below.refl _ _); apply Rg.mk))) ?_ rfl
          first
            | refine Rg.build_cons (m := 9) (Rg.one_no 1 86 true (by rfl) (by rfl) (by rfl) (by rfl)) ?_ rfl
            | refine Rg.build_cons (m := 9) (r := Rg.eq _) (Rg.one_yes 1 86 true (by rfl) (by rfl) (by rfl) (by rfl) (by (intro ax wx hk Kx hK; have k10 := hk.base 10 _ rfl rfl; obtain ⟨v92, k92, h92⟩ := hk.dep 7 92 _ rfl rfl rfl; (first | (cases (h92 : v92 = _)) | (obtain ⟨rfl, h92⟩ := h92) | skip); have hj := hk.j; clear hk; obtain ⟨hcx, hcy, -, -⟩ := hj; go_simp; refine hK _ _ ?_ (Below.refl _ _); apply Rg.mk))) ?_ rfl
          first
            | refine Rg.build_cons (m := 10) (Rg.one_no 1 86 true (by rfl) (by rfl) (by rfl) (by rfl)) ?_ rfl
            | refine Rg.build_cons (m := 10) (r := Rg.eq _) (Rg.one_yes 1 86 true (by rfl) (by rfl) (by rfl) (by rfl) (by (intro ax wx hk Kx hK; obtain ⟨v93, k93, h93⟩ := hk.dep 8 93 _ rfl rfl rfl; (first | (cases (h93 : v93 = _)) | (obtain ⟨rfl, h93⟩ := h93) | skip); have hj := hk.j; clear hk; obtain ⟨hcx, hcy, -, -⟩ := hj; go_simp; refine hK _ _ ?_ (Below.refl _ _); apply Rg.mk))) ?_ rfl
          first
            | refine Rg.build_cons (m := 11) (Rg.one_no 1 86 true (by rfl) (by rfl) (by rfl) (by rfl)) ?_ rfl
            | refine Rg.build_cons (m := 11) (r := Rg.eq _) (Rg.one_yes 1 86 true (by rfl) (by rfl) (by rfl) (by rfl) (by (intro ax wx hk Kx hK; obtain ⟨v90, k90, h90⟩ := hk.dep 5 90 _ rfl rfl rfl; (first | (cases (h90 : v90 = _)) | (obtain ⟨rfl, h90⟩ := h90) | skip); obtain ⟨v94, k94, h94⟩ := hk.dep 9 94 _ rfl rfl rfl; (first | (cases (h94 : v94 = _)) | (obtain ⟨rfl, h94⟩ := h94) | skip); have hj := hk.j; clear hk; obtain ⟨hcx, hcy, -, -⟩ := hj; go_simp; refine hK _ _ ?_ (Below.refl _ _); apply Rg.mk))) ?_ rfl
          first
            | refine Rg.build_cons (m := 12) (Rg.one_no 1 86 true (by rfl) (by rfl) (by rfl) (by rfl)) ?_ rfl
            | refine Rg.build_cons (m := 12) (r := Rg.eq _) (Rg.one_yes 1 86 true (by rfl) (by rfl) (by rfl) (by rfl) (by (intro ax wx hk Kx hK; have k14 := hk.base 14 _ rfl rfl; have hj := hk.j; clear hk; obtain ⟨hcx, hcy, -, -⟩ := hj; go_simp; refine hK _ _ ?_ (Below.refl _ _); apply Rg.mk))) ?_ rfl
          first
            | refine Rg.build_cons (m := 13) (Rg.one_no 1 86 true (by rfl) (by rfl) (by rfl) (by rfl)) ?_ rfl
            | refine Rg.build_cons (m := 13) (r := Rg.eq _) (Rg.one_yes 1 86 true (by rfl) (by rfl) (by rfl) (by rfl) (by (intro ax wx hk Kx hK; obtain ⟨v95, k95, h95⟩ := hk.dep 10 95 _ rfl rfl rfl; (first | (cases (h95 : v95 = _)) | (obtain ⟨rfl, h95⟩ := h95) | skip); obtain ⟨v96, k96, h96⟩ := hk.dep 11 96 _ rfl rfl rfl; (first | (cases (h96 : v96 = _)) | (obtain ⟨rfl, h96⟩ := h96) | skip); have hj := hk.j; clear hk; obtain ⟨hcx, hcy, -, -⟩ := hj; go_simp; refine hK _ _ ?_ (Below.refl _ _); apply Rg.mk))) ?_ rfl
          refine Rg.build_cons (m := 14) (r := Rg.eq _) (Rg.one_plain (by rfl) (by (intro ax wx hk Kx hK; obtain ⟨v86, k86, h86⟩ := hk.dep 1 86 _ rfl rfl rfl; (first | (cases (h86 : v86 = _)) | (obtain ⟨rfl, h86⟩ := h86) | skip); obtain ⟨v97, k97, h97⟩ := hk.dep 12 97 _ rfl rfl rfl; (first | (cases (h97 : v97 = _)) | (obtain ⟨rfl, h97⟩ := h97) | skip); have hj := hk.j; clear hk; obtain ⟨hcx, hcy, -, -⟩ := hj; go_simp; refine hK _ _ ?_ (Below.refl _ _); apply Rg.mk))) ?_ rfl
          refine Rg.build_cons (m := 15) (r := Rg.eq _) (Rg.one_plain (by rfl) (by (intro ax wx hk Kx hK; obtain ⟨v98, k98, h98⟩ := hk.dep 13 98 _ rfl rfl rfl; (first | (cases (h98 : v98 = _)) | (obtain ⟨rfl, h98⟩ := h98) | skip); have hj := hk.j; clear hk; obtain ⟨hcx, hcy, -, -⟩ := hj; go_simp; refine hK _ _ ?_ (Below.refl _ _); apply Rg.mk))) ?_ rfl
          first
            | refine Rg.build_cons (m := 16) (Rg.one_no 14 99 true (by rfl) (by rfl) (by rfl) (by rfl)) ?_ rfl
            | refine Rg.build_cons (m := 16) (r := Rg.eq _) (Rg.one_yes 14 99 true (by rfl) (by rfl) (by rfl) (by rfl) (by (intro ax wx hk Kx hK; have k11 := hk.base 11 _ rfl rfl; have hj := hk.j; clear hk; obtain ⟨hcx, hcy, -, -⟩ := hj; go_simp; refine hK _ _ ?_ (Below.refl _ _); apply Rg.mk))) ?_ rfl
          first
            | refine Rg.build_cons (m := 17) (Rg.one_no 14 99 true (by rfl) (by rfl) (by rfl) (by rfl)) ?_ rfl
            | refine Rg.build_cons (m := 17) (r := Rg.eq _) (Rg.one_yes 14 99 true (by rfl) (by rfl) (by rfl) (by rfl) (by (intro ax wx hk Kx hK; have k18 := hk.base 18 _ rfl rfl; have hj := hk.j; clear hk; obtain ⟨hcx, hcy, -, -⟩ := hj; go_simp; refine hK _ _ ?_ (Below.refl _ _); apply Rg.mk))) ?_ rfl
          first
            | refine Rg.build_cons (m := 18) (Rg.one_no 14 99 true (by rfl) (by rfl) (by rfl) (by rfl)) ?_ rfl
            | refine Rg.build_cons (m := 18) (r := Rg.eq _) (Rg.one_yes 14 99 true (by rfl) (by rfl) (by rfl) (by rfl) (by (intro ax wx hk Kx hK; obtain ⟨v101, k101, h101⟩ := hk.dep 16 101 _ rfl rfl rfl; (first | (cases (h101 : v101 = _)) | (obtain ⟨rfl, h101⟩ := h101) | skip); have hj := hk.j; clear hk; obtain ⟨hcx, hcy, -, -⟩ := hj; go_simp; refine hK _ _ ?_ (Below.refl _ _); apply Rg.mk))) ?_ rfl
          first
            | refine Rg.build_cons (m := 19) (Rg.one_no 14 99 true (by rfl) (by rfl) (by rfl) (by rfl)) ?_ rfl
            | refine Rg.build_cons (m := 19) (r := Rg.eq _) (Rg.one_yes 14 99 true (by rfl) (by rfl) (by rfl) (by rfl) (by (intro ax wx hk Kx hK; obtain ⟨v100, k100, h100⟩ := hk.dep 15 100 _ rfl rfl rfl; (first | (cases (h100 : v100 = _)) | (obtain ⟨rfl, h100⟩ := h100) | skip); obtain ⟨v102, k102, h102⟩ := hk.dep 17 102 _ rfl rfl rfl; (first | (cases (h102 : v102 = _)) | (obtain ⟨rfl, h102⟩ := h102) | skip); have hj := hk.j; clear hk; obtain ⟨hcx, hcy, -, -⟩ := hj; go_simp; refine hK _ _ ?_ (Below.refl _ _); apply Rg.mk))) ?_ rfl
          refine Rg.build_cons (m := 20) (r := Rg.eq _) (Rg.one_plain (by rfl) (by (intro ax wx hk Kx hK; obtain ⟨v99, k99, h99⟩ := hk.dep 14 99 _ rfl rfl rfl; (first | (cases (h99 : v99 = _)) | (obtain ⟨rfl, h99⟩ := h99) | skip); obtain ⟨v103, k103, h103⟩ := hk.dep 18 103 _ rfl rfl rfl; (first | (cases (h103 : v103 = _)) | (obtain ⟨rfl, h103⟩ := h103) | skip); have hj := hk.j; clear hk; obtain ⟨hcx, hcy, -, -⟩ := hj; go_simp; refine hK _ _ ?_ (Below.refl _ _); apply Rg.mk))) ?_ rfl
          refine Rg.build_cons (m := 21) (r := Rg.eq _) (Rg.one_plain (by rfl) (by (intro ax wx hk Kx hK; obtain ⟨v104, k104, h104⟩ := hk.dep 19 104 _ rfl rfl rfl; (first | (cases (h104 : v104 = _)) | (obtain ⟨rfl, h104⟩ := h104) | skip); have hj := hk.j; clear hk; obtain ⟨hcx, hcy, -, -⟩ := hj; go_simp; refine hK _ _ ?_ (Below.refl _ _); apply Rg.mk))) ?_ rfl
          first
            | refine Rg.build_cons (m := 22) (Rg.one_no 20 105 true (by rfl) (by rfl) (by rfl) (by rfl)) ?_ rfl
            | refine Rg.build_cons (m := 22) (r := Rg.eq _) (Rg.one_yes 20 105 true (by rfl) (by rfl) (by rfl) (by rfl) (by (intro ax wx hk Kx hK; have k13 := hk.base 13 _ rfl rfl; have hj := hk.j; clear hk; obtain ⟨hcx, hcy, -, -⟩ := hj; go_simp; refine hK _ _ ?_ (Below.refl _ _); apply Rg.mk))) ?_ rfl
          first
            | refine Rg.build_cons (m := 23) (Rg.one_no 20 105 true (by rfl) (by rfl) (by rfl) (by rfl)) ?_ rfl
            | refine Rg.build_cons (m := 23) (r := Rg.eq _) (Rg.one_yes 20 105 true (by rfl) (by rfl) (by rfl) (by rfl) (by (intro ax wx hk Kx hK; have k11 := hk.base 11 _ rfl rfl; have hj := hk.j; clear hk; obtain ⟨hcx, hcy, -, -⟩ := hj; go_simp; refine hK _ _ ?_ (Below.refl _ _); apply Rg.mk))) ?_ rfl
          first
            | refine Rg.build_cons (m := 24) (Rg.one_no 20 105 true (by rfl) (by rfl) (by rfl) (by rfl)) ?_ rfl
            | refine Rg.build_cons (m := 24) (r := Rg.eq _) (Rg.one_yes 20 105 true (by rfl) (by rfl) (by rfl) (by rfl) (by (intro ax wx hk Kx hK; obtain ⟨v106, k106, h106⟩ := hk.dep 21 106 _ rfl rfl rfl; (first | (cases (h106 : v106 = _)) | (obtain ⟨rfl, h106⟩ := h106) | skip); obtain ⟨v107, k107, h107⟩ := hk.dep 22 107 _ rfl rfl rfl; (first | (cases (h107 : v107 = _)) | (obtain ⟨rfl, h107⟩ := h107) | skip); have hj := hk.j; clear hk; obtain ⟨hcx, hcy, -, -⟩ := hj; go_simp; refine hK _ _ ?_ (Below.refl _ _); apply Rg.mk))) ?_ rfl
          refine Rg.build_cons (m := 25) (r := Rg.eq _) (Rg.one_plain (by rfl) (by (intro ax wx hk Kx hK; obtain ⟨v105, k105, h105⟩ := hk.dep 20 105 _ rfl rfl rfl; (first | (cases (h105 : v105 = _)) | (obtain ⟨rfl, h105⟩ := h105) | skip); obtain ⟨v108, k108, h108⟩ := hk.dep 23 108 _ rfl rfl rfl; (first | (cases (h108 : v108 = _)) | (obtain ⟨rfl, h108⟩ := h108) | skip); have hj := hk.j; clear hk; obtain ⟨hcx, hcy, -, -⟩ := hj; go_simp; refine hK _ _ ?_ (Below.refl _ _); apply Rg.mk))) ?_ rfl
          refine Rg.build_cons (m := 26) (r := Rg.eq _) (Rg.one_plain (by rfl) (by (intro ax wx hk Kx hK; obtain ⟨v109, k109, h109⟩ := hk.dep 24 109 _ rfl rfl rfl; (first | (cases (h109 : v109 = _)) | (obtain ⟨rfl, h109⟩ := h109) | skip); have hj := hk.j; clear hk; obtain ⟨hcx, hcy, -, -⟩ := hj; go_simp; refine hK _ _ ?_ (Below.refl _ _); apply Rg.mk))) ?_ rfl
          refine Rg.build_end fun wx hj => ?_
          refine Rg.fin_eq rfl ?_
          refine Rg.fin_eq rfl ?_
          refine Rg.fin_eq rfl ?_
          refine Rg.fin_eq rfl ?_
          refine Rg.fin_eq rfl ?_
          refine Rg.fin_eq rfl ?_
          refine Rg.fin_eq rfl ?_
          refine Rg.fin_eq rfl ?_
          refine Rg.fin_eq rfl ?_
          refine Rg.fin_eq rfl ?_
          refine Rg.fin_eq rfl ?_
          refine Rg.fin_eq rfl ?_
          refine Rg.fin_eq rfl ?_
          refine Rg.fin_eq rfl ?_
          refine Rg.fin_eq rfl ?_
          refine Rg.fin_eq rfl ?_
          refine Rg.fin_eq rfl ?_
          refine Rg.fin_eq rfl ?_
          refine Rg.fin_eq rfl ?_
          refine Rg.fin_eq rfl ?_
          refine Rg.fin_eq rfl ?_
          refine Rg.fin_eq rfl ?_
          refine Rg.fin_eq rfl ?_
          refine Rg.fin_eq rfl ?_
          refine Rg.fin_eq rfl ?_
          refine Rg.fin_eq rfl ?_
          refine Rg.fin_nil ?_
          simp only [List.set_cons_zero, List.set_cons_succ]
          have HBF := Lib.hid (HBR.out.trans (hj.2.2.1.mono HBR.out.size))
          clear hj hcx hcy
          go_wp2_with fail
          go_returns
          exact ⟨rfl, HBF.out⟩
end Go.Proofs.Ytklpjlcphikfaaa
