/- The walk of LuhnTurned. -/
import Derived.Test.YtklpjlcphikfaaaTurnPlain
import Derived.Test.YtklpjlcphikfaaaSetRef
import Derived.Test.YtklpjlcphikfaaaRegX
set_option linter.unusedVariables false
set_option linter.unusedSimpArgs false
namespace Go.Proofs.Ytklpjlcphikfaaa
open Go.RowKit Luhn
theorem own_empty {w : World} {base g T : Nat} (h : AtG w g T #[]) (hb : base ≤ g) : w.ownsRow base T 1 (.slice (some ⟨g, 0, none⟩) 0 0) 0 [] :=
  ⟨rfl, .inr ⟨g, 0, #[], rfl, hb, h, Nat.le_refl _, by decide, rfl, rfl⟩⟩
theorem src_one {w : World} {g T : Nat} {u : Value} (h : AtG w g T #[u]) : SrcRow w (.slice (some ⟨g, 0, none⟩) 1 1) 1 [u] :=
  .inr ⟨⟨g, 0, none⟩, 1, rfl, fun j y hy => by
    have hj : j = 0 := by have := (List.getElem?_eq_some_iff.1 hy).1; simp at this; exact this
    subst hj
    have e1 : (⟨g, 0, none⟩ : Addr).add 0 = ⟨g, 0, none⟩ := by unfold Addr.add; simp
    rw [e1]; simp at hy; subst hy; exact h.cell 0 _ rfl⟩
theorem own_some {w : World} {base n : Nat} {e : TypeId} {v : Value} {xs : List Value} (h : w.ownsRow base e 1 v n xs) (hn : xs ≠ []) :
    ∃ g cap, v = .slice (some ⟨g, 0, none⟩) n cap ∧ n ≤ cap ∧ base ≤ g ∧ g < w.heap.size ∧ (∀ j u, xs[j]? = some u → w.cell? ⟨g, j, none⟩ = some u) ∧ ∀ j, w.frozen? ⟨g, j, none⟩ = false := by
  have hl := h.1
  rcases h.2 with ⟨rfl, h0⟩ | ⟨g, cap, cur, rfl, hb, hh, hnc, hcm, hcs, hct⟩
  · exfalso; apply hn; apply List.eq_nil_of_length_eq_zero; omega
  · refine ⟨g, cap, rfl, hnc, hb, (Array.getElem?_eq_some_iff.1 hh).1, fun j u hu => ?_, fun j => by simp [World.frozen?, hh]⟩
    rw [← hct] at hu
    have : cur[j]? = some u := by
      rw [List.getElem?_take] at hu
      split at hu
      · simpa using hu
      · cases hu
    simp [World.cell?, hh, this]
/-- a part of a slice of bytes as a source -/
theorem src_part {w : World} {b off c : Nat} {xs : List Int} (hc : ∀ j, j < xs.length → w.cell? ⟨b, off + j, none⟩ = some (.int .u8 (xs.getD j 0))) (p n : Nat) (hp : p + n ≤ xs.length) : SrcRow w (.slice (some ⟨b, off + p, none⟩) n c) n (((xs.drop p).take n).map (Value.int .u8)) := by
  refine .inr ⟨⟨b, off + p, none⟩, c, rfl, fun j y hy => ?_⟩
  have hj : j < n := by have := (List.getElem?_eq_some_iff.1 hy).1; simp at this; omega
  have e1 : (⟨b, off + p, none⟩ : Addr).add j = ⟨b, off + (p + j), none⟩ := by unfold Addr.add; split <;> simp_all [Nat.add_assoc]
  rw [e1, hc (p + j) (by omega), ← hy]
  simp [List.getElem?_take, hj, List.getD_eq_getElem?_getD, List.getElem?_eq_getElem (show p + j < xs.length by omega)]
theorem src_all {w : World} {b off c : Nat} {xs : List Int} (hc : ∀ j, j < xs.length → w.cell? ⟨b, off + j, none⟩ = some (.int .u8 (xs.getD j 0))) : SrcRow w (.slice (some ⟨b, off, none⟩) xs.length c) xs.length (xs.map (Value.int .u8)) := by
  have := src_part (c := c) hc 0 xs.length (by omega)
  simpa using this
theorem u8_one (xs : List Int) : ∀ y ∈ xs.map (Value.int .u8), y.oneCell' = true := fun y hy => by
  simp only [List.mem_map] at hy; obtain ⟨x, _, rfl⟩ := hy; rfl
theorem cells_far {w w1 : World} {b off : Nat} {xs : List Int} (hb : Below w.heap.size w w1) (hc : ∀ j, j < xs.length → w.cell? ⟨b, off + j, none⟩ = some (.int .u8 (xs.getD j 0))) : ∀ j, j < xs.length → w1.cell? ⟨b, off + j, none⟩ = some (.int .u8 (xs.getD j 0)) :=
  fun j hj => (hb.cell (World.block_lt_of_cell? _ _ (hc j hj))).trans (hc j hj)
set_option maxRecDepth 100000 in
set_option maxHeartbeats 12000000 in
theorem luhnTurned_walk (v : Value) (xs : List Int) (at' by' x : Int) (w : World) (h : RdB w v xs) (x0 : 0 ≤ x) (x1 : x ≤ 255) (hby : -9223372036854775808 ≤ by' ∧ by' ≤ 9223372036854775807) :
    Calls Try.prog 7 #[v, .int .i64 at', .int .i64 by', .int .u8 x] w fun e w' => e = .returned (.bool true) ∧ Below w.heap.size w w' := by
  have hv : ∃ A c, v = .slice A xs.length c ∧ xs.length ≤ 140737488355328 := by
    rcases h with ⟨rfl, a, c, rfl⟩ | ⟨b, off, cap, rfl, _, hm, _⟩
    · exact ⟨a, c, rfl, by simp⟩
    · exact ⟨_, cap, rfl, hm⟩
  obtain ⟨A, c, rfl, hm⟩ := hv
  have H := Lib.hid h; clear h
  by_cases hmain : 0 < xs.length ∧ xs.length ≤ 1000 ∧ 0 ≤ at' ∧ at' < xs.length
  · obtain ⟨m0, m1, m2, m3⟩ := hmain
    obtain ⟨p, rfl⟩ := Int.eq_ofNat_of_zero_le m2
    have hp : p < xs.length := by omega
    clear m2
    rcases H.out with ⟨h0, _⟩ | ⟨b, off, cap, hv, hcap, _, hc, hbd⟩
    · subst h0; simp at m0
    obtain ⟨rfl, -, rfl⟩ := Value.slice.inj hv
    clear hv
    have hmem : ∀ y ∈ xs, 0 ≤ y ∧ y ≤ 255 := fun y hy => by
      obtain ⟨i, hi, rfl⟩ := List.getElem_of_mem hy
      have := hbd i
      simpa [List.getD_eq_getElem?_getD, List.getElem?_eq_getElem hi] using this
    have HMEM := Lib.hid hmem; clear hmem
    have HCE := Lib.hid hc; have HBD := Lib.hid hbd; clear hc hbd
    have hbd := luhn_bd xs
    generalize hst : luhn xs = st at hbd
    obtain ⟨n, s⟩ := st
    have HST := Lib.hid hst; clear hst
    obtain ⟨hn0, hn1, hs0, hs1⟩ := hbd
    simp only at hn0 hn1 hs0 hs1
    have m4 : ((xs.length : Int) == 0) = false := by rw [beq_eq_false_iff_ne]; omega
    go_enter Try.func7, Try.ntmps7
    go_wp2_with fail
    refine (up08_any _).mono ?_; rintro e w1 ⟨rfl, hb1⟩
    have H1 := Lib.hid (rdB_below H.out hb1)
    have HB1 := Lib.hid hb1; clear hb1
    go_wp2_with fail
    refine (sum_any _ xs _ H1.out).mono ?_; rintro e w2 ⟨rfl, hw2⟩
    subst hw2
    rw [HST.out]
    by_cases hx : x < 48 ∨ 57 < x
    · have HX := Lib.hid hx
      have hpc : p ≤ c := by omega
      have hpl : p ≤ xs.length := by omega
      have hcp : ¬ c = p := by omega
      rcases hx with hx | hx
      all_goals
        go_wp2_with fail
        refine RgX.start (by kernel_rfl) [(4, fun w3 w4 => ∃ k, w2.heap.size ≤ k ∧ AtG w3 k 5 #[] ∧ w3.grownBy w4 (some k)), (7, fun w3 w4 => Below w2.heap.size w3 w4), (11, fun w3 w4 => Below w2.heap.size w3 w4)] [⟨fun w4 => Below w.heap.size w w4, none⟩, ⟨fun w4 => w2.heap.size ≤ w4.heap.size, none⟩] ⟨⟨fun _ _ h hb => h.trans (hb.mono h.size), ⟨fun _ _ _ _ => (fun w3 w4 h he => by obtain ⟨k, hk, -, hg⟩ := he; exact Below.grown h hg h.size (fun q hq => by cases hq; exact Nat.le_trans HB1.out.size hk)), fun _ _ _ _ => (fun w3 w4 h he => h.trans (he.mono HB1.out.size)), fun _ _ _ _ => (fun w3 w4 h he => h.trans (he.mono HB1.out.size)), trivial⟩⟩, ⟨fun _ _ h hb => Nat.le_trans h hb.size, ⟨fun _ _ _ _ => (fun w3 w4 h he => by obtain ⟨k, hk, -, hg⟩ := he; exact Nat.le_trans h hg.size), fun _ _ _ _ => (fun w3 w4 h he => Nat.le_trans h he.size), fun _ _ _ _ => (fun w3 w4 h he => Nat.le_trans h he.size), trivial⟩⟩, trivial⟩ (by kernel_rfl) (by kernel_rfl) ⟨HB1.out.drew, Nat.le_refl _, trivial⟩ ?_
        show RgX.Build _ _ _ _ _ _ 0 [_, _, _, _, _, _, _, _, _, _, _, _, _] []
        refine RgX.build_cons (m := 1) (r := (⟨fun v _ w4 => ∃ k, v = .slice (some ⟨k, 0, none⟩) 0 0 ∧ w2.heap.size ≤ k ∧ AtG w4 k 5 #[], some 4, none⟩ : RgX.Rl)) (RgX.one_plain (by rfl) (by (intro ax wx hk Kx hK; have hB := hk.fact 0 0 _ rfl rfl; (try dsimp only at hB); have hz := hk.fact 1 0 _ rfl rfl; (try dsimp only at hz); clear hk; (go_simp; exact hK _ _ (fun h => by cases h) (fun u _ => ⟨wx.heap.size, rfl, hz, AtG.new _ _ _⟩) ((Below.refl _ _).alloc (Nat.le_refl _) _))))) ?_ rfl (RgX.keep_r (fun _ _ _ _ h hb => by obtain ⟨k, h1, h2, h3⟩ := h; exact ⟨k, h1, h2, h3.below hb⟩) (fun _ _ => ⟨fun _ h _ _ => absurd rfl h, fun _ _ h _ => absurd ⟨4, 1, rfl, rfl⟩ h, fun _ _ h _ => absurd ⟨4, 2, rfl, rfl⟩ h, trivial⟩)) (fun _ h => by cases h)
        refine RgX.build_cons (m := 2) (r := RgX.eq _) (RgX.one_plain (by rfl) (by (intro ax wx hk Kx hK; have k0 := hk.base 0 _ rfl rfl; have hB := hk.fact 0 0 _ rfl rfl; (try dsimp only at hB); have hz := hk.fact 1 0 _ rfl rfl; (try dsimp only at hz); clear hk; go_simp; refine hK _ _ (fun h => by cases h) (fun _ _ => ?_) (Below.refl _ _); apply RgX.mk))) ?_ rfl RgX.keep_eq (fun _ h => by cases h)
        refine RgX.build_cons (m := 3) (r := RgX.eq _) (RgX.one_plain (by rfl) (by (intro ax wx hk Kx hK; have k1 := hk.base 1 _ rfl rfl; have hB := hk.fact 0 0 _ rfl rfl; (try dsimp only at hB); have hz := hk.fact 1 0 _ rfl rfl; (try dsimp only at hz); clear hk; go_simp; refine hK _ _ (fun h => by cases h) (fun _ _ => ?_) (Below.refl _ _); apply RgX.mk))) ?_ rfl RgX.keep_eq (fun _ h => by cases h)
        refine RgX.build_cons (m := 4) (r := RgX.eq _) (RgX.one_plain (by rfl) (by (intro ax wx hk Kx hK; obtain ⟨v64, k64, h64⟩ := hk.dep 0 1 64 _ rfl rfl rfl; (first | (replace h64 := h64 9 undef rfl rfl; first | (cases (h64 : v64 = _)) | (obtain ⟨rfl, h64⟩ := h64) | skip) | skip); obtain ⟨v65, k65, h65⟩ := hk.dep 0 2 65 _ rfl rfl rfl; (first | (replace h65 := h65 9 undef rfl rfl; first | (cases (h65 : v65 = _)) | (obtain ⟨rfl, h65⟩ := h65) | skip) | skip); have hB := hk.fact 0 0 _ rfl rfl; (try dsimp only at hB); have hz := hk.fact 1 0 _ rfl rfl; (try dsimp only at hz); clear hk; go_simp; refine hK _ _ (fun h => by cases h) (fun _ _ => ?_) (Below.refl _ _); apply RgX.mk))) ?_ rfl RgX.keep_eq (fun _ h => by cases h)
        refine RgX.build_cons (m := 5) (r := (⟨fun v _ w4 => w4.ownsRow w2.heap.size 5 1 v (0 + p) ([] ++ (xs.take p).map (Value.int .u8)), some 7, none⟩ : RgX.Rl)) (RgX.one_plain (by rfl) (by (intro ax wx hk Kx hK; obtain ⟨v63, k63, h63⟩ := hk.dep 0 0 63 _ rfl rfl rfl; (first | (replace h63 := h63 9 undef rfl rfl; first | (cases (h63 : v63 = _)) | (obtain ⟨rfl, h63⟩ := h63) | skip) | skip); obtain ⟨v66, k66, h66⟩ := hk.dep 0 3 66 _ rfl rfl rfl; (first | (replace h66 := h66 9 undef rfl rfl; first | (cases (h66 : v66 = _)) | (obtain ⟨rfl, h66⟩ := h66) | skip) | skip); have hB := hk.fact 0 0 _ rfl rfl; (try dsimp only at hB); have hz := hk.fact 1 0 _ rfl rfl; (try dsimp only at hz); clear hk; (obtain ⟨k, rfl, hk0, hk1⟩ := h63; refine wp_appRow (.tmp 63) (.tmp 66) 36 rfl w2.heap.size 5 (.int .u8 0) 1 1 Try.underlying36 infoU8 rfl (by decide) _ _ 0 p [] ((xs.take p).map (Value.int .u8)) (own_empty hk1 hk0) (by have := src_part (c := c) (cells_far hB HCE.out) 0 p (by omega); simpa using this) (by simp [Act.eval, k63]) (by simp [Act.eval, k66]) (by simp; omega) (u8_one _) (by omega) (by decide) hz ?_; intro v' w' ho hg; exact hK _ _ (fun h => by cases h) (fun u _ => ho) ⟨k, hk0, hk1, hg⟩)))) ?_ rfl (RgX.keep_r (fun _ _ _ _ h hb => own_below h hb) (fun _ _ => ⟨fun h _ _ _ => absurd rfl h, fun _ h _ _ => absurd rfl h, fun _ _ h _ => absurd ⟨7, 1, rfl, rfl⟩ h, trivial⟩)) (fun _ h => by cases h)
        refine RgX.build_cons (m := 6) (r := RgX.eq _) (RgX.one_plain (by rfl) (by (intro ax wx hk Kx hK; have k3 := hk.base 3 _ rfl rfl; have hB := hk.fact 0 0 _ rfl rfl; (try dsimp only at hB); have hz := hk.fact 1 0 _ rfl rfl; (try dsimp only at hz); clear hk; go_simp; refine hK _ _ (fun h => by cases h) (fun _ _ => ?_) (Below.refl _ _); apply RgX.mk))) ?_ rfl RgX.keep_eq (fun _ h => by cases h)
        refine RgX.build_cons (m := 7) (r := (⟨fun v _ w4 => ∃ k, v = .slice (some ⟨k, 0, none⟩) 1 1 ∧ w2.heap.size ≤ k ∧ AtG w4 k 5 #[.int .u8 x], some 7, none⟩ : RgX.Rl)) (RgX.one_plain (by rfl) (by (intro ax wx hk Kx hK; obtain ⟨v68, k68, h68⟩ := hk.dep 0 5 68 _ rfl rfl rfl; (first | (replace h68 := h68 9 undef rfl rfl; first | (cases (h68 : v68 = _)) | (obtain ⟨rfl, h68⟩ := h68) | skip) | skip); have hB := hk.fact 0 0 _ rfl rfl; (try dsimp only at hB); have hz := hk.fact 1 0 _ rfl rfl; (try dsimp only at hz); clear hk; (go_simp; exact hK _ _ (fun h => by cases h) (fun u _ => ⟨wx.heap.size, rfl, hz, AtG.new _ _ _⟩) ((Below.refl _ _).alloc (Nat.le_refl _) _))))) ?_ rfl (RgX.keep_r (fun _ _ _ _ h hb => by obtain ⟨k, h1, h2, h3⟩ := h; exact ⟨k, h1, h2, h3.below hb⟩) (fun _ _ => ⟨fun _ _ _ _ => (fun w3 w4 h he => by obtain ⟨k, h1, h2, h3⟩ := h; obtain ⟨k', hk, hk1, hg⟩ := he; refine ⟨k, h1, h2, h3.gb hg (fun e => ?_)⟩; subst e; unfold AtG at h3 hk1; rw [h3] at hk1; simp at hk1), fun _ h _ _ => absurd rfl h, fun _ _ h _ => absurd ⟨7, 1, rfl, rfl⟩ h, trivial⟩)) (fun _ h => by cases h)
        refine RgX.build_cons (m := 8) (r := (⟨fun v _ w4 => w4.ownsRow w2.heap.size 5 1 v (0 + p + 1) ([] ++ (xs.take p).map (Value.int .u8) ++ [.int .u8 x]), some 11, none⟩ : RgX.Rl)) (RgX.one_plain (by rfl) (by (intro ax wx hk Kx hK; obtain ⟨v67, k67, h67⟩ := hk.dep 0 4 67 _ rfl rfl rfl; (first | (replace h67 := h67 9 undef rfl rfl; first | (cases (h67 : v67 = _)) | (obtain ⟨rfl, h67⟩ := h67) | skip) | skip); obtain ⟨v69, k69, h69⟩ := hk.dep 0 6 69 _ rfl rfl rfl; (first | (replace h69 := h69 9 undef rfl rfl; first | (cases (h69 : v69 = _)) | (obtain ⟨rfl, h69⟩ := h69) | skip) | skip); have hB := hk.fact 0 0 _ rfl rfl; (try dsimp only at hB); have hz := hk.fact 1 0 _ rfl rfl; (try dsimp only at hz); clear hk; (obtain ⟨k, rfl, hk0, hk1⟩ := h69; refine wp_appRow (.tmp 67) (.tmp 69) 36 rfl w2.heap.size 5 (.int .u8 0) 1 1 Try.underlying36 infoU8 rfl (by decide) _ _ (0 + p) 1 ([] ++ (xs.take p).map (Value.int .u8)) [.int .u8 x] h67 (src_one hk1) (by simp [Act.eval, k67]) (by simp [Act.eval, k69]) rfl (fun y hy => by simp at hy; subst hy; rfl) (by omega) (by decide) hz ?_; intro v' w' ho hg; exact hK _ _ (fun h => by cases h) (fun u _ => ho) ((Below.refl _ _).grown hg hz (fun q hq => own_base h67 q hq)))))) ?_ rfl (RgX.keep_r (fun _ _ _ _ h hb => own_below h hb) (fun _ _ => ⟨fun _ _ _ h => absurd ⟨1, rfl⟩ h, fun h _ _ _ => absurd rfl h, fun _ h _ _ => absurd rfl h, trivial⟩)) (fun _ h => by cases h)
        refine RgX.build_cons (m := 9) (r := RgX.eq _) (RgX.one_plain (by rfl) (by (intro ax wx hk Kx hK; have k0 := hk.base 0 _ rfl rfl; have hB := hk.fact 0 0 _ rfl rfl; (try dsimp only at hB); have hz := hk.fact 1 0 _ rfl rfl; (try dsimp only at hz); clear hk; go_simp; refine hK _ _ (fun h => by cases h) (fun _ _ => ?_) (Below.refl _ _); apply RgX.mk))) ?_ rfl RgX.keep_eq (fun _ h => by cases h)
        refine RgX.build_cons (m := 10) (r := RgX.eq _) (RgX.one_plain (by rfl) (by (intro ax wx hk Kx hK; have k1 := hk.base 1 _ rfl rfl; have hB := hk.fact 0 0 _ rfl rfl; (try dsimp only at hB); have hz := hk.fact 1 0 _ rfl rfl; (try dsimp only at hz); clear hk; go_simp; refine hK _ _ (fun h => by cases h) (fun _ _ => ?_) (Below.refl _ _); apply RgX.mk))) ?_ rfl RgX.keep_eq (fun _ h => by cases h)
        refine RgX.build_cons (m := 11) (r := RgX.eq _) (RgX.one_plain (by rfl) (by (intro ax wx hk Kx hK; obtain ⟨v71, k71, h71⟩ := hk.dep 0 8 71 _ rfl rfl rfl; (first | (replace h71 := h71 9 undef rfl rfl; first | (cases (h71 : v71 = _)) | (obtain ⟨rfl, h71⟩ := h71) | skip) | skip); obtain ⟨v72, k72, h72⟩ := hk.dep 0 9 72 _ rfl rfl rfl; (first | (replace h72 := h72 9 undef rfl rfl; first | (cases (h72 : v72 = _)) | (obtain ⟨rfl, h72⟩ := h72) | skip) | skip); have hB := hk.fact 0 0 _ rfl rfl; (try dsimp only at hB); have hz := hk.fact 1 0 _ rfl rfl; (try dsimp only at hz); clear hk; go_simp; refine hK _ _ (fun h => by cases h) (fun _ _ => ?_) (Below.refl _ _); apply RgX.mk))) ?_ rfl RgX.keep_eq (fun _ h => by cases h)
        refine RgX.build_cons (m := 12) (r := (⟨fun v _ w4 => w4.ownsRow w2.heap.size 5 1 v (0 + p + 1 + (xs.length - p)) ([] ++ (xs.take p).map (Value.int .u8) ++ [.int .u8 x] ++ (xs.drop p).map (Value.int .u8)), none, none⟩ : RgX.Rl)) (RgX.one_plain (by rfl) (by (intro ax wx hk Kx hK; obtain ⟨v70, k70, h70⟩ := hk.dep 0 7 70 _ rfl rfl rfl; (first | (replace h70 := h70 9 undef rfl rfl; first | (cases (h70 : v70 = _)) | (obtain ⟨rfl, h70⟩ := h70) | skip) | skip); obtain ⟨v73, k73, h73⟩ := hk.dep 0 10 73 _ rfl rfl rfl; (first | (replace h73 := h73 9 undef rfl rfl; first | (cases (h73 : v73 = _)) | (obtain ⟨rfl, h73⟩ := h73) | skip) | skip); have hB := hk.fact 0 0 _ rfl rfl; (try dsimp only at hB); have hz := hk.fact 1 0 _ rfl rfl; (try dsimp only at hz); clear hk; (refine wp_appRow (.tmp 70) (.tmp 73) 36 rfl w2.heap.size 5 (.int .u8 0) 1 1 Try.underlying36 infoU8 rfl (by decide) _ _ (0 + p + 1) (xs.length - p) _ ((xs.drop p).map (Value.int .u8)) h70 (by have := src_part (c := c - p) (cells_far hB HCE.out) p (xs.length - p) (by omega); rw [List.take_of_length_le (by simp)] at this; exact this) (by simp [Act.eval, k70]) (by simp [Act.eval, k73]) (by simp) (u8_one _) (by omega) (by decide) hz ?_; intro v' w' ho hg; exact hK _ _ (fun h => by cases h) (fun u _ => ho) ((Below.refl _ _).grown hg hz (fun q hq => own_base h70 q hq)))))) ?_ rfl (RgX.keep_r (fun _ _ _ _ h hb => own_below h hb) (fun _ _ => ⟨fun _ _ _ h => absurd ⟨2, rfl⟩ h, fun _ _ _ h => absurd ⟨1, rfl⟩ h, fun h _ _ _ => absurd rfl h, trivial⟩)) (fun _ h => by cases h)
        refine RgX.build_cons (m := 13) (r := (⟨fun v _ w4 => w4.ownsRow w2.heap.size 5 1 v (0 + p + 1 + (xs.length - p)) ([] ++ (xs.take p).map (Value.int .u8) ++ [.int .u8 x] ++ (xs.drop p).map (Value.int .u8)), none, none⟩ : RgX.Rl)) (RgX.one_plain (by rfl) (by (intro ax wx hk Kx hK; obtain ⟨v74, k74, h74⟩ := hk.dep 0 11 74 _ rfl rfl rfl; (first | (replace h74 := h74 9 undef rfl rfl; first | (cases (h74 : v74 = _)) | (obtain ⟨rfl, h74⟩ := h74) | skip) | skip); have hB := hk.fact 0 0 _ rfl rfl; (try dsimp only at hB); have hz := hk.fact 1 0 _ rfl rfl; (try dsimp only at hz); clear hk; (go_simp; exact hK _ _ (fun h => by cases h) (fun u _ => h74) (Below.refl _ _))))) ?_ rfl (RgX.keep_r (fun _ _ _ _ h hb => own_below h hb) (fun _ _ => ⟨fun _ _ _ h => absurd ⟨1, rfl⟩ h, fun _ _ _ h => absurd ⟨1, rfl⟩ h, fun _ _ _ h => absurd ⟨1, rfl⟩ h, trivial⟩)) (fun _ h => by cases h)
        refine RgX.build_end fun wx hj => ?_
        have hB := hj 0 _ rfl rfl
        have hz := hj 1 _ rfl rfl
        clear hj
        first | refine RgX.fin_eq rfl ?_ | refine RgX.fin_any rfl fun v63 h63 => ?_
        refine RgX.fin_eq rfl ?_
        refine RgX.fin_eq rfl ?_
        refine RgX.fin_eq rfl ?_
        first | refine RgX.fin_eq rfl ?_ | refine RgX.fin_any rfl fun v67 h67 => ?_
        refine RgX.fin_eq rfl ?_
        first | refine RgX.fin_eq rfl ?_ | refine RgX.fin_any rfl fun v69 h69 => ?_
        first | refine RgX.fin_eq rfl ?_ | refine RgX.fin_any rfl fun v70 h70 => ?_
        refine RgX.fin_eq rfl ?_
        refine RgX.fin_eq rfl ?_
        refine RgX.fin_eq rfl ?_
        first | refine RgX.fin_eq rfl ?_ | refine RgX.fin_any rfl fun v74 h74 => ?_
        first | refine RgX.fin_eq rfl ?_ | refine RgX.fin_any rfl fun v12 h12 => ?_
        refine RgX.fin_nil ?_
        simp only [List.set_cons_zero, List.set_cons_succ]
        have ho := h12 rfl undef rfl
        have ho' : wx.ownsRow w2.heap.size 5 1 v12 (0 + p + 1 + (xs.length - p)) ((xs.take p ++ x :: xs.drop p).map (Value.int .u8)) := by simpa using ho
        have HRX := Lib.hid (rdB_own ho' (by simp; omega) (fun y hy => by
          rcases List.mem_append.1 hy with hy | hy
          · exact HMEM.out y (List.mem_of_mem_take hy)
          · rcases List.mem_cons.1 hy with rfl | hy
            · exact ⟨x0, x1⟩
            · exact HMEM.out y (List.mem_of_mem_drop hy)))
        have HBX := Lib.hid hB
        clear ho ho' h12 h63 h67 h69 h70 h74 hB hz
        go_wp2_with fail
        refine (sum_any _ (xs.take p ++ x :: xs.drop p) _ HRX.out).mono ?_
        rw [luhn_skip _ _ _ HX.out, List.take_append_drop, HST.out]
        rintro e w9 ⟨rfl, hw9⟩; subst hw9
        clear HRX
        go_wp2_with fail
        go_loopw [15, 16] (fun g d wr => ∃ k : Nat, 48 ≤ k ∧ k ≤ 58 ∧ d = .int .i64 k ∧ g = .int .i64 (if need xs < (k : Int) - 48 then 1 else 0) ∧ Below w.heap.size w wr) (fun _ d _ => 58 - (intOf d).toNat)
        case atStart => exact ⟨48, by omega, by omega, rfl, by rw [if_neg (by have := need_bd xs; omega)], HBX.out⟩
        case round =>
          obtain ⟨k, hk0, hk1, rfl, rfl, hb⟩ := hrel
          have HB := Lib.hid hb; clear hb
          have hsz : w.heap.size ≤ wr.heap.size := HB.out.size
          have hnd := need_bd xs
          by_cases hlt : k < 58
          · have HSRC := Lib.hid (fun (wq : World) (hb : Below wr.heap.size wr wq) => src_all (c := c) (cells_far (HB.out.trans (hb.mono hsz)) HCE.out))
            generalize hg : (if need xs < (k : Int) - 48 then (1 : Int) else 0) = good
            have HG := Lib.hid hg; clear hg
            have hg2 : 0 ≤ good ∧ good ≤ 1 := by have := HG.out; split at this <;> omega
            obtain ⟨g0, g1⟩ := hg2
            go_wp2_with (first
              | (at_builtin; refine wpList_appRow rfl (.tmp 93) (.tmp 94) 36 rfl wr.heap.size 5 (.int .u8 0) 1 1 Try.underlying36 infoU8 rfl (by decide) _ _ 0 xs.length [] _ (own_empty (AtG.new wr 5 #[]) (Nat.le_refl _)) (HSRC.out _ ((Below.refl _ _).alloc (Nat.le_refl _) _)) rfl rfl (by simp) (u8_one _) (by omega) (by decide) (by simp) ?_; intro v1 w3 ho1 hg1)
              | (at_builtin; refine wpList_appRow rfl (.tmp 95) (.tmp 98) 36 rfl wr.heap.size 5 (.int .u8 0) 1 1 Try.underlying36 infoU8 rfl (by decide) _ _ (0 + xs.length) 1 ([] ++ xs.map (Value.int .u8)) [_] (own_below ho1 ((Below.refl _ _).alloc (Nat.le_refl _) _)) (src_one (AtG.new w3 5 #[_])) rfl rfl rfl (fun y hy => by simp at hy; subst hy; rfl) (by omega) (by decide) (by have := hg1.size; simp at this ⊢; omega) ?_; intro v2 w4 ho2 hg2))
            have ho3 : w4.ownsRow wr.heap.size 5 1 v2 (0 + xs.length + 1) ((xs ++ [(k : Int)]).map (Value.int .u8)) := by simpa using ho2
            have HR3 := Lib.hid (rdB_own ho3 (by simp; omega) (fun y hy => by
              rcases List.mem_append.1 hy with hy | hy
              · exact HMEM.out y hy
              · simp at hy; omega))
            have B1 := (HB.out.alloc hsz (.cells #[] 5)).grown hg1 (by simp; omega) (fun q hq => by cases hq; exact hsz)
            have B2 := (B1.alloc B1.size (.cells #[.int .u8 (k : Int)] 5)).grown hg2 (by have := B1.size; simp; omega) (fun q hq => Nat.le_trans hsz (own_base ho1 q hq))
            have HB2 := Lib.hid B2
            clear B1 B2 ho1 ho2 ho3 hg1 hg2
            refine (sum_any _ (xs ++ [(k : Int)]) _ HR3.out).mono ?_; rintro e w5 ⟨rfl, hw5⟩; subst hw5
            have hmore := luhn_more xs (k : Int) (by omega) (by omega)
            generalize luhn (xs ++ [(k : Int)]) = st2 at *
            obtain ⟨n2, s2⟩ := st2
            simp only at hmore ⊢
            by_cases heq : (k : Int) - 48 = need xs
            · obtain rfl : s2 = 0 := hmore.2 heq
              have HEQ := Lib.hid heq; clear heq hmore
              go_wp2_with fail
              exact ⟨⟨k + 1, by omega, by omega, by go_num, by have := HG.out; have h3 := HEQ.out; rw [if_pos (by omega)]; rw [if_neg (by omega)] at this; subst this; rfl, HB2.out⟩, by simp [intOf]; omega⟩
            · have hs2 : (s2 == 0) = false := by rw [beq_eq_false_iff_ne]; exact fun e => heq (hmore.1 e)
              have HEQ := Lib.hid heq; clear heq hmore
              go_wp2_with fail
              exact ⟨⟨k + 1, by omega, by omega, by go_num, by have := HG.out; have h3 := HEQ.out; rw [← this]; congr 1; split <;> split <;> omega, HB2.out⟩, by simp [intOf]; omega⟩
          · obtain rfl : k = 58 := by omega
            rw [if_pos (by omega)]
            have e1 := (HB.out.cell (p := ⟨b, off + p, none⟩) (World.block_lt_of_cell? w _ (HCE.out p hp))).trans (HCE.out p hp)
            obtain ⟨u0, u1⟩ := HBD.out p
            have HSRC := Lib.hid (fun (wq : World) (hb : Below wr.heap.size wr wq) => src_all (c := c) (cells_far (HB.out.trans (hb.mono hsz)) HCE.out))
            have hsplit : xs = xs.take p ++ xs.getD p 0 :: xs.drop (p + 1) := by
              rw [List.getD_eq_getElem?_getD, List.getElem?_eq_getElem hp]; simp
            have hset : ∀ c', xs.set p c' = xs.take p ++ c' :: xs.drop (p + 1) := fun c' => List.set_eq_take_append_cons_drop .. |>.trans (by rw [if_pos hp])
            have HSP := Lib.hid hsplit; have HSE := Lib.hid hset; clear hsplit hset
            obtain ⟨cc, hcc⟩ : ∃ cc, xs.getD p 0 = cc := ⟨_, rfl⟩
            have HCC := Lib.hid hcc
            rw [hcc] at e1 u0 u1 HSP
            clear hcc
            by_cases hno : cc < 48 ∨ 57 < cc ∨ by' < 1 ∨ 9 < by'
            · rcases hno with h | h | h | h
              · go_wp2_with fail
                go_returns
                exact ⟨rfl, HB.out⟩
              · go_wp2_with fail
                go_returns
                exact ⟨rfl, HB.out⟩
              · by_cases h8 : cc < 48
                · go_wp2_with fail
                  go_returns
                  exact ⟨rfl, HB.out⟩
                · by_cases h9 : 57 < cc
                  · go_wp2_with fail
                    go_returns
                    exact ⟨rfl, HB.out⟩
                  · go_wp2_with fail
                    go_returns
                    exact ⟨rfl, HB.out⟩
              · by_cases h8 : cc < 48
                · go_wp2_with fail
                  go_returns
                  exact ⟨rfl, HB.out⟩
                · by_cases h9 : 57 < cc
                  · go_wp2_with fail
                    go_returns
                    exact ⟨rfl, HB.out⟩
                  · by_cases h7 : by' < 1
                    · go_wp2_with fail
                      go_returns
                      exact ⟨rfl, HB.out⟩
                    · go_wp2_with fail
                      go_returns
                      exact ⟨rfl, HB.out⟩
            · obtain ⟨z0, z1, z2, z3⟩ : 48 ≤ cc ∧ cc ≤ 57 ∧ 1 ≤ by' ∧ by' ≤ 9 := by omega
              clear hno
              have htn := turn_ne cc by' ⟨z0, z1⟩ ⟨z2, z3⟩
              have hturn := luhn_turn (xs.take p) (xs.drop (p + 1)) cc (48 + (cc - 48 + by') % 10) ⟨z0, z1⟩ ⟨htn.1, htn.2.1⟩ htn.2.2
              rw [← HSE.out (48 + (cc - 48 + by') % 10), ← HSP.out, HST.out] at hturn
              obtain ⟨st2, hst2⟩ : ∃ st2, luhn (xs.set p (48 + (cc - 48 + by') % 10)) = st2 := ⟨_, rfl⟩
              rw [hst2] at hturn
              obtain ⟨n2, s2⟩ := st2
              have HS2 := Lib.hid hst2; clear hst2
              obtain ⟨hn2, hs2⟩ := hturn
              simp only at hn2 hs2
              subst hn2
              have hs3 : (s2 != s) = true := by simpa using hs2
              have HTN := Lib.hid htn; clear hs2 htn
              have HNE := Lib.hid (show xs ≠ [] from fun e => by subst e; simp at m0)
              have HGP : Hid (([] ++ xs.map (Value.int .u8))[p]? = some (.int .u8 cc)) := Lib.hid (by
                have := HCC.out
                simp [List.getElem?_eq_getElem hp] at this ⊢; exact this)
              have HC3 := Lib.hid (fun (w3 : World) (hg : (wr.alloc (.cells #[] 5)).grownBy w3 (some wr.heap.size)) => cells_far (HB.out.trans (((Below.refl _ _).alloc (Nat.le_refl _) (.cells #[] 5)).grown hg (by simp) (fun q hq => by cases hq; exact Nat.le_refl _) |>.mono hsz)) HCE.out)
              go_wp2_with (at_builtin; refine wpList_appRow rfl (.tmp 130) (.tmp 131) 36 rfl wr.heap.size 5 (.int .u8 0) 1 1 Try.underlying36 infoU8 rfl (by decide) _ _ 0 xs.length [] _ (own_empty (AtG.new wr 5 #[]) (Nat.le_refl _)) (HSRC.out _ ((Below.refl _ _).alloc (Nat.le_refl _) _)) rfl rfl (by simp) (u8_one _) (by omega) (by decide) (by simp) ?_; intro v1 w3 ho1 hg1; have HO1 := Lib.hid ho1; have HG1 := Lib.hid hg1; obtain ⟨gg, cap1, rfl, hc1, hgb, hgl, hcell, hfr⟩ := own_some ho1 (by simpa using HNE.out); have e2 := hcell p (.int .u8 cc) HGP.out; have e3 := hfr p; have e4 := (HC3.out w3 hg1 p hp).trans (by rw [HCC.out]); clear ho1 hg1 hcell)
              have ho2 := (HO1.out.stored p (.int .u8 (48 + (cc - 48 + by') % 10))).1
              rw [List.nil_append, ← List.map_set] at ho2
              simp only [Nat.zero_add] at ho2
              have HR3 := Lib.hid (rdB_own ho2 (by simp; omega) (fun y hy => by
                rcases List.mem_or_eq_of_mem_set hy with hy | rfl
                · exact HMEM.out y hy
                · have := HTN.out; omega))
              clear ho2
              refine (sum_any _ (xs.set p (48 + (cc - 48 + by') % 10)) _ HR3.out).mono ?_; rintro e w5 ⟨rfl, hw5⟩; subst hw5
              rw [HS2.out]
              go_wp2_with fail
              go_returns
              exact ⟨rfl, ((HB.out.alloc hsz (.cells #[] 5)).grown HG1.out (by simp; omega) (fun q hq => by cases hq; exact hsz)).setCell (by simp; omega) _⟩
    · obtain ⟨y0, y1⟩ : 48 ≤ x ∧ x ≤ 57 := by omega
      clear hx
      go_wp2_with fail
      obtain ⟨wy, hwy⟩ : ∃ wy, wy = w2 := ⟨_, rfl⟩
      subst hwy
      have HBX := HB1
      clear HB1 H1
      go_loopw [15, 16] (fun g d wr => ∃ k : Nat, 48 ≤ k ∧ k ≤ 58 ∧ d = .int .i64 k ∧ g = .int .i64 (if need xs < (k : Int) - 48 then 1 else 0) ∧ Below w.heap.size w wr) (fun _ d _ => 58 - (intOf d).toNat)
      case atStart => exact ⟨48, by omega, by omega, rfl, by rw [if_neg (by have := need_bd xs; omega)], HBX.out⟩
      case round =>
        obtain ⟨k, hk0, hk1, rfl, rfl, hb⟩ := hrel
        have HB := Lib.hid hb; clear hb
        have hsz : w.heap.size ≤ wr.heap.size := HB.out.size
        have hnd := need_bd xs
        by_cases hlt : k < 58
        · have HSRC := Lib.hid (fun (wq : World) (hb : Below wr.heap.size wr wq) => src_all (c := c) (cells_far (HB.out.trans (hb.mono hsz)) HCE.out))
          generalize hg : (if need xs < (k : Int) - 48 then (1 : Int) else 0) = good
          have HG := Lib.hid hg; clear hg
          have hg2 : 0 ≤ good ∧ good ≤ 1 := by have := HG.out; split at this <;> omega
          obtain ⟨g0, g1⟩ := hg2
          go_wp2_with (first
            | (at_builtin; refine wpList_appRow rfl (.tmp 93) (.tmp 94) 36 rfl wr.heap.size 5 (.int .u8 0) 1 1 Try.underlying36 infoU8 rfl (by decide) _ _ 0 xs.length [] _ (own_empty (AtG.new wr 5 #[]) (Nat.le_refl _)) (HSRC.out _ ((Below.refl _ _).alloc (Nat.le_refl _) _)) rfl rfl (by simp) (u8_one _) (by omega) (by decide) (by simp) ?_; intro v1 w3 ho1 hg1)
            | (at_builtin; refine wpList_appRow rfl (.tmp 95) (.tmp 98) 36 rfl wr.heap.size 5 (.int .u8 0) 1 1 Try.underlying36 infoU8 rfl (by decide) _ _ (0 + xs.length) 1 ([] ++ xs.map (Value.int .u8)) [_] (own_below ho1 ((Below.refl _ _).alloc (Nat.le_refl _) _)) (src_one (AtG.new w3 5 #[_])) rfl rfl rfl (fun y hy => by simp at hy; subst hy; rfl) (by omega) (by decide) (by have := hg1.size; simp at this ⊢; omega) ?_; intro v2 w4 ho2 hg2))
          have ho3 : w4.ownsRow wr.heap.size 5 1 v2 (0 + xs.length + 1) ((xs ++ [(k : Int)]).map (Value.int .u8)) := by simpa using ho2
          have HR3 := Lib.hid (rdB_own ho3 (by simp; omega) (fun y hy => by
            rcases List.mem_append.1 hy with hy | hy
            · exact HMEM.out y hy
            · simp at hy; omega))
          have B1 := (HB.out.alloc hsz (.cells #[] 5)).grown hg1 (by simp; omega) (fun q hq => by cases hq; exact hsz)
          have B2 := (B1.alloc B1.size (.cells #[.int .u8 (k : Int)] 5)).grown hg2 (by have := B1.size; simp; omega) (fun q hq => Nat.le_trans hsz (own_base ho1 q hq))
          have HB2 := Lib.hid B2
          clear B1 B2 ho1 ho2 ho3 hg1 hg2
          refine (sum_any _ (xs ++ [(k : Int)]) _ HR3.out).mono ?_; rintro e w5 ⟨rfl, hw5⟩; subst hw5
          have hmore := luhn_more xs (k : Int) (by omega) (by omega)
          generalize luhn (xs ++ [(k : Int)]) = st2 at *
          obtain ⟨n2, s2⟩ := st2
          simp only at hmore ⊢
          by_cases heq : (k : Int) - 48 = need xs
          · obtain rfl : s2 = 0 := hmore.2 heq
            have HEQ := Lib.hid heq; clear heq hmore
            go_wp2_with fail
            exact ⟨⟨k + 1, by omega, by omega, by go_num, by have := HG.out; have h3 := HEQ.out; rw [if_pos (by omega)]; rw [if_neg (by omega)] at this; subst this; rfl, HB2.out⟩, by simp [intOf]; omega⟩
          · have hs2 : (s2 == 0) = false := by rw [beq_eq_false_iff_ne]; exact fun e => heq (hmore.1 e)
            have HEQ := Lib.hid heq; clear heq hmore
            go_wp2_with fail
            exact ⟨⟨k + 1, by omega, by omega, by go_num, by have := HG.out; have h3 := HEQ.out; rw [← this]; congr 1; split <;> split <;> omega, HB2.out⟩, by simp [intOf]; omega⟩
        · obtain rfl : k = 58 := by omega
          rw [if_pos (by omega)]
          have e1 := (HB.out.cell (p := ⟨b, off + p, none⟩) (World.block_lt_of_cell? w _ (HCE.out p hp))).trans (HCE.out p hp)
          obtain ⟨u0, u1⟩ := HBD.out p
          have HSRC := Lib.hid (fun (wq : World) (hb : Below wr.heap.size wr wq) => src_all (c := c) (cells_far (HB.out.trans (hb.mono hsz)) HCE.out))
          have hsplit : xs = xs.take p ++ xs.getD p 0 :: xs.drop (p + 1) := by
            rw [List.getD_eq_getElem?_getD, List.getElem?_eq_getElem hp]; simp
          have hset : ∀ c', xs.set p c' = xs.take p ++ c' :: xs.drop (p + 1) := fun c' => List.set_eq_take_append_cons_drop .. |>.trans (by rw [if_pos hp])
          have HSP := Lib.hid hsplit; have HSE := Lib.hid hset; clear hsplit hset
          obtain ⟨cc, hcc⟩ : ∃ cc, xs.getD p 0 = cc := ⟨_, rfl⟩
          have HCC := Lib.hid hcc
          rw [hcc] at e1 u0 u1 HSP
          clear hcc
          by_cases hno : cc < 48 ∨ 57 < cc ∨ by' < 1 ∨ 9 < by'
          · rcases hno with h | h | h | h
            · go_wp2_with fail
              go_returns
              exact ⟨rfl, HB.out⟩
            · go_wp2_with fail
              go_returns
              exact ⟨rfl, HB.out⟩
            · by_cases h8 : cc < 48
              · go_wp2_with fail
                go_returns
                exact ⟨rfl, HB.out⟩
              · by_cases h9 : 57 < cc
                · go_wp2_with fail
                  go_returns
                  exact ⟨rfl, HB.out⟩
                · go_wp2_with fail
                  go_returns
                  exact ⟨rfl, HB.out⟩
            · by_cases h8 : cc < 48
              · go_wp2_with fail
                go_returns
                exact ⟨rfl, HB.out⟩
              · by_cases h9 : 57 < cc
                · go_wp2_with fail
                  go_returns
                  exact ⟨rfl, HB.out⟩
                · by_cases h7 : by' < 1
                  · go_wp2_with fail
                    go_returns
                    exact ⟨rfl, HB.out⟩
                  · go_wp2_with fail
                    go_returns
                    exact ⟨rfl, HB.out⟩
          · obtain ⟨z0, z1, z2, z3⟩ : 48 ≤ cc ∧ cc ≤ 57 ∧ 1 ≤ by' ∧ by' ≤ 9 := by omega
            clear hno
            have htn := turn_ne cc by' ⟨z0, z1⟩ ⟨z2, z3⟩
            have hturn := luhn_turn (xs.take p) (xs.drop (p + 1)) cc (48 + (cc - 48 + by') % 10) ⟨z0, z1⟩ ⟨htn.1, htn.2.1⟩ htn.2.2
            rw [← HSE.out (48 + (cc - 48 + by') % 10), ← HSP.out, HST.out] at hturn
            obtain ⟨st2, hst2⟩ : ∃ st2, luhn (xs.set p (48 + (cc - 48 + by') % 10)) = st2 := ⟨_, rfl⟩
            rw [hst2] at hturn
            obtain ⟨n2, s2⟩ := st2
            have HS2 := Lib.hid hst2; clear hst2
            obtain ⟨hn2, hs2⟩ := hturn
            simp only at hn2 hs2
            subst hn2
            have hs3 : (s2 != s) = true := by simpa using hs2
            have HTN := Lib.hid htn; clear hs2 htn
            have HNE := Lib.hid (show xs ≠ [] from fun e => by subst e; simp at m0)
            have HGP : Hid (([] ++ xs.map (Value.int .u8))[p]? = some (.int .u8 cc)) := Lib.hid (by
              have := HCC.out
              simp [List.getElem?_eq_getElem hp] at this ⊢; exact this)
            have HC3 := Lib.hid (fun (w3 : World) (hg : (wr.alloc (.cells #[] 5)).grownBy w3 (some wr.heap.size)) => cells_far (HB.out.trans (((Below.refl _ _).alloc (Nat.le_refl _) (.cells #[] 5)).grown hg (by simp) (fun q hq => by cases hq; exact Nat.le_refl _) |>.mono hsz)) HCE.out)
            go_wp2_with (at_builtin; refine wpList_appRow rfl (.tmp 130) (.tmp 131) 36 rfl wr.heap.size 5 (.int .u8 0) 1 1 Try.underlying36 infoU8 rfl (by decide) _ _ 0 xs.length [] _ (own_empty (AtG.new wr 5 #[]) (Nat.le_refl _)) (HSRC.out _ ((Below.refl _ _).alloc (Nat.le_refl _) _)) rfl rfl (by simp) (u8_one _) (by omega) (by decide) (by simp) ?_; intro v1 w3 ho1 hg1; have HO1 := Lib.hid ho1; have HG1 := Lib.hid hg1; obtain ⟨gg, cap1, rfl, hc1, hgb, hgl, hcell, hfr⟩ := own_some ho1 (by simpa using HNE.out); have e2 := hcell p (.int .u8 cc) HGP.out; have e3 := hfr p; have e4 := (HC3.out w3 hg1 p hp).trans (by rw [HCC.out]); clear ho1 hg1 hcell)
            have ho2 := (HO1.out.stored p (.int .u8 (48 + (cc - 48 + by') % 10))).1
            rw [List.nil_append, ← List.map_set] at ho2
            simp only [Nat.zero_add] at ho2
            have HR3 := Lib.hid (rdB_own ho2 (by simp; omega) (fun y hy => by
              rcases List.mem_or_eq_of_mem_set hy with hy | rfl
              · exact HMEM.out y hy
              · have := HTN.out; omega))
            clear ho2
            refine (sum_any _ (xs.set p (48 + (cc - 48 + by') % 10)) _ HR3.out).mono ?_; rintro e w5 ⟨rfl, hw5⟩; subst hw5
            rw [HS2.out]
            go_wp2_with fail
            go_returns
            exact ⟨rfl, ((HB.out.alloc hsz (.cells #[] 5)).grown HG1.out (by simp; omega) (fun q hq => by cases hq; exact hsz)).setCell (by simp; omega) _⟩
  · by_cases h0 : xs.length = 0
    · have m4 : ((xs.length : Int) == 0) = true := by simp [h0]
      go_enter Try.func7, Try.ntmps7
      go_wp2_with fail
      refine (up08_any _).mono ?_; rintro e w1 ⟨rfl, hb1⟩
      go_wp2_with fail
      go_returns
      exact ⟨rfl, hb1⟩
    · have m4 : ((xs.length : Int) == 0) = false := by rw [beq_eq_false_iff_ne]; omega
      by_cases h1 : 1000 < xs.length
      · go_enter Try.func7, Try.ntmps7
        go_wp2_with fail
        refine (up08_any _).mono ?_; rintro e w1 ⟨rfl, hb1⟩
        go_wp2_with fail
        go_returns
        exact ⟨rfl, hb1⟩
      · by_cases h2 : at' < 0
        · go_enter Try.func7, Try.ntmps7
          go_wp2_with fail
          refine (up08_any _).mono ?_; rintro e w1 ⟨rfl, hb1⟩
          go_wp2_with fail
          go_returns
          exact ⟨rfl, hb1⟩
        · have h3 : (xs.length : Int) ≤ at' := by omega
          clear hmain
          go_enter Try.func7, Try.ntmps7
          go_wp2_with fail
          refine (up08_any _).mono ?_; rintro e w1 ⟨rfl, hb1⟩
          go_wp2_with fail
          go_returns
          exact ⟨rfl, hb1⟩
end Go.Proofs.Ytklpjlcphikfaaa
