/- The walk of mask.Cover. -/
import Derived.Test.YtofgkildlhcpdaaMask2
set_option linter.unusedVariables false
set_option linter.unusedSimpArgs false
namespace Go.Proofs.Ytofgkildlhcpdaa
open Go.RowKit Bt Luhn
/-- a part of bytes that are read -/
theorem rdB_sub {w : World} {bb off n wc : Nat} {xs : List Int} (h : RdB w (.slice (some ⟨bb, off, none⟩) n wc) xs) {a b c : Nat} (hab : a < b) (hb : b ≤ xs.length) (hc : b - a ≤ c) : RdB w (.slice (some ⟨bb, off + a, none⟩) (b - a) c) (sub xs a b) := by
  have hl := sub_len xs a b hb
  rcases h with ⟨rfl, _⟩ | ⟨bb', off', cap, h1, h2, h3, h4, h5⟩
  · simp at hb; omega
  · injection h1 with e1 e2 e3
    injection e1 with e1
    injection e1 with e1 e4
    subst e1; subst e4
    refine .inr ⟨bb, off + a, c, by rw [hl], by omega, by omega, fun j hj => ?_, fun j => ?_⟩
    · rw [sub_get xs a b j (by omega), show off + a + j = off + (j + a) from by omega]
      exact h4 (j + a) (by omega)
    · by_cases hj : j < b - a
      · rw [sub_get xs a b j hj]; exact h5 _
      · have : (sub xs a b)[j]? = none := List.getElem?_eq_none (by omega)
        rw [List.getD_eq_getElem?_getD, this]; decide
theorem rdB_form {w : World} {A : Option Addr} {n c : Nat} {xs : List Int} (h : RdB w (.slice A n c) xs) (hn : 0 < xs.length) : ∃ bb off, A = some ⟨bb, off, none⟩ ∧ xs.length ≤ c := by
  obtain ⟨b, off, h1, h2, _⟩ := rdB_at h 0 hn
  exact ⟨b, off, h1, h2⟩
/-- what Cover leaves -/
def CovPost (rs : List Rul) (lam : Int) (xs : List Int) (w : World) (e : Ending) (w' : World) : Prop :=
  Below w.heap.size w w' ∧ ∃ (g : Nat) (f : Nat → Bool), e = .returned (.slice (some ⟨g, 0, none⟩) xs.length xs.length) ∧ AtG w' g 4 (barr f xs.length) ∧ w.heap.size ≤ g ∧ ∀ i, i < xs.length → (f i = true ↔ cov rs lam xs i)
set_option maxRecDepth 100000 in
set_option maxHeartbeats 3200000 in
theorem cover_any (rs : List Rul) (hw : ∀ r ∈ rs, Wf r.1) (lam : Int) (hlam : -9223372036854775808 ≤ lam ∧ lam ≤ 9223372036854775807) (w : World) (v wv : Value) (xs : List Int) (hr : RuAt w v rs) (hx : RdB w wv xs) (hl : xs.length ≤ 900) (hrs : rs.length ≤ 1000) :
    Calls Try.prog 25 #[v, .int .i64 lam, wv] w (CovPost rs lam xs w) := by
  obtain ⟨A, wc, rfl⟩ := rdB_slice hx
  obtain ⟨B, vc, rfl⟩ := hr.slice
  have hlI : (xs.length : Int) ≤ 900 := by omega
  have hmk := make_one (P := Try.prog) 40 4 (.bool false) 1 Try.underlying40 infoBool rfl .i64 .i64 xs.length (by omega) (by omega)
  rw [barr_zero] at hmk
  have HF : Hid (∀ (w1 : World), Below w.heap.size w w1 → ∀ (a b : Nat) (bb off : Nat), A = some ⟨bb, off, none⟩ → a < b → b ≤ xs.length → ∀ c, b - a ≤ c → ∀ fr : Bool, (fr = true ↔ fitsOne rs xs a b) → Calls Try.prog 45 #[.slice B rs.length vc, .slice (some ⟨bb, off + a, none⟩) (b - a) c] w1 fun e w' => e = .returned (.bool fr) ∧ Below w1.heap.size w1 w') :=
    Lib.hid (fun w1 hb a b bb off hA hab hbn c hc fr hfr => by
      subst hA
      refine fits_any rs hw w1 _ _ (sub xs a b) (hr.below hb) (rdB_sub (rdB_below hx hb) hab hbn hc) (by rw [sub_len xs a b hbn]; omega) hrs fr (hfr.trans ?_)
      exact ⟨fun ⟨r, h1, h2⟩ => ⟨r, h1, (fit_sub (Nat.le_of_lt hab) hbn).2 h2⟩, fun ⟨r, h1, h2⟩ => ⟨r, h1, (fit_sub (Nat.le_of_lt hab) hbn).1 h2⟩⟩)
  have HX := Lib.hid hx
  obtain ⟨W, hW⟩ : ∃ W : World, W = w.alloc (.cells (barr (fun _ => false) xs.length) 4) := ⟨_, rfl⟩
  have HO : Hid (AtG W w.heap.size 4 (barr (fun _ => false) xs.length)) := Lib.hid (by rw [hW]; exact AtG.new _ _ _)
  have HB0 : Hid (Below w.heap.size w W) := Lib.hid (by rw [hW]; exact (Below.refl _ _).alloc (Nat.le_refl _) _)
  have hW' := hW.symm
  clear hW hr hx hw
  obtain ⟨l1, l2⟩ := hlam
  go_enter Try.func25, Try.ntmps25
  go_wp2_with fail
  clear hmk hW'
  go_loopw [16] (fun i wr => ∃ a : Nat, a ≤ xs.length ∧ i = .int .i64 a ∧ Below w.heap.size w wr ∧ ∃ f, AtG wr w.heap.size 4 (barr f xs.length) ∧ ∀ i, i < xs.length → (f i = true ↔ ∃ a', a' < a ∧ covA rs lam xs a' i)) (fun i _ => xs.length - (intOf i).toNat)
  case atStart => exact ⟨0, Nat.zero_le _, rfl, HB0.out, _, HO.out, fun i _ => ⟨fun h => (by cases h), fun ⟨a', h, _⟩ => by omega⟩⟩
  case round =>
    obtain ⟨a, ha, rfl, hb, f, hf, hfi⟩ := hrel
    have HB := Lib.hid hb; have HFA := Lib.hid hf; have HFI := Lib.hid hfi
    clear hb hf hfi HB0 HO
    by_cases hlt : a < xs.length
    · obtain ⟨bb, off, hA, hcap⟩ := rdB_form HX.out (by omega)
      have HF2 := Lib.hid (fun (w1 : World) (hb : Below w.heap.size w w1) (b : Nat) => HF.out w1 hb a b bb off hA)
      subst hA
      go_wp2_with fail
      go_loopw [9] (fun j wq => ∃ b : Nat, a ≤ b ∧ b ≤ xs.length ∧ j = .int .i64 b ∧ Below w.heap.size w wq ∧ AtG wq w.heap.size 4 (barr f xs.length) ∧ ∀ c, b < c → c ≤ xs.length → ¬ ((c : Int) - (a : Int) ≤ lam ∧ fitsOne rs xs a c)) (fun j _ => (intOf j).toNat)
      case atStart => exact ⟨xs.length, ha, Nat.le_refl _, rfl, HB.out, HFA.out, fun c h1 h2 => by omega⟩
      case round =>
        obtain ⟨b, hab, hbn, rfl, hb, hf, hnf⟩ := hrel
        have HBq := Lib.hid hb; have HFq := Lib.hid hf; have HNF := Lib.hid hnf
        clear hb hf hnf HB HFA
        have hbI : (b : Int) ≤ xs.length := by omega
        by_cases hlb : a < b
        · by_cases hbl : lam < (b : Int) - (a : Int)
          · go_wp2_with fail
            refine ⟨⟨b - 1, by omega, by omega, by first | go_num | (congr 1; omega), HBq.out, HFq.out, fun c h1 h2 h3 => ?_⟩, by simp [intOf]; omega⟩
            by_cases hcb : c = b
            · subst hcb; omega
            · exact HNF.out c (by omega) h2 h3
          · obtain ⟨fr, hfr⟩ := clsB (fitsOne rs xs a b)
            have HC := Lib.hid (HF2.out _ HBq.out b hlb hbn (wc - a) (by omega) fr hfr)
            have HFR := Lib.hid hfr
            clear hfr
            go_wp2_with fail
            refine (HC.out).mono ?_
            rintro e9 w1 ⟨rfl, hb⟩
            have HB1 := Lib.hid (HBq.out.trans (hb.mono HBq.out.size)); have HF1 := Lib.hid (HFq.out.below hb)
            clear hb HC HBq HFq
            cases fr
            · have HNO := Lib.hid (show ¬ fitsOne rs xs a b from fun h => by have := HFR.out.2 h; cases this)
              clear HFR
              go_wp2_with fail
              refine ⟨⟨b - 1, by omega, by omega, by first | go_num | (congr 1; omega), HB1.out, HF1.out, fun c h1 h2 h3 => ?_⟩, by simp [intOf]; omega⟩
              by_cases hcb : c = b
              · subst hcb; exact HNO.out h3.2
              · exact HNF.out c (by omega) h2 h3
            · have HYES := Lib.hid (HFR.out.1 rfl)
              have HAL := Lib.hid (fun i => covA_long (i := i) hbn (show (b : Int) - (a : Int) ≤ lam by omega) HYES.out HNF.out)
              clear HFR HNF
              go_wp2_with fail
              go_loopw [10] (fun j wt => ∃ t : Nat, a ≤ t ∧ t ≤ b ∧ j = .int .i64 t ∧ Below w.heap.size w wt ∧ ∃ g, AtG wt w.heap.size 4 (barr g xs.length) ∧ ∀ i, i < xs.length → (g i = true ↔ f i = true ∨ (a ≤ i ∧ i < t))) (fun j _ => b - (intOf j).toNat)
              case atStart => exact ⟨a, Nat.le_refl _, hab, rfl, HB1.out, f, HF1.out, fun i hi => ⟨fun h => .inl h, fun h => h.elim id (fun h => by omega)⟩⟩
              case round =>
                obtain ⟨t, hat, htb, rfl, hb, g, hg, hgi⟩ := hrel
                have HBt := Lib.hid hb; have HGt := Lib.hid hg; have HGI := Lib.hid hgi
                clear hb hg hgi HB1 HF1
                by_cases hlt2 : t < b
                · have htI : (t : Int) < xs.length := by omega
                  have ht0 := HGt.out.bool t (by omega)
                  have ht1 := HGt.out.frozen t
                  have HS := Lib.hid (HGt.out.setB t true)
                  have HB2 := Lib.hid (HBt.out.setCell (p := ⟨w.heap.size, t, none⟩) (by simp) (.bool true))
                  go_wp2_with fail
                  refine ⟨⟨t + 1, by omega, by omega, by go_num, HB2.out, _, HS.out, fun i hi => ?_⟩, by simp [intOf]; omega⟩
                  have h := HGI.out i hi
                  unfold updB
                  by_cases hit : i = t
                  · subst hit; rw [if_pos rfl]; exact ⟨fun _ => .inr ⟨hat, by omega⟩, fun _ => rfl⟩
                  · rw [if_neg hit, h]; constructor <;> (rintro (h | h); exact .inl h; exact .inr (by omega))
                · obtain rfl : t = b := by omega
                  go_wp2_with fail
                  refine ⟨⟨a + 1, by omega, by go_num, HBt.out, g, HGt.out, fun i hi => (HGI.out i hi).trans ?_⟩, by simp [intOf]; omega⟩
                  rw [HFI.out i hi]
                  constructor
                  · rintro (⟨a', h1, h2⟩ | h)
                    · exact ⟨a', by omega, h2⟩
                    · exact ⟨a, by omega, (HAL.out i).2 h⟩
                  · rintro ⟨a', h1, h2⟩
                    by_cases ha' : a' = a
                    · subst ha'; exact .inr ((HAL.out i).1 h2)
                    · exact .inl ⟨a', by omega, h2⟩
        · obtain rfl : b = a := by omega
          go_wp2_with fail
          refine ⟨⟨b + 1, by omega, by go_num, HBq.out, f, HFq.out, fun i hi => (HFI.out i hi).trans ?_⟩, by simp [intOf]; omega⟩
          constructor
          · rintro ⟨a', h1, h2⟩; exact ⟨a', by omega, h2⟩
          · rintro ⟨a', h1, h2⟩
            by_cases ha' : a' = b
            · subst ha'; exact absurd h2 (covA_none HNF.out)
            · exact ⟨a', by omega, h2⟩
    · obtain rfl : a = xs.length := by omega
      go_wp2_with fail
      go_returns
      exact ⟨HB.out, _, f, rfl, HFA.out, Nat.le_refl _, fun i hi => (HFI.out i hi).trans (cov_iff rs lam xs i).symm⟩
end Go.Proofs.Ytofgkildlhcpdaa
