/- The walk of the document's Cover. -/
import Derived.Test.YtofgkildlhcpdaaMask3
set_option linter.unusedVariables false
set_option linter.unusedSimpArgs false
namespace Go.Proofs.Ytofgkildlhcpdaa
open Go.RowKit Bt Luhn
/-- what one rule covers from a place on, up to b -/
def seg (xs : List Int) (lam : Int) (r : Rul) (a b i : Nat) : Prop := a ≤ i ∧ i < b ∧ ((b : Int) - (a : Int) ≤ lam) ∧ (r.2 = true → okB (sub xs a b) = true)
def covRA (xs : List Int) (lam : Int) (r : Rul) (a i : Nat) : Prop := ∃ b, Mt (byt xs) xs.length r.1 a b ∧ seg xs lam r a b i
def covR (xs : List Int) (lam : Int) (r : Rul) (i : Nat) : Prop := ∃ a, a < xs.length ∧ covRA xs lam r a i
theorem cov_all (rs : List Rul) (lam : Int) (xs : List Int) (i : Nat) : (∃ r ∈ rs, covR xs lam r i) ↔ cov rs lam xs i := by
  constructor
  · rintro ⟨r, h1, a, h2, b, h3, h4, h5, h6, h7⟩
    exact ⟨a, b, h4, h5, mt_le _ _ _ a b (by omega) h3, h6, r, h1, h3, h7⟩
  · rintro ⟨a, b, h1, h2, h3, h4, r, h5, h6, h7⟩
    exact ⟨r, h5, a, by omega, b, h6, h1, h2, h4, h7⟩
/-- the ends, one by one, in memory -/
def LAt (w : World) (g0 : Nat) (A : Option Addr) (c : Nat) (L : List Nat) : Prop := ∀ j (hj : j < L.length), ∃ g, A = some ⟨g, 0, none⟩ ∧ L.length ≤ c ∧ g ≠ g0 ∧ g < w.heap.size ∧ w.cell? ⟨g, j, none⟩ = some (.int .i64 ((L[j] : Nat) : Int))
theorem LAt.below {w w' : World} {g0 : Nat} {A : Option Addr} {c : Nat} {L : List Nat} (h : LAt w g0 A c L) (hb : Below w.heap.size w w') : LAt w' g0 A c L := fun j hj => by
  obtain ⟨g, h1, h2, h3, h4, h5⟩ := h j hj
  exact ⟨g, h1, h2, h3, Nat.lt_of_lt_of_le h4 hb.size, (hb.cell (p := ⟨g, j, none⟩) h4).trans h5⟩
theorem LAt.set {w : World} {g0 : Nat} {A : Option Addr} {c : Nat} {L : List Nat} (h : LAt w g0 A c L) (i : Nat) (u : Value) : LAt (w.setCell ⟨g0, i, none⟩ u) g0 A c L := fun j hj => by
  obtain ⟨g, h1, h2, h3, h4, h5⟩ := h j hj
  exact ⟨g, h1, h2, h3, by simpa using h4, by rw [World.cell?_setCell_far w _ _ _ (by simpa using fun e => h3 e.symm)]; exact h5⟩
set_option maxRecDepth 100000 in
set_option maxHeartbeats 3200000 in
theorem refCover_any (rs : List Rul) (hw : ∀ r ∈ rs, Wf r.1) (lam : Int) (hlam : -9223372036854775808 ≤ lam ∧ lam ≤ 9223372036854775807) (w : World) (v wv : Value) (xs : List Int) (hr : RuAt w v rs) (hx : RdB w wv xs) (hl : xs.length ≤ 900) (hrs : rs.length ≤ 1000) :
    Calls Try.prog 26 #[v, .int .i64 lam, wv] w (CovPost rs lam xs w) := by
  obtain ⟨A, wc, rfl⟩ := rdB_slice hx
  obtain ⟨B, vc, rfl⟩ := hr.slice
  have hlI : (xs.length : Int) ≤ 900 := by omega
  have hrI : (rs.length : Int) ≤ 1000 := by omega
  have hmk := make_one (P := Try.prog) 40 4 (.bool false) 1 Try.underlying40 infoBool rfl .i64 .i64 xs.length (by omega) (by omega)
  rw [barr_zero] at hmk
  have HE : Hid (∀ (p : Pat), Wf p → ∀ (w1 : World), Below w.heap.size w w1 → ∀ (a' : Option Addr) (m c f : Nat), NAt w1 p.tree (.slice a' m c) → f ≤ xs.length → Calls Try.prog 40 #[nodeV p.tree (.slice a' m c), .slice A xs.length wc, .int .i64 (f : Int)] w1 fun e w' => Below w1.heap.size w1 w' ∧ ∃ v, e = .returned v ∧ ∃ L, OwnL w' w1.heap.size v L ∧ L.Nodup ∧ ∀ i, i ∈ L ↔ Mt (byt xs) xs.length p f i) :=
    Lib.hid (fun p hp w1 hb a' m c f hn hf => rends_any p hp w1 a' m c _ xs f hn (rdB_below hx hb) (by omega) hf)
  have HK : Hid (∀ (w1 : World), Below w.heap.size w w1 → ∀ (a b bb off : Nat), A = some ⟨bb, off, none⟩ → a < b → b ≤ xs.length → ∀ c, b - a ≤ c → ∀ ok, ok = okB (sub xs a b) → Calls Try.prog 44 #[.slice (some ⟨bb, off + a, none⟩) (b - a) c] w1 fun e w' => e = .returned (.bool ok) ∧ Below w1.heap.size w1 w') :=
    Lib.hid (fun w1 hb a b bb off hA hab hbn c hc ok hok => by
      subst hA; subst hok
      exact refOk_any _ (sub xs a b) w1 (rdB_sub (rdB_below hx hb) hab hbn hc) (by rw [sub_len xs a b hbn]; omega))
  have HX := Lib.hid hx; have HR := Lib.hid hr; have HW := Lib.hid hw
  obtain ⟨W, hW⟩ : ∃ W : World, W = w.alloc (.cells (barr (fun _ => false) xs.length) 4) := ⟨_, rfl⟩
  have HO : Hid (AtG W w.heap.size 4 (barr (fun _ => false) xs.length)) := Lib.hid (by rw [hW]; exact AtG.new _ _ _)
  have HB0 : Hid (Below w.heap.size w W) := Lib.hid (by rw [hW]; exact (Below.refl _ _).alloc (Nat.le_refl _) _)
  have hW' := hW.symm
  clear hW hr hx hw
  obtain ⟨l1, l2⟩ := hlam
  go_enter Try.func26, Try.ntmps26
  go_wp2_with fail
  clear hmk hW'
  go_loopw [8] (fun i wr => ∃ r : Nat, r ≤ rs.length ∧ i = .int .i64 r ∧ Below w.heap.size w wr ∧ ∃ f, AtG wr w.heap.size 4 (barr f xs.length) ∧ ∀ i, i < xs.length → (f i = true ↔ ∃ q ∈ rs.take r, covR xs lam q i)) (fun i _ => rs.length - (intOf i).toNat)
  case atStart => exact ⟨0, Nat.zero_le _, rfl, HB0.out, _, HO.out, fun i _ => ⟨fun h => (by cases h), fun ⟨q, h, _⟩ => by simp at h⟩⟩
  case round =>
    obtain ⟨r, hr, rfl, hb, f, hf, hfi⟩ := hrel
    have HB := Lib.hid hb; have HFA := Lib.hid hf; have HFI := Lib.hid hfi
    clear hb hf hfi HB0 HO
    by_cases hrl : r < rs.length
    · have hrlI : (r : Int) < rs.length := by omega
      obtain ⟨bb, off, hB, hcap, hbl, op, fs, mn, mx, kids, ka, kn, kc, ht, hc8, hc9, hn⟩ := HR.out.at r hrl
      have hwf := HW.out rs[r] (List.getElem_mem hrl)
      have HT : Hid (∀ i, (∃ q ∈ rs.take (r + 1), covR xs lam q i) ↔ (∃ q ∈ rs.take r, covR xs lam q i) ∨ covR xs lam rs[r] i) := Lib.hid (fun i => by
        rw [List.take_succ_eq_append_getElem hrl]
        constructor
        · rintro ⟨q, h1, h2⟩
          rcases List.mem_append.1 h1 with h1 | h1
          · exact .inl ⟨q, h1, h2⟩
          · rw [List.mem_singleton] at h1; subst h1; exact .inr h2
        · rintro (⟨q, h1, h2⟩ | h)
          · exact ⟨q, List.mem_append.2 (.inl h1), h2⟩
          · exact ⟨_, List.mem_append.2 (.inr (List.mem_singleton.2 rfl)), h⟩)
      generalize rs[r] = q at *
      obtain ⟨p, chk⟩ := q
      have hE := fun w1 hb f hn hf => HE.out p hwf w1 hb ka kn kc f hn hf
      rw [ht] at hE
      unfold nodeV at hE
      dsimp only at hE
      have HEP := Lib.hid hE; have HC8 := Lib.hid hc8; have HC9 := Lib.hid hc9
      have HN := Lib.hid (show NAt w (.node op fs mn mx kids) (.slice ka kn kc) by rw [← ht]; exact hn)
      subst hB
      clear hE hc8 hc9 hn ht hwf
      generalize hS0 : (fun i => ∃ q ∈ rs.take r, covR xs lam q i) = S0
      have HS0 : Hid (∀ i, S0 i ↔ ∃ q ∈ rs.take r, covR xs lam q i) := Lib.hid (fun i => by rw [← hS0])
      clear hS0
      go_wp2_with fail
      go_loopw [9] (fun j wa => ∃ a : Nat, a ≤ xs.length ∧ j = .int .i64 a ∧ Below w.heap.size w wa ∧ ∃ f, AtG wa w.heap.size 4 (barr f xs.length) ∧ ∀ i, i < xs.length → (f i = true ↔ S0 i ∨ ∃ a', a' < a ∧ covRA xs lam (p, chk) a' i)) (fun j _ => xs.length - (intOf j).toNat)
      case atStart => exact ⟨0, Nat.zero_le _, rfl, HB.out, f, HFA.out, fun i hi => by
        rw [HFI.out i hi, HS0.out i]
        exact ⟨.inl, fun h => h.elim id (fun ⟨a', h, _⟩ => by omega)⟩⟩
      case round =>
        obtain ⟨a, ha, rfl, hb, f1, hf, hfi⟩ := hrel
        have HBa := Lib.hid hb; have HF1 := Lib.hid hf; have HFI1 := Lib.hid hfi
        clear hb hf hfi HB HFA
        by_cases hal : a < xs.length
        · have halI : (a : Int) < xs.length := by omega
          obtain ⟨xb, xo, hA, hxc⟩ := rdB_form HX.out (by omega)
          have HK2 := Lib.hid (fun (w1 : World) (hb : Below w.heap.size w w1) (b : Nat) => HK.out w1 hb a b xb xo hA)
          subst hA
          obtain ⟨c0, c1, c2, c3, c4, c5, c6, c7⟩ := Cell8.below HC8.out HBa.out
          have HCE := Lib.hid (HEP.out _ HBa.out a (HN.out.below HBa.out) ha)
          go_wp2_with fail
          refine (HCE.out).mono ?_
          rintro e9 w1 ⟨hb, v1, rfl, L, hL, hnd, hmem⟩
          have HB1 := Lib.hid (HBa.out.trans (hb.mono HBa.out.size)); have HG1 := Lib.hid (HF1.out.below hb)
          obtain ⟨la, lc, rfl, hcells⟩ := hL.at
          have HLA : Hid (LAt w1 w.heap.size la lc L) := Lib.hid (fun j hj => by
            obtain ⟨g, h1, h2, h3⟩ := hcells j hj
            refine ⟨g, h1, h2, ?_, World.block_lt_of_cell? w1 _ h3, h3⟩
            have h4 := own_base hL g (by rw [h1]; rfl)
            have h5 := HF1.out.lt
            omega)
          have hLl : L.length ≤ xs.length + 1 := nodup_len hnd (fun x hx => by have := mt_le _ _ _ a x (by omega) ((hmem x).1 hx); omega)
          have HMEM := Lib.hid hmem
          clear hb hL hcells hnd hmem HCE HBa HF1 c0 c1 c2 c3 c4 c5 c6 c7
          generalize hS1 : (fun i => S0 i ∨ ∃ a', a' < a ∧ covRA xs lam (p, chk) a' i) = S1
          have HS1 : Hid (∀ i, S1 i ↔ S0 i ∨ ∃ a', a' < a ∧ covRA xs lam (p, chk) a' i) := Lib.hid (fun i => by rw [← hS1])
          clear hS1
          go_wp2_with fail
          go_loopw [11] (fun j wk => ∃ k : Nat, k ≤ L.length ∧ j = .int .i64 k ∧ Below w.heap.size w wk ∧ LAt wk w.heap.size la lc L ∧ ∃ f, AtG wk w.heap.size 4 (barr f xs.length) ∧ ∀ i, i < xs.length → (f i = true ↔ S1 i ∨ ∃ b ∈ L.take k, seg xs lam (p, chk) a b i)) (fun j _ => L.length - (intOf j).toNat)
          case atStart => exact ⟨0, Nat.zero_le _, rfl, HB1.out, HLA.out, f1, HG1.out, fun i hi => by
            rw [HFI1.out i hi, HS1.out i]
            exact ⟨.inl, fun h => h.elim id (fun ⟨b, h, _⟩ => by simp at h)⟩⟩
          case round =>
            obtain ⟨k, hk, rfl, hb, hla, f2, hf, hfi⟩ := hrel
            have HBk := Lib.hid hb; have HLk := Lib.hid hla; have HF2 := Lib.hid hf; have HFI2 := Lib.hid hfi
            clear hb hla hf hfi HB1 HLA HG1
            by_cases hkl : k < L.length
            · obtain ⟨gl, hla, hlc, hgl, hgs, hlk⟩ := HLk.out k hkl
              subst hla
              have hb1 := mt_le _ _ _ a L[k] (by omega) ((HMEM.out _).1 (List.getElem_mem hkl))
              have hb0 := (mt_len _ _ _ _ _ ((HMEM.out _).1 (List.getElem_mem hkl))).1
              have HTK : Hid (∀ i, (∃ b ∈ L.take (k + 1), seg xs lam (p, chk) a b i) ↔ (∃ b ∈ L.take k, seg xs lam (p, chk) a b i) ∨ seg xs lam (p, chk) a L[k] i) := Lib.hid (fun i => by
                rw [List.take_succ_eq_append_getElem hkl]
                constructor
                · rintro ⟨q, h1, h2⟩
                  rcases List.mem_append.1 h1 with h1 | h1
                  · exact .inl ⟨q, h1, h2⟩
                  · rw [List.mem_singleton] at h1; subst h1; exact .inr h2
                · rintro (⟨q, h1, h2⟩ | h)
                  · exact ⟨q, List.mem_append.2 (.inl h1), h2⟩
                  · exact ⟨_, List.mem_append.2 (.inr (List.mem_singleton.2 rfl)), h⟩)
              generalize L[k] = b at *
              by_cases hab : b = a
              · subst hab
                go_wp2_with fail
                refine ⟨⟨k + 1, by omega, by go_num, HBk.out, HLk.out, f2, HF2.out, fun i hi => ?_⟩, by simp [intOf]; omega⟩
                rw [HFI2.out i hi, HTK.out i]
                refine ⟨fun h => h.elim .inl (fun h => .inr (.inl h)), fun h => h.elim .inl (fun h => h.elim .inr (fun h => ?_))⟩
                obtain ⟨h1, h2, _⟩ := h; omega
              · have eab : ((b : Int) == (a : Int)) = false := by rw [beq_eq_false_iff_ne]; omega
                have nab : ¬ (b : Int) = (a : Int) := by omega
                by_cases hbl2 : lam < (b : Int) - (a : Int)
                · go_wp2_with fail
                  refine ⟨⟨k + 1, by omega, by go_num, HBk.out, HLk.out, f2, HF2.out, fun i hi => ?_⟩, by simp [intOf]; omega⟩
                  rw [HFI2.out i hi, HTK.out i]
                  refine ⟨fun h => h.elim .inl (fun h => .inr (.inl h)), fun h => h.elim .inl (fun h => h.elim .inr (fun h => ?_))⟩
                  obtain ⟨h1, h2, h3, _⟩ := h; omega
                · obtain ⟨ok, hok⟩ : ∃ ok, ok = okB (sub xs a b) := ⟨_, rfl⟩
                  have HKC := Lib.hid (HK2.out _ HBk.out b (by omega) hb1 (wc - a) (by omega) ok hok)
                  obtain ⟨OKP, hOKP⟩ : ∃ Q : Prop, Q = (chk = true → ok = true) := ⟨_, rfl⟩
                  have HSEG : Hid (∀ i, seg xs lam (p, chk) a b i ↔ a ≤ i ∧ i < b ∧ OKP) := Lib.hid (fun i => by
                    rw [hOKP]; unfold seg; rw [hok]
                    exact ⟨fun h => ⟨h.1, h.2.1, h.2.2.2⟩, fun h => ⟨h.1, h.2.1, by omega, h.2.2⟩⟩)
                  have HOKP := Lib.hid hOKP
                  clear hok hOKP
                  go_wp2_with fail
                  refine (HKC.out).mono ?_
                  rintro e9 w2 ⟨rfl, hb⟩
                  have HB2 := Lib.hid (HBk.out.trans (hb.mono HBk.out.size)); have HG2 := Lib.hid (HF2.out.below hb); have HL2 := Lib.hid (HLk.out.below hb)
                  clear hb HKC HBk HF2 HLk eab nab hlk hgs
                  go_wp2_with fail
                  go_loopw [14] (fun j wt => ∃ t : Nat, a ≤ t ∧ t ≤ b ∧ j = .int .i64 t ∧ Below w.heap.size w wt ∧ LAt wt w.heap.size (some ⟨gl, 0, none⟩) lc L ∧ ∃ g, AtG wt w.heap.size 4 (barr g xs.length) ∧ ∀ i, i < xs.length → (g i = true ↔ f2 i = true ∨ (a ≤ i ∧ i < t ∧ OKP))) (fun j _ => b - (intOf j).toNat)
                  case atStart => exact ⟨a, Nat.le_refl _, hb0, rfl, HB2.out, HL2.out, f2, HG2.out, fun i hi => ⟨fun h => .inl h, fun h => h.elim id (fun h => by omega)⟩⟩
                  case round =>
                    obtain ⟨t, hat, htb, rfl, hb, hla, g, hg, hgi⟩ := hrel
                    have HBt := Lib.hid hb; have HLt := Lib.hid hla; have HGt := Lib.hid hg; have HGI := Lib.hid hgi
                    clear hb hla hg hgi HB2 HL2 HG2
                    by_cases hlt2 : t < b
                    · have htI : (t : Int) < xs.length := by omega
                      have ht0 := HGt.out.bool t (by omega)
                      have ht1 := HGt.out.frozen t
                      have hgt := HGI.out t (by omega)
                      have hc9 := (HBt.out.cell (World.block_lt_of_cell? w _ HC9.out)).trans HC9.out
                      generalize g t = gv at ht0 hgt
                      cases gv
                      · have hf2 : ¬ f2 t = true := fun h => by have := hgt.2 (.inl h); cases this
                        have HF := Lib.hid hf2
                        clear hf2 hgt
                        cases chk
                        · skip
                          have HS := Lib.hid (HGt.out.setB t true); have HB3 := Lib.hid (HBt.out.setCell (p := ⟨w.heap.size, t, none⟩) (by simp) (.bool true)); have HL3 := Lib.hid (HLt.out.set t (.bool true))
                          have HV : Hid (true = true ↔ f2 t = true ∨ OKP) := Lib.hid (⟨fun _ => .inr (by rw [HOKP.out]; intro h; cases h), fun _ => rfl⟩)
                          clear HBt HLt HGt HOKP
                          go_wp2_with fail
                          refine ⟨⟨t + 1, by omega, by omega, by go_num, HB3.out, HL3.out, _, HS.out, fun i hi => ?_⟩, by simp [intOf]; omega⟩
                          have h := HGI.out i hi
                          unfold updB
                          by_cases hit : i = t
                          · subst hit
                            rw [if_pos rfl, HV.out]
                            exact ⟨fun h => h.elim .inl (fun h => .inr ⟨hat, by omega, h⟩), fun h => h.elim .inl (fun h => .inr h.2.2)⟩
                          · rw [if_neg hit, h]
                            exact ⟨fun h => h.elim .inl (fun h => .inr ⟨h.1, by omega, h.2.2⟩), fun h => h.elim .inl (fun h => .inr ⟨h.1, by omega, h.2.2⟩)⟩
                        · skip
                          have HS := Lib.hid (HGt.out.setB t ok); have HB3 := Lib.hid (HBt.out.setCell (p := ⟨w.heap.size, t, none⟩) (by simp) (.bool ok)); have HL3 := Lib.hid (HLt.out.set t (.bool ok))
                          have HV : Hid (ok = true ↔ f2 t = true ∨ OKP) := Lib.hid (⟨fun h => .inr (by rw [HOKP.out]; exact fun _ => h), fun h => h.elim (fun h => absurd h HF.out) (fun h => by rw [HOKP.out] at h; exact h rfl)⟩)
                          clear HBt HLt HGt HOKP
                          go_wp2_with fail
                          refine ⟨⟨t + 1, by omega, by omega, by go_num, HB3.out, HL3.out, _, HS.out, fun i hi => ?_⟩, by simp [intOf]; omega⟩
                          have h := HGI.out i hi
                          unfold updB
                          by_cases hit : i = t
                          · subst hit
                            rw [if_pos rfl, HV.out]
                            exact ⟨fun h => h.elim .inl (fun h => .inr ⟨hat, by omega, h⟩), fun h => h.elim .inl (fun h => .inr h.2.2)⟩
                          · rw [if_neg hit, h]
                            exact ⟨fun h => h.elim .inl (fun h => .inr ⟨h.1, by omega, h.2.2⟩), fun h => h.elim .inl (fun h => .inr ⟨h.1, by omega, h.2.2⟩)⟩
                      · have HF : Hid (f2 t = true ∨ OKP) := Lib.hid ((hgt.1 rfl).elim .inl (fun h => .inr h.2.2))
                        clear hgt
                        have HS := Lib.hid (HGt.out.setB t true); have HB3 := Lib.hid (HBt.out.setCell (p := ⟨w.heap.size, t, none⟩) (by simp) (.bool true)); have HL3 := Lib.hid (HLt.out.set t (.bool true))
                        have HV : Hid (true = true ↔ f2 t = true ∨ OKP) := Lib.hid (⟨fun _ => HF.out, fun _ => rfl⟩)
                        clear HBt HLt HGt HOKP
                        go_wp2_with fail
                        refine ⟨⟨t + 1, by omega, by omega, by go_num, HB3.out, HL3.out, _, HS.out, fun i hi => ?_⟩, by simp [intOf]; omega⟩
                        have h := HGI.out i hi
                        unfold updB
                        by_cases hit : i = t
                        · subst hit
                          rw [if_pos rfl, HV.out]
                          exact ⟨fun h => h.elim .inl (fun h => .inr ⟨hat, by omega, h⟩), fun h => h.elim .inl (fun h => .inr h.2.2)⟩
                        · rw [if_neg hit, h]
                          exact ⟨fun h => h.elim .inl (fun h => .inr ⟨h.1, by omega, h.2.2⟩), fun h => h.elim .inl (fun h => .inr ⟨h.1, by omega, h.2.2⟩)⟩
                    · obtain rfl : t = b := by omega
                      go_wp2_with fail
                      refine ⟨⟨k + 1, by omega, by go_num, HBt.out, HLt.out, g, HGt.out, fun i hi => (HGI.out i hi).trans ?_⟩, by simp [intOf]; omega⟩
                      rw [HFI2.out i hi, HTK.out i, HSEG.out i, or_assoc]
            · obtain rfl : k = L.length := by omega
              go_wp2_with fail
              refine ⟨⟨a + 1, by omega, by go_num, HBk.out, f2, HF2.out, fun i hi => ?_⟩, by simp [intOf]; omega⟩
              rw [HFI2.out i hi, HS1.out i, List.take_length]
              constructor
              · rintro ((h | ⟨a', h1, h2⟩) | ⟨b, h1, h2⟩)
                · exact .inl h
                · exact .inr ⟨a', by omega, h2⟩
                · exact .inr ⟨a, by omega, b, (HMEM.out b).1 h1, h2⟩
              · rintro (h | ⟨a', h1, b, h2, h3⟩)
                · exact .inl (.inl h)
                · by_cases ha' : a' = a
                  · subst ha'; exact .inr ⟨b, (HMEM.out b).2 h2, h3⟩
                  · exact .inl (.inr ⟨a', by omega, b, h2, h3⟩)
        · obtain rfl : a = xs.length := by omega
          go_wp2_with fail
          refine ⟨⟨r + 1, by omega, by go_num, HBa.out, f1, HF1.out, fun i hi => ?_⟩, by simp [intOf]; omega⟩
          rw [HFI1.out i hi, HT.out i, HS0.out i]
          exact Iff.rfl
    · obtain rfl : r = rs.length := by omega
      go_wp2_with fail
      go_returns
      exact ⟨HB.out, _, f, rfl, HFA.out, Nat.le_refl _, fun i hi => by rw [HFI.out i hi, List.take_length]; exact cov_all rs lam xs i⟩
end Go.Proofs.Ytofgkildlhcpdaa
