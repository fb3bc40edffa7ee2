/- The head of the statements on mask. -/
import Derived.Test.YtofgkildlhcpdaaMask7
set_option linter.unusedVariables false
set_option linter.unusedSimpArgs false
namespace Go.Proofs.Ytofgkildlhcpdaa
open Go.RowKit Bt Luhn
def abS : ByteArray := ⟨#[97, 98]⟩
def abP : Pat := .cat [.one fun y => y == 97, .one fun y => y == 98]
theorem ab_P : P abS .pat 0 0 (.ok abP.tree 2) := by
  have c0 : ch abS 0 = 97 := by decide
  have c1 : ch abS 1 = 98 := by decide
  have c2 : ch abS 2 = -1 := by decide
  have h1 : atomF abS 0 = .ok (one fun y => y == 97) 1 := by
    unfold atomF; rw [c0, if_neg (by decide), if_neg (by decide), if_neg (by decide), if_neg (by decide), if_neg (by decide), if_neg (by decide)]; rfl
  have h2 : atomF abS 1 = .ok (one fun y => y == 98) 2 := by
    unfold atomF; rw [c1, if_neg (by decide), if_neg (by decide), if_neg (by decide), if_neg (by decide), if_neg (by decide), if_neg (by decide)]; rfl
  have a1 : P abS .atom 0 0 (.ok (one fun y => y == 97) 1) := by
    have := P.plain (s := abS) (o := 0) (p := 0) (by rw [c0]; decide)
    rw [h1] at this; exact this
  have b1 : P abS .atom 0 1 (.ok (one fun y => y == 98) 2) := by
    have := P.plain (s := abS) (o := 0) (p := 1) (by rw [c1]; decide)
    rw [h2] at this; exact this
  have a2 : P abS .piece 0 0 (.ok (one fun y => y == 97) 1) := P.pieceOk a1 (P.pieceEnd (by rw [c1]; decide) (by rw [c1]; decide))
  have b2 : P abS .piece 0 1 (.ok (one fun y => y == 98) 2) := P.pieceOk b1 (P.pieceEnd (by rw [c2]; decide) (by rw [c2]; decide))
  have g1 : goes abS 0 1 := ⟨by rw [c1]; decide, by rw [c1]; decide, .inr rfl⟩
  have a4 : P abS (.partL [one fun y => y == 97, one fun y => y == 98]) 0 2 (.ok abP.tree 2) := P.partEnd (s := abS) (o := 0) (p := 2) (l := [one fun y => y == 97, one fun y => y == 98]) (fun h => by have := h.1; rw [c2] at this; omega)
  have a5 : P abS .part 0 0 (.ok abP.tree 2) := P.partOk a2 (P.partMore g1 b2 a4)
  have a6 : P abS (.patL [abP.tree]) 0 2 (.ok abP.tree 2) := P.patEnd (s := abS) (o := 0) (p := 2) (l := [abP.tree]) (by rw [c2]; decide)
  exact P.patOk a5 a6
theorem ab_wf : Wf abP := .cat _ (wf_two (.one _) (.one _)) (by decide) (by decide)
theorem ab_mt (b : Nat → Nat) (n j i : Nat) : Mt b n abP j i ↔ i = j + 2 ∧ j + 1 < n ∧ b j = 97 ∧ b (j + 1) = 98 := by
  unfold abP
  rw [Mt, MtC]
  constructor
  · rintro ⟨k, h1, h2⟩
    rw [MtC] at h2
    obtain ⟨k', h2, h3⟩ := h2
    rw [MtC] at h3
    rw [Mt] at h1 h2
    obtain ⟨rfl, h4, h5⟩ := h1
    obtain ⟨rfl, h6, h7⟩ := h2
    exact ⟨by omega, h6, by simpa using h5, by simpa using h7⟩
  · rintro ⟨rfl, h1, h2, h3⟩
    refine ⟨j + 1, by rw [Mt]; exact ⟨rfl, by omega, by simp [h2]⟩, ?_⟩
    rw [MtC]
    exact ⟨j + 2, by rw [Mt]; exact ⟨rfl, h1, by simp [h3]⟩, by rw [MtC]⟩
theorem ab_cov (lam : Int) (i : Nat) : cov [(abP, false)] lam [120, 97, 98, 120] i ↔ 2 ≤ lam ∧ (i = 1 ∨ i = 2) := by
  unfold cov fitsOne fitsAt
  constructor
  · rintro ⟨a, b, h1, h2, h3, h4, r, h5, h6, _⟩
    rw [List.mem_singleton] at h5; subst h5
    obtain ⟨rfl, h7, h8, h9⟩ := (ab_mt _ _ _ _).1 h6
    have h7' : a + 1 < 4 := h7
    have ha : a = 1 := by
      match a, h7' with
      | 0, _ => exact absurd h8 (by decide)
      | 1, _ => rfl
      | 2, _ => exact absurd h8 (by decide)
    subst ha
    omega
  · rintro ⟨h1, h2⟩
    refine ⟨1, 3, by omega, by omega, by decide, by omega, (abP, false), List.mem_singleton.2 rfl, ?_, fun h => by cases h⟩
    exact (ab_mt _ _ _ _).2 ⟨rfl, by decide, by decide, by decide⟩
theorem ab_fit : fitR [97, 98] (abP, false) := ⟨(ab_mt _ _ _ _).2 ⟨rfl, by decide, by decide, by decide⟩, fun h => by cases h⟩
theorem ab_hide (lam : Int) (f : Nat → Bool) (h : ∀ i, i < 4 → (f i = true ↔ cov [(abP, false)] lam [120, 97, 98, 120] i)) : hide f 42 [120, 97, 98, 120] = if 2 ≤ lam then [120, 42, 42, 120] else [120, 97, 98, 120] := by
  have h0 := (h 0 (by omega)).trans (ab_cov lam 0)
  have h1 := (h 1 (by omega)).trans (ab_cov lam 1)
  have h2 := (h 2 (by omega)).trans (ab_cov lam 2)
  have h3 := (h 3 (by omega)).trans (ab_cov lam 3)
  have e : hide f 42 [120, 97, 98, 120] = [if f 0 then 42 else 120, if f 1 then 42 else 97, if f 2 then 42 else 98, if f 3 then 42 else 120] := rfl
  rw [e]
  by_cases hl : 2 ≤ lam
  · rw [if_pos hl, if_neg (fun e => by have := h0.1 e; omega), if_pos (h1.2 ⟨hl, .inl rfl⟩), if_pos (h2.2 ⟨hl, .inr rfl⟩), if_neg (fun e => by have := h3.1 e; omega)]
  · rw [if_neg hl, if_neg (fun e => by have := h0.1 e; omega), if_neg (fun e => by have := h1.1 e; omega), if_neg (fun e => by have := h2.1 e; omega), if_neg (fun e => by have := h3.1 e; omega)]
theorem ab_parse (w : World) : Calls Try.prog 32 #[.string abS] w fun e w' => Below w.heap.size w w' ∧ ∃ a n c, e = .returned (.tuple #[nodeV abP.tree (.slice a n c), .int .i64 0, .int .i64 0]) ∧ NAt w' abP.tree (.slice a n c) :=
  (parse_any abS w (by decide)).mono (by
    rintro e w' ⟨hb, r, hP, hr⟩
    have := P.det hP _ ab_P
    subst this
    obtain ⟨kv, he, hK⟩ := hr
    obtain ⟨a, n, c, rfl⟩ := tree_kv (NAt.of hK)
    exact ⟨hb, a, n, c, he, NAt.of hK⟩)
/-- one rule in memory -/
theorem ruAt_one {w : World} {b : Nat} {p : Pat} {a : Option Addr} {n c : Nat} {chk : Bool} {op : Int} {f : Nat → Bool} {mn mx : Int} {kids : List Tree} (ht : p.tree = .node op f mn mx kids) (h : AtG w b 47 (ruC op f mn mx (.slice a n c) chk)) (hn : NAt w p.tree (.slice a n c)) : RuAt w (.slice (some ⟨b, 0, none⟩) 1 1) [(p, chk)] := by
  refine .inr ⟨b, 0, 1, rfl, by simp, fun j hj => ?_⟩
  have hj0 : j = 0 := by simp at hj; exact hj
  subst hj0
  exact ⟨op, f, mn, mx, kids, a, n, c, ht, ⟨h.cell 0 _ rfl, h.cell 1 _ rfl, h.cell 2 _ rfl, h.cell 3 _ rfl, h.cell 4 _ rfl, h.cell 5 _ rfl, h.cell 6 _ rfl, h.cell 7 _ rfl⟩, h.cell 8 _ rfl, hn⟩
set_option maxRecDepth 100000 in
set_option maxHeartbeats 1600000 in
theorem up09_any (w : World) : Calls Try.prog 20 #[] w fun e w' => e = .returned (.bool true) ∧ Below w.heap.size w w' := by
  have HP := Lib.hid ab_parse
  go_enter Try.func20, Try.ntmps20
  go_wp2_with fail
  refine (HP.out _).mono ?_
  rintro e9 w1 ⟨hb1, a, n, c, rfl, hk⟩
  have HB1 := Lib.hid hb1; have HK1 := Lib.hid hk
  clear hb1 hk
  have hv : nodeV abP.tree (.slice a n c) = .agg #[.int .i64 2, .int .u64 ((wd emp 0 : Nat) : Int), .int .u64 ((wd emp 1 : Nat) : Int), .int .u64 ((wd emp 2 : Nat) : Int), .int .u64 ((wd emp 3 : Nat) : Int), .int .i64 0, .int .i64 0, .slice a n c] := rfl
  rw [hv]
  clear hv
  go_upto_region 3 with (fail)
  obtain ⟨W1, hW1⟩ : ∃ W1 : World, W1 = w1.alloc (.cells #[.int .i64 2, .int .u64 ((wd emp 0 : Nat) : Int), .int .u64 ((wd emp 1 : Nat) : Int), .int .u64 ((wd emp 2 : Nat) : Int), .int .u64 ((wd emp 3 : Nat) : Int), .int .i64 0, .int .i64 0, .slice a n c] 29) := ⟨_, rfl⟩
  have hz1 : w1.heap.size + 1 = W1.heap.size := by rw [hW1]; simp
  rw [← hW1, hz1]
  have HB2 : Hid (Below w.heap.size w W1) := Lib.hid (by rw [hW1]; exact HB1.out.alloc HB1.out.size _)
  have HK2 : Hid (NAt W1 abP.tree (.slice a n c)) := Lib.hid (by rw [hW1]; exact HK1.out.alloc _)
  clear hW1 hz1 HB1 HK1
  obtain ⟨W, hW⟩ : ∃ W : World, W = W1.alloc (.cells #[.int .i64 2, .int .u64 ((wd emp 0 : Nat) : Int), .int .u64 ((wd emp 1 : Nat) : Int), .int .u64 ((wd emp 2 : Nat) : Int), .int .u64 ((wd emp 3 : Nat) : Int), .int .i64 0, .int .i64 0, .slice a n c, .bool false] 47) := ⟨_, rfl⟩
  rw [← hW]
  have HBW : Hid (Below w.heap.size w W) := Lib.hid (by rw [hW]; exact HB2.out.alloc HB2.out.size _)
  have HKW : Hid (NAt W abP.tree (.slice a n c)) := Lib.hid (by rw [hW]; exact HK2.out.alloc _)
  have HCW : Hid (AtG W W1.heap.size 47 (ruC 2 emp 0 0 (.slice a n c) false)) := Lib.hid (by rw [hW]; exact AtG.new _ _ _)
  have HRW : Hid (RuAt W (.slice (some ⟨W1.heap.size, 0, none⟩) 1 1) [(abP, false)]) := Lib.hid (ruAt_one (show abP.tree = .node 2 emp 0 0 (Pat.trees [.one fun y => y == 97, .one fun y => y == 98]) from rfl) HCW.out HKW.out)
  clear hW HB2 HK2 HP
  generalize W1.heap.size = gr at *
  have hwf : ∀ r ∈ [(abP, false)], Wf r.1 := fun r hr => by rw [List.mem_singleton] at hr; subst hr; exact ab_wf
  have HMA : Hid (∀ (lam : Int), 0 ≤ lam ∧ lam ≤ 100 → ∀ (w1 : World) (wv : Value), Below W.heap.size W w1 → RdB w1 wv [120, 97, 98, 120] → (∀ c, wv = .slice none 0 c → c = 0) → Calls Try.prog 27 #[.slice (some ⟨gr, 0, none⟩) 1 1, .int .i64 lam, .int .u8 42, wv] w1 fun e w' => Below w1.heap.size w1 w' ∧ ∃ u, e = .returned u ∧ RdB w' u (if 2 ≤ lam then [120, 42, 42, 120] else [120, 97, 98, 120])) := Lib.hid (fun lam hl w1 wv hb hx hn =>
    (mask_any [(abP, false)] hwf lam 42 ⟨by omega, by omega⟩ (by decide) w1 _ wv [120, 97, 98, 120] (HRW.out.below hb) hx hn (by decide) (by decide)).mono (by
      rintro e w' ⟨hb, u, f, rfl, hr, hf⟩
      rw [ab_hide lam f hf] at hr
      exact ⟨hb, u, rfl, hr⟩))
  clear hwf
  have q1 := fun (C : Array Value) (n c : Nat) => conv_const (P := Try.prog) W 22 5 C n c W.heap.size rfl Try.underlying22 Try.underlying5
  go_wp2_with fail
  refine (HMA.out 2 (by decide) _ _ ((Below.refl _ _).alloc (Nat.le_refl _) _) (rdB_cells2 [120, 97, 98, 120] rfl (heap_alloc_new _ _) (Nat.le_refl _) (by decide) (by decide)) (fun c h => by cases h)).mono ?_
  rintro e9 w2 ⟨hb2, u, rfl, hu⟩
  rw [if_pos (by decide)] at hu
  have hcv := rdB_conv hu
  have HBW2 := Lib.hid (((Below.refl W.heap.size W).alloc (Nat.le_refl _) (.cells #[.int .u8 120, .int .u8 97, .int .u8 98, .int .u8 120] 5 (4, 5))).trans (hb2.mono (by simp)))
  clear hb2 hu q1
  rw [show strOfNums [120, 42, 42, 120] = ⟨#[120, 42, 42, 120]⟩ from by decide] at hcv
  have q1 := fun (C : Array Value) (n c : Nat) => conv_const (P := Try.prog) w2 22 5 C n c w2.heap.size rfl Try.underlying22 Try.underlying5
  go_wp2_with fail
  refine (HMA.out 1 (by decide) _ _ (HBW2.out.alloc HBW2.out.size _) (rdB_cells2 [120, 97, 98, 120] rfl (heap_alloc_new _ _) (Nat.le_refl _) (by decide) (by decide)) (fun c h => by cases h)).mono ?_
  rintro e9 w3 ⟨hb3, u3, rfl, hu3⟩
  rw [if_neg (by decide)] at hu3
  have hcv3 := rdB_conv hu3
  have HBW3 := Lib.hid ((HBW2.out.alloc HBW2.out.size (.cells #[.int .u8 120, .int .u8 97, .int .u8 98, .int .u8 120] 5 (4, 5))).trans (hb3.mono (by have := HBW2.out.size; simp; omega)))
  clear hb3 hu3 q1 hcv
  rw [show strOfNums [120, 97, 98, 120] = ⟨#[120, 97, 98, 120]⟩ from by decide] at hcv3
  have q1 := fun (C : Array Value) (n c : Nat) => conv_const (P := Try.prog) w3 22 5 C n c w3.heap.size rfl Try.underlying22 Try.underlying5
  have HC3 := Lib.hid (HCW.out.below HBW3.out); have HK3 := Lib.hid (HKW.out.below HBW3.out)
  have k0 : w3.cell? ⟨gr, 0, none⟩ = some (.int .i64 2) := HC3.out.cell 0 _ rfl
  have k1 : w3.cell? ⟨gr, 1, none⟩ = some (.int .u64 ((wd emp 0 : Nat) : Int)) := HC3.out.cell 1 _ rfl
  have k2 : w3.cell? ⟨gr, 2, none⟩ = some (.int .u64 ((wd emp 1 : Nat) : Int)) := HC3.out.cell 2 _ rfl
  have k3 : w3.cell? ⟨gr, 3, none⟩ = some (.int .u64 ((wd emp 2 : Nat) : Int)) := HC3.out.cell 3 _ rfl
  have k4 : w3.cell? ⟨gr, 4, none⟩ = some (.int .u64 ((wd emp 3 : Nat) : Int)) := HC3.out.cell 4 _ rfl
  have k5 : w3.cell? ⟨gr, 5, none⟩ = some (.int .i64 0) := HC3.out.cell 5 _ rfl
  have k6 : w3.cell? ⟨gr, 6, none⟩ = some (.int .i64 0) := HC3.out.cell 6 _ rfl
  have k7 : w3.cell? ⟨gr, 7, none⟩ = some (.slice a n c) := HC3.out.cell 7 _ rfl
  have k8 : w3.cell? ⟨gr, 8, none⟩ = some (.bool false) := HC3.out.cell 8 _ rfl
  have hgl : gr < w3.heap.size := HC3.out.lt
  go_wp2_with fail
  refine (fitsO_any abP ab_wf false _ a n c _ [97, 98] (NAt.alloc HK3.out _) (rdB_cells2 [97, 98] rfl (heap_alloc_new _ _) (Nat.le_refl _) (by decide) (by decide)) (by decide)).mono ?_
  rintro e9 w4 ⟨hb4, r, rfl, hr⟩
  obtain rfl : r = true := hr.2 ab_fit
  have HB4 := Lib.hid (HBW.out.trans (((HBW3.out.alloc HBW3.out.size (.cells #[.int .u8 97, .int .u8 98] 5 (2, 3))).trans (hb4.mono (by have := HBW3.out.size; simp; omega))).mono HBW.out.size))
  clear hb4 hr q1 hcv3 k0 k1 k2 k3 k4 k5 k6 k7 k8
  go_wp2_with fail
  go_returns
  exact ⟨rfl, HB4.out⟩
end Go.Proofs.Ytofgkildlhcpdaa
