/- The walk of the document's Places; Pattern of the help. -/
import Derived.Test.YtofgkildlhcpdaaK4
import Derived.Laws.MakeOwn
set_option linter.unusedVariables false
set_option linter.unusedSimpArgs false
namespace Go.Proofs.Ytofgkildlhcpdaa
open Go.RowKit Bt
mutual
/-- how many places a pattern has (up to 1000) -/
def placesP : Pat → Nat
  | .one _ => 1
  | .cat l => min (placesL l) 1000
  | .alt l => min (placesL l) 1000
  | .rep _ mx p => min (placesP p * mx) 1000
def placesL : List Pat → Nat
  | [] => 0
  | p :: l => placesP p + placesL l
end
theorem placesP_le (p : Pat) : placesP p ≤ 1000 := by cases p <;> rw [placesP] <;> omega
theorem placesL_le (l : List Pat) : placesL l ≤ l.length * 1000 := by
  induction l with
  | nil => simp [placesL]
  | cons p l ih => rw [placesL, List.length_cons]; have := placesP_le p; omega
theorem placesL_snoc (l : List Pat) (k : Nat) (h : k < l.length) : placesL (l.take (k + 1)) = placesL (l.take k) + placesP l[k] := by
  have key : ∀ (a b : List Pat), placesL (a ++ b) = placesL a + placesL b := fun a b => by
    induction a with
    | nil => simp [placesL]
    | cons p a ih => rw [List.cons_append, placesL, placesL, ih]; omega
  rw [List.take_succ_eq_append_getElem h, key, placesL, placesL]; omega
def PlacesC (p : Pat) : Prop := ∀ (w : World) (a : Option Addr) (n c : Nat), NAt w p.tree (.slice a n c) → Calls Try.prog 38 #[nodeV p.tree (.slice a n c)] w fun e w' => e = .returned (.int .i64 (placesP p : Int)) ∧ Below w.heap.size w w'
set_option maxRecDepth 100000 in
set_option maxHeartbeats 1600000 in
theorem places_node (op : Int) (f : Nat → Bool) (mn : Int) (mx : Nat) (ps : List Pat) (h1000 : mx ≤ 1000) (hl : ps.length ≤ 1000) (ih : ∀ p ∈ ps, PlacesC p) (w : World) (a : Option Addr) (c : Nat) (h : NAt w (.node op f mn (mx : Int) (Pat.trees ps)) (.slice a ps.length c))
    (k0 : Nat) (hk0 : k0 = if op = 1 then 1 else 0) (k1 : Nat) (hk1 : k1 = if op = 4 then mx else 1) :
    Calls Try.prog 38 #[.agg #[.int .i64 op, .int .u64 ((wd f 0 : Nat) : Int), .int .u64 ((wd f 1 : Nat) : Int), .int .u64 ((wd f 2 : Nat) : Int), .int .u64 ((wd f 3 : Nat) : Int), .int .i64 mn, .int .i64 (mx : Int), .slice a ps.length c]] w fun e w' => e = .returned (.int .i64 (min (((k0 + placesL ps) * k1 : Nat) : Int) 1000)) ∧ Below w.heap.size w w' := by
  obtain ⟨w0, hw0⟩ : ∃ w0 : World, w0 = w.alloc (.cells (nodeC op f mn (mx : Int) (.slice a ps.length c)) 29) := ⟨_, rfl⟩
  have H := Lib.hid h
  have HA : Hid (AtG w0 w.heap.size 29 (nodeC op f mn (mx : Int) (.slice a ps.length c))) := Lib.hid (by rw [hw0]; exact AtG.new _ _ _)
  have HB0 : Hid (Below w.heap.size w w0) := Lib.hid (by rw [hw0]; go_grown)
  have hlI : (ps.length : Int) ≤ 1000 := by omega
  have hw0' : w.alloc (.cells #[.int .i64 op, .int .u64 ((wd f 0 : Nat) : Int), .int .u64 ((wd f 1 : Nat) : Int), .int .u64 ((wd f 2 : Nat) : Int), .int .u64 ((wd f 3 : Nat) : Int), .int .i64 mn, .int .i64 (mx : Int), .slice a ps.length c] 29) = w0 := hw0.symm
  have m0 : w0.cell? ⟨w.heap.size, 0, none⟩ = some (.int .i64 op) := HA.out.cell 0 _ rfl
  have m7 : w0.cell? ⟨w.heap.size, 7, none⟩ = some (.slice a ps.length c) := HA.out.cell 7 _ rfl
  have hY := placesL_le ps
  have hk0' : k0 ≤ 1 := by rw [hk0]; split <;> omega
  have hmxI : (mx : Int) ≤ 1000 := by omega
  have hmul : ((k0 : Int) + (placesL ps : Int)) * (mx : Int) ≤ 2000000000 := by
    have : (k0 + placesL ps) * mx ≤ 1000001 * 1000 := Nat.mul_le_mul (by omega) h1000
    have h3 : (((k0 + placesL ps) * mx : Nat) : Int) ≤ 2000000000 := by omega
    rwa [Int.natCast_mul, Int.natCast_add] at h3
  have hmul0 : 0 ≤ ((k0 : Int) + (placesL ps : Int)) * (mx : Int) := Int.mul_nonneg (by omega) (by omega)
  have HMUL := Lib.hid hmul; have HMUL0 := Lib.hid hmul0
  have HK0 := Lib.hid hk0; have HK1 := Lib.hid hk1
  clear h hw0 hmul hmul0
  clear hk0 hk1 hk0'
  by_cases e1 : op = 1
  · subst e1
    have hk0 : k0 = 1 := by rw [HK0.out]; rfl
    have hk1 : k1 = 1 := by rw [HK1.out]; rfl
    subst hk0; subst hk1
    clear HK0 HK1
    go_enter Try.func38, Try.ntmps38
    go_wp2_with fail
    go_loopw [3, 4] (fun t i wr => ∃ k : Nat, k ≤ ps.length ∧ i = .int .i64 k ∧ t = .int .i64 (((1) : Nat) + (placesL (ps.take k) : Int)) ∧ AtG wr w.heap.size 29 (nodeC _ f mn _ (.slice a ps.length c)) ∧ Below w.heap.size w wr) (fun _ i _ => ps.length - (intOf i).toNat)
    case atStart => exact ⟨0, Nat.zero_le _, rfl, by simp [placesL], HA.out, HB0.out⟩
    case round =>
      clear hw0' m0 m7 HA HB0
      obtain ⟨k, hk, rfl, rfl, ha, hb⟩ := hrel
      have HA := Lib.hid ha; have HB := Lib.hid hb
      have r0 := ha.cell 0 _ rfl
      have r6 := ha.cell 6 _ rfl
      have r7 := ha.cell 7 _ rfl
      clear ha hb
      by_cases hlt : k < ps.length
      · obtain ⟨b, off, cap, heq, hcap, op', f', mn', mx', kids', ka, kc, ht, hc8, hkn⟩ := kid_at H.out (trees_get hlt)
        injection heq with e1 e2 e3
        subst e1; subst e3
        clear e2
        rw [trees_len] at hcap
        have hI := ih ps[k] (List.getElem_mem hlt)
        unfold PlacesC at hI
        rw [ht] at hI hkn
        have hI2 := fun w h => hI w ka kids'.length kc h
        unfold nodeV at hI2
        have hS := placesL_snoc ps k hlt
        have hB1 := placesL_le (ps.take k)
        have hB2 := placesP_le ps[k]
        have htk : (ps.take k).length ≤ 1000 := by simp; omega
        generalize placesP ps[k] = m at *
        generalize hq : placesL (ps.take k) = q at *
        have HS := Lib.hid hS; have HI := Lib.hid hI2; have HKN := Lib.hid hkn
        obtain ⟨kn, hkl⟩ : ∃ kn, kn = kids'.length := ⟨_, rfl⟩
        rw [← hkl] at HKN HI hc8
        obtain ⟨c0, c1, c2, c3, c4, c5, c6, c7⟩ := Cell8.below hc8 HB.out
        have hm1 : (m : Int) ≤ 1000 := by omega
        have hq1 : (q : Int) ≤ 1000000 := by omega
        clear hS hI hI2 hkn ht hkl hc8 hB1 hB2 htk hq
        go_wp2_with fail
        refine (HI.out _ (NAt.below HKN.out HB.out)).mono ?_
        rintro e9 w9 ⟨rfl, hb9⟩
        have HA9 := Lib.hid (HA.out.below hb9); have HB9 := Lib.hid (HB.out.trans (hb9.mono HB.out.size))
        clear hb9
        go_wp2_with fail
        exact ⟨⟨k + 1, by omega, by go_num, by rw [HS.out]; congr 1; omega, HA9.out, HB9.out⟩, by simp [intOf]; omega⟩
      · have hke : k = ps.length := by omega
        subst hke
        rw [List.take_length]
        have hbd : (placesL ps : Int) ≤ 1000000 := by omega
        have hbd0 : 0 ≤ (placesL ps : Int) := by omega
        have HBD := Lib.hid hbd
        obtain ⟨z, hz⟩ : ∃ z : Int, z = (placesL ps : Int) := ⟨_, rfl⟩
        rw [← hz] at hbd hbd0 ⊢
        have HZ := Lib.hid hz
        clear hz hY
        skip
        go_wp2_with fail
        all_goals (go_returns; exact ⟨by refine congrArg (fun z => Ending.returned (Value.int .i64 z)) ?_; have hz := HZ.out; push_cast; rw [← hz]; omega, HB.out⟩)
  have n1 : (op == 1) = false := by rw [beq_eq_false_iff_ne]; exact e1
  have hk0 : k0 = 0 := by rw [HK0.out, if_neg e1]
  subst hk0
  by_cases e4 : op = 4
  · subst e4
    have hk1 : k1 = mx := by rw [HK1.out]; rfl
    subst hk1
    clear HK0 HK1
    go_enter Try.func38, Try.ntmps38
    have HM1 : Hid ((placesL ps : Int) * (k1 : Int) ≤ 2000000000) := Lib.hid (by have h9 := HMUL.out; rw [show (((0 : Nat) : Int) + (placesL ps : Int)) = (placesL ps : Int) from by omega] at h9; exact h9)
    have HM2 : Hid (0 ≤ (placesL ps : Int) * (k1 : Int)) := Lib.hid (by have h9 := HMUL0.out; rw [show (((0 : Nat) : Int) + (placesL ps : Int)) = (placesL ps : Int) from by omega] at h9; exact h9)
    go_wp2_with fail
    go_loopw [3, 4] (fun t i wr => ∃ k : Nat, k ≤ ps.length ∧ i = .int .i64 k ∧ t = .int .i64 (((0) : Nat) + (placesL (ps.take k) : Int)) ∧ AtG wr w.heap.size 29 (nodeC _ f mn _ (.slice a ps.length c)) ∧ Below w.heap.size w wr) (fun _ i _ => ps.length - (intOf i).toNat)
    case atStart => exact ⟨0, Nat.zero_le _, rfl, by simp [placesL], HA.out, HB0.out⟩
    case round =>
      clear hw0' m0 m7 HA HB0
      obtain ⟨k, hk, rfl, rfl, ha, hb⟩ := hrel
      have HA := Lib.hid ha; have HB := Lib.hid hb
      have r0 := ha.cell 0 _ rfl
      have r6 := ha.cell 6 _ rfl
      have r7 := ha.cell 7 _ rfl
      clear ha hb
      by_cases hlt : k < ps.length
      · obtain ⟨b, off, cap, heq, hcap, op', f', mn', mx', kids', ka, kc, ht, hc8, hkn⟩ := kid_at H.out (trees_get hlt)
        injection heq with e1 e2 e3
        subst e1; subst e3
        clear e2
        rw [trees_len] at hcap
        have hI := ih ps[k] (List.getElem_mem hlt)
        unfold PlacesC at hI
        rw [ht] at hI hkn
        have hI2 := fun w h => hI w ka kids'.length kc h
        unfold nodeV at hI2
        have hS := placesL_snoc ps k hlt
        have hB1 := placesL_le (ps.take k)
        have hB2 := placesP_le ps[k]
        have htk : (ps.take k).length ≤ 1000 := by simp; omega
        generalize placesP ps[k] = m at *
        generalize hq : placesL (ps.take k) = q at *
        have HS := Lib.hid hS; have HI := Lib.hid hI2; have HKN := Lib.hid hkn
        obtain ⟨kn, hkl⟩ : ∃ kn, kn = kids'.length := ⟨_, rfl⟩
        rw [← hkl] at HKN HI hc8
        obtain ⟨c0, c1, c2, c3, c4, c5, c6, c7⟩ := Cell8.below hc8 HB.out
        have hm1 : (m : Int) ≤ 1000 := by omega
        have hq1 : (q : Int) ≤ 1000000 := by omega
        clear hS hI hI2 hkn ht hkl hc8 hB1 hB2 htk hq
        go_wp2_with fail
        refine (HI.out _ (NAt.below HKN.out HB.out)).mono ?_
        rintro e9 w9 ⟨rfl, hb9⟩
        have HA9 := Lib.hid (HA.out.below hb9); have HB9 := Lib.hid (HB.out.trans (hb9.mono HB.out.size))
        clear hb9
        go_wp2_with fail
        exact ⟨⟨k + 1, by omega, by go_num, by rw [HS.out]; congr 1; omega, HA9.out, HB9.out⟩, by simp [intOf]; omega⟩
      · have hke : k = ps.length := by omega
        subst hke
        rw [List.take_length]
        have hbd : (placesL ps : Int) ≤ 1000000 := by omega
        have hbd0 : 0 ≤ (placesL ps : Int) := by omega
        have HBD := Lib.hid hbd
        obtain ⟨z, hz⟩ : ∃ z : Int, z = (placesL ps : Int) := ⟨_, rfl⟩
        rw [← hz] at hbd hbd0 ⊢
        have HZ := Lib.hid hz
        clear hz hY
        have hmu := HM1.out; have hmu0 := HM2.out; rw [← HZ.out] at hmu hmu0
        go_wp2_with fail
        all_goals (go_returns; exact ⟨by refine congrArg (fun z => Ending.returned (Value.int .i64 z)) ?_; have hz := HZ.out; push_cast; rw [← hz]; omega, HB.out⟩)
  · have n4 : (op == 4) = false := by rw [beq_eq_false_iff_ne]; exact e4
    have hk1 : k1 = 1 := by rw [HK1.out, if_neg e4]
    subst hk1
    clear HK0 HK1
    go_enter Try.func38, Try.ntmps38
    go_wp2_with fail
    go_loopw [3, 4] (fun t i wr => ∃ k : Nat, k ≤ ps.length ∧ i = .int .i64 k ∧ t = .int .i64 (((0) : Nat) + (placesL (ps.take k) : Int)) ∧ AtG wr w.heap.size 29 (nodeC _ f mn _ (.slice a ps.length c)) ∧ Below w.heap.size w wr) (fun _ i _ => ps.length - (intOf i).toNat)
    case atStart => exact ⟨0, Nat.zero_le _, rfl, by simp [placesL], HA.out, HB0.out⟩
    case round =>
      clear hw0' m0 m7 HA HB0
      obtain ⟨k, hk, rfl, rfl, ha, hb⟩ := hrel
      have HA := Lib.hid ha; have HB := Lib.hid hb
      have r0 := ha.cell 0 _ rfl
      have r6 := ha.cell 6 _ rfl
      have r7 := ha.cell 7 _ rfl
      clear ha hb
      by_cases hlt : k < ps.length
      · obtain ⟨b, off, cap, heq, hcap, op', f', mn', mx', kids', ka, kc, ht, hc8, hkn⟩ := kid_at H.out (trees_get hlt)
        injection heq with e1 e2 e3
        subst e1; subst e3
        clear e2
        rw [trees_len] at hcap
        have hI := ih ps[k] (List.getElem_mem hlt)
        unfold PlacesC at hI
        rw [ht] at hI hkn
        have hI2 := fun w h => hI w ka kids'.length kc h
        unfold nodeV at hI2
        have hS := placesL_snoc ps k hlt
        have hB1 := placesL_le (ps.take k)
        have hB2 := placesP_le ps[k]
        have htk : (ps.take k).length ≤ 1000 := by simp; omega
        generalize placesP ps[k] = m at *
        generalize hq : placesL (ps.take k) = q at *
        have HS := Lib.hid hS; have HI := Lib.hid hI2; have HKN := Lib.hid hkn
        obtain ⟨kn, hkl⟩ : ∃ kn, kn = kids'.length := ⟨_, rfl⟩
        rw [← hkl] at HKN HI hc8
        obtain ⟨c0, c1, c2, c3, c4, c5, c6, c7⟩ := Cell8.below hc8 HB.out
        have hm1 : (m : Int) ≤ 1000 := by omega
        have hq1 : (q : Int) ≤ 1000000 := by omega
        clear hS hI hI2 hkn ht hkl hc8 hB1 hB2 htk hq
        go_wp2_with fail
        refine (HI.out _ (NAt.below HKN.out HB.out)).mono ?_
        rintro e9 w9 ⟨rfl, hb9⟩
        have HA9 := Lib.hid (HA.out.below hb9); have HB9 := Lib.hid (HB.out.trans (hb9.mono HB.out.size))
        clear hb9
        go_wp2_with fail
        exact ⟨⟨k + 1, by omega, by go_num, by rw [HS.out]; congr 1; omega, HA9.out, HB9.out⟩, by simp [intOf]; omega⟩
      · have hke : k = ps.length := by omega
        subst hke
        rw [List.take_length]
        have hbd : (placesL ps : Int) ≤ 1000000 := by omega
        have hbd0 : 0 ≤ (placesL ps : Int) := by omega
        have HBD := Lib.hid hbd
        obtain ⟨z, hz⟩ : ∃ z : Int, z = (placesL ps : Int) := ⟨_, rfl⟩
        rw [← hz] at hbd hbd0 ⊢
        have HZ := Lib.hid hz
        clear hz hY
        skip
        go_wp2_with fail
        all_goals (go_returns; exact ⟨by refine congrArg (fun z => Ending.returned (Value.int .i64 z)) ?_; have hz := HZ.out; push_cast; rw [← hz]; omega, HB.out⟩)
theorem places_any (p : Pat) : Wf p → PlacesC p := by
  refine Pat.ind (M := fun p => Wf p → PlacesC p) ?_ ?_ ?_ ?_ p
  · intro f _ w a n c h
    obtain rfl : n = 0 := by
      obtain ⟨a', c', hn⟩ := KAt.slice h
      injection hn with _ hn _
    have := places_node 1 f 0 0 [] (by omega) (by simp) (by simp) w a c h 1 rfl 1 rfl
    rw [show (min (((1 + placesL []) * 1 : Nat) : Int) 1000) = (placesP (.one f) : Int) from by rw [placesL, placesP]; omega] at this
    exact this
  · intro l ih hw w a n c h
    cases hw with | cat _ h1 h2 h3 =>
    obtain rfl : n = l.length := by
      obtain ⟨a', c', hn⟩ := KAt.slice h
      injection hn with _ hn _
      rw [trees_len] at hn; exact hn
    have := places_node 2 emp 0 0 l (by omega) h3 (fun p hp => ih p hp (h1 p hp)) w a c h 0 rfl 1 rfl
    rw [show (min (((0 + placesL l) * 1 : Nat) : Int) 1000) = (placesP (.cat l) : Int) from by rw [placesP]; omega] at this
    exact this
  · intro l ih hw w a n c h
    cases hw with | alt _ h1 h2 h3 =>
    obtain rfl : n = l.length := by
      obtain ⟨a', c', hn⟩ := KAt.slice h
      injection hn with _ hn _
      rw [trees_len] at hn; exact hn
    have := places_node 3 emp 0 0 l (by omega) h3 (fun p hp => ih p hp (h1 p hp)) w a c h 0 rfl 1 rfl
    rw [show (min (((0 + placesL l) * 1 : Nat) : Int) 1000) = (placesP (.alt l) : Int) from by rw [placesP]; omega] at this
    exact this
  · intro mn mx p ih hw w a n c h
    cases hw with | rep _ _ _ h1 h2 h3 h4 =>
    obtain rfl : n = 1 := by
      obtain ⟨a', c', hn⟩ := KAt.slice h
      injection hn with _ hn _
    have := places_node 4 emp (mn : Int) mx [p] (by omega) (by simp) (fun q hq => by simp at hq; subst hq; exact ih h1) w a c h 0 rfl mx rfl
    rw [show (min (((0 + placesL [p]) * mx : Nat) : Int) 1000) = (placesP (.rep mn mx p) : Int) from by rw [placesL, placesL, placesP]; simp only [Nat.zero_add, Nat.add_zero]; omega] at this
    exact this
end Go.Proofs.Ytofgkildlhcpdaa
/- The help's Pattern. -/
set_option linter.unusedVariables false
set_option linter.unusedSimpArgs false
namespace Go.Proofs.Ytofgkildlhcpdaa
open Go.RowKit Bt
/-- what the help's Pattern leaves -/
def PatPost (s : ByteArray) (w : World) (e : Ending) (w' : World) : Prop :=
  Below w.heap.size w w' ∧ ((e = .returned (.tuple #[zeroN, .int .i64 0])) ∨ ∃ (p : Pat) (kv : Value) (q : Nat), Wf p ∧ P s .pat 0 0 (.ok p.tree q) ∧ placesP p ≤ 60 ∧ e = .returned (.tuple #[nodeV p.tree kv, .int .i64 1]) ∧ NAt w' p.tree kv)
theorem KAt.belowD {D : Nat → Prop} {w w' : World} {t : Tree} {kv : Value} (h : KAt D w t kv) (hb : Below w.heap.size w w') : KAt D w' t kv := KAt.keep (fun b hb' => hb.block b hb'.2) (fun b hb' => hb'.1) t kv (KAt.lt t kv h)
theorem KAt.putN {D : Nat → Prop} {w : World} {g : Nat} {t : Tree} {kv : Value} (h : KAt D w t kv) (hD : ∀ b, D b → b ≠ g) (op : Int) (f : Nat → Bool) (mn mx : Int) (v : Value) : KAt D (putN w g op f mn mx v) t kv :=
  KAt.keep (fun b hb => putN_block _ _ _ _ _ _ _ b (hD b hb.1) hb.2) (fun b hb => hb.1) t kv (KAt.lt t kv h)
/-- what Parse leaves, of any text -/
def ParseAll (s : ByteArray) (w : World) (e : Ending) (w' : World) : Prop :=
  Below w.heap.size w w' ∧ ((∃ c y : Int, c ≠ 0 ∧ e = .returned (.tuple #[zeroN, .int .i64 c, .int .i64 y])) ∨ ∃ (p : Pat) (kv : Value) (q : Nat), Wf p ∧ P s .pat 0 0 (.ok p.tree q) ∧ e = .returned (.tuple #[nodeV p.tree kv, .int .i64 0, .int .i64 0]) ∧ KAt (fun b => w.heap.size ≤ b) w' p.tree kv)
theorem parse_all (s : ByteArray) (w : World) : Calls Try.prog 32 #[.string s] w (ParseAll s w) := by
  rcases Nat.lt_or_ge 200 s.size with h | h
  · exact (parse_long s w h).mono (by rintro e w' ⟨rfl, hb⟩; exact ⟨hb, .inl ⟨4, 0, by decide, rfl⟩⟩)
  · refine (parse_any s w h).mono ?_
    rintro e w' ⟨hb, r, hP, hr⟩
    refine ⟨hb, ?_⟩
    cases r with
    | no c y => exact .inl ⟨c, y, by have := (P.in hP (Nat.zero_le _)).1; omega, hr⟩
    | ok t q =>
      obtain ⟨kv, he, hK⟩ := hr
      obtain ⟨p, hp, rfl⟩ := P.good (by omega) hP (Nat.zero_le _) trivial t q rfl
      exact .inr ⟨p, kv, q, hp, hP, he, hK.mono fun b hb => hb.1⟩
theorem tree_kv {w : World} {p : Pat} {kv : Value} (h : NAt w p.tree kv) : ∃ a n c, kv = .slice a n c := by
  rcases hpt : p.tree with ⟨op, f, mn, mx, kids⟩
  rw [hpt] at h
  obtain ⟨a, c, h⟩ := KAt.slice h
  exact ⟨a, _, c, h⟩
set_option maxRecDepth 100000 in
set_option maxHeartbeats 1600000 in
theorem patternH_q (s : ByteArray) (w : World) (Q0 : Ending → World → Prop) (hQ : Hid (∀ e w', PatPost s w e w' → Q0 e w')) : Calls Try.prog 10 #[.string s] w Q0 := by
  have HP := Lib.hid (fun w => parse_all s w)
  have HZ := Lib.hid (AtG.new w 29 nodeZ)
  have HB0 := Lib.hid ((Below.refl w.heap.size w).alloc (Nat.le_refl _) (.cells nodeZ 29))
  go_enter Try.func10, Try.ntmps10
  go_wp2_with fail
  refine (HP.out _).mono ?_
  rintro e9 w1 ⟨hb1, ⟨cc, yy, hcc, rfl⟩ | ⟨p, kv, q, hp, hPr, rfl, hk⟩⟩
  · have HZ1 := Lib.hid (HZ.out.below hb1); have HB1 := Lib.hid (HB0.out.trans (hb1.mono HB0.out.size))
    have n1 : ¬ cc = 0 := hcc
    have e1 : (cc == 0) = false := by rw [beq_eq_false_iff_ne]; exact hcc
    have HN1 := Lib.hid n1; have HE1 := Lib.hid e1
    clear hb1 hcc n1 e1
    unfold zeroN
    go_upto_region 2 with (fail)
    obtain ⟨w2, hw2⟩ : ∃ w2 : World, w2 = w1.alloc (.cells #[.int .i64 0, .int .u64 0, .int .u64 0, .int .u64 0, .int .u64 0, .int .i64 0, .int .i64 0, .slice none 0 0] 29) := ⟨_, rfl⟩
    rw [← hw2]
    have HZ2 : Hid (AtG w2 w.heap.size 29 nodeZ) := Lib.hid (by rw [hw2]; exact HZ1.out.alloc _)
    have HB2 : Hid (Below w.heap.size w w2) := Lib.hid (by rw [hw2]; exact HB1.out.alloc HB1.out.size _)
    have n1 := HN1.out; have e1 := HE1.out
    clear hw2
    have d0 : w2.cell? ⟨w.heap.size, 0, none⟩ = some (.int .i64 0) := (HZ2.out).cell 0 _ rfl
    have d1 : w2.cell? ⟨w.heap.size, 1, none⟩ = some (.int .u64 0) := (HZ2.out).cell 1 _ rfl
    have d2 : w2.cell? ⟨w.heap.size, 2, none⟩ = some (.int .u64 0) := (HZ2.out).cell 2 _ rfl
    have d3 : w2.cell? ⟨w.heap.size, 3, none⟩ = some (.int .u64 0) := (HZ2.out).cell 3 _ rfl
    have d4 : w2.cell? ⟨w.heap.size, 4, none⟩ = some (.int .u64 0) := (HZ2.out).cell 4 _ rfl
    have d5 : w2.cell? ⟨w.heap.size, 5, none⟩ = some (.int .i64 0) := (HZ2.out).cell 5 _ rfl
    have d6 : w2.cell? ⟨w.heap.size, 6, none⟩ = some (.int .i64 0) := (HZ2.out).cell 6 _ rfl
    have d7 : w2.cell? ⟨w.heap.size, 7, none⟩ = some (.slice none 0 0) := (HZ2.out).cell 7 _ rfl
    have f0 := (HZ2.out).frozen 0; have f1 := (HZ2.out).frozen 1; have f2 := (HZ2.out).frozen 2; have f3 := (HZ2.out).frozen 3
    have f4 := (HZ2.out).frozen 4; have f5 := (HZ2.out).frozen 5; have f6 := (HZ2.out).frozen 6; have f7 := (HZ2.out).frozen 7
    go_wp2_with fail
    refine bodyPost_ret (v := .tuple #[zeroN, .int .i64 0]) (by unfold zeroN; simp [results, Try.results10, go_sem, d0, d1, d2, d3, d4, d5, d6, d7]; try rfl) rfl ?_
    refine hQ.out _ _ ⟨?_, .inl rfl⟩
    exact (show Below w.heap.size w (putZ w2 w.heap.size) from by rw [putZ_eq]; exact putN_below HB2.out (Nat.le_refl _) _ _ _ _ _)
  · obtain ⟨ka, kn, kc, rfl⟩ := tree_kv (NAt.of hk)
    have HPL := Lib.hid (fun w h => places_any p hp w ka kn kc h)
    rcases hpt : p.tree with ⟨op, f, mn, mx, kids⟩
    rw [hpt] at HPL hk
    have hpl := placesP_le p
    have HZ1 := Lib.hid (HZ.out.below hb1); have HB1 := Lib.hid (HB0.out.trans (hb1.mono HB0.out.size)); have HK := Lib.hid hk
    have HW := Lib.hid hp; have HPR := Lib.hid hPr; have HPT := Lib.hid hpt
    have HPLI : Hid ((placesP p : Int) ≤ 1000) := Lib.hid (by omega)
    clear hb1 hp hPr hk hpl
    unfold nodeV at HPL ⊢
    dsimp only at HPL ⊢
    go_upto_region 2 with (fail)
    obtain ⟨w2, hw2⟩ : ∃ w2 : World, w2 = w1.alloc (.cells (nodeC op f mn mx (.slice ka kn kc)) 29) := ⟨_, rfl⟩
    have hw2' : w1.alloc (.cells #[.int .i64 op, .int .u64 ((wd f 0 : Nat) : Int), .int .u64 ((wd f 1 : Nat) : Int), .int .u64 ((wd f 2 : Nat) : Int), .int .u64 ((wd f 3 : Nat) : Int), .int .i64 mn, .int .i64 mx, .slice ka kn kc] 29) = w2 := hw2.symm
    rw [hw2']
    have HZ2 : Hid (AtG w2 w.heap.size 29 nodeZ) := Lib.hid (by rw [hw2]; exact HZ1.out.alloc _)
    have HB2 : Hid (Below w.heap.size w w2) := Lib.hid (by rw [hw2]; exact HB1.out.alloc HB1.out.size _)
    have HC2 : Hid (AtG w2 w1.heap.size 29 (nodeC op f mn mx (.slice ka kn kc))) := Lib.hid (by rw [hw2]; exact AtG.new _ _ _)
    have HK2 : Hid (KAt (fun b => (w.alloc (.cells nodeZ 29)).heap.size ≤ b) w2 (.node op f mn mx kids) (.slice ka kn kc)) := Lib.hid (by rw [hw2]; exact HK.out.belowD ((Below.refl _ _).alloc (Nat.le_refl _) _))
    have HNE : Hid (w1.heap.size ≠ w.heap.size ∧ w.heap.size ≠ w1.heap.size) := Lib.hid (by have := HZ1.out.lt; omega)
    clear hw2 hw2' hpt
    have k0 : w2.cell? ⟨w1.heap.size, 0, none⟩ = some (.int .i64 op) := HC2.out.cell 0 _ rfl
    have k1 : w2.cell? ⟨w1.heap.size, 1, none⟩ = some (.int .u64 ((wd f 0 : Nat) : Int)) := HC2.out.cell 1 _ rfl
    have k2 : w2.cell? ⟨w1.heap.size, 2, none⟩ = some (.int .u64 ((wd f 1 : Nat) : Int)) := HC2.out.cell 2 _ rfl
    have k3 : w2.cell? ⟨w1.heap.size, 3, none⟩ = some (.int .u64 ((wd f 2 : Nat) : Int)) := HC2.out.cell 3 _ rfl
    have k4 : w2.cell? ⟨w1.heap.size, 4, none⟩ = some (.int .u64 ((wd f 3 : Nat) : Int)) := HC2.out.cell 4 _ rfl
    have k5 : w2.cell? ⟨w1.heap.size, 5, none⟩ = some (.int .i64 mn) := HC2.out.cell 5 _ rfl
    have k6 : w2.cell? ⟨w1.heap.size, 6, none⟩ = some (.int .i64 mx) := HC2.out.cell 6 _ rfl
    have k7 : w2.cell? ⟨w1.heap.size, 7, none⟩ = some (.slice ka kn kc) := HC2.out.cell 7 _ rfl
    obtain ⟨pc, hpc⟩ : ∃ pc : Int, pc = (placesP p : Int) := ⟨_, rfl⟩
    rw [← hpc] at HPL HPLI
    have HPC := Lib.hid hpc
    clear hpc
    go_wp2_with fail
    refine (HPL.out _ (NAt.of HK2.out)).mono ?_
    rintro e9 w3 ⟨rfl, hb3⟩
    have HZ3 := Lib.hid (HZ2.out.below hb3); have HB3 := Lib.hid (HB2.out.trans (hb3.mono HB2.out.size)); have HC3 := Lib.hid (HC2.out.below hb3); have HK3 := Lib.hid (HK2.out.belowD hb3)
    clear hb3 k0 k1 k2 k3 k4 k5 k6 k7
    have hn1 := HNE.out.1; have hn2 := HNE.out.2
    have k0 : w3.cell? ⟨w1.heap.size, 0, none⟩ = some (.int .i64 op) := HC3.out.cell 0 _ rfl
    have k1 : w3.cell? ⟨w1.heap.size, 1, none⟩ = some (.int .u64 ((wd f 0 : Nat) : Int)) := HC3.out.cell 1 _ rfl
    have k2 : w3.cell? ⟨w1.heap.size, 2, none⟩ = some (.int .u64 ((wd f 1 : Nat) : Int)) := HC3.out.cell 2 _ rfl
    have k3 : w3.cell? ⟨w1.heap.size, 3, none⟩ = some (.int .u64 ((wd f 2 : Nat) : Int)) := HC3.out.cell 3 _ rfl
    have k4 : w3.cell? ⟨w1.heap.size, 4, none⟩ = some (.int .u64 ((wd f 3 : Nat) : Int)) := HC3.out.cell 4 _ rfl
    have k5 : w3.cell? ⟨w1.heap.size, 5, none⟩ = some (.int .i64 mn) := HC3.out.cell 5 _ rfl
    have k6 : w3.cell? ⟨w1.heap.size, 6, none⟩ = some (.int .i64 mx) := HC3.out.cell 6 _ rfl
    have k7 : w3.cell? ⟨w1.heap.size, 7, none⟩ = some (.slice ka kn kc) := HC3.out.cell 7 _ rfl
    have d0 : w3.cell? ⟨w.heap.size, 0, none⟩ = some (.int .i64 0) := (HZ3.out).cell 0 _ rfl
    have d1 : w3.cell? ⟨w.heap.size, 1, none⟩ = some (.int .u64 0) := (HZ3.out).cell 1 _ rfl
    have d2 : w3.cell? ⟨w.heap.size, 2, none⟩ = some (.int .u64 0) := (HZ3.out).cell 2 _ rfl
    have d3 : w3.cell? ⟨w.heap.size, 3, none⟩ = some (.int .u64 0) := (HZ3.out).cell 3 _ rfl
    have d4 : w3.cell? ⟨w.heap.size, 4, none⟩ = some (.int .u64 0) := (HZ3.out).cell 4 _ rfl
    have d5 : w3.cell? ⟨w.heap.size, 5, none⟩ = some (.int .i64 0) := (HZ3.out).cell 5 _ rfl
    have d6 : w3.cell? ⟨w.heap.size, 6, none⟩ = some (.int .i64 0) := (HZ3.out).cell 6 _ rfl
    have d7 : w3.cell? ⟨w.heap.size, 7, none⟩ = some (.slice none 0 0) := (HZ3.out).cell 7 _ rfl
    have f0 := (HZ3.out).frozen 0; have f1 := (HZ3.out).frozen 1; have f2 := (HZ3.out).frozen 2; have f3 := (HZ3.out).frozen 3
    have f4 := (HZ3.out).frozen 4; have f5 := (HZ3.out).frozen 5; have f6 := (HZ3.out).frozen 6; have f7 := (HZ3.out).frozen 7
    by_cases h60 : 60 < pc
    · go_wp2_with fail
      refine bodyPost_ret (v := .tuple #[zeroN, .int .i64 0]) (by unfold zeroN; simp [results, Try.results10, go_sem, d0, d1, d2, d3, d4, d5, d6, d7]; try rfl) rfl ?_
      refine hQ.out _ _ ⟨?_, .inl rfl⟩
      exact (show Below w.heap.size w (putZ w3 w.heap.size) from by rw [putZ_eq]; exact putN_below HB3.out (Nat.le_refl _) _ _ _ _ _)
    · go_wp2_with fail
      refine bodyPost_ret (v := .tuple #[nodeV (.node op f mn mx kids) (.slice ka kn kc), .int .i64 1]) (by unfold nodeV; simp [results, Try.results10, go_sem, d0, d1, d2, d3, d4, d5, d6, d7, hn1, hn2]; try rfl) rfl ?_
      have hB : Below w.heap.size w (putN w3 w.heap.size op f mn mx (.slice ka kn kc)) := putN_below HB3.out (Nat.le_refl _) _ _ _ _ _
      refine hQ.out _ _ ⟨hB, .inr ⟨p, .slice ka kn kc, q, HW.out, HPR.out, ?_, ?_, ?_⟩⟩
      · have := HPC.out; omega
      · rw [HPT.out]
      · rw [HPT.out]
        show NAt (putN w3 w.heap.size op f mn mx (.slice ka kn kc)) _ _
        exact NAt.of (HK3.out.putN (fun b hb => by simp at hb; omega) op f mn mx (.slice ka kn kc))
theorem patternH_any (s : ByteArray) (w : World) : Calls Try.prog 10 #[.string s] w (PatPost s w) := patternH_q s w _ (Lib.hid fun _ _ h => h)
end Go.Proofs.Ytofgkildlhcpdaa
/- A row that make makes: all cells zero. -/
set_option linter.unusedVariables false
namespace Go.Proofs.Ytofgkildlhcpdaa
open Go.RowKit
theorem madeCells_one (z : Value) (n : Nat) : madeCells #[z] n = Array.replicate n z := by
  refine Array.ext (by simp [madeCells]) fun i h1 h2 => ?_
  simp [madeCells, Nat.mod_one]
/-- 'make([]T, n)', T of one cell -/
theorem make_one {P : Program} (t e : TypeId) (z : Value) (bytes : Nat) (ht : P.underlying t = some (.slice e)) (hinfo : (P.info? e).map (fun i => (i.zero, i.size, i.bytes)) = some (some z, 1, bytes)) (hz1 : z.cells = #[z])
    (kl kc : IntKind) (n : Nat) (hb : bytes * n ≤ 281474976710656) (h63 : n ≤ 9223372036854775807) (w : World) :
    (Instr.makeSlice t (.int kl (n : Int)) (.int kc (n : Int))).run P w = .ok (.slice (some ⟨w.heap.size, 0, none⟩) n n) (w.alloc (.cells (Array.replicate n z) e)) := by
  obtain ⟨i, hi, hz, hs, hby⟩ := info_parts hinfo
  have hbb : (i.bytes : Int) * (n : Int) ≤ 281474976710656 := by
    have h : ((bytes * n : Nat) : Int) ≤ 281474976710656 := by omega
    rw [hby]; rwa [Int.natCast_mul] at h
  have h := run_make (P := P) w t e i z ht hi hz kl kc n n (by omega) (Int.le_refl _) hbb (by omega)
  rw [Int.toNat_natCast, hs, Nat.mul_one, hz1, madeCells_one] at h
  exact h
/-- 'make([]T, 0, c)' and 'make([]T, n, c)' -/
theorem make_cap {P : Program} (t e : TypeId) (z : Value) (bytes : Nat) (ht : P.underlying t = some (.slice e)) (hinfo : (P.info? e).map (fun i => (i.zero, i.size, i.bytes)) = some (some z, 1, bytes)) (hz1 : z.cells = #[z])
    (kl kc : IntKind) (n c : Nat) (hn : n ≤ c) (hb : bytes * c ≤ 281474976710656) (h63 : c ≤ 9223372036854775807) (w : World) :
    (Instr.makeSlice t (.int kl (n : Int)) (.int kc (c : Int))).run P w = .ok (.slice (some ⟨w.heap.size, 0, none⟩) n c) (w.alloc (.cells (Array.replicate c z) e)) := by
  obtain ⟨i, hi, hz, hs, hby⟩ := info_parts hinfo
  have hbb : (i.bytes : Int) * (c : Int) ≤ 281474976710656 := by
    have h : ((bytes * c : Nat) : Int) ≤ 281474976710656 := by omega
    rw [hby]; rwa [Int.natCast_mul] at h
  have h := run_make (P := P) w t e i z ht hi hz kl kc n c (by omega) (by omega) hbb (by omega)
  rw [Int.toNat_natCast, Int.toNat_natCast, hs, Nat.mul_one, hz1, madeCells_one] at h
  exact h
end Go.Proofs.Ytofgkildlhcpdaa
/- Rows of bools: as functions; Contains and Equal of them. -/
set_option linter.unusedVariables false
set_option linter.unusedSimpArgs false
namespace Go.Proofs.Ytofgkildlhcpdaa
open Go.RowKit Bt
/-- n bools -/
def barr (f : Nat → Bool) (n : Nat) : Array Value := (Array.range n).map fun i => .bool (f i)
theorem barr_size (f : Nat → Bool) (n : Nat) : (barr f n).size = n := by unfold barr; simp
theorem barr_get (f : Nat → Bool) (n i : Nat) (h : i < n) : (barr f n)[i]? = some (.bool (f i)) := by unfold barr; simp [h]
def updB (f : Nat → Bool) (i : Nat) (v : Bool) : Nat → Bool := fun j => if j = i then v else f j
theorem barr_set (f : Nat → Bool) (n i : Nat) (v : Bool) : (barr f n).setIfInBounds i (.bool v) = barr (updB f i v) n := by
  refine Array.ext (by simp [barr_size]) fun j h1 h2 => ?_
  have hj : j < n := by rw [barr_size] at h2; exact h2
  have e2 := barr_get (updB f i v) n j hj
  rw [Array.getElem?_eq_getElem h2] at e2
  have e1 := barr_get f n j hj
  rw [Array.getElem_setIfInBounds (by rw [barr_size]; exact hj)]
  rw [Array.getElem?_eq_getElem (by rw [barr_size]; exact hj)] at e1
  injection e1 with e1; injection e2 with e2
  rw [e2]
  unfold updB
  by_cases h : i = j
  · subst h; simp
  · rw [if_neg h, if_neg (fun e => h e.symm)]; exact e1
theorem barr_ext {f g : Nat → Bool} {n : Nat} (h : ∀ i, i < n → f i = g i) : barr f n = barr g n := by
  unfold barr
  refine Array.ext (by simp) fun j h1 h2 => ?_
  simp at h1
  simp [h j h1]
theorem barr_zero (n : Nat) : Array.replicate n (Value.bool false) = barr (fun _ => false) n := by
  refine Array.ext (by simp [barr_size]) fun j h1 h2 => ?_
  have hj : j < n := by rw [barr_size] at h2; exact h2
  have e2 := barr_get (fun _ => false) n j hj
  rw [Array.getElem?_eq_getElem h2] at e2
  injection e2 with e2
  rw [e2]; simp
/-- a row of n bools -/
def BRow (w : World) (v : Value) (n : Nat) (f : Nat → Bool) : Prop := ∃ b, v = .slice (some ⟨b, 0, none⟩) n n ∧ AtG w b 4 (barr f n)
theorem BRow.below {w w' : World} {v : Value} {n : Nat} {f : Nat → Bool} (h : BRow w v n f) (hb : Below w.heap.size w w') : BRow w' v n f := by
  obtain ⟨b, h1, h2⟩ := h; exact ⟨b, h1, h2.below hb⟩
theorem AtG.bool {w : World} {b n : Nat} {f : Nat → Bool} (h : AtG w b 4 (barr f n)) (i : Nat) (hi : i < n) : w.cell? ⟨b, i, none⟩ = some (.bool (f i)) := h.cell i _ (barr_get f n i hi)
theorem AtG.setB {w : World} {b n : Nat} {f : Nat → Bool} (h : AtG w b 4 (barr f n)) (i : Nat) (v : Bool) : AtG (w.setCell ⟨b, i, none⟩ (.bool v)) b 4 (barr (updB f i v) n) := by
  have := h.set i (.bool v)
  rw [← barr_set]; exact this
set_option maxRecDepth 100000 in
theorem indexB_any (b n : Nat) (f : Nat → Bool) (t : Bool) (w : World) (hn : n ≤ 1000000) (h : AtG w b 4 (barr f n)) :
    Calls Try.prog 64 #[.slice (some ⟨b, 0, none⟩) n n, .bool t] w fun e w' => w' = w ∧ ∃ r : Int, e = .returned (.int .i64 r) ∧ (0 ≤ r ↔ ∃ i, i < n ∧ f i = t) := by
  have H := Lib.hid h
  have hnI : (n : Int) ≤ 1000000 := by omega
  clear h
  go_enter Try.func64, Try.ntmps64
  go_wp2_with fail
  go_loopw [8] (fun i wr => ∃ k : Nat, k ≤ n ∧ i = .int .i64 k ∧ wr = w ∧ ∀ j, j < k → f j ≠ t) (fun i _ => n - (intOf i).toNat)
  case atStart => exact ⟨0, Nat.zero_le _, rfl, by first | rfl | trivial, fun j h => absurd h (Nat.not_lt_zero _)⟩
  case round =>
    obtain ⟨k, hk, rfl, hw, hno⟩ := hrel
    subst hw
    have HNO := Lib.hid hno; clear hno
    by_cases hlt : k < n
    · have hc := H.out.bool k hlt
      by_cases hq : f k = t
      · have e1 : (t == f k) = true := by rw [hq]; simp
        have HQ := Lib.hid hq; clear hq
        go_wp2_with fail
        go_returns
        exact ⟨rfl, k, rfl, ⟨fun _ => ⟨k, hlt, HQ.out⟩, fun _ => by omega⟩⟩
      · have e1 : (t == f k) = false := by rw [beq_eq_false_iff_ne]; exact fun e => hq e.symm
        have HQ := Lib.hid hq; clear hq
        go_wp2_with fail
        exact ⟨⟨k + 1, by omega, by go_num, by first | rfl | trivial, fun j hj => by
          rcases Nat.lt_succ_iff_lt_or_eq.1 hj with h1 | rfl
          · exact HNO.out j h1
          · exact HQ.out⟩, by simp [intOf]; omega⟩
    · go_wp2_with fail
      go_returns
      exact ⟨rfl, -1, rfl, ⟨(fun h => by omega), fun ⟨i, hi, hf⟩ => absurd hf (HNO.out i (by omega))⟩⟩
set_option maxRecDepth 100000 in
theorem containsB_any (b n : Nat) (f : Nat → Bool) (t : Bool) (w : World) (hn : n ≤ 1000000) (h : AtG w b 4 (barr f n)) :
    Calls Try.prog 50 #[.slice (some ⟨b, 0, none⟩) n n, .bool t] w fun e w' => w' = w ∧ ∃ r : Bool, e = .returned (.bool r) ∧ (r = true ↔ ∃ i, i < n ∧ f i = t) := by
  have HI := Lib.hid (indexB_any b n f t w hn h)
  clear h
  go_enter Try.func50, Try.ntmps50
  go_wp2_with fail
  refine (HI.out).mono ?_
  rintro e9 w9 ⟨rfl, r, rfl, hr⟩
  have HR := Lib.hid hr; clear hr
  go_wp2_with fail
  go_returns
  exact ⟨rfl, decide (0 ≤ r), rfl, by rw [decide_eq_true_iff]; exact HR.out⟩
set_option maxRecDepth 100000 in
theorem equalB_any (b b' n : Nat) (f g : Nat → Bool) (w : World) (hn : n ≤ 1000000) (h : AtG w b 4 (barr f n)) (h' : AtG w b' 4 (barr g n)) :
    Calls Try.prog 51 #[.slice (some ⟨b, 0, none⟩) n n, .slice (some ⟨b', 0, none⟩) n n] w fun e w' => Below w.heap.size w w' ∧ ∃ r : Bool, e = .returned (.bool r) ∧ (r = true ↔ ∀ i, i < n → f i = g i) := by
  have H := Lib.hid h; have H' := Lib.hid h'
  have hnI : (n : Int) ≤ 1000000 := by omega
  clear h h'
  go_enter Try.func51, Try.ntmps51
  go_wp2_with fail
  go_loopw [13] (fun i wr => ∃ k : Nat, k ≤ n ∧ i = .int .i64 k ∧ Below w.heap.size w wr ∧ ∀ j, j < k → f j = g j) (fun i _ => n - (intOf i).toNat)
  case atStart => exact ⟨0, Nat.zero_le _, rfl, Below.refl _ _, fun j h => absurd h (Nat.not_lt_zero _)⟩
  case round =>
    obtain ⟨k, hk, rfl, hb, hno⟩ := hrel
    have HNO := Lib.hid hno; have HB := Lib.hid hb; clear hno hb
    by_cases hlt : k < n
    · have HLT := Lib.hid hlt
      go_upto_region 6 with (fail)
      obtain ⟨wz, rfl⟩ : ∃ wz : World, wz = wr := ⟨_, rfl⟩
      refine Rg.wp_region_each (by kernel_rfl) (fun w' => Below w.heap.size w w') (fun w1 w2 h hb => h.trans (hb.mono h.size)) (by kernel_rfl) (by kernel_rfl) (HB.out) ?_
      show Rg.Build _ _ _ _ _ 0 [_, _, _, _, _, _, _, _, _] []
      refine Rg.build_cons (m := 1) (r := Rg.eq _) (Rg.one_plain (by rfl) (by (intro ax wx hk Kx hK; have k0 := hk.base 0 _ rfl rfl; have hj := hk.j; clear hk; have c1 := ((H.out.below hj)).bool k HLT.out; have c2 := ((H'.out.below hj)).bool k HLT.out; go_simp; refine hK _ _ ?_ (Below.refl _ _); apply Rg.mk))) ?_ rfl
      refine Rg.build_cons (m := 2) (r := Rg.eq _) (Rg.one_plain (by rfl) (by (intro ax wx hk Kx hK; have k5 := hk.base 5 _ rfl rfl; have hj := hk.j; clear hk; have c1 := ((H.out.below hj)).bool k HLT.out; have c2 := ((H'.out.below hj)).bool k HLT.out; go_simp; refine hK _ _ ?_ (Below.refl _ _); apply Rg.mk))) ?_ rfl
      refine Rg.build_cons (m := 3) (r := Rg.eq _) (Rg.one_plain (by rfl) (by (intro ax wx hk Kx hK; obtain ⟨v16, k16, h16⟩ := hk.dep 0 16 _ rfl rfl rfl; (first | (cases (h16 : v16 = _)) | (obtain ⟨rfl, h16⟩ := h16) | skip); obtain ⟨v17, k17, h17⟩ := hk.dep 1 17 _ rfl rfl rfl; (first | (cases (h17 : v17 = _)) | (obtain ⟨rfl, h17⟩ := h17) | skip); have hj := hk.j; clear hk; have c1 := ((H.out.below hj)).bool k HLT.out; have c2 := ((H'.out.below hj)).bool k HLT.out; go_simp; refine hK _ _ ?_ (Below.refl _ _); apply Rg.mk))) ?_ rfl
      refine Rg.build_cons (m := 4) (r := Rg.eq _) (Rg.one_plain (by rfl) (by (intro ax wx hk Kx hK; obtain ⟨v18, k18, h18⟩ := hk.dep 2 18 _ rfl rfl rfl; (first | (cases (h18 : v18 = _)) | (obtain ⟨rfl, h18⟩ := h18) | skip); have hj := hk.j; clear hk; have c1 := ((H.out.below hj)).bool k HLT.out; have c2 := ((H'.out.below hj)).bool k HLT.out; go_simp; refine hK _ _ ?_ (Below.refl _ _); apply Rg.mk))) ?_ rfl
      refine Rg.build_cons (m := 5) (r := Rg.eq _) (Rg.one_plain (by rfl) (by (intro ax wx hk Kx hK; have k1 := hk.base 1 _ rfl rfl; have hj := hk.j; clear hk; have c1 := ((H.out.below hj)).bool k HLT.out; have c2 := ((H'.out.below hj)).bool k HLT.out; go_simp; refine hK _ _ ?_ (Below.refl _ _); apply Rg.mk))) ?_ rfl
      refine Rg.build_cons (m := 6) (r := Rg.eq _) (Rg.one_plain (by rfl) (by (intro ax wx hk Kx hK; have k5 := hk.base 5 _ rfl rfl; have hj := hk.j; clear hk; have c1 := ((H.out.below hj)).bool k HLT.out; have c2 := ((H'.out.below hj)).bool k HLT.out; go_simp; refine hK _ _ ?_ (Below.refl _ _); apply Rg.mk))) ?_ rfl
      refine Rg.build_cons (m := 7) (r := Rg.eq _) (Rg.one_plain (by rfl) (by (intro ax wx hk Kx hK; obtain ⟨v20, k20, h20⟩ := hk.dep 4 20 _ rfl rfl rfl; (first | (cases (h20 : v20 = _)) | (obtain ⟨rfl, h20⟩ := h20) | skip); obtain ⟨v21, k21, h21⟩ := hk.dep 5 21 _ rfl rfl rfl; (first | (cases (h21 : v21 = _)) | (obtain ⟨rfl, h21⟩ := h21) | skip); have hj := hk.j; clear hk; have c1 := ((H.out.below hj)).bool k HLT.out; have c2 := ((H'.out.below hj)).bool k HLT.out; go_simp; refine hK _ _ ?_ (Below.refl _ _); apply Rg.mk))) ?_ rfl
      refine Rg.build_cons (m := 8) (r := Rg.eq _) (Rg.one_plain (by rfl) (by (intro ax wx hk Kx hK; obtain ⟨v22, k22, h22⟩ := hk.dep 6 22 _ rfl rfl rfl; (first | (cases (h22 : v22 = _)) | (obtain ⟨rfl, h22⟩ := h22) | skip); have hj := hk.j; clear hk; have c1 := ((H.out.below hj)).bool k HLT.out; have c2 := ((H'.out.below hj)).bool k HLT.out; go_simp; refine hK _ _ ?_ (Below.refl _ _); apply Rg.mk))) ?_ rfl
      refine Rg.build_cons (m := 9) (r := Rg.eq _) (Rg.one_plain (by rfl) (by (intro ax wx hk Kx hK; obtain ⟨v19, k19, h19⟩ := hk.dep 3 19 _ rfl rfl rfl; (first | (cases (h19 : v19 = _)) | (obtain ⟨rfl, h19⟩ := h19) | skip); obtain ⟨v23, k23, h23⟩ := hk.dep 7 23 _ rfl rfl rfl; (first | (cases (h23 : v23 = _)) | (obtain ⟨rfl, h23⟩ := h23) | skip); have hj := hk.j; clear hk; have c1 := ((H.out.below hj)).bool k HLT.out; have c2 := ((H'.out.below hj)).bool k HLT.out; go_simp; refine hK _ _ ?_ (Below.refl _ _); apply Rg.mk))) ?_ rfl
      refine Rg.build_end fun wx hj => ?_
      refine Rg.fin_eq rfl ?_
      refine Rg.fin_eq rfl ?_
      refine Rg.fin_eq rfl ?_
      refine Rg.fin_eq rfl ?_
      refine Rg.fin_eq rfl ?_
      refine Rg.fin_eq rfl ?_
      refine Rg.fin_eq rfl ?_
      refine Rg.fin_eq rfl ?_
      refine Rg.fin_eq rfl ?_
      refine Rg.fin_nil ?_
      simp only [List.set_cons_zero, List.set_cons_succ]
      have HJ := Lib.hid hj; clear hj
      go_wp2_with fail
      · rename_i hx
        go_returns
        exact ⟨HJ.out, false, rfl, ⟨(fun h => by cases h), fun h => by rw [h k HLT.out] at hx; simp at hx⟩⟩
      · rename_i hx
        have hq : f k = g k := by simpa using hx
        exact ⟨⟨k + 1, by omega, by go_num, HJ.out, fun j hj => by
          rcases Nat.lt_succ_iff_lt_or_eq.1 hj with h1 | rfl
          · exact HNO.out j h1
          · exact hq⟩, by simp [intOf]; omega⟩
    · go_wp2_with fail
      go_returns
      exact ⟨HB.out, true, rfl, ⟨fun _ j hj => HNO.out j (by omega), fun _ => rfl⟩⟩
end Go.Proofs.Ytofgkildlhcpdaa
/- The walk of lang.ends: a byte of a set; the laws of the others. -/
set_option linter.unusedVariables false
set_option linter.unusedSimpArgs false
namespace Go.Proofs.Ytofgkildlhcpdaa
open Go.RowKit Bt
/-- the places of a set up to n -/
def InS (n : Nat) (S : Nat → Bool) : Nat → Prop := fun j => j ≤ n ∧ S j = true
def byt (xs : List Int) : Nat → Nat := fun i => (xs.getD i 0).toNat
theorem it_le {R : Nat → Nat → Prop} {n : Nat} (h : ∀ j i, j ≤ n → R j i → i ≤ n) (t : Nat) : ∀ j i, j ≤ n → It R t j i → i ≤ n := by
  induction t with
  | zero => intro j i hj h; rw [It] at h; omega
  | succ t ih => intro j i hj h1; rw [It] at h1; obtain ⟨k, h2, h3⟩ := h1; exact h k i (ih j k hj h2) h3
theorem mt_le (b : Nat → Nat) (n : Nat) (p : Pat) : ∀ j i, j ≤ n → Mt b n p j i → i ≤ n := by
  refine Pat.ind (M := fun p => ∀ j i, j ≤ n → Mt b n p j i → i ≤ n) ?_ ?_ ?_ ?_ p
  · intro f j i hj h; rw [Mt] at h; omega
  · intro l ih j i hj h
    rw [Mt] at h
    induction l generalizing j with
    | nil => rw [MtC] at h; omega
    | cons p l ih2 =>
      rw [MtC] at h
      obtain ⟨k, h1, h2⟩ := h
      exact ih2 (fun q hq => ih q (List.mem_cons_of_mem _ hq)) k (ih p (List.mem_cons_self ..) j k hj h1) h2
  · intro l ih j i hj h
    rw [Mt] at h
    induction l with
    | nil => rw [MtA] at h; exact h.elim
    | cons p l ih2 =>
      rw [MtA] at h
      rcases h with h | h
      · exact ih p (List.mem_cons_self ..) j i hj h
      · exact ih2 (fun q hq => ih q (List.mem_cons_of_mem _ hq)) h
  · intro mn mx p ih j i hj h
    rw [Mt] at h
    obtain ⟨t, _, _, h⟩ := h
    exact it_le (fun j i hj h => ih j i hj h) t j i hj h
theorem mtC_snoc (b : Nat → Nat) (n : Nat) (l : List Pat) (k : Nat) (hk : k < l.length) (S : Nat → Prop) (i : Nat) : img (MtC b n (l.take (k + 1))) S i ↔ img (Mt b n l[k]) (img (MtC b n (l.take k)) S) i := by
  have key : ∀ (a : List Pat) (p : Pat) (S : Nat → Prop) (i : Nat), img (MtC b n (a ++ [p])) S i ↔ img (Mt b n p) (img (MtC b n a) S) i := by
    intro a p
    induction a with
    | nil =>
      intro S i
      rw [List.nil_append, mt_cat_cons]
      exact (mt_cat_nil b n _ i).trans (img_congr (fun j => (mt_cat_nil b n S j).symm) i)
    | cons q a ih =>
      intro S i
      rw [List.cons_append, mt_cat_cons, ih]
      exact img_congr (fun j => (mt_cat_cons b n q a S j).symm) i
  rw [List.take_succ_eq_append_getElem hk]
  exact key _ _ _ _
theorem mtA_snoc (b : Nat → Nat) (n : Nat) (l : List Pat) (k : Nat) (hk : k < l.length) (S : Nat → Prop) (i : Nat) : img (MtA b n (l.take (k + 1))) S i ↔ img (MtA b n (l.take k)) S i ∨ img (Mt b n l[k]) S i := by
  have key : ∀ (a : List Pat) (p : Pat), img (MtA b n (a ++ [p])) S i ↔ img (MtA b n a) S i ∨ img (Mt b n p) S i := by
    intro a p
    induction a with
    | nil =>
      rw [List.nil_append, mt_alt_cons]
      have hn : ¬ img (MtA b n []) S i := fun ⟨j, _, h⟩ => by rw [MtA] at h; exact h
      exact ⟨fun h => h.elim .inr (fun h => absurd h hn), fun h => h.elim (fun h => absurd h hn) .inl⟩
    | cons q a ih =>
      rw [List.cons_append, mt_alt_cons, ih, mt_alt_cons, or_assoc]
  rw [List.take_succ_eq_append_getElem hk]
  exact key _ _
/-- what ends does with a pattern -/
def EndsC (p : Pat) : Prop := ∀ (w : World) (a : Option Addr) (m c : Nat) (wv : Value) (xs : List Int) (bf : Nat) (S : Nat → Bool), NAt w p.tree (.slice a m c) → RdB w wv xs → xs.length ≤ 1000 → AtG w bf 4 (barr S (xs.length + 1)) →
  Calls Try.prog 39 #[nodeV p.tree (.slice a m c), wv, .slice (some ⟨bf, 0, none⟩) (xs.length + 1) (xs.length + 1)] w fun e w' => Below w.heap.size w w' ∧ ∃ b g, e = .returned (.slice (some ⟨b, 0, none⟩) (xs.length + 1) (xs.length + 1)) ∧ AtG w' b 4 (barr g (xs.length + 1)) ∧ (b = bf ∨ w.heap.size ≤ b) ∧ ∀ i, i ≤ xs.length → (g i = true ↔ img (Mt (byt xs) xs.length p) (InS xs.length S) i)
theorem rdB_slice {w : World} {v : Value} {xs : List Int} (h : RdB w v xs) : ∃ A c, v = .slice A xs.length c := by
  rcases h with ⟨rfl, a, c, rfl⟩ | ⟨b, off, cap, rfl, _⟩
  · exact ⟨a, c, rfl⟩
  · exact ⟨_, cap, rfl⟩
theorem rdB_at {w : World} {A : Option Addr} {n c : Nat} {xs : List Int} (h : RdB w (.slice A n c) xs) (j : Nat) (hj : j < xs.length) : ∃ b off, A = some ⟨b, off, none⟩ ∧ xs.length ≤ c ∧ w.cell? ⟨b, off + j, none⟩ = some (.int .u8 (xs.getD j 0)) ∧ 0 ≤ xs.getD j 0 ∧ xs.getD j 0 ≤ 255 := by
  rcases h with ⟨rfl, _⟩ | ⟨b, off, cap, h1, h2, h3, h4, h5⟩
  · simp at hj
  · injection h1 with e1 e2 e3
    subst e1; subst e3
    exact ⟨b, off, rfl, h2, h4 j hj, h5 j⟩
theorem infoBool : (Try.prog.info? 4).map (fun i => (i.zero, i.size, i.bytes)) = some (some (.bool false), 1, 1) := by kernel_rfl
set_option maxRecDepth 100000 in
set_option maxHeartbeats 1600000 in
theorem ends_one (f : Nat → Bool) : EndsC (.one f) := by
  intro w a m c wv xs bf S hn hx hl hfa
  obtain ⟨A, wc, rfl⟩ := rdB_slice hx
  have HX := Lib.hid hx; have HF := Lib.hid hfa
  have hnI : (xs.length : Int) ≤ 1000 := by omega
  have hmk := make_one (P := Try.prog) 40 4 (.bool false) 1 Try.underlying40 infoBool rfl .i64 .i64 (xs.length + 1) (by omega) (by omega)
  rw [show ((xs.length + 1 : Nat) : Int) = (xs.length : Int) + 1 from by omega, barr_zero] at hmk
  obtain ⟨w0, hw0⟩ : ∃ w0 : World, w0 = (w.alloc (.cells (nodeC 1 f 0 0 (.slice a m c)) 29)).alloc (.cells (barr (fun _ => false) (xs.length + 1)) 4) := ⟨_, rfl⟩
  have HA : Hid (AtG w0 w.heap.size 29 (nodeC 1 f 0 0 (.slice a m c))) := Lib.hid (by rw [hw0]; exact (AtG.new _ _ _).alloc _)
  have HO : Hid (AtG w0 (w.heap.size + 1) 4 (barr (fun _ => false) (xs.length + 1))) := Lib.hid (by
    rw [hw0]
    have := AtG.new (w.alloc (.cells (nodeC 1 f 0 0 (.slice a m c)) 29)) 4 (barr (fun _ => false) (xs.length + 1))
    simpa using this)
  have HB0 : Hid (Below w.heap.size w w0) := Lib.hid (by rw [hw0]; go_grown)
  have hw0' : (w.alloc (.cells #[.int .i64 1, .int .u64 ((wd f 0 : Nat) : Int), .int .u64 ((wd f 1 : Nat) : Int), .int .u64 ((wd f 2 : Nat) : Int), .int .u64 ((wd f 3 : Nat) : Int), .int .i64 0, .int .i64 0, .slice a m c] 29)).alloc (.cells (barr (fun _ => false) (xs.length + 1)) 4) = w0 := hw0.symm
  have m0 : w0.cell? ⟨w.heap.size, 0, none⟩ = some (.int .i64 1) := HA.out.cell 0 _ rfl
  have HLF := Lib.hid hfa.lt
  clear hn hx hfa hw0
  show Calls Try.prog 39 #[.agg #[.int .i64 1, .int .u64 ((wd f 0 : Nat) : Int), .int .u64 ((wd f 1 : Nat) : Int), .int .u64 ((wd f 2 : Nat) : Int), .int .u64 ((wd f 3 : Nat) : Int), .int .i64 0, .int .i64 0, .slice a m c], _, _] w _
  go_enter Try.func39, Try.ntmps39
  go_wp2_with fail
  go_loopw [31] (fun i wr => ∃ k : Nat, k ≤ xs.length ∧ i = .int .i64 k ∧ AtG wr w.heap.size 29 (nodeC 1 f 0 0 (.slice a m c)) ∧ Below w.heap.size w wr ∧ ∃ g, AtG wr (w.heap.size + 1) 4 (barr g (xs.length + 1)) ∧ g 0 = false ∧ (∀ j, j < k → g (j + 1) = (S j && f (byt xs j))) ∧ ∀ j, k ≤ j → g (j + 1) = false) (fun i _ => xs.length - (intOf i).toNat)
  case atStart => exact ⟨0, Nat.zero_le _, rfl, HA.out, HB0.out, _, HO.out, rfl, fun j h => absurd h (Nat.not_lt_zero _), fun _ _ => rfl⟩
  case round =>
    clear hw0' m0 HA HO HB0 hmk
    obtain ⟨k, hk, rfl, ha, hb, g, hg, hg0, hg1, hg2⟩ := hrel
    by_cases hlt : k < xs.length
    · obtain ⟨bw, ow, rfl, hcap, hcell, hc0, hc1⟩ := rdB_at HX.out k hlt
      have hcw : wr.cell? ⟨bw, ow + k, none⟩ = some (.int .u8 (xs.getD k 0)) := (hb.cell (p := ⟨bw, ow + k, none⟩) (World.block_lt_of_cell? w _ hcell)).trans hcell
      have hcf : wr.cell? ⟨bf, k, none⟩ = some (.bool (S k)) := (HF.out.below hb).bool k (by omega)
      have HH := Lib.hid (has_any f (xs.getD k 0) wr hc0 hc1)
      have hby : byt xs k = (xs.getD k 0).toNat := rfl
      have HG1 := Lib.hid hg1; have HG2 := Lib.hid hg2; have HG0 := Lib.hid hg0; have HB := Lib.hid hb; have HA := Lib.hid ha; have HG := Lib.hid hg
      have hws := hb.size
      have hsz : w.heap.size + 1 < wr.heap.size := hg.lt
      have n1 : wr.cell? ⟨w.heap.size, 1, none⟩ = some (.int .u64 ((wd f 0 : Nat) : Int)) := ha.cell 1 _ rfl
      have n2 : wr.cell? ⟨w.heap.size, 2, none⟩ = some (.int .u64 ((wd f 1 : Nat) : Int)) := ha.cell 2 _ rfl
      have n3 : wr.cell? ⟨w.heap.size, 3, none⟩ = some (.int .u64 ((wd f 2 : Nat) : Int)) := ha.cell 3 _ rfl
      have n4 : wr.cell? ⟨w.heap.size, 4, none⟩ = some (.int .u64 ((wd f 3 : Nat) : Int)) := ha.cell 4 _ rfl
      have o1 := hg.frozen (k + 1)
      have oc := hg.bool (k + 1) (by omega)
      generalize xs.getD k 0 = x at *
      clear hg1 hg2 hg0 hb ha hg hcell
      cases hS : S k with
      | false =>
        rw [hS] at hcf
        go_wp2_with fail
        refine ⟨⟨k + 1, by omega, by go_num, HA.out.far (p := ⟨w.heap.size + 1, k + 1, none⟩) (by show w.heap.size ≠ w.heap.size + 1; omega) _, HB.out.setCell (by simp) _, updB g (k + 1) false, HG.out.setB (k + 1) false, ?_, ?_, ?_⟩, by simp [intOf]; omega⟩
        · unfold updB; rw [if_neg (by omega)]; exact HG0.out
        · intro j hj
          unfold updB
          by_cases e : j = k
          · subst e; rw [if_pos rfl, hS]; rfl
          · rw [if_neg (by omega)]; exact HG1.out j (by omega)
        · intro j hj
          unfold updB
          rw [if_neg (by omega)]; exact HG2.out j (by omega)
      | true =>
        rw [hS] at hcf
        unfold setOf at HH
        go_wp2_with fail
        refine (HH.out).mono ?_
        rintro e9 w9 ⟨rfl, hb9⟩
        have HA9 := Lib.hid (HA.out.below hb9); have HB9 := Lib.hid (HB.out.trans (hb9.mono HB.out.size)); have HG9 := Lib.hid (HG.out.below hb9)
        have o2 := HG9.out.frozen (k + 1)
        have oc2 := HG9.out.bool (k + 1) (by omega)
        clear hb9
        generalize hfx : f x.toNat = fx at *
        go_wp2_with fail
        refine ⟨⟨k + 1, by omega, by go_num, HA9.out.far (p := ⟨w.heap.size + 1, k + 1, none⟩) (by show w.heap.size ≠ w.heap.size + 1; omega) _, HB9.out.setCell (by simp) _, updB g (k + 1) fx, HG9.out.setB (k + 1) fx, ?_, ?_, ?_⟩, by simp [intOf]; omega⟩
        · unfold updB; rw [if_neg (by omega)]; exact HG0.out
        · intro j hj
          unfold updB
          by_cases e : j = k
          · subst e; rw [if_pos rfl, hS, hby, hfx]; rfl
          · rw [if_neg (by omega)]; exact HG1.out j (by omega)
        · intro j hj
          unfold updB
          rw [if_neg (by omega)]; exact HG2.out j (by omega)
    · obtain rfl : k = xs.length := by omega
      have HG1 := Lib.hid hg1; have HG0 := Lib.hid hg0; have HB := Lib.hid hb; have HG := Lib.hid hg
      clear hg1 hg2 hg0 hb ha hg
      go_wp2_with fail
      go_returns
      refine ⟨HB.out, w.heap.size + 1, g, rfl, HG.out, .inr (by omega), fun i hi => ?_⟩
      constructor
      · intro h
        cases i with
        | zero => rw [HG0.out] at h; cases h
        | succ j =>
          rw [HG1.out j (by omega), Bool.and_eq_true] at h
          exact ⟨j, ⟨by omega, h.1⟩, by rw [Mt]; exact ⟨rfl, by omega, h.2⟩⟩
      · rintro ⟨j, ⟨hj, hSj⟩, hm⟩
        rw [Mt] at hm
        obtain ⟨rfl, hj2, hfj⟩ := hm
        rw [HG1.out j hj2, hSj, hfj]; rfl
end Go.Proofs.Ytofgkildlhcpdaa
/- The walk of lang.ends: one behind the other; one of them. -/
set_option linter.unusedVariables false
set_option linter.unusedSimpArgs false
namespace Go.Proofs.Ytofgkildlhcpdaa
open Go.RowKit Bt
theorem img_le (b : Nat → Nat) (n : Nat) (l : List Pat) (S : Nat → Bool) (k i : Nat) (h : img (MtC b n (l.take k)) (InS n S) i) : i ≤ n := by
  obtain ⟨j, hj, h2⟩ := h
  have h3 : Mt b n (.cat (l.take k)) j i := by rw [Mt]; exact h2
  exact mt_le b n _ j i hj.1 h3
theorem inS_iff {n : Nat} {g : Nat → Bool} {Q : Nat → Prop} (h : ∀ i, i ≤ n → (g i = true ↔ Q i)) (hQ : ∀ i, Q i → i ≤ n) (i : Nat) : InS n g i ↔ Q i :=
  ⟨fun ⟨h1, h2⟩ => (h i h1).1 h2, fun h1 => ⟨hQ i h1, (h i (hQ i h1)).2 h1⟩⟩
set_option maxRecDepth 100000 in
set_option maxHeartbeats 1600000 in
theorem ends_cat (l : List Pat) (hl2 : l.length ≤ 1000) (ih : ∀ p ∈ l, EndsC p) : EndsC (.cat l) := by
  intro w a m c wv xs bf S hn hx hl hfa
  obtain rfl : m = l.length := by
    obtain ⟨a', c', hh⟩ := KAt.slice hn
    injection hh with _ hh _
    rw [trees_len] at hh; exact hh
  obtain ⟨A, wc, rfl⟩ := rdB_slice hx
  have HX := Lib.hid hx; have HF := Lib.hid hfa; have HN := Lib.hid hn
  have hnI : (xs.length : Int) ≤ 1000 := by omega
  have hlI : (l.length : Int) ≤ 1000 := by omega
  have hmk := make_one (P := Try.prog) 40 4 (.bool false) 1 Try.underlying40 infoBool rfl .i64 .i64 (xs.length + 1) (by omega) (by omega)
  rw [show ((xs.length + 1 : Nat) : Int) = (xs.length : Int) + 1 from by omega, barr_zero] at hmk
  obtain ⟨w0, hw0⟩ : ∃ w0 : World, w0 = (w.alloc (.cells (nodeC 2 emp 0 0 (.slice a l.length c)) 29)).alloc (.cells (barr (fun _ => false) (xs.length + 1)) 4) := ⟨_, rfl⟩
  have HA : Hid (AtG w0 w.heap.size 29 (nodeC 2 emp 0 0 (.slice a l.length c))) := Lib.hid (by rw [hw0]; exact (AtG.new _ _ _).alloc _)
  have HO : Hid (AtG w0 (w.heap.size + 1) 4 (barr (fun _ => false) (xs.length + 1))) := Lib.hid (by
    rw [hw0]
    have := AtG.new (w.alloc (.cells (nodeC 2 emp 0 0 (.slice a l.length c)) 29)) 4 (barr (fun _ => false) (xs.length + 1))
    simpa using this)
  have HB0 : Hid (Below w.heap.size w w0) := Lib.hid (by rw [hw0]; go_grown)
  have hw0' : (w.alloc (.cells #[.int .i64 2, .int .u64 ((wd emp 0 : Nat) : Int), .int .u64 ((wd emp 1 : Nat) : Int), .int .u64 ((wd emp 2 : Nat) : Int), .int .u64 ((wd emp 3 : Nat) : Int), .int .i64 0, .int .i64 0, .slice a l.length c] 29)).alloc (.cells (barr (fun _ => false) (xs.length + 1)) 4) = w0 := hw0.symm
  have m0 : w0.cell? ⟨w.heap.size, 0, none⟩ = some (.int .i64 2) := HA.out.cell 0 _ rfl
  have m7 : w0.cell? ⟨w.heap.size, 7, none⟩ = some (.slice a l.length c) := HA.out.cell 7 _ rfl
  have HLF := Lib.hid hfa.lt
  clear hn hx hfa hw0
  show Calls Try.prog 39 #[.agg #[.int .i64 2, .int .u64 ((wd emp 0 : Nat) : Int), .int .u64 ((wd emp 1 : Nat) : Int), .int .u64 ((wd emp 2 : Nat) : Int), .int .u64 ((wd emp 3 : Nat) : Int), .int .i64 0, .int .i64 0, .slice a l.length c], _, _] w _
  go_enter Try.func39, Try.ntmps39
  go_wp2_with fail
  go_loopw [7, 57] (fun t7 i wr => ∃ k : Nat, k ≤ l.length ∧ i = .int .i64 k ∧ Below w.heap.size w wr ∧ ∃ bo g, t7 = .slice (some ⟨bo, 0, none⟩) (xs.length + 1) (xs.length + 1) ∧ AtG wr bo 4 (barr g (xs.length + 1)) ∧ (bo = bf ∨ w.heap.size ≤ bo) ∧ ∀ i, i ≤ xs.length → (g i = true ↔ img (MtC (byt xs) xs.length (l.take k)) (InS xs.length S) i)) (fun _ i _ => l.length - (intOf i).toNat)
  case atStart => exact ⟨0, Nat.zero_le _, rfl, HB0.out, bf, S, rfl, HF.out.below ((HB0.out).mono (by omega)), .inl rfl, fun i hi => by
    rw [List.take_zero]
    exact ⟨fun h => (mt_cat_nil _ _ _ _).2 ⟨hi, h⟩, fun h => ((mt_cat_nil _ _ _ _).1 h).2⟩⟩
  case round =>
    clear hw0' m0 m7 HA HO HB0 hmk
    obtain ⟨k, hk, rfl, hb, bo, g, rfl, hg, hbo, hgi⟩ := hrel
    have HB := Lib.hid hb; have HG := Lib.hid hg; have HBO := Lib.hid hbo; have HGI := Lib.hid hgi
    clear hb hg hbo hgi
    by_cases hlt : k < l.length
    · obtain ⟨b, off, cap, heq, hcap, op', f', mn', mx', kids', ka, kc, ht, hc8, hkn⟩ := kid_at HN.out (trees_get hlt)
      injection heq with e1 e2 e3
      subst e1; subst e3
      clear e2
      rw [trees_len] at hcap
      have hI := ih l[k] (List.getElem_mem hlt)
      unfold EndsC at hI
      rw [ht] at hI hkn
      have hI2 := fun w bf S h1 h2 h3 => hI w ka kids'.length kc (.slice A xs.length wc) xs bf S h1 h2 hl h3
      unfold nodeV at hI2
      have HI := Lib.hid hI2; have HKN := Lib.hid hkn
      obtain ⟨kn, hkl⟩ : ∃ kn, kn = kids'.length := ⟨_, rfl⟩
      rw [← hkl] at HKN HI hc8
      obtain ⟨c0, c1, c2, c3, c4, c5, c6, c7⟩ := Cell8.below hc8 HB.out
      clear hI hI2 hkn hkl ht hc8
      go_wp2_with fail
      refine (HI.out _ bo g (NAt.below HKN.out (HB.out.alloc HB.out.size (.cells (nodeC op' f' mn' mx' (.slice ka kn kc)) 29))) (rdB_below HX.out (HB.out.alloc HB.out.size _)) (HG.out.alloc _)).mono ?_
      rintro e9 w9 ⟨hb9, b9, g9, rfl, hg9, hbo9, hgi9⟩
      have HB9 := Lib.hid ((HB.out.alloc HB.out.size (.cells (nodeC op' f' mn' mx' (.slice ka kn kc)) 29)).trans (hb9.mono (by have := HB.out.size; simp; omega)))
      have HG9 := Lib.hid hg9
      have HBO9 : Hid (b9 = bf ∨ w.heap.size ≤ b9) := Lib.hid (by
        rcases hbo9 with h | h
        · rw [h]; exact HBO.out
        · have := HB.out.size; simp at h; omega)
      have HGI9 := Lib.hid hgi9
      clear hb9 hg9 hbo9 hgi9
      go_wp2_with fail
      exact ⟨⟨k + 1, by omega, by go_num, HB9.out, b9, g9, rfl, HG9.out, HBO9.out, fun i hi => (HGI9.out i hi).trans ((img_congr (inS_iff HGI.out (img_le _ _ _ _ _)) i).trans (mtC_snoc _ _ l k hlt _ i).symm)⟩, by simp [intOf]; omega⟩
    · obtain rfl : k = l.length := by omega
      rw [List.take_length] at HGI
      go_wp2_with fail
      go_returns
      exact ⟨HB.out, bo, g, rfl, HG.out, HBO.out, HGI.out⟩
set_option maxRecDepth 100000 in
set_option maxHeartbeats 1600000 in
theorem ends_alt (l : List Pat) (hl2 : l.length ≤ 1000) (ih : ∀ p ∈ l, EndsC p) : EndsC (.alt l) := by
  intro w a m c wv xs bf S hn hx hl hfa
  obtain rfl : m = l.length := by
    obtain ⟨a', c', hh⟩ := KAt.slice hn
    injection hh with _ hh _
    rw [trees_len] at hh; exact hh
  obtain ⟨A, wc, rfl⟩ := rdB_slice hx
  have HX := Lib.hid hx; have HF := Lib.hid hfa; have HN := Lib.hid hn
  have hnI : (xs.length : Int) ≤ 1000 := by omega
  have hlI : (l.length : Int) ≤ 1000 := by omega
  have hmk := make_one (P := Try.prog) 40 4 (.bool false) 1 Try.underlying40 infoBool rfl .i64 .i64 (xs.length + 1) (by omega) (by omega)
  rw [show ((xs.length + 1 : Nat) : Int) = (xs.length : Int) + 1 from by omega, barr_zero] at hmk
  obtain ⟨w0, hw0⟩ : ∃ w0 : World, w0 = (w.alloc (.cells (nodeC 3 emp 0 0 (.slice a l.length c)) 29)).alloc (.cells (barr (fun _ => false) (xs.length + 1)) 4) := ⟨_, rfl⟩
  have HA : Hid (AtG w0 w.heap.size 29 (nodeC 3 emp 0 0 (.slice a l.length c))) := Lib.hid (by rw [hw0]; exact (AtG.new _ _ _).alloc _)
  have HO : Hid (AtG w0 (w.heap.size + 1) 4 (barr (fun _ => false) (xs.length + 1))) := Lib.hid (by
    rw [hw0]
    have := AtG.new (w.alloc (.cells (nodeC 3 emp 0 0 (.slice a l.length c)) 29)) 4 (barr (fun _ => false) (xs.length + 1))
    simpa using this)
  have HB0 : Hid (Below w.heap.size w w0) := Lib.hid (by rw [hw0]; go_grown)
  have hw0' : (w.alloc (.cells #[.int .i64 3, .int .u64 ((wd emp 0 : Nat) : Int), .int .u64 ((wd emp 1 : Nat) : Int), .int .u64 ((wd emp 2 : Nat) : Int), .int .u64 ((wd emp 3 : Nat) : Int), .int .i64 0, .int .i64 0, .slice a l.length c] 29)).alloc (.cells (barr (fun _ => false) (xs.length + 1)) 4) = w0 := hw0.symm
  have m0 : w0.cell? ⟨w.heap.size, 0, none⟩ = some (.int .i64 3) := HA.out.cell 0 _ rfl
  have m7 : w0.cell? ⟨w.heap.size, 7, none⟩ = some (.slice a l.length c) := HA.out.cell 7 _ rfl
  have HLF := Lib.hid hfa.lt
  clear hn hx hfa hw0
  show Calls Try.prog 39 #[.agg #[.int .i64 3, .int .u64 ((wd emp 0 : Nat) : Int), .int .u64 ((wd emp 1 : Nat) : Int), .int .u64 ((wd emp 2 : Nat) : Int), .int .u64 ((wd emp 3 : Nat) : Int), .int .i64 0, .int .i64 0, .slice a l.length c], _, _] w _
  go_enter Try.func39, Try.ntmps39
  go_wp2_with fail
  go_loopw [71] (fun i wr => ∃ k : Nat, k ≤ l.length ∧ i = .int .i64 k ∧ Below w.heap.size w wr ∧ ∃ g, AtG wr (w.heap.size + 1) 4 (barr g (xs.length + 1)) ∧ ∀ i, i ≤ xs.length → (g i = true ↔ img (MtA (byt xs) xs.length (l.take k)) (InS xs.length S) i)) (fun i _ => l.length - (intOf i).toNat)
  case atStart => exact ⟨0, Nat.zero_le _, rfl, HB0.out, _, HO.out, fun i hi => by
    rw [List.take_zero]
    exact ⟨(fun h => by cases h), fun ⟨j, _, h⟩ => by rw [MtA] at h; exact h.elim⟩⟩
  case round =>
    clear hw0' m0 m7 HA HO HB0 hmk
    obtain ⟨k, hk, rfl, hb, g, hg, hgi⟩ := hrel
    have HB := Lib.hid hb; have HG := Lib.hid hg; have HGI := Lib.hid hgi
    have hsz : w.heap.size + 1 < wr.heap.size := hg.lt
    have HSZ := Lib.hid hsz
    clear hb hg hgi hsz
    by_cases hlt : k < l.length
    · obtain ⟨b, off, cap, heq, hcap, op', f', mn', mx', kids', ka, kc, ht, hc8, hkn⟩ := kid_at HN.out (trees_get hlt)
      injection heq with e1 e2 e3
      subst e1; subst e3
      clear e2
      rw [trees_len] at hcap
      have hI := ih l[k] (List.getElem_mem hlt)
      unfold EndsC at hI
      rw [ht] at hI hkn
      have hI2 := fun w bf S h1 h2 h3 => hI w ka kids'.length kc (.slice A xs.length wc) xs bf S h1 h2 hl h3
      unfold nodeV at hI2
      have HI := Lib.hid hI2; have HKN := Lib.hid hkn
      obtain ⟨kn, hkl⟩ : ∃ kn, kn = kids'.length := ⟨_, rfl⟩
      rw [← hkl] at HKN HI hc8
      obtain ⟨c0, c1, c2, c3, c4, c5, c6, c7⟩ := Cell8.below hc8 HB.out
      clear hI hI2 hkn hkl ht hc8
      go_wp2_with fail
      refine (HI.out _ bf S (NAt.below HKN.out (HB.out.alloc HB.out.size (.cells (nodeC op' f' mn' mx' (.slice ka kn kc)) 29))) (rdB_below HX.out (HB.out.alloc HB.out.size _)) (HF.out.below (HB.out.alloc HB.out.size _))).mono ?_
      rintro e9 w9 ⟨hb9, b9, g9, rfl, hg9, hbo9, hgi9⟩
      have HB9 := Lib.hid ((HB.out.alloc HB.out.size (.cells (nodeC op' f' mn' mx' (.slice ka kn kc)) 29)).trans (hb9.mono (by have := HB.out.size; simp; omega)))
      have HR9 := Lib.hid hg9
      have HO9 := Lib.hid ((HG.out.alloc (.cells (nodeC op' f' mn' mx' (.slice ka kn kc)) 29)).below hb9)
      have HNE : Hid (b9 ≠ w.heap.size + 1) := Lib.hid (by
        have := HLF.out; have := HSZ.out
        rcases hbo9 with h | h
        · omega
        · simp at h; omega)
      have HGI9 := Lib.hid hgi9
      clear hb9 hg9 hbo9 hgi9 c0 c1 c2 c3 c4 c5 c6 c7
      go_wp2_with fail
      go_loopw [80] (fun i wq => ∃ q : Nat, q ≤ xs.length + 1 ∧ i = .int .i64 q ∧ Below w.heap.size w wq ∧ AtG wq b9 4 (barr g9 (xs.length + 1)) ∧ ∃ h, AtG wq (w.heap.size + 1) 4 (barr h (xs.length + 1)) ∧ (∀ j, j < q → h j = (g j || g9 j)) ∧ ∀ j, q ≤ j → h j = g j) (fun i _ => xs.length + 1 - (intOf i).toNat)
      case atStart => exact ⟨0, Nat.zero_le _, rfl, HB9.out, HR9.out, g, HO9.out, fun j h => absurd h (Nat.not_lt_zero _), fun _ _ => rfl⟩
      case round =>
        clear HB9 HR9 HO9
        obtain ⟨q, hq, rfl, hb, hr, h, hh, h1, h2⟩ := hrel
        have HBq := Lib.hid hb; have HRq := Lib.hid hr; have HHq := Lib.hid hh; have H1 := Lib.hid h1; have H2 := Lib.hid h2
        clear hb hr hh h1 h2
        by_cases hltq : q < xs.length + 1
        · have hqI : (q : Int) < (xs.length : Int) + 1 := by omega
          have r1 := HRq.out.bool q hltq
          have o1 := HHq.out.bool q hltq
          have y1 := HHq.out.frozen q
          have hh2 := H2.out q (Nat.le_refl _)
          cases hgq : h q with
          | true =>
            rw [hgq] at o1
            go_wp2_with fail
            refine ⟨⟨q + 1, by omega, by go_num, HBq.out.setCell (by simp) _, HRq.out.far (p := ⟨w.heap.size + 1, q, none⟩) HNE.out _, updB h q true, HHq.out.setB q true, ?_, ?_⟩, by simp [intOf]; omega⟩
            · intro j hj
              unfold updB
              by_cases e : j = q
              · subst e; rw [if_pos rfl, ← hh2, hgq]; rfl
              · rw [if_neg e]; exact H1.out j (by omega)
            · intro j hj
              unfold updB
              rw [if_neg (by omega)]; exact H2.out j (by omega)
          | false =>
            rw [hgq] at o1
            go_wp2_with fail
            refine ⟨⟨q + 1, by omega, by go_num, HBq.out.setCell (by simp) _, HRq.out.far (p := ⟨w.heap.size + 1, q, none⟩) HNE.out _, updB h q (g9 q), HHq.out.setB q (g9 q), ?_, ?_⟩, by simp [intOf]; omega⟩
            · intro j hj
              unfold updB
              by_cases e : j = q
              · subst e; rw [if_pos rfl, ← hh2, hgq]; rfl
              · rw [if_neg e]; exact H1.out j (by omega)
            · intro j hj
              unfold updB
              rw [if_neg (by omega)]; exact H2.out j (by omega)
        · obtain rfl : q = xs.length + 1 := by omega
          go_wp2_with fail
          exact ⟨⟨k + 1, by omega, by go_num, HBq.out, h, HHq.out, fun i hi => by
            rw [H1.out i (by omega), Bool.or_eq_true, mtA_snoc _ _ l k hlt]
            exact or_congr (HGI.out i hi) (HGI9.out i hi)⟩, by simp [intOf]; omega⟩
    · obtain rfl : k = l.length := by omega
      rw [List.take_length] at HGI
      go_wp2_with fail
      go_returns
      exact ⟨HB.out, w.heap.size + 1, g, rfl, HG.out, .inr (by omega), HGI.out⟩
end Go.Proofs.Ytofgkildlhcpdaa
/- The walk of lang.ends: again and again. -/
set_option linter.unusedVariables false
set_option linter.unusedSimpArgs false
namespace Go.Proofs.Ytofgkildlhcpdaa
open Go.RowKit Bt
theorem img_none {R : Nat → Nat → Prop} {S : Nat → Prop} (h : ∀ j, ¬ S j) (i : Nat) : ¬ img R S i := fun ⟨j, hj, _⟩ => h j hj
theorem imgN_le (b : Nat → Nat) (n : Nat) (p : Pat) (S : Nat → Bool) (t : Nat) : ∀ i, imgN (Mt b n p) (InS n S) t i → i ≤ n := by
  induction t with
  | zero => intro i h; exact h.1
  | succ t ih => rintro i ⟨j, h1, h2⟩; exact mt_le b n p j i (ih j h1) h2
set_option maxRecDepth 100000 in
set_option maxHeartbeats 8000000 in
theorem ends_rep (mn mx : Nat) (p : Pat) (h1 : mn ≤ mx) (h2 : mx ≤ 1000) (ih : EndsC p) : EndsC (.rep mn mx p) := by
  intro w a m c wv xs bf S hn hx hl hfa
  obtain rfl : m = 1 := by
    obtain ⟨a', c', hh⟩ := KAt.slice hn
    injection hh with _ hh _
  obtain ⟨A, wc, rfl⟩ := rdB_slice hx
  have HX := Lib.hid hx; have HF := Lib.hid hfa; have HN := Lib.hid hn
  have hnI : (xs.length : Int) ≤ 1000 := by omega
  have hmk := make_one (P := Try.prog) 40 4 (.bool false) 1 Try.underlying40 infoBool rfl .i64 .i64 (xs.length + 1) (by omega) (by omega)
  rw [show ((xs.length + 1 : Nat) : Int) = (xs.length : Int) + 1 from by omega, barr_zero] at hmk
  obtain ⟨b, off, cap, heq, hcap, op', f', mn', mx', kids', ka, kc, ht, hc8, hkn⟩ := kid_at (j := 0) (t := p.tree) hn rfl
  injection heq with e1 e2 e3
  subst e1; subst e3
  clear e2
  unfold EndsC at ih
  rw [ht] at ih hkn
  have hI2 := fun w bf S h1 h2 h3 => ih w ka kids'.length kc (.slice A xs.length wc) xs bf S h1 h2 hl h3
  unfold nodeV at hI2
  have HI := Lib.hid hI2; have HKN := Lib.hid hkn
  obtain ⟨kn, hkl⟩ : ∃ kn, kn = kids'.length := ⟨_, rfl⟩
  have hz8 : off + 0 * 8 = off := by omega
  rw [← hkl] at HKN HI hc8
  rw [hz8] at hc8
  have HC8 := Lib.hid hc8
  obtain ⟨w0, hw0⟩ : ∃ w0 : World, w0 = (w.alloc (.cells (nodeC 4 emp (mn : Int) (mx : Int) (.slice (some ⟨b, off, none⟩) 1 c)) 29)).alloc (.cells (barr (fun _ => false) (xs.length + 1)) 4) := ⟨_, rfl⟩
  have HA : Hid (AtG w0 w.heap.size 29 (nodeC 4 emp (mn : Int) (mx : Int) (.slice (some ⟨b, off, none⟩) 1 c))) := Lib.hid (by rw [hw0]; exact (AtG.new _ _ _).alloc _)
  have HO : Hid (AtG w0 (w.heap.size + 1) 4 (barr (fun _ => false) (xs.length + 1))) := Lib.hid (by
    rw [hw0]
    have := AtG.new (w.alloc (.cells (nodeC 4 emp (mn : Int) (mx : Int) (.slice (some ⟨b, off, none⟩) 1 c)) 29)) 4 (barr (fun _ => false) (xs.length + 1))
    simpa using this)
  have HB0 : Hid (Below w.heap.size w w0) := Lib.hid (by rw [hw0]; go_grown)
  have hw0' : (w.alloc (.cells #[.int .i64 4, .int .u64 ((wd emp 0 : Nat) : Int), .int .u64 ((wd emp 1 : Nat) : Int), .int .u64 ((wd emp 2 : Nat) : Int), .int .u64 ((wd emp 3 : Nat) : Int), .int .i64 (mn : Int), .int .i64 (mx : Int), .slice (some ⟨b, off, none⟩) 1 c] 29)).alloc (.cells (barr (fun _ => false) (xs.length + 1)) 4) = w0 := hw0.symm
  have m0 : w0.cell? ⟨w.heap.size, 0, none⟩ = some (.int .i64 4) := HA.out.cell 0 _ rfl
  have HLF := Lib.hid hfa.lt
  have hmxI : (mx : Int) ≤ 1000 := by omega
  have hmnI : (mn : Int) ≤ 1000 := by omega
  have HMN := Lib.hid h1
  obtain ⟨R, hR⟩ : ∃ R, R = Mt (byt xs) xs.length p := ⟨_, rfl⟩
  rw [← hR] at HI
  have HPOST : Hid (∀ i, img (Mt (byt xs) xs.length (.rep mn mx p)) (InS xs.length S) i ↔ ∃ u, mn ≤ u ∧ u ≤ mx ∧ imgN R (InS xs.length S) u i) := Lib.hid (fun i => by rw [hR]; exact mt_rep _ _ _ _ _ _ _)
  have HLE : Hid (∀ t i, imgN R (InS xs.length S) t i → i ≤ xs.length) := Lib.hid (fun t i => by rw [hR]; exact imgN_le _ _ _ _ _ _)
  clear hn hx hfa hw0 ih hI2 hkn ht hkl hz8 hc8 hR
  show Calls Try.prog 39 #[.agg #[.int .i64 4, .int .u64 ((wd emp 0 : Nat) : Int), .int .u64 ((wd emp 1 : Nat) : Int), .int .u64 ((wd emp 2 : Nat) : Int), .int .u64 ((wd emp 3 : Nat) : Int), .int .i64 (mn : Int), .int .i64 (mx : Int), .slice (some ⟨b, off, none⟩) 1 c], _, _] w _
  have hpost : ∀ (e : Ending) (w' : World), (Below w.heap.size w w' ∧ ∃ b' g', e = .returned (.slice (some ⟨b', 0, none⟩) (xs.length + 1) (xs.length + 1)) ∧ AtG w' b' 4 (barr g' (xs.length + 1)) ∧ (b' = bf ∨ w.heap.size ≤ b') ∧ ∀ i, i ≤ xs.length → (g' i = true ↔ ∃ u, mn ≤ u ∧ u ≤ mx ∧ imgN R (InS xs.length S) u i)) → (Below w.heap.size w w' ∧ ∃ b' g', e = .returned (.slice (some ⟨b', 0, none⟩) (xs.length + 1) (xs.length + 1)) ∧ AtG w' b' 4 (barr g' (xs.length + 1)) ∧ (b' = bf ∨ w.heap.size ≤ b') ∧ ∀ i, i ≤ xs.length → (g' i = true ↔ img (Mt (byt xs) xs.length (.rep mn mx p)) (InS xs.length S) i)) := by
    rintro e w' ⟨q1, b', g', q2, q3, q4, q5⟩
    exact ⟨q1, b', g', q2, q3, q4, fun i hi => (q5 i hi).trans (HPOST.out i).symm⟩
  refine Calls.mono ?_ hpost
  clear hpost HPOST
  go_enter Try.func39, Try.ntmps39
  go_wp2_with fail
  go_loopw [2, 16] (fun t2 i wr => ∃ t : Nat, t ≤ mx ∧ ∃ bq F g, t2 = .slice (some ⟨bq, 0, none⟩) (xs.length + 1) (xs.length + 1) ∧ i = .int .i64 t ∧ Below w.heap.size w wr ∧ AtG wr w.heap.size 29 (nodeC 4 emp (mn : Int) (mx : Int) (.slice (some ⟨b, off, none⟩) 1 c)) ∧ AtG wr bq 4 (barr F (xs.length + 1)) ∧ bq ≠ w.heap.size + 1 ∧ AtG wr (w.heap.size + 1) 4 (barr g (xs.length + 1)) ∧ (∀ i, i ≤ xs.length → (F i = true ↔ imgN R (InS xs.length S) t i)) ∧ ∀ i, i ≤ xs.length → (g i = true ↔ ∃ u, mn ≤ u ∧ u < t ∧ imgN R (InS xs.length S) u i)) (fun _ i _ => mx + 1 - (intOf i).toNat)
  case atStart => exact ⟨0, Nat.zero_le _, bf, S, _, rfl, rfl, HB0.out, HA.out, HF.out.below (HB0.out), by have := HLF.out; omega, HO.out, fun i hi => ⟨fun h => ⟨hi, h⟩, fun h => h.2⟩, fun i hi => ⟨(fun h => by cases h), fun ⟨u, _, h, _⟩ => absurd h (Nat.not_lt_zero _)⟩⟩
  case round =>
    clear hw0' m0 HA HO HB0 hmk
    obtain ⟨t, htm, bq, F, g, rfl, rfl, hb, ha, hq, hne, ho, hfi, hgi⟩ := hrel
    have HB := Lib.hid hb; have HAq := Lib.hid ha; have HQ := Lib.hid hq; have HNE := Lib.hid hne; have HO := Lib.hid ho; have HFI := Lib.hid hfi; have HGI := Lib.hid hgi
    have n6 : wr.cell? ⟨w.heap.size, 6, none⟩ = some (.int .i64 (mx : Int)) := ha.cell 6 _ rfl
    have n7 : wr.cell? ⟨w.heap.size, 7, none⟩ = some (.slice (some ⟨b, off, none⟩) 1 c) := ha.cell 7 _ rfl
    clear hb ha hq hne ho hfi hgi
    have htmI : (t : Int) ≤ (mx : Int) := by omega
    by_cases hlt : t < mx
    · have hltI : (t : Int) < (mx : Int) := by omega
      have HCO := Lib.hid (containsB_any bq (xs.length + 1) F true wr (by omega) HQ.out)
      go_wp2_with fail
      refine (HCO.out).mono ?_
      rintro e9 w9 ⟨rfl, r, rfl, hr⟩
      cases r with
      | true =>
        obtain ⟨c0, c1, c2, c3, c4, c5, c6, c7⟩ := Cell8.below HC8.out HB.out
        have HRR := Lib.hid hr; clear hr
        go_wp2_with fail
        refine (HI.out _ bq F (NAt.below HKN.out HB.out) (rdB_below HX.out HB.out) HQ.out).mono ?_
        rintro e9 w4 ⟨hb4, bn, G, rfl, hg4, hbn4, hgi4⟩
        have HB4 := Lib.hid (HB.out.trans (hb4.mono HB.out.size)); have HA4 := Lib.hid (HAq.out.below hb4); have HQ4 := Lib.hid (HQ.out.below hb4); have HO4 := Lib.hid (HO.out.below hb4); have HN4 := Lib.hid hg4
        have HNN : Hid (bn ≠ w.heap.size + 1) := Lib.hid (by
          rcases hbn4 with h | h
          · rw [h]; exact HNE.out
          · have := HO.out.lt; omega)
        have HGN : Hid (∀ i, i ≤ xs.length → (G i = true ↔ imgN R (InS xs.length S) (t + 1) i)) := Lib.hid (fun i hi => (hgi4 i hi).trans (img_congr (inS_iff HFI.out (HLE.out t)) i))
        clear hb4 hg4 hbn4 hgi4 n6 n7 c0 c1 c2 c3 c4 c5 c6 c7
        have HEQ := Lib.hid (equalB_any bn bq (xs.length + 1) G F w4 (by omega) HN4.out HQ4.out)
        go_wp2_with fail
        refine (HEQ.out).mono ?_
        rintro e9 w5 ⟨hb5, st, rfl, hst⟩
        have HB5 := Lib.hid (HB4.out.trans (hb5.mono HB4.out.size)); have HA5 := Lib.hid (HA4.out.below hb5); have HQ5 := Lib.hid (HQ4.out.below hb5); have HO5 := Lib.hid (HO4.out.below hb5); have HN5 := Lib.hid (HN4.out.below hb5)
        have HLT := Lib.hid hlt
        clear hb5 HEQ HCO
        cases st with
        | true =>
          have HSTOP : Hid (∀ i, (∃ u, mn ≤ u ∧ u ≤ mx ∧ imgN R (InS xs.length S) u i) ↔ ((∃ u, mn ≤ u ∧ u < t ∧ imgN R (InS xs.length S) u i) ∨ imgN R (InS xs.length S) t i)) := Lib.hid (rep_stop (fun i => by
            have hle : ∀ t i, imgN R (InS xs.length S) t i → i ≤ xs.length := HLE.out
            constructor
            · intro h
              have hi := hle (t + 1) i h
              exact (HFI.out i hi).1 ((hst.1 rfl i (by omega)) ▸ (HGN.out i hi).2 h)
            · intro h
              have hi := hle t i h
              exact (HGN.out i hi).1 ((hst.1 rfl i (by omega)).symm ▸ (HFI.out i hi).2 h)) (by omega) HMN.out)
          clear hst
          by_cases hmt : mn ≤ t
          · have hmtI : (mn : Int) ≤ (t : Int) := by omega
            go_wp2_with fail
            go_loopw [132] (fun i wq => ∃ q : Nat, q ≤ xs.length + 1 ∧ i = .int .i64 q ∧ Below w.heap.size w wq ∧ AtG wq w.heap.size 29 (nodeC 4 emp (mn : Int) (mx : Int) (.slice (some ⟨b, off, none⟩) 1 c)) ∧ AtG wq bq 4 (barr F (xs.length + 1)) ∧ AtG wq bn 4 (barr G (xs.length + 1)) ∧ ∃ h, AtG wq (w.heap.size + 1) 4 (barr h (xs.length + 1)) ∧ (∀ j, j < q → h j = (g j || (F j && true))) ∧ ∀ j, q ≤ j → h j = g j) (fun i _ => xs.length + 1 - (intOf i).toNat)
            case atStart => exact ⟨0, Nat.zero_le _, rfl, HB5.out, HA5.out, HQ5.out, HN5.out, g, HO5.out, fun j h => absurd h (Nat.not_lt_zero _), by first | exact fun _ _ => rfl | trivial⟩
            case round =>
              obtain ⟨q, hq, rfl, hb, ha, hr, hnn, h, hh, h1, h2⟩ := hrel
              have HBq := Lib.hid hb; have HAq := Lib.hid ha; have HRq := Lib.hid hr; have HNq := Lib.hid hnn; have HHq := Lib.hid hh; have H1 := Lib.hid h1; have H2 := Lib.hid h2
              have n5 : wr.cell? ⟨w.heap.size, 5, none⟩ = some (.int .i64 (mn : Int)) := ha.cell 5 _ rfl
              clear hb ha hr hnn hh h1 h2
              by_cases hltq : q < xs.length + 1
              · have hqI : (q : Int) < (xs.length : Int) + 1 := by omega
                have r1 := HRq.out.bool q hltq
                have o1 := HHq.out.bool q hltq
                have z1 := HHq.out.frozen q
                have hh2 := H2.out q (Nat.le_refl _)
                cases hgq : h q with
                | true =>
                  rw [hgq] at o1
                  go_wp2_with fail
                  refine ⟨⟨q + 1, by omega, by go_num, HBq.out.setCell (by simp) _, HAq.out.far (p := ⟨w.heap.size + 1, q, none⟩) (by show w.heap.size ≠ w.heap.size + 1; omega) _, HRq.out.far (p := ⟨w.heap.size + 1, q, none⟩) HNE.out _, HNq.out.far (p := ⟨w.heap.size + 1, q, none⟩) HNN.out _, updB h q true, HHq.out.setB q true, ?_, ?_⟩, by simp [intOf]; omega⟩
                  · intro j hj
                    unfold updB
                    by_cases e : j = q
                    · subst e; rw [if_pos rfl, ← hh2, hgq]; rfl
                    · rw [if_neg e]; exact H1.out j (by omega)
                  · intro j hj
                    unfold updB
                    rw [if_neg (by omega)]; exact H2.out j (by omega)
                | false =>
                  rw [hgq] at o1
                  cases hfq : F q with
                  | false =>
                    rw [hfq] at r1
                    go_wp2_with fail
                    refine ⟨⟨q + 1, by omega, by go_num, HBq.out.setCell (by simp) _, HAq.out.far (p := ⟨w.heap.size + 1, q, none⟩) (by show w.heap.size ≠ w.heap.size + 1; omega) _, HRq.out.far (p := ⟨w.heap.size + 1, q, none⟩) HNE.out _, HNq.out.far (p := ⟨w.heap.size + 1, q, none⟩) HNN.out _, updB h q false, HHq.out.setB q false, ?_, ?_⟩, by simp [intOf]; omega⟩
                    · intro j hj
                      unfold updB
                      by_cases e : j = q
                      · subst e; rw [if_pos rfl, ← hh2, hgq, hfq]; rfl
                      · rw [if_neg e]; exact H1.out j (by omega)
                    · intro j hj
                      unfold updB
                      rw [if_neg (by omega)]; exact H2.out j (by omega)
                  | true =>
                    rw [hfq] at r1
                    go_wp2_with fail
                    refine ⟨⟨q + 1, by omega, by go_num, HBq.out.setCell (by simp) _, HAq.out.far (p := ⟨w.heap.size + 1, q, none⟩) (by show w.heap.size ≠ w.heap.size + 1; omega) _, HRq.out.far (p := ⟨w.heap.size + 1, q, none⟩) HNE.out _, HNq.out.far (p := ⟨w.heap.size + 1, q, none⟩) HNN.out _, updB h q (true), HHq.out.setB q (true), ?_, ?_⟩, by simp [intOf]; omega⟩
                    · intro j hj
                      unfold updB
                      by_cases e : j = q
                      · subst e; rw [if_pos rfl, ← hh2, hgq, hfq]; rfl
                      · rw [if_neg e]; exact H1.out j (by omega)
                    · intro j hj
                      unfold updB
                      rw [if_neg (by omega)]; exact H2.out j (by omega)
              · obtain rfl : q = xs.length + 1 := by omega
                have H1' : Hid (∀ i, i ≤ xs.length → h i = (g i || (F i && true))) := Lib.hid (fun i hi => H1.out i (by omega))
                clear H1 H2 n5 hltq
                go_wp2_with fail
                go_returns
                refine ⟨HBq.out, w.heap.size + 1, h, rfl, HHq.out, .inr (by omega), fun i hi => ?_⟩
                rw [H1'.out i hi, Bool.and_true, Bool.or_eq_true, HGI.out i hi, HFI.out i hi]
                exact (HSTOP.out i).symm
          · have hmtI : ¬ (mn : Int) ≤ (t : Int) := by omega
            go_wp2_with fail
            go_loopw [132] (fun i wq => ∃ q : Nat, q ≤ xs.length + 1 ∧ i = .int .i64 q ∧ Below w.heap.size w wq ∧ AtG wq w.heap.size 29 (nodeC 4 emp (mn : Int) (mx : Int) (.slice (some ⟨b, off, none⟩) 1 c)) ∧ AtG wq bq 4 (barr F (xs.length + 1)) ∧ AtG wq bn 4 (barr G (xs.length + 1)) ∧ ∃ h, AtG wq (w.heap.size + 1) 4 (barr h (xs.length + 1)) ∧ (∀ j, j < q → h j = (g j || (F j && true))) ∧ ∀ j, q ≤ j → h j = g j) (fun i _ => xs.length + 1 - (intOf i).toNat)
            case atStart => exact ⟨0, Nat.zero_le _, rfl, HB5.out, HA5.out, HQ5.out, HN5.out, g, HO5.out, fun j h => absurd h (Nat.not_lt_zero _), by first | exact fun _ _ => rfl | trivial⟩
            case round =>
              obtain ⟨q, hq, rfl, hb, ha, hr, hnn, h, hh, h1, h2⟩ := hrel
              have HBq := Lib.hid hb; have HAq := Lib.hid ha; have HRq := Lib.hid hr; have HNq := Lib.hid hnn; have HHq := Lib.hid hh; have H1 := Lib.hid h1; have H2 := Lib.hid h2
              have n5 : wr.cell? ⟨w.heap.size, 5, none⟩ = some (.int .i64 (mn : Int)) := ha.cell 5 _ rfl
              clear hb ha hr hnn hh h1 h2
              by_cases hltq : q < xs.length + 1
              · have hqI : (q : Int) < (xs.length : Int) + 1 := by omega
                have r1 := HRq.out.bool q hltq
                have o1 := HHq.out.bool q hltq
                have z1 := HHq.out.frozen q
                have hh2 := H2.out q (Nat.le_refl _)
                cases hgq : h q with
                | true =>
                  rw [hgq] at o1
                  go_wp2_with fail
                  refine ⟨⟨q + 1, by omega, by go_num, HBq.out.setCell (by simp) _, HAq.out.far (p := ⟨w.heap.size + 1, q, none⟩) (by show w.heap.size ≠ w.heap.size + 1; omega) _, HRq.out.far (p := ⟨w.heap.size + 1, q, none⟩) HNE.out _, HNq.out.far (p := ⟨w.heap.size + 1, q, none⟩) HNN.out _, updB h q true, HHq.out.setB q true, ?_, ?_⟩, by simp [intOf]; omega⟩
                  · intro j hj
                    unfold updB
                    by_cases e : j = q
                    · subst e; rw [if_pos rfl, ← hh2, hgq]; rfl
                    · rw [if_neg e]; exact H1.out j (by omega)
                  · intro j hj
                    unfold updB
                    rw [if_neg (by omega)]; exact H2.out j (by omega)
                | false =>
                  rw [hgq] at o1
                  cases hfq : F q with
                  | false =>
                    rw [hfq] at r1
                    go_wp2_with fail
                    refine ⟨⟨q + 1, by omega, by go_num, HBq.out.setCell (by simp) _, HAq.out.far (p := ⟨w.heap.size + 1, q, none⟩) (by show w.heap.size ≠ w.heap.size + 1; omega) _, HRq.out.far (p := ⟨w.heap.size + 1, q, none⟩) HNE.out _, HNq.out.far (p := ⟨w.heap.size + 1, q, none⟩) HNN.out _, updB h q false, HHq.out.setB q false, ?_, ?_⟩, by simp [intOf]; omega⟩
                    · intro j hj
                      unfold updB
                      by_cases e : j = q
                      · subst e; rw [if_pos rfl, ← hh2, hgq, hfq]; rfl
                      · rw [if_neg e]; exact H1.out j (by omega)
                    · intro j hj
                      unfold updB
                      rw [if_neg (by omega)]; exact H2.out j (by omega)
                  | true =>
                    rw [hfq] at r1
                    go_wp2_with fail
                    refine ⟨⟨q + 1, by omega, by go_num, HBq.out.setCell (by simp) _, HAq.out.far (p := ⟨w.heap.size + 1, q, none⟩) (by show w.heap.size ≠ w.heap.size + 1; omega) _, HRq.out.far (p := ⟨w.heap.size + 1, q, none⟩) HNE.out _, HNq.out.far (p := ⟨w.heap.size + 1, q, none⟩) HNN.out _, updB h q (true), HHq.out.setB q (true), ?_, ?_⟩, by simp [intOf]; omega⟩
                    · intro j hj
                      unfold updB
                      by_cases e : j = q
                      · subst e; rw [if_pos rfl, ← hh2, hgq, hfq]; rfl
                      · rw [if_neg e]; exact H1.out j (by omega)
                    · intro j hj
                      unfold updB
                      rw [if_neg (by omega)]; exact H2.out j (by omega)
              · obtain rfl : q = xs.length + 1 := by omega
                have H1' : Hid (∀ i, i ≤ xs.length → h i = (g i || (F i && true))) := Lib.hid (fun i hi => H1.out i (by omega))
                clear H1 H2 n5 hltq
                go_wp2_with fail
                go_returns
                refine ⟨HBq.out, w.heap.size + 1, h, rfl, HHq.out, .inr (by omega), fun i hi => ?_⟩
                rw [H1'.out i hi, Bool.and_true, Bool.or_eq_true, HGI.out i hi, HFI.out i hi]
                exact (HSTOP.out i).symm
        | false =>
          clear hst
          by_cases hmt : mn ≤ t
          · have hmtI : (mn : Int) ≤ (t : Int) := by omega
            have HNEXT : Hid (∀ i, i ≤ xs.length → ((∃ u, mn ≤ u ∧ u < t ∧ imgN R (InS xs.length S) u i) ∨ (F i && true) = true ↔ ∃ u, mn ≤ u ∧ u < t + 1 ∧ imgN R (InS xs.length S) u i)) := Lib.hid (fun i hi => by
              rw [Bool.and_true, HFI.out i hi]
              constructor
              · rintro (⟨u, a1, a2, a3⟩ | a3)
                · exact ⟨u, a1, by omega, a3⟩
                · exact ⟨t, hmt, by omega, a3⟩
              · rintro ⟨u, a1, a2, a3⟩
                by_cases e : u = t
                · subst e; exact .inr a3
                · exact .inl ⟨u, a1, by omega, a3⟩)
            go_wp2_with fail
            go_loopw [132] (fun i wq => ∃ q : Nat, q ≤ xs.length + 1 ∧ i = .int .i64 q ∧ Below w.heap.size w wq ∧ AtG wq w.heap.size 29 (nodeC 4 emp (mn : Int) (mx : Int) (.slice (some ⟨b, off, none⟩) 1 c)) ∧ AtG wq bq 4 (barr F (xs.length + 1)) ∧ AtG wq bn 4 (barr G (xs.length + 1)) ∧ ∃ h, AtG wq (w.heap.size + 1) 4 (barr h (xs.length + 1)) ∧ (∀ j, j < q → h j = (g j || (F j && true))) ∧ ∀ j, q ≤ j → h j = g j) (fun i _ => xs.length + 1 - (intOf i).toNat)
            case atStart => exact ⟨0, Nat.zero_le _, rfl, HB5.out, HA5.out, HQ5.out, HN5.out, g, HO5.out, fun j h => absurd h (Nat.not_lt_zero _), by first | exact fun _ _ => rfl | trivial⟩
            case round =>
              obtain ⟨q, hq, rfl, hb, ha, hr, hnn, h, hh, h1, h2⟩ := hrel
              have HBq := Lib.hid hb; have HAq := Lib.hid ha; have HRq := Lib.hid hr; have HNq := Lib.hid hnn; have HHq := Lib.hid hh; have H1 := Lib.hid h1; have H2 := Lib.hid h2
              have n5 : wr.cell? ⟨w.heap.size, 5, none⟩ = some (.int .i64 (mn : Int)) := ha.cell 5 _ rfl
              clear hb ha hr hnn hh h1 h2
              by_cases hltq : q < xs.length + 1
              · have hqI : (q : Int) < (xs.length : Int) + 1 := by omega
                have r1 := HRq.out.bool q hltq
                have o1 := HHq.out.bool q hltq
                have z1 := HHq.out.frozen q
                have hh2 := H2.out q (Nat.le_refl _)
                cases hgq : h q with
                | true =>
                  rw [hgq] at o1
                  go_wp2_with fail
                  refine ⟨⟨q + 1, by omega, by go_num, HBq.out.setCell (by simp) _, HAq.out.far (p := ⟨w.heap.size + 1, q, none⟩) (by show w.heap.size ≠ w.heap.size + 1; omega) _, HRq.out.far (p := ⟨w.heap.size + 1, q, none⟩) HNE.out _, HNq.out.far (p := ⟨w.heap.size + 1, q, none⟩) HNN.out _, updB h q true, HHq.out.setB q true, ?_, ?_⟩, by simp [intOf]; omega⟩
                  · intro j hj
                    unfold updB
                    by_cases e : j = q
                    · subst e; rw [if_pos rfl, ← hh2, hgq]; rfl
                    · rw [if_neg e]; exact H1.out j (by omega)
                  · intro j hj
                    unfold updB
                    rw [if_neg (by omega)]; exact H2.out j (by omega)
                | false =>
                  rw [hgq] at o1
                  cases hfq : F q with
                  | false =>
                    rw [hfq] at r1
                    go_wp2_with fail
                    refine ⟨⟨q + 1, by omega, by go_num, HBq.out.setCell (by simp) _, HAq.out.far (p := ⟨w.heap.size + 1, q, none⟩) (by show w.heap.size ≠ w.heap.size + 1; omega) _, HRq.out.far (p := ⟨w.heap.size + 1, q, none⟩) HNE.out _, HNq.out.far (p := ⟨w.heap.size + 1, q, none⟩) HNN.out _, updB h q false, HHq.out.setB q false, ?_, ?_⟩, by simp [intOf]; omega⟩
                    · intro j hj
                      unfold updB
                      by_cases e : j = q
                      · subst e; rw [if_pos rfl, ← hh2, hgq, hfq]; rfl
                      · rw [if_neg e]; exact H1.out j (by omega)
                    · intro j hj
                      unfold updB
                      rw [if_neg (by omega)]; exact H2.out j (by omega)
                  | true =>
                    rw [hfq] at r1
                    go_wp2_with fail
                    refine ⟨⟨q + 1, by omega, by go_num, HBq.out.setCell (by simp) _, HAq.out.far (p := ⟨w.heap.size + 1, q, none⟩) (by show w.heap.size ≠ w.heap.size + 1; omega) _, HRq.out.far (p := ⟨w.heap.size + 1, q, none⟩) HNE.out _, HNq.out.far (p := ⟨w.heap.size + 1, q, none⟩) HNN.out _, updB h q (true), HHq.out.setB q (true), ?_, ?_⟩, by simp [intOf]; omega⟩
                    · intro j hj
                      unfold updB
                      by_cases e : j = q
                      · subst e; rw [if_pos rfl, ← hh2, hgq, hfq]; rfl
                      · rw [if_neg e]; exact H1.out j (by omega)
                    · intro j hj
                      unfold updB
                      rw [if_neg (by omega)]; exact H2.out j (by omega)
              · obtain rfl : q = xs.length + 1 := by omega
                have H1' : Hid (∀ i, i ≤ xs.length → h i = (g i || (F i && true))) := Lib.hid (fun i hi => H1.out i (by omega))
                clear H1 H2 n5 hltq
                go_wp2_with fail
                exact ⟨⟨t + 1, by have := HLT.out; omega, bn, G, h, rfl, by go_num, HBq.out, HAq.out, HNq.out, HNN.out, HHq.out, HGN.out, fun i hi => by
                  rw [H1'.out i hi, Bool.or_eq_true, HGI.out i hi]
                  exact HNEXT.out i hi⟩, by simp [intOf]; have := HLT.out; omega⟩
          · have hmtI : ¬ (mn : Int) ≤ (t : Int) := by omega
            have HNEXT : Hid (∀ i, i ≤ xs.length → ((∃ u, mn ≤ u ∧ u < t ∧ imgN R (InS xs.length S) u i) ∨ (F i && false) = true ↔ ∃ u, mn ≤ u ∧ u < t + 1 ∧ imgN R (InS xs.length S) u i)) := Lib.hid (fun i hi => by
              constructor
              · rintro (⟨u, a1, a2, a3⟩ | a3)
                · exact ⟨u, a1, by omega, a3⟩
                · simp at a3
              · rintro ⟨u, a1, a2, a3⟩
                exact absurd a1 (by omega))
            go_wp2_with fail
            go_loopw [132] (fun i wq => ∃ q : Nat, q ≤ xs.length + 1 ∧ i = .int .i64 q ∧ Below w.heap.size w wq ∧ AtG wq w.heap.size 29 (nodeC 4 emp (mn : Int) (mx : Int) (.slice (some ⟨b, off, none⟩) 1 c)) ∧ AtG wq bq 4 (barr F (xs.length + 1)) ∧ AtG wq bn 4 (barr G (xs.length + 1)) ∧ ∃ h, AtG wq (w.heap.size + 1) 4 (barr h (xs.length + 1)) ∧ (∀ j, j < q → h j = (g j || (F j && false))) ∧ ∀ j, q ≤ j → h j = g j) (fun i _ => xs.length + 1 - (intOf i).toNat)
            case atStart => exact ⟨0, Nat.zero_le _, rfl, HB5.out, HA5.out, HQ5.out, HN5.out, g, HO5.out, fun j h => absurd h (Nat.not_lt_zero _), by first | exact fun _ _ => rfl | trivial⟩
            case round =>
              obtain ⟨q, hq, rfl, hb, ha, hr, hnn, h, hh, h1, h2⟩ := hrel
              have HBq := Lib.hid hb; have HAq := Lib.hid ha; have HRq := Lib.hid hr; have HNq := Lib.hid hnn; have HHq := Lib.hid hh; have H1 := Lib.hid h1; have H2 := Lib.hid h2
              have n5 : wr.cell? ⟨w.heap.size, 5, none⟩ = some (.int .i64 (mn : Int)) := ha.cell 5 _ rfl
              clear hb ha hr hnn hh h1 h2
              by_cases hltq : q < xs.length + 1
              · have hqI : (q : Int) < (xs.length : Int) + 1 := by omega
                have r1 := HRq.out.bool q hltq
                have o1 := HHq.out.bool q hltq
                have z1 := HHq.out.frozen q
                have hh2 := H2.out q (Nat.le_refl _)
                cases hgq : h q with
                | true =>
                  rw [hgq] at o1
                  go_wp2_with fail
                  refine ⟨⟨q + 1, by omega, by go_num, HBq.out.setCell (by simp) _, HAq.out.far (p := ⟨w.heap.size + 1, q, none⟩) (by show w.heap.size ≠ w.heap.size + 1; omega) _, HRq.out.far (p := ⟨w.heap.size + 1, q, none⟩) HNE.out _, HNq.out.far (p := ⟨w.heap.size + 1, q, none⟩) HNN.out _, updB h q true, HHq.out.setB q true, ?_, ?_⟩, by simp [intOf]; omega⟩
                  · intro j hj
                    unfold updB
                    by_cases e : j = q
                    · subst e; rw [if_pos rfl, ← hh2, hgq]; rfl
                    · rw [if_neg e]; exact H1.out j (by omega)
                  · intro j hj
                    unfold updB
                    rw [if_neg (by omega)]; exact H2.out j (by omega)
                | false =>
                  rw [hgq] at o1
                  cases hfq : F q with
                  | false =>
                    rw [hfq] at r1
                    go_wp2_with fail
                    refine ⟨⟨q + 1, by omega, by go_num, HBq.out.setCell (by simp) _, HAq.out.far (p := ⟨w.heap.size + 1, q, none⟩) (by show w.heap.size ≠ w.heap.size + 1; omega) _, HRq.out.far (p := ⟨w.heap.size + 1, q, none⟩) HNE.out _, HNq.out.far (p := ⟨w.heap.size + 1, q, none⟩) HNN.out _, updB h q false, HHq.out.setB q false, ?_, ?_⟩, by simp [intOf]; omega⟩
                    · intro j hj
                      unfold updB
                      by_cases e : j = q
                      · subst e; rw [if_pos rfl, ← hh2, hgq, hfq]; rfl
                      · rw [if_neg e]; exact H1.out j (by omega)
                    · intro j hj
                      unfold updB
                      rw [if_neg (by omega)]; exact H2.out j (by omega)
                  | true =>
                    rw [hfq] at r1
                    go_wp2_with fail
                    refine ⟨⟨q + 1, by omega, by go_num, HBq.out.setCell (by simp) _, HAq.out.far (p := ⟨w.heap.size + 1, q, none⟩) (by show w.heap.size ≠ w.heap.size + 1; omega) _, HRq.out.far (p := ⟨w.heap.size + 1, q, none⟩) HNE.out _, HNq.out.far (p := ⟨w.heap.size + 1, q, none⟩) HNN.out _, updB h q (false), HHq.out.setB q (false), ?_, ?_⟩, by simp [intOf]; omega⟩
                    · intro j hj
                      unfold updB
                      by_cases e : j = q
                      · subst e; rw [if_pos rfl, ← hh2, hgq, hfq]; rfl
                      · rw [if_neg e]; exact H1.out j (by omega)
                    · intro j hj
                      unfold updB
                      rw [if_neg (by omega)]; exact H2.out j (by omega)
              · obtain rfl : q = xs.length + 1 := by omega
                have H1' : Hid (∀ i, i ≤ xs.length → h i = (g i || (F i && false))) := Lib.hid (fun i hi => H1.out i (by omega))
                clear H1 H2 n5 hltq
                go_wp2_with fail
                exact ⟨⟨t + 1, by have := HLT.out; omega, bn, G, h, rfl, by go_num, HBq.out, HAq.out, HNq.out, HNN.out, HHq.out, HGN.out, fun i hi => by
                  rw [H1'.out i hi, Bool.or_eq_true, HGI.out i hi]
                  exact HNEXT.out i hi⟩, by simp [intOf]; have := HLT.out; omega⟩
      | false =>
        have HSTOP : Hid (∀ i, (∃ u, mn ≤ u ∧ u ≤ mx ∧ imgN R (InS xs.length S) u i) ↔ ((∃ u, mn ≤ u ∧ u < t ∧ imgN R (InS xs.length S) u i) ∨ imgN R (InS xs.length S) t i)) := Lib.hid (rep_stop (fun i => by
          have hle : ∀ t i, imgN R (InS xs.length S) t i → i ≤ xs.length := HLE.out
          have hno : ∀ j, ¬ imgN R (InS xs.length S) t j := fun j hj => by
            have h3 := hle t j hj
            have := hr.2 ⟨j, by omega, (HFI.out j h3).2 hj⟩
            cases this
          exact ⟨fun h => absurd h (img_none hno i), fun h => absurd h (hno i)⟩) (by omega) HMN.out)
        clear hr n6 n7
        obtain ⟨bn, hbn⟩ : ∃ bn, bn = bq := ⟨_, rfl⟩
        obtain ⟨G, hG⟩ : ∃ G, G = F := ⟨_, rfl⟩
        have HEQ := Lib.hid (equalB_any bq bq (xs.length + 1) F F _ (by omega) HQ.out HQ.out)
        have HNN : Hid (bn ≠ w.heap.size + 1) := Lib.hid (by rw [hbn]; exact HNE.out)
        go_wp2_with fail
        refine (HEQ.out).mono ?_
        rintro e9 w5 ⟨hb5, st, rfl, hst⟩
        obtain rfl : st = true := hst.2 (by first | exact fun _ _ => rfl | trivial | simp)
        have HB5 := Lib.hid (HB.out.trans (hb5.mono HB.out.size)); have HA5 := Lib.hid (HAq.out.below hb5); have HQ5 := Lib.hid (HQ.out.below hb5); have HO5 := Lib.hid (HO.out.below hb5)
        have HN5 : Hid (AtG w5 bn 4 (barr G (xs.length + 1))) := Lib.hid (by rw [hbn, hG]; exact HQ5.out)
        clear hb5 hst HEQ HCO hbn hG
        by_cases hmt : mn ≤ t
        · have hmtI : (mn : Int) ≤ (t : Int) := by omega
          go_wp2_with fail
          go_loopw [132] (fun i wq => ∃ q : Nat, q ≤ xs.length + 1 ∧ i = .int .i64 q ∧ Below w.heap.size w wq ∧ AtG wq w.heap.size 29 (nodeC 4 emp (mn : Int) (mx : Int) (.slice (some ⟨b, off, none⟩) 1 c)) ∧ AtG wq bq 4 (barr F (xs.length + 1)) ∧ AtG wq bn 4 (barr G (xs.length + 1)) ∧ ∃ h, AtG wq (w.heap.size + 1) 4 (barr h (xs.length + 1)) ∧ (∀ j, j < q → h j = (g j || (F j && true))) ∧ ∀ j, q ≤ j → h j = g j) (fun i _ => xs.length + 1 - (intOf i).toNat)
          case atStart => exact ⟨0, Nat.zero_le _, rfl, HB5.out, HA5.out, HQ5.out, HN5.out, g, HO5.out, fun j h => absurd h (Nat.not_lt_zero _), by first | exact fun _ _ => rfl | trivial⟩
          case round =>
            obtain ⟨q, hq, rfl, hb, ha, hr, hnn, h, hh, h1, h2⟩ := hrel
            have HBq := Lib.hid hb; have HAq := Lib.hid ha; have HRq := Lib.hid hr; have HNq := Lib.hid hnn; have HHq := Lib.hid hh; have H1 := Lib.hid h1; have H2 := Lib.hid h2
            have n5 : wr.cell? ⟨w.heap.size, 5, none⟩ = some (.int .i64 (mn : Int)) := ha.cell 5 _ rfl
            clear hb ha hr hnn hh h1 h2
            by_cases hltq : q < xs.length + 1
            · have hqI : (q : Int) < (xs.length : Int) + 1 := by omega
              have r1 := HRq.out.bool q hltq
              have o1 := HHq.out.bool q hltq
              have z1 := HHq.out.frozen q
              have hh2 := H2.out q (Nat.le_refl _)
              cases hgq : h q with
              | true =>
                rw [hgq] at o1
                go_wp2_with fail
                refine ⟨⟨q + 1, by omega, by go_num, HBq.out.setCell (by simp) _, HAq.out.far (p := ⟨w.heap.size + 1, q, none⟩) (by show w.heap.size ≠ w.heap.size + 1; omega) _, HRq.out.far (p := ⟨w.heap.size + 1, q, none⟩) HNE.out _, HNq.out.far (p := ⟨w.heap.size + 1, q, none⟩) HNN.out _, updB h q true, HHq.out.setB q true, ?_, ?_⟩, by simp [intOf]; omega⟩
                · intro j hj
                  unfold updB
                  by_cases e : j = q
                  · subst e; rw [if_pos rfl, ← hh2, hgq]; rfl
                  · rw [if_neg e]; exact H1.out j (by omega)
                · intro j hj
                  unfold updB
                  rw [if_neg (by omega)]; exact H2.out j (by omega)
              | false =>
                rw [hgq] at o1
                cases hfq : F q with
                | false =>
                  rw [hfq] at r1
                  go_wp2_with fail
                  refine ⟨⟨q + 1, by omega, by go_num, HBq.out.setCell (by simp) _, HAq.out.far (p := ⟨w.heap.size + 1, q, none⟩) (by show w.heap.size ≠ w.heap.size + 1; omega) _, HRq.out.far (p := ⟨w.heap.size + 1, q, none⟩) HNE.out _, HNq.out.far (p := ⟨w.heap.size + 1, q, none⟩) HNN.out _, updB h q false, HHq.out.setB q false, ?_, ?_⟩, by simp [intOf]; omega⟩
                  · intro j hj
                    unfold updB
                    by_cases e : j = q
                    · subst e; rw [if_pos rfl, ← hh2, hgq, hfq]; rfl
                    · rw [if_neg e]; exact H1.out j (by omega)
                  · intro j hj
                    unfold updB
                    rw [if_neg (by omega)]; exact H2.out j (by omega)
                | true =>
                  rw [hfq] at r1
                  go_wp2_with fail
                  refine ⟨⟨q + 1, by omega, by go_num, HBq.out.setCell (by simp) _, HAq.out.far (p := ⟨w.heap.size + 1, q, none⟩) (by show w.heap.size ≠ w.heap.size + 1; omega) _, HRq.out.far (p := ⟨w.heap.size + 1, q, none⟩) HNE.out _, HNq.out.far (p := ⟨w.heap.size + 1, q, none⟩) HNN.out _, updB h q (true), HHq.out.setB q (true), ?_, ?_⟩, by simp [intOf]; omega⟩
                  · intro j hj
                    unfold updB
                    by_cases e : j = q
                    · subst e; rw [if_pos rfl, ← hh2, hgq, hfq]; rfl
                    · rw [if_neg e]; exact H1.out j (by omega)
                  · intro j hj
                    unfold updB
                    rw [if_neg (by omega)]; exact H2.out j (by omega)
            · obtain rfl : q = xs.length + 1 := by omega
              have H1' : Hid (∀ i, i ≤ xs.length → h i = (g i || (F i && true))) := Lib.hid (fun i hi => H1.out i (by omega))
              clear H1 H2 n5 hltq
              go_wp2_with fail
              go_returns
              refine ⟨HBq.out, w.heap.size + 1, h, rfl, HHq.out, .inr (by omega), fun i hi => ?_⟩
              rw [H1'.out i hi, Bool.and_true, Bool.or_eq_true, HGI.out i hi, HFI.out i hi]
              exact (HSTOP.out i).symm
        · have hmtI : ¬ (mn : Int) ≤ (t : Int) := by omega
          go_wp2_with fail
          go_loopw [132] (fun i wq => ∃ q : Nat, q ≤ xs.length + 1 ∧ i = .int .i64 q ∧ Below w.heap.size w wq ∧ AtG wq w.heap.size 29 (nodeC 4 emp (mn : Int) (mx : Int) (.slice (some ⟨b, off, none⟩) 1 c)) ∧ AtG wq bq 4 (barr F (xs.length + 1)) ∧ AtG wq bn 4 (barr G (xs.length + 1)) ∧ ∃ h, AtG wq (w.heap.size + 1) 4 (barr h (xs.length + 1)) ∧ (∀ j, j < q → h j = (g j || (F j && true))) ∧ ∀ j, q ≤ j → h j = g j) (fun i _ => xs.length + 1 - (intOf i).toNat)
          case atStart => exact ⟨0, Nat.zero_le _, rfl, HB5.out, HA5.out, HQ5.out, HN5.out, g, HO5.out, fun j h => absurd h (Nat.not_lt_zero _), by first | exact fun _ _ => rfl | trivial⟩
          case round =>
            obtain ⟨q, hq, rfl, hb, ha, hr, hnn, h, hh, h1, h2⟩ := hrel
            have HBq := Lib.hid hb; have HAq := Lib.hid ha; have HRq := Lib.hid hr; have HNq := Lib.hid hnn; have HHq := Lib.hid hh; have H1 := Lib.hid h1; have H2 := Lib.hid h2
            have n5 : wr.cell? ⟨w.heap.size, 5, none⟩ = some (.int .i64 (mn : Int)) := ha.cell 5 _ rfl
            clear hb ha hr hnn hh h1 h2
            by_cases hltq : q < xs.length + 1
            · have hqI : (q : Int) < (xs.length : Int) + 1 := by omega
              have r1 := HRq.out.bool q hltq
              have o1 := HHq.out.bool q hltq
              have z1 := HHq.out.frozen q
              have hh2 := H2.out q (Nat.le_refl _)
              cases hgq : h q with
              | true =>
                rw [hgq] at o1
                go_wp2_with fail
                refine ⟨⟨q + 1, by omega, by go_num, HBq.out.setCell (by simp) _, HAq.out.far (p := ⟨w.heap.size + 1, q, none⟩) (by show w.heap.size ≠ w.heap.size + 1; omega) _, HRq.out.far (p := ⟨w.heap.size + 1, q, none⟩) HNE.out _, HNq.out.far (p := ⟨w.heap.size + 1, q, none⟩) HNN.out _, updB h q true, HHq.out.setB q true, ?_, ?_⟩, by simp [intOf]; omega⟩
                · intro j hj
                  unfold updB
                  by_cases e : j = q
                  · subst e; rw [if_pos rfl, ← hh2, hgq]; rfl
                  · rw [if_neg e]; exact H1.out j (by omega)
                · intro j hj
                  unfold updB
                  rw [if_neg (by omega)]; exact H2.out j (by omega)
              | false =>
                rw [hgq] at o1
                cases hfq : F q with
                | false =>
                  rw [hfq] at r1
                  go_wp2_with fail
                  refine ⟨⟨q + 1, by omega, by go_num, HBq.out.setCell (by simp) _, HAq.out.far (p := ⟨w.heap.size + 1, q, none⟩) (by show w.heap.size ≠ w.heap.size + 1; omega) _, HRq.out.far (p := ⟨w.heap.size + 1, q, none⟩) HNE.out _, HNq.out.far (p := ⟨w.heap.size + 1, q, none⟩) HNN.out _, updB h q false, HHq.out.setB q false, ?_, ?_⟩, by simp [intOf]; omega⟩
                  · intro j hj
                    unfold updB
                    by_cases e : j = q
                    · subst e; rw [if_pos rfl, ← hh2, hgq, hfq]; rfl
                    · rw [if_neg e]; exact H1.out j (by omega)
                  · intro j hj
                    unfold updB
                    rw [if_neg (by omega)]; exact H2.out j (by omega)
                | true =>
                  rw [hfq] at r1
                  go_wp2_with fail
                  refine ⟨⟨q + 1, by omega, by go_num, HBq.out.setCell (by simp) _, HAq.out.far (p := ⟨w.heap.size + 1, q, none⟩) (by show w.heap.size ≠ w.heap.size + 1; omega) _, HRq.out.far (p := ⟨w.heap.size + 1, q, none⟩) HNE.out _, HNq.out.far (p := ⟨w.heap.size + 1, q, none⟩) HNN.out _, updB h q (true), HHq.out.setB q (true), ?_, ?_⟩, by simp [intOf]; omega⟩
                  · intro j hj
                    unfold updB
                    by_cases e : j = q
                    · subst e; rw [if_pos rfl, ← hh2, hgq, hfq]; rfl
                    · rw [if_neg e]; exact H1.out j (by omega)
                  · intro j hj
                    unfold updB
                    rw [if_neg (by omega)]; exact H2.out j (by omega)
            · obtain rfl : q = xs.length + 1 := by omega
              have H1' : Hid (∀ i, i ≤ xs.length → h i = (g i || (F i && true))) := Lib.hid (fun i hi => H1.out i (by omega))
              clear H1 H2 n5 hltq
              go_wp2_with fail
              go_returns
              refine ⟨HBq.out, w.heap.size + 1, h, rfl, HHq.out, .inr (by omega), fun i hi => ?_⟩
              rw [H1'.out i hi, Bool.and_true, Bool.or_eq_true, HGI.out i hi, HFI.out i hi]
              exact (HSTOP.out i).symm
    · have htx : t = mx := by omega
      have hltI : ¬ (t : Int) < (mx : Int) := by omega
      have hmt : mn ≤ t := by have := HMN.out; omega
      have hmtI : (mn : Int) ≤ (t : Int) := by omega
      have HSTOP : Hid (∀ i, (∃ u, mn ≤ u ∧ u ≤ mx ∧ imgN R (InS xs.length S) u i) ↔ ((∃ u, mn ≤ u ∧ u < t ∧ imgN R (InS xs.length S) u i) ∨ imgN R (InS xs.length S) t i)) := Lib.hid (fun i => by
        constructor
        · rintro ⟨u, a1, a2, a3⟩
          by_cases e : u = t
          · subst e; exact .inr a3
          · exact .inl ⟨u, a1, by omega, a3⟩
        · rintro (⟨u, a1, a2, a3⟩ | a3)
          · exact ⟨u, a1, by omega, a3⟩
          · exact ⟨t, hmt, htm, a3⟩)
      obtain ⟨bn, hbn⟩ : ∃ bn, bn = bq := ⟨_, rfl⟩
      obtain ⟨G, hG⟩ : ∃ G, G = F := ⟨_, rfl⟩
      have HEQ := Lib.hid (equalB_any bq bq (xs.length + 1) F F _ (by omega) HQ.out HQ.out)
      have HNN : Hid (bn ≠ w.heap.size + 1) := Lib.hid (by rw [hbn]; exact HNE.out)
      go_wp2_with fail
      refine (HEQ.out).mono ?_
      rintro e9 w5 ⟨hb5, st, rfl, hst⟩
      obtain rfl : st = true := hst.2 (by first | exact fun _ _ => rfl | trivial | simp)
      have HB5 := Lib.hid (HB.out.trans (hb5.mono HB.out.size)); have HA5 := Lib.hid (HAq.out.below hb5); have HQ5 := Lib.hid (HQ.out.below hb5); have HO5 := Lib.hid (HO.out.below hb5)
      have HN5 : Hid (AtG w5 bn 4 (barr G (xs.length + 1))) := Lib.hid (by rw [hbn, hG]; exact HQ5.out)
      clear hb5 hst HEQ hbn hG n6 n7
      go_wp2_with fail
      go_loopw [132] (fun i wq => ∃ q : Nat, q ≤ xs.length + 1 ∧ i = .int .i64 q ∧ Below w.heap.size w wq ∧ AtG wq w.heap.size 29 (nodeC 4 emp (mn : Int) (mx : Int) (.slice (some ⟨b, off, none⟩) 1 c)) ∧ AtG wq bq 4 (barr F (xs.length + 1)) ∧ AtG wq bn 4 (barr G (xs.length + 1)) ∧ ∃ h, AtG wq (w.heap.size + 1) 4 (barr h (xs.length + 1)) ∧ (∀ j, j < q → h j = (g j || (F j && true))) ∧ ∀ j, q ≤ j → h j = g j) (fun i _ => xs.length + 1 - (intOf i).toNat)
      case atStart => exact ⟨0, Nat.zero_le _, rfl, HB5.out, HA5.out, HQ5.out, HN5.out, g, HO5.out, fun j h => absurd h (Nat.not_lt_zero _), by first | exact fun _ _ => rfl | trivial⟩
      case round =>
        obtain ⟨q, hq, rfl, hb, ha, hr, hnn, h, hh, h1, h2⟩ := hrel
        have HBq := Lib.hid hb; have HAq := Lib.hid ha; have HRq := Lib.hid hr; have HNq := Lib.hid hnn; have HHq := Lib.hid hh; have H1 := Lib.hid h1; have H2 := Lib.hid h2
        have n5 : wr.cell? ⟨w.heap.size, 5, none⟩ = some (.int .i64 (mn : Int)) := ha.cell 5 _ rfl
        clear hb ha hr hnn hh h1 h2
        by_cases hltq : q < xs.length + 1
        · have hqI : (q : Int) < (xs.length : Int) + 1 := by omega
          have r1 := HRq.out.bool q hltq
          have o1 := HHq.out.bool q hltq
          have z1 := HHq.out.frozen q
          have hh2 := H2.out q (Nat.le_refl _)
          cases hgq : h q with
          | true =>
            rw [hgq] at o1
            go_wp2_with fail
            refine ⟨⟨q + 1, by omega, by go_num, HBq.out.setCell (by simp) _, HAq.out.far (p := ⟨w.heap.size + 1, q, none⟩) (by show w.heap.size ≠ w.heap.size + 1; omega) _, HRq.out.far (p := ⟨w.heap.size + 1, q, none⟩) HNE.out _, HNq.out.far (p := ⟨w.heap.size + 1, q, none⟩) HNN.out _, updB h q true, HHq.out.setB q true, ?_, ?_⟩, by simp [intOf]; omega⟩
            · intro j hj
              unfold updB
              by_cases e : j = q
              · subst e; rw [if_pos rfl, ← hh2, hgq]; rfl
              · rw [if_neg e]; exact H1.out j (by omega)
            · intro j hj
              unfold updB
              rw [if_neg (by omega)]; exact H2.out j (by omega)
          | false =>
            rw [hgq] at o1
            cases hfq : F q with
            | false =>
              rw [hfq] at r1
              go_wp2_with fail
              refine ⟨⟨q + 1, by omega, by go_num, HBq.out.setCell (by simp) _, HAq.out.far (p := ⟨w.heap.size + 1, q, none⟩) (by show w.heap.size ≠ w.heap.size + 1; omega) _, HRq.out.far (p := ⟨w.heap.size + 1, q, none⟩) HNE.out _, HNq.out.far (p := ⟨w.heap.size + 1, q, none⟩) HNN.out _, updB h q false, HHq.out.setB q false, ?_, ?_⟩, by simp [intOf]; omega⟩
              · intro j hj
                unfold updB
                by_cases e : j = q
                · subst e; rw [if_pos rfl, ← hh2, hgq, hfq]; rfl
                · rw [if_neg e]; exact H1.out j (by omega)
              · intro j hj
                unfold updB
                rw [if_neg (by omega)]; exact H2.out j (by omega)
            | true =>
              rw [hfq] at r1
              go_wp2_with fail
              refine ⟨⟨q + 1, by omega, by go_num, HBq.out.setCell (by simp) _, HAq.out.far (p := ⟨w.heap.size + 1, q, none⟩) (by show w.heap.size ≠ w.heap.size + 1; omega) _, HRq.out.far (p := ⟨w.heap.size + 1, q, none⟩) HNE.out _, HNq.out.far (p := ⟨w.heap.size + 1, q, none⟩) HNN.out _, updB h q (true), HHq.out.setB q (true), ?_, ?_⟩, by simp [intOf]; omega⟩
              · intro j hj
                unfold updB
                by_cases e : j = q
                · subst e; rw [if_pos rfl, ← hh2, hgq, hfq]; rfl
                · rw [if_neg e]; exact H1.out j (by omega)
              · intro j hj
                unfold updB
                rw [if_neg (by omega)]; exact H2.out j (by omega)
        · obtain rfl : q = xs.length + 1 := by omega
          have H1' : Hid (∀ i, i ≤ xs.length → h i = (g i || (F i && true))) := Lib.hid (fun i hi => H1.out i (by omega))
          clear H1 H2 n5 hltq
          go_wp2_with fail
          go_returns
          refine ⟨HBq.out, w.heap.size + 1, h, rfl, HHq.out, .inr (by omega), fun i hi => ?_⟩
          rw [H1'.out i hi, Bool.and_true, Bool.or_eq_true, HGI.out i hi, HFI.out i hi]
          exact (HSTOP.out i).symm
theorem ends_any (p : Pat) : Wf p → EndsC p := by
  refine Pat.ind (M := fun p => Wf p → EndsC p) ?_ ?_ ?_ ?_ p
  · exact fun f _ => ends_one f
  · intro l ih hw
    cases hw with | cat _ h h2 h3 => exact ends_cat l h3 fun p hp => ih p hp (h p hp)
  · intro l ih hw
    cases hw with | alt _ h h2 h3 => exact ends_alt l h3 fun p hp => ih p hp (h p hp)
  · intro mn mx p ih hw
    cases hw with | rep _ _ _ h h1 h2 h3 => exact ends_rep mn mx p h1 (by omega) (ih h)
end Go.Proofs.Ytofgkildlhcpdaa
/- The walk of lang.Has. -/
set_option linter.unusedVariables false
set_option linter.unusedSimpArgs false
namespace Go.Proofs.Ytofgkildlhcpdaa
open Go.RowKit Bt
set_option maxRecDepth 100000 in
set_option maxHeartbeats 1600000 in
theorem hasP_any (p : Pat) (hp : Wf p) (w : World) (a : Option Addr) (m c : Nat) (wv : Value) (xs : List Int) (hn : NAt w p.tree (.slice a m c)) (hx : RdB w wv xs) (hl : xs.length ≤ 1000) :
    Calls Try.prog 11 #[nodeV p.tree (.slice a m c), wv] w fun e w' => Below w.heap.size w w' ∧ ∃ r : Bool, e = .returned (.bool r) ∧ (r = true ↔ Mt (byt xs) xs.length p 0 xs.length) := by
  have hE := ends_any p hp
  unfold EndsC at hE
  rcases hpt : p.tree with ⟨op, f, mn, mx, kids⟩
  rw [hpt] at hn hE
  obtain ⟨A, wc, rfl⟩ := rdB_slice hx
  have hnI : (xs.length : Int) ≤ 1000 := by omega
  have hmk := make_one (P := Try.prog) 40 4 (.bool false) 1 Try.underlying40 infoBool rfl .i64 .i64 (xs.length + 1) (by omega) (by omega)
  rw [show ((xs.length + 1 : Nat) : Int) = (xs.length : Int) + 1 from by omega, barr_zero] at hmk
  obtain ⟨w0, hw0⟩ : ∃ w0 : World, w0 = (w.alloc (.cells (nodeC op f mn mx (.slice a m c)) 29)).alloc (.cells (barr (fun _ => false) (xs.length + 1)) 4) := ⟨_, rfl⟩
  have HA : Hid (AtG w0 w.heap.size 29 (nodeC op f mn mx (.slice a m c))) := Lib.hid (by rw [hw0]; exact (AtG.new _ _ _).alloc _)
  have HO : Hid (AtG w0 (w.heap.size + 1) 4 (barr (fun _ => false) (xs.length + 1))) := Lib.hid (by
    rw [hw0]
    have := AtG.new (w.alloc (.cells (nodeC op f mn mx (.slice a m c)) 29)) 4 (barr (fun _ => false) (xs.length + 1))
    simpa using this)
  have HB0 : Hid (Below w.heap.size w w0) := Lib.hid (by rw [hw0]; go_grown)
  have hw0' : (w.alloc (.cells (nodeC op f mn mx (.slice a m c)) 29)).alloc (.cells (barr (fun _ => false) (xs.length + 1)) 4) = w0 := hw0.symm
  clear hw0
  have HX := Lib.hid hx; have HN := Lib.hid hn
  have hE2 := fun w bf S h1 h2 h3 => hE w a m c (.slice A xs.length wc) xs bf S h1 h2 hl h3
  unfold nodeV at hE2 ⊢
  dsimp only at hE2 ⊢
  have HE := Lib.hid hE2
  have y0 := HO.out.frozen 0
  have o0 := HO.out.bool 0 (by omega)
  have HW1 : Hid (AtG (w0.setCell ⟨w.heap.size + 1, 0, none⟩ (.bool true)) (w.heap.size + 1) 4 (barr (updB (fun _ => false) 0 true) (xs.length + 1))) := Lib.hid (HO.out.setB 0 true)
  have HB1 : Hid (Below w.heap.size w (w0.setCell ⟨w.heap.size + 1, 0, none⟩ (.bool true))) := Lib.hid (HB0.out.setCell (by simp) _)
  have HA1 := Lib.hid (HA.out.far (p := ⟨w.heap.size + 1, 0, none⟩) (by show w.heap.size ≠ w.heap.size + 1; omega) (.bool true))
  clear hE hE2 hx hn
  have m0 : w0.cell? ⟨w.heap.size, 0, none⟩ = some (.int .i64 op) := HA.out.cell 0 _ rfl
  have m1 : w0.cell? ⟨w.heap.size, 1, none⟩ = some (.int .u64 ((wd f 0 : Nat) : Int)) := HA.out.cell 1 _ rfl
  have m2 : w0.cell? ⟨w.heap.size, 2, none⟩ = some (.int .u64 ((wd f 1 : Nat) : Int)) := HA.out.cell 2 _ rfl
  have m3 : w0.cell? ⟨w.heap.size, 3, none⟩ = some (.int .u64 ((wd f 2 : Nat) : Int)) := HA.out.cell 3 _ rfl
  have m4 : w0.cell? ⟨w.heap.size, 4, none⟩ = some (.int .u64 ((wd f 3 : Nat) : Int)) := HA.out.cell 4 _ rfl
  have m5 : w0.cell? ⟨w.heap.size, 5, none⟩ = some (.int .i64 mn) := HA.out.cell 5 _ rfl
  have m6 : w0.cell? ⟨w.heap.size, 6, none⟩ = some (.int .i64 mx) := HA.out.cell 6 _ rfl
  have m7 : w0.cell? ⟨w.heap.size, 7, none⟩ = some (.slice a m c) := HA.out.cell 7 _ rfl
  go_enter Try.func11, Try.ntmps11
  go_wp2_with fail
  refine (HE.out _ (w.heap.size + 1) (updB (fun _ => false) 0 true) (NAt.below HN.out HB1.out) (rdB_below HX.out HB1.out) HW1.out).mono ?_
  rintro e9 w9 ⟨hb9, b9, g9, rfl, hg9, _, hgi9⟩
  have HB9 := Lib.hid (HB1.out.trans (hb9.mono HB1.out.size))
  have r1 := hg9.bool xs.length (by omega)
  have HG := Lib.hid (hgi9 xs.length (Nat.le_refl _))
  clear hb9 hg9 hgi9 hw0' m0 m1 m2 m3 m4 m5 m6 m7 y0 o0 hmk
  go_wp2_with fail
  go_returns
  refine ⟨HB9.out, g9 xs.length, rfl, HG.out.trans ?_⟩
  constructor
  · rintro ⟨j, ⟨_, hj⟩, hm⟩
    have hj0 : j = 0 := by
      unfold updB at hj
      by_cases e : j = 0
      · exact e
      · rw [if_neg e] at hj; cases hj
    subst hj0; exact hm
  · intro hm
    exact ⟨0, ⟨Nat.zero_le _, by unfold updB; rw [if_pos rfl]⟩, hm⟩
end Go.Proofs.Ytofgkildlhcpdaa
/- The document's add: a list without doubles. -/
set_option linter.unusedVariables false
set_option linter.unusedSimpArgs false
namespace Go.Proofs.Ytofgkildlhcpdaa
open Go.RowKit Bt
def intL (L : List Nat) : List Value := L.map fun (k : Nat) => .int .i64 (k : Int)
theorem intL_len (L : List Nat) : (intL L).length = L.length := by unfold intL; simp
theorem intL_get (L : List Nat) (j : Nat) (h : j < L.length) : (intL L)[j]? = some (.int .i64 ((L[j] : Nat) : Int)) := by unfold intL; rw [List.getElem?_map, List.getElem?_eq_getElem h]; rfl
/-- a list of numbers, owned -/
def OwnL (w : World) (base : Nat) (v : Value) (L : List Nat) : Prop := w.ownsRow base 3 1 v L.length (intL L)
theorem OwnL.at {w : World} {base : Nat} {v : Value} {L : List Nat} (h : OwnL w base v L) : ∃ a c, v = .slice a L.length c ∧ ∀ j (hj : j < L.length), ∃ g, a = some ⟨g, 0, none⟩ ∧ L.length ≤ c ∧ w.cell? ⟨g, j, none⟩ = some (.int .i64 ((L[j] : Nat) : Int)) := by
  rcases own_cells h with ⟨rfl, h0⟩ | ⟨g, cap, rfl, h1, _, _, _, h2⟩
  · have : L.length = 0 := by rw [← intL_len, h0]; rfl
    exact ⟨none, 0, by rw [this], fun j hj => by omega⟩
  · exact ⟨_, cap, by rw [intL_len], fun j hj => ⟨g, rfl, by rw [← intL_len]; exact h1, h2 j _ (intL_get L j hj)⟩⟩
def addN (L : List Nat) (x : Nat) : List Nat := if x ∈ L then L else L ++ [x]
theorem mem_addN (L : List Nat) (x y : Nat) : y ∈ addN L x ↔ y ∈ L ∨ y = x := by
  unfold addN
  split
  · rename_i h
    exact ⟨.inl, fun h' => h'.elim id (fun e => by rw [e]; exact h)⟩
  · simp
theorem nodup_addN {L : List Nat} (h : L.Nodup) (x : Nat) : (addN L x).Nodup := by
  unfold addN
  split
  · exact h
  · rename_i hx
    rw [List.nodup_append]
    exact ⟨h, by simp, fun a ha b hb e => by simp at hb; subst hb; subst e; exact hx ha⟩
/-- what is different and below m is no more than m -/
theorem nodup_len {m : Nat} : ∀ {L : List Nat}, L.Nodup → (∀ x ∈ L, x < m) → L.length ≤ m := by
  induction m with
  | zero => intro L _ h; cases L with
    | nil => simp
    | cons a l => exact absurd (h a (by simp)) (by omega)
  | succ m ih =>
    intro L hn h
    have h1 : (L.erase m).Nodup := hn.erase m
    have h2 : ∀ x ∈ L.erase m, x < m := fun x hx => by
      have h3 := (hn.mem_erase_iff).1 hx
      have := h x h3.2
      omega
    have h3 := ih h1 h2
    by_cases hm : m ∈ L
    · have := List.length_erase_of_mem hm; omega
    · rw [List.erase_of_not_mem hm] at h3; omega
theorem infoInt : (Try.prog.info? 3).map (fun i => (i.zero, i.size, i.bytes)) = some (some (.int .i64 0), 1, 8) := by kernel_rfl
set_option maxRecDepth 100000 in
set_option maxHeartbeats 800000 in
theorem add_any (w : World) (base : Nat) (v : Value) (L : List Nat) (x : Nat) (h : OwnL w base v L) (hb : base ≤ w.heap.size) (hl : L.length ≤ 100000) (hx : x ≤ 1000000) :
    Calls Try.prog 52 #[v, .int .i64 (x : Int)] w fun e w' => ∃ v', e = .returned v' ∧ OwnL w' base v' (addN L x) ∧ Only (fun k => v.ownBlock = some k) w w' ∧ (v'.ownBlock = v.ownBlock ∨ ∃ k, v'.ownBlock = some k ∧ w.heap.size ≤ k) := by
  obtain ⟨a, c, rfl, hc⟩ := OwnL.at h
  have H := Lib.hid h; have HC := Lib.hid hc
  have hlI : (L.length : Int) ≤ 100000 := by omega
  have hxI : (x : Int) ≤ 1000000 := by omega
  clear h hc
  go_enter Try.func52, Try.ntmps52
  go_wp2_with fail
  go_loopw [5] (fun i wr => ∃ k : Nat, k ≤ L.length ∧ i = .int .i64 k ∧ wr = w ∧ ∀ j (hj : j < L.length), j < k → L[j] ≠ x) (fun i _ => L.length - (intOf i).toNat)
  case atStart => exact ⟨0, Nat.zero_le _, rfl, by first | rfl | trivial, fun j _ h => absurd h (Nat.not_lt_zero _)⟩
  case round =>
    obtain ⟨k, hk, rfl, hw, hno⟩ := hrel
    subst hw
    have HNO := Lib.hid hno; clear hno
    by_cases hlt : k < L.length
    · obtain ⟨g, rfl, hcap, hcell⟩ := HC.out k hlt
      by_cases hq : L[k] = x
      · have HQ : Hid (addN L x = L) := Lib.hid (by unfold addN; rw [if_pos (by rw [← hq]; exact List.getElem_mem hlt)])
        rw [hq] at hcell
        clear hq
        go_wp2_with fail
        go_returns
        exact ⟨_, rfl, by rw [HQ.out]; exact H.out, Only.refl _, .inl rfl⟩
      · have e1 : (((L[k] : Nat) : Int) == (x : Int)) = false := by rw [beq_eq_false_iff_ne]; omega
        have n1 : ¬ ((L[k] : Nat) : Int) = (x : Int) := by omega
        have n2 : ¬ L[k] = x := hq
        have HQ := Lib.hid hq
        clear hq
        go_wp2_with fail
        exact ⟨⟨k + 1, by omega, by go_num, by first | rfl | trivial, fun j hj hjk => by
          rcases Nat.lt_succ_iff_lt_or_eq.1 hjk with h1 | rfl
          · exact HNO.out j hj h1
          · exact HQ.out⟩, by simp [intOf]; omega⟩
    · have HQ : Hid (addN L x = L ++ [x]) := Lib.hid (by
        unfold addN; rw [if_neg]
        intro hm
        obtain ⟨j, hj, e⟩ := List.getElem_of_mem hm
        exact HNO.out j hj (by omega) e)
      go_wp2_with (at_builtin; go_must (refine wpList_appRowX rfl (.tmp 19) (.tmp 21) 72 rfl base 3 _ 1 8 Try.underlying72 infoInt rfl (by decide) (.slice a L.length c) _ L.length 1 (intL L) [.int .i64 (x : Int)] (own_below H.out ((Below.refl _ _).alloc (Nat.le_refl _) _)) (src_at (AtG.new _ 3 _) 1) rfl rfl rfl (fun y hy => by simp at hy; subst hy; rfl) (by omega) (by decide) (by simp; omega) ?_); intro v' w4 hown hgr hbk; have HOW := Lib.hid hown; have HGR := Lib.hid hgr; have HBK := Lib.hid hbk; clear hown hgr hbk)
      go_returns
      refine ⟨_, rfl, ?_, ?_, ?_⟩
      · rw [HQ.out]
        unfold OwnL
        rw [List.length_append]
        have : intL (L ++ [x]) = intL L ++ [.int .i64 (x : Int)] := by unfold intL; simp
        rw [this]; exact HOW.out
      · exact ((Only.refl _).al _).trans (Only.of_grown (S := fun k => (Value.slice a L.length c).ownBlock = some k) HGR.out (fun k hk => hk)) (fun k hk => .inl hk)
      · rcases HBK.out with h1 | h1
        · exact .inl h1
        · exact .inr ⟨_, h1, by simp⟩
end Go.Proofs.Ytofgkildlhcpdaa
/- The walk of the document's Ends: a byte of a set; one of them. -/
set_option linter.unusedVariables false
set_option linter.unusedSimpArgs false
namespace Go.Proofs.Ytofgkildlhcpdaa
open Go.RowKit Bt
/-- what the document's Ends does with a pattern -/
def REndsC (p : Pat) : Prop := ∀ (w : World) (a : Option Addr) (m c : Nat) (wv : Value) (xs : List Int) (f : Nat), NAt w p.tree (.slice a m c) → RdB w wv xs → xs.length ≤ 1000 → f ≤ xs.length →
  Calls Try.prog 40 #[nodeV p.tree (.slice a m c), wv, .int .i64 (f : Int)] w fun e w' => Below w.heap.size w w' ∧ ∃ v, e = .returned v ∧ ∃ L, OwnL w' w.heap.size v L ∧ L.Nodup ∧ ∀ i, i ∈ L ↔ Mt (byt xs) xs.length p f i
theorem OwnL.only {S : Nat → Prop} {w w1 : World} {base : Nat} {v : Value} {L : List Nat} (h : OwnL w base v L) (ho : Only S w w1) (hS : ∀ k, v.ownBlock = some k → ¬ S k) : OwnL w1 base v L := own_only h ho hS
theorem OwnL.below {w w1 : World} {base : Nat} {v : Value} {L : List Nat} (h : OwnL w base v L) (hb : Below w.heap.size w w1) : OwnL w1 base v L := own_below h hb
theorem OwnL.nil (w : World) (base : Nat) : OwnL w base (.slice none 0 0) [] := own_nil w base _ _
theorem OwnL.one {w : World} {g base x : Nat} (h : AtG w g 3 #[.int .i64 (x : Int)]) (hb : base ≤ g) : OwnL w base (.slice (some ⟨g, 0, none⟩) 1 1) [x] :=
  ⟨rfl, .inr ⟨g, 1, _, rfl, hb, h, Nat.le_refl _, by decide, rfl, rfl⟩⟩
theorem below_only {S : Nat → Prop} {B : Nat} {w w1 w2 : World} (h : Below B w w1) (ho : Only S w1 w2) (hB : B ≤ w1.heap.size) (hS : ∀ k, S k → B ≤ k) : Below B w w2 := h.trans (ho.below hB hS)
theorem OwnL.cell {w : World} {base n c : Nat} {a : Option Addr} {L : List Nat} (h : OwnL w base (.slice a n c) L) (j : Nat) (hj : j < L.length) : ∃ g, a = some ⟨g, 0, none⟩ ∧ L.length ≤ c ∧ w.cell? ⟨g, j, none⟩ = some (.int .i64 ((L[j] : Nat) : Int)) := by
  obtain ⟨a', c', he, hc⟩ := OwnL.at h
  injection he with e1 e2 e3
  subst e1; subst e3
  exact hc j hj
/-- what an inner loop of adds has come to: from w1 and the list O on, q of the list L' added -/
structure Added (w1 : World) (base : Nat) (ov : Value) (O L' : List Nat) (q : Nat) (wr : World) (v : Value) : Prop where
  le : q ≤ L'.length
  only : Only (fun k => ov.ownBlock = some k) w1 wr
  blk : v.ownBlock = ov.ownBlock ∨ ∃ k, v.ownBlock = some k ∧ w1.heap.size ≤ k
  ex : ∃ N : List Nat, OwnL wr base v N ∧ N.Nodup ∧ ∀ y, y ∈ N ↔ y ∈ O ∨ y ∈ L'.take q
theorem Added.start {w1 : World} {base : Nat} {ov : Value} {O L' : List Nat} (h : OwnL w1 base ov O) (hn : O.Nodup) : Added w1 base ov O L' 0 w1 ov :=
  ⟨Nat.zero_le _, Only.refl _, .inl rfl, O, h, hn, fun y => by simp⟩
theorem Added.step {w1 wr w' : World} {base : Nat} {ov v v' : Value} {O L' N : List Nat} {q : Nat} (h : Added w1 base ov O L' q wr v) (hq : q < L'.length) (hN : ∀ y, y ∈ N ↔ y ∈ O ∨ y ∈ L'.take q) (hnd : N.Nodup)
    (h1 : OwnL w' base v' (addN N L'[q])) (h2 : Only (fun k => v.ownBlock = some k) wr w') (h3 : v'.ownBlock = v.ownBlock ∨ ∃ k, v'.ownBlock = some k ∧ wr.heap.size ≤ k) : Added w1 base ov O L' (q + 1) w' v' := by
  refine ⟨hq, h.only.trans h2 (fun k hk => ?_), ?_, addN N L'[q], h1, nodup_addN hnd _, fun y => ?_⟩
  · rcases h.blk with e | ⟨k', e, hk'⟩
    · exact .inl (e.symm.trans hk)
    · rw [e] at hk; injection hk with hk; subst hk; exact .inr hk'
  · rcases h3 with e | ⟨k, e, hk⟩
    · rcases h.blk with e2 | ⟨k', e2, hk'⟩
      · exact .inl (e.trans e2)
      · exact .inr ⟨k', e.trans e2, hk'⟩
    · exact .inr ⟨k, e, Nat.le_trans h.only.size hk⟩
  · rw [mem_addN, hN, List.take_succ_eq_append_getElem hq, List.mem_append, List.mem_singleton, or_assoc]
set_option maxRecDepth 100000 in
set_option maxHeartbeats 1600000 in
theorem rends_one (f : Nat → Bool) : REndsC (.one f) := by
  intro w a m c wv xs fr hn hx hl hf
  obtain ⟨A, wc, rfl⟩ := rdB_slice hx
  have HX := Lib.hid hx
  have hnI : (xs.length : Int) ≤ 1000 := by omega
  have hfI : (fr : Int) ≤ (xs.length : Int) := by omega
  clear hn hx
  show Calls Try.prog 40 #[.agg #[.int .i64 1, .int .u64 ((wd f 0 : Nat) : Int), .int .u64 ((wd f 1 : Nat) : Int), .int .u64 ((wd f 2 : Nat) : Int), .int .u64 ((wd f 3 : Nat) : Int), .int .i64 0, .int .i64 0, .slice a m c], _, _] w _
  by_cases hlt : fr < xs.length
  · obtain ⟨bw, ow, rfl, hcap, hcell, hc0, hc1⟩ := rdB_at HX.out fr hlt
    have hltI : (fr : Int) < (xs.length : Int) := by omega
    have hby : byt xs fr = (xs.getD fr 0).toNat := rfl
    have HH := fun w => refHas_any f (xs.getD fr 0) w hc0 hc1
    generalize xs.getD fr 0 = x at *
    unfold setOf at HH
    have HH := Lib.hid HH
    have HCE := Lib.hid hcell
    have hbl := World.block_lt_of_cell? w _ hcell
    have HBL : Hid (bw < w.heap.size) := Lib.hid hbl
    clear hcell hbl
    go_enter Try.func40, Try.ntmps40
    go_upto_region 4 with (fail)
    have HA := Lib.hid (AtG.new w 29 (nodeC 1 f 0 0 (.slice a m c)))
    have HB0 := Lib.hid ((Below.refl w.heap.size w).alloc (Nat.le_refl _) (.cells (nodeC 1 f 0 0 (.slice a m c)) 29))
    refine Rg.wp_region_each (by kernel_rfl) (fun w' => AtG w' w.heap.size 29 (nodeC 1 f 0 0 (.slice a m c)) ∧ Below w.heap.size w w') (fun w1 w2 h hb => ⟨h.1.below hb, h.2.trans (hb.mono h.2.size)⟩) (by kernel_rfl) (by kernel_rfl) (⟨HA.out, HB0.out⟩) ?_
    show Rg.Build _ _ _ _ _ 0 [_, _, _, _, _, _, _, _] []
    refine Rg.build_cons (m := 1) (r := Rg.eq _) (Rg.one_plain (by rfl) (by (intro ax wx hk Kx hK; have k3 := hk.base 3 _ rfl rfl; have hj := hk.j; clear hk; have n1 : wx.cell? ⟨w.heap.size, 1, none⟩ = some (.int .u64 ((wd f 0 : Nat) : Int)) := hj.1.cell 1 _ rfl; have n2 : wx.cell? ⟨w.heap.size, 2, none⟩ = some (.int .u64 ((wd f 1 : Nat) : Int)) := hj.1.cell 2 _ rfl; have n3 : wx.cell? ⟨w.heap.size, 3, none⟩ = some (.int .u64 ((wd f 2 : Nat) : Int)) := hj.1.cell 3 _ rfl; have n4 : wx.cell? ⟨w.heap.size, 4, none⟩ = some (.int .u64 ((wd f 3 : Nat) : Int)) := hj.1.cell 4 _ rfl; have n5 := (hj.2.cell (p := ⟨bw, ow + fr, none⟩) HBL.out).trans HCE.out; go_simp; refine hK _ _ ?_ (Below.refl _ _); apply Rg.mk))) ?_ rfl
    refine Rg.build_cons (m := 2) (r := Rg.eq _) (Rg.one_plain (by rfl) (by (intro ax wx hk Kx hK; obtain ⟨v33, k33, h33⟩ := hk.dep 0 33 _ rfl rfl rfl; (first | (cases (h33 : v33 = _)) | (obtain ⟨rfl, h33⟩ := h33) | skip); have hj := hk.j; clear hk; have n1 : wx.cell? ⟨w.heap.size, 1, none⟩ = some (.int .u64 ((wd f 0 : Nat) : Int)) := hj.1.cell 1 _ rfl; have n2 : wx.cell? ⟨w.heap.size, 2, none⟩ = some (.int .u64 ((wd f 1 : Nat) : Int)) := hj.1.cell 2 _ rfl; have n3 : wx.cell? ⟨w.heap.size, 3, none⟩ = some (.int .u64 ((wd f 2 : Nat) : Int)) := hj.1.cell 3 _ rfl; have n4 : wx.cell? ⟨w.heap.size, 4, none⟩ = some (.int .u64 ((wd f 3 : Nat) : Int)) := hj.1.cell 4 _ rfl; have n5 := (hj.2.cell (p := ⟨bw, ow + fr, none⟩) HBL.out).trans HCE.out; go_simp; refine hK _ _ ?_ (Below.refl _ _); apply Rg.mk))) ?_ rfl
    refine Rg.build_cons (m := 3) (r := Rg.eq _) (Rg.one_plain (by rfl) (by (intro ax wx hk Kx hK; have k1 := hk.base 1 _ rfl rfl; have hj := hk.j; clear hk; have n1 : wx.cell? ⟨w.heap.size, 1, none⟩ = some (.int .u64 ((wd f 0 : Nat) : Int)) := hj.1.cell 1 _ rfl; have n2 : wx.cell? ⟨w.heap.size, 2, none⟩ = some (.int .u64 ((wd f 1 : Nat) : Int)) := hj.1.cell 2 _ rfl; have n3 : wx.cell? ⟨w.heap.size, 3, none⟩ = some (.int .u64 ((wd f 2 : Nat) : Int)) := hj.1.cell 3 _ rfl; have n4 : wx.cell? ⟨w.heap.size, 4, none⟩ = some (.int .u64 ((wd f 3 : Nat) : Int)) := hj.1.cell 4 _ rfl; have n5 := (hj.2.cell (p := ⟨bw, ow + fr, none⟩) HBL.out).trans HCE.out; go_simp; refine hK _ _ ?_ (Below.refl _ _); apply Rg.mk))) ?_ rfl
    refine Rg.build_cons (m := 4) (r := Rg.eq _) (Rg.one_plain (by rfl) (by (intro ax wx hk Kx hK; have k2 := hk.base 2 _ rfl rfl; have hj := hk.j; clear hk; have n1 : wx.cell? ⟨w.heap.size, 1, none⟩ = some (.int .u64 ((wd f 0 : Nat) : Int)) := hj.1.cell 1 _ rfl; have n2 : wx.cell? ⟨w.heap.size, 2, none⟩ = some (.int .u64 ((wd f 1 : Nat) : Int)) := hj.1.cell 2 _ rfl; have n3 : wx.cell? ⟨w.heap.size, 3, none⟩ = some (.int .u64 ((wd f 2 : Nat) : Int)) := hj.1.cell 3 _ rfl; have n4 : wx.cell? ⟨w.heap.size, 4, none⟩ = some (.int .u64 ((wd f 3 : Nat) : Int)) := hj.1.cell 4 _ rfl; have n5 := (hj.2.cell (p := ⟨bw, ow + fr, none⟩) HBL.out).trans HCE.out; go_simp; refine hK _ _ ?_ (Below.refl _ _); apply Rg.mk))) ?_ rfl
    refine Rg.build_cons (m := 5) (r := Rg.eq _) (Rg.one_plain (by rfl) (by (intro ax wx hk Kx hK; obtain ⟨v35, k35, h35⟩ := hk.dep 2 35 _ rfl rfl rfl; (first | (cases (h35 : v35 = _)) | (obtain ⟨rfl, h35⟩ := h35) | skip); obtain ⟨v36, k36, h36⟩ := hk.dep 3 36 _ rfl rfl rfl; (first | (cases (h36 : v36 = _)) | (obtain ⟨rfl, h36⟩ := h36) | skip); have hj := hk.j; clear hk; have n1 : wx.cell? ⟨w.heap.size, 1, none⟩ = some (.int .u64 ((wd f 0 : Nat) : Int)) := hj.1.cell 1 _ rfl; have n2 : wx.cell? ⟨w.heap.size, 2, none⟩ = some (.int .u64 ((wd f 1 : Nat) : Int)) := hj.1.cell 2 _ rfl; have n3 : wx.cell? ⟨w.heap.size, 3, none⟩ = some (.int .u64 ((wd f 2 : Nat) : Int)) := hj.1.cell 3 _ rfl; have n4 : wx.cell? ⟨w.heap.size, 4, none⟩ = some (.int .u64 ((wd f 3 : Nat) : Int)) := hj.1.cell 4 _ rfl; have n5 := (hj.2.cell (p := ⟨bw, ow + fr, none⟩) HBL.out).trans HCE.out; go_simp; refine hK _ _ ?_ (Below.refl _ _); apply Rg.mk))) ?_ rfl
    refine Rg.build_cons (m := 6) (r := Rg.eq _) (Rg.one_plain (by rfl) (by (intro ax wx hk Kx hK; obtain ⟨v37, k37, h37⟩ := hk.dep 4 37 _ rfl rfl rfl; (first | (cases (h37 : v37 = _)) | (obtain ⟨rfl, h37⟩ := h37) | skip); have hj := hk.j; clear hk; have n1 : wx.cell? ⟨w.heap.size, 1, none⟩ = some (.int .u64 ((wd f 0 : Nat) : Int)) := hj.1.cell 1 _ rfl; have n2 : wx.cell? ⟨w.heap.size, 2, none⟩ = some (.int .u64 ((wd f 1 : Nat) : Int)) := hj.1.cell 2 _ rfl; have n3 : wx.cell? ⟨w.heap.size, 3, none⟩ = some (.int .u64 ((wd f 2 : Nat) : Int)) := hj.1.cell 3 _ rfl; have n4 : wx.cell? ⟨w.heap.size, 4, none⟩ = some (.int .u64 ((wd f 3 : Nat) : Int)) := hj.1.cell 4 _ rfl; have n5 := (hj.2.cell (p := ⟨bw, ow + fr, none⟩) HBL.out).trans HCE.out; go_simp; refine hK _ _ ?_ (Below.refl _ _); apply Rg.mk))) ?_ rfl
    refine Rg.build_cons (m := 7) (r := Rg.eq _) (Rg.one_plain (by rfl) (by (intro ax wx hk Kx hK; obtain ⟨v34, k34, h34⟩ := hk.dep 1 34 _ rfl rfl rfl; (first | (cases (h34 : v34 = _)) | (obtain ⟨rfl, h34⟩ := h34) | skip); obtain ⟨v38, k38, h38⟩ := hk.dep 5 38 _ rfl rfl rfl; (first | (cases (h38 : v38 = _)) | (obtain ⟨rfl, h38⟩ := h38) | skip); have hj := hk.j; clear hk; have n1 : wx.cell? ⟨w.heap.size, 1, none⟩ = some (.int .u64 ((wd f 0 : Nat) : Int)) := hj.1.cell 1 _ rfl; have n2 : wx.cell? ⟨w.heap.size, 2, none⟩ = some (.int .u64 ((wd f 1 : Nat) : Int)) := hj.1.cell 2 _ rfl; have n3 : wx.cell? ⟨w.heap.size, 3, none⟩ = some (.int .u64 ((wd f 2 : Nat) : Int)) := hj.1.cell 3 _ rfl; have n4 : wx.cell? ⟨w.heap.size, 4, none⟩ = some (.int .u64 ((wd f 3 : Nat) : Int)) := hj.1.cell 4 _ rfl; have n5 := (hj.2.cell (p := ⟨bw, ow + fr, none⟩) HBL.out).trans HCE.out; go_simp; refine (HH.out _).mono ?_; rintro e w' ⟨rfl, hb⟩; refine hK _ _ ?_ hb; apply Rg.mk))) ?_ rfl
    refine Rg.build_cons (m := 8) (r := Rg.eq _) (Rg.one_plain (by rfl) (by (intro ax wx hk Kx hK; obtain ⟨v39, k39, h39⟩ := hk.dep 6 39 _ rfl rfl rfl; (first | (cases (h39 : v39 = _)) | (obtain ⟨rfl, h39⟩ := h39) | skip); have hj := hk.j; clear hk; have n1 : wx.cell? ⟨w.heap.size, 1, none⟩ = some (.int .u64 ((wd f 0 : Nat) : Int)) := hj.1.cell 1 _ rfl; have n2 : wx.cell? ⟨w.heap.size, 2, none⟩ = some (.int .u64 ((wd f 1 : Nat) : Int)) := hj.1.cell 2 _ rfl; have n3 : wx.cell? ⟨w.heap.size, 3, none⟩ = some (.int .u64 ((wd f 2 : Nat) : Int)) := hj.1.cell 3 _ rfl; have n4 : wx.cell? ⟨w.heap.size, 4, none⟩ = some (.int .u64 ((wd f 3 : Nat) : Int)) := hj.1.cell 4 _ rfl; have n5 := (hj.2.cell (p := ⟨bw, ow + fr, none⟩) HBL.out).trans HCE.out; go_simp; refine hK _ _ ?_ (Below.refl _ _); apply Rg.mk))) ?_ rfl
    refine Rg.build_end fun wx hj => ?_
    refine Rg.fin_eq rfl ?_
    refine Rg.fin_eq rfl ?_
    refine Rg.fin_eq rfl ?_
    refine Rg.fin_eq rfl ?_
    refine Rg.fin_eq rfl ?_
    refine Rg.fin_eq rfl ?_
    refine Rg.fin_eq rfl ?_
    refine Rg.fin_eq rfl ?_
    refine Rg.fin_nil ?_
    simp only [List.set_cons_zero, List.set_cons_succ]
    have HB := Lib.hid hj.2
    clear hj
    cases hfx : f x.toNat with
    | true =>
      go_wp2_with fail
      go_returns
      refine ⟨HB.out.alloc HB.out.size _, _, rfl, [fr + 1], OwnL.one (by have := AtG.new wx 3 #[.int .i64 ((fr : Int) + 1)]; rw [show ((fr + 1 : Nat) : Int) = (fr : Int) + 1 from by omega]; exact this) HB.out.size, by simp, fun i => ?_⟩
      rw [Mt, hby, hfx]
      simp; omega
    | false =>
      go_wp2_with fail
      go_returns
      refine ⟨HB.out, _, rfl, [], OwnL.nil _ _, by simp, fun i => ?_⟩
      rw [Mt, hby, hfx]
      simp
  · have hltI : ¬ (fr : Int) < (xs.length : Int) := by omega
    go_enter Try.func40, Try.ntmps40
    go_wp2_with fail
    go_returns
    refine ⟨by go_grown, _, rfl, [], OwnL.nil _ _, by simp, fun i => ?_⟩
    rw [Mt]
    constructor
    · intro h; simp at h
    · intro h; exact absurd h.2.1 hlt
theorem mtA_app (b : Nat → Nat) (n : Nat) (l : List Pat) (p : Pat) (j i : Nat) : MtA b n (l ++ [p]) j i ↔ MtA b n l j i ∨ Mt b n p j i := by
  induction l with
  | nil => simp [MtA]
  | cons q l ih => rw [List.cons_append, MtA, ih, MtA, or_assoc]
set_option maxRecDepth 100000 in
set_option maxHeartbeats 1600000 in
theorem rends_alt (l : List Pat) (hl2 : l.length ≤ 1000) (ih : ∀ p ∈ l, REndsC p) : REndsC (.alt l) := by
  intro w a m c wv xs fr hn hx hl hf
  obtain rfl : m = l.length := by
    obtain ⟨a', c', hh⟩ := KAt.slice hn
    injection hh with _ hh _
    rw [trees_len] at hh; exact hh
  obtain ⟨A, wc, rfl⟩ := rdB_slice hx
  have HX := Lib.hid hx; have HN0 := Lib.hid hn
  have hnI : (xs.length : Int) ≤ 1000 := by omega
  have hfI : (fr : Int) ≤ (xs.length : Int) := by omega
  have hlI : (l.length : Int) ≤ 1000 := by omega
  obtain ⟨w0, hw0⟩ : ∃ w0 : World, w0 = w.alloc (.cells (nodeC 3 emp 0 0 (.slice a l.length c)) 29) := ⟨_, rfl⟩
  have HA : Hid (AtG w0 w.heap.size 29 (nodeC 3 emp 0 0 (.slice a l.length c))) := Lib.hid (by rw [hw0]; exact AtG.new _ _ _)
  have HB0 : Hid (Below w.heap.size w w0) := Lib.hid (by rw [hw0]; go_grown)
  have hw0' : w.alloc (.cells #[.int .i64 3, .int .u64 ((wd emp 0 : Nat) : Int), .int .u64 ((wd emp 1 : Nat) : Int), .int .u64 ((wd emp 2 : Nat) : Int), .int .u64 ((wd emp 3 : Nat) : Int), .int .i64 0, .int .i64 0, .slice a l.length c] 29) = w0 := hw0.symm
  have m0 : w0.cell? ⟨w.heap.size, 0, none⟩ = some (.int .i64 3) := HA.out.cell 0 _ rfl
  have HFL := Lib.hid hf
  clear hn hx hw0
  show Calls Try.prog 40 #[.agg #[.int .i64 3, .int .u64 ((wd emp 0 : Nat) : Int), .int .u64 ((wd emp 1 : Nat) : Int), .int .u64 ((wd emp 2 : Nat) : Int), .int .u64 ((wd emp 3 : Nat) : Int), .int .i64 0, .int .i64 0, .slice a l.length c], _, _] w _
  go_enter Try.func40, Try.ntmps40
  go_wp2_with fail
  go_loopw [8, 9] (fun t i wr => ∃ (k : Nat) (ov : Value), ov = t ∧ k ≤ l.length ∧ i = .int .i64 k ∧ AtG wr w.heap.size 29 (nodeC 3 emp 0 0 (.slice a l.length c)) ∧ Below w.heap.size w wr ∧ ∃ O, OwnL wr (w.heap.size + 1) ov O ∧ O.Nodup ∧ ∀ y, y ∈ O ↔ MtA (byt xs) xs.length (l.take k) fr y) (fun _ i _ => l.length - (intOf i).toNat)
  case atStart => exact ⟨0, _, rfl, Nat.zero_le _, rfl, HA.out, HB0.out, [], OwnL.nil _ _, by simp, fun y => by rw [List.take_zero, MtA]; simp⟩
  case round =>
    clear hw0' m0 HA HB0
    obtain ⟨k, ov, hov, hk, rfl, ha, hb, O, ho, hnd, hom⟩ := hrel
    subst hov
    have HA := Lib.hid ha; have HB := Lib.hid hb; have HO := Lib.hid ho; have HND := Lib.hid hnd; have HOM := Lib.hid hom
    have n7 : wr.cell? ⟨w.heap.size, 7, none⟩ = some (.slice a l.length c) := ha.cell 7 _ rfl
    have HWS := Lib.hid ha.lt
    have HOB : Hid (∀ y ∈ O, y ≤ xs.length) := Lib.hid (fun y hy => mt_le (byt xs) xs.length (.alt (l.take k)) fr y HFL.out (by rw [Mt]; exact (HOM.out y).1 hy))
    clear ha hb ho hnd hom
    by_cases hlt : k < l.length
    · obtain ⟨b, off, cap, heq, hcap, op', f', mn', mx', kids', ka, kc, ht, hc8, hkn⟩ := kid_at HN0.out (trees_get hlt)
      injection heq with e1 e2 e3
      subst e1; subst e3
      clear e2
      rw [trees_len] at hcap
      have hI := ih l[k] (List.getElem_mem hlt)
      unfold REndsC at hI
      rw [ht] at hI hkn
      have hI2 := fun w f h1 h2 h3 => hI w ka kids'.length kc (.slice A xs.length wc) xs f h1 h2 hl h3
      unfold nodeV at hI2
      have HI := Lib.hid hI2; have HKN := Lib.hid hkn
      obtain ⟨kn, hkl⟩ : ∃ kn, kn = kids'.length := ⟨_, rfl⟩
      rw [← hkl] at HKN HI hc8
      obtain ⟨c0, c1, c2, c3, c4, c5, c6, c7⟩ := Cell8.below hc8 HB.out
      clear hI hI2 hkn hkl ht hc8
      go_wp2_with fail
      refine (HI.out _ fr (NAt.below HKN.out HB.out) (rdB_below HX.out HB.out) HFL.out).mono ?_
      rintro e9 w1 ⟨hb1, lv, rfl, LL, hlv, hlnd, hlm⟩
      obtain ⟨lva, lvc, rfl, _⟩ := OwnL.at hlv
      have HB1 := Lib.hid (HB.out.trans (hb1.mono HB.out.size)); have HA1 := Lib.hid (HA.out.below hb1)
      have HOV := Lib.hid (HO.out.below hb1)
      have HLV := Lib.hid hlv; have HLM := Lib.hid hlm
      have HBW : Hid (w.heap.size + 1 ≤ w1.heap.size) := Lib.hid HA1.out.lt
      have HLB : Hid (∀ y ∈ LL, y ≤ xs.length) := Lib.hid (fun y hy => mt_le (byt xs) xs.length l[k] fr y HFL.out ((hlm y).1 hy))
      have HNB : Hid (∀ q, (Value.slice lva LL.length lvc).ownBlock = some q → ¬ ov.ownBlock = some q) := Lib.hid (fun q h1 h2 => by
        have := own_lt HO.out q h2; have := own_base hlv q h1; omega)
      have hllI : (LL.length : Int) ≤ 1001 := by
        have := nodup_len (m := xs.length + 1) hlnd (fun y hy => by have := HLB.out y hy; omega)
        omega
      clear hb1 hlv hlnd hlm c0 c1 c2 c3 c4 c5 c6 c7 n7
      go_wp2_with fail
      go_loopw [8, 11] (fun t i wr => ∃ (q : Nat) (v : Value), i = .int .i64 q ∧ v = t ∧ Added w1 (w.heap.size + 1) (ov) (O) (LL) q wr v) (fun _ i _ => (LL).length - (intOf i).toNat)
      case atStart => exact ⟨0, _, rfl, rfl, Added.start HOV.out HND.out⟩
      case round =>
        obtain ⟨q, v, rfl, hv, hadd⟩ := hrel
        subst hv
        obtain ⟨N, hN, hNd, hNm⟩ := hadd.ex
        have HADD := Lib.hid hadd; have HN := Lib.hid hN; have HNd := Lib.hid hNd; have HNm := Lib.hid hNm
        clear hadd hN hNd hNm
        by_cases hlq : q < (LL).length
        · obtain ⟨lg, rfl, hlc, hcell⟩ := OwnL.cell (HLV.out.only HADD.out.only HNB.out) q hlq
          have hxb : (LL)[q] ≤ xs.length := HLB.out _ (List.getElem_mem hlq)
          have HAD := Lib.hid (add_any wr (w.heap.size + 1) v N (LL)[q] HN.out (Nat.le_trans HBW.out HADD.out.only.size) (by
            have := nodup_len (m := xs.length + 1) HNd.out (fun y hy => by
              rcases (HNm.out y).1 hy with h | h
              · have := HOB.out y h; omega
              · have := HLB.out y (List.mem_of_mem_take h); omega)
            omega) (by omega))
          have HLQ := Lib.hid hlq
          generalize hxq : (LL)[q] = xq at hcell HAD hxb
          have HXQ := Lib.hid hxq
          clear hxq
          go_wp2_with fail
          refine (HAD.out).mono ?_
          rintro e9 wa ⟨v', rfl, h1, h2, h3⟩
          have HST := Lib.hid (Added.step HADD.out HLQ.out HNm.out HNd.out (by have e := HXQ.out; subst e; exact h1) h2 h3)
          clear h1 h2 h3
          go_wp2_with fail
          exact ⟨⟨q + 1, v', by go_num, rfl, HST.out⟩, by simp [intOf]; omega⟩
        · have hq0 : q = (LL).length := by have := HADD.out.le; omega
          subst hq0
          have HNm2 : Hid (∀ y, y ∈ N ↔ y ∈ (O) ∨ y ∈ (LL)) := Lib.hid (fun y => by rw [HNm.out y, List.take_length])
          have hoS : ∀ q, ov.ownBlock = some q → w.heap.size + 1 ≤ q := fun q hq => own_base HO.out q hq
          have HA2 := Lib.hid (HA1.out.only HADD.out.only (fun e => by have := hoS _ e; omega))
          have HB2 := Lib.hid (below_only HB1.out HADD.out.only (by have := HBW.out; omega) (fun q hq => by have := hoS q hq; omega))
          clear hoS
          go_wp2_with fail
          exact ⟨⟨k + 1, v, rfl, by omega, by go_num, HA2.out, HB2.out, N, HN.out, HNd.out, fun y => by
            rw [HNm2.out y, HOM.out y, HLM.out y, List.take_succ_eq_append_getElem hlt]
            exact (mtA_app _ _ _ _ _ _).symm⟩, by simp [intOf]; omega⟩
    · obtain rfl : k = l.length := by omega
      rw [List.take_length] at HOM
      go_wp2_with fail
      go_returns
      exact ⟨HB.out, ov, rfl, O, own_lower HO.out (by omega), HND.out, fun y => by rw [HOM.out y, Mt]⟩
end Go.Proofs.Ytofgkildlhcpdaa
