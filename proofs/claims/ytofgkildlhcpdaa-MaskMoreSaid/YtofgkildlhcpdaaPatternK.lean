/- The help's Pattern, with word of where the kids lie. -/
import Derived.Test.YtofgkildlhcpdaaLangMem
set_option linter.unusedVariables false
set_option linter.unusedSimpArgs false
namespace Go.Proofs.Ytofgkildlhcpdaa
open Go.RowKit Bt
/-- what the help's Pattern leaves, the kids in new blocks -/
def PatPostK (s : ByteArray) (w : World) (e : Ending) (w' : World) : Prop :=
  Below w.heap.size w w' ∧ ((e = .returned (.tuple #[zeroN, .int .i64 0])) ∨ ∃ (p : Pat) (kv : Value) (q : Nat), Wf p ∧ P s .pat 0 0 (.ok p.tree q) ∧ placesP p ≤ 60 ∧ e = .returned (.tuple #[nodeV p.tree kv, .int .i64 1]) ∧ KAt (fun b => w.heap.size ≤ b) w' p.tree kv)
set_option maxRecDepth 100000 in
set_option maxHeartbeats 1600000 in
theorem patternK_q (s : ByteArray) (w : World) (Q0 : Ending → World → Prop) (hQ : Hid (∀ e w', PatPostK s w e w' → Q0 e w')) : Calls Try.prog 10 #[.string s] w Q0 := by
  have HP := Lib.hid (fun w => parse_all s w)
  have HZ := Lib.hid (AtG.new w 29 nodeZ)
  have HB0 := Lib.hid ((Below.refl w.heap.size w).alloc (Nat.le_refl _) (.cells nodeZ 29))
  go_enter Try.func10, Try.ntmps10
  go_wp2_with fail
  refine (HP.out _).mono ?_
  rintro e9 w1 ⟨hb1, ⟨cc, yy, hcc, rfl⟩ | ⟨p, kv, q, hp, hPr, rfl, hk⟩⟩
  · have HZ1 := Lib.hid (HZ.out.below hb1); have HB1 := Lib.hid (HB0.out.trans (hb1.mono HB0.out.size))
    have n1 : ¬ cc = 0 := hcc
    have e1 : (cc == 0) = false := by rw [beq_eq_false_iff_ne]; exact hcc
    have HN1 := Lib.hid n1; have HE1 := Lib.hid e1
    clear hb1 hcc n1 e1
    unfold zeroN
    go_upto_region 2 with (fail)
    obtain ⟨w2, hw2⟩ : ∃ w2 : World, w2 = w1.alloc (.cells #[.int .i64 0, .int .u64 0, .int .u64 0, .int .u64 0, .int .u64 0, .int .i64 0, .int .i64 0, .slice none 0 0] 29) := ⟨_, rfl⟩
    rw [← hw2]
    have HZ2 : Hid (AtG w2 w.heap.size 29 nodeZ) := Lib.hid (by rw [hw2]; exact HZ1.out.alloc _)
    have HB2 : Hid (Below w.heap.size w w2) := Lib.hid (by rw [hw2]; exact HB1.out.alloc HB1.out.size _)
    have n1 := HN1.out; have e1 := HE1.out
    clear hw2
    have d0 : w2.cell? ⟨w.heap.size, 0, none⟩ = some (.int .i64 0) := (HZ2.out).cell 0 _ rfl
    have d1 : w2.cell? ⟨w.heap.size, 1, none⟩ = some (.int .u64 0) := (HZ2.out).cell 1 _ rfl
    have d2 : w2.cell? ⟨w.heap.size, 2, none⟩ = some (.int .u64 0) := (HZ2.out).cell 2 _ rfl
    have d3 : w2.cell? ⟨w.heap.size, 3, none⟩ = some (.int .u64 0) := (HZ2.out).cell 3 _ rfl
    have d4 : w2.cell? ⟨w.heap.size, 4, none⟩ = some (.int .u64 0) := (HZ2.out).cell 4 _ rfl
    have d5 : w2.cell? ⟨w.heap.size, 5, none⟩ = some (.int .i64 0) := (HZ2.out).cell 5 _ rfl
    have d6 : w2.cell? ⟨w.heap.size, 6, none⟩ = some (.int .i64 0) := (HZ2.out).cell 6 _ rfl
    have d7 : w2.cell? ⟨w.heap.size, 7, none⟩ = some (.slice none 0 0) := (HZ2.out).cell 7 _ rfl
    have f0 := (HZ2.out).frozen 0; have f1 := (HZ2.out).frozen 1; have f2 := (HZ2.out).frozen 2; have f3 := (HZ2.out).frozen 3
    have f4 := (HZ2.out).frozen 4; have f5 := (HZ2.out).frozen 5; have f6 := (HZ2.out).frozen 6; have f7 := (HZ2.out).frozen 7
    go_wp2_with fail
    refine bodyPost_ret (v := .tuple #[zeroN, .int .i64 0]) (by unfold zeroN; simp [results, Try.results10, go_sem, d0, d1, d2, d3, d4, d5, d6, d7]; try rfl) rfl ?_
    refine hQ.out _ _ ⟨?_, .inl rfl⟩
    exact (show Below w.heap.size w (putZ w2 w.heap.size) from by rw [putZ_eq]; exact putN_below HB2.out (Nat.le_refl _) _ _ _ _ _)
  · obtain ⟨ka, kn, kc, rfl⟩ := tree_kv (NAt.of hk)
    have HPL := Lib.hid (fun w h => places_any p hp w ka kn kc h)
    rcases hpt : p.tree with ⟨op, f, mn, mx, kids⟩
    rw [hpt] at HPL hk
    have hpl := placesP_le p
    have HZ1 := Lib.hid (HZ.out.below hb1); have HB1 := Lib.hid (HB0.out.trans (hb1.mono HB0.out.size)); have HK := Lib.hid hk
    have HW := Lib.hid hp; have HPR := Lib.hid hPr; have HPT := Lib.hid hpt
    have HPLI : Hid ((placesP p : Int) ≤ 1000) := Lib.hid (by omega)
    clear hb1 hp hPr hk hpl
    unfold nodeV at HPL ⊢
    dsimp only at HPL ⊢
    go_upto_region 2 with (fail)
    obtain ⟨w2, hw2⟩ : ∃ w2 : World, w2 = w1.alloc (.cells (nodeC op f mn mx (.slice ka kn kc)) 29) := ⟨_, rfl⟩
    have hw2' : w1.alloc (.cells #[.int .i64 op, .int .u64 ((wd f 0 : Nat) : Int), .int .u64 ((wd f 1 : Nat) : Int), .int .u64 ((wd f 2 : Nat) : Int), .int .u64 ((wd f 3 : Nat) : Int), .int .i64 mn, .int .i64 mx, .slice ka kn kc] 29) = w2 := hw2.symm
    rw [hw2']
    have HZ2 : Hid (AtG w2 w.heap.size 29 nodeZ) := Lib.hid (by rw [hw2]; exact HZ1.out.alloc _)
    have HB2 : Hid (Below w.heap.size w w2) := Lib.hid (by rw [hw2]; exact HB1.out.alloc HB1.out.size _)
    have HC2 : Hid (AtG w2 w1.heap.size 29 (nodeC op f mn mx (.slice ka kn kc))) := Lib.hid (by rw [hw2]; exact AtG.new _ _ _)
    have HK2 : Hid (KAt (fun b => (w.alloc (.cells nodeZ 29)).heap.size ≤ b) w2 (.node op f mn mx kids) (.slice ka kn kc)) := Lib.hid (by rw [hw2]; exact HK.out.belowD ((Below.refl _ _).alloc (Nat.le_refl _) _))
    have HNE : Hid (w1.heap.size ≠ w.heap.size ∧ w.heap.size ≠ w1.heap.size) := Lib.hid (by have := HZ1.out.lt; omega)
    clear hw2 hw2' hpt
    have k0 : w2.cell? ⟨w1.heap.size, 0, none⟩ = some (.int .i64 op) := HC2.out.cell 0 _ rfl
    have k1 : w2.cell? ⟨w1.heap.size, 1, none⟩ = some (.int .u64 ((wd f 0 : Nat) : Int)) := HC2.out.cell 1 _ rfl
    have k2 : w2.cell? ⟨w1.heap.size, 2, none⟩ = some (.int .u64 ((wd f 1 : Nat) : Int)) := HC2.out.cell 2 _ rfl
    have k3 : w2.cell? ⟨w1.heap.size, 3, none⟩ = some (.int .u64 ((wd f 2 : Nat) : Int)) := HC2.out.cell 3 _ rfl
    have k4 : w2.cell? ⟨w1.heap.size, 4, none⟩ = some (.int .u64 ((wd f 3 : Nat) : Int)) := HC2.out.cell 4 _ rfl
    have k5 : w2.cell? ⟨w1.heap.size, 5, none⟩ = some (.int .i64 mn) := HC2.out.cell 5 _ rfl
    have k6 : w2.cell? ⟨w1.heap.size, 6, none⟩ = some (.int .i64 mx) := HC2.out.cell 6 _ rfl
    have k7 : w2.cell? ⟨w1.heap.size, 7, none⟩ = some (.slice ka kn kc) := HC2.out.cell 7 _ rfl
    obtain ⟨pc, hpc⟩ : ∃ pc : Int, pc = (placesP p : Int) := ⟨_, rfl⟩
    rw [← hpc] at HPL HPLI
    have HPC := Lib.hid hpc
    clear hpc
    go_wp2_with fail
    refine (HPL.out _ (NAt.of HK2.out)).mono ?_
    rintro e9 w3 ⟨rfl, hb3⟩
    have HZ3 := Lib.hid (HZ2.out.below hb3); have HB3 := Lib.hid (HB2.out.trans (hb3.mono HB2.out.size)); have HC3 := Lib.hid (HC2.out.below hb3); have HK3 := Lib.hid (HK2.out.belowD hb3)
    clear hb3 k0 k1 k2 k3 k4 k5 k6 k7
    have hn1 := HNE.out.1; have hn2 := HNE.out.2
    have k0 : w3.cell? ⟨w1.heap.size, 0, none⟩ = some (.int .i64 op) := HC3.out.cell 0 _ rfl
    have k1 : w3.cell? ⟨w1.heap.size, 1, none⟩ = some (.int .u64 ((wd f 0 : Nat) : Int)) := HC3.out.cell 1 _ rfl
    have k2 : w3.cell? ⟨w1.heap.size, 2, none⟩ = some (.int .u64 ((wd f 1 : Nat) : Int)) := HC3.out.cell 2 _ rfl
    have k3 : w3.cell? ⟨w1.heap.size, 3, none⟩ = some (.int .u64 ((wd f 2 : Nat) : Int)) := HC3.out.cell 3 _ rfl
    have k4 : w3.cell? ⟨w1.heap.size, 4, none⟩ = some (.int .u64 ((wd f 3 : Nat) : Int)) := HC3.out.cell 4 _ rfl
    have k5 : w3.cell? ⟨w1.heap.size, 5, none⟩ = some (.int .i64 mn) := HC3.out.cell 5 _ rfl
    have k6 : w3.cell? ⟨w1.heap.size, 6, none⟩ = some (.int .i64 mx) := HC3.out.cell 6 _ rfl
    have k7 : w3.cell? ⟨w1.heap.size, 7, none⟩ = some (.slice ka kn kc) := HC3.out.cell 7 _ rfl
    have d0 : w3.cell? ⟨w.heap.size, 0, none⟩ = some (.int .i64 0) := (HZ3.out).cell 0 _ rfl
    have d1 : w3.cell? ⟨w.heap.size, 1, none⟩ = some (.int .u64 0) := (HZ3.out).cell 1 _ rfl
    have d2 : w3.cell? ⟨w.heap.size, 2, none⟩ = some (.int .u64 0) := (HZ3.out).cell 2 _ rfl
    have d3 : w3.cell? ⟨w.heap.size, 3, none⟩ = some (.int .u64 0) := (HZ3.out).cell 3 _ rfl
    have d4 : w3.cell? ⟨w.heap.size, 4, none⟩ = some (.int .u64 0) := (HZ3.out).cell 4 _ rfl
    have d5 : w3.cell? ⟨w.heap.size, 5, none⟩ = some (.int .i64 0) := (HZ3.out).cell 5 _ rfl
    have d6 : w3.cell? ⟨w.heap.size, 6, none⟩ = some (.int .i64 0) := (HZ3.out).cell 6 _ rfl
    have d7 : w3.cell? ⟨w.heap.size, 7, none⟩ = some (.slice none 0 0) := (HZ3.out).cell 7 _ rfl
    have f0 := (HZ3.out).frozen 0; have f1 := (HZ3.out).frozen 1; have f2 := (HZ3.out).frozen 2; have f3 := (HZ3.out).frozen 3
    have f4 := (HZ3.out).frozen 4; have f5 := (HZ3.out).frozen 5; have f6 := (HZ3.out).frozen 6; have f7 := (HZ3.out).frozen 7
    by_cases h60 : 60 < pc
    · go_wp2_with fail
      refine bodyPost_ret (v := .tuple #[zeroN, .int .i64 0]) (by unfold zeroN; simp [results, Try.results10, go_sem, d0, d1, d2, d3, d4, d5, d6, d7]; try rfl) rfl ?_
      refine hQ.out _ _ ⟨?_, .inl rfl⟩
      exact (show Below w.heap.size w (putZ w3 w.heap.size) from by rw [putZ_eq]; exact putN_below HB3.out (Nat.le_refl _) _ _ _ _ _)
    · go_wp2_with fail
      refine bodyPost_ret (v := .tuple #[nodeV (.node op f mn mx kids) (.slice ka kn kc), .int .i64 1]) (by unfold nodeV; simp [results, Try.results10, go_sem, d0, d1, d2, d3, d4, d5, d6, d7, hn1, hn2]; try rfl) rfl ?_
      have hB : Below w.heap.size w (putN w3 w.heap.size op f mn mx (.slice ka kn kc)) := putN_below HB3.out (Nat.le_refl _) _ _ _ _ _
      refine hQ.out _ _ ⟨hB, .inr ⟨p, .slice ka kn kc, q, HW.out, HPR.out, ?_, ?_, ?_⟩⟩
      · have := HPC.out; omega
      · rw [HPT.out]
      · rw [HPT.out]
        exact (HK3.out.putN (fun b hb => by simp at hb; omega) op f mn mx (.slice ka kn kc)).mono (fun b hb => by simp at hb; omega)
theorem patternK_any (s : ByteArray) (w : World) : Calls Try.prog 10 #[.string s] w (PatPostK s w) := patternK_q s w _ (Lib.hid fun _ _ h => h)
end Go.Proofs.Ytofgkildlhcpdaa
