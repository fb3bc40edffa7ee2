/- The walk of the document's Or of sets. -/
import Derived.Test.YtklpjlcphikfaaaSetRef2
namespace Go.Proofs.Ytklpjlcphikfaaa
open Go.RowKit Bt
set_option linter.unusedVariables false
set_option linter.unusedSimpArgs false
theorem memF_app (f g : Nat → Bool) (x : Nat) (hx : x < 256) : memF (lst f 256 ++ lst g 256) x = (f x || g x) := by
  have h1 := memF_lst f 256 x hx
  have h2 := memF_lst g 256 x hx
  unfold memF at *
  rw [List.contains_append, h1, h2]
theorem of_own (w : World) {base : Nat} (v : Value) (f g : Nat → Bool) (n : Nat) (h : w.ownsRow base 5 1 v n ((lst f 256).map (Value.int .u8) ++ (lst g 256).map (Value.int .u8))) :
    Calls Try.prog 37 #[v] w fun e w' => e = .returned (setOf (fun x => f x || g x)) ∧ Below w.heap.size w w' := by
  rw [← List.map_append] at h
  have hr := rdB_own h (by rw [List.length_append, lst_len, lst_len]; have := cnt_le f 256; have := cnt_le g 256; omega) (fun x hx => by
    rcases List.mem_append.1 hx with hx | hx
    · exact lst_bd255 f x hx
    · exact lst_bd255 g x hx)
  refine (refOf_any _ _ _ hr).mono fun e w' ⟨he, hb⟩ => ⟨?_, hb⟩
  rw [he, setOf_ext (g := fun x => f x || g x) (fun x hx => memF_app f g x hx)]
theorem keep8 {f g : Nat → Bool} {b : Nat} {W w1 : World} (h : W.cell? ⟨b, 0, none⟩ = some (.int .u64 ((wd f 0 : Nat) : Int)) ∧ W.cell? ⟨b, 1, none⟩ = some (.int .u64 ((wd f 1 : Nat) : Int)) ∧ W.cell? ⟨b, 2, none⟩ = some (.int .u64 ((wd f 2 : Nat) : Int)) ∧ W.cell? ⟨b, 3, none⟩ = some (.int .u64 ((wd f 3 : Nat) : Int)) ∧ W.cell? ⟨b + 1, 0, none⟩ = some (.int .u64 ((wd g 0 : Nat) : Int)) ∧ W.cell? ⟨b + 1, 1, none⟩ = some (.int .u64 ((wd g 1 : Nat) : Int)) ∧ W.cell? ⟨b + 1, 2, none⟩ = some (.int .u64 ((wd g 2 : Nat) : Int)) ∧ W.cell? ⟨b + 1, 3, none⟩ = some (.int .u64 ((wd g 3 : Nat) : Int))) (hb : Below W.heap.size W w1) : w1.cell? ⟨b, 0, none⟩ = some (.int .u64 ((wd f 0 : Nat) : Int)) ∧ w1.cell? ⟨b, 1, none⟩ = some (.int .u64 ((wd f 1 : Nat) : Int)) ∧ w1.cell? ⟨b, 2, none⟩ = some (.int .u64 ((wd f 2 : Nat) : Int)) ∧ w1.cell? ⟨b, 3, none⟩ = some (.int .u64 ((wd f 3 : Nat) : Int)) ∧ w1.cell? ⟨b + 1, 0, none⟩ = some (.int .u64 ((wd g 0 : Nat) : Int)) ∧ w1.cell? ⟨b + 1, 1, none⟩ = some (.int .u64 ((wd g 1 : Nat) : Int)) ∧ w1.cell? ⟨b + 1, 2, none⟩ = some (.int .u64 ((wd g 2 : Nat) : Int)) ∧ w1.cell? ⟨b + 1, 3, none⟩ = some (.int .u64 ((wd g 3 : Nat) : Int)) := by
  have k : ∀ (p : Addr) (v : Value), W.cell? p = some v → w1.cell? p = some v := fun p v hp => (hb.cell (World.block_lt_of_cell? W _ hp)).trans hp
  obtain ⟨h0, h1, h2, h3, h4, h5, h6, h7⟩ := h
  exact ⟨k _ _ h0, k _ _ h1, k _ _ h2, k _ _ h3, k _ _ h4, k _ _ h5, k _ _ h6, k _ _ h7⟩
theorem keep8g {f g : Nat → Bool} {b : Nat} {W w1 : World} {r : Option Nat} (h : W.cell? ⟨b, 0, none⟩ = some (.int .u64 ((wd f 0 : Nat) : Int)) ∧ W.cell? ⟨b, 1, none⟩ = some (.int .u64 ((wd f 1 : Nat) : Int)) ∧ W.cell? ⟨b, 2, none⟩ = some (.int .u64 ((wd f 2 : Nat) : Int)) ∧ W.cell? ⟨b, 3, none⟩ = some (.int .u64 ((wd f 3 : Nat) : Int)) ∧ W.cell? ⟨b + 1, 0, none⟩ = some (.int .u64 ((wd g 0 : Nat) : Int)) ∧ W.cell? ⟨b + 1, 1, none⟩ = some (.int .u64 ((wd g 1 : Nat) : Int)) ∧ W.cell? ⟨b + 1, 2, none⟩ = some (.int .u64 ((wd g 2 : Nat) : Int)) ∧ W.cell? ⟨b + 1, 3, none⟩ = some (.int .u64 ((wd g 3 : Nat) : Int))) (hg : W.grownBy w1 r) (hr : ∀ k, r = some k → b + 2 ≤ k) : w1.cell? ⟨b, 0, none⟩ = some (.int .u64 ((wd f 0 : Nat) : Int)) ∧ w1.cell? ⟨b, 1, none⟩ = some (.int .u64 ((wd f 1 : Nat) : Int)) ∧ w1.cell? ⟨b, 2, none⟩ = some (.int .u64 ((wd f 2 : Nat) : Int)) ∧ w1.cell? ⟨b, 3, none⟩ = some (.int .u64 ((wd f 3 : Nat) : Int)) ∧ w1.cell? ⟨b + 1, 0, none⟩ = some (.int .u64 ((wd g 0 : Nat) : Int)) ∧ w1.cell? ⟨b + 1, 1, none⟩ = some (.int .u64 ((wd g 1 : Nat) : Int)) ∧ w1.cell? ⟨b + 1, 2, none⟩ = some (.int .u64 ((wd g 2 : Nat) : Int)) ∧ w1.cell? ⟨b + 1, 3, none⟩ = some (.int .u64 ((wd g 3 : Nat) : Int)) := by
  have k : ∀ (p : Addr) (v : Value), p.block < b + 2 → W.cell? p = some v → w1.cell? p = some v := fun p v hl hp => (World.cell?_of_block (w := W) (hg.block p.block (World.block_lt_of_cell? W _ hp) (fun e => by have := hr _ e.symm; omega))).trans hp
  obtain ⟨h0, h1, h2, h3, h4, h5, h6, h7⟩ := h
  exact ⟨k _ _ (by simp) h0, k _ _ (by simp) h1, k _ _ (by simp) h2, k _ _ (by simp) h3, k _ _ (by simp) h4, k _ _ (by simp) h5, k _ _ (by simp) h6, k _ _ (by simp) h7⟩
set_option maxRecDepth 100000 in
set_option maxHeartbeats 4000000 in
theorem refOr_any (f g : Nat → Bool) (w : World) :
    Calls Try.prog 41 #[setOf f, setOf g] w fun e w' => e = .returned (setOf (fun x => f x || g x)) ∧ Below w.heap.size w w' := by
  have hsh : ∀ W0 : World, W0 = ((w.alloc (.cells (cellsOf f) 33)).alloc (.cells (cellsOf g) 33)).alloc (.cells (setC 0 0 0 0) 33) →
      AtG W0 w.heap.size 33 (cellsOf f) ∧ AtG W0 (w.heap.size + 1) 33 (cellsOf g) ∧ AtG W0 (w.heap.size + 1 + 1) 33 (setC 0 0 0 0) ∧ Below w.heap.size w W0 ∧ W0.heap.size = w.heap.size + 3 := by
    rintro W0 rfl
    have h1 := AtG.new (w.alloc (.cells (cellsOf f) 33)) 33 (cellsOf g)
    have h2 := AtG.new ((w.alloc (.cells (cellsOf f) 33)).alloc (.cells (cellsOf g) 33)) 33 (setC 0 0 0 0)
    rw [show (w.alloc (.cells (cellsOf f) 33)).heap.size = w.heap.size + 1 from by simp] at h1
    rw [show ((w.alloc (.cells (cellsOf f) 33)).alloc (.cells (cellsOf g) 33)).heap.size = w.heap.size + 1 + 1 from by simp] at h2
    exact ⟨((AtG.new w _ _).alloc _).alloc _, h1.alloc _, h2, by go_grown, by simp⟩
  unfold setOf
  go_enter Try.func41, Try.ntmps41
  go_wp2
  generalize hW : ((w.alloc (.cells #[.int .u64 ((wd f 0 : Nat) : Int), .int .u64 ((wd f 1 : Nat) : Int), .int .u64 ((wd f 2 : Nat) : Int), .int .u64 ((wd f 3 : Nat) : Int)] 33)).alloc (.cells #[.int .u64 ((wd g 0 : Nat) : Int), .int .u64 ((wd g 1 : Nat) : Int), .int .u64 ((wd g 2 : Nat) : Int), .int .u64 ((wd g 3 : Nat) : Int)] 33)).alloc (.cells #[.int .u64 0, .int .u64 0, .int .u64 0, .int .u64 0] 33) = W0
  obtain ⟨A0, A1, A2, hB0, hs0⟩ := hsh W0 hW.symm
  clear hW hsh
  have a0 : W0.cell? ⟨w.heap.size, 0, none⟩ = some (.int .u64 ((wd f 0 : Nat) : Int)) := A0.cell 0 _ rfl
  have a1 : W0.cell? ⟨w.heap.size, 1, none⟩ = some (.int .u64 ((wd f 1 : Nat) : Int)) := A0.cell 1 _ rfl
  have a2 : W0.cell? ⟨w.heap.size, 2, none⟩ = some (.int .u64 ((wd f 2 : Nat) : Int)) := A0.cell 2 _ rfl
  have a3 : W0.cell? ⟨w.heap.size, 3, none⟩ = some (.int .u64 ((wd f 3 : Nat) : Int)) := A0.cell 3 _ rfl
  have b0 : W0.cell? ⟨w.heap.size + 1, 0, none⟩ = some (.int .u64 ((wd g 0 : Nat) : Int)) := A1.cell 0 _ rfl
  have b1 : W0.cell? ⟨w.heap.size + 1, 1, none⟩ = some (.int .u64 ((wd g 1 : Nat) : Int)) := A1.cell 1 _ rfl
  have b2 : W0.cell? ⟨w.heap.size + 1, 2, none⟩ = some (.int .u64 ((wd g 2 : Nat) : Int)) := A1.cell 2 _ rfl
  have b3 : W0.cell? ⟨w.heap.size + 1, 3, none⟩ = some (.int .u64 ((wd g 3 : Nat) : Int)) := A1.cell 3 _ rfl
  have HA1 := Lib.hid A1; have HA2 := Lib.hid A2; have HB0 := Lib.hid hB0
  have hs0' : w.heap.size + 3 ≤ W0.heap.size := by omega
  clear A0 A1 A2 hB0 hs0
  have hne : ¬ (w.heap.size + 1 + 1 = w.heap.size) := by omega
  have hne' : ¬ (w.heap.size = w.heap.size + 1 + 1) := by omega
  go_region_held3 (fun w' => w'.cell? ⟨w.heap.size, 0, none⟩ = some (.int .u64 ((wd f 0 : Nat) : Int)) ∧ w'.cell? ⟨w.heap.size, 1, none⟩ = some (.int .u64 ((wd f 1 : Nat) : Int)) ∧ w'.cell? ⟨w.heap.size, 2, none⟩ = some (.int .u64 ((wd f 2 : Nat) : Int)) ∧ w'.cell? ⟨w.heap.size, 3, none⟩ = some (.int .u64 ((wd f 3 : Nat) : Int)) ∧ w'.cell? ⟨w.heap.size + 1, 0, none⟩ = some (.int .u64 ((wd g 0 : Nat) : Int)) ∧ w'.cell? ⟨w.heap.size + 1, 1, none⟩ = some (.int .u64 ((wd g 1 : Nat) : Int)) ∧ w'.cell? ⟨w.heap.size + 1, 2, none⟩ = some (.int .u64 ((wd g 2 : Nat) : Int)) ∧ w'.cell? ⟨w.heap.size + 1, 3, none⟩ = some (.int .u64 ((wd g 3 : Nat) : Int))) (go_keep) (first
    | (go_at_call_of 44 (Value.int .u64 ((wd f 0 : Nat) : Int)); refine (refBytes_any f _).mono ?_; rintro e w1 ⟨v1, rfl, hO1, hb1⟩; have HO1 := Lib.hid hO1; have hb1' : Below W0.heap.size W0 w1 := (Below.refl _ _).drew.trans hb1; have K := keep8 ⟨a0, a1, a2, a3, b0, b1, b2, b3⟩ hb1'; have HK1 := Lib.hid K; obtain ⟨p0, p1, p2, p3, p4, p5, p6, p7⟩ := K; have HB1 := Lib.hid hb1'; clear hb1' hO1)
    | (go_at_call_of 44 (Value.int .u64 ((wd g 0 : Nat) : Int)); refine (refBytes_any g _).mono ?_; rintro e w2 ⟨v2, rfl, hO2, hb2⟩; have HO2 := Lib.hid hO2; have HB2 := Lib.hid hb2; have K := keep8 HK1.out hb2; have HK2 := Lib.hid K; obtain ⟨q0, q1, q2, q3, q4, q5, q6, q7⟩ := K; clear hO2)
    | (go_at_call 37; refine (of_own _ _ f g _ HO3.out).mono ?_; rintro e w4 ⟨rfl, hb4⟩; have hA4 := ((HA2.out.below HB1.out).below HB2.out |>.grown HG3.out (fun e => by have := own_base HO1.out _ e; simp at this; omega)).below hb4; have r0 := hA4.cell 0 _ rfl; have r1 := hA4.cell 1 _ rfl; have r2 := hA4.cell 2 _ rfl; have r3 := hA4.cell 3 _ rfl; have f0 := hA4.frozen 0; have f1 := hA4.frozen 1; have f2 := hA4.frozen 2; have f3 := hA4.frozen 3; have HB4 := Lib.hid hb4; have K := keep8 HK3.out hb4; obtain ⟨t0, t1, t2, t3, t4, t5, t6, t7⟩ := K; clear hA4; unfold setOf)
    | (refine step_appRow rfl (.tmp 6) (.tmp 8) 36 rfl W0.heap.size 5 (.int .u8 0) 1 1 Try.underlying36 infoU8 rfl (by decide) v1 v2 _ _ _ _ (own_below HO1.out HB2.out) (src_own HO2.out) rfl rfl (by simp) (fun y hy => by simp only [List.mem_map] at hy; obtain ⟨x, _, rfl⟩ := hy; rfl) (by rw [lst_len, lst_len]; have := cnt_le f 256; have := cnt_le g 256; omega) (by decide) (Nat.le_trans HB1.out.size HB2.out.size) ?_; intro v3 w3 hO3 hg3; have HO3 := Lib.hid hO3; have HG3 := Lib.hid hg3; have K := keep8g HK2.out hg3 (fun k hk => by have := own_base HO1.out k hk; simp at this; omega); have HK3 := Lib.hid K; obtain ⟨s0, s1, s2, s3, s4, s5, s6, s7⟩ := K; clear hO3))
  go_wp2
  refine bodyPost_ret (v := setOf (fun x => f x || g x)) (by simp [results, Try.results41, go_sem, r0, r1, r2, r3]; rfl) rfl ⟨rfl, ?_⟩
  have B1 := HB0.out.trans (HB1.out.mono (by omega))
  have B2 := B1.trans (HB2.out.mono B1.size)
  have B3 := B2.grown HG3.out B2.size (fun k hk => by have := own_base HO1.out k hk; simp at this; omega)
  have B4 := B3.trans (HB4.out.mono B3.size)
  exact (((B4.setCell (by simp; omega) _).setCell (by simp; omega) _).setCell (by simp; omega) _).setCell (by simp; omega) _
end Go.Proofs.Ytklpjlcphikfaaa
