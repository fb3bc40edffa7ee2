/- Own texts, pruned and joined by a program (prune.py). -/
import Derived.Test.YtgjcibhhffkemaaGreatDoorVt2
import Derived.WalkLawsBesides
import Derived.Lib.Bytealg
import Derived.Deep.RegionWith
set_option linter.unusedVariables false
set_option linter.unusedSimpArgs false
namespace Go.Proofs.YtgjcibhhffkemaaGreatDoor
open Go.RowKit Bt
theorem img_le (b : Nat → Nat) (n : Nat) (l : List Pat) (S : Nat → Bool) (k i : Nat) (h : img (MtC b n (l.take k)) (InS n S) i) : i ≤ n := by
 obtain ⟨j,hj,h2⟩ := h
 have h3 : Mt b n (.cat (l.take k)) j i := by rw [Mt];exact h2
 exact mt_le b n _ j i hj.1 h3
theorem inS_iff {n : Nat} {g : Nat → Bool} {Q : Nat → Prop} (h : ∀ i,i ≤ n → (g i = true ↔ Q i)) (hQ : ∀ i,Q i → i ≤ n) (i : Nat) : InS n g i ↔ Q i :=
 ⟨fun ⟨h1,h2⟩ => (h i h1).1 h2,fun h1 => ⟨hQ i h1,(h i (hQ i h1)).2 h1⟩⟩
set_option maxRecDepth 100000 in
set_option maxHeartbeats 1600000 in
theorem ends_cat (l : List Pat) (hl2 : l.length ≤ 1000) (ih : ∀ p ∈ l,EndsC p) : EndsC (.cat l) := by
 intro w a m c wv xs bf S hn hx hl hfa
 obtain rfl : m = l.length := by
  obtain ⟨a',c',hh⟩ := KAt.slice hn
  injection hh with _ hh _
  rw [trees_len] at hh;exact hh
 obtain ⟨A,wc,rfl⟩ := rdB_slice hx
 have HX := Lib.hid hx;have HF := Lib.hid hfa;have HN := Lib.hid hn
 have hnI : (xs.length : Int) ≤ 1000 := by omega
 have hlI : (l.length : Int) ≤ 1000 := by omega
 have hmk := make_one (P := Tryz.prog) 84 4 (.bool false) 1 Tryz.underlying84 infoBool rfl .i64 .i64 (xs.length + 1) (by omega) (by omega)
 rw [show ((xs.length + 1 : Nat) : Int) = (xs.length : Int) + 1 from by omega,barr_zero] at hmk
 obtain ⟨w0,hw0⟩ : ∃ w0 : World,w0 = (w.alloc (.cells (nodeC 2 emp 0 0 (.slice a l.length c)) 41)).alloc (.cells (barr (fun _ => false) (xs.length + 1)) 4) := ⟨_,rfl⟩
 have HA : Hid (AtG w0 w.heap.size 41 (nodeC 2 emp 0 0 (.slice a l.length c))) := Lib.hid (by rw [hw0];exact (AtG.new _ _ _).alloc _)
 have HO : Hid (AtG w0 (w.heap.size + 1) 4 (barr (fun _ => false) (xs.length + 1))) := Lib.hid (by
  rw [hw0]
  have := AtG.new (w.alloc (.cells (nodeC 2 emp 0 0 (.slice a l.length c)) 41)) 4 (barr (fun _ => false) (xs.length + 1))
  simpa using this)
 have HB0 : Hid (Below w.heap.size w w0) := Lib.hid (by rw [hw0];go_grown)
 have hw0' : (w.alloc (.cells #[.int .i64 2,.int .u64 ((wd emp 0 : Nat) : Int),.int .u64 ((wd emp 1 : Nat) : Int),.int .u64 ((wd emp 2 : Nat) : Int),.int .u64 ((wd emp 3 : Nat) : Int),.int .i64 0,.int .i64 0,.slice a l.length c] 41)).alloc (.cells (barr (fun _ => false) (xs.length + 1)) 4) = w0 := hw0.symm
 have m0 : w0.cell? ⟨w.heap.size,0,none⟩ = some (.int .i64 2) := HA.out.cell 0 _ rfl
 have m7 : w0.cell? ⟨w.heap.size,7,none⟩ = some (.slice a l.length c) := HA.out.cell 7 _ rfl
 have HLF := Lib.hid hfa.lt
 clear hn hx hfa hw0
 show Calls Tryz.prog 34 #[.agg #[.int .i64 2,.int .u64 ((wd emp 0 : Nat) : Int),.int .u64 ((wd emp 1 : Nat) : Int),.int .u64 ((wd emp 2 : Nat) : Int),.int .u64 ((wd emp 3 : Nat) : Int),.int .i64 0,.int .i64 0,.slice a l.length c],_,_] w _
 go_enter Tryz.func34,Tryz.ntmps34
 go_wp2_with fail
 go_loopw [7,57] (fun t7 i wr => ∃ k : Nat,k ≤ l.length ∧ i = .int .i64 k ∧ Below w.heap.size w wr ∧ ∃ bo g,t7 = .slice (some ⟨bo,0,none⟩) (xs.length + 1) (xs.length + 1) ∧ AtG wr bo 4 (barr g (xs.length + 1)) ∧ (bo = bf ∨ w.heap.size ≤ bo) ∧ ∀ i,i ≤ xs.length → (g i = true ↔ img (MtC (byt xs) xs.length (l.take k)) (InS xs.length S) i)) (fun _ i _ => l.length - (intOf i).toNat)
 case atStart => exact ⟨0,Nat.zero_le _,rfl,HB0.out,bf,S,rfl,HF.out.below ((HB0.out).mono (by omega)),.inl rfl,fun i hi => by
  rw [List.take_zero]
  exact ⟨fun h => (mt_cat_nil _ _ _ _).2 ⟨hi,h⟩,fun h => ((mt_cat_nil _ _ _ _).1 h).2⟩⟩
 case round =>
  clear hw0' m0 m7 HA HO HB0 hmk
  obtain ⟨k,hk,rfl,hb,bo,g,rfl,hg,hbo,hgi⟩ := hrel
  have HB := Lib.hid hb;have HG := Lib.hid hg;have HBO := Lib.hid hbo;have HGI := Lib.hid hgi
  clear hb hg hbo hgi
  by_cases hlt : k < l.length
  ·obtain ⟨b,off,cap,heq,hcap,op',f',mn',mx',kids',ka,kc,ht,hc8,hkn⟩ := kid_at HN.out (trees_get hlt)
   injection heq with e1 e2 e3
   subst e1;subst e3
   clear e2
   rw [trees_len] at hcap
   have hI := ih l[k] (List.getElem_mem hlt)
   unfold EndsC at hI
   rw [ht] at hI hkn
   have hI2 := fun w bf S h1 h2 h3 => hI w ka kids'.length kc (.slice A xs.length wc) xs bf S h1 h2 hl h3
   unfold nodeV at hI2
   have HI := Lib.hid hI2;have HKN := Lib.hid hkn
   obtain ⟨kn,hkl⟩ : ∃ kn,kn = kids'.length := ⟨_,rfl⟩
   rw [← hkl] at HKN HI hc8
   obtain ⟨c0,c1,c2,c3,c4,c5,c6,c7⟩ := Cell8.below hc8 HB.out
   clear hI hI2 hkn hkl ht hc8
   go_wp2_with fail
   refine (HI.out _ bo g (NAt.below HKN.out (HB.out.alloc HB.out.size (.cells (nodeC op' f' mn' mx' (.slice ka kn kc)) 41))) (rdB_below HX.out (HB.out.alloc HB.out.size _)) (HG.out.alloc _)).mono ?_
   rintro e9 w9 ⟨hb9,b9,g9,rfl,hg9,hbo9,hgi9⟩
   have HB9 := Lib.hid ((HB.out.alloc HB.out.size (.cells (nodeC op' f' mn' mx' (.slice ka kn kc)) 41)).trans (hb9.mono (by have := HB.out.size;simp;omega)))
   have HG9 := Lib.hid hg9
   have HBO9 : Hid (b9 = bf ∨ w.heap.size ≤ b9) := Lib.hid (by
    rcases hbo9 with h | h
    ·rw [h];exact HBO.out
    ·have := HB.out.size;simp at h;omega)
   have HGI9 := Lib.hid hgi9
   clear hb9 hg9 hbo9 hgi9
   go_wp2_with fail
   exact ⟨⟨k + 1,by omega,by go_num,HB9.out,b9,g9,rfl,HG9.out,HBO9.out,fun i hi => (HGI9.out i hi).trans ((img_congr (inS_iff HGI.out (img_le _ _ _ _ _)) i).trans (mtC_snoc _ _ l k hlt _ i).symm)⟩,by simp [intOf];omega⟩
  ·obtain rfl : k = l.length := by omega
   rw [List.take_length] at HGI
   go_wp2_with fail
   go_returns
   exact ⟨HB.out,bo,g,rfl,HG.out,HBO.out,HGI.out⟩
set_option maxRecDepth 100000 in
set_option maxHeartbeats 1600000 in
theorem ends_alt (l : List Pat) (hl2 : l.length ≤ 1000) (ih : ∀ p ∈ l,EndsC p) : EndsC (.alt l) := by
 intro w a m c wv xs bf S hn hx hl hfa
 obtain rfl : m = l.length := by
  obtain ⟨a',c',hh⟩ := KAt.slice hn
  injection hh with _ hh _
  rw [trees_len] at hh;exact hh
 obtain ⟨A,wc,rfl⟩ := rdB_slice hx
 have HX := Lib.hid hx;have HF := Lib.hid hfa;have HN := Lib.hid hn
 have hnI : (xs.length : Int) ≤ 1000 := by omega
 have hlI : (l.length : Int) ≤ 1000 := by omega
 have hmk := make_one (P := Tryz.prog) 84 4 (.bool false) 1 Tryz.underlying84 infoBool rfl .i64 .i64 (xs.length + 1) (by omega) (by omega)
 rw [show ((xs.length + 1 : Nat) : Int) = (xs.length : Int) + 1 from by omega,barr_zero] at hmk
 obtain ⟨w0,hw0⟩ : ∃ w0 : World,w0 = (w.alloc (.cells (nodeC 3 emp 0 0 (.slice a l.length c)) 41)).alloc (.cells (barr (fun _ => false) (xs.length + 1)) 4) := ⟨_,rfl⟩
 have HA : Hid (AtG w0 w.heap.size 41 (nodeC 3 emp 0 0 (.slice a l.length c))) := Lib.hid (by rw [hw0];exact (AtG.new _ _ _).alloc _)
 have HO : Hid (AtG w0 (w.heap.size + 1) 4 (barr (fun _ => false) (xs.length + 1))) := Lib.hid (by
  rw [hw0]
  have := AtG.new (w.alloc (.cells (nodeC 3 emp 0 0 (.slice a l.length c)) 41)) 4 (barr (fun _ => false) (xs.length + 1))
  simpa using this)
 have HB0 : Hid (Below w.heap.size w w0) := Lib.hid (by rw [hw0];go_grown)
 have hw0' : (w.alloc (.cells #[.int .i64 3,.int .u64 ((wd emp 0 : Nat) : Int),.int .u64 ((wd emp 1 : Nat) : Int),.int .u64 ((wd emp 2 : Nat) : Int),.int .u64 ((wd emp 3 : Nat) : Int),.int .i64 0,.int .i64 0,.slice a l.length c] 41)).alloc (.cells (barr (fun _ => false) (xs.length + 1)) 4) = w0 := hw0.symm
 have m0 : w0.cell? ⟨w.heap.size,0,none⟩ = some (.int .i64 3) := HA.out.cell 0 _ rfl
 have m7 : w0.cell? ⟨w.heap.size,7,none⟩ = some (.slice a l.length c) := HA.out.cell 7 _ rfl
 have HLF := Lib.hid hfa.lt
 clear hn hx hfa hw0
 show Calls Tryz.prog 34 #[.agg #[.int .i64 3,.int .u64 ((wd emp 0 : Nat) : Int),.int .u64 ((wd emp 1 : Nat) : Int),.int .u64 ((wd emp 2 : Nat) : Int),.int .u64 ((wd emp 3 : Nat) : Int),.int .i64 0,.int .i64 0,.slice a l.length c],_,_] w _
 go_enter Tryz.func34,Tryz.ntmps34
 go_wp2_with fail
 go_loopw [71] (fun i wr => ∃ k : Nat,k ≤ l.length ∧ i = .int .i64 k ∧ Below w.heap.size w wr ∧ ∃ g,AtG wr (w.heap.size + 1) 4 (barr g (xs.length + 1)) ∧ ∀ i,i ≤ xs.length → (g i = true ↔ img (MtA (byt xs) xs.length (l.take k)) (InS xs.length S) i)) (fun i _ => l.length - (intOf i).toNat)
 case atStart => exact ⟨0,Nat.zero_le _,rfl,HB0.out,_,HO.out,fun i hi => by
  rw [List.take_zero]
  exact ⟨(fun h => by cases h),fun ⟨j,_,h⟩ => by rw [MtA] at h;exact h.elim⟩⟩
 case round =>
  clear hw0' m0 m7 HA HO HB0 hmk
  obtain ⟨k,hk,rfl,hb,g,hg,hgi⟩ := hrel
  have HB := Lib.hid hb;have HG := Lib.hid hg;have HGI := Lib.hid hgi
  have hsz : w.heap.size + 1 < wr.heap.size := hg.lt
  have HSZ := Lib.hid hsz
  clear hb hg hgi hsz
  by_cases hlt : k < l.length
  ·obtain ⟨b,off,cap,heq,hcap,op',f',mn',mx',kids',ka,kc,ht,hc8,hkn⟩ := kid_at HN.out (trees_get hlt)
   injection heq with e1 e2 e3
   subst e1;subst e3
   clear e2
   rw [trees_len] at hcap
   have hI := ih l[k] (List.getElem_mem hlt)
   unfold EndsC at hI
   rw [ht] at hI hkn
   have hI2 := fun w bf S h1 h2 h3 => hI w ka kids'.length kc (.slice A xs.length wc) xs bf S h1 h2 hl h3
   unfold nodeV at hI2
   have HI := Lib.hid hI2;have HKN := Lib.hid hkn
   obtain ⟨kn,hkl⟩ : ∃ kn,kn = kids'.length := ⟨_,rfl⟩
   rw [← hkl] at HKN HI hc8
   obtain ⟨c0,c1,c2,c3,c4,c5,c6,c7⟩ := Cell8.below hc8 HB.out
   clear hI hI2 hkn hkl ht hc8
   go_wp2_with fail
   refine (HI.out _ bf S (NAt.below HKN.out (HB.out.alloc HB.out.size (.cells (nodeC op' f' mn' mx' (.slice ka kn kc)) 41))) (rdB_below HX.out (HB.out.alloc HB.out.size _)) (HF.out.below (HB.out.alloc HB.out.size _))).mono ?_
   rintro e9 w9 ⟨hb9,b9,g9,rfl,hg9,hbo9,hgi9⟩
   have HB9 := Lib.hid ((HB.out.alloc HB.out.size (.cells (nodeC op' f' mn' mx' (.slice ka kn kc)) 41)).trans (hb9.mono (by have := HB.out.size;simp;omega)))
   have HR9 := Lib.hid hg9
   have HO9 := Lib.hid ((HG.out.alloc (.cells (nodeC op' f' mn' mx' (.slice ka kn kc)) 41)).below hb9)
   have HNE : Hid (b9 ≠ w.heap.size + 1) := Lib.hid (by
    have := HLF.out;have := HSZ.out
    rcases hbo9 with h | h
    ·omega
    ·simp at h;omega)
   have HGI9 := Lib.hid hgi9
   clear hb9 hg9 hbo9 hgi9 c0 c1 c2 c3 c4 c5 c6 c7
   go_wp2_with fail
   go_loopw [80] (fun i wq => ∃ q : Nat,q ≤ xs.length + 1 ∧ i = .int .i64 q ∧ Below w.heap.size w wq ∧ AtG wq b9 4 (barr g9 (xs.length + 1)) ∧ ∃ h,AtG wq (w.heap.size + 1) 4 (barr h (xs.length + 1)) ∧ (∀ j,j < q → h j = (g j || g9 j)) ∧ ∀ j,q ≤ j → h j = g j) (fun i _ => xs.length + 1 - (intOf i).toNat)
   case atStart => exact ⟨0,Nat.zero_le _,rfl,HB9.out,HR9.out,g,HO9.out,fun j h => absurd h (Nat.not_lt_zero _),fun _ _ => rfl⟩
   case round =>
    clear HB9 HR9 HO9
    obtain ⟨q,hq,rfl,hb,hr,h,hh,h1,h2⟩ := hrel
    have HBq := Lib.hid hb;have HRq := Lib.hid hr;have HHq := Lib.hid hh;have H1 := Lib.hid h1;have H2 := Lib.hid h2
    clear hb hr hh h1 h2
    by_cases hltq : q < xs.length + 1
    ·have hqI : (q : Int) < (xs.length : Int) + 1 := by omega
     have r1 := HRq.out.bool q hltq
     have o1 := HHq.out.bool q hltq
     have y1 := HHq.out.frozen q
     have hh2 := H2.out q (Nat.le_refl _)
     cases hgq : h q with
     | true =>
      rw [hgq] at o1
      go_wp2_with fail
      refine ⟨⟨q + 1,by omega,by go_num,HBq.out.setCell (by simp) _,HRq.out.far (p := ⟨w.heap.size + 1,q,none⟩) HNE.out _,updB h q true,HHq.out.setB q true,?_,?_⟩,by simp [intOf];omega⟩
      ·intro j hj
       unfold updB
       by_cases e : j = q
       ·subst e;rw [if_pos rfl,← hh2,hgq];rfl
       ·rw [if_neg e];exact H1.out j (by omega)
      ·intro j hj
       unfold updB
       rw [if_neg (by omega)];exact H2.out j (by omega)
     | false =>
      rw [hgq] at o1
      go_wp2_with fail
      refine ⟨⟨q + 1,by omega,by go_num,HBq.out.setCell (by simp) _,HRq.out.far (p := ⟨w.heap.size + 1,q,none⟩) HNE.out _,updB h q (g9 q),HHq.out.setB q (g9 q),?_,?_⟩,by simp [intOf];omega⟩
      ·intro j hj
       unfold updB
       by_cases e : j = q
       ·subst e;rw [if_pos rfl,← hh2,hgq];rfl
       ·rw [if_neg e];exact H1.out j (by omega)
      ·intro j hj
       unfold updB
       rw [if_neg (by omega)];exact H2.out j (by omega)
    ·obtain rfl : q = xs.length + 1 := by omega
     go_wp2_with fail
     exact ⟨⟨k + 1,by omega,by go_num,HBq.out,h,HHq.out,fun i hi => by
      rw [H1.out i (by omega),Bool.or_eq_true,mtA_snoc _ _ l k hlt]
      exact or_congr (HGI.out i hi) (HGI9.out i hi)⟩,by simp [intOf];omega⟩
  ·obtain rfl : k = l.length := by omega
   rw [List.take_length] at HGI
   go_wp2_with fail
   go_returns
   exact ⟨HB.out,w.heap.size + 1,g,rfl,HG.out,.inr (by omega),HGI.out⟩
end Go.Proofs.YtgjcibhhffkemaaGreatDoor
namespace Go.Proofs.YtgjcibhhffkemaaGreatDoor
open Go.RowKit Bt
theorem img_none {R : Nat → Nat → Prop} {S : Nat → Prop} (h : ∀ j,¬ S j) (i : Nat) : ¬ img R S i := fun ⟨j,hj,_⟩ => h j hj
theorem imgN_le (b : Nat → Nat) (n : Nat) (p : Pat) (S : Nat → Bool) (t : Nat) : ∀ i,imgN (Mt b n p) (InS n S) t i → i ≤ n := by
 induction t with
 | zero => intro i h;exact h.1
 | succ t ih => rintro i ⟨j,h1,h2⟩;exact mt_le b n p j i (ih j h1) h2
set_option maxRecDepth 100000 in
set_option maxHeartbeats 8000000 in
theorem ends_rep (mn mx : Nat) (p : Pat) (h1 : mn ≤ mx) (h2 : mx ≤ 1000) (ih : EndsC p) : EndsC (.rep mn mx p) := by
 intro w a m c wv xs bf S hn hx hl hfa
 obtain rfl : m = 1 := by
  obtain ⟨a',c',hh⟩ := KAt.slice hn
  injection hh with _ hh _
 obtain ⟨A,wc,rfl⟩ := rdB_slice hx
 have HX := Lib.hid hx;have HF := Lib.hid hfa;have HN := Lib.hid hn
 have hnI : (xs.length : Int) ≤ 1000 := by omega
 have hmk := make_one (P := Tryz.prog) 84 4 (.bool false) 1 Tryz.underlying84 infoBool rfl .i64 .i64 (xs.length + 1) (by omega) (by omega)
 rw [show ((xs.length + 1 : Nat) : Int) = (xs.length : Int) + 1 from by omega,barr_zero] at hmk
 obtain ⟨b,off,cap,heq,hcap,op',f',mn',mx',kids',ka,kc,ht,hc8,hkn⟩ := kid_at (j := 0) (t := p.tree) hn rfl
 injection heq with e1 e2 e3
 subst e1;subst e3
 clear e2
 unfold EndsC at ih
 rw [ht] at ih hkn
 have hI2 := fun w bf S h1 h2 h3 => ih w ka kids'.length kc (.slice A xs.length wc) xs bf S h1 h2 hl h3
 unfold nodeV at hI2
 have HI := Lib.hid hI2;have HKN := Lib.hid hkn
 obtain ⟨kn,hkl⟩ : ∃ kn,kn = kids'.length := ⟨_,rfl⟩
 have hz8 : off + 0 * 8 = off := by omega
 rw [← hkl] at HKN HI hc8
 rw [hz8] at hc8
 have HC8 := Lib.hid hc8
 obtain ⟨w0,hw0⟩ : ∃ w0 : World,w0 = (w.alloc (.cells (nodeC 4 emp (mn : Int) (mx : Int) (.slice (some ⟨b,off,none⟩) 1 c)) 41)).alloc (.cells (barr (fun _ => false) (xs.length + 1)) 4) := ⟨_,rfl⟩
 have HA : Hid (AtG w0 w.heap.size 41 (nodeC 4 emp (mn : Int) (mx : Int) (.slice (some ⟨b,off,none⟩) 1 c))) := Lib.hid (by rw [hw0];exact (AtG.new _ _ _).alloc _)
 have HO : Hid (AtG w0 (w.heap.size + 1) 4 (barr (fun _ => false) (xs.length + 1))) := Lib.hid (by
  rw [hw0]
  have := AtG.new (w.alloc (.cells (nodeC 4 emp (mn : Int) (mx : Int) (.slice (some ⟨b,off,none⟩) 1 c)) 41)) 4 (barr (fun _ => false) (xs.length + 1))
  simpa using this)
 have HB0 : Hid (Below w.heap.size w w0) := Lib.hid (by rw [hw0];go_grown)
 have hw0' : (w.alloc (.cells #[.int .i64 4,.int .u64 ((wd emp 0 : Nat) : Int),.int .u64 ((wd emp 1 : Nat) : Int),.int .u64 ((wd emp 2 : Nat) : Int),.int .u64 ((wd emp 3 : Nat) : Int),.int .i64 (mn : Int),.int .i64 (mx : Int),.slice (some ⟨b,off,none⟩) 1 c] 41)).alloc (.cells (barr (fun _ => false) (xs.length + 1)) 4) = w0 := hw0.symm
 have m0 : w0.cell? ⟨w.heap.size,0,none⟩ = some (.int .i64 4) := HA.out.cell 0 _ rfl
 have HLF := Lib.hid hfa.lt
 have hmxI : (mx : Int) ≤ 1000 := by omega
 have hmnI : (mn : Int) ≤ 1000 := by omega
 have HMN := Lib.hid h1
 obtain ⟨R,hR⟩ : ∃ R,R = Mt (byt xs) xs.length p := ⟨_,rfl⟩
 rw [← hR] at HI
 have HPOST : Hid (∀ i,img (Mt (byt xs) xs.length (.rep mn mx p)) (InS xs.length S) i ↔ ∃ u,mn ≤ u ∧ u ≤ mx ∧ imgN R (InS xs.length S) u i) := Lib.hid (fun i => by rw [hR];exact mt_rep _ _ _ _ _ _ _)
 have HLE : Hid (∀ t i,imgN R (InS xs.length S) t i → i ≤ xs.length) := Lib.hid (fun t i => by rw [hR];exact imgN_le _ _ _ _ _ _)
 clear hn hx hfa hw0 ih hI2 hkn ht hkl hz8 hc8 hR
 show Calls Tryz.prog 34 #[.agg #[.int .i64 4,.int .u64 ((wd emp 0 : Nat) : Int),.int .u64 ((wd emp 1 : Nat) : Int),.int .u64 ((wd emp 2 : Nat) : Int),.int .u64 ((wd emp 3 : Nat) : Int),.int .i64 (mn : Int),.int .i64 (mx : Int),.slice (some ⟨b,off,none⟩) 1 c],_,_] w _
 have hpost : ∀ (e : Ending) (w' : World),(Below w.heap.size w w' ∧ ∃ b' g',e = .returned (.slice (some ⟨b',0,none⟩) (xs.length + 1) (xs.length + 1)) ∧ AtG w' b' 4 (barr g' (xs.length + 1)) ∧ (b' = bf ∨ w.heap.size ≤ b') ∧ ∀ i,i ≤ xs.length → (g' i = true ↔ ∃ u,mn ≤ u ∧ u ≤ mx ∧ imgN R (InS xs.length S) u i)) → (Below w.heap.size w w' ∧ ∃ b' g',e = .returned (.slice (some ⟨b',0,none⟩) (xs.length + 1) (xs.length + 1)) ∧ AtG w' b' 4 (barr g' (xs.length + 1)) ∧ (b' = bf ∨ w.heap.size ≤ b') ∧ ∀ i,i ≤ xs.length → (g' i = true ↔ img (Mt (byt xs) xs.length (.rep mn mx p)) (InS xs.length S) i)) := by
  rintro e w' ⟨q1,b',g',q2,q3,q4,q5⟩
  exact ⟨q1,b',g',q2,q3,q4,fun i hi => (q5 i hi).trans (HPOST.out i).symm⟩
 refine Calls.mono ?_ hpost
 clear hpost HPOST
 go_enter Tryz.func34,Tryz.ntmps34
 go_wp2_with fail
 go_loopw [2,16] (fun t2 i wr => ∃ t : Nat,t ≤ mx ∧ ∃ bq F g,t2 = .slice (some ⟨bq,0,none⟩) (xs.length + 1) (xs.length + 1) ∧ i = .int .i64 t ∧ Below w.heap.size w wr ∧ AtG wr w.heap.size 41 (nodeC 4 emp (mn : Int) (mx : Int) (.slice (some ⟨b,off,none⟩) 1 c)) ∧ AtG wr bq 4 (barr F (xs.length + 1)) ∧ bq ≠ w.heap.size + 1 ∧ AtG wr (w.heap.size + 1) 4 (barr g (xs.length + 1)) ∧ (∀ i,i ≤ xs.length → (F i = true ↔ imgN R (InS xs.length S) t i)) ∧ ∀ i,i ≤ xs.length → (g i = true ↔ ∃ u,mn ≤ u ∧ u < t ∧ imgN R (InS xs.length S) u i)) (fun _ i _ => mx + 1 - (intOf i).toNat)
 case atStart => exact ⟨0,Nat.zero_le _,bf,S,_,rfl,rfl,HB0.out,HA.out,HF.out.below (HB0.out),by have := HLF.out;omega,HO.out,fun i hi => ⟨fun h => ⟨hi,h⟩,fun h => h.2⟩,fun i hi => ⟨(fun h => by cases h),fun ⟨u,_,h,_⟩ => absurd h (Nat.not_lt_zero _)⟩⟩
 case round =>
  clear hw0' m0 HA HO HB0 hmk
  obtain ⟨t,htm,bq,F,g,rfl,rfl,hb,ha,hq,hne,ho,hfi,hgi⟩ := hrel
  have HB := Lib.hid hb;have HAq := Lib.hid ha;have HQ := Lib.hid hq;have HNE := Lib.hid hne;have HO := Lib.hid ho;have HFI := Lib.hid hfi;have HGI := Lib.hid hgi
  have n6 : wr.cell? ⟨w.heap.size,6,none⟩ = some (.int .i64 (mx : Int)) := ha.cell 6 _ rfl
  have n7 : wr.cell? ⟨w.heap.size,7,none⟩ = some (.slice (some ⟨b,off,none⟩) 1 c) := ha.cell 7 _ rfl
  clear hb ha hq hne ho hfi hgi
  have htmI : (t : Int) ≤ (mx : Int) := by omega
  by_cases hlt : t < mx
  ·have hltI : (t : Int) < (mx : Int) := by omega
   have HCO := Lib.hid (containsB_any bq (xs.length + 1) F true wr (by omega) HQ.out)
   go_wp2_with fail
   refine (HCO.out).mono ?_
   rintro e9 w9 ⟨rfl,r,rfl,hr⟩
   cases r with
   | true =>
    obtain ⟨c0,c1,c2,c3,c4,c5,c6,c7⟩ := Cell8.below HC8.out HB.out
    have HRR := Lib.hid hr;clear hr
    go_wp2_with fail
    refine (HI.out _ bq F (NAt.below HKN.out HB.out) (rdB_below HX.out HB.out) HQ.out).mono ?_
    rintro e9 w4 ⟨hb4,bn,G,rfl,hg4,hbn4,hgi4⟩
    have HB4 := Lib.hid (HB.out.trans (hb4.mono HB.out.size));have HA4 := Lib.hid (HAq.out.below hb4);have HQ4 := Lib.hid (HQ.out.below hb4);have HO4 := Lib.hid (HO.out.below hb4);have HN4 := Lib.hid hg4
    have HNN : Hid (bn ≠ w.heap.size + 1) := Lib.hid (by
     rcases hbn4 with h | h
     ·rw [h];exact HNE.out
     ·have := HO.out.lt;omega)
    have HGN : Hid (∀ i,i ≤ xs.length → (G i = true ↔ imgN R (InS xs.length S) (t + 1) i)) := Lib.hid (fun i hi => (hgi4 i hi).trans (img_congr (inS_iff HFI.out (HLE.out t)) i))
    clear hb4 hg4 hbn4 hgi4 n6 n7 c0 c1 c2 c3 c4 c5 c6 c7
    have HEQ := Lib.hid (equalB_any bn bq (xs.length + 1) G F w4 (by omega) HN4.out HQ4.out)
    go_wp2_with fail
    refine (HEQ.out).mono ?_
    rintro e9 w5 ⟨hb5,st,rfl,hst⟩
    have HB5 := Lib.hid (HB4.out.trans (hb5.mono HB4.out.size));have HA5 := Lib.hid (HA4.out.below hb5);have HQ5 := Lib.hid (HQ4.out.below hb5);have HO5 := Lib.hid (HO4.out.below hb5);have HN5 := Lib.hid (HN4.out.below hb5)
    have HLT := Lib.hid hlt
    clear hb5 HEQ HCO
    cases st with
    | true =>
     have HSTOP : Hid (∀ i,(∃ u,mn ≤ u ∧ u ≤ mx ∧ imgN R (InS xs.length S) u i) ↔ ((∃ u,mn ≤ u ∧ u < t ∧ imgN R (InS xs.length S) u i) ∨ imgN R (InS xs.length S) t i)) := Lib.hid (rep_stop (fun i => by
      have hle : ∀ t i,imgN R (InS xs.length S) t i → i ≤ xs.length := HLE.out
      constructor
      ·intro h
       have hi := hle (t + 1) i h
       exact (HFI.out i hi).1 ((hst.1 rfl i (by omega)) ▸ (HGN.out i hi).2 h)
      ·intro h
       have hi := hle t i h
       exact (HGN.out i hi).1 ((hst.1 rfl i (by omega)).symm ▸ (HFI.out i hi).2 h)) (by omega) HMN.out)
     clear hst
     by_cases hmt : mn ≤ t
     ·have hmtI : (mn : Int) ≤ (t : Int) := by omega
      go_wp2_with fail
      go_loopw [132] (fun i wq => ∃ q : Nat,q ≤ xs.length + 1 ∧ i = .int .i64 q ∧ Below w.heap.size w wq ∧ AtG wq w.heap.size 41 (nodeC 4 emp (mn : Int) (mx : Int) (.slice (some ⟨b,off,none⟩) 1 c)) ∧ AtG wq bq 4 (barr F (xs.length + 1)) ∧ AtG wq bn 4 (barr G (xs.length + 1)) ∧ ∃ h,AtG wq (w.heap.size + 1) 4 (barr h (xs.length + 1)) ∧ (∀ j,j < q → h j = (g j || (F j && true))) ∧ ∀ j,q ≤ j → h j = g j) (fun i _ => xs.length + 1 - (intOf i).toNat)
      case atStart => exact ⟨0,Nat.zero_le _,rfl,HB5.out,HA5.out,HQ5.out,HN5.out,g,HO5.out,fun j h => absurd h (Nat.not_lt_zero _),by first | exact fun _ _ => rfl | trivial⟩
      case round =>
       obtain ⟨q,hq,rfl,hb,ha,hr,hnn,h,hh,h1,h2⟩ := hrel
       have HBq := Lib.hid hb;have HAq := Lib.hid ha;have HRq := Lib.hid hr;have HNq := Lib.hid hnn;have HHq := Lib.hid hh;have H1 := Lib.hid h1;have H2 := Lib.hid h2
       have n5 : wr.cell? ⟨w.heap.size,5,none⟩ = some (.int .i64 (mn : Int)) := ha.cell 5 _ rfl
       clear hb ha hr hnn hh h1 h2
       by_cases hltq : q < xs.length + 1
       ·have hqI : (q : Int) < (xs.length : Int) + 1 := by omega
        have r1 := HRq.out.bool q hltq
        have o1 := HHq.out.bool q hltq
        have z1 := HHq.out.frozen q
        have hh2 := H2.out q (Nat.le_refl _)
        cases hgq : h q with
        | true =>
         rw [hgq] at o1
         go_wp2_with fail
         refine ⟨⟨q + 1,by omega,by go_num,HBq.out.setCell (by simp) _,HAq.out.far (p := ⟨w.heap.size + 1,q,none⟩) (by show w.heap.size ≠ w.heap.size + 1;omega) _,HRq.out.far (p := ⟨w.heap.size + 1,q,none⟩) HNE.out _,HNq.out.far (p := ⟨w.heap.size + 1,q,none⟩) HNN.out _,updB h q true,HHq.out.setB q true,?_,?_⟩,by simp [intOf];omega⟩
         ·intro j hj
          unfold updB
          by_cases e : j = q
          ·subst e;rw [if_pos rfl,← hh2,hgq];rfl
          ·rw [if_neg e];exact H1.out j (by omega)
         ·intro j hj
          unfold updB
          rw [if_neg (by omega)];exact H2.out j (by omega)
        | false =>
         rw [hgq] at o1
         cases hfq : F q with
         | false =>
          rw [hfq] at r1
          go_wp2_with fail
          refine ⟨⟨q + 1,by omega,by go_num,HBq.out.setCell (by simp) _,HAq.out.far (p := ⟨w.heap.size + 1,q,none⟩) (by show w.heap.size ≠ w.heap.size + 1;omega) _,HRq.out.far (p := ⟨w.heap.size + 1,q,none⟩) HNE.out _,HNq.out.far (p := ⟨w.heap.size + 1,q,none⟩) HNN.out _,updB h q false,HHq.out.setB q false,?_,?_⟩,by simp [intOf];omega⟩
          ·intro j hj
           unfold updB
           by_cases e : j = q
           ·subst e;rw [if_pos rfl,← hh2,hgq,hfq];rfl
           ·rw [if_neg e];exact H1.out j (by omega)
          ·intro j hj
           unfold updB
           rw [if_neg (by omega)];exact H2.out j (by omega)
         | true =>
          rw [hfq] at r1
          go_wp2_with fail
          refine ⟨⟨q + 1,by omega,by go_num,HBq.out.setCell (by simp) _,HAq.out.far (p := ⟨w.heap.size + 1,q,none⟩) (by show w.heap.size ≠ w.heap.size + 1;omega) _,HRq.out.far (p := ⟨w.heap.size + 1,q,none⟩) HNE.out _,HNq.out.far (p := ⟨w.heap.size + 1,q,none⟩) HNN.out _,updB h q (true),HHq.out.setB q (true),?_,?_⟩,by simp [intOf];omega⟩
          ·intro j hj
           unfold updB
           by_cases e : j = q
           ·subst e;rw [if_pos rfl,← hh2,hgq,hfq];rfl
           ·rw [if_neg e];exact H1.out j (by omega)
          ·intro j hj
           unfold updB
           rw [if_neg (by omega)];exact H2.out j (by omega)
       ·obtain rfl : q = xs.length + 1 := by omega
        have H1' : Hid (∀ i,i ≤ xs.length → h i = (g i || (F i && true))) := Lib.hid (fun i hi => H1.out i (by omega))
        clear H1 H2 n5 hltq
        go_wp2_with fail
        go_returns
        refine ⟨HBq.out,w.heap.size + 1,h,rfl,HHq.out,.inr (by omega),fun i hi => ?_⟩
        rw [H1'.out i hi,Bool.and_true,Bool.or_eq_true,HGI.out i hi,HFI.out i hi]
        exact (HSTOP.out i).symm
     ·have hmtI : ¬ (mn : Int) ≤ (t : Int) := by omega
      go_wp2_with fail
      go_loopw [132] (fun i wq => ∃ q : Nat,q ≤ xs.length + 1 ∧ i = .int .i64 q ∧ Below w.heap.size w wq ∧ AtG wq w.heap.size 41 (nodeC 4 emp (mn : Int) (mx : Int) (.slice (some ⟨b,off,none⟩) 1 c)) ∧ AtG wq bq 4 (barr F (xs.length + 1)) ∧ AtG wq bn 4 (barr G (xs.length + 1)) ∧ ∃ h,AtG wq (w.heap.size + 1) 4 (barr h (xs.length + 1)) ∧ (∀ j,j < q → h j = (g j || (F j && true))) ∧ ∀ j,q ≤ j → h j = g j) (fun i _ => xs.length + 1 - (intOf i).toNat)
      case atStart => exact ⟨0,Nat.zero_le _,rfl,HB5.out,HA5.out,HQ5.out,HN5.out,g,HO5.out,fun j h => absurd h (Nat.not_lt_zero _),by first | exact fun _ _ => rfl | trivial⟩
      case round =>
       obtain ⟨q,hq,rfl,hb,ha,hr,hnn,h,hh,h1,h2⟩ := hrel
       have HBq := Lib.hid hb;have HAq := Lib.hid ha;have HRq := Lib.hid hr;have HNq := Lib.hid hnn;have HHq := Lib.hid hh;have H1 := Lib.hid h1;have H2 := Lib.hid h2
       have n5 : wr.cell? ⟨w.heap.size,5,none⟩ = some (.int .i64 (mn : Int)) := ha.cell 5 _ rfl
       clear hb ha hr hnn hh h1 h2
       by_cases hltq : q < xs.length + 1
       ·have hqI : (q : Int) < (xs.length : Int) + 1 := by omega
        have r1 := HRq.out.bool q hltq
        have o1 := HHq.out.bool q hltq
        have z1 := HHq.out.frozen q
        have hh2 := H2.out q (Nat.le_refl _)
        cases hgq : h q with
        | true =>
         rw [hgq] at o1
         go_wp2_with fail
         refine ⟨⟨q + 1,by omega,by go_num,HBq.out.setCell (by simp) _,HAq.out.far (p := ⟨w.heap.size + 1,q,none⟩) (by show w.heap.size ≠ w.heap.size + 1;omega) _,HRq.out.far (p := ⟨w.heap.size + 1,q,none⟩) HNE.out _,HNq.out.far (p := ⟨w.heap.size + 1,q,none⟩) HNN.out _,updB h q true,HHq.out.setB q true,?_,?_⟩,by simp [intOf];omega⟩
         ·intro j hj
          unfold updB
          by_cases e : j = q
          ·subst e;rw [if_pos rfl,← hh2,hgq];rfl
          ·rw [if_neg e];exact H1.out j (by omega)
         ·intro j hj
          unfold updB
          rw [if_neg (by omega)];exact H2.out j (by omega)
        | false =>
         rw [hgq] at o1
         cases hfq : F q with
         | false =>
          rw [hfq] at r1
          go_wp2_with fail
          refine ⟨⟨q + 1,by omega,by go_num,HBq.out.setCell (by simp) _,HAq.out.far (p := ⟨w.heap.size + 1,q,none⟩) (by show w.heap.size ≠ w.heap.size + 1;omega) _,HRq.out.far (p := ⟨w.heap.size + 1,q,none⟩) HNE.out _,HNq.out.far (p := ⟨w.heap.size + 1,q,none⟩) HNN.out _,updB h q false,HHq.out.setB q false,?_,?_⟩,by simp [intOf];omega⟩
          ·intro j hj
           unfold updB
           by_cases e : j = q
           ·subst e;rw [if_pos rfl,← hh2,hgq,hfq];rfl
           ·rw [if_neg e];exact H1.out j (by omega)
          ·intro j hj
           unfold updB
           rw [if_neg (by omega)];exact H2.out j (by omega)
         | true =>
          rw [hfq] at r1
          go_wp2_with fail
          refine ⟨⟨q + 1,by omega,by go_num,HBq.out.setCell (by simp) _,HAq.out.far (p := ⟨w.heap.size + 1,q,none⟩) (by show w.heap.size ≠ w.heap.size + 1;omega) _,HRq.out.far (p := ⟨w.heap.size + 1,q,none⟩) HNE.out _,HNq.out.far (p := ⟨w.heap.size + 1,q,none⟩) HNN.out _,updB h q (true),HHq.out.setB q (true),?_,?_⟩,by simp [intOf];omega⟩
          ·intro j hj
           unfold updB
           by_cases e : j = q
           ·subst e;rw [if_pos rfl,← hh2,hgq,hfq];rfl
           ·rw [if_neg e];exact H1.out j (by omega)
          ·intro j hj
           unfold updB
           rw [if_neg (by omega)];exact H2.out j (by omega)
       ·obtain rfl : q = xs.length + 1 := by omega
        have H1' : Hid (∀ i,i ≤ xs.length → h i = (g i || (F i && true))) := Lib.hid (fun i hi => H1.out i (by omega))
        clear H1 H2 n5 hltq
        go_wp2_with fail
        go_returns
        refine ⟨HBq.out,w.heap.size + 1,h,rfl,HHq.out,.inr (by omega),fun i hi => ?_⟩
        rw [H1'.out i hi,Bool.and_true,Bool.or_eq_true,HGI.out i hi,HFI.out i hi]
        exact (HSTOP.out i).symm
    | false =>
     clear hst
     by_cases hmt : mn ≤ t
     ·have hmtI : (mn : Int) ≤ (t : Int) := by omega
      have HNEXT : Hid (∀ i,i ≤ xs.length → ((∃ u,mn ≤ u ∧ u < t ∧ imgN R (InS xs.length S) u i) ∨ (F i && true) = true ↔ ∃ u,mn ≤ u ∧ u < t + 1 ∧ imgN R (InS xs.length S) u i)) := Lib.hid (fun i hi => by
       rw [Bool.and_true,HFI.out i hi]
       constructor
       ·rintro (⟨u,a1,a2,a3⟩ | a3)
        ·exact ⟨u,a1,by omega,a3⟩
        ·exact ⟨t,hmt,by omega,a3⟩
       ·rintro ⟨u,a1,a2,a3⟩
        by_cases e : u = t
        ·subst e;exact .inr a3
        ·exact .inl ⟨u,a1,by omega,a3⟩)
      go_wp2_with fail
      go_loopw [132] (fun i wq => ∃ q : Nat,q ≤ xs.length + 1 ∧ i = .int .i64 q ∧ Below w.heap.size w wq ∧ AtG wq w.heap.size 41 (nodeC 4 emp (mn : Int) (mx : Int) (.slice (some ⟨b,off,none⟩) 1 c)) ∧ AtG wq bq 4 (barr F (xs.length + 1)) ∧ AtG wq bn 4 (barr G (xs.length + 1)) ∧ ∃ h,AtG wq (w.heap.size + 1) 4 (barr h (xs.length + 1)) ∧ (∀ j,j < q → h j = (g j || (F j && true))) ∧ ∀ j,q ≤ j → h j = g j) (fun i _ => xs.length + 1 - (intOf i).toNat)
      case atStart => exact ⟨0,Nat.zero_le _,rfl,HB5.out,HA5.out,HQ5.out,HN5.out,g,HO5.out,fun j h => absurd h (Nat.not_lt_zero _),by first | exact fun _ _ => rfl | trivial⟩
      case round =>
       obtain ⟨q,hq,rfl,hb,ha,hr,hnn,h,hh,h1,h2⟩ := hrel
       have HBq := Lib.hid hb;have HAq := Lib.hid ha;have HRq := Lib.hid hr;have HNq := Lib.hid hnn;have HHq := Lib.hid hh;have H1 := Lib.hid h1;have H2 := Lib.hid h2
       have n5 : wr.cell? ⟨w.heap.size,5,none⟩ = some (.int .i64 (mn : Int)) := ha.cell 5 _ rfl
       clear hb ha hr hnn hh h1 h2
       by_cases hltq : q < xs.length + 1
       ·have hqI : (q : Int) < (xs.length : Int) + 1 := by omega
        have r1 := HRq.out.bool q hltq
        have o1 := HHq.out.bool q hltq
        have z1 := HHq.out.frozen q
        have hh2 := H2.out q (Nat.le_refl _)
        cases hgq : h q with
        | true =>
         rw [hgq] at o1
         go_wp2_with fail
         refine ⟨⟨q + 1,by omega,by go_num,HBq.out.setCell (by simp) _,HAq.out.far (p := ⟨w.heap.size + 1,q,none⟩) (by show w.heap.size ≠ w.heap.size + 1;omega) _,HRq.out.far (p := ⟨w.heap.size + 1,q,none⟩) HNE.out _,HNq.out.far (p := ⟨w.heap.size + 1,q,none⟩) HNN.out _,updB h q true,HHq.out.setB q true,?_,?_⟩,by simp [intOf];omega⟩
         ·intro j hj
          unfold updB
          by_cases e : j = q
          ·subst e;rw [if_pos rfl,← hh2,hgq];rfl
          ·rw [if_neg e];exact H1.out j (by omega)
         ·intro j hj
          unfold updB
          rw [if_neg (by omega)];exact H2.out j (by omega)
        | false =>
         rw [hgq] at o1
         cases hfq : F q with
         | false =>
          rw [hfq] at r1
          go_wp2_with fail
          refine ⟨⟨q + 1,by omega,by go_num,HBq.out.setCell (by simp) _,HAq.out.far (p := ⟨w.heap.size + 1,q,none⟩) (by show w.heap.size ≠ w.heap.size + 1;omega) _,HRq.out.far (p := ⟨w.heap.size + 1,q,none⟩) HNE.out _,HNq.out.far (p := ⟨w.heap.size + 1,q,none⟩) HNN.out _,updB h q false,HHq.out.setB q false,?_,?_⟩,by simp [intOf];omega⟩
          ·intro j hj
           unfold updB
           by_cases e : j = q
           ·subst e;rw [if_pos rfl,← hh2,hgq,hfq];rfl
           ·rw [if_neg e];exact H1.out j (by omega)
          ·intro j hj
           unfold updB
           rw [if_neg (by omega)];exact H2.out j (by omega)
         | true =>
          rw [hfq] at r1
          go_wp2_with fail
          refine ⟨⟨q + 1,by omega,by go_num,HBq.out.setCell (by simp) _,HAq.out.far (p := ⟨w.heap.size + 1,q,none⟩) (by show w.heap.size ≠ w.heap.size + 1;omega) _,HRq.out.far (p := ⟨w.heap.size + 1,q,none⟩) HNE.out _,HNq.out.far (p := ⟨w.heap.size + 1,q,none⟩) HNN.out _,updB h q (true),HHq.out.setB q (true),?_,?_⟩,by simp [intOf];omega⟩
          ·intro j hj
           unfold updB
           by_cases e : j = q
           ·subst e;rw [if_pos rfl,← hh2,hgq,hfq];rfl
           ·rw [if_neg e];exact H1.out j (by omega)
          ·intro j hj
           unfold updB
           rw [if_neg (by omega)];exact H2.out j (by omega)
       ·obtain rfl : q = xs.length + 1 := by omega
        have H1' : Hid (∀ i,i ≤ xs.length → h i = (g i || (F i && true))) := Lib.hid (fun i hi => H1.out i (by omega))
        clear H1 H2 n5 hltq
        go_wp2_with fail
        exact ⟨⟨t + 1,by have := HLT.out;omega,bn,G,h,rfl,by go_num,HBq.out,HAq.out,HNq.out,HNN.out,HHq.out,HGN.out,fun i hi => by
         rw [H1'.out i hi,Bool.or_eq_true,HGI.out i hi]
         exact HNEXT.out i hi⟩,by simp [intOf];have := HLT.out;omega⟩
     ·have hmtI : ¬ (mn : Int) ≤ (t : Int) := by omega
      have HNEXT : Hid (∀ i,i ≤ xs.length → ((∃ u,mn ≤ u ∧ u < t ∧ imgN R (InS xs.length S) u i) ∨ (F i && false) = true ↔ ∃ u,mn ≤ u ∧ u < t + 1 ∧ imgN R (InS xs.length S) u i)) := Lib.hid (fun i hi => by
       constructor
       ·rintro (⟨u,a1,a2,a3⟩ | a3)
        ·exact ⟨u,a1,by omega,a3⟩
        ·simp at a3
       ·rintro ⟨u,a1,a2,a3⟩
        exact absurd a1 (by omega))
      go_wp2_with fail
      go_loopw [132] (fun i wq => ∃ q : Nat,q ≤ xs.length + 1 ∧ i = .int .i64 q ∧ Below w.heap.size w wq ∧ AtG wq w.heap.size 41 (nodeC 4 emp (mn : Int) (mx : Int) (.slice (some ⟨b,off,none⟩) 1 c)) ∧ AtG wq bq 4 (barr F (xs.length + 1)) ∧ AtG wq bn 4 (barr G (xs.length + 1)) ∧ ∃ h,AtG wq (w.heap.size + 1) 4 (barr h (xs.length + 1)) ∧ (∀ j,j < q → h j = (g j || (F j && false))) ∧ ∀ j,q ≤ j → h j = g j) (fun i _ => xs.length + 1 - (intOf i).toNat)
      case atStart => exact ⟨0,Nat.zero_le _,rfl,HB5.out,HA5.out,HQ5.out,HN5.out,g,HO5.out,fun j h => absurd h (Nat.not_lt_zero _),by first | exact fun _ _ => rfl | trivial⟩
      case round =>
       obtain ⟨q,hq,rfl,hb,ha,hr,hnn,h,hh,h1,h2⟩ := hrel
       have HBq := Lib.hid hb;have HAq := Lib.hid ha;have HRq := Lib.hid hr;have HNq := Lib.hid hnn;have HHq := Lib.hid hh;have H1 := Lib.hid h1;have H2 := Lib.hid h2
       have n5 : wr.cell? ⟨w.heap.size,5,none⟩ = some (.int .i64 (mn : Int)) := ha.cell 5 _ rfl
       clear hb ha hr hnn hh h1 h2
       by_cases hltq : q < xs.length + 1
       ·have hqI : (q : Int) < (xs.length : Int) + 1 := by omega
        have r1 := HRq.out.bool q hltq
        have o1 := HHq.out.bool q hltq
        have z1 := HHq.out.frozen q
        have hh2 := H2.out q (Nat.le_refl _)
        cases hgq : h q with
        | true =>
         rw [hgq] at o1
         go_wp2_with fail
         refine ⟨⟨q + 1,by omega,by go_num,HBq.out.setCell (by simp) _,HAq.out.far (p := ⟨w.heap.size + 1,q,none⟩) (by show w.heap.size ≠ w.heap.size + 1;omega) _,HRq.out.far (p := ⟨w.heap.size + 1,q,none⟩) HNE.out _,HNq.out.far (p := ⟨w.heap.size + 1,q,none⟩) HNN.out _,updB h q true,HHq.out.setB q true,?_,?_⟩,by simp [intOf];omega⟩
         ·intro j hj
          unfold updB
          by_cases e : j = q
          ·subst e;rw [if_pos rfl,← hh2,hgq];rfl
          ·rw [if_neg e];exact H1.out j (by omega)
         ·intro j hj
          unfold updB
          rw [if_neg (by omega)];exact H2.out j (by omega)
        | false =>
         rw [hgq] at o1
         cases hfq : F q with
         | false =>
          rw [hfq] at r1
          go_wp2_with fail
          refine ⟨⟨q + 1,by omega,by go_num,HBq.out.setCell (by simp) _,HAq.out.far (p := ⟨w.heap.size + 1,q,none⟩) (by show w.heap.size ≠ w.heap.size + 1;omega) _,HRq.out.far (p := ⟨w.heap.size + 1,q,none⟩) HNE.out _,HNq.out.far (p := ⟨w.heap.size + 1,q,none⟩) HNN.out _,updB h q false,HHq.out.setB q false,?_,?_⟩,by simp [intOf];omega⟩
          ·intro j hj
           unfold updB
           by_cases e : j = q
           ·subst e;rw [if_pos rfl,← hh2,hgq,hfq];rfl
           ·rw [if_neg e];exact H1.out j (by omega)
          ·intro j hj
           unfold updB
           rw [if_neg (by omega)];exact H2.out j (by omega)
         | true =>
          rw [hfq] at r1
          go_wp2_with fail
          refine ⟨⟨q + 1,by omega,by go_num,HBq.out.setCell (by simp) _,HAq.out.far (p := ⟨w.heap.size + 1,q,none⟩) (by show w.heap.size ≠ w.heap.size + 1;omega) _,HRq.out.far (p := ⟨w.heap.size + 1,q,none⟩) HNE.out _,HNq.out.far (p := ⟨w.heap.size + 1,q,none⟩) HNN.out _,updB h q (false),HHq.out.setB q (false),?_,?_⟩,by simp [intOf];omega⟩
          ·intro j hj
           unfold updB
           by_cases e : j = q
           ·subst e;rw [if_pos rfl,← hh2,hgq,hfq];rfl
           ·rw [if_neg e];exact H1.out j (by omega)
          ·intro j hj
           unfold updB
           rw [if_neg (by omega)];exact H2.out j (by omega)
       ·obtain rfl : q = xs.length + 1 := by omega
        have H1' : Hid (∀ i,i ≤ xs.length → h i = (g i || (F i && false))) := Lib.hid (fun i hi => H1.out i (by omega))
        clear H1 H2 n5 hltq
        go_wp2_with fail
        exact ⟨⟨t + 1,by have := HLT.out;omega,bn,G,h,rfl,by go_num,HBq.out,HAq.out,HNq.out,HNN.out,HHq.out,HGN.out,fun i hi => by
         rw [H1'.out i hi,Bool.or_eq_true,HGI.out i hi]
         exact HNEXT.out i hi⟩,by simp [intOf];have := HLT.out;omega⟩
   | false =>
    have HSTOP : Hid (∀ i,(∃ u,mn ≤ u ∧ u ≤ mx ∧ imgN R (InS xs.length S) u i) ↔ ((∃ u,mn ≤ u ∧ u < t ∧ imgN R (InS xs.length S) u i) ∨ imgN R (InS xs.length S) t i)) := Lib.hid (rep_stop (fun i => by
     have hle : ∀ t i,imgN R (InS xs.length S) t i → i ≤ xs.length := HLE.out
     have hno : ∀ j,¬ imgN R (InS xs.length S) t j := fun j hj => by
      have h3 := hle t j hj
      have := hr.2 ⟨j,by omega,(HFI.out j h3).2 hj⟩
      cases this
     exact ⟨fun h => absurd h (img_none hno i),fun h => absurd h (hno i)⟩) (by omega) HMN.out)
    clear hr n6 n7
    obtain ⟨bn,hbn⟩ : ∃ bn,bn = bq := ⟨_,rfl⟩
    obtain ⟨G,hG⟩ : ∃ G,G = F := ⟨_,rfl⟩
    have HEQ := Lib.hid (equalB_any bq bq (xs.length + 1) F F _ (by omega) HQ.out HQ.out)
    have HNN : Hid (bn ≠ w.heap.size + 1) := Lib.hid (by rw [hbn];exact HNE.out)
    go_wp2_with fail
    refine (HEQ.out).mono ?_
    rintro e9 w5 ⟨hb5,st,rfl,hst⟩
    obtain rfl : st = true := hst.2 (by first | exact fun _ _ => rfl | trivial | simp)
    have HB5 := Lib.hid (HB.out.trans (hb5.mono HB.out.size));have HA5 := Lib.hid (HAq.out.below hb5);have HQ5 := Lib.hid (HQ.out.below hb5);have HO5 := Lib.hid (HO.out.below hb5)
    have HN5 : Hid (AtG w5 bn 4 (barr G (xs.length + 1))) := Lib.hid (by rw [hbn,hG];exact HQ5.out)
    clear hb5 hst HEQ HCO hbn hG
    by_cases hmt : mn ≤ t
    ·have hmtI : (mn : Int) ≤ (t : Int) := by omega
     go_wp2_with fail
     go_loopw [132] (fun i wq => ∃ q : Nat,q ≤ xs.length + 1 ∧ i = .int .i64 q ∧ Below w.heap.size w wq ∧ AtG wq w.heap.size 41 (nodeC 4 emp (mn : Int) (mx : Int) (.slice (some ⟨b,off,none⟩) 1 c)) ∧ AtG wq bq 4 (barr F (xs.length + 1)) ∧ AtG wq bn 4 (barr G (xs.length + 1)) ∧ ∃ h,AtG wq (w.heap.size + 1) 4 (barr h (xs.length + 1)) ∧ (∀ j,j < q → h j = (g j || (F j && true))) ∧ ∀ j,q ≤ j → h j = g j) (fun i _ => xs.length + 1 - (intOf i).toNat)
     case atStart => exact ⟨0,Nat.zero_le _,rfl,HB5.out,HA5.out,HQ5.out,HN5.out,g,HO5.out,fun j h => absurd h (Nat.not_lt_zero _),by first | exact fun _ _ => rfl | trivial⟩
     case round =>
      obtain ⟨q,hq,rfl,hb,ha,hr,hnn,h,hh,h1,h2⟩ := hrel
      have HBq := Lib.hid hb;have HAq := Lib.hid ha;have HRq := Lib.hid hr;have HNq := Lib.hid hnn;have HHq := Lib.hid hh;have H1 := Lib.hid h1;have H2 := Lib.hid h2
      have n5 : wr.cell? ⟨w.heap.size,5,none⟩ = some (.int .i64 (mn : Int)) := ha.cell 5 _ rfl
      clear hb ha hr hnn hh h1 h2
      by_cases hltq : q < xs.length + 1
      ·have hqI : (q : Int) < (xs.length : Int) + 1 := by omega
       have r1 := HRq.out.bool q hltq
       have o1 := HHq.out.bool q hltq
       have z1 := HHq.out.frozen q
       have hh2 := H2.out q (Nat.le_refl _)
       cases hgq : h q with
       | true =>
        rw [hgq] at o1
        go_wp2_with fail
        refine ⟨⟨q + 1,by omega,by go_num,HBq.out.setCell (by simp) _,HAq.out.far (p := ⟨w.heap.size + 1,q,none⟩) (by show w.heap.size ≠ w.heap.size + 1;omega) _,HRq.out.far (p := ⟨w.heap.size + 1,q,none⟩) HNE.out _,HNq.out.far (p := ⟨w.heap.size + 1,q,none⟩) HNN.out _,updB h q true,HHq.out.setB q true,?_,?_⟩,by simp [intOf];omega⟩
        ·intro j hj
         unfold updB
         by_cases e : j = q
         ·subst e;rw [if_pos rfl,← hh2,hgq];rfl
         ·rw [if_neg e];exact H1.out j (by omega)
        ·intro j hj
         unfold updB
         rw [if_neg (by omega)];exact H2.out j (by omega)
       | false =>
        rw [hgq] at o1
        cases hfq : F q with
        | false =>
         rw [hfq] at r1
         go_wp2_with fail
         refine ⟨⟨q + 1,by omega,by go_num,HBq.out.setCell (by simp) _,HAq.out.far (p := ⟨w.heap.size + 1,q,none⟩) (by show w.heap.size ≠ w.heap.size + 1;omega) _,HRq.out.far (p := ⟨w.heap.size + 1,q,none⟩) HNE.out _,HNq.out.far (p := ⟨w.heap.size + 1,q,none⟩) HNN.out _,updB h q false,HHq.out.setB q false,?_,?_⟩,by simp [intOf];omega⟩
         ·intro j hj
          unfold updB
          by_cases e : j = q
          ·subst e;rw [if_pos rfl,← hh2,hgq,hfq];rfl
          ·rw [if_neg e];exact H1.out j (by omega)
         ·intro j hj
          unfold updB
          rw [if_neg (by omega)];exact H2.out j (by omega)
        | true =>
         rw [hfq] at r1
         go_wp2_with fail
         refine ⟨⟨q + 1,by omega,by go_num,HBq.out.setCell (by simp) _,HAq.out.far (p := ⟨w.heap.size + 1,q,none⟩) (by show w.heap.size ≠ w.heap.size + 1;omega) _,HRq.out.far (p := ⟨w.heap.size + 1,q,none⟩) HNE.out _,HNq.out.far (p := ⟨w.heap.size + 1,q,none⟩) HNN.out _,updB h q (true),HHq.out.setB q (true),?_,?_⟩,by simp [intOf];omega⟩
         ·intro j hj
          unfold updB
          by_cases e : j = q
          ·subst e;rw [if_pos rfl,← hh2,hgq,hfq];rfl
          ·rw [if_neg e];exact H1.out j (by omega)
         ·intro j hj
          unfold updB
          rw [if_neg (by omega)];exact H2.out j (by omega)
      ·obtain rfl : q = xs.length + 1 := by omega
       have H1' : Hid (∀ i,i ≤ xs.length → h i = (g i || (F i && true))) := Lib.hid (fun i hi => H1.out i (by omega))
       clear H1 H2 n5 hltq
       go_wp2_with fail
       go_returns
       refine ⟨HBq.out,w.heap.size + 1,h,rfl,HHq.out,.inr (by omega),fun i hi => ?_⟩
       rw [H1'.out i hi,Bool.and_true,Bool.or_eq_true,HGI.out i hi,HFI.out i hi]
       exact (HSTOP.out i).symm
    ·have hmtI : ¬ (mn : Int) ≤ (t : Int) := by omega
     go_wp2_with fail
     go_loopw [132] (fun i wq => ∃ q : Nat,q ≤ xs.length + 1 ∧ i = .int .i64 q ∧ Below w.heap.size w wq ∧ AtG wq w.heap.size 41 (nodeC 4 emp (mn : Int) (mx : Int) (.slice (some ⟨b,off,none⟩) 1 c)) ∧ AtG wq bq 4 (barr F (xs.length + 1)) ∧ AtG wq bn 4 (barr G (xs.length + 1)) ∧ ∃ h,AtG wq (w.heap.size + 1) 4 (barr h (xs.length + 1)) ∧ (∀ j,j < q → h j = (g j || (F j && true))) ∧ ∀ j,q ≤ j → h j = g j) (fun i _ => xs.length + 1 - (intOf i).toNat)
     case atStart => exact ⟨0,Nat.zero_le _,rfl,HB5.out,HA5.out,HQ5.out,HN5.out,g,HO5.out,fun j h => absurd h (Nat.not_lt_zero _),by first | exact fun _ _ => rfl | trivial⟩
     case round =>
      obtain ⟨q,hq,rfl,hb,ha,hr,hnn,h,hh,h1,h2⟩ := hrel
      have HBq := Lib.hid hb;have HAq := Lib.hid ha;have HRq := Lib.hid hr;have HNq := Lib.hid hnn;have HHq := Lib.hid hh;have H1 := Lib.hid h1;have H2 := Lib.hid h2
      have n5 : wr.cell? ⟨w.heap.size,5,none⟩ = some (.int .i64 (mn : Int)) := ha.cell 5 _ rfl
      clear hb ha hr hnn hh h1 h2
      by_cases hltq : q < xs.length + 1
      ·have hqI : (q : Int) < (xs.length : Int) + 1 := by omega
       have r1 := HRq.out.bool q hltq
       have o1 := HHq.out.bool q hltq
       have z1 := HHq.out.frozen q
       have hh2 := H2.out q (Nat.le_refl _)
       cases hgq : h q with
       | true =>
        rw [hgq] at o1
        go_wp2_with fail
        refine ⟨⟨q + 1,by omega,by go_num,HBq.out.setCell (by simp) _,HAq.out.far (p := ⟨w.heap.size + 1,q,none⟩) (by show w.heap.size ≠ w.heap.size + 1;omega) _,HRq.out.far (p := ⟨w.heap.size + 1,q,none⟩) HNE.out _,HNq.out.far (p := ⟨w.heap.size + 1,q,none⟩) HNN.out _,updB h q true,HHq.out.setB q true,?_,?_⟩,by simp [intOf];omega⟩
        ·intro j hj
         unfold updB
         by_cases e : j = q
         ·subst e;rw [if_pos rfl,← hh2,hgq];rfl
         ·rw [if_neg e];exact H1.out j (by omega)
        ·intro j hj
         unfold updB
         rw [if_neg (by omega)];exact H2.out j (by omega)
       | false =>
        rw [hgq] at o1
        cases hfq : F q with
        | false =>
         rw [hfq] at r1
         go_wp2_with fail
         refine ⟨⟨q + 1,by omega,by go_num,HBq.out.setCell (by simp) _,HAq.out.far (p := ⟨w.heap.size + 1,q,none⟩) (by show w.heap.size ≠ w.heap.size + 1;omega) _,HRq.out.far (p := ⟨w.heap.size + 1,q,none⟩) HNE.out _,HNq.out.far (p := ⟨w.heap.size + 1,q,none⟩) HNN.out _,updB h q false,HHq.out.setB q false,?_,?_⟩,by simp [intOf];omega⟩
         ·intro j hj
          unfold updB
          by_cases e : j = q
          ·subst e;rw [if_pos rfl,← hh2,hgq,hfq];rfl
          ·rw [if_neg e];exact H1.out j (by omega)
         ·intro j hj
          unfold updB
          rw [if_neg (by omega)];exact H2.out j (by omega)
        | true =>
         rw [hfq] at r1
         go_wp2_with fail
         refine ⟨⟨q + 1,by omega,by go_num,HBq.out.setCell (by simp) _,HAq.out.far (p := ⟨w.heap.size + 1,q,none⟩) (by show w.heap.size ≠ w.heap.size + 1;omega) _,HRq.out.far (p := ⟨w.heap.size + 1,q,none⟩) HNE.out _,HNq.out.far (p := ⟨w.heap.size + 1,q,none⟩) HNN.out _,updB h q (true),HHq.out.setB q (true),?_,?_⟩,by simp [intOf];omega⟩
         ·intro j hj
          unfold updB
          by_cases e : j = q
          ·subst e;rw [if_pos rfl,← hh2,hgq,hfq];rfl
          ·rw [if_neg e];exact H1.out j (by omega)
         ·intro j hj
          unfold updB
          rw [if_neg (by omega)];exact H2.out j (by omega)
      ·obtain rfl : q = xs.length + 1 := by omega
       have H1' : Hid (∀ i,i ≤ xs.length → h i = (g i || (F i && true))) := Lib.hid (fun i hi => H1.out i (by omega))
       clear H1 H2 n5 hltq
       go_wp2_with fail
       go_returns
       refine ⟨HBq.out,w.heap.size + 1,h,rfl,HHq.out,.inr (by omega),fun i hi => ?_⟩
       rw [H1'.out i hi,Bool.and_true,Bool.or_eq_true,HGI.out i hi,HFI.out i hi]
       exact (HSTOP.out i).symm
  ·have htx : t = mx := by omega
   have hltI : ¬ (t : Int) < (mx : Int) := by omega
   have hmt : mn ≤ t := by have := HMN.out;omega
   have hmtI : (mn : Int) ≤ (t : Int) := by omega
   have HSTOP : Hid (∀ i,(∃ u,mn ≤ u ∧ u ≤ mx ∧ imgN R (InS xs.length S) u i) ↔ ((∃ u,mn ≤ u ∧ u < t ∧ imgN R (InS xs.length S) u i) ∨ imgN R (InS xs.length S) t i)) := Lib.hid (fun i => by
    constructor
    ·rintro ⟨u,a1,a2,a3⟩
     by_cases e : u = t
     ·subst e;exact .inr a3
     ·exact .inl ⟨u,a1,by omega,a3⟩
    ·rintro (⟨u,a1,a2,a3⟩ | a3)
     ·exact ⟨u,a1,by omega,a3⟩
     ·exact ⟨t,hmt,htm,a3⟩)
   obtain ⟨bn,hbn⟩ : ∃ bn,bn = bq := ⟨_,rfl⟩
   obtain ⟨G,hG⟩ : ∃ G,G = F := ⟨_,rfl⟩
   have HEQ := Lib.hid (equalB_any bq bq (xs.length + 1) F F _ (by omega) HQ.out HQ.out)
   have HNN : Hid (bn ≠ w.heap.size + 1) := Lib.hid (by rw [hbn];exact HNE.out)
   go_wp2_with fail
   refine (HEQ.out).mono ?_
   rintro e9 w5 ⟨hb5,st,rfl,hst⟩
   obtain rfl : st = true := hst.2 (by first | exact fun _ _ => rfl | trivial | simp)
   have HB5 := Lib.hid (HB.out.trans (hb5.mono HB.out.size));have HA5 := Lib.hid (HAq.out.below hb5);have HQ5 := Lib.hid (HQ.out.below hb5);have HO5 := Lib.hid (HO.out.below hb5)
   have HN5 : Hid (AtG w5 bn 4 (barr G (xs.length + 1))) := Lib.hid (by rw [hbn,hG];exact HQ5.out)
   clear hb5 hst HEQ hbn hG n6 n7
   go_wp2_with fail
   go_loopw [132] (fun i wq => ∃ q : Nat,q ≤ xs.length + 1 ∧ i = .int .i64 q ∧ Below w.heap.size w wq ∧ AtG wq w.heap.size 41 (nodeC 4 emp (mn : Int) (mx : Int) (.slice (some ⟨b,off,none⟩) 1 c)) ∧ AtG wq bq 4 (barr F (xs.length + 1)) ∧ AtG wq bn 4 (barr G (xs.length + 1)) ∧ ∃ h,AtG wq (w.heap.size + 1) 4 (barr h (xs.length + 1)) ∧ (∀ j,j < q → h j = (g j || (F j && true))) ∧ ∀ j,q ≤ j → h j = g j) (fun i _ => xs.length + 1 - (intOf i).toNat)
   case atStart => exact ⟨0,Nat.zero_le _,rfl,HB5.out,HA5.out,HQ5.out,HN5.out,g,HO5.out,fun j h => absurd h (Nat.not_lt_zero _),by first | exact fun _ _ => rfl | trivial⟩
   case round =>
    obtain ⟨q,hq,rfl,hb,ha,hr,hnn,h,hh,h1,h2⟩ := hrel
    have HBq := Lib.hid hb;have HAq := Lib.hid ha;have HRq := Lib.hid hr;have HNq := Lib.hid hnn;have HHq := Lib.hid hh;have H1 := Lib.hid h1;have H2 := Lib.hid h2
    have n5 : wr.cell? ⟨w.heap.size,5,none⟩ = some (.int .i64 (mn : Int)) := ha.cell 5 _ rfl
    clear hb ha hr hnn hh h1 h2
    by_cases hltq : q < xs.length + 1
    ·have hqI : (q : Int) < (xs.length : Int) + 1 := by omega
     have r1 := HRq.out.bool q hltq
     have o1 := HHq.out.bool q hltq
     have z1 := HHq.out.frozen q
     have hh2 := H2.out q (Nat.le_refl _)
     cases hgq : h q with
     | true =>
      rw [hgq] at o1
      go_wp2_with fail
      refine ⟨⟨q + 1,by omega,by go_num,HBq.out.setCell (by simp) _,HAq.out.far (p := ⟨w.heap.size + 1,q,none⟩) (by show w.heap.size ≠ w.heap.size + 1;omega) _,HRq.out.far (p := ⟨w.heap.size + 1,q,none⟩) HNE.out _,HNq.out.far (p := ⟨w.heap.size + 1,q,none⟩) HNN.out _,updB h q true,HHq.out.setB q true,?_,?_⟩,by simp [intOf];omega⟩
      ·intro j hj
       unfold updB
       by_cases e : j = q
       ·subst e;rw [if_pos rfl,← hh2,hgq];rfl
       ·rw [if_neg e];exact H1.out j (by omega)
      ·intro j hj
       unfold updB
       rw [if_neg (by omega)];exact H2.out j (by omega)
     | false =>
      rw [hgq] at o1
      cases hfq : F q with
      | false =>
       rw [hfq] at r1
       go_wp2_with fail
       refine ⟨⟨q + 1,by omega,by go_num,HBq.out.setCell (by simp) _,HAq.out.far (p := ⟨w.heap.size + 1,q,none⟩) (by show w.heap.size ≠ w.heap.size + 1;omega) _,HRq.out.far (p := ⟨w.heap.size + 1,q,none⟩) HNE.out _,HNq.out.far (p := ⟨w.heap.size + 1,q,none⟩) HNN.out _,updB h q false,HHq.out.setB q false,?_,?_⟩,by simp [intOf];omega⟩
       ·intro j hj
        unfold updB
        by_cases e : j = q
        ·subst e;rw [if_pos rfl,← hh2,hgq,hfq];rfl
        ·rw [if_neg e];exact H1.out j (by omega)
       ·intro j hj
        unfold updB
        rw [if_neg (by omega)];exact H2.out j (by omega)
      | true =>
       rw [hfq] at r1
       go_wp2_with fail
       refine ⟨⟨q + 1,by omega,by go_num,HBq.out.setCell (by simp) _,HAq.out.far (p := ⟨w.heap.size + 1,q,none⟩) (by show w.heap.size ≠ w.heap.size + 1;omega) _,HRq.out.far (p := ⟨w.heap.size + 1,q,none⟩) HNE.out _,HNq.out.far (p := ⟨w.heap.size + 1,q,none⟩) HNN.out _,updB h q (true),HHq.out.setB q (true),?_,?_⟩,by simp [intOf];omega⟩
       ·intro j hj
        unfold updB
        by_cases e : j = q
        ·subst e;rw [if_pos rfl,← hh2,hgq,hfq];rfl
        ·rw [if_neg e];exact H1.out j (by omega)
       ·intro j hj
        unfold updB
        rw [if_neg (by omega)];exact H2.out j (by omega)
    ·obtain rfl : q = xs.length + 1 := by omega
     have H1' : Hid (∀ i,i ≤ xs.length → h i = (g i || (F i && true))) := Lib.hid (fun i hi => H1.out i (by omega))
     clear H1 H2 n5 hltq
     go_wp2_with fail
     go_returns
     refine ⟨HBq.out,w.heap.size + 1,h,rfl,HHq.out,.inr (by omega),fun i hi => ?_⟩
     rw [H1'.out i hi,Bool.and_true,Bool.or_eq_true,HGI.out i hi,HFI.out i hi]
     exact (HSTOP.out i).symm
theorem ends_any (p : Pat) : Wf p → EndsC p := by
 refine Pat.ind (M := fun p => Wf p → EndsC p) ?_ ?_ ?_ ?_ p
 ·exact fun f _ => ends_one f
 ·intro l ih hw
  cases hw with | cat _ h h2 h3 => exact ends_cat l h3 fun p hp => ih p hp (h p hp)
 ·intro l ih hw
  cases hw with | alt _ h h2 h3 => exact ends_alt l h3 fun p hp => ih p hp (h p hp)
 ·intro mn mx p ih hw
  cases hw with | rep _ _ _ h h1 h2 h3 => exact ends_rep mn mx p h1 (by omega) (ih h)
end Go.Proofs.YtgjcibhhffkemaaGreatDoor
namespace Go.Proofs.YtgjcibhhffkemaaGreatDoor
open Go.RowKit Bt
set_option maxRecDepth 100000 in
set_option maxHeartbeats 1600000 in
theorem hasP_any (p : Pat) (hp : Wf p) (w : World) (a : Option Addr) (m c : Nat) (wv : Value) (xs : List Int) (hn : NAt w p.tree (.slice a m c)) (hx : RdB w wv xs) (hl : xs.length ≤ 1000) :
  Calls Tryz.prog 15 #[nodeV p.tree (.slice a m c),wv] w fun e w' => Below w.heap.size w w' ∧ ∃ r : Bool,e = .returned (.bool r) ∧ (r = true ↔ Mt (byt xs) xs.length p 0 xs.length) := by
 have hE := ends_any p hp
 unfold EndsC at hE
 rcases hpt : p.tree with ⟨op,f,mn,mx,kids⟩
 rw [hpt] at hn hE
 obtain ⟨A,wc,rfl⟩ := rdB_slice hx
 have hnI : (xs.length : Int) ≤ 1000 := by omega
 have hmk := make_one (P := Tryz.prog) 84 4 (.bool false) 1 Tryz.underlying84 infoBool rfl .i64 .i64 (xs.length + 1) (by omega) (by omega)
 rw [show ((xs.length + 1 : Nat) : Int) = (xs.length : Int) + 1 from by omega,barr_zero] at hmk
 obtain ⟨w0,hw0⟩ : ∃ w0 : World,w0 = (w.alloc (.cells (nodeC op f mn mx (.slice a m c)) 41)).alloc (.cells (barr (fun _ => false) (xs.length + 1)) 4) := ⟨_,rfl⟩
 have HA : Hid (AtG w0 w.heap.size 41 (nodeC op f mn mx (.slice a m c))) := Lib.hid (by rw [hw0];exact (AtG.new _ _ _).alloc _)
 have HO : Hid (AtG w0 (w.heap.size + 1) 4 (barr (fun _ => false) (xs.length + 1))) := Lib.hid (by
  rw [hw0]
  have := AtG.new (w.alloc (.cells (nodeC op f mn mx (.slice a m c)) 41)) 4 (barr (fun _ => false) (xs.length + 1))
  simpa using this)
 have HB0 : Hid (Below w.heap.size w w0) := Lib.hid (by rw [hw0];go_grown)
 have hw0' : (w.alloc (.cells (nodeC op f mn mx (.slice a m c)) 41)).alloc (.cells (barr (fun _ => false) (xs.length + 1)) 4) = w0 := hw0.symm
 clear hw0
 have HX := Lib.hid hx;have HN := Lib.hid hn
 have hE2 := fun w bf S h1 h2 h3 => hE w a m c (.slice A xs.length wc) xs bf S h1 h2 hl h3
 unfold nodeV at hE2 ⊢
 dsimp only at hE2 ⊢
 have HE := Lib.hid hE2
 have y0 := HO.out.frozen 0
 have o0 := HO.out.bool 0 (by omega)
 have HW1 : Hid (AtG (w0.setCell ⟨w.heap.size + 1,0,none⟩ (.bool true)) (w.heap.size + 1) 4 (barr (updB (fun _ => false) 0 true) (xs.length + 1))) := Lib.hid (HO.out.setB 0 true)
 have HB1 : Hid (Below w.heap.size w (w0.setCell ⟨w.heap.size + 1,0,none⟩ (.bool true))) := Lib.hid (HB0.out.setCell (by simp) _)
 have HA1 := Lib.hid (HA.out.far (p := ⟨w.heap.size + 1,0,none⟩) (by show w.heap.size ≠ w.heap.size + 1;omega) (.bool true))
 clear hE hE2 hx hn
 have m0 : w0.cell? ⟨w.heap.size,0,none⟩ = some (.int .i64 op) := HA.out.cell 0 _ rfl
 have m1 : w0.cell? ⟨w.heap.size,1,none⟩ = some (.int .u64 ((wd f 0 : Nat) : Int)) := HA.out.cell 1 _ rfl
 have m2 : w0.cell? ⟨w.heap.size,2,none⟩ = some (.int .u64 ((wd f 1 : Nat) : Int)) := HA.out.cell 2 _ rfl
 have m3 : w0.cell? ⟨w.heap.size,3,none⟩ = some (.int .u64 ((wd f 2 : Nat) : Int)) := HA.out.cell 3 _ rfl
 have m4 : w0.cell? ⟨w.heap.size,4,none⟩ = some (.int .u64 ((wd f 3 : Nat) : Int)) := HA.out.cell 4 _ rfl
 have m5 : w0.cell? ⟨w.heap.size,5,none⟩ = some (.int .i64 mn) := HA.out.cell 5 _ rfl
 have m6 : w0.cell? ⟨w.heap.size,6,none⟩ = some (.int .i64 mx) := HA.out.cell 6 _ rfl
 have m7 : w0.cell? ⟨w.heap.size,7,none⟩ = some (.slice a m c) := HA.out.cell 7 _ rfl
 go_enter Tryz.func15,Tryz.ntmps15
 go_wp2_with fail
 refine (HE.out _ (w.heap.size + 1) (updB (fun _ => false) 0 true) (NAt.below HN.out HB1.out) (rdB_below HX.out HB1.out) HW1.out).mono ?_
 rintro e9 w9 ⟨hb9,b9,g9,rfl,hg9,_,hgi9⟩
 have HB9 := Lib.hid (HB1.out.trans (hb9.mono HB1.out.size))
 have r1 := hg9.bool xs.length (by omega)
 have HG := Lib.hid (hgi9 xs.length (Nat.le_refl _))
 clear hb9 hg9 hgi9 hw0' m0 m1 m2 m3 m4 m5 m6 m7 y0 o0 hmk
 go_wp2_with fail
 go_returns
 refine ⟨HB9.out,g9 xs.length,rfl,HG.out.trans ?_⟩
 constructor
 ·rintro ⟨j,⟨_,hj⟩,hm⟩
  have hj0 : j = 0 := by
   unfold updB at hj
   by_cases e : j = 0
   ·exact e
   ·rw [if_neg e] at hj;cases hj
  subst hj0;exact hm
 ·intro hm
  exact ⟨0,⟨Nat.zero_le _,by unfold updB;rw [if_pos rfl]⟩,hm⟩
end Go.Proofs.YtgjcibhhffkemaaGreatDoor
namespace Go.Proofs.YtgjcibhhffkemaaGreatDoor
open Go.RowKit Bt
def MostC (p : Pat) : Prop := ∀ (w : World) (a : Option Addr) (n c : Nat),NAt w p.tree (.slice a n c) → Calls Tryz.prog 16 #[nodeV p.tree (.slice a n c)] w fun e w' => e = .returned (.int .i64 (mostP p : Int)) ∧ Below w.heap.size w w'
set_option maxRecDepth 100000 in
theorem most_one (f : Nat → Bool) : MostC (.one f) := by
 intro w a n c h
 show Calls Tryz.prog 16 #[.agg #[.int .i64 1,.int .u64 ((wd f 0 : Nat) : Int),.int .u64 ((wd f 1 : Nat) : Int),.int .u64 ((wd f 2 : Nat) : Int),.int .u64 ((wd f 3 : Nat) : Int),.int .i64 0,.int .i64 0,.slice a n c]] w _
 go_enter Tryz.func16,Tryz.ntmps16
 go_wp2
 go_returns
 exact ⟨rfl,by go_grown⟩
set_option maxRecDepth 100000 in
set_option maxHeartbeats 800000 in
theorem most_cat (l : List Pat) (hl : l.length ≤ 1000) (ih : ∀ p ∈ l,MostC p) : MostC (.cat l) := by
 intro w a n c h
 obtain rfl : n = l.length := by
  obtain ⟨a',c',hn⟩ := KAt.slice h
  injection hn with _ hn _
  rw [trees_len] at hn;exact hn
 have H := Lib.hid h
 have hX : (mostP (.cat l) : Int) = min (mostC l : Int) 1000 := by rw [mostP];omega
 have hY := mostC_le l
 have HX := Lib.hid hX
 have hlI : (l.length : Int) ≤ 1000 := by omega
 clear h hX
 show Calls Tryz.prog 16 #[.agg #[.int .i64 2,.int .u64 ((wd emp 0 : Nat) : Int),.int .u64 ((wd emp 1 : Nat) : Int),.int .u64 ((wd emp 2 : Nat) : Int),.int .u64 ((wd emp 3 : Nat) : Int),.int .i64 0,.int .i64 0,.slice a l.length c]] w _
 rw [HX.out]
 go_enter Tryz.func16,Tryz.ntmps16
 go_wp2_with fail
 go_loopw [3,19] (fun out i wr => ∃ k : Nat,k ≤ l.length ∧ i = .int .i64 k ∧ out = .int .i64 ((mostC (l.take k) : Nat) : Int) ∧ Below w.heap.size w wr) (fun _ i _ => l.length - (intOf i).toNat)
 case atStart => exact ⟨0,Nat.zero_le _,rfl,by simp [mostC],by go_grown⟩
 case round =>
  obtain ⟨k,hk,rfl,rfl,hb⟩ := hrel
  by_cases hlt : k < l.length
  ·obtain ⟨b,off,cap,heq,hcap,op',f',mn',mx',kids',ka,kc,ht,hc8,hkn⟩ := kid_at (H.out.below hb) (trees_get hlt)
   injection heq with e1 e2 e3
   subst e1;subst e3
   clear e2
   rw [trees_len] at hcap
   have hI := ih l[k] (List.getElem_mem hlt)
   unfold MostC at hI
   rw [ht] at hI hkn
   have hS := mostC_snoc l k hlt
   have hB1 := mostC_le (l.take k)
   have hB2 := mostP_le l[k]
   have htk : (l.take k).length = k := by simp;omega
   generalize mostP l[k] = m at *
   generalize hq : mostC (l.take k) = q at *
   have HS := Lib.hid hS;have HB := Lib.hid hb;have HKN := Lib.hid (hkn.alloc (.cells (nodeC op' f' mn' mx' (.slice ka kids'.length kc)) 41))
   have hI2 := fun w h => hI w ka kids'.length kc h
   unfold nodeV at hI2
   have HI := Lib.hid hI2
   obtain ⟨c0,c1,c2,c3,c4,c5,c6,c7⟩ := hc8
   obtain ⟨kn,hkl⟩ : ∃ kn,kn = kids'.length := ⟨_,rfl⟩
   rw [← hkl] at c7 HKN HI
   have hm1 : (m : Int) ≤ 1000 := by omega
   have hq1 : (q : Int) ≤ 1000000 := by omega
   clear hS hb hkn hI hI2 hkl ht hq hB1 hB2 htk
   go_wp2_with fail
   refine (HI.out _ HKN.out).mono ?_
   rintro e9 w9 ⟨rfl,hb9⟩
   have HB9 := Lib.hid ((HB.out.alloc HB.out.size (.cells (nodeC op' f' mn' mx' (.slice ka kn kc)) 41)).trans (hb9.mono (by have := HB.out.size;simp;omega)))
   clear hb9
   go_wp2_with fail
   exact ⟨⟨k + 1,by omega,by go_num,by rw [HS.out];go_num,HB9.out⟩,by simp [intOf];omega⟩
  ·obtain rfl : k = l.length := by omega
   rw [List.take_length]
   have HB := Lib.hid hb;clear hb
   go_wp2_with fail
   all_goals (go_returns;exact ⟨by refine congrArg (fun z => Ending.returned (Value.int .i64 z)) ?_;omega,HB.out⟩)
set_option maxRecDepth 100000 in
set_option maxHeartbeats 800000 in
theorem most_alt (l : List Pat) (hl : l.length ≤ 1000) (ih : ∀ p ∈ l,MostC p) : MostC (.alt l) := by
 intro w a n c h
 obtain rfl : n = l.length := by
  obtain ⟨a',c',hn⟩ := KAt.slice h
  injection hn with _ hn _
  rw [trees_len] at hn;exact hn
 have H := Lib.hid h
 have hX : (mostP (.alt l) : Int) = min (mostA l : Int) 1000 := by rw [mostP];omega
 have hY := mostA_le l
 have HX := Lib.hid hX
 have hlI : (l.length : Int) ≤ 1000 := by omega
 clear h hX
 show Calls Tryz.prog 16 #[.agg #[.int .i64 3,.int .u64 ((wd emp 0 : Nat) : Int),.int .u64 ((wd emp 1 : Nat) : Int),.int .u64 ((wd emp 2 : Nat) : Int),.int .u64 ((wd emp 3 : Nat) : Int),.int .i64 0,.int .i64 0,.slice a l.length c]] w _
 rw [HX.out]
 go_enter Tryz.func16,Tryz.ntmps16
 go_wp2_with fail
 go_loopw [3,33] (fun out i wr => ∃ k : Nat,k ≤ l.length ∧ i = .int .i64 k ∧ out = .int .i64 ((mostA (l.take k) : Nat) : Int) ∧ Below w.heap.size w wr) (fun _ i _ => l.length - (intOf i).toNat)
 case atStart => exact ⟨0,Nat.zero_le _,rfl,by simp [mostA],by go_grown⟩
 case round =>
  obtain ⟨k,hk,rfl,rfl,hb⟩ := hrel
  by_cases hlt : k < l.length
  ·obtain ⟨b,off,cap,heq,hcap,op',f',mn',mx',kids',ka,kc,ht,hc8,hkn⟩ := kid_at (H.out.below hb) (trees_get hlt)
   injection heq with e1 e2 e3
   subst e1;subst e3
   clear e2
   rw [trees_len] at hcap
   have hI := ih l[k] (List.getElem_mem hlt)
   unfold MostC at hI
   rw [ht] at hI hkn
   have hS := mostA_snoc l k hlt
   have hB1 := mostA_le (l.take k)
   have hB2 := mostP_le l[k]
   have htk : (l.take k).length = k := by simp;omega
   generalize mostP l[k] = m at *
   generalize hq : mostA (l.take k) = q at *
   have HS := Lib.hid hS;have HB := Lib.hid hb;have HKN := Lib.hid (hkn.alloc (.cells (nodeC op' f' mn' mx' (.slice ka kids'.length kc)) 41))
   have hI2 := fun w h => hI w ka kids'.length kc h
   unfold nodeV at hI2
   have HI := Lib.hid hI2
   obtain ⟨c0,c1,c2,c3,c4,c5,c6,c7⟩ := hc8
   obtain ⟨kn,hkl⟩ : ∃ kn,kn = kids'.length := ⟨_,rfl⟩
   rw [← hkl] at c7 HKN HI
   have hm1 : (m : Int) ≤ 1000 := by omega
   have hq1 : (q : Int) ≤ 1000000 := by omega
   clear hS hb hkn hI hI2 hkl ht hq hB1 hB2 htk
   go_wp2_with fail
   refine (HI.out _ HKN.out).mono ?_
   rintro e9 w9 ⟨rfl,hb9⟩
   have HB9 := Lib.hid ((HB.out.alloc HB.out.size (.cells (nodeC op' f' mn' mx' (.slice ka kn kc)) 41)).trans (hb9.mono (by have := HB.out.size;simp;omega)))
   clear hb9
   go_wp2_with fail
   exact ⟨⟨k + 1,by omega,by go_num,by rw [HS.out];congr 1;omega,HB9.out⟩,by simp [intOf];omega⟩
  ·obtain rfl : k = l.length := by omega
   rw [List.take_length]
   have HB := Lib.hid hb;clear hb
   go_wp2_with fail
   all_goals (go_returns;exact ⟨by refine congrArg (fun z => Ending.returned (Value.int .i64 z)) ?_;omega,HB.out⟩)
set_option maxRecDepth 100000 in
set_option maxHeartbeats 1600000 in
theorem most_rep (mn mx : Nat) (p : Pat) (h1 : mn ≤ 1000) (h2 : mx ≤ 1000) (ih : MostC p) : MostC (.rep mn mx p) := by
 intro w a n c h
 obtain rfl : n = 1 := by
  obtain ⟨a',c',hn⟩ := KAt.slice h
  injection hn with _ hn _
 have H := Lib.hid (NAt.alloc h (.cells (nodeC 4 emp (mn : Int) (mx : Int) (.slice a 1 c)) 41))
 have hX : (mostP (.rep mn mx p) : Int) = min ((mx : Int) * (mostP p : Int)) 1000 := by rw [mostP];push_cast;omega
 have HX := Lib.hid hX
 clear hX h
 have HA := Lib.hid (AtG.new w 41 (nodeC 4 emp (mn : Int) (mx : Int) (.slice a 1 c)))
 have HB0 := Lib.hid ((Below.refl w.heap.size w).alloc (Nat.le_refl _) (.cells (nodeC 4 emp (mn : Int) (mx : Int) (.slice a 1 c)) 41))
 show Calls Tryz.prog 16 #[.agg #[.int .i64 4,.int .u64 ((wd emp 0 : Nat) : Int),.int .u64 ((wd emp 1 : Nat) : Int),.int .u64 ((wd emp 2 : Nat) : Int),.int .u64 ((wd emp 3 : Nat) : Int),.int .i64 (mn : Int),.int .i64 (mx : Int),.slice a 1 c]] w _
 rw [HX.out]
 unfold MostC at ih
 have hB2 := mostP_le p
 generalize mostP p = m at *
 go_enter Tryz.func16,Tryz.ntmps16
 go_wp2_with fail
 refine wp_loop_rounds 2 ?_
 rw [rounds_succ]
 obtain ⟨b,off,cap,heq,hcap,op',f',mn',mx',kids',ka,kc,ht,hc8,hkn⟩ := kid_at (j := 0) (t := p.tree) H.out rfl
 injection heq with e1 e2 e3
 subst e1;subst e3
 clear e2
 rw [ht] at ih hkn
 obtain ⟨w0,hw0⟩ : ∃ w0 : World,w0 = w.alloc (.cells (nodeC 4 emp (mn : Int) (mx : Int) (.slice (some ⟨b,off,none⟩) 1 c)) 41) := ⟨_,rfl⟩
 have hw0' : w.alloc (.cells #[.int .i64 4,.int .u64 ((wd emp 0 : Nat) : Int),.int .u64 ((wd emp 1 : Nat) : Int),.int .u64 ((wd emp 2 : Nat) : Int),.int .u64 ((wd emp 3 : Nat) : Int),.int .i64 (mn : Int),.int .i64 (mx : Int),.slice (some ⟨b,off,none⟩) 1 c] 41) = w0 := hw0.symm
 rw [hw0']
 rw [← hw0] at hc8 hkn HA HB0 H
 have hsz : w0.heap.size = w.heap.size + 1 := by rw [hw0];simp
 have hin2 := fun w h => ih w ka kids'.length kc h
 unfold nodeV at hin2
 have HI := Lib.hid hin2
 have HKN := Lib.hid (hkn.alloc (.cells (nodeC op' f' mn' mx' (.slice ka kids'.length kc)) 41))
 obtain ⟨c0,c1,c2,c3,c4,c5,c6,c7⟩ := hc8
 have hz8 : off + 0 * 8 = off := by omega
 rw [hz8] at c0 c1 c2 c3 c4 c5 c6 c7
 have HA2 := Lib.hid (HA.out.alloc (.cells (nodeC op' f' mn' mx' (.slice ka kids'.length kc)) 41))
 have HB2 := Lib.hid (HB0.out.alloc (by omega) (.cells (nodeC op' f' mn' mx' (.slice ka kids'.length kc)) 41))
 obtain ⟨kn,hkl⟩ : ∃ kn,kn = kids'.length := ⟨_,rfl⟩
 rw [← hkl] at c7 HKN HI HA2 HB2
 have HSZ := Lib.hid hsz
 have hm1 : (m : Int) ≤ 1000 := by omega
 have hml : (mx : Int) * (m : Int) ≤ 1000000 := by
  have : mx * m ≤ 1000 * 1000 := Nat.mul_le_mul (by omega) (by omega)
  have h3 : ((mx * m : Nat) : Int) ≤ 1000000 := by omega
  rwa [Int.natCast_mul] at h3
 have hml0 : 0 ≤ (mx : Int) * (m : Int) := Int.mul_nonneg (Int.natCast_nonneg _) (Int.natCast_nonneg _)
 clear ih hin2 hkn ht hkl hw0' hw0 hz8 hcap hsz hB2
 go_upto_region 21 with (fail)
 obtain ⟨w1,hw1⟩ : ∃ w1 : World,w1 = w0.alloc (.cells (nodeC op' f' mn' mx' (.slice ka kn kc)) 41) := ⟨_,rfl⟩
 have hw1' : w0.alloc (.cells #[.int .i64 op',.int .u64 ((wd f' 0 : Nat) : Int),.int .u64 ((wd f' 1 : Nat) : Int),.int .u64 ((wd f' 2 : Nat) : Int),.int .u64 ((wd f' 3 : Nat) : Int),.int .i64 mn',.int .i64 mx',.slice ka kn kc] 41) = w1 := hw1.symm
 rw [hw1']
 have HN := Lib.hid (AtG.new w0 41 (nodeC op' f' mn' mx' (.slice ka kn kc)))
 rw [← hw1] at HKN HA2 HB2 HN
 clear hw1 hw1' c0 c1 c2 c3 c4 c5 c6 c7
 have HPRE : Hid (∀ wx : World,(fun w' => AtG w' w.heap.size 41 (nodeC 4 emp (mn : Int) (mx : Int) (.slice (some ⟨b,off,none⟩) 1 c)) ∧ AtG w' w0.heap.size 41 (nodeC op' f' mn' mx' (.slice ka kn kc)) ∧ NAt w' (.node op' f' mn' mx' kids') (.slice ka kn kc) ∧ Below w.heap.size w w') wx → wx.cell? ⟨w.heap.size,5,none⟩ = some (.int .i64 (mn : Int)) ∧ wx.cell? ⟨w.heap.size,6,none⟩ = some (.int .i64 (mx : Int)) ∧ wx.cell? ⟨w0.heap.size,0,none⟩ = some (.int .i64 op') ∧ wx.cell? ⟨w0.heap.size,1,none⟩ = some (.int .u64 ((wd f' 0 : Nat) : Int)) ∧ wx.cell? ⟨w0.heap.size,2,none⟩ = some (.int .u64 ((wd f' 1 : Nat) : Int)) ∧ wx.cell? ⟨w0.heap.size,3,none⟩ = some (.int .u64 ((wd f' 2 : Nat) : Int)) ∧ wx.cell? ⟨w0.heap.size,4,none⟩ = some (.int .u64 ((wd f' 3 : Nat) : Int)) ∧ wx.cell? ⟨w0.heap.size,5,none⟩ = some (.int .i64 mn') ∧ wx.cell? ⟨w0.heap.size,6,none⟩ = some (.int .i64 mx') ∧ wx.cell? ⟨w0.heap.size,7,none⟩ = some (.slice ka kn kc)) := Lib.hid (by intro wx hj;have m5 : wx.cell? ⟨w.heap.size,5,none⟩ = some (.int .i64 (mn : Int)) := hj.1.cell 5 _ rfl;have m6 : wx.cell? ⟨w.heap.size,6,none⟩ = some (.int .i64 (mx : Int)) := hj.1.cell 6 _ rfl;have q0 : wx.cell? ⟨w0.heap.size,0,none⟩ = some (.int .i64 op') := hj.2.1.cell 0 _ rfl;have q1 : wx.cell? ⟨w0.heap.size,1,none⟩ = some (.int .u64 ((wd f' 0 : Nat) : Int)) := hj.2.1.cell 1 _ rfl;have q2 : wx.cell? ⟨w0.heap.size,2,none⟩ = some (.int .u64 ((wd f' 1 : Nat) : Int)) := hj.2.1.cell 2 _ rfl;have q3 : wx.cell? ⟨w0.heap.size,3,none⟩ = some (.int .u64 ((wd f' 2 : Nat) : Int)) := hj.2.1.cell 3 _ rfl;have q4 : wx.cell? ⟨w0.heap.size,4,none⟩ = some (.int .u64 ((wd f' 3 : Nat) : Int)) := hj.2.1.cell 4 _ rfl;have q5 : wx.cell? ⟨w0.heap.size,5,none⟩ = some (.int .i64 mn') := hj.2.1.cell 5 _ rfl;have q6 : wx.cell? ⟨w0.heap.size,6,none⟩ = some (.int .i64 mx') := hj.2.1.cell 6 _ rfl;have q7 : wx.cell? ⟨w0.heap.size,7,none⟩ = some (.slice ka kn kc) := hj.2.1.cell 7 _ rfl;exact ⟨m5,m6,q0,q1,q2,q3,q4,q5,q6,q7⟩)
 refine Rg.wp_region_each (by kernel_rfl) (fun w' => AtG w' w.heap.size 41 (nodeC 4 emp (mn : Int) (mx : Int) (.slice (some ⟨b,off,none⟩) 1 c)) ∧ AtG w' w0.heap.size 41 (nodeC op' f' mn' mx' (.slice ka kn kc)) ∧ NAt w' (.node op' f' mn' mx' kids') (.slice ka kn kc) ∧ Below w.heap.size w w') (fun w1 w2 h hb => ⟨h.1.below hb,h.2.1.below hb,h.2.2.1.below hb,h.2.2.2.trans (hb.mono h.2.2.2.size)⟩) (by kernel_rfl) (by kernel_rfl) (⟨HA2.out,HN.out,HKN.out,HB2.out⟩) ?_
 show Rg.Build _ _ _ _ _ 0 [_,_,_,_,_,_] []
 refine Rg.cpe 1 rfl rfl (by intro ax wx hk Kx hK;have k1 := hk.base 1 _ rfl rfl;clear hk;go_simp;exact Rg.ok hK) ?_
 refine Rg.cpe 2 rfl rfl (by intro ax wx hk Kx hK;have k51 := hk.e 0 51 rfl rfl rfl;have hj := hk.j;clear hk;obtain ⟨m5,m6,q0,q1,q2,q3,q4,q5,q6,q7⟩ := HPRE.out _ hj;go_simp;exact Rg.ok hK) ?_
 refine Rg.cpe 3 rfl rfl (by intro ax wx hk Kx hK;have k9 := hk.base 9 _ rfl rfl;have hj := hk.j;clear hk;obtain ⟨m5,m6,q0,q1,q2,q3,q4,q5,q6,q7⟩ := HPRE.out _ hj;go_simp;exact Rg.ok hK) ?_
 refine Rg.cpe 4 rfl rfl (by intro ax wx hk Kx hK;have k53 := hk.e 2 53 rfl rfl rfl;have hj := hk.j;clear hk;obtain ⟨m5,m6,q0,q1,q2,q3,q4,q5,q6,q7⟩ := HPRE.out _ hj;go_simp;refine (HI.out _ hj.2.2.1).mono ?_;rintro e w' ⟨rfl,hb⟩;refine hK _ _ ?_ hb;apply Rg.mk) ?_
 refine Rg.cp 5 (Rg.eq (.int .i64 ((mx : Int) * (m : Int)))) rfl rfl (by intro ax wx hk Kx hK;have k52 := hk.e 1 52 rfl rfl rfl;have k54 := hk.e 3 54 rfl rfl rfl;have hj := hk.j;clear hk;obtain ⟨m5,m6,q0,q1,q2,q3,q4,q5,q6,q7⟩ := HPRE.out _ hj;(go_simp;refine hK _ _ ?_ (Below.refl _ _);simp [Rg.eq,IntKind.wrap_i64];try omega)) ?_
 refine Rg.cpe 6 rfl rfl (by intro ax wx hk Kx hK;have k55 := hk.e 4 55 rfl rfl rfl;have hj := hk.j;clear hk;obtain ⟨m5,m6,q0,q1,q2,q3,q4,q5,q6,q7⟩ := HPRE.out _ hj;go_simp;exact Rg.ok hK) ?_
 refine Rg.build_end fun wx hj => ?_
 iterate 6 refine Rg.fin_eq rfl ?_
 refine Rg.fin_nil ?_
 simp only [List.set_cons_zero,List.set_cons_succ]
 have HJ := Lib.hid hj.2.2.2
 clear hj
 go_wp2_with fail
 rw [rounds_succ]
 go_wp2_with fail
 all_goals (go_returns;exact ⟨by refine congrArg (fun z => Ending.returned (Value.int .i64 z)) ?_;omega,HJ.out⟩)
theorem most_any (p : Pat) : Wf p → MostC p := by
 refine Pat.ind (M := fun p => Wf p → MostC p) ?_ ?_ ?_ ?_ p
 ·exact fun f _ => most_one f
 ·intro l ih hw
  cases hw with | cat _ h h2 h3 => exact most_cat l h3 fun p hp => ih p hp (h p hp)
 ·intro l ih hw
  cases hw with | alt _ h h2 h3 => exact most_alt l h3 fun p hp => ih p hp (h p hp)
 ·intro mn mx p ih hw
  cases hw with | rep _ _ _ h h1 h2 h3 => exact most_rep mn mx p (by omega) (by omega) (ih h)
end Go.Proofs.YtgjcibhhffkemaaGreatDoor
namespace Go.Proofs.YtgjcibhhffkemaaGreatDoor
open Go.RowKit Bt Fl
def AmRes (p : Pat) (L M cd : Int) : Prop := (Mt (byt []) 0 p 0 0 ∧ cd = 5) ∨ (¬ Mt (byt []) 0 p 0 0 ∧ L < mostP p ∧ cd = 6) ∨ (¬ Mt (byt []) 0 p 0 0 ∧ ¬ L < mostP p ∧ anyP p M.toNat = true ∧ cd = 7) ∨ (¬ Mt (byt []) 0 p 0 0 ∧ ¬ L < mostP p ∧ anyP p M.toNat = false ∧ cd = 0)
theorem AmRes.det {p : Pat} {L M c c' : Int} (h : AmRes p L M c) (h' : AmRes p L M c') : c = c' := by
 rcases h with ⟨a,rfl⟩ | ⟨a,b,rfl⟩ | ⟨a,b,d,rfl⟩ | ⟨a,b,d,rfl⟩ <;> rcases h' with ⟨a',rfl⟩ | ⟨a',b',rfl⟩ | ⟨a',b',d',rfl⟩ | ⟨a',b',d',rfl⟩ <;> first | rfl | (exact absurd a' a) | (exact absurd a a') | (exact absurd b' b) | (exact absurd b b') | (rw [d] at d';cases d')
set_option maxRecDepth 100000 in
set_option maxHeartbeats 1600000 in
theorem amissX (p : Pat) (hp : Wf p) (L Q C : Int) (R : Nat) (M : Int) (hM0 : 0 ≤ M) (hM1 : M ≤ 255) (w : World) (a : Option Addr) (m c : Nat) (hn : NAt w p.tree (.slice a m c)) :
  Calls Tryz.prog 25 #[nodeV p.tree (.slice a m c),cfgV L Q C R M] w fun e w' => Below w.heap.size w w' ∧ ∃ cd,AmRes p L M cd ∧ e = .returned (.int .i64 cd) := by
 have hkeep := fun (w' : World) (hb : Below w.heap.size w w') => hn.below hb
 have hH := fun (w' : World) (hb : Below w.heap.size w w') => hasP_any p hp w' a m c (.slice none 0 0) [] (hkeep w' hb) (.inl ⟨rfl,none,0,rfl⟩) (by simp)
 have hMo := fun (w' : World) (hb : Below w.heap.size w w') => most_any p hp w' a m c (hkeep w' hb)
 have hAn := fun (w' : World) (hb : Below w.heap.size w w') => pAny_any p hp w' a m c (hkeep w' hb)
 have HSH := Lib.hid (fun w' => has_any (anyP p) M w' hM0 hM1)
 have HMT : Hid (∀ r : Bool,(r = true ↔ Mt (byt []) ([] : List Int).length p 0 ([] : List Int).length) → (r = true ∧ AmRes p L M 5) ∨ (r = false ∧ (L < mostP p → AmRes p L M 6) ∧ (¬ L < mostP p → anyP p M.toNat = true → AmRes p L M 7) ∧ (¬ L < mostP p → anyP p M.toNat = false → AmRes p L M 0))) := Lib.hid (fun r hr => by
  cases r
  ·have hno : ¬ Mt (byt []) 0 p 0 0 := fun h => by have := hr.2 h;cases this
   exact .inr ⟨rfl,fun h => .inr (.inl ⟨hno,h,rfl⟩),fun h h1 => .inr (.inr (.inl ⟨hno,h,h1,rfl⟩)),fun h h1 => .inr (.inr (.inr ⟨hno,h,h1,rfl⟩))⟩
  ·exact .inl ⟨rfl,.inl ⟨hr.1 rfl,rfl⟩⟩)
 rcases hpt : p.tree with ⟨op,f,mn,mx,kids⟩
 rw [hpt] at hH hMo hAn
 unfold nodeV at hH hMo hAn ⊢
 dsimp only at hH hMo hAn ⊢
 have HH := Lib.hid hH;have HMO := Lib.hid hMo;have HAN := Lib.hid hAn
 obtain ⟨any,hany⟩ : ∃ any,anyP p = any := ⟨_,rfl⟩
 obtain ⟨mo,hmo⟩ : ∃ mo,mostP p = mo := ⟨_,rfl⟩
 rw [hmo] at HMO HMT
 rw [hany] at HAN HSH HMT
 clear hH hMo hAn hkeep hn hpt hany hmo hp
 unfold cfgV
 go_enter Tryz.func25,Tryz.ntmps25
 go_upto_region 1 with (fail)
 refine (show ∀ W : World,W = (w.alloc (.cells (nodeC op f mn mx (.slice a m c)) 41)).alloc (.cells (cfgC L Q C R M) 24) → _ from fun W hW => ?_) _ rfl
 have HN : Hid (AtG W w.heap.size 41 (nodeC op f mn mx (.slice a m c))) := Lib.hid (by rw [hW];exact (AtG.new _ _ _).alloc _)
 have HC : Hid (AtG W (w.heap.size + 1) 24 (cfgC L Q C R M)) := Lib.hid (by
  rw [hW]
  have := AtG.new (w.alloc (.cells (nodeC op f mn mx (.slice a m c)) 41)) 24 (cfgC L Q C R M)
  simpa using this)
 have HB : Hid (Below w.heap.size w W) := Lib.hid (by rw [hW];go_grown)
 clear hW
 have k0 : (W).cell? ⟨w.heap.size,0,none⟩ = some (.int .i64 op) := (HN.out).cell 0 _ rfl
 have k1 : (W).cell? ⟨w.heap.size,1,none⟩ = some (.int .u64 ((wd f 0 : Nat) : Int)) := (HN.out).cell 1 _ rfl
 have k2 : (W).cell? ⟨w.heap.size,2,none⟩ = some (.int .u64 ((wd f 1 : Nat) : Int)) := (HN.out).cell 2 _ rfl
 have k3 : (W).cell? ⟨w.heap.size,3,none⟩ = some (.int .u64 ((wd f 2 : Nat) : Int)) := (HN.out).cell 3 _ rfl
 have k4 : (W).cell? ⟨w.heap.size,4,none⟩ = some (.int .u64 ((wd f 3 : Nat) : Int)) := (HN.out).cell 4 _ rfl
 have k5 : (W).cell? ⟨w.heap.size,5,none⟩ = some (.int .i64 mn) := (HN.out).cell 5 _ rfl
 have k6 : (W).cell? ⟨w.heap.size,6,none⟩ = some (.int .i64 mx) := (HN.out).cell 6 _ rfl
 have k7 : (W).cell? ⟨w.heap.size,7,none⟩ = some (.slice a m c) := (HN.out).cell 7 _ rfl
 go_wp2_with fail
 refine (HH.out W HB.out).mono ?_
 rintro e9 w1 ⟨hb1,r,rfl,hr⟩
 have HN1 := Lib.hid (HN.out.below hb1);have HC1 := Lib.hid (HC.out.below hb1);have HB1 := Lib.hid (HB.out.trans (hb1.mono HB.out.size))
 clear hb1 k0 k1 k2 k3 k4 k5 k6 k7 HN HC HB HH
 rcases HMT.out r hr with ⟨rfl,h5⟩ | ⟨rfl,h6,h7,h0⟩
 ·have H5 := Lib.hid h5
  clear hr h5
  go_wp2_with fail
  go_returns
  exact ⟨HB1.out,5,H5.out,rfl⟩
 have H6 := Lib.hid h6;have H7 := Lib.hid h7;have H0 := Lib.hid h0
 clear hr h6 h7 h0 HMT
 go_upto_region 3 with (fail)
 refine Rg.wp_region_each (by kernel_rfl) (fun w' => AtG w' w.heap.size 41 (nodeC op f mn mx (.slice a m c)) ∧ AtG w' (w.heap.size + 1) 24 (cfgC L Q C R M) ∧ Below w.heap.size w w') (fun w1 w2 h hb => ⟨h.1.below hb,h.2.1.below hb,h.2.2.trans (hb.mono h.2.2.size)⟩) (by kernel_rfl) (by kernel_rfl) (⟨HN1.out,HC1.out,HB1.out⟩) ?_
 show Rg.Build _ _ _ _ _ 0 [_,_,_,_,_,_] []
 refine Rg.cpe 1 rfl rfl (by intro ax wx hk Kx hK;have k2 := hk.base 2 _ rfl rfl;have hj := hk.j;clear hk;have q0 := hj.1.cell 0 _ rfl;have q1 := hj.1.cell 1 _ rfl;have q2 := hj.1.cell 2 _ rfl;have q3 := hj.1.cell 3 _ rfl;have q4 := hj.1.cell 4 _ rfl;have q5 := hj.1.cell 5 _ rfl;have q6 := hj.1.cell 6 _ rfl;have q7 := hj.1.cell 7 _ rfl;have p0 := hj.2.1.cell 0 _ rfl;go_simp;exact Rg.ok hK) ?_
 refine Rg.cpe 2 rfl rfl (by intro ax wx hk Kx hK;have k9 := hk.e 0 9 rfl rfl rfl;have hj := hk.j;clear hk;go_simp;refine (HMO.out _ hj.2.2).mono ?_;rintro e w' ⟨rfl,hb⟩;refine hK _ _ ?_ hb;apply Rg.mk) ?_
 refine Rg.cpe 3 rfl rfl (by intro ax wx hk Kx hK;have k3 := hk.base 3 _ rfl rfl;clear hk;go_simp;exact Rg.ok hK) ?_
 refine Rg.cpe 4 rfl rfl (by intro ax wx hk Kx hK;have k11 := hk.e 2 11 rfl rfl rfl;have hj := hk.j;clear hk;have q0 := hj.1.cell 0 _ rfl;have q1 := hj.1.cell 1 _ rfl;have q2 := hj.1.cell 2 _ rfl;have q3 := hj.1.cell 3 _ rfl;have q4 := hj.1.cell 4 _ rfl;have q5 := hj.1.cell 5 _ rfl;have q6 := hj.1.cell 6 _ rfl;have q7 := hj.1.cell 7 _ rfl;have p0 := hj.2.1.cell 0 _ rfl;go_simp;exact Rg.ok hK) ?_
 refine Rg.cpe 5 rfl rfl (by intro ax wx hk Kx hK;have k10 := hk.e 1 10 rfl rfl rfl;have k12 := hk.e 3 12 rfl rfl rfl;clear hk;go_simp;exact Rg.ok hK) ?_
 refine Rg.cpe 6 rfl rfl (by intro ax wx hk Kx hK;have k13 := hk.e 4 13 rfl rfl rfl;have hj := hk.j;clear hk;go_simp;exact Rg.ok hK) ?_
 refine Rg.build_end fun wx hj => ?_
 iterate 6 refine Rg.fin_eq rfl ?_
 refine Rg.fin_nil ?_
 simp only [List.set_cons_zero,List.set_cons_succ]
 have HN2 := Lib.hid hj.1;have HC2 := Lib.hid hj.2.1;have HB2 := Lib.hid hj.2.2
 clear hj HN1 HC1 HB1 HMO
 by_cases hL : L < mo
 ·have H := Lib.hid (H6.out hL)
  go_wp2_with fail
  go_returns
  exact ⟨HB2.out,6,H.out,rfl⟩
 have H71 := Lib.hid (H7.out (by omega));have H01 := Lib.hid (H0.out (by omega))
 clear H6 H7 H0
 go_upto_region 5 with (fail)
 obtain ⟨wy,hwy⟩ : ∃ wy : World,wy = wx := ⟨_,rfl⟩
 subst hwy
 refine Rg.wp_region_each (by kernel_rfl) (fun w' => AtG w' w.heap.size 41 (nodeC op f mn mx (.slice a m c)) ∧ AtG w' (w.heap.size + 1) 24 (cfgC L Q C R M) ∧ Below w.heap.size w w') (fun w1 w2 h hb => ⟨h.1.below hb,h.2.1.below hb,h.2.2.trans (hb.mono h.2.2.size)⟩) (by kernel_rfl) (by kernel_rfl) (⟨HN2.out,HC2.out,HB2.out⟩) ?_
 show Rg.Build _ _ _ _ _ 0 [_,_,_,_,_,_] []
 refine Rg.cpe 1 rfl rfl (by intro ax wx hk Kx hK;have k2 := hk.base 2 _ rfl rfl;have hj := hk.j;clear hk;have q0 := hj.1.cell 0 _ rfl;have q1 := hj.1.cell 1 _ rfl;have q2 := hj.1.cell 2 _ rfl;have q3 := hj.1.cell 3 _ rfl;have q4 := hj.1.cell 4 _ rfl;have q5 := hj.1.cell 5 _ rfl;have q6 := hj.1.cell 6 _ rfl;have q7 := hj.1.cell 7 _ rfl;have p0 := hj.2.1.cell 4 _ rfl;go_simp;exact Rg.ok hK) ?_
 refine Rg.cpe 2 rfl rfl (by intro ax wx hk Kx hK;have k15 := hk.e 0 15 rfl rfl rfl;have hj := hk.j;clear hk;go_simp;refine (HAN.out _ hj.2.2).mono ?_;rintro e w' ⟨rfl,hb⟩;refine hK _ _ ?_ hb;apply Rg.mk) ?_
 refine Rg.cpe 3 rfl rfl (by intro ax wx hk Kx hK;have k3 := hk.base 3 _ rfl rfl;clear hk;go_simp;exact Rg.ok hK) ?_
 refine Rg.cpe 4 rfl rfl (by intro ax wx hk Kx hK;have k17 := hk.e 2 17 rfl rfl rfl;have hj := hk.j;clear hk;have q0 := hj.1.cell 0 _ rfl;have q1 := hj.1.cell 1 _ rfl;have q2 := hj.1.cell 2 _ rfl;have q3 := hj.1.cell 3 _ rfl;have q4 := hj.1.cell 4 _ rfl;have q5 := hj.1.cell 5 _ rfl;have q6 := hj.1.cell 6 _ rfl;have q7 := hj.1.cell 7 _ rfl;have p0 := hj.2.1.cell 4 _ rfl;go_simp;exact Rg.ok hK) ?_
 refine Rg.cpe 5 rfl rfl (by intro ax wx hk Kx hK;have k16 := hk.e 1 16 rfl rfl rfl;have k18 := hk.e 3 18 rfl rfl rfl;have hj := hk.j;clear hk;go_simp;refine (HSH.out _).mono ?_;rintro e w' ⟨rfl,hb⟩;refine hK _ _ ?_ hb;apply Rg.mk) ?_
 refine Rg.cpe 6 rfl rfl (by intro ax wx hk Kx hK;have k19 := hk.e 4 19 rfl rfl rfl;have hj := hk.j;clear hk;go_simp;exact Rg.ok hK) ?_
 refine Rg.build_end fun wx hj => ?_
 iterate 6 refine Rg.fin_eq rfl ?_
 refine Rg.fin_nil ?_
 simp only [List.set_cons_zero,List.set_cons_succ]
 have HB3 := Lib.hid hj.2.2
 clear hj HN2 HC2 HB2 HAN HSH
 generalize any M.toNat = b at *
 cases b
 ·have H := Lib.hid (H01.out rfl)
  clear H71 H01
  go_wp2_with fail
  go_returns
  exact ⟨HB3.out,0,H.out,rfl⟩
 ·have H := Lib.hid (H71.out rfl)
  clear H71 H01
  go_wp2_with fail
  go_returns
  exact ⟨HB3.out,7,H.out,rfl⟩
end Go.Proofs.YtgjcibhhffkemaaGreatDoor
namespace Go.Proofs.YtgjcibhhffkemaaGreatDoor
open Go.RowKit Bt
def rxr (s : ByteArray) (p o : Int) : Array Value := #[.string s,.int .i64 p,.int .i64 o]
def RxNo (c : Int) (x : Nat) (e : Ending) (w' : World) : Prop := ∃ b,e = .panicked [{ v := .iface 68 (.pointer (some ⟨b,0,none⟩)),recovered := false }] ∧ AtG w' b 73 #[.int .i64 (x : Int),.int .i64 c]
def RxP {α : Type} (g : Nat) (s : ByteArray) (o : Nat) (w : World) (R : Re α) (V : α → Value) (e : Ending) (w' : World) : Prop :=
 Only (fun k => k = g) w w' ∧ match R with
  | .ok a q => e = .returned (V a) ∧ AtG w' g 94 (rxr s (q : Int) (o : Int))
  | .no c x => RxNo c x e w'
theorem failX (g x : Nat) (c : Int) (w : World) : Calls Tryz.prog 125 #[.pointer (some ⟨g,0,none⟩),.int .i64 (x : Int),.int .i64 c] w fun e w' => Below w.heap.size w w' ∧ RxNo c x e w' := by
 go_enter Tryz.func125,Tryz.ntmps125
 go_wp2
 exact ⟨rfl,(Below.refl _ _).alloc (Nat.le_refl _) _,_,rfl,AtG.new _ _ _⟩
set_option maxRecDepth 100000 in
theorem peekX_end (g : Nat) (s : ByteArray) (p : Nat) (o : Int) (w : World) (h : AtG w g 94 (rxr s p o)) (hp : p = s.size) :
  Calls Tryz.prog 95 #[.pointer (some ⟨g,0,none⟩)] w fun e w' => e = .returned (.tuple #[.int .u8 0,.bool false]) ∧ Below w.heap.size w w' := by
 unfold rxr at h
 have H := Lib.hid h
 have HLT := Lib.hid h.lt
 clear h
 go_enter Tryz.func95,Tryz.ntmps95
 go_upto_region 1 with (fail)
 refine Rg.wp_region_each (by kernel_rfl) (fun w' => Below w.heap.size w w') (fun w1 w2 h hb => h.trans (hb.mono h.size)) (by kernel_rfl) (by kernel_rfl) (Below.refl _ _) ?_
 show Rg.Build _ _ _ _ _ 0 [_,_,_,_,_,_,_,_,_,_] []
 refine Rg.cpe 1 rfl rfl (by intro ax wx hk Kx hK;have k0 := hk.base 0 _ rfl rfl;have hj := hk.j;clear hk;have z0 := (hj.cell (p := ⟨g,0,none⟩) HLT.out).trans (H.out.cell 0 _ rfl);have z1 := (hj.cell (p := ⟨g,1,none⟩) HLT.out).trans (H.out.cell 1 _ rfl);go_simp;exact Rg.ok hK) ?_
 refine Rg.cpe 2 rfl rfl (by intro ax wx hk Kx hK;have k4 := hk.e 0 4 rfl rfl rfl;clear hk;go_simp;exact Rg.ok hK) ?_
 refine Rg.cpe 3 rfl rfl (by intro ax wx hk Kx hK;have k5 := hk.e 1 5 rfl rfl rfl;clear hk;go_simp;exact Rg.ok hK) ?_
 refine Rg.cpe 4 rfl rfl (by intro ax wx hk Kx hK;have k6 := hk.e 2 6 rfl rfl rfl;have hj := hk.j;clear hk;have z0 := (hj.cell (p := ⟨g,0,none⟩) HLT.out).trans (H.out.cell 0 _ rfl);have z1 := (hj.cell (p := ⟨g,1,none⟩) HLT.out).trans (H.out.cell 1 _ rfl);go_simp;exact Rg.ok hK) ?_
 refine Rg.cpe 5 rfl rfl (by intro ax wx hk Kx hK;have k0 := hk.base 0 _ rfl rfl;have hj := hk.j;clear hk;have z0 := (hj.cell (p := ⟨g,0,none⟩) HLT.out).trans (H.out.cell 0 _ rfl);have z1 := (hj.cell (p := ⟨g,1,none⟩) HLT.out).trans (H.out.cell 1 _ rfl);go_simp;exact Rg.ok hK) ?_
 refine Rg.cpe 6 rfl rfl (by intro ax wx hk Kx hK;have k8 := hk.e 4 8 rfl rfl rfl;clear hk;go_simp;exact Rg.ok hK) ?_
 refine Rg.cpe 7 rfl rfl (by intro ax wx hk Kx hK;have k9 := hk.e 5 9 rfl rfl rfl;clear hk;go_simp;exact Rg.ok hK) ?_
 refine Rg.cpe 8 rfl rfl (by intro ax wx hk Kx hK;have k10 := hk.e 6 10 rfl rfl rfl;have hj := hk.j;clear hk;have z0 := (hj.cell (p := ⟨g,0,none⟩) HLT.out).trans (H.out.cell 0 _ rfl);have z1 := (hj.cell (p := ⟨g,1,none⟩) HLT.out).trans (H.out.cell 1 _ rfl);go_simp;exact Rg.ok hK) ?_
 refine Rg.cpe 9 rfl rfl (by intro ax wx hk Kx hK;have k11 := hk.e 7 11 rfl rfl rfl;have hj := hk.j;clear hk;have z0 := (hj.cell (p := ⟨g,0,none⟩) HLT.out).trans (H.out.cell 0 _ rfl);have z1 := (hj.cell (p := ⟨g,1,none⟩) HLT.out).trans (H.out.cell 1 _ rfl);go_simp;exact Rg.ok hK) ?_
 refine Rg.cp 10 (Rg.eq (.bool true)) rfl rfl (by intro ax wx hk Kx hK;have k7 := hk.e 3 7 rfl rfl rfl;have k12 := hk.e 8 12 rfl rfl rfl;have hj := hk.j;clear hk;have z0 := (hj.cell (p := ⟨g,0,none⟩) HLT.out).trans (H.out.cell 0 _ rfl);have z1 := (hj.cell (p := ⟨g,1,none⟩) HLT.out).trans (H.out.cell 1 _ rfl);(go_simp;refine hK _ _ ?_ (Below.refl _ _);simp [Rg.eq,hp])) ?_
 refine Rg.build_end fun wx hj => ?_
 iterate 10 refine Rg.fin_eq rfl ?_
 refine Rg.fin_nil ?_
 simp only [List.set_cons_zero,List.set_cons_succ]
 have HJ := Lib.hid hj;clear hj
 go_wp2_with fail
 go_returns
 exact ⟨rfl,HJ.out⟩
set_option maxRecDepth 100000 in
theorem peekX_in (g : Nat) (s : ByteArray) (p : Nat) (o : Int) (w : World) (h : AtG w g 94 (rxr s p o)) (hp : p < s.size) :
  Calls Tryz.prog 95 #[.pointer (some ⟨g,0,none⟩)] w fun e w' => e = .returned (.tuple #[.int .u8 (ch s p),.bool true]) ∧ Below w.heap.size w w' := by
 unfold rxr at h
 have H := Lib.hid h
 have HLT := Lib.hid h.lt
 have hch := ch_in hp
 have hp2 : ¬ p = s.size := by omega
 have hpI : (p : Int) < s.size := by omega
 clear h
 go_enter Tryz.func95,Tryz.ntmps95
 go_upto_region 1 with (fail)
 refine Rg.wp_region_each (by kernel_rfl) (fun w' => Below w.heap.size w w') (fun w1 w2 h hb => h.trans (hb.mono h.size)) (by kernel_rfl) (by kernel_rfl) (Below.refl _ _) ?_
 show Rg.Build _ _ _ _ _ 0 [_,_,_,_,_,_,_,_,_,_] []
 refine Rg.cpe 1 rfl rfl (by intro ax wx hk Kx hK;have k0 := hk.base 0 _ rfl rfl;have hj := hk.j;clear hk;have z0 := (hj.cell (p := ⟨g,0,none⟩) HLT.out).trans (H.out.cell 0 _ rfl);have z1 := (hj.cell (p := ⟨g,1,none⟩) HLT.out).trans (H.out.cell 1 _ rfl);go_simp;exact Rg.ok hK) ?_
 refine Rg.cpe 2 rfl rfl (by intro ax wx hk Kx hK;have k4 := hk.e 0 4 rfl rfl rfl;clear hk;go_simp;exact Rg.ok hK) ?_
 refine Rg.cpe 3 rfl rfl (by intro ax wx hk Kx hK;have k5 := hk.e 1 5 rfl rfl rfl;clear hk;go_simp;exact Rg.ok hK) ?_
 refine Rg.cpe 4 rfl rfl (by intro ax wx hk Kx hK;have k6 := hk.e 2 6 rfl rfl rfl;have hj := hk.j;clear hk;have z0 := (hj.cell (p := ⟨g,0,none⟩) HLT.out).trans (H.out.cell 0 _ rfl);have z1 := (hj.cell (p := ⟨g,1,none⟩) HLT.out).trans (H.out.cell 1 _ rfl);go_simp;exact Rg.ok hK) ?_
 refine Rg.cpe 5 rfl rfl (by intro ax wx hk Kx hK;have k0 := hk.base 0 _ rfl rfl;have hj := hk.j;clear hk;have z0 := (hj.cell (p := ⟨g,0,none⟩) HLT.out).trans (H.out.cell 0 _ rfl);have z1 := (hj.cell (p := ⟨g,1,none⟩) HLT.out).trans (H.out.cell 1 _ rfl);go_simp;exact Rg.ok hK) ?_
 refine Rg.cpe 6 rfl rfl (by intro ax wx hk Kx hK;have k8 := hk.e 4 8 rfl rfl rfl;clear hk;go_simp;exact Rg.ok hK) ?_
 refine Rg.cpe 7 rfl rfl (by intro ax wx hk Kx hK;have k9 := hk.e 5 9 rfl rfl rfl;clear hk;go_simp;exact Rg.ok hK) ?_
 refine Rg.cpe 8 rfl rfl (by intro ax wx hk Kx hK;have k10 := hk.e 6 10 rfl rfl rfl;have hj := hk.j;clear hk;have z0 := (hj.cell (p := ⟨g,0,none⟩) HLT.out).trans (H.out.cell 0 _ rfl);have z1 := (hj.cell (p := ⟨g,1,none⟩) HLT.out).trans (H.out.cell 1 _ rfl);go_simp;exact Rg.ok hK) ?_
 refine Rg.cpe 9 rfl rfl (by intro ax wx hk Kx hK;have k11 := hk.e 7 11 rfl rfl rfl;have hj := hk.j;clear hk;have z0 := (hj.cell (p := ⟨g,0,none⟩) HLT.out).trans (H.out.cell 0 _ rfl);have z1 := (hj.cell (p := ⟨g,1,none⟩) HLT.out).trans (H.out.cell 1 _ rfl);go_simp;exact Rg.ok hK) ?_
 refine Rg.cp 10 (Rg.eq (.bool false)) rfl rfl (by intro ax wx hk Kx hK;have k7 := hk.e 3 7 rfl rfl rfl;have k12 := hk.e 8 12 rfl rfl rfl;have hj := hk.j;clear hk;have z0 := (hj.cell (p := ⟨g,0,none⟩) HLT.out).trans (H.out.cell 0 _ rfl);have z1 := (hj.cell (p := ⟨g,1,none⟩) HLT.out).trans (H.out.cell 1 _ rfl);(go_simp;refine hK _ _ ?_ (Below.refl _ _);simp [Rg.eq];omega)) ?_
 refine Rg.build_end fun wx hj => ?_
 iterate 10 refine Rg.fin_eq rfl ?_
 refine Rg.fin_nil ?_
 simp only [List.set_cons_zero,List.set_cons_succ]
 have HJ := Lib.hid hj;clear hj
 go_upto_region 3 with (fail)
 obtain ⟨wy,rfl⟩ : ∃ wy : World,wy = wx := ⟨_,rfl⟩
 refine Rg.wp_region_each (by kernel_rfl) (fun w' => Below w.heap.size w w') (fun w1 w2 h hb => h.trans (hb.mono h.size)) (by kernel_rfl) (by kernel_rfl) (HJ.out) ?_
 show Rg.Build _ _ _ _ _ 0 [_,_,_,_,_,_,_,_,_,_,_] []
 refine Rg.cpe 1 rfl rfl (by intro ax wx hk Kx hK;have k0 := hk.base 0 _ rfl rfl;have hj := hk.j;clear hk;have z0 := (hj.cell (p := ⟨g,0,none⟩) HLT.out).trans (H.out.cell 0 _ rfl);have z1 := (hj.cell (p := ⟨g,1,none⟩) HLT.out).trans (H.out.cell 1 _ rfl);go_simp;exact Rg.ok hK) ?_
 refine Rg.cpe 2 rfl rfl (by intro ax wx hk Kx hK;have k14 := hk.e 0 14 rfl rfl rfl;clear hk;go_simp;exact Rg.ok hK) ?_
 refine Rg.cpe 3 rfl rfl (by intro ax wx hk Kx hK;have k15 := hk.e 1 15 rfl rfl rfl;clear hk;go_simp;exact Rg.ok hK) ?_
 refine Rg.cpe 4 rfl rfl (by intro ax wx hk Kx hK;have k16 := hk.e 2 16 rfl rfl rfl;have hj := hk.j;clear hk;have z0 := (hj.cell (p := ⟨g,0,none⟩) HLT.out).trans (H.out.cell 0 _ rfl);have z1 := (hj.cell (p := ⟨g,1,none⟩) HLT.out).trans (H.out.cell 1 _ rfl);go_simp;exact Rg.ok hK) ?_
 refine Rg.cpe 5 rfl rfl (by intro ax wx hk Kx hK;have k0 := hk.base 0 _ rfl rfl;have hj := hk.j;clear hk;have z0 := (hj.cell (p := ⟨g,0,none⟩) HLT.out).trans (H.out.cell 0 _ rfl);have z1 := (hj.cell (p := ⟨g,1,none⟩) HLT.out).trans (H.out.cell 1 _ rfl);go_simp;exact Rg.ok hK) ?_
 refine Rg.cpe 6 rfl rfl (by intro ax wx hk Kx hK;have k18 := hk.e 4 18 rfl rfl rfl;clear hk;go_simp;exact Rg.ok hK) ?_
 refine Rg.cpe 7 rfl rfl (by intro ax wx hk Kx hK;have k19 := hk.e 5 19 rfl rfl rfl;clear hk;go_simp;exact Rg.ok hK) ?_
 refine Rg.cpe 8 rfl rfl (by intro ax wx hk Kx hK;have k20 := hk.e 6 20 rfl rfl rfl;have hj := hk.j;clear hk;have z0 := (hj.cell (p := ⟨g,0,none⟩) HLT.out).trans (H.out.cell 0 _ rfl);have z1 := (hj.cell (p := ⟨g,1,none⟩) HLT.out).trans (H.out.cell 1 _ rfl);go_simp;exact Rg.ok hK) ?_
 refine Rg.cp 9 (Rg.eq (.int .u8 (ch s p))) rfl rfl (by intro ax wx hk Kx hK;have k17 := hk.e 3 17 rfl rfl rfl;have k21 := hk.e 7 21 rfl rfl rfl;have hj := hk.j;clear hk;have z0 := (hj.cell (p := ⟨g,0,none⟩) HLT.out).trans (H.out.cell 0 _ rfl);have z1 := (hj.cell (p := ⟨g,1,none⟩) HLT.out).trans (H.out.cell 1 _ rfl);(go_simp;refine hK _ _ ?_ (Below.refl _ _);simp [Rg.eq,hch])) ?_
 refine Rg.cpe 10 rfl rfl (by intro ax wx hk Kx hK;have k22 := hk.e 8 22 rfl rfl rfl;have hj := hk.j;clear hk;have z0 := (hj.cell (p := ⟨g,0,none⟩) HLT.out).trans (H.out.cell 0 _ rfl);have z1 := (hj.cell (p := ⟨g,1,none⟩) HLT.out).trans (H.out.cell 1 _ rfl);go_simp;exact Rg.ok hK) ?_
 refine Rg.cpe 11 rfl rfl (by intro ax wx hk Kx hK;have hj := hk.j;clear hk;have z0 := (hj.cell (p := ⟨g,0,none⟩) HLT.out).trans (H.out.cell 0 _ rfl);have z1 := (hj.cell (p := ⟨g,1,none⟩) HLT.out).trans (H.out.cell 1 _ rfl);go_simp;exact Rg.ok hK) ?_
 refine Rg.build_end fun wx hj => ?_
 iterate 11 refine Rg.fin_eq rfl ?_
 refine Rg.fin_nil ?_
 simp only [List.set_cons_zero,List.set_cons_succ]
 have HJ2 := Lib.hid hj;clear hj
 go_wp2_with fail
 go_returns
 exact ⟨by rw [hch];rfl,HJ2.out⟩
set_option maxRecDepth 100000 in
theorem isX (g : Nat) (s : ByteArray) (p : Nat) (o : Int) (c : Int) (w : World) (h : AtG w g 94 (rxr s p o)) (hp : p ≤ s.size) (hc : 0 ≤ c) :
  Calls Tryz.prog 84 #[.pointer (some ⟨g,0,none⟩),.int .u8 c] w fun e w' => e = .returned (.bool (decide (ch s p = c))) ∧ Below w.heap.size w w' := by
 by_cases hlt : p < s.size
 ·have HP := Lib.hid (peekX_in g s p o w h hlt)
  generalize ch s p = d at *
  clear h
  go_enter Tryz.func84,Tryz.ntmps84
  go_wp2_with fail
  refine (HP.out).mono ?_
  rintro e9 w1 ⟨rfl,hb⟩
  have HB := Lib.hid hb
  clear hb
  by_cases hd : d = c
  ·subst hd
   go_wp2_with fail
   go_returns
   exact ⟨by simp,HB.out⟩
  ·have hd1 : (d == c) = false := by rw [beq_eq_false_iff_ne];exact hd
   go_wp2_with fail
   go_returns
   exact ⟨by rw [decide_eq_false hd];simp [hd],HB.out⟩
 ·have HP := Lib.hid (peekX_end g s p o w h (by omega))
  have hd : ¬ ch s p = c := by rw [ch_end (by omega)];omega
  have HD := Lib.hid hd
  clear h hd
  go_enter Tryz.func84,Tryz.ntmps84
  go_wp2_with fail
  refine (HP.out).mono ?_
  rintro e9 w1 ⟨rfl,hb⟩
  have HB := Lib.hid hb
  clear hb
  go_wp2_with fail
  go_returns
  exact ⟨by rw [decide_eq_false HD.out];rfl,HB.out⟩
set_option maxRecDepth 100000 in
theorem nextX_in (g : Nat) (s : ByteArray) (p : Nat) (o : Int) (w : World) (h : AtG w g 94 (rxr s p o)) (hp : p < s.size) (hs : s.size ≤ 1000) :
  Calls Tryz.prog 117 #[.pointer (some ⟨g,0,none⟩)] w fun e w' => e = .returned (.int .u8 (ch s p)) ∧ Only (fun k => k = g) w w' ∧ AtG w' g 94 (rxr s ((p + 1 : Nat) : Int) o) := by
 have HP := Lib.hid (peekX_in g s p o w h hp)
 have H := Lib.hid h
 have hpI : (p : Int) < 1000 := by omega
 generalize ch s p = d at *
 clear h
 go_enter Tryz.func117,Tryz.ntmps117
 go_wp2_with fail
 refine (HP.out).mono ?_
 rintro e9 w1 ⟨rfl,hb⟩
 have H1 := Lib.hid (H.out.below hb);have HB := Lib.hid hb
 clear hb
 have z1 : w1.cell? ⟨g,1,none⟩ = some (.int .i64 (p : Int)) := H1.out.cell 1 _ rfl
 have f1 := H1.out.frozen 1
 go_wp2_with fail
 go_returns
 refine ⟨rfl,(Only.of_below HB.out).trans (Only.set (S := fun k => k = g) _ _ _ _ rfl) (fun k hk => .inl hk),?_⟩
 rw [show ((p + 1 : Nat) : Int) = (p : Int) + 1 from by omega]
 exact H1.out.set 1 _
set_option maxRecDepth 100000 in
theorem nextX_end (g : Nat) (s : ByteArray) (p : Nat) (o : Int) (w : World) (h : AtG w g 94 (rxr s p o)) (hp : p = s.size) :
  Calls Tryz.prog 117 #[.pointer (some ⟨g,0,none⟩)] w fun e w' => Only (fun k => k = g) w w' ∧ RxNo 2 p e w' := by
 have HP := Lib.hid (peekX_end g s p o w h hp)
 have H := Lib.hid h
 clear h hp
 go_enter Tryz.func117,Tryz.ntmps117
 go_wp2_with fail
 refine (HP.out).mono ?_
 rintro e9 w1 ⟨rfl,hb⟩
 have H1 := Lib.hid (H.out.below hb);have HB := Lib.hid hb
 clear hb
 have z1 : w1.cell? ⟨g,1,none⟩ = some (.int .i64 (p : Int)) := H1.out.cell 1 _ rfl
 go_wp2_with fail
 refine (failX g p 2 _).mono ?_
 rintro e9 w2 ⟨hb2,b,rfl,ha⟩
 exact ⟨rfl,(Only.of_below HB.out).trans (Only.of_below (S := fun k => k = g) hb2) (fun k hk => .inl hk),b,rfl,ha⟩
theorem RxNo.below {c : Int} {x : Nat} {e : Ending} {w w' : World} (h : RxNo c x e w) (hb : Below w.heap.size w w') : RxNo c x e w' := by
 obtain ⟨b,h1,h2⟩ := h;exact ⟨b,h1,h2.below hb⟩
end Go.Proofs.YtgjcibhhffkemaaGreatDoor
namespace Go.Proofs.YtgjcibhhffkemaaGreatDoor
open Go.RowKit Bt
def wantF (s : ByteArray) (c : Int) (p : Nat) : Re Unit := if ch s p = c then .ok () (p + 1) else .no 2 p
set_option maxRecDepth 100000 in
theorem wantX (g : Nat) (s : ByteArray) (p o : Nat) (c : Int) (w : World) (h : AtG w g 94 (rxr s p o)) (hp : p ≤ s.size) (hs : s.size ≤ 1000) (hc : 0 ≤ c) :
  Calls Tryz.prog 127 #[.pointer (some ⟨g,0,none⟩),.int .u8 c] w (RxP g s o w (wantF s c p) (fun _ => .tuple #[])) := by
 by_cases hlt : p < s.size
 ·have HN := Lib.hid (nextX_in g s p o w h hlt hs)
  have HF := Lib.hid (show wantF s c p = if ch s p = c then .ok () (p + 1) else .no 2 p from rfl)
  have hpI : (p : Int) < 1000 := by omega
  generalize wantF s c p = R at *
  generalize ch s p = d at *
  clear h
  go_enter Tryz.func127,Tryz.ntmps127
  go_wp2_with fail
  refine (HN.out).mono ?_
  rintro e9 w1 ⟨rfl,ho,ha⟩
  have HO := Lib.hid ho;have HA := Lib.hid ha
  clear ho ha HN
  by_cases hd : d = c
  ·have HR := Lib.hid (HF.out.trans (if_pos hd))
   subst hd
   clear HF
   go_wp2_with fail
   refine bodyPost_ret (v := .tuple #[]) (by simp [results,Tryz.results127,go_sem];try rfl) rfl ?_
   rw [HR.out]
   exact ⟨HO.out,rfl,HA.out⟩
  ·have HR := Lib.hid (HF.out.trans (if_neg hd))
   have hd1 : (d == c) = false := by rw [beq_eq_false_iff_ne];exact hd
   have z1 : w1.cell? ⟨g,1,none⟩ = some (.int .i64 ((p + 1 : Nat) : Int)) := HA.out.cell 1 _ rfl
   rw [show ((p + 1 : Nat) : Int) = (p : Int) + 1 from by omega] at z1
   have hw1 : (p : Int) + 1 - 1 = (p : Int) := by omega
   clear HF
   go_wp2_with fail
   refine (failX g p 2 _).mono ?_
   rintro e9 w2 ⟨hb2,b,rfl,hx⟩
   refine ⟨rfl,?_⟩
   rw [HR.out]
   exact ⟨HO.out.tb hb2,b,rfl,hx⟩
 ·have hpe : p = s.size := by omega
  have HN := Lib.hid (nextX_end g s p o w h hpe)
  have hd : ¬ ch s p = c := by rw [ch_end (by omega)];omega
  have HR := Lib.hid (show wantF s c p = .no 2 p from if_neg hd)
  clear h hpe hd
  generalize wantF s c p = R at *
  go_enter Tryz.func127,Tryz.ntmps127
  go_wp2_with fail
  refine (HN.out).mono ?_
  rintro e9 w1 ⟨ho,b,rfl,hx⟩
  refine ⟨rfl,?_⟩
  rw [HR.out]
  exact ⟨ho,b,rfl,hx⟩
theorem digitX (c : Int) (w : World) : Calls Tryz.prog 133 #[.int .u8 c] w fun e w' => e = .returned (.bool (decide (48 ≤ c ∧ c ≤ 57))) ∧ w' = w := by
 by_cases h1 : 48 ≤ c
 ·by_cases h2 : c ≤ 57
  ·have HD := Lib.hid (show decide (48 ≤ c ∧ c ≤ 57) = true from decide_eq_true ⟨h1,h2⟩)
   rw [HD.out]
   go_enter Tryz.func133,Tryz.ntmps133
   go_wp2
   go_returns
   exact ⟨rfl,rfl⟩
  ·have HD := Lib.hid (show decide (48 ≤ c ∧ c ≤ 57) = false from decide_eq_false (fun h => h2 h.2))
   rw [HD.out]
   have h3 : ¬ c ≤ 57 := h2
   go_enter Tryz.func133,Tryz.ntmps133
   go_wp2
   go_returns
   exact ⟨by first | rfl | simp [h3] | (simp;omega),rfl⟩
 ·have HD := Lib.hid (show decide (48 ≤ c ∧ c ≤ 57) = false from decide_eq_false (fun h => h1 h.1))
  rw [HD.out]
  go_enter Tryz.func133,Tryz.ntmps133
  go_wp2
  go_returns
  exact ⟨by first | rfl | simp [h1] | (simp;omega),rfl⟩
end Go.Proofs.YtgjcibhhffkemaaGreatDoor
namespace Go.Proofs.YtgjcibhhffkemaaGreatDoor
open Go.RowKit Bt
set_option maxRecDepth 100000 in
set_option maxHeartbeats 800000 in
theorem numX (g : Nat) (s : ByteArray) (p o : Nat) (w : World) (h : AtG w g 94 (rxr s p o)) (hp : p ≤ s.size) (hs : s.size ≤ 900) :
  Calls Tryz.prog 126 #[.pointer (some ⟨g,0,none⟩)] w (RxP g s o w (numF s p) (fun n => .int .i64 n)) := by
 by_cases hlt : p < s.size
 ·have HN := Lib.hid (nextX_in g s p o w h hlt (by omega))
  have HP1 := Lib.hid (fun (w1 : World) (h1 : AtG w1 g 94 (rxr s ((p + 1 : Nat) : Int) o)) (hq : p + 1 < s.size) => peekX_in g s (p + 1) o w1 h1 hq)
  have HP2 := Lib.hid (fun (w1 : World) (h1 : AtG w1 g 94 (rxr s ((p + 1 : Nat) : Int) o)) (hq : p + 1 = s.size) => peekX_end g s (p + 1) o w1 h1 hq)
  have HF := Lib.hid (show numF s p = if ch s p < 48 ∨ 57 < ch s p then .no 2 p else if 48 ≤ ch s (p + 1) ∧ ch s (p + 1) ≤ 57 then .ok (10 * (ch s p - 48) + ch s (p + 1) - 48) (p + 2) else .ok (ch s p - 48) (p + 1) from rfl)
  have HE := Lib.hid (fun (hq : p + 1 = s.size) => ch_end (s := s) (p := p + 1) (by omega))
  have hpI : (p : Int) < 1000 := by omega
  have hl1 := ch_lt s (p + 1)
  have hl0 := ch_pos hlt
  have hl2 := (ch_lt s p).2
  generalize numF s p = R at *
  generalize ch s (p + 1) = d1 at *
  generalize ch s p = d at *
  have HD := Lib.hid (digitX d)
  clear h
  go_enter Tryz.func126,Tryz.ntmps126
  go_wp2_with fail
  refine (HN.out).mono ?_
  rintro e9 w1 ⟨rfl,ho,ha⟩
  have HO := Lib.hid ho;have HA := Lib.hid ha
  clear ho ha HN
  go_wp2_with fail
  refine (HD.out _).mono ?_
  rintro e9 w9 ⟨rfl,hw9⟩;subst hw9
  by_cases hd : 48 ≤ d ∧ d ≤ 57
  ·rw [decide_eq_true hd]
   have HR := Lib.hid (HF.out.trans (if_neg (by omega)))
   obtain ⟨d48,d57⟩ := hd
   clear HF
   by_cases hq : p + 1 < s.size
   ·have HPQ := Lib.hid (HP1.out w9 HA.out hq)
    have HD1 := Lib.hid (digitX d1)
    go_wp2_with fail
    refine (HPQ.out).mono ?_
    rintro e9 w2 ⟨rfl,hb⟩
    have HO2 := Lib.hid (HO.out.tb hb);have HA2 := Lib.hid (HA.out.below hb)
    clear hb HP1 HP2 HPQ
    go_wp2_with fail
    refine (HD1.out _).mono ?_
    rintro e9 w8 ⟨rfl,hw8⟩;subst hw8
    by_cases he : 48 ≤ d1 ∧ d1 ≤ 57
    ·rw [decide_eq_true he]
     have HR2 := Lib.hid (HR.out.trans (if_pos he))
     obtain ⟨e48,e57⟩ := he
     have z1 : w8.cell? ⟨g,1,none⟩ = some (.int .i64 ((p + 1 : Nat) : Int)) := HA2.out.cell 1 _ rfl
     rw [show ((p + 1 : Nat) : Int) = (p : Int) + 1 from by omega] at z1
     have f1 := HA2.out.frozen 1
     clear HR HE
     go_wp2_with fail
     refine bodyPost_ret (v := .int .i64 (10 * (d - 48) + d1 - 48)) (by simp [results,Tryz.results126,go_sem];try omega) rfl ?_
     rw [HR2.out]
     refine ⟨HO2.out.st _ _ _ (.inl rfl),rfl,?_⟩
     have := HA2.out.set 1 (.int .i64 ((p : Int) + 1 + 1))
     rw [show ((p + 2 : Nat) : Int) = (p : Int) + 1 + 1 from by omega]
     exact this
    ·rw [decide_eq_false he]
     have HR2 := Lib.hid (HR.out.trans (if_neg he))
     clear HR HE he
     go_wp2_with fail
     refine bodyPost_ret (v := .int .i64 (d - 48)) (by simp [results,Tryz.results126,go_sem];try omega) rfl ?_
     rw [HR2.out]
     exact ⟨HO2.out,rfl,HA2.out⟩
   ·have hqe : p + 1 = s.size := by omega
    have HPQ := Lib.hid (HP2.out w9 HA.out hqe)
    have HR2 := Lib.hid (HR.out.trans (if_neg (by have := HE.out hqe;omega)))
    clear HR HE HP1 HP2 hqe hq hp hlt
    go_wp2_with fail
    refine (HPQ.out).mono ?_
    rintro e9 w2 ⟨rfl,hb⟩
    have HO2 := Lib.hid (HO.out.tb hb);have HA2 := Lib.hid (HA.out.below hb)
    clear hb HPQ
    go_wp2_with fail
    refine bodyPost_ret (v := .int .i64 (d - 48)) (by simp [results,Tryz.results126,go_sem];try omega) rfl ?_
    rw [HR2.out]
    exact ⟨HO2.out,rfl,HA2.out⟩
  ·rw [decide_eq_false hd]
   have HR := Lib.hid (HF.out.trans (if_pos (by omega)))
   have z1 : w9.cell? ⟨g,1,none⟩ = some (.int .i64 ((p + 1 : Nat) : Int)) := HA.out.cell 1 _ rfl
   rw [show ((p + 1 : Nat) : Int) = (p : Int) + 1 from by omega] at z1
   clear HF HE HP1 HP2 hd
   go_wp2_with fail
   refine (failX g p 2 _).mono ?_
   rintro e9 w2 ⟨hb2,b,rfl,hx⟩
   refine ⟨rfl,?_⟩
   rw [HR.out]
   exact ⟨HO.out.tb hb2,b,rfl,hx⟩
 ·have hpe : p = s.size := by omega
  have HN := Lib.hid (nextX_end g s p o w h hpe)
  have HR := Lib.hid (show numF s p = .no 2 p from by unfold numF;rw [if_pos (.inl (by rw [ch_end (by omega)];decide))])
  clear h hpe hlt hp
  generalize numF s p = R at *
  go_enter Tryz.func126,Tryz.ntmps126
  go_wp2_with fail
  refine (HN.out).mono ?_
  rintro e9 w1 ⟨ho,b,rfl,hx⟩
  refine ⟨rfl,?_⟩
  rw [HR.out]
  exact ⟨ho,b,rfl,hx⟩
set_option maxRecDepth 100000 in
set_option maxHeartbeats 800000 in
theorem timesX (g : Nat) (s : ByteArray) (p o : Nat) (w : World) (h : AtG w g 94 (rxr s p o)) (hp : p ≤ s.size) (hs : s.size ≤ 900) :
  Calls Tryz.prog 107 #[.pointer (some ⟨g,0,none⟩)] w (RxP g s o w (timesF s p) (fun n => .tuple #[.int .i64 n.1,.int .i64 n.2])) := by
 have HN := Lib.hid (numX g s p o w h hp hs)
 have HIN := Lib.hid (numF_in s p hp)
 have HF := Lib.hid (show timesF s p = match numF s p with | .no c x => .no c x | .ok low q => timesE s low (if ch s q = 44 then numF s (q + 1) else .ok low q) from rfl)
 generalize timesF s p = R at *
 clear h
 go_enter Tryz.func107,Tryz.ntmps107
 go_wp2_with fail
 refine (HN.out).mono ?_
 cases hn : numF s p with
 | no c x =>
  rw [hn] at HF
  rintro e9 w1 ⟨ho,b,rfl,hx⟩
  refine ⟨rfl,?_⟩
  rw [HF.out]
  exact ⟨ho,b,rfl,hx⟩
 | ok low q =>
  rw [hn] at HF HIN
  have hq : p + 1 ≤ q ∧ q ≤ s.size := HIN.out.1
  have hlow := HIN.out.2 low q rfl
  obtain ⟨lo0,lo1⟩ := hlow
  rintro e9 w1 ⟨ho,rfl,ha⟩
  have HO := Lib.hid ho;have HA := Lib.hid ha
  have HRS0 := Lib.hid hq.2
  have HI := isX g s q o 44 w1 ha hq.2 (by decide)
  dsimp only at HF
  clear ho ha HN HIN hn
  by_cases h44 : ch s q = 44
  ·have HR0 := Lib.hid (show R = timesE s low (numF s (q + 1)) by rw [HF.out,if_pos h44])
   have hqlt : q < s.size := ch_ge (by omega)
   rw [decide_eq_true h44] at HI
   have HI := Lib.hid HI
   have HIN2 := Lib.hid (numF_in s (q + 1) hqlt)
   have hqI : (q : Int) < 1000 := by omega
   have HQL := Lib.hid hqlt
   clear HF h44 hqlt hq
   go_wp2_with fail
   refine (HI.out).mono ?_
   rintro e9 w2 ⟨rfl,hb⟩
   have HO2 := Lib.hid ((HO.out.tb hb).st g 1 (.int .i64 ((q : Int) + 1)) (.inl rfl));have HA2 := Lib.hid (HA.out.below hb)
   have z1 : w2.cell? ⟨g,1,none⟩ = some (.int .i64 (q : Int)) := HA2.out.cell 1 _ rfl
   have f1 := HA2.out.frozen 1
   have HA3 : Hid (AtG (w2.setCell ⟨g,1,none⟩ (.int .i64 ((q : Int) + 1))) g 94 (rxr s ((q + 1 : Nat) : Int) o)) := Lib.hid (by
    rw [show ((q + 1 : Nat) : Int) = (q : Int) + 1 from by omega];exact HA2.out.set 1 _)
   have HN2 := Lib.hid (numX g s (q + 1) o _ HA3.out HQL.out hs)
   clear hb HI
   go_wp2_with fail
   refine (HN2.out).mono ?_
   cases hn : numF s (q + 1) with
   | no c x =>
    rw [hn] at HR0
    have HR := Lib.hid (HR0.out.trans (show timesE s low (.no c x) = .no c x from rfl))
    rintro e9 w3 ⟨ho,b,rfl,hx⟩
    refine ⟨rfl,?_⟩
    rw [HR.out]
    exact ⟨HO2.out.tr ho,b,rfl,hx⟩
   | ok high r =>
    rw [hn] at HR0 HIN2
    have HR := Lib.hid HR0.out
    have hr : q + 1 + 1 ≤ r ∧ r ≤ s.size := HIN2.out.1
    obtain ⟨hi0,hi1⟩ := HIN2.out.2 high r rfl
    have HRS := Lib.hid hr.2
    rintro e9 w3 ⟨ho,rfl,ha⟩
    have HO4 := Lib.hid (HO2.out.tr ho);have HA4 := Lib.hid ha
    clear ho ha HN2 HR0 HIN2 hn hr HO HA HA2 HA3 z1 f1 HO2
    have HWT := Lib.hid (wantX g s r o 125 w3 HA4.out HRS.out (by omega) (by decide))
    have HWF := Lib.hid (show wantF s 125 r = if ch s r = 125 then .ok () (r + 1) else .no 2 r from rfl)
    have HTE := Lib.hid (show timesE s low (.ok high r) = if ch s r ≠ 125 ∨ high < 1 ∨ 32 < high ∨ high < low then .no 2 r else .ok (low,high) (r + 1) from rfl)
    have hrI : (r : Int) < 1000 := by have := HRS.out;omega
    generalize wantF s 125 r = WR at *
    generalize timesE s low (.ok high r) = TR at *
    generalize ch s r = dr at *
    go_wp2_with fail
    refine (HWT.out).mono ?_
    by_cases hdr : dr = 125
    ·have HWR := Lib.hid (HWF.out.trans (if_pos hdr))
     rw [HWR.out]
     rintro e9 wt ⟨ho,rfl,ha⟩
     have HOt := Lib.hid (HO4.out.tr ho);have HAt := Lib.hid ha
     clear ho ha
     by_cases hbad : high < 1 ∨ 32 < high ∨ high < low
     ·have HTR := Lib.hid (HTE.out.trans (if_pos (.inr hbad)))
      have z1 : wt.cell? ⟨g,1,none⟩ = some (.int .i64 ((r + 1 : Nat) : Int)) := HAt.out.cell 1 _ rfl
      rw [show ((r + 1 : Nat) : Int) = (r : Int) + 1 from by omega] at z1
      clear HTE HWF HWR HWT hdr
      have HBD := Lib.hid hbad
      by_cases b1 : high < 1
      ·clear hbad
       go_wp2_with fail
       refine (failX g r 2 _).mono ?_
       rintro e9 w2 ⟨hb2,b,rfl,hx⟩
       refine ⟨rfl,?_⟩
       rw [HR.out,HTR.out]
       exact ⟨HOt.out.tb hb2,b,rfl,hx⟩
      ·by_cases b2 : 32 < high
       ·clear hbad
        go_wp2_with fail
        refine (failX g r 2 _).mono ?_
        rintro e9 w2 ⟨hb2,b,rfl,hx⟩
        refine ⟨rfl,?_⟩
        rw [HR.out,HTR.out]
        exact ⟨HOt.out.tb hb2,b,rfl,hx⟩
       ·have b3 : high < low := by omega
        try (exfalso;omega)
        all_goals clear hbad
        all_goals (go_wp2_with fail)
        all_goals (refine (failX g r 2 _).mono ?_;rintro e9 w2 ⟨hb2,b,rfl,hx⟩;refine ⟨rfl,?_⟩;rw [HR.out,HTR.out];exact ⟨HOt.out.tb hb2,b,rfl,hx⟩)
     ·have HTR := Lib.hid (HTE.out.trans (if_neg (by omega)))
      have b1 : ¬ high < 1 := by omega
      have b2 : ¬ 32 < high := by omega
      have b3 : ¬ high < low := by omega
      clear HTE HWF HWR HWT hdr hbad
      go_wp2_with fail
      refine bodyPost_ret (v := .tuple #[.int .i64 low,.int .i64 high]) (by simp [results,Tryz.results107,go_sem];try rfl) rfl ?_
      rw [HR.out,HTR.out]
      exact ⟨HOt.out,rfl,HAt.out⟩
    ·have HWR := Lib.hid (HWF.out.trans (if_neg hdr))
     have HTR := Lib.hid (HTE.out.trans (if_pos (.inl hdr)))
     rw [HWR.out]
     rintro e9 wt ⟨ho,b,rfl,hx⟩
     refine ⟨rfl,?_⟩
     rw [HR.out,HTR.out]
     exact ⟨HO4.out.tr ho,b,rfl,hx⟩
  ·have HR := Lib.hid (show R = timesE s low (.ok low q) by rw [HF.out,if_neg h44])
   rw [decide_eq_false h44] at HI
   have HI := Lib.hid HI
   have HRS := Lib.hid hq.2
   clear HF h44 hq
   go_wp2_with fail
   refine (HI.out).mono ?_
   rintro e9 w2 ⟨rfl,hb⟩
   have HO4 := Lib.hid (HO.out.tb hb);have HA4 := Lib.hid (HA.out.below hb)
   clear hb HI HO HA
   have HWT := Lib.hid (wantX g s q o 125 w2 HA4.out HRS.out (by omega) (by decide))
   have HWF := Lib.hid (show wantF s 125 q = if ch s q = 125 then .ok () (q + 1) else .no 2 q from rfl)
   have HTE := Lib.hid (show timesE s low (.ok low q) = if ch s q ≠ 125 ∨ low < 1 ∨ 32 < low ∨ low < low then .no 2 q else .ok (low,low) (q + 1) from rfl)
   have hrI : (q : Int) < 1000 := by have := HRS.out;omega
   generalize wantF s 125 q = WR at *
   generalize timesE s low (.ok low q) = TR at *
   generalize ch s q = dr at *
   go_wp2_with fail
   refine (HWT.out).mono ?_
   by_cases hdr : dr = 125
   ·have HWR := Lib.hid (HWF.out.trans (if_pos hdr))
    rw [HWR.out]
    rintro e9 wt ⟨ho,rfl,ha⟩
    have HOt := Lib.hid (HO4.out.tr ho);have HAt := Lib.hid ha
    clear ho ha
    by_cases hbad : low < 1 ∨ 32 < low ∨ low < low
    ·have HTR := Lib.hid (HTE.out.trans (if_pos (.inr hbad)))
     have z1 : wt.cell? ⟨g,1,none⟩ = some (.int .i64 ((q + 1 : Nat) : Int)) := HAt.out.cell 1 _ rfl
     rw [show ((q + 1 : Nat) : Int) = (q : Int) + 1 from by omega] at z1
     clear HTE HWF HWR HWT hdr
     have HBD := Lib.hid hbad
     by_cases b1 : low < 1
     ·clear hbad
      go_wp2_with fail
      refine (failX g q 2 _).mono ?_
      rintro e9 w2 ⟨hb2,b,rfl,hx⟩
      refine ⟨rfl,?_⟩
      rw [HR.out,HTR.out]
      exact ⟨HOt.out.tb hb2,b,rfl,hx⟩
     ·by_cases b2 : 32 < low
      ·clear hbad
       go_wp2_with fail
       refine (failX g q 2 _).mono ?_
       rintro e9 w2 ⟨hb2,b,rfl,hx⟩
       refine ⟨rfl,?_⟩
       rw [HR.out,HTR.out]
       exact ⟨HOt.out.tb hb2,b,rfl,hx⟩
      ·have b3 : low < low := by omega
       try (exfalso;omega)
       all_goals clear hbad
       all_goals (go_wp2_with fail)
       all_goals (refine (failX g q 2 _).mono ?_;rintro e9 w2 ⟨hb2,b,rfl,hx⟩;refine ⟨rfl,?_⟩;rw [HR.out,HTR.out];exact ⟨HOt.out.tb hb2,b,rfl,hx⟩)
    ·have HTR := Lib.hid (HTE.out.trans (if_neg (by omega)))
     have b1 : ¬ low < 1 := by omega
     have b2 : ¬ 32 < low := by omega
     have b3 : ¬ low < low := by omega
     clear HTE HWF HWR HWT hdr hbad
     go_wp2_with fail
     refine bodyPost_ret (v := .tuple #[.int .i64 low,.int .i64 low]) (by simp [results,Tryz.results107,go_sem];try rfl) rfl ?_
     rw [HR.out,HTR.out]
     exact ⟨HOt.out,rfl,HAt.out⟩
   ·have HWR := Lib.hid (HWF.out.trans (if_neg hdr))
    have HTR := Lib.hid (HTE.out.trans (if_pos (.inl hdr)))
    rw [HWR.out]
    rintro e9 wt ⟨ho,b,rfl,hx⟩
    refine ⟨rfl,?_⟩
    rw [HR.out,HTR.out]
    exact ⟨HO4.out.tr ho,b,rfl,hx⟩
end Go.Proofs.YtgjcibhhffkemaaGreatDoor
namespace Go.Proofs.YtgjcibhhffkemaaGreatDoor
open Go.RowKit Bt Go.Lib
def spcX : ByteArray := ⟨#[92,46,91,93,40,41,123,125,124,63,42,43,94,36,45,47]⟩
theorem spc_all : (List.range 256).all (fun n => (decide (indexByte spcX.data.toList n.toUInt8 < 0) == !decide ((n : Int) ∈ spc)) && decide (indexByte spcX.data.toList n.toUInt8 < 100)) = true := by kernel_rfl
theorem spc_ix (c : Int) (h0 : 0 ≤ c) (h1 : c < 256) : (indexByte spcX.data.toList c.toNat.toUInt8 < 0 ↔ c ∉ spc) := by
 have h := List.all_eq_true.1 spc_all c.toNat (List.mem_range.2 (by omega))
 rw [Bool.and_eq_true,beq_iff_eq,Int.toNat_of_nonneg h0] at h
 have h2 := h.1
 by_cases hc : c ∈ spc
 ·rw [decide_eq_true hc] at h2
  exact ⟨(fun h => by rw [decide_eq_true h] at h2;cases h2),fun h => absurd hc h⟩
 ·rw [decide_eq_false hc] at h2
  exact ⟨fun _ => hc,fun _ => of_decide_eq_true h2⟩
theorem run_ixs (s : ByteArray) (c : Int) (w : World) : (callFunc 93 #[.string s,.int .u8 c]).run Tryz.prog w = .ok (.value (.int .i64 (indexByte s.data.toList c.toNat.toUInt8))) w := by
 rw [run_callFunc_extern (P := Tryz.prog) (f := 93) (fn := Tryz.f93) (e := Extern.BytealgIndexByte.indexByte) (by kernel_rfl) (by kernel_rfl) (by kernel_rfl) (by kernel_rfl) (by kernel_rfl),run_indexByteString]
 rfl
theorem ixL (s : ByteArray) (c : Int) (w : World) : Calls Tryz.prog 81 #[.string s,.int .u8 c] w fun e w' => e = .returned (.int .i64 (indexByte s.data.toList c.toNat.toUInt8)) ∧ w' = w := by
 have hd := run_ixs s c w
 generalize indexByte s.data.toList c.toNat.toUInt8 = r at *
 go_enter Tryz.func81,Tryz.ntmps81
 go_wp2
 go_returns
 exact ⟨rfl,rfl⟩
theorem ixS (s : ByteArray) (c : Int) (w : World) : Calls Tryz.prog 59 #[.string s,.int .u8 c] w fun e w' => e = .returned (.int .i64 (indexByte s.data.toList c.toNat.toUInt8)) ∧ w' = w := by
 have hd := Lib.hid (ixL s c w)
 generalize indexByte s.data.toList c.toNat.toUInt8 = r at *
 go_enter Tryz.func59,Tryz.ntmps59
 go_wp2_with fail
 refine (hd.out).mono ?_
 rintro e9 w9 ⟨rfl,hw9⟩;subst hw9
 go_wp2_with fail
 go_returns
 exact ⟨rfl,rfl⟩
set_option maxRecDepth 100000 in
set_option maxHeartbeats 800000 in
theorem escX (g : Nat) (s : ByteArray) (p o : Nat) (w : World) (h : AtG w g 94 (rxr s p o)) (hp : p ≤ s.size) (hs : s.size ≤ 900) :
  Calls Tryz.prog 124 #[.pointer (some ⟨g,0,none⟩)] w (RxP g s o w (escF s p) (fun n => .int .u8 (n : Int))) := by
 by_cases hlt : p < s.size
 ·have HN := Lib.hid (nextX_in g s p o w h hlt (by omega))
  have HF := Lib.hid (show escF s p = if ch s p = 110 then .ok 10 (p + 1) else if ch s p = 116 then .ok 9 (p + 1) else if ch s p ∈ spc then .ok (ch s p).toNat (p + 1) else .no 2 p from rfl)
  have hpI : (p : Int) < 1000 := by omega
  have hl0 := ch_pos hlt
  have hl2 := (ch_lt s p).2
  generalize escF s p = R at *
  generalize ch s p = d at *
  have HIX := Lib.hid (ixS spcX d)
  have HSP := Lib.hid (spc_ix d hl0 hl2)
  generalize indexByte spcX.data.toList d.toNat.toUInt8 = ix at *
  clear h
  go_enter Tryz.func124,Tryz.ntmps124
  go_wp2_with fail
  refine (HN.out).mono ?_
  rintro e9 w1 ⟨rfl,ho,ha⟩
  have HO := Lib.hid ho;have HA := Lib.hid ha
  clear ho ha HN
  by_cases h1 : d = 110
  ·have HR := Lib.hid (HF.out.trans (if_pos h1))
   subst h1
   clear HF HIX HSP
   go_wp2_with fail
   refine bodyPost_ret (v := .int .u8 10) (by simp [results,Tryz.results124,go_sem];try rfl) rfl ?_
   rw [HR.out]
   exact ⟨HO.out,rfl,HA.out⟩
  ·have HF1 := Lib.hid (HF.out.trans (if_neg h1))
   have e1 : (d == 110) = false := by rw [beq_eq_false_iff_ne];exact h1
   by_cases h2 : d = 116
   ·have HR := Lib.hid (HF1.out.trans (if_pos h2))
    subst h2
    clear HF HF1 HIX HSP
    go_wp2_with fail
    refine bodyPost_ret (v := .int .u8 9) (by simp [results,Tryz.results124,go_sem];try rfl) rfl ?_
    rw [HR.out]
    exact ⟨HO.out,rfl,HA.out⟩
   ·have HF2 := Lib.hid (HF1.out.trans (if_neg h2))
    have e2 : (d == 116) = false := by rw [beq_eq_false_iff_ne];exact h2
    clear HF HF1
    go_wp2_with fail
    refine (HIX.out _).mono ?_
    rintro e9 w9 ⟨rfl,hw9⟩;subst hw9
    by_cases h3 : d ∈ spc
    ·have HR := Lib.hid (HF2.out.trans (if_pos h3))
     have h4 : ¬ ix < 0 := fun h => (HSP.out.1 h) h3
     clear HF2 HSP h3
     go_wp2_with fail
     refine bodyPost_ret (v := .int .u8 d) (by simp [results,Tryz.results124,go_sem];try rfl) rfl ?_
     rw [HR.out]
     refine ⟨HO.out,?_,HA.out⟩
     show Ending.returned (.int .u8 d) = Ending.returned (.int .u8 ((d.toNat : Nat) : Int))
     rw [Int.toNat_of_nonneg hl0]
    ·have HR := Lib.hid (HF2.out.trans (if_neg h3))
     have h4 : ix < 0 := HSP.out.2 h3
     have z1 : w9.cell? ⟨g,1,none⟩ = some (.int .i64 ((p + 1 : Nat) : Int)) := HA.out.cell 1 _ rfl
     rw [show ((p + 1 : Nat) : Int) = (p : Int) + 1 from by omega] at z1
     clear HF2 HSP h3
     go_wp2_with fail
     refine (failX g p 2 _).mono ?_
     rintro e9 w2 ⟨hb2,b,rfl,hx⟩
     refine ⟨rfl,?_⟩
     rw [HR.out]
     exact ⟨HO.out.tb hb2,b,rfl,hx⟩
 ·have hpe : p = s.size := by omega
  have HN := Lib.hid (nextX_end g s p o w h hpe)
  have HR := Lib.hid (show escF s p = .no 2 p from by unfold escF;rw [ch_end (by omega),if_neg (by decide),if_neg (by decide),if_neg (by decide)])
  clear h hpe hlt hp
  generalize escF s p = R at *
  go_enter Tryz.func124,Tryz.ntmps124
  go_wp2_with fail
  refine (HN.out).mono ?_
  rintro e9 w1 ⟨ho,b,rfl,hx⟩
  refine ⟨rfl,?_⟩
  rw [HR.out]
  exact ⟨ho,b,rfl,hx⟩
set_option maxRecDepth 100000 in
set_option maxHeartbeats 800000 in
theorem memX (g : Nat) (s : ByteArray) (p o : Nat) (w : World) (h : AtG w g 94 (rxr s p o)) (hp : p ≤ s.size) (hs : s.size ≤ 900) :
  Calls Tryz.prog 136 #[.pointer (some ⟨g,0,none⟩)] w (RxP g s o w (memberF s p) (fun n => .int .u8 (n : Int))) := by
 by_cases hlt : p < s.size
 ·have HN := Lib.hid (nextX_in g s p o w h hlt (by omega))
  have HES := Lib.hid (fun (w1 : World) (h1 : AtG w1 g 94 (rxr s ((p + 1 : Nat) : Int) o)) => escX g s (p + 1) o w1 h1 hlt hs)
  have hpI : (p : Int) < 1000 := by omega
  have hl0 := ch_pos hlt
  have HF := Lib.hid (show memberF s p = if ch s p = 93 then .no 2 p else if ch s p = 92 then escF s (p + 1) else .ok (ch s p).toNat (p + 1) from by unfold memberF;rw [if_neg (by omega)])
  generalize memberF s p = R at *
  generalize escF s (p + 1) = E at *
  generalize ch s p = d at *
  clear h
  go_enter Tryz.func136,Tryz.ntmps136
  go_wp2_with fail
  refine (HN.out).mono ?_
  rintro e9 w1 ⟨rfl,ho,ha⟩
  have HO := Lib.hid ho;have HA := Lib.hid ha
  clear ho ha HN
  by_cases h1 : d = 93
  ·have HR := Lib.hid (HF.out.trans (if_pos h1))
   have z1 : w1.cell? ⟨g,1,none⟩ = some (.int .i64 ((p + 1 : Nat) : Int)) := HA.out.cell 1 _ rfl
   rw [show ((p + 1 : Nat) : Int) = (p : Int) + 1 from by omega] at z1
   subst h1
   clear HF HES
   go_wp2_with fail
   refine (failX g p 2 _).mono ?_
   rintro e9 w2 ⟨hb2,b,rfl,hx⟩
   refine ⟨rfl,?_⟩
   rw [HR.out]
   exact ⟨HO.out.tb hb2,b,rfl,hx⟩
  ·have HF1 := Lib.hid (HF.out.trans (if_neg h1))
   have e1 : (d == 93) = false := by rw [beq_eq_false_iff_ne];exact h1
   by_cases h2 : d = 92
   ·have HR := Lib.hid (HF1.out.trans (if_pos h2))
    have HEC := Lib.hid (HES.out w1 HA.out)
    subst h2
    clear HF HF1 HES
    go_wp2_with fail
    refine (HEC.out).mono ?_
    cases E with
    | no c x =>
     rintro e9 w2 ⟨ho,b,rfl,hx⟩
     refine ⟨rfl,?_⟩
     rw [HR.out]
     exact ⟨HO.out.tr ho,b,rfl,hx⟩
    | ok a q =>
     rintro e9 w2 ⟨ho,rfl,ha⟩
     have HO2 := Lib.hid (HO.out.tr ho);have HA2 := Lib.hid ha
     clear ho ha HEC
     go_wp2_with fail
     refine bodyPost_ret (v := .int .u8 (a : Int)) (by simp [results,Tryz.results136,go_sem];try rfl) rfl ?_
     rw [HR.out]
     exact ⟨HO2.out,rfl,HA2.out⟩
   ·have HR := Lib.hid (HF1.out.trans (if_neg h2))
    have e2 : (d == 92) = false := by rw [beq_eq_false_iff_ne];exact h2
    clear HF HF1 HES
    go_wp2_with fail
    refine bodyPost_ret (v := .int .u8 d) (by simp [results,Tryz.results136,go_sem];try rfl) rfl ?_
    rw [HR.out]
    refine ⟨HO.out,?_,HA.out⟩
    show Ending.returned (.int .u8 d) = Ending.returned (.int .u8 ((d.toNat : Nat) : Int))
    rw [Int.toNat_of_nonneg hl0]
 ·have hpe : p = s.size := by omega
  have HN := Lib.hid (nextX_end g s p o w h hpe)
  have HR := Lib.hid (show memberF s p = .no 2 p from by unfold memberF;rw [if_pos (by rw [ch_end (by omega)];decide)])
  clear h hpe hlt hp
  generalize memberF s p = R at *
  go_enter Tryz.func136,Tryz.ntmps136
  go_wp2_with fail
  refine (HN.out).mono ?_
  rintro e9 w1 ⟨ho,b,rfl,hx⟩
  refine ⟨rfl,?_⟩
  rw [HR.out]
  exact ⟨ho,b,rfl,hx⟩
end Go.Proofs.YtgjcibhhffkemaaGreatDoor
namespace Go.Proofs.YtgjcibhhffkemaaGreatDoor
open Go.RowKit Bt
theorem rangeP (a b : Nat) (w : World) (ha : a < 256) (hb : b < 256) :
  Calls Tryz.prog 132 #[.int .u8 (a : Int),.int .u8 (b : Int)] w fun e w' => e = .returned (setOf (spanF a (b + 1))) ∧ Below w.heap.size w w' := by
 have := range_any (a : Int) (b : Int) w (by omega) (by omega) (by omega) (by omega)
 rw [Int.toNat_natCast,Int.toNat_natCast] at this
 exact this
theorem ofP (w : World) (g : Nat) (c : Int) (h0 : 0 ≤ c) (h1 : c < 256) (h : AtG w g 5 #[.int .u8 c]) :
  Calls Tryz.prog 122 #[.slice (some ⟨g,0,none⟩) 1 1] w fun e w' => e = .returned (setOf fun y => y == c.toNat) ∧ Below w.heap.size w w' := by
 have hr : RdB w (.slice (some ⟨g,0,none⟩) 1 1) [c] := rdB_cells [c] h (Nat.le_refl _) (by simp) (by intro x hx;simp at hx;subst hx;omega)
 have := of_any _ _ w hr
 rw [show setOf (memF [c]) = setOf (fun y => y == c.toNat) from setOf_ext fun x hx => by
  unfold memF;rw [Bool.eq_iff_iff];simp;omega] at this
 exact this
theorem ofPv {w : World} {v : Value} {B : Nat} {c : Int} (h0 : 0 ≤ c) (h1 : c < 256) (h : ∃ kk,v = .slice (some ⟨kk,0,none⟩) 1 1 ∧ AtG w kk 5 #[.int .u8 c] ∧ kk ≠ B) :
  Calls Tryz.prog 122 #[v] w fun e w' => e = .returned (setOf fun y => y == c.toNat) ∧ Below w.heap.size w w' := by
 obtain ⟨kk,rfl,ha,_⟩ := h
 exact ofP w kk c h0 h1 ha
set_option maxRecDepth 100000 in
set_option maxHeartbeats 1600000 in
theorem wideX (c : Int) (w : World) : Calls Tryz.prog 123 #[.int .u8 c] w fun e w' => e = .returned (wideV c) ∧ Below w.heap.size w w' := by
 have HD := Lib.hid (fun w => rangeP 48 57 w (by decide) (by decide))
 rw [show setOf (spanF 48 (57 + 1)) = setOf digF from rfl] at HD
 have HA := Lib.hid (AtG.new w 38 (setC 0 0 0 0))
 have HB := Lib.hid ((Below.refl w.heap.size w).alloc (Nat.le_refl _) (.cells (setC 0 0 0 0) 38))
 by_cases h1 : c = 100
 ·subst h1
  go_enter Tryz.func123,Tryz.ntmps123
  go_wp2_with fail
  refine (HD.out _).mono ?_
  rintro e9 w1 ⟨rfl,hw⟩
  have HA1 := Lib.hid (HA.out.below hw)
  have HB1 := Lib.hid (HB.out.trans (hw.mono HB.out.size))
  clear hw HA HB
  unfold setOf
  go_upto_region 2 with (fail)
  obtain ⟨W,hW⟩ : ∃ W : World,W = w1.alloc (.cells (cellsOf digF) 38) := ⟨_,rfl⟩
  have hW' : w1.alloc (.cells #[.int .u64 ((wd digF 0 : Nat) : Int),.int .u64 ((wd digF 1 : Nat) : Int),.int .u64 ((wd digF 2 : Nat) : Int),.int .u64 ((wd digF 3 : Nat) : Int)] 38) = W := hW.symm
  rw [hW']
  have HA2 : Hid (AtG W w.heap.size 38 (setC 0 0 0 0)) := Lib.hid (by rw [hW];exact HA1.out.alloc _)
  have HG2 : Hid (AtG W w1.heap.size 38 (cellsOf digF)) := Lib.hid (by rw [hW];exact AtG.new _ _ _)
  have HB2 : Hid (Below w.heap.size w W) := Lib.hid (by rw [hW];exact HB1.out.alloc HB1.out.size _)
  have hne : ¬ w1.heap.size = w.heap.size := by have := HA1.out.lt;omega
  clear hW hW' HA1 HB1
  have z0 : W.cell? ⟨w1.heap.size,0,none⟩ = some (.int .u64 ((wd digF 0 : Nat) : Int)) := HG2.out.cell 0 _ rfl
  have z1 : W.cell? ⟨w1.heap.size,1,none⟩ = some (.int .u64 ((wd digF 1 : Nat) : Int)) := HG2.out.cell 1 _ rfl
  have z2 : W.cell? ⟨w1.heap.size,2,none⟩ = some (.int .u64 ((wd digF 2 : Nat) : Int)) := HG2.out.cell 2 _ rfl
  have z3 : W.cell? ⟨w1.heap.size,3,none⟩ = some (.int .u64 ((wd digF 3 : Nat) : Int)) := HG2.out.cell 3 _ rfl
  have d0 := (HA2.out).cell 0 _ rfl;have d1 := (HA2.out).cell 1 _ rfl;have d2 := (HA2.out).cell 2 _ rfl;have d3 := (HA2.out).cell 3 _ rfl
  have f0 := (HA2.out).frozen 0;have f1 := (HA2.out).frozen 1;have f2 := (HA2.out).frozen 2;have f3 := (HA2.out).frozen 3
  go_wp2_with fail
  refine bodyPost_ret (v := wideV 100) (by simp [results,Tryz.results123,go_sem,d0,d1,d2,d3];try rfl) rfl ⟨rfl,?_⟩
  exact below_set4 HB2.out _ (Nat.le_refl _) _ _ _ _
 by_cases h2 : c = 119
 ·subst h2
  have HF1 := Lib.hid (fun w => rangeP 97 122 w (by decide) (by decide))
  have HF2 := Lib.hid (fun w => rangeP 65 90 w (by decide) (by decide))
  go_enter Tryz.func123,Tryz.ntmps123
  go_wp2_with fail
  refine (HD.out _).mono ?_
  rintro e9 w1 ⟨rfl,hw⟩
  have HA1 := Lib.hid (HA.out.below hw)
  have HB1 := Lib.hid (HB.out.trans (hw.mono HB.out.size))
  clear hw HA HB
  unfold setOf
  go_upto_region 2 with (fail)
  obtain ⟨W,hW⟩ : ∃ W : World,W = w1.alloc (.cells (cellsOf digF) 38) := ⟨_,rfl⟩
  have hW' : w1.alloc (.cells #[.int .u64 ((wd digF 0 : Nat) : Int),.int .u64 ((wd digF 1 : Nat) : Int),.int .u64 ((wd digF 2 : Nat) : Int),.int .u64 ((wd digF 3 : Nat) : Int)] 38) = W := hW.symm
  rw [hW']
  have HA2 : Hid (AtG W w.heap.size 38 (setC 0 0 0 0)) := Lib.hid (by rw [hW];exact HA1.out.alloc _)
  have HG2 : Hid (AtG W w1.heap.size 38 (cellsOf digF)) := Lib.hid (by rw [hW];exact AtG.new _ _ _)
  have HB2 : Hid (Below w.heap.size w W) := Lib.hid (by rw [hW];exact HB1.out.alloc HB1.out.size _)
  have hne : w1.heap.size ≠ w.heap.size := by have := HA1.out.lt;omega
  clear hW hW' HA1 HB1
  go_upto_region 6 with (fail)
  refine RgX.start (by kernel_rfl) [(8,fun w5 w6 => ∃ f,w6 = putS w5 w.heap.size f)] [⟨fun w5 => AtG w5 w1.heap.size 38 (cellsOf digF) ∧ Below w.heap.size w w5,none⟩,⟨fun w5 => AtG w5 w.heap.size 38 (setC 0 0 0 0),some 8⟩] ⟨⟨fun _ _ h hb => ⟨h.1.below hb,h.2.trans (hb.mono h.2.size)⟩,⟨fun _ _ _ _ => (fun w5 w6 h he => by obtain ⟨f,rfl⟩ := he;exact ⟨putS_far h.1 hne _,putS_below h.2 (Nat.le_refl _) _⟩),trivial⟩⟩,⟨fun _ _ h hb => h.below hb,⟨fun _ h _ _ => absurd rfl h,trivial⟩⟩,trivial⟩ (by kernel_rfl) (by kernel_rfl) ⟨⟨HG2.out.drew,HB2.out.drew⟩,HA2.out.drew,trivial⟩ ?_
  show RgX.Build _ _ _ _ _ _ 0 [_,_,_,_,_,_,_,_,_,_] []
  refine RgX.cp 1 rfl rfl (by intro ax wx hk Kx hK;have k4 := hk.base 4 _ rfl rfl;have hg := hk.fact 0 0 _ rfl rfl;(try dsimp only at hg);have ha := hk.fact 1 1 _ rfl rfl;(try dsimp only at ha);clear hk;have z0 := hg.1.cell 0 _ rfl;have z1 := hg.1.cell 1 _ rfl;have z2 := hg.1.cell 2 _ rfl;have z3 := hg.1.cell 3 _ rfl;go_simp;exact hK _ _ (fun h => by cases h) (fun _ _ => rfl) (Below.refl _ _)) ?_
  refine RgX.build_cons (m := 2) (r := (⟨fun v _ w5 => ∃ kk,v = .slice (some ⟨kk,0,none⟩) 1 1 ∧ AtG w5 kk 5 #[.int .u8 95] ∧ kk ≠ w.heap.size,none,none⟩ : RgX.Rl)) (RgX.one_plain rfl (by intro ax wx hk Kx hK;have hg := hk.fact 0 0 _ rfl rfl;(try dsimp only at hg);have ha := hk.fact 1 1 _ rfl rfl;(try dsimp only at ha);clear hk;(go_simp;exact hK _ _ (fun h => by cases h) (fun u _ => ⟨wx.heap.size,rfl,AtG.new _ _ _,by have := ha.lt;omega⟩) ((Below.refl _ _).alloc (Nat.le_refl _) _)))) ?_ rfl (RgX.keep_r (fun _ _ _ _ h hb => by obtain ⟨kk,h1,h2,h3⟩ := h;exact ⟨kk,h1,h2.below hb,h3⟩) (fun _ _ => ⟨fun _ _ _ _ => (fun w5 w6 h he => by obtain ⟨f,rfl⟩ := he;obtain ⟨kk,h1,h2,h3⟩ := h;exact ⟨kk,h1,putS_far h2 h3 _,h3⟩),trivial⟩)) (fun _ h => by cases h)
  refine RgX.cp 3 rfl rfl (by intro ax wx hk Kx hK;obtain ⟨v13,k13,h13⟩ := hk.dep 0 1 13 _ rfl rfl rfl;(first | (replace h13 := h13 9 undef rfl rfl;first | (cases (h13 : v13 = _)) | (obtain ⟨rfl,h13⟩ := h13) | skip) | skip);have hg := hk.fact 0 0 _ rfl rfl;(try dsimp only at hg);have ha := hk.fact 1 1 _ rfl rfl;(try dsimp only at ha);clear hk;go_simp;refine (ofPv (by decide) (by decide) h13).mono ?_;rintro e w' ⟨rfl,hb⟩;refine hK _ _ (fun h => by cases h) (fun _ _ => ?_) hb;apply RgX.mk) ?_
  refine RgX.cp 4 rfl rfl (by intro ax wx hk Kx hK;have k12 := hk.e 0 0 12 rfl rfl rfl;have k14 := hk.e 0 2 14 rfl rfl rfl;have hg := hk.fact 0 0 _ rfl rfl;(try dsimp only at hg);have ha := hk.fact 1 1 _ rfl rfl;(try dsimp only at ha);clear hk;go_simp;refine (or_any digF (fun y => y == 95) _).mono ?_;rintro e w' ⟨rfl,hb⟩;refine hK _ _ (fun h => by cases h) (fun _ _ => ?_) hb;apply RgX.mk) ?_
  refine RgX.cp 5 rfl rfl (by intro ax wx hk Kx hK;have hg := hk.fact 0 0 _ rfl rfl;(try dsimp only at hg);have ha := hk.fact 1 1 _ rfl rfl;(try dsimp only at ha);clear hk;go_simp;refine (HF1.out _).mono ?_;rintro e w' ⟨rfl,hb⟩;refine hK _ _ (fun h => by cases h) (fun _ _ => ?_) hb;apply RgX.mk) ?_
  refine RgX.cp 6 rfl rfl (by intro ax wx hk Kx hK;have hg := hk.fact 0 0 _ rfl rfl;(try dsimp only at hg);have ha := hk.fact 1 1 _ rfl rfl;(try dsimp only at ha);clear hk;go_simp;refine (HF2.out _).mono ?_;rintro e w' ⟨rfl,hb⟩;refine hK _ _ (fun h => by cases h) (fun _ _ => ?_) hb;apply RgX.mk) ?_
  refine RgX.cp 7 rfl rfl (by intro ax wx hk Kx hK;have k16 := hk.e 0 4 16 rfl rfl rfl;have k17 := hk.e 0 5 17 rfl rfl rfl;have hg := hk.fact 0 0 _ rfl rfl;(try dsimp only at hg);have ha := hk.fact 1 1 _ rfl rfl;(try dsimp only at ha);clear hk;go_simp;refine (or_any (spanF 97 123) (spanF 65 91) _).mono ?_;rintro e w' ⟨rfl,hb⟩;refine hK _ _ (fun h => by cases h) (fun _ _ => ?_) hb;apply RgX.mk) ?_
  refine RgX.cp 8 rfl rfl (by intro ax wx hk Kx hK;have k15 := hk.e 0 3 15 rfl rfl rfl;have k18 := hk.e 0 6 18 rfl rfl rfl;have hg := hk.fact 0 0 _ rfl rfl;(try dsimp only at hg);have ha := hk.fact 1 1 _ rfl rfl;(try dsimp only at ha);clear hk;go_simp;refine (or_any (fun y => digF y || y == 95) (fun y => spanF 97 123 y || spanF 65 91 y) _).mono ?_;rintro e w' ⟨rfl,hb⟩;refine hK _ _ (fun h => by cases h) (fun _ _ => ?_) hb;apply RgX.mk) ?_
  refine RgX.build_cons (m := 9) (r := (⟨fun _ _ w5 => AtG w5 w.heap.size 38 (cellsOf wordF),none,none⟩ : RgX.Rl)) (RgX.one_plain rfl (by intro ax wx hk Kx hK;have k2 := hk.base 2 _ rfl rfl;have k19 := hk.e 0 7 19 rfl rfl rfl;have hg := hk.fact 0 0 _ rfl rfl;(try dsimp only at hg);have ha := hk.fact 1 0 _ rfl rfl;(try dsimp only at ha);clear hk;(have d0 := ha.cell 0 _ rfl;have d1 := ha.cell 1 _ rfl;have d2 := ha.cell 2 _ rfl;have d3 := ha.cell 3 _ rfl;have f0 := ha.frozen 0;have f1 := ha.frozen 1;have f2 := ha.frozen 2;have f3 := ha.frozen 3;unfold setOf at k19;go_simp;exact hK undef _ (fun _ => rfl) (fun u hu => putS_at ha wordF) ⟨wordF,rfl⟩))) ?_ rfl (RgX.keep_r (fun _ _ _ _ h hb => h.below hb) (fun _ _ => ⟨fun h _ _ _ => absurd rfl h,trivial⟩)) (fun _ h => by cases h)
  refine RgX.cp 10 rfl rfl (by intro ax wx hk Kx hK;have hg := hk.fact 0 0 _ rfl rfl;(try dsimp only at hg);clear hk;go_simp;exact hK _ _ (fun h => by cases h) (fun _ _ => rfl) (Below.refl _ _)) ?_
  refine RgX.build_end fun wx hj => ?_
  have hg := hj 0 _ rfl rfl
  clear hj
  refine RgX.fin_eq rfl ?_
  first | refine RgX.fin_eq rfl ?_ | refine RgX.fin_any rfl fun v13 h13 => ?_
  iterate 6 refine RgX.fin_eq rfl ?_
  refine RgX.fin_none rfl fun s8 => ?_
  refine RgX.fin_eq rfl ?_
  refine RgX.fin_nil ?_
  simp only [List.set_cons_zero,List.set_cons_succ]
  have hA := s8 rfl undef rfl
  have hB := hg.2
  have d0 := (hA).cell 0 _ rfl;have d1 := (hA).cell 1 _ rfl;have d2 := (hA).cell 2 _ rfl;have d3 := (hA).cell 3 _ rfl
  have f0 := (hA).frozen 0;have f1 := (hA).frozen 1;have f2 := (hA).frozen 2;have f3 := (hA).frozen 3
  clear s8 hg
  go_wp2_with fail
  refine bodyPost_ret (v := wideV 119) (by simp [results,Tryz.results123,go_sem,d0,d1,d2,d3];try rfl) rfl ⟨rfl,?_⟩
  exact hB
 ·have e1 : (c == 100) = false := by rw [beq_eq_false_iff_ne];exact h1
  have e2 : (c == 119) = false := by rw [beq_eq_false_iff_ne];exact h2
  have hv : wideV c = .tuple #[setV 0 0 0 0,.bool false] := by
   have : wideF c = none := by unfold wideF;rw [if_neg h1,if_neg h2]
   unfold wideV;rw [this];simp only [setOf_emp]
  have HV := Lib.hid hv
  generalize wideV c = WV at *
  clear h1 h2 hv
  go_enter Tryz.func123,Tryz.ntmps123
  go_wp2_with fail
  refine (HD.out _).mono ?_
  rintro e9 w1 ⟨rfl,hw⟩
  have HA1 := Lib.hid (HA.out.below hw)
  have HB1 := Lib.hid (HB.out.trans (hw.mono HB.out.size))
  clear hw HA HB
  unfold setOf
  go_upto_region 2 with (fail)
  obtain ⟨W,hW⟩ : ∃ W : World,W = w1.alloc (.cells (cellsOf digF) 38) := ⟨_,rfl⟩
  have hW' : w1.alloc (.cells #[.int .u64 ((wd digF 0 : Nat) : Int),.int .u64 ((wd digF 1 : Nat) : Int),.int .u64 ((wd digF 2 : Nat) : Int),.int .u64 ((wd digF 3 : Nat) : Int)] 38) = W := hW.symm
  rw [hW']
  have HA2 : Hid (AtG W w.heap.size 38 (setC 0 0 0 0)) := Lib.hid (by rw [hW];exact HA1.out.alloc _)
  have HB2 : Hid (Below w.heap.size w W) := Lib.hid (by rw [hW];exact HB1.out.alloc HB1.out.size _)
  clear hW hW' HA1 HB1
  have d0 := (HA2.out).cell 0 _ rfl;have d1 := (HA2.out).cell 1 _ rfl;have d2 := (HA2.out).cell 2 _ rfl;have d3 := (HA2.out).cell 3 _ rfl
  have f0 := (HA2.out).frozen 0;have f1 := (HA2.out).frozen 1;have f2 := (HA2.out).frozen 2;have f3 := (HA2.out).frozen 3
  go_wp2_with fail
  refine bodyPost_ret (v := WV) (by rw [HV.out];simp [results,Tryz.results123,go_sem,d0,d1,d2,d3];try rfl) rfl ⟨rfl,?_⟩
  exact below_set4 HB2.out _ (Nat.le_refl _) _ _ _ _
end Go.Proofs.YtgjcibhhffkemaaGreatDoor
namespace Go.Proofs.YtgjcibhhffkemaaGreatDoor
open Go.RowKit Bt
theorem set_one (n : Nat) : setOf (fun y => y == n) = setOf (spanF n (n + 1)) := setOf_ext fun x _ => by
 unfold spanF;rw [Bool.eq_iff_iff];simp;omega
set_option maxRecDepth 100000 in
set_option maxHeartbeats 1600000 in
theorem itemX_no (g : Nat) (s : ByteArray) (p o : Nat) (w : World) (h : AtG w g 94 (rxr s p o)) (hp : p ≤ s.size) (hs : s.size ≤ 900) (h92 : ¬ ch s p = 92) :
  Calls Tryz.prog 131 #[.pointer (some ⟨g,0,none⟩)] w (RxP g s o w (itemF s p) (fun f => setOf f)) := by
 have HS := Lib.hid hs;have HPS := Lib.hid hp
 have HG := Lib.hid (show ¬ w.heap.size = g by have := h.lt;omega)
 have HA0 := Lib.hid (h.alloc (.cells (setC 0 0 0 0) 38))
 have HZ0 := Lib.hid (AtG.new w 38 (setC 0 0 0 0))
 have HO0 := Lib.hid ((Only.refl (S := fun k => k = g) w).al (.cells (setC 0 0 0 0) 38))
 have hwp : IntKind.i64.wrap ((p : Int) + 1) = (p : Int) + 1 := by rw [IntKind.wrap_i64];omega
 have HX := Lib.hid (show itemF s p = itemE s (memberF s p) from if_neg (fun h => h92 h.1))
 have HIS := Lib.hid (fun (w1 : World) (h1 : AtG w1 g 94 (rxr s p o)) => isX g s p o 92 w1 h1 hp (by decide))
 rw [decide_eq_false h92] at HIS
 have hnI : True := trivial
 generalize itemF s p = R at *
 clear h92 h hp
 go_enter Tryz.func131,Tryz.ntmps131
 go_upto_region 1 with (fail)
 have HPRE : Hid (∀ wx : World,(fun w' => AtG w' g 94 (rxr s p o) ∧ AtG w' w.heap.size 38 (setC 0 0 0 0) ∧ Only (fun k => k = g) w w') wx → wx.cell? ⟨g,1,none⟩ = some (.int .i64 (p : Int)) ∧ wx.cell? ⟨g,0,none⟩ = some (.string s)) := Lib.hid (by intro wx hj;have z1 : wx.cell? ⟨g,1,none⟩ = some (.int .i64 (p : Int)) := hj.1.cell 1 _ rfl;have z0 : wx.cell? ⟨g,0,none⟩ = some (.string s) := hj.1.cell 0 _ rfl;exact ⟨z1,z0⟩)
 refine Rg.wp_region_each (by kernel_rfl) (fun w' => AtG w' g 94 (rxr s p o) ∧ AtG w' w.heap.size 38 (setC 0 0 0 0) ∧ Only (fun k => k = g) w w') (fun w1 w2 h hb => ⟨h.1.below hb,h.2.1.below hb,h.2.2.tb hb⟩) (by kernel_rfl) (by kernel_rfl) (⟨HA0.out,HZ0.out,HO0.out⟩) ?_
 show Rg.Build _ _ _ _ _ 0 [_,_,_,_,_,_,_,_,_,_,_,_,_,_,_] []
 refine Rg.cpe 1 rfl rfl (by intro ax wx hk Kx hK;have k0 := hk.base 0 _ rfl rfl;have hj := hk.j;clear hk;obtain ⟨z1,z0⟩ := HPRE.out _ hj;go_simp;exact Rg.ok hK) ?_
 refine Rg.cpe 2 rfl rfl (by intro ax wx hk Kx hK;have k7 := hk.e 0 7 rfl rfl rfl;have hj := hk.j;clear hk;obtain ⟨z1,z0⟩ := HPRE.out _ hj;go_simp;refine (HIS.out _ hj.1).mono ?_;rintro e w' ⟨rfl,hb⟩;refine hK _ _ ?_ hb;apply Rg.mk) ?_
 refine Rg.cpe 3 rfl rfl (by intro ax wx hk Kx hK;have k8 := hk.e 1 8 rfl rfl rfl;have hj := hk.j;clear hk;obtain ⟨z1,z0⟩ := HPRE.out _ hj;go_simp;exact Rg.ok hK) ?_
 refine Rg.cn 4 2 9 true rfl rfl rfl rfl rfl ?_
 refine Rg.cn 5 2 9 true rfl rfl rfl rfl rfl ?_
 refine Rg.cn 6 2 9 true rfl rfl rfl rfl rfl ?_
 refine Rg.cn 7 2 9 true rfl rfl rfl rfl rfl ?_
 refine Rg.cn 8 2 9 true rfl rfl rfl rfl rfl ?_
 refine Rg.cn 9 2 9 true rfl rfl rfl rfl rfl ?_
 refine Rg.cn 10 2 9 true rfl rfl rfl rfl rfl ?_
 refine Rg.cn 11 2 9 true rfl rfl rfl rfl rfl ?_
 refine Rg.cn 12 2 9 true rfl rfl rfl rfl rfl ?_
 refine Rg.cn 13 2 9 true rfl rfl rfl rfl rfl ?_
 refine Rg.cn 14 2 9 true rfl rfl rfl rfl rfl ?_
 refine Rg.cpe 15 rfl rfl (by intro ax wx hk Kx hK;have k9 := hk.e 2 9 rfl rfl rfl;have k20 := hk.e 13 20 rfl rfl rfl;clear hk;go_simp;exact Rg.ok hK) ?_
 refine Rg.build_end fun wx hj => ?_
 iterate 15 refine Rg.fin_eq rfl ?_
 refine Rg.fin_nil ?_
 simp only [List.set_cons_zero,List.set_cons_succ]
 have HA1 := Lib.hid hj.1;have HZ1 := Lib.hid hj.2.1;have HO1 := Lib.hid hj.2.2
 clear hj
 obtain ⟨wA,hwA⟩ : ∃ wA : World,wA = wx := ⟨_,rfl⟩
 rw [← hwA] at HA1 HZ1 HO1 ⊢
 clear hwA
 have HM1 := Lib.hid (memX g s p o wA (HA1.out) HPS.out HS.out)
 go_wp2_with fail
 refine (HM1.out).mono ?_
 cases hmf : memberF s p with
 | no c x =>
  rw [hmf] at HX
  have HR := Lib.hid (HX.out.trans (show itemE s (.no c x) = .no c x from rfl))
  rintro e9 w2 ⟨ho,b,rfl,hx⟩
  refine ⟨rfl,?_⟩
  rw [HR.out]
  exact ⟨HO1.out.tr ho,b,rfl,hx⟩
 | ok lo q =>
  rw [hmf] at HX
  have hin := memberF_in s p HPS.out
  rw [hmf] at hin
  have hlo : lo < 256 := hin.2 lo q rfl
  have hq : p + 1 ≤ q ∧ q ≤ s.size := hin.1
  rintro e9 w2 ⟨ho,rfl,ha⟩
  have HO2 := Lib.hid (HO1.out.tr ho);have HA2 := Lib.hid ha;have HZ2 := Lib.hid (HZ1.out.only ho HG.out)
  have HI := isX g s q o 45 w2 ha hq.2 (by decide)
  have hloI : (lo : Int) < 256 := by omega
  have HLO := Lib.hid hlo;have HQ := Lib.hid hq
  clear ho ha hin hmf HM1 hlo hq
  by_cases h45 : ch s q = 45
  ·have HX1 := Lib.hid (HX.out.trans (show itemE s (.ok lo q) = (match memberF s (q + 1) with | .no c x => .no c x | .ok hi r => if hi < lo then .no 2 (r - 1) else .ok (spanF lo (hi + 1)) r) from if_pos h45))
   have hqlt : q < s.size := ch_ge (by omega)
   rw [decide_eq_true h45] at HI
   have HIH := Lib.hid HI
   have HQL := Lib.hid hqlt
   have hqI : (q : Int) < 1000 := by have := HS.out;omega
   clear HX HI h45 hqlt
   go_wp2_with fail
   refine (HIH.out).mono ?_
   rintro e9 w3 ⟨rfl,hb⟩
   have HO3 := Lib.hid ((HO2.out.tb hb).st g 1 (.int .i64 ((q : Int) + 1)) (.inl rfl));have HA3 := Lib.hid (HA2.out.below hb)
   have HZ3 := Lib.hid ((HZ2.out.below hb).far (p := ⟨g,1,none⟩) (fun e => HG.out e) (.int .i64 ((q : Int) + 1)))
   have z1 : w3.cell? ⟨g,1,none⟩ = some (.int .i64 (q : Int)) := HA3.out.cell 1 _ rfl
   have f1 := HA3.out.frozen 1
   have HA4 : Hid (AtG (w3.setCell ⟨g,1,none⟩ (.int .i64 ((q : Int) + 1))) g 94 (rxr s ((q + 1 : Nat) : Int) o)) := Lib.hid (by
    rw [show ((q + 1 : Nat) : Int) = (q : Int) + 1 from by omega];exact HA3.out.set 1 _)
   have HM2 := Lib.hid (memX g s (q + 1) o _ HA4.out HQL.out HS.out)
   clear hb HIH
   go_wp2_with fail
   refine (HM2.out).mono ?_
   cases hmf : memberF s (q + 1) with
   | no c x =>
    rw [hmf] at HX1
    dsimp only at HX1
    rintro e9 w4 ⟨ho,b,rfl,hx⟩
    refine ⟨rfl,?_⟩
    rw [HX1.out]
    exact ⟨HO3.out.tr ho,b,rfl,hx⟩
   | ok hi r =>
    rw [hmf] at HX1
    dsimp only at HX1
    have hin := memberF_in s (q + 1) HQL.out
    rw [hmf] at hin
    have hhi : hi < 256 := hin.2 hi r rfl
    have hr : q + 1 + 1 ≤ r ∧ r ≤ s.size := hin.1
    rintro e9 w4 ⟨ho,rfl,ha⟩
    have HO4 := Lib.hid (HO3.out.tr ho);have HA5 := Lib.hid ha;have HZ4 := Lib.hid (HZ3.out.only ho HG.out)
    have hhiI : (hi : Int) < 256 := by omega
    clear ho ha hin hmf HM2 z1 f1 HA3 HA4
    by_cases hlt : hi < lo
    ·have HR := Lib.hid (HX1.out.trans (if_pos hlt))
     have hltI : (hi : Int) < (lo : Int) := by omega
     obtain ⟨rp,hrp⟩ : ∃ rp,r = rp + 1 := ⟨r - 1,by omega⟩
     subst hrp
     rw [show rp + 1 - 1 = rp from rfl] at HR
     have z1 : w4.cell? ⟨g,1,none⟩ = some (.int .i64 ((rp + 1 : Nat) : Int)) := HA5.out.cell 1 _ rfl
     rw [show ((rp + 1 : Nat) : Int) = (rp : Int) + 1 from by omega] at z1
     have hrI : (rp : Int) < 1000 := by have := HS.out;omega
     clear HX1 hlt hr hhi
     go_wp2_with fail
     refine (failX g rp 2 _).mono ?_
     rintro e9 w5 ⟨hb2,b,rfl,hx⟩
     refine ⟨rfl,?_⟩
     rw [HR.out]
     exact ⟨HO4.out.tb hb2,b,rfl,hx⟩
    ·have HR := Lib.hid (HX1.out.trans (if_neg hlt))
     have hltI : ¬ (hi : Int) < (lo : Int) := by omega
     have HRG := Lib.hid (rangeP lo hi w4 HLO.out hhi)
     clear HX1 hlt hr hhi
     go_wp2_with fail
     refine (HRG.out).mono ?_
     rintro e9 w5 ⟨rfl,hb⟩
     have HO5 := Lib.hid (HO4.out.tb hb);have HA6 := Lib.hid (HA5.out.below hb);have HZ5 := Lib.hid (HZ4.out.below hb)
     clear hb HRG HA5 HZ4
     have d0 := (HZ5.out).cell 0 _ rfl;have d1 := (HZ5.out).cell 1 _ rfl;have d2 := (HZ5.out).cell 2 _ rfl;have d3 := (HZ5.out).cell 3 _ rfl
     have f0 := (HZ5.out).frozen 0;have f1 := (HZ5.out).frozen 1;have f2 := (HZ5.out).frozen 2;have f3 := (HZ5.out).frozen 3
     unfold setOf
     go_wp2_with fail
     refine bodyPost_ret (v := setOf (spanF lo (hi + 1))) (by simp [results,Tryz.results131,go_sem,d0,d1,d2,d3];try rfl) rfl ?_
     rw [HR.out]
     exact ⟨HO5.out.pS _ _ (.inr (Nat.le_refl _)),rfl,putS_far HA6.out (fun e => HG.out e.symm) _⟩
  ·have HR := Lib.hid (HX.out.trans (show itemE s (.ok lo q) = .ok (spanF lo (lo + 1)) q from if_neg h45))
   rw [decide_eq_false h45] at HI
   have HIH := Lib.hid HI
   clear HX HI h45
   go_wp2_with fail
   refine (HIH.out).mono ?_
   rintro e9 w3 ⟨rfl,hb⟩
   have HO3 := Lib.hid (HO2.out.tb hb);have HA3 := Lib.hid (HA2.out.below hb);have HZ3 := Lib.hid (HZ2.out.below hb)
   have HOF := Lib.hid (ofP _ w3.heap.size (lo : Int) (by omega) hloI (AtG.new w3 5 #[.int .u8 (lo : Int)]))
   rw [Int.toNat_natCast,set_one] at HOF
   clear hb HIH
   go_wp2_with fail
   refine (HOF.out).mono ?_
   rintro e9 w5 ⟨rfl,hb⟩
   have HO5 := Lib.hid ((HO3.out.al (.cells #[.int .u8 (lo : Int)] 5)).tb hb);have HA6 := Lib.hid ((HA3.out.alloc _).below hb);have HZ5 := Lib.hid ((HZ3.out.alloc _).below hb)
   clear hb HOF HA3 HZ3
   have d0 := (HZ5.out).cell 0 _ rfl;have d1 := (HZ5.out).cell 1 _ rfl;have d2 := (HZ5.out).cell 2 _ rfl;have d3 := (HZ5.out).cell 3 _ rfl
   have f0 := (HZ5.out).frozen 0;have f1 := (HZ5.out).frozen 1;have f2 := (HZ5.out).frozen 2;have f3 := (HZ5.out).frozen 3
   unfold setOf
   go_wp2_with fail
   refine bodyPost_ret (v := setOf (spanF lo (lo + 1))) (by simp [results,Tryz.results131,go_sem,d0,d1,d2,d3];try rfl) rfl ?_
   rw [HR.out]
   exact ⟨HO5.out.pS _ _ (.inr (Nat.le_refl _)),rfl,putS_far HA6.out (fun e => HG.out e.symm) _⟩
set_option maxRecDepth 100000 in
set_option maxHeartbeats 1600000 in
theorem itemX_end (g : Nat) (s : ByteArray) (p o : Nat) (w : World) (h : AtG w g 94 (rxr s p o)) (hp : p ≤ s.size) (hs : s.size ≤ 900) (h92 : ch s p = 92) (hn : ¬ p + 1 < s.size) :
  Calls Tryz.prog 131 #[.pointer (some ⟨g,0,none⟩)] w (RxP g s o w (itemF s p) (fun f => setOf f)) := by
 have HS := Lib.hid hs;have HPS := Lib.hid hp
 have HG := Lib.hid (show ¬ w.heap.size = g by have := h.lt;omega)
 have HA0 := Lib.hid (h.alloc (.cells (setC 0 0 0 0) 38))
 have HZ0 := Lib.hid (AtG.new w 38 (setC 0 0 0 0))
 have HO0 := Lib.hid ((Only.refl (S := fun k => k = g) w).al (.cells (setC 0 0 0 0) 38))
 have hwp : IntKind.i64.wrap ((p : Int) + 1) = (p : Int) + 1 := by rw [IntKind.wrap_i64];omega
 have HX := Lib.hid (show itemF s p = itemE s (memberF s p) from if_neg (fun h => hn h.2))
 have HIS := Lib.hid (fun (w1 : World) (h1 : AtG w1 g 94 (rxr s p o)) => isX g s p o 92 w1 h1 hp (by decide))
 rw [decide_eq_true h92] at HIS
 have hnI : ¬ (p : Int) + 1 < (s.size : Int) := by omega
 generalize itemF s p = R at *
 clear h92 h hp hn
 go_enter Tryz.func131,Tryz.ntmps131
 go_upto_region 1 with (fail)
 have HPRE : Hid (∀ wx : World,(fun w' => AtG w' g 94 (rxr s p o) ∧ AtG w' w.heap.size 38 (setC 0 0 0 0) ∧ Only (fun k => k = g) w w') wx → wx.cell? ⟨g,1,none⟩ = some (.int .i64 (p : Int)) ∧ wx.cell? ⟨g,0,none⟩ = some (.string s)) := Lib.hid (by intro wx hj;have z1 : wx.cell? ⟨g,1,none⟩ = some (.int .i64 (p : Int)) := hj.1.cell 1 _ rfl;have z0 : wx.cell? ⟨g,0,none⟩ = some (.string s) := hj.1.cell 0 _ rfl;exact ⟨z1,z0⟩)
 refine Rg.wp_region_each (by kernel_rfl) (fun w' => AtG w' g 94 (rxr s p o) ∧ AtG w' w.heap.size 38 (setC 0 0 0 0) ∧ Only (fun k => k = g) w w') (fun w1 w2 h hb => ⟨h.1.below hb,h.2.1.below hb,h.2.2.tb hb⟩) (by kernel_rfl) (by kernel_rfl) (⟨HA0.out,HZ0.out,HO0.out⟩) ?_
 show Rg.Build _ _ _ _ _ 0 [_,_,_,_,_,_,_,_,_,_,_,_,_,_,_] []
 refine Rg.cpe 1 rfl rfl (by intro ax wx hk Kx hK;have k0 := hk.base 0 _ rfl rfl;have hj := hk.j;clear hk;obtain ⟨z1,z0⟩ := HPRE.out _ hj;go_simp;exact Rg.ok hK) ?_
 refine Rg.cpe 2 rfl rfl (by intro ax wx hk Kx hK;have k7 := hk.e 0 7 rfl rfl rfl;have hj := hk.j;clear hk;obtain ⟨z1,z0⟩ := HPRE.out _ hj;go_simp;refine (HIS.out _ hj.1).mono ?_;rintro e w' ⟨rfl,hb⟩;refine hK _ _ ?_ hb;apply Rg.mk) ?_
 refine Rg.cpe 3 rfl rfl (by intro ax wx hk Kx hK;have k8 := hk.e 1 8 rfl rfl rfl;have hj := hk.j;clear hk;obtain ⟨z1,z0⟩ := HPRE.out _ hj;go_simp;exact Rg.ok hK) ?_
 refine Rg.cye 4 2 9 true rfl rfl rfl rfl rfl (by intro ax wx hk Kx hK;have k0 := hk.base 0 _ rfl rfl;have hj := hk.j;clear hk;obtain ⟨z1,z0⟩ := HPRE.out _ hj;go_simp;exact Rg.ok hK) ?_
 refine Rg.cye 5 2 9 true rfl rfl rfl rfl rfl (by intro ax wx hk Kx hK;have k10 := hk.e 3 10 rfl rfl rfl;clear hk;go_simp;exact Rg.ok hK) ?_
 refine Rg.cye 6 2 9 true rfl rfl rfl rfl rfl (by intro ax wx hk Kx hK;have k11 := hk.e 4 11 rfl rfl rfl;clear hk;go_simp;exact Rg.ok hK) ?_
 refine Rg.cye 7 2 9 true rfl rfl rfl rfl rfl (by intro ax wx hk Kx hK;have k12 := hk.e 5 12 rfl rfl rfl;have hj := hk.j;clear hk;obtain ⟨z1,z0⟩ := HPRE.out _ hj;go_simp;exact Rg.ok hK) ?_
 refine Rg.cy 8 (Rg.eq (.int .i64 ((p : Int) + 1))) 2 9 true rfl rfl rfl rfl rfl (by intro ax wx hk Kx hK;have k13 := hk.e 6 13 rfl rfl rfl;have hj := hk.j;clear hk;obtain ⟨z1,z0⟩ := HPRE.out _ hj;(go_simp;refine hK _ _ ?_ (Below.refl _ _);simp [Rg.eq,hwp])) ?_
 refine Rg.cye 9 2 9 true rfl rfl rfl rfl rfl (by intro ax wx hk Kx hK;have k0 := hk.base 0 _ rfl rfl;have hj := hk.j;clear hk;obtain ⟨z1,z0⟩ := HPRE.out _ hj;go_simp;exact Rg.ok hK) ?_
 refine Rg.cye 10 2 9 true rfl rfl rfl rfl rfl (by intro ax wx hk Kx hK;have k15 := hk.e 8 15 rfl rfl rfl;clear hk;go_simp;exact Rg.ok hK) ?_
 refine Rg.cye 11 2 9 true rfl rfl rfl rfl rfl (by intro ax wx hk Kx hK;have k16 := hk.e 9 16 rfl rfl rfl;clear hk;go_simp;exact Rg.ok hK) ?_
 refine Rg.cye 12 2 9 true rfl rfl rfl rfl rfl (by intro ax wx hk Kx hK;have k17 := hk.e 10 17 rfl rfl rfl;have hj := hk.j;clear hk;obtain ⟨z1,z0⟩ := HPRE.out _ hj;go_simp;exact Rg.ok hK) ?_
 refine Rg.cye 13 2 9 true rfl rfl rfl rfl rfl (by intro ax wx hk Kx hK;have k18 := hk.e 11 18 rfl rfl rfl;have hj := hk.j;clear hk;obtain ⟨z1,z0⟩ := HPRE.out _ hj;go_simp;exact Rg.ok hK) ?_
 refine Rg.cy 14 (Rg.eq (.bool false)) 2 9 true rfl rfl rfl rfl rfl (by intro ax wx hk Kx hK;have k14 := hk.e 7 14 rfl rfl rfl;have k19 := hk.e 12 19 rfl rfl rfl;have hj := hk.j;clear hk;obtain ⟨z1,z0⟩ := HPRE.out _ hj;(go_simp;refine hK _ _ ?_ (Below.refl _ _);first | (simp [Rg.eq,hnI];done) | (simp [Rg.eq];omega))) ?_
 refine Rg.cpe 15 rfl rfl (by intro ax wx hk Kx hK;have k9 := hk.e 2 9 rfl rfl rfl;have k20 := hk.e 13 20 rfl rfl rfl;clear hk;go_simp;exact Rg.ok hK) ?_
 refine Rg.build_end fun wx hj => ?_
 iterate 15 refine Rg.fin_eq rfl ?_
 refine Rg.fin_nil ?_
 simp only [List.set_cons_zero,List.set_cons_succ]
 have HA1 := Lib.hid hj.1;have HZ1 := Lib.hid hj.2.1;have HO1 := Lib.hid hj.2.2
 clear hj
 obtain ⟨wA,hwA⟩ : ∃ wA : World,wA = wx := ⟨_,rfl⟩
 rw [← hwA] at HA1 HZ1 HO1 ⊢
 clear hwA
 have HM1 := Lib.hid (memX g s p o wA (HA1.out) HPS.out HS.out)
 go_wp2_with fail
 refine (HM1.out).mono ?_
 cases hmf : memberF s p with
 | no c x =>
  rw [hmf] at HX
  have HR := Lib.hid (HX.out.trans (show itemE s (.no c x) = .no c x from rfl))
  rintro e9 w2 ⟨ho,b,rfl,hx⟩
  refine ⟨rfl,?_⟩
  rw [HR.out]
  exact ⟨HO1.out.tr ho,b,rfl,hx⟩
 | ok lo q =>
  rw [hmf] at HX
  have hin := memberF_in s p HPS.out
  rw [hmf] at hin
  have hlo : lo < 256 := hin.2 lo q rfl
  have hq : p + 1 ≤ q ∧ q ≤ s.size := hin.1
  rintro e9 w2 ⟨ho,rfl,ha⟩
  have HO2 := Lib.hid (HO1.out.tr ho);have HA2 := Lib.hid ha;have HZ2 := Lib.hid (HZ1.out.only ho HG.out)
  have HI := isX g s q o 45 w2 ha hq.2 (by decide)
  have hloI : (lo : Int) < 256 := by omega
  have HLO := Lib.hid hlo;have HQ := Lib.hid hq
  clear ho ha hin hmf HM1 hlo hq
  by_cases h45 : ch s q = 45
  ·have HX1 := Lib.hid (HX.out.trans (show itemE s (.ok lo q) = (match memberF s (q + 1) with | .no c x => .no c x | .ok hi r => if hi < lo then .no 2 (r - 1) else .ok (spanF lo (hi + 1)) r) from if_pos h45))
   have hqlt : q < s.size := ch_ge (by omega)
   rw [decide_eq_true h45] at HI
   have HIH := Lib.hid HI
   have HQL := Lib.hid hqlt
   have hqI : (q : Int) < 1000 := by have := HS.out;omega
   clear HX HI h45 hqlt
   go_wp2_with fail
   refine (HIH.out).mono ?_
   rintro e9 w3 ⟨rfl,hb⟩
   have HO3 := Lib.hid ((HO2.out.tb hb).st g 1 (.int .i64 ((q : Int) + 1)) (.inl rfl));have HA3 := Lib.hid (HA2.out.below hb)
   have HZ3 := Lib.hid ((HZ2.out.below hb).far (p := ⟨g,1,none⟩) (fun e => HG.out e) (.int .i64 ((q : Int) + 1)))
   have z1 : w3.cell? ⟨g,1,none⟩ = some (.int .i64 (q : Int)) := HA3.out.cell 1 _ rfl
   have f1 := HA3.out.frozen 1
   have HA4 : Hid (AtG (w3.setCell ⟨g,1,none⟩ (.int .i64 ((q : Int) + 1))) g 94 (rxr s ((q + 1 : Nat) : Int) o)) := Lib.hid (by
    rw [show ((q + 1 : Nat) : Int) = (q : Int) + 1 from by omega];exact HA3.out.set 1 _)
   have HM2 := Lib.hid (memX g s (q + 1) o _ HA4.out HQL.out HS.out)
   clear hb HIH
   go_wp2_with fail
   refine (HM2.out).mono ?_
   cases hmf : memberF s (q + 1) with
   | no c x =>
    rw [hmf] at HX1
    dsimp only at HX1
    rintro e9 w4 ⟨ho,b,rfl,hx⟩
    refine ⟨rfl,?_⟩
    rw [HX1.out]
    exact ⟨HO3.out.tr ho,b,rfl,hx⟩
   | ok hi r =>
    rw [hmf] at HX1
    dsimp only at HX1
    have hin := memberF_in s (q + 1) HQL.out
    rw [hmf] at hin
    have hhi : hi < 256 := hin.2 hi r rfl
    have hr : q + 1 + 1 ≤ r ∧ r ≤ s.size := hin.1
    rintro e9 w4 ⟨ho,rfl,ha⟩
    have HO4 := Lib.hid (HO3.out.tr ho);have HA5 := Lib.hid ha;have HZ4 := Lib.hid (HZ3.out.only ho HG.out)
    have hhiI : (hi : Int) < 256 := by omega
    clear ho ha hin hmf HM2 z1 f1 HA3 HA4
    by_cases hlt : hi < lo
    ·have HR := Lib.hid (HX1.out.trans (if_pos hlt))
     have hltI : (hi : Int) < (lo : Int) := by omega
     obtain ⟨rp,hrp⟩ : ∃ rp,r = rp + 1 := ⟨r - 1,by omega⟩
     subst hrp
     rw [show rp + 1 - 1 = rp from rfl] at HR
     have z1 : w4.cell? ⟨g,1,none⟩ = some (.int .i64 ((rp + 1 : Nat) : Int)) := HA5.out.cell 1 _ rfl
     rw [show ((rp + 1 : Nat) : Int) = (rp : Int) + 1 from by omega] at z1
     have hrI : (rp : Int) < 1000 := by have := HS.out;omega
     clear HX1 hlt hr hhi
     go_wp2_with fail
     refine (failX g rp 2 _).mono ?_
     rintro e9 w5 ⟨hb2,b,rfl,hx⟩
     refine ⟨rfl,?_⟩
     rw [HR.out]
     exact ⟨HO4.out.tb hb2,b,rfl,hx⟩
    ·have HR := Lib.hid (HX1.out.trans (if_neg hlt))
     have hltI : ¬ (hi : Int) < (lo : Int) := by omega
     have HRG := Lib.hid (rangeP lo hi w4 HLO.out hhi)
     clear HX1 hlt hr hhi
     go_wp2_with fail
     refine (HRG.out).mono ?_
     rintro e9 w5 ⟨rfl,hb⟩
     have HO5 := Lib.hid (HO4.out.tb hb);have HA6 := Lib.hid (HA5.out.below hb);have HZ5 := Lib.hid (HZ4.out.below hb)
     clear hb HRG HA5 HZ4
     have d0 := (HZ5.out).cell 0 _ rfl;have d1 := (HZ5.out).cell 1 _ rfl;have d2 := (HZ5.out).cell 2 _ rfl;have d3 := (HZ5.out).cell 3 _ rfl
     have f0 := (HZ5.out).frozen 0;have f1 := (HZ5.out).frozen 1;have f2 := (HZ5.out).frozen 2;have f3 := (HZ5.out).frozen 3
     unfold setOf
     go_wp2_with fail
     refine bodyPost_ret (v := setOf (spanF lo (hi + 1))) (by simp [results,Tryz.results131,go_sem,d0,d1,d2,d3];try rfl) rfl ?_
     rw [HR.out]
     exact ⟨HO5.out.pS _ _ (.inr (Nat.le_refl _)),rfl,putS_far HA6.out (fun e => HG.out e.symm) _⟩
  ·have HR := Lib.hid (HX.out.trans (show itemE s (.ok lo q) = .ok (spanF lo (lo + 1)) q from if_neg h45))
   rw [decide_eq_false h45] at HI
   have HIH := Lib.hid HI
   clear HX HI h45
   go_wp2_with fail
   refine (HIH.out).mono ?_
   rintro e9 w3 ⟨rfl,hb⟩
   have HO3 := Lib.hid (HO2.out.tb hb);have HA3 := Lib.hid (HA2.out.below hb);have HZ3 := Lib.hid (HZ2.out.below hb)
   have HOF := Lib.hid (ofP _ w3.heap.size (lo : Int) (by omega) hloI (AtG.new w3 5 #[.int .u8 (lo : Int)]))
   rw [Int.toNat_natCast,set_one] at HOF
   clear hb HIH
   go_wp2_with fail
   refine (HOF.out).mono ?_
   rintro e9 w5 ⟨rfl,hb⟩
   have HO5 := Lib.hid ((HO3.out.al (.cells #[.int .u8 (lo : Int)] 5)).tb hb);have HA6 := Lib.hid ((HA3.out.alloc _).below hb);have HZ5 := Lib.hid ((HZ3.out.alloc _).below hb)
   clear hb HOF HA3 HZ3
   have d0 := (HZ5.out).cell 0 _ rfl;have d1 := (HZ5.out).cell 1 _ rfl;have d2 := (HZ5.out).cell 2 _ rfl;have d3 := (HZ5.out).cell 3 _ rfl
   have f0 := (HZ5.out).frozen 0;have f1 := (HZ5.out).frozen 1;have f2 := (HZ5.out).frozen 2;have f3 := (HZ5.out).frozen 3
   unfold setOf
   go_wp2_with fail
   refine bodyPost_ret (v := setOf (spanF lo (lo + 1))) (by simp [results,Tryz.results131,go_sem,d0,d1,d2,d3];try rfl) rfl ?_
   rw [HR.out]
   exact ⟨HO5.out.pS _ _ (.inr (Nat.le_refl _)),rfl,putS_far HA6.out (fun e => HG.out e.symm) _⟩
set_option maxRecDepth 100000 in
set_option maxHeartbeats 1600000 in
theorem itemX_some (g : Nat) (s : ByteArray) (p o : Nat) (w : World) (h : AtG w g 94 (rxr s p o)) (hp : p ≤ s.size) (hs : s.size ≤ 900) (h92 : ch s p = 92) (hn : p + 1 < s.size) (F : Nat → Bool) (hwd : wideF (ch s (p + 1)) = some F) :
  Calls Tryz.prog 131 #[.pointer (some ⟨g,0,none⟩)] w (RxP g s o w (itemF s p) (fun f => setOf f)) := by
 have HS := Lib.hid hs;have HPS := Lib.hid hp
 have HG := Lib.hid (show ¬ w.heap.size = g by have := h.lt;omega)
 have HA0 := Lib.hid (h.alloc (.cells (setC 0 0 0 0) 38))
 have HZ0 := Lib.hid (AtG.new w 38 (setC 0 0 0 0))
 have HO0 := Lib.hid ((Only.refl (S := fun k => k = g) w).al (.cells (setC 0 0 0 0) 38))
 have hwp : IntKind.i64.wrap ((p : Int) + 1) = (p : Int) + 1 := by rw [IntKind.wrap_i64];omega
 have HX := Lib.hid (show itemF s p = .ok F (p + 2) from by unfold itemF;rw [if_pos ⟨h92,hn⟩,hwd])
 have HIS := Lib.hid (fun (w1 : World) (h1 : AtG w1 g 94 (rxr s p o)) => isX g s p o 92 w1 h1 hp (by decide))
 rw [decide_eq_true h92] at HIS
 have hnI : (p : Int) + 1 < (s.size : Int) := by omega
 have hwv : wideV (ch s (p + 1)) = .tuple #[setOf F,.bool true] := by unfold wideV;rw [hwd]
 have HWD := Lib.hid (wideX (ch s (p + 1)))
 rw [hwv] at HWD
 obtain ⟨c1,hc1⟩ : ∃ c1,c1 = ch s (p + 1) := ⟨_,rfl⟩
 have hch : ((s[p + 1].toNat : Nat) : Int) = c1 := by rw [hc1,ch_in hn]
 rw [← hc1] at HWD
 generalize itemF s p = R at *
 clear h92 h hp hwd hwv hc1
 go_enter Tryz.func131,Tryz.ntmps131
 go_upto_region 1 with (fail)
 have HPRE : Hid (∀ wx : World,(fun w' => AtG w' g 94 (rxr s p o) ∧ AtG w' w.heap.size 38 (setC 0 0 0 0) ∧ Only (fun k => k = g) w w') wx → wx.cell? ⟨g,1,none⟩ = some (.int .i64 (p : Int)) ∧ wx.cell? ⟨g,0,none⟩ = some (.string s)) := Lib.hid (by intro wx hj;have z1 : wx.cell? ⟨g,1,none⟩ = some (.int .i64 (p : Int)) := hj.1.cell 1 _ rfl;have z0 : wx.cell? ⟨g,0,none⟩ = some (.string s) := hj.1.cell 0 _ rfl;exact ⟨z1,z0⟩)
 refine Rg.wp_region_each (by kernel_rfl) (fun w' => AtG w' g 94 (rxr s p o) ∧ AtG w' w.heap.size 38 (setC 0 0 0 0) ∧ Only (fun k => k = g) w w') (fun w1 w2 h hb => ⟨h.1.below hb,h.2.1.below hb,h.2.2.tb hb⟩) (by kernel_rfl) (by kernel_rfl) (⟨HA0.out,HZ0.out,HO0.out⟩) ?_
 show Rg.Build _ _ _ _ _ 0 [_,_,_,_,_,_,_,_,_,_,_,_,_,_,_] []
 refine Rg.cpe 1 rfl rfl (by intro ax wx hk Kx hK;have k0 := hk.base 0 _ rfl rfl;have hj := hk.j;clear hk;obtain ⟨z1,z0⟩ := HPRE.out _ hj;go_simp;exact Rg.ok hK) ?_
 refine Rg.cpe 2 rfl rfl (by intro ax wx hk Kx hK;have k7 := hk.e 0 7 rfl rfl rfl;have hj := hk.j;clear hk;obtain ⟨z1,z0⟩ := HPRE.out _ hj;go_simp;refine (HIS.out _ hj.1).mono ?_;rintro e w' ⟨rfl,hb⟩;refine hK _ _ ?_ hb;apply Rg.mk) ?_
 refine Rg.cpe 3 rfl rfl (by intro ax wx hk Kx hK;have k8 := hk.e 1 8 rfl rfl rfl;have hj := hk.j;clear hk;obtain ⟨z1,z0⟩ := HPRE.out _ hj;go_simp;exact Rg.ok hK) ?_
 refine Rg.cye 4 2 9 true rfl rfl rfl rfl rfl (by intro ax wx hk Kx hK;have k0 := hk.base 0 _ rfl rfl;have hj := hk.j;clear hk;obtain ⟨z1,z0⟩ := HPRE.out _ hj;go_simp;exact Rg.ok hK) ?_
 refine Rg.cye 5 2 9 true rfl rfl rfl rfl rfl (by intro ax wx hk Kx hK;have k10 := hk.e 3 10 rfl rfl rfl;clear hk;go_simp;exact Rg.ok hK) ?_
 refine Rg.cye 6 2 9 true rfl rfl rfl rfl rfl (by intro ax wx hk Kx hK;have k11 := hk.e 4 11 rfl rfl rfl;clear hk;go_simp;exact Rg.ok hK) ?_
 refine Rg.cye 7 2 9 true rfl rfl rfl rfl rfl (by intro ax wx hk Kx hK;have k12 := hk.e 5 12 rfl rfl rfl;have hj := hk.j;clear hk;obtain ⟨z1,z0⟩ := HPRE.out _ hj;go_simp;exact Rg.ok hK) ?_
 refine Rg.cy 8 (Rg.eq (.int .i64 ((p : Int) + 1))) 2 9 true rfl rfl rfl rfl rfl (by intro ax wx hk Kx hK;have k13 := hk.e 6 13 rfl rfl rfl;have hj := hk.j;clear hk;obtain ⟨z1,z0⟩ := HPRE.out _ hj;(go_simp;refine hK _ _ ?_ (Below.refl _ _);simp [Rg.eq,hwp])) ?_
 refine Rg.cye 9 2 9 true rfl rfl rfl rfl rfl (by intro ax wx hk Kx hK;have k0 := hk.base 0 _ rfl rfl;have hj := hk.j;clear hk;obtain ⟨z1,z0⟩ := HPRE.out _ hj;go_simp;exact Rg.ok hK) ?_
 refine Rg.cye 10 2 9 true rfl rfl rfl rfl rfl (by intro ax wx hk Kx hK;have k15 := hk.e 8 15 rfl rfl rfl;clear hk;go_simp;exact Rg.ok hK) ?_
 refine Rg.cye 11 2 9 true rfl rfl rfl rfl rfl (by intro ax wx hk Kx hK;have k16 := hk.e 9 16 rfl rfl rfl;clear hk;go_simp;exact Rg.ok hK) ?_
 refine Rg.cye 12 2 9 true rfl rfl rfl rfl rfl (by intro ax wx hk Kx hK;have k17 := hk.e 10 17 rfl rfl rfl;have hj := hk.j;clear hk;obtain ⟨z1,z0⟩ := HPRE.out _ hj;go_simp;exact Rg.ok hK) ?_
 refine Rg.cye 13 2 9 true rfl rfl rfl rfl rfl (by intro ax wx hk Kx hK;have k18 := hk.e 11 18 rfl rfl rfl;have hj := hk.j;clear hk;obtain ⟨z1,z0⟩ := HPRE.out _ hj;go_simp;exact Rg.ok hK) ?_
 refine Rg.cy 14 (Rg.eq (.bool true)) 2 9 true rfl rfl rfl rfl rfl (by intro ax wx hk Kx hK;have k14 := hk.e 7 14 rfl rfl rfl;have k19 := hk.e 12 19 rfl rfl rfl;have hj := hk.j;clear hk;obtain ⟨z1,z0⟩ := HPRE.out _ hj;(go_simp;refine hK _ _ ?_ (Below.refl _ _);first | (simp [Rg.eq,hnI];done) | (simp [Rg.eq];omega))) ?_
 refine Rg.cpe 15 rfl rfl (by intro ax wx hk Kx hK;have k9 := hk.e 2 9 rfl rfl rfl;have k20 := hk.e 13 20 rfl rfl rfl;clear hk;go_simp;exact Rg.ok hK) ?_
 refine Rg.build_end fun wx hj => ?_
 iterate 15 refine Rg.fin_eq rfl ?_
 refine Rg.fin_nil ?_
 simp only [List.set_cons_zero,List.set_cons_succ]
 have HA1 := Lib.hid hj.1;have HZ1 := Lib.hid hj.2.1;have HO1 := Lib.hid hj.2.2
 clear hj
 obtain ⟨wA,hwA⟩ : ∃ wA : World,wA = wx := ⟨_,rfl⟩
 rw [← hwA] at HA1 HZ1 HO1 ⊢
 clear hwA
 go_upto_region 2 with (fail)
 have HZL := Lib.hid HZ1.out.lt
 refine RgX.start (by kernel_rfl) [(15,fun w5 w6 => ∃ gg f,w.heap.size < gg ∧ gg ≠ g ∧ w6 = putS w5 gg f)] [⟨fun w' => AtG w' g 94 (rxr s p o) ∧ AtG w' w.heap.size 38 (setC 0 0 0 0) ∧ Only (fun k => k = g) w w',none⟩] ⟨⟨fun _ _ h hb => ⟨h.1.below hb,h.2.1.below hb,h.2.2.tb hb⟩,⟨fun _ _ _ _ => (fun w5 w6 h he => by obtain ⟨gg,f,h1,h2,rfl⟩ := he;exact ⟨putS_far h.1 (fun e => h2 e.symm) _,putS_far h.2.1 (by omega) _,h.2.2.pS _ _ (.inr (by omega))⟩),trivial⟩⟩,trivial⟩ (by kernel_rfl) (by kernel_rfl) ⟨⟨HA1.out.drew,HZ1.out.drew,HO1.out.drew⟩,trivial⟩ ?_
 show RgX.Build _ _ _ _ _ _ 0 [_,_,_,_,_,_,_,_,_,_,_,_,_,_,_,_,_] []
 refine RgX.cp 1 rfl rfl (by intro ax wx hk Kx hK;have k0 := hk.base 0 _ rfl rfl;have hL := hk.fact 0 0 _ rfl rfl;(try dsimp only at hL);clear hk;have z1 : wx.cell? ⟨g,1,none⟩ = some (.int .i64 (p : Int)) := hL.1.cell 1 _ rfl;have z0 : wx.cell? ⟨g,0,none⟩ = some (.string s) := hL.1.cell 0 _ rfl;go_simp;exact hK _ _ (fun h => by cases h) (fun _ _ => rfl) (Below.refl _ _)) ?_
 refine RgX.cp 2 rfl rfl (by intro ax wx hk Kx hK;have k23 := hk.e 0 0 23 rfl rfl rfl;clear hk;go_simp;exact hK _ _ (fun h => by cases h) (fun _ _ => rfl) (Below.refl _ _)) ?_
 refine RgX.cp 3 rfl rfl (by intro ax wx hk Kx hK;have k24 := hk.e 0 1 24 rfl rfl rfl;clear hk;go_simp;exact hK _ _ (fun h => by cases h) (fun _ _ => rfl) (Below.refl _ _)) ?_
 refine RgX.cp 4 rfl rfl (by intro ax wx hk Kx hK;have k25 := hk.e 0 2 25 rfl rfl rfl;have hL := hk.fact 0 0 _ rfl rfl;(try dsimp only at hL);clear hk;have z1 : wx.cell? ⟨g,1,none⟩ = some (.int .i64 (p : Int)) := hL.1.cell 1 _ rfl;have z0 : wx.cell? ⟨g,0,none⟩ = some (.string s) := hL.1.cell 0 _ rfl;go_simp;exact hK _ _ (fun h => by cases h) (fun _ _ => rfl) (Below.refl _ _)) ?_
 refine RgX.cp 5 rfl rfl (by intro ax wx hk Kx hK;have k0 := hk.base 0 _ rfl rfl;have hL := hk.fact 0 0 _ rfl rfl;(try dsimp only at hL);clear hk;have z1 : wx.cell? ⟨g,1,none⟩ = some (.int .i64 (p : Int)) := hL.1.cell 1 _ rfl;have z0 : wx.cell? ⟨g,0,none⟩ = some (.string s) := hL.1.cell 0 _ rfl;go_simp;exact hK _ _ (fun h => by cases h) (fun _ _ => rfl) (Below.refl _ _)) ?_
 refine RgX.cp 6 rfl rfl (by intro ax wx hk Kx hK;have k27 := hk.e 0 4 27 rfl rfl rfl;clear hk;go_simp;exact hK _ _ (fun h => by cases h) (fun _ _ => rfl) (Below.refl _ _)) ?_
 refine RgX.cp 7 rfl rfl (by intro ax wx hk Kx hK;have k28 := hk.e 0 5 28 rfl rfl rfl;clear hk;go_simp;exact hK _ _ (fun h => by cases h) (fun _ _ => rfl) (Below.refl _ _)) ?_
 refine RgX.cp 8 rfl rfl (by intro ax wx hk Kx hK;have k29 := hk.e 0 6 29 rfl rfl rfl;have hL := hk.fact 0 0 _ rfl rfl;(try dsimp only at hL);clear hk;have z1 : wx.cell? ⟨g,1,none⟩ = some (.int .i64 (p : Int)) := hL.1.cell 1 _ rfl;have z0 : wx.cell? ⟨g,0,none⟩ = some (.string s) := hL.1.cell 0 _ rfl;go_simp;exact hK _ _ (fun h => by cases h) (fun _ _ => rfl) (Below.refl _ _)) ?_
 refine RgX.cp 9 (X := (.int .i64 ((p : Int) + 1))) rfl rfl (by intro ax wx hk Kx hK;have k30 := hk.e 0 7 30 rfl rfl rfl;have hL := hk.fact 0 0 _ rfl rfl;(try dsimp only at hL);clear hk;have z1 : wx.cell? ⟨g,1,none⟩ = some (.int .i64 (p : Int)) := hL.1.cell 1 _ rfl;have z0 : wx.cell? ⟨g,0,none⟩ = some (.string s) := hL.1.cell 0 _ rfl;(go_simp;refine hK _ _ (fun h => by cases h) (fun _ _ => ?_) (Below.refl _ _);simp [RgX.eq,hwp])) ?_
 refine RgX.cp 10 (X := (.int .u8 (c1))) rfl rfl (by intro ax wx hk Kx hK;have k26 := hk.e 0 3 26 rfl rfl rfl;have k31 := hk.e 0 8 31 rfl rfl rfl;have hL := hk.fact 0 0 _ rfl rfl;(try dsimp only at hL);clear hk;have z1 : wx.cell? ⟨g,1,none⟩ = some (.int .i64 (p : Int)) := hL.1.cell 1 _ rfl;have z0 : wx.cell? ⟨g,0,none⟩ = some (.string s) := hL.1.cell 0 _ rfl;(go_simp;refine hK _ _ (fun h => by cases h) (fun _ _ => ?_) (Below.refl _ _);simp [RgX.eq,hch])) ?_
 refine RgX.cp 11 rfl rfl (by intro ax wx hk Kx hK;have k32 := hk.e 0 9 32 rfl rfl rfl;have hL := hk.fact 0 0 _ rfl rfl;(try dsimp only at hL);clear hk;have z1 : wx.cell? ⟨g,1,none⟩ = some (.int .i64 (p : Int)) := hL.1.cell 1 _ rfl;have z0 : wx.cell? ⟨g,0,none⟩ = some (.string s) := hL.1.cell 0 _ rfl;go_simp;refine (HWD.out _).mono ?_;rintro e w' ⟨rfl,hb⟩;refine hK _ _ (fun h => by cases h) (fun _ _ => ?_) hb;apply RgX.mk) ?_
 refine RgX.cp 12 rfl rfl (by intro ax wx hk Kx hK;have k33 := hk.e 0 10 33 rfl rfl rfl;have hL := hk.fact 0 0 _ rfl rfl;(try dsimp only at hL);clear hk;have z1 : wx.cell? ⟨g,1,none⟩ = some (.int .i64 (p : Int)) := hL.1.cell 1 _ rfl;have z0 : wx.cell? ⟨g,0,none⟩ = some (.string s) := hL.1.cell 0 _ rfl;go_simp;exact hK _ _ (fun h => by cases h) (fun _ _ => rfl) (Below.refl _ _)) ?_
 refine RgX.cp 13 rfl rfl (by intro ax wx hk Kx hK;have k22 := hk.e 0 11 22 rfl rfl rfl;clear hk;go_simp;exact hK _ _ (fun h => by cases h) (fun _ _ => rfl) (Below.refl _ _)) ?_
 refine RgX.cp 14 rfl rfl (by intro ax wx hk Kx hK;have k22 := hk.e 0 11 22 rfl rfl rfl;clear hk;go_simp;exact hK _ _ (fun h => by cases h) (fun _ _ => rfl) (Below.refl _ _)) ?_
 refine RgX.build_cons (m := 15) (r := (⟨fun v _ w5 => ∃ gg,v = .pointer (some ⟨gg,0,none⟩) ∧ w.heap.size < gg ∧ gg ≠ g ∧ AtG w5 gg 38 (setC 0 0 0 0),some 15,none⟩ : RgX.Rl)) (RgX.one_plain rfl (by intro ax wx hk Kx hK;have hL := hk.fact 0 0 _ rfl rfl;(try dsimp only at hL);clear hk;have z1 : wx.cell? ⟨g,1,none⟩ = some (.int .i64 (p : Int)) := hL.1.cell 1 _ rfl;have z0 : wx.cell? ⟨g,0,none⟩ = some (.string s) := hL.1.cell 0 _ rfl;(go_simp;exact hK _ _ (fun h => by cases h) (fun u _ => ⟨wx.heap.size,rfl,hL.2.1.lt,by have := hL.1.lt;omega,AtG.new _ _ _⟩) ((Below.refl _ _).alloc (Nat.le_refl _) _)))) ?_ rfl (RgX.keep_r (fun _ _ _ _ h hb => by obtain ⟨gg,h1,h2,h3,h4⟩ := h;exact ⟨gg,h1,h2,h3,h4.below hb⟩) (fun _ _ => ⟨fun _ h _ _ => absurd rfl h,trivial⟩)) (fun _ h => by cases h)
 refine RgX.build_cons (m := 16) (r := (⟨fun _ u w5 => ∃ gg,u = .pointer (some ⟨gg,0,none⟩) ∧ w.heap.size < gg ∧ gg ≠ g ∧ AtG w5 gg 38 (cellsOf F),none,some 14⟩ : RgX.Rl)) (RgX.one_plain rfl (by intro ax wx hk Kx hK;obtain ⟨v3,k3,h3⟩ := hk.dep 0 14 3 _ rfl rfl rfl;(first | (replace h3 := h3 9 undef rfl rfl;first | (cases (h3 : v3 = _)) | (obtain ⟨rfl,h3⟩ := h3) | skip) | skip);have k34 := hk.e 0 12 34 rfl rfl rfl;have hL := hk.fact 0 0 _ rfl rfl;(try dsimp only at hL);clear hk;have z1 : wx.cell? ⟨g,1,none⟩ = some (.int .i64 (p : Int)) := hL.1.cell 1 _ rfl;have z0 : wx.cell? ⟨g,0,none⟩ = some (.string s) := hL.1.cell 0 _ rfl;(obtain ⟨gg,rfl,hg0,hg1,hg2⟩ := h3;have d0 := hg2.cell 0 _ rfl;have d1 := hg2.cell 1 _ rfl;have d2 := hg2.cell 2 _ rfl;have d3 := hg2.cell 3 _ rfl;have f0 := hg2.frozen 0;have f1 := hg2.frozen 1;have f2 := hg2.frozen 2;have f3 := hg2.frozen 3;unfold setOf at k34;go_simp;refine hK undef (putS wx gg F) (fun _ => rfl) (fun u hu => ?_) ⟨gg,F,hg0,hg1,rfl⟩;obtain ⟨t,ht,hu⟩ := hu;cases ht;rw [k3] at hu;cases hu;exact ⟨gg,rfl,hg0,hg1,putS_at hg2 F⟩))) ?_ rfl (RgX.keep_r (fun _ _ _ _ h hb => by obtain ⟨gg,h1,h2,h3,h4⟩ := h;exact ⟨gg,h1,h2,h3,h4.below hb⟩) (fun _ _ => ⟨fun h _ _ _ => absurd rfl h,trivial⟩)) (fun j h => by cases h;exact ⟨0,rfl⟩)
 refine RgX.cp 17 rfl rfl (by intro ax wx hk Kx hK;have k35 := hk.e 0 13 35 rfl rfl rfl;have hL := hk.fact 0 0 _ rfl rfl;(try dsimp only at hL);clear hk;have z1 : wx.cell? ⟨g,1,none⟩ = some (.int .i64 (p : Int)) := hL.1.cell 1 _ rfl;have z0 : wx.cell? ⟨g,0,none⟩ = some (.string s) := hL.1.cell 0 _ rfl;go_simp;exact hK _ _ (fun h => by cases h) (fun _ _ => rfl) (Below.refl _ _)) ?_
 refine RgX.build_end fun wx hj => ?_
 have hL := hj 0 _ rfl rfl
 clear hj
 iterate 14 refine RgX.fin_eq rfl ?_
 first | refine RgX.fin_eq rfl ?_ | refine RgX.fin_any rfl fun v3 h3 => ?_
 refine RgX.fin_none rfl fun s15 => ?_
 refine RgX.fin_eq rfl ?_
 refine RgX.fin_nil ?_
 simp only [List.set_cons_zero,List.set_cons_succ]
 clear h3
 obtain ⟨gg,rfl,hg0,hg1,hg2⟩ := s15 rfl v3 ⟨3,by kernel_rfl,by kernel_rfl⟩
 have HA2 := Lib.hid hL.1;have HZ2 := Lib.hid hL.2.1;have HO2 := Lib.hid hL.2.2
 clear hL s15
 have hwp2 : IntKind.i64.wrap ((p : Int) + 2) = (p : Int) + 2 := by rw [IntKind.wrap_i64];omega
 obtain ⟨wB,hwB⟩ : ∃ wB : World,wB = wx := ⟨_,rfl⟩
 rw [← hwB] at HA2 HZ2 HO2 hg2 ⊢
 have HGG := Lib.hid hg2;have HG0 := Lib.hid (show gg ≠ w.heap.size by omega)
 clear hwB
 have z1 : wB.cell? ⟨g,1,none⟩ = some (.int .i64 (p : Int)) := HA2.out.cell 1 _ rfl
 have y1 := HA2.out.frozen 1
 have c0 : wB.cell? ⟨gg,0,none⟩ = some (.int .u64 ((wd F 0 : Nat) : Int)) := hg2.cell 0 _ rfl
 have c2 : wB.cell? ⟨gg,1,none⟩ = some (.int .u64 ((wd F 1 : Nat) : Int)) := hg2.cell 1 _ rfl
 have c3 : wB.cell? ⟨gg,2,none⟩ = some (.int .u64 ((wd F 2 : Nat) : Int)) := hg2.cell 2 _ rfl
 have c4 : wB.cell? ⟨gg,3,none⟩ = some (.int .u64 ((wd F 3 : Nat) : Int)) := hg2.cell 3 _ rfl
 have d0 := (HZ2.out).cell 0 _ rfl;have d1 := (HZ2.out).cell 1 _ rfl;have d2 := (HZ2.out).cell 2 _ rfl;have d3 := (HZ2.out).cell 3 _ rfl
 have f0 := (HZ2.out).frozen 0;have f1 := (HZ2.out).frozen 1;have f2 := (HZ2.out).frozen 2;have f3 := (HZ2.out).frozen 3
 have hn1 := HG.out
 have hn2 : ¬ g = w.heap.size := fun e => HG.out e.symm
 clear hg2
 go_wp2_with fail
 refine bodyPost_ret (v := setOf F) (by simp [results,Tryz.results131,go_sem,d0,d1,d2,d3,hn1,hn2];try rfl) rfl ?_
 rw [HX.out]
 refine ⟨(HO2.out.st g 1 (.int .i64 ((p : Int) + 2)) (.inl rfl)).pS _ F (.inr (Nat.le_refl _)),rfl,?_⟩
 rw [show ((p + 2 : Nat) : Int) = (p : Int) + 2 from by omega]
 exact putS_far (HA2.out.set 1 _) hn2 F
set_option maxRecDepth 100000 in
set_option maxHeartbeats 1600000 in
theorem itemX_none (g : Nat) (s : ByteArray) (p o : Nat) (w : World) (h : AtG w g 94 (rxr s p o)) (hp : p ≤ s.size) (hs : s.size ≤ 900) (h92 : ch s p = 92) (hn : p + 1 < s.size) (hwd : wideF (ch s (p + 1)) = none) :
  Calls Tryz.prog 131 #[.pointer (some ⟨g,0,none⟩)] w (RxP g s o w (itemF s p) (fun f => setOf f)) := by
 have HS := Lib.hid hs;have HPS := Lib.hid hp
 have HG := Lib.hid (show ¬ w.heap.size = g by have := h.lt;omega)
 have HA0 := Lib.hid (h.alloc (.cells (setC 0 0 0 0) 38))
 have HZ0 := Lib.hid (AtG.new w 38 (setC 0 0 0 0))
 have HO0 := Lib.hid ((Only.refl (S := fun k => k = g) w).al (.cells (setC 0 0 0 0) 38))
 have hwp : IntKind.i64.wrap ((p : Int) + 1) = (p : Int) + 1 := by rw [IntKind.wrap_i64];omega
 have HX := Lib.hid (show itemF s p = itemE s (memberF s p) from by unfold itemF;rw [if_pos ⟨h92,hn⟩,hwd])
 have HIS := Lib.hid (fun (w1 : World) (h1 : AtG w1 g 94 (rxr s p o)) => isX g s p o 92 w1 h1 hp (by decide))
 rw [decide_eq_true h92] at HIS
 have hnI : (p : Int) + 1 < (s.size : Int) := by omega
 have hwv : wideV (ch s (p + 1)) = .tuple #[setOf emp,.bool false] := by unfold wideV;rw [hwd]
 have HWD := Lib.hid (wideX (ch s (p + 1)))
 rw [hwv] at HWD
 obtain ⟨c1,hc1⟩ : ∃ c1,c1 = ch s (p + 1) := ⟨_,rfl⟩
 have hch : ((s[p + 1].toNat : Nat) : Int) = c1 := by rw [hc1,ch_in hn]
 rw [← hc1] at HWD
 generalize itemF s p = R at *
 clear h92 h hp hwd hwv hc1
 go_enter Tryz.func131,Tryz.ntmps131
 go_upto_region 1 with (fail)
 have HPRE : Hid (∀ wx : World,(fun w' => AtG w' g 94 (rxr s p o) ∧ AtG w' w.heap.size 38 (setC 0 0 0 0) ∧ Only (fun k => k = g) w w') wx → wx.cell? ⟨g,1,none⟩ = some (.int .i64 (p : Int)) ∧ wx.cell? ⟨g,0,none⟩ = some (.string s)) := Lib.hid (by intro wx hj;have z1 : wx.cell? ⟨g,1,none⟩ = some (.int .i64 (p : Int)) := hj.1.cell 1 _ rfl;have z0 : wx.cell? ⟨g,0,none⟩ = some (.string s) := hj.1.cell 0 _ rfl;exact ⟨z1,z0⟩)
 refine Rg.wp_region_each (by kernel_rfl) (fun w' => AtG w' g 94 (rxr s p o) ∧ AtG w' w.heap.size 38 (setC 0 0 0 0) ∧ Only (fun k => k = g) w w') (fun w1 w2 h hb => ⟨h.1.below hb,h.2.1.below hb,h.2.2.tb hb⟩) (by kernel_rfl) (by kernel_rfl) (⟨HA0.out,HZ0.out,HO0.out⟩) ?_
 show Rg.Build _ _ _ _ _ 0 [_,_,_,_,_,_,_,_,_,_,_,_,_,_,_] []
 refine Rg.cpe 1 rfl rfl (by intro ax wx hk Kx hK;have k0 := hk.base 0 _ rfl rfl;have hj := hk.j;clear hk;obtain ⟨z1,z0⟩ := HPRE.out _ hj;go_simp;exact Rg.ok hK) ?_
 refine Rg.cpe 2 rfl rfl (by intro ax wx hk Kx hK;have k7 := hk.e 0 7 rfl rfl rfl;have hj := hk.j;clear hk;obtain ⟨z1,z0⟩ := HPRE.out _ hj;go_simp;refine (HIS.out _ hj.1).mono ?_;rintro e w' ⟨rfl,hb⟩;refine hK _ _ ?_ hb;apply Rg.mk) ?_
 refine Rg.cpe 3 rfl rfl (by intro ax wx hk Kx hK;have k8 := hk.e 1 8 rfl rfl rfl;have hj := hk.j;clear hk;obtain ⟨z1,z0⟩ := HPRE.out _ hj;go_simp;exact Rg.ok hK) ?_
 refine Rg.cye 4 2 9 true rfl rfl rfl rfl rfl (by intro ax wx hk Kx hK;have k0 := hk.base 0 _ rfl rfl;have hj := hk.j;clear hk;obtain ⟨z1,z0⟩ := HPRE.out _ hj;go_simp;exact Rg.ok hK) ?_
 refine Rg.cye 5 2 9 true rfl rfl rfl rfl rfl (by intro ax wx hk Kx hK;have k10 := hk.e 3 10 rfl rfl rfl;clear hk;go_simp;exact Rg.ok hK) ?_
 refine Rg.cye 6 2 9 true rfl rfl rfl rfl rfl (by intro ax wx hk Kx hK;have k11 := hk.e 4 11 rfl rfl rfl;clear hk;go_simp;exact Rg.ok hK) ?_
 refine Rg.cye 7 2 9 true rfl rfl rfl rfl rfl (by intro ax wx hk Kx hK;have k12 := hk.e 5 12 rfl rfl rfl;have hj := hk.j;clear hk;obtain ⟨z1,z0⟩ := HPRE.out _ hj;go_simp;exact Rg.ok hK) ?_
 refine Rg.cy 8 (Rg.eq (.int .i64 ((p : Int) + 1))) 2 9 true rfl rfl rfl rfl rfl (by intro ax wx hk Kx hK;have k13 := hk.e 6 13 rfl rfl rfl;have hj := hk.j;clear hk;obtain ⟨z1,z0⟩ := HPRE.out _ hj;(go_simp;refine hK _ _ ?_ (Below.refl _ _);simp [Rg.eq,hwp])) ?_
 refine Rg.cye 9 2 9 true rfl rfl rfl rfl rfl (by intro ax wx hk Kx hK;have k0 := hk.base 0 _ rfl rfl;have hj := hk.j;clear hk;obtain ⟨z1,z0⟩ := HPRE.out _ hj;go_simp;exact Rg.ok hK) ?_
 refine Rg.cye 10 2 9 true rfl rfl rfl rfl rfl (by intro ax wx hk Kx hK;have k15 := hk.e 8 15 rfl rfl rfl;clear hk;go_simp;exact Rg.ok hK) ?_
 refine Rg.cye 11 2 9 true rfl rfl rfl rfl rfl (by intro ax wx hk Kx hK;have k16 := hk.e 9 16 rfl rfl rfl;clear hk;go_simp;exact Rg.ok hK) ?_
 refine Rg.cye 12 2 9 true rfl rfl rfl rfl rfl (by intro ax wx hk Kx hK;have k17 := hk.e 10 17 rfl rfl rfl;have hj := hk.j;clear hk;obtain ⟨z1,z0⟩ := HPRE.out _ hj;go_simp;exact Rg.ok hK) ?_
 refine Rg.cye 13 2 9 true rfl rfl rfl rfl rfl (by intro ax wx hk Kx hK;have k18 := hk.e 11 18 rfl rfl rfl;have hj := hk.j;clear hk;obtain ⟨z1,z0⟩ := HPRE.out _ hj;go_simp;exact Rg.ok hK) ?_
 refine Rg.cy 14 (Rg.eq (.bool true)) 2 9 true rfl rfl rfl rfl rfl (by intro ax wx hk Kx hK;have k14 := hk.e 7 14 rfl rfl rfl;have k19 := hk.e 12 19 rfl rfl rfl;have hj := hk.j;clear hk;obtain ⟨z1,z0⟩ := HPRE.out _ hj;(go_simp;refine hK _ _ ?_ (Below.refl _ _);first | (simp [Rg.eq,hnI];done) | (simp [Rg.eq];omega))) ?_
 refine Rg.cpe 15 rfl rfl (by intro ax wx hk Kx hK;have k9 := hk.e 2 9 rfl rfl rfl;have k20 := hk.e 13 20 rfl rfl rfl;clear hk;go_simp;exact Rg.ok hK) ?_
 refine Rg.build_end fun wx hj => ?_
 iterate 15 refine Rg.fin_eq rfl ?_
 refine Rg.fin_nil ?_
 simp only [List.set_cons_zero,List.set_cons_succ]
 have HA1 := Lib.hid hj.1;have HZ1 := Lib.hid hj.2.1;have HO1 := Lib.hid hj.2.2
 clear hj
 obtain ⟨wA,hwA⟩ : ∃ wA : World,wA = wx := ⟨_,rfl⟩
 rw [← hwA] at HA1 HZ1 HO1 ⊢
 clear hwA
 go_upto_region 2 with (fail)
 have HZL := Lib.hid HZ1.out.lt
 refine RgX.start (by kernel_rfl) [(15,fun w5 w6 => ∃ gg f,w.heap.size < gg ∧ gg ≠ g ∧ w6 = putS w5 gg f)] [⟨fun w' => AtG w' g 94 (rxr s p o) ∧ AtG w' w.heap.size 38 (setC 0 0 0 0) ∧ Only (fun k => k = g) w w',none⟩] ⟨⟨fun _ _ h hb => ⟨h.1.below hb,h.2.1.below hb,h.2.2.tb hb⟩,⟨fun _ _ _ _ => (fun w5 w6 h he => by obtain ⟨gg,f,h1,h2,rfl⟩ := he;exact ⟨putS_far h.1 (fun e => h2 e.symm) _,putS_far h.2.1 (by omega) _,h.2.2.pS _ _ (.inr (by omega))⟩),trivial⟩⟩,trivial⟩ (by kernel_rfl) (by kernel_rfl) ⟨⟨HA1.out.drew,HZ1.out.drew,HO1.out.drew⟩,trivial⟩ ?_
 show RgX.Build _ _ _ _ _ _ 0 [_,_,_,_,_,_,_,_,_,_,_,_,_,_,_,_,_] []
 refine RgX.cp 1 rfl rfl (by intro ax wx hk Kx hK;have k0 := hk.base 0 _ rfl rfl;have hL := hk.fact 0 0 _ rfl rfl;(try dsimp only at hL);clear hk;have z1 : wx.cell? ⟨g,1,none⟩ = some (.int .i64 (p : Int)) := hL.1.cell 1 _ rfl;have z0 : wx.cell? ⟨g,0,none⟩ = some (.string s) := hL.1.cell 0 _ rfl;go_simp;exact hK _ _ (fun h => by cases h) (fun _ _ => rfl) (Below.refl _ _)) ?_
 refine RgX.cp 2 rfl rfl (by intro ax wx hk Kx hK;have k23 := hk.e 0 0 23 rfl rfl rfl;clear hk;go_simp;exact hK _ _ (fun h => by cases h) (fun _ _ => rfl) (Below.refl _ _)) ?_
 refine RgX.cp 3 rfl rfl (by intro ax wx hk Kx hK;have k24 := hk.e 0 1 24 rfl rfl rfl;clear hk;go_simp;exact hK _ _ (fun h => by cases h) (fun _ _ => rfl) (Below.refl _ _)) ?_
 refine RgX.cp 4 rfl rfl (by intro ax wx hk Kx hK;have k25 := hk.e 0 2 25 rfl rfl rfl;have hL := hk.fact 0 0 _ rfl rfl;(try dsimp only at hL);clear hk;have z1 : wx.cell? ⟨g,1,none⟩ = some (.int .i64 (p : Int)) := hL.1.cell 1 _ rfl;have z0 : wx.cell? ⟨g,0,none⟩ = some (.string s) := hL.1.cell 0 _ rfl;go_simp;exact hK _ _ (fun h => by cases h) (fun _ _ => rfl) (Below.refl _ _)) ?_
 refine RgX.cp 5 rfl rfl (by intro ax wx hk Kx hK;have k0 := hk.base 0 _ rfl rfl;have hL := hk.fact 0 0 _ rfl rfl;(try dsimp only at hL);clear hk;have z1 : wx.cell? ⟨g,1,none⟩ = some (.int .i64 (p : Int)) := hL.1.cell 1 _ rfl;have z0 : wx.cell? ⟨g,0,none⟩ = some (.string s) := hL.1.cell 0 _ rfl;go_simp;exact hK _ _ (fun h => by cases h) (fun _ _ => rfl) (Below.refl _ _)) ?_
 refine RgX.cp 6 rfl rfl (by intro ax wx hk Kx hK;have k27 := hk.e 0 4 27 rfl rfl rfl;clear hk;go_simp;exact hK _ _ (fun h => by cases h) (fun _ _ => rfl) (Below.refl _ _)) ?_
 refine RgX.cp 7 rfl rfl (by intro ax wx hk Kx hK;have k28 := hk.e 0 5 28 rfl rfl rfl;clear hk;go_simp;exact hK _ _ (fun h => by cases h) (fun _ _ => rfl) (Below.refl _ _)) ?_
 refine RgX.cp 8 rfl rfl (by intro ax wx hk Kx hK;have k29 := hk.e 0 6 29 rfl rfl rfl;have hL := hk.fact 0 0 _ rfl rfl;(try dsimp only at hL);clear hk;have z1 : wx.cell? ⟨g,1,none⟩ = some (.int .i64 (p : Int)) := hL.1.cell 1 _ rfl;have z0 : wx.cell? ⟨g,0,none⟩ = some (.string s) := hL.1.cell 0 _ rfl;go_simp;exact hK _ _ (fun h => by cases h) (fun _ _ => rfl) (Below.refl _ _)) ?_
 refine RgX.cp 9 (X := (.int .i64 ((p : Int) + 1))) rfl rfl (by intro ax wx hk Kx hK;have k30 := hk.e 0 7 30 rfl rfl rfl;have hL := hk.fact 0 0 _ rfl rfl;(try dsimp only at hL);clear hk;have z1 : wx.cell? ⟨g,1,none⟩ = some (.int .i64 (p : Int)) := hL.1.cell 1 _ rfl;have z0 : wx.cell? ⟨g,0,none⟩ = some (.string s) := hL.1.cell 0 _ rfl;(go_simp;refine hK _ _ (fun h => by cases h) (fun _ _ => ?_) (Below.refl _ _);simp [RgX.eq,hwp])) ?_
 refine RgX.cp 10 (X := (.int .u8 (c1))) rfl rfl (by intro ax wx hk Kx hK;have k26 := hk.e 0 3 26 rfl rfl rfl;have k31 := hk.e 0 8 31 rfl rfl rfl;have hL := hk.fact 0 0 _ rfl rfl;(try dsimp only at hL);clear hk;have z1 : wx.cell? ⟨g,1,none⟩ = some (.int .i64 (p : Int)) := hL.1.cell 1 _ rfl;have z0 : wx.cell? ⟨g,0,none⟩ = some (.string s) := hL.1.cell 0 _ rfl;(go_simp;refine hK _ _ (fun h => by cases h) (fun _ _ => ?_) (Below.refl _ _);simp [RgX.eq,hch])) ?_
 refine RgX.cp 11 rfl rfl (by intro ax wx hk Kx hK;have k32 := hk.e 0 9 32 rfl rfl rfl;have hL := hk.fact 0 0 _ rfl rfl;(try dsimp only at hL);clear hk;have z1 : wx.cell? ⟨g,1,none⟩ = some (.int .i64 (p : Int)) := hL.1.cell 1 _ rfl;have z0 : wx.cell? ⟨g,0,none⟩ = some (.string s) := hL.1.cell 0 _ rfl;go_simp;refine (HWD.out _).mono ?_;rintro e w' ⟨rfl,hb⟩;refine hK _ _ (fun h => by cases h) (fun _ _ => ?_) hb;apply RgX.mk) ?_
 refine RgX.cp 12 rfl rfl (by intro ax wx hk Kx hK;have k33 := hk.e 0 10 33 rfl rfl rfl;have hL := hk.fact 0 0 _ rfl rfl;(try dsimp only at hL);clear hk;have z1 : wx.cell? ⟨g,1,none⟩ = some (.int .i64 (p : Int)) := hL.1.cell 1 _ rfl;have z0 : wx.cell? ⟨g,0,none⟩ = some (.string s) := hL.1.cell 0 _ rfl;go_simp;exact hK _ _ (fun h => by cases h) (fun _ _ => rfl) (Below.refl _ _)) ?_
 refine RgX.cp 13 rfl rfl (by intro ax wx hk Kx hK;have k22 := hk.e 0 11 22 rfl rfl rfl;clear hk;go_simp;exact hK _ _ (fun h => by cases h) (fun _ _ => rfl) (Below.refl _ _)) ?_
 refine RgX.cp 14 rfl rfl (by intro ax wx hk Kx hK;have k22 := hk.e 0 11 22 rfl rfl rfl;clear hk;go_simp;exact hK _ _ (fun h => by cases h) (fun _ _ => rfl) (Below.refl _ _)) ?_
 refine RgX.build_cons (m := 15) (r := (⟨fun v _ w5 => ∃ gg,v = .pointer (some ⟨gg,0,none⟩) ∧ w.heap.size < gg ∧ gg ≠ g ∧ AtG w5 gg 38 (setC 0 0 0 0),some 15,none⟩ : RgX.Rl)) (RgX.one_plain rfl (by intro ax wx hk Kx hK;have hL := hk.fact 0 0 _ rfl rfl;(try dsimp only at hL);clear hk;have z1 : wx.cell? ⟨g,1,none⟩ = some (.int .i64 (p : Int)) := hL.1.cell 1 _ rfl;have z0 : wx.cell? ⟨g,0,none⟩ = some (.string s) := hL.1.cell 0 _ rfl;(go_simp;exact hK _ _ (fun h => by cases h) (fun u _ => ⟨wx.heap.size,rfl,hL.2.1.lt,by have := hL.1.lt;omega,AtG.new _ _ _⟩) ((Below.refl _ _).alloc (Nat.le_refl _) _)))) ?_ rfl (RgX.keep_r (fun _ _ _ _ h hb => by obtain ⟨gg,h1,h2,h3,h4⟩ := h;exact ⟨gg,h1,h2,h3,h4.below hb⟩) (fun _ _ => ⟨fun _ h _ _ => absurd rfl h,trivial⟩)) (fun _ h => by cases h)
 refine RgX.build_cons (m := 16) (r := (⟨fun _ u w5 => ∃ gg,u = .pointer (some ⟨gg,0,none⟩) ∧ w.heap.size < gg ∧ gg ≠ g ∧ AtG w5 gg 38 (cellsOf emp),none,some 14⟩ : RgX.Rl)) (RgX.one_plain rfl (by intro ax wx hk Kx hK;obtain ⟨v3,k3,h3⟩ := hk.dep 0 14 3 _ rfl rfl rfl;(first | (replace h3 := h3 9 undef rfl rfl;first | (cases (h3 : v3 = _)) | (obtain ⟨rfl,h3⟩ := h3) | skip) | skip);have k34 := hk.e 0 12 34 rfl rfl rfl;have hL := hk.fact 0 0 _ rfl rfl;(try dsimp only at hL);clear hk;have z1 : wx.cell? ⟨g,1,none⟩ = some (.int .i64 (p : Int)) := hL.1.cell 1 _ rfl;have z0 : wx.cell? ⟨g,0,none⟩ = some (.string s) := hL.1.cell 0 _ rfl;(obtain ⟨gg,rfl,hg0,hg1,hg2⟩ := h3;have d0 := hg2.cell 0 _ rfl;have d1 := hg2.cell 1 _ rfl;have d2 := hg2.cell 2 _ rfl;have d3 := hg2.cell 3 _ rfl;have f0 := hg2.frozen 0;have f1 := hg2.frozen 1;have f2 := hg2.frozen 2;have f3 := hg2.frozen 3;unfold setOf at k34;go_simp;refine hK undef (putS wx gg emp) (fun _ => rfl) (fun u hu => ?_) ⟨gg,emp,hg0,hg1,rfl⟩;obtain ⟨t,ht,hu⟩ := hu;cases ht;rw [k3] at hu;cases hu;exact ⟨gg,rfl,hg0,hg1,putS_at hg2 emp⟩))) ?_ rfl (RgX.keep_r (fun _ _ _ _ h hb => by obtain ⟨gg,h1,h2,h3,h4⟩ := h;exact ⟨gg,h1,h2,h3,h4.below hb⟩) (fun _ _ => ⟨fun h _ _ _ => absurd rfl h,trivial⟩)) (fun j h => by cases h;exact ⟨0,rfl⟩)
 refine RgX.cp 17 rfl rfl (by intro ax wx hk Kx hK;have k35 := hk.e 0 13 35 rfl rfl rfl;have hL := hk.fact 0 0 _ rfl rfl;(try dsimp only at hL);clear hk;have z1 : wx.cell? ⟨g,1,none⟩ = some (.int .i64 (p : Int)) := hL.1.cell 1 _ rfl;have z0 : wx.cell? ⟨g,0,none⟩ = some (.string s) := hL.1.cell 0 _ rfl;go_simp;exact hK _ _ (fun h => by cases h) (fun _ _ => rfl) (Below.refl _ _)) ?_
 refine RgX.build_end fun wx hj => ?_
 have hL := hj 0 _ rfl rfl
 clear hj
 iterate 14 refine RgX.fin_eq rfl ?_
 first | refine RgX.fin_eq rfl ?_ | refine RgX.fin_any rfl fun v3 h3 => ?_
 refine RgX.fin_none rfl fun s15 => ?_
 refine RgX.fin_eq rfl ?_
 refine RgX.fin_nil ?_
 simp only [List.set_cons_zero,List.set_cons_succ]
 clear h3
 obtain ⟨gg,rfl,hg0,hg1,hg2⟩ := s15 rfl v3 ⟨3,by kernel_rfl,by kernel_rfl⟩
 have HA2 := Lib.hid hL.1;have HZ2 := Lib.hid hL.2.1;have HO2 := Lib.hid hL.2.2
 clear hL s15
 obtain ⟨wB,hwB⟩ : ∃ wB : World,wB = wx := ⟨_,rfl⟩
 rw [← hwB] at HA2 HZ2 HO2 hg2 ⊢
 clear hwB hg2 hg0 hg1 hch hnI hwp hn
 have HM1 := Lib.hid (memX g s p o wB (HA2.out) HPS.out HS.out)
 go_wp2_with fail
 refine (HM1.out).mono ?_
 cases hmf : memberF s p with
 | no c x =>
  rw [hmf] at HX
  have HR := Lib.hid (HX.out.trans (show itemE s (.no c x) = .no c x from rfl))
  rintro e9 w2 ⟨ho,b,rfl,hx⟩
  refine ⟨rfl,?_⟩
  rw [HR.out]
  exact ⟨HO2.out.tr ho,b,rfl,hx⟩
 | ok lo q =>
  rw [hmf] at HX
  have hin := memberF_in s p HPS.out
  rw [hmf] at hin
  have hlo : lo < 256 := hin.2 lo q rfl
  have hq : p + 1 ≤ q ∧ q ≤ s.size := hin.1
  rintro e9 w2 ⟨ho,rfl,ha⟩
  have HO2 := Lib.hid (HO2.out.tr ho);have HA2 := Lib.hid ha;have HZ2 := Lib.hid (HZ2.out.only ho HG.out)
  have HI := isX g s q o 45 w2 ha hq.2 (by decide)
  have hloI : (lo : Int) < 256 := by omega
  have HLO := Lib.hid hlo;have HQ := Lib.hid hq
  clear ho ha hin hmf HM1 hlo hq
  by_cases h45 : ch s q = 45
  ·have HX1 := Lib.hid (HX.out.trans (show itemE s (.ok lo q) = (match memberF s (q + 1) with | .no c x => .no c x | .ok hi r => if hi < lo then .no 2 (r - 1) else .ok (spanF lo (hi + 1)) r) from if_pos h45))
   have hqlt : q < s.size := ch_ge (by omega)
   rw [decide_eq_true h45] at HI
   have HIH := Lib.hid HI
   have HQL := Lib.hid hqlt
   have hqI : (q : Int) < 1000 := by have := HS.out;omega
   clear HX HI h45 hqlt
   go_wp2_with fail
   refine (HIH.out).mono ?_
   rintro e9 w3 ⟨rfl,hb⟩
   have HO3 := Lib.hid ((HO2.out.tb hb).st g 1 (.int .i64 ((q : Int) + 1)) (.inl rfl));have HA3 := Lib.hid (HA2.out.below hb)
   have HZ3 := Lib.hid ((HZ2.out.below hb).far (p := ⟨g,1,none⟩) (fun e => HG.out e) (.int .i64 ((q : Int) + 1)))
   have z1 : w3.cell? ⟨g,1,none⟩ = some (.int .i64 (q : Int)) := HA3.out.cell 1 _ rfl
   have f1 := HA3.out.frozen 1
   have HA4 : Hid (AtG (w3.setCell ⟨g,1,none⟩ (.int .i64 ((q : Int) + 1))) g 94 (rxr s ((q + 1 : Nat) : Int) o)) := Lib.hid (by
    rw [show ((q + 1 : Nat) : Int) = (q : Int) + 1 from by omega];exact HA3.out.set 1 _)
   have HM2 := Lib.hid (memX g s (q + 1) o _ HA4.out HQL.out HS.out)
   clear hb HIH
   go_wp2_with fail
   refine (HM2.out).mono ?_
   cases hmf : memberF s (q + 1) with
   | no c x =>
    rw [hmf] at HX1
    dsimp only at HX1
    rintro e9 w4 ⟨ho,b,rfl,hx⟩
    refine ⟨rfl,?_⟩
    rw [HX1.out]
    exact ⟨HO3.out.tr ho,b,rfl,hx⟩
   | ok hi r =>
    rw [hmf] at HX1
    dsimp only at HX1
    have hin := memberF_in s (q + 1) HQL.out
    rw [hmf] at hin
    have hhi : hi < 256 := hin.2 hi r rfl
    have hr : q + 1 + 1 ≤ r ∧ r ≤ s.size := hin.1
    rintro e9 w4 ⟨ho,rfl,ha⟩
    have HO4 := Lib.hid (HO3.out.tr ho);have HA5 := Lib.hid ha;have HZ4 := Lib.hid (HZ3.out.only ho HG.out)
    have hhiI : (hi : Int) < 256 := by omega
    clear ho ha hin hmf HM2 z1 f1 HA3 HA4
    by_cases hlt : hi < lo
    ·have HR := Lib.hid (HX1.out.trans (if_pos hlt))
     have hltI : (hi : Int) < (lo : Int) := by omega
     obtain ⟨rp,hrp⟩ : ∃ rp,r = rp + 1 := ⟨r - 1,by omega⟩
     subst hrp
     rw [show rp + 1 - 1 = rp from rfl] at HR
     have z1 : w4.cell? ⟨g,1,none⟩ = some (.int .i64 ((rp + 1 : Nat) : Int)) := HA5.out.cell 1 _ rfl
     rw [show ((rp + 1 : Nat) : Int) = (rp : Int) + 1 from by omega] at z1
     have hrI : (rp : Int) < 1000 := by have := HS.out;omega
     clear HX1 hlt hr hhi
     go_wp2_with fail
     refine (failX g rp 2 _).mono ?_
     rintro e9 w5 ⟨hb2,b,rfl,hx⟩
     refine ⟨rfl,?_⟩
     rw [HR.out]
     exact ⟨HO4.out.tb hb2,b,rfl,hx⟩
    ·have HR := Lib.hid (HX1.out.trans (if_neg hlt))
     have hltI : ¬ (hi : Int) < (lo : Int) := by omega
     have HRG := Lib.hid (rangeP lo hi w4 HLO.out hhi)
     clear HX1 hlt hr hhi
     go_wp2_with fail
     refine (HRG.out).mono ?_
     rintro e9 w5 ⟨rfl,hb⟩
     have HO5 := Lib.hid (HO4.out.tb hb);have HA6 := Lib.hid (HA5.out.below hb);have HZ5 := Lib.hid (HZ4.out.below hb)
     clear hb HRG HA5 HZ4
     have d0 := (HZ5.out).cell 0 _ rfl;have d1 := (HZ5.out).cell 1 _ rfl;have d2 := (HZ5.out).cell 2 _ rfl;have d3 := (HZ5.out).cell 3 _ rfl
     have f0 := (HZ5.out).frozen 0;have f1 := (HZ5.out).frozen 1;have f2 := (HZ5.out).frozen 2;have f3 := (HZ5.out).frozen 3
     unfold setOf
     go_wp2_with fail
     refine bodyPost_ret (v := setOf (spanF lo (hi + 1))) (by simp [results,Tryz.results131,go_sem,d0,d1,d2,d3];try rfl) rfl ?_
     rw [HR.out]
     exact ⟨HO5.out.pS _ _ (.inr (Nat.le_refl _)),rfl,putS_far HA6.out (fun e => HG.out e.symm) _⟩
  ·have HR := Lib.hid (HX.out.trans (show itemE s (.ok lo q) = .ok (spanF lo (lo + 1)) q from if_neg h45))
   rw [decide_eq_false h45] at HI
   have HIH := Lib.hid HI
   clear HX HI h45
   go_wp2_with fail
   refine (HIH.out).mono ?_
   rintro e9 w3 ⟨rfl,hb⟩
   have HO3 := Lib.hid (HO2.out.tb hb);have HA3 := Lib.hid (HA2.out.below hb);have HZ3 := Lib.hid (HZ2.out.below hb)
   have HOF := Lib.hid (ofP _ w3.heap.size (lo : Int) (by omega) hloI (AtG.new w3 5 #[.int .u8 (lo : Int)]))
   rw [Int.toNat_natCast,set_one] at HOF
   clear hb HIH
   go_wp2_with fail
   refine (HOF.out).mono ?_
   rintro e9 w5 ⟨rfl,hb⟩
   have HO5 := Lib.hid ((HO3.out.al (.cells #[.int .u8 (lo : Int)] 5)).tb hb);have HA6 := Lib.hid ((HA3.out.alloc _).below hb);have HZ5 := Lib.hid ((HZ3.out.alloc _).below hb)
   clear hb HOF HA3 HZ3
   have d0 := (HZ5.out).cell 0 _ rfl;have d1 := (HZ5.out).cell 1 _ rfl;have d2 := (HZ5.out).cell 2 _ rfl;have d3 := (HZ5.out).cell 3 _ rfl
   have f0 := (HZ5.out).frozen 0;have f1 := (HZ5.out).frozen 1;have f2 := (HZ5.out).frozen 2;have f3 := (HZ5.out).frozen 3
   unfold setOf
   go_wp2_with fail
   refine bodyPost_ret (v := setOf (spanF lo (lo + 1))) (by simp [results,Tryz.results131,go_sem,d0,d1,d2,d3];try rfl) rfl ?_
   rw [HR.out]
   exact ⟨HO5.out.pS _ _ (.inr (Nat.le_refl _)),rfl,putS_far HA6.out (fun e => HG.out e.symm) _⟩
theorem itemX (g : Nat) (s : ByteArray) (p o : Nat) (w : World) (h : AtG w g 94 (rxr s p o)) (hp : p ≤ s.size) (hs : s.size ≤ 900) :
  Calls Tryz.prog 131 #[.pointer (some ⟨g,0,none⟩)] w (RxP g s o w (itemF s p) (fun f => setOf f)) := by
 by_cases h92 : ch s p = 92
 ·by_cases hn : p + 1 < s.size
  ·cases hwd : wideF (ch s (p + 1)) with
   | some F => exact itemX_some g s p o w h hp hs h92 hn F hwd
   | none => exact itemX_none g s p o w h hp hs h92 hn hwd
  ·exact itemX_end g s p o w h hp hs h92 hn
 ·exact itemX_no g s p o w h hp hs h92
end Go.Proofs.YtgjcibhhffkemaaGreatDoor
namespace Go.Proofs.YtgjcibhhffkemaaGreatDoor
open Go.RowKit Bt
def leftX (s : ByteArray) (g : Nat) (w : World) : Nat :=
 match w.cell? ⟨g,1,none⟩ with
 | some (.int _ a) => s.size + 2 - a.toNat
 | _ => 0
theorem leftX_ok {s : ByteArray} {g p : Nat} {o : Int} {w : World} (h : AtG w g 94 (rxr s p o)) : leftX s g w = s.size + 2 - p := by
 have h1 : w.cell? ⟨g,1,none⟩ = some (.int .i64 (p : Int)) := h.cell 1 _ rfl
 unfold leftX;rw [h1];simp
theorem any_step {P : Program} {ops : Array Oper} {Q : Exit → Act → World → Prop} {fuel : Nat} {listed : Array Bool} {a : Act} {w : World} (l : List Nat) (hr : Region.ready .any ops listed = l) (hne : l ≠ [])
  (h : ∀ i ∈ l,∃ o,ops[i]? = some o ∧ o.guard = none ∧ o.wp P a w (wpAny P .any ops Q fuel (listed.setIfInBounds i true)) Q) : wpAny P .any ops Q (fuel + 1) listed a w := by
 refine ⟨fun h0 => absurd (hr.symm.trans h0) hne,fun i hi => ?_⟩
 rw [hr] at hi
 obtain ⟨o,ho,hg,hw⟩ := h i hi
 unfold wpOp
 rw [ho]
 dsimp only
 rw [if_pos (by simp [Region.wanted,hg])]
 exact .inl hw
set_option maxRecDepth 100000 in
set_option maxHeartbeats 3200000 in
theorem classX_no (g : Nat) (s : ByteArray) (p0 o : Nat) (w : World) (h : AtG w g 94 (rxr s p0 o)) (hp : p0 ≤ s.size) (hs : s.size ≤ 900) (h94 : ¬ ch s p0 = 94) :
  Calls Tryz.prog 120 #[.pointer (some ⟨g,0,none⟩)] w (RxP g s o w (classF s p0) (fun f => setOf f)) := by
 have HS := Lib.hid hs;have HP := Lib.hid hp
 have HG := Lib.hid (show ¬ w.heap.size = g by have := h.lt;omega)
 have HA0 := Lib.hid (h.alloc (.cells (setC 0 0 0 0) 38))
 have HZ0 := Lib.hid (AtG.new w 38 (setC 0 0 0 0))
 have HO0 := Lib.hid ((Only.refl (S := fun k => k = g) w).al (.cells (setC 0 0 0 0) 38))
 have HX := Lib.hid (show classF s p0 = clsE s false (itemF s p0) from if_neg h94)
 have HIS := isX g s p0 o 94 _ HA0.out hp (by decide)
 rw [decide_eq_false h94] at HIS
 have HISH := Lib.hid HIS
 generalize classF s p0 = R at *
 clear h94 h hp HIS
 go_enter Tryz.func120,Tryz.ntmps120
 go_wp2_with fail
 refine (HISH.out).mono ?_
 rintro e9 w1 ⟨rfl,hb⟩
 have HA1 := Lib.hid (HA0.out.below hb);have HZ1 := Lib.hid (HZ0.out.below hb);have HO1 := Lib.hid (HO0.out.tb hb)
 clear hb HISH HA0 HZ0 HO0
 have HI0 := Lib.hid (itemX g s p0 o w1 HA1.out HP.out HS.out)
 go_wp2_with fail
 refine (HI0.out).mono ?_
 cases hif : itemF s p0 with
 | no c x =>
  rw [hif] at HX
  rintro e9 w2 ⟨ho,b,rfl,hx⟩
  refine ⟨rfl,?_⟩
  rw [HX.out]
  exact ⟨HO1.out.tr ho,b,rfl,hx⟩
 | ok F0 q0 =>
  rw [hif] at HX
  have hin := itemF_in s p0 HP.out
  rw [hif] at hin
  have hq0 : p0 + 1 ≤ q0 ∧ q0 ≤ s.size := hin
  rintro e9 w2 ⟨ho,rfl,ha⟩
  have HO2 := Lib.hid (HO1.out.tr ho);have HA2 := Lib.hid ha;have HZ2 := Lib.hid (HZ1.out.only ho HG.out)
  have HQ0 := Lib.hid hq0
  clear ho ha hin hif hq0 HI0
  have HGS : Hid (w.heap.size ≠ w2.heap.size ∧ w2.heap.size ≠ g ∧ w.heap.size ≤ w2.heap.size ∧ g ≠ w2.heap.size) := Lib.hid (by
   have h1 := HZ2.out.lt
   have h2 := HA2.out.lt
   omega)
  unfold setOf
  go_upto_region 5 with (fail)
  obtain ⟨WL,hWL⟩ : ∃ WL : World,WL = w2.alloc (.cells (cellsOf F0) 38) := ⟨_,rfl⟩
  have hWL' : w2.alloc (.cells #[.int .u64 ((wd F0 0 : Nat) : Int),.int .u64 ((wd F0 1 : Nat) : Int),.int .u64 ((wd F0 2 : Nat) : Int),.int .u64 ((wd F0 3 : Nat) : Int)] 38) = WL := hWL.symm
  have HSL : Hid (AtG WL w2.heap.size 38 (cellsOf F0)) := Lib.hid (by rw [hWL];exact AtG.new _ _ _)
  have HAL : Hid (AtG WL g 94 (rxr s (q0 : Int) (o : Int))) := Lib.hid (by rw [hWL];exact HA2.out.alloc _)
  have HZL : Hid (AtG WL w.heap.size 38 (setC 0 0 0 0)) := Lib.hid (by rw [hWL];exact HZ2.out.alloc _)
  have HOL : Hid (Only (fun k => k = g) w WL) := Lib.hid (by rw [hWL];exact HO2.out.al _)
  rw [hWL']
  clear hWL hWL' HO2 HA2 HZ2
  go_loopw [] (fun wr => ∃ F : Nat → Bool,AtG wr w2.heap.size 38 (cellsOf F) ∧ AtG wr w.heap.size 38 (setC 0 0 0 0) ∧ Only (fun k => k = g) w wr ∧ ∃ q k : Nat,AtG wr g 94 (rxr s (q : Int) (o : Int)) ∧ q ≤ s.size ∧ s.size - q < k ∧ R = (clsF s k F q).map (negF false)) (fun wr => leftX s g wr)
  case atStart => exact ⟨F0,HSL.out,HZL.out,HOL.out,q0,s.size + 1,HAL.out,HQ0.out.2,by omega,by rw [HX.out];rfl⟩
  case round =>
   obtain ⟨F,hs9,hz9,ho9,q,k,ha9,hq9,hk9,hx9⟩ := hrel
   have HS9 := Lib.hid hs9;have HZ9 := Lib.hid hz9;have HO9 := Lib.hid ho9;have HA9 := Lib.hid ha9
   have HQ := Lib.hid hq9;have HK := Lib.hid hk9;have HX9 := Lib.hid hx9
   have HIS := isX g s q o 93 wr ha9 hq9 (by decide)
   clear hs9 hz9 ho9 ha9 hk9 hx9 HSL HAL HZL HOL HQ0
   obtain ⟨k',rfl⟩ : ∃ k',k = k' + 1 := ⟨k - 1,by have := HK.out;omega⟩
   have hcf : clsF s (k' + 1) F q = if ch s q = 93 then .ok F (q + 1) else match itemF s q with | .ok g q => clsF s k' (fun y => F y || g y) q | .no c x => .no c x := rfl
   by_cases h93 : ch s q = 93
   ·rw [if_pos h93] at hcf
    have HR : Hid (R = .ok (negF false F) (q + 1)) := Lib.hid (by rw [HX9.out,hcf];rfl)
    rw [decide_eq_true h93] at HIS
    have HIH := Lib.hid HIS
    have hqI : (q : Int) < 1000 := by have := HS.out;omega
    clear hcf h93 HIS hq9
    go_wp2_with fail
    refine (HIH.out).mono ?_
    rintro e9 w3 ⟨rfl,hb⟩
    have HA3 := Lib.hid (HA9.out.below hb);have HZ3 := Lib.hid ((HZ9.out.below hb).far (p := ⟨g,1,none⟩) (fun e => HG.out e) (.int .i64 ((q : Int) + 1)));have HS3 := Lib.hid ((HS9.out.below hb).far (p := ⟨g,1,none⟩) (fun e => HGS.out.2.1 e) (.int .i64 ((q : Int) + 1)))
    have HO3 := Lib.hid ((HO9.out.tb hb).st g 1 (.int .i64 ((q : Int) + 1)) (.inl rfl))
    have z1 : w3.cell? ⟨g,1,none⟩ = some (.int .i64 (q : Int)) := HA3.out.cell 1 _ rfl
    have y1 := HA3.out.frozen 1
    have HA4 : Hid (AtG (w3.setCell ⟨g,1,none⟩ (.int .i64 ((q : Int) + 1))) g 94 (rxr s ((q + 1 : Nat) : Int) o)) := Lib.hid (by
     rw [show ((q + 1 : Nat) : Int) = (q : Int) + 1 from by omega];exact HA3.out.set 1 _)
    clear hb HIH
    go_upto_region 8 with (fail)
    obtain ⟨wq,hwq⟩ : ∃ wq : World,wq = w3.setCell ⟨g,1,none⟩ (.int .i64 ((q : Int) + 1)) := ⟨_,rfl⟩
    rw [← hwq] at HZ3 HS3 HO3 HA4 ⊢
    clear hwq z1 y1 HA3
    have e0 : wq.cell? ⟨w2.heap.size,0,none⟩ = some (.int .u64 ((wd F 0 : Nat) : Int)) := HS3.out.cell 0 _ rfl
    have e1 : wq.cell? ⟨w2.heap.size,1,none⟩ = some (.int .u64 ((wd F 1 : Nat) : Int)) := HS3.out.cell 1 _ rfl
    have e2 : wq.cell? ⟨w2.heap.size,2,none⟩ = some (.int .u64 ((wd F 2 : Nat) : Int)) := HS3.out.cell 2 _ rfl
    have e3 : wq.cell? ⟨w2.heap.size,3,none⟩ = some (.int .u64 ((wd F 3 : Nat) : Int)) := HS3.out.cell 3 _ rfl
    have d0 := (HZ3.out).cell 0 _ rfl;have d1 := (HZ3.out).cell 1 _ rfl;have d2 := (HZ3.out).cell 2 _ rfl;have d3 := (HZ3.out).cell 3 _ rfl
    have f0 := (HZ3.out).frozen 0;have f1 := (HZ3.out).frozen 1;have f2 := (HZ3.out).frozen 2;have f3 := (HZ3.out).frozen 3
    go_wp2_with fail
    refine bodyPost_ret (v := setOf F) (by simp [results,Tryz.results120,go_sem,d0,d1,d2,d3];try rfl) rfl ?_
    rw [HR.out]
    exact ⟨HO3.out.pS _ F (.inr (Nat.le_refl _)),rfl,putS_far HA4.out (fun e => HG.out e.symm) F⟩
   ·rw [if_neg h93] at hcf
    have HCF := Lib.hid hcf
    rw [decide_eq_false h93] at HIS
    have HIH := Lib.hid HIS
    have HLE := Lib.hid (leftX_ok HA9.out)
    clear hcf h93 HIS hq9
    go_wp2_with fail
    refine (HIH.out).mono ?_
    rintro e9 w3 ⟨rfl,hb⟩
    have HA3 := Lib.hid (HA9.out.below hb);have HZ3 := Lib.hid (HZ9.out.below hb);have HS3 := Lib.hid (HS9.out.below hb);have HO3 := Lib.hid (HO9.out.tb hb)
    clear hb HIH HA9 HZ9 HS9 HO9
    go_upto_region 6 with (fail)
    have hin := itemF_in s q HQ.out
    have HIT := Lib.hid (fun (w1 : World) (h1 : AtG w1 g 94 (rxr s q o)) => itemX g s q o w1 h1 HQ.out HS.out)
    cases hif : itemF s q with
    | ok G r =>
     rw [hif] at hin HCF HIT
     have HIN := Lib.hid (show q + 1 ≤ r ∧ r ≤ s.size from hin)
     clear hif hin
     refine RgX.start (by kernel_rfl) [(2,fun w5 w6 => Only (fun k => k = g) w5 w6),(4,fun w5 w6 => ∃ f,w6 = putS w5 w2.heap.size f)] [⟨fun w5 => AtG w5 w.heap.size 38 (setC 0 0 0 0) ∧ Only (fun k => k = g) w w5,none⟩,⟨fun w5 => AtG w5 g 94 (rxr s (q : Int) (o : Int)),some 2⟩,⟨fun w5 => AtG w5 w2.heap.size 38 (cellsOf F),some 4⟩] ⟨⟨fun _ _ h hb => ⟨h.1.below hb,h.2.tb hb⟩,⟨fun _ _ _ _ => (fun w5 w6 h he => ⟨h.1.only he HG.out,h.2.tr he⟩),fun _ _ _ _ => (fun w5 w6 h he => by obtain ⟨f,rfl⟩ := he;exact ⟨putS_far h.1 HGS.out.1 _,h.2.pS _ _ (.inr HGS.out.2.2.1)⟩),trivial⟩⟩,⟨fun _ _ h hb => h.below hb,⟨fun _ h _ _ => absurd rfl h,fun _ _ h _ => absurd ⟨2,1,rfl,rfl⟩ h,trivial⟩⟩,⟨fun _ _ h hb => h.below hb,⟨fun _ _ _ _ => (fun w5 w6 h he => h.only he HGS.out.2.1),fun _ h _ _ => absurd rfl h,trivial⟩⟩,trivial⟩ (by kernel_rfl) (by kernel_rfl) ⟨⟨HZ3.out.drew,HO3.out.drew⟩,HA3.out.drew,HS3.out.drew,trivial⟩ ?_
     show RgX.Build _ _ _ _ _ _ 0 [_,_,_,_,_] []
     refine RgX.cp 1 rfl rfl (by intro ax wx hk Kx hK;have k4 := hk.base 4 _ rfl rfl;have hL := hk.fact 0 0 _ rfl rfl;(try dsimp only at hL);have hs := hk.fact 2 1 _ rfl rfl;(try dsimp only at hs);clear hk;have z0 : wx.cell? ⟨w2.heap.size,0,none⟩ = some (.int .u64 ((wd F 0 : Nat) : Int)) := hs.cell 0 _ rfl;have z1 : wx.cell? ⟨w2.heap.size,1,none⟩ = some (.int .u64 ((wd F 1 : Nat) : Int)) := hs.cell 1 _ rfl;have z2 : wx.cell? ⟨w2.heap.size,2,none⟩ = some (.int .u64 ((wd F 2 : Nat) : Int)) := hs.cell 2 _ rfl;have z3 : wx.cell? ⟨w2.heap.size,3,none⟩ = some (.int .u64 ((wd F 3 : Nat) : Int)) := hs.cell 3 _ rfl;go_simp;exact hK _ _ (fun h => by cases h) (fun _ _ => rfl) (Below.refl _ _)) ?_
     refine RgX.cp 2 rfl rfl (by intro ax wx hk Kx hK;have k0 := hk.base 0 _ rfl rfl;have hL := hk.fact 0 0 _ rfl rfl;(try dsimp only at hL);have hg := hk.fact 1 1 _ rfl rfl;(try dsimp only at hg);have hs := hk.fact 2 1 _ rfl rfl;(try dsimp only at hs);clear hk;go_simp;exact hK _ _ (fun h => by cases h) (fun _ _ => rfl) (Below.refl _ _)) ?_
     refine RgX.build_cons (m := 3) (r := (⟨fun v _ w5 => v = setOf G ∧ AtG w5 g 94 (rxr s (r : Int) (o : Int)),none,none⟩ : RgX.Rl)) (RgX.one_plain rfl (by intro ax wx hk Kx hK;have k21 := hk.e 0 1 21 rfl rfl rfl;have hL := hk.fact 0 0 _ rfl rfl;(try dsimp only at hL);have hg := hk.fact 1 0 _ rfl rfl;(try dsimp only at hg);have hs := hk.fact 2 1 _ rfl rfl;(try dsimp only at hs);clear hk;go_simp;refine (HIT.out _ hg).mono ?_;rintro e w' ⟨hO5,rfl,hS5⟩;exact hK _ _ (fun h => by cases h) (fun _ _ => ⟨rfl,hS5⟩) hO5)) ?_ rfl (RgX.keep_r (fun _ _ _ _ h hb => ⟨h.1,h.2.below hb⟩) (fun _ _ => ⟨fun h _ _ _ => absurd rfl h,fun _ _ _ _ => (fun w5 w6 h he => by obtain ⟨f,rfl⟩ := he;exact ⟨h.1,putS_far h.2 HGS.out.2.2.2 _⟩),trivial⟩)) (fun _ h => by cases h)
     refine RgX.cp 4 rfl rfl (by intro ax wx hk Kx hK;have k20 := hk.e 0 0 20 rfl rfl rfl;obtain ⟨v22,k22,h22⟩ := hk.dep 0 2 22 _ rfl rfl rfl;(first | (replace h22 := h22 9 undef rfl rfl;first | (cases (h22 : v22 = _)) | (obtain ⟨rfl,h22⟩ := h22) | skip) | skip);have hL := hk.fact 0 0 _ rfl rfl;(try dsimp only at hL);have hs := hk.fact 2 1 _ rfl rfl;(try dsimp only at hs);clear hk;go_simp;refine (or_any F G _).mono ?_;rintro e w' ⟨rfl,hb⟩;refine hK _ _ (fun h => by cases h) (fun _ _ => ?_) hb;apply RgX.mk) ?_
     refine RgX.build_cons (m := 5) (r := (⟨fun _ _ w5 => AtG w5 w2.heap.size 38 (cellsOf fun x => F x || G x),none,none⟩ : RgX.Rl)) (RgX.one_plain rfl (by intro ax wx hk Kx hK;have k4 := hk.base 4 _ rfl rfl;have k23 := hk.e 0 3 23 rfl rfl rfl;have hL := hk.fact 0 0 _ rfl rfl;(try dsimp only at hL);have hs := hk.fact 2 0 _ rfl rfl;(try dsimp only at hs);clear hk;(have d0 : wx.cell? ⟨w2.heap.size,0,none⟩ = some (.int .u64 ((wd F 0 : Nat) : Int)) := hs.cell 0 _ rfl;have d1 : wx.cell? ⟨w2.heap.size,1,none⟩ = some (.int .u64 ((wd F 1 : Nat) : Int)) := hs.cell 1 _ rfl;have d2 : wx.cell? ⟨w2.heap.size,2,none⟩ = some (.int .u64 ((wd F 2 : Nat) : Int)) := hs.cell 2 _ rfl;have d3 : wx.cell? ⟨w2.heap.size,3,none⟩ = some (.int .u64 ((wd F 3 : Nat) : Int)) := hs.cell 3 _ rfl;have f0 := hs.frozen 0;have f1 := hs.frozen 1;have f2 := hs.frozen 2;have f3 := hs.frozen 3;unfold setOf at k23;go_simp;exact hK undef _ (fun _ => rfl) (fun u hu => putS_at hs _) ⟨_,rfl⟩))) ?_ rfl (RgX.keep_r (fun _ _ _ _ h hb => h.below hb) (fun _ _ => ⟨fun _ _ _ h => absurd ⟨1,rfl⟩ h,fun h _ _ _ => absurd rfl h,trivial⟩)) (fun _ h => by cases h)
     refine RgX.build_end fun wx hj => ?_
     have hL := hj 0 _ rfl rfl
     clear hj
     iterate 2 refine RgX.fin_eq rfl ?_
     first | refine RgX.fin_eq rfl ?_ | refine RgX.fin_any rfl fun v22 h22 => ?_
     refine RgX.fin_eq rfl ?_
     refine RgX.fin_none rfl fun s4 => ?_
     refine RgX.fin_nil ?_
     simp only [List.set_cons_zero,List.set_cons_succ]
     have hS5 := (h22 rfl undef rfl).2
     have hs5 := s4 rfl undef rfl
     clear h22 s4
     have HL := Lib.hid hL;have H5 := Lib.hid hS5;have H6 := Lib.hid hs5
     clear hL hS5 hs5
     go_wp2_with fail
     refine ⟨⟨_,H6.out,HL.out.1,HL.out.2,r,k',H5.out,HIN.out.2,by have := HIN.out.1;have := HIN.out.2;have := HK.out;omega,by rw [HX9.out,HCF.out]⟩,?_⟩
     rw [leftX_ok H5.out,HLE.out]
     have := HIN.out.1;have := HIN.out.2;omega
    | no c x =>
     rw [hif] at HCF HIT
     have HR : Hid (R = .no c x) := Lib.hid (by rw [HX9.out,HCF.out];rfl)
     have z0 : w3.drew.cell? ⟨w2.heap.size,0,none⟩ = some (.int .u64 ((wd F 0 : Nat) : Int)) := HS3.out.drew.cell 0 _ rfl
     have z1 : w3.drew.cell? ⟨w2.heap.size,1,none⟩ = some (.int .u64 ((wd F 1 : Nat) : Int)) := HS3.out.drew.cell 1 _ rfl
     have z2 : w3.drew.cell? ⟨w2.heap.size,2,none⟩ = some (.int .u64 ((wd F 2 : Nat) : Int)) := HS3.out.drew.cell 2 _ rfl
     have z3 : w3.drew.cell? ⟨w2.heap.size,3,none⟩ = some (.int .u64 ((wd F 3 : Nat) : Int)) := HS3.out.drew.cell 3 _ rfl
     have HIP := Lib.hid (HIT.out _ HA3.out.drew)
     have HO4 := Lib.hid HO3.out.drew
     clear hif hin HIT HX9 HCF HK HQ HLE
     refine wp_region_any (by kernel_rfl) ?_
     show wpAny _ _ _ _ (4 + 1) _ _ _
     refine any_step [0,1] (by kernel_rfl) (by simp) ?_
     intro i hi
     have hi' : i = 0 ∨ i = 1 := by simpa using hi
     clear hi
     rcases hi' with rfl | rfl
     ·refine ⟨_,rfl,rfl,?_⟩
      go_simp
      show wpAny _ _ _ _ (3 + 1) _ _ _
      refine any_step [1] (by kernel_rfl) (by simp) ?_
      intro i hi
      obtain rfl : i = 1 := by simpa using hi
      refine ⟨_,rfl,rfl,?_⟩
      go_simp
      show wpAny _ _ _ _ (2 + 1) _ _ _
      refine any_step [2] (by kernel_rfl) (by simp) ?_
      intro i hi
      obtain rfl : i = 2 := by simpa using hi
      refine ⟨_,rfl,rfl,?_⟩
      go_simp
      refine (HIP.out).mono ?_
      rintro e9 w4 ⟨ho,b,rfl,hx⟩
      refine ⟨rfl,?_⟩
      rw [HR.out]
      exact ⟨HO4.out.tr ho,b,rfl,hx⟩
     ·refine ⟨_,rfl,rfl,?_⟩
      go_simp
      show wpAny _ _ _ _ (3 + 1) _ _ _
      refine any_step [0,2] (by kernel_rfl) (by simp) ?_
      intro i hi
      have hi' : i = 0 ∨ i = 2 := by simpa using hi
      clear hi
      rcases hi' with rfl | rfl
      ·refine ⟨_,rfl,rfl,?_⟩
       go_simp
       show wpAny _ _ _ _ (2 + 1) _ _ _
       refine any_step [2] (by kernel_rfl) (by simp) ?_
       intro i hi
       obtain rfl : i = 2 := by simpa using hi
       refine ⟨_,rfl,rfl,?_⟩
       go_simp
       refine (HIP.out).mono ?_
       rintro e9 w4 ⟨ho,b,rfl,hx⟩
       refine ⟨rfl,?_⟩
       rw [HR.out]
       exact ⟨HO4.out.tr ho,b,rfl,hx⟩
      ·refine ⟨_,rfl,rfl,?_⟩
       go_simp
       refine (HIP.out).mono ?_
       rintro e9 w4 ⟨ho,b,rfl,hx⟩
       refine ⟨rfl,?_⟩
       rw [HR.out]
       exact ⟨HO4.out.tr ho,b,rfl,hx⟩
set_option maxRecDepth 100000 in
set_option maxHeartbeats 3200000 in
theorem classX_neg (g : Nat) (s : ByteArray) (p o : Nat) (w : World) (h : AtG w g 94 (rxr s p o)) (hp : p ≤ s.size) (hs : s.size ≤ 900) (h94 : ch s p = 94) :
  Calls Tryz.prog 120 #[.pointer (some ⟨g,0,none⟩)] w (RxP g s o w (classF s p) (fun f => setOf f)) := by
 have HS := Lib.hid hs
 have HG := Lib.hid (show ¬ w.heap.size = g by have := h.lt;omega)
 have HA0 := Lib.hid (h.alloc (.cells (setC 0 0 0 0) 38))
 have HZ0 := Lib.hid (AtG.new w 38 (setC 0 0 0 0))
 have HO0 := Lib.hid ((Only.refl (S := fun k => k = g) w).al (.cells (setC 0 0 0 0) 38))
 have hp1 : p < s.size := ch_ge (by omega)
 obtain ⟨p0,hp0⟩ : ∃ p0,p0 = p + 1 := ⟨_,rfl⟩
 have HX := Lib.hid (show classF s p = clsE s true (itemF s p0) from by rw [hp0];exact if_pos h94)
 have HP := Lib.hid (show p0 ≤ s.size by omega)
 have HP0 := Lib.hid (show (p0 : Int) = (p : Int) + 1 by omega)
 have hpI : (p : Int) < 1000 := by omega
 have HIS := isX g s p o 94 _ HA0.out hp (by decide)
 rw [decide_eq_true h94] at HIS
 have HISH := Lib.hid HIS
 generalize classF s p = R at *
 clear h94 h hp HIS hp0 hp1
 go_enter Tryz.func120,Tryz.ntmps120
 go_wp2_with fail
 refine (HISH.out).mono ?_
 rintro e9 w1 ⟨rfl,hb⟩
 have HA1 := Lib.hid (HA0.out.below hb);have HZ1 := Lib.hid ((HZ0.out.below hb).far (p := ⟨g,1,none⟩) (fun e => HG.out e) (.int .i64 ((p : Int) + 1)));have HO1 := Lib.hid ((HO0.out.tb hb).st g 1 (.int .i64 ((p : Int) + 1)) (.inl rfl))
 have z1 : w1.cell? ⟨g,1,none⟩ = some (.int .i64 (p : Int)) := HA1.out.cell 1 _ rfl
 have y1 := HA1.out.frozen 1
 have HA2 : Hid (AtG (w1.setCell ⟨g,1,none⟩ (.int .i64 ((p : Int) + 1))) g 94 (rxr s (p0 : Int) o)) := Lib.hid (by
  rw [HP0.out];exact HA1.out.set 1 _)
 clear hb HISH HA0 HZ0 HO0
 go_upto_region 4 with (fail)
 obtain ⟨wq,hwq⟩ : ∃ wq : World,wq = w1.setCell ⟨g,1,none⟩ (.int .i64 ((p : Int) + 1)) := ⟨_,rfl⟩
 rw [← hwq] at HZ1 HO1 HA2 ⊢
 clear hwq z1 y1 HA1
 have HI0 := Lib.hid (itemX g s p0 o wq HA2.out HP.out HS.out)
 go_wp2_with fail
 refine (HI0.out).mono ?_
 cases hif : itemF s p0 with
 | no c x =>
  rw [hif] at HX
  rintro e9 w2 ⟨ho,b,rfl,hx⟩
  refine ⟨rfl,?_⟩
  rw [HX.out]
  exact ⟨HO1.out.tr ho,b,rfl,hx⟩
 | ok F0 q0 =>
  rw [hif] at HX
  have hin := itemF_in s p0 HP.out
  rw [hif] at hin
  have hq0 : p0 + 1 ≤ q0 ∧ q0 ≤ s.size := hin
  rintro e9 w2 ⟨ho,rfl,ha⟩
  have HO2 := Lib.hid (HO1.out.tr ho);have HA2 := Lib.hid ha;have HZ2 := Lib.hid (HZ1.out.only ho HG.out)
  have HQ0 := Lib.hid hq0
  clear ho ha hin hif hq0 HI0
  have HGS : Hid (w.heap.size ≠ w2.heap.size ∧ w2.heap.size ≠ g ∧ w.heap.size ≤ w2.heap.size ∧ g ≠ w2.heap.size) := Lib.hid (by
   have h1 := HZ2.out.lt
   have h2 := HA2.out.lt
   omega)
  unfold setOf
  go_upto_region 5 with (fail)
  obtain ⟨WL,hWL⟩ : ∃ WL : World,WL = w2.alloc (.cells (cellsOf F0) 38) := ⟨_,rfl⟩
  have hWL' : w2.alloc (.cells #[.int .u64 ((wd F0 0 : Nat) : Int),.int .u64 ((wd F0 1 : Nat) : Int),.int .u64 ((wd F0 2 : Nat) : Int),.int .u64 ((wd F0 3 : Nat) : Int)] 38) = WL := hWL.symm
  have HSL : Hid (AtG WL w2.heap.size 38 (cellsOf F0)) := Lib.hid (by rw [hWL];exact AtG.new _ _ _)
  have HAL : Hid (AtG WL g 94 (rxr s (q0 : Int) (o : Int))) := Lib.hid (by rw [hWL];exact HA2.out.alloc _)
  have HZL : Hid (AtG WL w.heap.size 38 (setC 0 0 0 0)) := Lib.hid (by rw [hWL];exact HZ2.out.alloc _)
  have HOL : Hid (Only (fun k => k = g) w WL) := Lib.hid (by rw [hWL];exact HO2.out.al _)
  rw [hWL']
  clear hWL hWL' HO2 HA2 HZ2
  go_loopw [] (fun wr => ∃ F : Nat → Bool,AtG wr w2.heap.size 38 (cellsOf F) ∧ AtG wr w.heap.size 38 (setC 0 0 0 0) ∧ Only (fun k => k = g) w wr ∧ ∃ q k : Nat,AtG wr g 94 (rxr s (q : Int) (o : Int)) ∧ q ≤ s.size ∧ s.size - q < k ∧ R = (clsF s k F q).map (negF true)) (fun wr => leftX s g wr)
  case atStart => exact ⟨F0,HSL.out,HZL.out,HOL.out,q0,s.size + 1,HAL.out,HQ0.out.2,by omega,by rw [HX.out];rfl⟩
  case round =>
   obtain ⟨F,hs9,hz9,ho9,q,k,ha9,hq9,hk9,hx9⟩ := hrel
   have HS9 := Lib.hid hs9;have HZ9 := Lib.hid hz9;have HO9 := Lib.hid ho9;have HA9 := Lib.hid ha9
   have HQ := Lib.hid hq9;have HK := Lib.hid hk9;have HX9 := Lib.hid hx9
   have HIS := isX g s q o 93 wr ha9 hq9 (by decide)
   clear hs9 hz9 ho9 ha9 hk9 hx9 HSL HAL HZL HOL HQ0
   obtain ⟨k',rfl⟩ : ∃ k',k = k' + 1 := ⟨k - 1,by have := HK.out;omega⟩
   have hcf : clsF s (k' + 1) F q = if ch s q = 93 then .ok F (q + 1) else match itemF s q with | .ok g q => clsF s k' (fun y => F y || g y) q | .no c x => .no c x := rfl
   by_cases h93 : ch s q = 93
   ·rw [if_pos h93] at hcf
    have HR : Hid (R = .ok (negF true F) (q + 1)) := Lib.hid (by rw [HX9.out,hcf];rfl)
    rw [decide_eq_true h93] at HIS
    have HIH := Lib.hid HIS
    have hqI : (q : Int) < 1000 := by have := HS.out;omega
    clear hcf h93 HIS hq9
    go_wp2_with fail
    refine (HIH.out).mono ?_
    rintro e9 w3 ⟨rfl,hb⟩
    have HA3 := Lib.hid (HA9.out.below hb);have HZ3 := Lib.hid ((HZ9.out.below hb).far (p := ⟨g,1,none⟩) (fun e => HG.out e) (.int .i64 ((q : Int) + 1)));have HS3 := Lib.hid ((HS9.out.below hb).far (p := ⟨g,1,none⟩) (fun e => HGS.out.2.1 e) (.int .i64 ((q : Int) + 1)))
    have HO3 := Lib.hid ((HO9.out.tb hb).st g 1 (.int .i64 ((q : Int) + 1)) (.inl rfl))
    have z1 : w3.cell? ⟨g,1,none⟩ = some (.int .i64 (q : Int)) := HA3.out.cell 1 _ rfl
    have y1 := HA3.out.frozen 1
    have HA4 : Hid (AtG (w3.setCell ⟨g,1,none⟩ (.int .i64 ((q : Int) + 1))) g 94 (rxr s ((q + 1 : Nat) : Int) o)) := Lib.hid (by
     rw [show ((q + 1 : Nat) : Int) = (q : Int) + 1 from by omega];exact HA3.out.set 1 _)
    clear hb HIH
    go_upto_region 8 with (fail)
    obtain ⟨wq,hwq⟩ : ∃ wq : World,wq = w3.setCell ⟨g,1,none⟩ (.int .i64 ((q : Int) + 1)) := ⟨_,rfl⟩
    rw [← hwq] at HZ3 HS3 HO3 HA4 ⊢
    clear hwq z1 y1 HA3
    have e0 : wq.cell? ⟨w2.heap.size,0,none⟩ = some (.int .u64 ((wd F 0 : Nat) : Int)) := HS3.out.cell 0 _ rfl
    have e1 : wq.cell? ⟨w2.heap.size,1,none⟩ = some (.int .u64 ((wd F 1 : Nat) : Int)) := HS3.out.cell 1 _ rfl
    have e2 : wq.cell? ⟨w2.heap.size,2,none⟩ = some (.int .u64 ((wd F 2 : Nat) : Int)) := HS3.out.cell 2 _ rfl
    have e3 : wq.cell? ⟨w2.heap.size,3,none⟩ = some (.int .u64 ((wd F 3 : Nat) : Int)) := HS3.out.cell 3 _ rfl
    go_wp2_with fail
    refine (not_any F _).mono ?_
    rintro e9 wn ⟨rfl,hb⟩
    have HAn := Lib.hid (HA4.out.below hb);have HZn := Lib.hid (HZ3.out.below hb);have HOn := Lib.hid (HO3.out.tb hb)
    clear hb e0 e1 e2 e3
    have d0 := (HZn.out).cell 0 _ rfl;have d1 := (HZn.out).cell 1 _ rfl;have d2 := (HZn.out).cell 2 _ rfl;have d3 := (HZn.out).cell 3 _ rfl
    have f0 := (HZn.out).frozen 0;have f1 := (HZn.out).frozen 1;have f2 := (HZn.out).frozen 2;have f3 := (HZn.out).frozen 3
    unfold setOf
    go_wp2_with fail
    refine bodyPost_ret (v := setOf (fun x => !F x)) (by simp [results,Tryz.results120,go_sem,d0,d1,d2,d3];try rfl) rfl ?_
    rw [HR.out]
    exact ⟨HOn.out.pS _ (fun x => !F x) (.inr (Nat.le_refl _)),rfl,putS_far HAn.out (fun e => HG.out e.symm) (fun x => !F x)⟩
   ·rw [if_neg h93] at hcf
    have HCF := Lib.hid hcf
    rw [decide_eq_false h93] at HIS
    have HIH := Lib.hid HIS
    have HLE := Lib.hid (leftX_ok HA9.out)
    clear hcf h93 HIS hq9
    go_wp2_with fail
    refine (HIH.out).mono ?_
    rintro e9 w3 ⟨rfl,hb⟩
    have HA3 := Lib.hid (HA9.out.below hb);have HZ3 := Lib.hid (HZ9.out.below hb);have HS3 := Lib.hid (HS9.out.below hb);have HO3 := Lib.hid (HO9.out.tb hb)
    clear hb HIH HA9 HZ9 HS9 HO9
    go_upto_region 6 with (fail)
    have hin := itemF_in s q HQ.out
    have HIT := Lib.hid (fun (w1 : World) (h1 : AtG w1 g 94 (rxr s q o)) => itemX g s q o w1 h1 HQ.out HS.out)
    cases hif : itemF s q with
    | ok G r =>
     rw [hif] at hin HCF HIT
     have HIN := Lib.hid (show q + 1 ≤ r ∧ r ≤ s.size from hin)
     clear hif hin
     refine RgX.start (by kernel_rfl) [(2,fun w5 w6 => Only (fun k => k = g) w5 w6),(4,fun w5 w6 => ∃ f,w6 = putS w5 w2.heap.size f)] [⟨fun w5 => AtG w5 w.heap.size 38 (setC 0 0 0 0) ∧ Only (fun k => k = g) w w5,none⟩,⟨fun w5 => AtG w5 g 94 (rxr s (q : Int) (o : Int)),some 2⟩,⟨fun w5 => AtG w5 w2.heap.size 38 (cellsOf F),some 4⟩] ⟨⟨fun _ _ h hb => ⟨h.1.below hb,h.2.tb hb⟩,⟨fun _ _ _ _ => (fun w5 w6 h he => ⟨h.1.only he HG.out,h.2.tr he⟩),fun _ _ _ _ => (fun w5 w6 h he => by obtain ⟨f,rfl⟩ := he;exact ⟨putS_far h.1 HGS.out.1 _,h.2.pS _ _ (.inr HGS.out.2.2.1)⟩),trivial⟩⟩,⟨fun _ _ h hb => h.below hb,⟨fun _ h _ _ => absurd rfl h,fun _ _ h _ => absurd ⟨2,1,rfl,rfl⟩ h,trivial⟩⟩,⟨fun _ _ h hb => h.below hb,⟨fun _ _ _ _ => (fun w5 w6 h he => h.only he HGS.out.2.1),fun _ h _ _ => absurd rfl h,trivial⟩⟩,trivial⟩ (by kernel_rfl) (by kernel_rfl) ⟨⟨HZ3.out.drew,HO3.out.drew⟩,HA3.out.drew,HS3.out.drew,trivial⟩ ?_
     show RgX.Build _ _ _ _ _ _ 0 [_,_,_,_,_] []
     refine RgX.cp 1 rfl rfl (by intro ax wx hk Kx hK;have k4 := hk.base 4 _ rfl rfl;have hL := hk.fact 0 0 _ rfl rfl;(try dsimp only at hL);have hs := hk.fact 2 1 _ rfl rfl;(try dsimp only at hs);clear hk;have z0 : wx.cell? ⟨w2.heap.size,0,none⟩ = some (.int .u64 ((wd F 0 : Nat) : Int)) := hs.cell 0 _ rfl;have z1 : wx.cell? ⟨w2.heap.size,1,none⟩ = some (.int .u64 ((wd F 1 : Nat) : Int)) := hs.cell 1 _ rfl;have z2 : wx.cell? ⟨w2.heap.size,2,none⟩ = some (.int .u64 ((wd F 2 : Nat) : Int)) := hs.cell 2 _ rfl;have z3 : wx.cell? ⟨w2.heap.size,3,none⟩ = some (.int .u64 ((wd F 3 : Nat) : Int)) := hs.cell 3 _ rfl;go_simp;exact hK _ _ (fun h => by cases h) (fun _ _ => rfl) (Below.refl _ _)) ?_
     refine RgX.cp 2 rfl rfl (by intro ax wx hk Kx hK;have k0 := hk.base 0 _ rfl rfl;have hL := hk.fact 0 0 _ rfl rfl;(try dsimp only at hL);have hg := hk.fact 1 1 _ rfl rfl;(try dsimp only at hg);have hs := hk.fact 2 1 _ rfl rfl;(try dsimp only at hs);clear hk;go_simp;exact hK _ _ (fun h => by cases h) (fun _ _ => rfl) (Below.refl _ _)) ?_
     refine RgX.build_cons (m := 3) (r := (⟨fun v _ w5 => v = setOf G ∧ AtG w5 g 94 (rxr s (r : Int) (o : Int)),none,none⟩ : RgX.Rl)) (RgX.one_plain rfl (by intro ax wx hk Kx hK;have k21 := hk.e 0 1 21 rfl rfl rfl;have hL := hk.fact 0 0 _ rfl rfl;(try dsimp only at hL);have hg := hk.fact 1 0 _ rfl rfl;(try dsimp only at hg);have hs := hk.fact 2 1 _ rfl rfl;(try dsimp only at hs);clear hk;go_simp;refine (HIT.out _ hg).mono ?_;rintro e w' ⟨hO5,rfl,hS5⟩;exact hK _ _ (fun h => by cases h) (fun _ _ => ⟨rfl,hS5⟩) hO5)) ?_ rfl (RgX.keep_r (fun _ _ _ _ h hb => ⟨h.1,h.2.below hb⟩) (fun _ _ => ⟨fun h _ _ _ => absurd rfl h,fun _ _ _ _ => (fun w5 w6 h he => by obtain ⟨f,rfl⟩ := he;exact ⟨h.1,putS_far h.2 HGS.out.2.2.2 _⟩),trivial⟩)) (fun _ h => by cases h)
     refine RgX.cp 4 rfl rfl (by intro ax wx hk Kx hK;have k20 := hk.e 0 0 20 rfl rfl rfl;obtain ⟨v22,k22,h22⟩ := hk.dep 0 2 22 _ rfl rfl rfl;(first | (replace h22 := h22 9 undef rfl rfl;first | (cases (h22 : v22 = _)) | (obtain ⟨rfl,h22⟩ := h22) | skip) | skip);have hL := hk.fact 0 0 _ rfl rfl;(try dsimp only at hL);have hs := hk.fact 2 1 _ rfl rfl;(try dsimp only at hs);clear hk;go_simp;refine (or_any F G _).mono ?_;rintro e w' ⟨rfl,hb⟩;refine hK _ _ (fun h => by cases h) (fun _ _ => ?_) hb;apply RgX.mk) ?_
     refine RgX.build_cons (m := 5) (r := (⟨fun _ _ w5 => AtG w5 w2.heap.size 38 (cellsOf fun x => F x || G x),none,none⟩ : RgX.Rl)) (RgX.one_plain rfl (by intro ax wx hk Kx hK;have k4 := hk.base 4 _ rfl rfl;have k23 := hk.e 0 3 23 rfl rfl rfl;have hL := hk.fact 0 0 _ rfl rfl;(try dsimp only at hL);have hs := hk.fact 2 0 _ rfl rfl;(try dsimp only at hs);clear hk;(have d0 : wx.cell? ⟨w2.heap.size,0,none⟩ = some (.int .u64 ((wd F 0 : Nat) : Int)) := hs.cell 0 _ rfl;have d1 : wx.cell? ⟨w2.heap.size,1,none⟩ = some (.int .u64 ((wd F 1 : Nat) : Int)) := hs.cell 1 _ rfl;have d2 : wx.cell? ⟨w2.heap.size,2,none⟩ = some (.int .u64 ((wd F 2 : Nat) : Int)) := hs.cell 2 _ rfl;have d3 : wx.cell? ⟨w2.heap.size,3,none⟩ = some (.int .u64 ((wd F 3 : Nat) : Int)) := hs.cell 3 _ rfl;have f0 := hs.frozen 0;have f1 := hs.frozen 1;have f2 := hs.frozen 2;have f3 := hs.frozen 3;unfold setOf at k23;go_simp;exact hK undef _ (fun _ => rfl) (fun u hu => putS_at hs _) ⟨_,rfl⟩))) ?_ rfl (RgX.keep_r (fun _ _ _ _ h hb => h.below hb) (fun _ _ => ⟨fun _ _ _ h => absurd ⟨1,rfl⟩ h,fun h _ _ _ => absurd rfl h,trivial⟩)) (fun _ h => by cases h)
     refine RgX.build_end fun wx hj => ?_
     have hL := hj 0 _ rfl rfl
     clear hj
     iterate 2 refine RgX.fin_eq rfl ?_
     first | refine RgX.fin_eq rfl ?_ | refine RgX.fin_any rfl fun v22 h22 => ?_
     refine RgX.fin_eq rfl ?_
     refine RgX.fin_none rfl fun s4 => ?_
     refine RgX.fin_nil ?_
     simp only [List.set_cons_zero,List.set_cons_succ]
     have hS5 := (h22 rfl undef rfl).2
     have hs5 := s4 rfl undef rfl
     clear h22 s4
     have HL := Lib.hid hL;have H5 := Lib.hid hS5;have H6 := Lib.hid hs5
     clear hL hS5 hs5
     go_wp2_with fail
     refine ⟨⟨_,H6.out,HL.out.1,HL.out.2,r,k',H5.out,HIN.out.2,by have := HIN.out.1;have := HIN.out.2;have := HK.out;omega,by rw [HX9.out,HCF.out]⟩,?_⟩
     rw [leftX_ok H5.out,HLE.out]
     have := HIN.out.1;have := HIN.out.2;omega
    | no c x =>
     rw [hif] at HCF HIT
     have HR : Hid (R = .no c x) := Lib.hid (by rw [HX9.out,HCF.out];rfl)
     have z0 : w3.drew.cell? ⟨w2.heap.size,0,none⟩ = some (.int .u64 ((wd F 0 : Nat) : Int)) := HS3.out.drew.cell 0 _ rfl
     have z1 : w3.drew.cell? ⟨w2.heap.size,1,none⟩ = some (.int .u64 ((wd F 1 : Nat) : Int)) := HS3.out.drew.cell 1 _ rfl
     have z2 : w3.drew.cell? ⟨w2.heap.size,2,none⟩ = some (.int .u64 ((wd F 2 : Nat) : Int)) := HS3.out.drew.cell 2 _ rfl
     have z3 : w3.drew.cell? ⟨w2.heap.size,3,none⟩ = some (.int .u64 ((wd F 3 : Nat) : Int)) := HS3.out.drew.cell 3 _ rfl
     have HIP := Lib.hid (HIT.out _ HA3.out.drew)
     have HO4 := Lib.hid HO3.out.drew
     clear hif hin HIT HX9 HCF HK HQ HLE
     refine wp_region_any (by kernel_rfl) ?_
     show wpAny _ _ _ _ (4 + 1) _ _ _
     refine any_step [0,1] (by kernel_rfl) (by simp) ?_
     intro i hi
     have hi' : i = 0 ∨ i = 1 := by simpa using hi
     clear hi
     rcases hi' with rfl | rfl
     ·refine ⟨_,rfl,rfl,?_⟩
      go_simp
      show wpAny _ _ _ _ (3 + 1) _ _ _
      refine any_step [1] (by kernel_rfl) (by simp) ?_
      intro i hi
      obtain rfl : i = 1 := by simpa using hi
      refine ⟨_,rfl,rfl,?_⟩
      go_simp
      show wpAny _ _ _ _ (2 + 1) _ _ _
      refine any_step [2] (by kernel_rfl) (by simp) ?_
      intro i hi
      obtain rfl : i = 2 := by simpa using hi
      refine ⟨_,rfl,rfl,?_⟩
      go_simp
      refine (HIP.out).mono ?_
      rintro e9 w4 ⟨ho,b,rfl,hx⟩
      refine ⟨rfl,?_⟩
      rw [HR.out]
      exact ⟨HO4.out.tr ho,b,rfl,hx⟩
     ·refine ⟨_,rfl,rfl,?_⟩
      go_simp
      show wpAny _ _ _ _ (3 + 1) _ _ _
      refine any_step [0,2] (by kernel_rfl) (by simp) ?_
      intro i hi
      have hi' : i = 0 ∨ i = 2 := by simpa using hi
      clear hi
      rcases hi' with rfl | rfl
      ·refine ⟨_,rfl,rfl,?_⟩
       go_simp
       show wpAny _ _ _ _ (2 + 1) _ _ _
       refine any_step [2] (by kernel_rfl) (by simp) ?_
       intro i hi
       obtain rfl : i = 2 := by simpa using hi
       refine ⟨_,rfl,rfl,?_⟩
       go_simp
       refine (HIP.out).mono ?_
       rintro e9 w4 ⟨ho,b,rfl,hx⟩
       refine ⟨rfl,?_⟩
       rw [HR.out]
       exact ⟨HO4.out.tr ho,b,rfl,hx⟩
      ·refine ⟨_,rfl,rfl,?_⟩
       go_simp
       refine (HIP.out).mono ?_
       rintro e9 w4 ⟨ho,b,rfl,hx⟩
       refine ⟨rfl,?_⟩
       rw [HR.out]
       exact ⟨HO4.out.tr ho,b,rfl,hx⟩
theorem classX (g : Nat) (s : ByteArray) (p o : Nat) (w : World) (h : AtG w g 94 (rxr s p o)) (hp : p ≤ s.size) (hs : s.size ≤ 900) :
  Calls Tryz.prog 120 #[.pointer (some ⟨g,0,none⟩)] w (RxP g s o w (classF s p) (fun f => setOf f)) := by
 by_cases h94 : ch s p = 94
 ·exact classX_neg g s p o w h hp hs h94
 ·exact classX_no g s p o w h hp hs h94
end Go.Proofs.YtgjcibhhffkemaaGreatDoor
namespace Go.Proofs.YtgjcibhhffkemaaGreatDoor
open Go.RowKit Bt
def RxN (g : Nat) (s : ByteArray) (o : Nat) (w : World) (R : Re Tree) (e : Ending) (w' : World) : Prop :=
 Only (fun k => k = g) w w' ∧ match R with
  | .ok t q => ∃ kv,e = .returned (nodeV t kv) ∧ KAt (Iv w.heap.size w'.heap.size) w' t kv ∧ AtG w' g 94 (rxr s (q : Int) (o : Int))
  | .no c x => RxNo c x e w'
theorem rxn_post {s : ByteArray} {g o q : Nat} {w wn : World} {op : Int} {f : Nat → Bool} {mn mx : Int} {kids : List Tree} {kv : Value}
  (hO : Only (fun k => k = g) w wn) (hA : AtG wn g 94 (rxr s (q : Int) (o : Int))) (hg : ¬ w.heap.size = g) (hl : w.heap.size < wn.heap.size) (hK : KAt (Iv (w.heap.size + 1) wn.heap.size) wn (.node op f mn mx kids) kv) :
  RxN g s o w (.ok (.node op f mn mx kids) q) (.returned (nodeV (.node op f mn mx kids) kv)) (putN wn w.heap.size op f mn mx kv) := by
 refine ⟨hO.pN _ (.inr (Nat.le_refl _)) _ _ _ _ _,kv,rfl,?_,putN_far hA (fun e => hg e.symm) _ _ _ _ _⟩
 rw [putN_size]
 exact KAt.keep (fun b hb => putN_block _ _ _ _ _ _ _ b (by have := hb.1;omega) hb.2) (fun b hb => ⟨by have := hb.1;omega,hb.2⟩) _ _ hK
set_option maxRecDepth 100000 in
theorem oneX (f : Nat → Bool) (w : World) : Calls Tryz.prog 119 #[setOf f] w fun e w' => e = .returned (nodeV (one f) (.slice none 0 0)) ∧ Below w.heap.size w w' := by
 unfold setOf
 go_enter Tryz.func119,Tryz.ntmps119
 go_wp2
 go_returns
 exact ⟨rfl,by go_grown⟩
set_option maxRecDepth 100000 in
set_option maxHeartbeats 3200000 in
theorem atomX (g : Nat) (s : ByteArray) (p o : Nat) (w : World) (h : AtG w g 94 (rxr s p o)) (hp : p ≤ s.size) (hs : s.size ≤ 900) (h40 : ¬ ch s p = 40) :
  Calls Tryz.prog 106 #[.pointer (some ⟨g,0,none⟩)] w (RxN g s o w (atomF s p)) := by
 have HS := Lib.hid hs
 have HG := Lib.hid (show ¬ w.heap.size = g by have := h.lt;omega)
 have HA0 := Lib.hid (h.alloc (.cells nodeZ 41))
 have HZ0 := Lib.hid (AtG.new w 41 nodeZ)
 have HO0 := Lib.hid ((Only.refl (S := fun k => k = g) w).al (.cells nodeZ 41))
 by_cases hlt : p < s.size
 ·have hl0 := ch_pos hlt
  have hl2 := (ch_lt s p).2
  have hpI : (p : Int) < 1000 := by omega
  have HPL := Lib.hid hlt
  have HN := Lib.hid (nextX_in g s p o _ HA0.out hlt (by omega))
  have HF := Lib.hid (show atomF s p = if ch s p = 91 then (classF s (p + 1)).map one
 else if ch s p = 46 then .ok (one fun y => !(y == 10)) (p + 1)
 else if ch s p = 92 then (match wideF (ch s (p + 1)) with | some f => .ok (one f) (p + 2) | none => (escF s (p + 1)).map fun c => one (fun y => y == c))
 else if ch s p = 42 ∨ ch s p = 43 then .no 3 p
 else if ch s p ∈ brk then .no 2 p
 else .ok (one fun y => y == (ch s p).toNat) (p + 1) from by unfold atomF;rw [if_neg (by omega)];rfl)
  generalize atomF s p = R at *
  generalize ch s p = d at *
  have e40 : (d == 40) = false := by rw [beq_eq_false_iff_ne];exact h40
  clear h hlt hp
  go_enter Tryz.func106,Tryz.ntmps106
  go_wp2_with fail
  refine (HN.out).mono ?_
  rintro e9 w1 ⟨rfl,ho,ha⟩
  have HA1 := Lib.hid ha;have HZ1 := Lib.hid (HZ0.out.only ho HG.out);have HO1 := Lib.hid (HO0.out.tr ho)
  clear ho ha HN HA0 HZ0 HO0
  by_cases h91 : d = 91
  ·have HR1 := Lib.hid (HF.out.trans (if_pos h91))
   have HC := Lib.hid (classX g s (p + 1) o w1 HA1.out HPL.out HS.out)
   subst h91
   clear HF e40
   go_wp2_with fail
   refine (HC.out).mono ?_
   cases hcf : classF s (p + 1) with
   | no c x =>
    rw [hcf] at HR1
    rintro e9 w2 ⟨ho,b,rfl,hx⟩
    refine ⟨rfl,?_⟩
    rw [HR1.out]
    exact ⟨HO1.out.tr ho,b,rfl,hx⟩
   | ok F q =>
    rw [hcf] at HR1
    have HR := Lib.hid (show R = .ok (one F) q from HR1.out)
    rintro e9 w2 ⟨ho,rfl,ha⟩
    have HA2 := Lib.hid ha;have HZ2 := Lib.hid (HZ1.out.only ho HG.out);have HO2 := Lib.hid (HO1.out.tr ho)
    clear ho ha hcf HC HR1 HA1 HZ1 HO1
    go_wp2_with fail
    refine (oneX (F) _).mono ?_
    rintro e9 wn ⟨rfl,hb⟩
    have HAn := Lib.hid (HA2.out.below hb);have HZn := Lib.hid (HZ2.out.below hb);have HOn := Lib.hid (HO2.out.tb hb)
    have HSZ := Lib.hid (show w.heap.size < wn.heap.size from HZn.out.lt)
    clear hb
    have d0 : wn.cell? ⟨w.heap.size,0,none⟩ = some (.int .i64 0) := (HZn.out).cell 0 _ rfl
    have d1 : wn.cell? ⟨w.heap.size,1,none⟩ = some (.int .u64 0) := (HZn.out).cell 1 _ rfl
    have d2 : wn.cell? ⟨w.heap.size,2,none⟩ = some (.int .u64 0) := (HZn.out).cell 2 _ rfl
    have d3 : wn.cell? ⟨w.heap.size,3,none⟩ = some (.int .u64 0) := (HZn.out).cell 3 _ rfl
    have d4 : wn.cell? ⟨w.heap.size,4,none⟩ = some (.int .u64 0) := (HZn.out).cell 4 _ rfl
    have d5 : wn.cell? ⟨w.heap.size,5,none⟩ = some (.int .i64 0) := (HZn.out).cell 5 _ rfl
    have d6 : wn.cell? ⟨w.heap.size,6,none⟩ = some (.int .i64 0) := (HZn.out).cell 6 _ rfl
    have d7 : wn.cell? ⟨w.heap.size,7,none⟩ = some (.slice none 0 0) := (HZn.out).cell 7 _ rfl
    have f0 := (HZn.out).frozen 0;have f1 := (HZn.out).frozen 1;have f2 := (HZn.out).frozen 2;have f3 := (HZn.out).frozen 3
    have f4 := (HZn.out).frozen 4;have f5 := (HZn.out).frozen 5;have f6 := (HZn.out).frozen 6;have f7 := (HZn.out).frozen 7
    unfold nodeV one
    dsimp only
    go_wp2_with fail
    refine bodyPost_ret (v := nodeV (one (F)) (.slice none 0 0)) (by simp [results,Tryz.results106,go_sem,d0,d1,d2,d3,d4,d5,d6,d7];try rfl) rfl ?_
    rw [HR.out]
    exact rxn_post HOn.out HAn.out HG.out HSZ.out (kat_one _ _ _ _ _ _)
  have e91 : (d == 91) = false := by rw [beq_eq_false_iff_ne];exact h91
  have HF1 := Lib.hid (HF.out.trans (if_neg h91))
  clear HF
  by_cases h46 : d = 46
  ·have HR := Lib.hid (HF1.out.trans (if_pos h46))
   subst h46
   clear HF1 e40 e91
   have HOF := Lib.hid (ofP _ (w1).heap.size (10) (by decide) (by decide) (AtG.new (w1) 5 #[.int .u8 (10)]))
   go_wp2_with fail
   refine (HOF.out).mono ?_
   rintro e9 wo ⟨rfl,hb⟩
   have HAo := Lib.hid ((HA1.out.alloc _).below hb);have HZo := Lib.hid ((HZ1.out.alloc _).below hb);have HOo := Lib.hid ((HO1.out.al (.cells #[.int .u8 (10)] 5)).tb hb)
   clear hb HOF
   go_wp2_with fail
   refine (not_any _ _).mono ?_
   rintro e9 wp ⟨rfl,hb⟩
   have HAp := Lib.hid (HAo.out.below hb);have HZp := Lib.hid (HZo.out.below hb);have HOp := Lib.hid (HOo.out.tb hb)
   clear hb HAo HZo HOo
   go_wp2_with fail
   refine (oneX (fun y => !(y == 10)) _).mono ?_
   rintro e9 wn ⟨rfl,hb⟩
   have HAn := Lib.hid (HAp.out.below hb);have HZn := Lib.hid (HZp.out.below hb);have HOn := Lib.hid (HOp.out.tb hb)
   have HSZ := Lib.hid (show w.heap.size < wn.heap.size from HZn.out.lt)
   clear hb
   have d0 : wn.cell? ⟨w.heap.size,0,none⟩ = some (.int .i64 0) := (HZn.out).cell 0 _ rfl
   have d1 : wn.cell? ⟨w.heap.size,1,none⟩ = some (.int .u64 0) := (HZn.out).cell 1 _ rfl
   have d2 : wn.cell? ⟨w.heap.size,2,none⟩ = some (.int .u64 0) := (HZn.out).cell 2 _ rfl
   have d3 : wn.cell? ⟨w.heap.size,3,none⟩ = some (.int .u64 0) := (HZn.out).cell 3 _ rfl
   have d4 : wn.cell? ⟨w.heap.size,4,none⟩ = some (.int .u64 0) := (HZn.out).cell 4 _ rfl
   have d5 : wn.cell? ⟨w.heap.size,5,none⟩ = some (.int .i64 0) := (HZn.out).cell 5 _ rfl
   have d6 : wn.cell? ⟨w.heap.size,6,none⟩ = some (.int .i64 0) := (HZn.out).cell 6 _ rfl
   have d7 : wn.cell? ⟨w.heap.size,7,none⟩ = some (.slice none 0 0) := (HZn.out).cell 7 _ rfl
   have f0 := (HZn.out).frozen 0;have f1 := (HZn.out).frozen 1;have f2 := (HZn.out).frozen 2;have f3 := (HZn.out).frozen 3
   have f4 := (HZn.out).frozen 4;have f5 := (HZn.out).frozen 5;have f6 := (HZn.out).frozen 6;have f7 := (HZn.out).frozen 7
   unfold nodeV one
   dsimp only
   go_wp2_with fail
   refine bodyPost_ret (v := nodeV (one (fun y => !(y == 10))) (.slice none 0 0)) (by simp [results,Tryz.results106,go_sem,d0,d1,d2,d3,d4,d5,d6,d7];try rfl) rfl ?_
   rw [HR.out]
   exact rxn_post HOn.out HAn.out HG.out HSZ.out (kat_one _ _ _ _ _ _)
  have e46 : (d == 46) = false := by rw [beq_eq_false_iff_ne];exact h46
  have HF2 := Lib.hid (HF1.out.trans (if_neg h46))
  clear HF1
  by_cases h92 : d = 92
  ·have HR1 := Lib.hid (HF2.out.trans (if_pos h92))
   subst h92
   clear HF2 e40 e91 e46
   by_cases hq : p + 1 < s.size
   ·have HPK := Lib.hid (peekX_in g s (p + 1) o w1 HA1.out hq)
    have HWD := Lib.hid (wideX (ch s (p + 1)))
    cases hwd : wideF (ch s (p + 1)) with
    | some F =>
     have hwv : wideV (ch s (p + 1)) = .tuple #[setOf F,.bool true] := by unfold wideV;rw [hwd]
     rw [hwv] at HWD
     rw [hwd] at HR1
     have HR := Lib.hid (show R = .ok (one F) (p + 2) from HR1.out)
     generalize ch s (p + 1) = c1 at *
     clear hwd hwv HR1 hq
     go_wp2_with fail
     refine (HPK.out).mono ?_
     rintro e9 w2 ⟨rfl,hb⟩
     have HA2 := Lib.hid (HA1.out.below hb);have HZ2 := Lib.hid (HZ1.out.below hb);have HO2 := Lib.hid (HO1.out.tb hb)
     clear hb HPK HA1 HZ1 HO1
     go_wp2_with fail
     refine (HWD.out _).mono ?_
     rintro e9 w3 ⟨rfl,hb⟩
     have HA3 := Lib.hid (HA2.out.below hb);have HZ3 := Lib.hid (HZ2.out.below hb);have HO3 := Lib.hid (HO2.out.tb hb)
     clear hb HWD HA2 HZ2 HO2
     unfold setOf
     go_upto_region 14 with (fail)
     obtain ⟨W,hW⟩ : ∃ W : World,W = w3.alloc (.cells (cellsOf F) 38) := ⟨_,rfl⟩
     have hW' : w3.alloc (.cells #[.int .u64 ((wd F 0 : Nat) : Int),.int .u64 ((wd F 1 : Nat) : Int),.int .u64 ((wd F 2 : Nat) : Int),.int .u64 ((wd F 3 : Nat) : Int)] 38) = W := hW.symm
     have HSW : Hid (AtG W w3.heap.size 38 (cellsOf F)) := Lib.hid (by rw [hW];exact AtG.new _ _ _)
     have HAW : Hid (AtG W g 94 (rxr s ((p + 1 : Nat) : Int) (o : Int))) := Lib.hid (by rw [hW];exact HA3.out.alloc _)
     have HZW : Hid (AtG W w.heap.size 41 nodeZ) := Lib.hid (by rw [hW];exact HZ3.out.alloc _)
     have HOW : Hid (Only (fun k => k = g) w W) := Lib.hid (by rw [hW];exact HO3.out.al _)
     have HGW : Hid (w3.heap.size ≠ g) := Lib.hid (by have := HA3.out.lt;omega)
     rw [hW']
     clear hW hW' HA3 HZ3 HO3
     have z1 : W.cell? ⟨g,1,none⟩ = some (.int .i64 ((p + 1 : Nat) : Int)) := HAW.out.cell 1 _ rfl
     rw [show ((p + 1 : Nat) : Int) = (p : Int) + 1 from by omega] at z1
     have y1 := HAW.out.frozen 1
     have HA4 : Hid (AtG (W.setCell ⟨g,1,none⟩ (.int .i64 ((p : Int) + 1 + 1))) g 94 (rxr s ((p + 2 : Nat) : Int) o)) := Lib.hid (by
      rw [show ((p + 2 : Nat) : Int) = (p : Int) + 1 + 1 from by omega];exact HAW.out.set 1 _)
     have HZ4 := Lib.hid (HZW.out.far (p := ⟨g,1,none⟩) (fun e => HG.out e) (.int .i64 ((p : Int) + 1 + 1)))
     have HS4 := Lib.hid (HSW.out.far (p := ⟨g,1,none⟩) (fun e => HGW.out e) (.int .i64 ((p : Int) + 1 + 1)))
     have HO4 := Lib.hid (HOW.out.st g 1 (.int .i64 ((p : Int) + 1 + 1)) (.inl rfl))
     go_upto_region 15 with (fail)
     have hst : ∀ x : Int,x = (p : Int) + 1 + 1 → W.setCell ⟨g,1,none⟩ (.int .i64 x) = W.setCell ⟨g,1,none⟩ (.int .i64 ((p : Int) + 1 + 1)) := fun x hx => by rw [hx]
     obtain ⟨wq,hwq⟩ : ∃ wq : World,wq = W.setCell ⟨g,1,none⟩ (.int .i64 ((p : Int) + 1 + 1)) := ⟨_,rfl⟩
     first | rw [← hwq] | (rw [hst _ (by omega),← hwq])
     rw [← hwq] at HA4 HZ4 HS4 HO4
     clear hwq hst z1 y1 HAW HZW HSW HOW
     have t0 : wq.cell? ⟨w3.heap.size,0,none⟩ = some (.int .u64 ((wd F 0 : Nat) : Int)) := HS4.out.cell 0 _ rfl
     have t1 : wq.cell? ⟨w3.heap.size,1,none⟩ = some (.int .u64 ((wd F 1 : Nat) : Int)) := HS4.out.cell 1 _ rfl
     have t2 : wq.cell? ⟨w3.heap.size,2,none⟩ = some (.int .u64 ((wd F 2 : Nat) : Int)) := HS4.out.cell 2 _ rfl
     have t3 : wq.cell? ⟨w3.heap.size,3,none⟩ = some (.int .u64 ((wd F 3 : Nat) : Int)) := HS4.out.cell 3 _ rfl
     go_wp2_with fail
     refine (oneX (F) _).mono ?_
     rintro e9 wn ⟨rfl,hb⟩
     have HAn := Lib.hid (HA4.out.below hb);have HZn := Lib.hid (HZ4.out.below hb);have HOn := Lib.hid (HO4.out.tb hb)
     have HSZ := Lib.hid (show w.heap.size < wn.heap.size from HZn.out.lt)
     clear hb
     have d0 : wn.cell? ⟨w.heap.size,0,none⟩ = some (.int .i64 0) := (HZn.out).cell 0 _ rfl
     have d1 : wn.cell? ⟨w.heap.size,1,none⟩ = some (.int .u64 0) := (HZn.out).cell 1 _ rfl
     have d2 : wn.cell? ⟨w.heap.size,2,none⟩ = some (.int .u64 0) := (HZn.out).cell 2 _ rfl
     have d3 : wn.cell? ⟨w.heap.size,3,none⟩ = some (.int .u64 0) := (HZn.out).cell 3 _ rfl
     have d4 : wn.cell? ⟨w.heap.size,4,none⟩ = some (.int .u64 0) := (HZn.out).cell 4 _ rfl
     have d5 : wn.cell? ⟨w.heap.size,5,none⟩ = some (.int .i64 0) := (HZn.out).cell 5 _ rfl
     have d6 : wn.cell? ⟨w.heap.size,6,none⟩ = some (.int .i64 0) := (HZn.out).cell 6 _ rfl
     have d7 : wn.cell? ⟨w.heap.size,7,none⟩ = some (.slice none 0 0) := (HZn.out).cell 7 _ rfl
     have f0 := (HZn.out).frozen 0;have f1 := (HZn.out).frozen 1;have f2 := (HZn.out).frozen 2;have f3 := (HZn.out).frozen 3
     have f4 := (HZn.out).frozen 4;have f5 := (HZn.out).frozen 5;have f6 := (HZn.out).frozen 6;have f7 := (HZn.out).frozen 7
     unfold nodeV one
     dsimp only
     go_wp2_with fail
     refine bodyPost_ret (v := nodeV (one (F)) (.slice none 0 0)) (by simp [results,Tryz.results106,go_sem,d0,d1,d2,d3,d4,d5,d6,d7];try rfl) rfl ?_
     rw [HR.out]
     exact rxn_post HOn.out HAn.out HG.out HSZ.out (kat_one _ _ _ _ _ _)
    | none =>
     have hwv : wideV (ch s (p + 1)) = .tuple #[setOf emp,.bool false] := by unfold wideV;rw [hwd]
     rw [hwv] at HWD
     rw [hwd] at HR1
     dsimp only at HR1
     generalize ch s (p + 1) = c1 at *
     clear hwd hwv hq
     go_wp2_with fail
     refine (HPK.out).mono ?_
     rintro e9 w2 ⟨rfl,hb⟩
     have HA2 := Lib.hid (HA1.out.below hb);have HZ2 := Lib.hid (HZ1.out.below hb);have HO2 := Lib.hid (HO1.out.tb hb)
     clear hb HPK HA1 HZ1 HO1
     go_wp2_with fail
     refine (HWD.out _).mono ?_
     rintro e9 w3 ⟨rfl,hb⟩
     have HA3 := Lib.hid (HA2.out.below hb);have HZ3 := Lib.hid (HZ2.out.below hb);have HO3 := Lib.hid (HO2.out.tb hb)
     clear hb HWD HA2 HZ2 HO2
     unfold setOf
     go_upto_region 16 with (fail)
     obtain ⟨W,hW⟩ : ∃ W : World,W = w3.alloc (.cells (cellsOf emp) 38) := ⟨_,rfl⟩
     have hW' : w3.alloc (.cells #[.int .u64 ((wd emp 0 : Nat) : Int),.int .u64 ((wd emp 1 : Nat) : Int),.int .u64 ((wd emp 2 : Nat) : Int),.int .u64 ((wd emp 3 : Nat) : Int)] 38) = W := hW.symm
     have HAW : Hid (AtG W g 94 (rxr s ((p + 1 : Nat) : Int) (o : Int))) := Lib.hid (by rw [hW];exact HA3.out.alloc _)
     have HZW : Hid (AtG W w.heap.size 41 nodeZ) := Lib.hid (by rw [hW];exact HZ3.out.alloc _)
     have HOW : Hid (Only (fun k => k = g) w W) := Lib.hid (by rw [hW];exact HO3.out.al _)
     rw [hW']
     clear hW hW' HA3 HZ3 HO3
     have HEC := Lib.hid (escX g s (p + 1) o W HAW.out HPL.out HS.out)
     go_wp2_with fail
     refine (HEC.out).mono ?_
     cases hef : escF s (p + 1) with
     | no c x =>
      rw [hef] at HR1
      rintro e9 w3 ⟨ho,b,rfl,hx⟩
      refine ⟨rfl,?_⟩
      rw [HR1.out]
      exact ⟨HOW.out.tr ho,b,rfl,hx⟩
     | ok c q =>
      rw [hef] at HR1
      have HR := Lib.hid (show R = .ok (one fun y => y == c) q from HR1.out)
      have hin := escF_in s (p + 1) HPL.out
      rw [hef] at hin
      have hc : c < 256 := hin.2 c q rfl
      have hcI : (c : Int) < 256 := by omega
      rintro e9 w3 ⟨ho,rfl,ha⟩
      have HA3 := Lib.hid ha;have HZ3 := Lib.hid (HZW.out.only ho HG.out);have HO3 := Lib.hid (HOW.out.tr ho)
      clear ho ha hin hef HEC HR1 hc
      have HOF := Lib.hid (ofP _ w3.heap.size (c : Int) (by omega) hcI (AtG.new w3 5 #[.int .u8 (c : Int)]))
      rw [Int.toNat_natCast] at HOF
      go_wp2_with fail
      refine (HOF.out).mono ?_
      rintro e9 wo ⟨rfl,hb⟩
      have HAo := Lib.hid ((HA3.out.alloc _).below hb);have HZo := Lib.hid ((HZ3.out.alloc _).below hb);have HOo := Lib.hid ((HO3.out.al (.cells #[.int .u8 (c : Int)] 5)).tb hb)
      clear hb HOF
      go_wp2_with fail
      refine (oneX (fun y => y == c) _).mono ?_
      rintro e9 wn ⟨rfl,hb⟩
      have HAn := Lib.hid (HAo.out.below hb);have HZn := Lib.hid (HZo.out.below hb);have HOn := Lib.hid (HOo.out.tb hb)
      have HSZ := Lib.hid (show w.heap.size < wn.heap.size from HZn.out.lt)
      clear hb
      have d0 : wn.cell? ⟨w.heap.size,0,none⟩ = some (.int .i64 0) := (HZn.out).cell 0 _ rfl
      have d1 : wn.cell? ⟨w.heap.size,1,none⟩ = some (.int .u64 0) := (HZn.out).cell 1 _ rfl
      have d2 : wn.cell? ⟨w.heap.size,2,none⟩ = some (.int .u64 0) := (HZn.out).cell 2 _ rfl
      have d3 : wn.cell? ⟨w.heap.size,3,none⟩ = some (.int .u64 0) := (HZn.out).cell 3 _ rfl
      have d4 : wn.cell? ⟨w.heap.size,4,none⟩ = some (.int .u64 0) := (HZn.out).cell 4 _ rfl
      have d5 : wn.cell? ⟨w.heap.size,5,none⟩ = some (.int .i64 0) := (HZn.out).cell 5 _ rfl
      have d6 : wn.cell? ⟨w.heap.size,6,none⟩ = some (.int .i64 0) := (HZn.out).cell 6 _ rfl
      have d7 : wn.cell? ⟨w.heap.size,7,none⟩ = some (.slice none 0 0) := (HZn.out).cell 7 _ rfl
      have f0 := (HZn.out).frozen 0;have f1 := (HZn.out).frozen 1;have f2 := (HZn.out).frozen 2;have f3 := (HZn.out).frozen 3
      have f4 := (HZn.out).frozen 4;have f5 := (HZn.out).frozen 5;have f6 := (HZn.out).frozen 6;have f7 := (HZn.out).frozen 7
      unfold nodeV one
      dsimp only
      go_wp2_with fail
      refine bodyPost_ret (v := nodeV (one (fun y => y == c)) (.slice none 0 0)) (by simp [results,Tryz.results106,go_sem,d0,d1,d2,d3,d4,d5,d6,d7];try rfl) rfl ?_
      rw [HR.out]
      exact rxn_post HOn.out HAn.out HG.out HSZ.out (kat_one _ _ _ _ _ _)
   ·have hqe : p + 1 = s.size := by have := HPL.out;omega
    have HPK := Lib.hid (peekX_end g s (p + 1) o w1 HA1.out hqe)
    have hwd : wideF (ch s (p + 1)) = none := by rw [ch_end (by omega)];rfl
    rw [hwd] at HR1
    dsimp only at HR1
    clear hwd hq hqe
    go_wp2_with fail
    refine (HPK.out).mono ?_
    rintro e9 w2 ⟨rfl,hb⟩
    have HA2 := Lib.hid (HA1.out.below hb);have HZ2 := Lib.hid (HZ1.out.below hb);have HO2 := Lib.hid (HO1.out.tb hb)
    clear hb HPK HA1 HZ1 HO1
    have HEC := Lib.hid (escX g s (p + 1) o w2 HA2.out HPL.out HS.out)
    go_wp2_with fail
    refine (HEC.out).mono ?_
    cases hef : escF s (p + 1) with
    | no c x =>
     rw [hef] at HR1
     rintro e9 w3 ⟨ho,b,rfl,hx⟩
     refine ⟨rfl,?_⟩
     rw [HR1.out]
     exact ⟨HO2.out.tr ho,b,rfl,hx⟩
    | ok c q =>
     rw [hef] at HR1
     have HR := Lib.hid (show R = .ok (one fun y => y == c) q from HR1.out)
     have hin := escF_in s (p + 1) HPL.out
     rw [hef] at hin
     have hc : c < 256 := hin.2 c q rfl
     have hcI : (c : Int) < 256 := by omega
     rintro e9 w3 ⟨ho,rfl,ha⟩
     have HA3 := Lib.hid ha;have HZ3 := Lib.hid (HZ2.out.only ho HG.out);have HO3 := Lib.hid (HO2.out.tr ho)
     clear ho ha hin hef HEC HR1 hc
     have HOF := Lib.hid (ofP _ w3.heap.size (c : Int) (by omega) hcI (AtG.new w3 5 #[.int .u8 (c : Int)]))
     rw [Int.toNat_natCast] at HOF
     go_wp2_with fail
     refine (HOF.out).mono ?_
     rintro e9 wo ⟨rfl,hb⟩
     have HAo := Lib.hid ((HA3.out.alloc _).below hb);have HZo := Lib.hid ((HZ3.out.alloc _).below hb);have HOo := Lib.hid ((HO3.out.al (.cells #[.int .u8 (c : Int)] 5)).tb hb)
     clear hb HOF
     go_wp2_with fail
     refine (oneX (fun y => y == c) _).mono ?_
     rintro e9 wn ⟨rfl,hb⟩
     have HAn := Lib.hid (HAo.out.below hb);have HZn := Lib.hid (HZo.out.below hb);have HOn := Lib.hid (HOo.out.tb hb)
     have HSZ := Lib.hid (show w.heap.size < wn.heap.size from HZn.out.lt)
     clear hb
     have d0 : wn.cell? ⟨w.heap.size,0,none⟩ = some (.int .i64 0) := (HZn.out).cell 0 _ rfl
     have d1 : wn.cell? ⟨w.heap.size,1,none⟩ = some (.int .u64 0) := (HZn.out).cell 1 _ rfl
     have d2 : wn.cell? ⟨w.heap.size,2,none⟩ = some (.int .u64 0) := (HZn.out).cell 2 _ rfl
     have d3 : wn.cell? ⟨w.heap.size,3,none⟩ = some (.int .u64 0) := (HZn.out).cell 3 _ rfl
     have d4 : wn.cell? ⟨w.heap.size,4,none⟩ = some (.int .u64 0) := (HZn.out).cell 4 _ rfl
     have d5 : wn.cell? ⟨w.heap.size,5,none⟩ = some (.int .i64 0) := (HZn.out).cell 5 _ rfl
     have d6 : wn.cell? ⟨w.heap.size,6,none⟩ = some (.int .i64 0) := (HZn.out).cell 6 _ rfl
     have d7 : wn.cell? ⟨w.heap.size,7,none⟩ = some (.slice none 0 0) := (HZn.out).cell 7 _ rfl
     have f0 := (HZn.out).frozen 0;have f1 := (HZn.out).frozen 1;have f2 := (HZn.out).frozen 2;have f3 := (HZn.out).frozen 3
     have f4 := (HZn.out).frozen 4;have f5 := (HZn.out).frozen 5;have f6 := (HZn.out).frozen 6;have f7 := (HZn.out).frozen 7
     unfold nodeV one
     dsimp only
     go_wp2_with fail
     refine bodyPost_ret (v := nodeV (one (fun y => y == c)) (.slice none 0 0)) (by simp [results,Tryz.results106,go_sem,d0,d1,d2,d3,d4,d5,d6,d7];try rfl) rfl ?_
     rw [HR.out]
     exact rxn_post HOn.out HAn.out HG.out HSZ.out (kat_one _ _ _ _ _ _)
  have e92 : (d == 92) = false := by rw [beq_eq_false_iff_ne];exact h92
  have HF3 := Lib.hid (HF2.out.trans (if_neg h92))
  clear HF2
  have z1 : w1.cell? ⟨g,1,none⟩ = some (.int .i64 ((p + 1 : Nat) : Int)) := HA1.out.cell 1 _ rfl
  rw [show ((p + 1 : Nat) : Int) = (p : Int) + 1 from by omega] at z1
  by_cases h42 : d = 42
  ·have HR := Lib.hid (HF3.out.trans (if_pos (.inl h42)))
   subst h42
   clear HF3 e40 e91 e46 e92
   go_wp2_with fail
   refine (failX g p 3 _).mono ?_
   rintro e9 w2 ⟨hb2,b,rfl,hx⟩
   refine ⟨rfl,?_⟩
   rw [HR.out]
   exact ⟨HO1.out.tb hb2,b,rfl,hx⟩
  by_cases h43 : d = 43
  ·have HR := Lib.hid (HF3.out.trans (if_pos (.inr h43)))
   subst h43
   clear HF3 e40 e91 e46 e92
   go_wp2_with fail
   refine (failX g p 3 _).mono ?_
   rintro e9 w2 ⟨hb2,b,rfl,hx⟩
   refine ⟨rfl,?_⟩
   rw [HR.out]
   exact ⟨HO1.out.tb hb2,b,rfl,hx⟩
  have e42 : (d == 42) = false := by rw [beq_eq_false_iff_ne];exact h42
  have e43 : (d == 43) = false := by rw [beq_eq_false_iff_ne];exact h43
  have HF4 := Lib.hid (HF3.out.trans (if_neg (fun h => h.elim h42 h43)))
  clear HF3
  by_cases hbk : d ∈ brk
  ·have HR := Lib.hid (HF4.out.trans (if_pos hbk))
   have hbk' : d = 93 ∨ d = 41 ∨ d = 125 ∨ d = 123 ∨ d = 124 ∨ d = 63 ∨ d = 94 ∨ d = 36 := by unfold brk at hbk;simpa using hbk
   clear HF4 hbk
   rcases hbk' with rfl | rfl | rfl | rfl | rfl | rfl | rfl | rfl
   all_goals (go_wp2_with fail;refine (failX g p 2 _).mono ?_;rintro e9 w2 ⟨hb2,b,rfl,hx⟩;refine ⟨rfl,?_⟩;rw [HR.out];exact ⟨HO1.out.tb hb2,b,rfl,hx⟩)
  ·have HR := Lib.hid (HF4.out.trans (if_neg hbk))
   have hbk' : ¬ d = 93 ∧ ¬ d = 41 ∧ ¬ d = 125 ∧ ¬ d = 123 ∧ ¬ d = 124 ∧ ¬ d = 63 ∧ ¬ d = 94 ∧ ¬ d = 36 := by unfold brk at hbk;simpa using hbk
   obtain ⟨b1,b2,b3,b4,b5,b6,b7,b8⟩ := hbk'
   have c1 : (d == 93) = false := by rw [beq_eq_false_iff_ne];exact b1
   have c2 : (d == 41) = false := by rw [beq_eq_false_iff_ne];exact b2
   have c3 : (d == 125) = false := by rw [beq_eq_false_iff_ne];exact b3
   have c4 : (d == 123) = false := by rw [beq_eq_false_iff_ne];exact b4
   have c5 : (d == 124) = false := by rw [beq_eq_false_iff_ne];exact b5
   have c6 : (d == 63) = false := by rw [beq_eq_false_iff_ne];exact b6
   have c7 : (d == 94) = false := by rw [beq_eq_false_iff_ne];exact b7
   have c8 : (d == 36) = false := by rw [beq_eq_false_iff_ne];exact b8
   clear HF4 hbk z1
   have HOF := Lib.hid (ofP _ (w1).heap.size (d) (hl0) (hl2) (AtG.new (w1) 5 #[.int .u8 (d)]))
   go_wp2_with fail
   refine (HOF.out).mono ?_
   rintro e9 wo ⟨rfl,hb⟩
   have HAo := Lib.hid ((HA1.out.alloc _).below hb);have HZo := Lib.hid ((HZ1.out.alloc _).below hb);have HOo := Lib.hid ((HO1.out.al (.cells #[.int .u8 (d)] 5)).tb hb)
   clear hb HOF
   go_wp2_with fail
   refine (oneX (fun y => y == d.toNat) _).mono ?_
   rintro e9 wn ⟨rfl,hb⟩
   have HAn := Lib.hid (HAo.out.below hb);have HZn := Lib.hid (HZo.out.below hb);have HOn := Lib.hid (HOo.out.tb hb)
   have HSZ := Lib.hid (show w.heap.size < wn.heap.size from HZn.out.lt)
   clear hb
   have d0 : wn.cell? ⟨w.heap.size,0,none⟩ = some (.int .i64 0) := (HZn.out).cell 0 _ rfl
   have d1 : wn.cell? ⟨w.heap.size,1,none⟩ = some (.int .u64 0) := (HZn.out).cell 1 _ rfl
   have d2 : wn.cell? ⟨w.heap.size,2,none⟩ = some (.int .u64 0) := (HZn.out).cell 2 _ rfl
   have d3 : wn.cell? ⟨w.heap.size,3,none⟩ = some (.int .u64 0) := (HZn.out).cell 3 _ rfl
   have d4 : wn.cell? ⟨w.heap.size,4,none⟩ = some (.int .u64 0) := (HZn.out).cell 4 _ rfl
   have d5 : wn.cell? ⟨w.heap.size,5,none⟩ = some (.int .i64 0) := (HZn.out).cell 5 _ rfl
   have d6 : wn.cell? ⟨w.heap.size,6,none⟩ = some (.int .i64 0) := (HZn.out).cell 6 _ rfl
   have d7 : wn.cell? ⟨w.heap.size,7,none⟩ = some (.slice none 0 0) := (HZn.out).cell 7 _ rfl
   have f0 := (HZn.out).frozen 0;have f1 := (HZn.out).frozen 1;have f2 := (HZn.out).frozen 2;have f3 := (HZn.out).frozen 3
   have f4 := (HZn.out).frozen 4;have f5 := (HZn.out).frozen 5;have f6 := (HZn.out).frozen 6;have f7 := (HZn.out).frozen 7
   unfold nodeV one
   dsimp only
   go_wp2_with fail
   refine bodyPost_ret (v := nodeV (one (fun y => y == d.toNat)) (.slice none 0 0)) (by simp [results,Tryz.results106,go_sem,d0,d1,d2,d3,d4,d5,d6,d7];try rfl) rfl ?_
   rw [HR.out]
   exact rxn_post HOn.out HAn.out HG.out HSZ.out (kat_one _ _ _ _ _ _)
 ·have hpe : p = s.size := by omega
  have HN := Lib.hid (nextX_end g s p o _ HA0.out hpe)
  have HR := Lib.hid (show atomF s p = .no 2 p from by unfold atomF;rw [if_pos (by rw [ch_end (by omega)];decide)])
  clear h hpe hlt hp h40
  generalize atomF s p = R at *
  go_enter Tryz.func106,Tryz.ntmps106
  go_wp2_with fail
  refine (HN.out).mono ?_
  rintro e9 w1 ⟨ho,b,rfl,hx⟩
  refine ⟨rfl,?_⟩
  rw [HR.out]
  exact ⟨HO0.out.tr ho,b,rfl,hx⟩
end Go.Proofs.YtgjcibhhffkemaaGreatDoor
namespace Go.Proofs.YtgjcibhhffkemaaGreatDoor
open Go.RowKit Bt
theorem manyX_one (op : Int) (b cap : Nat) (t : Tree) (a' : Option Addr) (n' c' : Nat) (w : World) (h : ∀ i,i < 8 → w.cell? ⟨b,i,none⟩ = (nodeL t (.slice a' n' c'))[i]?) :
  Calls Tryz.prog 85 #[.int .i64 op,.slice (some ⟨b,0,none⟩) 1 cap] w fun e w' => e = .returned (nodeV t (.slice a' n' c')) ∧ Below w.heap.size w w' := by
 obtain ⟨op',f,mn,mx,kids⟩ := t
 have hb : b < w.heap.size := World.block_lt_of_cell? w _ (h 0 (by omega))
 have hne : ¬ b = w.heap.size := by omega
 have z0 : w.cell? ⟨b,0,none⟩ = some (.int .i64 op') := h 0 (by omega)
 have z1 : w.cell? ⟨b,1,none⟩ = some (.int .u64 ((wd f 0 : Nat) : Int)) := h 1 (by omega)
 have z2 : w.cell? ⟨b,2,none⟩ = some (.int .u64 ((wd f 1 : Nat) : Int)) := h 2 (by omega)
 have z3 : w.cell? ⟨b,3,none⟩ = some (.int .u64 ((wd f 2 : Nat) : Int)) := h 3 (by omega)
 have z4 : w.cell? ⟨b,4,none⟩ = some (.int .u64 ((wd f 3 : Nat) : Int)) := h 4 (by omega)
 have z5 : w.cell? ⟨b,5,none⟩ = some (.int .i64 mn) := h 5 (by omega)
 have z6 : w.cell? ⟨b,6,none⟩ = some (.int .i64 mx) := h 6 (by omega)
 have z7 : w.cell? ⟨b,7,none⟩ = some (.slice a' n' c') := h 7 (by omega)
 clear h
 unfold nodeV
 dsimp only
 go_enter Tryz.func85,Tryz.ntmps85
 go_wp2
 go_returns
 exact ⟨rfl,by go_grown⟩
theorem manyX_more (op : Int) (a : Option Addr) (n cap : Nat) (w : World) (h : n ≠ 1) (hn : n ≤ 1000) :
  Calls Tryz.prog 85 #[.int .i64 op,.slice a n cap] w fun e w' => e = .returned (.agg #[.int .i64 op,.int .u64 0,.int .u64 0,.int .u64 0,.int .u64 0,.int .i64 0,.int .i64 0,.slice a n cap]) ∧ Below w.heap.size w w' := by
 have e1 : ((n : Int) == 1) = false := by rw [beq_eq_false_iff_ne];omega
 have h1 : ¬ (n : Int) = 1 := by omega
 go_enter Tryz.func85,Tryz.ntmps85
 go_wp2
 go_returns
 exact ⟨rfl,by go_grown⟩
theorem manyX_any (op : Int) (lo n : Nat) (v : Value) (ps : List (Tree × Value)) (w : World) (h : w.ownsRow lo 41 8 v n (flatN ps)) (ha : AllK (IvB lo w.heap.size v) w ps) (hn : ps ≠ []) (hl : ps.length ≤ 1000) :
  Calls Tryz.prog 85 #[.int .i64 op,v] w fun e w' => Below w.heap.size w w' ∧ ∃ kv,e = .returned (nodeV (many op (ps.map (·.1))) kv) ∧ KAt (Iv lo w.heap.size) w (many op (ps.map (·.1))) kv := by
 obtain ⟨b,cap,rfl,hcap,hlo,hhi,hob,hr⟩ := own_kids h ha hn
 clear hr
 match ps,hn with
 | [(t,kv)],_ =>
  have hk := ha (t,kv) (by simp)
  obtain ⟨a',n',c',rfl⟩ : ∃ a n c,kv = .slice a n c := by
   cases t with
   | node op' f mn mx kids => obtain ⟨a,c,h⟩ := KAt.slice hk;exact ⟨a,_,c,h⟩
  refine (manyX_one op b cap t a' n' c' w ?_).mono (by rintro e w' ⟨rfl,hb⟩;exact ⟨hb,_,rfl,hk.mono fun x hx => hx.1⟩)
  intro i hi
  obtain ⟨g,cap',cur,heq,hb,hh,hnc,hcm,hcs,hct⟩ := h.2.resolve_left (by rintro ⟨h,_⟩;cases h)
  injection heq with e1 e2 e3
  injection e1 with e1
  injection e1 with e1
  subst e1
  rw [flatN_one] at hct
  generalize nodeL t (.slice a' n' c') = L at hct ⊢
  rw [← hct,List.getElem?_take,if_pos (by simp at e2;omega)]
  simp [World.cell?,hh]
 | p :: q :: r,_ =>
  refine (manyX_more op _ _ cap w (by simp) hl).mono ?_
  rintro e w' ⟨rfl,hb⟩
  refine ⟨hb,.slice (some ⟨b,0,none⟩) (p :: q :: r).length cap,?_,?_⟩
  ·show Ending.returned _ = Ending.returned (.agg #[.int .i64 op,.int .u64 ((wd emp 0 : Nat) : Int),.int .u64 ((wd emp 1 : Nat) : Int),.int .u64 ((wd emp 2 : Nat) : Int),.int .u64 ((wd emp 3 : Nat) : Int),.int .i64 0,.int .i64 0,_])
   unfold emp;simp only [wd_none];rfl
  ·show KAt _ w (.node op emp 0 0 ((p :: q :: r).map (·.1))) _
   rw [KAt]
   refine .inr ⟨by simp,by simpa using hl,b,0,cap,by simp,by simpa using hcap,⟨hlo,hhi⟩,?_⟩
   obtain ⟨b',cap',heq,_,_,_,hob',hr'⟩ := own_kids h ha (by simp)
   injection heq with e1 e2 e3
   injection e1 with e1
   injection e1 with e1
   subst e1
   refine KRow.mk _ _ _ fun j t hj => ?_
   obtain ⟨kv,h1,h2⟩ := KRow.get _ _ _ _ _ hr' hj
   exact ⟨kv,h1,h2.mono fun x hx => hx.1⟩
def PatCx (s : ByteArray) (p o : Nat) : Prop := ∀ (g : Nat) (w : World),AtG w g 94 (rxr s (p : Int) (o : Int)) → Calls Tryz.prog 63 #[.pointer (some ⟨g,0,none⟩)] w fun e w' => ∃ r,P s .pat o p r ∧ RxN g s o w r e w'
set_option maxRecDepth 100000 in
set_option maxHeartbeats 3200000 in
theorem groupX (g : Nat) (s : ByteArray) (p o : Nat) (w : World) (h : AtG w g 94 (rxr s ((p + 1 : Nat) : Int) (o : Int))) (hp : p < s.size) (hs : s.size ≤ 900) (h40 : ch s p = 40) (ho20 : o ≤ 20) (HP : o ≠ 20 → PatCx s (p + 1) (o + 1)) :
  Calls Tryz.prog 118 #[.pointer (some ⟨g,0,none⟩)] w fun e w' => ∃ r,P s .atom o p r ∧ RxN g s o w r e w' := by
 have HS := Lib.hid hs;have HPL := Lib.hid hp;have H40 := Lib.hid h40
 have HG := Lib.hid (show ¬ w.heap.size = g by have := h.lt;omega)
 have HGL := Lib.hid h.lt
 have HA0 := Lib.hid (h.alloc (.cells nodeZ 41))
 have HZ0 := Lib.hid (AtG.new w 41 nodeZ)
 have HO0 := Lib.hid ((Only.refl (S := fun k => k = g) w).al (.cells nodeZ 41))
 obtain ⟨W,hW⟩ : ∃ W : World,W = w.alloc (.cells nodeZ 41) := ⟨_,rfl⟩
 rw [← hW] at HA0 HZ0 HO0
 have HW1 : Hid (W.heap.size = w.heap.size + 1) := Lib.hid (by rw [hW];simp)
 have hW' : w.alloc (.cells #[.int .i64 0,.int .u64 0,.int .u64 0,.int .u64 0,.int .u64 0,.int .i64 0,.int .i64 0,.slice none 0 0] 41) = W := hW.symm
 have z1 : W.cell? ⟨g,1,none⟩ = some (.int .i64 ((p + 1 : Nat) : Int)) := HA0.out.cell 1 _ rfl
 rw [show ((p + 1 : Nat) : Int) = (p : Int) + 1 from by omega] at z1
 have z2 : W.cell? ⟨g,2,none⟩ = some (.int .i64 (o : Int)) := HA0.out.cell 2 _ rfl
 have y2 := HA0.out.frozen 2
 have hpI : (p : Int) < 1000 := by omega
 clear hW h hp h40
 by_cases h20 : o = 20
 ·subst h20
  have HP4 := Lib.hid (P.deep (s := s) (o := 20) H40.out rfl)
  clear HP
  go_enter Tryz.func118,Tryz.ntmps118
  go_wp2_with fail
  refine (failX g p 4 _).mono ?_
  rintro e9 w2 ⟨hb2,b,rfl,hx⟩
  exact ⟨rfl,_,HP4.out,HO0.out.tb hb2,b,rfl,hx⟩
 ·have hoI : ¬ (o : Int) = 20 := by omega
  have e20 : ((o : Int) == 20) = false := by rw [beq_eq_false_iff_ne];exact hoI
  have ho2 : (o : Int) < 20 := by omega
  have HO1 := Lib.hid (HO0.out.st g 2 (.int .i64 ((o : Int) + 1)) (.inl rfl))
  have HZ1 := Lib.hid (HZ0.out.far (p := ⟨g,2,none⟩) (fun e => HG.out e) (.int .i64 ((o : Int) + 1)))
  have HA1 : Hid (AtG (W.setCell ⟨g,2,none⟩ (.int .i64 ((o : Int) + 1))) g 94 (rxr s ((p + 1 : Nat) : Int) ((o + 1 : Nat) : Int))) := Lib.hid (by
   rw [show ((o + 1 : Nat) : Int) = (o : Int) + 1 from by omega];exact HA0.out.set 2 _)
  have HSZ1 : Hid ((W.setCell ⟨g,2,none⟩ (.int .i64 ((o : Int) + 1))).heap.size = w.heap.size + 1) := Lib.hid (by simp [HW1.out])
  have HC := Lib.hid (HP h20 g _ HA1.out)
  have HO20 := Lib.hid h20
  clear HP h20 HA0
  go_enter Tryz.func118,Tryz.ntmps118
  go_wp2_with fail
  refine (HC.out).mono ?_
  rintro e9 w2 ⟨r,hPr,ho,hr⟩
  have HPS := Lib.hid (P.sub (s := s) (o := o) (p := p) H40.out HO20.out hPr)
  have hin := P.in hPr HPL.out
  have HO2 := Lib.hid (HO1.out.tr ho);have HZ2 := Lib.hid (HZ1.out.only ho HG.out)
  clear hW' z1 z2 y2 HC HO1 HZ1 HA1 hPr
  cases r with
  | no c x =>
   obtain ⟨b,rfl,hx⟩ := hr
   exact ⟨rfl,_,HPS.out,HO2.out,b,rfl,hx⟩
  | ok t q =>
   obtain ⟨kv,rfl,hk,ha⟩ := hr
   rw [HSZ1.out] at hk
   obtain ⟨op,f,mn,mx,kids⟩ := t
   obtain ⟨ka,kc,rfl⟩ := KAt.slice hk
   have hq : q ≤ s.size := hin.2
   have HQ := Lib.hid hq
   have HA2 := Lib.hid ha;have HK2 := Lib.hid hk
   have HWT := Lib.hid (fun (w1 : World) (h1 : AtG w1 g 94 (rxr s (q : Int) ((o + 1 : Nat) : Int))) => wantX g s q (o + 1) 41 w1 h1 hq (by have := HS.out;omega) (by decide))
   have HGL2 := Lib.hid (show ¬ w2.heap.size = g by have := ha.lt;omega)
   have HQI := Lib.hid (show (q : Int) < 1000 by have := HS.out;omega)
   clear ha hk hin ho hq HSZ1
   unfold nodeV
   dsimp only
   go_upto_region 5 with (fail)
   obtain ⟨W3,hW3⟩ : ∃ W3 : World,W3 = w2.alloc (.cells (nodeC op f mn mx (.slice ka kids.length kc)) 41) := ⟨_,rfl⟩
   have hW3' : w2.alloc (.cells #[.int .i64 op,.int .u64 ((wd f 0 : Nat) : Int),.int .u64 ((wd f 1 : Nat) : Int),.int .u64 ((wd f 2 : Nat) : Int),.int .u64 ((wd f 3 : Nat) : Int),.int .i64 mn,.int .i64 mx,.slice ka kids.length kc] 41) = W3 := hW3.symm
   have HN3 : Hid (AtG W3 w2.heap.size 41 (nodeC op f mn mx (.slice ka kids.length kc))) := Lib.hid (by rw [hW3];exact AtG.new _ _ _)
   have HA3 : Hid (AtG W3 g 94 (rxr s (q : Int) ((o + 1 : Nat) : Int))) := Lib.hid (by rw [hW3];exact HA2.out.alloc _)
   have HZ3 : Hid (AtG W3 w.heap.size 41 nodeZ) := Lib.hid (by rw [hW3];exact HZ2.out.alloc _)
   have HO3 : Hid (Only (fun k => k = g) w W3) := Lib.hid (by rw [hW3];exact HO2.out.al _)
   have HK3 : Hid (KAt (Iv (w.heap.size + 1) W3.heap.size) W3 (.node op f mn mx kids) (.slice ka kids.length kc)) := Lib.hid (by
    rw [hW3];exact KAt.below HK2.out ((Below.refl _ _).alloc (Nat.le_refl _) _) (by simp))
   have HSB : Hid (w.heap.size < w2.heap.size) := Lib.hid HZ2.out.lt
   rw [hW3']
   clear hW3 hW3' HA2 HZ2 HO2 HK2
   have HWC := Lib.hid (HWT.out _ HA3.out)
   have HWF := Lib.hid (show wantF s 41 q = if ch s q = 41 then .ok () (q + 1) else .no 2 q from rfl)
   have HCF := Lib.hid (show closeF s (.ok (Tree.node op f mn mx kids) q) = if ch s q = 41 then .ok (Tree.node op f mn mx kids) (q + 1) else .no 2 q from rfl)
   go_wp2_with fail
   refine (HWC.out).mono ?_
   by_cases h41 : ch s q = 41
   ·rw [HWF.out,if_pos h41]
    have HPP := Lib.hid (show P s .atom o p (.ok (Tree.node op f mn mx kids) (q + 1)) by have := HPS.out;rw [HCF.out,if_pos h41] at this;exact this)
    rintro e9 w4 ⟨ho,rfl,ha⟩
    have HA4 := Lib.hid ha;have HO4 := Lib.hid (HO3.out.tr ho);have HZ4 := Lib.hid (HZ3.out.only ho HG.out);have HN4 := Lib.hid (HN3.out.only ho HGL2.out)
    have HK4 := Lib.hid (KAt.only (D := Iv (w.heap.size + 1) W3.heap.size) HK3.out ho (fun b hb => ⟨hb.2,fun e => by have := hb.1;have := HGL.out;have e2 : b = g := e;omega⟩))
    have HSZ4 := Lib.hid ho.size
    clear ho ha h41 HWC HWT HWF HCF HPS HA3 HO3 HZ3 HN3 HK3
    have z2 : w4.cell? ⟨g,2,none⟩ = some (.int .i64 ((o + 1 : Nat) : Int)) := HA4.out.cell 2 _ rfl
    rw [show ((o + 1 : Nat) : Int) = (o : Int) + 1 from by omega] at z2
    have y2 := HA4.out.frozen 2
    have ho1 : (o : Int) + 1 - 1 = (o : Int) := by omega
    have HA5 : Hid (AtG (w4.setCell ⟨g,2,none⟩ (.int .i64 (o : Int))) g 94 (rxr s ((q + 1 : Nat) : Int) (o : Int))) := Lib.hid (HA4.out.set 2 _)
    have HZ5 := Lib.hid (HZ4.out.far (p := ⟨g,2,none⟩) (fun e => HG.out e) (.int .i64 (o : Int)))
    have HN5 := Lib.hid (HN4.out.far (p := ⟨g,2,none⟩) (fun e => HGL2.out e) (.int .i64 (o : Int)))
    have HO5 := Lib.hid (HO4.out.st g 2 (.int .i64 (o : Int)) (.inl rfl))
    have HK5 := Lib.hid (KAt.only (S := fun k => k = g) HK4.out (Only.set (S := fun k => k = g) w4 g 2 (.int .i64 (o : Int)) rfl) (fun b hb => ⟨by have := hb.2;have := HSZ4.out;omega,fun e => by have := hb.1;have := HGL.out;have e2 : b = g := e;omega⟩))
    go_upto_region 7 with (fail)
    obtain ⟨wq,hwq⟩ : ∃ wq : World,wq = w4.setCell ⟨g,2,none⟩ (.int .i64 (o : Int)) := ⟨_,rfl⟩
    rw [← hwq] at HA5 HZ5 HN5 HO5 HK5 ⊢
    have HSZ5 : Hid (W3.heap.size ≤ wq.heap.size) := Lib.hid (by rw [hwq];simpa using HSZ4.out)
    clear hwq z2 y2 HA4 HZ4 HN4 HO4 HK4
    have hn1 : ¬ w2.heap.size = w.heap.size := by have := HSB.out;omega
    have hn2 : ¬ w.heap.size = w2.heap.size := by have := HSB.out;omega
    have a0 : (wq).cell? ⟨w2.heap.size,0,none⟩ = some (.int .i64 op) := (HN5.out).cell 0 _ rfl
    have a1 : (wq).cell? ⟨w2.heap.size,1,none⟩ = some (.int .u64 ((wd f 0 : Nat) : Int)) := (HN5.out).cell 1 _ rfl
    have a2 : (wq).cell? ⟨w2.heap.size,2,none⟩ = some (.int .u64 ((wd f 1 : Nat) : Int)) := (HN5.out).cell 2 _ rfl
    have a3 : (wq).cell? ⟨w2.heap.size,3,none⟩ = some (.int .u64 ((wd f 2 : Nat) : Int)) := (HN5.out).cell 3 _ rfl
    have a4 : (wq).cell? ⟨w2.heap.size,4,none⟩ = some (.int .u64 ((wd f 3 : Nat) : Int)) := (HN5.out).cell 4 _ rfl
    have a5 : (wq).cell? ⟨w2.heap.size,5,none⟩ = some (.int .i64 mn) := (HN5.out).cell 5 _ rfl
    have a6 : (wq).cell? ⟨w2.heap.size,6,none⟩ = some (.int .i64 mx) := (HN5.out).cell 6 _ rfl
    have a7 : (wq).cell? ⟨w2.heap.size,7,none⟩ = some (.slice ka kids.length kc) := (HN5.out).cell 7 _ rfl
    have d0 : wq.cell? ⟨w.heap.size,0,none⟩ = some (.int .i64 0) := (HZ5.out).cell 0 _ rfl
    have d1 : wq.cell? ⟨w.heap.size,1,none⟩ = some (.int .u64 0) := (HZ5.out).cell 1 _ rfl
    have d2 : wq.cell? ⟨w.heap.size,2,none⟩ = some (.int .u64 0) := (HZ5.out).cell 2 _ rfl
    have d3 : wq.cell? ⟨w.heap.size,3,none⟩ = some (.int .u64 0) := (HZ5.out).cell 3 _ rfl
    have d4 : wq.cell? ⟨w.heap.size,4,none⟩ = some (.int .u64 0) := (HZ5.out).cell 4 _ rfl
    have d5 : wq.cell? ⟨w.heap.size,5,none⟩ = some (.int .i64 0) := (HZ5.out).cell 5 _ rfl
    have d6 : wq.cell? ⟨w.heap.size,6,none⟩ = some (.int .i64 0) := (HZ5.out).cell 6 _ rfl
    have d7 : wq.cell? ⟨w.heap.size,7,none⟩ = some (.slice none 0 0) := (HZ5.out).cell 7 _ rfl
    have f0 := (HZ5.out).frozen 0;have f1 := (HZ5.out).frozen 1;have f2 := (HZ5.out).frozen 2;have f3 := (HZ5.out).frozen 3
    have f4 := (HZ5.out).frozen 4;have f5 := (HZ5.out).frozen 5;have f6 := (HZ5.out).frozen 6;have f7 := (HZ5.out).frozen 7
    go_wp2_with fail
    refine bodyPost_ret (v := nodeV (.node op f mn mx kids) (.slice ka kids.length kc)) (by unfold nodeV;simp [results,Tryz.results118,go_sem,d0,d1,d2,d3,d4,d5,d6,d7];try rfl) rfl ?_
    exact ⟨_,HPP.out,rxn_post HO5.out HA5.out HG.out HZ5.out.lt (HK5.out.mono fun b hb => ⟨hb.1,Nat.lt_of_lt_of_le hb.2 HSZ5.out⟩)⟩
   ·rw [HWF.out,if_neg h41]
    have HPP := Lib.hid (show P s .atom o p (.no 2 q) by have := HPS.out;rw [HCF.out,if_neg h41] at this;exact this)
    rintro e9 w4 ⟨ho,b,rfl,hx⟩
    exact ⟨rfl,_,HPP.out,HO3.out.tr ho,b,rfl,hx⟩
end Go.Proofs.YtgjcibhhffkemaaGreatDoor
namespace Go.Proofs.YtgjcibhhffkemaaGreatDoor
open Go.RowKit Bt
set_option maxRecDepth 100000 in
set_option maxHeartbeats 1600000 in
theorem atomA (g : Nat) (s : ByteArray) (p o : Nat) (w : World) (h : AtG w g 94 (rxr s p o)) (hp : p ≤ s.size) (hs : s.size ≤ 900) (ho : o ≤ 20) (HP : o ≠ 20 → p < s.size → PatCx s (p + 1) (o + 1)) :
  Calls Tryz.prog 106 #[.pointer (some ⟨g,0,none⟩)] w fun e w' => ∃ r,P s .atom o p r ∧ RxN g s o w r e w' := by
 by_cases h40 : ch s p = 40
 ·have HG := Lib.hid (show ¬ w.heap.size = g by have := h.lt;omega)
  have HGL := Lib.hid h.lt
  have hlt : p < s.size := ch_ge (by omega)
  have HA0 := Lib.hid (h.alloc (.cells nodeZ 41))
  have HZ0 := Lib.hid (AtG.new w 41 nodeZ)
  have HO0 := Lib.hid ((Only.refl (S := fun k => k = g) w).al (.cells nodeZ 41))
  have HN := Lib.hid (nextX_in g s p o _ HA0.out hlt (by omega))
  have HGR := Lib.hid (fun (w1 : World) (h1 : AtG w1 g 94 (rxr s ((p + 1 : Nat) : Int) (o : Int))) => groupX g s p o w1 h1 hlt hs h40 ho (fun h => HP h hlt))
  rw [h40] at HN
  clear h hp h40 HP
  go_enter Tryz.func106,Tryz.ntmps106
  go_wp2_with fail
  refine (HN.out).mono ?_
  rintro e9 w1 ⟨rfl,ho,ha⟩
  have HC := Lib.hid (HGR.out w1 ha)
  have HZ1 := Lib.hid (HZ0.out.only ho HG.out);have HO1 := Lib.hid (HO0.out.tr ho)
  have HGL1 := Lib.hid (show w.heap.size < w1.heap.size from HZ1.out.lt)
  clear ho ha HN HA0 HZ0 HO0 HGR
  go_wp2_with fail
  refine (HC.out).mono ?_
  rintro e9 w2 ⟨r,hPr,ho,hr⟩
  have HPS := Lib.hid hPr
  have HO2 := Lib.hid (HO1.out.tr ho);have HZ2 := Lib.hid (HZ1.out.only ho HG.out)
  clear HC hPr ho
  cases r with
  | no c x =>
   obtain ⟨b,rfl,hx⟩ := hr
   exact ⟨rfl,_,HPS.out,HO2.out,b,rfl,hx⟩
  | ok t q =>
   obtain ⟨kv,rfl,hk,ha⟩ := hr
   obtain ⟨op,f,mn,mx,kids⟩ := t
   obtain ⟨ka,kc,rfl⟩ := KAt.slice hk
   have HA2 := Lib.hid ha;have HK2 := Lib.hid hk
   clear ha hk
   have d0 : w2.cell? ⟨w.heap.size,0,none⟩ = some (.int .i64 0) := (HZ2.out).cell 0 _ rfl
   have d1 : w2.cell? ⟨w.heap.size,1,none⟩ = some (.int .u64 0) := (HZ2.out).cell 1 _ rfl
   have d2 : w2.cell? ⟨w.heap.size,2,none⟩ = some (.int .u64 0) := (HZ2.out).cell 2 _ rfl
   have d3 : w2.cell? ⟨w.heap.size,3,none⟩ = some (.int .u64 0) := (HZ2.out).cell 3 _ rfl
   have d4 : w2.cell? ⟨w.heap.size,4,none⟩ = some (.int .u64 0) := (HZ2.out).cell 4 _ rfl
   have d5 : w2.cell? ⟨w.heap.size,5,none⟩ = some (.int .i64 0) := (HZ2.out).cell 5 _ rfl
   have d6 : w2.cell? ⟨w.heap.size,6,none⟩ = some (.int .i64 0) := (HZ2.out).cell 6 _ rfl
   have d7 : w2.cell? ⟨w.heap.size,7,none⟩ = some (.slice none 0 0) := (HZ2.out).cell 7 _ rfl
   have f0 := (HZ2.out).frozen 0;have f1 := (HZ2.out).frozen 1;have f2 := (HZ2.out).frozen 2;have f3 := (HZ2.out).frozen 3
   have f4 := (HZ2.out).frozen 4;have f5 := (HZ2.out).frozen 5;have f6 := (HZ2.out).frozen 6;have f7 := (HZ2.out).frozen 7
   unfold nodeV
   dsimp only
   go_wp2_with fail
   refine bodyPost_ret (v := nodeV (.node op f mn mx kids) (.slice ka kids.length kc)) (by unfold nodeV;simp [results,Tryz.results106,go_sem,d0,d1,d2,d3,d4,d5,d6,d7];try rfl) rfl ?_
   exact ⟨_,HPS.out,rxn_post HO2.out HA2.out HG.out HZ2.out.lt (HK2.out.mono fun b hb => ⟨by have := hb.1;have := HGL1.out;omega,hb.2⟩)⟩
 ·refine (atomX g s p o w h hp hs h40).mono ?_
  intro e w' hr
  exact ⟨_,P.plain h40,hr⟩
set_option maxRecDepth 100000 in
set_option maxHeartbeats 3200000 in
theorem pieceX (g : Nat) (s : ByteArray) (p o : Nat) (w : World) (h : AtG w g 94 (rxr s p o)) (hp : p ≤ s.size) (hs : s.size ≤ 900) (ho : o ≤ 20) (HP : o ≠ 20 → p < s.size → PatCx s (p + 1) (o + 1)) :
  Calls Tryz.prog 94 #[.pointer (some ⟨g,0,none⟩)] w fun e w' => ∃ r,P s .piece o p r ∧ RxN g s o w r e w' := by
 have HS := Lib.hid hs
 have HG := Lib.hid (show ¬ w.heap.size = g by have := h.lt;omega)
 have HGL := Lib.hid h.lt
 have HA0 := Lib.hid (h.alloc (.cells nodeZ 41))
 have HZ0 := Lib.hid (AtG.new w 41 nodeZ)
 have HO0 := Lib.hid ((Only.refl (S := fun k => k = g) w).al (.cells nodeZ 41))
 have HPL := Lib.hid hp
 have HAT := Lib.hid (atomA g s p o _ HA0.out hp hs ho HP)
 have HSZ0 : Hid ((w.alloc (.cells nodeZ 41)).heap.size = w.heap.size + 1) := Lib.hid (by simp)
 clear h hp ho HP
 go_enter Tryz.func94,Tryz.ntmps94
 go_wp2_with fail
 refine (HAT.out).mono ?_
 rintro e9 w2 ⟨r,hPr,ho,hr⟩
 have HPS := Lib.hid hPr
 have hin := P.in hPr HPL.out
 have HO2 := Lib.hid (HO0.out.tr ho);have HZ2 := Lib.hid (HZ0.out.only ho HG.out)
 clear HAT hPr ho HA0 HZ0 HO0
 cases r with
 | no c x =>
  obtain ⟨b,rfl,hx⟩ := hr
  exact ⟨rfl,_,P.pieceNo HPS.out,HO2.out,b,rfl,hx⟩
 | ok t0 q0 =>
  obtain ⟨kv,rfl,hk,ha⟩ := hr
  rw [HSZ0.out] at hk
  obtain ⟨op0,f0,mn0,mx0,kids0⟩ := t0
  obtain ⟨ka0,kc0,rfl⟩ := KAt.slice hk
  have HA2 := Lib.hid ha;have HK2 := Lib.hid hk
  have HQ0 := Lib.hid (show q0 ≤ s.size from hin.2)
  have HB3 := Lib.hid (show w.heap.size < w2.heap.size from HZ2.out.lt)
  have HGB := Lib.hid (show g ≠ w2.heap.size by have := ha.lt;omega)
  clear ha hk hin HSZ0
  unfold nodeV
  dsimp only
  go_wp2_with fail
  go_loopw [] (fun wr => ∃ (op : Int) (f : Nat → Bool) (mn mx : Int) (kids : List Tree) (ka : Option Addr) (kc q : Nat),Held g w w2.heap.size (.node op f mn mx kids) (.slice ka kids.length kc) wr ∧ AtG wr g 94 (rxr s (q : Int) (o : Int)) ∧ q ≤ s.size ∧ ∀ r,P s (.pieceL (.node op f mn mx kids)) o q r → P s .piece o p r) (fun wr => leftX s g wr)
  case atStart =>
   refine ⟨op0,f0,mn0,mx0,kids0,ka0,kc0,q0,⟨AtG.new _ _ _,?_,HZ2.out.alloc _,HO2.out.al _⟩,HA2.out.alloc _,HQ0.out,fun r hr => P.pieceOk HPS.out hr⟩
   refine KAt.keep (D := Iv (w.heap.size + 1) w2.heap.size) (fun b hb => ((Below.refl w2.heap.size w2).alloc (Nat.le_refl _) _).block b hb.2) (fun b hb => ⟨⟨hb.1,by have := hb.2;simp;omega⟩,by have := hb.2;omega⟩) _ _ HK2.out
  case round =>
   obtain ⟨op,f,mn,mx,kids,ka,kc,q,hH,ha,hq,hPP⟩ := hrel
   have HH := Lib.hid hH;have HA := Lib.hid ha;have HQ := Lib.hid hq;have HIN := Lib.hid hPP
   have HLE := Lib.hid (leftX_ok ha)
   clear hH ha hPP HK2 HA2 HZ2 HO2 HQ0 HPS
   by_cases hlt : q < s.size
   ·have HPK := Lib.hid (peekX_in g s q o wr HA.out hlt)
    have hqI : (q : Int) < 1000 := by have := HS.out;omega
    have HQL := Lib.hid hlt
    obtain ⟨c,hc⟩ : ∃ c,c = ch s q := ⟨_,rfl⟩
    rw [← hc] at HPK
    have HC := Lib.hid hc
    clear hc
    by_cases h63 : c = 63
    ·subst h63
     go_wp2_with fail
     refine (HPK.out).mono ?_
     rintro e9 w3 ⟨rfl,hb⟩
     have HA3 := Lib.hid (HA.out.below hb);have H3 := Lib.hid ((HH.out.below HGL.out HB3.out hb).next HGL.out HB3.out (Only.set (S := fun k => k = g) w3 g 1 (.int .i64 ((q : Int) + 1)) rfl))
     have z1 : w3.cell? ⟨g,1,none⟩ = some (.int .i64 (q : Int)) := HA3.out.cell 1 _ rfl
     have y1 := HA3.out.frozen 1
     have HA4 : Hid (AtG (w3.setCell ⟨g,1,none⟩ (.int .i64 ((q : Int) + 1))) g 94 (rxr s ((q + 1 : Nat) : Int) o)) := Lib.hid (by
      rw [show ((q + 1 : Nat) : Int) = (q : Int) + 1 from by omega];exact HA3.out.set 1 _)
     clear hb HPK HA HH
     go_upto_region 6 with (fail)
     obtain ⟨wq,hwq⟩ : ∃ wq : World,wq = w3.setCell ⟨g,1,none⟩ (.int .i64 ((q : Int) + 1)) := ⟨_,rfl⟩
     rw [← hwq] at HA4 H3 ⊢
     clear hwq z1 y1 HA3
     have k0 : (wq).cell? ⟨w2.heap.size,0,none⟩ = some (.int .i64 op) := (H3.out.node).cell 0 _ rfl
     have k1 : (wq).cell? ⟨w2.heap.size,1,none⟩ = some (.int .u64 ((wd f 0 : Nat) : Int)) := (H3.out.node).cell 1 _ rfl
     have k2 : (wq).cell? ⟨w2.heap.size,2,none⟩ = some (.int .u64 ((wd f 1 : Nat) : Int)) := (H3.out.node).cell 2 _ rfl
     have k3 : (wq).cell? ⟨w2.heap.size,3,none⟩ = some (.int .u64 ((wd f 2 : Nat) : Int)) := (H3.out.node).cell 3 _ rfl
     have k4 : (wq).cell? ⟨w2.heap.size,4,none⟩ = some (.int .u64 ((wd f 3 : Nat) : Int)) := (H3.out.node).cell 4 _ rfl
     have k5 : (wq).cell? ⟨w2.heap.size,5,none⟩ = some (.int .i64 mn) := (H3.out.node).cell 5 _ rfl
     have k6 : (wq).cell? ⟨w2.heap.size,6,none⟩ = some (.int .i64 mx) := (H3.out.node).cell 6 _ rfl
     have k7 : (wq).cell? ⟨w2.heap.size,7,none⟩ = some (.slice ka kids.length kc) := (H3.out.node).cell 7 _ rfl
     have fz0 := H3.out.node.frozen 0
     have fz1 := H3.out.node.frozen 1
     have fz2 := H3.out.node.frozen 2
     have fz3 := H3.out.node.frozen 3
     have fz4 := H3.out.node.frozen 4
     have fz5 := H3.out.node.frozen 5
     have fz6 := H3.out.node.frozen 6
     have fz7 := H3.out.node.frozen 7
     have hlw : w2.heap.size < wq.heap.size := H3.out.node.lt
     have hnw : ¬ w2.heap.size = wq.heap.size := by omega
     have hfin := H3.out.step HGL.out HB3.out (0) (1)
     have hfa := (putN_far HA4.out HGB.out 4 emp (0) (1) (.slice (some ⟨wq.heap.size,0,none⟩) 1 1)).alloc (.cells (nodeC op f mn mx (.slice ka kids.length kc)) 41)
     have HPPP := Lib.hid (fun r hr => HIN.out r (P.opt HC.out.symm hr))
     unfold putN at hfin hfa
     simp only [wd_emp] at hfin hfa
     have HFIN := Lib.hid hfin;have HFA := Lib.hid hfa
     clear hfin hfa
     go_wp2_with fail
     refine ⟨⟨4,emp,_,_,[_],_,_,q + 1,HFIN.out,HFA.out,HQL.out,HPPP.out⟩,?_⟩
     rw [leftX_ok HFA.out,HLE.out]
     omega
    by_cases h123 : c = 123
    ·subst h123
     have HTF := Lib.hid (timesF_in s (q + 1) hlt)
     go_wp2_with fail
     refine (HPK.out).mono ?_
     rintro e9 w3 ⟨rfl,hb⟩
     have HA3 := Lib.hid (HA.out.below hb);have H3 := Lib.hid ((HH.out.below HGL.out HB3.out hb).next HGL.out HB3.out (Only.set (S := fun k => k = g) w3 g 1 (.int .i64 ((q : Int) + 1)) rfl))
     have z1 : w3.cell? ⟨g,1,none⟩ = some (.int .i64 (q : Int)) := HA3.out.cell 1 _ rfl
     have y1 := HA3.out.frozen 1
     have HA4 : Hid (AtG (w3.setCell ⟨g,1,none⟩ (.int .i64 ((q : Int) + 1))) g 94 (rxr s ((q + 1 : Nat) : Int) o)) := Lib.hid (by
      rw [show ((q + 1 : Nat) : Int) = (q : Int) + 1 from by omega];exact HA3.out.set 1 _)
     have HTX := Lib.hid (timesX g s (q + 1) o _ HA4.out HQL.out HS.out)
     clear hb HPK HA HH
     go_wp2_with fail
     refine (HTX.out).mono ?_
     cases htf : timesF s (q + 1) with
     | no c x =>
      rintro e9 w4 ⟨ho,b,rfl,hx⟩
      exact ⟨rfl,_,HIN.out _ (P.timesNo HC.out.symm htf),H3.out.only.tr ho,b,rfl,hx⟩
     | ok mm r =>
      rw [htf] at HTF
      obtain ⟨m,n⟩ := mm
      have hr : q + 1 + 1 ≤ r ∧ r ≤ s.size := HTF.out.1
      have HTE := Lib.hid htf
      rintro e9 w4 ⟨ho,rfl,ha⟩
      have HA5 := Lib.hid ha;have H5 := Lib.hid (H3.out.next HGL.out HB3.out ho)
      clear ho ha HTX HTF htf z1 y1 HA3 HA4 H3
      have k0 : (w4).cell? ⟨w2.heap.size,0,none⟩ = some (.int .i64 op) := (H5.out.node).cell 0 _ rfl
      have k1 : (w4).cell? ⟨w2.heap.size,1,none⟩ = some (.int .u64 ((wd f 0 : Nat) : Int)) := (H5.out.node).cell 1 _ rfl
      have k2 : (w4).cell? ⟨w2.heap.size,2,none⟩ = some (.int .u64 ((wd f 1 : Nat) : Int)) := (H5.out.node).cell 2 _ rfl
      have k3 : (w4).cell? ⟨w2.heap.size,3,none⟩ = some (.int .u64 ((wd f 2 : Nat) : Int)) := (H5.out.node).cell 3 _ rfl
      have k4 : (w4).cell? ⟨w2.heap.size,4,none⟩ = some (.int .u64 ((wd f 3 : Nat) : Int)) := (H5.out.node).cell 4 _ rfl
      have k5 : (w4).cell? ⟨w2.heap.size,5,none⟩ = some (.int .i64 mn) := (H5.out.node).cell 5 _ rfl
      have k6 : (w4).cell? ⟨w2.heap.size,6,none⟩ = some (.int .i64 mx) := (H5.out.node).cell 6 _ rfl
      have k7 : (w4).cell? ⟨w2.heap.size,7,none⟩ = some (.slice ka kids.length kc) := (H5.out.node).cell 7 _ rfl
      have fz0 := H5.out.node.frozen 0
      have fz1 := H5.out.node.frozen 1
      have fz2 := H5.out.node.frozen 2
      have fz3 := H5.out.node.frozen 3
      have fz4 := H5.out.node.frozen 4
      have fz5 := H5.out.node.frozen 5
      have fz6 := H5.out.node.frozen 6
      have fz7 := H5.out.node.frozen 7
      have hlw : w2.heap.size < w4.heap.size := H5.out.node.lt
      have hnw : ¬ w2.heap.size = w4.heap.size := by omega
      have hfin := H5.out.step HGL.out HB3.out (m) (n)
      have hfa := (putN_far HA5.out HGB.out 4 emp (m) (n) (.slice (some ⟨w4.heap.size,0,none⟩) 1 1)).alloc (.cells (nodeC op f mn mx (.slice ka kids.length kc)) 41)
      have HPPP := Lib.hid (fun r' hr' => HIN.out r' (P.times HC.out.symm HTE.out hr'))
      unfold putN at hfin hfa
      simp only [wd_emp] at hfin hfa
      have HFIN := Lib.hid hfin;have HFA := Lib.hid hfa
      clear hfin hfa
      go_wp2_with fail
      refine ⟨⟨4,emp,_,_,[_],_,_,r,HFIN.out,HFA.out,hr.2,HPPP.out⟩,?_⟩
      rw [leftX_ok HFA.out,HLE.out]
      omega
    ·have HPP := Lib.hid (HIN.out _ (P.pieceEnd (t := .node op f mn mx kids) (by rw [← HC.out];exact h63) (by rw [← HC.out];exact h123)))
     have n1 : (c != 63) = true := by simpa using h63
     have n2 : (c != 123) = true := by simpa using h123
     go_wp2_with fail
     refine (HPK.out).mono ?_
     rintro e9 w3 ⟨rfl,hb⟩
     have HA3 := Lib.hid (HA.out.below hb);have H3 := Lib.hid (HH.out.below HGL.out HB3.out hb)
     clear hb HPK HA HH
     have k0 : (w3).cell? ⟨w2.heap.size,0,none⟩ = some (.int .i64 op) := (H3.out.node).cell 0 _ rfl
     have k1 : (w3).cell? ⟨w2.heap.size,1,none⟩ = some (.int .u64 ((wd f 0 : Nat) : Int)) := (H3.out.node).cell 1 _ rfl
     have k2 : (w3).cell? ⟨w2.heap.size,2,none⟩ = some (.int .u64 ((wd f 1 : Nat) : Int)) := (H3.out.node).cell 2 _ rfl
     have k3 : (w3).cell? ⟨w2.heap.size,3,none⟩ = some (.int .u64 ((wd f 2 : Nat) : Int)) := (H3.out.node).cell 3 _ rfl
     have k4 : (w3).cell? ⟨w2.heap.size,4,none⟩ = some (.int .u64 ((wd f 3 : Nat) : Int)) := (H3.out.node).cell 4 _ rfl
     have k5 : (w3).cell? ⟨w2.heap.size,5,none⟩ = some (.int .i64 mn) := (H3.out.node).cell 5 _ rfl
     have k6 : (w3).cell? ⟨w2.heap.size,6,none⟩ = some (.int .i64 mx) := (H3.out.node).cell 6 _ rfl
     have k7 : (w3).cell? ⟨w2.heap.size,7,none⟩ = some (.slice ka kids.length kc) := (H3.out.node).cell 7 _ rfl
     have hn1 : ¬ w2.heap.size = w.heap.size := by have := HB3.out;omega
     have hn2 : ¬ w.heap.size = w2.heap.size := by have := HB3.out;omega
     have d0 : w3.cell? ⟨w.heap.size,0,none⟩ = some (.int .i64 0) := (H3.out.cell).cell 0 _ rfl
     have d1 : w3.cell? ⟨w.heap.size,1,none⟩ = some (.int .u64 0) := (H3.out.cell).cell 1 _ rfl
     have d2 : w3.cell? ⟨w.heap.size,2,none⟩ = some (.int .u64 0) := (H3.out.cell).cell 2 _ rfl
     have d3 : w3.cell? ⟨w.heap.size,3,none⟩ = some (.int .u64 0) := (H3.out.cell).cell 3 _ rfl
     have d4 : w3.cell? ⟨w.heap.size,4,none⟩ = some (.int .u64 0) := (H3.out.cell).cell 4 _ rfl
     have d5 : w3.cell? ⟨w.heap.size,5,none⟩ = some (.int .i64 0) := (H3.out.cell).cell 5 _ rfl
     have d6 : w3.cell? ⟨w.heap.size,6,none⟩ = some (.int .i64 0) := (H3.out.cell).cell 6 _ rfl
     have d7 : w3.cell? ⟨w.heap.size,7,none⟩ = some (.slice none 0 0) := (H3.out.cell).cell 7 _ rfl
     have f0 := (H3.out.cell).frozen 0;have f1 := (H3.out.cell).frozen 1;have f2 := (H3.out.cell).frozen 2;have f3 := (H3.out.cell).frozen 3
     have f4 := (H3.out.cell).frozen 4;have f5 := (H3.out.cell).frozen 5;have f6 := (H3.out.cell).frozen 6;have f7 := (H3.out.cell).frozen 7
     go_wp2_with fail
     refine bodyPost_ret (v := nodeV (.node op f mn mx kids) (.slice ka kids.length kc)) (by unfold nodeV;simp [results,Tryz.results94,go_sem,d0,d1,d2,d3,d4,d5,d6,d7];try rfl) rfl ?_
     exact ⟨_,HPP.out,rxn_post H3.out.only HA3.out HG.out H3.out.cell.lt (H3.out.kids.mono fun b hb => hb.1)⟩
   ·have hqe : q = s.size := by have := HQ.out;omega
    have HPK := Lib.hid (peekX_end g s q o wr HA.out hqe)
    have hce : ch s q = -1 := ch_end (by omega)
    have HPP := Lib.hid (HIN.out _ (P.pieceEnd (t := .node op f mn mx kids) (by rw [hce];decide) (by rw [hce];decide)))
    clear hqe hce hlt hq
    go_wp2_with fail
    refine (HPK.out).mono ?_
    rintro e9 w3 ⟨rfl,hb⟩
    have HA3 := Lib.hid (HA.out.below hb);have H3 := Lib.hid (HH.out.below HGL.out HB3.out hb)
    clear hb HPK HA HH
    have k0 : (w3).cell? ⟨w2.heap.size,0,none⟩ = some (.int .i64 op) := (H3.out.node).cell 0 _ rfl
    have k1 : (w3).cell? ⟨w2.heap.size,1,none⟩ = some (.int .u64 ((wd f 0 : Nat) : Int)) := (H3.out.node).cell 1 _ rfl
    have k2 : (w3).cell? ⟨w2.heap.size,2,none⟩ = some (.int .u64 ((wd f 1 : Nat) : Int)) := (H3.out.node).cell 2 _ rfl
    have k3 : (w3).cell? ⟨w2.heap.size,3,none⟩ = some (.int .u64 ((wd f 2 : Nat) : Int)) := (H3.out.node).cell 3 _ rfl
    have k4 : (w3).cell? ⟨w2.heap.size,4,none⟩ = some (.int .u64 ((wd f 3 : Nat) : Int)) := (H3.out.node).cell 4 _ rfl
    have k5 : (w3).cell? ⟨w2.heap.size,5,none⟩ = some (.int .i64 mn) := (H3.out.node).cell 5 _ rfl
    have k6 : (w3).cell? ⟨w2.heap.size,6,none⟩ = some (.int .i64 mx) := (H3.out.node).cell 6 _ rfl
    have k7 : (w3).cell? ⟨w2.heap.size,7,none⟩ = some (.slice ka kids.length kc) := (H3.out.node).cell 7 _ rfl
    have hn1 : ¬ w2.heap.size = w.heap.size := by have := HB3.out;omega
    have hn2 : ¬ w.heap.size = w2.heap.size := by have := HB3.out;omega
    have d0 : w3.cell? ⟨w.heap.size,0,none⟩ = some (.int .i64 0) := (H3.out.cell).cell 0 _ rfl
    have d1 : w3.cell? ⟨w.heap.size,1,none⟩ = some (.int .u64 0) := (H3.out.cell).cell 1 _ rfl
    have d2 : w3.cell? ⟨w.heap.size,2,none⟩ = some (.int .u64 0) := (H3.out.cell).cell 2 _ rfl
    have d3 : w3.cell? ⟨w.heap.size,3,none⟩ = some (.int .u64 0) := (H3.out.cell).cell 3 _ rfl
    have d4 : w3.cell? ⟨w.heap.size,4,none⟩ = some (.int .u64 0) := (H3.out.cell).cell 4 _ rfl
    have d5 : w3.cell? ⟨w.heap.size,5,none⟩ = some (.int .i64 0) := (H3.out.cell).cell 5 _ rfl
    have d6 : w3.cell? ⟨w.heap.size,6,none⟩ = some (.int .i64 0) := (H3.out.cell).cell 6 _ rfl
    have d7 : w3.cell? ⟨w.heap.size,7,none⟩ = some (.slice none 0 0) := (H3.out.cell).cell 7 _ rfl
    have f0 := (H3.out.cell).frozen 0;have f1 := (H3.out.cell).frozen 1;have f2 := (H3.out.cell).frozen 2;have f3 := (H3.out.cell).frozen 3
    have f4 := (H3.out.cell).frozen 4;have f5 := (H3.out.cell).frozen 5;have f6 := (H3.out.cell).frozen 6;have f7 := (H3.out.cell).frozen 7
    go_wp2_with fail
    refine bodyPost_ret (v := nodeV (.node op f mn mx kids) (.slice ka kids.length kc)) (by unfold nodeV;simp [results,Tryz.results94,go_sem,d0,d1,d2,d3,d4,d5,d6,d7];try rfl) rfl ?_
    exact ⟨_,HPP.out,rxn_post H3.out.only HA3.out HG.out H3.out.cell.lt (H3.out.kids.mono fun b hb => hb.1)⟩
end Go.Proofs.YtgjcibhhffkemaaGreatDoor
